/-
  The statement RasterBoxes: of a rectangle, Cover and Dots count its samples, for all arguments. Conditions: none.
-/
import Derived.Test.YtlanefdeeanpnaaRow7b
import Derived.Test.YtlanefdeeanpnaaBoxes
namespace Go.Proofs.Ytlanefdeeanpnaa
open Go.ChangeShapes Go.WideShapes Go.ChangeAt Go.RowKit Go.Joins Go.Deep
set_option linter.unusedVariables false
set_option linter.unusedSimpArgs false

set_option maxRecDepth 100000 in
theorem boxes_lifted (os : Os) (started : os.Started) (H : Type) (enc : TypeId × Value → H) :
    ReturnsInHanded {} Try.checked os 18 .any (Rows.rasterBoxesSpec.pre6 enc Try.prog Try.f18 Rows.rasterBoxesRow.domain false) (Rows.rasterBoxesSpec.post enc Try.prog Try.f18 false true false false) := by
  refine returnsInHanded_of_change (C := Try.checked) own_none started (by kernel_rfl) Try.func18
    (ChangeSpec.witness6 (enc := enc) (C := Try.checked) false ⟨#[], #[.agg #[.int .i64 0, .int .i64 0, .int .i64 0, .int .i64 0], .int .i64 0, .slice none 0 0], []⟩ 8 (by kernel_rfl) (by kernel_rfl) (by kernel_rfl) (by kernel_rfl)) ?_
  intro W base args ds gs before hval0 hW hcnd _
  have hval : ∀ (j : Nat) t v, Try.f18.params[j]? = some t → args[j]? = some v → Value.okWide Try.prog W .any base t v := hval0
  have hWk := hW
  obtain ⟨p, q, hA0, hV, _, _, _⟩ := hW
  have hA : DataW.TrodAll enc Try.prog W 0 (fun _ => true) true Try.f18.params.toList args.toList ds p := hA0
  rw [Try.params18] at hA hval
  obtain ⟨v0, v1, v2, d0, d1, d2, p0, p1, p2, rfl, rfl, _, h0, h1, h2⟩ := trodAll_three hA
  obtain ⟨rfl, _⟩ := trodVars_none hV
  obtain ⟨qa, qb, qc, qd, rfl⟩ := open_ints4 (hval 0 _ v0 rfl rfl) h0
  obtain ⟨k, rfl, k1, k2⟩ := open_int_arg (hval 1 _ v1 rfl rfl) h1
  obtain ⟨A1, c1, ls1, rfl, n1, nn1, r1⟩ := open_iss (hval 2 _ v2 rfl rfl) h2
  refine (boxes_law qa qb qc qd k ls1 A1 c1 W nn1 n1 r1).mono fun e W' ⟨he, hw⟩ => ?_
  subst he
  exact ⟨_, rfl, law_end laid_out (by rw [Try.params18]; intro t ht; simp at ht; rcases ht with rfl | rfl | rfl; all_goals exact ⟨by kernel_rfl, of_decide_eq_true (by kernel_rfl)⟩) rfl rfl rfl rfl rfl (by kernel_rfl) Try.underlying4 hWk hw⟩

theorem rasterBoxes_holds : Rows.RasterBoxesSaid :=
  OpenClaim.holds_of_wide 18 Try.f18 rfl rfl rfl rfl rfl rfl rfl ⟨rfl, rfl, rfl, rfl, rfl⟩ rfl rfl rfl rfl rfl (by kernel_rfl) Try.func18 (by kernel_rfl)
    (of_decide_eq_true (by kernel_rfl)) (by unfold Func.isWrapper; first | (rw [if_pos (by decide +kernel)]; kernel_rfl) | (rw [if_neg (by decide +kernel)]; exact ⟨rfl, rfl⟩))
    (fun os started H enc _ => boxes_lifted os started H enc)
end Go.Proofs.Ytlanefdeeanpnaa
