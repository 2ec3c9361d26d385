/-
  The statement HeadWorn: with a further dead nozzle the offset does not become less, and nothing more is printed, for all arguments. Conditions: none.
-/
import Derived.Test.YtlanefdeeanpnaaRow37
import Derived.Test.YtlanefdeeanpnaaWorn
namespace Go.Proofs.Ytlanefdeeanpnaa
open Go.ChangeShapes Go.WideShapes Go.ChangeAt Go.RowKit Go.Joins Go.Deep
set_option linter.unusedVariables false
set_option linter.unusedSimpArgs false

set_option maxRecDepth 100000 in
theorem worn_lifted (os : Os) (started : os.Started) (H : Type) (enc : TypeId × Value → H) :
    ReturnsInHanded {} Try.checked os 13 .any (Rows.headWornSpec.pre6 enc Try.prog Try.f13 Rows.headWornRow.domain false) (Rows.headWornSpec.post enc Try.prog Try.f13 false true false false) := by
  refine returnsInHanded_of_change (C := Try.checked) own_none started (by kernel_rfl) Try.func13
    (ChangeSpec.witness6 (enc := enc) (C := Try.checked) false ⟨#[], #[.agg #[.slice none 0 0, .slice none 0 0], .int .i64 0], []⟩ 8 (by kernel_rfl) (by kernel_rfl) (by kernel_rfl) (by kernel_rfl)) ?_
  intro W base args ds gs before hval0 hW hcnd _
  have hval : ∀ (j : Nat) t v, Try.f13.params[j]? = some t → args[j]? = some v → Value.okWide Try.prog W .any base t v := hval0
  have hWk := hW
  obtain ⟨p, q, hA0, hV, _, _, _⟩ := hW
  have hA : DataW.TrodAll enc Try.prog W 0 (fun _ => true) true Try.f13.params.toList args.toList ds p := hA0
  rw [Try.params13] at hA hval
  obtain ⟨v0, v1, d0, d1, p0, p1, rfl, rfl, _, h0, h1⟩ := trodAll_two hA
  obtain ⟨rfl, _⟩ := trodVars_none hV
  obtain ⟨L1, L2, A1, A2, c1, c2, rfl, n1, n2, r1, r2⟩ := open_pair (hval 0 _ v0 rfl rfl) h0
  obtain ⟨k, rfl, k1, k2⟩ := open_int_arg (hval 1 _ v1 rfl rfl) h1
  refine (worn_law L1 L2 A1 A2 c1 c2 k W n1 n2 k1 k2 r1 r2).mono fun e W' ⟨he, hw⟩ => ?_
  subst he
  exact ⟨_, rfl, law_end laid_out (by rw [Try.params13]; intro t ht; simp at ht; rcases ht with rfl | rfl; all_goals exact ⟨by kernel_rfl, of_decide_eq_true (by kernel_rfl)⟩) rfl rfl rfl rfl rfl (by kernel_rfl) Try.underlying4 hWk hw⟩

theorem headWorn_holds : Rows.HeadWornSaid :=
  OpenClaim.holds_of_wide 13 Try.f13 rfl rfl rfl rfl rfl rfl rfl ⟨rfl, rfl, rfl, rfl, rfl⟩ rfl rfl rfl rfl rfl (by kernel_rfl) Try.func13 (by kernel_rfl)
    (of_decide_eq_true (by kernel_rfl)) (by unfold Func.isWrapper; first | (rw [if_pos (by decide +kernel)]; kernel_rfl) | (rw [if_neg (by decide +kernel)]; exact ⟨rfl, rfl⟩))
    (fun os started H enc _ => worn_lifted os started H enc)
end Go.Proofs.Ytlanefdeeanpnaa
