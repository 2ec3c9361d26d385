/-
  The statement HeadParts: two parts of a bitmap are printed as the whole is, for all arguments. Conditions: none.
-/
import Derived.Test.YtlanefdeeanpnaaRow37
import Derived.Test.YtlanefdeeanpnaaParts
namespace Go.Proofs.Ytlanefdeeanpnaa
open Go.ChangeShapes Go.WideShapes Go.ChangeAt Go.RowKit Go.Joins Go.Deep
set_option linter.unusedVariables false
set_option linter.unusedSimpArgs false

set_option maxRecDepth 100000 in
theorem parts_lifted (os : Os) (started : os.Started) (H : Type) (enc : TypeId × Value → H) :
    ReturnsInHanded {} Try.checked os 12 .any (Rows.headPartsSpec.pre6 enc Try.prog Try.f12 Rows.headPartsRow.domain false) (Rows.headPartsSpec.post enc Try.prog Try.f12 false true false false) := by
  refine returnsInHanded_of_change (C := Try.checked) own_none started (by kernel_rfl) Try.func12
    (ChangeSpec.witness6 (enc := enc) (C := Try.checked) false ⟨#[], #[.agg #[.slice none 0 0, .slice none 0 0], .agg #[.int .i64 0, .int .i64 0]], []⟩ 8 (by kernel_rfl) (by kernel_rfl) (by kernel_rfl) (by kernel_rfl)) ?_
  intro W base args ds gs before hval0 hW hcnd _
  have hval : ∀ (j : Nat) t v, Try.f12.params[j]? = some t → args[j]? = some v → Value.okWide Try.prog W .any base t v := hval0
  have hWk := hW
  obtain ⟨p, q, hA0, hV, _, _, _⟩ := hW
  have hA : DataW.TrodAll enc Try.prog W 0 (fun _ => true) true Try.f12.params.toList args.toList ds p := hA0
  rw [Try.params12] at hA hval
  obtain ⟨v0, v1, d0, d1, p0, p1, rfl, rfl, _, h0, h1⟩ := trodAll_two hA
  obtain ⟨rfl, _⟩ := trodVars_none hV
  obtain ⟨L1, L2, A1, A2, c1, c2, rfl, n1, n2, r1, r2⟩ := open_pair (hval 0 _ v0 rfl rfl) h0
  obtain ⟨qa, qb, rfl, qh1, qh2⟩ := open_ints2 (hval 1 _ v1 rfl rfl) h1
  refine (parts_law L1 L2 A1 A2 c1 c2 qa qb W n1 n2 qh1 qh2 r1 r2).mono fun e W' ⟨he, hw⟩ => ?_
  subst he
  exact ⟨_, rfl, law_end laid_out (by rw [Try.params12]; intro t ht; simp at ht; rcases ht with rfl | rfl; all_goals exact ⟨by kernel_rfl, of_decide_eq_true (by kernel_rfl)⟩) rfl rfl rfl rfl rfl (by kernel_rfl) Try.underlying4 hWk hw⟩

theorem headParts_holds : Rows.HeadPartsSaid :=
  OpenClaim.holds_of_wide 12 Try.f12 rfl rfl rfl rfl rfl rfl rfl ⟨rfl, rfl, rfl, rfl, rfl⟩ rfl rfl rfl rfl rfl (by kernel_rfl) Try.func12 (by kernel_rfl)
    (of_decide_eq_true (by kernel_rfl)) (by unfold Func.isWrapper; first | (rw [if_pos (by decide +kernel)]; kernel_rfl) | (rw [if_neg (by decide +kernel)]; exact ⟨rfl, rfl⟩))
    (fun os started H enc _ => parts_lifted os started H enc)
end Go.Proofs.Ytlanefdeeanpnaa
