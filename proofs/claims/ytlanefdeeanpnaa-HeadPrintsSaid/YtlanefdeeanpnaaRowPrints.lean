/-
  The statement HeadPrints: Check, Offset and Print return what the reference returns, for all arguments. Conditions: none.
-/
import Derived.Test.YtlanefdeeanpnaaRow37
import Derived.Test.YtlanefdeeanpnaaPrints
namespace Go.Proofs.Ytlanefdeeanpnaa
open Go.ChangeShapes Go.WideShapes Go.ChangeAt Go.RowKit Go.Joins Go.Deep
set_option linter.unusedVariables false
set_option linter.unusedSimpArgs false

set_option maxRecDepth 100000 in
theorem prints_lifted (os : Os) (started : os.Started) (H : Type) (enc : TypeId × Value → H) :
    ReturnsInHanded {} Try.checked os 9 .any (Rows.headPrintsSpec.pre6 enc Try.prog Try.f9 Rows.headPrintsRow.domain false) (Rows.headPrintsSpec.post enc Try.prog Try.f9 false true false false) := by
  refine returnsInHanded_of_change (C := Try.checked) own_none started (by kernel_rfl) Try.func9
    (ChangeSpec.witness6 (enc := enc) (C := Try.checked) false ⟨#[], #[.agg #[.slice none 0 0, .slice none 0 0], .agg #[.slice none 0 0, .int .i64 0, .int .i64 0, .slice none 0 0], .agg #[.int .i64 0, .int .i64 0]], []⟩ 8 (by kernel_rfl) (by kernel_rfl) (by kernel_rfl) (by kernel_rfl)) ?_
  intro W base args ds gs before hval0 hW hcnd _
  have hval : ∀ (j : Nat) t v, Try.f9.params[j]? = some t → args[j]? = some v → Value.okWide Try.prog W .any base t v := hval0
  have hWk := hW
  obtain ⟨p, q, hA0, hV, _, _, _⟩ := hW
  have hA : DataW.TrodAll enc Try.prog W 0 (fun _ => true) true Try.f9.params.toList args.toList ds p := hA0
  rw [Try.params9] at hA hval
  obtain ⟨v0, v1, v2, d0, d1, d2, p0, p1, p2, rfl, rfl, _, h0, h1, h2⟩ := trodAll_three hA
  obtain ⟨rfl, _⟩ := trodVars_none hV
  obtain ⟨L1, L2, A1, A2, c1, c2, rfl, n1, n2, r1, r2⟩ := open_pair (hval 0 _ v0 rfl rfl) h0
  obtain ⟨AH, DH, ch, W0, H0, A0, D0, c0, rfl, lh, mh, hAH, l0, m0, hAz, rh, rd⟩ := open_raw (hval 1 _ v1 rfl rfl) h1
  obtain ⟨qa, qb, rfl, qh1, qh2⟩ := open_ints2 (hval 2 _ v2 rfl rfl) h2
  refine (prints_law L1 L2 A1 A2 c1 c2 AH DH ch W0 H0 A0 D0 c0 qa qb W n1 n2 lh mh hAH l0 m0 hAz qh1 qh2 r1 r2 rh rd).mono fun e W' ⟨he, hw⟩ => ?_
  subst he
  exact ⟨_, rfl, law_end laid_out (by rw [Try.params9]; intro t ht; simp at ht; rcases ht with rfl | rfl | rfl; all_goals exact ⟨by kernel_rfl, of_decide_eq_true (by kernel_rfl)⟩) rfl rfl rfl rfl rfl (by kernel_rfl) Try.underlying4 hWk hw⟩

theorem headPrints_holds : Rows.HeadPrintsSaid :=
  OpenClaim.holds_of_wide 9 Try.f9 rfl rfl rfl rfl rfl rfl rfl ⟨rfl, rfl, rfl, rfl, rfl⟩ rfl rfl rfl rfl rfl (by kernel_rfl) Try.func9 (by kernel_rfl)
    (of_decide_eq_true (by kernel_rfl)) (by unfold Func.isWrapper; first | (rw [if_pos (by decide +kernel)]; kernel_rfl) | (rw [if_neg (by decide +kernel)]; exact ⟨rfl, rfl⟩))
    (fun os started H enc _ => prints_lifted os started H enc)
end Go.Proofs.Ytlanefdeeanpnaa
