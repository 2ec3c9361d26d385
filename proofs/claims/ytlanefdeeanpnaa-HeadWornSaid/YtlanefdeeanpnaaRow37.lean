/-
  The arguments of layer 37's laws, opened: arrays of slices and of ints by value. Conditions: none.
-/
import Derived.Test.YtlanefdeeanpnaaRow21
namespace Go.Proofs.Ytlanefdeeanpnaa
open Go.ChangeShapes Go.WideShapes Go.ChangeAt Go.RowKit Go.Joins Go.Deep
set_option linter.unusedVariables false
set_option linter.unusedSimpArgs false
set_option maxRecDepth 100000

section
variable {H : Type} {enc : TypeId × Value → H} {P : Program} {w : World} {base : Nat} {spare : Nat → Bool} {held : Bool}
theorem okWide_array {W : World} {r : Reach} {b0 : Nat} {t e : TypeId} {n : Nat} {v : Value} (ht : P.underlying t = some (.array n e)) (h : Value.okWide P W r b0 t v) : ∃ cs, v = .agg cs ∧ cs.size = P.cellsOf t := by
  simp only [Value.okWide, ht] at h
  obtain ⟨cs, h1, h2, _⟩ := h
  exact ⟨cs, h1, h2⟩
/-- An array of one-cell elements, by value. -/
theorem open_arr {W : World} {r : Reach} {b0 : Nat} {t e : TypeId} {n : Nat} {v : Value} {d : DataW H} {p : List MemPlace} (ht : P.underlying t = some (.array n e)) (hc : P.cellsOf e = 1) (hC : P.cellsOf t = n)
    (hv : Value.okWide P W r b0 t v) (h : DataW.Trod enc P w base spare held t v d p) :
    ∃ (cs : List Value) (m : Nat), v = .agg cs.toArray ∧ cs.length = n ∧ ∀ i (hi : i < cs.length), ∃ y, DataW.trod enc P w base spare held m e [cs[i]] = some y := by
  obtain ⟨cs, rfl, hsz⟩ := okWide_array ht hv
  obtain ⟨l⟩ := cs
  have hl : l.length = n := hsz.trans hC
  obtain ⟨fuel, hf⟩ := h
  obtain ⟨xs, m, _, _, _, hlen, hg⟩ := DataW.trod_array ht hf
  refine ⟨l, m, rfl, hl, fun i hi => ?_⟩
  have h1 := hg i (by omega)
  rw [hc, Nat.mul_one] at h1
  have h2 : ((Value.agg l.toArray).cells.toList.drop i).take 1 = [l[i]] := by
    show (l.drop i).take 1 = [l[i]]
    rw [List.drop_eq_getElem_cons hi]
    rfl
  have h3 : xs[i]? = some (xs[i]'(by omega)) := List.getElem?_eq_getElem (by omega)
  rw [h3] at h1
  exact ⟨_, by rw [← h2]; exact h1⟩
end
section
variable {H : Type} {enc : TypeId × Value → H} {W : World} {r : Reach} {b0 : Nat} {v : Value} {d : DataW H} {p : List MemPlace}
theorem open_pair (hv : Value.okWide Try.prog W r b0 57 v) (h : DataW.Trod enc Try.prog W 0 (fun _ => true) true 57 v d p) :
    ∃ (L1 L2 : List Int) (A1 A2 : Option Addr) (c1 c2 : Nat), v = .agg #[.slice A1 L1.length c1, .slice A2 L2.length c2] ∧ L1.length ≤ 9223372036854775807 ∧ L2.length ≤ 9223372036854775807 ∧
      Rd (Value.int .i64) W W.heap.size A1 L1 ∧ Rd (Value.int .i64) W W.heap.size A2 L2 := by
  obtain ⟨cs, m, rfl, hl, hg⟩ := open_arr (n := 2) (e := 22) Try.underlying57 (by kernel_rfl) (by kernel_rfl) hv h
  match cs, hl, hg with
  | [x, y], _, hg =>
    obtain ⟨y0, h0⟩ := hg 0 (by simp)
    obtain ⟨y1, h1⟩ := hg 1 (by simp)
    obtain ⟨A1, L1, c1, e1, r1, l1, m1, _⟩ := open_rd_ints Try.underlying22 Try.underlying3 cells_int h0
    obtain ⟨A2, L2, c2, e2, r2, l2, m2, _⟩ := open_rd_ints Try.underlying22 Try.underlying3 cells_int h1
    unfold maxLen at m1 m2
    have e1' : x = .slice A1 L1.length c1 := e1
    have e2' : y = .slice A2 L2.length c2 := e2
    exact ⟨L1, L2, A1, A2, c1, c2, by rw [e1', e2'], by omega, by omega, r1, r2⟩
theorem open_ints2 (hv : Value.okWide Try.prog W r b0 62 v) (h : DataW.Trod enc Try.prog W 0 (fun _ => true) true 62 v d p) :
    ∃ (a b : Int), v = .agg #[.int .i64 a, .int .i64 b] ∧ (-9223372036854775808 ≤ a ∧ a ≤ 9223372036854775807) ∧ (-9223372036854775808 ≤ b ∧ b ≤ 9223372036854775807) := by
  obtain ⟨cs, m, rfl, hl, hg⟩ := open_arr (n := 2) (e := 3) Try.underlying62 (by kernel_rfl) (by kernel_rfl) hv h
  match cs, hl, hg with
  | [x, y], _, hg =>
    obtain ⟨y0, h0⟩ := hg 0 (by simp)
    obtain ⟨y1, h1⟩ := hg 1 (by simp)
    obtain ⟨a, e1, w1⟩ := open_field_int Try.underlying3 h0
    obtain ⟨b, e2, w2⟩ := open_field_int Try.underlying3 h1
    have e1' : x = .int .i64 a := e1
    have e2' : y = .int .i64 b := e2
    refine ⟨a, b, by rw [e1', e2'], ?_, ?_⟩
    · simpa [Lit.wf, IntKind.min, IntKind.max, IntKind.signed, IntKind.bits] using w1
    · simpa [Lit.wf, IntKind.min, IntKind.max, IntKind.signed, IntKind.bits] using w2
end
end Go.Proofs.Ytlanefdeeanpnaa
