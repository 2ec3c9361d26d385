/-
  The arguments of layer 37's laws, opened: arrays of slices and of ints by value. Conditions: none.
-/
import Derived.Test.YtlanefdeeanpnaaRow21
namespace Go.Proofs.Ytlanefdeeanpnaa
open Go.ChangeShapes Go.WideShapes Go.ChangeAt Go.RowKit Go.Joins Go.Deep
set_option linter.unusedVariables false
set_option linter.unusedSimpArgs false
set_option maxRecDepth 100000

section
variable {H : Type} {enc : TypeId × Value → H} {P : Program} {w : World} {base : Nat} {spare : Nat → Bool} {held : Bool}
theorem okWide_array {W : World} {r : Reach} {b0 : Nat} {t e : TypeId} {n : Nat} {v : Value} (ht : P.underlying t = some (.array n e)) (h : Value.okWide P W r b0 t v) : ∃ cs, v = .agg cs ∧ cs.size = P.cellsOf t := by
  simp only [Value.okWide, ht] at h
  obtain ⟨cs, h1, h2, _⟩ := h
  exact ⟨cs, h1, h2⟩
/-- An array of one-cell elements, by value. -/
theorem open_arr {W : World} {r : Reach} {b0 : Nat} {t e : TypeId} {n : Nat} {v : Value} {d : DataW H} {p : List MemPlace} (ht : P.underlying t = some (.array n e)) (hc : P.cellsOf e = 1) (hC : P.cellsOf t = n)
    (hv : Value.okWide P W r b0 t v) (h : DataW.Trod enc P w base spare held t v d p) :
    ∃ (cs : List Value) (m : Nat), v = .agg cs.toArray ∧ cs.length = n ∧ ∀ i (hi : i < cs.length), ∃ y, DataW.trod enc P w base spare held m e [cs[i]] = some y := by
  obtain ⟨cs, rfl, hsz⟩ := okWide_array ht hv
  obtain ⟨l⟩ := cs
  have hl : l.length = n := hsz.trans hC
  obtain ⟨fuel, hf⟩ := h
  obtain ⟨xs, m, _, _, _, hlen, hg⟩ := DataW.trod_array ht hf
  refine ⟨l, m, rfl, hl, fun i hi => ?_⟩
  have h1 := hg i (by omega)
  rw [hc, Nat.mul_one] at h1
  have h2 : ((Value.agg l.toArray).cells.toList.drop i).take 1 = [l[i]] := by
    show (l.drop i).take 1 = [l[i]]
    rw [List.drop_eq_getElem_cons hi]
    rfl
  have h3 : xs[i]? = some (xs[i]'(by omega)) := List.getElem?_eq_getElem (by omega)
  rw [h3] at h1
  exact ⟨_, by rw [← h2]; exact h1⟩
end
section
variable {H : Type} {enc : TypeId × Value → H} {W : World} {r : Reach} {b0 : Nat} {v : Value} {d : DataW H} {p : List MemPlace}
theorem open_pair (hv : Value.okWide Try.prog W r b0 57 v) (h : DataW.Trod enc Try.prog W 0 (fun _ => true) true 57 v d p) :
    ∃ (L1 L2 : List Int) (A1 A2 : Option Addr) (c1 c2 : Nat), v = .agg #[.slice A1 L1.length c1, .slice A2 L2.length c2] ∧ L1.length ≤ 9223372036854775807 ∧ L2.length ≤ 9223372036854775807 ∧
      Rd (Value.int .i64) W W.heap.size A1 L1 ∧ Rd (Value.int .i64) W W.heap.size A2 L2 := by
  obtain ⟨cs, m, rfl, hl, hg⟩ := open_arr (n := 2) (e := 22) Try.underlying57 (by kernel_rfl) (by kernel_rfl) hv h
  match cs, hl, hg with
  | [x, y], _, hg =>
    obtain ⟨y0, h0⟩ := hg 0 (by simp)
    obtain ⟨y1, h1⟩ := hg 1 (by simp)
    obtain ⟨A1, L1, c1, e1, r1, l1, m1, _⟩ := open_rd_ints Try.underlying22 Try.underlying3 cells_int h0
    obtain ⟨A2, L2, c2, e2, r2, l2, m2, _⟩ := open_rd_ints Try.underlying22 Try.underlying3 cells_int h1
    unfold maxLen at m1 m2
    have e1' : x = .slice A1 L1.length c1 := e1
    have e2' : y = .slice A2 L2.length c2 := e2
    exact ⟨L1, L2, A1, A2, c1, c2, by rw [e1', e2'], by omega, by omega, r1, r2⟩
theorem open_ints2 (hv : Value.okWide Try.prog W r b0 62 v) (h : DataW.Trod enc Try.prog W 0 (fun _ => true) true 62 v d p) :
    ∃ (a b : Int), v = .agg #[.int .i64 a, .int .i64 b] ∧ (-9223372036854775808 ≤ a ∧ a ≤ 9223372036854775807) ∧ (-9223372036854775808 ≤ b ∧ b ≤ 9223372036854775807) := by
  obtain ⟨cs, m, rfl, hl, hg⟩ := open_arr (n := 2) (e := 3) Try.underlying62 (by kernel_rfl) (by kernel_rfl) hv h
  match cs, hl, hg with
  | [x, y], _, hg =>
    obtain ⟨y0, h0⟩ := hg 0 (by simp)
    obtain ⟨y1, h1⟩ := hg 1 (by simp)
    obtain ⟨a, e1, w1⟩ := open_field_int Try.underlying3 h0
    obtain ⟨b, e2, w2⟩ := open_field_int Try.underlying3 h1
    have e1' : x = .int .i64 a := e1
    have e2' : y = .int .i64 b := e2
    refine ⟨a, b, by rw [e1', e2'], ?_, ?_⟩
    · simpa [Lit.wf, IntKind.min, IntKind.max, IntKind.signed, IntKind.bits] using w1
    · simpa [Lit.wf, IntKind.min, IntKind.max, IntKind.signed, IntKind.bits] using w2
theorem cells_head : Try.prog.cellsOf 59 = 1 := by kernel_rfl
theorem cells_bitmap : Try.prog.cellsOf 29 = 3 := by kernel_rfl
theorem cells_raw : Try.prog.cellsOf 61 = 4 := by kernel_rfl
theorem cells_bools : Try.prog.cellsOf 27 = 1 := by kernel_rfl
theorem open_raw (hv : Value.okWide Try.prog W r b0 61 v) (h : DataW.Trod enc Try.prog W 0 (fun _ => true) true 61 v d p) :
    ∃ (AH : Option Addr) (DH : List Bool) (ch : Nat) (w h : Int) (A : Option Addr) (D : List Bool) (c : Nat), v = .agg #[.slice AH DH.length ch, .int .i64 w, .int .i64 h, .slice A D.length c] ∧
      DH.length ≤ ch ∧ ch ≤ 9223372036854775807 ∧ (AH = none → DH.length = 0 ∧ ch = 0) ∧ D.length ≤ c ∧ c ≤ 9223372036854775807 ∧ (A = none → D.length = 0 ∧ c = 0) ∧ Rd Value.bool W W.heap.size AH DH ∧ Rd Value.bool W W.heap.size A D := by
  obtain ⟨cs, rfl, hsz⟩ := okWide_struct Try.underlying61 hv
  obtain ⟨l⟩ := cs
  have hl : l.length = 4 := hsz.trans cells_raw
  obtain ⟨fuel, hf⟩ := h
  obtain ⟨ys, n, _, _, _, hlen, hg⟩ := DataW.trod_struct Try.underlying61 hf
  match l, hl, ys, hlen with
  | [x0, x1, x2, x3], _, [y0, y1], _ =>
    have g0 := hg 0 _ rfl
    have g1 := hg 1 _ rfl
    simp only [Value.cells, cells_head, cells_bitmap, List.drop_zero, List.drop_succ_cons, List.take_succ_cons, List.take_zero, List.getElem?_cons_zero, List.getElem?_cons_succ] at g0 g1
    obtain ⟨zs, n2, _, _, _, hlen2, hg2⟩ := DataW.trod_struct Try.underlying59 g0
    obtain ⟨us, n3, _, _, _, hlen3, hg3⟩ := DataW.trod_struct Try.underlying29 g1
    match zs, hlen2, us, hlen3 with
    | [z0], _, [u0, u1, u2], _ =>
      have k0 := hg2 0 _ rfl
      have k1 := hg3 0 _ rfl
      have k2 := hg3 1 _ rfl
      have k3 := hg3 2 _ rfl
      simp only [cells_bools, cells_int, List.drop_zero, List.drop_succ_cons, List.take_succ_cons, List.take_zero, List.getElem?_cons_zero, List.getElem?_cons_succ] at k0 k1 k2 k3
      obtain ⟨AH, DH, ch, e0, rh, lh, mh, hAH⟩ := open_rd_bools Try.underlying27 Try.underlying4 cells_bool k0
      obtain ⟨a, e1, _⟩ := open_field_int Try.underlying3 k1
      obtain ⟨b, e2, _⟩ := open_field_int Try.underlying3 k2
      obtain ⟨A, D, c, e3, r1, l1, m1, hA⟩ := open_rd_bools Try.underlying27 Try.underlying4 cells_bool k3
      subst e0 e1 e2 e3
      unfold maxLen at m1 mh
      exact ⟨AH, DH, ch, a, b, A, D, c, rfl, lh, by omega, hAH, l1, by omega, hA, rh, r1⟩
end
end Go.Proofs.Ytlanefdeeanpnaa
