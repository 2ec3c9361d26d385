/-
  The arguments of layer 21's laws, opened: a case, a kind of reader, a bitmap. Conditions: none.
-/
import Derived.Test.YtlanefdeeanpnaaShut
namespace Go.Proofs.Ytlanefdeeanpnaa
open Go.ChangeShapes Go.WideShapes Go.ChangeAt Go.RowKit Go.Joins Go.Deep
set_option linter.unusedVariables false
set_option linter.unusedSimpArgs false
set_option maxRecDepth 100000

section
variable {H : Type} {enc : TypeId × Value → H} {P : Program} {w : World} {base : Nat} {spare : Nat → Bool} {held : Bool}
/-- A struct of five one-cell fields, by value. -/
theorem open_five {r : Reach} {b0 : Nat} {t : TypeId} {f0 f1 f2 f3 f4 : Field} {v : Value} {d : DataW H} {p : List MemPlace} (hs : P.underlying t = some (.struct #[f0, f1, f2, f3, f4])) (hone : oneCellFields P #[f0, f1, f2, f3, f4] = true) (hC : P.cellsOf t = 5)
    (hv : Value.okWide P w r b0 t v) (h : DataW.Trod enc P w base spare held t v d p) :
    ∃ (v0 v1 v2 v3 v4 : Value) (y0 y1 y2 y3 y4 : DataW H × List MemPlace) (n : Nat), v = .agg #[v0, v1, v2, v3, v4] ∧
      DataW.trod enc P w base spare held n f0.type [v0] = some y0 ∧ DataW.trod enc P w base spare held n f1.type [v1] = some y1 ∧ DataW.trod enc P w base spare held n f2.type [v2] = some y2 ∧ DataW.trod enc P w base spare held n f3.type [v3] = some y3 ∧ DataW.trod enc P w base spare held n f4.type [v4] = some y4 := by
  obtain ⟨cs, rfl, hsz⟩ := okWide_struct hs hv
  obtain ⟨l⟩ := cs
  have hl : l.length = 5 := hsz.trans hC
  obtain ⟨fuel, hf⟩ := h
  obtain ⟨ys, n, _, _, _, hlen, hg⟩ := DataW.trod_struct hs hf
  have o := hone_of hone
  match l, hl, ys, hlen with
  | [c0, c1, c2, c3, c4], _, [y0, y1, y2, y3, y4], _ =>
    obtain ⟨o0, k0⟩ := o 0 f0 rfl
    obtain ⟨o1, k1⟩ := o 1 f1 rfl
    obtain ⟨o2, k2⟩ := o 2 f2 rfl
    obtain ⟨o3, k3⟩ := o 3 f3 rfl
    obtain ⟨o4, k4⟩ := o 4 f4 rfl
    refine ⟨c0, c1, c2, c3, c4, y0, y1, y2, y3, y4, n, rfl, ?_, ?_, ?_, ?_, ?_⟩
    · simpa [Value.cells, o0, k0] using hg 0 f0 rfl
    · simpa [Value.cells, o1, k1] using hg 1 f1 rfl
    · simpa [Value.cells, o2, k2] using hg 2 f2 rfl
    · simpa [Value.cells, o3, k3] using hg 3 f3 rfl
    · simpa [Value.cells, o4, k4] using hg 4 f4 rfl
end

section
variable {H : Type} {enc : TypeId × Value → H} {W : World} {r : Reach} {b0 : Nat} {v : Value} {d : DataW H} {p : List MemPlace}
theorem open_case (hv : Value.okWide Try.prog W r b0 24 v) (h : DataW.Trod enc Try.prog W 0 (fun _ => true) true 24 v d p) :
    ∃ (L1 L2 : List Int) (A1 A2 : Option Addr) (c1 c2 : Nat) (a b k : Int), v = .agg #[.slice A1 L1.length c1, .slice A2 L2.length c2, .int .i64 a, .int .i64 b, .int .i64 k] ∧ L1.length ≤ 9223372036854775807 ∧ L2.length ≤ 9223372036854775807 ∧
      Rd (Value.int .i64) W W.heap.size A1 L1 ∧ Rd (Value.int .i64) W W.heap.size A2 L2 := by
  obtain ⟨v0, v1, v2, v3, v4, y0, y1, y2, y3, y4, n, rfl, h0, h1, h2, h3, h4⟩ := open_five Try.underlying24 (by kernel_rfl) (by kernel_rfl) hv h
  obtain ⟨A1, L1, c1, rfl, r1, l1, m1, _⟩ := open_rd_ints Try.underlying22 Try.underlying3 cells_int h0
  obtain ⟨A2, L2, c2, rfl, r2, l2, m2, _⟩ := open_rd_ints Try.underlying22 Try.underlying3 cells_int h1
  obtain ⟨a, rfl, _⟩ := open_field_int Try.underlying3 h2
  obtain ⟨b, rfl, _⟩ := open_field_int Try.underlying3 h3
  obtain ⟨k, rfl, _⟩ := open_field_int Try.underlying3 h4
  unfold maxLen at m1 m2
  exact ⟨L1, L2, A1, A2, c1, c2, a, b, k, rfl, by omega, by omega, r1, r2⟩
theorem open_reader (hv : Value.okWide Try.prog W r b0 26 v) (h : DataW.Trod enc Try.prog W 0 (fun _ => true) true 26 v d p) : ∃ (B S : Int), v = .agg #[.int .i64 B, .int .i64 S] := by
  obtain ⟨v0, v1, y0, y1, n, rfl, _, _, h0, h1⟩ := open_agg2 Try.underlying26 (by kernel_rfl) (by kernel_rfl) hv h
  obtain ⟨a, rfl, _⟩ := open_field_int Try.underlying3 h0
  obtain ⟨b, rfl, _⟩ := open_field_int Try.underlying3 h1
  exact ⟨a, b, rfl⟩
theorem open_bitmap (hv : Value.okWide Try.prog W r b0 29 v) (h : DataW.Trod enc Try.prog W 0 (fun _ => true) true 29 v d p) :
    ∃ (w h : Int) (A : Option Addr) (c : Nat) (D : List Bool), v = .agg #[.int .i64 w, .int .i64 h, .slice A D.length c] ∧ D.length ≤ c ∧ c ≤ 9223372036854775807 ∧ Rd Value.bool W W.heap.size A D ∧ (A = none → D.length = 0 ∧ c = 0) := by
  obtain ⟨v0, v1, v2, y0, y1, y2, n, rfl, _, _, h0, h1, h2⟩ := open_agg3 Try.underlying29 (by kernel_rfl) (by kernel_rfl) hv h
  obtain ⟨a, rfl, _⟩ := open_field_int Try.underlying3 h0
  obtain ⟨b, rfl, _⟩ := open_field_int Try.underlying3 h1
  obtain ⟨A, D, c, rfl, r1, l1, m1, hA⟩ := open_rd_bools Try.underlying27 Try.underlying4 cells_bool h2
  unfold maxLen at m1
  exact ⟨a, b, A, c, D, rfl, l1, by omega, r1, hA⟩
theorem open_u16 (hv : Value.okWide Try.prog W r b0 50 v) (h : DataW.Trod enc Try.prog W 0 (fun _ => true) true 50 v d p) : ∃ u : Int, v = .int .u16 u ∧ 0 ≤ u ∧ u ≤ 65535 := by
  obtain ⟨u, rfl, _, _, wu⟩ := open_int Try.underlying50 hv h
  have hx : 0 ≤ u ∧ u ≤ 65535 := by simpa [Lit.wf, IntKind.min, IntKind.max, IntKind.signed, IntKind.bits] using wu
  exact ⟨u, rfl, hx.1, hx.2⟩
theorem open_int_arg (hv : Value.okWide Try.prog W r b0 3 v) (h : DataW.Trod enc Try.prog W 0 (fun _ => true) true 3 v d p) : ∃ u : Int, v = .int .i64 u ∧ -9223372036854775808 ≤ u ∧ u ≤ 9223372036854775807 := by
  obtain ⟨u, rfl, _, _, wu⟩ := open_int Try.underlying3 hv h
  have hx : -9223372036854775808 ≤ u ∧ u ≤ 9223372036854775807 := by simpa [Lit.wf, IntKind.min, IntKind.max, IntKind.signed, IntKind.bits] using wu
  exact ⟨u, rfl, hx.1, hx.2⟩
theorem open_ints_arg (hv : Value.okWide Try.prog W r b0 22 v) (h : DataW.Trod enc Try.prog W 0 (fun _ => true) true 22 v d p) :
    ∃ (A : Option Addr) (c : Nat) (L : List Int), v = .slice A L.length c ∧ L.length ≤ 9223372036854775807 ∧ Rd (Value.int .i64) W W.heap.size A L := by
  obtain ⟨A0, n0, c0, rfl⟩ := okWide_slice Try.underlying22 hv
  obtain ⟨fuel, hf⟩ := h
  obtain ⟨A, L, c, h1, r1, l1, m1, _⟩ := open_rd_ints Try.underlying22 Try.underlying3 cells_int (v := .slice A0 n0 c0) hf
  unfold maxLen at m1
  exact ⟨A, c, L, h1, by omega, r1⟩
end
end Go.Proofs.Ytlanefdeeanpnaa
