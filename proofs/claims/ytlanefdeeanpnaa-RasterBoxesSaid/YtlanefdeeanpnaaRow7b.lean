/-
  One more argument of layer 07's laws, opened: four ints. Conditions: none.
-/
import Derived.Test.YtlanefdeeanpnaaRow7
namespace Go.Proofs.Ytlanefdeeanpnaa
open Go.ChangeShapes Go.WideShapes Go.ChangeAt Go.RowKit Go.Joins Go.Deep
set_option linter.unusedVariables false
set_option linter.unusedSimpArgs false
set_option maxRecDepth 100000

section
variable {H : Type} {enc : TypeId × Value → H} {W : World} {r : Reach} {b0 : Nat} {v : Value} {d : DataW H} {p : List MemPlace}
theorem open_ints4 (hv : Value.okWide Try.prog W r b0 99 v) (h : DataW.Trod enc Try.prog W 0 (fun _ => true) true 99 v d p) :
    ∃ (a b c e : Int), v = .agg #[.int .i64 a, .int .i64 b, .int .i64 c, .int .i64 e] := by
  obtain ⟨cs, m, rfl, hl, hg⟩ := open_arr (n := 4) (e := 3) Try.underlying99 (by kernel_rfl) (by kernel_rfl) hv h
  match cs, hl, hg with
  | [x, y, z, u], _, hg =>
    obtain ⟨y0, h0⟩ := hg 0 (by simp)
    obtain ⟨y1, h1⟩ := hg 1 (by simp)
    obtain ⟨y2, h2⟩ := hg 2 (by simp)
    obtain ⟨y3, h3⟩ := hg 3 (by simp)
    obtain ⟨a, e1, _⟩ := open_field_int Try.underlying3 h0
    obtain ⟨b, e2, _⟩ := open_field_int Try.underlying3 h1
    obtain ⟨c, e3, _⟩ := open_field_int Try.underlying3 h2
    obtain ⟨e, e4, _⟩ := open_field_int Try.underlying3 h3
    have e1' : x = .int .i64 a := e1
    have e2' : y = .int .i64 b := e2
    have e3' : z = .int .i64 c := e3
    have e4' : u = .int .i64 e := e4
    exact ⟨a, b, c, e, by rw [e1', e2', e3', e4']⟩
end
end Go.Proofs.Ytlanefdeeanpnaa
