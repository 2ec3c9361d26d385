/-
  The arguments of layer 07's laws, opened: slices of slices of ints, slices of points, slices of polygons, three ints. Conditions: none.
-/
import Derived.Test.YtlanefdeeanpnaaRow37
import Derived.Test.YtlanefdeeanpnaaCut7
import Derived.Deep.Slices
import Derived.Deep.Strs
namespace Go.Proofs.Ytlanefdeeanpnaa
open Go.ChangeShapes Go.WideShapes Go.ChangeAt Go.RowKit Go.Joins Go.Deep
set_option linter.unusedVariables false
set_option linter.unusedSimpArgs false
set_option maxRecDepth 100000

section
variable {H : Type} {enc : TypeId × Value → H} {W : World} {r : Reach} {b0 : Nat} {v : Value} {d : DataW H} {p : List MemPlace} {x : DataW H × List MemPlace} {fuel : Nat}
theorem cells_ints : Try.prog.cellsOf 22 = 1 := by kernel_rfl
theorem cells_point : Try.prog.cellsOf 134 = 3 := by kernel_rfl
theorem cells_points : Try.prog.cellsOf 96 = 1 := by kernel_rfl
theorem open_ints3 (hv : Value.okWide Try.prog W r b0 79 v) (h : DataW.Trod enc Try.prog W 0 (fun _ => true) true 79 v d p) :
    ∃ (a b c : Int), v = .agg #[.int .i64 a, .int .i64 b, .int .i64 c] ∧ (-9223372036854775808 ≤ a ∧ a ≤ 9223372036854775807) ∧ (-9223372036854775808 ≤ b ∧ b ≤ 9223372036854775807) ∧ (-9223372036854775808 ≤ c ∧ c ≤ 9223372036854775807) := by
  obtain ⟨cs, m, rfl, hl, hg⟩ := open_arr (n := 3) (e := 3) Try.underlying79 (by kernel_rfl) (by kernel_rfl) hv h
  match cs, hl, hg with
  | [x, y, z], _, hg =>
    obtain ⟨y0, h0⟩ := hg 0 (by simp)
    obtain ⟨y1, h1⟩ := hg 1 (by simp)
    obtain ⟨y2, h2⟩ := hg 2 (by simp)
    obtain ⟨a, e1, w1⟩ := open_field_int Try.underlying3 h0
    obtain ⟨b, e2, w2⟩ := open_field_int Try.underlying3 h1
    obtain ⟨c, e3, w3⟩ := open_field_int Try.underlying3 h2
    have e1' : x = .int .i64 a := e1
    have e2' : y = .int .i64 b := e2
    have e3' : z = .int .i64 c := e3
    refine ⟨a, b, c, by rw [e1', e2', e3'], ?_, ?_, ?_⟩
    · simpa [Lit.wf, IntKind.min, IntKind.max, IntKind.signed, IntKind.bits] using w1
    · simpa [Lit.wf, IntKind.min, IntKind.max, IntKind.signed, IntKind.bits] using w2
    · simpa [Lit.wf, IntKind.min, IntKind.max, IntKind.signed, IntKind.bits] using w3
/-- A slice of points, opened. -/
theorem open_rd_pts {held : Bool} (h : DataW.trod enc Try.prog W 0 (fun _ => true) held fuel 96 [v] = some x) :
    ∃ (A : Option Addr) (L : List Pt) (c : Nat), v = .slice A L.length c ∧ RdPt W W.heap.size A L ∧ L.length ≤ c ∧ c ≤ 9223372036854775807 ∧ (A = none → L.length = 0 ∧ c = 0) := by
  rcases open_slice Try.underlying96 h with ⟨h0, _⟩ | ⟨a, len, cap, m, n, D, Pl, h0, _, hl, hm, hmm, _, hx⟩
  · injection h0 with h0 _
    exact ⟨none, [], 0, h0, RdPt.nil, Nat.le_refl _, Nat.zero_le _, fun _ => ⟨rfl, rfl⟩⟩
  · injection h0 with h0 _
    simp only [if_true] at hmm
    subst hmm
    obtain ⟨F, hF⟩ := choose_lt (α := Pt) (n := m) (p := fun i y => W.cell? (a.add (i * 3)) = some (.int .i64 y.1) ∧ W.cell? ((a.add (i * 3)).add 1) = some (.int .i64 y.2.1) ∧ W.cell? ((a.add (i * 3)).add 2) = some (.bool y.2.2)) (fun i hi => by
      obtain ⟨cs', h1, h2⟩ := hx i hi
      rw [cells_point] at h1
      obtain ⟨_, hlen, hc⟩ := World.cells?_some h1
      obtain ⟨y0, y1, y2, k, _, _, g0, g1, g2⟩ := trod_struct3 Try.underlying134 h2
      match cs', hlen, hc with
      | [c0, c1, c2], _, hc =>
        simp only [cells_int, cells_bool, List.drop_zero, List.drop_succ_cons, List.take_succ_cons, List.take_zero] at g0 g1 g2
        obtain ⟨u0, e0, _⟩ := open_field_int Try.underlying3 g0
        obtain ⟨u1, e1, _⟩ := open_field_int Try.underlying3 g1
        obtain ⟨u2, e2, _⟩ := DataW.trod_bool Try.underlying4 g2
        injection e2 with e2 _
        subst e0 e1 e2
        exact ⟨(u0, u1, u2), by simpa [Addr.add] using hc 0 (by omega), hc 1 (by omega), hc 2 (by omega)⟩)
    refine ⟨some a, (List.range len).map F, m, by rw [h0, List.length_map, List.length_range], ?_, by rw [List.length_map, List.length_range]; exact hl, by unfold maxLen at hm; omega, fun h => by cases h⟩
    intro h1
    rw [List.length_map, List.length_range] at h1
    obtain ⟨b, off, spot⟩ := a
    have hspot : spot = none := by simpa [Addr.add] using World.cell?_spot (hF 0 (by omega)).1
    subst hspot
    refine ⟨b, off, rfl, World.block_lt_of_cell? W ⟨b, off + 0 * 3, none⟩ (by have := (hF 0 (by omega)).1; rwa [Go.WideShapes.add_plain] at this), fun k hk => ?_⟩
    rw [List.length_map, List.length_range] at hk
    obtain ⟨f0, f1, f2⟩ := hF k (by omega)
    rw [Go.WideShapes.add_plain] at f0 f1 f2
    rw [Go.WideShapes.add_plain] at f1 f2
    simp only [List.getElem_map, List.getElem_range]
    exact ⟨f0, f1, f2⟩
theorem open_iss (hv : Value.okWide Try.prog W r b0 77 v) (h : DataW.Trod enc Try.prog W 0 (fun _ => true) true 77 v d p) :
    ∃ (A : Option Addr) (c : Nat) (ls : List (List Int)), v = .slice A ls.length c ∧ ls.length ≤ 9223372036854775807 ∧ (∀ l ∈ ls, l.length ≤ 9223372036854775807) ∧ RdIs W W.heap.size A ls := by
  obtain ⟨A0, n0, c0, rfl⟩ := okWide_slice Try.underlying77 hv
  obtain ⟨fuel, hf⟩ := h
  have hf' : DataW.trod enc Try.prog W 0 (fun _ => true) true fuel 77 [.slice A0 n0 c0] = some (d, p) := hf
  rcases open_slice1 Try.underlying77 cells_ints hf' with ⟨h0, _⟩ | ⟨a, len, cap, m, n, V, D, Pl, h0, _, hl, hm, hmm, _, hx⟩
  · injection h0 with h0 _
    exact ⟨none, 0, [], h0, Nat.zero_le _, fun l hl => absurd hl (by simp), fun h => absurd h (by simp)⟩
  · injection h0 with h0 _
    simp only [if_true] at hmm
    subst hmm
    obtain ⟨F, hF⟩ := choose_lt (α := List Int) (n := m) (p := fun i L => W.cell? (a.add i) = some (V i) ∧ ∃ (A : Option Addr) (c : Nat), V i = .slice A L.length c ∧ Rd (Value.int .i64) W W.heap.size A L ∧ L.length ≤ 9223372036854775807) (fun i hi => by
      obtain ⟨h1, h2⟩ := hx i hi
      obtain ⟨A, L, c, e1, r1, l1, m1, _⟩ := open_rd_ints Try.underlying22 Try.underlying3 cells_int h2
      unfold maxLen at m1
      exact ⟨L, h1, A, c, e1, r1, by omega⟩)
    unfold maxLen at hm
    refine ⟨some a, m, (List.range len).map F, by rw [h0, List.length_map, List.length_range], by rw [List.length_map, List.length_range]; omega, fun l hl' => ?_, ?_⟩
    · obtain ⟨i, hi, rfl⟩ := List.mem_map.1 hl'
      obtain ⟨_, A, c, _, _, hle⟩ := hF i (by have := List.mem_range.1 hi; omega)
      exact hle
    intro h1
    rw [List.length_map, List.length_range] at h1
    obtain ⟨b, off, spot⟩ := a
    have hspot : spot = none := by simpa [Addr.add] using World.cell?_spot (hF 0 (by omega)).1
    subst hspot
    refine ⟨b, off, rfl, World.block_lt_of_cell? W ⟨b, off + 0, none⟩ (by have := (hF 0 (by omega)).1; rwa [Go.WideShapes.add_plain] at this), fun k hk => ?_⟩
    rw [List.length_map, List.length_range] at hk
    obtain ⟨f0, A, c, e1, r1, _⟩ := hF k (by omega)
    rw [Go.WideShapes.add_plain, e1] at f0
    simp only [List.getElem_map, List.getElem_range]
    exact ⟨A, c, f0, r1⟩
theorem open_pss (hv : Value.okWide Try.prog W r b0 78 v) (h : DataW.Trod enc Try.prog W 0 (fun _ => true) true 78 v d p) :
    ∃ (A : Option Addr) (c : Nat) (ls : List (List Pt)), v = .slice A ls.length c ∧ ls.length ≤ 9223372036854775807 ∧ RwPs W W.heap.size A ls := by
  obtain ⟨A0, n0, c0, rfl⟩ := okWide_slice Try.underlying78 hv
  obtain ⟨fuel, hf⟩ := h
  have hf' : DataW.trod enc Try.prog W 0 (fun _ => true) true fuel 78 [.slice A0 n0 c0] = some (d, p) := hf
  rcases open_slice1 Try.underlying78 cells_points hf' with ⟨h0, _⟩ | ⟨a, len, cap, m, n, V, D, Pl, h0, _, hl, hm, hmm, _, hx⟩
  · injection h0 with h0 _
    exact ⟨none, 0, [], h0, Nat.zero_le _, fun h => absurd h (by simp)⟩
  · injection h0 with h0 _
    simp only [if_true] at hmm
    subst hmm
    obtain ⟨F, hF⟩ := choose_lt (α := List Pt) (n := m) (p := fun i L => W.cell? (a.add i) = some (V i) ∧ ∃ (A : Option Addr) (c : Nat), V i = .slice A L.length c ∧ RdPt W W.heap.size A L ∧ L.length ≤ c ∧ c ≤ 9223372036854775807 ∧ (A = none → L.length = 0 ∧ c = 0)) (fun i hi => by
      obtain ⟨h1, h2⟩ := hx i hi
      obtain ⟨A, L, c, e1, r1⟩ := open_rd_pts h2
      exact ⟨L, h1, A, c, e1, r1⟩)
    unfold maxLen at hm
    refine ⟨some a, m, (List.range len).map F, by rw [h0, List.length_map, List.length_range], by rw [List.length_map, List.length_range]; omega, ?_⟩
    intro h1
    rw [List.length_map, List.length_range] at h1
    obtain ⟨b, off, spot⟩ := a
    have hspot : spot = none := by simpa [Addr.add] using World.cell?_spot (hF 0 (by omega)).1
    subst hspot
    refine ⟨b, off, rfl, World.block_lt_of_cell? W ⟨b, off + 0, none⟩ (by have := (hF 0 (by omega)).1; rwa [Go.WideShapes.add_plain] at this), fun k hk => ?_⟩
    rw [List.length_map, List.length_range] at hk
    obtain ⟨f0, A, c, e1, r1⟩ := hF k (by omega)
    rw [Go.WideShapes.add_plain, e1] at f0
    simp only [List.getElem_map, List.getElem_range]
    exact ⟨A, c, f0, r1⟩
end
end Go.Proofs.Ytlanefdeeanpnaa
