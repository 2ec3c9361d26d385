/-
  Polygons in memory: a slice of slices of points, read below a block; and the smallest functions of layer 7: in, valid, over. Conditions: those that each contract names.
-/
import Derived.Test.YtlanefdeeanpnaaBase2
import Derived.Deep.DeepCutAuto
import Derived.Deep.DrawnRows
namespace Go.Proofs.Ytlanefdeeanpnaa
set_option linter.unusedVariables false
set_option linter.unusedSimpArgs false
open Go.RowKit
attribute [local go_sem ↓] Go.wp_at_zero Go.wp_at_succ

abbrev Pt := Int × Int × Bool
/-- A slice's address reads points, below block B. -/
def RdPt (w : World) (B : Nat) (A : Option Addr) (xs : List Pt) : Prop :=
  0 < xs.length → ∃ b o, A = some ⟨b, o, none⟩ ∧ b < B ∧ ∀ k (h : k < xs.length), w.cell? ⟨b, o + k * 3, none⟩ = some (.int .i64 xs[k].1) ∧ w.cell? ⟨b, o + k * 3 + 1, none⟩ = some (.int .i64 xs[k].2.1) ∧ w.cell? ⟨b, o + k * 3 + 2, none⟩ = some (.bool xs[k].2.2)
/-- A slice's address reads slices of points, below block B. -/
def RdPs (w : World) (B : Nat) (A : Option Addr) (ls : List (List Pt)) : Prop :=
  0 < ls.length → ∃ b o, A = some ⟨b, o, none⟩ ∧ b < B ∧ ∀ k (h : k < ls.length), ∃ (Ak : Option Addr) (ck : Nat), w.cell? ⟨b, o + k, none⟩ = some (.slice Ak ls[k].length ck) ∧ RdPt w B Ak ls[k]
section
variable {w w' : World} {B B' C : Nat} {A : Option Addr} {xs : List Pt} {ls : List (List Pt)}
theorem RdPt.nil : RdPt w B A [] := fun h => absurd h (by simp)
theorem RdPs.nil : RdPs w B A [] := fun h => absurd h (by simp)
theorem RdPt.below (h : RdPt w B A xs) (hb : Below C w w') (hC : B ≤ C) : RdPt w' B A xs := fun h0 => by
  obtain ⟨b, o, e, hlt, hc⟩ := h h0
  refine ⟨b, o, e, hlt, fun k hk => ?_⟩
  obtain ⟨h1, h2, h3⟩ := hc k hk
  exact ⟨(hb.cell (p := ⟨b, o + k * 3, none⟩) (show b < C by omega)).trans h1, (hb.cell (p := ⟨b, o + k * 3 + 1, none⟩) (show b < C by omega)).trans h2, (hb.cell (p := ⟨b, o + k * 3 + 2, none⟩) (show b < C by omega)).trans h3⟩
theorem RdPt.more (h : RdPt w B A xs) (hB : B ≤ B') : RdPt w B' A xs := fun h0 => by
  obtain ⟨b, o, e, hlt, hc⟩ := h h0
  exact ⟨b, o, e, by omega, hc⟩
theorem RdPs.below (h : RdPs w B A ls) (hb : Below C w w') (hC : B ≤ C) : RdPs w' B A ls := fun h0 => by
  obtain ⟨b, o, e, hlt, hc⟩ := h h0
  refine ⟨b, o, e, hlt, fun k hk => ?_⟩
  obtain ⟨Ak, ck, h1, h2⟩ := hc k hk
  exact ⟨Ak, ck, (hb.cell (p := ⟨b, o + k, none⟩) (show b < C by omega)).trans h1, h2.below hb hC⟩
theorem RdPs.more (h : RdPs w B A ls) (hB : B ≤ B') : RdPs w B' A ls := fun h0 => by
  obtain ⟨b, o, e, hlt, hc⟩ := h h0
  refine ⟨b, o, e, by omega, fun k hk => ?_⟩
  obtain ⟨Ak, ck, h1, h2⟩ := hc k hk
  exact ⟨Ak, ck, h1, h2.more hB⟩
theorem RdPs.on (h : RdPs w w.heap.size A ls) (hb : Below w.heap.size w w') : RdPs w' w'.heap.size A ls := (h.below hb (Nat.le_refl _)).more hb.size
theorem RdPt.on (h : RdPt w w.heap.size A xs) (hb : Below w.heap.size w w') : RdPt w' w'.heap.size A xs := (h.below hb (Nat.le_refl _)).more hb.size
/-- One of the polygons. -/
theorem RdPs.at_ (h : RdPs w B A ls) {k : Nat} (hk : k < ls.length) : ∃ b o, A = some ⟨b, o, none⟩ ∧ b < B ∧ ∃ (Ak : Option Addr) (ck : Nat), w.cell? ⟨b, o + k, none⟩ = some (.slice Ak ls[k].length ck) ∧ RdPt w B Ak ls[k] := by
  obtain ⟨b, o, e, hlt, hc⟩ := h (by omega)
  exact ⟨b, o, e, hlt, hc k hk⟩
/-- One of the points. -/
theorem RdPt.at_ (h : RdPt w B A xs) {k : Nat} (hk : k < xs.length) : ∃ b o, A = some ⟨b, o, none⟩ ∧ b < B ∧ w.cell? ⟨b, o + k * 3, none⟩ = some (.int .i64 xs[k].1) ∧ w.cell? ⟨b, o + k * 3 + 1, none⟩ = some (.int .i64 xs[k].2.1) ∧ w.cell? ⟨b, o + k * 3 + 2, none⟩ = some (.bool xs[k].2.2) := by
  obtain ⟨b, o, e, hlt, hc⟩ := h (by omega)
  exact ⟨b, o, e, hlt, hc k hk⟩
end

def inB (n : Int) : Bool := decide (-1073741824 ≤ n) && decide (n ≤ 1073741824)
theorem in_yes {n : Int} (h : inB n = true) : -1073741824 ≤ n ∧ n ≤ 1073741824 := by simpa [inB] using h
theorem in_no {n : Int} (h : ¬ (-1073741824 ≤ n ∧ n ≤ 1073741824)) : inB n = false := by simp [inB]; omega
theorem in_mk {n : Int} (h : -1073741824 ≤ n ∧ n ≤ 1073741824) : inB n = true := by simp [inB]; exact h
def ptIn (p : Pt) : Bool := inB p.1 && inB p.2.1
def allIn (ls : List (List Pt)) : Bool := ls.all fun p => p.all ptIn
def tot (ls : List (List Pt)) : Nat := (ls.map List.length).sum

theorem raster_in (n : Int) (w : World) : Calls Try.prog 89 #[.int .i64 n] w fun e w' => e = .returned (.bool (inB n)) ∧ w = w' := by
  by_cases h1 : -1073741824 ≤ n
  · by_cases h2 : n ≤ 1073741824
    · have hv := Lib.hid (in_mk ⟨h1, h2⟩)
      go_enter Try.func89, Try.ntmps89
      go_wp2
      go_ret
      exact ⟨ret_bool hv.out.symm, rfl⟩
    · have hv := Lib.hid (in_no (n := n) (by omega))
      go_enter Try.func89, Try.ntmps89
      go_wp2
      go_ret
      exact ⟨ret_bool hv.out.symm, rfl⟩
  · have hv := Lib.hid (in_no (n := n) (by omega))
    go_enter Try.func89, Try.ntmps89
    go_wp2
    go_ret
    exact ⟨ret_bool hv.out.symm, rfl⟩
theorem ref07_in (n : Int) (w : World) : Calls Try.prog 92 #[.int .i64 n] w fun e w' => e = .returned (.bool (inB n)) ∧ w = w' := by
  by_cases h1 : -1073741824 ≤ n
  · by_cases h2 : n ≤ 1073741824
    · have hv := Lib.hid (in_mk ⟨h1, h2⟩)
      go_enter Try.func92, Try.ntmps92
      go_wp2
      go_ret
      exact ⟨ret_bool hv.out.symm, rfl⟩
    · have hv := Lib.hid (in_no (n := n) (by omega))
      go_enter Try.func92, Try.ntmps92
      go_wp2
      go_ret
      exact ⟨ret_bool hv.out.symm, rfl⟩
  · have hv := Lib.hid (in_no (n := n) (by omega))
    go_enter Try.func92, Try.ntmps92
    go_wp2
    go_ret
    exact ⟨ret_bool hv.out.symm, rfl⟩
def validB (u : Int) : Bool := decide (4 ≤ u) && decide (u ≤ 1073741824) && decide (u % 4 = 0)
theorem valid_yes {u : Int} (h : validB u = true) : 4 ≤ u ∧ u ≤ 1073741824 ∧ u % 4 = 0 := by simp [validB] at h; omega
theorem tmod4 {u : Int} (h : 0 ≤ u) : u.tmod 4 = u % 4 := Int.tmod_eq_emod_of_nonneg h
theorem raster_valid (u : Int) (w : World) : Calls Try.prog 94 #[.int .i64 u] w fun e w' => e = .returned (.bool (validB u)) ∧ w = w' := by
  by_cases h1 : 4 ≤ u
  · by_cases h2 : u ≤ 1073741824
    · have ht := tmod4 (u := u) (by omega)
      have hv := Lib.hid (show validB u = (u % 4 == 0) by rw [validB, decide_eq_true h1, decide_eq_true h2, Bool.true_and, Bool.true_and]; rfl)
      go_enter Try.func94, Try.ntmps94
      go_wp2
      go_ret
      exact ⟨ret_bool hv.out.symm, rfl⟩
    · have hv := Lib.hid (show validB u = false by simp [validB, h2])
      go_enter Try.func94, Try.ntmps94
      go_wp2
      go_ret
      exact ⟨ret_bool hv.out.symm, rfl⟩
  · have hv := Lib.hid (show validB u = false by simp [validB, h1])
    go_enter Try.func94, Try.ntmps94
    go_wp2
    go_ret
    exact ⟨ret_bool hv.out.symm, rfl⟩
theorem ref07_valid (u : Int) (w : World) : Calls Try.prog 96 #[.int .i64 u] w fun e w' => e = .returned (.bool (validB u)) ∧ w = w' := by
  by_cases h1 : 4 ≤ u
  · by_cases h2 : u ≤ 1073741824
    · have ht := tmod4 (u := u) (by omega)
      have hv := Lib.hid (show validB u = (u % 4 == 0) by rw [validB, decide_eq_true h1, decide_eq_true h2, Bool.true_and, Bool.true_and]; rfl)
      go_enter Try.func96, Try.ntmps96
      go_wp2
      go_ret
      exact ⟨ret_bool hv.out.symm, rfl⟩
    · have hv := Lib.hid (show validB u = false by simp [validB, h2])
      go_enter Try.func96, Try.ntmps96
      go_wp2
      go_ret
      exact ⟨ret_bool hv.out.symm, rfl⟩
  · have hv := Lib.hid (show validB u = false by simp [validB, h1])
    go_enter Try.func96, Try.ntmps96
    go_wp2
    go_ret
    exact ⟨ret_bool hv.out.symm, rfl⟩
theorem floor_neg {n u : Int} (hu : 0 < u) : -((u - 1 - n) / u) = n / u := by
  have e1 := Int.mul_ediv_add_emod (u - 1 - n) u
  have e2 := Int.emod_nonneg (u - 1 - n) (show u ≠ 0 by omega)
  have e3 := Int.emod_lt_of_pos (u - 1 - n) hu
  have f1 := Int.mul_ediv_add_emod n u
  have f2 := Int.emod_nonneg n (show u ≠ 0 by omega)
  have f3 := Int.emod_lt_of_pos n hu
  generalize (u - 1 - n) / u = b at *
  generalize n / u = a at *
  generalize (u - 1 - n) % u = s at *
  generalize n % u = r at *
  have hm : u * (a + b) = u * a + u * b := Int.mul_add _ _ _
  rcases Int.lt_trichotomy (a + b) 0 with h | h | h
  · have := Int.mul_le_mul_of_nonneg_left (show a + b ≤ -1 by omega) (show 0 ≤ u by omega)
    omega
  · omega
  · have := Int.mul_le_mul_of_nonneg_left (show 1 ≤ a + b by omega) (show 0 ≤ u by omega)
    omega
theorem div_small {n u : Int} (hn : 0 ≤ n) (hu : 0 < u) : 0 ≤ n / u ∧ n / u ≤ n := ⟨Int.ediv_nonneg hn (by omega), Int.ediv_le_self _ hn⟩
theorem floor_small {n u : Int} (h1 : -1073741824 ≤ n) (h2 : n ≤ 1073741824) (hu : 0 < u) : -1073741824 ≤ n / u ∧ n / u ≤ 1073741824 := by
  have f1 := Int.mul_ediv_add_emod n u
  have f2 := Int.emod_nonneg n (show u ≠ 0 by omega)
  have f3 := Int.emod_lt_of_pos n hu
  generalize n / u = a at *
  generalize n % u = r at *
  constructor
  · rcases Int.lt_or_le a (-1073741824) with h | h
    · have := Int.mul_le_mul_of_nonneg_right (show (1 : Int) ≤ u by omega) (show 0 ≤ -a - 1 by omega)
      have e : u * (-a - 1) = -(u * a) - u := by rw [Int.mul_sub, Int.mul_neg, Int.mul_one]
      omega
    · exact h
  · rcases Int.lt_or_le 1073741824 a with h | h
    · have := Int.mul_le_mul_of_nonneg_right (show (1 : Int) ≤ u by omega) (show 0 ≤ a by omega)
      omega
    · exact h
/-- over: a quotient, rounded down. -/
theorem raster_over (n u : Int) (w : World) (hn : -1073741824 ≤ n ∧ n ≤ 1073741824) (hu : 4 ≤ u ∧ u ≤ 1073741824) : Calls Try.prog 97 #[.int .i64 n, .int .i64 u] w fun e w' => e = .returned (.int .i64 (n / u)) ∧ w = w' := by
  obtain ⟨hn1, hn2⟩ := hn
  obtain ⟨hu1, hu2⟩ := hu
  have hu0 : ¬ u = 0 := by omega
  by_cases h : n < 0
  · have hq : (u - 1 - n).tdiv u = (u - 1 - n) / u := Int.tdiv_eq_ediv_of_nonneg (by omega)
    have hd := div_small (n := u - 1 - n) (u := u) (by omega) (by omega)
    have hv := Lib.hid (floor_neg (n := n) (u := u) (by omega))
    generalize (u - 1 - n) / u = k at *
    obtain ⟨hd1, hd2⟩ := hd
    go_enter Try.func97, Try.ntmps97
    go_wp2
    go_ret
    exact ⟨ret_int hv.out, rfl⟩
  · have hq : n.tdiv u = n / u := Int.tdiv_eq_ediv_of_nonneg (by omega)
    obtain ⟨hd1, hd2⟩ := div_small (n := n) (u := u) (by omega) (by omega)
    generalize n / u = k at *
    go_enter Try.func97, Try.ntmps97
    go_wp2
    go_ret
    exact ⟨rfl, rfl⟩
end Go.Proofs.Ytlanefdeeanpnaa
