/-
  Contracts of turns and left of layer 7. Conditions: all coordinates are in range.
-/
import Derived.Test.YtlanefdeeanpnaaPoly
namespace Go.Proofs.Ytlanefdeeanpnaa
set_option linter.unusedVariables false
set_option linter.unusedSimpArgs false
open Go.RowKit
attribute [local go_sem ↓] Go.wp_at_zero Go.wp_at_succ

theorem prod_bound {u v : Int} (hu : -2147483648 ≤ u ∧ u ≤ 2147483648) (hv : -2147483648 ≤ v ∧ v ≤ 2147483648) : -4611686018427387904 ≤ u * v ∧ u * v ≤ 4611686018427387904 := by
  have h1 := Int.natAbs_mul u v
  have h2 := Nat.mul_le_mul (show u.natAbs ≤ 2147483648 by omega) (show v.natAbs ≤ 2147483648 by omega)
  rw [← h1] at h2
  omega
/-- 1 if the edge from a to b passes (x, y) upwards on the left, -1 if it does downwards, else 0. -/
def turnsV (a b : Pt) (x y : Int) : Int :=
  if a.2.1 ≤ y ∧ y < b.2.1 ∧ (b.1 - a.1) * (y - a.2.1) < (x - a.1) * (b.2.1 - a.2.1) then 1 else if b.2.1 ≤ y ∧ y < a.2.1 ∧ (a.1 - b.1) * (y - b.2.1) < (x - b.1) * (a.2.1 - b.2.1) then -1 else 0
theorem turns_small (a b : Pt) (x y : Int) : -1 ≤ turnsV a b x y ∧ turnsV a b x y ≤ 1 := by
  unfold turnsV
  split
  · omega
  · split <;> omega

set_option maxHeartbeats 4000000 in
set_option maxRecDepth 100000 in
theorem raster_turns (aX aY bX bY x y : Int) (aO bO : Bool) (w : World) (h1 : -1073741824 ≤ aX ∧ aX ≤ 1073741824) (h2 : -1073741824 ≤ aY ∧ aY ≤ 1073741824) (h3 : -1073741824 ≤ bX ∧ bX ≤ 1073741824) (h4 : -1073741824 ≤ bY ∧ bY ≤ 1073741824)
    (h5 : -1073741824 ≤ x ∧ x ≤ 1073741824) (h6 : -1073741824 ≤ y ∧ y ≤ 1073741824) :
    Calls Try.prog 106 #[.agg #[.int .i64 aX, .int .i64 aY, .bool aO], .agg #[.int .i64 bX, .int .i64 bY, .bool bO], .int .i64 x, .int .i64 y] w fun e w' => e = .returned (.int .i64 (turnsV (aX, aY, aO) (bX, bY, bO) x y)) ∧ Below w.heap.size w w' := by
  have hP1 := prod_bound (u := bX - aX) (v := y - aY) (by omega) (by omega)
  have hP2 := prod_bound (u := x - aX) (v := bY - aY) (by omega) (by omega)
  have hP3 := prod_bound (u := aX - bX) (v := y - bY) (by omega) (by omega)
  have hP4 := prod_bound (u := x - bX) (v := aY - bY) (by omega) (by omega)
  have w1 : IntKind.i64.wrap ((bX - aX) * (y - aY)) = (bX - aX) * (y - aY) := IntWalk.i64_in _ (by omega)
  have w2 : IntKind.i64.wrap ((x - aX) * (bY - aY)) = (x - aX) * (bY - aY) := IntWalk.i64_in _ (by omega)
  have w3 : IntKind.i64.wrap ((aX - bX) * (y - bY)) = (aX - bX) * (y - bY) := IntWalk.i64_in _ (by omega)
  have w4 : IntKind.i64.wrap ((x - bX) * (aY - bY)) = (x - bX) * (aY - bY) := IntWalk.i64_in _ (by omega)
  obtain ⟨h11, h12⟩ := h1
  obtain ⟨h21, h22⟩ := h2
  obtain ⟨h31, h32⟩ := h3
  obtain ⟨h41, h42⟩ := h4
  obtain ⟨h51, h52⟩ := h5
  obtain ⟨h61, h62⟩ := h6
  by_cases c1 : aY ≤ y
  · by_cases c2 : y < bY
    · by_cases c3 : (bX - aX) * (y - aY) < (x - aX) * (bY - aY)
      · skip
        have hv := Lib.hid (show turnsV (aX, aY, aO) (bX, bY, bO) x y = 1 by unfold turnsV; rw [if_pos ⟨c1, c2, c3⟩])
        clear hP1 hP2 hP3 hP4
        go_enter Try.func106, Try.ntmps106
        go_wp2
        go_ret
        exact ⟨ret_int hv.out.symm, ((Below.refl _ _).alloc (Nat.le_refl _) _).alloc (by simp) _⟩
      · have d1 : ¬ bY ≤ y := by omega
        have hv := Lib.hid (show turnsV (aX, aY, aO) (bX, bY, bO) x y = 0 by unfold turnsV; rw [if_neg (fun h => c3 h.2.2), if_neg (fun h => d1 h.1)])
        clear hP1 hP2 hP3 hP4
        go_enter Try.func106, Try.ntmps106
        go_wp2
        go_ret
        exact ⟨ret_int hv.out.symm, ((Below.refl _ _).alloc (Nat.le_refl _) _).alloc (by simp) _⟩
    · have d1 : bY ≤ y := by omega
      have d2 : ¬ y < aY := by omega
      have hv := Lib.hid (show turnsV (aX, aY, aO) (bX, bY, bO) x y = 0 by unfold turnsV; rw [if_neg (fun h => c2 h.2.1), if_neg (fun h => d2 h.2.1)])
      clear hP1 hP2 hP3 hP4
      go_enter Try.func106, Try.ntmps106
      go_wp2
      go_ret
      exact ⟨ret_int hv.out.symm, ((Below.refl _ _).alloc (Nat.le_refl _) _).alloc (by simp) _⟩
  · by_cases d1 : bY ≤ y
    · have d2 : y < aY := by omega
      by_cases d3 : (aX - bX) * (y - bY) < (x - bX) * (aY - bY)
      · skip
        have hv := Lib.hid (show turnsV (aX, aY, aO) (bX, bY, bO) x y = -1 by unfold turnsV; rw [if_neg (fun h => c1 h.1), if_pos ⟨d1, d2, d3⟩])
        clear hP1 hP2 hP3 hP4
        go_enter Try.func106, Try.ntmps106
        go_wp2
        go_ret
        exact ⟨ret_int hv.out.symm, ((Below.refl _ _).alloc (Nat.le_refl _) _).alloc (by simp) _⟩
      · skip
        have hv := Lib.hid (show turnsV (aX, aY, aO) (bX, bY, bO) x y = 0 by unfold turnsV; rw [if_neg (fun h => c1 h.1), if_neg (fun h => d3 h.2.2)])
        clear hP1 hP2 hP3 hP4
        go_enter Try.func106, Try.ntmps106
        go_wp2
        go_ret
        exact ⟨ret_int hv.out.symm, ((Below.refl _ _).alloc (Nat.le_refl _) _).alloc (by simp) _⟩
    · skip
      have hv := Lib.hid (show turnsV (aX, aY, aO) (bX, bY, bO) x y = 0 by unfold turnsV; rw [if_neg (fun h => c1 h.1), if_neg (fun h => d1 h.1)])
      clear hP1 hP2 hP3 hP4
      go_enter Try.func106, Try.ntmps106
      go_wp2
      go_ret
      exact ⟨ret_int hv.out.symm, ((Below.refl _ _).alloc (Nat.le_refl _) _).alloc (by simp) _⟩

theorem ref07_left (aX aY bX bY x y : Int) (aO bO : Bool) (w : World) (h1 : -1073741824 ≤ aX ∧ aX ≤ 1073741824) (h2 : -1073741824 ≤ aY ∧ aY ≤ 1073741824) (h3 : -1073741824 ≤ bX ∧ bX ≤ 1073741824) (h4 : -1073741824 ≤ bY ∧ bY ≤ 1073741824)
    (h5 : -1073741824 ≤ x ∧ x ≤ 1073741824) (h6 : -1073741824 ≤ y ∧ y ≤ 1073741824) :
    Calls Try.prog 93 #[.agg #[.int .i64 aX, .int .i64 aY, .bool aO], .agg #[.int .i64 bX, .int .i64 bY, .bool bO], .int .i64 x, .int .i64 y] w fun e w' => e = .returned (.bool (decide ((bX - aX) * (y - aY) < (x - aX) * (bY - aY)))) ∧ Below w.heap.size w w' := by
  have hP1 := prod_bound (u := bX - aX) (v := y - aY) (by omega) (by omega)
  have hP2 := prod_bound (u := x - aX) (v := bY - aY) (by omega) (by omega)
  have w1 : IntKind.i64.wrap ((bX - aX) * (y - aY)) = (bX - aX) * (y - aY) := IntWalk.i64_in _ (by omega)
  have w2 : IntKind.i64.wrap ((x - aX) * (bY - aY)) = (x - aX) * (bY - aY) := IntWalk.i64_in _ (by omega)
  obtain ⟨h11, h12⟩ := h1
  obtain ⟨h21, h22⟩ := h2
  obtain ⟨h31, h32⟩ := h3
  obtain ⟨h41, h42⟩ := h4
  obtain ⟨h51, h52⟩ := h5
  obtain ⟨h61, h62⟩ := h6
  clear hP1 hP2
  go_enter Try.func93, Try.ntmps93
  go_wp2
  go_ret
  exact ⟨rfl, ((Below.refl _ _).alloc (Nat.le_refl _) _).alloc (by simp) _⟩
end Go.Proofs.Ytlanefdeeanpnaa
