/-
  Plain laws for RasterMoves: what Dots answers of polygons that are moved by whole dots, or multiplied together with the unit. Conditions: none; no step of the program is taken here.
-/
import Derived.Test.YtlanefdeeanpnaaDotsV
import Derived.Test.YtlanefdeeanpnaaMath7
namespace Go.Proofs.Ytlanefdeeanpnaa
set_option linter.unusedVariables false
set_option linter.unusedSimpArgs false
open Go.RowKit

theorem dotsV_none {ls : List (List Pt)} {u : Int} (hv : validB u = true) (ha : allIn ls = true) (ht : tot ls = 0) : dotsV ls u = .none_ 0 := by
  unfold dotsV
  rw [if_neg (by rw [hv]; simp), if_neg (by rw [ha]; simp), if_pos ht]
theorem dotsV_some {ls : List (List Pt)} {u : Int} (hv : validB u = true) (ha : allIn ls = true) (ht : tot ls ≠ 0) (hs : (sideB (bxW ls u) && sideB (bxH ls u)) = true) : dotsV ls u = ⟨bxL ls u, bxB ls u, bxW ls u, bxH ls u, dotL ls u (bxL ls u) (bxB ls u) (bxW ls u).toNat (bxH ls u).toNat, 0⟩ := by
  unfold dotsV
  rw [if_neg (by rw [hv]; simp), if_neg (by rw [ha]; simp), if_neg ht, if_neg (by rw [hs]; simp)]
/-- The box, in dots, of polygons with small coordinates. -/
theorem bx_small {ls : List (List Pt)} {u : Int} (h : Near 100 ls) (ht : tot ls ≠ 0) (hu : u = 4 ∨ u = 8 ∨ u = 12 ∨ u = 16) :
    (-26 ≤ bxL ls u ∧ bxL ls u ≤ 25) ∧ (-26 ≤ bxB ls u ∧ bxB ls u ≤ 25) ∧ (1 ≤ bxW ls u ∧ bxL ls u + bxW ls u ≤ 26) ∧ (1 ≤ bxH ls u ∧ bxB ls u + bxH ls u ≤ 26) := by
  obtain ⟨_, _, a1, a2, a3, b1, b2, b3⟩ := box7 (u := u) h ht (by omega) (by omega)
  unfold bxW bxH bxL bxB
  generalize mnF fX (pts ls) 2147483648 = p at *
  generalize mxF fX (pts ls) (-2147483648) = q at *
  generalize mnF fY (pts ls) 2147483648 = r at *
  generalize mxF fY (pts ls) (-2147483648) = s at *
  rcases hu with rfl | rfl | rfl | rfl <;> omega
theorem side_small {ls : List (List Pt)} {u : Int} (h : Near 100 ls) (ht : tot ls ≠ 0) (hu : u = 4 ∨ u = 8 ∨ u = 12 ∨ u = 16) : (sideB (bxW ls u) && sideB (bxH ls u)) = true := by
  obtain ⟨h1, h2, h3, h4⟩ := bx_small h ht hu
  unfold sideB
  rw [decide_eq_true (by omega), decide_eq_true (by omega), decide_eq_true (by omega), decide_eq_true (by omega)]
  rfl
theorem valid_u {u : Int} (hu : u = 4 ∨ u = 8 ∨ u = 12 ∨ u = 16) : validB u = true ∧ validB (7 * u) = true := by
  rcases hu with rfl | rfl | rfl | rfl <;> decide
theorem cvT_moved {ls : List (List Pt)} {u X Y a b : Int} (h : Near 100 ls) (hu : u = 4 ∨ u = 8 ∨ u = 12 ∨ u = 16) (hX : -1048576 ≤ X ∧ X ≤ 1048576) (hY : -1048576 ≤ Y ∧ Y ≤ 1048576) (ha : -30 ≤ a ∧ a ≤ 30) (hb : -30 ≤ b ∧ b ≤ 30) :
    cvT (moved 1 (u * X) (u * Y) ls) u (a + X) (b + Y) (u / 4) 4 = cvT ls u a b (u / 4) 4 := by
  have hal := near_in h (by omega)
  have ham : allIn (moved 1 (u * X) (u * Y) ls) = true := near_in (R := 20000000) (near_moved h (fun c h1 h2 => by rcases hu with rfl | rfl | rfl | rfl <;> omega)) (by omega)
  refine cvT_eq (fun i j hi hj => ?_)
  refine cvS_eq hal ham (in_mk ?_) (in_mk ?_) (in_mk ?_) (in_mk ?_) ?_
  · rcases hu with rfl | rfl | rfl | rfl <;> rcases hi with rfl | rfl <;> omega
  · rcases hu with rfl | rfl | rfl | rfl <;> rcases hj with rfl | rfl <;> omega
  · rcases hu with rfl | rfl | rfl | rfl <;> rcases hi with rfl | rfl <;> omega
  · rcases hu with rfl | rfl | rfl | rfl <;> rcases hj with rfl | rfl <;> omega
  · rw [show u * (a + X) + i * (u / 4) = (u * a + i * (u / 4)) + u * X by rw [Int.mul_add]; omega, show u * (b + Y) + j * (u / 4) = (u * b + j * (u / 4)) + u * Y by rw [Int.mul_add]; omega]
    exact windN_moved ls _ _ _ _
theorem cvT_scaled {ls : List (List Pt)} {u a b : Int} (h : Near 100 ls) (hu : u = 4 ∨ u = 8 ∨ u = 12 ∨ u = 16) (ha : -30 ≤ a ∧ a ≤ 30) (hb : -30 ≤ b ∧ b ≤ 30) :
    cvT (moved 7 0 0 ls) (7 * u) a b (7 * u / 4) 4 = cvT ls u a b (u / 4) 4 := by
  have hal := near_in h (by omega)
  have ham : allIn (moved 7 0 0 ls) = true := near_in (R := 20000000) (near_moved h (fun c h1 h2 => by omega)) (by omega)
  refine cvT_eq (fun i j hi hj => ?_)
  refine cvS_eq hal ham (in_mk ?_) (in_mk ?_) (in_mk ?_) (in_mk ?_) ?_
  · rcases hu with rfl | rfl | rfl | rfl <;> rcases hi with rfl | rfl <;> omega
  · rcases hu with rfl | rfl | rfl | rfl <;> rcases hj with rfl | rfl <;> omega
  · rcases hu with rfl | rfl | rfl | rfl <;> rcases hi with rfl | rfl <;> omega
  · rcases hu with rfl | rfl | rfl | rfl <;> rcases hj with rfl | rfl <;> omega
  · rw [show 7 * u * a + i * (7 * u / 4) = 7 * (u * a + i * (u / 4)) by rcases hu with rfl | rfl | rfl | rfl <;> rcases hi with rfl | rfl <;> omega, show 7 * u * b + j * (7 * u / 4) = 7 * (u * b + j * (u / 4)) by rcases hu with rfl | rfl | rfl | rfl <;> rcases hj with rfl | rfl <;> omega]
    exact windN_scaled ls _ _
/-- What Dots answers of the three. -/
theorem moves_math {ls : List (List Pt)} {u X Y : Int} (h : Near 100 ls) (hu : u = 4 ∨ u = 8 ∨ u = 12 ∨ u = 16) (hX : -1048576 ≤ X ∧ X ≤ 1048576) (hY : -1048576 ≤ Y ∧ Y ≤ 1048576) :
    dotsV (moved 7 0 0 ls) (7 * u) = dotsV ls u ∧ (dotsV ls u).k = 0 ∧ (tot ls = 0 → dotsV ls u = .none_ 0 ∧ dotsV (moved 1 (u * X) (u * Y) ls) u = .none_ 0) ∧
    (tot ls ≠ 0 → dotsV (moved 1 (u * X) (u * Y) ls) u = ⟨(dotsV ls u).L + X, (dotsV ls u).B + Y, (dotsV ls u).W, (dotsV ls u).H, (dotsV ls u).D, 0⟩ ∧ -100 ≤ (dotsV ls u).L ∧ (dotsV ls u).L ≤ 100 ∧ -100 ≤ (dotsV ls u).B ∧ (dotsV ls u).B ≤ 100) := by
  obtain ⟨hv, hv7⟩ := valid_u hu
  have hal := near_in h (by omega)
  have ham : allIn (moved 1 (u * X) (u * Y) ls) = true := near_in (R := 20000000) (near_moved h (fun c h1 h2 => by rcases hu with rfl | rfl | rfl | rfl <;> omega)) (by omega)
  have haq : allIn (moved 7 0 0 ls) = true := near_in (R := 20000000) (near_moved h (fun c h1 h2 => by omega)) (by omega)
  by_cases ht : tot ls = 0
  · have e1 := dotsV_none hv hal ht
    have e2 := dotsV_none hv ham (by rw [tot_moved]; exact ht)
    have e3 := dotsV_none hv7 haq (by rw [tot_moved]; exact ht)
    rw [e1, e2, e3]
    exact ⟨rfl, rfl, fun _ => ⟨rfl, rfl⟩, fun hn => absurd ht hn⟩
  · obtain ⟨g1, g2, g3, g4⟩ := bx_small h ht hu
    have hs := side_small h ht hu
    obtain ⟨m1, m2, m3, m4⟩ := bx_moved (u := u) (X := X) (Y := Y) h (by omega) ht (by omega) (by rcases hu with rfl | rfl | rfl | rfl <;> omega) (by rcases hu with rfl | rfl | rfl | rfl <;> omega)
    obtain ⟨q1, q2, q3, q4⟩ := bx_scaled (u := u) h (by omega) ht (by omega)
    have e1 := dotsV_some hv hal ht hs
    have e2 := dotsV_some hv ham (by rw [tot_moved]; exact ht) (by rw [m3, m4]; exact hs)
    have e3 := dotsV_some hv7 haq (by rw [tot_moved]; exact ht) (by rw [q3, q4]; exact hs)
    rw [m1, m2, m3, m4] at e2
    rw [q1, q2, q3, q4] at e3
    have d3 : dotL (moved 7 0 0 ls) (7 * u) (bxL ls u) (bxB ls u) (bxW ls u).toNat (bxH ls u).toNat = dotL ls u (bxL ls u) (bxB ls u) (bxW ls u).toNat (bxH ls u).toNat :=
      dotL_eq (fun i j hi hj => cvT_scaled h hu (by omega) (by omega))
    have d2 : dotL (moved 1 (u * X) (u * Y) ls) u (bxL ls u + X) (bxB ls u + Y) (bxW ls u).toNat (bxH ls u).toNat = dotL ls u (bxL ls u) (bxB ls u) (bxW ls u).toNat (bxH ls u).toNat :=
      dotL_eq (fun i j hi hj => by
        rw [show bxL ls u + X + (i : Int) = (bxL ls u + i) + X by omega, show bxB ls u + Y + (j : Int) = (bxB ls u + j) + Y by omega]
        exact cvT_moved h hu hX hY (by omega) (by omega))
    rw [d3] at e3
    rw [d2] at e2
    rw [e1, e2, e3]
    refine ⟨rfl, rfl, fun hn => absurd hn ht, fun _ => ⟨rfl, ?_⟩⟩
    dsimp only
    omega
end Go.Proofs.Ytlanefdeeanpnaa
