/-
  Plain laws for RasterBoxes: the winding number of a rectangle, its samples, its picture; and points outside of the box of all points. Conditions: none; no step of the program is taken here.
-/
import Derived.Test.YtlanefdeeanpnaaMovesM
import Derived.Test.YtlanefdeeanpnaaGet
namespace Go.Proofs.Ytlanefdeeanpnaa
set_option linter.unusedVariables false
set_option linter.unusedSimpArgs false
open Go.RowKit

def bxP (x0 y0 x1 y1 : Int) : List Pt := [(x0, y0, false), (x1, y0, false), (x1, y1, false), (x0, y1, false)]
def inBox (x0 y0 x1 y1 a b : Int) : Bool := decide (x0 < a) && decide (a ≤ x1) && decide (y0 ≤ b) && decide (b < y1)
theorem pos_mul {d e : Int} (hd : 0 < d) : (0 < e * d) ↔ 0 < e := by
  constructor
  · intro h
    rcases Int.lt_or_le 0 e with h1 | h1
    · exact h1
    · have := Int.mul_le_mul_of_nonneg_right h1 (show 0 ≤ d by omega)
      rw [Int.zero_mul] at this
      omega
  · intro h
    exact Int.mul_pos h hd
theorem turns_flat (a b : Pt) (x y : Int) (h : a.2.1 = b.2.1) : turnsV a b x y = 0 := by
  unfold turnsV
  rw [if_neg (by omega), if_neg (by omega)]
/-- A side that leads upwards. -/
theorem turns_up (X y0 y1 a b : Int) (o1 o2 : Bool) (h : y0 ≤ y1) : turnsV (X, y0, o1) (X, y1, o2) a b = if y0 ≤ b ∧ b < y1 ∧ X < a then 1 else 0 := by
  unfold turnsV
  dsimp only
  rw [Int.sub_self, Int.zero_mul]
  by_cases h1 : y0 ≤ b ∧ b < y1
  · have hp := pos_mul (d := y1 - y0) (e := a - X) (by omega)
    by_cases h2 : X < a
    · rw [if_pos ⟨h1.1, h1.2, hp.2 (by omega)⟩, if_pos ⟨h1.1, h1.2, h2⟩]
    · rw [if_neg (fun h => by have := hp.1 h.2.2; omega), if_neg (by omega), if_neg (fun h => h2 h.2.2)]
  · rw [if_neg (fun h => h1 ⟨h.1, h.2.1⟩), if_neg (by omega), if_neg (fun h => h1 ⟨h.1, h.2.1⟩)]
theorem wind_box {x0 y0 x1 y1 : Int} (a b : Int) (hx : x0 ≤ x1) (hy : y0 ≤ y1) : windN [bxP x0 y0 x1 y1] a b = if inBox x0 y0 x1 y1 a b = true then -1 else 0 := by
  rw [windN_rings, rings_cons, rings_nil]
  show turnsV (x0, y0, false) (x1, y0, false) a b + (turnsV (x1, y0, false) (x1, y1, false) a b + (turnsV (x1, y1, false) (x0, y1, false) a b + (turnsV (x0, y1, false) (x0, y0, false) a b + 0))) + 0 = _
  rw [turns_flat (x0, y0, false) (x1, y0, false) a b rfl, turns_flat (x1, y1, false) (x0, y1, false) a b rfl, turns_up x1 y0 y1 a b _ _ hy, turns_anti a b (x0, y0, false) (x0, y1, false), turns_up x0 y0 y1 a b _ _ hy]
  unfold inBox
  simp only [Bool.and_eq_true, decide_eq_true_eq]
  split <;> split <;> split <;> omega
/-- The number of samples up to number t that lie in a box. -/
def cnB (x0 y0 x1 y1 ux uy q h : Int) : Nat → Int
  | 0 => 0
  | t + 1 => cnB x0 y0 x1 y1 ux uy q h t + if inBox x0 y0 x1 y1 (ux + q + ((t % 2 : Nat) : Int) * h) (uy + q + ((t / 2 : Nat) : Int) * h) = true then 1 else 0
theorem cnB_small (x0 y0 x1 y1 ux uy q h : Int) (t : Nat) : 0 ≤ cnB x0 y0 x1 y1 ux uy q h t ∧ cnB x0 y0 x1 y1 ux uy q h t ≤ t := by
  induction t with
  | zero => exact ⟨Int.le_refl _, Int.le_refl _⟩
  | succ t ih =>
    unfold cnB
    split <;> omega
theorem near_box {x0 y0 x1 y1 : Int} (hx0 : -30 ≤ x0 ∧ x0 ≤ 60) (hx1 : -30 ≤ x1 ∧ x1 ≤ 60) (hy0 : -30 ≤ y0 ∧ y0 ≤ 60) (hy1 : -30 ≤ y1 ∧ y1 ≤ 60) : Near 100 [bxP x0 y0 x1 y1] := by
  intro p hp r hr
  rw [List.mem_singleton.1 hp] at hr
  simp only [bxP, List.mem_cons, List.not_mem_nil, or_false] at hr
  rcases hr with rfl | rfl | rfl | rfl <;> dsimp only <;> omega
theorem cvS_box {x0 y0 x1 y1 a b : Int} (hn : Near 100 [bxP x0 y0 x1 y1]) (hx : x0 ≤ x1) (hy : y0 ≤ y1) (ha : -1000 ≤ a ∧ a ≤ 1000) (hb : -1000 ≤ b ∧ b ≤ 1000) : cvS [bxP x0 y0 x1 y1] a b = if inBox x0 y0 x1 y1 a b = true then 1 else 0 := by
  rw [cvS_yes (near_in hn (by omega)) (in_mk (by omega)) (in_mk (by omega)), wind_box a b hx hy]
  split <;> rfl
theorem cvT_box {x0 y0 x1 y1 u q X Y : Int} (hn : Near 100 [bxP x0 y0 x1 y1]) (hx : x0 ≤ x1) (hy : y0 ≤ y1) (hu : u = 4 * q) (hq : 1 ≤ q ∧ q ≤ 4) (hX : -400 ≤ u * X ∧ u * X ≤ 400) (hY : -400 ≤ u * Y ∧ u * Y ≤ 400) :
    cvT [bxP x0 y0 x1 y1] u X Y (u / 4) 4 = cnB x0 y0 x1 y1 (u * X) (u * Y) q (2 * q) 4 := by
  have e4 : u / 4 = q := by omega
  rw [e4]
  unfold cvT
  rw [cvS_box hn hx hy (by omega) (by omega), cvS_box hn hx hy (by omega) (by omega), cvS_box hn hx hy (by omega) (by omega), cvS_box hn hx hy (by omega) (by omega)]
  simp only [cnB]
  have f0 : ((0 % 2 : Nat) : Int) * (2 * q) = 0 := by simp
  have f1 : ((1 % 2 : Nat) : Int) * (2 * q) = 2 * q := by simp
  have f2 : ((2 % 2 : Nat) : Int) * (2 * q) = 0 := by simp
  have f3 : ((3 % 2 : Nat) : Int) * (2 * q) = 2 * q := by simp
  have g0 : ((0 / 2 : Nat) : Int) * (2 * q) = 0 := by simp
  have g1 : ((1 / 2 : Nat) : Int) * (2 * q) = 0 := by simp
  have g2 : ((2 / 2 : Nat) : Int) * (2 * q) = 2 * q := by simp
  have g3 : ((3 / 2 : Nat) : Int) * (2 * q) = 2 * q := by simp
  rw [f0, f1]
  have s1 : u * X + q + 0 = u * X + q := by omega
  have s2 : u * X + q + 2 * q = u * X + 3 * q := by omega
  have s3 : u * Y + q + 0 = u * Y + q := by omega
  have s4 : u * Y + q + 2 * q = u * Y + 3 * q := by omega
  rw [s1, s2, s3, s4]
/-- No sample lies in the box. -/
theorem cnB_out {x0 y0 x1 y1 ux uy q h : Int} (hout : ∀ s t : Int, (s = 0 ∨ s = h) → (t = 0 ∨ t = h) → inBox x0 y0 x1 y1 (ux + q + s) (uy + q + t) = false) : cnB x0 y0 x1 y1 ux uy q h 4 = 0 := by
  simp only [cnB]
  have f0 : ((0 % 2 : Nat) : Int) * h = 0 := by simp
  have f1 : ((1 % 2 : Nat) : Int) * h = h := by simp
  have f2 : ((2 % 2 : Nat) : Int) * h = 0 := by simp
  have f3 : ((3 % 2 : Nat) : Int) * h = h := by simp
  have g0 : ((0 / 2 : Nat) : Int) * h = 0 := by simp
  have g1 : ((1 / 2 : Nat) : Int) * h = 0 := by simp
  have g2 : ((2 / 2 : Nat) : Int) * h = h := by simp
  have g3 : ((3 / 2 : Nat) : Int) * h = h := by simp
  rw [f0, f1]
  rw [hout 0 0 (.inl rfl) (.inl rfl), hout h 0 (.inr rfl) (.inl rfl), hout 0 h (.inl rfl) (.inr rfl), hout h h (.inr rfl) (.inr rfl)]
  rfl
theorem box_mn {x0 y0 x1 y1 : Int} (hn : Near 100 [bxP x0 y0 x1 y1]) (hx : x0 ≤ x1) (hy : y0 ≤ y1) : mnF fX (pts [bxP x0 y0 x1 y1]) 2147483648 = x0 ∧ mnF fY (pts [bxP x0 y0 x1 y1]) 2147483648 = y0 ∧ mxF fX (pts [bxP x0 y0 x1 y1]) (-2147483648) = x1 ∧ mxF fY (pts [bxP x0 y0 x1 y1]) (-2147483648) = y1 := by
  have hm := near_pts hn
  have hp : pts [bxP x0 y0 x1 y1] = bxP x0 y0 x1 y1 := by simp [pts]
  rw [hp] at hm ⊢
  have hne : bxP x0 y0 x1 y1 ≠ [] := by simp [bxP]
  have hall : ∀ r ∈ bxP x0 y0 x1 y1, r = (x0, y0, false) ∨ r = (x1, y0, false) ∨ r = (x1, y1, false) ∨ r = (x0, y1, false) := fun r hr => by simpa [bxP] using hr
  have m0 : (x0, y0, false) ∈ bxP x0 y0 x1 y1 := by simp [bxP]
  have m2 : (x1, y1, false) ∈ bxP x0 y0 x1 y1 := by simp [bxP]
  refine ⟨mn_eq hne (fun r hr => ?_) (fun r hr => ?_) ⟨_, m0, rfl⟩, mn_eq hne (fun r hr => ?_) (fun r hr => ?_) ⟨_, m0, rfl⟩, mx_eq hne (fun r hr => ?_) (fun r hr => ?_) ⟨_, m2, rfl⟩, mx_eq hne (fun r hr => ?_) (fun r hr => ?_) ⟨_, m2, rfl⟩⟩
  · have := hm r hr; unfold fX; omega
  · rcases hall r hr with rfl | rfl | rfl | rfl <;> simp only [fX] <;> omega
  · have := hm r hr; unfold fY; omega
  · rcases hall r hr with rfl | rfl | rfl | rfl <;> simp only [fY] <;> omega
  · have := hm r hr; unfold fX; omega
  · rcases hall r hr with rfl | rfl | rfl | rfl <;> simp only [fX] <;> omega
  · have := hm r hr; unfold fY; omega
  · rcases hall r hr with rfl | rfl | rfl | rfl <;> simp only [fY] <;> omega
theorem tot_box (x0 y0 x1 y1 : Int) : tot [bxP x0 y0 x1 y1] ≠ 0 := by simp [tot, bxP]
/-- What the law compares of a box. -/
theorem boxes_math {x0 y0 x1 y1 u q : Int} (hx0 : -30 ≤ x0 ∧ x0 ≤ 60) (hx1 : -30 ≤ x1 ∧ x1 ≤ 60) (hy0 : -30 ≤ y0 ∧ y0 ≤ 60) (hy1 : -30 ≤ y1 ∧ y1 ≤ 60) (hx : x0 ≤ x1) (hy : y0 ≤ y1) (hu : u = 4 * q) (hq : q = 1 ∨ q = 2 ∨ q = 3 ∨ q = 4) :
    (dotsV [bxP x0 y0 x1 y1] u).k = 0 ∧ (-100 ≤ (dotsV [bxP x0 y0 x1 y1] u).L ∧ (dotsV [bxP x0 y0 x1 y1] u).L ≤ 100) ∧ (-100 ≤ (dotsV [bxP x0 y0 x1 y1] u).B ∧ (dotsV [bxP x0 y0 x1 y1] u).B ≤ 100) ∧
    ∀ X Y : Int, -12 ≤ X → X ≤ 20 → -12 ≤ Y → Y ≤ 20 → coverV [bxP x0 y0 x1 y1] u X Y = cnB x0 y0 x1 y1 (u * X) (u * Y) q (2 * q) 4 ∧
      getB (dotsV [bxP x0 y0 x1 y1] u).W (dotsV [bxP x0 y0 x1 y1] u).H (dotsV [bxP x0 y0 x1 y1] u).D (X - (dotsV [bxP x0 y0 x1 y1] u).L) (Y - (dotsV [bxP x0 y0 x1 y1] u).B) = decide (2 ≤ cnB x0 y0 x1 y1 (u * X) (u * Y) q (2 * q) 4) := by
  have hu4 : u = 4 ∨ u = 8 ∨ u = 12 ∨ u = 16 := by omega
  have hn := near_box hx0 hx1 hy0 hy1
  have ht := tot_box x0 y0 x1 y1
  obtain ⟨hv, _⟩ := valid_u hu4
  have hal := near_in hn (by omega)
  have hs := side_small hn ht hu4
  obtain ⟨g1, g2, g3, g4⟩ := bx_small hn ht hu4
  obtain ⟨b1, b2, b3, b4⟩ := box_mn hn hx hy
  have eL : bxL [bxP x0 y0 x1 y1] u = x0 / u := by unfold bxL; rw [b1]
  have eB : bxB [bxP x0 y0 x1 y1] u = y0 / u := by unfold bxB; rw [b2]
  have eW : bxW [bxP x0 y0 x1 y1] u = x1 / u - x0 / u + 1 := by unfold bxW; rw [b3, eL]
  have eH : bxH [bxP x0 y0 x1 y1] u = y1 / u - y0 / u + 1 := by unfold bxH; rw [b4, eB]
  rw [dotsV_some hv hal ht hs]
  refine ⟨rfl, ⟨by dsimp only; omega, by dsimp only; omega⟩, ⟨by dsimp only; omega, by dsimp only; omega⟩, fun X Y hX1 hX2 hY1 hY2 => ?_⟩
  dsimp only
  have hcv : cvT [bxP x0 y0 x1 y1] u X Y (u / 4) 4 = cnB x0 y0 x1 y1 (u * X) (u * Y) q (2 * q) 4 :=
    cvT_box hn hx hy hu (by omega) (by rcases hu4 with rfl | rfl | rfl | rfl <;> omega) (by rcases hu4 with rfl | rfl | rfl | rfl <;> omega)
  refine ⟨?_, ?_⟩
  · unfold coverV
    rw [if_pos ⟨hv, in_mk (by omega), in_mk (by omega), hal⟩, hcv]
  · obtain ⟨m, hm⟩ := Int.eq_ofNat_of_zero_le (show 0 ≤ bxW [bxP x0 y0 x1 y1] u by omega)
    obtain ⟨n, hnn⟩ := Int.eq_ofNat_of_zero_le (show 0 ≤ bxH [bxP x0 y0 x1 y1] u by omega)
    rw [hm, hnn, Int.toNat_natCast, Int.toNat_natCast]
    have hm96 : m ≤ 96 := by omega
    have hn96 : n ≤ 96 := by omega
    have hck : bmCheck (m : Int) (n : Int) (dotL [bxP x0 y0 x1 y1] u (bxL [bxP x0 y0 x1 y1] u) (bxB [bxP x0 y0 x1 y1] u) m n).length = 0 := by rw [dotL_len]; simp [bmCheck, sideB]; omega
    by_cases hin : 0 ≤ X - bxL [bxP x0 y0 x1 y1] u ∧ X - bxL [bxP x0 y0 x1 y1] u < m ∧ 0 ≤ Y - bxB [bxP x0 y0 x1 y1] u ∧ Y - bxB [bxP x0 y0 x1 y1] u < n
    · obtain ⟨i1, i2, i3, i4⟩ := hin
      obtain ⟨i, hi⟩ := Int.eq_ofNat_of_zero_le i1
      obtain ⟨j, hj⟩ := Int.eq_ofNat_of_zero_le i3
      have him : i < m := by omega
      have hjn : j < n := by omega
      unfold getB hasB
      rw [hck, hi, hj, decide_eq_true (show (0 : Int) = 0 from rfl), decide_eq_true (show (0 : Int) ≤ (i : Int) by omega), decide_eq_true (show (i : Int) < (m : Int) by omega), decide_eq_true (show (0 : Int) ≤ (j : Int) by omega), decide_eq_true (show (j : Int) < (n : Int) by omega)]
      have hk : ((j : Int) * (m : Int) + (i : Int)).toNat = j * m + i := by rw [← Int.natCast_mul, ← Int.natCast_add, Int.toNat_natCast]
      have hlt := row_lt hjn him
      rw [hk, List.getD_eq_getElem?_getD, List.getElem?_eq_getElem (by rw [dotL_len]; exact hlt)]
      simp only [dotL, List.getElem_map, List.getElem_range, Option.getD_some, decide_true, Bool.true_and]
      unfold dotB
      rw [row_mod him, row_div him, show bxL [bxP x0 y0 x1 y1] u + (i : Int) = X by omega, show bxB [bxP x0 y0 x1 y1] u + (j : Int) = Y by omega, hcv]
    · rw [get_no (fun h => hin h.2), cnB_out]
      · rfl
      · intro s t hs0 ht0
        unfold inBox
        have hne : ¬ (x0 < u * X + q + s ∧ u * X + q + s ≤ x1 ∧ y0 ≤ u * Y + q + t ∧ u * Y + q + t < y1) := by
          intro hh
          apply hin
          rw [eL, eB]
          rw [eW] at hm
          rw [eH] at hnn
          clear hin hcv hck eL eB eW eH g1 g2 g3 g4 b1 b2 b3 b4 hs hal hv ht hn hu4 hm96 hn96
          subst hu
          rcases hq with rfl | rfl | rfl | rfl <;> rcases hs0 with rfl | rfl <;> rcases ht0 with rfl | rfl <;> omega
        by_cases c1 : x0 < u * X + q + s
        · by_cases c2 : u * X + q + s ≤ x1
          · by_cases c3 : y0 ≤ u * Y + q + t
            · by_cases c4 : u * Y + q + t < y1
              · exact absurd ⟨c1, c2, c3, c4⟩ hne
              · simp [c4]
            · simp [c3]
          · simp [c2]
        · simp [c1]
end Go.Proofs.Ytlanefdeeanpnaa
