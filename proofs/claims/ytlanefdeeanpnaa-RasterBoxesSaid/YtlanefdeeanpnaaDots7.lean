/-
  Contract of Dots of the program's raster package. Conditions: at most 1000 polygons with at most 1000 points, read below the heap's size.
-/
import Derived.Test.YtlanefdeeanpnaaBox7
import Derived.Test.YtlanefdeeanpnaaPolygon
import Derived.Test.YtlanefdeeanpnaaCrop2
namespace Go.Proofs.Ytlanefdeeanpnaa
set_option linter.unusedVariables false
set_option linter.unusedSimpArgs false
open Go.RowKit
attribute [local go_sem ↓] Go.wp_at_zero Go.wp_at_succ

/-- The box in dots: left, low, width, height. -/
def bxL (ls : List (List Pt)) (u : Int) : Int := mnF fX (pts ls) 2147483648 / u
def bxB (ls : List (List Pt)) (u : Int) : Int := mnF fY (pts ls) 2147483648 / u
def bxW (ls : List (List Pt)) (u : Int) : Int := mxF fX (pts ls) (-2147483648) / u - bxL ls u + 1
def bxH (ls : List (List Pt)) (u : Int) : Int := mxF fY (pts ls) (-2147483648) / u - bxB ls u + 1
/-- One dot. -/
def dotB (ls : List (List Pt)) (u L B : Int) (m k : Nat) : Bool := decide (2 ≤ cvT ls u (L + ((k % m : Nat) : Int)) (B + ((k / m : Nat) : Int)) (u / 4) 4)
def dotL (ls : List (List Pt)) (u L B : Int) (m n : Nat) : List Bool := (List.range (m * n)).map (dotB ls u L B m)
/-- The dots up to number t. -/
def dotT (ls : List (List Pt)) (u L B : Int) (m n t : Nat) : List Bool := (List.range (m * n)).map fun k => decide (k < t) && dotB ls u L B m k
theorem dotT_len (ls : List (List Pt)) (u L B : Int) (m n t : Nat) : (dotT ls u L B m n t).length = m * n := by simp [dotT]
theorem dotL_len (ls : List (List Pt)) (u L B : Int) (m n : Nat) : (dotL ls u L B m n).length = m * n := by simp [dotL]
theorem dotT_zero (ls : List (List Pt)) (u L B : Int) (m n : Nat) : dotT ls u L B m n 0 = List.replicate (m * n) false := by
  apply List.ext_getElem
  · simp [dotT]
  · intro k h1 h2; simp [dotT]
theorem dotT_all (ls : List (List Pt)) (u L B : Int) (m n : Nat) : dotT ls u L B m n (m * n) = dotL ls u L B m n := by
  apply List.ext_getElem
  · simp [dotT, dotL]
  · intro k h1 h2
    have : k < m * n := by simpa [dotT] using h1
    simp [dotT, dotL, this]
theorem dotT_set {ls : List (List Pt)} {u L B : Int} {m n k i : Nat} (hk : k < n) (hi : i < m) : (dotT ls u L B m n (k * m + i)).set (k * m + i) (decide (2 ≤ cvT ls u (L + i) (B + k) (u / 4) 4)) = dotT ls u L B m n (k * m + i + 1) := by
  have hb : dotB ls u L B m (k * m + i) = decide (2 ≤ cvT ls u (L + i) (B + k) (u / 4) 4) := by unfold dotB; rw [row_mod hi, row_div hi]
  rw [← hb]
  apply List.ext_getElem
  · simp [dotT]
  · intro j h1 h2
    rw [List.getElem_set]
    by_cases h : k * m + i = j
    · subst h
      rw [if_pos rfl]
      simp [dotT]
    · rw [if_neg h]
      simp only [dotT, List.getElem_map, List.getElem_range]
      have : decide (j < k * m + i) = decide (j < k * m + i + 1) := by
        rw [decide_eq_decide]; omega
      rw [this]
theorem dotT_at {ls : List (List Pt)} {u L B : Int} {m n t : Nat} (ht : t < m * n) : (dotT ls u L B m n t)[t]'(by rw [dotT_len]; exact ht) = false := by simp [dotT]

theorem store5 {w W : World} {g : Nat} {t : TypeId} {a0 a1 a2 a3 a4 b0 b1 b2 b3 b4 : Value} (hW : W = ((((w.setCell ⟨g, 0, none⟩ b0).setCell ⟨g, 1, none⟩ b1).setCell ⟨g, 2, none⟩ b2).setCell ⟨g, 3, none⟩ b3).setCell ⟨g, 4, none⟩ b4) (h : Blk w g t #[a0, a1, a2, a3, a4]) : Blk W g t #[b0, b1, b2, b3, b4] ∧ Kp [g] w W := by
  subst hW
  exact ⟨by simpa using ((((h.set_ 0 b0).set_ 1 b1).set_ 2 b2).set_ 3 b3).set_ 4 b4, ((((((Kp.refl [g] w).set (.inl (by simp)) 0 b0).set (.inl (by simp)) 1 b1).set (.inl (by simp)) 2 b2).set (.inl (by simp)) 3 b3).set (.inl (by simp)) 4 b4)⟩
abbrev zPic : Value := .agg #[.int .i64 0, .int .i64 0, .int .i64 0, .int .i64 0, .slice none 0 0]
set_option maxHeartbeats 4000000 in
set_option maxRecDepth 100000 in
/-- Where Dots refuses, or there is no point. -/
theorem Dots_no (ls : List (List Pt)) (A : Option Addr) (c : Nat) (u : Int) (w : World) (hl : ls.length ≤ 1000) (hp : ∀ p ∈ ls, p.length ≤ 1000) (k : Int) (hk : (validB u = false ∧ k = 1) ∨ (validB u = true ∧ allIn ls = false ∧ k = 3) ∨ (validB u = true ∧ allIn ls = true ∧ tot ls = 0 ∧ k = 0)) (hr : RdPs w w.heap.size A ls) :
    Calls Try.prog 58 #[.slice A ls.length c, .int .i64 u] w fun e w' => e = .returned (.tuple #[zPic, .int .i64 k]) ∧ Below w.heap.size w w' := by
  have CR := Lib.hid (fun w h => raster_ranged ls A c w hl hp h)
  have CV := Lib.hid (raster_valid u)
  have HR := Lib.hid hr
  have HRN := Lib.hid (show rangedN ls = if allIn ls = true then (tot ls : Int) else -1 from rfl)
  clear hr hp
  generalize rangedN ls = rn at *
  generalize validB u = bv at *
  generalize allIn ls = ba at *
  generalize tot ls = tn at *
  generalize ls.length = l at *
  go_enter Try.func58, Try.ntmps58
  go_wp2_with fail
  refine calls_world (fun W0 hW0 => ?_)
  obtain ⟨hB0, hbw, hs0⟩ := new1 hW0
  clear hW0
  generalize hq : w.heap.size = p at *
  have HP := Lib.hid hq
  clear hq
  refine (CR.out _ ((HR.out.below hbw (Nat.le_refl _)).more (by omega))).mono ?_
  rintro e w1 ⟨rfl, hb1⟩
  have hB1 := hB0.below hb1 hB0.lt
  have hbw1 := hbw.trans (hb1.mono (by omega))
  have hz := hB1.lt
  obtain ⟨e0, e1, e2, e3, e4⟩ := hB1.five
  have f0 := hB1.frozen 0
  have f1 := hB1.frozen 1
  have f2 := hB1.frozen 2
  have f3 := hB1.frozen 3
  have f4 := hB1.frozen 4
  go_wp2_with fail
  refine (CV.out _).mono ?_
  rintro e wa ⟨rfl, rfl⟩
  rcases hk with ⟨rfl, rfl⟩ | ⟨rfl, rfl, rfl⟩ | ⟨rfl, rfl, rfl, rfl⟩
  · skip
    go_wp2
    obtain ⟨hR9, hk9⟩ := store5 (w := w1) (b0 := .int .i64 0) (b1 := .int .i64 0) (b2 := .int .i64 0) (b3 := .int .i64 0) (b4 := .slice none 0 0) rfl hB1
    have hB9 := hbw1.trans (hk9.to_below (by omega) (by simp))
    generalize ((((World.setCell w1 ⟨p, 0, none⟩ (.int .i64 0)).setCell ⟨p, 1, none⟩ (.int .i64 0)).setCell ⟨p, 2, none⟩ (.int .i64 0)).setCell ⟨p, 3, none⟩ (.int .i64 0)).setCell ⟨p, 4, none⟩ (.slice none 0 0) = W9 at *
    obtain ⟨s0, s1, s2, s3, s4⟩ := hR9.five
    exact bodyPost_ret (v := .tuple #[zPic, .int .i64 1]) (by simp [results, Try.results58, go_sem, s0, s1, s2, s3, s4]) rfl ⟨rfl, by rw [HP.out]; exact hB9⟩
  · obtain rfl : rn = -1 := by rw [HRN.out]; rfl
    go_wp2
    obtain ⟨hR9, hk9⟩ := store5 (w := w1) (b0 := .int .i64 0) (b1 := .int .i64 0) (b2 := .int .i64 0) (b3 := .int .i64 0) (b4 := .slice none 0 0) rfl hB1
    have hB9 := hbw1.trans (hk9.to_below (by omega) (by simp))
    generalize ((((World.setCell w1 ⟨p, 0, none⟩ (.int .i64 0)).setCell ⟨p, 1, none⟩ (.int .i64 0)).setCell ⟨p, 2, none⟩ (.int .i64 0)).setCell ⟨p, 3, none⟩ (.int .i64 0)).setCell ⟨p, 4, none⟩ (.slice none 0 0) = W9 at *
    obtain ⟨s0, s1, s2, s3, s4⟩ := hR9.five
    exact bodyPost_ret (v := .tuple #[zPic, .int .i64 3]) (by simp [results, Try.results58, go_sem, s0, s1, s2, s3, s4]) rfl ⟨rfl, by rw [HP.out]; exact hB9⟩
  · obtain rfl : rn = 0 := by rw [HRN.out]; rfl
    go_wp2
    obtain ⟨hR9, hk9⟩ := store5 (w := w1) (b0 := .int .i64 0) (b1 := .int .i64 0) (b2 := .int .i64 0) (b3 := .int .i64 0) (b4 := .slice none 0 0) rfl hB1
    have hB9 := hbw1.trans (hk9.to_below (by omega) (by simp))
    generalize ((((World.setCell w1 ⟨p, 0, none⟩ (.int .i64 0)).setCell ⟨p, 1, none⟩ (.int .i64 0)).setCell ⟨p, 2, none⟩ (.int .i64 0)).setCell ⟨p, 3, none⟩ (.int .i64 0)).setCell ⟨p, 4, none⟩ (.slice none 0 0) = W9 at *
    obtain ⟨s0, s1, s2, s3, s4⟩ := hR9.five
    exact bodyPost_ret (v := .tuple #[zPic, .int .i64 0]) (by simp [results, Try.results58, go_sem, s0, s1, s2, s3, s4]) rfl ⟨rfl, by rw [HP.out]; exact hB9⟩
end Go.Proofs.Ytlanefdeeanpnaa
