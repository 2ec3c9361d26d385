/-
  Plain laws: outside of the box of all points the winding number is 0. Conditions: none; no step of the program is taken here.
-/
import Derived.Test.YtlanefdeeanpnaaBoxesM
namespace Go.Proofs.Ytlanefdeeanpnaa
set_option linter.unusedVariables false
set_option linter.unusedSimpArgs false
open Go.RowKit

def sgm (y : Int) (p : Pt) : Int := if y < p.2.1 then 1 else 0
theorem third_right {aX bX x s D : Int} (h1 : aX < x) (h2 : bX < x) (hs : 0 ≤ s) (hD : s < D) : (bX - aX) * s < (x - aX) * D := by
  have hp : 0 < (x - aX) * D := Int.mul_pos (by omega) (by omega)
  rcases Int.lt_or_le 0 (bX - aX) with h | h
  · have e1 := Int.mul_le_mul_of_nonneg_left (show s ≤ D by omega) (show 0 ≤ bX - aX by omega)
    have e2 := Int.mul_lt_mul_of_pos_right (show bX - aX < x - aX by omega) (show 0 < D by omega)
    omega
  · have e1 := Int.mul_le_mul_of_nonneg_right h hs
    rw [Int.zero_mul] at e1
    omega
theorem third_left {aX bX x s D : Int} (h1 : x < aX) (h2 : x < bX) (hs : 0 ≤ s) (hD : s < D) : ¬ (bX - aX) * s < (x - aX) * D := by
  have hp : 0 < (aX - x) * D := Int.mul_pos (by omega) (by omega)
  have hn : (x - aX) * D = -((aX - x) * D) := by rw [← Int.neg_mul]; congr 1; omega
  rcases Int.lt_or_le (bX - aX) 0 with h | h
  · have e1 := Int.mul_le_mul_of_nonneg_left (show s ≤ D by omega) (show 0 ≤ aX - bX by omega)
    have e2 := Int.mul_lt_mul_of_pos_right (show aX - bX < aX - x by omega) (show 0 < D by omega)
    have e3 : (bX - aX) * s = -((aX - bX) * s) := by rw [← Int.neg_mul]; congr 1; omega
    omega
  · have e1 := Int.mul_le_mul_of_nonneg_right h hs
    rw [Int.zero_mul] at e1
    omega
theorem turns_right {a b : Pt} {x : Int} (y : Int) (ha : a.1 < x) (hb : b.1 < x) : turnsV a b x y = sgm y b - sgm y a := by
  unfold turnsV sgm
  by_cases h1 : y < a.2.1
  · rw [if_neg (by omega), if_pos h1]
    by_cases h2 : y < b.2.1
    · rw [if_neg (by omega), if_pos h2]; rfl
    · rw [if_pos ⟨by omega, h1, third_right hb ha (by omega) (by omega)⟩, if_neg h2]; rfl
  · by_cases h2 : y < b.2.1
    · rw [if_pos ⟨by omega, h2, third_right ha hb (by omega) (by omega)⟩, if_pos h2, if_neg h1]; rfl
    · rw [if_neg (by omega), if_neg (by omega), if_neg h1, if_neg h2]; rfl
theorem turns_left {a b : Pt} {x : Int} (y : Int) (ha : x < a.1) (hb : x < b.1) : turnsV a b x y = 0 := by
  unfold turnsV
  rw [if_neg (fun h => third_left ha hb (by omega) (by omega) h.2.2), if_neg (fun h => third_left hb ha (by omega) (by omega) h.2.2)]
theorem turns_above {a b : Pt} {x y : Int} (ha : a.2.1 ≤ y) (hb : b.2.1 ≤ y) : turnsV a b x y = 0 := by
  unfold turnsV
  rw [if_neg (by omega), if_neg (by omega)]
theorem turns_below {a b : Pt} {x y : Int} (ha : y < a.2.1) (hb : y < b.2.1) : turnsV a b x y = 0 := by
  unfold turnsV
  rw [if_neg (by omega), if_neg (by omega)]
theorem pth_right {x : Int} (y : Int) : ∀ (l : List Pt) (a b : Pt), a.1 < x → b.1 < x → (∀ q ∈ l, q.1 < x) → pth x y a (l ++ [b]) = sgm y b - sgm y a
  | [], a, b, ha, hb, _ => by simp only [List.nil_append, pth]; rw [turns_right y ha hb]; omega
  | c :: l, a, b, ha, hb, hl => by
    have hc := hl c (by simp)
    simp only [List.cons_append, pth]
    rw [turns_right y ha hc, pth_right y l c b hc hb (fun q hq => hl q (by simp [hq]))]
    omega
theorem pth_zero {x y : Int} {S : Pt → Prop} (hS : ∀ a b, S a → S b → turnsV a b x y = 0) : ∀ (l : List Pt) (a : Pt), S a → (∀ q ∈ l, S q) → pth x y a l = 0
  | [], _, _, _ => rfl
  | c :: l, a, ha, hl => by
    have hc := hl c (by simp)
    simp only [pth]
    rw [hS a c ha hc, pth_zero hS l c hc (fun q hq => hl q (by simp [hq]))]
    rfl
theorem ring_zero {x y : Int} {S : Pt → Prop} (hS : ∀ a b, S a → S b → turnsV a b x y = 0) (p : List Pt) (h : ∀ q ∈ p, S q) : ring x y p = 0 := by
  cases p with
  | nil => rfl
  | cons a t => exact pth_zero hS _ a (h a (by simp)) (fun q hq => by
      rcases List.mem_append.1 hq with hq | hq
      · exact h q (by simp [hq])
      · rw [List.mem_singleton.1 hq]; exact h a (by simp))
theorem rings_zero {x y : Int} {ls : List (List Pt)} (h : ∀ p ∈ ls, ring x y p = 0) : rings x y ls = 0 := by
  induction ls with
  | nil => rfl
  | cons p ls ih =>
    rw [rings_cons, h p (by simp), ih (fun q hq => h q (by simp [hq]))]
    rfl
theorem out_right {ls : List (List Pt)} (h : ∀ p ∈ ls, ∀ q ∈ p, smallP q) (y : Int) : rings 56 y ls = 0 :=
  rings_zero (fun p hp => by
    cases p with
    | nil => rfl
    | cons a t =>
      have hq : ∀ q ∈ a :: t, q.1 < 56 := fun q hq => by have := h _ hp q hq; unfold smallP at this; omega
      show pth 56 y a (t ++ [a]) = 0
      rw [pth_right y t a a (hq a (by simp)) (hq a (by simp)) (fun q hq' => hq q (by simp [hq']))]
      omega)
theorem out_left {ls : List (List Pt)} (h : ∀ p ∈ ls, ∀ q ∈ p, smallP q) (y : Int) : rings (-25) y ls = 0 :=
  rings_zero (fun p hp => ring_zero (S := fun q => -25 < q.1) (fun a b ha hb => turns_left y ha hb) p (fun q hq => by have := h p hp q hq; unfold smallP at this; omega))
theorem out_above {ls : List (List Pt)} (h : ∀ p ∈ ls, ∀ q ∈ p, smallP q) (x : Int) : rings x 56 ls = 0 :=
  rings_zero (fun p hp => ring_zero (S := fun q => q.2.1 ≤ 56) (fun a b ha hb => turns_above ha hb) p (fun q hq => by have := h p hp q hq; unfold smallP at this; omega))
theorem out_below {ls : List (List Pt)} (h : ∀ p ∈ ls, ∀ q ∈ p, smallP q) (x : Int) : rings x (-25) ls = 0 :=
  rings_zero (fun p hp => ring_zero (S := fun q => -25 < q.2.1) (fun a b ha hb => turns_below ha hb) p (fun q hq => by have := h p hp q hq; unfold smallP at this; omega))
end Go.Proofs.Ytlanefdeeanpnaa
