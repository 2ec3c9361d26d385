/-
  Plain sums over the dots of a bitmap: columns, rows, and all dots to the left of a column and below a row. Conditions: none.
-/
import Derived.Test.YtlanefdeeanpnaaCrop
namespace Go.Proofs.Ytlanefdeeanpnaa
set_option linter.unusedVariables false
set_option linter.unusedSimpArgs false

def dotN (W : Nat) (D : List Bool) (i j : Nat) : Int := if D.getD (j * W + i) false = true then 1 else 0
/-- dots of column i below y -/
def csum (W : Nat) (D : List Bool) (i : Nat) : Nat → Int
  | 0 => 0
  | y + 1 => csum W D i y + dotN W D i y
/-- dots to the left of x and below y -/
def pre (W : Nat) (D : List Bool) : Nat → Nat → Int
  | 0, _ => 0
  | x + 1, y => pre W D x y + csum W D x y
/-- dots of row y to the left of x -/
def rsum (W : Nat) (D : List Bool) (y : Nat) : Nat → Int
  | 0 => 0
  | x + 1 => rsum W D y x + dotN W D x y
theorem dotN_bd (W : Nat) (D : List Bool) (i j : Nat) : 0 ≤ dotN W D i j ∧ dotN W D i j ≤ 1 := by unfold dotN; split <;> omega
theorem csum_bd (W : Nat) (D : List Bool) (i y : Nat) : 0 ≤ csum W D i y ∧ csum W D i y ≤ y := by
  induction y with
  | zero => simp [csum]
  | succ y ih => have := dotN_bd W D i y; simp only [csum]; omega
theorem rsum_bd (W : Nat) (D : List Bool) (y x : Nat) : 0 ≤ rsum W D y x ∧ rsum W D y x ≤ x := by
  induction x with
  | zero => simp [rsum]
  | succ x ih => have := dotN_bd W D x y; simp only [rsum]; omega
theorem pre_bd (W : Nat) (D : List Bool) (x y : Nat) : 0 ≤ pre W D x y ∧ pre W D x y ≤ x * y := by
  induction x with
  | zero => simp [pre]
  | succ x ih =>
    have := csum_bd W D x y
    simp only [pre]
    rw [Int.natCast_add, Int.add_mul]
    omega
theorem pre_zero (W : Nat) (D : List Bool) (x : Nat) : pre W D x 0 = 0 := by
  induction x with
  | zero => rfl
  | succ x ih => simp [pre, ih, csum]
theorem pre_row (W : Nat) (D : List Bool) (x y : Nat) : pre W D x (y + 1) = pre W D x y + rsum W D y x := by
  induction x with
  | zero => rfl
  | succ x ih => simp only [pre, csum, rsum]; omega
theorem csum_mono (W : Nat) (D : List Bool) (i : Nat) {a b : Nat} (h : a ≤ b) : csum W D i a ≤ csum W D i b := by
  induction h with
  | refl => exact Int.le_refl _
  | step _ ih => simp only [csum]; have := dotN_bd W D i (by assumption); omega

/-- What a square holds: between columns l and r, between rows lo and hi. -/
def box (W : Nat) (D : List Bool) (l r lo hi : Nat) : Int := pre W D r hi - pre W D l hi - pre W D r lo + pre W D l lo
theorem box_zero (W : Nat) (D : List Bool) (l lo hi : Nat) : box W D l l lo hi = 0 := by unfold box; omega
theorem box_step (W : Nat) (D : List Bool) (l r lo hi : Nat) : box W D l (r + 1) lo hi = box W D l r lo hi + (csum W D r hi - csum W D r lo) := by simp only [box, pre]; omega
theorem box_bd (W : Nat) (D : List Bool) (l n lo hi : Nat) (h : lo ≤ hi) : 0 ≤ box W D l (l + n) lo hi ∧ box W D l (l + n) lo hi ≤ n * hi := by
  induction n with
  | zero => rw [Nat.add_zero, box_zero]; simp
  | succ n ih =>
    rw [← Nat.add_assoc, box_step]
    have h1 := csum_mono W D (l + n) h
    have h2 := csum_bd W D (l + n) hi
    have h3 := csum_bd W D (l + n) lo
    rw [Int.natCast_add, Int.add_mul]
    omega

/-- The dots in the square of a dot. -/
def sqN (W H : Nat) (D : List Bool) (x y b : Nat) : Int := box W D (x - b) (min W (x + b + 1)) (y - b) (min H (y + b + 1))

/-- The sums, as far as t of them are made. -/
def sumsP (W : Nat) (D : List Bool) (n t : Nat) : List Int := (List.range n).map fun k => if k < t then pre W D (k % (W + 1)) (k / (W + 1)) else 0
theorem sumsP_len (W : Nat) (D : List Bool) (n t : Nat) : (sumsP W D n t).length = n := by simp [sumsP]
theorem sumsP_at (W : Nat) (D : List Bool) (n t k : Nat) (hk : k < n) (ht : k < t) : (sumsP W D n t)[k]'(by rw [sumsP_len]; exact hk) = pre W D (k % (W + 1)) (k / (W + 1)) := by simp [sumsP, ht]
theorem sumsP_start (W : Nat) (D : List Bool) (n : Nat) : sumsP W D n (W + 2) = List.replicate n 0 := by
  apply List.ext_getElem
  · simp [sumsP]
  · intro k h1 h2
    simp only [sumsP, List.getElem_map, List.getElem_range, List.getElem_replicate]
    split
    · rcases Nat.lt_or_ge k (W + 1) with h | h
      · rw [Nat.div_eq_of_lt h, pre_zero]
      · rw [show k = W + 1 by omega, Nat.mod_self]; rfl
    · rfl
theorem sumsP_set (W : Nat) (D : List Bool) (n t : Nat) (v : Int) (h : v = pre W D (t % (W + 1)) (t / (W + 1))) : (sumsP W D n t).set t v = sumsP W D n (t + 1) := by
  apply List.ext_getElem
  · simp [sumsP]
  · intro j h1 h2
    rw [List.getElem_set]
    simp only [sumsP, List.getElem_map, List.getElem_range]
    split
    · rename_i e
      subst e
      rw [if_pos (by omega), h]
    · by_cases hj : j < t
      · rw [if_pos hj, if_pos (by omega)]
      · rw [if_neg hj, if_neg (by omega)]
theorem sumsP_col (W : Nat) (D : List Bool) (n y : Nat) : sumsP W D n (y * (W + 1)) = sumsP W D n (y * (W + 1) + 1) := by
  apply List.map_congr_left
  intro k hk
  by_cases h : k < y * (W + 1)
  · rw [if_pos h, if_pos (by omega)]
  · rw [if_neg h]
    split
    · rw [show k = y * (W + 1) by omega, Nat.mul_mod_left]; rfl
    · rfl
theorem sumsP_done (W H : Nat) (D : List Bool) : sumsP W D ((W + 1) * (H + 1)) ((H + 1) * (W + 1) + 1) = sumsP W D ((W + 1) * (H + 1)) ((W + 1) * (H + 1)) := by
  apply List.map_congr_left
  intro k hk
  have : k < (W + 1) * (H + 1) := by simpa using hk
  rw [if_pos (by rw [Nat.mul_comm (H + 1)]; omega), if_pos this]
theorem sums_get (W H : Nat) (D : List Bool) (x y : Nat) (hx : x ≤ W) (hy : y ≤ H) :
    ∃ h : y * (W + 1) + x < (sumsP W D ((W + 1) * (H + 1)) ((W + 1) * (H + 1))).length, (sumsP W D ((W + 1) * (H + 1)) ((W + 1) * (H + 1)))[y * (W + 1) + x] = pre W D x y := by
  have hl := row_lt (m := W + 1) (n := H + 1) (k := y) (i := x) (by omega) (by omega)
  refine ⟨by rw [sumsP_len]; exact hl, ?_⟩
  rw [sumsP_at _ _ _ _ _ hl hl, row_mod (by omega), row_div (by omega)]

end Go.Proofs.Ytlanefdeeanpnaa
