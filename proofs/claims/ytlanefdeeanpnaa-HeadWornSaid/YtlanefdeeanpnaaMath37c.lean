/-
  Plain laws of layer 37 on parts: what is pasted from two parts of a bitmap that were printed one after the other is what the whole is printed as. Conditions: those that each law names.
-/
import Derived.Test.YtlanefdeeanpnaaMath37b
import Derived.Test.YtlanefdeeanpnaaPaste
import Derived.Test.YtlanefdeeanpnaaCrop
import Derived.Test.YtlanefdeeanpnaaText
namespace Go.Proofs.Ytlanefdeeanpnaa
set_option linter.unusedVariables false
set_option linter.unusedSimpArgs false
open Go.RowKit

theorem getD_set {D : List Bool} {i j : Nat} {b : Bool} (hj : j < D.length) : (D.set i b).getD j false = if i = j then b else D.getD j false := by
  rw [List.getD_eq_getElem?_getD, List.getElem?_set]
  by_cases h : i = j
  · subst h; simp [hj]
  · simp [h]
theorem fold_set_get {N o : Nat} (pre : List (Fin N)) : ∀ (D : List Bool) (j : Nat), j < D.length → (pre.foldl (fun D k => D.set (k.1 + o) true) D).getD j false = (D.getD j false || pre.any fun k => decide (k.1 + o = j)) := by
  induction pre with
  | nil => intro D j hj; simp
  | cons k l ih =>
    intro D j hj
    rw [List.foldl_cons, ih _ j (by simpa using hj), getD_set hj, List.any_cons]
    by_cases h : k.1 + o = j
    · simp [h]
    · simp [h]
theorem onL_any {N o j : Nat} {E : List Bool} : ((onL N E).any fun k => decide (k.1 + o = j)) = (decide (o ≤ j ∧ j - o < N) && E.getD (j - o) false) := by
  rw [Bool.eq_iff_iff, List.any_eq_true]
  simp only [Bool.and_eq_true, decide_eq_true_eq]
  constructor
  · rintro ⟨k, hk, hkj⟩
    have h1 : E.getD k.1 false = true := by
      have := (List.mem_filter.1 hk).2
      simpa using this
    have h2 := k.2
    refine ⟨⟨by omega, by omega⟩, ?_⟩
    rw [show j - o = k.1 by omega]
    exact h1
  · rintro ⟨⟨h1, h2⟩, h3⟩
    refine ⟨⟨j - o, h2⟩, ?_, by show j - o + o = j; omega⟩
    refine List.mem_filter.2 ⟨List.mem_finRange _, ?_⟩
    simpa using h3
/-- Rows of the same width are pasted from row Y on. -/
theorem paste_rows {m n n2 Y : Nat} {D E : List Bool} (hD : D.length = m * n) (hY : Y + n2 ≤ n) {j : Nat} (hj : j < m * n) :
    (pasteL m n m n2 0 (Y : Int) D E).getD j false = (D.getD j false || (decide (Y * m ≤ j ∧ j - Y * m < m * n2) && E.getD (j - Y * m) false)) := by
  have hst : pasteL m n m n2 0 (Y : Int) D E = (onL (m * n2) E).foldl (fun D k => D.set (k.1 + Y * m) true) D := by
    unfold pasteL pasteTo
    congr 1
    funext D k
    have hm : 0 < m := Nat.pos_of_mul_pos_right (Nat.lt_of_le_of_lt (Nat.zero_le _) k.2)
    have h1 : k.1 % m < m := Nat.mod_lt _ hm
    have h2 : k.1 / m < n2 := Nat.div_lt_of_lt_mul k.2
    have h3 := Nat.div_add_mod k.1 m
    unfold pasteStep
    generalize k.1 % m = kx at *
    generalize k.1 / m = ky at *
    rw [if_pos ⟨by omega, by omega, by omega, by omega⟩]
    congr 1
    have e : (ky : Int) + (Y : Int) = ((ky + Y : Nat) : Int) := by omega
    have e2 : (kx : Int) + 0 = (kx : Int) := by omega
    rw [e, e2, ← Int.natCast_mul, ← Int.natCast_add, Int.toNat_natCast, Nat.add_mul, Nat.mul_comm ky m]
    omega
  rw [hst, fold_set_get _ D j (by rw [hD]; exact hj), onL_any]
theorem crop_low {m n k : Nat} {D : List Bool} (hm : m ≤ 96) (hn : n ≤ 96) (hD : D.length = m * n) (hk : k ≤ n) {j : Nat} (hj : j < m * k) : (cropL m n D 0 0 m k).getD j false = D.getD j false := by
  have hm0 : 0 < m := Nat.pos_of_mul_pos_right (Nat.lt_of_le_of_lt (Nat.zero_le _) hj)
  have h1 : j % m < m := Nat.mod_lt _ hm0
  have h2 : j / m < k := Nat.div_lt_of_lt_mul hj
  rw [List.getD_eq_getElem?_getD, List.getElem?_eq_getElem (by simp [cropL]; exact hj)]
  simp only [cropL, List.getElem_map, List.getElem_range, Option.getD_some, Int.zero_add]
  rw [getB_nat (bm_val hm hn hD) h1 (by omega)]
  have := Nat.div_add_mod j m
  rw [Nat.mul_comm] at this
  rw [this]
theorem crop_high {m n k : Nat} {D : List Bool} (hm : m ≤ 96) (hn : n ≤ 96) (hD : D.length = m * n) (hk : k ≤ n) {j : Nat} (hj : j < m * (n - k)) : (cropL m n D 0 (k : Int) m (n - k)).getD j false = D.getD (k * m + j) false := by
  have hm0 : 0 < m := Nat.pos_of_mul_pos_right (Nat.lt_of_le_of_lt (Nat.zero_le _) hj)
  have h1 : j % m < m := Nat.mod_lt _ hm0
  have h2 : j / m < n - k := Nat.div_lt_of_lt_mul hj
  rw [List.getD_eq_getElem?_getD, List.getElem?_eq_getElem (by simp [cropL]; exact hj)]
  simp only [cropL, List.getElem_map, List.getElem_range, Option.getD_some, Int.zero_add]
  rw [show (k : Int) + ((j / m : Nat) : Int) = ((k + j / m : Nat) : Int) by omega, getB_nat (bm_val hm hn hD) h1 (by omega)]
  have := Nat.div_add_mod j m
  rw [Nat.mul_comm] at this
  rw [show (k + j / m) * m + j % m = k * m + j by rw [Nat.add_mul]; omega]
theorem cropL_len (W H : Int) (D : List Bool) (x y : Int) (m n : Nat) : (cropL W H D x y m n).length = m * n := by simp [cropL]
theorem parts_eq {m n k x : Nat} {D Dead : List Bool} (hm : m ≤ 96) (hn : n ≤ 96) (hD : D.length = m * n) (hk : k ≤ n) :
    pasteL m n m (n - k) 0 (k : Int) (pasteL m n m k 0 0 (List.replicate (m * n) false) (printL m x (cropL m n D 0 0 m k) Dead)) (printL m (x + k) (cropL m n D 0 (k : Int) m (n - k)) Dead) = printL m x D Dead := by
  have hl1 : (pasteL m n m k 0 0 (List.replicate (m * n) false) (printL m x (cropL m n D 0 0 m k) Dead)).length = m * n := by
    unfold pasteL; rw [pasteTo_len]; simp
  have hl2 : (pasteL m n m (n - k) 0 (k : Int) (pasteL m n m k 0 0 (List.replicate (m * n) false) (printL m x (cropL m n D 0 0 m k) Dead)) (printL m (x + k) (cropL m n D 0 (k : Int) m (n - k)) Dead)).length = m * n := by
    unfold pasteL at hl1 ⊢; rw [pasteTo_len]; exact hl1
  apply List.ext_getElem
  · rw [hl2, printL_len, hD]
  · intro j h1 h2
    rw [hl2] at h1
    have e1 : ∀ (L : List Bool) (h : j < L.length), L[j] = L.getD j false := fun L h => by rw [List.getD_eq_getElem?_getD, List.getElem?_eq_getElem h]; rfl
    rw [e1, e1, printL_get (by rw [hD]; exact h1)]
    rw [paste_rows hl1 (by omega) h1]
    have h0 := paste_rows (D := List.replicate (m * n) false) (E := printL m x (cropL m n D 0 0 m k) Dead) (m := m) (n := n) (n2 := k) (Y := 0) (by simp) (by omega) h1
    rw [Int.natCast_zero] at h0
    rw [h0]
    have hrep : (List.replicate (m * n) false).getD j false = false := by
      rw [List.getD_eq_getElem?_getD, List.getElem?_replicate]
      split <;> rfl
    rw [hrep, Nat.zero_mul, Nat.sub_zero, Bool.false_or]
    have hmk : m * (n - k) + k * m = m * n := by rw [Nat.mul_comm k m, ← Nat.mul_add]; congr 1; omega
    by_cases hj : j < m * k
    · have hk' : ¬ (k * m ≤ j ∧ j - k * m < m * (n - k)) := by rw [Nat.mul_comm k m]; omega
      rw [decide_eq_true (show 0 ≤ j ∧ j < m * k by omega), decide_eq_false hk', Bool.false_and, Bool.or_false, Bool.true_and, printL_get (by rw [cropL_len]; exact hj), crop_low hm hn hD hk hj]
    · have hk' : k * m ≤ j ∧ j - k * m < m * (n - k) := by rw [Nat.mul_comm m k] at hj; omega
      rw [decide_eq_false (show ¬ (0 ≤ j ∧ j < m * k) by omega), decide_eq_true hk', Bool.false_and, Bool.false_or, Bool.true_and, printL_get (by rw [cropL_len]; exact hk'.2), crop_high hm hn hD hk hk'.2]
      have hm0 : 0 < m := Nat.pos_of_mul_pos_right (Nat.lt_of_le_of_lt (Nat.zero_le _) h1)
      have e2 : k * m + (j - k * m) = j := by omega
      have e3 : x + k + (j - k * m) / m = x + j / m := by
        have : j / m = k + (j - k * m) / m := by
          have h5 := Nat.add_mul_div_right (j - k * m) k hm0
          rw [show j - k * m + k * m = j by omega] at h5
          omega
        omega
      rw [e2, e3]
end Go.Proofs.Ytlanefdeeanpnaa
