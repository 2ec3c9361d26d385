/-
  Plain laws of layer 37 on worn heads: a further dead nozzle, a further row without dots, a blank bitmap. Conditions: those that each law names.
-/
import Derived.Test.YtlanefdeeanpnaaMath37c
import Derived.Test.YtlanefdeeanpnaaOnly
namespace Go.Proofs.Ytlanefdeeanpnaa
set_option linter.unusedVariables false
set_option linter.unusedSimpArgs false
open Go.RowKit

section
variable {m n x k : Nat} {D Dead : List Bool}
theorem worn_get {j : Nat} (h : Dead.getD j false = true) : (Dead.set k true).getD j false = true := by
  have hj : j < Dead.length := by
    rcases Nat.lt_or_ge j Dead.length with h1 | h1
    · exact h1
    · rw [List.getD_eq_getElem?_getD, List.getElem?_eq_none h1] at h; cases h
  rw [getD_set hj, h]
  split <;> rfl
theorem worn_whole (h : wholeAt m D (Dead.set k true) x = true) : wholeAt m D Dead x = true := by
  unfold wholeAt at h ⊢
  rw [decide_eq_true_iff] at h ⊢
  intro j hj hd
  have h1 := h j hj hd
  cases h2 : Dead.getD (x + j / m) false with
  | false => rfl
  | true => rw [worn_get h2] at h1; cases h1
theorem worn_off : (headOff m n D (Dead.set k true)).isSome = true → (headOff m n D Dead).isSome = true ∧ (headOff m n D Dead).getD 0 ≤ (headOff m n D (Dead.set k true)).getD 0 := by
  intro h
  have hl : (Dead.set k true).length = Dead.length := by simp
  rcases off_told (rfl : headOff m n D (Dead.set k true) = _) with ⟨h1, h2, h3, h4⟩ | ⟨h1, _⟩
  · rw [hl] at h2
    have h5 := worn_whole h3
    rcases off_told (rfl : headOff m n D Dead = _) with ⟨g1, g2, g3, g4⟩ | ⟨g1, g2, g3⟩
    · refine ⟨g1, Nat.le_of_not_lt fun hlt => ?_⟩
      rw [g4 _ hlt] at h5
      cases h5
    · rw [g3 _ h2] at h5
      cases h5
  · rw [h1] at h; cases h
theorem worn_sub {j : Nat} (hj : j < D.length) (h : (printL m x D (Dead.set k true)).getD j false = true) : (printL m x D Dead).getD j false = true := by
  rw [printL_get hj] at h ⊢
  simp only [Bool.and_eq_true, Bool.not_eq_true'] at h ⊢
  refine ⟨h.1, ?_⟩
  cases h2 : Dead.getD (x + j / m) false with
  | false => rfl
  | true => rw [worn_get h2] at h; exact absurd h.2 (by decide)
theorem more_get (hm : m ≤ 96) (hn : n ≤ 96) (hD : D.length = m * n) {j : Nat} (hj : j < m * (n + 1)) : (cropL m n D 0 0 m (n + 1)).getD j false = D.getD j false := by
  have hm0 : 0 < m := Nat.pos_of_mul_pos_right (Nat.lt_of_le_of_lt (Nat.zero_le _) hj)
  have h1 : j % m < m := Nat.mod_lt _ hm0
  have h3 := Nat.div_add_mod j m
  rw [List.getD_eq_getElem?_getD, List.getElem?_eq_getElem (by simp [cropL]; exact hj)]
  simp only [cropL, List.getElem_map, List.getElem_range, Option.getD_some, Int.zero_add]
  by_cases h2 : j / m < n
  · rw [getB_nat (bm_val hm hn hD) h1 h2]
    rw [Nat.mul_comm] at h3
    rw [h3]
  · rw [get_no (by omega)]
    have hle : m * n ≤ j := by
      have := Nat.mul_le_mul_left m (show n ≤ j / m by omega)
      omega
    rw [List.getD_eq_getElem?_getD, List.getElem?_eq_none (by omega)]
    rfl
theorem more_whole (hm : m ≤ 96) (hn : n ≤ 96) (hD : D.length = m * n) : wholeAt m (cropL m n D 0 0 m (n + 1)) Dead x = wholeAt m D Dead x := by
  unfold wholeAt
  rw [cropL_len]
  have hle : m * n ≤ m * (n + 1) := Nat.mul_le_mul_left m (by omega)
  rw [decide_eq_decide]
  constructor
  · intro h j hj hd
    rw [hD] at hj
    exact h j (by omega) (by rw [more_get hm hn hD (by omega)]; exact hd)
  · intro h j hj hd
    rw [more_get hm hn hD hj] at hd
    have hj2 : j < D.length := by
      rcases Nat.lt_or_ge j D.length with h1 | h1
      · exact h1
      · rw [List.getD_eq_getElem?_getD, List.getElem?_eq_none h1] at hd; cases hd
    exact h j hj2 hd
theorem more_off (hm : m ≤ 96) (hn : n ≤ 96) (hD : D.length = m * n) : (headOff m (n + 1) (cropL m n D 0 0 m (n + 1)) Dead).isSome = true →
    (headOff m n D Dead).isSome = true ∧ (headOff m n D Dead).getD 0 = (headOff m (n + 1) (cropL m n D 0 0 m (n + 1)) Dead).getD 0 := by
  intro h
  rcases off_told (rfl : headOff m (n + 1) (cropL m n D 0 0 m (n + 1)) Dead = _) with ⟨h1, h2, h3, h4⟩ | ⟨h1, _⟩
  · rw [more_whole hm hn hD] at h3
    rcases off_told (rfl : headOff m n D Dead = _) with ⟨g1, g2, g3, g4⟩ | ⟨g1, g2, g3⟩
    · refine ⟨g1, ?_⟩
      rcases Nat.lt_trichotomy ((headOff m n D Dead).getD 0) ((headOff m (n + 1) (cropL m n D 0 0 m (n + 1)) Dead).getD 0) with hlt | he | hlt
      · have h5 := h4 _ hlt
        rw [more_whole hm hn hD, g3] at h5
        cases h5
      · exact he
      · rw [g4 _ hlt] at h3; cases h3
    · rw [g3 _ (by omega)] at h3; cases h3
  · rw [h1] at h; cases h
theorem blank_off : (headOff m n (List.replicate (m * n) false) Dead).isSome = decide (n ≤ Dead.length) ∧ (headOff m n (List.replicate (m * n) false) Dead).getD 0 = 0 := by
  have hw : ∀ y, wholeAt m (List.replicate (m * n) false) Dead y = true := fun y => by
    unfold wholeAt
    rw [decide_eq_true_iff]
    intro j hj hd
    rw [List.getD_eq_getElem?_getD, List.getElem?_replicate] at hd
    split at hd <;> cases hd
  rcases off_told (rfl : headOff m n (List.replicate (m * n) false) Dead = _) with ⟨h1, h2, h3, h4⟩ | ⟨h1, h2, h3⟩
  · refine ⟨by rw [h1, decide_eq_true (by omega)], ?_⟩
    rcases Nat.eq_zero_or_pos ((headOff m n (List.replicate (m * n) false) Dead).getD 0) with h0 | h0
    · exact h0
    · have := h4 0 h0
      rw [hw] at this; cases this
  · refine ⟨?_, h2⟩
    rw [h1]
    by_cases hn : n ≤ Dead.length
    · have := h3 0 (by omega)
      rw [hw] at this; cases this
    · rw [decide_eq_false hn]
end
end Go.Proofs.Ytlanefdeeanpnaa
