/-
  Plain laws of layer 37: what Print and Offset answer for a valid head and a well-formed bitmap, and how many dots are printed. Conditions: those that each law names.
-/
import Derived.Test.YtlanefdeeanpnaaMath37
import Derived.Test.YtlanefdeeanpnaaCnt
namespace Go.Proofs.Ytlanefdeeanpnaa
set_option linter.unusedVariables false
set_option linter.unusedSimpArgs false
open Go.RowKit

theorem hd_val {L : Nat} (h1 : 1 ≤ L) (h2 : L ≤ 192) : hdCheck L = 0 := by simp [hdCheck, h1, h2]
theorem bm_val {m n l : Nat} (hm : m ≤ 96) (hn : n ≤ 96) (hl : l = m * n) : bmCheck m n l = 0 := by
  subst hl
  simp [bmCheck, sideB]
  omega
section
variable {m n x : Nat} {D Dead : List Bool}
theorem pr_in (hm : m ≤ 96) (hn : n ≤ 96) (hD : D.length = m * n) (h1 : 1 ≤ Dead.length) (h2 : Dead.length ≤ 192) (h : x + n ≤ Dead.length) : pE m n x D Dead = 0 ∧ pW m n x D Dead = m ∧ pH m n x D Dead = n ∧ pD m n x D Dead = printL m x D Dead := by
  have hb := bm_val hm hn hD
  have hok : pOk m n x D Dead = true := decide_eq_true ⟨hb, hd_val h1 h2, by omega, by omega⟩
  refine ⟨by unfold pE; rw [if_pos hb, if_pos hok], by unfold pW; rw [if_pos hok], by unfold pH; rw [if_pos hok], by unfold pD; rw [if_pos hok]; rfl⟩
theorem pr_out (hm : m ≤ 96) (hn : n ≤ 96) (hD : D.length = m * n) (h : ¬ x + n ≤ Dead.length) : pE m n x D Dead = 71 ∧ pW m n x D Dead = 0 ∧ pH m n x D Dead = 0 ∧ pD m n x D Dead = [] := by
  have hb := bm_val hm hn hD
  have hok : ¬ pOk m n x D Dead = true := by
    intro hh
    have := of_decide_eq_true hh
    omega
  refine ⟨by unfold pE; rw [if_pos hb, if_neg hok], by unfold pW; rw [if_neg hok], by unfold pH; rw [if_neg hok], by unfold pD; rw [if_neg hok]⟩
theorem off_val (hm : m ≤ 96) (hn : n ≤ 96) (hD : D.length = m * n) (h1 : 1 ≤ Dead.length) (h2 : Dead.length ≤ 192) : offN m n D Dead = headOff m n D Dead := by
  have hb := bm_val hm hn hD
  have : offOk m n D Dead = true := decide_eq_true ⟨hd_val h1 h2, hb⟩
  unfold offN
  rw [if_pos this]
  rfl
/-- Offset's answer, told. -/
theorem off_said {o : Option Nat} (h : headOff m n D Dead = o) (hn : n ≤ Dead.length ∨ o = none) :
    (o.isSome = true ∧ o.getD 0 + n ≤ Dead.length ∧ wholeAt m D Dead (o.getD 0) = true ∧ ∀ y, y < o.getD 0 → wholeAt m D Dead y = false) ∨ (o.isSome = false ∧ o.getD 0 = 0 ∧ ∀ y, y + n ≤ Dead.length → wholeAt m D Dead y = false) := by
  cases o with
  | none =>
    right
    refine ⟨rfl, rfl, fun y hy => ?_⟩
    unfold headOff at h
    rw [List.find?_eq_none] at h
    have := h y (by simp; omega)
    simpa using this
  | some x =>
    left
    unfold headOff at h
    rw [List.find?_range_eq_some] at h
    obtain ⟨h1, h2, h3⟩ := h
    have h2' : x < Dead.length + 1 - n := by simpa using h2
    refine ⟨rfl, ?_, h1, fun y hy => ?_⟩
    · rcases hn with hn | hn
      · show x + n ≤ _; omega
      · cases hn
    · have := h3 y hy
      simpa using this
theorem off_told {o : Option Nat} (h : headOff m n D Dead = o) :
    (o.isSome = true ∧ o.getD 0 + n ≤ Dead.length ∧ wholeAt m D Dead (o.getD 0) = true ∧ ∀ y, y < o.getD 0 → wholeAt m D Dead y = false) ∨ (o.isSome = false ∧ o.getD 0 = 0 ∧ ∀ y, y + n ≤ Dead.length → wholeAt m D Dead y = false) := by
  refine off_said h ?_
  by_cases hn : n ≤ Dead.length
  · exact .inl hn
  · right
    rw [← h]
    unfold headOff
    rw [show Dead.length + 1 - n = 0 by omega]
    rfl
end
theorem printL_len (m x : Nat) (D Dead : List Bool) : (printL m x D Dead).length = D.length := by simp [printL]
theorem printL_get {m x k : Nat} {D Dead : List Bool} (hk : k < D.length) : (printL m x D Dead).getD k false = (D.getD k false && !Dead.getD (x + k / m) false) := by
  rw [List.getD_eq_getElem?_getD, List.getElem?_eq_getElem (by simp [printL]; exact hk)]
  simp [printL]
/-- Fewer dots, pointwise: no more in number, and as many only where they are the same. -/
theorem cntB_sub : ∀ {P D : List Bool}, P.length = D.length → (∀ k, k < D.length → P.getD k false = true → D.getD k false = true) → cntB P ≤ cntB D ∧ (cntB P = cntB D → P = D)
  | [], [], _, _ => ⟨Nat.le_refl _, fun _ => rfl⟩
  | [], _ :: _, h, _ => by simp at h
  | _ :: _, [], h, _ => by simp at h
  | a :: P, b :: D, h, hs => by
    have hl : P.length = D.length := by simpa using h
    obtain ⟨h1, h2⟩ := cntB_sub hl (fun k hk hp => by
      have := hs (k + 1) (by simp; omega) (by simpa using hp)
      simpa using this)
    have h0 := hs 0 (by simp)
    simp only [List.getD_cons_zero] at h0
    cases a <;> cases b
    · simp only [cntB, Bool.false_eq_true, if_false]
      exact ⟨by omega, fun e => by rw [h2 (by omega)]⟩
    · simp only [cntB, Bool.false_eq_true, if_false, if_true]
      exact ⟨by omega, fun e => by omega⟩
    · exact absurd (h0 rfl) (by decide)
    · simp only [cntB, if_true]
      exact ⟨by omega, fun e => by rw [h2 (by omega)]⟩
theorem cnt_print {m x : Nat} {D Dead : List Bool} (h : wholeAt m D Dead x = false) : ¬ cntB (printL m x D Dead) = cntB D := by
  intro he
  have hs := cntB_sub (P := printL m x D Dead) (D := D) (printL_len _ _ _ _) (fun k hk hp => by
    rw [printL_get hk] at hp
    simp only [Bool.and_eq_true] at hp
    exact hp.1)
  have := whole_print.1 (hs.2 he)
  rw [h] at this
  cases this
end Go.Proofs.Ytlanefdeeanpnaa
