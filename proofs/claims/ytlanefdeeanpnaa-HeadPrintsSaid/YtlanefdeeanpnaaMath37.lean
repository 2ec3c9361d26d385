/-
  Chapter 37 in plain Lean: both Offsets answer alike. No program in sight.
-/
import Derived.Test.YtlanefdeeanpnaaOffsetR
import Derived.Test.YtlanefdeeanpnaaOffset2
namespace Go.Proofs.Ytlanefdeeanpnaa
set_option linter.unusedVariables false
set_option linter.unusedSimpArgs false
open Go.RowKit

theorem whole_print {m x : Nat} {D Dead : List Bool} : (printL m x D Dead = D) ↔ wholeAt m D Dead x = true := by
  unfold wholeAt
  rw [decide_eq_true_iff]
  constructor
  · intro h k hk hon
    have h1 : (printL m x D Dead).getD k false = D.getD k false := by rw [h]
    have h2 : (printL m x D Dead).getD k false = (D.getD k false && !Dead.getD (x + k / m) false) := by
      rw [List.getD_eq_getElem?_getD, List.getElem?_eq_getElem (by simp [printL]; exact hk)]
      simp [printL]
    rw [h2, hon] at h1
    simpa using h1
  · intro h
    apply List.ext_getElem
    · simp [printL]
    · intro k h1 h2
      have e1 : D.getD k false = D[k] := by rw [List.getD_eq_getElem?_getD, List.getElem?_eq_getElem h2]; rfl
      have e3 : (printL m x D Dead)[k] = (D.getD k false && !Dead.getD (x + k / m) false) := by simp [printL]
      rw [e3, ← e1]
      cases hd : D.getD k false with
      | false => rfl
      | true => rw [h k h2 hd]; rfl
theorem pE_bad {W H : Int} {D Dead : List Bool} {x : Int} (h : ¬ offOk W H D Dead = true) : pE W H x D Dead ≠ 0 := by
  have h' : ¬ (hdCheck Dead.length = 0 ∧ bmCheck W H D.length = 0) := by simpa [offOk] using h
  unfold pE
  split
  · rename_i hb
    have : ¬ pOk W H x D Dead = true := by simp only [pOk, decide_eq_true_eq]; omega
    rw [if_neg this]
    decide
  · assumption
theorem find_congr {α : Type} {f g : α → Bool} : ∀ (l : List α), (∀ x ∈ l, f x = g x) → l.find? f = l.find? g
  | [], _ => rfl
  | a :: l, h => by
    rw [List.find?_cons, List.find?_cons, h a (by simp), find_congr l (fun x hx => h x (by simp [hx]))]
theorem off_eq {W H : Int} {D Dead : List Bool} (hl : Dead.length ≤ 1000000) : refOff W H D Dead (IntKind.i64.wrap ((Dead.length : Int) - H)) = offN W H D Dead := by
  by_cases hok : offOk W H D Dead = true
  · have hok' : hdCheck Dead.length = 0 ∧ bmCheck W H D.length = 0 := by simpa [offOk] using hok
    obtain ⟨hL, hb⟩ := hok'
    obtain ⟨m, n, rfl, rfl, hm, hn, hD⟩ := bmc_ok hb
    obtain ⟨hL1, hL2⟩ := hd_ok hL
    have hw : IntKind.i64.wrap ((Dead.length : Int) - (n : Int)) = (Dead.length : Int) - n := IntWalk.i64_in _ (by omega)
    have hhit : ∀ x : Nat, (x : Int) ≤ (Dead.length : Int) - n → hitR m n D Dead x = wholeAt m D Dead x := by
      intro x hx
      have hp : pOk m n x D Dead = true := by simp only [pOk, decide_eq_true_eq]; omega
      have hpe : pE m n x D Dead = 0 := by unfold pE; rw [if_pos hb, if_pos hp]
      have hpd : pD m n x D Dead = printL m x D Dead := by unfold pD; rw [if_pos hp]; rfl
      have hpw : pW m n x D Dead = m := by unfold pW; rw [if_pos hp]
      have hph : pH m n x D Dead = n := by unfold pH; rw [if_pos hp]
      unfold hitR
      rw [hpe, hpd, hpw, hph]
      cases hwh : wholeAt m D Dead x with
      | true => rw [(whole_print (m := m) (x := x)).2 hwh]; simp [sameB]
      | false =>
        have : ¬ printL m x D Dead = D := fun e => by rw [(whole_print (m := m) (x := x)).1 e] at hwh; cases hwh
        simp [sameB, this]
    have hoff : offN m n D Dead = headOff m n D Dead := by unfold offN; rw [if_pos hok]; rfl
    rw [hoff, hw]
    cases hf : headOff m n D Dead with
    | none =>
      unfold headOff at hf
      rw [List.find?_eq_none] at hf
      exact refOff_none (t := Dead.length + 1 - n) (by omega) (fun x hx => by
        rw [hhit x (by omega)]
        have := hf x (by simpa using hx)
        simpa using this)
    | some x =>
      unfold headOff at hf
      rw [List.find?_range_eq_some] at hf
      obtain ⟨h1, h2, h3⟩ := hf
      have h2' : x < Dead.length + 1 - n := by simpa using h2
      exact refOff_hit (by omega) (by omega) (by rw [hhit x (by omega)]; exact h1) (fun y hy => by
        rw [hhit y (by omega)]
        simpa using h3 y hy)
  · have hoff : offN W H D Dead = none := by unfold offN; rw [if_neg hok]
    rw [hoff]
    exact refOff_none (t := 193) (.inr (by omega)) (fun x _ => by
      unfold hitR
      rw [decide_eq_false (pE_bad hok), Bool.false_and])
end Go.Proofs.Ytlanefdeeanpnaa
