/-
  The law for a region that draws its order, without a forced tail: all of it is walked with the loads first, under one condition on the world. Conditions: none; no function of the program is named here.
-/
import Derived.Test.YtlanefdeeanpnaaRegion
namespace Go.Proofs.Ytlanefdeeanpnaa
set_option linter.unusedVariables false
set_option linter.unusedSimpArgs false
open Go.RowKit

section
variable {P : Program} {ops : Array Oper} {Q : Exit → Act → World → Prop} {md : Region.Mode} {S : World → Prop}

theorem wpU_first {i : Nat} {oi : Oper} {v : Value} (hi : ops[i]? = some oi) (hsel0 : Region.noSelect ops = true)
    (hQ : ∀ c a w, Q (.panic c) (a.put oi.dst v) w → Q (.panic c) a w) :
    ∀ (fuel : Nat) (listed : Array Bool) (a : Act) (w : World),
      (∀ j oj, ops[j]? = some oj → j ≠ i → listed.getD j true = false → (∀ e ∈ oj.after, Region.binds md e = true → e.on ≠ i) → oi.apart ops oj = true) →
      i ∈ Region.ready md ops listed → YieldsIf P ops S oi v a → S w →
      wpT P md ops Q S ops.size fuel (listed.setIfInBounds i true) (a.put oi.dst v) w → wpT P md ops Q S ops.size (fuel + 1) listed a w := by
  have hsel := Region.noSelect_spec hsel0
  intro fuel
  induction fuel with
  | zero =>
    intro listed a w _ hr hy hS H
    refine ⟨fun h => (by rw [h] at hr; cases hr), fun j hj => ?_⟩
    by_cases hji : j = i
    · subst hji; exact hy.wpOp hi hS ⟨fun _ => hS, H⟩
    · have := ready_mono hj hji
      rw [H.1] at this
      cases this
  | succ fuel ih =>
    intro listed a w hfree hr hy hS H
    have hun := (mem_ready.1 hr).1
    refine ⟨fun h => (by rw [h] at hr; cases hr), fun j hj => ?_⟩
    by_cases hji : j = i
    · subst hji; exact hy.wpOp hi hS ⟨fun _ => hS, H⟩
    · have h1 := H.2 j (ready_mono hj hji)
      obtain ⟨hjun, oj, hoj, hall⟩ := mem_ready.1 hj
      have hjn : j < ops.size := by
        rcases Nat.lt_or_ge j ops.size with h | h
        · exact h
        · rw [Array.getElem?_eq_none h] at hoj; cases hoj
      have hnot : ∀ e ∈ oj.after, Region.binds md e = true → e.on ≠ i := fun e he hb heq => by
        have h1 := hall e he hb
        rw [heq, getD_both hun] at h1
        cases h1
      have h2 := wpOp_putIf hoj (hfree j oj hoj hji hjun hnot) (fun cs b => hsel i oi cs b hi) (fun cs b => hsel j oj cs b hoj) hQ hy h1
      have hfree' : ∀ k ok, ops[k]? = some ok → k ≠ i → (listed.setIfInBounds j true).getD k true = false →
          (∀ e ∈ ok.after, Region.binds md e = true → e.on ≠ i) → oi.apart ops ok = true := fun k ok hk hki hun hno => by
        refine hfree k ok hk hki ?_ hno
        by_cases hjk : j = k
        · subst hjk; exact hjun
        · rw [getD_set_ne true hjk] at hun; exact hun
      refine wpOp_mono (fun a' w' h3 => ⟨h3.2.1, ih (listed.setIfInBounds j true) a' w' hfree' (ready_mono hr (Ne.symm hji)) h3.1 (h3.2.1 hjn) ?_⟩) h2
      rw [Array.setIfInBounds_comm _ _ hji]
      exact h3.2.2

def takeUB (md : Region.Mode) (ops : Array Oper) (listed : Array Bool) (i : Nat) : Bool :=
  Region.noSelect ops && Region.free md ops listed i && (Region.ready md ops listed).contains i

theorem wpU_take {l : List Oper} (i : Nat) {oi : Oper} {v : Value} {fuel : Nat} {listed : Array Bool} {a : Act} {w : World} (hi : l[i]? = some oi) (hB : takeUB md l.toArray listed i = true)
    (hQ : ∀ c a w, Q (.panic c) (a.put oi.dst v) w → Q (.panic c) a w) (hS : S w) (hy : YieldsIf P l.toArray S oi v a)
    (h : wpT P md l.toArray Q S l.toArray.size fuel (listed.setIfInBounds i true) (a.put oi.dst v) w) : wpT P md l.toArray Q S l.toArray.size (fuel + 1) listed a w := by
  simp only [takeUB, Bool.and_eq_true] at hB
  obtain ⟨⟨h2, h3⟩, h4⟩ := hB
  have hi' : l.toArray[i]? = some oi := by simpa using hi
  exact wpU_first hi' h2 hQ fuel listed a w (Region.free_spec hi' h3) (by simpa using h4) hy hS h

theorem wpU_done {l : List Oper} {listed : Array Bool} {a : Act} {w : World} (hr : Region.ready md l.toArray listed = []) (h : Q .normal a w) : wpT P md l.toArray Q S l.toArray.size 0 listed a w := ⟨hr, h⟩

theorem wp_region_U {l : List Oper} {id : Nat} {a : Act} {w : World} (S : World → Prop) (hm : P.follows .mixedOrders = true) (hS : S w.drew)
    (h : ∀ Wd : World, Below w.heap.size w Wd → S Wd → wpT P .any l.toArray Q S l.toArray.size l.length (Array.replicate l.length false) a Wd) : (Code.region id l.toArray true).wp P Q a w :=
  wp_region_T l.toArray.size S hm hS (fun hS => h _ (Below.refl _ _).drew hS)
end
end Go.Proofs.Ytlanefdeeanpnaa
