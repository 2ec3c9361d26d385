/-
  Plain laws of layer 7: how many polygons and points are made, moved, cut; and their coordinates. Conditions: none.
-/
import Derived.Test.YtlanefdeeanpnaaCut7
namespace Go.Proofs.Ytlanefdeeanpnaa
set_option linter.unusedVariables false
set_option linter.unusedSimpArgs false
open Go.RowKit

def smallP (q : Pt) : Prop := (-24 ≤ q.1 ∧ q.1 ≤ 55) ∧ -24 ≤ q.2.1 ∧ q.2.1 ≤ 55
theorem m7Run_small (L : List Int) : ∀ (n k : Nat) (P : List Pt), (∀ q ∈ P, smallP q) → (m7Run L n (k, P)).length ≤ P.length + n ∧ ∀ q ∈ m7Run L n (k, P), smallP q
  | 0, k, P, h => ⟨Nat.le_refl _, h⟩
  | n + 1, k, P, h => by
    unfold m7Run
    split
    · have h1 := dN_range L k (m := 80) (by omega)
      have h2 := dN_range L (dAt L k) (m := 80) (by omega)
      have ih := m7Run_small L n (dAt L (dAt L k)) (P ++ [(dN L k 80 - 24, dN L (dAt L k) 80 - 24, true)]) (fun q hq => by
        rcases List.mem_append.1 hq with hq | hq
        · exact h q hq
        · obtain rfl : q = _ := by simpa using hq
          exact ⟨⟨by show -24 ≤ dN L k 80 - 24; omega, by show dN L k 80 - 24 ≤ 55; omega⟩, by show -24 ≤ dN L (dAt L k) 80 - 24; omega, by show dN L (dAt L k) 80 - 24 ≤ 55; omega⟩)
      refine ⟨?_, ih.2⟩
      have := ih.1
      simp only [List.length_append, List.length_cons, List.length_nil] at this
      show (m7Run L n (dAt L (dAt L k), P ++ [(dN L k 80 - 24, dN L (dAt L k) 80 - 24, true)])).length ≤ P.length + (n + 1)
      omega
    · exact ⟨by show P.length ≤ _; omega, h⟩
theorem m7_small (L : List Int) : (m7 L).length ≤ 8 ∧ ∀ q ∈ m7 L, smallP q := by
  have := m7Run_small L 8 0 [] (fun q hq => absurd hq (by simp))
  simpa [m7] using this
theorem m7s_len (ls : List (List Int)) : (m7s ls).length ≤ 4 := by simp [m7s]; omega
theorem m7s_small (ls : List (List Int)) : ∀ p ∈ m7s ls, p.length ≤ 8 ∧ ∀ q ∈ p, smallP q := by
  intro p hp
  unfold m7s at hp
  rw [List.mem_map] at hp
  obtain ⟨L, _, rfl⟩ := hp
  exact m7_small L
theorem moved_len (tm x y : Int) (ls : List (List Pt)) : (moved tm x y ls).length = ls.length := by simp [moved]
theorem moved_small {tm x y : Int} {ls : List (List Pt)} {c : Nat} (h : ∀ p ∈ ls, p.length ≤ c) : ∀ p ∈ moved tm x y ls, p.length ≤ c := by
  intro p hp
  unfold moved at hp
  rw [List.mem_map] at hp
  obtain ⟨q, hq, rfl⟩ := hp
  simpa using h q hq
theorem cutL_len (ls : List (List Pt)) : (cutL ls).length ≤ 4 := by simp [cutL]; omega
theorem cutL_small (ls : List (List Pt)) : ∀ p ∈ cutL ls, p.length ≤ 12 := by
  intro p hp
  unfold cutL at hp
  rw [List.mem_map] at hp
  obtain ⟨q, hq, rfl⟩ := hp
  rw [List.length_take]
  omega
end Go.Proofs.Ytlanefdeeanpnaa
