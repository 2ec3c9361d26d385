/-
  The box of points: least and greatest coordinates, as layer 7 computes them. Conditions: those that each law names.
-/
import Derived.Test.YtlanefdeeanpnaaCover
namespace Go.Proofs.Ytlanefdeeanpnaa
set_option linter.unusedVariables false
set_option linter.unusedSimpArgs false
open Go.RowKit

def mnI (a b : Int) : Int := if b < a then b else a
def mxI (a b : Int) : Int := if b > a then b else a
def mnF (f : Pt → Int) (l : List Pt) (m : Int) : Int := l.foldl (fun m q => mnI m (f q)) m
def mxF (f : Pt → Int) (l : List Pt) (m : Int) : Int := l.foldl (fun m q => mxI m (f q)) m
theorem mnI_le (a b : Int) : mnI a b ≤ a ∧ mnI a b ≤ b ∧ (mnI a b = a ∨ mnI a b = b) := by
  unfold mnI
  split <;> omega
theorem mxI_le (a b : Int) : a ≤ mxI a b ∧ b ≤ mxI a b ∧ (mxI a b = a ∨ mxI a b = b) := by
  unfold mxI
  split <;> omega
theorem mnF_snoc (f : Pt → Int) (l : List Pt) (q : Pt) (m : Int) : mnF f (l ++ [q]) m = mnI (mnF f l m) (f q) := by simp [mnF]
theorem mxF_snoc (f : Pt → Int) (l : List Pt) (q : Pt) (m : Int) : mxF f (l ++ [q]) m = mxI (mxF f l m) (f q) := by simp [mxF]
theorem mnF_le (f : Pt → Int) : ∀ (l : List Pt) (m : Int), mnF f l m ≤ m ∧ (∀ q ∈ l, mnF f l m ≤ f q) ∧ (mnF f l m = m ∨ ∃ q ∈ l, mnF f l m = f q)
  | [], m => ⟨Int.le_refl _, fun q hq => absurd hq (by simp), .inl rfl⟩
  | a :: l, m => by
    obtain ⟨h1, h2, h3⟩ := mnF_le f l (mnI m (f a))
    obtain ⟨g1, g2, g3⟩ := mnI_le m (f a)
    have e : mnF f (a :: l) m = mnF f l (mnI m (f a)) := rfl
    rw [e]
    refine ⟨by omega, fun q hq => ?_, ?_⟩
    · rcases List.mem_cons.1 hq with rfl | hq
      · omega
      · exact h2 q hq
    · rcases h3 with h3 | ⟨q, hq, h3⟩
      · rcases g3 with g3 | g3
        · exact .inl (by omega)
        · exact .inr ⟨a, by simp, by omega⟩
      · exact .inr ⟨q, by simp [hq], h3⟩
theorem mxF_le (f : Pt → Int) : ∀ (l : List Pt) (m : Int), m ≤ mxF f l m ∧ (∀ q ∈ l, f q ≤ mxF f l m) ∧ (mxF f l m = m ∨ ∃ q ∈ l, mxF f l m = f q)
  | [], m => ⟨Int.le_refl _, fun q hq => absurd hq (by simp), .inl rfl⟩
  | a :: l, m => by
    obtain ⟨h1, h2, h3⟩ := mxF_le f l (mxI m (f a))
    obtain ⟨g1, g2, g3⟩ := mxI_le m (f a)
    have e : mxF f (a :: l) m = mxF f l (mxI m (f a)) := rfl
    rw [e]
    refine ⟨by omega, fun q hq => ?_, ?_⟩
    · rcases List.mem_cons.1 hq with rfl | hq
      · omega
      · exact h2 q hq
    · rcases h3 with h3 | ⟨q, hq, h3⟩
      · rcases g3 with g3 | g3
        · exact .inl (by omega)
        · exact .inr ⟨a, by simp, by omega⟩
      · exact .inr ⟨q, by simp [hq], h3⟩
def fX (q : Pt) : Int := q.1
def fY (q : Pt) : Int := q.2.1
/-- All points, one after the other. -/
def pts (ls : List (List Pt)) : List Pt := ls.flatten
theorem pts_succ {ls : List (List Pt)} {i : Nat} (h : i < ls.length) : pts (ls.take (i + 1)) = pts (ls.take i) ++ ls[i] := by
  rw [List.take_succ_eq_append_getElem h]
  simp only [pts, List.flatten_append, List.flatten_cons, List.flatten_nil, List.append_nil]
theorem pts_len (ls : List (List Pt)) : (pts ls).length = tot ls := by simp [pts, tot, List.length_flatten]
theorem pts_in {ls : List (List Pt)} (h : allIn ls = true) : ∀ q ∈ pts ls, ptIn q = true := by
  intro q hq
  unfold pts at hq
  rw [List.mem_flatten] at hq
  obtain ⟨p, hp, hq⟩ := hq
  unfold allIn at h
  rw [List.all_eq_true] at h
  have := h p hp
  rw [List.all_eq_true] at this
  exact this q hq
/-- The box is in range. -/
theorem box_in {l : List Pt} {f : Pt → Int} {R m M : Int} (hl : l ≠ []) (hf : ∀ q ∈ l, -R ≤ f q ∧ f q ≤ R) (hm : R ≤ m) (hM : M ≤ -R) : -R ≤ mnF f l m ∧ mnF f l m ≤ mxF f l M ∧ mxF f l M ≤ R := by
  obtain ⟨q0, hq0⟩ := List.exists_mem_of_ne_nil l hl
  obtain ⟨h1, h2, h3⟩ := mnF_le f l m
  obtain ⟨g1, g2, g3⟩ := mxF_le f l M
  have a := hf q0 hq0
  have b := h2 q0 hq0
  have c := g2 q0 hq0
  refine ⟨?_, by omega, ?_⟩
  · rcases h3 with h3 | ⟨q, hq, h3⟩
    · omega
    · have := hf q hq; omega
  · rcases g3 with g3 | ⟨q, hq, g3⟩
    · omega
    · have := hf q hq; omega
end Go.Proofs.Ytlanefdeeanpnaa
