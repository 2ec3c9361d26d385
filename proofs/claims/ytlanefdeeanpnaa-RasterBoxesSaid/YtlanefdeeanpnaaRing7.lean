/-
  Plain laws of winding numbers: rings of edges, turned round, begun elsewhere, divided, moved, multiplied. Conditions: none; no step of the program is taken here.
-/
import Derived.Test.YtlanefdeeanpnaaMath7
import Derived.Test.YtlanefdeeanpnaaBox7
namespace Go.Proofs.Ytlanefdeeanpnaa
set_option linter.unusedVariables false
set_option linter.unusedSimpArgs false
open Go.RowKit

section
variable (x y : Int)
/-- The edges of a path. -/
def pth : Pt → List Pt → Int
  | _, [] => 0
  | a, b :: t => turnsV a b x y + pth b t
def ring : List Pt → Int
  | [] => 0
  | a :: t => pth x y a (t ++ [a])
theorem turns_anti (a b : Pt) : turnsV b a x y = - turnsV a b x y := by
  unfold turnsV
  by_cases h1 : b.2.1 ≤ y ∧ y < a.2.1 ∧ (a.1 - b.1) * (y - b.2.1) < (x - b.1) * (a.2.1 - b.2.1)
  · rw [if_pos h1, if_neg (by omega), if_pos h1]
    rfl
  · rw [if_neg h1]
    by_cases h2 : a.2.1 ≤ y ∧ y < b.2.1 ∧ (b.1 - a.1) * (y - a.2.1) < (x - a.1) * (b.2.1 - a.2.1)
    · rw [if_pos h2, if_pos h2]
    · rw [if_neg h2, if_neg h2, if_neg h1]
      rfl
theorem turns_self (a : Pt) : turnsV a a x y = 0 := by
  have := turns_anti x y a a
  omega
theorem pth_mid : ∀ (l : List Pt) (a b : Pt) (m : List Pt), pth x y a (l ++ b :: m) = pth x y a (l ++ [b]) + pth x y b m
  | [], a, b, m => by simp [pth]
  | c :: l, a, b, m => by
    simp only [List.cons_append, pth]
    rw [pth_mid l c b m]
    omega
theorem pth_rev : ∀ (l : List Pt) (a b : Pt), pth x y b (l.reverse ++ [a]) = - pth x y a (l ++ [b])
  | [], a, b => by simp [pth]; exact turns_anti x y a b
  | c :: l, a, b => by
    rw [List.reverse_cons, List.append_assoc, List.singleton_append, pth_mid, pth_rev l c b]
    simp only [List.cons_append, pth]
    rw [turns_anti x y a c]
    omega
theorem ring_turn (l m : List Pt) : ring x y (m ++ l) = ring x y (l ++ m) := by
  cases l with
  | nil => simp
  | cons a l =>
    cases m with
    | nil => simp
    | cons b m =>
      show pth x y b ((m ++ a :: l) ++ [b]) = pth x y a ((l ++ b :: m) ++ [a])
      rw [List.append_assoc, List.append_assoc, List.cons_append, List.cons_append, pth_mid x y m b a (l ++ [b]), pth_mid x y l a b (m ++ [a])]
      omega
theorem ring_rev (l : List Pt) : ring x y l.reverse = - ring x y l := by
  cases l with
  | nil => rfl
  | cons a t =>
    rw [List.reverse_cons, ring_turn]
    exact pth_rev x y t a a
theorem ring_cut (A M D : List Pt) (b c : Pt) : ring x y (b :: (M ++ [c])) + ring x y (A ++ b :: c :: D) = ring x y (A ++ b :: (M ++ c :: D)) := by
  rw [ring_turn x y (b :: c :: D) A, ring_turn x y (b :: (M ++ c :: D)) A]
  show pth x y b ((M ++ [c]) ++ [b]) + pth x y b ((c :: D ++ A) ++ [b]) = pth x y b (((M ++ c :: D) ++ A) ++ [b])
  simp only [List.append_assoc, List.cons_append, List.nil_append]
  rw [pth_mid x y M b c [b], pth_mid x y M b c (D ++ (A ++ [b]))]
  simp only [pth]
  rw [turns_anti x y b c]
  omega
theorem ring_one (A D : List Pt) (b : Pt) : ring x y [b] + ring x y (A ++ b :: b :: D) = ring x y (A ++ b :: D) := by
  rw [ring_turn x y (b :: b :: D) A, ring_turn x y (b :: D) A]
  simp only [ring, pth, List.cons_append, List.nil_append]
  rw [turns_self]
  omega
/-- The first t edges of a list, one after the other. -/
def stp (q : List Pt) : Nat → Int
  | 0 => 0
  | t + 1 => stp q t + turnsV (q.getD t pD0) (q.getD (t + 1) pD0) x y
theorem stp_cons (a : Pt) (l : List Pt) : ∀ t, stp x y (a :: l) (t + 1) = turnsV a (l.getD 0 pD0) x y + stp x y l t
  | 0 => by simp [stp]
  | t + 1 => by
    rw [stp, stp_cons a l t, stp]
    simp only [List.getD_cons_succ]
    omega
theorem stp_pth : ∀ (l : List Pt) (a : Pt), stp x y (a :: l) l.length = pth x y a l
  | [], a => rfl
  | b :: l, a => by
    rw [List.length_cons, stp_cons, stp_pth l b]
    rfl
theorem windR_stp (p : List Pt) (a : Pt) (h : p.head? = some a) : ∀ t, t ≤ p.length → windR p x y t = stp x y (p ++ [a]) t
  | 0, _ => rfl
  | t + 1, ht => by
    rw [windR, stp, windR_stp p a h t (by omega)]
    have e1 : (p ++ [a]).getD t pD0 = p.getD t pD0 := by
      rw [List.getD_eq_getElem?_getD, List.getD_eq_getElem?_getD, List.getElem?_append_left (by omega)]
    have e2 : (p ++ [a]).getD (t + 1) pD0 = p.getD ((t + 1) % p.length) pD0 := by
      rw [List.getD_eq_getElem?_getD, List.getD_eq_getElem?_getD]
      rcases Nat.lt_or_ge (t + 1) p.length with h1 | h1
      · rw [List.getElem?_append_left h1, Nat.mod_eq_of_lt h1]
      · have h2 : t + 1 = p.length := by omega
        rw [List.getElem?_append_right (by omega), h2, Nat.sub_self, Nat.mod_self]
        cases p with
        | nil => simp at ht
        | cons b l => simp at h; simp [h]
    rw [e1, e2]
theorem wind_ring (p : List Pt) : windP p x y p.length = ring x y p := by
  rw [← windR_all]
  cases p with
  | nil => rfl
  | cons a t =>
    rw [windR_stp x y (a :: t) a rfl _ (Nat.le_refl _)]
    have := stp_pth x y (t ++ [a]) a
    rw [List.length_append] at this
    exact this
def rings (ls : List (List Pt)) : Int := (ls.map (ring x y)).sum
theorem rings_snoc (p : List Pt) (ls : List (List Pt)) : rings x y (ls ++ [p]) = rings x y ls + ring x y p := by simp [rings]
theorem windL_rings (ls : List (List Pt)) : ∀ s, s ≤ ls.length → windL ls x y s = rings x y (ls.take s)
  | 0, _ => rfl
  | s + 1, h => by
    rw [windL, windL_rings ls s (by omega), getD_at (show s < ls.length by omega), wind_ring, List.take_succ_eq_append_getElem (show s < ls.length by omega), rings_snoc]
theorem windN_rings (ls : List (List Pt)) : windN ls x y = rings x y ls := by
  unfold windN
  rw [windL_rings x y ls _ (Nat.le_refl _), List.take_length]
theorem rings_nil : rings x y [] = 0 := rfl
theorem rings_cons (p : List Pt) (ls : List (List Pt)) : rings x y (p :: ls) = ring x y p + rings x y ls := rfl
theorem rings_rev (ls : List (List Pt)) : rings x y (ls.map List.reverse) = - rings x y ls := by
  induction ls with
  | nil => rfl
  | cons p ls ih =>
    rw [List.map_cons, rings_cons, rings_cons, ih, ring_rev]
    omega
/-- A list, begun at another place. -/
def rot (r : Nat) (p : List Pt) : List Pt := p.drop r ++ p.take r
theorem ring_rot (r : Nat) (p : List Pt) : ring x y (rot r p) = ring x y p := by
  unfold rot
  rw [ring_turn, List.take_append_drop]
theorem rings_rot (f : List Pt → Nat) (ls : List (List Pt)) : rings x y (ls.map fun p => rot (f p) p) = rings x y ls := by
  induction ls with
  | nil => rfl
  | cons p ls ih =>
    rw [List.map_cons, rings_cons, rings_cons, ih, ring_rot]
theorem ring_parts {p : List Pt} {i j : Nat} (hi : i ≤ j) (hj : j < p.length) : ring x y ((p.drop i).take (j + 1 - i)) + ring x y (p.take (i + 1) ++ p.drop j) = ring x y p := by
  have hil : i < p.length := by omega
  rcases Nat.eq_or_lt_of_le hi with h | h
  · subst h
    have e1 : (p.drop i).take (i + 1 - i) = [p[i]] := by
      rw [show i + 1 - i = 1 by omega, List.drop_eq_getElem_cons hil]
      rfl
    have e2 : p.take (i + 1) ++ p.drop i = p.take i ++ p[i] :: p[i] :: p.drop (i + 1) := by
      rw [List.take_succ_eq_append_getElem hil, List.drop_eq_getElem_cons hil, List.append_assoc]
      rfl
    have e3 : p = p.take i ++ p[i] :: p.drop (i + 1) := by
      rw [← List.drop_eq_getElem_cons hil, List.take_append_drop]
    rw [e1, e2, ring_one, ← e3]
  · have e0 : p.drop (i + 1) = (p.drop (i + 1)).take (j - (i + 1)) ++ p[j] :: p.drop (j + 1) := by
      have := (List.take_append_drop (j - (i + 1)) (p.drop (i + 1))).symm
      rw [List.drop_drop, show i + 1 + (j - (i + 1)) = j by omega, List.drop_eq_getElem_cons hj] at this
      exact this
    have e1 : (p.drop i).take (j + 1 - i) = p[i] :: ((p.drop (i + 1)).take (j - (i + 1)) ++ [p[j]]) := by
      rw [List.drop_eq_getElem_cons hil, show j + 1 - i = (j - (i + 1) + 1) + 1 by omega, List.take_succ_cons]
      congr 1
      have hl : j - (i + 1) < (p.drop (i + 1)).length := by rw [List.length_drop]; omega
      rw [List.take_succ_eq_append_getElem hl]
      congr 2
      rw [List.getElem_drop]
      congr 1
      omega
    have e2 : p.take (i + 1) ++ p.drop j = p.take i ++ p[i] :: p[j] :: p.drop (j + 1) := by
      rw [List.take_succ_eq_append_getElem hil, List.drop_eq_getElem_cons hj, List.append_assoc]
      rfl
    have e3 : p = p.take i ++ p[i] :: ((p.drop (i + 1)).take (j - (i + 1)) ++ p[j] :: p.drop (j + 1)) := by
      rw [← e0, ← List.drop_eq_getElem_cons hil, List.take_append_drop]
    rw [e1, e2]
    have := ring_cut x y (p.take i) ((p.drop (i + 1)).take (j - (i + 1))) (p.drop (j + 1)) p[i] p[j]
    rw [this, ← e3]
end
end Go.Proofs.Ytlanefdeeanpnaa
