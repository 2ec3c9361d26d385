/-
  What Dots of layer 7 answers, as one value; the program's Dots answers it. Conditions: at most 1000 polygons with at most 1000 points, read below the heap's size.
-/
import Derived.Test.YtlanefdeeanpnaaDots7b
import Derived.Test.YtlanefdeeanpnaaShift7
namespace Go.Proofs.Ytlanefdeeanpnaa
set_option linter.unusedVariables false
set_option linter.unusedSimpArgs false
open Go.RowKit

/-- A picture and an error: left, low, width, height, dots, error. -/
structure PicV where
  L : Int
  B : Int
  W : Int
  H : Int
  D : List Bool
  k : Int
def PicV.none_ (k : Int) : PicV := ⟨0, 0, 0, 0, [], k⟩
def dotsV (ls : List (List Pt)) (u : Int) : PicV :=
  if validB u = false then .none_ 1 else if allIn ls = false then .none_ 3 else if tot ls = 0 then .none_ 0
  else if (sideB (bxW ls u) && sideB (bxH ls u)) = false then .none_ 13
  else ⟨bxL ls u, bxB ls u, bxW ls u, bxH ls u, dotL ls u (bxL ls u) (bxB ls u) (bxW ls u).toNat (bxH ls u).toNat, 0⟩
/-- An ending that is this picture, in a world. -/
def IsPic (V : PicV) (e : Ending) (w : World) : Prop :=
  ∃ (A : Option Addr) (c : Nat), e = .returned (.tuple #[.agg #[.int .i64 V.L, .int .i64 V.B, .int .i64 V.W, .int .i64 V.H, .slice A V.D.length c], .int .i64 V.k]) ∧ Rd Value.bool w w.heap.size A V.D
theorem dotsV_len (ls : List (List Pt)) (u : Int) : (dotsV ls u).D.length ≤ 9216 := by
  unfold dotsV
  split
  · exact Nat.zero_le _
  · split
    · exact Nat.zero_le _
    · split
      · exact Nat.zero_le _
      · split
        · exact Nat.zero_le _
        · rename_i h1 h2 h3 h4
          have h5 : (sideB (bxW ls u) && sideB (bxH ls u)) = true := by simpa using h4
          obtain ⟨k1, k2⟩ := Bool.and_eq_true_iff.1 h5
          have g1 := sideB_true k1
          have g2 := sideB_true k2
          show (dotL ls u _ _ _ _).length ≤ 9216
          rw [dotL_len]
          exact Nat.mul_le_mul (show _ ≤ 96 by omega) (show _ ≤ 96 by omega)
theorem isPic_none (k : Int) (w : World) : IsPic (.none_ k) (.returned (.tuple #[zPic, .int .i64 k])) w := ⟨none, 0, rfl, Rd.nil⟩
theorem raster_Dots (ls : List (List Pt)) (A : Option Addr) (c : Nat) (u : Int) (w : World) (hl : ls.length ≤ 1000) (hp : ∀ p ∈ ls, p.length ≤ 1000) (hr : RdPs w w.heap.size A ls) :
    Calls Try.prog 58 #[.slice A ls.length c, .int .i64 u] w fun e w' => IsPic (dotsV ls u) e w' ∧ Below w.heap.size w w' := by
  unfold dotsV
  cases hv : validB u with
  | false =>
    rw [if_pos rfl]
    exact (Dots_no ls A c u w hl hp 1 (.inl ⟨hv, rfl⟩) hr).mono fun e w' ⟨he, hb⟩ => by subst he; exact ⟨isPic_none _ _, hb⟩
  | true =>
    rw [if_neg (by simp)]
    cases ha : allIn ls with
    | false =>
      rw [if_pos rfl]
      exact (Dots_no ls A c u w hl hp 3 (.inr (.inl ⟨hv, ha, rfl⟩)) hr).mono fun e w' ⟨he, hb⟩ => by subst he; exact ⟨isPic_none _ _, hb⟩
    | true =>
      rw [if_neg (by simp)]
      by_cases ht : tot ls = 0
      · rw [if_pos ht]
        exact (Dots_no ls A c u w hl hp 0 (.inr (.inr ⟨hv, ha, ht, rfl⟩)) hr).mono fun e w' ⟨he, hb⟩ => by subst he; exact ⟨isPic_none _ _, hb⟩
      · rw [if_neg ht]
        refine (Dots_yes ls A c u w hl hp hv ha (by omega) hr).mono fun e w' ⟨hy, hn, hb⟩ => ⟨?_, hb⟩
        cases hs : (sideB (bxW ls u) && sideB (bxH ls u)) with
        | false =>
          rw [if_pos rfl]
          rw [hn hs]
          exact isPic_none _ _
        | true =>
          rw [if_neg (by simp)]
          obtain ⟨k1, k2⟩ := Bool.and_eq_true_iff.1 hs
          have g1 := sideB_true k1
          have g2 := sideB_true k2
          obtain ⟨g, he, hO⟩ := hy (bxW ls u).toNat (bxH ls u).toNat (by omega) (by omega) (by omega) (by omega)
          refine ⟨some ⟨g, 0, none⟩, (bxW ls u).toNat * (bxH ls u).toNat, ?_, hO.rd hO.lt⟩
          rw [he]
          dsimp only
          rw [dotL_len, show (((bxW ls u).toNat : Nat) : Int) = bxW ls u by omega, show (((bxH ls u).toNat : Nat) : Int) = bxH ls u by omega]
end Go.Proofs.Ytlanefdeeanpnaa
