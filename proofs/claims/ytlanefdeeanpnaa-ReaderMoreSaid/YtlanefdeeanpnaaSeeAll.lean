/-
  Contracts of both See functions in one piece each.
-/
import Derived.Test.YtlanefdeeanpnaaSee
namespace Go.Proofs.Ytlanefdeeanpnaa
set_option linter.unusedVariables false
set_option linter.unusedSimpArgs false
open Go.RowKit

theorem reader_See (B S W H : Int) (A : Option Addr) (c : Nat) (D : List Bool) (w : World) (hn : D.length ≤ 9223372036854775807) (hr : Rd Value.bool w w.heap.size A D) :
    Calls Try.prog 25 #[.agg #[.int .i64 B, .int .i64 S], .agg #[.int .i64 W, .int .i64 H, .slice A D.length c]] w (BmRes (seeSpec B S W H D) w) := by
  by_cases h : rdOk B S = true
  · by_cases h2 : bmCheck W H D.length = 0
    · obtain ⟨m, n, rfl, rfl, hm, hn', hD⟩ := bmCheck_nat h2
      obtain ⟨h01, h02, _, _⟩ := rd_yes h
      obtain ⟨b, rfl⟩ := Int.eq_ofNat_of_zero_le h01
      have hs : seeSpec b S m n D = ((m : Int), (n : Int), seeL m n D b S, (0 : Int)) := by simp [seeSpec, h, h2]
      rw [hs, hD]
      exact psee_yes b m n S A c D w h (by omega) hm hn' hD hr
    · exact psee_fail2 B S W H A c D w hn h h2
  · exact psee_fail1 B S W H A c D w (by simpa using h)

theorem ref21_See (B S W H : Int) (A : Option Addr) (c : Nat) (D : List Bool) (w : World) (hn : D.length ≤ 9223372036854775807) (hr : Rd Value.bool w w.heap.size A D) :
    Calls Try.prog 26 #[.agg #[.int .i64 B, .int .i64 S], .agg #[.int .i64 W, .int .i64 H, .slice A D.length c]] w (BmRes (seeSpec B S W H D) w) := by
  by_cases h : rdOk B S = true
  · by_cases h2 : bmCheck W H D.length = 0
    · obtain ⟨m, n, rfl, rfl, hm, hn', hD⟩ := bmCheck_nat h2
      obtain ⟨h01, h02, _, _⟩ := rd_yes h
      obtain ⟨b, rfl⟩ := Int.eq_ofNat_of_zero_le h01
      have hs : seeSpec b S m n D = ((m : Int), (n : Int), seeL m n D b S, (0 : Int)) := by simp [seeSpec, h, h2]
      rw [hs, hD]
      exact see_yes b m n S A c D w h (by omega) hm hn' hD hr
    · exact see_fail2 B S W H A c D w hn h h2
  · exact see_fail1 B S W H A c D w (by simpa using h)

/-- What See's answer may be. -/
theorem seeSpec_ways (B S W H : Int) (D : List Bool) : ((seeSpec B S W H D).1 = 0 ∧ (seeSpec B S W H D).2.1 = 0 ∧ (seeSpec B S W H D).2.2.1 = [] ∧ (seeSpec B S W H D).2.2.2 ≠ 0) ∨
    ∃ m n : Nat, W = m ∧ H = n ∧ m ≤ 96 ∧ n ≤ 96 ∧ seeSpec B S W H D = ((m : Int), (n : Int), seeL m n D B.toNat S, 0) ∧ rdOk B S = true ∧ D.length = m * n := by
  by_cases h : rdOk B S = true
  · by_cases h2 : bmCheck W H D.length = 0
    · obtain ⟨m, n, rfl, rfl, hm, hn', hD⟩ := bmCheck_nat h2
      exact .inr ⟨m, n, rfl, rfl, hm, hn', by simp [seeSpec, h, h2], h, hD⟩
    · exact .inl (by simp [seeSpec, h, h2])
  · exact .inl (by simp [seeSpec, h])
theorem seeL_len (m n : Nat) (D : List Bool) (b : Nat) (S : Int) : (seeL m n D b S).length = m * n := by simp [seeL]

theorem see_small (B S W H : Int) (D : List Bool) : (seeSpec B S W H D).2.2.1.length ≤ 9216 := by
  rcases seeSpec_ways B S W H D with h | ⟨m, n, _, _, hm, hn, h, _⟩
  · rw [h.2.2.1]; simp
  · rw [h, seeL_len]; exact Nat.mul_le_mul hm hn

/-- The number of dots that differ among the first t. -/
def dif (a b : List Bool) (t : Nat) : Nat := ((List.range t).filter fun k => (a.getD k false != b.getD k false)).length
theorem dif_zero (a b : List Bool) : dif a b 0 = 0 := rfl
theorem dif_le (a b : List Bool) (t : Nat) : dif a b t ≤ t := by
  unfold dif
  refine Nat.le_trans (List.length_filter_le _ _) (by simp)
theorem dif_yes (a b : List Bool) (t : Nat) (ha : t < a.length) (hb : t < b.length) (h : (a[t] != b[t]) = true) : dif a b (t + 1) = dif a b t + 1 := by
  unfold dif
  rw [List.range_succ, List.filter_append, List.length_append]
  simp only [List.filter_cons, List.filter_nil, List.getD_eq_getElem?_getD, List.getElem?_eq_getElem ha, List.getElem?_eq_getElem hb, Option.getD_some, h]
  simp
theorem dif_no (a b : List Bool) (t : Nat) (ha : t < a.length) (hb : t < b.length) (h : (a[t] != b[t]) = false) : dif a b (t + 1) = dif a b t := by
  unfold dif
  rw [List.range_succ, List.filter_append, List.length_append]
  simp only [List.filter_cons, List.filter_nil, List.getD_eq_getElem?_getD, List.getElem?_eq_getElem ha, List.getElem?_eq_getElem hb, Option.getD_some, h]
  simp

/-- What Differ answers. -/
def diffSpec (B S W1 H1 : Int) (D1 : List Bool) (W2 H2 : Int) (D2 : List Bool) : Int × Int :=
  if (seeSpec B S W1 H1 D1).2.2.2 = 0 then
    (if (seeSpec B S W2 H2 D2).2.2.2 = 0 then
      (if W1 = W2 ∧ H1 = H2 then ((dif (seeSpec B S W1 H1 D1).2.2.1 (seeSpec B S W2 H2 D2).2.2.1 D1.length : Nat), 0) else (0, 13))
    else (0, (seeSpec B S W2 H2 D2).2.2.2))
  else (0, (seeSpec B S W1 H1 D1).2.2.2)
end Go.Proofs.Ytlanefdeeanpnaa
