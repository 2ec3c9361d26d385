/-
  Contracts of layer 4's small functions, of the reference and of the program: side, Check, New, Get, has. Conditions: lengths fit an int.
-/
import Derived.Test.YtlanefdeeanpnaaBase
namespace Go.Proofs.Ytlanefdeeanpnaa
set_option linter.unusedVariables false
set_option linter.unusedSimpArgs false
open Go.RowKit

def sideB (n : Int) : Bool := decide (0 ≤ n) && decide (n ≤ 96)
theorem sideB_true {n : Int} (h : sideB n = true) : 0 ≤ n ∧ n ≤ 96 := by simpa [sideB] using h
theorem sideB_false {n : Int} (h : sideB n = false) : n < 0 ∨ 96 < n := by simp [sideB] at h; omega
theorem mul_small {W H : Int} (h1 : sideB W = true) (h2 : sideB H = true) : 0 ≤ W * H ∧ W * H ≤ 9216 := by
  have a := sideB_true h1
  have b := sideB_true h2
  refine ⟨Int.mul_nonneg a.1 b.1, ?_⟩
  have := Int.mul_le_mul a.2 b.2 b.1 (by omega)
  omega

theorem mul_wrap {W H : Int} (h1 : sideB W = true) (h2 : sideB H = true) : wrap64 (W * H) = W * H := by
  have := mul_small h1 h2
  exact w64 (by omega) (by omega)

theorem ref04_side (n : Int) (w : World) :
    Calls Try.prog 100 #[.int .i64 n] w fun e w' => e = .returned (.bool (sideB n)) ∧ w = w' := by
  go_enter Try.func100, Try.ntmps100
  go_wp2
  all_goals (go_ret; exact ⟨ret_bool (by simp [sideB]; omega), rfl⟩)
theorem bitmap_side (n : Int) (w : World) :
    Calls Try.prog 73 #[.int .i64 n] w fun e w' => e = .returned (.bool (sideB n)) ∧ w = w' := by
  go_enter Try.func73, Try.ntmps73
  go_wp2
  all_goals (go_ret; exact ⟨ret_bool (by simp [sideB]; omega), rfl⟩)

/-- Check of a bitmap with n dots. -/
def bmCheck (W H : Int) (n : Nat) : Int := if (sideB W && sideB H) = true then (if (n : Int) = W * H then 0 else 5) else 13

theorem ref04_Check (W H : Int) (A : Option Addr) (n c : Nat) (w : World) (hn : n ≤ 9223372036854775807) :
    Calls Try.prog 69 #[.agg #[.int .i64 W, .int .i64 H, .slice A n c]] w fun e w' => e = .returned (.int .i64 (bmCheck W H n)) ∧ Below w.heap.size w w' := by
  go_enter Try.func69, Try.ntmps69
  go_wp2_with (go_at_call 100; refine (ref04_side _ _).mono ?_; rintro e w' ⟨rfl, rfl⟩)
  all_goals
    go_ret
    refine ⟨ret_int ?_, (Below.refl _ _).alloc (Nat.le_refl _) _⟩
    have hm := @mul_wrap W H
    simp_all [bmCheck]
theorem bitmap_Check (W H : Int) (A : Option Addr) (n c : Nat) (w : World) (hn : n ≤ 9223372036854775807) :
    Calls Try.prog 32 #[.agg #[.int .i64 W, .int .i64 H, .slice A n c]] w fun e w' => e = .returned (.int .i64 (bmCheck W H n)) ∧ Below w.heap.size w w' := by
  go_enter Try.func32, Try.ntmps32
  go_wp2_with (go_at_call 73; refine (bitmap_side _ _).mono ?_; rintro e w' ⟨rfl, rfl⟩)
  all_goals
    go_ret
    refine ⟨ret_int ?_, (Below.refl _ _).alloc (Nat.le_refl _) _⟩
    have hm := @mul_wrap W H
    simp_all [bmCheck]

theorem info_bool : (Try.prog.info? 4).map (fun i => (i.zero, i.size, i.bytes)) = some (some (.bool false), 1, 1) := by kernel_rfl
theorem info_int : (Try.prog.info? 3).map (fun i => (i.zero, i.size, i.bytes)) = some (some (.int .i64 0), 1, 8) := by kernel_rfl

/-- What New returns: a blank row, or no bitmap. -/
def NewPost (W H : Int) (w : World) (e : Ending) (w' : World) : Prop :=
  Below w.heap.size w w' ∧
  if (sideB W && sideB H) = true then ∃ g : Nat, w.heap.size ≤ g ∧ g < w'.heap.size ∧ Own Value.bool 4 w' g (List.replicate (W * H).toNat false) ∧
    e = .returned (.tuple #[.agg #[.int .i64 W, .int .i64 H, .slice (some ⟨g, 0, none⟩) (W * H).toNat (W * H).toNat], .int .i64 0])
  else e = .returned (.tuple #[.agg #[.int .i64 0, .int .i64 0, .slice none 0 0], .int .i64 13])

theorem ref04_New (W H : Int) (w : World) :
    Calls Try.prog 65 #[.int .i64 W, .int .i64 H] w (NewPost W H w) := by
  by_cases hs : (sideB W && sideB H) = true
  · have hs' := hs
    simp only [Bool.and_eq_true] at hs'
    obtain ⟨h1, h2⟩ := hs'
    have hm := mul_small h1 h2
    have hmk := fun w => mk_run (P := Try.prog) 27 4 (.bool false) 1 Try.underlying27 info_bool rfl (W * H) hm.1 (by omega) (by omega) w
    have Hs := Lib.hid hs
    clear hs
    go_enter Try.func65, Try.ntmps65
    go_wp2_with (go_at_call 100; refine (ref04_side _ _).mono ?_; rintro e w' ⟨rfl, rfl⟩)
    refine bodyPost_ret (v := .tuple #[.agg #[.int .i64 W, .int .i64 H, .slice (some ⟨w.heap.size + 1, 0, none⟩) (W * H).toNat (W * H).toNat], .int .i64 0]) (by simp [results, Try.results65, go_sem]) rfl ?_
    refine ⟨((Below.refl _ _).alloc (Nat.le_refl _) _).alloc (by simp) _, ?_⟩
    rw [if_pos Hs.out]
    refine ⟨w.heap.size + 1, by omega, by simp, ?_, rfl⟩
    have := Own.new (f := Value.bool) (w.alloc (.cells #[.int .i64 W, .int .i64 H, .slice (some ⟨w.heap.size + 1, 0, none⟩) (W * H).toNat (W * H).toNat] 29)) 4 (List.replicate (W * H).toNat false)
    simpa using this
  · have Hs := Lib.hid hs
    by_cases h1 : sideB W = true
    · have h2 : sideB H = false := by simpa [h1] using hs
      clear hs
      go_enter Try.func65, Try.ntmps65
      go_wp2_with (go_at_call 100; refine (ref04_side _ _).mono ?_; rintro e w' ⟨rfl, rfl⟩)
      refine bodyPost_ret (v := .tuple #[.agg #[.int .i64 0, .int .i64 0, .slice none 0 0], .int .i64 13]) (by simp [results, Try.results65, go_sem]) rfl ?_
      refine ⟨(Below.refl _ _).alloc (Nat.le_refl _) _, ?_⟩
      rw [if_neg Hs.out]
    · have h1' : sideB W = false := by simpa using h1
      clear hs h1
      go_enter Try.func65, Try.ntmps65
      go_wp2_with (go_at_call 100; refine (ref04_side _ _).mono ?_; rintro e w' ⟨rfl, rfl⟩)
      refine bodyPost_ret (v := .tuple #[.agg #[.int .i64 0, .int .i64 0, .slice none 0 0], .int .i64 13]) (by simp [results, Try.results65, go_sem]) rfl ?_
      refine ⟨(Below.refl _ _).alloc (Nat.le_refl _) _, ?_⟩
      rw [if_neg Hs.out]
theorem bitmap_New (W H : Int) (w : World) :
    Calls Try.prog 34 #[.int .i64 W, .int .i64 H] w (NewPost W H w) := by
  by_cases hs : (sideB W && sideB H) = true
  · have hs' := hs
    simp only [Bool.and_eq_true] at hs'
    obtain ⟨h1, h2⟩ := hs'
    have hm := mul_small h1 h2
    have hmk := fun w => mk_run (P := Try.prog) 27 4 (.bool false) 1 Try.underlying27 info_bool rfl (W * H) hm.1 (by omega) (by omega) w
    have Hs := Lib.hid hs
    clear hs
    go_enter Try.func34, Try.ntmps34
    go_wp2_with (go_at_call 73; refine (bitmap_side _ _).mono ?_; rintro e w' ⟨rfl, rfl⟩)
    refine bodyPost_ret (v := .tuple #[.agg #[.int .i64 W, .int .i64 H, .slice (some ⟨w.heap.size + 1, 0, none⟩) (W * H).toNat (W * H).toNat], .int .i64 0]) (by simp [results, Try.results34, go_sem]) rfl ?_
    refine ⟨((Below.refl _ _).alloc (Nat.le_refl _) _).alloc (by simp) _, ?_⟩
    rw [if_pos Hs.out]
    refine ⟨w.heap.size + 1, by omega, by simp, ?_, rfl⟩
    have := Own.new (f := Value.bool) (w.alloc (.cells #[.int .i64 W, .int .i64 H, .slice (some ⟨w.heap.size + 1, 0, none⟩) (W * H).toNat (W * H).toNat] 29)) 4 (List.replicate (W * H).toNat false)
    simpa using this
  · have Hs := Lib.hid hs
    by_cases h1 : sideB W = true
    · have h2 : sideB H = false := by simpa [h1] using hs
      clear hs
      go_enter Try.func34, Try.ntmps34
      go_wp2_with (go_at_call 73; refine (bitmap_side _ _).mono ?_; rintro e w' ⟨rfl, rfl⟩)
      refine bodyPost_ret (v := .tuple #[.agg #[.int .i64 0, .int .i64 0, .slice none 0 0], .int .i64 13]) (by simp [results, Try.results34, go_sem]) rfl ?_
      refine ⟨(Below.refl _ _).alloc (Nat.le_refl _) _, ?_⟩
      rw [if_neg Hs.out]
    · have h1' : sideB W = false := by simpa using h1
      clear hs h1
      go_enter Try.func34, Try.ntmps34
      go_wp2_with (go_at_call 73; refine (bitmap_side _ _).mono ?_; rintro e w' ⟨rfl, rfl⟩)
      refine bodyPost_ret (v := .tuple #[.agg #[.int .i64 0, .int .i64 0, .slice none 0 0], .int .i64 13]) (by simp [results, Try.results34, go_sem]) rfl ?_
      refine ⟨(Below.refl _ _).alloc (Nat.le_refl _) _, ?_⟩
      rw [if_neg Hs.out]

theorem ref04_New_ok (W H : Int) (w : World) (h : (sideB W && sideB H) = true) :
    Calls Try.prog 65 #[.int .i64 W, .int .i64 H] w fun e w' => ∃ g : Nat, e = .returned (.tuple #[.agg #[.int .i64 W, .int .i64 H, .slice (some ⟨g, 0, none⟩) (W * H).toNat (W * H).toNat], .int .i64 0]) ∧
      w.heap.size ≤ g ∧ g < w'.heap.size ∧ Own Value.bool 4 w' g (List.replicate (W * H).toNat false) ∧ Below w.heap.size w w' :=
  (ref04_New W H w).mono fun e w' ⟨hb, hp⟩ => by
    rw [if_pos h] at hp
    obtain ⟨g, h1, h2, h3, h4⟩ := hp
    exact ⟨g, h4, h1, h2, h3, hb⟩
theorem ref04_New_no (W H : Int) (w : World) (h : (sideB W && sideB H) = false) :
    Calls Try.prog 65 #[.int .i64 W, .int .i64 H] w fun e w' => e = .returned (.tuple #[.agg #[.int .i64 0, .int .i64 0, .slice none 0 0], .int .i64 13]) ∧ Below w.heap.size w w' :=
  (ref04_New W H w).mono fun e w' ⟨hb, hp⟩ => by
    rw [if_neg (by rw [h]; exact Bool.false_ne_true)] at hp
    exact ⟨hp, hb⟩

theorem bitmap_New_ok (W H : Int) (w : World) (h : (sideB W && sideB H) = true) :
    Calls Try.prog 34 #[.int .i64 W, .int .i64 H] w fun e w' => ∃ g : Nat, e = .returned (.tuple #[.agg #[.int .i64 W, .int .i64 H, .slice (some ⟨g, 0, none⟩) (W * H).toNat (W * H).toNat], .int .i64 0]) ∧
      w.heap.size ≤ g ∧ g < w'.heap.size ∧ Own Value.bool 4 w' g (List.replicate (W * H).toNat false) ∧ Below w.heap.size w w' :=
  (bitmap_New W H w).mono fun e w' ⟨hb, hp⟩ => by
    rw [if_pos h] at hp
    obtain ⟨g, h1, h2, h3, h4⟩ := hp
    exact ⟨g, h4, h1, h2, h3, hb⟩
theorem bitmap_New_no (W H : Int) (w : World) (h : (sideB W && sideB H) = false) :
    Calls Try.prog 34 #[.int .i64 W, .int .i64 H] w fun e w' => e = .returned (.tuple #[.agg #[.int .i64 0, .int .i64 0, .slice none 0 0], .int .i64 13]) ∧ Below w.heap.size w w' :=
  (bitmap_New W H w).mono fun e w' ⟨hb, hp⟩ => by
    rw [if_neg (by rw [h]; exact Bool.false_ne_true)] at hp
    exact ⟨hp, hb⟩

theorem ref04_New_nat (m n : Nat) (w : World) (hm : m ≤ 96) (hn : n ≤ 96) :
    Calls Try.prog 65 #[.int .i64 m, .int .i64 n] w fun e w' => ∃ g : Nat, e = .returned (.tuple #[.agg #[.int .i64 m, .int .i64 n, .slice (some ⟨g, 0, none⟩) (m * n) (m * n)], .int .i64 0]) ∧
      w.heap.size ≤ g ∧ g < w'.heap.size ∧ Own Value.bool 4 w' g (List.replicate (m * n) false) ∧ Below w.heap.size w w' := by
  have e : ((m : Int) * (n : Int)).toNat = m * n := by rw [← Int.natCast_mul]; exact Int.toNat_natCast _
  have h := ref04_New_ok m n w (by simp [sideB]; omega)
  rw [e] at h
  exact h

theorem bitmap_New_nat (m n : Nat) (w : World) (hm : m ≤ 96) (hn : n ≤ 96) :
    Calls Try.prog 34 #[.int .i64 m, .int .i64 n] w fun e w' => ∃ g : Nat, e = .returned (.tuple #[.agg #[.int .i64 m, .int .i64 n, .slice (some ⟨g, 0, none⟩) (m * n) (m * n)], .int .i64 0]) ∧
      w.heap.size ≤ g ∧ g < w'.heap.size ∧ Own Value.bool 4 w' g (List.replicate (m * n) false) ∧ Below w.heap.size w w' := by
  have e : ((m : Int) * (n : Int)).toNat = m * n := by rw [← Int.natCast_mul]; exact Int.toNat_natCast _
  have h := bitmap_New_ok m n w (by simp [sideB]; omega)
  rw [e] at h
  exact h

end Go.Proofs.Ytlanefdeeanpnaa
