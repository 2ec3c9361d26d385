/-
  Contracts of size, whole and Floor of layer 1's reference, for small numbers. Conditions: those that each contract names.
-/
import Derived.Test.YtlanefdeeanpnaaPoly
namespace Go.Proofs.Ytlanefdeeanpnaa
set_option linter.unusedVariables false
set_option linter.unusedSimpArgs false
open Go.RowKit
attribute [local go_sem ↓] Go.wp_at_zero Go.wp_at_succ

theorem ref01_size (n : Int) (w : World) (h1 : -4611686018427387904 ≤ n) (h2 : n ≤ 4611686018427387904) : Calls Try.prog 107 #[.int .i64 n] w fun e w' => e = .returned (.int .u64 (n.natAbs : Int)) ∧ w = w' := by
  by_cases h : n < 0
  · have hv := Lib.hid (show (n.natAbs : Int) = -n by omega)
    go_enter Try.func107, Try.ntmps107
    go_wp2
    go_ret
    refine ⟨?_, rfl⟩
    rw [hv.out]
    congr 2
    simp [IntKind.wrap, IntKind.signed, IntKind.bits]
    omega
  · have hv := Lib.hid (show (n.natAbs : Int) = n by omega)
    go_enter Try.func107, Try.ntmps107
    go_wp2
    go_ret
    refine ⟨?_, rfl⟩
    rw [hv.out]
    rfl

theorem neg_u64 {q : Int} (h1 : 0 ≤ q) (h2 : q ≤ 4611686018427387904) : wrap64 (IntKind.u64.wrap (-q)) = -q := by
  simp [IntKind.wrap, IntKind.signed, IntKind.bits, wrap64]
  omega
theorem ref01_whole (neg : Bool) (q : Int) (w : World) (h1 : 0 ≤ q) (h2 : q ≤ 4611686018427387904) : Calls Try.prog 108 #[.bool neg, .agg #[.int .u64 0, .int .u64 q]] w fun e w' => e = .returned (.tuple #[.int .i64 (if neg = true then -q else q), .bool true]) ∧ Below w.heap.size w w' := by
  cases neg with
  | true =>
    have hv := Lib.hid (neg_u64 h1 h2)
    go_enter Try.func108, Try.ntmps108
    go_wp2
    refine bodyPost_ret (v := .tuple #[.int .i64 (wrap64 (IntKind.u64.wrap (-q))), .bool true]) (by simp [results, Try.results108, go_sem]) rfl ⟨by rw [hv.out], (Below.refl _ _).alloc (Nat.le_refl _) _⟩
  | false =>
    have g1 : ¬ (9223372036854775807 : Int) < q := by omega
    go_enter Try.func108, Try.ntmps108
    go_wp2
    refine bodyPost_ret (v := .tuple #[.int .i64 q, .bool true]) (by simp [results, Try.results108, go_sem]) rfl ⟨rfl, (Below.refl _ _).alloc (Nat.le_refl _) _⟩
/-- A quotient by sizes, rounded down. -/
theorem floor_size {a b : Int} (hb : 0 < b) : a / b = if a < 0 then -(((a.natAbs / b.natAbs : Nat) : Int) + if a.natAbs % b.natAbs = 0 then 0 else 1) else ((a.natAbs / b.natAbs : Nat) : Int) := by
  obtain ⟨n, rfl⟩ := Int.eq_ofNat_of_zero_le (show 0 ≤ b by omega)
  by_cases h : a < 0
  · rw [if_pos h]
    obtain ⟨k, hk⟩ := Int.eq_ofNat_of_zero_le (show 0 ≤ -a by omega)
    obtain rfl : a = -(k : Int) := by omega
    have e1 : (-(k : Int)).natAbs = k := by omega
    have e2 : ((n : Int)).natAbs = n := by omega
    rw [e1, e2]
    have hd := Nat.div_add_mod k n
    have hm := Nat.mod_lt k (show 0 < n by omega)
    have hd' : (n : Int) * ((k / n : Nat) : Int) + ((k % n : Nat) : Int) = (k : Int) := by rw [← Int.natCast_mul, ← Int.natCast_add, hd]
    generalize k / n = q at *
    generalize k % n = r at *
    by_cases h0 : r = 0
    · rw [if_pos h0]
      subst h0
      rw [show -(k : Int) = (n : Int) * (-(q : Int)) by rw [Int.mul_neg]; omega, Int.mul_ediv_cancel_left _ (by omega)]
      omega
    · rw [if_neg h0]
      rw [show -(k : Int) = ((n : Int) - (r : Int)) + (n : Int) * (-((q : Int) + 1)) by rw [Int.mul_neg, Int.mul_add]; omega, Int.add_mul_ediv_left _ _ (by omega), Int.ediv_eq_zero_of_lt (by omega) (by omega)]
      omega
  · rw [if_neg h]
    obtain ⟨k, rfl⟩ := Int.eq_ofNat_of_zero_le (show 0 ≤ a by omega)
    rfl
set_option maxRecDepth 100000 in
theorem ref01_Floor (a b : Int) (w : World) (ha : -4611686018427387904 ≤ a ∧ a ≤ 4611686018427387904) (hb : 2 ≤ b ∧ b ≤ 4611686018427387904) : Calls Try.prog 98 #[.int .i64 a, .int .i64 b] w fun e w' => e = .returned (.tuple #[.int .i64 (a / b), .bool true]) ∧ Below w.heap.size w w' := by
  have CA := Lib.hid (fun w => ref01_size a w ha.1 ha.2)
  have CB := Lib.hid (fun w => ref01_size b w (by omega) hb.2)
  have HF := Lib.hid (floor_size (a := a) (b := b) (by omega))
  have hbn : 2 ≤ b.natAbs := by omega
  have han : a.natAbs ≤ 4611686018427387904 := by omega
  have hq : a.natAbs / b.natAbs ≤ 2305843009213693952 := by
    have := Nat.div_le_div_left hbn (show 0 < 2 by omega) (a := a.natAbs)
    omega
  obtain ⟨hb1, hb2⟩ := hb
  have hb0 : ¬ b = 0 := by omega
  have hbl : decide (b < 0) = false := decide_eq_false (by omega)
  generalize a / b = res at *
  generalize b.natAbs = n at *
  generalize a.natAbs = k at *
  have hn0 : ¬ (n : Int) = 0 := by omega
  have t1 : ((k : Int)).tdiv (n : Int) = ((k / n : Nat) : Int) := rfl
  have t2 : ((k : Int)).tmod (n : Int) = ((k % n : Nat) : Int) := rfl
  generalize k / n = q at *
  generalize k % n = r at *
  by_cases h : a < 0
  · have CW := Lib.hid (fun (q : Int) w h1 h2 => ref01_whole true q w h1 h2)
    by_cases h0 : r = 0
    · have hv := Lib.hid (show res = if true = true then -(q : Int) else q by rw [HF.out, if_pos h, if_pos h0]; simp)
      subst h0
      go_enter Try.func98, Try.ntmps98
      go_wp2_with fail
      refine (CA.out _).mono ?_
      rintro e wa ⟨rfl, rfl⟩
      go_wp2_with fail
      refine (CB.out _).mono ?_
      rintro e wa ⟨rfl, rfl⟩
      go_wp2_with fail
      refine (CA.out _).mono ?_
      rintro e wa ⟨rfl, rfl⟩
      go_wp2_with fail
      refine (CB.out _).mono ?_
      rintro e wa ⟨rfl, rfl⟩
      go_wp2_with fail
      refine (CW.out _ _ (by omega) (by omega)).mono ?_
      rintro e wa ⟨rfl, hba⟩
      go_wp2
      refine bodyPost_ret (v := .tuple #[.int .i64 res, .bool true]) (by rw [hv.out]; simp [results, Try.results98, go_sem]) rfl ⟨rfl, hba⟩
    · have hv := Lib.hid (show res = if true = true then -((q : Int) + 1) else (q : Int) + 1 by rw [HF.out, if_pos h, if_neg h0]; simp)
      have wi : IntKind.u64.wrap ((q : Int) + 1) = (q : Int) + 1 := by simp [IntKind.wrap, IntKind.signed, IntKind.bits]; omega
      go_enter Try.func98, Try.ntmps98
      go_wp2_with fail
      refine (CA.out _).mono ?_
      rintro e wa ⟨rfl, rfl⟩
      go_wp2_with fail
      refine (CB.out _).mono ?_
      rintro e wa ⟨rfl, rfl⟩
      go_wp2_with fail
      refine (CA.out _).mono ?_
      rintro e wa ⟨rfl, rfl⟩
      go_wp2_with fail
      refine (CB.out _).mono ?_
      rintro e wa ⟨rfl, rfl⟩
      go_wp2_with fail
      refine (CW.out _ _ (by omega) (by omega)).mono ?_
      rintro e wa ⟨rfl, hba⟩
      go_wp2
      refine bodyPost_ret (v := .tuple #[.int .i64 res, .bool true]) (by rw [hv.out]; simp [results, Try.results98, go_sem]) rfl ⟨rfl, hba⟩
  · have CW := Lib.hid (fun (q : Int) w h1 h2 => ref01_whole false q w h1 h2)
    have hv := Lib.hid (show res = if false = true then -(q : Int) else q by rw [HF.out, if_neg h]; simp)
    have hal : decide (a < 0) = false := decide_eq_false h
    clear h
    go_enter Try.func98, Try.ntmps98
    go_wp2_with fail
    refine (CA.out _).mono ?_
    rintro e wa ⟨rfl, rfl⟩
    go_wp2_with fail
    refine (CB.out _).mono ?_
    rintro e wa ⟨rfl, rfl⟩
    go_wp2_with fail
    refine (CW.out _ _ (by omega) (by omega)).mono ?_
    rintro e wa ⟨rfl, hba⟩
    go_wp2
    refine bodyPost_ret (v := .tuple #[.int .i64 res, .bool true]) (by rw [hv.out]; simp [results, Try.results98, go_sem]) rfl ⟨rfl, hba⟩

end Go.Proofs.Ytlanefdeeanpnaa
