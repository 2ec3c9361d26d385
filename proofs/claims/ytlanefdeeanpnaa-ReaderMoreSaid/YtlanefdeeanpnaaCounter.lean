/-
  Contracts of the reader's counter and of the two functions that it makes. Conditions: a well-formed bitmap, a blur of at most 2, a dot of the bitmap.
-/
import Derived.Test.YtlanefdeeanpnaaPre
import Derived.Test.YtlanefdeeanpnaaRegion
import Derived.Deep.DeepCutAuto
import Derived.BigQuiet
namespace Go.Proofs.Ytlanefdeeanpnaa
set_option linter.unusedVariables false
set_option linter.unusedSimpArgs false
open Go.RowKit
attribute [local go_sem ↓] Go.wp_at_zero Go.wp_at_succ

def clampN (n : Nat) (y : Int) : Nat := (max 0 (min (n : Int) y)).toNat

/-- What the counter's two functions look at: the bitmap's box, the sums' box, the sums. -/
structure CtEnv (w : World) (pb ps gs : Nat) (m n : Nat) (s1 : Value) (D : List Bool) : Prop where
  b : Blk w pb 29 #[.int .i64 m, .int .i64 n, s1]
  s : Blk w ps 22 #[.slice (some ⟨gs, 0, none⟩) ((m + 1) * (n + 1)) ((m + 1) * (n + 1))]
  o : Own (Value.int .i64) 3 w gs (sumsP m D ((m + 1) * (n + 1)) ((m + 1) * (n + 1)))
theorem CtEnv.drewN {w : World} {pb ps gs m n : Nat} {s1 : Value} {D : List Bool} (h : CtEnv w pb ps gs m n s1 D) (k : Nat) : CtEnv (w.drewN k) pb ps gs m n s1 D := ⟨h.b, h.s, h.o⟩
theorem CtEnv.kp {w w' : World} {pb ps gs m n : Nat} {l : List Nat} {s1 : Value} {D : List Bool} (h : CtEnv w pb ps gs m n s1 D) (hk : Kp l w w') (h1 : pb ∉ l) (h2 : ps ∉ l) (h3 : gs ∉ l) : CtEnv w' pb ps gs m n s1 D :=
  ⟨hk.blk h.b h1, hk.blk h.s h2, hk.own h.o h3⟩

theorem clamp_ways (n : Nat) (y : Int) (hn : 0 < n) : (y ≤ 0 ∧ clampN n y = 0) ∨ (∃ k : Nat, y = k ∧ 0 < k ∧ k < n ∧ clampN n y = k) ∨ ((n : Int) ≤ y ∧ clampN n y = n) := by
  unfold clampN
  by_cases h : y ≤ 0
  · exact .inl ⟨h, by omega⟩
  · by_cases h1 : (n : Int) ≤ y
    · exact .inr (.inr ⟨h1, by omega⟩)
    · exact .inr (.inl ⟨y.toNat, by omega, by omega, by omega, by omega⟩)
theorem idx_facts {m n k i : Nat} (hk : k ≤ n) (hi : i ≤ m) (hm : m ≤ 96) (hn : n ≤ 96) :
    (0 : Int) ≤ (k : Int) * ((m : Int) + 1) ∧ (k : Int) * ((m : Int) + 1) ≤ 10000 ∧ (k : Int) * ((m : Int) + 1) + (i : Int) < (((m + 1) * (n + 1) : Nat) : Int) ∧ ((k : Int) * ((m : Int) + 1) + (i : Int)).toNat = k * (m + 1) + i := by
  obtain ⟨h1, h2, h3⟩ := row_int (k := k) (i := i) (m := m + 1) (n := n + 1) (by omega) (by omega)
  have hN : (m + 1) * (n + 1) ≤ 97 * 97 := Nat.mul_le_mul (by omega) (by omega)
  have e : ((m + 1 : Nat) : Int) = (m : Int) + 1 := by omega
  rw [e] at h1 h2 h3
  refine ⟨h1, by omega, h3, ?_⟩
  have h4 : (k : Int) * ((m : Int) + 1) + (i : Int) = ((k * (m + 1) + i : Nat) : Int) := by rw [Int.natCast_add, Int.natCast_mul, e]
  rw [h4]
  exact Int.toNat_natCast _

set_option maxHeartbeats 1000000 in
theorem sum_any (m n : Nat) (s1 : Value) (D : List Bool) (pb ps gs : Nat) (x y : Int) (w : World) (hm : m ≤ 96) (hn : n ≤ 96) (hm0 : 0 < m) (hn0 : 0 < n) (hE : CtEnv w pb ps gs m n s1 D) (hx : -200 ≤ x ∧ x ≤ 200) (hy : -200 ≤ y ∧ y ≤ 200) :
    Calls Try.prog 101 #[.int .i64 x, .int .i64 y, .pointer (some ⟨ps, 0, none⟩), .pointer (some ⟨pb, 0, none⟩)] w fun e w' => e = .returned (.int .i64 (pre m D (clampN m x) (clampN n y))) ∧ w = w' := by
  obtain ⟨⟨d0, d1, d2⟩, _⟩ := hE.b.three
  have c0 : w.cell? ⟨ps, 0, none⟩ = some (.slice (some ⟨gs, 0, none⟩) ((m + 1) * (n + 1)) ((m + 1) * (n + 1))) := hE.s.cell 0
  have hC : clampN m x ≤ m := by unfold clampN; omega
  have hR : clampN n y ≤ n := by unfold clampN; omega
  obtain ⟨hl, hv⟩ := sums_get m n D (clampN m x) (clampN n y) hC hR
  have hc := hE.o.cell hl
  rw [hv] at hc
  obtain ⟨hi1, hi2, hi3, hi4⟩ := idx_facts hR hC hm hn
  have HV := Lib.hid (show pre m D (clampN m x) (clampN n y) = pre m D (clampN m x) (clampN n y) from rfl)
  generalize hPV : pre m D (clampN m x) (clampN n y) = V at *
  clear hPV HV
  generalize (m + 1) * (n + 1) = N at *
  clear hl hv hE hC hR
  rcases clamp_ways m x hm0 with ⟨h1, h2⟩ | ⟨X, rfl, h1, h1', h2⟩ | ⟨h1, h2⟩ <;> rcases clamp_ways n y hn0 with ⟨h3, h4⟩ | ⟨Y, rfl, h3, h3', h4⟩ | ⟨h3, h4⟩
  all_goals
    simp only [h2, h4, Int.natCast_zero, Int.zero_mul, Int.zero_add, Int.add_zero, Nat.zero_mul, Nat.zero_add, Nat.add_zero] at hi1 hi2 hi3 hi4 hc
    clear h2 h4
    go_enter Try.func101, Try.ntmps101
    go_wp2_with fail
    go_ret
    exact ⟨rfl, rfl⟩
theorem pre_small (m : Nat) (D : List Bool) {x y : Nat} (hx : x ≤ 96) (hy : y ≤ 96) : 0 ≤ pre m D x y ∧ pre m D x y ≤ 9216 := by
  have h1 := pre_bd m D x y
  have h2 : x * y ≤ 96 * 96 := Nat.mul_le_mul hx hy
  have h3 : ((x : Int) * (y : Int)) ≤ 9216 := by rw [← Int.natCast_mul]; omega
  omega
theorem sq_pre (m n : Nat) (D : List Bool) (x y b : Nat) :
    pre m D (clampN m ((x : Int) + b + 1)) (clampN n ((y : Int) + b + 1)) - pre m D (clampN m ((x : Int) - b)) (clampN n ((y : Int) + b + 1)) - pre m D (clampN m ((x : Int) + b + 1)) (clampN n ((y : Int) - b)) + pre m D (clampN m ((x : Int) - b)) (clampN n ((y : Int) - b)) = pre m D (min m (x + b + 1)) (min n (y + b + 1)) - pre m D (clampN m ((x : Int) - b)) (min n (y + b + 1)) - pre m D (min m (x + b + 1)) (clampN n ((y : Int) - b)) + pre m D (clampN m ((x : Int) - b)) (clampN n ((y : Int) - b)) := by
  have h1 : clampN m ((x : Int) + b + 1) = min m (x + b + 1) := by unfold clampN; omega
  have h2 : clampN n ((y : Int) + b + 1) = min n (y + b + 1) := by unfold clampN; omega
  rw [h1, h2]
theorem sq_val (m n : Nat) (D : List Bool) (x y b : Nat) (hx : x < m) (hy : y < n) :
    pre m D (clampN m ((x : Int) + b + 1)) (clampN n ((y : Int) + b + 1)) - pre m D (clampN m ((x : Int) - b)) (clampN n ((y : Int) + b + 1)) - pre m D (clampN m ((x : Int) + b + 1)) (clampN n ((y : Int) - b)) + pre m D (clampN m ((x : Int) - b)) (clampN n ((y : Int) - b)) = sqN m n D x y b := by
  have h3 : clampN m ((x : Int) - b) = x - b := by unfold clampN; omega
  have h4 : clampN n ((y : Int) - b) = y - b := by unfold clampN; omega
  rw [sq_pre, h3, h4]
  rfl

set_option maxHeartbeats 1000000 in
theorem count_any (m n : Nat) (s1 : Value) (D : List Bool) (pb ps gs pu pf : Nat) (x y b : Nat) (w : World) (hm : m ≤ 96) (hn : n ≤ 96) (hx : x < m) (hy : y < n) (hb : b ≤ 2) (hE : CtEnv w pb ps gs m n s1 D)
    (hu : w.cell? ⟨pu, 0, none⟩ = some (.int .i64 b)) (hf : w.cell? ⟨pf, 0, none⟩ = some (.func (.func 101) #[] #[.pointer (some ⟨ps, 0, none⟩), .pointer (some ⟨pb, 0, none⟩)])) :
    Calls Try.prog 102 #[.int .i64 x, .int .i64 y, .pointer (some ⟨pu, 0, none⟩), .pointer (some ⟨pf, 0, none⟩)] w fun e w' => e = .returned (.int .i64 (sqN m n D x y b)) ∧ ∃ k, w' = w.drewN k := by
  have HE := Lib.hid hE
  clear hE
  have HV := Lib.hid (sq_val m n D x y b hx hy)
  have b1 := pre_small m D (x := clampN m ((x : Int) + b + 1)) (y := clampN n ((y : Int) + b + 1)) (by unfold clampN; omega) (by unfold clampN; omega)
  have b2 := pre_small m D (x := clampN m ((x : Int) - b)) (y := clampN n ((y : Int) + b + 1)) (by unfold clampN; omega) (by unfold clampN; omega)
  have b3 := pre_small m D (x := clampN m ((x : Int) + b + 1)) (y := clampN n ((y : Int) - b)) (by unfold clampN; omega) (by unfold clampN; omega)
  have b4 := pre_small m D (x := clampN m ((x : Int) - b)) (y := clampN n ((y : Int) - b)) (by unfold clampN; omega) (by unfold clampN; omega)
  have e1 : IntKind.i64.wrap ((x : Int) + b) = (x : Int) + b := IntWalk.i64_in _ (by omega)
  have e2 : IntKind.i64.wrap ((x : Int) + b + 1) = (x : Int) + b + 1 := IntWalk.i64_in _ (by omega)
  have e3 : IntKind.i64.wrap ((x : Int) - b) = (x : Int) - b := IntWalk.i64_in _ (by omega)
  have e4 : IntKind.i64.wrap ((y : Int) + b) = (y : Int) + b := IntWalk.i64_in _ (by omega)
  have e5 : IntKind.i64.wrap ((y : Int) + b + 1) = (y : Int) + b + 1 := IntWalk.i64_in _ (by omega)
  have e6 : IntKind.i64.wrap ((y : Int) - b) = (y : Int) - b := IntWalk.i64_in _ (by omega)
  go_enter Try.func102, Try.ntmps102
  go_wp2
  go_quiet (fail)
  go_wp2_with fail
  clear e1 e2 e3 e4 e5 e6
  go_quiet ((go_at_call 101; exact quiet_al (sum_any m n s1 D pb ps gs _ _ _ hm hn (by omega) (by omega) (HE.out.drewN _) (by omega) (by omega))))
  go_wp2
  go_ret
  exact ⟨ret_int HV.out, drew2 _ _ _⟩

end Go.Proofs.Ytlanefdeeanpnaa
