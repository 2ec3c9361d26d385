/-
  The law's cut and Case.made.
-/
import Derived.Test.YtlanefdeeanpnaaMade
import Derived.Test.YtlanefdeeanpnaaCrop
import Derived.Test.YtlanefdeeanpnaaRMade
import Derived.Test.YtlanefdeeanpnaaRegion
import Derived.Deep.RegionLaw
import Derived.Deep.DeepCutAuto
namespace Go.Proofs.Ytlanefdeeanpnaa
set_option linter.unusedVariables false
set_option linter.unusedSimpArgs false
open Go.RowKit
attribute [local go_sem ↓] Go.wp_at_zero Go.wp_at_succ

theorem cut_any (W H : Int) (A : Option Addr) (n c : Nat) (w : World) (hn : n ≤ 9223372036854775807) (hc : n ≤ c) (hc2 : c ≤ 9223372036854775807) (hA : A = none → n = 0 ∧ c = 0) :
    Calls Try.prog 21 #[.agg #[.int .i64 W, .int .i64 H, .slice A n c]] w fun e w' => e = .returned (.agg #[.int .i64 W, .int .i64 H, .slice A (min n 500) c]) ∧ Below w.heap.size w w' := by
  have hcase : n ≤ 500 ∨ 500 < n := by omega
  rcases hcase with h | h
  · have hm := Lib.hid (show min n 500 = n by omega)
    have hi : (n : Int) ≤ 500 := by omega
    go_enter Try.func21, Try.ntmps21
    go_wp2
    all_goals first
      | omega
      | (refine bodyPost_ret (v := .agg #[.int .i64 W, .int .i64 H, .slice A n c]) (by simp [results, Try.results21, go_sem]) rfl ⟨by rw [hm.out], ?_⟩; exact ((Below.refl _ _).alloc (Nat.le_refl _) _).alloc (by simp) _)
      | (have hn5 : n = 500 := by omega
         subst hn5
         refine bodyPost_ret (v := .agg #[.int .i64 W, .int .i64 H, .slice A 500 c]) (by simp [results, Try.results21, go_sem]) rfl ⟨by rw [hm.out], ?_⟩; exact ((Below.refl _ _).alloc (Nat.le_refl _) _).alloc (by simp) _)
  · have hm := Lib.hid (show min n 500 = 500 by omega)
    have hi : (500 : Int) < n := by omega
    go_enter Try.func21, Try.ntmps21
    go_wp2
    all_goals first
      | omega
      | (refine bodyPost_ret (v := .agg #[.int .i64 W, .int .i64 H, .slice A 500 c]) (by simp [results, Try.results21, go_sem]) rfl ⟨by rw [hm.out], ?_⟩; exact ((Below.refl _ _).alloc (Nat.le_refl _) _).alloc (by simp) _)
end Go.Proofs.Ytlanefdeeanpnaa
