/-
  Contracts of Check (head and its reference). Conditions: none.
-/
import Derived.Test.YtlanefdeeanpnaaBase2
import Derived.Test.YtlanefdeeanpnaaL04
import Derived.Deep.DrawnRows
namespace Go.Proofs.Ytlanefdeeanpnaa
set_option linter.unusedVariables false
set_option linter.unusedSimpArgs false
open Go.RowKit
attribute [local go_sem ↓] Go.wp_at_zero Go.wp_at_succ

def hdCheck (n : Nat) : Int := if 1 ≤ n ∧ n ≤ 192 then 0 else 71

theorem head_Check (n : Nat) (A : Option Addr) (c : Nat) (w : World) :
    Calls Try.prog 40 #[.agg #[.slice A n c]] w fun e w' => e = .returned (.int .i64 (hdCheck n)) ∧ Below w.heap.size w w' := by
  by_cases h : 1 ≤ n ∧ n ≤ 192
  · have hv := Lib.hid (show hdCheck n = 0 by simp [hdCheck, h])
    obtain ⟨h0, h1⟩ := h
    go_enter Try.func40, Try.ntmps40
    go_wp2
    go_ret
    exact ⟨ret_int hv.out.symm, (Below.refl _ _).alloc (Nat.le_refl _) _⟩
  · have hv := Lib.hid (show hdCheck n = 71 by simp [hdCheck, h])
    have hw : n < 1 ∨ (1 ≤ n ∧ 192 < n) := by omega
    clear h
    rcases hw with h | ⟨h0, h1⟩
    all_goals
      go_enter Try.func40, Try.ntmps40
      go_wp2
      go_ret
      exact ⟨ret_int hv.out.symm, (Below.refl _ _).alloc (Nat.le_refl _) _⟩

theorem ref37_Check (n : Nat) (A : Option Addr) (c : Nat) (w : World) :
    Calls Try.prog 41 #[.agg #[.slice A n c]] w fun e w' => e = .returned (.int .i64 (hdCheck n)) ∧ Below w.heap.size w w' := by
  by_cases h : 1 ≤ n ∧ n ≤ 192
  · have hv := Lib.hid (show hdCheck n = 0 by simp [hdCheck, h])
    obtain ⟨h0, h1⟩ := h
    go_enter Try.func41, Try.ntmps41
    go_wp2
    go_ret
    exact ⟨ret_int hv.out.symm, (Below.refl _ _).alloc (Nat.le_refl _) _⟩
  · have hv := Lib.hid (show hdCheck n = 71 by simp [hdCheck, h])
    have hw : n < 1 ∨ (1 ≤ n ∧ 192 < n) := by omega
    clear h
    rcases hw with h | ⟨h0, h1⟩
    all_goals
      go_enter Try.func41, Try.ntmps41
      go_wp2
      go_ret
      exact ⟨ret_int hv.out.symm, (Below.refl _ _).alloc (Nat.le_refl _) _⟩
end Go.Proofs.Ytlanefdeeanpnaa
