/-
  Contracts of Check (reader and its reference), side and Made of layer 21's reference. Conditions: none.
-/
import Derived.Test.YtlanefdeeanpnaaDraw
import Derived.Test.YtlanefdeeanpnaaL04
import Derived.Deep.RegionHeld3
import Derived.Deep.DrawnRows
import Derived.BigQuiet
namespace Go.Proofs.Ytlanefdeeanpnaa
set_option linter.unusedVariables false
set_option linter.unusedSimpArgs false
open Go.RowKit
attribute [local go_sem ↓] Go.wp_at_zero Go.wp_at_succ

def rdOk (B S : Int) : Bool := decide (0 ≤ B ∧ B ≤ 2 ∧ 1 ≤ S ∧ S ≤ (2 * B + 1) * (2 * B + 1))
def rdCheck (B S : Int) : Int := if rdOk B S = true then 0 else 3
theorem rd_yes {B S : Int} (h : rdOk B S = true) : 0 ≤ B ∧ B ≤ 2 ∧ 1 ≤ S ∧ S ≤ (2 * B + 1) * (2 * B + 1) := by simpa [rdOk] using h
theorem rd_mk {B S : Int} (h : 0 ≤ B ∧ B ≤ 2 ∧ 1 ≤ S ∧ S ≤ (2 * B + 1) * (2 * B + 1)) : rdOk B S = true := by simpa [rdOk] using h
theorem rd_ways {B S : Int} (h : ¬ rdOk B S = true) : B < 0 ∨ (0 ≤ B ∧ 2 < B) ∨ (0 ≤ B ∧ B ≤ 2 ∧ S < 1) ∨ (0 ≤ B ∧ B ≤ 2 ∧ 1 ≤ S ∧ (2 * B + 1) * (2 * B + 1) < S) := by
  have h' : ¬ (0 ≤ B ∧ B ≤ 2 ∧ 1 ≤ S ∧ S ≤ (2 * B + 1) * (2 * B + 1)) := fun hh => h (rd_mk hh)
  omega
theorem side_sq {B : Int} (h0 : 0 ≤ B) (h2 : B ≤ 2) : 1 ≤ (2 * B + 1) * (2 * B + 1) ∧ (2 * B + 1) * (2 * B + 1) ≤ 25 := by
  have : B = 0 ∨ B = 1 ∨ B = 2 := by omega
  rcases this with rfl | rfl | rfl <;> decide

theorem reader_Check (B S : Int) (w : World) :
    Calls Try.prog 23 #[.agg #[.int .i64 B, .int .i64 S]] w fun e w' => e = .returned (.int .i64 (rdCheck B S)) ∧ Below w.heap.size w w' := by
  by_cases h : rdOk B S = true
  · have hv := Lib.hid (show rdCheck B S = 0 by simp [rdCheck, h])
    obtain ⟨h0, h1, h2, h3⟩ := rd_yes h
    have hq := side_sq h0 h1
    clear h
    go_enter Try.func23, Try.ntmps23
    go_wp2
    go_ret
    exact ⟨ret_int hv.out.symm, (Below.refl _ _).alloc (Nat.le_refl _) _⟩
  · have hv := Lib.hid (show rdCheck B S = 3 by simp [rdCheck, h])
    have hw := rd_ways h
    clear h
    rcases hw with h | ⟨h0, h1⟩ | ⟨h0, h1, h2⟩ | ⟨h0, h1, h2, h3⟩
    all_goals
      try have hq := side_sq h0 h1
      go_enter Try.func23, Try.ntmps23
      go_wp2
      go_ret
      exact ⟨ret_int hv.out.symm, (Below.refl _ _).alloc (Nat.le_refl _) _⟩

theorem ref21_side (B S : Int) (w : World) (h0 : 0 ≤ B) (h1 : B ≤ 2) :
    Calls Try.prog 67 #[.agg #[.int .i64 B, .int .i64 S]] w fun e w' => e = .returned (.int .i64 (2 * B + 1)) ∧ Below w.heap.size w w' := by
  go_enter Try.func67, Try.ntmps67
  go_wp2
  go_ret
  exact ⟨rfl, (Below.refl _ _).alloc (Nat.le_refl _) _⟩

theorem two_S {w w' : World} {g : Nat} {t : TypeId} {a b : Value} (h : Blk w g t #[a, b]) (hb : Below w.heap.size w w') : w'.cell? ⟨g, 0, none⟩ = some a ∧ w'.cell? ⟨g, 1, none⟩ = some b ∧ Below w.heap.size w w' :=
  ⟨(h.below hb h.lt).cell 0, (h.below hb h.lt).cell 1, hb⟩

theorem ref21_Check (B S : Int) (w : World) :
    Calls Try.prog 24 #[.agg #[.int .i64 B, .int .i64 S]] w fun e w' => e = .returned (.int .i64 (rdCheck B S)) ∧ Below w.heap.size w w' := by
  by_cases h : 0 ≤ B ∧ B ≤ 2 ∧ 1 ≤ S
  · obtain ⟨h0, h1, h2⟩ := h
    have hq := side_sq h0 h1
    have hv := Lib.hid (show rdCheck B S = if S ≤ (2 * B + 1) * (2 * B + 1) then 0 else 3 by
      by_cases h3 : S ≤ (2 * B + 1) * (2 * B + 1)
      · rw [if_pos h3]; unfold rdCheck; rw [if_pos (rd_mk ⟨h0, h1, h2, h3⟩)]
      · rw [if_neg h3]; unfold rdCheck; rw [if_neg (fun hh => h3 (rd_yes hh).2.2.2)])
    have g0 : decide (B < 0) = false := by simp; omega
    have g1 : decide (2 < B) = false := by simp; omega
    have g2 : decide (S < 1) = false := by simp; omega
    go_enter Try.func24, Try.ntmps24
    go_wp2
    have hB := Blk.new w 26 #[.int .i64 B, .int .i64 S]
    have hW0 := (Below.refl w.heap.size w).alloc (Nat.le_refl _) (.cells #[.int .i64 B, .int .i64 S] 26)
    generalize w.alloc (.cells #[.int .i64 B, .int .i64 S] 26) = W at hB hW0 ⊢
    have hsq : IntKind.i64.wrap ((2 * B + 1) * (2 * B + 1)) = (2 * B + 1) * (2 * B + 1) := IntWalk.i64_in _ (by omega)
    generalize hp : w.heap.size = p at *
    go_region_held3 (fun w' => w'.cell? ⟨p, 0, none⟩ = some (.int .i64 B) ∧ w'.cell? ⟨p, 1, none⟩ = some (.int .i64 S) ∧ Below W.heap.size W w')
      ((first | exact two_S hB (Below.drew (Below.refl _ _)) | (go_split_ands; exact two_S hB (Below.trans (by assumption) (hb1.mono (Below.size (by assumption))))) ))
      ((go_at_call 67; refine (ref21_side _ _ _ h0 h1).mono ?_; rintro e w1 ⟨rfl, hb1⟩))
    all_goals
      go_wp2
      all_goals
        go_ret
        have hSz := hW0.size
        go_split_ands
        refine ⟨ret_int ?_, ?_⟩
        · rw [hv.out]; first | rw [if_pos (by assumption)] | rw [if_neg (by omega)]
        · rw [hp]; exact hW0.trans (Below.mono (by assumption) (by omega))
  · have hv := Lib.hid (show rdCheck B S = 3 by unfold rdCheck; rw [if_neg (fun hh => h ⟨(rd_yes hh).1, (rd_yes hh).2.1, (rd_yes hh).2.2.1⟩)])
    have hw : B < 0 ∨ (0 ≤ B ∧ 2 < B) ∨ (0 ≤ B ∧ B ≤ 2 ∧ S < 1) := by omega
    clear h
    rcases hw with h | ⟨h0, h1⟩ | ⟨h0, h1, h2⟩
    · have g0 : decide (B < 0) = true := by simpa using h
      go_enter Try.func24, Try.ntmps24
      go_wp2
      go_quiet (fail)
      go_wp2
      go_ret
      exact ⟨ret_int hv.out.symm, below_drewN ((Below.refl _ _).alloc (Nat.le_refl _) _) _⟩
    · have g0 : decide (B < 0) = false := by simpa using h0
      have g1 : decide (2 < B) = true := by simpa using h1
      go_enter Try.func24, Try.ntmps24
      go_wp2
      go_quiet (fail)
      go_wp2
      go_ret
      exact ⟨ret_int hv.out.symm, below_drewN ((Below.refl _ _).alloc (Nat.le_refl _) _) _⟩
    · have g0 : decide (B < 0) = false := by simpa using h0
      have g1 : decide (2 < B) = false := by simpa using h1
      have g2 : decide (S < 1) = true := by simpa using h2
      go_enter Try.func24, Try.ntmps24
      go_wp2
      go_quiet (fail)
      go_wp2
      go_ret
      exact ⟨ret_int hv.out.symm, below_drewN ((Below.refl _ _).alloc (Nat.le_refl _) _) _⟩

end Go.Proofs.Ytlanefdeeanpnaa
