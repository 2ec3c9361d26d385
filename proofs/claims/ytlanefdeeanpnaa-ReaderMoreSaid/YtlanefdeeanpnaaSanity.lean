/-
  The law's sanity: true.
-/
import Derived.Test.YtlanefdeeanpnaaShown
namespace Go.Proofs.Ytlanefdeeanpnaa
set_option linter.unusedVariables false
set_option linter.unusedSimpArgs false
open Go.RowKit
attribute [local go_sem ↓] Go.wp_at_zero Go.wp_at_succ

theorem shown_3 (w : World) : Calls Try.prog 63 #[.agg #[.int .i64 1, .int .i64 3], .string S0, .string T1] w fun e w' => e = .returned (.bool true) ∧ Below w.heap.size w w' := by
  have h := shown_S0 3 T1 w (by decide)
  rw [T1_is] at h
  exact h
theorem shown_2 (w : World) : Calls Try.prog 63 #[.agg #[.int .i64 1, .int .i64 2], .string S0, .string T2] w fun e w' => e = .returned (.bool true) ∧ Below w.heap.size w w' := by
  have h := shown_S0 2 T2 w (by decide)
  rw [T2_is] at h
  exact h
theorem new_33 (w : World) : Calls Try.prog 65 #[.int .i64 3, .int .i64 3] w fun e w' => ∃ g : Nat, e = .returned (.tuple #[.agg #[.int .i64 3, .int .i64 3, .slice (some ⟨g, 0, none⟩) 9 9], .int .i64 0]) ∧ w.heap.size ≤ g ∧ Own Value.bool 4 w' g (List.replicate 9 false) ∧ Below w.heap.size w w' := by
  refine (ref04_New 3 3 w).mono ?_
  rintro e w1 ⟨hb1, hq⟩
  rw [if_pos (by decide)] at hq
  obtain ⟨g, hg, hgl, hO, rfl⟩ := hq
  exact ⟨g, rfl, hg, hO, hb1⟩
theorem differ_sane (A1 A2 : Option Addr) (w : World) (hr1 : Rd Value.bool w w.heap.size A1 D0) (hr2 : Rd Value.bool w w.heap.size A2 (List.replicate 9 false)) :
    Calls Try.prog 28 #[.agg #[.int .i64 1, .int .i64 3], .agg #[.int .i64 3, .int .i64 3, .slice A1 9 9], .agg #[.int .i64 3, .int .i64 3, .slice A2 9 9]] w fun e w' => e = .returned (.tuple #[.int .i64 4, .int .i64 0]) ∧ Below w.heap.size w w' := by
  have h := reader_Differ 1 3 3 3 3 3 A1 A2 9 9 D0 (List.replicate 9 false) w (by decide) (by decide) hr1 hr2
  rw [sane_dif] at h
  refine h.mono ?_
  rintro e w1 ⟨hb, rfl⟩
  exact ⟨rfl, hb⟩

theorem chk (B S r : Int) (h : rdCheck B S = r) (w : World) : Calls Try.prog 23 #[.agg #[.int .i64 B, .int .i64 S]] w fun e w' => e = .returned (.int .i64 r) ∧ Below w.heap.size w w' := by
  rw [← h]
  exact reader_Check B S w

set_option maxHeartbeats 1000000 in
set_option maxRecDepth 100000 in
theorem sanity_true (w : World) : Calls Try.prog 19 #[] w fun e w' => e = .returned (.bool true) ∧ Below w.heap.size w w' := by
  have C1 := Lib.hid (chk 0 1 0 (by decide))
  have C2 := Lib.hid (chk 0 2 3 (by decide))
  have C3 := Lib.hid (chk 1 9 0 (by decide))
  have C4 := Lib.hid (chk 2 25 0 (by decide))
  have C5 := Lib.hid (chk 3 1 3 (by decide))
  have C6 := Lib.hid (chk 1 0 3 (by decide))
  have hbw := Below.refl w.heap.size w
  go_enter Try.func19, Try.ntmps19
  go_wp2_with fail
  refine (C1.out _).mono ?_
  rintro e w1 ⟨rfl, hb1⟩
  have hbw := hbw.trans (hb1.mono hbw.size)
  go_wp2_with fail
  refine (C2.out _).mono ?_
  rintro e w2 ⟨rfl, hb2⟩
  have hbw := hbw.trans (hb2.mono hbw.size)
  go_wp2_with fail
  refine (C3.out _).mono ?_
  rintro e w3 ⟨rfl, hb3⟩
  have hbw := hbw.trans (hb3.mono hbw.size)
  go_wp2_with fail
  refine (C4.out _).mono ?_
  rintro e w4 ⟨rfl, hb4⟩
  have hbw := hbw.trans (hb4.mono hbw.size)
  go_wp2_with fail
  refine (C5.out _).mono ?_
  rintro e w5 ⟨rfl, hb5⟩
  have hbw := hbw.trans (hb5.mono hbw.size)
  go_wp2_with fail
  refine (C6.out _).mono ?_
  rintro e w6 ⟨rfl, hb6⟩
  have hbw := hbw.trans (hb6.mono hbw.size)
  go_wp2_with fail
  have hS3 := shown_3 w6
  unfold S0 T1 at hS3
  refine hS3.mono ?_
  rintro e w7 ⟨rfl, hb7⟩
  have hbw := hbw.trans (hb7.mono hbw.size)
  go_wp2_with fail
  have hS2 := shown_2 w7
  unfold S0 T2 at hS2
  refine hS2.mono ?_
  rintro e w8 ⟨rfl, hb8⟩
  have hbw := hbw.trans (hb8.mono hbw.size)
  go_wp2_with fail
  have hP := parse_S0 w8
  unfold S0 at hP
  refine hP.mono ?_
  rintro e w9 ⟨g, rfl, hg, hO, hb9⟩
  dsimp only
  have hbw := hbw.trans (hb9.mono hbw.size)
  go_wp2_with fail
  refine calls_world (fun W1 hW1 => ?_)
  obtain ⟨hQ1, hbq1, hz1⟩ := new1 hW1
  clear hW1
  have hO1 := hO.below hbq1 hO.lt
  have hbw := hbw.trans (hbq1.mono hbw.size)
  generalize hq1 : w9.heap.size = q1 at *
  clear hq1
  refine (new_33 _).mono ?_
  rintro e w10 ⟨g2, rfl, hg2, hO2, hb10⟩
  dsimp only
  have hO1 := hO1.below hb10 hO1.lt
  have hQ1 := hQ1.below hb10 hQ1.lt
  have hbw := hbw.trans (hb10.mono hbw.size)
  have hql : q1 < w10.heap.size := hQ1.lt
  obtain ⟨⟨d0, d1, d2⟩, _⟩ := hQ1.three
  go_wp2_with fail
  refine calls_world (fun W2 hW2 => ?_)
  obtain ⟨hQ2, hbq2, hz2⟩ := new1 hW2
  clear hW2
  have hO1 := hO1.below hbq2 hO1.lt
  have hO2 := hO2.below hbq2 hO2.lt
  have hbw := hbw.trans (hbq2.mono hbw.size)
  refine (differ_sane _ _ _ (hO1.rd hO1.lt) (hO2.rd hO2.lt)).mono ?_
  rintro e w11 ⟨rfl, hb11⟩
  have hbw := hbw.trans (hb11.mono hbw.size)
  go_wp2
  go_ret
  exact ⟨rfl, hbw⟩
end Go.Proofs.Ytlanefdeeanpnaa
