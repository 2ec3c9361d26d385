/-
  The law RasterBoxes: for every argument the call returns true. Conditions: what the row's opening gives. (Printed by genboxes7.py.)
-/
import Derived.Test.YtlanefdeeanpnaaOut7
import Derived.Test.YtlanefdeeanpnaaMoves
import Derived.Deep.DrawnRows
namespace Go.Proofs.Ytlanefdeeanpnaa
set_option linter.unusedVariables false
set_option linter.unusedSimpArgs false
open Go.RowKit
attribute [local go_sem ↓] Go.wp_at_zero Go.wp_at_succ

def bq (z0 z1 z2 z3 q0 q1 q2 q3 : Int) : Nat → Array Value
  | 0 => #[.int .i64 z0, .int .i64 z1, .int .i64 z2, .int .i64 z3]
  | 1 => #[.int .i64 q0, .int .i64 z1, .int .i64 z2, .int .i64 z3]
  | 2 => #[.int .i64 q0, .int .i64 q1, .int .i64 z2, .int .i64 z3]
  | 3 => #[.int .i64 q0, .int .i64 q1, .int .i64 q2, .int .i64 z3]
  | _ => #[.int .i64 q0, .int .i64 q1, .int .i64 q2, .int .i64 q3]
theorem cnB_0 (x0 y0 x1 y1 ux uy q h : Int) : cnB x0 y0 x1 y1 ux uy q h 1 = cnB x0 y0 x1 y1 ux uy q h 0 + if inBox x0 y0 x1 y1 (ux + q) (uy + q) = true then 1 else 0 := by simp [cnB]
theorem cnB_1 (x0 y0 x1 y1 ux uy q h : Int) : cnB x0 y0 x1 y1 ux uy q h 2 = cnB x0 y0 x1 y1 ux uy q h 1 + if inBox x0 y0 x1 y1 (ux + q + h) (uy + q) = true then 1 else 0 := by simp [cnB]
theorem cnB_2 (x0 y0 x1 y1 ux uy q h : Int) : cnB x0 y0 x1 y1 ux uy q h 3 = cnB x0 y0 x1 y1 ux uy q h 2 + if inBox x0 y0 x1 y1 (ux + q) (uy + q + h) = true then 1 else 0 := by simp [cnB]
theorem cnB_3 (x0 y0 x1 y1 ux uy q h : Int) : cnB x0 y0 x1 y1 ux uy q h 4 = cnB x0 y0 x1 y1 ux uy q h 3 + if inBox x0 y0 x1 y1 (ux + q + h) (uy + q + h) = true then 1 else 0 := by simp [cnB]
theorem inBox_yes {x0 y0 x1 y1 a b : Int} (h1 : x0 < a) (h2 : a ≤ x1) (h3 : y0 ≤ b) (h4 : b < y1) : inBox x0 y0 x1 y1 a b = true := by simp [inBox, h1, h2, h3, h4]
theorem inBox_no {x0 y0 x1 y1 a b : Int} (h : ¬ (x0 < a ∧ a ≤ x1 ∧ y0 ≤ b ∧ b < y1)) : inBox x0 y0 x1 y1 a b = false := by
  simp only [inBox, Bool.and_eq_false_iff, decide_eq_false_iff_not]
  omega
theorem ux_bound {u q X k : Int} (hu : u = 4 * q) (hq : q = 1 ∨ q = 2 ∨ q = 3 ∨ q = 4) (h1 : -12 ≤ X) (h2 : X < 20) (h : u * X = k) : -400 ≤ k ∧ k ≤ 400 := by
  subst hu
  rcases hq with rfl | rfl | rfl | rfl <;> omega
theorem hh_bound {q k : Int} (hq : q = 1 ∨ q = 2 ∨ q = 3 ∨ q = 4) (h : 2 * q = k) : 1 ≤ q ∧ q ≤ 4 ∧ 2 ≤ k ∧ k ≤ 8 := by omega
theorem u_div4 {u q : Int} (hu : u = 4 * q) (hq : q = 1 ∨ q = 2 ∨ q = 3 ∨ q = 4) : u.tdiv 4 = q := by
  rw [Int.tdiv_eq_ediv_of_nonneg (by omega)]; omega
theorem u_div2 {u q k : Int} (hu : u = 4 * q) (hq : q = 1 ∨ q = 2 ∨ q = 3 ∨ q = 4) (h : 2 * q = k) : u.tdiv 2 = k := by
  rw [Int.tdiv_eq_ediv_of_nonneg (by omega)]; omega
theorem mm_small {a b : Int} (ha : -30 ≤ a ∧ a ≤ 60) (hb : -30 ≤ b ∧ b ≤ 60) : -30 ≤ min a b ∧ min a b ≤ max a b ∧ max a b ≤ 60 := by omega
theorem polyTo_box (x0 y0 x1 y1 : Int) : polyTo [x0, y0, x1, y0, x1, y1, x0, y1] ([x0, y0, x1, y0, x1, y1, x0, y1].length / 2) = bxP x0 y0 x1 y1 := by
  simp [polyTo, bxP, List.range, List.range.loop]
theorem polygon_box (x0 y0 x1 y1 : Int) (q : Nat) (w : World) (hQ : Blk w q 3 #[.int .i64 x0, .int .i64 y0, .int .i64 x1, .int .i64 y0, .int .i64 x1, .int .i64 y1, .int .i64 x0, .int .i64 y1]) : Calls Try.prog 62 #[.slice (some ⟨q, 0, none⟩) 8 8] w fun e w' => ∃ (A' : Option Addr) (c' : Nat), e = .returned (.slice A' 4 c') ∧ RdPt w' w'.heap.size A' (bxP x0 y0 x1 y1) ∧ Below w.heap.size w w' :=
  (polygon_any [x0, y0, x1, y0, x1, y1, x0, y1] (some ⟨q, 0, none⟩) 8 w (by simp) ((show Own (Value.int .i64) 3 w q [x0, y0, x1, y0, x1, y1, x0, y1] from hQ).rd hQ.lt)).mono fun e w' ⟨A', c', h1, h2, h3⟩ => ⟨A', c', by simpa using h1, by rw [polyTo_box] at h2; exact h2, h3⟩

set_option maxHeartbeats 1000000 in
set_option maxRecDepth 100000 in
theorem boxes_law (z0 z1 z2 z3 un : Int) (ls : List (List Int)) (A : Option Addr) (c : Nat) (w : World) (hn : ∀ l ∈ ls, l.length ≤ 9223372036854775807) (hls : ls.length ≤ 9223372036854775807)
    (hr : RdIs w w.heap.size A ls) :
    Calls Try.prog 18 #[.agg #[.int .i64 z0, .int .i64 z1, .int .i64 z2, .int .i64 z3], .int .i64 un, .slice A ls.length c] w fun e w' => e = .returned (.bool true) ∧ Below w.heap.size w w' := by
  have HR := Lib.hid hr
  have CMD := Lib.hid (fun w h => Made7_any ls A c w hn hls h)
  have HL4 := Lib.hid (m7s_len ls)
  have HL8 := Lib.hid (m7s_small ls)
  have HNR := Lib.hid (near_m7s ls)
  have HOR := Lib.hid (fun y => out_right (fun p hp q hq => (m7s_small ls p hp).2 q hq) y)
  have HOL := Lib.hid (fun y => out_left (fun p hp q hq => (m7s_small ls p hp).2 q hq) y)
  have HOA := Lib.hid (fun x => out_above (fun p hp q hq => (m7s_small ls p hp).2 q hq) x)
  have HOB := Lib.hid (fun x => out_below (fun p hp q hq => (m7s_small ls p hp).2 q hq) x)
  generalize m7s ls = l7 at *
  have CM4 := Lib.hid (fun w => Mod_any un 4 w (by omega) (by omega))
  obtain ⟨u, hug⟩ : ∃ u, 4 + un % 4 * 4 = u := ⟨_, rfl⟩
  obtain ⟨h4, hq4⟩ : ∃ k, 1 + un % 4 = k := ⟨_, rfl⟩
  have HU4 := Lib.hid (show u = 4 * h4 by omega)
  have HQ := Lib.hid (show h4 = 1 ∨ h4 = 2 ∨ h4 = 3 ∨ h4 = 4 by omega)
  have hr0 := Int.emod_nonneg un (show (4 : Int) ≠ 0 by omega)
  have hr1 := Int.emod_lt_of_pos un (show (0 : Int) < 4 by omega)
  generalize un % 4 = r at *
  have CM0 := Lib.hid (fun w => Mod_any z0 90 w (by omega) (by omega))
  have ha0 := Int.emod_nonneg z0 (show (90 : Int) ≠ 0 by omega)
  have hb0 := Int.emod_lt_of_pos z0 (show (0 : Int) < 90 by omega)
  generalize z0 % 90 = r0 at *
  obtain ⟨q0, hg0⟩ : ∃ k, r0 - 30 = k := ⟨_, rfl⟩
  have HB0 := Lib.hid (show -30 ≤ q0 ∧ q0 ≤ 60 by omega)
  have hw0 : wrap64 q0 = q0 := w64 (by omega) (by omega)
  have CM1 := Lib.hid (fun w => Mod_any z1 90 w (by omega) (by omega))
  have ha1 := Int.emod_nonneg z1 (show (90 : Int) ≠ 0 by omega)
  have hb1 := Int.emod_lt_of_pos z1 (show (0 : Int) < 90 by omega)
  generalize z1 % 90 = r1 at *
  obtain ⟨q1, hg1⟩ : ∃ k, r1 - 30 = k := ⟨_, rfl⟩
  have HB1 := Lib.hid (show -30 ≤ q1 ∧ q1 ≤ 60 by omega)
  have hw1 : wrap64 q1 = q1 := w64 (by omega) (by omega)
  have CM2 := Lib.hid (fun w => Mod_any z2 90 w (by omega) (by omega))
  have ha2 := Int.emod_nonneg z2 (show (90 : Int) ≠ 0 by omega)
  have hb2 := Int.emod_lt_of_pos z2 (show (0 : Int) < 90 by omega)
  generalize z2 % 90 = r2 at *
  obtain ⟨q2, hg2⟩ : ∃ k, r2 - 30 = k := ⟨_, rfl⟩
  have HB2 := Lib.hid (show -30 ≤ q2 ∧ q2 ≤ 60 by omega)
  have hw2 : wrap64 q2 = q2 := w64 (by omega) (by omega)
  have CM3 := Lib.hid (fun w => Mod_any z3 90 w (by omega) (by omega))
  have ha3 := Int.emod_nonneg z3 (show (90 : Int) ≠ 0 by omega)
  have hb3 := Int.emod_lt_of_pos z3 (show (0 : Int) < 90 by omega)
  generalize z3 % 90 = r3 at *
  obtain ⟨q3, hg3⟩ : ∃ k, r3 - 30 = k := ⟨_, rfl⟩
  have HB3 := Lib.hid (show -30 ≤ q3 ∧ q3 ≤ 60 by omega)
  have hw3 : wrap64 q3 = q3 := w64 (by omega) (by omega)
  have wr4 : wrap64 (r * 4) = r * 4 := w64 (by omega) (by omega)
  have wu : wrap64 u = u := w64 (by omega) (by omega)
  clear hr hn hr0 hr1 ha0 hb0 ha1 hb1 ha2 hb2 ha3 hb3 hq4
  go_enter Try.func18, Try.ntmps18
  go_wp2_with fail
  refine calls_world (fun W0 hW0 => ?_)
  obtain ⟨hQ3, hb0, hs0⟩ := new1 hW0
  clear hW0
  generalize hp : w.heap.size = p at *
  have HP := Lib.hid hp
  clear hp
  refine (sanity07 _).mono ?_
  rintro e w1 ⟨rfl, hba⟩
  replace hQ3 := hQ3.below hba hQ3.lt
  have hb1 := hb0.trans (hba.mono (by omega))
  have hz : p ≤ w1.heap.size := by have := hQ3.lt; omega
  clear hs0 hba hb0
  go_wp2_with fail
  refine (CM4.out _).mono ?_
  rintro e wa ⟨rfl, rfl⟩
  go_wp2_with fail
  (try simp only [wr4, hug, wu])
  go_loopw [29] (fun s29 wr => ∃ k : Nat, k ≤ 4 ∧ s29 = .int .i64 k ∧ Blk wr p 99 (bq z0 z1 z2 z3 q0 q1 q2 q3 k) ∧ Kp [p] w1 wr) (fun s29 _ => 4 - (intOf s29).toNat)
  case atStart => exact ⟨0, by omega, rfl, hQ3, Kp.refl _ _⟩
  case round =>
    clear hQ3
    obtain ⟨k, hk, rfl, hQ, hkp⟩ := hrel
    rcases (show k = 0 ∨ k = 1 ∨ k = 2 ∨ k = 3 ∨ k = 4 by omega) with rfl | rfl | rfl | rfl | rfl
    · obtain ⟨⟨c0, c1, c2, c3⟩, d0, d1, d2, d3⟩ := (show Blk wr p 99 #[.int .i64 z0, .int .i64 z1, .int .i64 z2, .int .i64 z3] from hQ).n4
      clear c0 c1 c2 c3 d0 d1 d2 d3
      obtain ⟨⟨c0, c1, c2, c3⟩, d0, d1, d2, d3⟩ := (show Blk wr p 99 #[.int .i64 z0, .int .i64 z1, .int .i64 z2, .int .i64 z3] from hQ).n4
      go_wp2_with fail
      refine (CM0.out _).mono ?_
      rintro e wa ⟨rfl, rfl⟩
      go_wp2_with fail
      go_roundw
      case rel =>
        obtain ⟨hQ2, hk2⟩ := store_at (i := 0) (x := .int .i64 q0) rfl (show Blk wr p 99 #[.int .i64 z0, .int .i64 z1, .int .i64 z2, .int .i64 z3] from hQ)
        exact ⟨1, by omega, by go_num, by simpa [bq] using hQ2, hkp.trans hk2⟩
      case measure => simp [intOf]
    · obtain ⟨⟨c0, c1, c2, c3⟩, d0, d1, d2, d3⟩ := (show Blk wr p 99 #[.int .i64 q0, .int .i64 z1, .int .i64 z2, .int .i64 z3] from hQ).n4
      clear c0 c1 c2 c3 d0 d1 d2 d3
      obtain ⟨⟨c0, c1, c2, c3⟩, d0, d1, d2, d3⟩ := (show Blk wr p 99 #[.int .i64 q0, .int .i64 z1, .int .i64 z2, .int .i64 z3] from hQ).n4
      go_wp2_with fail
      refine (CM1.out _).mono ?_
      rintro e wa ⟨rfl, rfl⟩
      go_wp2_with fail
      go_roundw
      case rel =>
        obtain ⟨hQ2, hk2⟩ := store_at (i := 1) (x := .int .i64 q1) rfl (show Blk wr p 99 #[.int .i64 q0, .int .i64 z1, .int .i64 z2, .int .i64 z3] from hQ)
        exact ⟨2, by omega, by go_num, by simpa [bq] using hQ2, hkp.trans hk2⟩
      case measure => simp [intOf]
    · obtain ⟨⟨c0, c1, c2, c3⟩, d0, d1, d2, d3⟩ := (show Blk wr p 99 #[.int .i64 q0, .int .i64 q1, .int .i64 z2, .int .i64 z3] from hQ).n4
      clear c0 c1 c2 c3 d0 d1 d2 d3
      obtain ⟨⟨c0, c1, c2, c3⟩, d0, d1, d2, d3⟩ := (show Blk wr p 99 #[.int .i64 q0, .int .i64 q1, .int .i64 z2, .int .i64 z3] from hQ).n4
      go_wp2_with fail
      refine (CM2.out _).mono ?_
      rintro e wa ⟨rfl, rfl⟩
      go_wp2_with fail
      go_roundw
      case rel =>
        obtain ⟨hQ2, hk2⟩ := store_at (i := 2) (x := .int .i64 q2) rfl (show Blk wr p 99 #[.int .i64 q0, .int .i64 q1, .int .i64 z2, .int .i64 z3] from hQ)
        exact ⟨3, by omega, by go_num, by simpa [bq] using hQ2, hkp.trans hk2⟩
      case measure => simp [intOf]
    · obtain ⟨⟨c0, c1, c2, c3⟩, d0, d1, d2, d3⟩ := (show Blk wr p 99 #[.int .i64 q0, .int .i64 q1, .int .i64 q2, .int .i64 z3] from hQ).n4
      clear c0 c1 c2 c3 d0 d1 d2 d3
      obtain ⟨⟨c0, c1, c2, c3⟩, d0, d1, d2, d3⟩ := (show Blk wr p 99 #[.int .i64 q0, .int .i64 q1, .int .i64 q2, .int .i64 z3] from hQ).n4
      go_wp2_with fail
      refine (CM3.out _).mono ?_
      rintro e wa ⟨rfl, rfl⟩
      go_wp2_with fail
      go_roundw
      case rel =>
        obtain ⟨hQ2, hk2⟩ := store_at (i := 3) (x := .int .i64 q3) rfl (show Blk wr p 99 #[.int .i64 q0, .int .i64 q1, .int .i64 q2, .int .i64 z3] from hQ)
        exact ⟨4, by omega, by go_num, by simpa [bq] using hQ2, hkp.trans hk2⟩
      case measure => simp [intOf]
    · replace hQ : Blk wr p 99 #[.int .i64 q0, .int .i64 q1, .int .i64 q2, .int .i64 q3] := hQ
      clear CM0 CM1 CM2 CM3 CM4 hw0 hw1 hw2 hw3 wr4 hg0 hg1 hg2 hg3 hug
      have hb2 := hb1.trans (hkp.to_below hz (by simp))
      replace hz : p ≤ wr.heap.size := Nat.le_trans hz hkp.size
      clear hb1 hkp
      have zQ := hQ.lt
      obtain ⟨⟨c0, c1, c2, c3⟩, _⟩ := hQ.n4
      go_upto_region 8 with fail
      refine wp_region_L 23 (fun w' => (∀ b o, b < wr.heap.size → w'.cell? ⟨b, o, none⟩ = wr.cell? ⟨b, o, none⟩) ∧ Below wr.heap.size wr w') (by kernel_rfl) ?_ (fun Wd hWd hS => ?_)
      · (try dsimp only)
        exact sb_of (Below.refl _ _).drew
      (try dsimp only at hS)
      refine wpT_take 0 (v := ?_) rfl (by kernel_rfl) (by kernel_rfl) (fun _ _ _ h => h) hS (Or.inl ⟨rfl, ?_⟩) ?_
      rotate_left
      · (intro w' hSw; (try dsimp only at hSw); go_simp; first | done | with_reducible rfl)
      (try simp only [Act.put, List.setIfInBounds_toArray, List.set_cons_zero, List.set_cons_succ])
      refine wpT_take 1 (v := ?_) rfl (by kernel_rfl) (by kernel_rfl) (fun _ _ _ h => h) hS (Or.inl ⟨rfl, ?_⟩) ?_
      rotate_left
      · (intro w' hSw; (try dsimp only at hSw); go_simp; first | done | with_reducible rfl)
      (try simp only [Act.put, List.setIfInBounds_toArray, List.set_cons_zero, List.set_cons_succ])
      refine wpT_take 2 (v := ?_) rfl (by kernel_rfl) (by kernel_rfl) (fun _ _ _ h => h) hS (Or.inl ⟨rfl, ?_⟩) ?_
      rotate_left
      · (intro w' hSw; (try dsimp only at hSw); go_simp; first | done | with_reducible rfl)
      (try simp only [Act.put, List.setIfInBounds_toArray, List.set_cons_zero, List.set_cons_succ])
      refine wpT_take 3 (v := ?_) rfl (by kernel_rfl) (by kernel_rfl) (fun _ _ _ h => h) hS (Or.inl ⟨rfl, ?_⟩) ?_
      rotate_left
      · (intro w' hSw; (try dsimp only at hSw); go_simp; first | done | with_reducible rfl)
      (try simp only [Act.put, List.setIfInBounds_toArray, List.set_cons_zero, List.set_cons_succ])
      refine wpT_take 4 (v := ?_) rfl (by kernel_rfl) (by kernel_rfl) (fun _ _ _ h => h) hS (Or.inl ⟨rfl, ?_⟩) ?_
      rotate_left
      · (intro w' hSw; (try dsimp only at hSw); go_simp; first | done | with_reducible rfl)
      (try simp only [Act.put, List.setIfInBounds_toArray, List.set_cons_zero, List.set_cons_succ])
      refine wpT_take 5 (v := ?_) rfl (by kernel_rfl) (by kernel_rfl) (fun _ _ _ h => h) hS (Or.inl ⟨rfl, ?_⟩) ?_
      rotate_left
      · (intro w' hSw; (try dsimp only at hSw); go_simp; first | done | with_reducible rfl)
      (try simp only [Act.put, List.setIfInBounds_toArray, List.set_cons_zero, List.set_cons_succ])
      refine wpT_take 6 (v := ?_) rfl (by kernel_rfl) (by kernel_rfl) (fun _ _ _ h => h) hS (Or.inl ⟨rfl, ?_⟩) ?_
      rotate_left
      · (intro w' hSw; (try dsimp only at hSw); go_simp; first | done | with_reducible rfl)
      (try simp only [Act.put, List.setIfInBounds_toArray, List.set_cons_zero, List.set_cons_succ])
      refine wpT_take 7 (v := ?_) rfl (by kernel_rfl) (by kernel_rfl) (fun _ _ _ h => h) hS (Or.inl ⟨rfl, ?_⟩) ?_
      rotate_left
      · (intro w' hSw; (try dsimp only at hSw); go_simp; first | done | with_reducible rfl)
      (try simp only [Act.put, List.setIfInBounds_toArray, List.set_cons_zero, List.set_cons_succ])
      refine wpT_take 8 (v := ?_) rfl (by kernel_rfl) (by kernel_rfl) (fun _ _ _ h => h) hS (Or.inl ⟨rfl, ?_⟩) ?_
      rotate_left
      · (intro w' hSw; (try dsimp only at hSw); go_simp; first | done | with_reducible rfl)
      (try simp only [Act.put, List.setIfInBounds_toArray, List.set_cons_zero, List.set_cons_succ])
      refine wpT_take 9 (v := ?_) rfl (by kernel_rfl) (by kernel_rfl) (fun _ _ _ h => h) hS (Or.inl ⟨rfl, ?_⟩) ?_
      rotate_left
      · (intro w' hSw; (try dsimp only at hSw); go_simp; first | done | with_reducible rfl)
      (try simp only [Act.put, List.setIfInBounds_toArray, List.set_cons_zero, List.set_cons_succ])
      refine wpT_take 10 (v := ?_) rfl (by kernel_rfl) (by kernel_rfl) (fun _ _ _ h => h) hS (Or.inl ⟨rfl, ?_⟩) ?_
      rotate_left
      · (intro w' hSw; (try dsimp only at hSw); go_simp; first | done | with_reducible rfl)
      (try simp only [Act.put, List.setIfInBounds_toArray, List.set_cons_zero, List.set_cons_succ])
      refine wpT_take 11 (v := ?_) rfl (by kernel_rfl) (by kernel_rfl) (fun _ _ _ h => h) hS (Or.inl ⟨rfl, ?_⟩) ?_
      rotate_left
      · (intro w' hSw; (try dsimp only at hSw); go_simp; first | done | with_reducible rfl)
      (try simp only [Act.put, List.setIfInBounds_toArray, List.set_cons_zero, List.set_cons_succ])
      refine wpT_take 12 (v := ?_) rfl (by kernel_rfl) (by kernel_rfl) (fun _ _ _ h => h) hS (Or.inl ⟨rfl, ?_⟩) ?_
      rotate_left
      · (intro w' hSw; (try dsimp only at hSw); go_simp; first | done | with_reducible rfl)
      (try simp only [Act.put, List.setIfInBounds_toArray, List.set_cons_zero, List.set_cons_succ])
      refine wpT_take 13 (v := ?_) rfl (by kernel_rfl) (by kernel_rfl) (fun _ _ _ h => h) hS (Or.inl ⟨rfl, ?_⟩) ?_
      rotate_left
      · (intro w' hSw; (try dsimp only at hSw); go_simp; first | done | with_reducible rfl)
      (try simp only [Act.put, List.setIfInBounds_toArray, List.set_cons_zero, List.set_cons_succ])
      refine wpT_take 14 (v := ?_) rfl (by kernel_rfl) (by kernel_rfl) (fun _ _ _ h => h) hS (Or.inl ⟨rfl, ?_⟩) ?_
      rotate_left
      · (intro w' hSw; (try dsimp only at hSw); go_simp; first | done | with_reducible rfl)
      (try simp only [Act.put, List.setIfInBounds_toArray, List.set_cons_zero, List.set_cons_succ])
      refine wpT_take 15 (v := ?_) rfl (by kernel_rfl) (by kernel_rfl) (fun _ _ _ h => h) hS (Or.inl ⟨rfl, ?_⟩) ?_
      rotate_left
      · (intro w' hSw; (try dsimp only at hSw); go_simp; first | done | with_reducible rfl)
      (try simp only [Act.put, List.setIfInBounds_toArray, List.set_cons_zero, List.set_cons_succ])
      refine wpT_take 16 (v := ?_) rfl (by kernel_rfl) (by kernel_rfl) (fun _ _ _ h => h) hS (Or.inl ⟨rfl, ?_⟩) ?_
      rotate_left
      · (intro w' hSw; (try dsimp only at hSw); go_simp; first | done | with_reducible rfl)
      (try simp only [Act.put, List.setIfInBounds_toArray, List.set_cons_zero, List.set_cons_succ])
      refine wpT_take 17 (v := ?_) rfl (by kernel_rfl) (by kernel_rfl) (fun _ _ _ h => h) hS (Or.inl ⟨rfl, ?_⟩) ?_
      rotate_left
      · (intro w' hSw; (try dsimp only at hSw); go_simp; first | done | with_reducible rfl)
      (try simp only [Act.put, List.setIfInBounds_toArray, List.set_cons_zero, List.set_cons_succ])
      refine wpT_take 18 (v := ?_) rfl (by kernel_rfl) (by kernel_rfl) (fun _ _ _ h => h) hS (Or.inl ⟨rfl, ?_⟩) ?_
      rotate_left
      · (intro w' hSw; (try dsimp only at hSw); go_simp; first | done | with_reducible rfl)
      (try simp only [Act.put, List.setIfInBounds_toArray, List.set_cons_zero, List.set_cons_succ])
      refine wpT_take 19 (v := ?_) rfl (by kernel_rfl) (by kernel_rfl) (fun _ _ _ h => h) hS (Or.inl ⟨rfl, ?_⟩) ?_
      rotate_left
      · (intro w' hSw; (try dsimp only at hSw); go_simp; first | done | with_reducible rfl)
      (try simp only [Act.put, List.setIfInBounds_toArray, List.set_cons_zero, List.set_cons_succ])
      refine wpT_take 20 (v := ?_) rfl (by kernel_rfl) (by kernel_rfl) (fun _ _ _ h => h) hS (Or.inl ⟨rfl, ?_⟩) ?_
      rotate_left
      · (intro w' hSw; (try dsimp only at hSw); go_simp; first | done | with_reducible rfl)
      (try simp only [Act.put, List.setIfInBounds_toArray, List.set_cons_zero, List.set_cons_succ])
      refine wpT_take 21 (v := ?_) rfl (by kernel_rfl) (by kernel_rfl) (fun _ _ _ h => h) hS (Or.inl ⟨rfl, ?_⟩) ?_
      rotate_left
      · (intro w' hSw; (try dsimp only at hSw); go_simp; first | done | with_reducible rfl)
      (try simp only [Act.put, List.setIfInBounds_toArray, List.set_cons_zero, List.set_cons_succ])
      refine wpT_take 22 (v := ?_) rfl (by kernel_rfl) (by kernel_rfl) (fun _ _ _ h => h) hS (Or.inl ⟨rfl, ?_⟩) ?_
      rotate_left
      · (intro w' hSw; (try dsimp only at hSw); go_simp; first | done | with_reducible rfl)
      (try simp only [Act.put, List.setIfInBounds_toArray, List.set_cons_zero, List.set_cons_succ])
      refine wpT_tail (by rfl) (by kernel_rfl) ?_
      (try simp only [List.drop_succ_cons, List.drop_zero])
      have hQd := hQ.below hWd hQ.lt
      have hb3 := hb2.trans (hWd.mono hz)
      replace hz : p ≤ Wd.heap.size := Nat.le_trans hz hWd.size
      clear hS hWd hQ hb2 c0 c1 c2 c3 zQ
      have HX : Hid (-30 ≤ min q0 q2 ∧ min q0 q2 ≤ max q0 q2 ∧ max q0 q2 ≤ 60) := Lib.hid (mm_small HB0.out HB2.out)
      have HY : Hid (-30 ≤ min q1 q3 ∧ min q1 q3 ≤ max q1 q3 ∧ max q1 q3 ≤ 60) := Lib.hid (mm_small HB1.out HB3.out)
      generalize min q0 q2 = x0 at *
      generalize max q0 q2 = x1 at *
      generalize min q1 q3 = y0 at *
      generalize max q1 q3 = y1 at *
      clear HB2 HB3
      have HM := Lib.hid (boxes_math (x0 := x0) (y0 := y0) (x1 := x1) (y1 := y1) (u := u) (q := h4) (by have := HX.out; omega) (by have := HX.out; omega) (by have := HY.out; omega) (by have := HY.out; omega) HX.out.2.1 HY.out.2.1 HU4.out HQ.out)
      have CD := Lib.hid (fun A' c' w h => raster_Dots [bxP x0 y0 x1 y1] A' c' u w (by simp) (fun p hp => by rw [List.mem_singleton.1 hp]; simp [bxP]) h)
      have CC := Lib.hid (fun A' c' x y w h => raster_Cover [bxP x0 y0 x1 y1] A' c' u x y w (by simp) (fun p hp => by rw [List.mem_singleton.1 hp]; simp [bxP]) h)
      have HDL := Lib.hid (dotsV_len [bxP x0 y0 x1 y1] u)
      generalize dotsV [bxP x0 y0 x1 y1] u = V at *
      go_upto_region 9 with fail
      go_wp2_with fail
      refine calls_world (fun W3 hW3 => ?_)
      obtain ⟨q68, eqq, hQ68, hbq, hsq⟩ := new1n hW3
      clear hW3
      rw [← eqq] at hbq
      try rw [eqq]
      have hb4 := hb3.trans (hbq.mono hz)
      replace hz : p ≤ W3.heap.size := Nat.le_trans hz hbq.size
      replace hQd := hQd.below hbq (by have := hQd.lt; omega)
      refine (polygon_box x0 y0 x1 y1 q68 _ hQ68).mono ?_
      rintro e w4 ⟨AP, cP, rfl, hrP, hba⟩
      replace hQd := hQd.below hba hQd.lt
      have hb5 := hb4.trans (hba.mono hz)
      replace hz : p ≤ w4.heap.size := Nat.le_trans hz hba.size
      clear hb3 hb4 hba hbq hsq eqq hQ68
      go_upto_region 10 with fail
      refine wp_world (fun W5 hW5 => ?_)
      obtain ⟨q70, eqq, hQ70, hbq, hsq⟩ := new1n hW5
      clear hW5
      rw [← eqq] at hbq
      try rw [eqq]
      have hb6 := hb5.trans (hbq.mono hz)
      replace hz : p ≤ W5.heap.size := Nat.le_trans hz hbq.size
      replace hQd := hQd.below hbq (by have := hQd.lt; omega)
      have HRB := Lib.hid (rdps_one (xs := bxP x0 y0 x1 y1) hQ70 ((hrP.below hbq (Nat.le_refl _)).more hbq.size))
      clear hb5 hbq hsq eqq hQ70 hrP
      go_wp2_with fail
      refine (CD.out _ _ _ HRB.out).mono ?_
      rintro e w6 ⟨⟨A1, c1, rfl, hd1⟩, hba⟩
      replace hQd := hQd.below hba hQd.lt
      have hb7 := hb6.trans (hba.mono hz)
      replace hz : p ≤ w6.heap.size := Nat.le_trans hz hba.size
      have HRB6 := Lib.hid (HRB.out.on hba)
      clear hb6 hba HRB CD
      go_upto_region 11 with fail
      refine wp_world (fun W7 hW7 => ?_)
      obtain ⟨q15, eqq, hQ15, hbq, hsq⟩ := new1n hW7
      clear hW7
      rw [← eqq] at hbq
      try rw [eqq]
      have hb8 := hb7.trans (hbq.mono hz)
      replace hz : p ≤ W7.heap.size := Nat.le_trans hz hbq.size
      replace hQd := hQd.below hbq (by have := hQd.lt; omega)
      have HRB7 := Lib.hid (HRB6.out.on hbq)
      have HD7 := Lib.hid ((hd1.below hbq (Nat.le_refl _)).more hbq.size)
      clear hb7 hbq hsq eqq hd1 HRB6
      obtain ⟨hk0, hL, hB, hM⟩ := HM.out
      rw [hk0]
      have HM2 := Lib.hid hM
      have HLB := Lib.hid (show (-100 ≤ V.L ∧ V.L ≤ 100) ∧ -100 ≤ V.B ∧ V.B ≤ 100 from ⟨hL, hB⟩)
      have zq15 := hQ15.lt
      have zqd := hQd.lt
      have hlit : ((0 : Nat) : Int) - 12 = -12 := by decide
      clear HM hk0 hL hB hM
      go_wp2_with fail
      go_loopw [17] (fun s17 wr => ∃ t : Nat, t ≤ 32 ∧ s17 = .int .i64 ((t : Int) - 12) ∧ Below W7.heap.size W7 wr) (fun s17 _ => (20 - intOf s17).toNat)
      case atStart => exact ⟨0, by omega, rfl, Below.refl _ _⟩
      case round =>
        obtain ⟨t, ht, rfl, hbr⟩ := hrel
        have hzr := hbr.size
        by_cases hlt : t < 32
        · obtain ⟨Y, hY⟩ : ∃ Y : Int, (t : Int) - 12 = Y := ⟨_, rfl⟩
          rw [hY]
          have hY1 : -12 ≤ Y := by omega
          have hY2 : Y < 20 := by omega
          have hY3 := Lib.hid hY
          clear hY
          go_wp2_with fail
          go_loopw [18] (fun s18 wx => ∃ s : Nat, s ≤ 32 ∧ s18 = .int .i64 ((s : Int) - 12) ∧ Below W7.heap.size W7 wx) (fun s18 _ => (20 - intOf s18).toNat)
          case atStart => exact ⟨0, by omega, rfl, hbr⟩
          case round =>
            clear hbr hzr
            obtain ⟨s, hs, rfl, hbr⟩ := hrel
            have hzr := hbr.size
            by_cases hls : s < 32
            · obtain ⟨X, hX⟩ : ∃ X : Int, (s : Int) - 12 = X := ⟨_, rfl⟩
              rw [hX]
              have hX1 : -12 ≤ X := by omega
              have hX2 : X < 20 := by omega
              have hX3 := Lib.hid hX
              clear hX
              obtain ⟨ux, hux⟩ : ∃ k : Int, u * X = k := ⟨_, rfl⟩
              obtain ⟨uy, huy⟩ : ∃ k : Int, u * Y = k := ⟨_, rfl⟩
              obtain ⟨hh, hhh⟩ : ∃ k : Int, 2 * h4 = k := ⟨_, rfl⟩
              have hcm := HM2.out X Y (by omega) (by omega) (by omega) (by omega)
              rw [hux, huy, hhh] at hcm
              have HCM1 := Lib.hid hcm.1
              have HCM2 := Lib.hid hcm.2
              have hb5 := ux_bound HU4.out HQ.out hX1 hX2 hux
              have hb6 := ux_bound HU4.out HQ.out hY1 hY2 huy
              have hb7 := hh_bound HQ.out hhh
              have hd4 : u.tdiv 4 = h4 := u_div4 HU4.out HQ.out
              have hd2 : u.tdiv 2 = hh := u_div2 HU4.out HQ.out hhh
              obtain ⟨hb51, hb52⟩ := hb5
              obtain ⟨hb61, hb62⟩ := hb6
              obtain ⟨hb71, hb72, hb73, hb74⟩ := hb7
              obtain ⟨⟨lL1, lL2⟩, lB1, lB2⟩ := HLB.out
              clear hcm hhh
              have CCx := Lib.hid (fun A' c' w h => CC.out A' c' X Y w h)
              rw [HCM1.out] at CCx
              have HCS := Lib.hid (cnB_small x0 y0 x1 y1 ux uy h4 hh)
              have HC0 := Lib.hid (cnB_0 x0 y0 x1 y1 ux uy h4 hh)
              have HC1 := Lib.hid (cnB_1 x0 y0 x1 y1 ux uy h4 hh)
              have HC2 := Lib.hid (cnB_2 x0 y0 x1 y1 ux uy h4 hh)
              have HC3 := Lib.hid (cnB_3 x0 y0 x1 y1 ux uy h4 hh)
              go_wp2_with fail
              go_loopw [19, 20] (fun s19 s20 wz => ∃ k : Nat, k ≤ 4 ∧ s20 = .int .i64 k ∧ s19 = .int .i64 (cnB x0 y0 x1 y1 ux uy h4 hh k) ∧ wz = wr) (fun _ s20 _ => 4 - (intOf s20).toNat)
              case atStart => exact ⟨0, by omega, rfl, rfl, rfl⟩
              case round =>
                obtain ⟨k, hk, rfl, rfl, rfl⟩ := hrel
                rcases (show k = 0 ∨ k = 1 ∨ k = 2 ∨ k = 3 ∨ k = 4 by omega) with rfl | rfl | rfl | rfl | rfl
                · have hcs := HCS.out 0
                  obtain ⟨sx, hsx⟩ : ∃ a : Int, ux + h4 = a := ⟨_, rfl⟩
                  obtain ⟨sy, hsy⟩ : ∃ a : Int, uy + h4 = a := ⟨_, rfl⟩
                  have hcs1 := hcs.1
                  have hcs2 := hcs.2
                  have HCK := Lib.hid HC0.out
                  rw [hsx, hsy] at HCK
                  generalize cnB x0 y0 x1 y1 ux uy h4 hh 0 = n at *
                  clear hcs
                  by_cases c1 : x0 < sx
                  · by_cases c2 : sx ≤ x1
                    · by_cases c3 : y0 ≤ sy
                      · by_cases c4 : sy < y1
                        · have HN := Lib.hid (HCK.out.trans (by rw [inBox_yes c1 c2 c3 c4, if_pos rfl]))
                          go_wp2_with fail
                          go_roundw
                          case rel => exact ⟨1, by omega, by go_num, by rw [HN.out], trivial⟩
                          case measure => simp [intOf]
                        · have HN := Lib.hid (show cnB x0 y0 x1 y1 ux uy h4 hh 1 = n from HCK.out.trans (by rw [inBox_no (fun h => c4 h.2.2.2), if_neg (by simp), Int.add_zero]))
                          go_wp2_with fail
                          go_roundw
                          case rel => exact ⟨1, by omega, by go_num, by rw [HN.out], trivial⟩
                          case measure => simp [intOf]
                      · have HN := Lib.hid (show cnB x0 y0 x1 y1 ux uy h4 hh 1 = n from HCK.out.trans (by rw [inBox_no (fun h => c3 h.2.2.1), if_neg (by simp), Int.add_zero]))
                        go_wp2_with fail
                        go_roundw
                        case rel => exact ⟨1, by omega, by go_num, by rw [HN.out], trivial⟩
                        case measure => simp [intOf]
                    · have HN := Lib.hid (show cnB x0 y0 x1 y1 ux uy h4 hh 1 = n from HCK.out.trans (by rw [inBox_no (fun h => c2 h.2.1), if_neg (by simp), Int.add_zero]))
                      go_wp2_with fail
                      go_roundw
                      case rel => exact ⟨1, by omega, by go_num, by rw [HN.out], trivial⟩
                      case measure => simp [intOf]
                  · have HN := Lib.hid (show cnB x0 y0 x1 y1 ux uy h4 hh 1 = n from HCK.out.trans (by rw [inBox_no (fun h => c1 h.1), if_neg (by simp), Int.add_zero]))
                    go_wp2_with fail
                    go_roundw
                    case rel => exact ⟨1, by omega, by go_num, by rw [HN.out], trivial⟩
                    case measure => simp [intOf]
                · have hcs := HCS.out 1
                  obtain ⟨sx, hsx⟩ : ∃ a : Int, ux + h4 + hh = a := ⟨_, rfl⟩
                  obtain ⟨sy, hsy⟩ : ∃ a : Int, uy + h4 = a := ⟨_, rfl⟩
                  have hcs1 := hcs.1
                  have hcs2 := hcs.2
                  have HCK := Lib.hid HC1.out
                  rw [hsx, hsy] at HCK
                  generalize cnB x0 y0 x1 y1 ux uy h4 hh 1 = n at *
                  clear hcs
                  by_cases c1 : x0 < sx
                  · by_cases c2 : sx ≤ x1
                    · by_cases c3 : y0 ≤ sy
                      · by_cases c4 : sy < y1
                        · have HN := Lib.hid (HCK.out.trans (by rw [inBox_yes c1 c2 c3 c4, if_pos rfl]))
                          go_wp2_with fail
                          go_roundw
                          case rel => exact ⟨2, by omega, by go_num, by rw [HN.out], trivial⟩
                          case measure => simp [intOf]
                        · have HN := Lib.hid (show cnB x0 y0 x1 y1 ux uy h4 hh 2 = n from HCK.out.trans (by rw [inBox_no (fun h => c4 h.2.2.2), if_neg (by simp), Int.add_zero]))
                          go_wp2_with fail
                          go_roundw
                          case rel => exact ⟨2, by omega, by go_num, by rw [HN.out], trivial⟩
                          case measure => simp [intOf]
                      · have HN := Lib.hid (show cnB x0 y0 x1 y1 ux uy h4 hh 2 = n from HCK.out.trans (by rw [inBox_no (fun h => c3 h.2.2.1), if_neg (by simp), Int.add_zero]))
                        go_wp2_with fail
                        go_roundw
                        case rel => exact ⟨2, by omega, by go_num, by rw [HN.out], trivial⟩
                        case measure => simp [intOf]
                    · have HN := Lib.hid (show cnB x0 y0 x1 y1 ux uy h4 hh 2 = n from HCK.out.trans (by rw [inBox_no (fun h => c2 h.2.1), if_neg (by simp), Int.add_zero]))
                      go_wp2_with fail
                      go_roundw
                      case rel => exact ⟨2, by omega, by go_num, by rw [HN.out], trivial⟩
                      case measure => simp [intOf]
                  · have HN := Lib.hid (show cnB x0 y0 x1 y1 ux uy h4 hh 2 = n from HCK.out.trans (by rw [inBox_no (fun h => c1 h.1), if_neg (by simp), Int.add_zero]))
                    go_wp2_with fail
                    go_roundw
                    case rel => exact ⟨2, by omega, by go_num, by rw [HN.out], trivial⟩
                    case measure => simp [intOf]
                · have hcs := HCS.out 2
                  obtain ⟨sx, hsx⟩ : ∃ a : Int, ux + h4 = a := ⟨_, rfl⟩
                  obtain ⟨sy, hsy⟩ : ∃ a : Int, uy + h4 + hh = a := ⟨_, rfl⟩
                  have hcs1 := hcs.1
                  have hcs2 := hcs.2
                  have HCK := Lib.hid HC2.out
                  rw [hsx, hsy] at HCK
                  generalize cnB x0 y0 x1 y1 ux uy h4 hh 2 = n at *
                  clear hcs
                  by_cases c1 : x0 < sx
                  · by_cases c2 : sx ≤ x1
                    · by_cases c3 : y0 ≤ sy
                      · by_cases c4 : sy < y1
                        · have HN := Lib.hid (HCK.out.trans (by rw [inBox_yes c1 c2 c3 c4, if_pos rfl]))
                          go_wp2_with fail
                          go_roundw
                          case rel => exact ⟨3, by omega, by go_num, by rw [HN.out], trivial⟩
                          case measure => simp [intOf]
                        · have HN := Lib.hid (show cnB x0 y0 x1 y1 ux uy h4 hh 3 = n from HCK.out.trans (by rw [inBox_no (fun h => c4 h.2.2.2), if_neg (by simp), Int.add_zero]))
                          go_wp2_with fail
                          go_roundw
                          case rel => exact ⟨3, by omega, by go_num, by rw [HN.out], trivial⟩
                          case measure => simp [intOf]
                      · have HN := Lib.hid (show cnB x0 y0 x1 y1 ux uy h4 hh 3 = n from HCK.out.trans (by rw [inBox_no (fun h => c3 h.2.2.1), if_neg (by simp), Int.add_zero]))
                        go_wp2_with fail
                        go_roundw
                        case rel => exact ⟨3, by omega, by go_num, by rw [HN.out], trivial⟩
                        case measure => simp [intOf]
                    · have HN := Lib.hid (show cnB x0 y0 x1 y1 ux uy h4 hh 3 = n from HCK.out.trans (by rw [inBox_no (fun h => c2 h.2.1), if_neg (by simp), Int.add_zero]))
                      go_wp2_with fail
                      go_roundw
                      case rel => exact ⟨3, by omega, by go_num, by rw [HN.out], trivial⟩
                      case measure => simp [intOf]
                  · have HN := Lib.hid (show cnB x0 y0 x1 y1 ux uy h4 hh 3 = n from HCK.out.trans (by rw [inBox_no (fun h => c1 h.1), if_neg (by simp), Int.add_zero]))
                    go_wp2_with fail
                    go_roundw
                    case rel => exact ⟨3, by omega, by go_num, by rw [HN.out], trivial⟩
                    case measure => simp [intOf]
                · have hcs := HCS.out 3
                  obtain ⟨sx, hsx⟩ : ∃ a : Int, ux + h4 + hh = a := ⟨_, rfl⟩
                  obtain ⟨sy, hsy⟩ : ∃ a : Int, uy + h4 + hh = a := ⟨_, rfl⟩
                  have hcs1 := hcs.1
                  have hcs2 := hcs.2
                  have HCK := Lib.hid HC3.out
                  rw [hsx, hsy] at HCK
                  generalize cnB x0 y0 x1 y1 ux uy h4 hh 3 = n at *
                  clear hcs
                  by_cases c1 : x0 < sx
                  · by_cases c2 : sx ≤ x1
                    · by_cases c3 : y0 ≤ sy
                      · by_cases c4 : sy < y1
                        · have HN := Lib.hid (HCK.out.trans (by rw [inBox_yes c1 c2 c3 c4, if_pos rfl]))
                          go_wp2_with fail
                          go_roundw
                          case rel => exact ⟨4, by omega, by go_num, by rw [HN.out], trivial⟩
                          case measure => simp [intOf]
                        · have HN := Lib.hid (show cnB x0 y0 x1 y1 ux uy h4 hh 4 = n from HCK.out.trans (by rw [inBox_no (fun h => c4 h.2.2.2), if_neg (by simp), Int.add_zero]))
                          go_wp2_with fail
                          go_roundw
                          case rel => exact ⟨4, by omega, by go_num, by rw [HN.out], trivial⟩
                          case measure => simp [intOf]
                      · have HN := Lib.hid (show cnB x0 y0 x1 y1 ux uy h4 hh 4 = n from HCK.out.trans (by rw [inBox_no (fun h => c3 h.2.2.1), if_neg (by simp), Int.add_zero]))
                        go_wp2_with fail
                        go_roundw
                        case rel => exact ⟨4, by omega, by go_num, by rw [HN.out], trivial⟩
                        case measure => simp [intOf]
                    · have HN := Lib.hid (show cnB x0 y0 x1 y1 ux uy h4 hh 4 = n from HCK.out.trans (by rw [inBox_no (fun h => c2 h.2.1), if_neg (by simp), Int.add_zero]))
                      go_wp2_with fail
                      go_roundw
                      case rel => exact ⟨4, by omega, by go_num, by rw [HN.out], trivial⟩
                      case measure => simp [intOf]
                  · have HN := Lib.hid (show cnB x0 y0 x1 y1 ux uy h4 hh 4 = n from HCK.out.trans (by rw [inBox_no (fun h => c1 h.1), if_neg (by simp), Int.add_zero]))
                    go_wp2_with fail
                    go_roundw
                    case rel => exact ⟨4, by omega, by go_num, by rw [HN.out], trivial⟩
                    case measure => simp [intOf]
                · generalize cnB x0 y0 x1 y1 ux uy h4 hh 4 = N at *
                  clear HC0 HC1 HC2 HC3 HCS hux huy hd4 hd2
                  go_wp2_with fail
                  refine (CCx.out _ _ _ ((HRB7.out.below hbr (Nat.le_refl _)).more hzr)).mono ?_
                  rintro e wC ⟨rfl, hbC⟩
                  have hbr2 := hbr.trans (hbC.mono hzr)
                  have hzr2 := hbr2.size
                  obtain ⟨l0, l1, l2, l3, l4⟩ := (hQ15.below hbr2 zq15).five
                  have CG := Lib.hid (bitmap_Get V.W V.H A1 c1 V.D (X - V.L) (Y - V.B) wC (by have := HDL.out; omega) ((HD7.out.below hbr2 (Nat.le_refl _)).more hzr2))
                  rw [HCM2.out] at CG
                  have zC15 : q15 < wC.heap.size := Nat.lt_of_lt_of_le zq15 hzr2
                  by_cases hN : 2 ≤ N
                  · rw [decide_eq_true hN] at CG
                    go_wp2_with fail
                    refine CG.out.mono ?_
                    rintro e wD ⟨rfl, hbD⟩
                    have hbr3 := hbr2.trans (hbD.mono hzr2)
                    go_wp2_with fail
                    go_roundw
                    case rel => exact ⟨s + 1, by omega, by have := hX3.out; congr 1; omega, hbr3⟩
                    case measure => simp [intOf]; omega
                  · rw [decide_eq_false hN] at CG
                    go_wp2_with fail
                    refine CG.out.mono ?_
                    rintro e wD ⟨rfl, hbD⟩
                    have hbr3 := hbr2.trans (hbD.mono hzr2)
                    go_wp2_with fail
                    go_roundw
                    case rel => exact ⟨s + 1, by omega, by have := hX3.out; congr 1; omega, hbr3⟩
                    case measure => simp [intOf]; omega
            · have hse : (s : Int) - 12 = 20 := by omega
              rw [hse]
              clear hse
              go_wp2_with fail
              go_roundw
              case rel => exact ⟨t + 1, by omega, by have := hY3.out; congr 1; omega, hbr⟩
              case measure => simp [intOf]; omega
        · have hte : (t : Int) - 12 = 20 := by omega
          rw [hte]
          clear hte CC HM2 HRB7 HD7 HDL hlit zq15 hQ15
          obtain ⟨⟨c0, c1, c2, c3⟩, _⟩ := (hQd.below hbr zqd).n4
          have hb9 := hb8.trans (hbr.mono hz)
          replace hz : p ≤ wr.heap.size := Nat.le_trans hz hzr
          have zpr : p < wr.heap.size := Nat.lt_of_lt_of_le zqd hzr
          have HQD := Lib.hid (hQd.below hbr zqd)
          have CW := Lib.hid (fun A' c' x y w h => raster_Winding l7 A' c' x y w (by have := HL4.out; omega) (fun p hp => by have := (HL8.out p hp).1; omega) h)
          have HW1 : Hid (windV l7 56 q1 = 0) := Lib.hid (by rw [windV_near HNR.out (by omega) (by omega) (by have := HB1.out; omega)]; exact HOR.out q1)
          have HW2 : Hid (windV l7 (-25) q1 = 0) := Lib.hid (by rw [windV_near HNR.out (by omega) (by omega) (by have := HB1.out; omega)]; exact HOL.out q1)
          have HW3 : Hid (windV l7 q0 56 = 0) := Lib.hid (by rw [windV_near HNR.out (by omega) (by have := HB0.out; omega) (by omega)]; exact HOA.out q0)
          have HW4 : Hid (windV l7 q0 (-25) = 0) := Lib.hid (by rw [windV_near HNR.out (by omega) (by have := HB0.out; omega) (by omega)]; exact HOB.out q0)
          clear HOR HOL HOA HOB HL4 HL8 HNR hQd zqd hbr hzr hb8 c0 c1 c2 c3
          go_wp2_with fail
          refine (CMD.out _ ((HR.out.below hb9 (Nat.le_refl _)).more hz)).mono ?_
          rintro e wA ⟨AM, cM, rfl, hrM, hbA⟩
          have hb10 := hb9.trans (hbA.mono hz)
          have hz10 := Nat.le_trans hz hbA.size
          have HQ2 := Lib.hid (HQD.out.below hbA zpr)
          obtain ⟨⟨c0, c1, c2, c3⟩, _⟩ := HQ2.out.n4
          go_wp2_with fail
          refine (CW.out _ _ _ _ _ hrM).mono ?_
          rintro e wB ⟨rfl, hbB⟩
          rw [HW1.out]
          have hb11 := hb10.trans (hbB.mono hz10)
          have hz11 := Nat.le_trans hz10 hbB.size
          have hrM2 := hrM.on hbB
          have HQ3 := Lib.hid (HQ2.out.below hbB HQ2.out.lt)
          clear c0 c1 c2 c3
          obtain ⟨⟨c0, c1, c2, c3⟩, _⟩ := HQ3.out.n4
          go_wp2_with fail
          refine (CW.out _ _ _ _ _ hrM2).mono ?_
          rintro e wC ⟨rfl, hbC⟩
          rw [HW2.out]
          have hb12 := hb11.trans (hbC.mono hz11)
          have hz12 := Nat.le_trans hz11 hbC.size
          have hrM3 := hrM2.on hbC
          have HQ4 := Lib.hid (HQ3.out.below hbC HQ3.out.lt)
          clear c0 c1 c2 c3
          obtain ⟨⟨c0, c1, c2, c3⟩, _⟩ := HQ4.out.n4
          go_wp2_with fail
          refine (CW.out _ _ _ _ _ hrM3).mono ?_
          rintro e wD ⟨rfl, hbD⟩
          rw [HW3.out]
          have hb13 := hb12.trans (hbD.mono hz12)
          have hz13 := Nat.le_trans hz12 hbD.size
          have hrM4 := hrM3.on hbD
          have HQ5 := Lib.hid (HQ4.out.below hbD HQ4.out.lt)
          clear c0 c1 c2 c3
          obtain ⟨⟨c0, c1, c2, c3⟩, _⟩ := HQ5.out.n4
          go_wp2_with fail
          refine (CW.out _ _ _ _ _ hrM4).mono ?_
          rintro e wE ⟨rfl, hbE⟩
          rw [HW4.out]
          go_wp2
          go_ret
          exact ⟨rfl, by rw [HP.out]; exact hb13.trans (hbE.mono hz13)⟩
end Go.Proofs.Ytlanefdeeanpnaa
