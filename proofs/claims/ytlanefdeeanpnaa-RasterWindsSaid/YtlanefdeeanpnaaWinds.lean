/-
  The law RasterWinds: for every argument the call returns true. Conditions: what the row's opening gives.
-/
import Derived.Test.YtlanefdeeanpnaaSane7
import Derived.Test.YtlanefdeeanpnaaMath7
import Derived.Test.YtlanefdeeanpnaaRegionU
import Derived.Deep.DrawnRows
namespace Go.Proofs.Ytlanefdeeanpnaa
set_option linter.unusedVariables false
set_option linter.unusedSimpArgs false
open Go.RowKit
attribute [local go_sem ↓] Go.wp_at_zero Go.wp_at_succ

set_option maxHeartbeats 8000000 in
set_option maxRecDepth 100000 in
theorem winds_law (ls : List (List Int)) (A : Option Addr) (c : Nat) (rw_ : List (List Pt)) (AR : Option Addr) (cR : Nat) (q0 q1 q2 : Int) (w : World) (hn : ∀ l ∈ ls, l.length ≤ 9223372036854775807) (hls : ls.length ≤ 9223372036854775807) (hrl : rw_.length ≤ 9223372036854775807)
    (hq0 : -9223372036854775808 ≤ q0 ∧ q0 ≤ 9223372036854775807) (hq1 : -9223372036854775808 ≤ q1 ∧ q1 ≤ 9223372036854775807) (hq2 : -9223372036854775808 ≤ q2 ∧ q2 ≤ 9223372036854775807)
    (hr : RdIs w w.heap.size A ls) (hrr : RwPs w w.heap.size AR rw_) :
    Calls Try.prog 14 #[.slice A ls.length c, .slice AR rw_.length cR, .agg #[.int .i64 q0, .int .i64 q1, .int .i64 q2]] w fun e w' => e = .returned (.bool true) ∧ Below w.heap.size w w' := by
  have HR := Lib.hid hr
  have HRR := Lib.hid hrr
  have CC := Lib.hid (fun w h => cut7_any rw_ AR cR w hrl h)
  have CMD := Lib.hid (fun w h => Made7_any ls A c w hn hls h)
  have CMV := Lib.hid (fun A' c' w h => Moved_any (m7s ls) A' c' 1 1073741794 (-1073741794) w (by have := m7s_len ls; omega) (fun p hp => by have := (m7s_small ls p hp).1; omega) (fun p hp q hq => by have := (m7s_small ls p hp).2 q hq; unfold smallP at this; omega) (by omega) (by omega) (by omega) h)
  have hl1 := m7s_len ls
  have hl2 := m7s_small ls
  have hl3 := cutL_len rw_
  have hl4 := cutL_small rw_
  have hl5 := moved_len 1 1073741794 (-1073741794) (m7s ls)
  have hl6 := moved_small (tm := 1) (x := 1073741794) (y := -1073741794) (c := 8) (fun p hp => (m7s_small ls p hp).1)
  generalize moved 1 1073741794 (-1073741794) (m7s ls) = lm at *
  generalize m7s ls = l7 at *
  generalize cutL rw_ = lc at *
  have HL := Lib.hid (show l7.length ≤ 1000 ∧ (∀ p ∈ l7, p.length ≤ 1000) ∧ lm.length ≤ 1000 ∧ (∀ p ∈ lm, p.length ≤ 1000) ∧ lc.length ≤ 1000 ∧ (∀ p ∈ lc, p.length ≤ 1000) from ⟨by omega, fun p hp => by have := (hl2 p hp).1; omega, by omega, fun p hp => by have := hl6 p hp; omega, by omega, fun p hp => by have := hl4 p hp; omega⟩)
  have HL5 := Lib.hid hl5
  clear hr hrr hn hl1 hl2 hl3 hl4 hl5 hl6
  obtain ⟨hq01, hq02⟩ := hq0
  obtain ⟨hq11, hq12⟩ := hq1
  obtain ⟨hq21, hq22⟩ := hq2
  go_enter Try.func14, Try.ntmps14
  go_wp2_with fail
  refine calls_world (fun W0 hW0 => ?_)
  obtain ⟨hQ5, hb0, hs0⟩ := new1 hW0
  clear hW0
  generalize hp : w.heap.size = p at *
  have HP := Lib.hid hp
  clear hp
  refine (sanity07 _).mono ?_
  rintro e w1 ⟨rfl, hba⟩
  replace hQ5 := hQ5.below hba hQ5.lt
  have hb1 := hb0.trans (hba.mono (by omega))
  have hz : p ≤ w1.heap.size := by have := hQ5.lt; omega
  clear hs0 hba hb0
  go_wp2_with fail
  refine (CC.out _ ((HRR.out.below hb1 (Nat.le_refl _)).more hz)).mono ?_
  rintro e w2 ⟨AC, cC, rfl, hrC, hba⟩
  replace hQ5 := hQ5.below hba hQ5.lt
  have hb2 := hb1.trans (hba.mono hz)
  replace hz : p ≤ w2.heap.size := by have := hba.size; omega
  clear hba hb1
  go_wp2_with fail
  refine (CMD.out _ (((HR.out.below hb2 (Nat.le_refl _)).more hz))).mono ?_
  rintro e w3 ⟨AM, cM, rfl, hrM, hba⟩
  replace hQ5 := hQ5.below hba hQ5.lt
  replace hrC := hrC.on hba
  have hb3 := hb2.trans (hba.mono hz)
  replace hz : p ≤ w3.heap.size := by have := hba.size; omega
  clear hba hb2
  go_wp2_with fail
  refine (CMV.out _ _ _ hrM).mono ?_
  rintro e w4 ⟨AV, cV, rfl, hrV, hba⟩
  rw [← HL5.out]
  replace hQ5 := hQ5.below hba hQ5.lt
  replace hrC := hrC.on hba
  replace hrM := hrM.on hba
  have hb4 := hb3.trans (hba.mono hz)
  replace hz : p ≤ w4.heap.size := by have := hba.size; omega
  clear hba hb3 CC CMD CMV HR HRR
  obtain ⟨⟨k0, k1, k2⟩, _⟩ := hQ5.three
  have z5 := hQ5.lt
  have CM5 := Lib.hid (fun w => Mod_any q0 5 w (by omega) (by omega))
  have CM1 := Lib.hid (fun w => Mod_any q1 90 w (by omega) (by omega))
  have CM2 := Lib.hid (fun w => Mod_any q2 90 w (by omega) (by omega))
  generalize q0 % 5 = r0 at *
  generalize q1 % 90 = r1 at *
  generalize q2 % 90 = r2 at *
  go_upto_region 5 with fail
  go_cut [10] from 24 to 36 (fun s10 wx => ∃ (q10 : Nat) (a b d : Int), s10 = .pointer (some ⟨q10, 0, none⟩) ∧ Blk wx q10 79 #[.int .i64 a, .int .i64 b, .int .i64 d] ∧ Below w4.heap.size w4 wx)
  case first =>
    refine wp_region_L 14 (fun w' => (∀ b o, b < w4.heap.size → w'.cell? ⟨b, o, none⟩ = w4.cell? ⟨b, o, none⟩) ∧ Below w4.heap.size w4 w') (by kernel_rfl) ?_ (fun Wd hWd hS => ?_)
    · (try dsimp only)
      exact sb_of (Below.refl _ _).drew
    (try dsimp only at hS)
    refine wpT_take 0 (v := ?_) rfl (by kernel_rfl) (by kernel_rfl) (fun _ _ _ h => h) hS (Or.inl ⟨rfl, ?_⟩) ?_
    rotate_left
    · (intro w' hSw; (try dsimp only at hSw); go_simp; first | done | with_reducible rfl)
    (try simp only [Act.put, List.setIfInBounds_toArray, List.set_cons_zero, List.set_cons_succ])
    refine wpT_take 1 (v := ?_) rfl (by kernel_rfl) (by kernel_rfl) (fun _ _ _ h => h) hS (Or.inl ⟨rfl, ?_⟩) ?_
    rotate_left
    · (intro w' hSw; (try dsimp only at hSw); go_simp; first | done | with_reducible rfl)
    (try simp only [Act.put, List.setIfInBounds_toArray, List.set_cons_zero, List.set_cons_succ])
    refine wpT_take 4 (v := ?_) rfl (by kernel_rfl) (by kernel_rfl) (fun _ _ _ h => h) hS (Or.inl ⟨rfl, ?_⟩) ?_
    rotate_left
    · (intro w' hSw; (try dsimp only at hSw); go_simp; first | done | with_reducible rfl)
    (try simp only [Act.put, List.setIfInBounds_toArray, List.set_cons_zero, List.set_cons_succ])
    refine wpT_take 5 (v := ?_) rfl (by kernel_rfl) (by kernel_rfl) (fun _ _ _ h => h) hS (Or.inl ⟨rfl, ?_⟩) ?_
    rotate_left
    · (intro w' hSw; (try dsimp only at hSw); go_simp; first | done | with_reducible rfl)
    (try simp only [Act.put, List.setIfInBounds_toArray, List.set_cons_zero, List.set_cons_succ])
    refine wpT_take 8 (v := ?_) rfl (by kernel_rfl) (by kernel_rfl) (fun _ _ _ h => h) hS (Or.inl ⟨rfl, ?_⟩) ?_
    rotate_left
    · (intro w' hSw; (try dsimp only at hSw); go_simp; first | done | with_reducible rfl)
    (try simp only [Act.put, List.setIfInBounds_toArray, List.set_cons_zero, List.set_cons_succ])
    refine wpT_take 9 (v := ?_) rfl (by kernel_rfl) (by kernel_rfl) (fun _ _ _ h => h) hS (Or.inl ⟨rfl, ?_⟩) ?_
    rotate_left
    · (intro w' hSw; (try dsimp only at hSw); go_simp; first | done | with_reducible rfl)
    (try simp only [Act.put, List.setIfInBounds_toArray, List.set_cons_zero, List.set_cons_succ])
    refine wpT_two 2 13 rfl rfl (by kernel_rfl) (fun K hK => ?_) (fun K hK => ?_)
    · skip
      go_simp
      go_at_call 44
      refine (CM5.out _).mono ?_
      rintro e wo ⟨rfl, rfl⟩
      have hbS := hS.2
      refine hK.out _ _ ?_ (fun hS => ?_)
      · (try dsimp only)
        exact sb_of hbS
      clear hK K
      (try simp only [Act.put, List.setIfInBounds_toArray, List.set_cons_zero, List.set_cons_succ])
      (try dsimp only at hS)
      refine wpT_take 3 (v := ?_) rfl (by kernel_rfl) (by kernel_rfl) (fun _ _ _ h => h) hS (Or.inl ⟨rfl, ?_⟩) ?_
      rotate_left
      · (intro w' hSw; (try dsimp only at hSw); go_simp; first | done | with_reducible rfl)
      (try simp only [Act.put, List.setIfInBounds_toArray, List.set_cons_zero, List.set_cons_succ])
      refine wpT_two 6 13 rfl rfl (by kernel_rfl) (fun K hK => ?_) (fun K hK => ?_)
      · skip
        go_simp
        go_at_call 44
        refine (CM1.out _).mono ?_
        rintro e wo ⟨rfl, rfl⟩
        have hbS := hS.2
        refine hK.out _ _ ?_ (fun hS => ?_)
        · (try dsimp only)
          exact sb_of hbS
        clear hK K
        (try simp only [Act.put, List.setIfInBounds_toArray, List.set_cons_zero, List.set_cons_succ])
        (try dsimp only at hS)
        refine wpT_take 7 (v := ?_) rfl (by kernel_rfl) (by kernel_rfl) (fun _ _ _ h => h) hS (Or.inl ⟨rfl, ?_⟩) ?_
        rotate_left
        · (intro w' hSw; (try dsimp only at hSw); go_simp; first | done | with_reducible rfl)
        (try simp only [Act.put, List.setIfInBounds_toArray, List.set_cons_zero, List.set_cons_succ])
        refine wpT_two 10 13 rfl rfl (by kernel_rfl) (fun K hK => ?_) (fun K hK => ?_)
        · skip
          go_simp
          go_at_call 44
          refine (CM2.out _).mono ?_
          rintro e wo ⟨rfl, rfl⟩
          have hbS := hS.2
          refine hK.out _ _ ?_ (fun hS => ?_)
          · (try dsimp only)
            exact sb_of hbS
          clear hK K
          (try simp only [Act.put, List.setIfInBounds_toArray, List.set_cons_zero, List.set_cons_succ])
          (try dsimp only at hS)
          refine wpT_take 11 (v := ?_) rfl (by kernel_rfl) (by kernel_rfl) (fun _ _ _ h => h) hS (Or.inl ⟨rfl, ?_⟩) ?_
          rotate_left
          · (intro w' hSw; (try dsimp only at hSw); go_simp; first | done | with_reducible rfl)
          (try simp only [Act.put, List.setIfInBounds_toArray, List.set_cons_zero, List.set_cons_succ])
          refine wpT_take 12 (v := ?_) rfl (by kernel_rfl) (by kernel_rfl) (fun _ _ _ h => h) hS (Or.inl ⟨rfl, ?_⟩) ?_
          rotate_left
          · (intro w' hSw; (try dsimp only at hSw); go_simp; first | done | with_reducible rfl)
          (try simp only [Act.put, List.setIfInBounds_toArray, List.set_cons_zero, List.set_cons_succ])
          refine wpT_one 13 rfl (by kernel_rfl) (fun K hK => ?_)
          go_simp
          refine k_world (fun Wq hWq => ?_)
          have hS13 := hS.2.size
          obtain ⟨q10, eqq, hQ, hbQ, hsQ⟩ := new1n hWq
          clear hWq
          try rw [eqq]
          have hq10 : w4.heap.size ≤ q10 := by omega
          have hbS := hS.2.trans (hbQ.mono hq10)
          refine hK.out _ _ ?_ (fun hS => ?_)
          · (try dsimp only)
            exact sb_of hbS
          clear hK K
          (try simp only [Act.put, List.setIfInBounds_toArray, List.set_cons_zero, List.set_cons_succ])
          (try dsimp only at hS)
          refine wpT_tail (by rfl) (by kernel_rfl) ?_
          (try simp only [List.drop_succ_cons, List.drop_zero])
          obtain ⟨⟨e0, e1, e2⟩, f0, f1, f2⟩ := hQ.three
          go_wp2
          refine k_world (fun WX hWX => ?_)
          obtain ⟨hQ2, hkX⟩ := store3 hWX hQ
          clear hWX
          go_meet
          exact ⟨q10, _, _, _, rfl, hQ2, hS.2.trans (hkX.to_below hS.2.size (by simpa using hq10))⟩
        · skip
          go_simp
          refine k_world (fun Wq hWq => ?_)
          have hS13 := hS.2.size
          obtain ⟨q10, eqq, hQ, hbQ, hsQ⟩ := new1n hWq
          clear hWq
          try rw [eqq]
          have hq10 : w4.heap.size ≤ q10 := by omega
          have hbS := hS.2.trans (hbQ.mono hq10)
          refine hK.out _ _ ?_ (fun hS => ?_)
          · (try dsimp only)
            exact sb_of hbS
          clear hK K
          (try simp only [Act.put, List.setIfInBounds_toArray, List.set_cons_zero, List.set_cons_succ])
          (try dsimp only at hS)
          refine wpT_one 10 rfl (by kernel_rfl) (fun K hK => ?_)
          go_simp
          go_at_call 44
          refine (CM2.out _).mono ?_
          rintro e wo ⟨rfl, rfl⟩
          have hbS := hS.2
          refine hK.out _ _ ?_ (fun hS => ?_)
          · (try dsimp only)
            exact sb_of hbS
          clear hK K
          (try simp only [Act.put, List.setIfInBounds_toArray, List.set_cons_zero, List.set_cons_succ])
          (try dsimp only at hS)
          refine wpT_take 11 (v := ?_) rfl (by kernel_rfl) (by kernel_rfl) (fun _ _ _ h => h) hS (Or.inl ⟨rfl, ?_⟩) ?_
          rotate_left
          · (intro w' hSw; (try dsimp only at hSw); go_simp; first | done | with_reducible rfl)
          (try simp only [Act.put, List.setIfInBounds_toArray, List.set_cons_zero, List.set_cons_succ])
          refine wpT_take 12 (v := ?_) rfl (by kernel_rfl) (by kernel_rfl) (fun _ _ _ h => h) hS (Or.inl ⟨rfl, ?_⟩) ?_
          rotate_left
          · (intro w' hSw; (try dsimp only at hSw); go_simp; first | done | with_reducible rfl)
          (try simp only [Act.put, List.setIfInBounds_toArray, List.set_cons_zero, List.set_cons_succ])
          refine wpT_tail (by rfl) (by kernel_rfl) ?_
          (try simp only [List.drop_succ_cons, List.drop_zero])
          obtain ⟨⟨e0, e1, e2⟩, f0, f1, f2⟩ := hQ.three
          go_wp2
          refine k_world (fun WX hWX => ?_)
          obtain ⟨hQ2, hkX⟩ := store3 hWX hQ
          clear hWX
          go_meet
          exact ⟨q10, _, _, _, rfl, hQ2, hS.2.trans (hkX.to_below hS.2.size (by simpa using hq10))⟩
      · skip
        go_simp
        refine k_world (fun Wq hWq => ?_)
        have hS13 := hS.2.size
        obtain ⟨q10, eqq, hQ, hbQ, hsQ⟩ := new1n hWq
        clear hWq
        try rw [eqq]
        have hq10 : w4.heap.size ≤ q10 := by omega
        have hbS := hS.2.trans (hbQ.mono hq10)
        refine hK.out _ _ ?_ (fun hS => ?_)
        · (try dsimp only)
          exact sb_of hbS
        clear hK K
        (try simp only [Act.put, List.setIfInBounds_toArray, List.set_cons_zero, List.set_cons_succ])
        (try dsimp only at hS)
        refine wpT_one 6 rfl (by kernel_rfl) (fun K hK => ?_)
        go_simp
        go_at_call 44
        refine (CM1.out _).mono ?_
        rintro e wo ⟨rfl, rfl⟩
        have hbS := hS.2
        refine hK.out _ _ ?_ (fun hS => ?_)
        · (try dsimp only)
          exact sb_of hbS
        clear hK K
        (try simp only [Act.put, List.setIfInBounds_toArray, List.set_cons_zero, List.set_cons_succ])
        (try dsimp only at hS)
        refine wpT_take 7 (v := ?_) rfl (by kernel_rfl) (by kernel_rfl) (fun _ _ _ h => h) hS (Or.inl ⟨rfl, ?_⟩) ?_
        rotate_left
        · (intro w' hSw; (try dsimp only at hSw); go_simp; first | done | with_reducible rfl)
        (try simp only [Act.put, List.setIfInBounds_toArray, List.set_cons_zero, List.set_cons_succ])
        refine wpT_one 10 rfl (by kernel_rfl) (fun K hK => ?_)
        go_simp
        go_at_call 44
        refine (CM2.out _).mono ?_
        rintro e wo ⟨rfl, rfl⟩
        have hbS := hS.2
        refine hK.out _ _ ?_ (fun hS => ?_)
        · (try dsimp only)
          exact sb_of hbS
        clear hK K
        (try simp only [Act.put, List.setIfInBounds_toArray, List.set_cons_zero, List.set_cons_succ])
        (try dsimp only at hS)
        refine wpT_take 11 (v := ?_) rfl (by kernel_rfl) (by kernel_rfl) (fun _ _ _ h => h) hS (Or.inl ⟨rfl, ?_⟩) ?_
        rotate_left
        · (intro w' hSw; (try dsimp only at hSw); go_simp; first | done | with_reducible rfl)
        (try simp only [Act.put, List.setIfInBounds_toArray, List.set_cons_zero, List.set_cons_succ])
        refine wpT_take 12 (v := ?_) rfl (by kernel_rfl) (by kernel_rfl) (fun _ _ _ h => h) hS (Or.inl ⟨rfl, ?_⟩) ?_
        rotate_left
        · (intro w' hSw; (try dsimp only at hSw); go_simp; first | done | with_reducible rfl)
        (try simp only [Act.put, List.setIfInBounds_toArray, List.set_cons_zero, List.set_cons_succ])
        refine wpT_tail (by rfl) (by kernel_rfl) ?_
        (try simp only [List.drop_succ_cons, List.drop_zero])
        obtain ⟨⟨e0, e1, e2⟩, f0, f1, f2⟩ := hQ.three
        go_wp2
        refine k_world (fun WX hWX => ?_)
        obtain ⟨hQ2, hkX⟩ := store3 hWX hQ
        clear hWX
        go_meet
        exact ⟨q10, _, _, _, rfl, hQ2, hS.2.trans (hkX.to_below hS.2.size (by simpa using hq10))⟩
    · skip
      go_simp
      refine k_world (fun Wq hWq => ?_)
      have hS13 := hS.2.size
      obtain ⟨q10, eqq, hQ, hbQ, hsQ⟩ := new1n hWq
      clear hWq
      try rw [eqq]
      have hq10 : w4.heap.size ≤ q10 := by omega
      have hbS := hS.2.trans (hbQ.mono hq10)
      refine hK.out _ _ ?_ (fun hS => ?_)
      · (try dsimp only)
        exact sb_of hbS
      clear hK K
      (try simp only [Act.put, List.setIfInBounds_toArray, List.set_cons_zero, List.set_cons_succ])
      (try dsimp only at hS)
      refine wpT_one 2 rfl (by kernel_rfl) (fun K hK => ?_)
      go_simp
      go_at_call 44
      refine (CM5.out _).mono ?_
      rintro e wo ⟨rfl, rfl⟩
      have hbS := hS.2
      refine hK.out _ _ ?_ (fun hS => ?_)
      · (try dsimp only)
        exact sb_of hbS
      clear hK K
      (try simp only [Act.put, List.setIfInBounds_toArray, List.set_cons_zero, List.set_cons_succ])
      (try dsimp only at hS)
      refine wpT_take 3 (v := ?_) rfl (by kernel_rfl) (by kernel_rfl) (fun _ _ _ h => h) hS (Or.inl ⟨rfl, ?_⟩) ?_
      rotate_left
      · (intro w' hSw; (try dsimp only at hSw); go_simp; first | done | with_reducible rfl)
      (try simp only [Act.put, List.setIfInBounds_toArray, List.set_cons_zero, List.set_cons_succ])
      refine wpT_one 6 rfl (by kernel_rfl) (fun K hK => ?_)
      go_simp
      go_at_call 44
      refine (CM1.out _).mono ?_
      rintro e wo ⟨rfl, rfl⟩
      have hbS := hS.2
      refine hK.out _ _ ?_ (fun hS => ?_)
      · (try dsimp only)
        exact sb_of hbS
      clear hK K
      (try simp only [Act.put, List.setIfInBounds_toArray, List.set_cons_zero, List.set_cons_succ])
      (try dsimp only at hS)
      refine wpT_take 7 (v := ?_) rfl (by kernel_rfl) (by kernel_rfl) (fun _ _ _ h => h) hS (Or.inl ⟨rfl, ?_⟩) ?_
      rotate_left
      · (intro w' hSw; (try dsimp only at hSw); go_simp; first | done | with_reducible rfl)
      (try simp only [Act.put, List.setIfInBounds_toArray, List.set_cons_zero, List.set_cons_succ])
      refine wpT_one 10 rfl (by kernel_rfl) (fun K hK => ?_)
      go_simp
      go_at_call 44
      refine (CM2.out _).mono ?_
      rintro e wo ⟨rfl, rfl⟩
      have hbS := hS.2
      refine hK.out _ _ ?_ (fun hS => ?_)
      · (try dsimp only)
        exact sb_of hbS
      clear hK K
      (try simp only [Act.put, List.setIfInBounds_toArray, List.set_cons_zero, List.set_cons_succ])
      (try dsimp only at hS)
      refine wpT_take 11 (v := ?_) rfl (by kernel_rfl) (by kernel_rfl) (fun _ _ _ h => h) hS (Or.inl ⟨rfl, ?_⟩) ?_
      rotate_left
      · (intro w' hSw; (try dsimp only at hSw); go_simp; first | done | with_reducible rfl)
      (try simp only [Act.put, List.setIfInBounds_toArray, List.set_cons_zero, List.set_cons_succ])
      refine wpT_take 12 (v := ?_) rfl (by kernel_rfl) (by kernel_rfl) (fun _ _ _ h => h) hS (Or.inl ⟨rfl, ?_⟩) ?_
      rotate_left
      · (intro w' hSw; (try dsimp only at hSw); go_simp; first | done | with_reducible rfl)
      (try simp only [Act.put, List.setIfInBounds_toArray, List.set_cons_zero, List.set_cons_succ])
      refine wpT_tail (by rfl) (by kernel_rfl) ?_
      (try simp only [List.drop_succ_cons, List.drop_zero])
      obtain ⟨⟨e0, e1, e2⟩, f0, f1, f2⟩ := hQ.three
      go_wp2
      refine k_world (fun WX hWX => ?_)
      obtain ⟨hQ2, hkX⟩ := store3 hWX hQ
      clear hWX
      go_meet
      exact ⟨q10, _, _, _, rfl, hQ2, hS.2.trans (hkX.to_below hS.2.size (by simpa using hq10))⟩
  case rest =>
    obtain ⟨q10, a10, b10, d10, rfl, hQ10, hba⟩ := hcut
    refine k_world (fun W5 hW5 => ?_)
    rw [← hW5] at hQ10 hba
    clear hW5 k0 k1 k2 z5
    replace hQ5 := hQ5.below hba hQ5.lt
    replace hrC := hrC.on hba
    replace hrM := hrM.on hba
    replace hrV := hrV.on hba
    have hb5 := hb4.trans (hba.mono hz)
    replace hz : p ≤ W5.heap.size := by have := hba.size; omega
    clear hba hb4
    go_upto_region 7 with fail
    refine wp_world (fun W6 hW6 => ?_)
    obtain ⟨hQ40, hba, hsn⟩ := new1 hW6
    clear hW6
    replace hQ5 := hQ5.below hba hQ5.lt
    replace hQ10 := hQ10.below hba hQ10.lt
    replace hrC := hrC.on hba
    replace hrM := hrM.on hba
    replace hrV := hrV.on hba
    have hb6 := hb5.trans (hba.mono hz)
    replace hz : p ≤ W6.heap.size := by have := hba.size; omega
    clear hba hb5 hsn
    generalize hqq : W5.heap.size = q40 at *
    clear hqq
    have HPL : Hid (∀ i : Nat, i < 3 → ∃ (Ai : Option Addr) (li : List (List Pt)) (ci : Nat), W6.cell? ⟨q40, i, none⟩ = some (.slice Ai li.length ci) ∧ RdPs W6 W6.heap.size Ai li ∧ li.length ≤ 1000 ∧ ∀ p ∈ li, p.length ≤ 1000) := Lib.hid (by
      obtain ⟨h1, h2, h3, h4, h5, h6⟩ := HL.out
      have h := hQ40.three.1
      intro i hi
      match i, hi with
      | 0, _ => exact ⟨AM, l7, cM, by rw [← HL5.out]; exact h.1, hrM, h1, h2⟩
      | 1, _ => exact ⟨_, lm, _, h.2.1, hrV, h3, h4⟩
      | 2, _ => exact ⟨_, lc, _, h.2.2, hrC, h5, h6⟩)
    have z40 := hQ40.lt
    obtain ⟨⟨k0, k1, k2⟩, _⟩ := hQ5.three
    obtain ⟨⟨m0, m1, m2⟩, _⟩ := hQ10.three
    have z5 := hQ5.lt
    have z10 := hQ10.lt
    clear hQ40 hQ5 hQ10 hrC hrM hrV CM5 CM1 CM2 HL HL5
    go_loopw [12, 42] (fun _ s42 wr => ∃ i : Nat, i ≤ 3 ∧ s42 = .int .i64 i ∧ Below W6.heap.size W6 wr) (fun _ s42 _ => 3 - (intOf s42).toNat)
    case atStart => exact ⟨0, by omega, rfl, Below.refl _ _⟩
    case round =>
      obtain ⟨i, hi, rfl, hbr⟩ := hrel
      have hcr := (sb_of hbr).1
      have hzr := hbr.size
      by_cases hi3 : i < 3
      · have i0 : (0 : Int) ≤ (i : Int) := by omega
        have i3 : (i : Int) < 3 := by omega
        obtain ⟨Ai, li, ci, hci, hri, hli, hlp⟩ := HPL.out i hi3
        have CW := Lib.hid (fun x y w h => raster_Winding li Ai ci x y w hli hlp h)
        have CWR := Lib.hid (fun x y w h => ref07_Winding li Ai ci x y w hli hlp h)
        have CV := Lib.hid (fun u x y w h => raster_Cover li Ai ci u x y w hli hlp h)
        have CVR := Lib.hid (fun u x y w h => ref07_Cover li Ai ci u x y w hli hlp h)
        clear hlp
        go_upto_region 10 with fail
        refine wp_world (fun W7 hW7 => ?_)
        obtain ⟨hQ66, hba, hsn⟩ := new1 hW7
        clear hW7 hcr hci
        have hb7 := hbr.trans (hba.mono hzr)
        have hri7 := (hri.below hb7 (Nat.le_refl _)).more hb7.size
        generalize hqq : wr.heap.size = q66 at *
        clear hqq hsn hba hzr hbr
        have HX : Hid (∀ j : Nat, j < 4 → ∃ a b d : Int, W7.cell? ⟨q66, j * 3, none⟩ = some (.int .i64 a) ∧ W7.cell? ⟨q66, j * 3 + 1, none⟩ = some (.int .i64 b) ∧ W7.cell? ⟨q66, j * 3 + 2, none⟩ = some (.int .i64 d)) := Lib.hid (by
          have h := hQ66.n12.1
          intro j hj
          match j, hj with
          | 0, _ => exact ⟨_, _, _, h.1, h.2.1, h.2.2.1⟩
          | 1, _ => exact ⟨_, _, _, h.2.2.2.1, h.2.2.2.2.1, h.2.2.2.2.2.1⟩
          | 2, _ => exact ⟨_, _, _, h.2.2.2.2.2.2.1, h.2.2.2.2.2.2.2.1, h.2.2.2.2.2.2.2.2.1⟩
          | 3, _ => exact ⟨_, _, _, h.2.2.2.2.2.2.2.2.2.1, h.2.2.2.2.2.2.2.2.2.2.1, h.2.2.2.2.2.2.2.2.2.2.2⟩)
        have z66 := hQ66.lt
        clear hQ66 hri
        have hz7 := hb7.size
        go_loopw [14, 68] (fun _ s68 wr => ∃ j : Nat, j ≤ 4 ∧ s68 = .int .i64 j ∧ Below W7.heap.size W7 wr) (fun _ s68 _ => 4 - (intOf s68).toNat)
        case atStart => exact ⟨0, by omega, rfl, Below.refl _ _⟩
        case round =>
          obtain ⟨j, hj, rfl, hbr⟩ := hrel
          have hcr := (sb_of hbr).1
          have hzr := hbr.size
          by_cases hj4 : j < 4
          · have j0 : (0 : Int) ≤ (j : Int) := by omega
            have j4 : (j : Int) < 4 := by omega
            obtain ⟨xa, xb, xd, hx0, hx1, hx2⟩ := HX.out j hj4
            go_upto_region 12 with fail
            refine wp_world (fun W8 hW8 => ?_)
            obtain ⟨hQ14, hba, hsn⟩ := new1 hW8
            clear hW8 hcr hx0 hx1 hx2
            have hb8 := hbr.trans (hba.mono hzr)
            have hri8 := (hri7.below hb8 (Nat.le_refl _)).more hb8.size
            generalize hqq : wr.heap.size = q14 at *
            clear hqq hsn hba hzr hbr
            obtain ⟨⟨x0, x1, x2⟩, _⟩ := hQ14.three
            have z14 := hQ14.lt
            refine wp_region_U (fun w' => (∀ b o, b < W8.heap.size → w'.cell? ⟨b, o, none⟩ = W8.cell? ⟨b, o, none⟩) ∧ Below W8.heap.size W8 w') (by kernel_rfl) ?_ (fun Wd hWd hS => ?_)
            · (try dsimp only)
              exact sb_of (Below.refl _ _).drew
            (try dsimp only at hS)
            refine wpU_take 0 (v := ?_) rfl (by kernel_rfl) (fun _ _ _ h => h) hS (Or.inl ⟨rfl, ?_⟩) ?_
            rotate_left
            · (intro w' hSw; (try dsimp only at hSw); go_simp; first | done | with_reducible rfl)
            (try simp only [Act.put, List.setIfInBounds_toArray, List.set_cons_zero, List.set_cons_succ])
            refine wpU_take 1 (v := ?_) rfl (by kernel_rfl) (fun _ _ _ h => h) hS (Or.inl ⟨rfl, ?_⟩) ?_
            rotate_left
            · (intro w' hSw; (try dsimp only at hSw); go_simp; first | done | with_reducible rfl)
            (try simp only [Act.put, List.setIfInBounds_toArray, List.set_cons_zero, List.set_cons_succ])
            refine wpU_take 2 (v := ?_) rfl (by kernel_rfl) (fun _ _ _ h => h) hS (Or.inl ⟨rfl, ?_⟩) ?_
            rotate_left
            · (intro w' hSw; (try dsimp only at hSw); go_simp; first | done | with_reducible rfl)
            (try simp only [Act.put, List.setIfInBounds_toArray, List.set_cons_zero, List.set_cons_succ])
            refine wpU_take 3 (v := ?_) rfl (by kernel_rfl) (fun _ _ _ h => h) hS (Or.inl ⟨rfl, ?_⟩) ?_
            rotate_left
            · (intro w' hSw; (try dsimp only at hSw); go_simp; first | done | with_reducible rfl)
            (try simp only [Act.put, List.setIfInBounds_toArray, List.set_cons_zero, List.set_cons_succ])
            refine wpU_take 4 (v := ?_) rfl (by kernel_rfl) (fun _ _ _ h => h) hS (Or.inl ⟨rfl, ?_⟩) ?_
            rotate_left
            · (intro w' hSw; (try dsimp only at hSw); go_simp; first | done | with_reducible rfl)
            (try simp only [Act.put, List.setIfInBounds_toArray, List.set_cons_zero, List.set_cons_succ])
            refine wpU_take 6 (v := ?_) rfl (by kernel_rfl) (fun _ _ _ h => h) hS (Or.inl ⟨rfl, ?_⟩) ?_
            rotate_left
            · (intro w' hSw; (try dsimp only at hSw); go_simp; first | done | with_reducible rfl)
            (try simp only [Act.put, List.setIfInBounds_toArray, List.set_cons_zero, List.set_cons_succ])
            refine wpU_take 7 (v := ?_) rfl (by kernel_rfl) (fun _ _ _ h => h) hS (Or.inl ⟨rfl, ?_⟩) ?_
            rotate_left
            · (intro w' hSw; (try dsimp only at hSw); go_simp; first | done | with_reducible rfl)
            (try simp only [Act.put, List.setIfInBounds_toArray, List.set_cons_zero, List.set_cons_succ])
            refine wpU_take 8 (v := ?_) rfl (by kernel_rfl) (fun _ _ _ h => h) hS (Or.inl ⟨rfl, ?_⟩) ?_
            rotate_left
            · (intro w' hSw; (try dsimp only at hSw); go_simp; first | done | with_reducible rfl)
            (try simp only [Act.put, List.setIfInBounds_toArray, List.set_cons_zero, List.set_cons_succ])
            refine wpU_take 9 (v := ?_) rfl (by kernel_rfl) (fun _ _ _ h => h) hS (Or.inl ⟨rfl, ?_⟩) ?_
            rotate_left
            · (intro w' hSw; (try dsimp only at hSw); go_simp; first | done | with_reducible rfl)
            (try simp only [Act.put, List.setIfInBounds_toArray, List.set_cons_zero, List.set_cons_succ])
            refine wpU_take 10 (v := ?_) rfl (by kernel_rfl) (fun _ _ _ h => h) hS (Or.inl ⟨rfl, ?_⟩) ?_
            rotate_left
            · (intro w' hSw; (try dsimp only at hSw); go_simp; first | done | with_reducible rfl)
            (try simp only [Act.put, List.setIfInBounds_toArray, List.set_cons_zero, List.set_cons_succ])
            refine wpT_one 5 rfl (by kernel_rfl) (fun K hK => ?_)
            go_simp
            go_at_call 54
            refine (CW.out _ _ _ (hri8.on hS.2)).mono ?_
            rintro e wo ⟨rfl, hbo⟩
            have hbS := hS.2.trans (hbo.mono hS.2.size)
            refine hK.out _ _ ?_ (fun hS => ?_)
            · (try dsimp only)
              exact sb_of hbS
            clear hK K
            (try simp only [Act.put, List.setIfInBounds_toArray, List.set_cons_zero, List.set_cons_succ])
            (try dsimp only at hS)
            refine wpT_one 11 rfl (by kernel_rfl) (fun K hK => ?_)
            go_simp
            go_at_call 55
            refine (CWR.out _ _ _ (hri8.on hS.2)).mono ?_
            rintro e wo ⟨rfl, hbo⟩
            have hbS := hS.2.trans (hbo.mono hS.2.size)
            refine hK.out _ _ ?_ (fun hS => ?_)
            · (try dsimp only)
              exact sb_of hbS
            clear hK K
            (try simp only [Act.put, List.setIfInBounds_toArray, List.set_cons_zero, List.set_cons_succ])
            (try dsimp only at hS)
            refine wpU_take 12 (v := ?_) rfl (by kernel_rfl) (fun _ _ _ h => h) hS (Or.inl ⟨rfl, ?_⟩) ?_
            rotate_left
            · (intro w' hSw; (try dsimp only at hSw); go_simp; first | done | with_reducible rfl)
            (try simp only [Act.put, List.setIfInBounds_toArray, List.set_cons_zero, List.set_cons_succ])
            refine wpU_take 13 (v := ?_) rfl (by kernel_rfl) (fun _ _ _ h => h) hS (Or.inl ⟨rfl, ?_⟩) ?_
            rotate_left
            · (intro w' hSw; (try dsimp only at hSw); go_simp; first | done | with_reducible rfl)
            (try simp only [Act.put, List.setIfInBounds_toArray, List.set_cons_zero, List.set_cons_succ])
            refine wpU_take 14 (v := ?_) rfl (by kernel_rfl) (fun _ _ _ h => h) hS (Or.inl ⟨rfl, ?_⟩) ?_
            rotate_left
            · (intro w' hSw; (try dsimp only at hSw); go_simp; first | done | with_reducible rfl)
            (try simp only [Act.put, List.setIfInBounds_toArray, List.set_cons_zero, List.set_cons_succ])
            refine wpU_take 15 (v := ?_) rfl (by kernel_rfl) (fun _ _ _ h => h) hS (Or.inl ⟨rfl, ?_⟩) ?_
            rotate_left
            · (intro w' hSw; (try dsimp only at hSw); go_simp; first | done | with_reducible rfl)
            (try simp only [Act.put, List.setIfInBounds_toArray, List.set_cons_zero, List.set_cons_succ])
            refine wpU_take 16 (v := ?_) rfl (by kernel_rfl) (fun _ _ _ h => h) hS (Or.inl ⟨rfl, ?_⟩) ?_
            rotate_left
            · (intro w' hSw; (try dsimp only at hSw); go_simp; first | done | with_reducible rfl)
            (try simp only [Act.put, List.setIfInBounds_toArray, List.set_cons_zero, List.set_cons_succ])
            refine wpU_take 17 (v := ?_) rfl (by kernel_rfl) (fun _ _ _ h => h) hS (Or.inl ⟨rfl, ?_⟩) ?_
            rotate_left
            · (intro w' hSw; (try dsimp only at hSw); go_simp; first | done | with_reducible rfl)
            (try simp only [Act.put, List.setIfInBounds_toArray, List.set_cons_zero, List.set_cons_succ])
            refine wpU_take 18 (v := ?_) rfl (by kernel_rfl) (fun _ _ _ h => h) hS (Or.inl ⟨rfl, ?_⟩) ?_
            rotate_left
            · (intro w' hSw; (try dsimp only at hSw); go_simp; first | done | with_reducible rfl)
            (try simp only [Act.put, List.setIfInBounds_toArray, List.set_cons_zero, List.set_cons_succ])
            refine wpU_take 19 (v := ?_) rfl (by kernel_rfl) (fun _ _ _ h => h) hS (Or.inl ⟨rfl, ?_⟩) ?_
            rotate_left
            · (intro w' hSw; (try dsimp only at hSw); go_simp; first | done | with_reducible rfl)
            (try simp only [Act.put, List.setIfInBounds_toArray, List.set_cons_zero, List.set_cons_succ])
            refine wpU_take 20 (v := ?_) rfl (by kernel_rfl) (fun _ _ _ h => h) hS (Or.inl ⟨rfl, ?_⟩) ?_
            rotate_left
            · (intro w' hSw; (try dsimp only at hSw); go_simp; first | done | with_reducible rfl)
            (try simp only [Act.put, List.setIfInBounds_toArray, List.set_cons_zero, List.set_cons_succ])
            refine wpU_take 21 (v := ?_) rfl (by kernel_rfl) (fun _ _ _ h => h) hS (Or.inl ⟨rfl, ?_⟩) ?_
            rotate_left
            · (intro w' hSw; (try dsimp only at hSw); go_simp; first | done | with_reducible rfl)
            (try simp only [Act.put, List.setIfInBounds_toArray, List.set_cons_zero, List.set_cons_succ])
            refine wpU_take 22 (v := ?_) rfl (by kernel_rfl) (fun _ _ _ h => h) hS (Or.inl ⟨rfl, ?_⟩) ?_
            rotate_left
            · (intro w' hSw; (try dsimp only at hSw); go_simp; first | done | with_reducible rfl)
            (try simp only [Act.put, List.setIfInBounds_toArray, List.set_cons_zero, List.set_cons_succ])
            refine wpU_take 24 (v := ?_) rfl (by kernel_rfl) (fun _ _ _ h => h) hS (Or.inl ⟨rfl, ?_⟩) ?_
            rotate_left
            · (intro w' hSw; (try dsimp only at hSw); go_simp; first | done | with_reducible rfl)
            (try simp only [Act.put, List.setIfInBounds_toArray, List.set_cons_zero, List.set_cons_succ])
            refine wpU_take 25 (v := ?_) rfl (by kernel_rfl) (fun _ _ _ h => h) hS (Or.inl ⟨rfl, ?_⟩) ?_
            rotate_left
            · (intro w' hSw; (try dsimp only at hSw); go_simp; first | done | with_reducible rfl)
            (try simp only [Act.put, List.setIfInBounds_toArray, List.set_cons_zero, List.set_cons_succ])
            refine wpU_take 26 (v := ?_) rfl (by kernel_rfl) (fun _ _ _ h => h) hS (Or.inl ⟨rfl, ?_⟩) ?_
            rotate_left
            · (intro w' hSw; (try dsimp only at hSw); go_simp; first | done | with_reducible rfl)
            (try simp only [Act.put, List.setIfInBounds_toArray, List.set_cons_zero, List.set_cons_succ])
            refine wpU_take 27 (v := ?_) rfl (by kernel_rfl) (fun _ _ _ h => h) hS (Or.inl ⟨rfl, ?_⟩) ?_
            rotate_left
            · (intro w' hSw; (try dsimp only at hSw); go_simp; first | done | with_reducible rfl)
            (try simp only [Act.put, List.setIfInBounds_toArray, List.set_cons_zero, List.set_cons_succ])
            refine wpU_take 28 (v := ?_) rfl (by kernel_rfl) (fun _ _ _ h => h) hS (Or.inl ⟨rfl, ?_⟩) ?_
            rotate_left
            · (intro w' hSw; (try dsimp only at hSw); go_simp; first | done | with_reducible rfl)
            (try simp only [Act.put, List.setIfInBounds_toArray, List.set_cons_zero, List.set_cons_succ])
            refine wpU_take 29 (v := ?_) rfl (by kernel_rfl) (fun _ _ _ h => h) hS (Or.inl ⟨rfl, ?_⟩) ?_
            rotate_left
            · (intro w' hSw; (try dsimp only at hSw); go_simp; first | done | with_reducible rfl)
            (try simp only [Act.put, List.setIfInBounds_toArray, List.set_cons_zero, List.set_cons_succ])
            refine wpU_take 30 (v := ?_) rfl (by kernel_rfl) (fun _ _ _ h => h) hS (Or.inl ⟨rfl, ?_⟩) ?_
            rotate_left
            · (intro w' hSw; (try dsimp only at hSw); go_simp; first | done | with_reducible rfl)
            (try simp only [Act.put, List.setIfInBounds_toArray, List.set_cons_zero, List.set_cons_succ])
            refine wpU_take 31 (v := ?_) rfl (by kernel_rfl) (fun _ _ _ h => h) hS (Or.inl ⟨rfl, ?_⟩) ?_
            rotate_left
            · (intro w' hSw; (try dsimp only at hSw); go_simp; first | done | with_reducible rfl)
            (try simp only [Act.put, List.setIfInBounds_toArray, List.set_cons_zero, List.set_cons_succ])
            refine wpU_take 32 (v := ?_) rfl (by kernel_rfl) (fun _ _ _ h => h) hS (Or.inl ⟨rfl, ?_⟩) ?_
            rotate_left
            · (intro w' hSw; (try dsimp only at hSw); go_simp; first | done | with_reducible rfl)
            (try simp only [Act.put, List.setIfInBounds_toArray, List.set_cons_zero, List.set_cons_succ])
            refine wpT_one 23 rfl (by kernel_rfl) (fun K hK => ?_)
            go_simp
            go_at_call 54
            refine (CW.out _ _ _ (hri8.on hS.2)).mono ?_
            rintro e wo ⟨rfl, hbo⟩
            have hbS := hS.2.trans (hbo.mono hS.2.size)
            refine hK.out _ _ ?_ (fun hS => ?_)
            · (try dsimp only)
              exact sb_of hbS
            clear hK K
            (try simp only [Act.put, List.setIfInBounds_toArray, List.set_cons_zero, List.set_cons_succ])
            (try dsimp only at hS)
            refine wpT_one 33 rfl (by kernel_rfl) (fun K hK => ?_)
            go_simp
            go_at_call 55
            refine (CWR.out _ _ _ (hri8.on hS.2)).mono ?_
            rintro e wo ⟨rfl, hbo⟩
            have hbS := hS.2.trans (hbo.mono hS.2.size)
            refine hK.out _ _ ?_ (fun hS => ?_)
            · (try dsimp only)
              exact sb_of hbS
            clear hK K
            (try simp only [Act.put, List.setIfInBounds_toArray, List.set_cons_zero, List.set_cons_succ])
            (try dsimp only at hS)
            refine wpU_take 34 (v := ?_) rfl (by kernel_rfl) (fun _ _ _ h => h) hS (Or.inl ⟨rfl, ?_⟩) ?_
            rotate_left
            · (intro w' hSw; (try dsimp only at hSw); go_simp; first | done | with_reducible rfl)
            (try simp only [Act.put, List.setIfInBounds_toArray, List.set_cons_zero, List.set_cons_succ])
            refine wpU_take 35 (v := ?_) rfl (by kernel_rfl) (fun _ _ _ h => h) hS (Or.inl ⟨rfl, ?_⟩) ?_
            rotate_left
            · (intro w' hSw; (try dsimp only at hSw); go_simp; first | done | with_reducible rfl)
            (try simp only [Act.put, List.setIfInBounds_toArray, List.set_cons_zero, List.set_cons_succ])
            refine wpU_done (by kernel_rfl) ?_
            have hb9 := hS.2
            have hcr := (sb_of hb9).1
            have hz9 := hb9.size
            clear hS hWd
            go_upto_region 15 with fail
            refine wp_world (fun W10 hW10 => ?_)
            obtain ⟨hQ110, hba, hsn⟩ := new1 hW10
            clear hW10 hcr
            have hb10 := hb9.trans (hba.mono hz9)
            have hri10 := hri8.on hb10
            have HU : Hid (∀ t : Nat, t < 3 → ∃ u : Int, W10.cell? ⟨_, t, none⟩ = some (.int .i64 u)) := Lib.hid (by
              have h := hQ110.three.1
              intro t ht
              match t, ht with
              | 0, _ => exact ⟨_, h.1⟩
              | 1, _ => exact ⟨_, h.2.1⟩
              | 2, _ => exact ⟨_, h.2.2⟩)
            have z110 := hQ110.lt
            have hQ14' := hQ14.below hb10 z14
            obtain ⟨⟨y0, y1, y2⟩, _⟩ := hQ14'.three
            have z14' := hQ14'.lt
            have hb710 := hb8.trans (hb10.mono hb8.size)
            clear hQ110 hQ14 hQ14' hri8 hb8 x0 x1 x2 z14 hb9 hz9 hsn hba hb10
            have hs710 := hb710.size
            go_loopw [16, 112] (fun _ s112 wr => ∃ t : Nat, t ≤ 3 ∧ s112 = .int .i64 t ∧ Below W10.heap.size W10 wr) (fun _ s112 _ => 3 - (intOf s112).toNat)
            case atStart => exact ⟨0, by omega, rfl, Below.refl _ _⟩
            case round =>
              obtain ⟨t, ht, rfl, hbr⟩ := hrel
              have hcr := (sb_of hbr).1
              have hzr := hbr.size
              by_cases ht3 : t < 3
              · have t0 : (0 : Int) ≤ (t : Int) := by omega
                have t3 : (t : Int) < 3 := by omega
                obtain ⟨u, hu⟩ := HU.out t ht3
                go_upto_region 17 with fail
                refine wp_region_U (fun w' => (∀ b o, b < W10.heap.size → w'.cell? ⟨b, o, none⟩ = W10.cell? ⟨b, o, none⟩) ∧ Below W10.heap.size W10 w') (by kernel_rfl) ?_ (fun Wd hWd hS => ?_)
                · (try dsimp only)
                  exact sb_of hbr.drew
                (try dsimp only at hS)
                refine wpU_take 0 (v := ?_) rfl (by kernel_rfl) (fun _ _ _ h => h) hS (Or.inl ⟨rfl, ?_⟩) ?_
                rotate_left
                · (intro w' hSw; (try dsimp only at hSw); go_simp; first | done | with_reducible rfl)
                (try simp only [Act.put, List.setIfInBounds_toArray, List.set_cons_zero, List.set_cons_succ])
                refine wpU_take 1 (v := ?_) rfl (by kernel_rfl) (fun _ _ _ h => h) hS (Or.inl ⟨rfl, ?_⟩) ?_
                rotate_left
                · (intro w' hSw; (try dsimp only at hSw); go_simp; first | done | with_reducible rfl)
                (try simp only [Act.put, List.setIfInBounds_toArray, List.set_cons_zero, List.set_cons_succ])
                refine wpU_take 2 (v := ?_) rfl (by kernel_rfl) (fun _ _ _ h => h) hS (Or.inl ⟨rfl, ?_⟩) ?_
                rotate_left
                · (intro w' hSw; (try dsimp only at hSw); go_simp; first | done | with_reducible rfl)
                (try simp only [Act.put, List.setIfInBounds_toArray, List.set_cons_zero, List.set_cons_succ])
                refine wpU_take 3 (v := ?_) rfl (by kernel_rfl) (fun _ _ _ h => h) hS (Or.inl ⟨rfl, ?_⟩) ?_
                rotate_left
                · (intro w' hSw; (try dsimp only at hSw); go_simp; first | done | with_reducible rfl)
                (try simp only [Act.put, List.setIfInBounds_toArray, List.set_cons_zero, List.set_cons_succ])
                refine wpU_take 4 (v := ?_) rfl (by kernel_rfl) (fun _ _ _ h => h) hS (Or.inl ⟨rfl, ?_⟩) ?_
                rotate_left
                · (intro w' hSw; (try dsimp only at hSw); go_simp; first | done | with_reducible rfl)
                (try simp only [Act.put, List.setIfInBounds_toArray, List.set_cons_zero, List.set_cons_succ])
                refine wpU_take 5 (v := ?_) rfl (by kernel_rfl) (fun _ _ _ h => h) hS (Or.inl ⟨rfl, ?_⟩) ?_
                rotate_left
                · (intro w' hSw; (try dsimp only at hSw); go_simp; first | done | with_reducible rfl)
                (try simp only [Act.put, List.setIfInBounds_toArray, List.set_cons_zero, List.set_cons_succ])
                refine wpU_take 7 (v := ?_) rfl (by kernel_rfl) (fun _ _ _ h => h) hS (Or.inl ⟨rfl, ?_⟩) ?_
                rotate_left
                · (intro w' hSw; (try dsimp only at hSw); go_simp; first | done | with_reducible rfl)
                (try simp only [Act.put, List.setIfInBounds_toArray, List.set_cons_zero, List.set_cons_succ])
                refine wpU_take 8 (v := ?_) rfl (by kernel_rfl) (fun _ _ _ h => h) hS (Or.inl ⟨rfl, ?_⟩) ?_
                rotate_left
                · (intro w' hSw; (try dsimp only at hSw); go_simp; first | done | with_reducible rfl)
                (try simp only [Act.put, List.setIfInBounds_toArray, List.set_cons_zero, List.set_cons_succ])
                refine wpU_take 9 (v := ?_) rfl (by kernel_rfl) (fun _ _ _ h => h) hS (Or.inl ⟨rfl, ?_⟩) ?_
                rotate_left
                · (intro w' hSw; (try dsimp only at hSw); go_simp; first | done | with_reducible rfl)
                (try simp only [Act.put, List.setIfInBounds_toArray, List.set_cons_zero, List.set_cons_succ])
                refine wpU_take 10 (v := ?_) rfl (by kernel_rfl) (fun _ _ _ h => h) hS (Or.inl ⟨rfl, ?_⟩) ?_
                rotate_left
                · (intro w' hSw; (try dsimp only at hSw); go_simp; first | done | with_reducible rfl)
                (try simp only [Act.put, List.setIfInBounds_toArray, List.set_cons_zero, List.set_cons_succ])
                refine wpU_take 11 (v := ?_) rfl (by kernel_rfl) (fun _ _ _ h => h) hS (Or.inl ⟨rfl, ?_⟩) ?_
                rotate_left
                · (intro w' hSw; (try dsimp only at hSw); go_simp; first | done | with_reducible rfl)
                (try simp only [Act.put, List.setIfInBounds_toArray, List.set_cons_zero, List.set_cons_succ])
                refine wpU_take 12 (v := ?_) rfl (by kernel_rfl) (fun _ _ _ h => h) hS (Or.inl ⟨rfl, ?_⟩) ?_
                rotate_left
                · (intro w' hSw; (try dsimp only at hSw); go_simp; first | done | with_reducible rfl)
                (try simp only [Act.put, List.setIfInBounds_toArray, List.set_cons_zero, List.set_cons_succ])
                refine wpT_one 6 rfl (by kernel_rfl) (fun K hK => ?_)
                go_simp
                go_at_call 56
                refine (CV.out _ _ _ _ (hri10.on hS.2)).mono ?_
                rintro e wo ⟨rfl, hbo⟩
                have hbS := hS.2.trans (hbo.mono hS.2.size)
                refine hK.out _ _ ?_ (fun hS => ?_)
                · (try dsimp only)
                  exact sb_of hbS
                clear hK K
                (try simp only [Act.put, List.setIfInBounds_toArray, List.set_cons_zero, List.set_cons_succ])
                (try dsimp only at hS)
                refine wpT_one 13 rfl (by kernel_rfl) (fun K hK => ?_)
                go_simp
                go_at_call 57
                refine (CVR.out _ _ _ _ (hri10.on hS.2)).mono ?_
                rintro e wo ⟨rfl, hbo⟩
                have hbS := hS.2.trans (hbo.mono hS.2.size)
                refine hK.out _ _ ?_ (fun hS => ?_)
                · (try dsimp only)
                  exact sb_of hbS
                clear hK K
                (try simp only [Act.put, List.setIfInBounds_toArray, List.set_cons_zero, List.set_cons_succ])
                (try dsimp only at hS)
                refine wpU_take 14 (v := ?_) rfl (by kernel_rfl) (fun _ _ _ h => h) hS (Or.inl ⟨rfl, ?_⟩) ?_
                rotate_left
                · (intro w' hSw; (try dsimp only at hSw); go_simp; first | done | with_reducible rfl)
                (try simp only [Act.put, List.setIfInBounds_toArray, List.set_cons_zero, List.set_cons_succ])
                refine wpU_take 15 (v := ?_) rfl (by kernel_rfl) (fun _ _ _ h => h) hS (Or.inl ⟨rfl, ?_⟩) ?_
                rotate_left
                · (intro w' hSw; (try dsimp only at hSw); go_simp; first | done | with_reducible rfl)
                (try simp only [Act.put, List.setIfInBounds_toArray, List.set_cons_zero, List.set_cons_succ])
                refine wpU_take 16 (v := ?_) rfl (by kernel_rfl) (fun _ _ _ h => h) hS (Or.inl ⟨rfl, ?_⟩) ?_
                rotate_left
                · (intro w' hSw; (try dsimp only at hSw); go_simp; first | done | with_reducible rfl)
                (try simp only [Act.put, List.setIfInBounds_toArray, List.set_cons_zero, List.set_cons_succ])
                refine wpU_take 17 (v := ?_) rfl (by kernel_rfl) (fun _ _ _ h => h) hS (Or.inl ⟨rfl, ?_⟩) ?_
                rotate_left
                · (intro w' hSw; (try dsimp only at hSw); go_simp; first | done | with_reducible rfl)
                (try simp only [Act.put, List.setIfInBounds_toArray, List.set_cons_zero, List.set_cons_succ])
                refine wpU_take 18 (v := ?_) rfl (by kernel_rfl) (fun _ _ _ h => h) hS (Or.inl ⟨rfl, ?_⟩) ?_
                rotate_left
                · (intro w' hSw; (try dsimp only at hSw); go_simp; first | done | with_reducible rfl)
                (try simp only [Act.put, List.setIfInBounds_toArray, List.set_cons_zero, List.set_cons_succ])
                refine wpU_take 19 (v := ?_) rfl (by kernel_rfl) (fun _ _ _ h => h) hS (Or.inl ⟨rfl, ?_⟩) ?_
                rotate_left
                · (intro w' hSw; (try dsimp only at hSw); go_simp; first | done | with_reducible rfl)
                (try simp only [Act.put, List.setIfInBounds_toArray, List.set_cons_zero, List.set_cons_succ])
                refine wpU_take 20 (v := ?_) rfl (by kernel_rfl) (fun _ _ _ h => h) hS (Or.inl ⟨rfl, ?_⟩) ?_
                rotate_left
                · (intro w' hSw; (try dsimp only at hSw); go_simp; first | done | with_reducible rfl)
                (try simp only [Act.put, List.setIfInBounds_toArray, List.set_cons_zero, List.set_cons_succ])
                refine wpU_take 21 (v := ?_) rfl (by kernel_rfl) (fun _ _ _ h => h) hS (Or.inl ⟨rfl, ?_⟩) ?_
                rotate_left
                · (intro w' hSw; (try dsimp only at hSw); go_simp; first | done | with_reducible rfl)
                (try simp only [Act.put, List.setIfInBounds_toArray, List.set_cons_zero, List.set_cons_succ])
                refine wpU_take 22 (v := ?_) rfl (by kernel_rfl) (fun _ _ _ h => h) hS (Or.inl ⟨rfl, ?_⟩) ?_
                rotate_left
                · (intro w' hSw; (try dsimp only at hSw); go_simp; first | done | with_reducible rfl)
                (try simp only [Act.put, List.setIfInBounds_toArray, List.set_cons_zero, List.set_cons_succ])
                refine wpU_take 23 (v := ?_) rfl (by kernel_rfl) (fun _ _ _ h => h) hS (Or.inl ⟨rfl, ?_⟩) ?_
                rotate_left
                · (intro w' hSw; (try dsimp only at hSw); go_simp; first | done | with_reducible rfl)
                (try simp only [Act.put, List.setIfInBounds_toArray, List.set_cons_zero, List.set_cons_succ])
                refine wpU_take 25 (v := ?_) rfl (by kernel_rfl) (fun _ _ _ h => h) hS (Or.inl ⟨rfl, ?_⟩) ?_
                rotate_left
                · (intro w' hSw; (try dsimp only at hSw); go_simp; first | done | with_reducible rfl)
                (try simp only [Act.put, List.setIfInBounds_toArray, List.set_cons_zero, List.set_cons_succ])
                refine wpU_take 26 (v := ?_) rfl (by kernel_rfl) (fun _ _ _ h => h) hS (Or.inl ⟨rfl, ?_⟩) ?_
                rotate_left
                · (intro w' hSw; (try dsimp only at hSw); go_simp; first | done | with_reducible rfl)
                (try simp only [Act.put, List.setIfInBounds_toArray, List.set_cons_zero, List.set_cons_succ])
                refine wpU_take 27 (v := ?_) rfl (by kernel_rfl) (fun _ _ _ h => h) hS (Or.inl ⟨rfl, ?_⟩) ?_
                rotate_left
                · (intro w' hSw; (try dsimp only at hSw); go_simp; first | done | with_reducible rfl)
                (try simp only [Act.put, List.setIfInBounds_toArray, List.set_cons_zero, List.set_cons_succ])
                refine wpU_take 28 (v := ?_) rfl (by kernel_rfl) (fun _ _ _ h => h) hS (Or.inl ⟨rfl, ?_⟩) ?_
                rotate_left
                · (intro w' hSw; (try dsimp only at hSw); go_simp; first | done | with_reducible rfl)
                (try simp only [Act.put, List.setIfInBounds_toArray, List.set_cons_zero, List.set_cons_succ])
                refine wpU_take 29 (v := ?_) rfl (by kernel_rfl) (fun _ _ _ h => h) hS (Or.inl ⟨rfl, ?_⟩) ?_
                rotate_left
                · (intro w' hSw; (try dsimp only at hSw); go_simp; first | done | with_reducible rfl)
                (try simp only [Act.put, List.setIfInBounds_toArray, List.set_cons_zero, List.set_cons_succ])
                refine wpU_take 30 (v := ?_) rfl (by kernel_rfl) (fun _ _ _ h => h) hS (Or.inl ⟨rfl, ?_⟩) ?_
                rotate_left
                · (intro w' hSw; (try dsimp only at hSw); go_simp; first | done | with_reducible rfl)
                (try simp only [Act.put, List.setIfInBounds_toArray, List.set_cons_zero, List.set_cons_succ])
                refine wpU_take 31 (v := ?_) rfl (by kernel_rfl) (fun _ _ _ h => h) hS (Or.inl ⟨rfl, ?_⟩) ?_
                rotate_left
                · (intro w' hSw; (try dsimp only at hSw); go_simp; first | done | with_reducible rfl)
                (try simp only [Act.put, List.setIfInBounds_toArray, List.set_cons_zero, List.set_cons_succ])
                refine wpU_take 32 (v := ?_) rfl (by kernel_rfl) (fun _ _ _ h => h) hS (Or.inl ⟨rfl, ?_⟩) ?_
                rotate_left
                · (intro w' hSw; (try dsimp only at hSw); go_simp; first | done | with_reducible rfl)
                (try simp only [Act.put, List.setIfInBounds_toArray, List.set_cons_zero, List.set_cons_succ])
                refine wpT_one 24 rfl (by kernel_rfl) (fun K hK => ?_)
                go_simp
                go_at_call 56
                refine (CV.out _ _ _ _ (hri10.on hS.2)).mono ?_
                rintro e wo ⟨rfl, hbo⟩
                have hbS := hS.2.trans (hbo.mono hS.2.size)
                refine hK.out _ _ ?_ (fun hS => ?_)
                · (try dsimp only)
                  exact sb_of hbS
                clear hK K
                (try simp only [Act.put, List.setIfInBounds_toArray, List.set_cons_zero, List.set_cons_succ])
                (try dsimp only at hS)
                refine wpT_one 33 rfl (by kernel_rfl) (fun K hK => ?_)
                go_simp
                go_at_call 57
                refine (CVR.out _ _ _ _ (hri10.on hS.2)).mono ?_
                rintro e wo ⟨rfl, hbo⟩
                have hbS := hS.2.trans (hbo.mono hS.2.size)
                refine hK.out _ _ ?_ (fun hS => ?_)
                · (try dsimp only)
                  exact sb_of hbS
                clear hK K
                (try simp only [Act.put, List.setIfInBounds_toArray, List.set_cons_zero, List.set_cons_succ])
                (try dsimp only at hS)
                refine wpU_take 34 (v := ?_) rfl (by kernel_rfl) (fun _ _ _ h => h) hS (Or.inl ⟨rfl, ?_⟩) ?_
                rotate_left
                · (intro w' hSw; (try dsimp only at hSw); go_simp; first | done | with_reducible rfl)
                (try simp only [Act.put, List.setIfInBounds_toArray, List.set_cons_zero, List.set_cons_succ])
                refine wpU_take 35 (v := ?_) rfl (by kernel_rfl) (fun _ _ _ h => h) hS (Or.inl ⟨rfl, ?_⟩) ?_
                rotate_left
                · (intro w' hSw; (try dsimp only at hSw); go_simp; first | done | with_reducible rfl)
                (try simp only [Act.put, List.setIfInBounds_toArray, List.set_cons_zero, List.set_cons_succ])
                refine wpU_done (by kernel_rfl) ?_
                have hbz := hS.2
                clear hS hWd hbr hcr hzr
                go_wp2_with fail
                go_roundw
                case rel => exact ⟨t + 1, by omega, by go_num, hbz⟩
                case measure => simp [intOf]; omega
              · have t3 : ¬ (t : Int) < 3 := by omega
                go_wp2
                go_roundw
                case rel => exact ⟨j + 1, by omega, by go_num, hb710.trans (hbr.mono hs710)⟩
                case measure => simp [intOf]; omega
          · have j4 : ¬ (j : Int) < 4 := by omega
            go_wp2
            go_roundw
            case rel => exact ⟨i + 1, by omega, by go_num, hb7.trans (hbr.mono hz7)⟩
            case measure => simp [intOf]; omega
      · have i3 : ¬ (i : Int) < 3 := by omega
        go_wp2
        go_ret
        exact ⟨rfl, by rw [HP.out]; exact hb6.trans (hbr.mono hz)⟩
end Go.Proofs.Ytlanefdeeanpnaa
