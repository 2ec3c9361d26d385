/-
  The law ReaderDiffers: for every argument the call returns true. Conditions: the lists' lengths fit an int, and they are read below the heap's size.
-/
import Derived.Test.YtlanefdeeanpnaaCaseMade
import Derived.Test.YtlanefdeeanpnaaOdd
import Derived.Test.YtlanefdeeanpnaaSanity
import Derived.Test.YtlanefdeeanpnaaSame
import Derived.Deep.DrawnRows
namespace Go.Proofs.Ytlanefdeeanpnaa
set_option linter.unusedVariables false
set_option linter.unusedSimpArgs false
open Go.RowKit
attribute [local go_sem ↓] Go.wp_at_zero Go.wp_at_succ

set_option maxHeartbeats 1000000 in
set_option maxRecDepth 100000 in
theorem differs_law (L1 L2 : List Int) (A1 A2 : Option Addr) (c1 c2 : Nat) (a b k B S W H : Int) (A : Option Addr) (c : Nat) (D : List Bool) (w : World) (hn1 : L1.length ≤ 9223372036854775807) (hn2 : L2.length ≤ 9223372036854775807) (hn : D.length ≤ 9223372036854775807)
    (hc : D.length ≤ c) (hc2 : c ≤ 9223372036854775807) (hA : A = none → D.length = 0 ∧ c = 0) (hr1 : Rd (Value.int .i64) w w.heap.size A1 L1) (hr2 : Rd (Value.int .i64) w w.heap.size A2 L2) (hr : Rd Value.bool w w.heap.size A D) :
    Calls Try.prog 4 #[.agg #[.slice A1 L1.length c1, .slice A2 L2.length c2, .int .i64 a, .int .i64 b, .int .i64 k], .agg #[.int .i64 B, .int .i64 S], .agg #[.int .i64 W, .int .i64 H, .slice A D.length c]] w fun e w' => e = .returned (.bool true) ∧ Below w.heap.size w w' := by
  have HR1 := Lib.hid hr1
  have HR2 := Lib.hid hr2
  have HR := Lib.hid hr
  have HA := Lib.hid hA
  clear hr1 hr2 hr hA
  go_enter Try.func4, Try.ntmps4
  go_wp2_with fail
  refine calls_world (fun W0 hW0 => ?_)
  obtain ⟨T0, hs0, _⟩ := (Tr.start w).new3 hW0
  clear hW0
  generalize hp : w.heap.size = p at *
  have HP := Lib.hid hp
  clear hp
  refine (sanity_true _).mono ?_
  rintro e w1 ⟨rfl, hb1⟩
  have T1 := T0.call hb1
  clear T0 hb1 hs0
  obtain ⟨b0, b1, b2, b3, b4⟩ := T1.stand.1.five
  go_wp2_with fail
  refine (case_made L1 L2 A1 A2 c1 c2 a b k _ hn1 hn2 (T1.rd HR1.out) (T1.rd HR2.out)).mono ?_
  rintro e w2 ⟨g1, g2, rfl, hg1, hg2, hO1, hO2, hb2⟩
  have T2 := ((T1.call hb2).push hO2.blk).push hO1.blk
  have hpg1 : p + 1 + 1 < g1 := by have := T1.stand.2.2.1.lt; omega
  have hpg2 : p + 1 + 1 < g2 := by have := T1.stand.2.2.1.lt; omega
  have hgl1 := hO1.lt
  have hgl2 := hO2.lt
  clear T1 hb2 hO1 hO2 b0 b1 b2 b3 b4
  dsimp only
  go_upto_region 3 with fail
  refine wp_world (fun W3 hW3 => ?_)
  obtain ⟨T3, hs3, _⟩ := T2.new3 hW3
  clear hW3 T2
  generalize hq : w2.heap.size = q at *
  have hpq : p + 1 + 1 < q := by omega
  clear hq
  obtain ⟨⟨b0, b1, b2⟩, _⟩ := T3.stand.2.2.2.2.2.2.2.1.three
  go_wp2_with fail
  refine (cut_any W H A D.length c _ hn hc hc2 HA.out).mono ?_
  rintro e w4 ⟨rfl, hb4⟩
  have T4 := T3.call hb4
  clear T3 hb4 b0 b1 b2
  obtain ⟨⟨b0, b1, b2⟩, f0, f1, f2⟩ := T4.stand.2.2.2.2.2.2.2.1.three
  obtain ⟨⟨d0, d1⟩, _⟩ := T4.stand.1.two
  obtain ⟨⟨r0, r1⟩, _⟩ := T4.stand.2.2.2.2.2.2.1.two
  have hl4 := T4.stand.1.lt
  go_upto_region 5 with fail
  refine wp_world (fun W5 hW5 => ?_)
  obtain ⟨T5, hs5⟩ := T4.set3new1 7 rfl (by omega) (by simp [Fresh]; omega) hW5
  clear hW5 T4 b0 b1 b2 f0 f1 f2 d0 d1 r0 r1 hl4
  generalize hq11 : w4.heap.size = q11 at *
  clear hq11 hs5
  have hOd := Lib.hid (fun w hr => ref04_Odd (mkW L1) (mkH L1) (some ⟨g1, 0, none⟩) (mkW L1 * mkH L1) (mkD L1) k w (by have := mkW_le L1; omega) (by have := mkH_le L1; omega) (by have := mk_small L1; omega) hr)
  rw [mkD_len] at hOd
  have z1 := T5.stand.2.1.lt
  have z2 := T5.stand.2.2.1.lt
  have z3 := T5.stand.2.2.2.2.2.2.1.lt
  have z4 := T5.stand.2.2.2.2.2.2.2.2.1.lt
  obtain ⟨⟨b0, b1, b2⟩, _⟩ := T5.stand.2.2.2.2.2.2.2.2.1.three
  obtain ⟨_, _, _, _, e4⟩ := T5.stand.2.2.2.2.2.2.1.five
  obtain ⟨⟨d0, d1, d2⟩, _⟩ := T5.stand.2.2.1.three
  have z5 := T5.stand.2.2.2.1.lt
  obtain ⟨⟨h0, h1, h2⟩, _⟩ := T5.stand.2.2.2.1.three
  go_cut [12] (fun s12 wx => ∃ (q12 : Nat) (A' : Option Addr) (c' : Nat), s12 = .pointer (some ⟨q12, 0, none⟩) ∧ Blk wx q12 44 #[.int .i64 (mkW L1), .int .i64 (mkH L1), .slice (some ⟨g1, 0, none⟩) (mkW L1 * mkH L1) (mkW L1 * mkH L1), .int .i64 (mkW L1), .int .i64 (mkH L1), .slice (some ⟨g2, 0, none⟩) (mkW L1 * mkH L1) (mkW L1 * mkH L1), .int .i64 (oddW (mkW L1) k), .int .i64 (oddH (mkH L1) k), .slice A' (oddD (mkD L1) k).length c', .int .i64 W, .int .i64 H, .slice A (min D.length 500) c] ∧ Rd Value.bool wx wx.heap.size A' (oddD (mkD L1) k) ∧ Below W5.heap.size W5 wx)
  case first =>
    refine wp_region_L 9 (fun w' => (∀ b o, b < W5.heap.size → w'.cell? ⟨b, o, none⟩ = W5.cell? ⟨b, o, none⟩) ∧ Below W5.heap.size W5 w') (by kernel_rfl) ?_ (fun Wd hWd hS => ?_)
    · (try dsimp only)
      exact sb_of (Below.refl _ _).drew
    (try dsimp only at hS)
    refine wpT_take 0 (v := ?_) rfl (by kernel_rfl) (by kernel_rfl) (fun _ _ _ h => h) hS (Or.inl ⟨rfl, ?_⟩) ?_
    rotate_left
    · (intro w' hSw; (try dsimp only at hSw); go_simp; first | done | with_reducible rfl)
    (try simp only [Act.put, List.setIfInBounds_toArray, List.set_cons_zero, List.set_cons_succ])
    refine wpT_take 1 (v := ?_) rfl (by kernel_rfl) (by kernel_rfl) (fun _ _ _ h => h) hS (Or.inl ⟨rfl, ?_⟩) ?_
    rotate_left
    · (intro w' hSw; (try dsimp only at hSw); go_simp; first | done | with_reducible rfl)
    (try simp only [Act.put, List.setIfInBounds_toArray, List.set_cons_zero, List.set_cons_succ])
    refine wpT_take 2 (v := ?_) rfl (by kernel_rfl) (by kernel_rfl) (fun _ _ _ h => h) hS (Or.inl ⟨rfl, ?_⟩) ?_
    rotate_left
    · (intro w' hSw; (try dsimp only at hSw); go_simp; first | done | with_reducible rfl)
    (try simp only [Act.put, List.setIfInBounds_toArray, List.set_cons_zero, List.set_cons_succ])
    refine wpT_take 3 (v := ?_) rfl (by kernel_rfl) (by kernel_rfl) (fun _ _ _ h => h) hS (Or.inl ⟨rfl, ?_⟩) ?_
    rotate_left
    · (intro w' hSw; (try dsimp only at hSw); go_simp; first | done | with_reducible rfl)
    (try simp only [Act.put, List.setIfInBounds_toArray, List.set_cons_zero, List.set_cons_succ])
    refine wpT_take 4 (v := ?_) rfl (by kernel_rfl) (by kernel_rfl) (fun _ _ _ h => h) hS (Or.inl ⟨rfl, ?_⟩) ?_
    rotate_left
    · (intro w' hSw; (try dsimp only at hSw); go_simp; first | done | with_reducible rfl)
    (try simp only [Act.put, List.setIfInBounds_toArray, List.set_cons_zero, List.set_cons_succ])
    refine wpT_take 6 (v := ?_) rfl (by kernel_rfl) (by kernel_rfl) (fun _ _ _ h => h) hS (Or.inl ⟨rfl, ?_⟩) ?_
    rotate_left
    · (intro w' hSw; (try dsimp only at hSw); go_simp; first | done | with_reducible rfl)
    (try simp only [Act.put, List.setIfInBounds_toArray, List.set_cons_zero, List.set_cons_succ])
    refine wpT_two 5 8 rfl rfl (by kernel_rfl) (fun K hK => ?_) (fun K hK => ?_)
    · skip
      go_simp
      go_at_call 22
      refine (hOd.out _ (((T5.call hS.2).stand.2.2.2.2.1.own (f := Value.bool)).rd (T5.call hS.2).stand.2.2.2.2.1.lt)).mono ?_
      rintro e w6 ⟨A', c', rfl, hr6, hb6⟩
      have hbS := hS.2.trans (hb6.mono hS.2.size)
      try have hQ := hQ.below hb6 hQ.lt
      refine hK.out _ _ ?_ (fun hS => ?_)
      · (try dsimp only)
        exact sb_of hbS
      clear hK K
      (try simp only [Act.put, List.setIfInBounds_toArray, List.set_cons_zero, List.set_cons_succ])
      (try dsimp only at hS)
      refine wpT_take 7 (v := ?_) rfl (by kernel_rfl) (by kernel_rfl) (fun _ _ _ h => h) hS (Or.inl ⟨rfl, ?_⟩) ?_
      rotate_left
      · (intro w' hSw; (try dsimp only at hSw); go_simp; first | done | with_reducible rfl)
      (try simp only [Act.put, List.setIfInBounds_toArray, List.set_cons_zero, List.set_cons_succ])
      refine wpT_one 8 rfl (by kernel_rfl) (fun K hK => ?_)
      go_simp
      refine k_world (fun Wq hWq => ?_)
      have hS7 := hS.2.size
      obtain ⟨q12, eq12, hQ, hbQ, hsQ⟩ := new1n hWq
      clear hWq
      try rw [eq12]
      have hbS := hS.2.trans (hbQ.mono (by omega))
      try have hr6 := (hr6.below (eq12 ▸ hbQ) (by omega)).more (show w6.heap.size ≤ Wq.heap.size by omega)
      refine hK.out _ _ ?_ (fun hS => ?_)
      · (try dsimp only)
        exact sb_of hbS
      clear hK K
      (try simp only [Act.put, List.setIfInBounds_toArray, List.set_cons_zero, List.set_cons_succ])
      (try dsimp only at hS)
      refine wpT_tail (by rfl) (by kernel_rfl) ?_
      (try simp only [List.drop_succ_cons, List.drop_zero])
      obtain ⟨⟨u0, u1, u2, u3, u4, u5, u6, u7, u8, u9, u10, u11⟩, v0, v1, v2, v3, v4, v5, v6, v7, v8, v9, v10, v11⟩ := hQ.n12
      go_wp2
      refine k_world (fun WX hWX => ?_)
      have hQ0 := hQ
      obtain ⟨hQ, hkX⟩ := store12 hWX hQ
      clear hWX
      go_meet
      exact ⟨q12, A', c', rfl, hQ, (hr6.other hQ0 hkX (Nat.le_refl _) rfl).more hkX.size, hbS.trans (hkX.to_below hbS.size (by simp; omega))⟩
    · skip
      go_simp
      refine k_world (fun Wq hWq => ?_)
      have hS7 := hS.2.size
      obtain ⟨q12, eq12, hQ, hbQ, hsQ⟩ := new1n hWq
      clear hWq
      try rw [eq12]
      have hbS := hS.2.trans (hbQ.mono (by omega))
      try have hr6 := (hr6.below (eq12 ▸ hbQ) (by omega)).more (show w6.heap.size ≤ Wq.heap.size by omega)
      refine hK.out _ _ ?_ (fun hS => ?_)
      · (try dsimp only)
        exact sb_of hbS
      clear hK K
      (try simp only [Act.put, List.setIfInBounds_toArray, List.set_cons_zero, List.set_cons_succ])
      (try dsimp only at hS)
      refine wpT_one 5 rfl (by kernel_rfl) (fun K hK => ?_)
      go_simp
      go_at_call 22
      refine (hOd.out _ (((T5.call hS.2).stand.2.2.2.2.1.own (f := Value.bool)).rd (T5.call hS.2).stand.2.2.2.2.1.lt)).mono ?_
      rintro e w6 ⟨A', c', rfl, hr6, hb6⟩
      have hbS := hS.2.trans (hb6.mono hS.2.size)
      try have hQ := hQ.below hb6 hQ.lt
      refine hK.out _ _ ?_ (fun hS => ?_)
      · (try dsimp only)
        exact sb_of hbS
      clear hK K
      (try simp only [Act.put, List.setIfInBounds_toArray, List.set_cons_zero, List.set_cons_succ])
      (try dsimp only at hS)
      refine wpT_take 7 (v := ?_) rfl (by kernel_rfl) (by kernel_rfl) (fun _ _ _ h => h) hS (Or.inl ⟨rfl, ?_⟩) ?_
      rotate_left
      · (intro w' hSw; (try dsimp only at hSw); go_simp; first | done | with_reducible rfl)
      (try simp only [Act.put, List.setIfInBounds_toArray, List.set_cons_zero, List.set_cons_succ])
      refine wpT_tail (by rfl) (by kernel_rfl) ?_
      (try simp only [List.drop_succ_cons, List.drop_zero])
      obtain ⟨⟨u0, u1, u2, u3, u4, u5, u6, u7, u8, u9, u10, u11⟩, v0, v1, v2, v3, v4, v5, v6, v7, v8, v9, v10, v11⟩ := hQ.n12
      go_wp2
      refine k_world (fun WX hWX => ?_)
      have hQ0 := hQ
      obtain ⟨hQ, hkX⟩ := store12 hWX hQ
      clear hWX
      go_meet
      exact ⟨q12, A', c', rfl, hQ, (hr6.other hQ0 hkX (Nat.le_refl _) rfl).more hkX.size, hbS.trans (hkX.to_below hbS.size (by simp; omega))⟩
  case rest =>
    obtain ⟨q12, A', c', rfl, hQ, hr6, hb6⟩ := hcut
    refine k_world (fun W6 hW6 => ?_)
    rw [← hW6] at hQ hr6 hb6
    clear hW6
    have hrA : Rd Value.bool W6 W6.heap.size (some ⟨g1, 0, none⟩) (mkD L1) := ((T5.call hb6).stand.2.2.2.2.1.own (f := Value.bool)).rd (T5.call hb6).stand.2.2.2.2.1.lt
    have hrB : Rd Value.bool W6 W6.heap.size (some ⟨g2, 0, none⟩) (mkD2 L1 L2) := ((T5.call hb6).stand.2.2.2.2.2.1.own (f := Value.bool)).rd (T5.call hb6).stand.2.2.2.2.2.1.lt
    have hrC : Rd Value.bool W6 W6.heap.size A (D.take 500) := ((T5.call hb6).rd HR.out).take 500
    have T6 := (T5.call hb6).push hQ
    have HRD : Hid (∀ t : Nat, t < 2 → ∃ Bt St : Int, W6.cell? ⟨q11, t * 2, none⟩ = some (.int .i64 Bt) ∧ W6.cell? ⟨q11, t * 2 + 1, none⟩ = some (.int .i64 St)) := Lib.hid (by
      have h := T6.stand.2.1.n4.1
      intro t ht
      match t, ht with
      | 0, _ => exact ⟨_, _, h.1, h.2.1⟩
      | 1, _ => exact ⟨_, _, h.2.2.1, h.2.2.2⟩)
    have HBM : Hid (∀ t : Nat, t < 4 → ∃ (Wt Ht : Int) (At : Option Addr) (ct : Nat) (Dt : List Bool), W6.cell? ⟨q12, t * 3, none⟩ = some (.int .i64 Wt) ∧ W6.cell? ⟨q12, t * 3 + 1, none⟩ = some (.int .i64 Ht) ∧ W6.cell? ⟨q12, t * 3 + 2, none⟩ = some (.slice At Dt.length ct) ∧ Rd Value.bool W6 W6.heap.size At Dt ∧ Dt.length ≤ 9223372036854775807) := Lib.hid (by
      have h := T6.stand.1.n12.1
      have hs := mk_small L1
      have hs2 := mkD2_len L1 L2
      have ho := oddD_len (mkD L1) k
      intro t ht
      match t, ht with
      | 0, _ => exact ⟨_, _, _, _, mkD L1, h.1, h.2.1, by rw [mkD_len]; exact h.2.2.1, hrA, by omega⟩
      | 1, _ => exact ⟨_, _, _, _, mkD2 L1 L2, h.2.2.2.1, h.2.2.2.2.1, by rw [hs2]; exact h.2.2.2.2.2.1, hrB, by rw [mkD_len] at hs; omega⟩
      | 2, _ => exact ⟨_, _, _, _, oddD (mkD L1) k, h.2.2.2.2.2.2.1, h.2.2.2.2.2.2.2.1, h.2.2.2.2.2.2.2.2.1, hr6, by omega⟩
      | 3, _ => exact ⟨_, _, _, _, D.take 500, h.2.2.2.2.2.2.2.2.2.1, h.2.2.2.2.2.2.2.2.2.2.1, by rw [List.length_take, Nat.min_comm]; exact h.2.2.2.2.2.2.2.2.2.2.2, hrC, by rw [List.length_take]; omega⟩)
    have hlow := T6.low
    have hsz6 := T6.size
    have zq11 := T6.stand.2.1.lt
    have zq12 := T6.stand.1.lt
    clear T5 T6 HR1 HR2 HR HA hOd hrA hrB hrC hr6 hQ hb6 b0 b1 b2 d0 d1 d2 e4 z1 z2 z3 z4 z5 h0 h1 h2
    go_wp2_with fail
    go_loopw [13] (fun ii wr => ∃ t : Nat, t ≤ 2 ∧ ii = .int .i64 t ∧ Below W6.heap.size W6 wr) (fun ii _ => 2 - (intOf ii).toNat)
    case atStart => exact ⟨0, by omega, rfl, Below.refl _ _⟩
    case round =>
      obtain ⟨t, ht, rfl, hbr⟩ := hrel
      by_cases hlt : t < 2
      · obtain ⟨Bt, St, hR0, hR1⟩ := HRD.out t hlt
        have t0 : (0 : Int) ≤ (t : Int) := by omega
        have t3 : (t : Int) < 2 := by omega
        go_wp2_with fail
        go_loopw [14] (fun jj wr => ∃ i : Nat, i ≤ 4 ∧ jj = .int .i64 i ∧ Below W6.heap.size W6 wr) (fun jj _ => 4 - (intOf jj).toNat)
        case atStart => exact ⟨0, by omega, rfl, hbr⟩
        case round =>
          clear hbr
          obtain ⟨i, hi, rfl, hbi⟩ := hrel
          by_cases hil : i < 4
          · obtain ⟨Wt, Ht, At, ct, Dt, hM0, hM1, hM2, hrB, hnB⟩ := HBM.out i hil
            have i0 : (0 : Int) ≤ (i : Int) := by omega
            have i3 : (i : Int) < 4 := by omega
            go_wp2_with fail
            go_loopw [15] (fun jj wr => ∃ j : Nat, j ≤ 4 ∧ jj = .int .i64 j ∧ Below W6.heap.size W6 wr) (fun jj _ => 4 - (intOf jj).toNat)
            case atStart => exact ⟨0, by omega, rfl, hbi⟩
            case round =>
              clear hbi
              obtain ⟨j, hj, rfl, hbj⟩ := hrel
              by_cases hjl : j < 4
              · obtain ⟨Wu, Hu, Au, cu, Du, hN0, hN1, hN2, hrU, hnU⟩ := HBM.out j hjl
                have j0 : (0 : Int) ≤ (j : Int) := by omega
                have j3 : (j : Int) < 4 := by omega
                have CS := Lib.hid (fun w h h' => reader_Differ Bt St Wt Ht Wu Hu At Au ct cu Dt Du w hnB hnU h h')
                have CR := Lib.hid (fun w h h' => ref21_Differ Bt St Wt Ht Wu Hu At Au ct cu Dt Du w hnB hnU h h')
                generalize diffSpec Bt St Wt Ht Dt Wu Hu Du = r at CS CR
                obtain ⟨rn, re⟩ := r
                go_upto_region 15 with fail
                refine wp_region_L 14 (fun w' => (∀ b o, b < W6.heap.size → w'.cell? ⟨b, o, none⟩ = W6.cell? ⟨b, o, none⟩) ∧ Below W6.heap.size W6 w') (by kernel_rfl) ?_ (fun Wd hWd hS => ?_)
                · (try dsimp only)
                  exact sb_of hbj.drew
                (try dsimp only at hS)
                refine wpT_take 0 (v := ?_) rfl (by kernel_rfl) (by kernel_rfl) (fun _ _ _ h => h) hS (Or.inl ⟨rfl, ?_⟩) ?_
                rotate_left
                · (intro w' hSw; (try dsimp only at hSw); go_simp; first | done | with_reducible rfl)
                (try simp only [Act.put, List.setIfInBounds_toArray, List.set_cons_zero, List.set_cons_succ])
                refine wpT_take 1 (v := ?_) rfl (by kernel_rfl) (by kernel_rfl) (fun _ _ _ h => h) hS (Or.inl ⟨rfl, ?_⟩) ?_
                rotate_left
                · (intro w' hSw; (try dsimp only at hSw); go_simp; first | done | with_reducible rfl)
                (try simp only [Act.put, List.setIfInBounds_toArray, List.set_cons_zero, List.set_cons_succ])
                refine wpT_take 2 (v := ?_) rfl (by kernel_rfl) (by kernel_rfl) (fun _ _ _ h => h) hS (Or.inl ⟨rfl, ?_⟩) ?_
                rotate_left
                · (intro w' hSw; (try dsimp only at hSw); go_simp; first | done | with_reducible rfl)
                (try simp only [Act.put, List.setIfInBounds_toArray, List.set_cons_zero, List.set_cons_succ])
                refine wpT_take 3 (v := ?_) rfl (by kernel_rfl) (by kernel_rfl) (fun _ _ _ h => h) hS (Or.inl ⟨rfl, ?_⟩) ?_
                rotate_left
                · (intro w' hSw; (try dsimp only at hSw); go_simp; first | done | with_reducible rfl)
                (try simp only [Act.put, List.setIfInBounds_toArray, List.set_cons_zero, List.set_cons_succ])
                refine wpT_take 4 (v := ?_) rfl (by kernel_rfl) (by kernel_rfl) (fun _ _ _ h => h) hS (Or.inl ⟨rfl, ?_⟩) ?_
                rotate_left
                · (intro w' hSw; (try dsimp only at hSw); go_simp; first | done | with_reducible rfl)
                (try simp only [Act.put, List.setIfInBounds_toArray, List.set_cons_zero, List.set_cons_succ])
                refine wpT_take 5 (v := ?_) rfl (by kernel_rfl) (by kernel_rfl) (fun _ _ _ h => h) hS (Or.inl ⟨rfl, ?_⟩) ?_
                rotate_left
                · (intro w' hSw; (try dsimp only at hSw); go_simp; first | done | with_reducible rfl)
                (try simp only [Act.put, List.setIfInBounds_toArray, List.set_cons_zero, List.set_cons_succ])
                refine wpT_take 6 (v := ?_) rfl (by kernel_rfl) (by kernel_rfl) (fun _ _ _ h => h) hS (Or.inl ⟨rfl, ?_⟩) ?_
                rotate_left
                · (intro w' hSw; (try dsimp only at hSw); go_simp; first | done | with_reducible rfl)
                (try simp only [Act.put, List.setIfInBounds_toArray, List.set_cons_zero, List.set_cons_succ])
                refine wpT_take 7 (v := ?_) rfl (by kernel_rfl) (by kernel_rfl) (fun _ _ _ h => h) hS (Or.inl ⟨rfl, ?_⟩) ?_
                rotate_left
                · (intro w' hSw; (try dsimp only at hSw); go_simp; first | done | with_reducible rfl)
                (try simp only [Act.put, List.setIfInBounds_toArray, List.set_cons_zero, List.set_cons_succ])
                refine wpT_take 8 (v := ?_) rfl (by kernel_rfl) (by kernel_rfl) (fun _ _ _ h => h) hS (Or.inl ⟨rfl, ?_⟩) ?_
                rotate_left
                · (intro w' hSw; (try dsimp only at hSw); go_simp; first | done | with_reducible rfl)
                (try simp only [Act.put, List.setIfInBounds_toArray, List.set_cons_zero, List.set_cons_succ])
                refine wpT_one 9 rfl (by kernel_rfl) (fun K hK => ?_)
                go_simp
                go_at_call 28
                refine (CS.out _ ((hrB.below hS.2 (Nat.le_refl _)).more hS.2.size) ((hrU.below hS.2 (Nat.le_refl _)).more hS.2.size)).mono ?_
                rintro e w8 ⟨hb8, rfl⟩
                dsimp only
                have hbS := hS.2.trans (hb8.mono hS.2.size)
                refine hK.out _ _ ?_ (fun hS => ?_)
                · (try dsimp only)
                  exact sb_of hbS
                clear hK K
                (try simp only [Act.put, List.setIfInBounds_toArray, List.set_cons_zero, List.set_cons_succ])
                (try dsimp only at hS)
                refine wpT_take 10 (v := ?_) rfl (by kernel_rfl) (by kernel_rfl) (fun _ _ _ h => h) hS (Or.inl ⟨rfl, ?_⟩) ?_
                rotate_left
                · (intro w' hSw; (try dsimp only at hSw); go_simp; first | done | with_reducible rfl)
                (try simp only [Act.put, List.setIfInBounds_toArray, List.set_cons_zero, List.set_cons_succ])
                refine wpT_take 11 (v := ?_) rfl (by kernel_rfl) (by kernel_rfl) (fun _ _ _ h => h) hS (Or.inl ⟨rfl, ?_⟩) ?_
                rotate_left
                · (intro w' hSw; (try dsimp only at hSw); go_simp; first | done | with_reducible rfl)
                (try simp only [Act.put, List.setIfInBounds_toArray, List.set_cons_zero, List.set_cons_succ])
                refine wpT_take 12 (v := ?_) rfl (by kernel_rfl) (by kernel_rfl) (fun _ _ _ h => h) hS (Or.inl ⟨rfl, ?_⟩) ?_
                rotate_left
                · (intro w' hSw; (try dsimp only at hSw); go_simp; first | done | with_reducible rfl)
                (try simp only [Act.put, List.setIfInBounds_toArray, List.set_cons_zero, List.set_cons_succ])
                refine wpT_take 13 (v := ?_) rfl (by kernel_rfl) (by kernel_rfl) (fun _ _ _ h => h) hS (Or.inl ⟨rfl, ?_⟩) ?_
                rotate_left
                · (intro w' hSw; (try dsimp only at hSw); go_simp; first | done | with_reducible rfl)
                (try simp only [Act.put, List.setIfInBounds_toArray, List.set_cons_zero, List.set_cons_succ])
                refine wpT_tail (by rfl) (by kernel_rfl) ?_
                (try simp only [List.drop_succ_cons, List.drop_zero])
                clear hS hb8 hbj
                go_upto_region 16 with fail
                refine wp_region_L 14 (fun w' => (∀ b o, b < W6.heap.size → w'.cell? ⟨b, o, none⟩ = W6.cell? ⟨b, o, none⟩) ∧ Below W6.heap.size W6 w') (by kernel_rfl) ?_ (fun Wd hWd hS => ?_)
                · (try dsimp only)
                  exact sb_of hbS.drew
                (try dsimp only at hS)
                refine wpT_take 0 (v := ?_) rfl (by kernel_rfl) (by kernel_rfl) (fun _ _ _ h => h) hS (Or.inl ⟨rfl, ?_⟩) ?_
                rotate_left
                · (intro w' hSw; (try dsimp only at hSw); go_simp; first | done | with_reducible rfl)
                (try simp only [Act.put, List.setIfInBounds_toArray, List.set_cons_zero, List.set_cons_succ])
                refine wpT_take 1 (v := ?_) rfl (by kernel_rfl) (by kernel_rfl) (fun _ _ _ h => h) hS (Or.inl ⟨rfl, ?_⟩) ?_
                rotate_left
                · (intro w' hSw; (try dsimp only at hSw); go_simp; first | done | with_reducible rfl)
                (try simp only [Act.put, List.setIfInBounds_toArray, List.set_cons_zero, List.set_cons_succ])
                refine wpT_take 2 (v := ?_) rfl (by kernel_rfl) (by kernel_rfl) (fun _ _ _ h => h) hS (Or.inl ⟨rfl, ?_⟩) ?_
                rotate_left
                · (intro w' hSw; (try dsimp only at hSw); go_simp; first | done | with_reducible rfl)
                (try simp only [Act.put, List.setIfInBounds_toArray, List.set_cons_zero, List.set_cons_succ])
                refine wpT_take 3 (v := ?_) rfl (by kernel_rfl) (by kernel_rfl) (fun _ _ _ h => h) hS (Or.inl ⟨rfl, ?_⟩) ?_
                rotate_left
                · (intro w' hSw; (try dsimp only at hSw); go_simp; first | done | with_reducible rfl)
                (try simp only [Act.put, List.setIfInBounds_toArray, List.set_cons_zero, List.set_cons_succ])
                refine wpT_take 4 (v := ?_) rfl (by kernel_rfl) (by kernel_rfl) (fun _ _ _ h => h) hS (Or.inl ⟨rfl, ?_⟩) ?_
                rotate_left
                · (intro w' hSw; (try dsimp only at hSw); go_simp; first | done | with_reducible rfl)
                (try simp only [Act.put, List.setIfInBounds_toArray, List.set_cons_zero, List.set_cons_succ])
                refine wpT_take 5 (v := ?_) rfl (by kernel_rfl) (by kernel_rfl) (fun _ _ _ h => h) hS (Or.inl ⟨rfl, ?_⟩) ?_
                rotate_left
                · (intro w' hSw; (try dsimp only at hSw); go_simp; first | done | with_reducible rfl)
                (try simp only [Act.put, List.setIfInBounds_toArray, List.set_cons_zero, List.set_cons_succ])
                refine wpT_take 6 (v := ?_) rfl (by kernel_rfl) (by kernel_rfl) (fun _ _ _ h => h) hS (Or.inl ⟨rfl, ?_⟩) ?_
                rotate_left
                · (intro w' hSw; (try dsimp only at hSw); go_simp; first | done | with_reducible rfl)
                (try simp only [Act.put, List.setIfInBounds_toArray, List.set_cons_zero, List.set_cons_succ])
                refine wpT_take 7 (v := ?_) rfl (by kernel_rfl) (by kernel_rfl) (fun _ _ _ h => h) hS (Or.inl ⟨rfl, ?_⟩) ?_
                rotate_left
                · (intro w' hSw; (try dsimp only at hSw); go_simp; first | done | with_reducible rfl)
                (try simp only [Act.put, List.setIfInBounds_toArray, List.set_cons_zero, List.set_cons_succ])
                refine wpT_take 8 (v := ?_) rfl (by kernel_rfl) (by kernel_rfl) (fun _ _ _ h => h) hS (Or.inl ⟨rfl, ?_⟩) ?_
                rotate_left
                · (intro w' hSw; (try dsimp only at hSw); go_simp; first | done | with_reducible rfl)
                (try simp only [Act.put, List.setIfInBounds_toArray, List.set_cons_zero, List.set_cons_succ])
                refine wpT_one 9 rfl (by kernel_rfl) (fun K hK => ?_)
                go_simp
                go_at_call 29
                refine (CR.out _ ((hrB.below hS.2 (Nat.le_refl _)).more hS.2.size) ((hrU.below hS.2 (Nat.le_refl _)).more hS.2.size)).mono ?_
                rintro e w9 ⟨hb9, rfl⟩
                dsimp only
                have hbS := hS.2.trans (hb9.mono hS.2.size)
                refine hK.out _ _ ?_ (fun hS => ?_)
                · (try dsimp only)
                  exact sb_of hbS
                clear hK K
                (try simp only [Act.put, List.setIfInBounds_toArray, List.set_cons_zero, List.set_cons_succ])
                (try dsimp only at hS)
                refine wpT_take 10 (v := ?_) rfl (by kernel_rfl) (by kernel_rfl) (fun _ _ _ h => h) hS (Or.inl ⟨rfl, ?_⟩) ?_
                rotate_left
                · (intro w' hSw; (try dsimp only at hSw); go_simp; first | done | with_reducible rfl)
                (try simp only [Act.put, List.setIfInBounds_toArray, List.set_cons_zero, List.set_cons_succ])
                refine wpT_take 11 (v := ?_) rfl (by kernel_rfl) (by kernel_rfl) (fun _ _ _ h => h) hS (Or.inl ⟨rfl, ?_⟩) ?_
                rotate_left
                · (intro w' hSw; (try dsimp only at hSw); go_simp; first | done | with_reducible rfl)
                (try simp only [Act.put, List.setIfInBounds_toArray, List.set_cons_zero, List.set_cons_succ])
                refine wpT_take 12 (v := ?_) rfl (by kernel_rfl) (by kernel_rfl) (fun _ _ _ h => h) hS (Or.inl ⟨rfl, ?_⟩) ?_
                rotate_left
                · (intro w' hSw; (try dsimp only at hSw); go_simp; first | done | with_reducible rfl)
                (try simp only [Act.put, List.setIfInBounds_toArray, List.set_cons_zero, List.set_cons_succ])
                refine wpT_take 13 (v := ?_) rfl (by kernel_rfl) (by kernel_rfl) (fun _ _ _ h => h) hS (Or.inl ⟨rfl, ?_⟩) ?_
                rotate_left
                · (intro w' hSw; (try dsimp only at hSw); go_simp; first | done | with_reducible rfl)
                (try simp only [Act.put, List.setIfInBounds_toArray, List.set_cons_zero, List.set_cons_succ])
                refine wpT_tail (by rfl) (by kernel_rfl) ?_
                (try simp only [List.drop_succ_cons, List.drop_zero])
                go_wp2
                go_roundw
                case rel => exact ⟨j + 1, by omega, by go_num, hbS⟩
                case measure => simp [intOf]; omega
              · go_wp2
                go_roundw
                case rel => exact ⟨i + 1, by omega, by go_num, hbj⟩
                case measure => simp [intOf]; omega
          · go_wp2
            go_roundw
            case rel => exact ⟨t + 1, by omega, by go_num, hbi⟩
            case measure => simp [intOf]; omega
      · go_wp2
        go_ret
        exact ⟨rfl, by rw [HP.out]; exact hlow.trans (hbr.mono hsz6)⟩
end Go.Proofs.Ytlanefdeeanpnaa
