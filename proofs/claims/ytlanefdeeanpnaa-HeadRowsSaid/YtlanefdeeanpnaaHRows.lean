/-
  The law HeadRows: for every argument the call returns true. Conditions: the lists' lengths fit an int, and they are read below the heap's size. (Printed by genhrows.py.)
-/
import Derived.Test.YtlanefdeeanpnaaHMade
import Derived.Test.YtlanefdeeanpnaaSane37
import Derived.Test.YtlanefdeeanpnaaMath37b
import Derived.Deep.DrawnRows
namespace Go.Proofs.Ytlanefdeeanpnaa
set_option linter.unusedVariables false
set_option linter.unusedSimpArgs false
open Go.RowKit
attribute [local go_sem ↓] Go.wp_at_zero Go.wp_at_succ

theorem get_print {m n x i j : Nat} {D Dead : List Bool} (hm : m ≤ 96) (hn : n ≤ 96) (hD : D.length = m * n) (hi : i < m) (hj : j < n) : getB m n (printL m x D Dead) i j = (D.getD (j * m + i) false && !Dead.getD (x + j) false) := by
  have h1 := bm_val hm hn ((printL_len m x D Dead).trans hD)
  rw [getB_nat h1 hi hj, printL_get (by rw [hD]; exact row_lt hj hi), row_div hi]

set_option maxHeartbeats 4000000 in
set_option maxRecDepth 100000 in
theorem hrows_law (L1 L2 : List Int) (A1 A2 : Option Addr) (c1 c2 : Nat) (k : Int) (w : World) (hn1 : L1.length ≤ 9223372036854775807) (hn2 : L2.length ≤ 9223372036854775807) (hk1 : -9223372036854775808 ≤ k) (hk2 : k ≤ 9223372036854775807)
    (hr1 : Rd (Value.int .i64) w w.heap.size A1 L1) (hr2 : Rd (Value.int .i64) w w.heap.size A2 L2) :
    Calls Try.prog 10 #[.agg #[.slice A1 L1.length c1, .slice A2 L2.length c2], .int .i64 k] w fun e w' => e = .returned (.bool true) ∧ Below w.heap.size w w' := by
  have HR1 := Lib.hid hr1
  have HR2 := Lib.hid hr2
  clear hr1 hr2
  go_enter Try.func10, Try.ntmps10
  go_wp2_with fail
  refine calls_world (fun W0 hW0 => ?_)
  obtain ⟨T0, hs0, _⟩ := (Tr.start w).new1 hW0
  clear hW0
  generalize hp : w.heap.size = p at *
  have HP := Lib.hid hp
  clear hp
  refine (sanity37 _).mono ?_
  rintro e w1 ⟨rfl, hb1⟩
  have T1 := T0.call hb1
  clear T0 hb1 hs0
  obtain ⟨⟨b0, b1⟩, _⟩ := T1.stand.1.two
  go_wp2_with fail
  refine (HMade_any L1 A1 c1 _ hn1 (T1.rd HR1.out)).mono ?_
  rintro e w2 ⟨g1, rfl, hg1, hl1, hO1, hb2⟩
  have T2 := (T1.call hb2).push hO1.blk
  clear T1 hb2 hO1 b0 b1
  go_upto_region 3 with fail
  refine wp_world (fun W3 hW3 => ?_)
  obtain ⟨T3, hs3, _⟩ := T2.new1 hW3
  clear hW3 T2 hs3
  generalize hq : w2.heap.size = q at *
  clear hq
  have z3 := T3.stand.1.lt
  obtain ⟨⟨b0, b1⟩, _⟩ := T3.stand.2.2.1.two
  have z0 := T3.stand.2.2.1.lt
  go_wp2_with fail
  refine (Made_any L2 A2 c2 _ hn2 (T3.rd HR2.out)).mono ?_
  rintro e w4 ⟨g2, rfl, hg2, hl2, hO2, hb4⟩
  have T4 := (T3.call hb4).push hO2.blk
  clear T3 hb4 hO2 b0 b1 z0 z3
  go_upto_region 4 with fail
  refine wp_world (fun W5 hW5 => ?_)
  obtain ⟨T5, hs5, _⟩ := T4.new1 hW5
  clear hW5 T4 hs5
  generalize hq4 : w4.heap.size = q4 at *
  clear hq4
  have hm := mkW_le L2
  have hn := mkH_le L2
  have hL := hmN_le L1
  have hD := mkD_len L2
  have hDl := hmD_len L1
  have HMD := Lib.hid (fun w h => Made_any L2 A2 c2 w hn2 h)
  generalize mkD L2 = D at *
  generalize mkW L2 = m at *
  generalize mkH L2 = n at *
  generalize hmD L1 = Dead at *
  generalize hmN L1 = L at *
  have hmn : m * n ≤ 192 := Nat.mul_le_mul hm hn
  have hrD : Rd Value.bool W5 W5.heap.size (some ⟨g2, 0, none⟩) D := (T5.stand.2.1.own (f := Value.bool)).rd T5.stand.2.1.lt
  have hrH : Rd Value.bool W5 W5.heap.size (some ⟨g1, 0, none⟩) Dead := (T5.stand.2.2.2.1.own (f := Value.bool)).rd T5.stand.2.2.2.1.lt
  obtain ⟨⟨b0, b1, b2⟩, _⟩ := T5.stand.1.three
  have d0 : W5.cell? ⟨q, 0, none⟩ = some (.slice (some ⟨g1, 0, none⟩) L L) := T5.stand.2.2.1.cell 0
  have zb := T5.stand.1.lt
  have zq := T5.stand.2.2.1.lt
  have CM := Lib.hid (fun w => Mod_any k ((L : Int) + 1) w (by omega) (by omega))
  obtain ⟨x, hx⟩ := Int.eq_ofNat_of_zero_le (Int.emod_nonneg k (show (L : Int) + 1 ≠ 0 by omega))
  have hxL : k % ((L : Int) + 1) < (L : Int) + 1 := Int.emod_lt_of_pos _ (by omega)
  rw [hx] at CM hxL
  clear hx
  have hxL' : x ≤ L := by omega
  clear hxL
  go_wp2_with fail
  refine (CM.out _).mono ?_
  rintro e w6 ⟨rfl, rfl⟩
  have CP := head_Print_any m n x (m * n) L (some ⟨g2, 0, none⟩) (some ⟨g1, 0, none⟩) D Dead W5 (by omega)
  rw [hD, hDl] at CP
  unfold PrOut at CP
  by_cases hin : x + n ≤ L
  · obtain ⟨p1, p2, p3, p4⟩ := pr_in (x := x) (m := m) (n := n) (D := D) (Dead := Dead) (by omega) (by omega) hD (by omega) (by omega) (by omega)
    rw [p1, p2, p3, p4, (printL_len m x D Dead).trans hD] at CP
    have CPT := Lib.hid CP
    have CC := Lib.hid (fun A c w => bitmap_Check m n A (m * n) c w (by omega))
    rw [bm_val (by omega) (by omega) rfl] at CC
    have hPL := (printL_len m x D Dead).trans hD
    have G1 := Lib.hid (fun A c (i j : Nat) (hi : i < m) (hj : j < n) w h => bitmap_Get m n A c (printL m x D Dead) i j w (by omega) h)
    have G2 := Lib.hid (fun (i j : Nat) (hi : i < m) (hj : j < n) w h => bitmap_Get m n (some ⟨g2, 0, none⟩) (m * n) D i j w (by omega) h)
    rw [hPL] at G1
    rw [hD] at G2
    have HG1 := Lib.hid (fun (i j : Nat) (hi : i < m) (hj : j < n) => get_print (x := x) (Dead := Dead) (show m ≤ 96 by omega) (show n ≤ 96 by omega) hD hi hj)
    have HG2 := Lib.hid (fun (i j : Nat) (hi : i < m) (hj : j < n) => getB_nat (D := D) (bm_val (show m ≤ 96 by omega) (show n ≤ 96 by omega) hD) hi hj)
    have HDE := Lib.hid (fun j (h : j < Dead.length) => (T5.stand.2.2.2.1.own (f := Value.bool)).cell h)
    have zg1 := T5.stand.2.2.2.1.lt
    clear p1 p2 p3 p4 CP hPL
    have hin' : ¬ (L : Int) < (x : Int) + (n : Int) := by omega
    have HRD := Lib.hid hrD
    have HRH := Lib.hid hrH
    clear hrD hrH
    go_wp2_with fail
    refine (CPT.out HRD.out HRH.out).mono ?_
    rintro e w7 ⟨A', c', rfl, hr7, hb7⟩
    have T7 := T5.call hb7
    go_upto_region 6 with fail
    refine wp_world (fun W8 hW8 => ?_)
    obtain ⟨T8, hs8, hb8⟩ := T7.new1 hW8
    clear hW8
    have hbe : Below W5.heap.size W5 W8 := hb7.trans (hb8.mono hb7.size)
    have hr8 := (hr7.below hb8 (Nat.le_refl _)).more hb8.size
    generalize hq7 : w7.heap.size = q7 at *
    have zq7 := T8.stand.1.lt
    clear hq7 hs8
    have hrD8 := (HRD.out.below hbe (Nat.le_refl _)).more hbe.size
    have HDE8 := Lib.hid (fun j (h : j < Dead.length) => (hbe.cell (p := ⟨g1, j, none⟩) zg1).trans (HDE.out j h))
    have zg8 : g1 < W8.heap.size := by have := hbe.size; omega
    clear zg1 zb zq b0 b1 b2 d0 hb7 hb8 hr7 T7 T5 HDE HRD HRH
    obtain ⟨⟨u0, u1, u2⟩, _⟩ := T8.stand.1.three
    obtain ⟨⟨b0, b1, b2⟩, _⟩ := T8.stand.2.1.three
    obtain ⟨⟨l0, l1⟩, _⟩ := T8.stand.2.2.2.2.2.1.two
    have d0 : W8.cell? ⟨q, 0, none⟩ = some (.slice (some ⟨g1, 0, none⟩) L L) := T8.stand.2.2.2.1.cell 0
    have zb := T8.stand.2.1.lt
    have zq := T8.stand.2.2.2.1.lt
    have zp := T8.stand.2.2.2.2.2.1.lt
    have hrl2 := T8.rd HR2.out
    have hlow := T8.low
    have hsz8 := T8.size
    clear T8 HR1 HR2 hg1 hg2 hl1 hl2
    go_upto_region 8 with fail
    go_wp2_with fail
    refine (CC.out _ _ _).mono ?_
    rintro e w9 ⟨rfl, hb9⟩
    have hc9 := (sb_of hb9).1
    go_wp2_with fail
    go_loopw [10, 11] (fun s10 _ wr => ∃ j : Nat, j ≤ n ∧ s10 = .int .i64 j ∧ Below W8.heap.size W8 wr) (fun s10 _ _ => n - (intOf s10).toNat)
    case atStart => exact ⟨0, Nat.zero_le _, rfl, hb9⟩
    case round =>
      clear hb9 hc9
      obtain ⟨j, hj, rfl, hbr⟩ := hrel
      have hcr := (sb_of hbr).1
      by_cases hjn : j < n
      · have hjn' : (j : Int) < (n : Int) := by omega
        go_wp2_with fail
        go_loopw [11] (fun s11 wr => ∃ i : Nat, i ≤ m ∧ s11 = .int .i64 i ∧ Below W8.heap.size W8 wr) (fun s11 _ => m - (intOf s11).toNat)
        case atStart => exact ⟨0, Nat.zero_le _, rfl, hbr⟩
        case round =>
          clear hbr hcr
          obtain ⟨i, hi, rfl, hbr⟩ := hrel
          have hcr := (sb_of hbr).1
          by_cases him : i < m
          · have him' : (i : Int) < (m : Int) := by omega
            have hxj : x + j < Dead.length := by omega
            have hxj2 : x + j < L := by omega
            have hcd := HDE8.out _ hxj
            have hgd : Dead.getD (x + j) false = Dead[x + j] := by rw [List.getD_eq_getElem?_getD, List.getElem?_eq_getElem hxj]; rfl
            have e1 := HG1.out i j him hjn
            have e2 := HG2.out i j him hjn
            have Q1 := Lib.hid (fun A c w h => G1.out A c i j him hjn w h)
            have Q2 := Lib.hid (fun w h => G2.out i j him hjn w h)
            rw [e1, hgd] at Q1
            rw [e2] at Q2
            clear e1 e2 hgd
            generalize D.getD (j * m + i) false = d at Q1 Q2
            generalize Dead[x + j] = dd at *
            clear hxj
            obtain ⟨r, hr⟩ : ∃ r : Nat, r = x + j := ⟨_, rfl⟩
            have hwr : IntKind.i64.wrap ((x : Int) + (j : Int)) = (r : Int) := by rw [hr, Int.natCast_add]; exact IntWalk.i64_in _ (by omega)
            rw [← hr] at hcd hxj2
            have hxj3 : (r : Int) < (L : Int) := by omega
            clear hr
            go_upto_region 16 with fail
            cases d with
            | false =>
              rw [Bool.false_and] at Q1
              refine wp_region_L 18 (fun w' => (∀ b o, b < W8.heap.size → w'.cell? ⟨b, o, none⟩ = W8.cell? ⟨b, o, none⟩) ∧ Below W8.heap.size W8 w') (by kernel_rfl) ?_ (fun Wd hWd hS => ?_)
              · (try dsimp only)
                exact sb_of hbr.drew
              (try dsimp only at hS)
              refine wpT_take 0 (v := ?_) rfl (by kernel_rfl) (by kernel_rfl) (fun _ _ _ h => h) hS (Or.inl ⟨rfl, ?_⟩) ?_
              rotate_left
              · (intro w' hSw; (try dsimp only at hSw); go_simp; first | done | with_reducible rfl)
              (try simp only [Act.put, List.setIfInBounds_toArray, List.set_cons_zero, List.set_cons_succ])
              refine wpT_take 1 (v := ?_) rfl (by kernel_rfl) (by kernel_rfl) (fun _ _ _ h => h) hS (Or.inl ⟨rfl, ?_⟩) ?_
              rotate_left
              · (intro w' hSw; (try dsimp only at hSw); go_simp; first | done | with_reducible rfl)
              (try simp only [Act.put, List.setIfInBounds_toArray, List.set_cons_zero, List.set_cons_succ])
              refine wpT_take 2 (v := ?_) rfl (by kernel_rfl) (by kernel_rfl) (fun _ _ _ h => h) hS (Or.inl ⟨rfl, ?_⟩) ?_
              rotate_left
              · (intro w' hSw; (try dsimp only at hSw); go_simp; first | done | with_reducible rfl)
              (try simp only [Act.put, List.setIfInBounds_toArray, List.set_cons_zero, List.set_cons_succ])
              refine wpT_take 4 (v := ?_) rfl (by kernel_rfl) (by kernel_rfl) (fun _ _ _ h => h) hS (Or.inl ⟨rfl, ?_⟩) ?_
              rotate_left
              · (intro w' hSw; (try dsimp only at hSw); go_simp; first | done | with_reducible rfl)
              (try simp only [Act.put, List.setIfInBounds_toArray, List.set_cons_zero, List.set_cons_succ])
              refine wpT_take 5 (v := ?_) rfl (by kernel_rfl) (by kernel_rfl) (fun _ _ _ h => h) hS (Or.inl ⟨rfl, ?_⟩) ?_
              rotate_left
              · (intro w' hSw; (try dsimp only at hSw); go_simp; first | done | with_reducible rfl)
              (try simp only [Act.put, List.setIfInBounds_toArray, List.set_cons_zero, List.set_cons_succ])
              refine wpT_take 6 (v := ?_) rfl (by kernel_rfl) (by kernel_rfl) (fun _ _ _ h => h) hS (Or.inl ⟨rfl, ?_⟩) ?_
              rotate_left
              · (intro w' hSw; (try dsimp only at hSw); go_simp; first | done | with_reducible rfl)
              (try simp only [Act.put, List.setIfInBounds_toArray, List.set_cons_zero, List.set_cons_succ])
              refine wpT_one 3 rfl (by kernel_rfl) (fun K hK => ?_)
              go_simp
              go_at_call 33
              refine (Q1.out _ _ _ ((hr8.below hS.2 (Nat.le_refl _)).more hS.2.size)).mono ?_
              rintro e wa ⟨rfl, hba⟩
              have hbS := hS.2.trans (hba.mono hS.2.size)
              refine hK.out _ _ ?_ (fun hS => ?_)
              · (try dsimp only)
                exact sb_of hbS
              clear hK K
              (try simp only [Act.put, List.setIfInBounds_toArray, List.set_cons_zero, List.set_cons_succ])
              (try dsimp only at hS)
              refine wpT_one 7 rfl (by kernel_rfl) (fun K hK => ?_)
              go_simp
              go_at_call 33
              refine (Q2.out _ ((hrD8.below hS.2 (Nat.le_refl _)).more hS.2.size)).mono ?_
              rintro e wb ⟨rfl, hbb⟩
              have hbS := hS.2.trans (hbb.mono hS.2.size)
              refine hK.out _ _ ?_ (fun hS => ?_)
              · (try dsimp only)
                exact sb_of hbS
              clear hK K
              (try simp only [Act.put, List.setIfInBounds_toArray, List.set_cons_zero, List.set_cons_succ])
              (try dsimp only at hS)
              refine wpT_take 8 (v := ?_) rfl (by kernel_rfl) (by kernel_rfl) (fun _ _ _ h => h) hS (Or.inl ⟨rfl, ?_⟩) ?_
              rotate_left
              · (intro w' hSw; (try dsimp only at hSw); go_simp; first | done | with_reducible rfl)
              (try simp only [Act.put, List.setIfInBounds_toArray, List.set_cons_zero, List.set_cons_succ])
              refine wpT_take 9 rfl (by kernel_rfl) (by kernel_rfl) (fun _ _ _ h => h) hS (Or.inr ⟨rfl, rfl⟩) ?_
              (try simp only [Act.put, List.setIfInBounds_toArray, List.set_cons_zero, List.set_cons_succ])
              refine wpT_take 10 rfl (by kernel_rfl) (by kernel_rfl) (fun _ _ _ h => h) hS (Or.inr ⟨rfl, rfl⟩) ?_
              (try simp only [Act.put, List.setIfInBounds_toArray, List.set_cons_zero, List.set_cons_succ])
              refine wpT_take 11 rfl (by kernel_rfl) (by kernel_rfl) (fun _ _ _ h => h) hS (Or.inr ⟨rfl, rfl⟩) ?_
              (try simp only [Act.put, List.setIfInBounds_toArray, List.set_cons_zero, List.set_cons_succ])
              refine wpT_take 12 rfl (by kernel_rfl) (by kernel_rfl) (fun _ _ _ h => h) hS (Or.inr ⟨rfl, rfl⟩) ?_
              (try simp only [Act.put, List.setIfInBounds_toArray, List.set_cons_zero, List.set_cons_succ])
              refine wpT_take 13 rfl (by kernel_rfl) (by kernel_rfl) (fun _ _ _ h => h) hS (Or.inr ⟨rfl, rfl⟩) ?_
              (try simp only [Act.put, List.setIfInBounds_toArray, List.set_cons_zero, List.set_cons_succ])
              refine wpT_take 14 rfl (by kernel_rfl) (by kernel_rfl) (fun _ _ _ h => h) hS (Or.inr ⟨rfl, rfl⟩) ?_
              (try simp only [Act.put, List.setIfInBounds_toArray, List.set_cons_zero, List.set_cons_succ])
              refine wpT_take 15 rfl (by kernel_rfl) (by kernel_rfl) (fun _ _ _ h => h) hS (Or.inr ⟨rfl, rfl⟩) ?_
              (try simp only [Act.put, List.setIfInBounds_toArray, List.set_cons_zero, List.set_cons_succ])
              refine wpT_take 16 rfl (by kernel_rfl) (by kernel_rfl) (fun _ _ _ h => h) hS (Or.inr ⟨rfl, rfl⟩) ?_
              (try simp only [Act.put, List.setIfInBounds_toArray, List.set_cons_zero, List.set_cons_succ])
              refine wpT_take 17 (v := ?_) rfl (by kernel_rfl) (by kernel_rfl) (fun _ _ _ h => h) hS (Or.inl ⟨rfl, ?_⟩) ?_
              rotate_left
              · (intro w' hSw; (try dsimp only at hSw); go_simp; first | done | with_reducible rfl)
              (try simp only [Act.put, List.setIfInBounds_toArray, List.set_cons_zero, List.set_cons_succ])
              refine wpT_tail (by rfl) (by kernel_rfl) ?_
              (try simp only [List.drop_succ_cons, List.drop_zero])
              have hbz := hS.2
              clear hcr hbr hba hbb hWd hS
              go_wp2_with fail
              go_roundw
              case rel => exact ⟨i + 1, by omega, by go_num, hbz⟩
              case measure => simp [intOf]; omega
            | true =>
              rw [Bool.true_and] at Q1
              refine wp_region_L 18 (fun w' => (∀ b o, b < W8.heap.size → w'.cell? ⟨b, o, none⟩ = W8.cell? ⟨b, o, none⟩) ∧ Below W8.heap.size W8 w') (by kernel_rfl) ?_ (fun Wd hWd hS => ?_)
              · (try dsimp only)
                exact sb_of hbr.drew
              (try dsimp only at hS)
              refine wpT_take 0 (v := ?_) rfl (by kernel_rfl) (by kernel_rfl) (fun _ _ _ h => h) hS (Or.inl ⟨rfl, ?_⟩) ?_
              rotate_left
              · (intro w' hSw; (try dsimp only at hSw); go_simp; first | done | with_reducible rfl)
              (try simp only [Act.put, List.setIfInBounds_toArray, List.set_cons_zero, List.set_cons_succ])
              refine wpT_take 1 (v := ?_) rfl (by kernel_rfl) (by kernel_rfl) (fun _ _ _ h => h) hS (Or.inl ⟨rfl, ?_⟩) ?_
              rotate_left
              · (intro w' hSw; (try dsimp only at hSw); go_simp; first | done | with_reducible rfl)
              (try simp only [Act.put, List.setIfInBounds_toArray, List.set_cons_zero, List.set_cons_succ])
              refine wpT_take 2 (v := ?_) rfl (by kernel_rfl) (by kernel_rfl) (fun _ _ _ h => h) hS (Or.inl ⟨rfl, ?_⟩) ?_
              rotate_left
              · (intro w' hSw; (try dsimp only at hSw); go_simp; first | done | with_reducible rfl)
              (try simp only [Act.put, List.setIfInBounds_toArray, List.set_cons_zero, List.set_cons_succ])
              refine wpT_take 4 (v := ?_) rfl (by kernel_rfl) (by kernel_rfl) (fun _ _ _ h => h) hS (Or.inl ⟨rfl, ?_⟩) ?_
              rotate_left
              · (intro w' hSw; (try dsimp only at hSw); go_simp; first | done | with_reducible rfl)
              (try simp only [Act.put, List.setIfInBounds_toArray, List.set_cons_zero, List.set_cons_succ])
              refine wpT_take 5 (v := ?_) rfl (by kernel_rfl) (by kernel_rfl) (fun _ _ _ h => h) hS (Or.inl ⟨rfl, ?_⟩) ?_
              rotate_left
              · (intro w' hSw; (try dsimp only at hSw); go_simp; first | done | with_reducible rfl)
              (try simp only [Act.put, List.setIfInBounds_toArray, List.set_cons_zero, List.set_cons_succ])
              refine wpT_take 6 (v := ?_) rfl (by kernel_rfl) (by kernel_rfl) (fun _ _ _ h => h) hS (Or.inl ⟨rfl, ?_⟩) ?_
              rotate_left
              · (intro w' hSw; (try dsimp only at hSw); go_simp; first | done | with_reducible rfl)
              (try simp only [Act.put, List.setIfInBounds_toArray, List.set_cons_zero, List.set_cons_succ])
              refine wpT_one 3 rfl (by kernel_rfl) (fun K hK => ?_)
              go_simp
              go_at_call 33
              refine (Q1.out _ _ _ ((hr8.below hS.2 (Nat.le_refl _)).more hS.2.size)).mono ?_
              rintro e wa ⟨rfl, hba⟩
              have hbS := hS.2.trans (hba.mono hS.2.size)
              refine hK.out _ _ ?_ (fun hS => ?_)
              · (try dsimp only)
                exact sb_of hbS
              clear hK K
              (try simp only [Act.put, List.setIfInBounds_toArray, List.set_cons_zero, List.set_cons_succ])
              (try dsimp only at hS)
              refine wpT_one 7 rfl (by kernel_rfl) (fun K hK => ?_)
              go_simp
              go_at_call 33
              refine (Q2.out _ ((hrD8.below hS.2 (Nat.le_refl _)).more hS.2.size)).mono ?_
              rintro e wb ⟨rfl, hbb⟩
              have hbS := hS.2.trans (hbb.mono hS.2.size)
              refine hK.out _ _ ?_ (fun hS => ?_)
              · (try dsimp only)
                exact sb_of hbS
              clear hK K
              (try simp only [Act.put, List.setIfInBounds_toArray, List.set_cons_zero, List.set_cons_succ])
              (try dsimp only at hS)
              refine wpT_take 8 (v := ?_) rfl (by kernel_rfl) (by kernel_rfl) (fun _ _ _ h => h) hS (Or.inl ⟨rfl, ?_⟩) ?_
              rotate_left
              · (intro w' hSw; (try dsimp only at hSw); go_simp; first | done | with_reducible rfl)
              (try simp only [Act.put, List.setIfInBounds_toArray, List.set_cons_zero, List.set_cons_succ])
              refine wpT_take 9 (v := ?_) rfl (by kernel_rfl) (by kernel_rfl) (fun _ _ _ h => h) hS (Or.inl ⟨rfl, ?_⟩) ?_
              rotate_left
              · (intro w' hSw; (try dsimp only at hSw); go_simp; first | done | with_reducible rfl)
              (try simp only [Act.put, List.setIfInBounds_toArray, List.set_cons_zero, List.set_cons_succ])
              refine wpT_take 10 (v := ?_) rfl (by kernel_rfl) (by kernel_rfl) (fun _ _ _ h => h) hS (Or.inl ⟨rfl, ?_⟩) ?_
              rotate_left
              · (intro w' hSw; (try dsimp only at hSw); go_simp; first | done | with_reducible rfl)
              (try simp only [Act.put, List.setIfInBounds_toArray, List.set_cons_zero, List.set_cons_succ])
              refine wpT_take 11 (v := ?_) rfl (by kernel_rfl) (by kernel_rfl) (fun _ _ _ h => h) hS (Or.inl ⟨rfl, ?_⟩) ?_
              rotate_left
              · (intro w' hSw; (try dsimp only at hSw); go_simp; first | done | with_reducible rfl)
              (try simp only [Act.put, List.setIfInBounds_toArray, List.set_cons_zero, List.set_cons_succ])
              refine wpT_take 12 (v := ?_) rfl (by kernel_rfl) (by kernel_rfl) (fun _ _ _ h => h) hS (Or.inl ⟨rfl, ?_⟩) ?_
              rotate_left
              · (intro w' hSw; (try dsimp only at hSw); go_simp; first | done | with_reducible rfl)
              (try simp only [Act.put, List.setIfInBounds_toArray, List.set_cons_zero, List.set_cons_succ])
              refine wpT_take 13 (v := ?_) rfl (by kernel_rfl) (by kernel_rfl) (fun _ _ _ h => h) hS (Or.inl ⟨rfl, ?_⟩) ?_
              rotate_left
              · (intro w' hSw; (try dsimp only at hSw); go_simp; first | done | with_reducible rfl)
              (try simp only [Act.put, List.setIfInBounds_toArray, List.set_cons_zero, List.set_cons_succ])
              refine wpT_take 14 (v := ?_) rfl (by kernel_rfl) (by kernel_rfl) (fun _ _ _ h => h) hS (Or.inl ⟨rfl, ?_⟩) ?_
              rotate_left
              · (intro w' hSw; (try dsimp only at hSw); go_simp; first | done | with_reducible rfl)
              (try simp only [Act.put, List.setIfInBounds_toArray, List.set_cons_zero, List.set_cons_succ])
              refine wpT_take 15 (v := ?_) rfl (by kernel_rfl) (by kernel_rfl) (fun _ _ _ h => h) hS (Or.inl ⟨rfl, ?_⟩) ?_
              rotate_left
              · (intro w' hSw; (try dsimp only at hSw); go_simp; first | done | with_reducible rfl)
              (try simp only [Act.put, List.setIfInBounds_toArray, List.set_cons_zero, List.set_cons_succ])
              refine wpT_take 16 (v := ?_) rfl (by kernel_rfl) (by kernel_rfl) (fun _ _ _ h => h) hS (Or.inl ⟨rfl, ?_⟩) ?_
              rotate_left
              · (intro w' hSw; (try dsimp only at hSw); go_simp; first | done | with_reducible rfl)
              (try simp only [Act.put, List.setIfInBounds_toArray, List.set_cons_zero, List.set_cons_succ])
              refine wpT_take 17 (v := ?_) rfl (by kernel_rfl) (by kernel_rfl) (fun _ _ _ h => h) hS (Or.inl ⟨rfl, ?_⟩) ?_
              rotate_left
              · (intro w' hSw; (try dsimp only at hSw); go_simp; first | done | with_reducible rfl)
              (try simp only [Act.put, List.setIfInBounds_toArray, List.set_cons_zero, List.set_cons_succ])
              refine wpT_tail (by rfl) (by kernel_rfl) ?_
              (try simp only [List.drop_succ_cons, List.drop_zero])
              have hbz := hS.2
              clear hcr hbr hba hbb hWd hS
              cases dd <;> go_wp2_with fail
              all_goals (
                go_roundw
                case rel => exact ⟨i + 1, by omega, by go_num, hbz⟩
                case measure => simp [intOf]; omega)
          · have hie : i = m := by omega
            have him' : ¬ (i : Int) < (m : Int) := by omega
            go_wp2_with fail
            go_roundw
            case rel => exact ⟨j + 1, by omega, by go_num, hbr⟩
            case measure => simp [intOf]; omega
      · have hjn' : ¬ (j : Int) < (n : Int) := by omega
        have HMD2 := Lib.hid (HMD.out)
        have CS := Lib.hid (fun A c w h h' => ref04_Same m n (some ⟨g2, 0, none⟩) (m * n) D m n A c D w (by omega) (by omega) h h')
        rw [hD, show sameB m n D m n D = true from by simp [sameB]] at CS
        go_upto_region 18 with fail
        refine wp_region_L 8 (fun w' => (∀ b o, b < W8.heap.size → w'.cell? ⟨b, o, none⟩ = W8.cell? ⟨b, o, none⟩) ∧ Below W8.heap.size W8 w') (by kernel_rfl) ?_ (fun Wd hWd hS => ?_)
        · (try dsimp only)
          exact sb_of hbr.drew
        (try dsimp only at hS)
        refine wpT_take 0 (v := ?_) rfl (by kernel_rfl) (by kernel_rfl) (fun _ _ _ h => h) hS (Or.inl ⟨rfl, ?_⟩) ?_
        rotate_left
        · (intro w' hSw; (try dsimp only at hSw); go_simp; first | done | with_reducible rfl)
        (try simp only [Act.put, List.setIfInBounds_toArray, List.set_cons_zero, List.set_cons_succ])
        refine wpT_take 1 (v := ?_) rfl (by kernel_rfl) (by kernel_rfl) (fun _ _ _ h => h) hS (Or.inl ⟨rfl, ?_⟩) ?_
        rotate_left
        · (intro w' hSw; (try dsimp only at hSw); go_simp; first | done | with_reducible rfl)
        (try simp only [Act.put, List.setIfInBounds_toArray, List.set_cons_zero, List.set_cons_succ])
        refine wpT_take 2 (v := ?_) rfl (by kernel_rfl) (by kernel_rfl) (fun _ _ _ h => h) hS (Or.inl ⟨rfl, ?_⟩) ?_
        rotate_left
        · (intro w' hSw; (try dsimp only at hSw); go_simp; first | done | with_reducible rfl)
        (try simp only [Act.put, List.setIfInBounds_toArray, List.set_cons_zero, List.set_cons_succ])
        refine wpT_take 3 (v := ?_) rfl (by kernel_rfl) (by kernel_rfl) (fun _ _ _ h => h) hS (Or.inl ⟨rfl, ?_⟩) ?_
        rotate_left
        · (intro w' hSw; (try dsimp only at hSw); go_simp; first | done | with_reducible rfl)
        (try simp only [Act.put, List.setIfInBounds_toArray, List.set_cons_zero, List.set_cons_succ])
        refine wpT_take 4 (v := ?_) rfl (by kernel_rfl) (by kernel_rfl) (fun _ _ _ h => h) hS (Or.inl ⟨rfl, ?_⟩) ?_
        rotate_left
        · (intro w' hSw; (try dsimp only at hSw); go_simp; first | done | with_reducible rfl)
        (try simp only [Act.put, List.setIfInBounds_toArray, List.set_cons_zero, List.set_cons_succ])
        refine wpT_one 5 rfl (by kernel_rfl) (fun K hK => ?_)
        go_simp
        go_at_call 31
        refine (HMD.out _ ((hrl2.below hS.2 (Nat.le_refl _)).more hS.2.size)).mono ?_
        rintro e wa ⟨ga, rfl, hga, hla, hOa, hba⟩
        have hbS := hS.2.trans (hba.mono hS.2.size)
        refine hK.out _ _ ?_ (fun hS => ?_)
        · (try dsimp only)
          exact sb_of hbS
        clear hK K
        (try simp only [Act.put, List.setIfInBounds_toArray, List.set_cons_zero, List.set_cons_succ])
        (try dsimp only at hS)
        refine wpT_one 6 rfl (by kernel_rfl) (fun K hK => ?_)
        go_simp
        go_at_call 27
        refine (CS.out _ _ _ ((hrD8.below hS.2 (Nat.le_refl _)).more hS.2.size) (hOa.rd hOa.lt)).mono ?_
        rintro e wb ⟨rfl, hbb⟩
        have hbS := hS.2.trans (hbb.mono hS.2.size)
        refine hK.out _ _ ?_ (fun hS => ?_)
        · (try dsimp only)
          exact sb_of hbS
        clear hK K
        (try simp only [Act.put, List.setIfInBounds_toArray, List.set_cons_zero, List.set_cons_succ])
        (try dsimp only at hS)
        refine wpT_take 7 (v := ?_) rfl (by kernel_rfl) (by kernel_rfl) (fun _ _ _ h => h) hS (Or.inl ⟨rfl, ?_⟩) ?_
        rotate_left
        · (intro w' hSw; (try dsimp only at hSw); go_simp; first | done | with_reducible rfl)
        (try simp only [Act.put, List.setIfInBounds_toArray, List.set_cons_zero, List.set_cons_succ])
        refine wpT_tail (by rfl) (by kernel_rfl) ?_
        (try simp only [List.drop_succ_cons, List.drop_zero])
        go_wp2
        go_ret
        exact ⟨rfl, by rw [HP.out]; exact hlow.trans (hS.2.mono hsz8)⟩
  · obtain ⟨p1, p2, p3, p4⟩ := pr_out (x := x) (m := m) (n := n) (D := D) (Dead := Dead) (by omega) (by omega) hD (by omega)
    rw [p1, p2, p3, p4] at CP
    have CPT := Lib.hid CP
    clear p1 p2 p3 p4 CP
    have hin' : (L : Int) < (x : Int) + (n : Int) := by omega
    have HRD := Lib.hid hrD
    have HRH := Lib.hid hrH
    clear hrD hrH
    go_wp2_with fail
    refine (CPT.out HRD.out HRH.out).mono ?_
    rintro e w7 ⟨A', c', rfl, hr7, hb7⟩
    have T7 := T5.call hb7
    go_upto_region 6 with fail
    refine wp_world (fun W8 hW8 => ?_)
    obtain ⟨T8, hs8, hb8⟩ := T7.new1 hW8
    clear hW8 zb zq b0 b1 b2 d0 hb7 T7 T5 hs8
    generalize hq7 : w7.heap.size = q7 at *
    clear hq7
    obtain ⟨⟨u0, u1, u2⟩, _⟩ := T8.stand.1.three
    obtain ⟨⟨b0, b1, b2⟩, _⟩ := T8.stand.2.1.three
    have d0 : W8.cell? ⟨q, 0, none⟩ = some (.slice (some ⟨g1, 0, none⟩) L L) := T8.stand.2.2.2.1.cell 0
    go_wp2
    go_ret
    exact ⟨rfl, by rw [HP.out]; exact T8.low⟩
end Go.Proofs.Ytlanefdeeanpnaa
