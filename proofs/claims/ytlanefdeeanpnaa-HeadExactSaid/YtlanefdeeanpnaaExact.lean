/-
  The law HeadExact: for every argument the call returns true. Conditions: the lists' lengths fit an int, and they are read below the heap's size.
-/
import Derived.Test.YtlanefdeeanpnaaHMade
import Derived.Test.YtlanefdeeanpnaaSane37
import Derived.Test.YtlanefdeeanpnaaMath37b
import Derived.Deep.DrawnRows
namespace Go.Proofs.Ytlanefdeeanpnaa
set_option linter.unusedVariables false
set_option linter.unusedSimpArgs false
open Go.RowKit
attribute [local go_sem ↓] Go.wp_at_zero Go.wp_at_succ

set_option maxHeartbeats 4000000 in
set_option maxRecDepth 100000 in
theorem exact_law (L1 L2 : List Int) (A1 A2 : Option Addr) (c1 c2 : Nat) (w : World) (hn1 : L1.length ≤ 9223372036854775807) (hn2 : L2.length ≤ 9223372036854775807)
    (hr1 : Rd (Value.int .i64) w w.heap.size A1 L1) (hr2 : Rd (Value.int .i64) w w.heap.size A2 L2) :
    Calls Try.prog 11 #[.agg #[.slice A1 L1.length c1, .slice A2 L2.length c2]] w fun e w' => e = .returned (.bool true) ∧ Below w.heap.size w w' := by
  have HR1 := Lib.hid hr1
  have HR2 := Lib.hid hr2
  clear hr1 hr2
  go_enter Try.func11, Try.ntmps11
  go_wp2_with fail
  refine calls_world (fun W0 hW0 => ?_)
  obtain ⟨T0, hs0, _⟩ := (Tr.start w).new1 hW0
  clear hW0
  generalize hp : w.heap.size = p at *
  have HP := Lib.hid hp
  clear hp
  refine (sanity37 _).mono ?_
  rintro e w1 ⟨rfl, hb1⟩
  have T1 := T0.call hb1
  clear T0 hb1 hs0
  obtain ⟨⟨b0, b1⟩, _⟩ := T1.stand.1.two
  go_wp2_with fail
  refine (HMade_any L1 A1 c1 _ hn1 (T1.rd HR1.out)).mono ?_
  rintro e w2 ⟨g1, rfl, hg1, hl1, hO1, hb2⟩
  have T2 := (T1.call hb2).push hO1.blk
  clear T1 hb2 hO1 b0 b1
  go_upto_region 3 with fail
  refine wp_world (fun W3 hW3 => ?_)
  obtain ⟨T3, hs3, _⟩ := T2.new1 hW3
  clear hW3 T2 hs3
  generalize hq : w2.heap.size = q at *
  clear hq
  have z3 := T3.stand.1.lt
  obtain ⟨⟨b0, b1⟩, _⟩ := T3.stand.2.2.1.two
  have z0 := T3.stand.2.2.1.lt
  go_wp2_with fail
  refine (Made_any L2 A2 c2 _ hn2 (T3.rd HR2.out)).mono ?_
  rintro e w4 ⟨g2, rfl, hg2, hl2, hO2, hb4⟩
  have T4 := (T3.call hb4).push hO2.blk
  clear T3 hb4 hO2 b0 b1 z0 z3
  go_upto_region 4 with fail
  refine wp_world (fun W5 hW5 => ?_)
  obtain ⟨T5, hs5, _⟩ := T4.new1 hW5
  clear hW5 T4 hs5
  generalize hq4 : w4.heap.size = q4 at *
  clear hq4
  have hm := mkW_le L2
  have hn := mkH_le L2
  have hL := hmN_le L1
  have hD := mkD_len L2
  have hDl := hmD_len L1
  generalize mkD L2 = D at *
  generalize mkW L2 = m at *
  generalize mkH L2 = n at *
  generalize hmD L1 = Dead at *
  generalize hmN L1 = L at *
  have hmn : m * n ≤ 192 := Nat.mul_le_mul hm hn
  have CO := Lib.hid (fun w h1 h2 => head_Offset_any m n (m * n) L (some ⟨g2, 0, none⟩) (some ⟨g1, 0, none⟩) D Dead w (by omega) h1 h2)
  rw [off_val (by omega) (by omega) hD (by omega) (by omega), hD, hDl] at CO
  have CP := Lib.hid (fun (x : Nat) w h1 h2 => head_Print_any m n x (m * n) L (some ⟨g2, 0, none⟩) (some ⟨g1, 0, none⟩) D Dead w (by omega) h1 h2)
  rw [hD, hDl] at CP
  have PI := Lib.hid (fun (x : Nat) (h : x + n ≤ L) => pr_in (x := x) (m := m) (n := n) (D := D) (Dead := Dead) (by omega) (by omega) hD (by omega) (by omega) (by omega))
  have PO := Lib.hid (fun (x : Nat) (h : ¬ x + n ≤ L) => pr_out (x := x) (m := m) (n := n) (D := D) (Dead := Dead) (by omega) (by omega) hD (by omega))
  have CC := Lib.hid (fun w h => bitmap_Count m n (m * n) (some ⟨g2, 0, none⟩) D w (by omega) (by omega) hD h)
  have CC2 := Lib.hid (fun A c x w h => bitmap_Count m n c A (printL m x D Dead) w (by omega) (by omega) ((printL_len _ _ _ _).trans hD) h)
  have CS := Lib.hid (fun A c w h h' => bitmap_Same m n A c D m n (some ⟨g2, 0, none⟩) (m * n) D w (by omega) (by omega) h h')
  rw [hD] at CS
  have hPL := Lib.hid (fun x => (printL_len m x D Dead).trans hD)
  have hcm : cntB D ≤ m * n := by rw [← hD]; exact cntB_le D
  have hO := off_told (rfl : headOff m n D Dead = headOff m n D Dead)
  rw [hDl] at hO
  generalize headOff m n D Dead = o at CO hO
  have hrD : Rd Value.bool W5 W5.heap.size (some ⟨g2, 0, none⟩) D := (T5.stand.2.1.own (f := Value.bool)).rd T5.stand.2.1.lt
  have hrH : Rd Value.bool W5 W5.heap.size (some ⟨g1, 0, none⟩) Dead := (T5.stand.2.2.2.1.own (f := Value.bool)).rd T5.stand.2.2.2.1.lt
  obtain ⟨⟨b0, b1, b2⟩, _⟩ := T5.stand.1.three
  have d0 : W5.cell? ⟨q, 0, none⟩ = some (.slice (some ⟨g1, 0, none⟩) L L) := T5.stand.2.2.1.cell 0
  go_wp2_with fail
  refine (CO.out _ hrD hrH).mono ?_
  rintro e w6 ⟨rfl, hb6⟩
  have T6 := T5.call hb6
  replace hrD := (hrD.below hb6 (Nat.le_refl _)).more hb6.size
  replace hrH := (hrH.below hb6 (Nat.le_refl _)).more hb6.size
  clear T5 hb6 b0 b1 b2 d0 CO
  have hoi : offI o = ((o.getD 0 : Nat) : Int) := rfl
  rw [hoi]
  clear hoi
  generalize o.getD 0 = x at *
  generalize o.isSome = ok at *
  obtain ⟨E, hE1, hE2, hEw, hxL, hok⟩ : ∃ E : Nat, (E : Int) = (if ok = true then (x : Int) else (L : Int) + 1) ∧ E ≤ L + 1 ∧ (∀ y, y < E → y + n ≤ L → wholeAt m D Dead y = false) ∧ x ≤ L ∧ ((ok = true ∧ x + n ≤ L ∧ wholeAt m D Dead x = true) ∨ (ok = false ∧ x = 0)) := by
    rcases hO with ⟨rfl, h1, h2, h3⟩ | ⟨rfl, rfl, h3⟩
    · exact ⟨x, by simp, by omega, fun y hy _ => h3 y hy, by omega, .inl ⟨rfl, h1, h2⟩⟩
    · exact ⟨L + 1, by simp, by omega, fun y _ hy => h3 y hy, by omega, .inr ⟨rfl, rfl⟩⟩
  have HW := Lib.hid hEw
  have HOK := Lib.hid hok
  clear hO hEw hok
  obtain ⟨⟨b0, b1, b2⟩, _⟩ := T6.stand.1.three
  have d0 : w6.cell? ⟨q, 0, none⟩ = some (.slice (some ⟨g1, 0, none⟩) L L) := T6.stand.2.2.1.cell 0
  have zb := T6.stand.1.lt
  have zq := T6.stand.2.2.1.lt
  have hx0 : ¬ (x : Int) < 0 := by omega
  have hx1 : ¬ (L : Int) < (x : Int) := by omega
  have hx2 : (x : Int) ≤ (L : Int) := by omega
  go_upto_if 38 with fail
  go_cut [8] (fun s8 wx => s8 = .int .i64 (E : Int) ∧ wx = w6)
  case first =>
    cases ok with
    | true =>
      rw [if_pos rfl] at hE1
      go_wp2
      go_meet
      exact ⟨by rw [hE1], rfl⟩
    | false =>
      rw [if_neg (by simp)] at hE1
      go_wp2
      go_meet
      exact ⟨by rw [hE1], rfl⟩
  case rest =>
    obtain ⟨rfl, rfl⟩ := hcut
    have hlow := T6.low
    have hsz6 := T6.size
    clear T6 HR1 HR2 hE1 hg1 hg2 hl1 hl2
    go_wp2_with fail
    go_loopw [9] (fun s9 wr => ∃ t : Nat, t ≤ E ∧ s9 = .int .i64 t ∧ Below wc.heap.size wc wr) (fun s9 _ => E - (intOf s9).toNat)
    case atStart => exact ⟨0, Nat.zero_le _, rfl, Below.refl _ _⟩
    case round =>
      obtain ⟨t, ht, rfl, hbr⟩ := hrel
      obtain ⟨hcr, _⟩ := bcell hbr
      have hsr := hbr.size
      have hrD' := (hrD.below hbr (Nat.le_refl _)).more hsr
      have hrH' := (hrH.below hbr (Nat.le_refl _)).more hsr
      by_cases hlt : t < E
      · have hlt' : (t : Int) < (E : Int) := by omega
        by_cases hin : t + n ≤ L
        · obtain ⟨p1, p2, p3, p4⟩ := PI.out t hin
          have CPt := CP.out t
          unfold PrOut at CPt
          rw [p1, p2, p3, p4, hPL.out] at CPt
          have CPT := Lib.hid CPt
          have hne := Lib.hid (cnt_print (HW.out t hlt hin))
          have HRD := Lib.hid hrD'
          have HRH := Lib.hid hrH'
          clear p1 p2 p3 p4 CPt hrD' hrH'
          have hin' : (t : Int) + (n : Int) ≤ (L : Int) := by omega
          go_wp2_with fail
          refine (CPT.out _ HRD.out HRH.out).mono ?_
          rintro e w7 ⟨A', c', rfl, hr7, hb7⟩
          have hne2 := hne.out
          have CCt := Lib.hid (fun A c w h => CC2.out A c t w h)
          have hpc : cntB (printL m t D Dead) ≤ m * n := by rw [← hPL.out t]; exact cntB_le _
          generalize cntB (printL m t D Dead) = u at *
          generalize printL m t D Dead = E7 at *
          have hbr7 := hbr.trans (hb7.mono hsr)
          clear hcr
          obtain ⟨hcr, _⟩ := bcell hbr7
          have hsr7 := hbr7.size
          go_upto_region 14 with fail
          refine wp_world (fun W8 hW8 => ?_)
          obtain ⟨hQ, hbq, hsq⟩ := new1 hW8
          clear hW8
          have hr8 := (hr7.below hbq (Nat.le_refl _)).more hbq.size
          have hbr8 := hbr7.trans (hbq.mono hsr7)
          generalize hq7 : w7.heap.size = q7 at *
          clear hq7
          obtain ⟨⟨u0, u1, u2⟩, _⟩ := hQ.three
          have zq7 := hQ.lt
          have c0 := hbr8.cell (p := ⟨q4, 0, none⟩) zb
          have c1 := hbr8.cell (p := ⟨q4, 1, none⟩) zb
          have c2 := hbr8.cell (p := ⟨q4, 2, none⟩) zb
          rw [b0] at c0
          rw [b1] at c1
          rw [b2] at c2
          have zq4 : q4 < W8.heap.size := by have := hbr8.size; omega
          have hrD8 := (hrD.below hbr8 (Nat.le_refl _)).more hbr8.size
          clear hcr hsq
          have hne3 : ¬ (u : Int) = ((cntB D : Nat) : Int) := by omega
          generalize cntB D = v at *
          refine wp_region_L 8 (fun w' => (∀ b o, b < W8.heap.size → w'.cell? ⟨b, o, none⟩ = W8.cell? ⟨b, o, none⟩) ∧ Below W8.heap.size W8 w') (by kernel_rfl) ?_ (fun Wd hWd hS => ?_)
          · (try dsimp only)
            exact sb_of (Below.refl _ _).drew
          (try dsimp only at hS)
          refine wpT_take 0 (v := ?_) rfl (by kernel_rfl) (by kernel_rfl) (fun _ _ _ h => h) hS (Or.inl ⟨rfl, ?_⟩) ?_
          rotate_left
          · (intro w' hSw; (try dsimp only at hSw); go_simp; first | done | with_reducible rfl)
          (try simp only [Act.put, List.setIfInBounds_toArray, List.set_cons_zero, List.set_cons_succ])
          refine wpT_take 1 (v := ?_) rfl (by kernel_rfl) (by kernel_rfl) (fun _ _ _ h => h) hS (Or.inl ⟨rfl, ?_⟩) ?_
          rotate_left
          · (intro w' hSw; (try dsimp only at hSw); go_simp; first | done | with_reducible rfl)
          (try simp only [Act.put, List.setIfInBounds_toArray, List.set_cons_zero, List.set_cons_succ])
          refine wpT_take 2 (v := ?_) rfl (by kernel_rfl) (by kernel_rfl) (fun _ _ _ h => h) hS (Or.inl ⟨rfl, ?_⟩) ?_
          rotate_left
          · (intro w' hSw; (try dsimp only at hSw); go_simp; first | done | with_reducible rfl)
          (try simp only [Act.put, List.setIfInBounds_toArray, List.set_cons_zero, List.set_cons_succ])
          refine wpT_take 3 (v := ?_) rfl (by kernel_rfl) (by kernel_rfl) (fun _ _ _ h => h) hS (Or.inl ⟨rfl, ?_⟩) ?_
          rotate_left
          · (intro w' hSw; (try dsimp only at hSw); go_simp; first | done | with_reducible rfl)
          (try simp only [Act.put, List.setIfInBounds_toArray, List.set_cons_zero, List.set_cons_succ])
          refine wpT_take 5 (v := ?_) rfl (by kernel_rfl) (by kernel_rfl) (fun _ _ _ h => h) hS (Or.inl ⟨rfl, ?_⟩) ?_
          rotate_left
          · (intro w' hSw; (try dsimp only at hSw); go_simp; first | done | with_reducible rfl)
          (try simp only [Act.put, List.setIfInBounds_toArray, List.set_cons_zero, List.set_cons_succ])
          refine wpT_one 4 rfl (by kernel_rfl) (fun K hK => ?_)
          go_simp
          go_at_call 47
          refine (CCt.out _ _ _ ((hr8.below hS.2 (Nat.le_refl _)).more hS.2.size)).mono ?_
          rintro e w9 ⟨rfl, hb9⟩
          have hbS := hS.2.trans (hb9.mono hS.2.size)
          refine hK.out _ _ ?_ (fun hS => ?_)
          · (try dsimp only)
            exact sb_of hbS
          clear hK K
          (try simp only [Act.put, List.setIfInBounds_toArray, List.set_cons_zero, List.set_cons_succ])
          (try dsimp only at hS)
          refine wpT_one 6 rfl (by kernel_rfl) (fun K hK => ?_)
          go_simp
          go_at_call 47
          refine (CC.out _ ((hrD8.below hS.2 (Nat.le_refl _)).more hS.2.size)).mono ?_
          rintro e w10 ⟨rfl, hb10⟩
          have hbS := hS.2.trans (hb10.mono hS.2.size)
          refine hK.out _ _ ?_ (fun hS => ?_)
          · (try dsimp only)
            exact sb_of hbS
          clear hK K
          (try simp only [Act.put, List.setIfInBounds_toArray, List.set_cons_zero, List.set_cons_succ])
          (try dsimp only at hS)
          refine wpT_take 7 (v := ?_) rfl (by kernel_rfl) (by kernel_rfl) (fun _ _ _ h => h) hS (Or.inl ⟨rfl, ?_⟩) ?_
          rotate_left
          · (intro w' hSw; (try dsimp only at hSw); go_simp; first | done | with_reducible rfl)
          (try simp only [Act.put, List.setIfInBounds_toArray, List.set_cons_zero, List.set_cons_succ])
          refine wpT_tail (by rfl) (by kernel_rfl) ?_
          (try simp only [List.drop_succ_cons, List.drop_zero])
          have hbr9 := hbr8.trans (hS.2.mono hbr8.size)
          clear hS
          have d0' := hbr9.cell (p := ⟨q, 0, none⟩) zq
          rw [d0] at d0'
          have c1' := hbr9.cell (p := ⟨q4, 1, none⟩) zb
          rw [b1] at c1'
          go_wp2_with fail
          go_roundw
          case rel => exact ⟨t + 1, by omega, by go_num, hbr9⟩
          case measure => simp [intOf]; omega
        · obtain ⟨p1, p2, p3, p4⟩ := PO.out t hin
          have CPt := CP.out t
          unfold PrOut at CPt
          rw [p1, p2, p3, p4] at CPt
          have CPT := Lib.hid CPt
          have HRD := Lib.hid hrD'
          have HRH := Lib.hid hrH'
          clear p1 p2 p3 p4 CPt hrD' hrH'
          have hin' : ¬ (t : Int) + (n : Int) ≤ (L : Int) := by omega
          go_wp2_with fail
          refine (CPT.out _ HRD.out HRH.out).mono ?_
          rintro e w7 ⟨A', c', rfl, hr7, hb7⟩
          have hbr7 := hbr.trans (hb7.mono hsr)
          clear hcr
          obtain ⟨hcr, _⟩ := bcell hbr7
          have hsr7 := hbr7.size
          go_upto_region 14 with fail
          refine wp_world (fun W8 hW8 => ?_)
          obtain ⟨hQ, hbq, hsq⟩ := new1 hW8
          clear hW8
          have hbr8 := hbr7.trans (hbq.mono hsr7)
          clear hcr hsq
          have zq4 : q4 < W8.heap.size := by have := hbr8.size; omega
          have zqq : q < W8.heap.size := by have := hbr8.size; omega
          refine wp_region_L 8 (fun w' => (∀ b o, b < W8.heap.size → w'.cell? ⟨b, o, none⟩ = W8.cell? ⟨b, o, none⟩) ∧ Below W8.heap.size W8 w') (by kernel_rfl) ?_ (fun Wd hWd hS => ?_)
          · (try dsimp only)
            exact sb_of (Below.refl _ _).drew
          (try dsimp only at hS)
          refine wpT_take 0 (v := ?_) rfl (by kernel_rfl) (by kernel_rfl) (fun _ _ _ h => h) hS (Or.inl ⟨rfl, ?_⟩) ?_
          rotate_left
          · (intro w' hSw; (try dsimp only at hSw); go_simp; first | done | with_reducible rfl)
          (try simp only [Act.put, List.setIfInBounds_toArray, List.set_cons_zero, List.set_cons_succ])
          refine wpT_take 1 (v := ?_) rfl (by kernel_rfl) (by kernel_rfl) (fun _ _ _ h => h) hS (Or.inl ⟨rfl, ?_⟩) ?_
          rotate_left
          · (intro w' hSw; (try dsimp only at hSw); go_simp; first | done | with_reducible rfl)
          (try simp only [Act.put, List.setIfInBounds_toArray, List.set_cons_zero, List.set_cons_succ])
          refine wpT_take 2 (v := ?_) rfl (by kernel_rfl) (by kernel_rfl) (fun _ _ _ h => h) hS (Or.inl ⟨rfl, ?_⟩) ?_
          rotate_left
          · (intro w' hSw; (try dsimp only at hSw); go_simp; first | done | with_reducible rfl)
          (try simp only [Act.put, List.setIfInBounds_toArray, List.set_cons_zero, List.set_cons_succ])
          refine wpT_take 3 rfl (by kernel_rfl) (by kernel_rfl) (fun _ _ _ h => h) hS (Or.inr ⟨rfl, rfl⟩) ?_
          (try simp only [Act.put, List.setIfInBounds_toArray, List.set_cons_zero, List.set_cons_succ])
          refine wpT_take 4 rfl (by kernel_rfl) (by kernel_rfl) (fun _ _ _ h => h) hS (Or.inr ⟨rfl, rfl⟩) ?_
          (try simp only [Act.put, List.setIfInBounds_toArray, List.set_cons_zero, List.set_cons_succ])
          refine wpT_take 5 rfl (by kernel_rfl) (by kernel_rfl) (fun _ _ _ h => h) hS (Or.inr ⟨rfl, rfl⟩) ?_
          (try simp only [Act.put, List.setIfInBounds_toArray, List.set_cons_zero, List.set_cons_succ])
          refine wpT_take 6 rfl (by kernel_rfl) (by kernel_rfl) (fun _ _ _ h => h) hS (Or.inr ⟨rfl, rfl⟩) ?_
          (try simp only [Act.put, List.setIfInBounds_toArray, List.set_cons_zero, List.set_cons_succ])
          refine wpT_take 7 rfl (by kernel_rfl) (by kernel_rfl) (fun _ _ _ h => h) hS (Or.inr ⟨rfl, rfl⟩) ?_
          (try simp only [Act.put, List.setIfInBounds_toArray, List.set_cons_zero, List.set_cons_succ])
          refine wpT_tail (by rfl) (by kernel_rfl) ?_
          (try simp only [List.drop_succ_cons, List.drop_zero])
          have hbr9 := hbr8.trans (hS.2.mono hbr8.size)
          clear hS
          have d0' := hbr9.cell (p := ⟨q, 0, none⟩) zq
          rw [d0] at d0'
          have c1' := hbr9.cell (p := ⟨q4, 1, none⟩) zb
          rw [b1] at c1'
          go_wp2_with fail
          go_roundw
          case rel => exact ⟨t + 1, by omega, by go_num, hbr9⟩
          case measure => simp [intOf]; omega
      · have hte : t = E := by omega
        subst hte
        have hlt' : ¬ (t : Int) < (t : Int) := by omega
        have HRD := Lib.hid hrD'
        have HRH := Lib.hid hrH'
        clear hrD' hrH'
        rcases HOK.out with ⟨rfl, hxn, hwh⟩ | ⟨rfl, rfl⟩
        · obtain ⟨p1, p2, p3, p4⟩ := PI.out x hxn
          have CPt := CP.out x
          unfold PrOut at CPt
          rw [p1, p2, p3, p4, hPL.out, whole_print.2 hwh] at CPt
          have CPT := Lib.hid CPt
          have hsame : sameB m n D m n D = true := by simp [sameB]
          rw [hsame] at CS
          clear p1 p2 p3 p4 CPt hwh hsame
          go_wp2_with fail
          refine (CPT.out _ HRD.out HRH.out).mono ?_
          rintro e w7 ⟨A', c', rfl, hr7, hb7⟩
          have hbr7 := hbr.trans (hb7.mono hsr)
          clear hcr
          go_upto_region 21 with fail
          refine wp_world (fun W8 hW8 => ?_)
          obtain ⟨hQ, hbq, hsq⟩ := new1 hW8
          clear hW8
          have hr8 := (hr7.below hbq (Nat.le_refl _)).more hbq.size
          have hbr8 := hbr7.trans (hbq.mono hbr7.size)
          generalize hq7 : w7.heap.size = q7 at *
          clear hq7 hsq
          obtain ⟨⟨u0, u1, u2⟩, _⟩ := hQ.three
          have zq7 := hQ.lt
          have c0 := hbr8.cell (p := ⟨q4, 0, none⟩) zb
          have c1 := hbr8.cell (p := ⟨q4, 1, none⟩) zb
          have c2 := hbr8.cell (p := ⟨q4, 2, none⟩) zb
          rw [b0] at c0
          rw [b1] at c1
          rw [b2] at c2
          have hrD8 := (hrD.below hbr8 (Nat.le_refl _)).more hbr8.size
          go_wp2_with fail
          refine (CS.out _ _ _ hr8 hrD8).mono ?_
          rintro e w9 ⟨rfl, hb9⟩
          go_wp2
          go_ret
          exact ⟨rfl, by rw [HP.out]; exact hlow.trans ((hbr8.trans (hb9.mono hbr8.size)).mono hsz6)⟩
        · go_wp2
          go_ret
          exact ⟨rfl, by rw [HP.out]; exact hlow.trans (hbr.mono hsz6)⟩
end Go.Proofs.Ytlanefdeeanpnaa
