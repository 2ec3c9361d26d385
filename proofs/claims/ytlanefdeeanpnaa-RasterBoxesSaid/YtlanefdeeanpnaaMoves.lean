/-
  The law RasterMoves: for every argument the call returns true. Conditions: what the row's opening gives.
-/
import Derived.Test.YtlanefdeeanpnaaMovesM
import Derived.Test.YtlanefdeeanpnaaSane7
import Derived.Test.YtlanefdeeanpnaaSums
import Derived.Deep.DeepMust
namespace Go.Proofs.Ytlanefdeeanpnaa
set_option linter.unusedVariables false
set_option linter.unusedSimpArgs false
open Go.RowKit
attribute [local go_sem ↓] Go.wp_at_zero Go.wp_at_succ

theorem tmod_small (b : Int) : -1048576 ≤ b.tmod 1048576 ∧ b.tmod 1048576 ≤ 1048576 := by
  have h := Int.tmod_lt_of_pos b (show (0 : Int) < 1048576 by omega)
  have h2 := Int.lt_tmod_of_pos b (show (0 : Int) < 1048576 by omega)
  omega
theorem ux_small {u x : Int} (hu : u = 4 ∨ u = 8 ∨ u = 12 ∨ u = 16) (hx : -1048576 ≤ x ∧ x ≤ 1048576) : -16777216 ≤ u * x ∧ u * x ≤ 16777216 := by
  rcases hu with rfl | rfl | rfl | rfl <;> omega
theorem len_zero (L : List Pt) : ((L.length : Int) == 0) = decide (L.length = 0) := by
  rw [Bool.eq_iff_iff]
  simp
/-- What the law compares, of the three pictures. -/
structure Trio (V Vm Vq : PicV) (X Y : Int) (z : Bool) : Prop where
  k1 : V.k = 0
  k2 : Vm.k = 0
  k3 : Vq.k = 0
  s1 : same7 V.L V.B V.W V.H V.D Vq.L Vq.B Vq.W Vq.H Vq.D = true
  s2 : sameB V.W V.H V.D Vm.W Vm.H Vm.D = true
  s3 : z = true → same7 Vm.L Vm.B Vm.W Vm.H Vm.D 0 0 0 0 [] = true
  s4 : z = false → Vm.L = V.L + X ∧ Vm.B = V.B + Y ∧ (-100 ≤ V.L ∧ V.L ≤ 100) ∧ -100 ≤ V.B ∧ V.B ≤ 100
theorem trio_of {ls : List (List Pt)} {u X Y : Int} (h : Near 100 ls) (hu : u = 4 ∨ u = 8 ∨ u = 12 ∨ u = 16) (hX : -1048576 ≤ X ∧ X ≤ 1048576) (hY : -1048576 ≤ Y ∧ Y ≤ 1048576) :
    Trio (dotsV ls u) (dotsV (moved 1 (u * X) (u * Y) ls) u) (dotsV (moved 7 0 0 ls) (7 * u)) X Y (decide (tot ls = 0)) := by
  obtain ⟨h1, h2, h3, h4⟩ := moves_math h hu hX hY
  by_cases ht : tot ls = 0
  · obtain ⟨e1, e2⟩ := h3 ht
    rw [h1, e2, e1]
    exact ⟨rfl, rfl, rfl, by simp [same7, sameB], by simp [sameB], fun _ => by simp [same7, sameB, PicV.none_], fun hf => by simp [ht] at hf⟩
  · obtain ⟨e2, b1, b2, b3, b4⟩ := h4 ht
    rw [h1, e2]
    exact ⟨h2, rfl, h2, by simp [same7, sameB], by simp [sameB], fun hf => by simp [ht] at hf, fun _ => ⟨rfl, rfl, ⟨b1, b2⟩, b3, b4⟩⟩

set_option maxHeartbeats 1000000 in
set_option maxRecDepth 100000 in
theorem moves_law (ls : List (List Int)) (A : Option Addr) (c : Nat) (un b0 b1 : Int) (w : World) (hn : ∀ l ∈ ls, l.length ≤ 9223372036854775807) (hls : ls.length ≤ 9223372036854775807)
    (hr : RdIs w w.heap.size A ls) :
    Calls Try.prog 17 #[.slice A ls.length c, .int .i64 un, .agg #[.int .i64 b0, .int .i64 b1]] w fun e w' => e = .returned (.bool true) ∧ Below w.heap.size w w' := by
  have HR := Lib.hid hr
  have CMD := Lib.hid (fun w h => Made7_any ls A c w hn hls h)
  have HL4 := Lib.hid (m7s_len ls)
  have HL8 := Lib.hid (m7s_small ls)
  have HNR := Lib.hid (near_m7s ls)
  generalize m7s ls = l7 at *
  have CM4 := Lib.hid (fun w => Mod_any un 4 w (by omega) (by omega))
  obtain ⟨u, hug⟩ : ∃ u, 4 + un % 4 * 4 = u := ⟨_, rfl⟩
  have hu : u = 4 ∨ u = 8 ∨ u = 12 ∨ u = 16 := by omega
  have HX := Lib.hid (tmod_small b0)
  have HY := Lib.hid (tmod_small b1)
  have hr0 := Int.emod_nonneg un (show (4 : Int) ≠ 0 by omega)
  have hr1 := Int.emod_lt_of_pos un (show (0 : Int) < 4 by omega)
  generalize un % 4 = r at *
  obtain ⟨x, hxg⟩ : ∃ x, b0.tmod 1048576 = x := ⟨_, rfl⟩
  obtain ⟨y, hyg⟩ : ∃ y, b1.tmod 1048576 = y := ⟨_, rfl⟩
  rw [hxg] at HX
  rw [hyg] at HY
  have HT := Lib.hid (trio_of (X := x) (Y := y) HNR.out hu HX.out HY.out)
  have hux := ux_small hu HX.out
  have huy := ux_small hu HY.out
  obtain ⟨ux, huxg⟩ : ∃ k, u * x = k := ⟨_, rfl⟩
  obtain ⟨uy, huyg⟩ : ∃ k, u * y = k := ⟨_, rfl⟩
  rw [huxg] at hux HT
  rw [huyg] at huy HT
  have CMV := Lib.hid (fun A' c' w h => Moved_any l7 A' c' 1 ux uy w (by have := HL4.out; omega) (fun p hp => by have := (HL8.out p hp).1; omega) (fun p hp q hq => by have := (HL8.out p hp).2 q hq; unfold smallP at this; omega) (by omega) (by omega) (by omega) h)
  have CMQ := Lib.hid (fun A' c' w h => Moved_any l7 A' c' 7 0 0 w (by have := HL4.out; omega) (fun p hp => by have := (HL8.out p hp).1; omega) (fun p hp q hq => by have := (HL8.out p hp).2 q hq; unfold smallP at this; omega) (by omega) (by omega) (by omega) h)
  have CD1 := Lib.hid (fun A' c' w h => raster_Dots l7 A' c' u w (by have := HL4.out; omega) (fun p hp => by have := (HL8.out p hp).1; omega) h)
  have CD2 := Lib.hid (fun A' c' w h => raster_Dots (moved 1 ux uy l7) A' c' u w (by rw [moved_len]; have := HL4.out; omega) (moved_small (fun p hp => by have := (HL8.out p hp).1; omega)) h)
  have CD3 := Lib.hid (fun A' c' w h => raster_Dots (moved 7 0 0 l7) A' c' (7 * u) w (by rw [moved_len]; have := HL4.out; omega) (moved_small (fun p hp => by have := (HL8.out p hp).1; omega)) h)
  rw [moved_len] at CD2 CD3
  have HD1 := Lib.hid (dotsV_len l7 u)
  have HD2 := Lib.hid (dotsV_len (moved 1 ux uy l7) u)
  have HD3 := Lib.hid (dotsV_len (moved 7 0 0 l7) (7 * u))
  generalize dotsV l7 u = V at *
  generalize dotsV (moved 1 ux uy l7) u = Vm at *
  generalize dotsV (moved 7 0 0 l7) (7 * u) = Vq at *
  have wr4 : wrap64 (r * 4) = r * 4 := w64 (by omega) (by omega)
  have HWU := Lib.hid (show wrap64 u = u from w64 (by omega) (by omega))
  have HW7 := Lib.hid (show wrap64 (7 * u) = 7 * u from w64 (by omega) (by omega))
  have HWX := Lib.hid (show wrap64 ux = ux from w64 (by omega) (by omega))
  have HWY := Lib.hid (show wrap64 uy = uy from w64 (by omega) (by omega))
  clear hr hn hu hux huy hr0 hr1
  go_enter Try.func17, Try.ntmps17
  go_wp2_with fail
  refine calls_world (fun W0 hW0 => ?_)
  obtain ⟨hQ5, hb0, hs0⟩ := new1 hW0
  clear hW0
  generalize hp : w.heap.size = p at *
  have HP := Lib.hid hp
  clear hp
  refine (sanity07 _).mono ?_
  rintro e w1 ⟨rfl, hba⟩
  replace hQ5 := hQ5.below hba hQ5.lt
  have hb1' := hb0.trans (hba.mono (by omega))
  have hz : p ≤ w1.heap.size := by have := hQ5.lt; omega
  clear hs0 hba hb0
  go_wp2_with fail
  refine (CMD.out _ (((HR.out.below hb1' (Nat.le_refl _)).more hz))).mono ?_
  rintro e w3 ⟨AM, cM, rfl, hrM, hba⟩
  replace hQ5 := hQ5.below hba hQ5.lt
  have hb3 := hb1'.trans (hba.mono hz)
  replace hz : p ≤ w3.heap.size := Nat.le_trans hz hba.size
  clear hba hb1' HR CMD
  obtain ⟨⟨k0, k1⟩, _⟩ := hQ5.two
  have HRM := Lib.hid hrM
  clear hrM
  have wu := HWU.out
  go_wp2_with fail
  refine (CM4.out _).mono ?_
  rintro e wa ⟨rfl, rfl⟩
  go_wp2_with fail
  refine (CD1.out _ _ _ HRM.out).mono ?_
  rintro e w4 ⟨⟨A1, c1, rfl, hd1⟩, hba⟩
  have hb4 := hb3.trans (hba.mono hz)
  replace hz : p ≤ w4.heap.size := Nat.le_trans hz hba.size
  have HRM4 := Lib.hid (HRM.out.on hba)
  clear hba hb3 HRM k0 k1 hQ5 hug wr4 CM4 CD1
  have wux := HWX.out
  have wuy := HWY.out
  go_upto_region 7 with fail
  refine wp_world (fun W5 hW5 => ?_)
  obtain ⟨q12, eqq, hQ12, hbq, hsq⟩ := new1n hW5
  clear hW5
  rw [← eqq] at hbq
  try rw [eqq]
  have hb5 := hb4.trans (hbq.mono hz)
  replace hz : p ≤ W5.heap.size := Nat.le_trans hz hbq.size
  have HRM5 := Lib.hid (HRM4.out.on hbq)
  have HD1a := Lib.hid ((hd1.below hbq (Nat.le_refl _)).more hbq.size)
  clear hb4 hbq eqq hsq hd1 HRM4
  go_wp2_with fail
  refine (CMV.out _ _ _ HRM5.out).mono ?_
  rintro e w6 ⟨AV, cV, rfl, hrV, hba⟩
  have hb6 := hb5.trans (hba.mono hz)
  replace hz : p ≤ w6.heap.size := Nat.le_trans hz hba.size
  have HRM6 := Lib.hid (HRM5.out.on hba)
  have HD1b := Lib.hid ((HD1a.out.below hba (Nat.le_refl _)).more hba.size)
  replace hQ12 := hQ12.below hba hQ12.lt
  clear hb5 hba HRM5 HD1a CMV
  go_wp2_with fail
  refine (CD2.out _ _ _ hrV).mono ?_
  rintro e w7 ⟨⟨A2, c2, rfl, hd2⟩, hba⟩
  have hb7 := hb6.trans (hba.mono hz)
  replace hz : p ≤ w7.heap.size := Nat.le_trans hz hba.size
  have HRM7 := Lib.hid (HRM6.out.on hba)
  have HD1c := Lib.hid ((HD1b.out.below hba (Nat.le_refl _)).more hba.size)
  replace hQ12 := hQ12.below hba hQ12.lt
  clear hb6 hba HRM6 HD1b CD2 hrV wux wuy HWX HWY huxg huyg
  have wu7 := HW7.out
  go_upto_region 8 with fail
  refine wp_world (fun W8 hW8 => ?_)
  obtain ⟨q14, eqq, hQ14, hbq, hsq⟩ := new1n hW8
  clear hW8
  rw [← eqq] at hbq
  try rw [eqq]
  have hb8 := hb7.trans (hbq.mono hz)
  replace hz : p ≤ W8.heap.size := Nat.le_trans hz hbq.size
  have HRM8 := Lib.hid (HRM7.out.on hbq)
  have HD1d := Lib.hid ((HD1c.out.below hbq (Nat.le_refl _)).more hbq.size)
  have HD2d := Lib.hid ((hd2.below hbq (Nat.le_refl _)).more hbq.size)
  replace hQ12 := hQ12.below hbq (by have := hQ12.lt; omega)
  clear hb7 hbq eqq hsq hd2 HRM7 HD1c
  go_wp2_with fail
  refine (CMQ.out _ _ _ HRM8.out).mono ?_
  rintro e w9 ⟨AQ, cQ, rfl, hrQ, hba⟩
  have hb9 := hb8.trans (hba.mono hz)
  replace hz : p ≤ w9.heap.size := Nat.le_trans hz hba.size
  have HRM9 := Lib.hid (HRM8.out.on hba)
  have HD1e := Lib.hid ((HD1d.out.below hba (Nat.le_refl _)).more hba.size)
  have HD2e := Lib.hid ((HD2d.out.below hba (Nat.le_refl _)).more hba.size)
  replace hQ12 := hQ12.below hba hQ12.lt
  replace hQ14 := hQ14.below hba hQ14.lt
  clear hb8 hba HRM8 HD1d HD2d CMQ
  go_wp2_with fail
  refine (CD3.out _ _ _ hrQ).mono ?_
  rintro e w10 ⟨⟨A3, c3, rfl, hd3⟩, hba⟩
  have hb10 := hb9.trans (hba.mono hz)
  replace hz : p ≤ w10.heap.size := Nat.le_trans hz hba.size
  have HRM10 := Lib.hid (HRM9.out.on hba)
  have HD1f := Lib.hid ((HD1e.out.below hba (Nat.le_refl _)).more hba.size)
  have HD2f := Lib.hid ((HD2e.out.below hba (Nat.le_refl _)).more hba.size)
  replace hQ12 := hQ12.below hba hQ12.lt
  replace hQ14 := hQ14.below hba hQ14.lt
  clear hb9 hba HRM9 HD1e HD2e CD3 hrQ wu7 HW7 wu HWU
  go_upto_region 9 with fail
  refine wp_world (fun W11 hW11 => ?_)
  obtain ⟨q16, eqq, hQ16, hbq, hsq⟩ := new1n hW11
  clear hW11
  rw [← eqq] at hbq
  try rw [eqq]
  have hb11 := hb10.trans (hbq.mono hz)
  replace hz : p ≤ W11.heap.size := Nat.le_trans hz hbq.size
  have HRM11 := Lib.hid (HRM10.out.on hbq)
  have HE1 := Lib.hid ((HD1f.out.below hbq (Nat.le_refl _)).more hbq.size)
  have HE2 := Lib.hid ((HD2f.out.below hbq (Nat.le_refl _)).more hbq.size)
  have HE3 := Lib.hid ((hd3.below hbq (Nat.le_refl _)).more hbq.size)
  replace hQ12 := hQ12.below hbq (by have := hQ12.lt; omega)
  replace hQ14 := hQ14.below hbq (by have := hQ14.lt; omega)
  clear hb10 hbq eqq hsq HRM10 HD1f HD2f hd3
  have hk1 := HT.out.k1
  have hk2 := HT.out.k2
  have hk3 := HT.out.k3
  have CS1 := Lib.hid (ref07_Same V.L V.B V.W V.H A1 c1 V.D Vq.L Vq.B Vq.W Vq.H A3 c3 Vq.D W11 (by have := HD1.out; omega) (by have := HD3.out; omega) HE1.out HE3.out)
  rw [HT.out.s1] at CS1
  have CS2 := Lib.hid (fun w h1 h2 => ref04_Same V.W V.H A1 c1 V.D Vm.W Vm.H A2 c2 Vm.D w (by have := HD1.out; omega) (by have := HD2.out; omega) h1 h2)
  rw [HT.out.s2] at CS2
  obtain ⟨l0, l1, l2, l3, l4⟩ := hQ12.five
  obtain ⟨m0, m1, m2, m3, m4⟩ := hQ16.five
  rw [hk1, hk2, hk3]
  clear hk1 hk2 hk3
  go_wp2_with fail
  refine CS1.out.mono ?_
  rintro e w12 ⟨rfl, hba⟩
  have hb12 := hb11.trans (hba.mono hz)
  replace hz : p ≤ w12.heap.size := Nat.le_trans hz hba.size
  have HRM12 := Lib.hid (HRM11.out.on hba)
  have HE1b := Lib.hid ((HE1.out.below hba (Nat.le_refl _)).more hba.size)
  have HE2b := Lib.hid ((HE2.out.below hba (Nat.le_refl _)).more hba.size)
  replace hQ12 := hQ12.below hba hQ12.lt
  replace hQ14 := hQ14.below hba hQ14.lt
  clear hb11 hba HRM11 HE1 HE2 HE3 CS1 l0 l1 l2 l3 l4 m0 m1 m2 m3 m4 hQ16
  obtain ⟨l0, l1, l2, l3, l4⟩ := hQ12.five
  obtain ⟨m0, m1, m2, m3, m4⟩ := hQ14.five
  go_wp2_with fail
  refine (CS2.out _ HE1b.out HE2b.out).mono ?_
  rintro e w13 ⟨rfl, hba⟩
  have hb13 := hb12.trans (hba.mono hz)
  replace hz : p ≤ w13.heap.size := Nat.le_trans hz hba.size
  have HRM13 := Lib.hid (HRM12.out.on hba)
  have HE2c := Lib.hid ((HE2b.out.below hba (Nat.le_refl _)).more hba.size)
  replace hQ12 := hQ12.below hba hQ12.lt
  replace hQ14 := hQ14.below hba hQ14.lt
  clear hb12 hba HRM12 HE1b HE2b CS2 l0 l1 l2 l3 l4 m0 m1 m2 m3 m4
  go_wp2_with fail
  go_loopw [18, 86] (fun s18 s86 wr => ∃ i : Nat, i ≤ l7.length ∧ s86 = .int .i64 i ∧ s18 = .bool (decide (tot (l7.take i) = 0)) ∧ wr = w13) (fun _ s86 _ => l7.length - (intOf s86).toNat)
  case atStart => exact ⟨0, by omega, rfl, rfl, rfl⟩
  case round =>
    obtain ⟨i, hi, rfl, rfl, rfl⟩ := hrel
    have hl4 := HL4.out
    by_cases hlt : i < l7.length
    · have hlt' : (i : Int) < (l7.length : Int) := by omega
      obtain ⟨b, o, rfl, hb, Ak, ck, hck, hrk⟩ := HRM13.out.at_ hlt
      have HTS : Hid (tot (l7.take (i + 1)) = tot (l7.take i) + l7[i].length) := Lib.hid (tot_succ hlt)
      generalize l7[i] = L at *
      clear hrk
      by_cases htz : tot (l7.take i) = 0
      · rw [decide_eq_true htz]
        have HTZ := Lib.hid htz
        clear htz
        go_wp2_with fail
        go_roundw
        case rel => exact ⟨i + 1, by omega, by go_num, by rw [HTS.out, HTZ.out, Nat.zero_add]; congr 1; exact len_zero L, trivial⟩
        case measure => simp [intOf]; omega
      · rw [decide_eq_false htz]
        have HTZ := Lib.hid htz
        clear htz
        go_wp2_with fail
        go_roundw
        case rel => exact ⟨i + 1, by omega, by go_num, by rw [HTS.out, decide_eq_false (by have := HTZ.out; omega)], trivial⟩
        case measure => simp [intOf]; omega
    · have hie : i = l7.length := by omega
      have hlt' : ¬ (i : Int) < (l7.length : Int) := by omega
      subst hie
      rw [List.take_length]
      have hS3 := Lib.hid HT.out.s3
      have hS4 := Lib.hid HT.out.s4
      clear HT
      cases hz0 : decide (tot l7 = 0) with
      | true =>
        have CS3 := Lib.hid (fun w h1 => ref07_Same Vm.L Vm.B Vm.W Vm.H A2 c2 Vm.D 0 0 0 0 none 0 [] w (by have := HD2.out; omega) (by simp) h1 Rd.nil)
        rw [hS3.out hz0] at CS3
        obtain ⟨m0, m1, m2, m3, m4⟩ := hQ14.five
        clear hz0
        go_wp2_with fail
        refine (CS3.out _ HE2c.out).mono ?_
        rintro e w14 ⟨rfl, hba⟩
        go_wp2
        go_ret
        exact ⟨rfl, by rw [HP.out]; exact hb13.trans (hba.mono hz)⟩
      | false =>
        obtain ⟨e1, e2, e3, e4⟩ := hS4.out hz0
        obtain ⟨e31, e32⟩ := e3
        obtain ⟨e41, e42⟩ := e4
        obtain ⟨l0, l1, l2, l3, l4⟩ := hQ12.five
        obtain ⟨m0, m1, m2, m3, m4⟩ := hQ14.five
        rw [e1] at m0
        rw [e2] at m1
        obtain ⟨hX1, hX2⟩ := HX.out
        obtain ⟨hY1, hY2⟩ := HY.out
        have hw1 : wrap64 (V.L + x) = V.L + x := w64 (by omega) (by omega)
        have hw2 : wrap64 (V.B + y) = V.B + y := w64 (by clear hw1; omega) (by clear hw1; omega)
        clear hz0 e1 e2
        go_wp2
        go_ret
        exact ⟨rfl, by rw [HP.out]; exact hb13⟩
end Go.Proofs.Ytlanefdeeanpnaa
