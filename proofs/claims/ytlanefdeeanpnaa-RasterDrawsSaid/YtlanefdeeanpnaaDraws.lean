/-
  The law RasterDraws: for every argument the call returns true. Conditions: what the row's opening gives.
-/
import Derived.Test.YtlanefdeeanpnaaDotsR
import Derived.Test.YtlanefdeeanpnaaSane7
import Derived.Test.YtlanefdeeanpnaaMath7
import Derived.Deep.DrawnRows
namespace Go.Proofs.Ytlanefdeeanpnaa
set_option linter.unusedVariables false
set_option linter.unusedSimpArgs false
open Go.RowKit
attribute [local go_sem ↓] Go.wp_at_zero Go.wp_at_succ

set_option maxHeartbeats 8000000 in
set_option maxRecDepth 100000 in
theorem draws_law (ls : List (List Int)) (A : Option Addr) (c : Nat) (rw_ : List (List Pt)) (AR : Option Addr) (cR : Nat) (un : Int) (w : World) (hn : ∀ l ∈ ls, l.length ≤ 9223372036854775807) (hls : ls.length ≤ 9223372036854775807) (hrl : rw_.length ≤ 9223372036854775807)
    (hun : -9223372036854775808 ≤ un ∧ un ≤ 9223372036854775807)
    (hr : RdIs w w.heap.size A ls) (hrr : RwPs w w.heap.size AR rw_) :
    Calls Try.prog 15 #[.slice A ls.length c, .slice AR rw_.length cR, .int .i64 un] w fun e w' => e = .returned (.bool true) ∧ Below w.heap.size w w' := by
  have HR := Lib.hid hr
  have HRR := Lib.hid hrr
  have CC := Lib.hid (fun w h => cut7_any rw_ AR cR w hrl h)
  have CMD := Lib.hid (fun w h => Made7_any ls A c w hn hls h)
  have CMV := Lib.hid (fun A' c' w h => Moved_any (m7s ls) A' c' 3 1073741424 5 w (by have := m7s_len ls; omega) (fun p hp => by have := (m7s_small ls p hp).1; omega) (fun p hp q hq => by have := (m7s_small ls p hp).2 q hq; unfold smallP at this; omega) (by omega) (by omega) (by omega) h)
  have hl1 := m7s_len ls
  have hl2 := m7s_small ls
  have hl3 := cutL_len rw_
  have hl4 := cutL_small rw_
  have hl5 := moved_len 3 1073741424 5 (m7s ls)
  have hl6 := moved_small (tm := 3) (x := 1073741424) (y := 5) (c := 8) (fun p hp => (m7s_small ls p hp).1)
  generalize moved 3 1073741424 5 (m7s ls) = lm at *
  generalize m7s ls = l7 at *
  generalize cutL rw_ = lc at *
  have HL := Lib.hid (show l7.length ≤ 1000 ∧ (∀ p ∈ l7, p.length ≤ 1000) ∧ lm.length ≤ 1000 ∧ (∀ p ∈ lm, p.length ≤ 1000) ∧ lc.length ≤ 1000 ∧ (∀ p ∈ lc, p.length ≤ 1000) from ⟨by omega, fun p hp => by have := (hl2 p hp).1; omega, by omega, fun p hp => by have := hl6 p hp; omega, by omega, fun p hp => by have := hl4 p hp; omega⟩)
  have HL5 := Lib.hid hl5
  have CM5 := Lib.hid (fun w => Mod_any un 10 w (by omega) (by omega))
  clear hr hrr hn hl1 hl2 hl3 hl4 hl5 hl6
  obtain ⟨hun1, hun2⟩ := hun
  generalize un % 10 = r0 at *
  go_enter Try.func15, Try.ntmps15
  go_wp2_with fail
  generalize hp : w.heap.size = p at *
  have HP := Lib.hid hp
  clear hp
  refine (sanity07 _).mono ?_
  rintro e w1 ⟨rfl, hb1⟩
  rw [HP.out] at hb1
  have hz : p ≤ w1.heap.size := by have := hb1.size; have := HP.out; omega
  go_wp2_with fail
  refine (CMD.out _ (((HR.out.below hb1 (Nat.le_refl _)).more hz))).mono ?_
  rintro e w3 ⟨AM, cM, rfl, hrM, hba⟩
  have hb3 := hb1.trans (hba.mono hz)
  replace hz : p ≤ w3.heap.size := by have := hba.size; omega
  clear hba hb1
  go_wp2_with fail
  refine (CMV.out _ _ _ hrM).mono ?_
  rintro e w4 ⟨AV, cV, rfl, hrV, hba⟩
  rw [← HL5.out]
  replace hrM := hrM.on hba
  have hb4 := hb3.trans (hba.mono hz)
  replace hz : p ≤ w4.heap.size := by have := hba.size; omega
  clear hba hb3
  go_wp2_with fail
  refine (CC.out _ ((HRR.out.below hb4 (Nat.le_refl _)).more hz)).mono ?_
  rintro e w5 ⟨AC, cC, rfl, hrC, hba⟩
  replace hrM := hrM.on hba
  replace hrV := hrV.on hba
  have hb5 := hb4.trans (hba.mono hz)
  replace hz : p ≤ w5.heap.size := by have := hba.size; omega
  clear hba hb4 CC CMD CMV HR HRR
  go_upto_region 4 with fail
  refine wp_world (fun W6 hW6 => ?_)
  obtain ⟨hQ40, hba, hsn⟩ := new1 hW6
  clear hW6
  replace hrC := hrC.on hba
  replace hrM := hrM.on hba
  replace hrV := hrV.on hba
  have hb6 := hb5.trans (hba.mono hz)
  replace hz : p ≤ W6.heap.size := by have := hba.size; omega
  clear hba hb5 hsn
  generalize hqq : w5.heap.size = q40 at *
  clear hqq
  have HPL : Hid (∀ i : Nat, i < 3 → ∃ (Ai : Option Addr) (li : List (List Pt)) (ci : Nat), W6.cell? ⟨q40, i, none⟩ = some (.slice Ai li.length ci) ∧ RdPs W6 W6.heap.size Ai li ∧ li.length ≤ 1000 ∧ ∀ p ∈ li, p.length ≤ 1000) := Lib.hid (by
    obtain ⟨h1, h2, h3, h4, h5, h6⟩ := HL.out
    have h := hQ40.three.1
    intro i hi
    match i, hi with
    | 0, _ => exact ⟨AM, l7, cM, by rw [← HL5.out]; exact h.1, hrM, h1, h2⟩
    | 1, _ => exact ⟨_, lm, _, h.2.1, hrV, h3, h4⟩
    | 2, _ => exact ⟨_, lc, _, h.2.2, hrC, h5, h6⟩)
  have z40 := hQ40.lt
  clear hQ40 hrC hrM hrV HL HL5
  go_loopw [10, 27] (fun _ s42 wr => ∃ i : Nat, i ≤ 3 ∧ s42 = .int .i64 i ∧ Below W6.heap.size W6 wr) (fun _ s42 _ => 3 - (intOf s42).toNat)
  case atStart => exact ⟨0, by omega, rfl, Below.refl _ _⟩
  case round =>
    obtain ⟨i, hi, rfl, hbr⟩ := hrel
    have hcr := (sb_of hbr).1
    have hzr := hbr.size
    by_cases hi3 : i < 3
    · have i0 : (0 : Int) ≤ (i : Int) := by omega
      have i3 : (i : Int) < 3 := by omega
      obtain ⟨Ai, li, ci, hci, hri, hli, hlp⟩ := HPL.out i hi3
      have CD := Lib.hid (fun u w h => raster_Dots li Ai ci u w hli hlp h)
      have CDR := Lib.hid (fun u w h => ref07_Dots li Ai ci u w hli hlp h)
      have HDL := Lib.hid (fun u => dotsV_len li u)
      clear hlp
      go_wp2_with fail
      refine (CM5.out _).mono ?_
      rintro e wo ⟨rfl, rfl⟩
      go_upto_region 7 with fail
      refine wp_world (fun W7 hW7 => ?_)
      obtain ⟨hQ66, hba, hsn⟩ := new1 hW7
      clear hW7 hcr hci
      have hb7 := hbr.trans (hba.mono hzr)
      have hri7 := (hri.below hb7 (Nat.le_refl _)).more hb7.size
      generalize hqq : wr.heap.size = q66 at *
      clear hqq hsn hba hzr hbr
      have HX : Hid (∀ j : Nat, j < 4 → ∃ a : Int, W7.cell? ⟨q66, j, none⟩ = some (.int .i64 a)) := Lib.hid (by
        have h := hQ66.n4.1
        intro j hj
        match j, hj with
        | 0, _ => exact ⟨_, h.1⟩
        | 1, _ => exact ⟨_, h.2.1⟩
        | 2, _ => exact ⟨_, h.2.2.1⟩
        | 3, _ => exact ⟨_, h.2.2.2⟩)
      have z66 := hQ66.lt
      clear hQ66 hri
      have hz7 := hb7.size
      go_loopw [12, 37] (fun _ s68 wr => ∃ j : Nat, j ≤ 4 ∧ s68 = .int .i64 j ∧ Below W7.heap.size W7 wr) (fun _ s68 _ => 4 - (intOf s68).toNat)
      case atStart => exact ⟨0, by omega, rfl, Below.refl _ _⟩
      case round =>
        obtain ⟨j, hj, rfl, hbr⟩ := hrel
        have hcr := (sb_of hbr).1
        have hzr := hbr.size
        by_cases hj4 : j < 4
        · have j0 : (0 : Int) ≤ (j : Int) := by omega
          have j4 : (j : Int) < 4 := by omega
          obtain ⟨xa, hx0⟩ := HX.out j hj4
          have hri8 := (hri7.below hbr (Nat.le_refl _)).more hbr.size
          have HV := Lib.hid (HDL.out xa)
          have CD1 := Lib.hid (fun w h => CD.out xa w h)
          have CD2 := Lib.hid (fun w h => CDR.out xa w h)
          generalize dotsV li xa = V at *
          go_wp2_with fail
          refine (CD1.out _ hri8).mono ?_
          rintro e w8 ⟨⟨A1, c1, rfl, hd1⟩, hb8⟩
          have hb9 := hbr.trans (hb8.mono hzr)
          have hri9 := hri8.on hb8
          clear hcr hx0 hbr
          go_wp2_with fail
          refine calls_world (fun W9 hW9 => ?_)
          obtain ⟨q13, eqq, hQ13, hbq, hsq⟩ := new1n hW9
          clear hW9
          rw [← eqq] at hbq
          try rw [eqq]
          have hb10 := hb9.trans (hbq.mono (by have := hb8.size; omega))
          have hd2 := (hd1.below hbq (Nat.le_refl _)).more hbq.size
          have hri10 := hri9.on hbq
          refine (CD2.out _ hri10).mono ?_
          rintro e w11 ⟨⟨A2, c2, rfl, hd3⟩, hb11⟩
          have hQ13' := hQ13.below hb11 hQ13.lt
          have hd4 := (hd2.below hb11 (Nat.le_refl _)).more hb11.size
          have hb12 := hb10.trans (hb11.mono (by have := hb10.size; omega))
          clear hbq hsq hb8 hb9 hb10 hri9 hri10 hd1 hd2 hQ13 hb11 eqq
          go_upto_region 11 with fail
          refine wp_world (fun W12 hW12 => ?_)
          obtain ⟨q15, eqq, hQ15, hbq, hsq⟩ := new1n hW12
          clear hW12
          rw [← eqq] at hbq
          try rw [eqq]
          have hb13 := hb12.trans (hbq.mono (by have := hb12.size; omega))
          have hQ13'' := hQ13'.below hbq hQ13'.lt
          have hd5 := (hd4.below hbq (Nat.le_refl _)).more hbq.size
          have hd6 := (hd3.below hbq (Nat.le_refl _)).more hbq.size
          obtain ⟨k0, k1, k2, k3, k4⟩ := hQ13''.five
          obtain ⟨l0, l1, l2, l3, l4⟩ := hQ15.five
          have CS := Lib.hid (ref07_Same V.L V.B V.W V.H A1 c1 V.D V.L V.B V.W V.H A2 c2 V.D W12 (by have := HV.out; omega) (by have := HV.out; omega) hd5 hd6)
          rw [show same7 V.L V.B V.W V.H V.D V.L V.B V.W V.H V.D = true from by simp [same7, sameB]] at CS
          clear hb12 hQ13' hQ13'' hQ15 hbq hd3 hd4 hd5 hd6 HV eqq
          go_wp2_with fail
          refine CS.out.mono ?_
          rintro e w14 ⟨rfl, hb14⟩
          have hb15 := hb13.trans (hb14.mono hb13.size)
          clear hb13 hb14 CS k0 k1 k2 k3 k4 l0 l1 l2 l3 l4
          go_wp2_with fail
          go_roundw
          case rel => exact ⟨j + 1, by omega, by go_num, hb15⟩
          case measure => simp [intOf]; omega
        · have j4 : ¬ (j : Int) < 4 := by omega
          go_wp2
          go_roundw
          case rel => exact ⟨i + 1, by omega, by go_num, hb7.trans (hbr.mono hz7)⟩
          case measure => simp [intOf]; omega
    · have i3 : ¬ (i : Int) < 3 := by omega
      go_wp2
      go_ret
      exact ⟨rfl, by rw [HP.out]; exact hb6.trans (hbr.mono hz)⟩
end Go.Proofs.Ytlanefdeeanpnaa
