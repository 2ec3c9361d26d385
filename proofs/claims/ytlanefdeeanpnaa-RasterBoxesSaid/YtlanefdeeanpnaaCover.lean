/-
  Contracts of cover and both Covers of layer 7: they answer alike. Conditions: at most 1000 polygons with at most 1000 points, read below the heap's size. (Printed by gencover.py.)
-/
import Derived.Test.YtlanefdeeanpnaaWindR
namespace Go.Proofs.Ytlanefdeeanpnaa
set_option linter.unusedVariables false
set_option linter.unusedSimpArgs false
open Go.RowKit
attribute [local go_sem ↓] Go.wp_at_zero Go.wp_at_succ

set_option maxHeartbeats 2000000 in
set_option maxRecDepth 100000 in
theorem ref07_Winding (ls : List (List Pt)) (A : Option Addr) (c : Nat) (x y : Int) (w : World) (hl : ls.length ≤ 1000) (hp : ∀ p ∈ ls, p.length ≤ 1000) (hr : RdPs w w.heap.size A ls) :
    Calls Try.prog 55 #[.slice A ls.length c, .int .i64 x, .int .i64 y] w fun e w' => e = .returned (.int .i64 (windV ls x y)) ∧ Below w.heap.size w w' := by
  by_cases hall : allIn ls = true ∧ inB x = true ∧ inB y = true
  · rw [windV_yes hall]
    exact ref07_Winding_in ls A c x y w hl hp hall.1 hall.2.1 hall.2.2 hr
  · rw [windV_no hall]
    have CR := Lib.hid (fun h => ref07_ranged ls A c w hl hp h)
    have CX := Lib.hid (ref07_in x)
    have CY := Lib.hid (ref07_in y)
    have HR := Lib.hid hr
    have HA := Lib.hid hall
    clear hr hp hall
    generalize allIn ls = ba at *
    generalize inB x = bx at *
    generalize inB y = bb at *
    generalize ls.length = l at *
    go_enter Try.func55, Try.ntmps55
    go_wp2_with fail
    refine (CR.out HR.out).mono ?_
    rintro e wa ⟨rfl, rfl⟩
    cases ba with
    | false =>
      go_wp2
      go_ret
      exact ⟨rfl, Below.refl _ _⟩
    | true =>
      go_wp2_with fail
      refine (CX.out _).mono ?_
      rintro e wa ⟨rfl, rfl⟩
      cases bx with
      | false =>
        go_wp2
        go_ret
        exact ⟨rfl, Below.refl _ _⟩
      | true =>
        go_wp2_with fail
        refine (CY.out _).mono ?_
        rintro e wa ⟨rfl, rfl⟩
        cases bb with
        | false =>
          go_wp2
          go_ret
          exact ⟨rfl, Below.refl _ _⟩
        | true => exact absurd (by simp) HA.out

def cvS (ls : List (List Pt)) (a b : Int) : Int := if windV ls a b = 0 then 0 else 1
/-- The samples of a dot, up to number t. -/
def cvT (ls : List (List Pt)) (u x y q : Int) : Nat → Int
  | 0 => 0
  | 1 => 0 + cvS ls (u * x + q) (u * y + q)
  | 2 => 0 + cvS ls (u * x + q) (u * y + q) + cvS ls (u * x + 3 * q) (u * y + q)
  | 3 => 0 + cvS ls (u * x + q) (u * y + q) + cvS ls (u * x + 3 * q) (u * y + q) + cvS ls (u * x + q) (u * y + 3 * q)
  | _ => 0 + cvS ls (u * x + q) (u * y + q) + cvS ls (u * x + 3 * q) (u * y + q) + cvS ls (u * x + q) (u * y + 3 * q) + cvS ls (u * x + 3 * q) (u * y + 3 * q)
theorem cvS_small (ls : List (List Pt)) (a b : Int) : 0 ≤ cvS ls a b ∧ cvS ls a b ≤ 1 := by
  unfold cvS
  split <;> omega
theorem cvS_no {ls : List (List Pt)} {a b : Int} (h : ¬ (inB a = true ∧ inB b = true)) : cvS ls a b = 0 := by
  unfold cvS
  rw [windV_no (fun g => h g.2)]
  rfl
theorem cvS_yes {ls : List (List Pt)} {a b : Int} (h : allIn ls = true) (ha : inB a = true) (hb : inB b = true) : cvS ls a b = if windN ls a b = 0 then 0 else 1 := by
  unfold cvS
  rw [windV_yes ⟨h, ha, hb⟩]
theorem cvT_small (ls : List (List Pt)) (u x y q : Int) (t : Nat) : 0 ≤ cvT ls u x y q t ∧ cvT ls u x y q t ≤ 4 := by
  have h1 := cvS_small ls (u * x + q) (u * y + q)
  have h2 := cvS_small ls (u * x + 3 * q) (u * y + q)
  have h3 := cvS_small ls (u * x + q) (u * y + 3 * q)
  have h4 := cvS_small ls (u * x + 3 * q) (u * y + 3 * q)
  unfold cvT
  split <;> omega

set_option maxHeartbeats 4000000 in
set_option maxRecDepth 100000 in
theorem raster_cover (ls : List (List Pt)) (A : Option Addr) (c : Nat) (u x y q : Int) (w : World) (hl : ls.length ≤ 1000) (hp : ∀ p ∈ ls, p.length ≤ 1000) (ha : allIn ls = true) (hu : 4 ≤ u ∧ u ≤ 1073741824) (hq : u = 4 * q) (hx : -1073741824 ≤ x ∧ x ≤ 1073741824) (hy : -1073741824 ≤ y ∧ y ≤ 1073741824) (hr : RdPs w w.heap.size A ls) :
    Calls Try.prog 95 #[.slice A ls.length c, .int .i64 u, .int .i64 x, .int .i64 y] w fun e w' => e = .returned (.int .i64 (cvT ls u x y q 4)) ∧ Below w.heap.size w w' := by
  obtain ⟨hu1, hu2⟩ := hu
  obtain ⟨hx1, hx2⟩ := hx
  obtain ⟨hy1, hy2⟩ := hy
  have hqb1 : 1 ≤ q := by omega
  have hqb2 : q ≤ 268435456 := by omega
  have hq4 : u.tdiv 4 = q := by rw [Int.tdiv_eq_ediv_of_nonneg (by omega)]; omega
  have hq34 : (3 * u).tdiv 4 = 3 * q := by rw [Int.tdiv_eq_ediv_of_nonneg (by omega)]; omega
  have hq2 : u.tdiv 2 = 2 * q := by rw [Int.tdiv_eq_ediv_of_nonneg (by omega)]; omega
  have hPX := prod_bound (u := u) (v := x) (by omega) (by omega)
  have hPY := prod_bound (u := u) (v := y) (by omega) (by omega)
  have wx0 : wrap64 (u * x) = u * x := w64 (by omega) (by omega)
  have wy0 : wrap64 (u * y) = u * y := w64 (by omega) (by omega)
  have wx1 : wrap64 (u * x + q) = u * x + q := w64 (by omega) (by omega)
  have wy1 : wrap64 (u * y + q) = u * y + q := w64 (by omega) (by omega)
  have wx3 : wrap64 (u * x + 3 * q) = u * x + 3 * q := w64 (by omega) (by omega)
  have wy3 : wrap64 (u * y + 3 * q) = u * y + 3 * q := w64 (by omega) (by omega)
  have wr3 : wrap64 (u * x + q + 2 * q) = u * x + q + 2 * q := w64 (by omega) (by omega)
  have ws3 : wrap64 (u * y + q + 2 * q) = u * y + q + 2 * q := w64 (by omega) (by omega)
  have wq1 : wrap64 q = q := w64 (by omega) (by omega)
  have wq3 : wrap64 (3 * q) = 3 * q := w64 (by omega) (by omega)
  have wq2 : wrap64 (2 * q) = 2 * q := w64 (by omega) (by omega)
  have HR := Lib.hid hr
  have HP := Lib.hid hp
  have HIN := Lib.hid ha
  have HSM := Lib.hid (cvT_small ls u x y q)
  clear hr hp ha hPX hPY hq
  go_enter Try.func95, Try.ntmps95
  go_wp2_with fail
  go_loopw [9, 13] (fun sn sk wr => ∃ k : Nat, k ≤ 4 ∧ sk = .int .i64 k ∧ sn = .int .i64 (cvT ls u x y q k) ∧ Below w.heap.size w wr) (fun _ sk _ => 4 - (intOf sk).toNat)
  case atStart => exact ⟨0, by omega, rfl, rfl, Below.refl _ _⟩
  case round =>
    obtain ⟨k, hk, rfl, rfl, hbr⟩ := hrel
    have hsm := HSM.out k
    have hk5 : k = 0 ∨ k = 1 ∨ k = 2 ∨ k = 3 ∨ k = 4 := by omega
    rcases hk5 with rfl | rfl | rfl | rfl | rfl
    · skip
      have hst := Lib.hid (show cvT ls u x y q 1 = cvT ls u x y q 0 + cvS ls (u * x + q) (u * y + q) from rfl)
      generalize cvT ls u x y q 0 = n0 at *
      have CXI := Lib.hid (raster_in (u * x + q))
      have CYI := Lib.hid (raster_in (u * y + q))
      go_wp2_with fail
      refine (CXI.out _).mono ?_
      rintro e wa ⟨rfl, rfl⟩
      cases hx : inB (u * x + q) with
      | false =>
        have hcs := hst.out.trans (by rw [cvS_no (fun h => by rw [hx] at h; cases h.1)])
        clear hx
        go_wp2_with fail
        go_roundw
        case rel => exact ⟨1, by omega, by go_num, by rw [hcs]; simp, hbr⟩
        case measure => simp [intOf]
      | true =>
        go_wp2_with fail
        refine (CYI.out _).mono ?_
        rintro e wa ⟨rfl, rfl⟩
        cases hy : inB (u * y + q) with
        | false =>
          have hcs := hst.out.trans (by rw [cvS_no (fun h => by rw [hy] at h; cases h.2)])
          clear hx hy
          go_wp2_with fail
          go_roundw
          case rel => exact ⟨1, by omega, by go_num, by rw [hcs]; simp, hbr⟩
          case measure => simp [intOf]
        | true =>
          have hcv := Lib.hid (cvS_yes (ls := ls) HIN.out hx hy)
          have CW := Lib.hid (fun w h => raster_winding ls A c (u * x + q) (u * y + q) w hl HP.out HIN.out hx hy h)
          clear hx hy
          go_wp2_with fail
          refine (CW.out _ (HR.out.on hbr)).mono ?_
          rintro e wb ⟨rfl, hbb⟩
          have hbw := hbr.trans (hbb.mono hbr.size)
          generalize windN ls (u * x + q) (u * y + q) = wn at *
          by_cases hw : wn = 0
          · have hcs := hst.out.trans (by rw [hcv.out, if_pos hw])
            subst hw
            go_wp2_with fail
            go_roundw
            case rel => exact ⟨1, by omega, by go_num, by rw [hcs]; simp, hbw⟩
            case measure => simp [intOf]
          · have hcs := hst.out.trans (by rw [hcv.out, if_neg hw])
            go_wp2_with fail
            go_roundw
            case rel => exact ⟨1, by omega, by go_num, by rw [hcs], hbw⟩
            case measure => simp [intOf]
    · skip
      have hst := Lib.hid (show cvT ls u x y q 2 = cvT ls u x y q 1 + cvS ls (u * x + 3 * q) (u * y + q) from rfl)
      generalize cvT ls u x y q 1 = n0 at *
      have CXI := Lib.hid (raster_in (u * x + 3 * q))
      have CYI := Lib.hid (raster_in (u * y + q))
      go_wp2_with fail
      refine (CXI.out _).mono ?_
      rintro e wa ⟨rfl, rfl⟩
      cases hx : inB (u * x + 3 * q) with
      | false =>
        have hcs := hst.out.trans (by rw [cvS_no (fun h => by rw [hx] at h; cases h.1)])
        clear hx
        go_wp2_with fail
        go_roundw
        case rel => exact ⟨2, by omega, by go_num, by rw [hcs]; simp, hbr⟩
        case measure => simp [intOf]
      | true =>
        go_wp2_with fail
        refine (CYI.out _).mono ?_
        rintro e wa ⟨rfl, rfl⟩
        cases hy : inB (u * y + q) with
        | false =>
          have hcs := hst.out.trans (by rw [cvS_no (fun h => by rw [hy] at h; cases h.2)])
          clear hx hy
          go_wp2_with fail
          go_roundw
          case rel => exact ⟨2, by omega, by go_num, by rw [hcs]; simp, hbr⟩
          case measure => simp [intOf]
        | true =>
          have hcv := Lib.hid (cvS_yes (ls := ls) HIN.out hx hy)
          have CW := Lib.hid (fun w h => raster_winding ls A c (u * x + 3 * q) (u * y + q) w hl HP.out HIN.out hx hy h)
          clear hx hy
          go_wp2_with fail
          refine (CW.out _ (HR.out.on hbr)).mono ?_
          rintro e wb ⟨rfl, hbb⟩
          have hbw := hbr.trans (hbb.mono hbr.size)
          generalize windN ls (u * x + 3 * q) (u * y + q) = wn at *
          by_cases hw : wn = 0
          · have hcs := hst.out.trans (by rw [hcv.out, if_pos hw])
            subst hw
            go_wp2_with fail
            go_roundw
            case rel => exact ⟨2, by omega, by go_num, by rw [hcs]; simp, hbw⟩
            case measure => simp [intOf]
          · have hcs := hst.out.trans (by rw [hcv.out, if_neg hw])
            go_wp2_with fail
            go_roundw
            case rel => exact ⟨2, by omega, by go_num, by rw [hcs], hbw⟩
            case measure => simp [intOf]
    · skip
      have hst := Lib.hid (show cvT ls u x y q 3 = cvT ls u x y q 2 + cvS ls (u * x + q) (u * y + 3 * q) from rfl)
      generalize cvT ls u x y q 2 = n0 at *
      have CXI := Lib.hid (raster_in (u * x + q))
      have CYI := Lib.hid (raster_in (u * y + 3 * q))
      go_wp2_with fail
      refine (CXI.out _).mono ?_
      rintro e wa ⟨rfl, rfl⟩
      cases hx : inB (u * x + q) with
      | false =>
        have hcs := hst.out.trans (by rw [cvS_no (fun h => by rw [hx] at h; cases h.1)])
        clear hx
        go_wp2_with fail
        go_roundw
        case rel => exact ⟨3, by omega, by go_num, by rw [hcs]; simp, hbr⟩
        case measure => simp [intOf]
      | true =>
        go_wp2_with fail
        refine (CYI.out _).mono ?_
        rintro e wa ⟨rfl, rfl⟩
        cases hy : inB (u * y + 3 * q) with
        | false =>
          have hcs := hst.out.trans (by rw [cvS_no (fun h => by rw [hy] at h; cases h.2)])
          clear hx hy
          go_wp2_with fail
          go_roundw
          case rel => exact ⟨3, by omega, by go_num, by rw [hcs]; simp, hbr⟩
          case measure => simp [intOf]
        | true =>
          have hcv := Lib.hid (cvS_yes (ls := ls) HIN.out hx hy)
          have CW := Lib.hid (fun w h => raster_winding ls A c (u * x + q) (u * y + 3 * q) w hl HP.out HIN.out hx hy h)
          clear hx hy
          go_wp2_with fail
          refine (CW.out _ (HR.out.on hbr)).mono ?_
          rintro e wb ⟨rfl, hbb⟩
          have hbw := hbr.trans (hbb.mono hbr.size)
          generalize windN ls (u * x + q) (u * y + 3 * q) = wn at *
          by_cases hw : wn = 0
          · have hcs := hst.out.trans (by rw [hcv.out, if_pos hw])
            subst hw
            go_wp2_with fail
            go_roundw
            case rel => exact ⟨3, by omega, by go_num, by rw [hcs]; simp, hbw⟩
            case measure => simp [intOf]
          · have hcs := hst.out.trans (by rw [hcv.out, if_neg hw])
            go_wp2_with fail
            go_roundw
            case rel => exact ⟨3, by omega, by go_num, by rw [hcs], hbw⟩
            case measure => simp [intOf]
    · skip
      have hst := Lib.hid (show cvT ls u x y q 4 = cvT ls u x y q 3 + cvS ls (u * x + 3 * q) (u * y + 3 * q) from rfl)
      generalize cvT ls u x y q 3 = n0 at *
      have CXI := Lib.hid (raster_in (u * x + 3 * q))
      have CYI := Lib.hid (raster_in (u * y + 3 * q))
      go_wp2_with fail
      refine (CXI.out _).mono ?_
      rintro e wa ⟨rfl, rfl⟩
      cases hx : inB (u * x + 3 * q) with
      | false =>
        have hcs := hst.out.trans (by rw [cvS_no (fun h => by rw [hx] at h; cases h.1)])
        clear hx
        go_wp2_with fail
        go_roundw
        case rel => exact ⟨4, by omega, by go_num, by rw [hcs]; simp, hbr⟩
        case measure => simp [intOf]
      | true =>
        go_wp2_with fail
        refine (CYI.out _).mono ?_
        rintro e wa ⟨rfl, rfl⟩
        cases hy : inB (u * y + 3 * q) with
        | false =>
          have hcs := hst.out.trans (by rw [cvS_no (fun h => by rw [hy] at h; cases h.2)])
          clear hx hy
          go_wp2_with fail
          go_roundw
          case rel => exact ⟨4, by omega, by go_num, by rw [hcs]; simp, hbr⟩
          case measure => simp [intOf]
        | true =>
          have hcv := Lib.hid (cvS_yes (ls := ls) HIN.out hx hy)
          have CW := Lib.hid (fun w h => raster_winding ls A c (u * x + 3 * q) (u * y + 3 * q) w hl HP.out HIN.out hx hy h)
          clear hx hy
          go_wp2_with fail
          refine (CW.out _ (HR.out.on hbr)).mono ?_
          rintro e wb ⟨rfl, hbb⟩
          have hbw := hbr.trans (hbb.mono hbr.size)
          generalize windN ls (u * x + 3 * q) (u * y + 3 * q) = wn at *
          by_cases hw : wn = 0
          · have hcs := hst.out.trans (by rw [hcv.out, if_pos hw])
            subst hw
            go_wp2_with fail
            go_roundw
            case rel => exact ⟨4, by omega, by go_num, by rw [hcs]; simp, hbw⟩
            case measure => simp [intOf]
          · have hcs := hst.out.trans (by rw [hcv.out, if_neg hw])
            go_wp2_with fail
            go_roundw
            case rel => exact ⟨4, by omega, by go_num, by rw [hcs], hbw⟩
            case measure => simp [intOf]
    · go_wp2
      go_ret
      exact ⟨rfl, hbr⟩

set_option maxHeartbeats 4000000 in
set_option maxRecDepth 100000 in
theorem ref07_Cover_in (ls : List (List Pt)) (A : Option Addr) (c : Nat) (u x y q : Int) (w : World) (hl : ls.length ≤ 1000) (hp : ∀ p ∈ ls, p.length ≤ 1000) (hu : 4 ≤ u ∧ u ≤ 1073741824) (hq : u = 4 * q) (hx : -1073741824 ≤ x ∧ x ≤ 1073741824) (hy : -1073741824 ≤ y ∧ y ≤ 1073741824) (hv : validB u = true) (hxi : inB x = true) (hyi : inB y = true) (hr : RdPs w w.heap.size A ls) :
    Calls Try.prog 57 #[.slice A ls.length c, .int .i64 u, .int .i64 x, .int .i64 y] w fun e w' => e = .returned (.int .i64 (cvT ls u x y q 4)) ∧ Below w.heap.size w w' := by
  obtain ⟨hu1, hu2⟩ := hu
  obtain ⟨hx1, hx2⟩ := hx
  obtain ⟨hy1, hy2⟩ := hy
  have hqb1 : 1 ≤ q := by omega
  have hqb2 : q ≤ 268435456 := by omega
  have hq4 : u.tdiv 4 = q := by rw [Int.tdiv_eq_ediv_of_nonneg (by omega)]; omega
  have hq34 : (3 * u).tdiv 4 = 3 * q := by rw [Int.tdiv_eq_ediv_of_nonneg (by omega)]; omega
  have hq2 : u.tdiv 2 = 2 * q := by rw [Int.tdiv_eq_ediv_of_nonneg (by omega)]; omega
  have hPX := prod_bound (u := u) (v := x) (by omega) (by omega)
  have hPY := prod_bound (u := u) (v := y) (by omega) (by omega)
  have wx0 : wrap64 (u * x) = u * x := w64 (by omega) (by omega)
  have wy0 : wrap64 (u * y) = u * y := w64 (by omega) (by omega)
  have wx1 : wrap64 (u * x + q) = u * x + q := w64 (by omega) (by omega)
  have wy1 : wrap64 (u * y + q) = u * y + q := w64 (by omega) (by omega)
  have wx3 : wrap64 (u * x + 3 * q) = u * x + 3 * q := w64 (by omega) (by omega)
  have wy3 : wrap64 (u * y + 3 * q) = u * y + 3 * q := w64 (by omega) (by omega)
  have wr3 : wrap64 (u * x + q + 2 * q) = u * x + q + 2 * q := w64 (by omega) (by omega)
  have ws3 : wrap64 (u * y + q + 2 * q) = u * y + q + 2 * q := w64 (by omega) (by omega)
  have wq1 : wrap64 q = q := w64 (by omega) (by omega)
  have wq3 : wrap64 (3 * q) = 3 * q := w64 (by omega) (by omega)
  have wq2 : wrap64 (2 * q) = 2 * q := w64 (by omega) (by omega)
  have HR := Lib.hid hr
  have HP := Lib.hid hp
  have CV := Lib.hid (ref07_valid u)
  rw [hv] at CV
  have CX := Lib.hid (ref07_in x)
  have CY := Lib.hid (ref07_in y)
  rw [hxi] at CX
  rw [hyi] at CY
  have HSM := Lib.hid (cvT_small ls u x y q)
  clear hr hp hv hxi hyi hPX hPY hq
  go_enter Try.func57, Try.ntmps57
  go_wp2_with fail
  refine (CV.out _).mono ?_
  rintro e wa ⟨rfl, rfl⟩
  go_wp2_with fail
  refine (CX.out _).mono ?_
  rintro e wa ⟨rfl, rfl⟩
  go_wp2_with fail
  refine (CY.out _).mono ?_
  rintro e wa ⟨rfl, rfl⟩
  go_wp2_with fail
  go_loopw [9, 10] (fun sn sk wr => ∃ k : Nat, k ≤ 4 ∧ sk = .int .i64 k ∧ sn = .int .i64 (cvT ls u x y q k) ∧ Below w.heap.size w wr) (fun _ sk _ => 4 - (intOf sk).toNat)
  case atStart => exact ⟨0, by omega, rfl, rfl, Below.refl _ _⟩
  case round =>
    obtain ⟨k, hk, rfl, rfl, hbr⟩ := hrel
    have hsm := HSM.out k
    have hk5 : k = 0 ∨ k = 1 ∨ k = 2 ∨ k = 3 ∨ k = 4 := by omega
    rcases hk5 with rfl | rfl | rfl | rfl | rfl
    · skip
      have hst := Lib.hid (show cvT ls u x y q 1 = cvT ls u x y q 0 + cvS ls (u * x + q) (u * y + q) from by rw [show u * x + q = u * x + q by omega, show u * y + q = u * y + q by omega]; rfl)
      generalize cvT ls u x y q 0 = n0 at *
      have CW := Lib.hid (fun w h => ref07_Winding ls A c (u * x + q) (u * y + q) w hl HP.out h)
      go_wp2_with fail
      refine (CW.out _ (HR.out.on hbr)).mono ?_
      rintro e wb ⟨rfl, hbb⟩
      have hbw := hbr.trans (hbb.mono hbr.size)
      unfold cvS at hst
      generalize windV ls (u * x + q) (u * y + q) = wn at *
      by_cases hw : wn = 0
      · have hcs := hst.out.trans (by rw [if_pos hw])
        subst hw
        go_wp2_with fail
        go_roundw
        case rel => exact ⟨1, by omega, by go_num, by rw [hcs]; simp, hbw⟩
        case measure => simp [intOf]
      · have hcs := hst.out.trans (by rw [if_neg hw])
        go_wp2_with fail
        go_roundw
        case rel => exact ⟨1, by omega, by go_num, by rw [hcs], hbw⟩
        case measure => simp [intOf]
    · skip
      have hst := Lib.hid (show cvT ls u x y q 2 = cvT ls u x y q 1 + cvS ls (u * x + q + 2 * q) (u * y + q) from by rw [show u * x + q + 2 * q = u * x + 3 * q by omega, show u * y + q = u * y + q by omega]; rfl)
      generalize cvT ls u x y q 1 = n0 at *
      have CW := Lib.hid (fun w h => ref07_Winding ls A c (u * x + q + 2 * q) (u * y + q) w hl HP.out h)
      go_wp2_with fail
      refine (CW.out _ (HR.out.on hbr)).mono ?_
      rintro e wb ⟨rfl, hbb⟩
      have hbw := hbr.trans (hbb.mono hbr.size)
      unfold cvS at hst
      generalize windV ls (u * x + q + 2 * q) (u * y + q) = wn at *
      by_cases hw : wn = 0
      · have hcs := hst.out.trans (by rw [if_pos hw])
        subst hw
        go_wp2_with fail
        go_roundw
        case rel => exact ⟨2, by omega, by go_num, by rw [hcs]; simp, hbw⟩
        case measure => simp [intOf]
      · have hcs := hst.out.trans (by rw [if_neg hw])
        go_wp2_with fail
        go_roundw
        case rel => exact ⟨2, by omega, by go_num, by rw [hcs], hbw⟩
        case measure => simp [intOf]
    · skip
      have hst := Lib.hid (show cvT ls u x y q 3 = cvT ls u x y q 2 + cvS ls (u * x + q) (u * y + q + 2 * q) from by rw [show u * x + q = u * x + q by omega, show u * y + q + 2 * q = u * y + 3 * q by omega]; rfl)
      generalize cvT ls u x y q 2 = n0 at *
      have CW := Lib.hid (fun w h => ref07_Winding ls A c (u * x + q) (u * y + q + 2 * q) w hl HP.out h)
      go_wp2_with fail
      refine (CW.out _ (HR.out.on hbr)).mono ?_
      rintro e wb ⟨rfl, hbb⟩
      have hbw := hbr.trans (hbb.mono hbr.size)
      unfold cvS at hst
      generalize windV ls (u * x + q) (u * y + q + 2 * q) = wn at *
      by_cases hw : wn = 0
      · have hcs := hst.out.trans (by rw [if_pos hw])
        subst hw
        go_wp2_with fail
        go_roundw
        case rel => exact ⟨3, by omega, by go_num, by rw [hcs]; simp, hbw⟩
        case measure => simp [intOf]
      · have hcs := hst.out.trans (by rw [if_neg hw])
        go_wp2_with fail
        go_roundw
        case rel => exact ⟨3, by omega, by go_num, by rw [hcs], hbw⟩
        case measure => simp [intOf]
    · skip
      have hst := Lib.hid (show cvT ls u x y q 4 = cvT ls u x y q 3 + cvS ls (u * x + q + 2 * q) (u * y + q + 2 * q) from by rw [show u * x + q + 2 * q = u * x + 3 * q by omega, show u * y + q + 2 * q = u * y + 3 * q by omega]; rfl)
      generalize cvT ls u x y q 3 = n0 at *
      have CW := Lib.hid (fun w h => ref07_Winding ls A c (u * x + q + 2 * q) (u * y + q + 2 * q) w hl HP.out h)
      go_wp2_with fail
      refine (CW.out _ (HR.out.on hbr)).mono ?_
      rintro e wb ⟨rfl, hbb⟩
      have hbw := hbr.trans (hbb.mono hbr.size)
      unfold cvS at hst
      generalize windV ls (u * x + q + 2 * q) (u * y + q + 2 * q) = wn at *
      by_cases hw : wn = 0
      · have hcs := hst.out.trans (by rw [if_pos hw])
        subst hw
        go_wp2_with fail
        go_roundw
        case rel => exact ⟨4, by omega, by go_num, by rw [hcs]; simp, hbw⟩
        case measure => simp [intOf]
      · have hcs := hst.out.trans (by rw [if_neg hw])
        go_wp2_with fail
        go_roundw
        case rel => exact ⟨4, by omega, by go_num, by rw [hcs], hbw⟩
        case measure => simp [intOf]
    · go_wp2
      go_ret
      exact ⟨rfl, hbr⟩

/-- What Cover answers. -/
def coverV (ls : List (List Pt)) (u x y : Int) : Int := if validB u = true ∧ inB x = true ∧ inB y = true ∧ allIn ls = true then cvT ls u x y (u / 4) 4 else 0
theorem cvT_out {ls : List (List Pt)} (h : ¬ allIn ls = true) (u x y q : Int) : cvT ls u x y q 4 = 0 := by
  have h0 : ∀ a b, cvS ls a b = 0 := fun a b => by
    unfold cvS
    rw [windV_no (fun g => h g.1)]
    rfl
  unfold cvT
  rw [h0, h0, h0, h0]
  rfl

set_option maxHeartbeats 2000000 in
set_option maxRecDepth 100000 in
theorem raster_Cover (ls : List (List Pt)) (A : Option Addr) (c : Nat) (u x y : Int) (w : World) (hl : ls.length ≤ 1000) (hp : ∀ p ∈ ls, p.length ≤ 1000) (hr : RdPs w w.heap.size A ls) :
    Calls Try.prog 56 #[.slice A ls.length c, .int .i64 u, .int .i64 x, .int .i64 y] w fun e w' => e = .returned (.int .i64 (coverV ls u x y)) ∧ Below w.heap.size w w' := by
  have CV := Lib.hid (raster_valid u)
  have CX := Lib.hid (raster_in x)
  have CY := Lib.hid (raster_in y)
  have CR := Lib.hid (fun w h => raster_ranged ls A c w hl hp h)
  have CC := Lib.hid (fun (hv : validB u = true) (hx : inB x = true) (hy : inB y = true) (ha : allIn ls = true) w h => raster_cover ls A c u x y (u / 4) w hl hp ha ⟨(valid_yes hv).1, (valid_yes hv).2.1⟩ (by have := valid_yes hv; omega) (in_yes hx) (in_yes hy) h)
  have HR := Lib.hid hr
  have HN := Lib.hid (show ¬ (validB u = true ∧ inB x = true ∧ inB y = true ∧ allIn ls = true) → coverV ls u x y = 0 from fun h => if_neg h)
  have HY := Lib.hid (show (validB u = true ∧ inB x = true ∧ inB y = true ∧ allIn ls = true) → coverV ls u x y = cvT ls u x y (u / 4) 4 from fun h => if_pos h)
  have HRA := Lib.hid (show allIn ls = true → rangedN ls = (tot ls : Int) from fun h => if_pos h)
  have HRB := Lib.hid (show ¬ allIn ls = true → rangedN ls = -1 from fun h => if_neg h)
  clear hr hp
  generalize cvT ls u x y (u / 4) 4 = cv at *
  generalize coverV ls u x y = res at *
  generalize validB u = bv at *
  generalize inB x = bx at *
  generalize inB y = bb at *
  generalize allIn ls = ba at *
  generalize rangedN ls = rn at *
  generalize tot ls = tn at *
  generalize ls.length = l at *
  go_enter Try.func56, Try.ntmps56
  go_wp2_with fail
  refine (CV.out _).mono ?_
  rintro e wa ⟨rfl, rfl⟩
  cases bv with
  | false =>
    have hv := Lib.hid (HN.out (by simp))
    clear HN HY CC HRA HRB
    go_wp2
    go_ret
    exact ⟨ret_int hv.out.symm, Below.refl _ _⟩
  | true =>
    go_wp2_with fail
    refine (CX.out _).mono ?_
    rintro e wa ⟨rfl, rfl⟩
    cases bx with
    | false =>
      have hv := Lib.hid (HN.out (by simp))
      clear HN HY CC HRA HRB
      go_wp2
      go_ret
      exact ⟨ret_int hv.out.symm, Below.refl _ _⟩
    | true =>
      go_wp2_with fail
      refine (CY.out _).mono ?_
      rintro e wa ⟨rfl, rfl⟩
      cases bb with
      | false =>
        have hv := Lib.hid (HN.out (by simp))
        clear HN HY CC HRA HRB
        go_wp2
        go_ret
        exact ⟨ret_int hv.out.symm, Below.refl _ _⟩
      | true =>
        go_wp2_with fail
        refine (CR.out _ HR.out).mono ?_
        rintro e wb ⟨rfl, hb1⟩
        cases ba with
        | false =>
          have hv := Lib.hid (HN.out (by simp))
          rw [HRB.out (by simp)]
          clear HN HY CC HRA HRB
          go_wp2
          go_ret
          exact ⟨ret_int hv.out.symm, hb1⟩
        | true =>
          have hv := Lib.hid (HY.out (by simp))
          have C2 := Lib.hid (CC.out (by simp) (by simp) (by simp) (by simp))
          rw [HRA.out (by simp)]
          have htn : ¬ (tn : Int) < 0 := by omega
          clear HN HY CC HRA HRB
          go_wp2_with fail
          refine (C2.out _ (HR.out.on hb1)).mono ?_
          rintro e wc ⟨rfl, hbc⟩
          go_wp2
          go_ret
          exact ⟨ret_int hv.out.symm, hb1.trans (hbc.mono hb1.size)⟩

set_option maxHeartbeats 2000000 in
set_option maxRecDepth 100000 in
theorem ref07_Cover (ls : List (List Pt)) (A : Option Addr) (c : Nat) (u x y : Int) (w : World) (hl : ls.length ≤ 1000) (hp : ∀ p ∈ ls, p.length ≤ 1000) (hr : RdPs w w.heap.size A ls) :
    Calls Try.prog 57 #[.slice A ls.length c, .int .i64 u, .int .i64 x, .int .i64 y] w fun e w' => e = .returned (.int .i64 (coverV ls u x y)) ∧ Below w.heap.size w w' := by
  by_cases hall : validB u = true ∧ inB x = true ∧ inB y = true
  · obtain ⟨hv, hx, hy⟩ := hall
    have e : coverV ls u x y = cvT ls u x y (u / 4) 4 := by
      unfold coverV
      by_cases ha : allIn ls = true
      · rw [if_pos ⟨hv, hx, hy, ha⟩]
      · rw [if_neg (fun h => ha h.2.2.2), cvT_out ha]
    rw [e]
    exact ref07_Cover_in ls A c u x y (u / 4) w hl hp ⟨(valid_yes hv).1, (valid_yes hv).2.1⟩ (by have := valid_yes hv; omega) (in_yes hx) (in_yes hy) hv hx hy hr
  · have e : coverV ls u x y = 0 := if_neg (fun h => hall ⟨h.1, h.2.1, h.2.2.1⟩)
    rw [e]
    have CV := Lib.hid (ref07_valid u)
    have CX := Lib.hid (ref07_in x)
    have CY := Lib.hid (ref07_in y)
    have HA := Lib.hid hall
    clear hr hp hall e
    generalize validB u = bv at *
    generalize inB x = bx at *
    generalize inB y = bb at *
    generalize ls.length = l at *
    go_enter Try.func57, Try.ntmps57
    go_wp2_with fail
    refine (CV.out _).mono ?_
    rintro e wa ⟨rfl, rfl⟩
    cases bv with
    | false =>
      go_wp2
      go_ret
      exact ⟨rfl, Below.refl _ _⟩
    | true =>
      go_wp2_with fail
      refine (CX.out _).mono ?_
      rintro e wa ⟨rfl, rfl⟩
      cases bx with
      | false =>
        go_wp2
        go_ret
        exact ⟨rfl, Below.refl _ _⟩
      | true =>
        go_wp2_with fail
        refine (CY.out _).mono ?_
        rintro e wa ⟨rfl, rfl⟩
        cases bb with
        | false =>
          go_wp2
          go_ret
          exact ⟨rfl, Below.refl _ _⟩
        | true => exact absurd (by simp) HA.out
end Go.Proofs.Ytlanefdeeanpnaa
