/-
  The law HeadParts: for every argument the call returns true. Conditions: the lists' lengths fit an int, and they are read below the heap's size. (Printed by genparts.py.)
-/
import Derived.Test.YtlanefdeeanpnaaHMade
import Derived.Test.YtlanefdeeanpnaaSane37
import Derived.Test.YtlanefdeeanpnaaMath37c
import Derived.Test.YtlanefdeeanpnaaCrop2
import Derived.Deep.DrawnRows
namespace Go.Proofs.Ytlanefdeeanpnaa
set_option linter.unusedVariables false
set_option linter.unusedSimpArgs false
open Go.RowKit
attribute [local go_sem ↓] Go.wp_at_zero Go.wp_at_succ

set_option maxHeartbeats 4000000 in
set_option maxRecDepth 100000 in
theorem parts_law (L1 L2 : List Int) (A1 A2 : Option Addr) (c1 c2 : Nat) (qa qb : Int) (w : World) (hn1 : L1.length ≤ 9223372036854775807) (hn2 : L2.length ≤ 9223372036854775807) (hqa : -9223372036854775808 ≤ qa ∧ qa ≤ 9223372036854775807) (hqb : -9223372036854775808 ≤ qb ∧ qb ≤ 9223372036854775807)
    (hr1 : Rd (Value.int .i64) w w.heap.size A1 L1) (hr2 : Rd (Value.int .i64) w w.heap.size A2 L2) :
    Calls Try.prog 12 #[.agg #[.slice A1 L1.length c1, .slice A2 L2.length c2], .agg #[.int .i64 qa, .int .i64 qb]] w fun e w' => e = .returned (.bool true) ∧ Below w.heap.size w w' := by
  have HR1 := Lib.hid hr1
  have HR2 := Lib.hid hr2
  clear hr1 hr2
  go_enter Try.func12, Try.ntmps12
  go_wp2_with fail
  refine calls_world (fun W0 hW0 => ?_)
  obtain ⟨T0, hs0, _⟩ := (Tr.start w).new2 hW0
  clear hW0
  generalize hp : w.heap.size = p at *
  have HP := Lib.hid hp
  clear hp
  refine (sanity37 _).mono ?_
  rintro e w1 ⟨rfl, hb1⟩
  have T1 := T0.call hb1
  clear T0 hb1 hs0
  obtain ⟨⟨b0, b1⟩, _⟩ := T1.stand.1.two
  go_wp2_with fail
  refine (HMade_any L1 A1 c1 _ hn1 (T1.rd HR1.out)).mono ?_
  rintro e w2 ⟨g1, rfl, hg1, hl1, hO1, hb2⟩
  have T2 := (T1.call hb2).push hO1.blk
  clear T1 hb2 hO1 b0 b1
  go_upto_region 3 with fail
  refine wp_world (fun W3 hW3 => ?_)
  obtain ⟨T3, hs3, _⟩ := T2.new1 hW3
  clear hW3 T2 hs3
  generalize hq : w2.heap.size = q at *
  clear hq
  have z3 := T3.stand.1.lt
  obtain ⟨⟨b0, b1⟩, _⟩ := T3.stand.2.2.1.two
  have z0 := T3.stand.2.2.1.lt
  go_wp2_with fail
  refine (Made_any L2 A2 c2 _ hn2 (T3.rd HR2.out)).mono ?_
  rintro e w4 ⟨g2, rfl, hg2, hl2, hO2, hb4⟩
  have T4 := (T3.call hb4).push hO2.blk
  clear T3 hb4 hO2 b0 b1 z0 z3
  go_upto_region 4 with fail
  refine wp_world (fun W5 hW5 => ?_)
  obtain ⟨T5, hs5, _⟩ := T4.new1 hW5
  clear hW5 T4 hs5
  generalize hq4 : w4.heap.size = q4 at *
  clear hq4
  have hm := mkW_le L2
  have hn := mkH_le L2
  have hL := hmN_le L1
  have hD := mkD_len L2
  have hDl := hmD_len L1
  have HMD := Lib.hid (fun w h => Made_any L2 A2 c2 w hn2 h)
  generalize mkD L2 = D at *
  generalize mkW L2 = m at *
  generalize mkH L2 = n at *
  generalize hmD L1 = Dead at *
  generalize hmN L1 = L at *
  have hmn : m * n ≤ 192 := Nat.mul_le_mul hm hn
  have hrD : Rd Value.bool W5 W5.heap.size (some ⟨g2, 0, none⟩) D := (T5.stand.2.1.own (f := Value.bool)).rd T5.stand.2.1.lt
  have hrH : Rd Value.bool W5 W5.heap.size (some ⟨g1, 0, none⟩) Dead := (T5.stand.2.2.2.1.own (f := Value.bool)).rd T5.stand.2.2.2.1.lt
  obtain ⟨⟨b0, b1, b2⟩, _⟩ := T5.stand.1.three
  have d0 : W5.cell? ⟨q, 0, none⟩ = some (.slice (some ⟨g1, 0, none⟩) L L) := T5.stand.2.2.1.cell 0
  have zb := T5.stand.1.lt
  have zq := T5.stand.2.2.1.lt
  have CM1 := Lib.hid (fun w => Mod_any qa ((L : Int) + 1) w (by omega) (by omega))
  obtain ⟨x, hx⟩ := Int.eq_ofNat_of_zero_le (Int.emod_nonneg qa (show (L : Int) + 1 ≠ 0 by omega))
  have hxL : qa % ((L : Int) + 1) < (L : Int) + 1 := Int.emod_lt_of_pos _ (by omega)
  rw [hx] at CM1 hxL
  clear hx
  have hxL' : x ≤ L := by omega
  clear hxL
  have CM2 := Lib.hid (fun w => Mod_any qb ((n : Int) + 1) w (by omega) (by omega))
  obtain ⟨k, hk⟩ := Int.eq_ofNat_of_zero_le (Int.emod_nonneg qb (show (n : Int) + 1 ≠ 0 by omega))
  have hkL : qb % ((n : Int) + 1) < (n : Int) + 1 := Int.emod_lt_of_pos _ (by omega)
  rw [hk] at CM2 hkL
  clear hk
  have hkn : k ≤ n := by omega
  clear hkL
  have hEQ := Lib.hid (fun x => parts_eq (x := x) (Dead := Dead) (show m ≤ 96 by omega) (show n ≤ 96 by omega) hD hkn)
  obtain ⟨h, hh⟩ : ∃ h : Nat, h = n - k := ⟨_, rfl⟩
  have hnk : (n : Int) - (k : Int) = (h : Int) := by omega
  have hhn : k + h = n := by omega
  have hmk : m * k ≤ 192 := Nat.mul_le_mul hm (show k ≤ 12 by omega)
  have hmh : m * h ≤ 192 := Nat.mul_le_mul hm (show h ≤ 12 by omega)
  have CLo := Lib.hid (fun w hr => bitmap_Crop m n (some ⟨g2, 0, none⟩) (m * n) D 0 0 m k w (by omega) (bm_val (by omega) (by omega) hD) (by omega) (by omega) hr (by omega) (by omega))
  rw [hD] at CLo
  have CHi := Lib.hid (fun w hr => bitmap_Crop m n (some ⟨g2, 0, none⟩) (m * n) D 0 (k : Int) m h w (by omega) (bm_val (by omega) (by omega) hD) (by omega) (by omega) hr (by omega) (by omega))
  rw [hD] at CHi
  have hl6 := cropL_len m n D 0 0 m k
  have hl7 := cropL_len m n D 0 (k : Int) m h
  rw [← hh] at hEQ
  generalize hlo : cropL m n D 0 0 m k = lo at *
  generalize hhi : cropL m n D 0 (k : Int) m h = hi at *
  clear hlo hhi
  have P8 := Lib.hid (fun w h1 h2 => head_Print_any m n x (m * n) L (some ⟨g2, 0, none⟩) (some ⟨g1, 0, none⟩) D Dead w (by omega) h1 h2)
  have P9 := Lib.hid (fun g w h1 h2 => head_Print_any m k x (m * k) L (some ⟨g, 0, none⟩) (some ⟨g1, 0, none⟩) lo Dead w (by omega) h1 h2)
  have P10 := Lib.hid (fun g w h1 h2 => head_Print_any m h ((x + k : Nat) : Int) (m * h) L (some ⟨g, 0, none⟩) (some ⟨g1, 0, none⟩) hi Dead w (by omega) h1 h2)
  unfold PrOut at P8 P9 P10
  rw [hD, hDl] at P8
  rw [hl6, hDl] at P9
  rw [hl7, hDl] at P10
  have I8 := Lib.hid (fun (hin : x + n ≤ L) => pr_in (x := x) (m := m) (n := n) (D := D) (Dead := Dead) (by omega) (by omega) hD (by omega) (by omega) (by omega))
  have I9 := Lib.hid (fun (hin : x + k ≤ L) => pr_in (x := x) (m := m) (n := k) (D := lo) (Dead := Dead) (by omega) (by omega) hl6 (by omega) (by omega) (by omega))
  have I10 := Lib.hid (fun (hin : x + n ≤ L) => pr_in (x := x + k) (m := m) (n := h) (D := hi) (Dead := Dead) (by omega) (by omega) hl7 (by omega) (by omega) (by omega))
  have O8 := Lib.hid (fun (hin : ¬ x + n ≤ L) => (pr_out (x := x) (m := m) (n := n) (D := D) (Dead := Dead) (by omega) (by omega) hD (by omega)).1)
  have O9 := Lib.hid (fun (hin : ¬ x + k ≤ L) => (pr_out (x := x) (m := m) (n := k) (D := lo) (Dead := Dead) (by omega) (by omega) hl6 (by omega)).1)
  have O10 := Lib.hid (fun (hin : ¬ x + n ≤ L) => (pr_out (x := x + k) (m := m) (n := h) (D := hi) (Dead := Dead) (by omega) (by omega) hl7 (by omega)).1)
  generalize pE m n x D Dead = e8 at *
  generalize pW m n x D Dead = w8 at *
  generalize pH m n x D Dead = h8 at *
  generalize pD m n x D Dead = d8 at *
  generalize pE m k x lo Dead = e9 at *
  generalize pW m k x lo Dead = w9 at *
  generalize pH m k x lo Dead = h9 at *
  generalize pD m k x lo Dead = d9 at *
  generalize pE m h ((x + k : Nat) : Int) hi Dead = e10 at *
  generalize pW m h ((x + k : Nat) : Int) hi Dead = w10 at *
  generalize pH m h ((x + k : Nat) : Int) hi Dead = h10 at *
  generalize pD m h ((x + k : Nat) : Int) hi Dead = d10 at *
  rw [Int.natCast_add] at P10
  have HL6 := Lib.hid hl6
  have HL7 := Lib.hid hl7
  have HD := Lib.hid hD
  have HHH := Lib.hid hh
  clear hl6 hl7 hD hh
  have hxk : (x : Int) + (k : Int) ≤ 1000 := by omega
  obtain ⟨⟨a0, a1⟩, _⟩ := T5.stand.2.2.2.2.2.1.two
  have za := T5.stand.2.2.2.2.2.1.lt
  have hlow := T5.low
  have hsz5 := T5.size
  clear T5 HMD HR1 HR2 hg1 hg2 hl1 hl2
  have hbe : Below W5.heap.size W5 W5 := Below.refl _ _
  have hcr := (sb_of hbe).1
  go_wp2_with fail
  refine (CM1.out _).mono ?_
  rintro e w6 ⟨rfl, rfl⟩
  go_wp2_with fail
  refine (CM2.out _).mono ?_
  rintro e w6 ⟨rfl, rfl⟩
  go_wp2_with fail
  refine (CLo.out _ hrD).mono ?_
  rintro e wa ⟨g6, rfl, _, hgl6, hO6, hba⟩
  have hbe2 := hbe.trans (hba.mono hbe.size)
  replace hrD := (hrD.below hba (Nat.le_refl _)).more hba.size
  replace hrH := (hrH.below hba (Nat.le_refl _)).more hba.size
  have hr6 := hO6.rd hgl6
  clear hO6 hgl6
  clear hba hcr
  go_upto_region 7 with fail
  refine wp_world (fun Wn hWn => ?_)
  obtain ⟨hQ6, hbn, hsn⟩ := new1 hWn
  clear hWn
  replace hrD := (hrD.below hbn (Nat.le_refl _)).more hbn.size
  replace hrH := (hrH.below hbn (Nat.le_refl _)).more hbn.size
  replace hr6 := (hr6.below hbn (Nat.le_refl _)).more hbn.size
  replace hbe := hbe2.trans (hbn.mono hbe2.size)
  clear hbe2 hbn hsn
  generalize hqq : wa.heap.size = q6 at *
  clear hqq
  have hcr := (sb_of hbe).1
  have ze := hbe.size
  go_wp2_with fail
  refine (CHi.out _ hrD).mono ?_
  rintro e wa ⟨g7, rfl, _, hgl7, hO7, hba⟩
  have hbe2 := hbe.trans (hba.mono hbe.size)
  replace hQ6 := hQ6.below hba hQ6.lt
  replace hrD := (hrD.below hba (Nat.le_refl _)).more hba.size
  replace hrH := (hrH.below hba (Nat.le_refl _)).more hba.size
  replace hr6 := (hr6.below hba (Nat.le_refl _)).more hba.size
  have hr7 := hO7.rd hgl7
  clear hO7 hgl7
  clear hba hcr
  go_upto_region 8 with fail
  refine wp_world (fun Wn hWn => ?_)
  obtain ⟨hQ7, hbn, hsn⟩ := new1 hWn
  clear hWn
  replace hQ6 := hQ6.below hbn hQ6.lt
  replace hrD := (hrD.below hbn (Nat.le_refl _)).more hbn.size
  replace hrH := (hrH.below hbn (Nat.le_refl _)).more hbn.size
  replace hr6 := (hr6.below hbn (Nat.le_refl _)).more hbn.size
  replace hr7 := (hr7.below hbn (Nat.le_refl _)).more hbn.size
  replace hbe := hbe2.trans (hbn.mono hbe2.size)
  clear hbe2 hbn hsn
  generalize hqq : wa.heap.size = q7 at *
  clear hqq
  have hcr := (sb_of hbe).1
  replace ze := hbe.size
  go_wp2_with fail
  refine (P8.out _ hrD hrH).mono ?_
  rintro e wa ⟨A8, c8, rfl, hr8, hba⟩
  have hbe2 := hbe.trans (hba.mono hbe.size)
  replace hQ6 := hQ6.below hba hQ6.lt
  replace hQ7 := hQ7.below hba hQ7.lt
  replace hrD := (hrD.below hba (Nat.le_refl _)).more hba.size
  replace hrH := (hrH.below hba (Nat.le_refl _)).more hba.size
  replace hr6 := (hr6.below hba (Nat.le_refl _)).more hba.size
  replace hr7 := (hr7.below hba (Nat.le_refl _)).more hba.size
  clear hba hcr
  go_upto_region 9 with fail
  refine wp_world (fun Wn hWn => ?_)
  obtain ⟨hQ8, hbn, hsn⟩ := new1 hWn
  clear hWn
  replace hQ6 := hQ6.below hbn hQ6.lt
  replace hQ7 := hQ7.below hbn hQ7.lt
  replace hrD := (hrD.below hbn (Nat.le_refl _)).more hbn.size
  replace hrH := (hrH.below hbn (Nat.le_refl _)).more hbn.size
  replace hr6 := (hr6.below hbn (Nat.le_refl _)).more hbn.size
  replace hr7 := (hr7.below hbn (Nat.le_refl _)).more hbn.size
  replace hr8 := (hr8.below hbn (Nat.le_refl _)).more hbn.size
  replace hbe := hbe2.trans (hbn.mono hbe2.size)
  clear hbe2 hbn hsn
  generalize hqq : wa.heap.size = q8 at *
  clear hqq
  have hcr := (sb_of hbe).1
  replace ze := hbe.size
  obtain ⟨⟨hQ60, hQ61, hQ62⟩, _⟩ := hQ6.three
  have hQ6z := hQ6.lt
  go_wp2_with fail
  refine (P9.out _ _ hr6 hrH).mono ?_
  rintro e wa ⟨A9, c9, rfl, hr9, hba⟩
  have hbe2 := hbe.trans (hba.mono hbe.size)
  replace hQ6 := hQ6.below hba hQ6.lt
  replace hQ7 := hQ7.below hba hQ7.lt
  replace hQ8 := hQ8.below hba hQ8.lt
  replace hrD := (hrD.below hba (Nat.le_refl _)).more hba.size
  replace hrH := (hrH.below hba (Nat.le_refl _)).more hba.size
  replace hr6 := (hr6.below hba (Nat.le_refl _)).more hba.size
  replace hr7 := (hr7.below hba (Nat.le_refl _)).more hba.size
  replace hr8 := (hr8.below hba (Nat.le_refl _)).more hba.size
  clear hba hcr
  go_upto_region 10 with fail
  refine wp_world (fun Wn hWn => ?_)
  obtain ⟨hQ9, hbn, hsn⟩ := new1 hWn
  clear hWn
  replace hQ6 := hQ6.below hbn hQ6.lt
  replace hQ7 := hQ7.below hbn hQ7.lt
  replace hQ8 := hQ8.below hbn hQ8.lt
  replace hrD := (hrD.below hbn (Nat.le_refl _)).more hbn.size
  replace hrH := (hrH.below hbn (Nat.le_refl _)).more hbn.size
  replace hr6 := (hr6.below hbn (Nat.le_refl _)).more hbn.size
  replace hr7 := (hr7.below hbn (Nat.le_refl _)).more hbn.size
  replace hr8 := (hr8.below hbn (Nat.le_refl _)).more hbn.size
  replace hr9 := (hr9.below hbn (Nat.le_refl _)).more hbn.size
  replace hbe := hbe2.trans (hbn.mono hbe2.size)
  clear hbe2 hbn hsn
  generalize hqq : wa.heap.size = q9 at *
  clear hqq
  have hcr := (sb_of hbe).1
  replace ze := hbe.size
  clear hQ60 hQ61 hQ62 hQ6z
  obtain ⟨⟨hQ70, hQ71, hQ72⟩, _⟩ := hQ7.three
  have hQ7z := hQ7.lt
  go_wp2_with fail
  refine (P10.out _ _ hr7 hrH).mono ?_
  rintro e wa ⟨A10, c10, rfl, hr10, hba⟩
  have hbe2 := hbe.trans (hba.mono hbe.size)
  replace hQ6 := hQ6.below hba hQ6.lt
  replace hQ7 := hQ7.below hba hQ7.lt
  replace hQ8 := hQ8.below hba hQ8.lt
  replace hQ9 := hQ9.below hba hQ9.lt
  replace hrD := (hrD.below hba (Nat.le_refl _)).more hba.size
  replace hrH := (hrH.below hba (Nat.le_refl _)).more hba.size
  replace hr6 := (hr6.below hba (Nat.le_refl _)).more hba.size
  replace hr7 := (hr7.below hba (Nat.le_refl _)).more hba.size
  replace hr8 := (hr8.below hba (Nat.le_refl _)).more hba.size
  replace hr9 := (hr9.below hba (Nat.le_refl _)).more hba.size
  clear hba hcr
  go_upto_region 11 with fail
  refine wp_world (fun Wn hWn => ?_)
  obtain ⟨hQ10, hbn, hsn⟩ := new1 hWn
  clear hWn
  replace hQ6 := hQ6.below hbn hQ6.lt
  replace hQ7 := hQ7.below hbn hQ7.lt
  replace hQ8 := hQ8.below hbn hQ8.lt
  replace hQ9 := hQ9.below hbn hQ9.lt
  replace hrD := (hrD.below hbn (Nat.le_refl _)).more hbn.size
  replace hrH := (hrH.below hbn (Nat.le_refl _)).more hbn.size
  replace hr6 := (hr6.below hbn (Nat.le_refl _)).more hbn.size
  replace hr7 := (hr7.below hbn (Nat.le_refl _)).more hbn.size
  replace hr8 := (hr8.below hbn (Nat.le_refl _)).more hbn.size
  replace hr9 := (hr9.below hbn (Nat.le_refl _)).more hbn.size
  replace hr10 := (hr10.below hbn (Nat.le_refl _)).more hbn.size
  replace hbe := hbe2.trans (hbn.mono hbe2.size)
  clear hbe2 hbn hsn
  generalize hqq : wa.heap.size = q10 at *
  clear hqq
  have hcr := (sb_of hbe).1
  replace ze := hbe.size
  clear hQ70 hQ71 hQ72 hQ7z
  by_cases hin : x + n ≤ L
  · obtain ⟨rfl, rfl, rfl, rfl⟩ := I8.out hin
    obtain ⟨rfl, rfl, rfl, rfl⟩ := I9.out (by omega)
    obtain ⟨rfl, rfl, rfl, rfl⟩ := I10.out hin
    rw [printL_len, HD.out] at hQ8
    rw [printL_len, HL6.out] at hQ9
    rw [printL_len, HL7.out] at hQ10
    have CN := Lib.hid (fun w => bitmap_New_nat m n w (by omega) (by omega))
    go_wp2_with fail
    refine (CN.out _).mono ?_
    rintro e wa ⟨g20, rfl, _, hgl20, hO20, hba⟩
    have hbe2 := hbe.trans (hba.mono hbe.size)
    replace hQ8 := hQ8.below hba hQ8.lt
    replace hQ9 := hQ9.below hba hQ9.lt
    replace hQ10 := hQ10.below hba hQ10.lt
    replace hr8 := (hr8.below hba (Nat.le_refl _)).more hba.size
    replace hr9 := (hr9.below hba (Nat.le_refl _)).more hba.size
    replace hr10 := (hr10.below hba (Nat.le_refl _)).more hba.size
    have hr20 := hO20.rd hgl20
    clear hba hcr
    go_upto_region 14 with fail
    refine wp_world (fun Wn hWn => ?_)
    obtain ⟨hQ20, hbn, hsn⟩ := new1 hWn
    clear hWn
    replace hQ8 := hQ8.below hbn hQ8.lt
    replace hQ9 := hQ9.below hbn hQ9.lt
    replace hQ10 := hQ10.below hbn hQ10.lt
    replace hr8 := (hr8.below hbn (Nat.le_refl _)).more hbn.size
    replace hr9 := (hr9.below hbn (Nat.le_refl _)).more hbn.size
    replace hr10 := (hr10.below hbn (Nat.le_refl _)).more hbn.size
    replace hr20 := (hr20.below hbn (Nat.le_refl _)).more hbn.size
    replace hbe := hbe2.trans (hbn.mono hbe2.size)
    clear hbe2 hbn hsn
    generalize hqq : wa.heap.size = q20 at *
    clear hqq
    have X1 := Lib.hid (fun A A' c c' w h1 h2 => paste_any m n c m k c' A A' (List.replicate (m * n) false) (printL m x lo Dead) 0 0 w (by omega) (by omega) (by simp) (by omega) (by omega) ((printL_len _ _ _ _).trans HL6.out) (by omega) (by omega) h1 h2)
    have hpl : (pasteL m n m k 0 0 (List.replicate (m * n) false) (printL m x lo Dead)).length = m * n := by unfold pasteL; rw [pasteTo_len]; simp
    have X2 := Lib.hid (fun A A' c c' w h1 h2 => paste_any m n c m h c' A A' (pasteL m n m k 0 0 (List.replicate (m * n) false) (printL m x lo Dead)) (printL m (x + k) hi Dead) 0 (k : Int) w (by omega) (by omega) hpl (by omega) (by omega) ((printL_len _ _ _ _).trans HL7.out) (by omega) (by omega) h1 h2)
    rw [hEQ.out] at X2
    have X3 := Lib.hid (fun A A' c c' w h1 h2 => ref04_Same m n A c (printL m x D Dead) m n A' c' (printL m x D Dead) w (by rw [printL_len, HD.out]; omega) (by rw [printL_len, HD.out]; omega) h1 h2)
    rw [printL_len, HD.out, show sameB m n (printL m x D Dead) m n (printL m x D Dead) = true from by simp [sameB]] at X3
    obtain ⟨⟨s0, s1, s2⟩, _⟩ := hQ8.three
    obtain ⟨⟨t0, t1, t2⟩, _⟩ := hQ9.three
    obtain ⟨⟨u0, u1, u2⟩, _⟩ := hQ10.three
    obtain ⟨⟨v0, v1, v2⟩, _⟩ := hQ20.three
    have y1 := hQ8.lt
    have y2 := hQ9.lt
    have y3 := hQ10.lt
    have y4 := hQ20.lt
    clear hQ6 hQ7 P8 P9 P10 I8 I9 I10 O8 O9 O10 CLo CHi CM1 CM2
    refine wp_region_L 23 (fun w' => (∀ b o, b < Wn.heap.size → w'.cell? ⟨b, o, none⟩ = Wn.cell? ⟨b, o, none⟩) ∧ Below Wn.heap.size Wn w') (by kernel_rfl) ?_ (fun Wd hWd hS => ?_)
    · (try dsimp only)
      exact sb_of (Below.refl _ _).drew
    (try dsimp only at hS)
    refine wpT_take 0 (v := ?_) rfl (by kernel_rfl) (by kernel_rfl) (fun _ _ _ h => h) hS (Or.inl ⟨rfl, ?_⟩) ?_
    rotate_left
    · (intro w' hSw; (try dsimp only at hSw); go_simp; first | done | with_reducible rfl)
    (try simp only [Act.put, List.setIfInBounds_toArray, List.set_cons_zero, List.set_cons_succ])
    refine wpT_take 1 (v := ?_) rfl (by kernel_rfl) (by kernel_rfl) (fun _ _ _ h => h) hS (Or.inl ⟨rfl, ?_⟩) ?_
    rotate_left
    · (intro w' hSw; (try dsimp only at hSw); go_simp; first | done | with_reducible rfl)
    (try simp only [Act.put, List.setIfInBounds_toArray, List.set_cons_zero, List.set_cons_succ])
    refine wpT_take 2 (v := ?_) rfl (by kernel_rfl) (by kernel_rfl) (fun _ _ _ h => h) hS (Or.inl ⟨rfl, ?_⟩) ?_
    rotate_left
    · (intro w' hSw; (try dsimp only at hSw); go_simp; first | done | with_reducible rfl)
    (try simp only [Act.put, List.setIfInBounds_toArray, List.set_cons_zero, List.set_cons_succ])
    refine wpT_take 3 (v := ?_) rfl (by kernel_rfl) (by kernel_rfl) (fun _ _ _ h => h) hS (Or.inl ⟨rfl, ?_⟩) ?_
    rotate_left
    · (intro w' hSw; (try dsimp only at hSw); go_simp; first | done | with_reducible rfl)
    (try simp only [Act.put, List.setIfInBounds_toArray, List.set_cons_zero, List.set_cons_succ])
    refine wpT_take 4 (v := ?_) rfl (by kernel_rfl) (by kernel_rfl) (fun _ _ _ h => h) hS (Or.inl ⟨rfl, ?_⟩) ?_
    rotate_left
    · (intro w' hSw; (try dsimp only at hSw); go_simp; first | done | with_reducible rfl)
    (try simp only [Act.put, List.setIfInBounds_toArray, List.set_cons_zero, List.set_cons_succ])
    refine wpT_take 5 (v := ?_) rfl (by kernel_rfl) (by kernel_rfl) (fun _ _ _ h => h) hS (Or.inl ⟨rfl, ?_⟩) ?_
    rotate_left
    · (intro w' hSw; (try dsimp only at hSw); go_simp; first | done | with_reducible rfl)
    (try simp only [Act.put, List.setIfInBounds_toArray, List.set_cons_zero, List.set_cons_succ])
    refine wpT_take 6 (v := ?_) rfl (by kernel_rfl) (by kernel_rfl) (fun _ _ _ h => h) hS (Or.inl ⟨rfl, ?_⟩) ?_
    rotate_left
    · (intro w' hSw; (try dsimp only at hSw); go_simp; first | done | with_reducible rfl)
    (try simp only [Act.put, List.setIfInBounds_toArray, List.set_cons_zero, List.set_cons_succ])
    refine wpT_take 7 (v := ?_) rfl (by kernel_rfl) (by kernel_rfl) (fun _ _ _ h => h) hS (Or.inl ⟨rfl, ?_⟩) ?_
    rotate_left
    · (intro w' hSw; (try dsimp only at hSw); go_simp; first | done | with_reducible rfl)
    (try simp only [Act.put, List.setIfInBounds_toArray, List.set_cons_zero, List.set_cons_succ])
    refine wpT_take 8 (v := ?_) rfl (by kernel_rfl) (by kernel_rfl) (fun _ _ _ h => h) hS (Or.inl ⟨rfl, ?_⟩) ?_
    rotate_left
    · (intro w' hSw; (try dsimp only at hSw); go_simp; first | done | with_reducible rfl)
    (try simp only [Act.put, List.setIfInBounds_toArray, List.set_cons_zero, List.set_cons_succ])
    refine wpT_take 9 (v := ?_) rfl (by kernel_rfl) (by kernel_rfl) (fun _ _ _ h => h) hS (Or.inl ⟨rfl, ?_⟩) ?_
    rotate_left
    · (intro w' hSw; (try dsimp only at hSw); go_simp; first | done | with_reducible rfl)
    (try simp only [Act.put, List.setIfInBounds_toArray, List.set_cons_zero, List.set_cons_succ])
    refine wpT_take 10 (v := ?_) rfl (by kernel_rfl) (by kernel_rfl) (fun _ _ _ h => h) hS (Or.inl ⟨rfl, ?_⟩) ?_
    rotate_left
    · (intro w' hSw; (try dsimp only at hSw); go_simp; first | done | with_reducible rfl)
    (try simp only [Act.put, List.setIfInBounds_toArray, List.set_cons_zero, List.set_cons_succ])
    refine wpT_take 11 (v := ?_) rfl (by kernel_rfl) (by kernel_rfl) (fun _ _ _ h => h) hS (Or.inl ⟨rfl, ?_⟩) ?_
    rotate_left
    · (intro w' hSw; (try dsimp only at hSw); go_simp; first | done | with_reducible rfl)
    (try simp only [Act.put, List.setIfInBounds_toArray, List.set_cons_zero, List.set_cons_succ])
    refine wpT_take 12 (v := ?_) rfl (by kernel_rfl) (by kernel_rfl) (fun _ _ _ h => h) hS (Or.inl ⟨rfl, ?_⟩) ?_
    rotate_left
    · (intro w' hSw; (try dsimp only at hSw); go_simp; first | done | with_reducible rfl)
    (try simp only [Act.put, List.setIfInBounds_toArray, List.set_cons_zero, List.set_cons_succ])
    refine wpT_take 13 (v := ?_) rfl (by kernel_rfl) (by kernel_rfl) (fun _ _ _ h => h) hS (Or.inl ⟨rfl, ?_⟩) ?_
    rotate_left
    · (intro w' hSw; (try dsimp only at hSw); go_simp; first | done | with_reducible rfl)
    (try simp only [Act.put, List.setIfInBounds_toArray, List.set_cons_zero, List.set_cons_succ])
    refine wpT_take 14 (v := ?_) rfl (by kernel_rfl) (by kernel_rfl) (fun _ _ _ h => h) hS (Or.inl ⟨rfl, ?_⟩) ?_
    rotate_left
    · (intro w' hSw; (try dsimp only at hSw); go_simp; first | done | with_reducible rfl)
    (try simp only [Act.put, List.setIfInBounds_toArray, List.set_cons_zero, List.set_cons_succ])
    refine wpT_take 15 (v := ?_) rfl (by kernel_rfl) (by kernel_rfl) (fun _ _ _ h => h) hS (Or.inl ⟨rfl, ?_⟩) ?_
    rotate_left
    · (intro w' hSw; (try dsimp only at hSw); go_simp; first | done | with_reducible rfl)
    (try simp only [Act.put, List.setIfInBounds_toArray, List.set_cons_zero, List.set_cons_succ])
    refine wpT_take 16 (v := ?_) rfl (by kernel_rfl) (by kernel_rfl) (fun _ _ _ h => h) hS (Or.inl ⟨rfl, ?_⟩) ?_
    rotate_left
    · (intro w' hSw; (try dsimp only at hSw); go_simp; first | done | with_reducible rfl)
    (try simp only [Act.put, List.setIfInBounds_toArray, List.set_cons_zero, List.set_cons_succ])
    refine wpT_take 18 (v := ?_) rfl (by kernel_rfl) (by kernel_rfl) (fun _ _ _ h => h) hS (Or.inl ⟨rfl, ?_⟩) ?_
    rotate_left
    · (intro w' hSw; (try dsimp only at hSw); go_simp; first | done | with_reducible rfl)
    (try simp only [Act.put, List.setIfInBounds_toArray, List.set_cons_zero, List.set_cons_succ])
    refine wpT_take 19 (v := ?_) rfl (by kernel_rfl) (by kernel_rfl) (fun _ _ _ h => h) hS (Or.inl ⟨rfl, ?_⟩) ?_
    rotate_left
    · (intro w' hSw; (try dsimp only at hSw); go_simp; first | done | with_reducible rfl)
    (try simp only [Act.put, List.setIfInBounds_toArray, List.set_cons_zero, List.set_cons_succ])
    refine wpT_one 17 rfl (by kernel_rfl) (fun K hK => ?_)
    go_simp
    go_at_call 36
    refine (X1.out _ _ _ _ _ ((hr20.below hS.2 (Nat.le_refl _)).more hS.2.size) ((hr9.below hS.2 (Nat.le_refl _)).more hS.2.size)).mono ?_
    rintro e wb ⟨Ab, cb, rfl, hrb, hbb⟩
    have hbS := hS.2.trans (hbb.mono hS.2.size)
    refine hK.out _ _ ?_ (fun hS => ?_)
    · (try dsimp only)
      exact sb_of hbS
    clear hK K
    (try simp only [Act.put, List.setIfInBounds_toArray, List.set_cons_zero, List.set_cons_succ])
    (try dsimp only at hS)
    refine wpT_one 20 rfl (by kernel_rfl) (fun K hK => ?_)
    go_simp
    go_at_call 36
    refine (X2.out _ _ _ _ _ hrb ((hr10.below hS.2 (Nat.le_refl _)).more hS.2.size)).mono ?_
    rintro e wc ⟨Ac, cc, rfl, hrc, hbc⟩
    have hbS := hS.2.trans (hbc.mono hS.2.size)
    refine hK.out _ _ ?_ (fun hS => ?_)
    · (try dsimp only)
      exact sb_of hbS
    clear hK K
    (try simp only [Act.put, List.setIfInBounds_toArray, List.set_cons_zero, List.set_cons_succ])
    (try dsimp only at hS)
    refine wpT_one 21 rfl (by kernel_rfl) (fun K hK => ?_)
    go_simp
    go_at_call 27
    refine (X3.out _ _ _ _ _ ((hr8.below hS.2 (Nat.le_refl _)).more hS.2.size) hrc).mono ?_
    rintro e wd ⟨rfl, hbd⟩
    have hbS := hS.2.trans (hbd.mono hS.2.size)
    refine hK.out _ _ ?_ (fun hS => ?_)
    · (try dsimp only)
      exact sb_of hbS
    clear hK K
    (try simp only [Act.put, List.setIfInBounds_toArray, List.set_cons_zero, List.set_cons_succ])
    (try dsimp only at hS)
    refine wpT_take 22 (v := ?_) rfl (by kernel_rfl) (by kernel_rfl) (fun _ _ _ h => h) hS (Or.inl ⟨rfl, ?_⟩) ?_
    rotate_left
    · (intro w' hSw; (try dsimp only at hSw); go_simp; first | done | with_reducible rfl)
    (try simp only [Act.put, List.setIfInBounds_toArray, List.set_cons_zero, List.set_cons_succ])
    refine wpT_tail (by rfl) (by kernel_rfl) ?_
    (try simp only [List.drop_succ_cons, List.drop_zero])
    go_wp2
    go_ret
    exact ⟨rfl, by rw [HP.out]; exact hlow.trans ((hbe.trans (hS.2.mono hbe.size)).mono hsz5)⟩
  · obtain rfl := O8.out hin
    obtain rfl := O10.out hin
    by_cases hk2 : x + k ≤ L
    · obtain ⟨rfl, _⟩ := I9.out hk2
      clear P8 P9 P10 I8 I9 I10 O8 O9 O10 CLo CHi CM1 CM2
      go_wp2
      go_ret
      exact ⟨rfl, by rw [HP.out]; exact hlow.trans (hbe.mono hsz5)⟩
    · obtain rfl := O9.out hk2
      clear P8 P9 P10 I8 I9 I10 O8 O9 O10 CLo CHi CM1 CM2
      go_wp2
      go_ret
      exact ⟨rfl, by rw [HP.out]; exact hlow.trans (hbe.mono hsz5)⟩
end Go.Proofs.Ytlanefdeeanpnaa
