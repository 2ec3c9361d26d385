/-
  The law ReaderMore: for every argument the call returns true. Conditions: the lists' lengths fit an int, and they are read below the heap's size.
-/
import Derived.Test.YtlanefdeeanpnaaCaseMade
import Derived.Test.YtlanefdeeanpnaaSanity
import Derived.Test.YtlanefdeeanpnaaMath21
import Derived.Test.YtlanefdeeanpnaaAppend
import Derived.Test.YtlanefdeeanpnaaPaste
import Derived.Deep.DrawnRows
namespace Go.Proofs.Ytlanefdeeanpnaa
set_option linter.unusedVariables false
set_option linter.unusedSimpArgs false
open Go.RowKit
attribute [local go_sem ↓] Go.wp_at_zero Go.wp_at_succ

theorem pasteStep_sub (m n m2 : Nat) (x y : Int) (D : List Bool) (k : Nat) : SubB D (pasteStep m n m2 x y D k) := by
  intro i hi
  unfold pasteStep
  split
  · rw [List.getD_eq_getElem?_getD] at hi ⊢
    rw [List.getElem?_set]
    split
    · split
      · rfl
      · rename_i h1 h2
        subst h1
        rw [List.getElem?_eq_none (by omega)] at hi
        exact hi
    · exact hi
  · exact hi
theorem pasteTo_sub (m n m2 n2 : Nat) (x y : Int) (pre : List (Fin (m2 * n2))) : ∀ D : List Bool, SubB D (pasteTo m n m2 n2 x y D pre) := by
  induction pre with
  | nil => intro D i hi; exact hi
  | cons k l ih => intro D i hi; exact ih _ i (pasteStep_sub m n m2 x y D k.1 i hi)
theorem pasteL_sub (m n m2 n2 : Nat) (x y : Int) (D E : List Bool) : SubB D (pasteL m n m2 n2 x y D E) := pasteTo_sub _ _ _ _ _ _ _ _

set_option maxHeartbeats 1000000 in
set_option maxRecDepth 100000 in
theorem more_law (L1 L2 : List Int) (A1 A2 : Option Addr) (c1 c2 : Nat) (a b k : Int) (w : World) (hn1 : L1.length ≤ 9223372036854775807) (hn2 : L2.length ≤ 9223372036854775807)
    (hr1 : Rd (Value.int .i64) w w.heap.size A1 L1) (hr2 : Rd (Value.int .i64) w w.heap.size A2 L2) :
    Calls Try.prog 8 #[.agg #[.slice A1 L1.length c1, .slice A2 L2.length c2, .int .i64 a, .int .i64 b, .int .i64 k]] w fun e w' => e = .returned (.bool true) ∧ Below w.heap.size w w' := by
  have HR1 := Lib.hid hr1
  have HR2 := Lib.hid hr2
  clear hr1 hr2
  go_enter Try.func8, Try.ntmps8
  go_wp2_with fail
  refine calls_world (fun W0 hW0 => ?_)
  obtain ⟨T0, hs0, _⟩ := (Tr.start w).new1 hW0
  clear hW0
  generalize hp : w.heap.size = p at *
  have HP := Lib.hid hp
  clear hp
  refine (sanity_true _).mono ?_
  rintro e w1 ⟨rfl, hb1⟩
  have T1 := T0.call hb1
  clear T0 hb1 hs0
  obtain ⟨b0, b1, b2, b3, b4⟩ := T1.stand.1.five
  go_wp2_with fail
  refine (case_made L1 L2 A1 A2 c1 c2 a b k _ hn1 hn2 (T1.rd HR1.out) (T1.rd HR2.out)).mono ?_
  rintro e w2 ⟨g1, g2, rfl, hg1, hg2, hO1, hO2, hb2⟩
  have T2 := ((T1.call hb2).push hO2.blk).push hO1.blk
  clear T1 hb2 hO1 hO2 b0 b1 b2 b3 b4
  go_upto_region 3 with fail
  refine wp_world (fun W3 hW3 => ?_)
  obtain ⟨T3, hs3, _⟩ := T2.new3 hW3
  clear hW3 T2 hs3
  generalize hq : w2.heap.size = q at *
  clear hq HR1 HR2
  have hl1 := mkD_len L1
  have hm := mkW_le L1
  have hn := mkH_le L1
  have hok := md_ok a b
  have hlD2 := mkD2_len L1 L2
  generalize mkD2 L1 L2 = D2 at *
  generalize mkD L1 = D at *
  generalize mkW L1 = m at *
  generalize mkH L1 = n at *
  generalize mdS a b = S at *
  obtain ⟨hB0, hB2, hS1, hS2⟩ := rd_yes hok
  generalize mdB a = B at *
  obtain ⟨bb, rfl⟩ := Int.eq_ofNat_of_zero_le hB0
  have hmn : m * n ≤ 192 := Nat.mul_le_mul hm hn
  have hb2 : bb ≤ 2 := by omega
  have hl2 := Lib.hid (show D.length = m * n from hl1)
  have CP := Lib.hid (fun w h h' => paste_any m n (m * n) m n (m * n) (some ⟨g1, 0, none⟩) (some ⟨g2, 0, none⟩) D D2 0 0 w (by omega) (by omega) hl1 (by omega) (by omega) hlD2 (by omega) (by omega) h h')
  have hsub := Lib.hid (pasteL_sub m n m n 0 0 D D2)
  have hlF := pasteTo_len m n m n 0 0 (onL (m * n) D2) D
  rw [hl1] at hlF
  change (pasteL m n m n 0 0 D D2).length = m * n at hlF
  generalize pasteL m n m n 0 0 D D2 = F at CP hsub hlF
  have HLF := Lib.hid hlF
  have hS3 : S ≤ 25 := by have := (side_sq hB0 hB2).2; omega
  have HOK := Lib.hid hok
  clear hok hB0 hB2 hlF hl1 hlD2
  obtain ⟨⟨b0, b1, b2⟩, _⟩ := T3.stand.2.1.three
  obtain ⟨⟨d0, d1, d2⟩, _⟩ := T3.stand.2.2.1.three
  go_wp2_with fail
  refine (CP.out _ ((T3.stand.2.2.2.1.own (f := Value.bool)).rd T3.stand.2.2.2.1.lt) ((T3.stand.2.2.2.2.1.own (f := Value.bool)).rd T3.stand.2.2.2.2.1.lt)).mono ?_
  rintro e w4 ⟨A4, c4, rfl, hr4, hb4⟩
  have T4 := T3.call hb4
  clear T3 hb4 b0 b1 b2 d0 d1 d2
  go_upto_region 4 with fail
  refine wp_world (fun W5 hW5 => ?_)
  obtain ⟨T5, hs5, hb5⟩ := T4.new1 hW5
  replace hr4 := (hr4.below hb5 (Nat.le_refl _)).more hb5.size
  clear hW5 T4 hs5 hb5
  generalize hq4 : w4.heap.size = q4 at *
  clear hq4
  obtain ⟨⟨b0, b1⟩, _⟩ := T5.stand.2.1.two
  have z1 := T5.stand.2.1.lt
  go_upto_region 6 with fail
  refine wp_world (fun W6 hW6 => ?_)
  generalize hT : (if (1 : Int) < S / 2 then S / 2 else 1) = T at *
  have hT1 : 1 ≤ T ∧ T ≤ S := by rw [← hT]; split <;> omega
  clear hT
  obtain ⟨T6, hs6, hb6⟩ := T5.new1 hW6
  replace hr4 := (hr4.below hb6 (Nat.le_refl _)).more hb6.size
  clear hW6 T5 hs6 hb6 b0 b1 z1
  generalize hq5 : W5.heap.size = q5 at *
  clear hq5
  have hok := HOK.out
  have hokT : rdOk bb T = true := by obtain ⟨h1, h2, h3, h4⟩ := rd_yes hok; exact rd_mk ⟨h1, h2, hT1.1, by omega⟩
  have hl1 := hl2.out
  have hlF := HLF.out
  have CX := Lib.hid (fun w h => reader_See bb S m n (some ⟨g1, 0, none⟩) (m * n) D w (by omega) h)
  rw [see_ok hok (by omega) (by omega) hl1, hl1, Int.toNat_natCast] at CX
  have CY := Lib.hid (fun w h => reader_See bb S m n A4 c4 F w (by omega) h)
  rw [see_ok hok (by omega) (by omega) hlF, hlF, Int.toNat_natCast] at CY
  have CZ := Lib.hid (fun w h => reader_See bb T m n (some ⟨g1, 0, none⟩) (m * n) D w (by omega) h)
  rw [see_ok hokT (by omega) (by omega) hl1, hl1, Int.toNat_natCast] at CZ
  have s1 := Lib.hid (see_more m n D F bb S S hsub.out (Int.le_refl _))
  have s2 := Lib.hid (see_more m n D D bb S T (fun _ h => h) hT1.2)
  have x1 := seeL_len m n D bb S
  have x2 := seeL_len m n F bb S
  have x3 := seeL_len m n D bb T
  generalize seeL m n D bb S = X at CX s1 s2 x1
  generalize seeL m n F bb S = Y at CY s1 x2
  generalize seeL m n D bb T = Z at CZ s2 x3
  have W1 := Lib.hid (fun A A' c c' w h h' => within_any m n c c' A A' X Y w (by omega) (by omega) x1 x2 h h' (onlyN_zero (by omega) (by omega) x2 (fun k _ hk => s1.out k hk)))
  have W2 := Lib.hid (fun A A' c c' w h h' => within_any m n c c' A A' X Z w (by omega) (by omega) x1 x3 h h' (onlyN_zero (by omega) (by omega) x3 (fun k _ hk => s2.out k hk)))
  have X1 := Lib.hid x1
  have X2 := Lib.hid x2
  have X3 := Lib.hid x3
  clear hok hokT hl1 hlF s1 s2 hT1 hS1 hS2 x1 x2 x3 HOK hl2 HLF hsub
  have hrD : Rd Value.bool W6 W6.heap.size (some ⟨g1, 0, none⟩) D := (T6.stand.2.2.2.2.2.1.own (f := Value.bool)).rd T6.stand.2.2.2.2.2.1.lt
  obtain ⟨⟨r0, r1⟩, _⟩ := T6.stand.2.2.1.two
  obtain ⟨⟨b0, b1, b2⟩, _⟩ := T6.stand.2.2.2.1.three
  go_wp2_with fail
  refine (CX.out _ hrD).mono ?_
  rintro e w7 ⟨hb7, A7, c7, rfl, hr7⟩
  dsimp only at hr7 ⊢
  rw [X1.out]
  have T7 := T6.call hb7
  replace hrD := (hrD.below hb7 (Nat.le_refl _)).more hb7.size
  replace hr4 := (hr4.below hb7 (Nat.le_refl _)).more hb7.size
  clear T6 hb7 r0 r1 b0 b1 b2
  go_upto_region 7 with fail
  refine wp_world (fun W8 hW8 => ?_)
  obtain ⟨T8, hs8, hb8⟩ := T7.new1 hW8
  replace hrD := (hrD.below hb8 (Nat.le_refl _)).more hb8.size
  replace hr4 := (hr4.below hb8 (Nat.le_refl _)).more hb8.size
  replace hr7 := (hr7.below hb8 (Nat.le_refl _)).more hb8.size
  clear hW8 T7 hs8 hb8
  generalize hq7 : w7.heap.size = q7 at *
  clear hq7
  obtain ⟨⟨r0, r1⟩, _⟩ := T8.stand.2.2.2.1.two
  obtain ⟨⟨b0, b1, b2⟩, _⟩ := T8.stand.2.2.1.three
  go_wp2_with fail
  refine (CY.out _ hr4).mono ?_
  rintro e w9 ⟨hb9, A9, c9, rfl, hr9⟩
  dsimp only at hr9 ⊢
  rw [X2.out]
  have T9 := T8.call hb9
  replace hrD := (hrD.below hb9 (Nat.le_refl _)).more hb9.size
  replace hr7 := (hr7.below hb9 (Nat.le_refl _)).more hb9.size
  clear T8 hb9 r0 r1 b0 b1 b2
  go_upto_region 8 with fail
  refine wp_world (fun W10 hW10 => ?_)
  obtain ⟨T10, hs10, hb10⟩ := T9.new1 hW10
  replace hrD := (hrD.below hb10 (Nat.le_refl _)).more hb10.size
  replace hr7 := (hr7.below hb10 (Nat.le_refl _)).more hb10.size
  replace hr9 := (hr9.below hb10 (Nat.le_refl _)).more hb10.size
  clear hW10 T9 hs10 hb10
  generalize hq9 : w9.heap.size = q9 at *
  clear hq9
  obtain ⟨⟨r0, r1⟩, _⟩ := T10.stand.2.2.1.two
  obtain ⟨⟨b0, b1, b2⟩, _⟩ := T10.stand.2.2.2.2.2.1.three
  go_wp2_with fail
  refine (CZ.out _ hrD).mono ?_
  rintro e w11 ⟨hb11, A11, c11, rfl, hr11⟩
  dsimp only at hr11 ⊢
  rw [X3.out]
  have T11 := T10.call hb11
  replace hr7 := (hr7.below hb11 (Nat.le_refl _)).more hb11.size
  replace hr9 := (hr9.below hb11 (Nat.le_refl _)).more hb11.size
  clear T10 hb11 r0 r1 b0 b1 b2
  go_upto_region 9 with fail
  refine wp_world (fun W12 hW12 => ?_)
  obtain ⟨T12, hs12, hb12⟩ := T11.new1 hW12
  replace hr7 := (hr7.below hb12 (Nat.le_refl _)).more hb12.size
  replace hr9 := (hr9.below hb12 (Nat.le_refl _)).more hb12.size
  replace hr11 := (hr11.below hb12 (Nat.le_refl _)).more hb12.size
  clear hW12 T11 hs12 hb12
  generalize hq11 : w11.heap.size = q11 at *
  clear hq11
  have hlow := T12.low
  have hsz := T12.size
  have y1 := T12.stand.1.lt
  have y2 := T12.stand.2.1.lt
  have y3 := T12.stand.2.2.1.lt
  obtain ⟨⟨s0, s1, s2⟩, _⟩ := T12.stand.1.three
  obtain ⟨⟨t0, t1, t2⟩, _⟩ := T12.stand.2.1.three
  obtain ⟨⟨u0, u1, u2⟩, _⟩ := T12.stand.2.2.1.three
  clear T12
  have hbS := Below.refl W12.heap.size W12
  go_wp2_with fail
  refine (W1.out _ _ _ _ _ hr7 hr9).mono ?_
  rintro e v1 ⟨rfl, hv1⟩
  have hbS := hbS.trans (hv1.mono hbS.size)
  have hc1 := (sb_of hbS).1
  go_wp2_with fail
  refine (W2.out _ _ _ _ _ ((hr7.below hbS (Nat.le_refl _)).more hbS.size) ((hr11.below hbS (Nat.le_refl _)).more hbS.size)).mono ?_
  rintro e v2 ⟨rfl, hv2⟩
  go_wp2
  go_ret
  exact ⟨rfl, by rw [HP.out]; exact hlow.trans ((hbS.trans (hv2.mono hbS.size)).mono hsz)⟩
end Go.Proofs.Ytlanefdeeanpnaa
