/-
  The law ReaderPlain: for every argument the call returns true. Conditions: the lists' lengths fit an int, and they are read below the heap's size.
-/
import Derived.Test.YtlanefdeeanpnaaCaseMade
import Derived.Test.YtlanefdeeanpnaaSanity
import Derived.Test.YtlanefdeeanpnaaMath21
import Derived.Test.YtlanefdeeanpnaaAppend
import Derived.Test.YtlanefdeeanpnaaSame
import Derived.Test.YtlanefdeeanpnaaText
import Derived.Deep.DrawnRows
namespace Go.Proofs.Ytlanefdeeanpnaa
set_option linter.unusedVariables false
set_option linter.unusedSimpArgs false
open Go.RowKit
attribute [local go_sem ↓] Go.wp_at_zero Go.wp_at_succ

set_option maxHeartbeats 1000000 in
set_option maxRecDepth 100000 in
theorem plain_law (L1 L2 : List Int) (A1 A2 : Option Addr) (c1 c2 : Nat) (a b k : Int) (w : World) (hn1 : L1.length ≤ 9223372036854775807) (hn2 : L2.length ≤ 9223372036854775807)
    (hr1 : Rd (Value.int .i64) w w.heap.size A1 L1) (hr2 : Rd (Value.int .i64) w w.heap.size A2 L2) :
    Calls Try.prog 7 #[.agg #[.slice A1 L1.length c1, .slice A2 L2.length c2, .int .i64 a, .int .i64 b, .int .i64 k]] w fun e w' => e = .returned (.bool true) ∧ Below w.heap.size w w' := by
  have HR1 := Lib.hid hr1
  have HR2 := Lib.hid hr2
  clear hr1 hr2
  go_enter Try.func7, Try.ntmps7
  go_wp2_with fail
  refine calls_world (fun W0 hW0 => ?_)
  obtain ⟨T0, hs0, _⟩ := (Tr.start w).new1 hW0
  clear hW0
  generalize hp : w.heap.size = p at *
  have HP := Lib.hid hp
  clear hp
  refine (sanity_true _).mono ?_
  rintro e w1 ⟨rfl, hb1⟩
  have T1 := T0.call hb1
  clear T0 hb1 hs0
  obtain ⟨b0, b1, b2, b3, b4⟩ := T1.stand.1.five
  go_wp2_with fail
  refine (case_made L1 L2 A1 A2 c1 c2 a b k _ hn1 hn2 (T1.rd HR1.out) (T1.rd HR2.out)).mono ?_
  rintro e w2 ⟨g1, g2, rfl, hg1, hg2, hO1, hO2, hb2⟩
  have T2 := ((T1.call hb2).push hO2.blk).push hO1.blk
  clear T1 hb2 hO1 hO2 b0 b1 b2 b3 b4
  go_upto_region 3 with fail
  refine wp_world (fun W3 hW3 => ?_)
  obtain ⟨T3, hs3, _⟩ := T2.new3 hW3
  clear hW3 T2 hs3
  generalize hq : w2.heap.size = q at *
  clear hq HR1 HR2
  have hl1 := mkD_len L1
  have hm := mkW_le L1
  have hn := mkH_le L1
  have hok := md_ok a b
  generalize mkD2 L1 L2 = D2 at *
  generalize mkD L1 = D at *
  generalize mkW L1 = m at *
  generalize mkH L1 = n at *
  generalize mdS a b = S at *
  obtain ⟨hB0, hB2, hS1, hS2⟩ := rd_yes hok
  generalize mdB a = B at *
  obtain ⟨bb, rfl⟩ := Int.eq_ofNat_of_zero_le hB0
  have hmn : m * n ≤ 192 := Nat.mul_le_mul hm hn
  have hb2 : bb ≤ 2 := by omega
  have CA := Lib.hid (fun A w h => reader_See 0 1 m n A (m * n) D w (by omega) h)
  rw [see_ok (by decide) (by omega) (by omega) hl1, hl1] at CA
  rw [show (0 : Int).toNat = 0 from rfl, see_self m n D hl1] at CA
  have CB := Lib.hid (fun A w h => reader_See bb S m n A (m * n) (List.replicate (m * n) false) w (by simp; omega) h)
  rw [see_ok hok (by omega) (by omega) (by simp), Int.toNat_natCast, see_blank m n bb S hS1, List.length_replicate] at CB
  have CF := Lib.hid (fun A c w h => reader_See bb S m n A c (List.replicate (m * n) true) w (by simp; omega) h)
  rw [see_ok hok (by omega) (by omega) (by simp), Int.toNat_natCast, List.length_replicate] at CF
  have HF := Lib.hid (fun i j => see_full m n bb S (by simpa using hS2) i j)
  have hFl := seeL_len m n (List.replicate (m * n) true) bb S
  generalize seeL m n (List.replicate (m * n) true) bb S = F at CF HF hFl
  have HOK := Lib.hid hok
  clear hok hS1 hS2 hB0 hB2
  obtain ⟨⟨b0, b1, b2⟩, _⟩ := T3.stand.2.1.three
  go_wp2_with fail
  refine (CA.out _ _ ((T3.stand.2.2.2.1.own (f := Value.bool)).rd T3.stand.2.2.2.1.lt)).mono ?_
  rintro e w4 ⟨hb4, A4, c4, rfl, hr4⟩
  dsimp only at hr4 ⊢
  rw [hl1]
  have T4 := T3.call hb4
  clear T3 hb4 b0 b1 b2
  go_upto_region 4 with fail
  refine wp_world (fun W5 hW5 => ?_)
  obtain ⟨T5, hs5, hb5⟩ := T4.new1 hW5
  replace hr4 := (hr4.below hb5 (Nat.le_refl _)).more hb5.size
  clear hW5 T4 hs5 hb5
  generalize hq4 : w4.heap.size = q4 at *
  clear hq4
  obtain ⟨⟨b0, b1, b2⟩, _⟩ := T5.stand.2.2.1.three
  go_wp2_with fail
  refine (bitmap_New_nat m n _ (by omega) (by omega)).mono ?_
  rintro e w6 ⟨g6, rfl, hg6, hgl6, hO6, hb6⟩
  dsimp only
  have T6 := (T5.call hb6).push hO6.blk
  replace hr4 := (hr4.below hb6 (Nat.le_refl _)).more hb6.size
  clear T5 hb6 b0 b1 b2 hO6
  go_upto_region 5 with fail
  refine wp_world (fun W7 hW7 => ?_)
  obtain ⟨T7, hs7, hb7⟩ := T6.new1 hW7
  replace hr4 := (hr4.below hb7 (Nat.le_refl _)).more hb7.size
  clear hW7 T6 hs7 hb7
  generalize hq6 : w6.heap.size = q6 at *
  clear hq6
  have z4 := T7.stand.2.2.2.1.lt
  obtain ⟨⟨b0, b1⟩, _⟩ := T7.stand.2.2.2.1.two
  obtain ⟨⟨d0, d1, d2⟩, _⟩ := T7.stand.1.three
  go_wp2_with fail
  refine (CB.out _ _ ((T7.stand.2.1.own (f := Value.bool)).rd T7.stand.2.1.lt)).mono ?_
  rintro e w8 ⟨hb8, A8, c8, rfl, hr8⟩
  dsimp only at hr8 ⊢
  rw [List.length_replicate]
  have T8 := T7.call hb8
  replace hr4 := (hr4.below hb8 (Nat.le_refl _)).more hb8.size
  clear T7 hb8 b0 b1 d0 d1 d2 z4
  go_upto_region 6 with fail
  refine wp_world (fun W9 hW9 => ?_)
  obtain ⟨T9, hs9, hb9⟩ := T8.new1 hW9
  replace hr4 := (hr4.below hb9 (Nat.le_refl _)).more hb9.size
  replace hr8 := (hr8.below hb9 (Nat.le_refl _)).more hb9.size
  clear hW9 T8 hs9 hb9
  generalize hq8 : w8.heap.size = q8 at *
  clear hq8
  obtain ⟨⟨b0, b1, b2⟩, _⟩ := T9.stand.2.2.2.2.2.1.three
  go_wp2_with fail
  refine wp_world (fun W10 hW10 => ?_)
  obtain ⟨T10, hs10, hb10⟩ := T9.new1 hW10
  replace hr4 := (hr4.below hb10 (Nat.le_refl _)).more hb10.size
  replace hr8 := (hr8.below hb10 (Nat.le_refl _)).more hb10.size
  have T9s := T9.stand
  have hpq9 := T9.size
  clear hW10 T9 hs10 hb10 b0 b1 b2
  have y8 := T9s.1.lt
  have y6 := T9s.2.1.lt
  have yg := T9s.2.2.1.lt
  have y4 := T9s.2.2.2.1.lt
  have yq := T9s.2.2.2.2.1.lt
  have yq1 := T9s.2.2.2.2.2.1.lt
  have yg1 := T9s.2.2.2.2.2.2.2.1.lt
  clear T9s
  generalize hq9 : W9.heap.size = q9 at *
  clear hq9
  obtain ⟨⟨b0, b1, b2⟩, _⟩ := T10.stand.2.2.2.2.2.2.1.three
  have hab := T10.stand.2.2.2.2.2.2.1
  have hfull := T10.stand.1
  have hpq : q + 1 ≠ q9 := by omega
  obtain ⟨i0, hi0, hy0, hy1, hy2⟩ := info_parts info_bool
  go_loopw [14] (fun kk wr => ∃ t : Nat, t ≤ m * n ∧ kk = .int .i64 t ∧ ∃ (A' : Option Addr) (c' : Nat), Blk wr q9 29 #[.int .i64 m, .int .i64 n, .slice A' t c'] ∧ wr.ownsRow W10.heap.size 4 1 (.slice A' t c') t ((List.replicate t true).map Value.bool) ∧ Kp [q9] W10 wr) (fun kk _ => m * n - (intOf kk).toNat)
  case atStart => exact ⟨0, by omega, rfl, none, 0, hfull, World.ownsRow_nil _ _ _ _, Kp.refl _ _⟩
  case round =>
    obtain ⟨t, ht, rfl, A', c', hQ, hown, hk⟩ := hrel
    clear b0 b1 b2
    obtain ⟨⟨b0, b1, b2⟩, _⟩ := (hk.blk hab (by simpa using hpq)).three
    by_cases hlt : t < m * n
    · have hlti : (t : Int) < ((m * n : Nat) : Int) := by omega
      have hwx : W10.heap.size ≤ wr.heap.size := hk.size
      have hqx := hQ.lt
      have hQ1 := hQ.alloc (.cells #[.bool true] 4)
      have hk1 := hk.alloc (.cells #[.bool true] 4)
      have hq9b : q9 < W10.heap.size := hfull.lt
      obtain ⟨⟨e0, e1, e2⟩, f0, f1, f2⟩ := hQ.three
      go_wp2_with (at_builtin; refine wpList_append_rd _ rfl _ _ _ rfl W10.heap.size 4 i0 _ 1 Try.underlying27 hi0 hy0 hy1 hy2 rfl _ t _ rfl (hown.alloc _) (some ⟨wr.heap.size, 0, none⟩) 1 (wr.heap.size + 1) [true] rfl ((Own.new wr 4 [true]).rd (Nat.lt_succ_self _)) (fun _ => rfl) (by unfold maxLen; simp; omega) (by simp; omega) (by simp; omega) ?_; intro A2 c2 w2 hown2 hgrow hat; simp only [List.length_cons, List.length_nil, Nat.zero_add] at hown2 hat ⊢; have hQ2 := hQ1.grown hgrow (own_ne hown hq9b); have hk2 := hk1.grown_new hgrow (fun k hk => (hown.lt k hk).1); obtain ⟨⟨e0, e1, e2⟩, f0, f1, f2⟩ := hQ2.three)
      have hown3 : w2.ownsRow W10.heap.size 4 1 (.slice A2 (t + 1) c2) (t + 1) ((List.replicate (t + 1) true).map Value.bool) := by
        rw [List.replicate_succ', List.map_append]
        simpa using hown2
      go_roundw
      case rel => exact ⟨t + 1, by omega, by go_num, A2, c2, by simpa using hQ2.set_ 2 (.slice A2 (t + 1) c2), own_kp hown3 ((Kp.refl [q9] _).set (.inl (by simp)) _ _) (fun k hk => by have := (hown3.lt k hk).1; simp; omega), hk2.set (.inl (by simp)) _ _⟩
      case measure => simp [intOf]; omega
    · have hte : t = m * n := by omega
      subst hte
      have T11 := (((((((((Tr.bare (T10.low.trans (hk.to_below T10.size (by simp; omega))) (Nat.le_trans T10.size hk.size)).push (hk.blk T10.stand.2.2.2.2.2.2.2.2.1 (by simp; omega))).push (hk.blk hab (by simp; omega))).push (hk.blk T10.stand.2.2.2.2.2.1 (by simp; omega))).push (hk.blk T10.stand.2.2.2.2.1 (by simp; omega))).push (hk.blk T10.stand.2.2.2.1 (by simp; omega))).push (hk.blk T10.stand.2.2.1 (by simp; omega))).push (hk.blk T10.stand.2.1 (by simp; omega))).push hQ)
      replace hr4 := (hr4.other T10.stand.1 hk (Nat.le_refl _) rfl).more hk.size
      replace hr8 := (hr8.other T10.stand.1 hk (Nat.le_refl _) rfl).more hk.size
      have hrF := own_rd hown
      clear hown hk hQ T10 hab hfull b0 b1 b2
      obtain ⟨⟨b0, b1, b2⟩, _⟩ := T11.stand.2.2.2.2.2.2.1.three
      obtain ⟨⟨d0, d1⟩, _⟩ := T11.stand.2.2.2.2.2.1.two
      obtain ⟨⟨e0, e1, e2⟩, _⟩ := T11.stand.1.three
      go_wp2_with fail
      refine (CF.out A' c' _ hrF).mono ?_
      rintro e w12 ⟨hb12, A12, c12, rfl, hr12⟩
      dsimp only at hr12 ⊢
      rw [hFl]
      have T12 := T11.call hb12
      replace hr4 := (hr4.below hb12 (Nat.le_refl _)).more hb12.size
      replace hr8 := (hr8.below hb12 (Nat.le_refl _)).more hb12.size
      clear T11 hb12 b0 b1 b2 d0 d1 e0 e1 e2 hrF
      go_upto_region 12 with fail
      refine wp_world (fun W13 hW13 => ?_)
      obtain ⟨T13, hs13, hb13⟩ := T12.new1 hW13
      replace hr4 := (hr4.below hb13 (Nat.le_refl _)).more hb13.size
      replace hr8 := (hr8.below hb13 (Nat.le_refl _)).more hb13.size
      replace hr12 := (hr12.below hb13 (Nat.le_refl _)).more hb13.size
      clear hW13 T12 hs13 hb13
      generalize hq12 : w12.heap.size = q12 at *
      clear hq12
      have hlow := T13.low
      have hsz := T13.size
      have hrD := (T13.stand.2.2.2.2.2.2.2.2.1.own (f := Value.bool)).rd T13.stand.2.2.2.2.2.2.2.2.1.lt
      have hrN := (T13.stand.2.2.2.2.1.own (f := Value.bool)).rd T13.stand.2.2.2.2.1.lt
      have x1 := T13.stand.1.lt
      have x2 := T13.stand.2.2.1.lt
      have x3 := T13.stand.2.2.2.1.lt
      have x4 := T13.stand.2.2.2.2.2.1.lt
      have x5 := T13.stand.2.2.2.2.2.2.1.lt
      have x6 := T13.stand.2.2.2.2.2.2.2.1.lt
      obtain ⟨⟨b0, b1, b2⟩, _⟩ := T13.stand.1.three
      obtain ⟨⟨d0, d1, d2⟩, _⟩ := T13.stand.2.2.1.three
      obtain ⟨⟨e0, e1, e2⟩, _⟩ := T13.stand.2.2.2.1.three
      obtain ⟨⟨f0, f1, f2⟩, _⟩ := T13.stand.2.2.2.2.2.1.three
      obtain ⟨⟨h0, h1⟩, _⟩ := T13.stand.2.2.2.2.2.2.1.two
      obtain ⟨⟨s0, s1, s2⟩, _⟩ := T13.stand.2.2.2.2.2.2.2.1.three
      clear T13
      have CS1 := Lib.hid (fun w h h' => bitmap_Same m n A4 c4 D m n (some ⟨g1, 0, none⟩) (m * n) D w (by omega) (by omega) h h')
      rw [hl1, show sameB (m : Int) (n : Int) D m n D = true from by simp [sameB]] at CS1
      have CS2 := Lib.hid (fun w h h' => bitmap_Same m n A8 c8 (List.replicate (m * n) false) m n (some ⟨g6, 0, none⟩) (m * n) (List.replicate (m * n) false) w (by simp; omega) (by simp; omega) h h')
      rw [List.length_replicate, show sameB (m : Int) (n : Int) (List.replicate (m * n) false) m n (List.replicate (m * n) false) = true from by simp [sameB]] at CS2
      have CS3 := Lib.hid (fun w => bitmap_Check m n A12 (m * n) c12 w (by omega))
      rw [bm_ok (by omega) (by omega)] at CS3
      have CG := Lib.hid (fun x y w h => bitmap_Get m n A12 c12 F x y w (by omega) h)
      have HG : Hid (∀ x y : Nat, bb ≤ x → x + bb < m → bb ≤ y → y + bb < n → getB m n F x y = true) := Lib.hid (fun x y h1 h2 h3 h4 => by
        rw [getB_nat (by rw [hFl]; exact bm_ok (by omega) (by omega)) (by omega) (by omega)]
        exact HF.out x y h1 h2 h3 h4)
      rw [hFl] at CG
      clear hFl hl1 HF CA CB CF
      have hbS := Below.refl W13.heap.size W13
      go_wp2_with fail
      refine (CS1.out _ hr4 hrD).mono ?_
      rintro e v1 ⟨rfl, hv1⟩
      have hbS := hbS.trans (hv1.mono hbS.size)
      have hc1 := (sb_of hbS).1
      go_wp2_with fail
      refine (CS2.out _ ((hr8.below hbS (Nat.le_refl _)).more hbS.size) ((hrN.below hbS (Nat.le_refl _)).more hbS.size)).mono ?_
      rintro e v2 ⟨rfl, hv2⟩
      have hbS := hbS.trans (hv2.mono hbS.size)
      have hc2 := (sb_of hbS).1
      go_wp2_with fail
      refine (CS3.out _).mono ?_
      rintro e v3 ⟨rfl, hv3⟩
      have hbS := hbS.trans (hv3.mono hbS.size)
      have hc3 := (sb_of hbS).1
      clear hr4 hr8 hrD hrN CS1 CS2 CS3 hc1 hc2 hv1 hv2 hv3
      go_wp2_with fail
      go_loopw [17] (fun yy wr => ∃ y : Nat, bb ≤ y ∧ y ≤ 100 ∧ yy = .int .i64 y ∧ Below W13.heap.size W13 wr) (fun yy _ => 100 - (intOf yy).toNat)
      case atStart => exact ⟨bb, by omega, by omega, rfl, hbS⟩
      case round =>
        clear hbS hc3
        obtain ⟨y, hy1, hy2, rfl, hbr⟩ := hrel
        have hcr := (sb_of hbr).1
        by_cases hyl : y + bb < n
        · have g1 : (y : Int) < (n : Int) - (bb : Int) := by omega
          go_wp2_with fail
          go_loopw [18] (fun xx wr => ∃ x : Nat, bb ≤ x ∧ x ≤ 100 ∧ xx = .int .i64 x ∧ Below W13.heap.size W13 wr) (fun xx _ => 100 - (intOf xx).toNat)
          case atStart => exact ⟨bb, by omega, by omega, rfl, hbr⟩
          case round =>
            clear hbr hcr
            obtain ⟨x, hx1, hx2, rfl, hbx⟩ := hrel
            have hcx := (sb_of hbx).1
            by_cases hxl : x + bb < m
            · have g2 : (x : Int) < (m : Int) - (bb : Int) := by omega
              go_wp2_with fail
              refine (CG.out x y _ ((hr12.below hbx (Nat.le_refl _)).more hbx.size)).mono ?_
              rintro e v5 ⟨rfl, hv5⟩
              rw [HG.out x y hx1 hxl hy1 hyl]
              have hb5 := hbx.trans (hv5.mono hbx.size)
              clear hv5
              go_wp2
              go_roundw
              case rel => exact ⟨x + 1, by omega, by omega, by go_num, hb5⟩
              case measure => simp [intOf]; omega
            · have g2 : (m : Int) - (bb : Int) ≤ (x : Int) := by omega
              go_wp2
              go_roundw
              case rel => exact ⟨y + 1, by omega, by omega, by go_num, hbx⟩
              case measure => simp [intOf]; omega
        · have g1 : (n : Int) - (bb : Int) ≤ (y : Int) := by omega
          go_wp2
          go_ret
          exact ⟨rfl, by rw [HP.out]; exact hlow.trans (hbr.mono hsz)⟩
end Go.Proofs.Ytlanefdeeanpnaa
