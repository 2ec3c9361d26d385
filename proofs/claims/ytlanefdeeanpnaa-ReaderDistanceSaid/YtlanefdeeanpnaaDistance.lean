/-
  The law ReaderDistance: for every argument the call returns true. Conditions: the lists' lengths fit an int, and they are read below the heap's size.
-/
import Derived.Test.YtlanefdeeanpnaaCaseMade
import Derived.Test.YtlanefdeeanpnaaSanity
import Derived.Test.YtlanefdeeanpnaaMath21
import Derived.Deep.DrawnRows
namespace Go.Proofs.Ytlanefdeeanpnaa
set_option linter.unusedVariables false
set_option linter.unusedSimpArgs false
open Go.RowKit
attribute [local go_sem ↓] Go.wp_at_zero Go.wp_at_succ

set_option maxHeartbeats 1000000 in
set_option maxRecDepth 100000 in
theorem distance_law (L1 L2 L3 : List Int) (A1 A2 A3 : Option Addr) (c1 c2 c3 : Nat) (a b k : Int) (w : World) (hn1 : L1.length ≤ 9223372036854775807) (hn2 : L2.length ≤ 9223372036854775807) (hn3 : L3.length ≤ 9223372036854775807)
    (hr1 : Rd (Value.int .i64) w w.heap.size A1 L1) (hr2 : Rd (Value.int .i64) w w.heap.size A2 L2) (hr3 : Rd (Value.int .i64) w w.heap.size A3 L3) :
    Calls Try.prog 5 #[.agg #[.slice A1 L1.length c1, .slice A2 L2.length c2, .int .i64 a, .int .i64 b, .int .i64 k], .slice A3 L3.length c3] w fun e w' => e = .returned (.bool true) ∧ Below w.heap.size w w' := by
  have HR1 := Lib.hid hr1
  have HR2 := Lib.hid hr2
  have HR3 := Lib.hid hr3
  clear hr1 hr2 hr3
  go_enter Try.func5, Try.ntmps5
  go_wp2_with fail
  refine calls_world (fun W0 hW0 => ?_)
  obtain ⟨T0, hs0, _⟩ := (Tr.start w).new1 hW0
  clear hW0
  generalize hp : w.heap.size = p at *
  have HP := Lib.hid hp
  clear hp
  refine (sanity_true _).mono ?_
  rintro e w1 ⟨rfl, hb1⟩
  have T1 := T0.call hb1
  clear T0 hb1 hs0
  obtain ⟨b0, b1, b2, b3, b4⟩ := T1.stand.1.five
  go_wp2_with fail
  refine (case_made L1 L2 A1 A2 c1 c2 a b k _ hn1 hn2 (T1.rd HR1.out) (T1.rd HR2.out)).mono ?_
  rintro e w2 ⟨g1, g2, rfl, hg1, hg2, hO1, hO2, hb2⟩
  have T2 := ((T1.call hb2).push hO2.blk).push hO1.blk
  clear T1 hb2 hO1 hO2 b0 b1 b2 b3 b4
  dsimp only
  go_upto_region 3 with fail
  refine wp_world (fun W3 hW3 => ?_)
  obtain ⟨T3, hs3, _⟩ := T2.new3 hW3
  clear hW3 T2 hs3
  generalize hq : w2.heap.size = q at *
  clear hq
  have z1 := T3.stand.2.1.lt
  obtain ⟨⟨b0, b1, b2⟩, _⟩ := T3.stand.2.1.three
  go_cut [9, 10] (fun s9 s10 wx => ∃ (q9 g3 : Nat), s9 = .pointer (some ⟨q9, 0, none⟩) ∧ s10 = .int .i64 0 ∧ Blk wx q9 29 #[.int .i64 (mkW L1), .int .i64 (mkH L1), .slice (some ⟨g3, 0, none⟩) (mkW L1 * mkH L1) (mkW L1 * mkH L1)] ∧ Own Value.bool 4 wx g3 (mkD2 L1 L3) ∧ Below W3.heap.size W3 wx)
  case first =>
    refine wp_region_L 12 (fun w' => (∀ b o, b < W3.heap.size → w'.cell? ⟨b, o, none⟩ = W3.cell? ⟨b, o, none⟩) ∧ Below W3.heap.size W3 w') (by kernel_rfl) ?_ (fun Wd hWd hS => ?_)
    · (try dsimp only)
      exact sb_of (Below.refl _ _).drew
    (try dsimp only at hS)
    refine wpT_take 0 (v := ?_) rfl (by kernel_rfl) (by kernel_rfl) (fun _ _ _ h => h) hS (Or.inl ⟨rfl, ?_⟩) ?_
    rotate_left
    · (intro w' hSw; (try dsimp only at hSw); go_simp; first | done | with_reducible rfl)
    (try simp only [Act.put, List.setIfInBounds_toArray, List.set_cons_zero, List.set_cons_succ])
    refine wpT_take 2 (v := ?_) rfl (by kernel_rfl) (by kernel_rfl) (fun _ _ _ h => h) hS (Or.inl ⟨rfl, ?_⟩) ?_
    rotate_left
    · (intro w' hSw; (try dsimp only at hSw); go_simp; first | done | with_reducible rfl)
    (try simp only [Act.put, List.setIfInBounds_toArray, List.set_cons_zero, List.set_cons_succ])
    refine wpT_take 3 (v := ?_) rfl (by kernel_rfl) (by kernel_rfl) (fun _ _ _ h => h) hS (Or.inl ⟨rfl, ?_⟩) ?_
    rotate_left
    · (intro w' hSw; (try dsimp only at hSw); go_simp; first | done | with_reducible rfl)
    (try simp only [Act.put, List.setIfInBounds_toArray, List.set_cons_zero, List.set_cons_succ])
    refine wpT_take 4 (v := ?_) rfl (by kernel_rfl) (by kernel_rfl) (fun _ _ _ h => h) hS (Or.inl ⟨rfl, ?_⟩) ?_
    rotate_left
    · (intro w' hSw; (try dsimp only at hSw); go_simp; first | done | with_reducible rfl)
    (try simp only [Act.put, List.setIfInBounds_toArray, List.set_cons_zero, List.set_cons_succ])
    refine wpT_take 5 (v := ?_) rfl (by kernel_rfl) (by kernel_rfl) (fun _ _ _ h => h) hS (Or.inl ⟨rfl, ?_⟩) ?_
    rotate_left
    · (intro w' hSw; (try dsimp only at hSw); go_simp; first | done | with_reducible rfl)
    (try simp only [Act.put, List.setIfInBounds_toArray, List.set_cons_zero, List.set_cons_succ])
    refine wpT_two 1 10 rfl rfl (by kernel_rfl) (fun K hK => ?_) (fun K hK => ?_)
    · skip
      go_simp
      go_at_call 31
      refine (Made_any L3 A3 c3 _ hn3 ((T3.call hS.2).rd HR3.out)).mono ?_
      rintro e wm ⟨gm, rfl, hgm, hgml, hOm, hbm⟩
      have hbS := hS.2.trans (hbm.mono hS.2.size)
      try have hQ := hQ.below hbm hQ.lt
      refine hK.out _ _ ?_ (fun hS => ?_)
      · (try dsimp only)
        exact sb_of hbS
      clear hK K
      (try simp only [Act.put, List.setIfInBounds_toArray, List.set_cons_zero, List.set_cons_succ])
      (try dsimp only at hS)
      refine wpT_two 6 10 rfl rfl (by kernel_rfl) (fun K hK => ?_) (fun K hK => ?_)
      · skip
        go_simp
        go_at_call 30
        refine (crop_mk L1 L3 gm _ (hOm.rd hOm.lt)).mono ?_
        rintro e wc ⟨g3, rfl, hg3, hgl3, hO3, hbc⟩
        have hbS := hS.2.trans (hbc.mono hS.2.size)
        try have hQ := hQ.below hbc hQ.lt
        refine hK.out _ _ ?_ (fun hS => ?_)
        · (try dsimp only)
          exact sb_of hbS
        clear hK K
        (try simp only [Act.put, List.setIfInBounds_toArray, List.set_cons_zero, List.set_cons_succ])
        (try dsimp only at hS)
        refine wpT_take 7 (v := ?_) rfl (by kernel_rfl) (by kernel_rfl) (fun _ _ _ h => h) hS (Or.inl ⟨rfl, ?_⟩) ?_
        rotate_left
        · (intro w' hSw; (try dsimp only at hSw); go_simp; first | done | with_reducible rfl)
        (try simp only [Act.put, List.setIfInBounds_toArray, List.set_cons_zero, List.set_cons_succ])
        refine wpT_take 8 (v := ?_) rfl (by kernel_rfl) (by kernel_rfl) (fun _ _ _ h => h) hS (Or.inl ⟨rfl, ?_⟩) ?_
        rotate_left
        · (intro w' hSw; (try dsimp only at hSw); go_simp; first | done | with_reducible rfl)
        (try simp only [Act.put, List.setIfInBounds_toArray, List.set_cons_zero, List.set_cons_succ])
        refine wpT_take 9 (v := ?_) rfl (by kernel_rfl) (by kernel_rfl) (fun _ _ _ h => h) hS (Or.inl ⟨rfl, ?_⟩) ?_
        rotate_left
        · (intro w' hSw; (try dsimp only at hSw); go_simp; first | done | with_reducible rfl)
        (try simp only [Act.put, List.setIfInBounds_toArray, List.set_cons_zero, List.set_cons_succ])
        refine wpT_one 10 rfl (by kernel_rfl) (fun K hK => ?_)
        go_simp
        refine k_world (fun Wq hWq => ?_)
        have hS10 := hS.2.size
        obtain ⟨q9, eq9, hQ, hbQ, hsQ⟩ := new1n hWq
        clear hWq
        try rw [eq9]
        have hq9 : W3.heap.size ≤ q9 := by omega
        have hbS := hS.2.trans (hbQ.mono hq9)
        try have hOm := hOm.below hbQ (by have := hOm.lt; omega)
        try have hO3 := hO3.below hbQ (by have := hO3.lt; omega)
        refine hK.out _ _ ?_ (fun hS => ?_)
        · (try dsimp only)
          exact sb_of hbS
        clear hK K
        (try simp only [Act.put, List.setIfInBounds_toArray, List.set_cons_zero, List.set_cons_succ])
        (try dsimp only at hS)
        refine wpT_one 11 rfl (by kernel_rfl) (fun K hK => ?_)
        obtain ⟨⟨u0, u1, u2⟩, v0, v1, v2⟩ := hQ.three
        go_simp
        refine k_world (fun WX hWX => ?_)
        have hne := own_blk_ne hO3 hQ (by decide)
        obtain ⟨hQ, hkX⟩ := store3 hWX hQ
        clear hWX u0 u1 u2 v0 v1 v2
        have hO3 := hkX.own hO3 (by simpa using hne)
        have hbS := hbS.trans (hkX.to_below hbS.size (by simpa using hq9))
        refine hK.out _ _ ?_ (fun hS => ?_)
        · (try dsimp only)
          exact sb_of hbS
        clear hK K
        (try simp only [Act.put, List.setIfInBounds_toArray, List.set_cons_zero, List.set_cons_succ])
        (try dsimp only at hS)
        refine wpT_tail (by rfl) (by kernel_rfl) ?_
        (try simp only [List.drop_succ_cons, List.drop_zero])
        go_wp2
        go_meet
        exact ⟨q9, g3, rfl, rfl, hQ, hO3, hbS⟩
      · skip
        go_simp
        refine k_world (fun Wq hWq => ?_)
        have hS10 := hS.2.size
        obtain ⟨q9, eq9, hQ, hbQ, hsQ⟩ := new1n hWq
        clear hWq
        try rw [eq9]
        have hq9 : W3.heap.size ≤ q9 := by omega
        have hbS := hS.2.trans (hbQ.mono hq9)
        try have hOm := hOm.below hbQ (by have := hOm.lt; omega)
        try have hO3 := hO3.below hbQ (by have := hO3.lt; omega)
        refine hK.out _ _ ?_ (fun hS => ?_)
        · (try dsimp only)
          exact sb_of hbS
        clear hK K
        (try simp only [Act.put, List.setIfInBounds_toArray, List.set_cons_zero, List.set_cons_succ])
        (try dsimp only at hS)
        refine wpT_one 6 rfl (by kernel_rfl) (fun K hK => ?_)
        go_simp
        go_at_call 30
        refine (crop_mk L1 L3 gm _ (hOm.rd hOm.lt)).mono ?_
        rintro e wc ⟨g3, rfl, hg3, hgl3, hO3, hbc⟩
        have hbS := hS.2.trans (hbc.mono hS.2.size)
        try have hQ := hQ.below hbc hQ.lt
        refine hK.out _ _ ?_ (fun hS => ?_)
        · (try dsimp only)
          exact sb_of hbS
        clear hK K
        (try simp only [Act.put, List.setIfInBounds_toArray, List.set_cons_zero, List.set_cons_succ])
        (try dsimp only at hS)
        refine wpT_take 7 (v := ?_) rfl (by kernel_rfl) (by kernel_rfl) (fun _ _ _ h => h) hS (Or.inl ⟨rfl, ?_⟩) ?_
        rotate_left
        · (intro w' hSw; (try dsimp only at hSw); go_simp; first | done | with_reducible rfl)
        (try simp only [Act.put, List.setIfInBounds_toArray, List.set_cons_zero, List.set_cons_succ])
        refine wpT_take 8 (v := ?_) rfl (by kernel_rfl) (by kernel_rfl) (fun _ _ _ h => h) hS (Or.inl ⟨rfl, ?_⟩) ?_
        rotate_left
        · (intro w' hSw; (try dsimp only at hSw); go_simp; first | done | with_reducible rfl)
        (try simp only [Act.put, List.setIfInBounds_toArray, List.set_cons_zero, List.set_cons_succ])
        refine wpT_take 9 (v := ?_) rfl (by kernel_rfl) (by kernel_rfl) (fun _ _ _ h => h) hS (Or.inl ⟨rfl, ?_⟩) ?_
        rotate_left
        · (intro w' hSw; (try dsimp only at hSw); go_simp; first | done | with_reducible rfl)
        (try simp only [Act.put, List.setIfInBounds_toArray, List.set_cons_zero, List.set_cons_succ])
        refine wpT_one 11 rfl (by kernel_rfl) (fun K hK => ?_)
        obtain ⟨⟨u0, u1, u2⟩, v0, v1, v2⟩ := hQ.three
        go_simp
        refine k_world (fun WX hWX => ?_)
        have hne := own_blk_ne hO3 hQ (by decide)
        obtain ⟨hQ, hkX⟩ := store3 hWX hQ
        clear hWX u0 u1 u2 v0 v1 v2
        have hO3 := hkX.own hO3 (by simpa using hne)
        have hbS := hbS.trans (hkX.to_below hbS.size (by simpa using hq9))
        refine hK.out _ _ ?_ (fun hS => ?_)
        · (try dsimp only)
          exact sb_of hbS
        clear hK K
        (try simp only [Act.put, List.setIfInBounds_toArray, List.set_cons_zero, List.set_cons_succ])
        (try dsimp only at hS)
        refine wpT_tail (by rfl) (by kernel_rfl) ?_
        (try simp only [List.drop_succ_cons, List.drop_zero])
        go_wp2
        go_meet
        exact ⟨q9, g3, rfl, rfl, hQ, hO3, hbS⟩
    · skip
      go_simp
      refine k_world (fun Wq hWq => ?_)
      have hS10 := hS.2.size
      obtain ⟨q9, eq9, hQ, hbQ, hsQ⟩ := new1n hWq
      clear hWq
      try rw [eq9]
      have hq9 : W3.heap.size ≤ q9 := by omega
      have hbS := hS.2.trans (hbQ.mono hq9)
      try have hOm := hOm.below hbQ (by have := hOm.lt; omega)
      try have hO3 := hO3.below hbQ (by have := hO3.lt; omega)
      refine hK.out _ _ ?_ (fun hS => ?_)
      · (try dsimp only)
        exact sb_of hbS
      clear hK K
      (try simp only [Act.put, List.setIfInBounds_toArray, List.set_cons_zero, List.set_cons_succ])
      (try dsimp only at hS)
      refine wpT_one 1 rfl (by kernel_rfl) (fun K hK => ?_)
      go_simp
      go_at_call 31
      refine (Made_any L3 A3 c3 _ hn3 ((T3.call hS.2).rd HR3.out)).mono ?_
      rintro e wm ⟨gm, rfl, hgm, hgml, hOm, hbm⟩
      have hbS := hS.2.trans (hbm.mono hS.2.size)
      try have hQ := hQ.below hbm hQ.lt
      refine hK.out _ _ ?_ (fun hS => ?_)
      · (try dsimp only)
        exact sb_of hbS
      clear hK K
      (try simp only [Act.put, List.setIfInBounds_toArray, List.set_cons_zero, List.set_cons_succ])
      (try dsimp only at hS)
      refine wpT_one 6 rfl (by kernel_rfl) (fun K hK => ?_)
      go_simp
      go_at_call 30
      refine (crop_mk L1 L3 gm _ (hOm.rd hOm.lt)).mono ?_
      rintro e wc ⟨g3, rfl, hg3, hgl3, hO3, hbc⟩
      have hbS := hS.2.trans (hbc.mono hS.2.size)
      try have hQ := hQ.below hbc hQ.lt
      refine hK.out _ _ ?_ (fun hS => ?_)
      · (try dsimp only)
        exact sb_of hbS
      clear hK K
      (try simp only [Act.put, List.setIfInBounds_toArray, List.set_cons_zero, List.set_cons_succ])
      (try dsimp only at hS)
      refine wpT_take 7 (v := ?_) rfl (by kernel_rfl) (by kernel_rfl) (fun _ _ _ h => h) hS (Or.inl ⟨rfl, ?_⟩) ?_
      rotate_left
      · (intro w' hSw; (try dsimp only at hSw); go_simp; first | done | with_reducible rfl)
      (try simp only [Act.put, List.setIfInBounds_toArray, List.set_cons_zero, List.set_cons_succ])
      refine wpT_take 8 (v := ?_) rfl (by kernel_rfl) (by kernel_rfl) (fun _ _ _ h => h) hS (Or.inl ⟨rfl, ?_⟩) ?_
      rotate_left
      · (intro w' hSw; (try dsimp only at hSw); go_simp; first | done | with_reducible rfl)
      (try simp only [Act.put, List.setIfInBounds_toArray, List.set_cons_zero, List.set_cons_succ])
      refine wpT_take 9 (v := ?_) rfl (by kernel_rfl) (by kernel_rfl) (fun _ _ _ h => h) hS (Or.inl ⟨rfl, ?_⟩) ?_
      rotate_left
      · (intro w' hSw; (try dsimp only at hSw); go_simp; first | done | with_reducible rfl)
      (try simp only [Act.put, List.setIfInBounds_toArray, List.set_cons_zero, List.set_cons_succ])
      refine wpT_one 11 rfl (by kernel_rfl) (fun K hK => ?_)
      obtain ⟨⟨u0, u1, u2⟩, v0, v1, v2⟩ := hQ.three
      go_simp
      refine k_world (fun WX hWX => ?_)
      have hne := own_blk_ne hO3 hQ (by decide)
      obtain ⟨hQ, hkX⟩ := store3 hWX hQ
      clear hWX u0 u1 u2 v0 v1 v2
      have hO3 := hkX.own hO3 (by simpa using hne)
      have hbS := hbS.trans (hkX.to_below hbS.size (by simpa using hq9))
      refine hK.out _ _ ?_ (fun hS => ?_)
      · (try dsimp only)
        exact sb_of hbS
      clear hK K
      (try simp only [Act.put, List.setIfInBounds_toArray, List.set_cons_zero, List.set_cons_succ])
      (try dsimp only at hS)
      refine wpT_tail (by rfl) (by kernel_rfl) ?_
      (try simp only [List.drop_succ_cons, List.drop_zero])
      go_wp2
      go_meet
      exact ⟨q9, g3, rfl, rfl, hQ, hO3, hbS⟩
  case rest =>
    obtain ⟨q9, g3, rfl, rfl, hQ, hO3, hb4⟩ := hcut
    refine k_world (fun W4 hW4 => ?_)
    rw [← hW4] at hQ hO3 hb4
    clear hW4
    have T4 := ((T3.call hb4).push hQ).push hO3.blk
    clear T3 z1 b0 b1 b2
    have hr3 : Rd Value.bool W4 W4.heap.size (some ⟨g3, 0, none⟩) (mkD2 L1 L3) := hO3.rd hO3.lt
    have hr1 : Rd Value.bool W4 W4.heap.size (some ⟨g1, 0, none⟩) (mkD L1) := (T4.stand.2.2.2.2.2.1.own (f := Value.bool)).rd T4.stand.2.2.2.2.2.1.lt
    have hr2 : Rd Value.bool W4 W4.heap.size (some ⟨g2, 0, none⟩) (mkD2 L1 L2) := (T4.stand.2.2.2.2.2.2.1.own (f := Value.bool)).rd T4.stand.2.2.2.2.2.2.1.lt
    have z9 := T4.stand.2.1.lt
    have z6 := T4.stand.2.2.1.lt
    have z7 := T4.stand.2.2.2.1.lt
    have z8 := T4.stand.2.2.2.2.1.lt
    obtain ⟨⟨r0, r1⟩, _⟩ := T4.stand.2.2.1.two
    obtain ⟨⟨d0, d1, d2⟩, _⟩ := T4.stand.2.2.2.1.three
    obtain ⟨⟨f0, f1, f2⟩, _⟩ := T4.stand.2.2.2.2.1.three
    obtain ⟨⟨h0, h1, h2⟩, _⟩ := T4.stand.2.1.three
    have hw4 := T4.low
    have hs4 := T4.size
    have hl1 := mkD_len L1
    have hl2 := mkD2_len L1 L2
    have hl3 := mkD2_len L1 L3
    have hm := mkW_le L1
    have hn := mkH_le L1
    have CD : Hid (∀ (D E : List Bool) (A A' : Option Addr) (w' : World), D.length = mkW L1 * mkH L1 → E.length = mkW L1 * mkH L1 → Rd Value.bool W4 W4.heap.size A D → Rd Value.bool W4 W4.heap.size A' E → Below W4.heap.size W4 w' →
        Calls Try.prog 28 #[.agg #[.int .i64 (mdB a), .int .i64 (mdS a b)], .agg #[.int .i64 (mkW L1), .int .i64 (mkH L1), .slice A (mkW L1 * mkH L1) (mkW L1 * mkH L1)], .agg #[.int .i64 (mkW L1), .int .i64 (mkH L1), .slice A' (mkW L1 * mkH L1) (mkW L1 * mkH L1)]] w'
          fun e w'' => e = .returned (.tuple #[.int .i64 ((dmN (mkW L1) (mkH L1) (mdB a) (mdS a b) D E : Nat) : Int), .int .i64 0]) ∧ Below w'.heap.size w' w'') := Lib.hid (by
      intro D E A A' w' hD hE hr hr' hb
      have hmul : mkW L1 * mkH L1 ≤ 16 * 12 := Nat.mul_le_mul hm hn
      have h := reader_Differ (mdB a) (mdS a b) (mkW L1) (mkH L1) (mkW L1) (mkH L1) A A' (mkW L1 * mkH L1) (mkW L1 * mkH L1) D E w' (by omega) (by omega) ((hr.below hb (Nat.le_refl _)).more hb.size) ((hr'.below hb (Nat.le_refl _)).more hb.size)
      rw [hD, hE, diff_ok (md_ok a b) (by omega) (by omega) hD hE] at h
      exact h.mono fun e w'' ⟨h1, h2⟩ => ⟨h2, h1⟩)
    have hsym : dmN (mkW L1) (mkH L1) (mdB a) (mdS a b) (mkD2 L1 L2) (mkD L1) = dmN (mkW L1) (mkH L1) (mdB a) (mdS a b) (mkD L1) (mkD2 L1 L2) := dif_symm _ _ _
    have hself : dmN (mkW L1) (mkH L1) (mdB a) (mdS a b) (mkD L1) (mkD L1) = 0 := dif_self _ _
    have htri : dmN (mkW L1) (mkH L1) (mdB a) (mdS a b) (mkD L1) (mkD2 L1 L2) ≤ dmN (mkW L1) (mkH L1) (mdB a) (mdS a b) (mkD L1) (mkD2 L1 L3) + dmN (mkW L1) (mkH L1) (mdB a) (mdS a b) (mkD2 L1 L3) (mkD2 L1 L2) := dif_tri _ _ _ _
    have hsm : ∀ D E, dmN (mkW L1) (mkH L1) (mdB a) (mdS a b) D E ≤ 192 := fun D E => Nat.le_trans (dif_le _ _ _) (Nat.mul_le_mul hm hn)
    have C1 := Lib.hid (fun w' => CD.out (mkD L1) (mkD2 L1 L2) (some ⟨g1, 0, none⟩) (some ⟨g2, 0, none⟩) w' hl1 hl2 hr1 hr2)
    have C2 := Lib.hid (fun w' => CD.out (mkD2 L1 L2) (mkD L1) (some ⟨g2, 0, none⟩) (some ⟨g1, 0, none⟩) w' hl2 hl1 hr2 hr1)
    have C3 := Lib.hid (fun w' => CD.out (mkD L1) (mkD L1) (some ⟨g1, 0, none⟩) (some ⟨g1, 0, none⟩) w' hl1 hl1 hr1 hr1)
    have C4 := Lib.hid (fun w' => CD.out (mkD L1) (mkD2 L1 L3) (some ⟨g1, 0, none⟩) (some ⟨g3, 0, none⟩) w' hl1 hl3 hr1 hr3)
    have C5 := Lib.hid (fun w' => CD.out (mkD2 L1 L3) (mkD2 L1 L2) (some ⟨g3, 0, none⟩) (some ⟨g2, 0, none⟩) w' hl3 hl2 hr3 hr2)
    rw [hsym] at C2
    rw [hself] at C3
    have hx := hsm (mkD L1) (mkD2 L1 L2)
    have hp' := hsm (mkD L1) (mkD2 L1 L3)
    have hq' := hsm (mkD2 L1 L3) (mkD2 L1 L2)
    generalize dmN (mkW L1) (mkH L1) (mdB a) (mdS a b) (mkD L1) (mkD2 L1 L2) = x at C1 C2 hx htri
    generalize dmN (mkW L1) (mkH L1) (mdB a) (mdS a b) (mkD L1) (mkD2 L1 L3) = y at C4 hp' htri
    generalize dmN (mkW L1) (mkH L1) (mdB a) (mdS a b) (mkD2 L1 L3) (mkD2 L1 L2) = z at C5 hq' htri
    have hti : (x : Int) ≤ (y : Int) + (z : Int) := by omega
    clear CD hsym hself hsm htri hl1 hl2 hl3 hr1 hr2 hr3 T4 hQ hO3 hb4 HR1 HR2 HR3
    have hbS := Below.refl W4.heap.size W4
    go_wp2_with fail
    refine (C1.out _ hbS).mono ?_
    rintro e v1 ⟨rfl, hv1⟩
    have hbS := hbS.trans (hv1.mono hbS.size)
    have hc1 := (sb_of hbS).1
    dsimp only
    go_wp2_with fail
    refine (C2.out _ hbS).mono ?_
    rintro e v2 ⟨rfl, hv2⟩
    have hbS := hbS.trans (hv2.mono hbS.size)
    have hc2 := (sb_of hbS).1
    dsimp only
    go_wp2_with fail
    refine (C3.out _ hbS).mono ?_
    rintro e v3 ⟨rfl, hv3⟩
    have hbS := hbS.trans (hv3.mono hbS.size)
    have hc3 := (sb_of hbS).1
    dsimp only
    go_wp2_with fail
    refine (C4.out _ hbS).mono ?_
    rintro e v4 ⟨rfl, hv4⟩
    have hbS := hbS.trans (hv4.mono hbS.size)
    have hc4 := (sb_of hbS).1
    dsimp only
    go_wp2_with fail
    refine (C5.out _ hbS).mono ?_
    rintro e v5 ⟨rfl, hv5⟩
    have hbS := hbS.trans (hv5.mono hbS.size)
    have hc5 := (sb_of hbS).1
    dsimp only
    go_wp2
    go_ret
    exact ⟨rfl, by rw [HP.out]; exact hw4.trans (hbS.mono hs4)⟩
end Go.Proofs.Ytlanefdeeanpnaa
