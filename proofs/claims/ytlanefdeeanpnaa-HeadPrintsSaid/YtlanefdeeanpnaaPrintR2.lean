/-
  Print of the reference of layer 37, where it refuses, and whatever is handed in. Conditions: sizes alone.
-/
import Derived.Test.YtlanefdeeanpnaaPrintR
namespace Go.Proofs.Ytlanefdeeanpnaa
set_option linter.unusedVariables false
set_option linter.unusedSimpArgs false
open Go.RowKit
attribute [local go_sem ↓] Go.wp_at_zero Go.wp_at_succ

theorem ref04_New_some (W H : Int) (w : World) : Calls Try.prog 65 #[.int .i64 W, .int .i64 H] w fun e w' => ∃ (x y er : Int) (s : Option Addr) (l c : Nat), e = .returned (.tuple #[.agg #[.int .i64 x, .int .i64 y, .slice s l c], .int .i64 er]) ∧ Below w.heap.size w w' := by
  by_cases h : (sideB W && sideB H) = true
  · refine (ref04_New_ok W H w h).mono ?_
    rintro e w' ⟨g, rfl, _, _, _, hb⟩
    exact ⟨_, _, _, _, _, _, rfl, hb⟩
  · refine (ref04_New_no W H w (by simpa using h)).mono ?_
    rintro e w' ⟨rfl, hb⟩
    exact ⟨_, _, _, _, _, _, rfl, hb⟩

set_option maxRecDepth 100000 in
set_option maxHeartbeats 2000000 in
theorem ref37_Print_bad1 (W H at_ : Int) (l c L ch : Nat) (A AH : Option Addr) (w : World) (hl : l ≤ 9223372036854775807) (hb : bmCheck W H l ≠ 0) :
    Calls Try.prog 46 #[.agg #[.slice AH L ch], .agg #[.int .i64 W, .int .i64 H, .slice A l c], .int .i64 at_] w fun e w' =>
      e = .returned (.tuple #[zBm, .int .i64 (bmCheck W H l)]) ∧ Below w.heap.size w w' := by
  have CK := Lib.hid (fun w => ref04_Check W H A l c w hl)
  generalize bmCheck W H l = bc at *
  have CN := Lib.hid (fun w => ref04_New_some W H w)
  go_enter Try.func46, Try.ntmps46
  go_upto_region 1 with fail
  refine wp_world (fun W0 hW0 => ?_)
  obtain ⟨hB0, hB1, hB2, hbw, hs0⟩ := new3 hW0
  clear hW0
  generalize hp : w.heap.size = p at *
  have HP := Lib.hid hp
  clear hp
  obtain ⟨⟨b0, b1, b2⟩, _⟩ := hB1.three
  have z0 := hB1.lt
  have z1 := hB2.lt
  clear hs0
  go_wp2_with fail
  refine (CN.out _).mono ?_
  rintro e w1 ⟨nx, ny, ner, ns, nl, nc, rfl, hb1⟩
  replace hB0 := hB0.below hb1 hB0.lt
  replace hB1 := hB1.below hb1 hB1.lt
  replace hB2 := hB2.below hb1 hB2.lt
  replace hbw := hbw.trans (hb1.mono (by omega))
  clear hb1 b0 b1 b2 z0 z1
  obtain ⟨⟨b0, b1, b2⟩, _⟩ := hB1.three
  have z1 := hB1.lt
  have z2 := hB2.lt
  go_wp2_with fail
  refine calls_world (fun W2 hW2 => ?_)
  obtain ⟨hQ, hb1, hsQ⟩ := new1 hW2
  replace hB0 := hB0.below hb1 hB0.lt
  replace hB1 := hB1.below hb1 hB1.lt
  replace hB2 := hB2.below hb1 hB2.lt
  replace hbw := hbw.trans (hb1.mono (by omega))
  generalize hq : w1.heap.size = q at *
  clear hq hb1 b0 b1 b2 hW2
  refine (CK.out _).mono ?_
  rintro e w3 ⟨rfl, hb1⟩
  have h3l := hQ.lt
  replace hB0 := hB0.below hb1 hB0.lt
  replace hB1 := hB1.below hb1 hB1.lt
  replace hB2 := hB2.below hb1 hB2.lt
  replace hbw := hbw.trans (hb1.mono (by omega))
  clear hb1 hsQ hQ h3l
  obtain ⟨⟨r0, r1, r2⟩, f0, f1, f2⟩ := hB2.three
  go_wp2
  obtain ⟨hR9, hk9⟩ := store3 (w := w3) (x := .int .i64 0) (y := .int .i64 0) (z := .slice none 0 0) rfl hB2
  have hB9 := hbw.trans (hk9.to_below (by have := hB2.lt; omega) (by simp; omega))
  generalize ((World.setCell w3 ⟨p + 1 + 1, 0, none⟩ (.int .i64 0)).setCell ⟨p + 1 + 1, 1, none⟩ (.int .i64 0)).setCell ⟨p + 1 + 1, 2, none⟩ (.slice none 0 0) = W9 at *
  obtain ⟨⟨s0, s1, s2⟩, _⟩ := hR9.three
  exact bodyPost_ret (v := .tuple #[zBm, .int .i64 bc]) (by simp [results, Try.results46, go_sem, s0, s1, s2]) rfl ⟨rfl, by rw [HP.out]; exact hB9⟩

set_option maxRecDepth 100000 in
set_option maxHeartbeats 2000000 in
theorem ref37_Print_bad2 (W H at_ : Int) (l c L ch : Nat) (A AH : Option Addr) (w : World) (hl : l ≤ 9223372036854775807) (hb : bmCheck W H l = 0) (hL : hdCheck L = 71) :
    Calls Try.prog 46 #[.agg #[.slice AH L ch], .agg #[.int .i64 W, .int .i64 H, .slice A l c], .int .i64 at_] w fun e w' =>
      e = .returned (.tuple #[zBm, .int .i64 71]) ∧ Below w.heap.size w w' := by
  have CK := Lib.hid (fun w => ref04_Check W H A l c w hl)
  have CH := Lib.hid (fun w => ref37_Check L AH ch w)
  rw [hb] at CK
  rw [hL] at CH
  clear hb hL
  have CN := Lib.hid (fun w => ref04_New_some W H w)
  go_enter Try.func46, Try.ntmps46
  go_upto_region 1 with fail
  refine wp_world (fun W0 hW0 => ?_)
  obtain ⟨hB0, hB1, hB2, hbw, hs0⟩ := new3 hW0
  clear hW0
  generalize hp : w.heap.size = p at *
  have HP := Lib.hid hp
  clear hp
  obtain ⟨⟨b0, b1, b2⟩, _⟩ := hB1.three
  have z0 := hB1.lt
  have z1 := hB2.lt
  clear hs0
  go_wp2_with fail
  refine (CN.out _).mono ?_
  rintro e w1 ⟨nx, ny, ner, ns, nl, nc, rfl, hb1⟩
  replace hB0 := hB0.below hb1 hB0.lt
  replace hB1 := hB1.below hb1 hB1.lt
  replace hB2 := hB2.below hb1 hB2.lt
  replace hbw := hbw.trans (hb1.mono (by omega))
  clear hb1 b0 b1 b2 z0 z1
  obtain ⟨⟨b0, b1, b2⟩, _⟩ := hB1.three
  have z1 := hB1.lt
  have z2 := hB2.lt
  go_wp2_with fail
  refine calls_world (fun W2 hW2 => ?_)
  obtain ⟨hQ, hb1, hsQ⟩ := new1 hW2
  replace hB0 := hB0.below hb1 hB0.lt
  replace hB1 := hB1.below hb1 hB1.lt
  replace hB2 := hB2.below hb1 hB2.lt
  replace hbw := hbw.trans (hb1.mono (by omega))
  generalize hq : w1.heap.size = q at *
  clear hq hb1 b0 b1 b2 hW2
  refine (CK.out _).mono ?_
  rintro e w3 ⟨rfl, hb1⟩
  have h3l := hQ.lt
  replace hB0 := hB0.below hb1 hB0.lt
  replace hB1 := hB1.below hb1 hB1.lt
  replace hB2 := hB2.below hb1 hB2.lt
  replace hbw := hbw.trans (hb1.mono (by omega))
  clear hb1 hsQ hQ h3l
  have d0 : w3.cell? ⟨p, 0, none⟩ = some (.slice AH L ch) := hB0.cell 0
  go_wp2_with fail
  refine (CH.out _).mono ?_
  rintro e w4 ⟨rfl, hb1⟩
  have h3l := hB2.lt
  replace hB0 := hB0.below hb1 hB0.lt
  replace hB1 := hB1.below hb1 hB1.lt
  replace hB2 := hB2.below hb1 hB2.lt
  replace hbw := hbw.trans (hb1.mono (by omega))
  clear hb1 d0 h3l
  have d0 : w4.cell? ⟨p, 0, none⟩ = some (.slice AH L ch) := hB0.cell 0
  obtain ⟨⟨b0, b1, b2⟩, _⟩ := hB1.three
  obtain ⟨⟨r0, r1, r2⟩, f0, f1, f2⟩ := hB2.three
  go_wp2
  obtain ⟨hR9, hk9⟩ := store3 (w := w4) (x := .int .i64 0) (y := .int .i64 0) (z := .slice none 0 0) rfl hB2
  have hB9 := hbw.trans (hk9.to_below (by have := hB2.lt; omega) (by simp; omega))
  generalize ((World.setCell w4 ⟨p + 1 + 1, 0, none⟩ (.int .i64 0)).setCell ⟨p + 1 + 1, 1, none⟩ (.int .i64 0)).setCell ⟨p + 1 + 1, 2, none⟩ (.slice none 0 0) = W9 at *
  obtain ⟨⟨s0, s1, s2⟩, _⟩ := hR9.three
  exact bodyPost_ret (v := .tuple #[zBm, .int .i64 71]) (by simp [results, Try.results46, go_sem, s0, s1, s2]) rfl ⟨rfl, by rw [HP.out]; exact hB9⟩

set_option maxRecDepth 100000 in
set_option maxHeartbeats 2000000 in
theorem ref37_Print_bad3 (W at_ : Int) (n l c L ch : Nat) (A AH : Option Addr) (w : World) (hn : n ≤ 96) (hL2 : L ≤ 192) (hl : l ≤ 9223372036854775807) (hb : bmCheck W n l = 0) (hL : hdCheck L = 0) (hat : at_ < 0) :
    Calls Try.prog 46 #[.agg #[.slice AH L ch], .agg #[.int .i64 W, .int .i64 n, .slice A l c], .int .i64 at_] w fun e w' =>
      e = .returned (.tuple #[zBm, .int .i64 71]) ∧ Below w.heap.size w w' := by
  have CK := Lib.hid (fun w => ref04_Check W n A l c w hl)
  have CH := Lib.hid (fun w => ref37_Check L AH ch w)
  rw [hb] at CK
  rw [hL] at CH
  clear hb hL
  have CN := Lib.hid (fun w => ref04_New_some W n w)
  go_enter Try.func46, Try.ntmps46
  go_upto_region 1 with fail
  refine wp_world (fun W0 hW0 => ?_)
  obtain ⟨hB0, hB1, hB2, hbw, hs0⟩ := new3 hW0
  clear hW0
  generalize hp : w.heap.size = p at *
  have HP := Lib.hid hp
  clear hp
  obtain ⟨⟨b0, b1, b2⟩, _⟩ := hB1.three
  have z0 := hB1.lt
  have z1 := hB2.lt
  clear hs0
  go_wp2_with fail
  refine (CN.out _).mono ?_
  rintro e w1 ⟨nx, ny, ner, ns, nl, nc, rfl, hb1⟩
  replace hB0 := hB0.below hb1 hB0.lt
  replace hB1 := hB1.below hb1 hB1.lt
  replace hB2 := hB2.below hb1 hB2.lt
  replace hbw := hbw.trans (hb1.mono (by omega))
  clear hb1 b0 b1 b2 z0 z1
  obtain ⟨⟨b0, b1, b2⟩, _⟩ := hB1.three
  have z1 := hB1.lt
  have z2 := hB2.lt
  go_wp2_with fail
  refine calls_world (fun W2 hW2 => ?_)
  obtain ⟨hQ, hb1, hsQ⟩ := new1 hW2
  replace hB0 := hB0.below hb1 hB0.lt
  replace hB1 := hB1.below hb1 hB1.lt
  replace hB2 := hB2.below hb1 hB2.lt
  replace hbw := hbw.trans (hb1.mono (by omega))
  generalize hq : w1.heap.size = q at *
  clear hq hb1 b0 b1 b2 hW2
  refine (CK.out _).mono ?_
  rintro e w3 ⟨rfl, hb1⟩
  have h3l := hQ.lt
  replace hB0 := hB0.below hb1 hB0.lt
  replace hB1 := hB1.below hb1 hB1.lt
  replace hB2 := hB2.below hb1 hB2.lt
  replace hbw := hbw.trans (hb1.mono (by omega))
  clear hb1 hsQ hQ h3l
  have d0 : w3.cell? ⟨p, 0, none⟩ = some (.slice AH L ch) := hB0.cell 0
  go_wp2_with fail
  refine (CH.out _).mono ?_
  rintro e w4 ⟨rfl, hb1⟩
  have h3l := hB2.lt
  replace hB0 := hB0.below hb1 hB0.lt
  replace hB1 := hB1.below hb1 hB1.lt
  replace hB2 := hB2.below hb1 hB2.lt
  replace hbw := hbw.trans (hb1.mono (by omega))
  clear hb1 d0 h3l
  have d0 : w4.cell? ⟨p, 0, none⟩ = some (.slice AH L ch) := hB0.cell 0
  obtain ⟨⟨b0, b1, b2⟩, _⟩ := hB1.three
  obtain ⟨⟨r0, r1, r2⟩, f0, f1, f2⟩ := hB2.three
  go_wp2
  obtain ⟨hR9, hk9⟩ := store3 (w := w4) (x := .int .i64 0) (y := .int .i64 0) (z := .slice none 0 0) rfl hB2
  have hB9 := hbw.trans (hk9.to_below (by have := hB2.lt; omega) (by simp; omega))
  generalize ((World.setCell w4 ⟨p + 1 + 1, 0, none⟩ (.int .i64 0)).setCell ⟨p + 1 + 1, 1, none⟩ (.int .i64 0)).setCell ⟨p + 1 + 1, 2, none⟩ (.slice none 0 0) = W9 at *
  obtain ⟨⟨s0, s1, s2⟩, _⟩ := hR9.three
  exact bodyPost_ret (v := .tuple #[zBm, .int .i64 71]) (by simp [results, Try.results46, go_sem, s0, s1, s2]) rfl ⟨rfl, by rw [HP.out]; exact hB9⟩

set_option maxRecDepth 100000 in
set_option maxHeartbeats 2000000 in
theorem ref37_Print_bad4 (W at_ : Int) (n l c L ch : Nat) (A AH : Option Addr) (w : World) (hn : n ≤ 96) (hL2 : L ≤ 192) (hl : l ≤ 9223372036854775807) (hb : bmCheck W n l = 0) (hL : hdCheck L = 0) (hat0 : 0 ≤ at_) (hat : (L : Int) - n < at_) :
    Calls Try.prog 46 #[.agg #[.slice AH L ch], .agg #[.int .i64 W, .int .i64 n, .slice A l c], .int .i64 at_] w fun e w' =>
      e = .returned (.tuple #[zBm, .int .i64 71]) ∧ Below w.heap.size w w' := by
  have CK := Lib.hid (fun w => ref04_Check W n A l c w hl)
  have CH := Lib.hid (fun w => ref37_Check L AH ch w)
  rw [hb] at CK
  rw [hL] at CH
  clear hb hL
  have CN := Lib.hid (fun w => ref04_New_some W n w)
  go_enter Try.func46, Try.ntmps46
  go_upto_region 1 with fail
  refine wp_world (fun W0 hW0 => ?_)
  obtain ⟨hB0, hB1, hB2, hbw, hs0⟩ := new3 hW0
  clear hW0
  generalize hp : w.heap.size = p at *
  have HP := Lib.hid hp
  clear hp
  obtain ⟨⟨b0, b1, b2⟩, _⟩ := hB1.three
  have z0 := hB1.lt
  have z1 := hB2.lt
  clear hs0
  go_wp2_with fail
  refine (CN.out _).mono ?_
  rintro e w1 ⟨nx, ny, ner, ns, nl, nc, rfl, hb1⟩
  replace hB0 := hB0.below hb1 hB0.lt
  replace hB1 := hB1.below hb1 hB1.lt
  replace hB2 := hB2.below hb1 hB2.lt
  replace hbw := hbw.trans (hb1.mono (by omega))
  clear hb1 b0 b1 b2 z0 z1
  obtain ⟨⟨b0, b1, b2⟩, _⟩ := hB1.three
  have z1 := hB1.lt
  have z2 := hB2.lt
  go_wp2_with fail
  refine calls_world (fun W2 hW2 => ?_)
  obtain ⟨hQ, hb1, hsQ⟩ := new1 hW2
  replace hB0 := hB0.below hb1 hB0.lt
  replace hB1 := hB1.below hb1 hB1.lt
  replace hB2 := hB2.below hb1 hB2.lt
  replace hbw := hbw.trans (hb1.mono (by omega))
  generalize hq : w1.heap.size = q at *
  clear hq hb1 b0 b1 b2 hW2
  refine (CK.out _).mono ?_
  rintro e w3 ⟨rfl, hb1⟩
  have h3l := hQ.lt
  replace hB0 := hB0.below hb1 hB0.lt
  replace hB1 := hB1.below hb1 hB1.lt
  replace hB2 := hB2.below hb1 hB2.lt
  replace hbw := hbw.trans (hb1.mono (by omega))
  clear hb1 hsQ hQ h3l
  have d0 : w3.cell? ⟨p, 0, none⟩ = some (.slice AH L ch) := hB0.cell 0
  go_wp2_with fail
  refine (CH.out _).mono ?_
  rintro e w4 ⟨rfl, hb1⟩
  have h3l := hB2.lt
  replace hB0 := hB0.below hb1 hB0.lt
  replace hB1 := hB1.below hb1 hB1.lt
  replace hB2 := hB2.below hb1 hB2.lt
  replace hbw := hbw.trans (hb1.mono (by omega))
  clear hb1 d0 h3l
  have d0 : w4.cell? ⟨p, 0, none⟩ = some (.slice AH L ch) := hB0.cell 0
  obtain ⟨⟨b0, b1, b2⟩, _⟩ := hB1.three
  obtain ⟨⟨r0, r1, r2⟩, f0, f1, f2⟩ := hB2.three
  go_wp2
  obtain ⟨hR9, hk9⟩ := store3 (w := w4) (x := .int .i64 0) (y := .int .i64 0) (z := .slice none 0 0) rfl hB2
  have hB9 := hbw.trans (hk9.to_below (by have := hB2.lt; omega) (by simp; omega))
  generalize ((World.setCell w4 ⟨p + 1 + 1, 0, none⟩ (.int .i64 0)).setCell ⟨p + 1 + 1, 1, none⟩ (.int .i64 0)).setCell ⟨p + 1 + 1, 2, none⟩ (.slice none 0 0) = W9 at *
  obtain ⟨⟨s0, s1, s2⟩, _⟩ := hR9.three
  exact bodyPost_ret (v := .tuple #[zBm, .int .i64 71]) (by simp [results, Try.results46, go_sem, s0, s1, s2]) rfl ⟨rfl, by rw [HP.out]; exact hB9⟩

theorem ref37_Print_any (W H at_ : Int) (c ch : Nat) (A AH : Option Addr) (D Dead : List Bool) (w : World) (hl : D.length ≤ 9223372036854775807)
    (hr : Rd Value.bool w w.heap.size A D) (hh : Rd Value.bool w w.heap.size AH Dead) :
    Calls Try.prog 46 #[.agg #[.slice AH Dead.length ch], .agg #[.int .i64 W, .int .i64 H, .slice A D.length c], .int .i64 at_] w (PrOut W H at_ D Dead w) := by
  by_cases hb : bmCheck W H D.length = 0
  · by_cases hL : hdCheck Dead.length = 0
    · obtain ⟨m, n, rfl, rfl, hm, hn, hD⟩ := bmc_ok hb
      by_cases h0 : at_ < 0
      · refine (ref37_Print_bad3 _ at_ n _ c _ ch A AH w hn (hd_ok hL).2 hl hb hL h0).mono (fun e w' h => pr_no (k := 71) ?_ ?_ h.1 h.2)
        · simp [pOk]; omega
        · have : ¬ pOk m n at_ D Dead = true := by simp [pOk]; omega
          simp [pE, hb, this]
      · by_cases h1 : (Dead.length : Int) - n < at_
        · refine (ref37_Print_bad4 _ at_ n _ c _ ch A AH w hn (hd_ok hL).2 hl hb hL (by omega) h1).mono (fun e w' h => pr_no (k := 71) ?_ ?_ h.1 h.2)
          · simp [pOk]; omega
          · have : ¬ pOk m n at_ D Dead = true := by simp [pOk]; omega
            simp [pE, hb, this]
        · obtain ⟨x, rfl⟩ := Int.eq_ofNat_of_zero_le (show 0 ≤ at_ by omega)
          have := ref37_Print m n x c ch A AH D Dead w hm hn hD (hd_ok hL).1 (hd_ok hL).2 (by omega) hr hh
          rw [← hD] at this
          refine this.mono ?_
          rintro e w' ⟨A', c', he, hrd, hbw⟩
          exact pr_yes hb hL (by omega) hD (by rw [he, hD]) hrd hbw
    · refine (ref37_Print_bad2 W H at_ _ c _ ch A AH w hl hb (hd_no hL)).mono (fun e w' h => pr_no (k := 71) ?_ ?_ h.1 h.2)
      · simp [pOk, hL]
      · simp [pE, pOk, hb, hL]
  · refine (ref37_Print_bad1 W H at_ _ c _ ch A AH w hl hb).mono (fun e w' h => pr_no (k := bmCheck W H D.length) ?_ ?_ h.1 h.2)
    · simp [pOk, hb]
    · simp [pE, hb]
end Go.Proofs.Ytlanefdeeanpnaa
