/-
  Print of the program's head package, where it refuses. Conditions: sizes alone.
-/
import Derived.Test.YtlanefdeeanpnaaPrint
namespace Go.Proofs.Ytlanefdeeanpnaa
set_option linter.unusedVariables false
set_option linter.unusedSimpArgs false
open Go.RowKit
attribute [local go_sem ↓] Go.wp_at_zero Go.wp_at_succ

abbrev zBm : Value := .agg #[.int .i64 0, .int .i64 0, .slice none 0 0]

set_option maxRecDepth 100000 in
set_option maxHeartbeats 2000000 in
theorem head_Print_bad1 (W H at_ : Int) (l c L ch : Nat) (A AH : Option Addr) (w : World) (hl : l ≤ 9223372036854775807) (hb : bmCheck W H l ≠ 0) :
    Calls Try.prog 45 #[.agg #[.slice AH L ch], .agg #[.int .i64 W, .int .i64 H, .slice A l c], .int .i64 at_] w fun e w' =>
      e = .returned (.tuple #[zBm, .int .i64 (bmCheck W H l)]) ∧ Below w.heap.size w w' := by
  have CK := Lib.hid (fun w => bitmap_Check W H A l c w hl)
  generalize bmCheck W H l = bc at *
  go_enter Try.func45, Try.ntmps45
  go_wp2_with fail
  refine calls_world (fun W0 hW0 => ?_)
  obtain ⟨hB0, hB1, hB2, hbw, hs0⟩ := new3 hW0
  clear hW0
  generalize hp : w.heap.size = p at *
  have HP := Lib.hid hp
  clear hp
  refine (CK.out _).mono ?_
  rintro e w1 ⟨rfl, hb1⟩
  replace hB0 := hB0.below hb1 hB0.lt
  replace hB1 := hB1.below hb1 hB1.lt
  replace hB2 := hB2.below hb1 hB2.lt
  replace hbw := hbw.trans (hb1.mono (by omega))
  clear hs0 hb1
  obtain ⟨⟨r0, r1, r2⟩, f0, f1, f2⟩ := hB2.three
  go_wp2
  obtain ⟨hR9, hk9⟩ := store3 (w := w1) (x := .int .i64 0) (y := .int .i64 0) (z := .slice none 0 0) rfl hB2
  have hB9 := hbw.trans (hk9.to_below (by have := hB2.lt; omega) (by simp; omega))
  generalize ((World.setCell w1 ⟨p + 1 + 1, 0, none⟩ (.int .i64 0)).setCell ⟨p + 1 + 1, 1, none⟩ (.int .i64 0)).setCell ⟨p + 1 + 1, 2, none⟩ (.slice none 0 0) = W9 at *
  obtain ⟨⟨s0, s1, s2⟩, _⟩ := hR9.three
  exact bodyPost_ret (v := .tuple #[zBm, .int .i64 bc]) (by simp [results, Try.results45, go_sem, s0, s1, s2]) rfl ⟨rfl, by rw [HP.out]; exact hB9⟩

set_option maxRecDepth 100000 in
set_option maxHeartbeats 2000000 in
theorem head_Print_bad2 (W H at_ : Int) (l c L ch : Nat) (A AH : Option Addr) (w : World) (hl : l ≤ 9223372036854775807) (hb : bmCheck W H l = 0) (hL : hdCheck L = 71) :
    Calls Try.prog 45 #[.agg #[.slice AH L ch], .agg #[.int .i64 W, .int .i64 H, .slice A l c], .int .i64 at_] w fun e w' =>
      e = .returned (.tuple #[zBm, .int .i64 71]) ∧ Below w.heap.size w w' := by
  have CK := Lib.hid (fun w => bitmap_Check W H A l c w hl)
  have CH := Lib.hid (fun w => head_Check L AH ch w)
  rw [hb] at CK
  rw [hL] at CH
  clear hb hL
  go_enter Try.func45, Try.ntmps45
  go_wp2_with fail
  refine calls_world (fun W0 hW0 => ?_)
  obtain ⟨hB0, hB1, hB2, hbw, hs0⟩ := new3 hW0
  clear hW0
  generalize hp : w.heap.size = p at *
  have HP := Lib.hid hp
  clear hp
  refine (CK.out _).mono ?_
  rintro e w1 ⟨rfl, hb1⟩
  replace hB0 := hB0.below hb1 hB0.lt
  replace hB1 := hB1.below hb1 hB1.lt
  replace hB2 := hB2.below hb1 hB2.lt
  replace hbw := hbw.trans (hb1.mono (by omega))
  clear hs0 hb1
  have d0 : w1.cell? ⟨p, 0, none⟩ = some (.slice AH L ch) := hB0.cell 0
  go_wp2_with fail
  refine (CH.out _).mono ?_
  rintro e w2 ⟨rfl, hb1⟩
  have h3l := hB2.lt
  replace hB0 := hB0.below hb1 hB0.lt
  replace hB1 := hB1.below hb1 hB1.lt
  replace hB2 := hB2.below hb1 hB2.lt
  replace hbw := hbw.trans (hb1.mono (by omega))
  clear hb1 d0 h3l
  have d0 : w2.cell? ⟨p, 0, none⟩ = some (.slice AH L ch) := hB0.cell 0
  obtain ⟨⟨b0, b1, b2⟩, _⟩ := hB1.three
  obtain ⟨⟨r0, r1, r2⟩, f0, f1, f2⟩ := hB2.three
  go_wp2
  obtain ⟨hR9, hk9⟩ := store3 (w := w2) (x := .int .i64 0) (y := .int .i64 0) (z := .slice none 0 0) rfl hB2
  have hB9 := hbw.trans (hk9.to_below (by have := hB2.lt; omega) (by simp; omega))
  generalize ((World.setCell w2 ⟨p + 1 + 1, 0, none⟩ (.int .i64 0)).setCell ⟨p + 1 + 1, 1, none⟩ (.int .i64 0)).setCell ⟨p + 1 + 1, 2, none⟩ (.slice none 0 0) = W9 at *
  obtain ⟨⟨s0, s1, s2⟩, _⟩ := hR9.three
  exact bodyPost_ret (v := .tuple #[zBm, .int .i64 71]) (by simp [results, Try.results45, go_sem, s0, s1, s2]) rfl ⟨rfl, by rw [HP.out]; exact hB9⟩

set_option maxRecDepth 100000 in
set_option maxHeartbeats 2000000 in
theorem head_Print_bad3 (W at_ : Int) (n l c L ch : Nat) (A AH : Option Addr) (w : World) (hn : n ≤ 96) (hL2 : L ≤ 192) (hl : l ≤ 9223372036854775807) (hb : bmCheck W n l = 0) (hL : hdCheck L = 0) (hat : at_ < 0) :
    Calls Try.prog 45 #[.agg #[.slice AH L ch], .agg #[.int .i64 W, .int .i64 n, .slice A l c], .int .i64 at_] w fun e w' =>
      e = .returned (.tuple #[zBm, .int .i64 71]) ∧ Below w.heap.size w w' := by
  have CK := Lib.hid (fun w => bitmap_Check W n A l c w hl)
  have CH := Lib.hid (fun w => head_Check L AH ch w)
  rw [hb] at CK
  rw [hL] at CH
  clear hb hL
  go_enter Try.func45, Try.ntmps45
  go_wp2_with fail
  refine calls_world (fun W0 hW0 => ?_)
  obtain ⟨hB0, hB1, hB2, hbw, hs0⟩ := new3 hW0
  clear hW0
  generalize hp : w.heap.size = p at *
  have HP := Lib.hid hp
  clear hp
  refine (CK.out _).mono ?_
  rintro e w1 ⟨rfl, hb1⟩
  replace hB0 := hB0.below hb1 hB0.lt
  replace hB1 := hB1.below hb1 hB1.lt
  replace hB2 := hB2.below hb1 hB2.lt
  replace hbw := hbw.trans (hb1.mono (by omega))
  clear hs0 hb1
  have d0 : w1.cell? ⟨p, 0, none⟩ = some (.slice AH L ch) := hB0.cell 0
  go_wp2_with fail
  refine (CH.out _).mono ?_
  rintro e w2 ⟨rfl, hb1⟩
  have h3l := hB2.lt
  replace hB0 := hB0.below hb1 hB0.lt
  replace hB1 := hB1.below hb1 hB1.lt
  replace hB2 := hB2.below hb1 hB2.lt
  replace hbw := hbw.trans (hb1.mono (by omega))
  clear hb1 d0 h3l
  have d0 : w2.cell? ⟨p, 0, none⟩ = some (.slice AH L ch) := hB0.cell 0
  obtain ⟨⟨b0, b1, b2⟩, _⟩ := hB1.three
  obtain ⟨⟨r0, r1, r2⟩, f0, f1, f2⟩ := hB2.three
  go_wp2
  obtain ⟨hR9, hk9⟩ := store3 (w := w2) (x := .int .i64 0) (y := .int .i64 0) (z := .slice none 0 0) rfl hB2
  have hB9 := hbw.trans (hk9.to_below (by have := hB2.lt; omega) (by simp; omega))
  generalize ((World.setCell w2 ⟨p + 1 + 1, 0, none⟩ (.int .i64 0)).setCell ⟨p + 1 + 1, 1, none⟩ (.int .i64 0)).setCell ⟨p + 1 + 1, 2, none⟩ (.slice none 0 0) = W9 at *
  obtain ⟨⟨s0, s1, s2⟩, _⟩ := hR9.three
  exact bodyPost_ret (v := .tuple #[zBm, .int .i64 71]) (by simp [results, Try.results45, go_sem, s0, s1, s2]) rfl ⟨rfl, by rw [HP.out]; exact hB9⟩

set_option maxRecDepth 100000 in
set_option maxHeartbeats 2000000 in
theorem head_Print_bad4 (W at_ : Int) (n l c L ch : Nat) (A AH : Option Addr) (w : World) (hn : n ≤ 96) (hL2 : L ≤ 192) (hl : l ≤ 9223372036854775807) (hb : bmCheck W n l = 0) (hL : hdCheck L = 0) (hat0 : 0 ≤ at_) (hat : (L : Int) - n < at_) :
    Calls Try.prog 45 #[.agg #[.slice AH L ch], .agg #[.int .i64 W, .int .i64 n, .slice A l c], .int .i64 at_] w fun e w' =>
      e = .returned (.tuple #[zBm, .int .i64 71]) ∧ Below w.heap.size w w' := by
  have CK := Lib.hid (fun w => bitmap_Check W n A l c w hl)
  have CH := Lib.hid (fun w => head_Check L AH ch w)
  rw [hb] at CK
  rw [hL] at CH
  clear hb hL
  go_enter Try.func45, Try.ntmps45
  go_wp2_with fail
  refine calls_world (fun W0 hW0 => ?_)
  obtain ⟨hB0, hB1, hB2, hbw, hs0⟩ := new3 hW0
  clear hW0
  generalize hp : w.heap.size = p at *
  have HP := Lib.hid hp
  clear hp
  refine (CK.out _).mono ?_
  rintro e w1 ⟨rfl, hb1⟩
  replace hB0 := hB0.below hb1 hB0.lt
  replace hB1 := hB1.below hb1 hB1.lt
  replace hB2 := hB2.below hb1 hB2.lt
  replace hbw := hbw.trans (hb1.mono (by omega))
  clear hs0 hb1
  have d0 : w1.cell? ⟨p, 0, none⟩ = some (.slice AH L ch) := hB0.cell 0
  go_wp2_with fail
  refine (CH.out _).mono ?_
  rintro e w2 ⟨rfl, hb1⟩
  have h3l := hB2.lt
  replace hB0 := hB0.below hb1 hB0.lt
  replace hB1 := hB1.below hb1 hB1.lt
  replace hB2 := hB2.below hb1 hB2.lt
  replace hbw := hbw.trans (hb1.mono (by omega))
  clear hb1 d0 h3l
  have d0 : w2.cell? ⟨p, 0, none⟩ = some (.slice AH L ch) := hB0.cell 0
  obtain ⟨⟨b0, b1, b2⟩, _⟩ := hB1.three
  obtain ⟨⟨r0, r1, r2⟩, f0, f1, f2⟩ := hB2.three
  go_wp2
  obtain ⟨hR9, hk9⟩ := store3 (w := w2) (x := .int .i64 0) (y := .int .i64 0) (z := .slice none 0 0) rfl hB2
  have hB9 := hbw.trans (hk9.to_below (by have := hB2.lt; omega) (by simp; omega))
  generalize ((World.setCell w2 ⟨p + 1 + 1, 0, none⟩ (.int .i64 0)).setCell ⟨p + 1 + 1, 1, none⟩ (.int .i64 0)).setCell ⟨p + 1 + 1, 2, none⟩ (.slice none 0 0) = W9 at *
  obtain ⟨⟨s0, s1, s2⟩, _⟩ := hR9.three
  exact bodyPost_ret (v := .tuple #[zBm, .int .i64 71]) (by simp [results, Try.results45, go_sem, s0, s1, s2]) rfl ⟨rfl, by rw [HP.out]; exact hB9⟩

def pOk (W H at_ : Int) (D Dead : List Bool) : Bool := decide (bmCheck W H D.length = 0 ∧ hdCheck Dead.length = 0 ∧ 0 ≤ at_ ∧ at_ ≤ (Dead.length : Int) - H)
def pW (W H at_ : Int) (D Dead : List Bool) : Int := if pOk W H at_ D Dead = true then W else 0
def pH (W H at_ : Int) (D Dead : List Bool) : Int := if pOk W H at_ D Dead = true then H else 0
def pD (W H at_ : Int) (D Dead : List Bool) : List Bool := if pOk W H at_ D Dead = true then printL W.toNat at_.toNat D Dead else []
def pE (W H at_ : Int) (D Dead : List Bool) : Int := if bmCheck W H D.length = 0 then (if pOk W H at_ D Dead = true then 0 else 71) else bmCheck W H D.length
theorem hd_ok {L : Nat} (h : hdCheck L = 0) : 1 ≤ L ∧ L ≤ 192 := by
  unfold hdCheck at h
  split at h
  · assumption
  · cases h
theorem hd_no {L : Nat} (h : ¬ hdCheck L = 0) : hdCheck L = 71 := by
  unfold hdCheck at h ⊢
  split at h
  · exact absurd rfl h
  · rename_i h2; rw [if_neg h2]
theorem bmc_ok {W H : Int} {l : Nat} (h : bmCheck W H l = 0) : ∃ m n : Nat, W = m ∧ H = n ∧ m ≤ 96 ∧ n ≤ 96 ∧ l = m * n := by
  have hw : sideB W = true ∧ sideB H = true ∧ (l : Int) = W * H := by
    unfold bmCheck at h
    split at h
    · rename_i h3
      rw [Bool.and_eq_true] at h3
      refine ⟨h3.1, h3.2, ?_⟩
      split at h
      · assumption
      · cases h
    · cases h
  obtain ⟨hw1, hw2, hw3⟩ := hw
  have hW : 0 ≤ W ∧ W ≤ 96 := by simpa [sideB] using hw1
  have hH : 0 ≤ H ∧ H ≤ 96 := by simpa [sideB] using hw2
  obtain ⟨m, rfl⟩ := Int.eq_ofNat_of_zero_le hW.1
  obtain ⟨n, rfl⟩ := Int.eq_ofNat_of_zero_le hH.1
  exact ⟨m, n, rfl, rfl, by omega, by omega, by exact_mod_cast hw3⟩
/-- What Print hands back. -/
def PrOut (W H at_ : Int) (D Dead : List Bool) (w : World) (e : Ending) (w' : World) : Prop :=
  ∃ A' c', e = .returned (.tuple #[.agg #[.int .i64 (pW W H at_ D Dead), .int .i64 (pH W H at_ D Dead), .slice A' (pD W H at_ D Dead).length c'], .int .i64 (pE W H at_ D Dead)]) ∧ Rd Value.bool w' w'.heap.size A' (pD W H at_ D Dead) ∧ Below w.heap.size w w'
theorem pr_yes {m n x : Nat} {D Dead : List Bool} {w w' : World} {A' : Option Addr} {c' : Nat} {e : Ending} (hb : bmCheck m n D.length = 0) (hL : hdCheck Dead.length = 0) (hat : x + n ≤ Dead.length) (hD : D.length = m * n)
    (he : e = .returned (.tuple #[.agg #[.int .i64 m, .int .i64 n, .slice A' (m * n) c'], .int .i64 0])) (hr : Rd Value.bool w' w'.heap.size A' (printL m x D Dead)) (hbw : Below w.heap.size w w') : PrOut m n x D Dead w e w' := by
  have hok : pOk m n x D Dead = true := decide_eq_true ⟨hb, hL, by omega, by omega⟩
  have hl : (printL m x D Dead).length = m * n := by simp [printL, hD]
  refine ⟨A', c', ?_, ?_, hbw⟩
  · rw [he]; simp [pW, pH, pD, pE, hok, hb, hl]
  · simpa [pD, hok] using hr
theorem pr_no {W H at_ : Int} {D Dead : List Bool} {w w' : World} {e : Ending} {k : Int} (hok : ¬ pOk W H at_ D Dead = true) (hk : pE W H at_ D Dead = k) (he : e = .returned (.tuple #[zBm, .int .i64 k])) (hbw : Below w.heap.size w w') : PrOut W H at_ D Dead w e w' := by
  refine ⟨none, 0, ?_, ?_, hbw⟩
  · rw [he, hk]; simp [pW, pH, pD, hok]
  · simp [pD, hok, Rd]
theorem head_Print_any (W H at_ : Int) (c ch : Nat) (A AH : Option Addr) (D Dead : List Bool) (w : World) (hl : D.length ≤ 9223372036854775807)
    (hr : Rd Value.bool w w.heap.size A D) (hh : Rd Value.bool w w.heap.size AH Dead) :
    Calls Try.prog 45 #[.agg #[.slice AH Dead.length ch], .agg #[.int .i64 W, .int .i64 H, .slice A D.length c], .int .i64 at_] w (PrOut W H at_ D Dead w) := by
  by_cases hb : bmCheck W H D.length = 0
  · by_cases hL : hdCheck Dead.length = 0
    · obtain ⟨m, n, rfl, rfl, hm, hn, hD⟩ := bmc_ok hb
      by_cases h0 : at_ < 0
      · refine (head_Print_bad3 _ at_ n _ c _ ch A AH w hn (hd_ok hL).2 hl hb hL h0).mono (fun e w' h => pr_no (k := 71) ?_ ?_ h.1 h.2)
        · simp [pOk]; omega
        · have : ¬ pOk m n at_ D Dead = true := by simp [pOk]; omega
          simp [pE, hb, this]
      · by_cases h1 : (Dead.length : Int) - n < at_
        · refine (head_Print_bad4 _ at_ n _ c _ ch A AH w hn (hd_ok hL).2 hl hb hL (by omega) h1).mono (fun e w' h => pr_no (k := 71) ?_ ?_ h.1 h.2)
          · simp [pOk]; omega
          · have : ¬ pOk m n at_ D Dead = true := by simp [pOk]; omega
            simp [pE, hb, this]
        · obtain ⟨x, rfl⟩ := Int.eq_ofNat_of_zero_le (show 0 ≤ at_ by omega)
          have := head_Print m n x c ch A AH D Dead w hm hn hD (hd_ok hL).1 (hd_ok hL).2 (by omega) hr hh
          rw [← hD] at this
          refine this.mono ?_
          rintro e w' ⟨A', c', he, hrd, hbw⟩
          exact pr_yes hb hL (by omega) hD (by rw [he, hD]) hrd hbw
    · refine (head_Print_bad2 W H at_ _ c _ ch A AH w hl hb (hd_no hL)).mono (fun e w' h => pr_no (k := 71) ?_ ?_ h.1 h.2)
      · simp [pOk, hL]
      · simp [pE, pOk, hb, hL]
  · refine (head_Print_bad1 W H at_ _ c _ ch A AH w hl hb).mono (fun e w' h => pr_no (k := bmCheck W H D.length) ?_ ?_ h.1 h.2)
    · simp [pOk, hb]
    · simp [pE, hb]
end Go.Proofs.Ytlanefdeeanpnaa
