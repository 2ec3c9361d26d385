/-
  Offset of the program's head package, where the head or the bitmap is not valid. Conditions: none but sizes.
-/
import Derived.Test.YtlanefdeeanpnaaOffset
namespace Go.Proofs.Ytlanefdeeanpnaa
set_option linter.unusedVariables false
set_option linter.unusedSimpArgs false
open Go.RowKit Go.Shelf Go.Maps
attribute [local go_sem] Oper.semAt_some
attribute [local go_sem ↓] Go.wp_at_zero Go.wp_at_succ

set_option maxRecDepth 100000 in
set_option maxHeartbeats 4000000 in
theorem head_Offset_bad1 (W H : Int) (l c L ch : Nat) (A AH : Option Addr) (w : World) (hL : hdCheck L = 71) :
    Calls Try.prog 42 #[.agg #[.slice AH L ch], .agg #[.int .i64 W, .int .i64 H, .slice A l c]] w fun e w' =>
      e = .returned (.tuple #[.int .i64 0, .bool false]) ∧ Below w.heap.size w w' := by
  have CH := Lib.hid (fun w => head_Check L AH ch w)
  rw [hL] at CH
  clear hL
  refine (callsIn_wide (n := 6)).1 ?_
  refine callsIn_of_wp_marks Try.func42 rfl trivial ?_ rfl
  simp only [Try.ntmps42, List.size_toArray, List.length_cons, List.length_nil, Nat.reduceAdd, Nat.reduceSub, Array.replicate_succ, Array.replicate_zero, List.push_toArray, List.append_toArray, List.nil_append, List.cons_append]
  gi_wp2_with fail
  refine ⟨trivial, callsIn_world (fun W0 hW0 => ?_)⟩
  obtain ⟨hB0, hB1, hB2, hB3, hbw, hs0⟩ := new4 hW0
  clear hW0
  generalize hp : w.heap.size = p at *
  have HP := Lib.hid hp
  clear hp
  refine (callsIn_wide.2 (CH.out _)).mono ?_
  rintro e w1 ⟨rfl, hb1⟩
  replace hB2 := hB2.below hb1 hB2.lt
  replace hB3 := hB3.below hb1 hB3.lt
  replace hbw := hbw.trans (hb1.mono (by omega))
  clear hs0 hb1 hB0 hB1
  have c2 : w1.cell? ⟨p + 1 + 1, 0, none⟩ = some (.int .i64 0) := hB2.cell 0
  have c3 : w1.cell? ⟨p + 1 + 1 + 1, 0, none⟩ = some (.bool false) := hB3.cell 0
  have f2 := hB2.frozen 0
  have f3 := hB3.frozen 0
  gi_wp2
  refine ⟨trivial, ?_⟩
  gi_wp2
  have e2 : Blk ((w1.setCell ⟨p + 1 + 1, 0, none⟩ (.int .i64 0)).setCell ⟨p + 1 + 1 + 1, 0, none⟩ (.bool false)) (p + 1 + 1) 3 #[.int .i64 0] := (show Blk _ _ _ _ by simpa using hB2.set_ 0 (.int .i64 0)).far (p := ⟨p + 1 + 1 + 1, 0, none⟩) (by simp) _
  have e3 : Blk ((w1.setCell ⟨p + 1 + 1, 0, none⟩ (.int .i64 0)).setCell ⟨p + 1 + 1 + 1, 0, none⟩ (.bool false)) (p + 1 + 1 + 1) 4 #[.bool false] := by simpa using (hB3.far (p := ⟨p + 1 + 1, 0, none⟩) (by simp) (.int .i64 0)).set_ 0 (.bool false)
  have hB9 : Below p w ((w1.setCell ⟨p + 1 + 1, 0, none⟩ (.int .i64 0)).setCell ⟨p + 1 + 1 + 1, 0, none⟩ (.bool false)) := below_set (below_set hbw (by omega) _) (by omega) _
  have g2 := e2.cell 0
  have g3 := e3.cell 0
  exact ⟨.tuple #[.int .i64 0, .bool false], by simp [results, Try.results42, go_sem, g2, g3], rfl, by rw [HP.out]; exact hB9⟩

set_option maxRecDepth 100000 in
set_option maxHeartbeats 4000000 in
theorem head_Offset_bad2 (W H : Int) (l c L ch : Nat) (A AH : Option Addr) (w : World) (hL : hdCheck L = 0) (hl : l ≤ 9223372036854775807) (hb : bmCheck W H l ≠ 0) :
    Calls Try.prog 42 #[.agg #[.slice AH L ch], .agg #[.int .i64 W, .int .i64 H, .slice A l c]] w fun e w' =>
      e = .returned (.tuple #[.int .i64 0, .bool false]) ∧ Below w.heap.size w w' := by
  have CH := Lib.hid (fun w => head_Check L AH ch w)
  have CK := Lib.hid (fun w => bitmap_Check W H A l c w hl)
  rw [hL] at CH
  clear hL
  generalize bmCheck W H l = bc at *
  refine (callsIn_wide (n := 6)).1 ?_
  refine callsIn_of_wp_marks Try.func42 rfl trivial ?_ rfl
  simp only [Try.ntmps42, List.size_toArray, List.length_cons, List.length_nil, Nat.reduceAdd, Nat.reduceSub, Array.replicate_succ, Array.replicate_zero, List.push_toArray, List.append_toArray, List.nil_append, List.cons_append]
  gi_wp2_with fail
  refine ⟨trivial, callsIn_world (fun W0 hW0 => ?_)⟩
  obtain ⟨hB0, hB1, hB2, hB3, hbw, hs0⟩ := new4 hW0
  clear hW0
  generalize hp : w.heap.size = p at *
  have HP := Lib.hid hp
  clear hp
  refine (callsIn_wide.2 (CH.out _)).mono ?_
  rintro e w1 ⟨rfl, hb1⟩
  replace hB1 := hB1.below hb1 hB1.lt
  replace hB2 := hB2.below hb1 hB2.lt
  replace hB3 := hB3.below hb1 hB3.lt
  replace hbw := hbw.trans (hb1.mono (by omega))
  clear hs0 hb1 hB0
  obtain ⟨⟨d0, d1, d2⟩, _⟩ := hB1.three
  gi_wp2_with fail
  refine ⟨trivial, (callsIn_wide.2 (CK.out _)).mono ?_⟩
  rintro e w2 ⟨rfl, hb1⟩
  have h3l := hB3.lt
  replace hB2 := hB2.below hb1 hB2.lt
  replace hB3 := hB3.below hb1 hB3.lt
  replace hbw := hbw.trans (hb1.mono (by omega))
  clear hb1 d0 d1 d2 h3l hB1
  have c2 : w2.cell? ⟨p + 1 + 1, 0, none⟩ = some (.int .i64 0) := hB2.cell 0
  have c3 : w2.cell? ⟨p + 1 + 1 + 1, 0, none⟩ = some (.bool false) := hB3.cell 0
  have f2 := hB2.frozen 0
  have f3 := hB3.frozen 0
  gi_wp2
  have e2 : Blk ((w2.setCell ⟨p + 1 + 1, 0, none⟩ (.int .i64 0)).setCell ⟨p + 1 + 1 + 1, 0, none⟩ (.bool false)) (p + 1 + 1) 3 #[.int .i64 0] := (show Blk _ _ _ _ by simpa using hB2.set_ 0 (.int .i64 0)).far (p := ⟨p + 1 + 1 + 1, 0, none⟩) (by simp) _
  have e3 : Blk ((w2.setCell ⟨p + 1 + 1, 0, none⟩ (.int .i64 0)).setCell ⟨p + 1 + 1 + 1, 0, none⟩ (.bool false)) (p + 1 + 1 + 1) 4 #[.bool false] := by simpa using (hB3.far (p := ⟨p + 1 + 1, 0, none⟩) (by simp) (.int .i64 0)).set_ 0 (.bool false)
  have hB9 : Below p w ((w2.setCell ⟨p + 1 + 1, 0, none⟩ (.int .i64 0)).setCell ⟨p + 1 + 1 + 1, 0, none⟩ (.bool false)) := below_set (below_set hbw (by omega) _) (by omega) _
  have g2 := e2.cell 0
  have g3 := e3.cell 0
  exact ⟨.tuple #[.int .i64 0, .bool false], by simp [results, Try.results42, go_sem, g2, g3], rfl, by rw [HP.out]; exact hB9⟩

/-- What Offset answers, whatever is handed in. -/
def offOk (W H : Int) (D Dead : List Bool) : Bool := decide (hdCheck Dead.length = 0 ∧ bmCheck W H D.length = 0)
def offN (W H : Int) (D Dead : List Bool) : Option Nat := if offOk W H D Dead = true then headOff W.toNat H.toNat D Dead else none
theorem head_Offset_any (W H : Int) (c ch : Nat) (A AH : Option Addr) (D Dead : List Bool) (w : World) (hl : D.length ≤ 9223372036854775807)
    (hr : Rd Value.bool w w.heap.size A D) (hh : Rd Value.bool w w.heap.size AH Dead) :
    Calls Try.prog 42 #[.agg #[.slice AH Dead.length ch], .agg #[.int .i64 W, .int .i64 H, .slice A D.length c]] w fun e w' =>
      e = .returned (.tuple #[.int .i64 (offI (offN W H D Dead)), .bool (offN W H D Dead).isSome]) ∧ Below w.heap.size w w' := by
  by_cases h1 : hdCheck Dead.length = 0
  · by_cases h2 : bmCheck W H D.length = 0
    · have he : offN W H D Dead = headOff W.toNat H.toNat D Dead := by simp [offN, offOk, h1, h2]
      rw [he]
      have hL : 1 ≤ Dead.length ∧ Dead.length ≤ 192 := by
        unfold hdCheck at h1
        split at h1
        · assumption
        · cases h1
      have hw : sideB W = true ∧ sideB H = true ∧ (D.length : Int) = W * H := by
        unfold bmCheck at h2
        split at h2
        · rename_i h3
          rw [Bool.and_eq_true] at h3
          refine ⟨h3.1, h3.2, ?_⟩
          split at h2
          · assumption
          · cases h2
        · cases h2
      obtain ⟨hw1, hw2, hw3⟩ := hw
      have hW : 0 ≤ W ∧ W ≤ 96 := by simpa [sideB] using hw1
      have hH : 0 ≤ H ∧ H ≤ 96 := by simpa [sideB] using hw2
      obtain ⟨m, rfl⟩ := Int.eq_ofNat_of_zero_le hW.1
      obtain ⟨n, rfl⟩ := Int.eq_ofNat_of_zero_le hH.1
      have hD : D.length = m * n := by exact_mod_cast hw3
      rw [hD]
      exact head_Offset m n c ch A AH D Dead w (by omega) (by omega) hD hL.1 hL.2 hr hh
    · have he : offN W H D Dead = none := by simp [offN, offOk, h2]
      rw [he]
      exact head_Offset_bad2 W H _ c _ ch A AH w h1 hl h2
  · have he : offN W H D Dead = none := by simp [offN, offOk, h1]
    rw [he]
    exact head_Offset_bad1 W H _ c _ ch A AH w (by unfold hdCheck at h1 ⊢; split at h1; exact absurd rfl h1; rename_i h; rw [if_neg h])
end Go.Proofs.Ytlanefdeeanpnaa
