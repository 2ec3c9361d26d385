/-
  Offset of the reference of layer 37, whatever is handed in. Conditions: sizes alone.
-/
import Derived.Test.YtlanefdeeanpnaaPrintR2
import Derived.Test.YtlanefdeeanpnaaSame
namespace Go.Proofs.Ytlanefdeeanpnaa
set_option linter.unusedVariables false
set_option linter.unusedSimpArgs false
open Go.RowKit
attribute [local go_sem ↓] Go.wp_at_zero Go.wp_at_succ

def hitR (W H : Int) (D Dead : List Bool) (x : Nat) : Bool := decide (pE W H x D Dead = 0) && sameB (pW W H x D Dead) (pH W H x D Dead) (pD W H x D Dead) W H D
def refOff (W H : Int) (D Dead : List Bool) (B : Int) : Option Nat := (List.range 193).find? fun x => decide ((x : Int) ≤ B) && hitR W H D Dead x
theorem refOff_hit {W H B : Int} {D Dead : List Bool} {t : Nat} (ht : t < 193) (hB : (t : Int) ≤ B) (hh : hitR W H D Dead t = true) (hb : ∀ x, x < t → hitR W H D Dead x = false) : refOff W H D Dead B = some t := by
  unfold refOff
  rw [List.find?_range_eq_some]
  refine ⟨by simp [hB, hh], by simpa using ht, fun j hj => by simp [hb j hj]⟩
theorem refOff_none {W H B : Int} {D Dead : List Bool} {t : Nat} (ht : ¬ (t : Int) ≤ B ∨ 193 ≤ t) (hb : ∀ x, x < t → hitR W H D Dead x = false) : refOff W H D Dead B = none := by
  unfold refOff
  rw [List.find?_eq_none]
  intro y hy
  have hy' : y < 193 := by simpa using hy
  by_cases h : y < t
  · simp [hb y h]
  · have : ¬ (y : Int) ≤ B := by omega
    simp [this]

set_option maxRecDepth 100000 in
set_option maxHeartbeats 4000000 in
theorem ref37_Offset (W H B : Int) (c ch : Nat) (A AH : Option Addr) (D Dead : List Bool) (w : World) (hl : D.length ≤ 1000000) (hlh : Dead.length ≤ 1000000) (hB : B = IntKind.i64.wrap ((Dead.length : Int) - H))
    (hr : Rd Value.bool w w.heap.size A D) (hh : Rd Value.bool w w.heap.size AH Dead) :
    Calls Try.prog 43 #[.agg #[.slice AH Dead.length ch], .agg #[.int .i64 W, .int .i64 H, .slice A D.length c]] w fun e w' =>
      e = .returned (.tuple #[.int .i64 (((refOff W H D Dead B).getD 0 : Nat) : Int), .bool (refOff W H D Dead B).isSome]) ∧ Below w.heap.size w w' := by
  have HR := Lib.hid hr
  have HH := Lib.hid hh
  have CP := Lib.hid (fun at_ w h1 h2 => ref37_Print_any W H at_ c ch A AH D Dead w (by omega) h1 h2)
  have hBs := hB.symm
  clear hr hh hB
  go_enter Try.func43, Try.ntmps43
  go_upto_region 1 with fail
  refine wp_world (fun W0 hW0 => ?_)
  obtain ⟨hB0, hB1, hbw, hs0⟩ := new2 hW0
  clear hW0
  generalize hp : w.heap.size = p at *
  have HP := Lib.hid hp
  clear hp hs0
  go_wp2_with fail
  go_loopw [6] (fun i wr => ∃ t : Nat, t ≤ 193 ∧ i = .int .i64 t ∧ (∀ x, x < t → hitR W H D Dead x = false) ∧ Blk wr p 59 #[.slice AH Dead.length ch] ∧ Blk wr (p + 1) 29 #[.int .i64 W, .int .i64 H, .slice A D.length c] ∧ Below p w wr) (fun i _ => 193 - (intOf i).toNat)
  case atStart => exact ⟨0, Nat.zero_le _, rfl, fun x hx => by omega, hB0, hB1, hbw⟩
  case round =>
    clear hB0 hB1 hbw
    obtain ⟨t, ht, rfl, hpre, hB0, hB1, hbw⟩ := hrel
    have HPRE := Lib.hid hpre
    clear hpre
    have d0 : wr.cell? ⟨p, 0, none⟩ = some (.slice AH Dead.length ch) := hB0.cell 0
    obtain ⟨⟨b0, b1, b2⟩, _⟩ := hB1.three
    by_cases hb : (t : Int) ≤ B
    · by_cases ht2 : (t : Int) ≤ 192
      · go_wp2_with fail
        have hz := hB1.lt
        refine (CP.out t wr ((HR.out.below hbw (Nat.le_refl _)).more (by omega)) ((HH.out.below hbw (Nat.le_refl _)).more (by omega))).mono ?_
        rintro e w1 ⟨A', c', rfl, hrd, hb1⟩
        have hHit : hitR W H D Dead t = (decide (pE W H t D Dead = 0) && sameB (pW W H t D Dead) (pH W H t D Dead) (pD W H t D Dead) W H D) := rfl
        have HIT := Lib.hid hHit
        clear hHit
        have hDl : (pD W H t D Dead).length ≤ 1000000 := by unfold pD; split <;> simp [printL]; omega
        have CS := Lib.hid (fun w h1 h2 => ref04_Same (pW W H t D Dead) (pH W H t D Dead) A' c' (pD W H t D Dead) W H A c D w (by omega) (by omega) h1 h2)
        replace hB0 := hB0.below hb1 hB0.lt
        replace hB1 := hB1.below hb1 hB1.lt
        replace hbw := hbw.trans (hb1.mono (by omega))
        clear hb1 d0 b0 b1 b2 hz
        have hz := hB1.lt
        generalize pE W H t D Dead = er at *
        generalize pW W H t D Dead = rx at *
        generalize pH W H t D Dead = ry at *
        generalize pD W H t D Dead = rl at *
        have HRD := Lib.hid hrd
        clear hrd
        obtain ⟨⟨b0, b1, b2⟩, _⟩ := hB1.three
        by_cases her : er = 0
        · subst her
          go_wp2_with fail
          refine calls_world (fun W2 hW2 => ?_)
          obtain ⟨hQ, hb1, hsQ⟩ := new1 hW2
          have hbw2 := hbw.trans (hb1.mono (by omega))
          replace hB0 := hB0.below hb1 hB0.lt
          replace hB1 := hB1.below hb1 hB1.lt
          refine (CS.out W2 ((HRD.out.below hb1 (Nat.le_refl _)).more (by omega)) ((HR.out.below hbw2 (Nat.le_refl _)).more (by omega))).mono ?_
          clear hW2
          rintro e w3 ⟨rfl, hb3⟩
          replace hB0 := hB0.below hb3 hB0.lt
          replace hB1 := hB1.below hb3 hB1.lt
          have hbw3 := hbw2.trans (hb3.mono (by omega))
          replace HIT := Lib.hid (show hitR W H D Dead t = sameB rx ry rl W H D by have := HIT.out; simpa using this)
          clear hb1 hb3 hbw hbw2 b0 b1 b2
          generalize sameB rx ry rl W H D = sb at *
          cases sb with
          | true =>
            have hres := Lib.hid (refOff_hit (B := B) (t := t) (by omega) hb HIT.out HPRE.out)
            go_wp2
            go_ret2
            exact ⟨by rw [hres.out]; rfl, by rw [HP.out]; exact hbw3⟩
          | false =>
            go_wp2
            go_roundw
            case rel => exact ⟨t + 1, by omega, by go_num, fun x hx => (by rcases Nat.lt_succ_iff_lt_or_eq.1 hx with h | rfl; exact HPRE.out x h; exact HIT.out), hB0, hB1, hbw3⟩
            case measure => simp [intOf]; omega
        · rw [decide_eq_false her, Bool.false_and] at HIT
          go_wp2
          go_roundw
          case rel => exact ⟨t + 1, by omega, by go_num, fun x hx => (by rcases Nat.lt_succ_iff_lt_or_eq.1 hx with h | rfl; exact HPRE.out x h; exact HIT.out), hB0.alloc _, hB1.alloc _, hbw.alloc (by omega) _⟩
          case measure => simp [intOf]; omega
      · have hres := Lib.hid (refOff_none (W := W) (H := H) (D := D) (Dead := Dead) (B := B) (t := t) (.inr (by omega)) HPRE.out)
        go_wp2
        go_ret2
        exact ⟨by rw [hres.out]; rfl, by rw [HP.out]; exact hbw⟩
    · have hres := Lib.hid (refOff_none (W := W) (H := H) (D := D) (Dead := Dead) (B := B) (t := t) (.inl hb) HPRE.out)
      go_wp2
      go_ret2
      exact ⟨by rw [hres.out]; rfl, by rw [HP.out]; exact hbw⟩
end Go.Proofs.Ytlanefdeeanpnaa
