/-
  Print of the reference of layer 37, where it prints. Conditions: a valid head, a well-formed bitmap, a nozzle from which it can be printed.
-/
import Derived.Test.YtlanefdeeanpnaaPrint2
namespace Go.Proofs.Ytlanefdeeanpnaa
set_option linter.unusedVariables false
set_option linter.unusedSimpArgs false
open Go.RowKit
attribute [local go_sem ↓] Go.wp_at_zero Go.wp_at_succ

/-- The first t dots are printed, the others blank. -/
def dotsTo (m N at_ : Nat) (D Dead : List Bool) (t : Nat) : List Bool := (List.range N).map fun k => decide (k < t) && (D.getD k false && !Dead.getD (at_ + k / m) false)
theorem dotsTo_zero (m N at_ : Nat) (D Dead : List Bool) : dotsTo m N at_ D Dead 0 = List.replicate N false := by
  apply List.ext_getElem <;> simp [dotsTo]
theorem dotsTo_all (m at_ : Nat) (D Dead : List Bool) : dotsTo m D.length at_ D Dead D.length = printL m at_ D Dead := by
  apply List.ext_getElem
  · simp [dotsTo, printL]
  · intro i h1 h2
    have : i < D.length := by simpa [dotsTo] using h1
    simp [dotsTo, printL, this]
theorem dotsTo_len (m N at_ : Nat) (D Dead : List Bool) (t : Nat) : (dotsTo m N at_ D Dead t).length = N := by simp [dotsTo]
theorem dotsTo_set {m N at_ t : Nat} {D Dead : List Bool} (ht : t < N) : dotsTo m N at_ D Dead (t + 1) = (dotsTo m N at_ D Dead t).set t (D.getD t false && !Dead.getD (at_ + t / m) false) := by
  apply List.ext_getElem
  · simp [dotsTo]
  · intro i h1 h2
    rw [List.getElem_set]
    by_cases he : t = i
    · subst he
      simp [dotsTo]
    · rw [if_neg he]
      have : decide (i < t + 1) = decide (i < t) := by
        by_cases hl : i < t
        · rw [decide_eq_true hl, decide_eq_true (by omega)]
        · rw [decide_eq_false hl, decide_eq_false (by omega)]
      simp only [dotsTo, List.getElem_map, List.getElem_range, this]

set_option maxRecDepth 100000 in
set_option maxHeartbeats 4000000 in
theorem ref37_Print (m n at_ c ch : Nat) (A AH : Option Addr) (D Dead : List Bool) (w : World) (hm : m ≤ 96) (hn : n ≤ 96) (hD : D.length = m * n) (hL : 1 ≤ Dead.length) (hL2 : Dead.length ≤ 192) (hat : at_ + n ≤ Dead.length)
    (hr : Rd Value.bool w w.heap.size A D) (hh : Rd Value.bool w w.heap.size AH Dead) :
    Calls Try.prog 46 #[.agg #[.slice AH Dead.length ch], .agg #[.int .i64 m, .int .i64 n, .slice A (m * n) c], .int .i64 at_] w fun e w' =>
      ∃ A' c', e = .returned (.tuple #[.agg #[.int .i64 m, .int .i64 n, .slice A' (m * n) c'], .int .i64 0]) ∧ Rd Value.bool w' w'.heap.size A' (printL m at_ D Dead) ∧ Below w.heap.size w w' := by
  have hmn : m * n ≤ 9216 := Nat.mul_le_mul hm hn
  have CK := Lib.hid (fun w => ref04_Check m n A (m * n) c w (by omega))
  rw [show bmCheck m n (m * n) = 0 by simp [bmCheck, sideB]; omega] at CK
  have CH := Lib.hid (fun w => ref37_Check Dead.length AH ch w)
  rw [show hdCheck Dead.length = 0 by simp [hdCheck]; omega] at CH
  have CN := Lib.hid (fun w => ref04_New_nat m n w hm hn)
  have HR := Lib.hid hr
  have HD := Lib.hid hD
  obtain ⟨gh, oh, rfl, hgh, hch⟩ := hh (by omega)
  have HCH := Lib.hid hch
  obtain ⟨L, hLe⟩ : ∃ L, L = Dead.length := ⟨_, rfl⟩
  have HL := Lib.hid hLe
  rw [← hLe] at hL hL2 CH hat ⊢
  clear hr hh hD hLe hch
  go_enter Try.func46, Try.ntmps46
  go_upto_region 1 with fail
  refine wp_world (fun W0 hW0 => ?_)
  obtain ⟨hB0, hB1, hB2, hbw, hs0⟩ := new3 hW0
  clear hW0
  generalize hp : w.heap.size = p at *
  have HP := Lib.hid hp
  clear hp
  obtain ⟨⟨b0, b1, b2⟩, _⟩ := hB1.three
  have z0 := hB1.lt
  have z1 := hB2.lt
  clear hs0
  go_wp2_with fail
  refine (CN.out _).mono ?_
  rintro e w1 ⟨g, rfl, hg0, hgl, hO, hb1⟩
  replace hB0 := hB0.below hb1 hB0.lt
  replace hB1 := hB1.below hb1 hB1.lt
  replace hB2 := hB2.below hb1 hB2.lt
  replace hbw := hbw.trans (hb1.mono (by omega))
  have hpg : p + 1 + 1 < g := by omega
  clear hb1 b0 b1 b2 z0 z1 hg0
  obtain ⟨⟨b0, b1, b2⟩, _⟩ := hB1.three
  have z1 := hB1.lt
  have z2 := hB2.lt
  go_wp2_with fail
  refine calls_world (fun W2 hW2 => ?_)
  obtain ⟨hQ, hb1, hsQ⟩ := new1 hW2
  replace hB0 := hB0.below hb1 hB0.lt
  replace hB1 := hB1.below hb1 hB1.lt
  replace hB2 := hB2.below hb1 hB2.lt
  replace hO := hO.below hb1 hgl
  replace hbw := hbw.trans (hb1.mono (by omega))
  generalize hq : w1.heap.size = q at *
  clear hq hb1 b0 b1 b2 hW2
  refine (CK.out _).mono ?_
  rintro e w3 ⟨rfl, hb1⟩
  replace hB0 := hB0.below hb1 hB0.lt
  replace hB1 := hB1.below hb1 hB1.lt
  replace hB2 := hB2.below hb1 hB2.lt
  replace hO := hO.below hb1 hO.lt
  replace hQ := hQ.below hb1 hQ.lt
  replace hbw := hbw.trans (hb1.mono (by omega))
  clear hb1 hsQ
  have d0 : w3.cell? ⟨p, 0, none⟩ = some (.slice (some ⟨gh, oh, none⟩) L ch) := hB0.cell 0
  go_wp2_with fail
  refine (CH.out _).mono ?_
  rintro e w4 ⟨rfl, hb1⟩
  have h3l := hQ.lt
  replace hB0 := hB0.below hb1 hB0.lt
  replace hB1 := hB1.below hb1 hB1.lt
  replace hB2 := hB2.below hb1 hB2.lt
  replace hO := hO.below hb1 hO.lt
  replace hQ := hQ.below hb1 hQ.lt
  replace hbw := hbw.trans (hb1.mono (by omega))
  clear hb1 d0 h3l
  have d0 : w4.cell? ⟨p, 0, none⟩ = some (.slice (some ⟨gh, oh, none⟩) L ch) := hB0.cell 0
  obtain ⟨⟨b0, b1, b2⟩, _⟩ := hB1.three
  have hle : (at_ : Int) ≤ (L : Int) - (n : Int) := by omega
  go_wp2_with fail
  rw [← dotsTo_zero m (m * n) at_ D Dead] at hO
  go_loopw [11] (fun i wr => ∃ t : Nat, t ≤ m * n ∧ i = .int .i64 t ∧ Blk wr p 59 #[.slice (some ⟨gh, oh, none⟩) L ch] ∧ Blk wr (p + 1) 29 #[.int .i64 m, .int .i64 n, .slice A (m * n) c] ∧ Blk wr (p + 1 + 1) 29 #[.int .i64 0, .int .i64 0, .slice none 0 0] ∧
      Blk wr q 29 #[.int .i64 m, .int .i64 n, .slice (some ⟨g, 0, none⟩) (m * n) (m * n)] ∧ Own Value.bool 4 wr g (dotsTo m (m * n) at_ D Dead t) ∧ Below p w wr) (fun i _ => m * n - (intOf i).toNat)
  case atStart => exact ⟨0, Nat.zero_le _, rfl, hB0, hB1, hB2, hQ, hO, hbw⟩
  case round =>
    clear b0 b1 b2 d0 hB0 hB1 hB2 hQ hO hbw
    obtain ⟨t, ht, rfl, hB0, hB1, hB2, hQ, hO, hbw⟩ := hrel
    have d0 : wr.cell? ⟨p, 0, none⟩ = some (.slice (some ⟨gh, oh, none⟩) L ch) := hB0.cell 0
    obtain ⟨⟨b0, b1, b2⟩, _⟩ := hB1.three
    obtain ⟨⟨q0, q1, q2⟩, _⟩ := hQ.three
    by_cases hlt : t < m * n
    · have hN2 : 0 < m * n := Nat.lt_of_le_of_lt (Nat.zero_le _) hlt
      have hmp : 0 < m := Nat.pos_of_mul_pos_right hN2
      obtain ⟨gd, od, hAe, hgd, hcD⟩ := HR.out (by rw [HD.out]; exact hN2)
      subst hAe
      have hltD : t < D.length := by rw [HD.out]; exact hlt
      have hct := (hbw.cell (p := ⟨gd, od + t, none⟩) hgd).trans (hcD t hltD)
      have hky : t / m < n := Nat.div_lt_of_lt_mul hlt
      have hxl : at_ + t / m < Dead.length := by have := HL.out; omega
      have hcd := (hbw.cell (p := ⟨gh, oh + (at_ + t / m), none⟩) (by show gh < p; omega)).trans (HCH.out _ hxl)
      have hset := Lib.hid (@dotsTo_set m (m * n) at_ t D Dead hlt)
      have e1 : D.getD t false = D[t] := by rw [List.getD_eq_getElem?_getD, List.getElem?_eq_getElem hltD]; rfl
      have e2 : Dead.getD (at_ + t / m) false = Dead[at_ + t / m] := by rw [List.getD_eq_getElem?_getD, List.getElem?_eq_getElem hxl]; rfl
      rw [e1, e2] at hset
      clear e1 e2 hcD
      generalize D[t] = dt at *
      generalize Dead[at_ + t / m] = dd at *
      have hlen := Lib.hid (dotsTo_len m (m * n) at_ D Dead t)
      obtain ⟨ky, hkye⟩ : ∃ ky : Nat, ky = t / m := ⟨_, rfl⟩
      have hyi : (t : Int).tdiv (m : Int) = (ky : Int) := by rw [Int.tdiv_eq_ediv_of_nonneg (by omega), hkye, Int.natCast_ediv]
      have hkyb : ky ≤ 9216 := by rw [hkye]; exact Nat.le_trans (Nat.div_le_self _ _) (by omega)
      rw [← hkye] at hky hxl hcd
      have hyb : IntKind.i64.wrap (ky : Int) = (ky : Int) := IntWalk.i64_in _ (by omega)
      have hxl2 : at_ + ky < L := by have := HL.out; omega
      have hwa : IntKind.i64.wrap ((at_ : Int) + (ky : Int)) = (at_ : Int) + (ky : Int) := IntWalk.i64_in _ (by omega)
      have hwt : ((at_ : Int) + (ky : Int)).toNat = at_ + ky := by omega
      have hw0 : (0 : Int) ≤ (at_ : Int) + (ky : Int) := by omega
      have hw1 : (at_ : Int) + (ky : Int) < (L : Int) := by omega
      clear hkye hxl hltD
      have hm1 : ¬ m = 0 := by omega
      have hmi : (0 : Int) < (m : Int) := by omega
      have z0 := hB0.lt
      have z1 := hB1.lt
      have z2 := hQ.lt
      have z3 := hO.lt
      have z4 : gd < wr.heap.size := by omega
      have z5 : gh < wr.heap.size := by omega
      go_wp2_with fail
      cases dt with
      | false =>
        refine wp_region_L 21 (fun w' => (∀ b o, b < wr.heap.size → w'.cell? ⟨b, o, none⟩ = wr.cell? ⟨b, o, none⟩) ∧ Below wr.heap.size wr w') (by kernel_rfl) ?_ (fun Wd hWd hS => ?_)
        · (try dsimp only)
          exact sb_of (Below.refl _ _).drew
        (try dsimp only at hS)
        refine wpT_take 0 (v := ?_) rfl (by kernel_rfl) (by kernel_rfl) (fun _ _ _ h => h) hS (Or.inl ⟨rfl, ?_⟩) ?_
        rotate_left
        · (intro w' hSw; (try dsimp only at hSw); go_simp; first | done | with_reducible rfl)
        (try simp only [Act.put, List.setIfInBounds_toArray, List.set_cons_zero, List.set_cons_succ])
        refine wpT_take 1 (v := ?_) rfl (by kernel_rfl) (by kernel_rfl) (fun _ _ _ h => h) hS (Or.inl ⟨rfl, ?_⟩) ?_
        rotate_left
        · (intro w' hSw; (try dsimp only at hSw); go_simp; first | done | with_reducible rfl)
        (try simp only [Act.put, List.setIfInBounds_toArray, List.set_cons_zero, List.set_cons_succ])
        refine wpT_take 2 (v := ?_) rfl (by kernel_rfl) (by kernel_rfl) (fun _ _ _ h => h) hS (Or.inl ⟨rfl, ?_⟩) ?_
        rotate_left
        · (intro w' hSw; (try dsimp only at hSw); go_simp; first | done | with_reducible rfl)
        (try simp only [Act.put, List.setIfInBounds_toArray, List.set_cons_zero, List.set_cons_succ])
        refine wpT_take 3 (v := ?_) rfl (by kernel_rfl) (by kernel_rfl) (fun _ _ _ h => h) hS (Or.inl ⟨rfl, ?_⟩) ?_
        rotate_left
        · (intro w' hSw; (try dsimp only at hSw); go_simp; first | done | with_reducible rfl)
        (try simp only [Act.put, List.setIfInBounds_toArray, List.set_cons_zero, List.set_cons_succ])
        refine wpT_take 4 (v := ?_) rfl (by kernel_rfl) (by kernel_rfl) (fun _ _ _ h => h) hS (Or.inl ⟨rfl, ?_⟩) ?_
        rotate_left
        · (intro w' hSw; (try dsimp only at hSw); go_simp; first | done | with_reducible rfl)
        (try simp only [Act.put, List.setIfInBounds_toArray, List.set_cons_zero, List.set_cons_succ])
        refine wpT_take 5 (v := ?_) rfl (by kernel_rfl) (by kernel_rfl) (fun _ _ _ h => h) hS (Or.inl ⟨rfl, ?_⟩) ?_
        rotate_left
        · (intro w' hSw; (try dsimp only at hSw); go_simp; first | done | with_reducible rfl)
        (try simp only [Act.put, List.setIfInBounds_toArray, List.set_cons_zero, List.set_cons_succ])
        refine wpT_take 6 (v := ?_) rfl (by kernel_rfl) (by kernel_rfl) (fun _ _ _ h => h) hS (Or.inl ⟨rfl, ?_⟩) ?_
        rotate_left
        · (intro w' hSw; (try dsimp only at hSw); go_simp; first | done | with_reducible rfl)
        (try simp only [Act.put, List.setIfInBounds_toArray, List.set_cons_zero, List.set_cons_succ])
        refine wpT_take 7 (v := ?_) rfl (by kernel_rfl) (by kernel_rfl) (fun _ _ _ h => h) hS (Or.inl ⟨rfl, ?_⟩) ?_
        rotate_left
        · (intro w' hSw; (try dsimp only at hSw); go_simp; first | done | with_reducible rfl)
        (try simp only [Act.put, List.setIfInBounds_toArray, List.set_cons_zero, List.set_cons_succ])
        refine wpT_take 8 (v := ?_) rfl (by kernel_rfl) (by kernel_rfl) (fun _ _ _ h => h) hS (Or.inl ⟨rfl, ?_⟩) ?_
        rotate_left
        · (intro w' hSw; (try dsimp only at hSw); go_simp; first | done | with_reducible rfl)
        (try simp only [Act.put, List.setIfInBounds_toArray, List.set_cons_zero, List.set_cons_succ])
        refine wpT_take 9 rfl (by kernel_rfl) (by kernel_rfl) (fun _ _ _ h => h) hS (Or.inr ⟨rfl, rfl⟩) ?_
        (try simp only [Act.put, List.setIfInBounds_toArray, List.set_cons_zero, List.set_cons_succ])
        refine wpT_take 10 rfl (by kernel_rfl) (by kernel_rfl) (fun _ _ _ h => h) hS (Or.inr ⟨rfl, rfl⟩) ?_
        (try simp only [Act.put, List.setIfInBounds_toArray, List.set_cons_zero, List.set_cons_succ])
        refine wpT_take 11 rfl (by kernel_rfl) (by kernel_rfl) (fun _ _ _ h => h) hS (Or.inr ⟨rfl, rfl⟩) ?_
        (try simp only [Act.put, List.setIfInBounds_toArray, List.set_cons_zero, List.set_cons_succ])
        refine wpT_take 12 rfl (by kernel_rfl) (by kernel_rfl) (fun _ _ _ h => h) hS (Or.inr ⟨rfl, rfl⟩) ?_
        (try simp only [Act.put, List.setIfInBounds_toArray, List.set_cons_zero, List.set_cons_succ])
        refine wpT_take 13 rfl (by kernel_rfl) (by kernel_rfl) (fun _ _ _ h => h) hS (Or.inr ⟨rfl, rfl⟩) ?_
        (try simp only [Act.put, List.setIfInBounds_toArray, List.set_cons_zero, List.set_cons_succ])
        refine wpT_take 14 rfl (by kernel_rfl) (by kernel_rfl) (fun _ _ _ h => h) hS (Or.inr ⟨rfl, rfl⟩) ?_
        (try simp only [Act.put, List.setIfInBounds_toArray, List.set_cons_zero, List.set_cons_succ])
        refine wpT_take 15 rfl (by kernel_rfl) (by kernel_rfl) (fun _ _ _ h => h) hS (Or.inr ⟨rfl, rfl⟩) ?_
        (try simp only [Act.put, List.setIfInBounds_toArray, List.set_cons_zero, List.set_cons_succ])
        refine wpT_take 16 rfl (by kernel_rfl) (by kernel_rfl) (fun _ _ _ h => h) hS (Or.inr ⟨rfl, rfl⟩) ?_
        (try simp only [Act.put, List.setIfInBounds_toArray, List.set_cons_zero, List.set_cons_succ])
        refine wpT_take 17 rfl (by kernel_rfl) (by kernel_rfl) (fun _ _ _ h => h) hS (Or.inr ⟨rfl, rfl⟩) ?_
        (try simp only [Act.put, List.setIfInBounds_toArray, List.set_cons_zero, List.set_cons_succ])
        refine wpT_take 18 rfl (by kernel_rfl) (by kernel_rfl) (fun _ _ _ h => h) hS (Or.inr ⟨rfl, rfl⟩) ?_
        (try simp only [Act.put, List.setIfInBounds_toArray, List.set_cons_zero, List.set_cons_succ])
        refine wpT_take 19 rfl (by kernel_rfl) (by kernel_rfl) (fun _ _ _ h => h) hS (Or.inr ⟨rfl, rfl⟩) ?_
        (try simp only [Act.put, List.setIfInBounds_toArray, List.set_cons_zero, List.set_cons_succ])
        refine wpT_take 20 (v := ?_) rfl (by kernel_rfl) (by kernel_rfl) (fun _ _ _ h => h) hS (Or.inl ⟨rfl, ?_⟩) ?_
        rotate_left
        · (intro w' hSw; (try dsimp only at hSw); go_simp; first | done | with_reducible rfl)
        (try simp only [Act.put, List.setIfInBounds_toArray, List.set_cons_zero, List.set_cons_succ])
        refine wpT_tail (by rfl) (by kernel_rfl) ?_
        (try simp only [List.drop_succ_cons, List.drop_zero])
        have hbd := hS.2
        have hO1 := hO.below hbd hO.lt
        have fz := hO1.frozen t
        have hc0 := hO.cell (k := t) (by rw [dotsTo_len]; exact hlt)
        have hc1 := hO1.cell (k := t) (by rw [dotsTo_len]; exact hlt)
        generalize (dotsTo m (m * n) at_ D Dead t)[t]'(by rw [dotsTo_len]; exact hlt) = old at hc0 hc1
        go_wp2
        have hgq : g ≠ q := own_blk_ne hO hQ (by decide)
        have hO2 := hO1.set_ t (false)
        have hs2 : dotsTo m (m * n) at_ D Dead (t + 1) = (dotsTo m (m * n) at_ D Dead t).set t (false) := by rw [hset.out]; rfl
        rw [← hs2] at hO2
        go_roundw
        case rel => exact ⟨t + 1, by omega, by go_num, (hB0.below hbd hB0.lt).far (p := ⟨g, t, none⟩) (by simp; omega) _, (hB1.below hbd hB1.lt).far (p := ⟨g, t, none⟩) (by simp; omega) _, (hB2.below hbd hB2.lt).far (p := ⟨g, t, none⟩) (by simp; omega) _, (hQ.below hbd hQ.lt).far (p := ⟨g, t, none⟩) (by simpa using fun e => hgq e.symm) _, hO2, below_set (hbw.trans (hbd.mono (by omega))) (by omega) _⟩
        case measure => simp [intOf]; omega
      | true =>
        refine wp_region_L 21 (fun w' => (∀ b o, b < wr.heap.size → w'.cell? ⟨b, o, none⟩ = wr.cell? ⟨b, o, none⟩) ∧ Below wr.heap.size wr w') (by kernel_rfl) ?_ (fun Wd hWd hS => ?_)
        · (try dsimp only)
          exact sb_of (Below.refl _ _).drew
        (try dsimp only at hS)
        refine wpT_take 0 (v := ?_) rfl (by kernel_rfl) (by kernel_rfl) (fun _ _ _ h => h) hS (Or.inl ⟨rfl, ?_⟩) ?_
        rotate_left
        · (intro w' hSw; (try dsimp only at hSw); go_simp; first | done | with_reducible rfl)
        (try simp only [Act.put, List.setIfInBounds_toArray, List.set_cons_zero, List.set_cons_succ])
        refine wpT_take 1 (v := ?_) rfl (by kernel_rfl) (by kernel_rfl) (fun _ _ _ h => h) hS (Or.inl ⟨rfl, ?_⟩) ?_
        rotate_left
        · (intro w' hSw; (try dsimp only at hSw); go_simp; first | done | with_reducible rfl)
        (try simp only [Act.put, List.setIfInBounds_toArray, List.set_cons_zero, List.set_cons_succ])
        refine wpT_take 2 (v := ?_) rfl (by kernel_rfl) (by kernel_rfl) (fun _ _ _ h => h) hS (Or.inl ⟨rfl, ?_⟩) ?_
        rotate_left
        · (intro w' hSw; (try dsimp only at hSw); go_simp; first | done | with_reducible rfl)
        (try simp only [Act.put, List.setIfInBounds_toArray, List.set_cons_zero, List.set_cons_succ])
        refine wpT_take 3 (v := ?_) rfl (by kernel_rfl) (by kernel_rfl) (fun _ _ _ h => h) hS (Or.inl ⟨rfl, ?_⟩) ?_
        rotate_left
        · (intro w' hSw; (try dsimp only at hSw); go_simp; first | done | with_reducible rfl)
        (try simp only [Act.put, List.setIfInBounds_toArray, List.set_cons_zero, List.set_cons_succ])
        refine wpT_take 4 (v := ?_) rfl (by kernel_rfl) (by kernel_rfl) (fun _ _ _ h => h) hS (Or.inl ⟨rfl, ?_⟩) ?_
        rotate_left
        · (intro w' hSw; (try dsimp only at hSw); go_simp; first | done | with_reducible rfl)
        (try simp only [Act.put, List.setIfInBounds_toArray, List.set_cons_zero, List.set_cons_succ])
        refine wpT_take 5 (v := ?_) rfl (by kernel_rfl) (by kernel_rfl) (fun _ _ _ h => h) hS (Or.inl ⟨rfl, ?_⟩) ?_
        rotate_left
        · (intro w' hSw; (try dsimp only at hSw); go_simp; first | done | with_reducible rfl)
        (try simp only [Act.put, List.setIfInBounds_toArray, List.set_cons_zero, List.set_cons_succ])
        refine wpT_take 6 (v := ?_) rfl (by kernel_rfl) (by kernel_rfl) (fun _ _ _ h => h) hS (Or.inl ⟨rfl, ?_⟩) ?_
        rotate_left
        · (intro w' hSw; (try dsimp only at hSw); go_simp; first | done | with_reducible rfl)
        (try simp only [Act.put, List.setIfInBounds_toArray, List.set_cons_zero, List.set_cons_succ])
        refine wpT_take 7 (v := ?_) rfl (by kernel_rfl) (by kernel_rfl) (fun _ _ _ h => h) hS (Or.inl ⟨rfl, ?_⟩) ?_
        rotate_left
        · (intro w' hSw; (try dsimp only at hSw); go_simp; first | done | with_reducible rfl)
        (try simp only [Act.put, List.setIfInBounds_toArray, List.set_cons_zero, List.set_cons_succ])
        refine wpT_take 8 (v := ?_) rfl (by kernel_rfl) (by kernel_rfl) (fun _ _ _ h => h) hS (Or.inl ⟨rfl, ?_⟩) ?_
        rotate_left
        · (intro w' hSw; (try dsimp only at hSw); go_simp; first | done | with_reducible rfl)
        (try simp only [Act.put, List.setIfInBounds_toArray, List.set_cons_zero, List.set_cons_succ])
        refine wpT_take 9 (v := ?_) rfl (by kernel_rfl) (by kernel_rfl) (fun _ _ _ h => h) hS (Or.inl ⟨rfl, ?_⟩) ?_
        rotate_left
        · (intro w' hSw; (try dsimp only at hSw); go_simp; first | done | with_reducible rfl)
        (try simp only [Act.put, List.setIfInBounds_toArray, List.set_cons_zero, List.set_cons_succ])
        refine wpT_take 10 (v := ?_) rfl (by kernel_rfl) (by kernel_rfl) (fun _ _ _ h => h) hS (Or.inl ⟨rfl, ?_⟩) ?_
        rotate_left
        · (intro w' hSw; (try dsimp only at hSw); go_simp; first | done | with_reducible rfl)
        (try simp only [Act.put, List.setIfInBounds_toArray, List.set_cons_zero, List.set_cons_succ])
        refine wpT_take 11 (v := ?_) rfl (by kernel_rfl) (by kernel_rfl) (fun _ _ _ h => h) hS (Or.inl ⟨rfl, ?_⟩) ?_
        rotate_left
        · (intro w' hSw; (try dsimp only at hSw); go_simp; first | done | with_reducible rfl)
        (try simp only [Act.put, List.setIfInBounds_toArray, List.set_cons_zero, List.set_cons_succ])
        refine wpT_take 12 (v := ?_) rfl (by kernel_rfl) (by kernel_rfl) (fun _ _ _ h => h) hS (Or.inl ⟨rfl, ?_⟩) ?_
        rotate_left
        · (intro w' hSw; (try dsimp only at hSw); go_simp; first | done | with_reducible rfl)
        (try simp only [Act.put, List.setIfInBounds_toArray, List.set_cons_zero, List.set_cons_succ])
        refine wpT_take 13 (v := ?_) rfl (by kernel_rfl) (by kernel_rfl) (fun _ _ _ h => h) hS (Or.inl ⟨rfl, ?_⟩) ?_
        rotate_left
        · (intro w' hSw; (try dsimp only at hSw); go_simp; first | done | with_reducible rfl)
        (try simp only [Act.put, List.setIfInBounds_toArray, List.set_cons_zero, List.set_cons_succ])
        refine wpT_take 14 (v := ?_) rfl (by kernel_rfl) (by kernel_rfl) (fun _ _ _ h => h) hS (Or.inl ⟨rfl, ?_⟩) ?_
        rotate_left
        · (intro w' hSw; (try dsimp only at hSw); go_simp; first | done | with_reducible rfl)
        (try simp only [Act.put, List.setIfInBounds_toArray, List.set_cons_zero, List.set_cons_succ])
        refine wpT_take 15 (v := ?_) rfl (by kernel_rfl) (by kernel_rfl) (fun _ _ _ h => h) hS (Or.inl ⟨rfl, ?_⟩) ?_
        rotate_left
        · (intro w' hSw; (try dsimp only at hSw); go_simp; first | done | with_reducible rfl)
        (try simp only [Act.put, List.setIfInBounds_toArray, List.set_cons_zero, List.set_cons_succ])
        refine wpT_take 16 (v := ?_) rfl (by kernel_rfl) (by kernel_rfl) (fun _ _ _ h => h) hS (Or.inl ⟨rfl, ?_⟩) ?_
        rotate_left
        · (intro w' hSw; (try dsimp only at hSw); go_simp; first | done | with_reducible rfl)
        (try simp only [Act.put, List.setIfInBounds_toArray, List.set_cons_zero, List.set_cons_succ])
        refine wpT_take 17 (v := ?_) rfl (by kernel_rfl) (by kernel_rfl) (fun _ _ _ h => h) hS (Or.inl ⟨rfl, ?_⟩) ?_
        rotate_left
        · (intro w' hSw; (try dsimp only at hSw); go_simp; first | done | with_reducible rfl)
        (try simp only [Act.put, List.setIfInBounds_toArray, List.set_cons_zero, List.set_cons_succ])
        refine wpT_take 18 (v := ?_) rfl (by kernel_rfl) (by kernel_rfl) (fun _ _ _ h => h) hS (Or.inl ⟨rfl, ?_⟩) ?_
        rotate_left
        · (intro w' hSw; (try dsimp only at hSw); go_simp; first | done | with_reducible rfl)
        (try simp only [Act.put, List.setIfInBounds_toArray, List.set_cons_zero, List.set_cons_succ])
        refine wpT_take 19 (v := ?_) rfl (by kernel_rfl) (by kernel_rfl) (fun _ _ _ h => h) hS (Or.inl ⟨rfl, ?_⟩) ?_
        rotate_left
        · (intro w' hSw; (try dsimp only at hSw); go_simp; first | done | with_reducible rfl)
        (try simp only [Act.put, List.setIfInBounds_toArray, List.set_cons_zero, List.set_cons_succ])
        refine wpT_take 20 (v := ?_) rfl (by kernel_rfl) (by kernel_rfl) (fun _ _ _ h => h) hS (Or.inl ⟨rfl, ?_⟩) ?_
        rotate_left
        · (intro w' hSw; (try dsimp only at hSw); go_simp; first | done | with_reducible rfl)
        (try simp only [Act.put, List.setIfInBounds_toArray, List.set_cons_zero, List.set_cons_succ])
        refine wpT_tail (by rfl) (by kernel_rfl) ?_
        (try simp only [List.drop_succ_cons, List.drop_zero])
        have hbd := hS.2
        have hO1 := hO.below hbd hO.lt
        have fz := hO1.frozen t
        have hc0 := hO.cell (k := t) (by rw [dotsTo_len]; exact hlt)
        have hc1 := hO1.cell (k := t) (by rw [dotsTo_len]; exact hlt)
        generalize (dotsTo m (m * n) at_ D Dead t)[t]'(by rw [dotsTo_len]; exact hlt) = old at hc0 hc1
        go_wp2
        have hgq : g ≠ q := own_blk_ne hO hQ (by decide)
        have hO2 := hO1.set_ t (!dd)
        have hs2 : dotsTo m (m * n) at_ D Dead (t + 1) = (dotsTo m (m * n) at_ D Dead t).set t (!dd) := by rw [hset.out]; rfl
        rw [← hs2] at hO2
        go_roundw
        case rel => exact ⟨t + 1, by omega, by go_num, (hB0.below hbd hB0.lt).far (p := ⟨g, t, none⟩) (by simp; omega) _, (hB1.below hbd hB1.lt).far (p := ⟨g, t, none⟩) (by simp; omega) _, (hB2.below hbd hB2.lt).far (p := ⟨g, t, none⟩) (by simp; omega) _, (hQ.below hbd hQ.lt).far (p := ⟨g, t, none⟩) (by simpa using fun e => hgq e.symm) _, hO2, below_set (hbw.trans (hbd.mono (by omega))) (by omega) _⟩
        case measure => simp [intOf]; omega
    · have hte : t = m * n := by omega
      obtain ⟨⟨r0, r1, r2⟩, f0, f1, f2⟩ := hB2.three
      go_wp2
      obtain ⟨hR9, hk9⟩ := store3 (x := .int .i64 m) (y := .int .i64 n) (z := .slice (some ⟨g, 0, none⟩) (m * n) (m * n)) rfl hB2
      have hO9 := hk9.blk hO.blk (by simp; omega)
      have hB9 := hbw.trans (hk9.to_below (by have := hB2.lt; omega) (by simp; omega))
      generalize ((wr.setCell ⟨p + 1 + 1, 0, none⟩ (.int .i64 m)).setCell ⟨p + 1 + 1, 1, none⟩ (.int .i64 n)).setCell ⟨p + 1 + 1, 2, none⟩ (.slice (some ⟨g, 0, none⟩) (m * n) (m * n)) = W9 at *
      obtain ⟨⟨s0, s1, s2⟩, _⟩ := hR9.three
      refine bodyPost_ret (v := .tuple #[.agg #[.int .i64 m, .int .i64 n, .slice (some ⟨g, 0, none⟩) (m * n) (m * n)], .int .i64 0]) (by simp [results, Try.results46, go_sem, s0, s1, s2]) rfl ⟨some ⟨g, 0, none⟩, m * n, rfl, ?_, by rw [HP.out]; exact hB9⟩
      have hO9' : Own Value.bool 4 W9 g (dotsTo m (m * n) at_ D Dead t) := hO9
      rw [hte, ← HD.out, dotsTo_all] at hO9'
      exact hO9'.rd hO9'.lt
end Go.Proofs.Ytlanefdeeanpnaa
