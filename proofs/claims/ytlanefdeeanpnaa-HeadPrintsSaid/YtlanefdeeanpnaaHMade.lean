/-
  Contract of Made of layer 37's reference: the head that numbers make, as a function of the list. Conditions: the list is read below the heap's size and its length fits an int.
-/
import Derived.Test.YtlanefdeeanpnaaMade
import Derived.Test.YtlanefdeeanpnaaBase2
namespace Go.Proofs.Ytlanefdeeanpnaa
set_option linter.unusedVariables false
set_option linter.unusedSimpArgs false
open Go.RowKit
attribute [local go_sem ↓] Go.wp_at_zero Go.wp_at_succ

def hmN (L : List Int) : Nat := (1 + dN L 0 24).toNat
def hmStep (L : List Int) (s : Nat × List Bool) : Nat × List Bool := (dAt L s.1, s.2.set (dN L s.1 s.2.length).toNat true)
def hmRun (L : List Int) : Nat → Nat × List Bool → Nat × List Bool
  | 0, s => s
  | n + 1, s => if s.1 < L.length then hmRun L n (hmStep L s) else s
def hmD (L : List Int) : List Bool := (hmRun L 6 (dAt L 0, List.replicate (hmN L) false)).2
theorem hmRun_len (L : List Int) (n : Nat) : ∀ s : Nat × List Bool, (hmRun L n s).2.length = s.2.length := by
  induction n with
  | zero => intro s; rfl
  | succ n ih =>
    intro s
    unfold hmRun
    split
    · rw [ih]; simp [hmStep]
    · rfl
theorem hmD_len (L : List Int) : (hmD L).length = hmN L := by unfold hmD; rw [hmRun_len]; simp
theorem hmN_le (L : List Int) : 1 ≤ hmN L ∧ hmN L ≤ 24 := by have := dN_range L 0 (m := 24) (by omega); unfold hmN; omega
theorem hmRun_stop {L : List Int} {r k : Nat} {D : List Bool} (h : ¬ (r < 6 ∧ k < L.length)) : hmRun L (6 - r) (k, D) = (k, D) := by
  rcases Nat.lt_or_ge r 6 with h1 | h1
  · obtain ⟨j, hj⟩ : ∃ j, 6 - r = j + 1 := ⟨5 - r, by omega⟩
    rw [hj]
    unfold hmRun
    rw [if_neg (fun hh => h ⟨h1, hh⟩)]
  · rw [show 6 - r = 0 by omega]; rfl
theorem hmRun_step {L : List Int} {r k : Nat} {D : List Bool} (h : r < 6 ∧ k < L.length) : hmRun L (6 - r) (k, D) = hmRun L (6 - (r + 1)) (hmStep L (k, D)) := by
  rw [show 6 - r = (6 - (r + 1)) + 1 by omega]
  show (if k < L.length then hmRun L (6 - (r + 1)) (hmStep L (k, D)) else (k, D)) = _
  rw [if_pos h.2]

set_option maxHeartbeats 4000000 in
set_option maxRecDepth 100000 in
theorem HMade_any (L : List Int) (A : Option Addr) (c : Nat) (w : World) (hn : L.length ≤ 9223372036854775807) (hr : Rd (Value.int .i64) w w.heap.size A L) :
    Calls Try.prog 39 #[.slice A L.length c] w fun e w' =>
      ∃ g : Nat, e = .returned (.agg #[.slice (some ⟨g, 0, none⟩) (hmN L) (hmN L)]) ∧ w.heap.size ≤ g ∧ g < w'.heap.size ∧ Own Value.bool 4 w' g (hmD L) ∧ Below w.heap.size w w' := by
  have hN := dN_range L 0 (m := 24) (by omega)
  have hNe : 1 + dN L 0 24 = (hmN L : Int) := by unfold hmN; omega
  have hNl := hmN_le L
  have Hr := Lib.hid hr
  have HD := Lib.hid (show hmD L = (hmRun L 6 (dAt L 0, List.replicate (hmN L) false)).2 from rfl)
  have hk1 := dAt_le (L := L) (k := 0) (by omega)
  clear hr
  generalize hmN L = N at *
  go_enter Try.func39, Try.ntmps39
  go_wp2_with fail
  refine calls_world (fun W0 hW0 => ?_)
  obtain ⟨hB0, hB1, hbw, hs0⟩ := new2 hW0
  clear hW0
  generalize hp : w.heap.size = p at *
  have HP := Lib.hid hp
  clear hp
  refine (Next_blk L A c 0 24 (p + 1) W0 (by omega) (by omega) (by omega) hn ((Hr.out.below hbw (Nat.le_refl _)).more (by omega)) hB1).mono ?_
  rintro e w1 ⟨rfl, hb1, hk1', hs1⟩
  have hmk := mk_run (P := Try.prog) 27 4 (.bool false) 1 Try.underlying27 info_bool rfl (N : Int) (by omega) (by omega) (by omega) w1
  go_wp2_with fail
  refine wp_world (fun W3 hW3 => ?_)
  obtain ⟨hO0, hH, hb3, hs3⟩ := new2 hW3
  have hw1 : w1.heap.size = p + 1 + 1 := by omega
  rw [hw1] at hO0 hH hb3 hs3
  have hO : Own Value.bool 4 W3 (p + 1 + 1) (List.replicate N false) := by unfold Own; simpa [Blk] using hO0
  have hbd0 := hb1.below hb3 (by omega)
  have hB0' := (hk1'.blk hB0 (by simp)).below hb3 (by have := hB0.lt; omega)
  have hbw3 : Below p w W3 := (hbw.trans (hk1'.to_below (B := p) (by omega) (by simp))).trans (hb3.mono (by omega))
  clear hW3 hO0 hb1 hb3 hs1 hk1' hbw hB0 hB1 hs0 hw1 hmk
  have hrd := Lib.hid (Hr.out.below hbw3 (Nat.le_refl _))
  go_loopw [5] (fun kk wr => ∃ (r k : Nat) (D : List Bool), r ≤ 6 ∧ kk = .int .i64 r ∧ k ≤ L.length ∧ D.length = N ∧ Hid ((hmRun L (6 - r) (k, D)).2 = hmD L) ∧ Kp [p + 1, p + 1 + 1] W3 wr ∧ Blk wr (p + 1) 111 #[.slice A L.length c, .int .i64 k] ∧ Own Value.bool 4 wr (p + 1 + 1) D) (fun kk _ => 6 - (intOf kk).toNat)
  case atStart => exact ⟨0, dAt L 0, _, by omega, rfl, hk1, by simp, Lib.hid HD.out.symm, Kp.refl _ _, hbd0, hO⟩
  case round =>
    clear hbd0 hO HD
    obtain ⟨r, k, D, hr6, rfl, hkl, hDl, HM, hkp, hbd, how⟩ := hrel
    have hH' := hkp.blk hH (by simp; omega)
    have hB0 := hkp.blk hB0' (by simp; omega)
    obtain ⟨⟨c0, c1⟩, _⟩ := hbd.two
    have d0 : wr.cell? ⟨p + 1 + 1 + 1, 0, none⟩ = some (.slice (some ⟨p + 1 + 1, 0, none⟩) N N) := hH'.cell 0
    by_cases hall : r < 6 ∧ k < L.length
    · have hst := Lib.hid (hmRun_step (D := D) hall)
      obtain ⟨hr1, hkL⟩ := hall
      have hz := dN_range L k (m := (N : Int)) (by omega)
      obtain ⟨x, hx⟩ := Int.eq_ofNat_of_zero_le hz.1
      have hxN : x < N := by omega
      have hsp : hmStep L (k, D) = (dAt L k, D.set x true) := by simp [hmStep, hDl, hx]
      rw [hsp] at hst
      have HX := Lib.hid hx
      clear hx hz hsp
      have hkb := dAt_le hkl
      have hkL' : (k : Int) < (L.length : Int) := by omega
      have hwz := hkp.size
      have hz1 := hH'.lt
      have hrk := hkp.rd hrd.out (by omega) (by simp; omega)
      go_wp2_with fail
      refine wp_region_L 7 (fun w' => w'.cell? ⟨p + 1 + 1 + 1, 0, none⟩ = some (.slice (some ⟨p + 1 + 1, 0, none⟩) N N)) (by kernel_rfl) ?_ (fun Wd hWd hS => ?_)
      · (try dsimp only)
        exact d0
      (try dsimp only at hS)
      refine wpT_take 0 (v := ?_) rfl (by kernel_rfl) (by kernel_rfl) (fun _ _ _ h => h) hS (Or.inl ⟨rfl, ?_⟩) ?_
      rotate_left
      · (intro w' hSw; (try dsimp only at hSw); go_simp; first | done | with_reducible rfl)
      (try simp only [Act.put, List.setIfInBounds_toArray, List.set_cons_zero, List.set_cons_succ])
      refine wpT_take 1 (v := ?_) rfl (by kernel_rfl) (by kernel_rfl) (fun _ _ _ h => h) hS (Or.inl ⟨rfl, ?_⟩) ?_
      rotate_left
      · (intro w' hSw; (try dsimp only at hSw); go_simp; first | done | with_reducible rfl)
      (try simp only [Act.put, List.setIfInBounds_toArray, List.set_cons_zero, List.set_cons_succ])
      refine wpT_take 2 (v := ?_) rfl (by kernel_rfl) (by kernel_rfl) (fun _ _ _ h => h) hS (Or.inl ⟨rfl, ?_⟩) ?_
      rotate_left
      · (intro w' hSw; (try dsimp only at hSw); go_simp; first | done | with_reducible rfl)
      (try simp only [Act.put, List.setIfInBounds_toArray, List.set_cons_zero, List.set_cons_succ])
      refine wpT_take 3 (v := ?_) rfl (by kernel_rfl) (by kernel_rfl) (fun _ _ _ h => h) hS (Or.inl ⟨rfl, ?_⟩) ?_
      rotate_left
      · (intro w' hSw; (try dsimp only at hSw); go_simp; first | done | with_reducible rfl)
      (try simp only [Act.put, List.setIfInBounds_toArray, List.set_cons_zero, List.set_cons_succ])
      refine wpT_take 4 (v := ?_) rfl (by kernel_rfl) (by kernel_rfl) (fun _ _ _ h => h) hS (Or.inl ⟨rfl, ?_⟩) ?_
      rotate_left
      · (intro w' hSw; (try dsimp only at hSw); go_simp; first | done | with_reducible rfl)
      (try simp only [Act.put, List.setIfInBounds_toArray, List.set_cons_zero, List.set_cons_succ])
      refine wpT_take 5 (v := ?_) rfl (by kernel_rfl) (by kernel_rfl) (fun _ _ _ h => h) hS (Or.inl ⟨rfl, ?_⟩) ?_
      rotate_left
      · (intro w' hSw; (try dsimp only at hSw); go_simp; first | done | with_reducible rfl)
      (try simp only [Act.put, List.setIfInBounds_toArray, List.set_cons_zero, List.set_cons_succ])
      refine wpT_one 6 rfl (by kernel_rfl) (fun K hK => ?_)
      go_simp
      go_at_call 72
      refine (Next_blk L A c k N (p + 1) _ (by omega) (by omega) hkl hn ((hrk.below hWd (by omega)).more (by omega)) (hbd.below hWd hbd.lt)).mono ?_
      rw [HX.out]
      rintro e w5 ⟨rfl, hb5, hk5, hs5⟩
      refine hK.out _ _ ?_ (fun hS => ?_)
      · (try dsimp only)
        exact ((hk5.blk (hH'.below hWd hH'.lt) (by simp; omega)).cell 0)
      clear hK K
      (try simp only [Act.put, List.setIfInBounds_toArray, List.set_cons_zero, List.set_cons_succ])
      (try dsimp only at hS)
      refine wpT_tail (by rfl) (by kernel_rfl) ?_
      (try simp only [List.drop_succ_cons, List.drop_zero])
      have how5 : Own Value.bool 4 w5 (p + 1 + 1) D := hk5.blk (how.below hWd how.lt).blk (by simp)
      have hc5 := how5.cell (k := x) (by omega)
      have fz5 := how5.frozen x
      have hs6 := Lib.hid (how5.set_ x true)
      have hkp5 : Kp [p + 1, p + 1 + 1] W3 w5 := (hkp.below hWd).trans (hk5.more (by simp))
      generalize D[x]'(by omega) = old at hc5
      go_wp2_with fail
      go_roundw
      case rel => exact ⟨r + 1, dAt L k, D.set x true, by omega, by go_num, hkb, by simpa using hDl, by rw [hst.out] at HM; exact HM, hkp5.set (.inl (by simp)) _ _, hb5.far (p := ⟨p + 1 + 1, x, none⟩) (by simp) _, hs6.out⟩
      case measure => simp [intOf]; omega
    · have hfin : D = hmD L := by rw [← HM.out, hmRun_stop hall]
      have e0 : wr.cell? ⟨p, 0, none⟩ = some (.slice none 0 0) := hB0.cell 0
      have f0 := hB0.frozen 0
      have hbz := hkp.size
      by_cases hr1 : r < 6
      · have hkL : ¬ (k : Int) < (L.length : Int) := by omega
        go_wp2
        obtain ⟨hR9, hk9⟩ := store1 (x := .slice (some ⟨p + 1 + 1, 0, none⟩) N N) rfl hB0
        have hO9 := hk9.blk how.blk (by simp; omega)
        have hO9' : Own Value.bool 4 _ (p + 1 + 1) D := hO9
        have s0 := hR9.cell 0
        refine bodyPost_ret (v := .agg #[.slice (some ⟨p + 1 + 1, 0, none⟩) N N]) (by simp [results, Try.results39, go_sem, s0]) rfl ⟨p + 1 + 1, rfl, by rw [HP.out]; omega, hO9'.lt, by rw [← hfin]; exact hO9', ?_⟩
        rw [HP.out]
        exact (hbw3.trans (hkp.to_below (B := p) (by omega) (by simp; omega))).trans (hk9.to_below (B := p) (by have := hB0.lt; omega) (by simp))
      · go_wp2
        obtain ⟨hR9, hk9⟩ := store1 (x := .slice (some ⟨p + 1 + 1, 0, none⟩) N N) rfl hB0
        have hO9 := hk9.blk how.blk (by simp; omega)
        have hO9' : Own Value.bool 4 _ (p + 1 + 1) D := hO9
        have s0 := hR9.cell 0
        refine bodyPost_ret (v := .agg #[.slice (some ⟨p + 1 + 1, 0, none⟩) N N]) (by simp [results, Try.results39, go_sem, s0]) rfl ⟨p + 1 + 1, rfl, by rw [HP.out]; omega, hO9'.lt, by rw [← hfin]; exact hO9', ?_⟩
        rw [HP.out]
        exact (hbw3.trans (hkp.to_below (B := p) (by omega) (by simp; omega))).trans (hk9.to_below (B := p) (by have := hB0.lt; omega) (by simp))
end Go.Proofs.Ytlanefdeeanpnaa
