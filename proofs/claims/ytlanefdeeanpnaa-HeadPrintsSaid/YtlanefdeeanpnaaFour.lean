/-
  Contracts of the helpers of layer 37's laws: four, offset, printed, refused. Conditions: the head's and the bitmap's cells are read.
-/
import Derived.Test.YtlanefdeeanpnaaText2
import Derived.Test.YtlanefdeeanpnaaPrintR2
import Derived.Test.YtlanefdeeanpnaaMath37
import Derived.Test.YtlanefdeeanpnaaSame
namespace Go.Proofs.Ytlanefdeeanpnaa
set_option linter.unusedVariables false
set_option linter.unusedSimpArgs false
open Go.RowKit
attribute [local go_sem ↓] Go.wp_at_zero Go.wp_at_succ

def fourD (L : List Nat) (t : Nat) : List Bool := (L.take t).foldl (fun D k => D.set k true) (List.replicate 4 false)
theorem foldl_set_len (L : List Nat) : ∀ D : List Bool, (L.foldl (fun D k => D.set k true) D).length = D.length := by
  induction L with
  | nil => intro D; rfl
  | cons k L ih => intro D; rw [List.foldl_cons, ih]; simp
theorem fourD_len (L : List Nat) (t : Nat) : (fourD L t).length = 4 := by unfold fourD; rw [foldl_set_len]; simp
theorem fourD_succ {L : List Nat} {t : Nat} (h : t < L.length) : fourD L (t + 1) = (fourD L t).set L[t] true := by
  unfold fourD
  rw [List.take_succ_eq_append_getElem h, List.foldl_append]
  rfl

set_option maxHeartbeats 4000000 in
set_option maxRecDepth 100000 in
theorem four_any (L : List Nat) (A : Option Addr) (c : Nat) (w : World) (hL : L.length ≤ 1000) (hk : ∀ k ∈ L, k < 4) (hr : Rd (fun k : Nat => Value.int .i64 k) w w.heap.size A L) :
    Calls Try.prog 78 #[.slice A L.length c] w fun e w' =>
      ∃ g : Nat, e = .returned (.agg #[.slice (some ⟨g, 0, none⟩) 4 4]) ∧ w.heap.size ≤ g ∧ Own Value.bool 4 w' g (fourD L L.length) ∧ Below w.heap.size w w' := by
  have HR := Lib.hid hr
  have HK := Lib.hid hk
  clear hr hk
  have hmk := fun w1 => mk_run (P := Try.prog) 27 4 (.bool false) 1 Try.underlying27 info_bool rfl (4 : Int) (by omega) (by omega) (by omega) w1
  go_enter Try.func78, Try.ntmps78
  go_wp2_with fail
  refine wp_world (fun W3 hW3 => ?_)
  obtain ⟨hB0, hO0, hH, hbw, hs3⟩ := new3 hW3
  clear hW3 hmk
  generalize hp : w.heap.size = p at *
  have HP := Lib.hid hp
  clear hp
  have hO : Own Value.bool 4 W3 (p + 1) (fourD L 0) := by unfold Own; simpa [Blk, fourD] using hO0
  have HRW := Lib.hid (HR.out.below hbw (Nat.le_refl _))
  clear hO0 HR
  go_loopw [4, 9] (fun _ kk wr => ∃ t : Nat, t ≤ L.length ∧ kk = .int .i64 t ∧ Kp [p + 1] W3 wr ∧ Own Value.bool 4 wr (p + 1) (fourD L t)) (fun _ kk _ => L.length - (intOf kk).toNat)
  case atStart => exact ⟨0, by omega, rfl, Kp.refl _ _, hO⟩
  case round =>
    clear hO
    obtain ⟨t, ht, rfl, hkp, how⟩ := hrel
    have hH' := hkp.blk hH (by simp)
    have d0 : wr.cell? ⟨p + 1 + 1, 0, none⟩ = some (.slice (some ⟨p + 1, 0, none⟩) 4 4) := hH'.cell 0
    have z1 := hH'.lt
    by_cases hlt : t < L.length
    · have hlt' : (t : Int) < (L.length : Int) := by omega
      obtain ⟨gb, ob, rfl, hgb, hcc⟩ := (hkp.rd HRW.out (by omega) (by simp)).at_ hlt
      have hcx : wr.cell? ⟨gb, ob + t, none⟩ = some (.int .i64 ((L[t] : Nat) : Int)) := hcc t hlt
      have hgb' : gb < wr.heap.size := by omega
      have hx4 := HK.out _ (List.getElem_mem hlt)
      have HF := Lib.hid (fourD_succ hlt)
      generalize L[t] = x at *
      have hx4' : (x : Int) < 4 := by omega
      have hxl : x < (fourD L t).length := by rw [fourD_len]; exact hx4
      have hc5 := how.cell (k := x) hxl
      have fz5 := how.frozen x
      have hs6 := Lib.hid (how.set_ x true)
      generalize (fourD L t)[x] = old at hc5
      clear hcc
      have zg := how.lt
      go_wp2_with fail
      refine wp_region_L 7 (fun w' => (∀ b o, b < wr.heap.size → w'.cell? ⟨b, o, none⟩ = wr.cell? ⟨b, o, none⟩) ∧ Below wr.heap.size wr w') (by kernel_rfl) ?_ (fun Wd hWd hS => ?_)
      · (try dsimp only)
        exact sb_of (Below.refl _ _).drew
      (try dsimp only at hS)
      refine wpT_take 0 (v := ?_) rfl (by kernel_rfl) (by kernel_rfl) (fun _ _ _ h => h) hS (Or.inl ⟨rfl, ?_⟩) ?_
      rotate_left
      · (intro w' hSw; (try dsimp only at hSw); go_simp; first | done | with_reducible rfl)
      (try simp only [Act.put, List.setIfInBounds_toArray, List.set_cons_zero, List.set_cons_succ])
      refine wpT_take 1 (v := ?_) rfl (by kernel_rfl) (by kernel_rfl) (fun _ _ _ h => h) hS (Or.inl ⟨rfl, ?_⟩) ?_
      rotate_left
      · (intro w' hSw; (try dsimp only at hSw); go_simp; first | done | with_reducible rfl)
      (try simp only [Act.put, List.setIfInBounds_toArray, List.set_cons_zero, List.set_cons_succ])
      refine wpT_take 2 (v := ?_) rfl (by kernel_rfl) (by kernel_rfl) (fun _ _ _ h => h) hS (Or.inl ⟨rfl, ?_⟩) ?_
      rotate_left
      · (intro w' hSw; (try dsimp only at hSw); go_simp; first | done | with_reducible rfl)
      (try simp only [Act.put, List.setIfInBounds_toArray, List.set_cons_zero, List.set_cons_succ])
      refine wpT_take 3 (v := ?_) rfl (by kernel_rfl) (by kernel_rfl) (fun _ _ _ h => h) hS (Or.inl ⟨rfl, ?_⟩) ?_
      rotate_left
      · (intro w' hSw; (try dsimp only at hSw); go_simp; first | done | with_reducible rfl)
      (try simp only [Act.put, List.setIfInBounds_toArray, List.set_cons_zero, List.set_cons_succ])
      refine wpT_take 4 (v := ?_) rfl (by kernel_rfl) (by kernel_rfl) (fun _ _ _ h => h) hS (Or.inl ⟨rfl, ?_⟩) ?_
      rotate_left
      · (intro w' hSw; (try dsimp only at hSw); go_simp; first | done | with_reducible rfl)
      (try simp only [Act.put, List.setIfInBounds_toArray, List.set_cons_zero, List.set_cons_succ])
      refine wpT_take 5 (v := ?_) rfl (by kernel_rfl) (by kernel_rfl) (fun _ _ _ h => h) hS (Or.inl ⟨rfl, ?_⟩) ?_
      rotate_left
      · (intro w' hSw; (try dsimp only at hSw); go_simp; first | done | with_reducible rfl)
      (try simp only [Act.put, List.setIfInBounds_toArray, List.set_cons_zero, List.set_cons_succ])
      refine wpT_take 6 (v := ?_) rfl (by kernel_rfl) (by kernel_rfl) (fun _ _ _ h => h) hS (Or.inl ⟨rfl, ?_⟩) ?_
      rotate_left
      · (intro w' hSw; (try dsimp only at hSw); go_simp; first | done | with_reducible rfl)
      (try simp only [Act.put, List.setIfInBounds_toArray, List.set_cons_zero, List.set_cons_succ])
      refine wpT_tail (by rfl) (by kernel_rfl) ?_
      (try simp only [List.drop_succ_cons, List.drop_zero])
      have hcd := hWd.cell (p := ⟨p + 1, x, none⟩) zg
      rw [hc5] at hcd
      have hfd := hWd.frozen (p := ⟨p + 1, x, none⟩) zg
      rw [fz5] at hfd
      have hkp5 := hkp.below hWd
      have how5 := how.below hWd zg
      have hs7 := Lib.hid (how5.set_ x true)
      go_wp2_with fail
      go_roundw
      case rel => exact ⟨t + 1, by omega, by go_num, hkp5.set (.inl (by simp)) _ _, by rw [HF.out]; exact hs7.out⟩
      case measure => simp [intOf]; omega
    · have hte : t = L.length := by omega
      subst hte
      have hB0' := hkp.blk hB0 (by simp)
      have e0 : wr.cell? ⟨p, 0, none⟩ = some (.slice none 0 0) := hB0'.cell 0
      have f0 := hB0'.frozen 0
      go_wp2
      obtain ⟨hR9, hk9⟩ := store1 (w := wr) (x := .slice (some ⟨p + 1, 0, none⟩) 4 4) rfl hB0'
      have hO9 := hk9.blk how.blk (by simp)
      have s0 := hR9.cell 0
      refine bodyPost_ret (v := .agg #[.slice (some ⟨p + 1, 0, none⟩) 4 4]) (by simp [results, Try.results78, go_sem, s0]) rfl ⟨p + 1, rfl, by rw [HP.out]; omega, hO9, ?_⟩
      rw [HP.out]
      exact (hbw.trans (hkp.to_below (B := p) (by omega) (by simp))).trans (hk9.to_below (B := p) (by have := hB0'.lt; omega) (by simp))

set_option maxHeartbeats 2000000 in
set_option maxRecDepth 100000 in
theorem offset_yes (m n : Nat) (c ch k : Nat) (A AH : Option Addr) (D Dead : List Bool) (w : World) (hl : D.length ≤ 9223372036854775807)
    (hr : Rd Value.bool w w.heap.size A D) (hh : Rd Value.bool w w.heap.size AH Dead) (hk : offN m n D Dead = some k) :
    Calls Try.prog 79 #[.agg #[.slice AH Dead.length ch], .agg #[.int .i64 m, .int .i64 n, .slice A D.length c], .int .i64 k] w fun e w' => e = .returned (.bool true) ∧ Below w.heap.size w w' := by
  have CO := Lib.hid (fun w h1 h2 => head_Offset_any m n c ch A AH D Dead w hl h1 h2)
  rw [hk] at CO
  have HR := Lib.hid hr
  have HH := Lib.hid hh
  clear hr hh hk
  generalize D.length = l at *
  generalize Dead.length = lh at *
  go_enter Try.func79, Try.ntmps79
  go_wp2_with fail
  refine calls_world (fun W0 hW0 => ?_)
  obtain ⟨hB0, hB1, hbw, hsz⟩ := new2 hW0
  clear hW0
  refine (CO.out _ ((HR.out.below hbw (Nat.le_refl _)).more (by omega)) ((HH.out.below hbw (Nat.le_refl _)).more (by omega))).mono ?_
  rintro e w1 ⟨rfl, hb1⟩
  have hoi : offI (some k) = (k : Int) := rfl
  rw [hoi]
  clear hoi
  go_wp2
  go_ret
  exact ⟨rfl, hbw.trans (hb1.mono (by omega))⟩

set_option maxHeartbeats 2000000 in
set_option maxRecDepth 100000 in
theorem printed_yes (m n : Nat) (at_ : Int) (c ch : Nat) (A AH : Option Addr) (D Dead : List Bool) (w : World) (hl : D.length ≤ 9223372036854775807)
    (hr : Rd Value.bool w w.heap.size A D) (hh : Rd Value.bool w w.heap.size AH Dead) (hk : pOk m n at_ D Dead = true) (s : ByteArray) (hs : txP m n (pD m n at_ D Dead) n = s) :
    Calls Try.prog 80 #[.agg #[.slice AH Dead.length ch], .agg #[.int .i64 m, .int .i64 n, .slice A D.length c], .int .i64 at_, .string s] w fun e w' => e = .returned (.bool true) ∧ Below w.heap.size w w' := by
  have CO := Lib.hid (fun w h1 h2 => head_Print_any m n at_ c ch A AH D Dead w hl h1 h2)
  have hb : bmCheck m n D.length = 0 := (of_decide_eq_true hk).1
  obtain ⟨m', n', e1, e2, hm, hn, hD⟩ := bmc_ok hb
  obtain rfl : m = m' := by omega
  obtain rfl : n = n' := by omega
  have hW : pW m n at_ D Dead = m := by simp [pW, hk]
  have hH : pH m n at_ D Dead = n := by simp [pH, hk]
  have hE : pE m n at_ D Dead = 0 := by simp [pE, hb, hk]
  have hPl : (pD m n at_ D Dead).length = m * n := by simp [pD, hk, printL, hD]
  unfold PrOut at CO
  rw [hW, hH, hE, hPl] at CO
  generalize pD m n at_ D Dead = E at *
  have CT := Lib.hid (fun A c w h => bitmap_Text m n A c E w hm hn hPl h)
  rw [hs] at CT
  have HR := Lib.hid hr
  have HH := Lib.hid hh
  clear hr hh hk hs hW hH hE hPl hb e1 e2 hD
  generalize D.length = l at *
  generalize Dead.length = lh at *
  have hmn : m * n ≤ 9216 := Nat.mul_le_mul hm hn
  generalize m * n = mn at *
  go_enter Try.func80, Try.ntmps80
  go_wp2_with fail
  refine calls_world (fun W0 hW0 => ?_)
  obtain ⟨hB0, hB1, hbw, hsz⟩ := new2 hW0
  clear hW0
  refine (CO.out _ ((HR.out.below hbw (Nat.le_refl _)).more (by omega)) ((HH.out.below hbw (Nat.le_refl _)).more (by omega))).mono ?_
  rintro e w1 ⟨A', c', rfl, hr1, hb1⟩
  go_wp2_with fail
  refine calls_world (fun W2 hW2 => ?_)
  obtain ⟨hB2, hb2, hs2⟩ := new1 hW2
  clear hW2
  refine (CT.out _ _ _ ((hr1.below hb2 (Nat.le_refl _)).more (by omega))).mono ?_
  rintro e w3 ⟨rfl, hb3⟩
  go_wp2
  go_ret
  exact ⟨rfl, (hbw.trans (hb1.mono (by omega))).trans ((hb2.trans (hb3.mono (by omega))).mono (by have := hb1.size; omega))⟩

set_option maxHeartbeats 2000000 in
set_option maxRecDepth 100000 in
theorem refused_yes (m n : Nat) (at_ : Int) (c ch : Nat) (A AH : Option Addr) (D Dead : List Bool) (w : World) (hl : D.length ≤ 9223372036854775807)
    (hr : Rd Value.bool w w.heap.size A D) (hh : Rd Value.bool w w.heap.size AH Dead) (hk : pOk m n at_ D Dead = false) (hE : pE m n at_ D Dead = 71) :
    Calls Try.prog 81 #[.agg #[.slice AH Dead.length ch], .agg #[.int .i64 m, .int .i64 n, .slice A D.length c], .int .i64 at_] w fun e w' => e = .returned (.bool true) ∧ Below w.heap.size w w' := by
  have CO := Lib.hid (fun w h1 h2 => head_Print_any m n at_ c ch A AH D Dead w hl h1 h2)
  have hW : pW m n at_ D Dead = 0 := by simp [pW, hk]
  have hH : pH m n at_ D Dead = 0 := by simp [pH, hk]
  have hPl : pD m n at_ D Dead = [] := by simp [pD, hk]
  unfold PrOut at CO
  rw [hW, hH, hE, hPl] at CO
  have CS := Lib.hid (fun A c A' c' w => ref04_Same 0 0 A c [] 0 0 A' c' [] w (by simp) (by simp) (fun h => absurd h (by simp)) (fun h => absurd h (by simp)))
  rw [show sameB 0 0 [] 0 0 [] = true from by simp [sameB]] at CS
  have HR := Lib.hid hr
  have HH := Lib.hid hh
  clear hr hh hk hW hH hE hPl
  simp only [List.length_nil] at CO CS
  generalize D.length = l at *
  generalize Dead.length = lh at *
  go_enter Try.func81, Try.ntmps81
  go_wp2_with fail
  refine calls_world (fun W0 hW0 => ?_)
  obtain ⟨hB0, hB1, hbw, hsz⟩ := new2 hW0
  clear hW0
  refine (CO.out _ ((HR.out.below hbw (Nat.le_refl _)).more (by omega)) ((HH.out.below hbw (Nat.le_refl _)).more (by omega))).mono ?_
  rintro e w1 ⟨A', c', rfl, hr1, hb1⟩
  go_wp2_with fail
  refine calls_world (fun W2 hW2 => ?_)
  obtain ⟨hB2, hb2, hs2⟩ := new1 hW2
  clear hW2
  refine (CS.out _ _ _ _ _).mono ?_
  rintro e w3 ⟨rfl, hb3⟩
  go_wp2
  go_ret
  exact ⟨rfl, (hbw.trans (hb1.mono (by omega))).trans ((hb2.trans (hb3.mono (by omega))).mono (by have := hb1.size; omega))⟩
end Go.Proofs.Ytlanefdeeanpnaa
