/-
  The law RasterSums: for every argument the call returns true. Conditions: what the row's opening gives.
-/
import Derived.Test.YtlanefdeeanpnaaTurned
import Derived.Test.YtlanefdeeanpnaaShift7
import Derived.Test.YtlanefdeeanpnaaSane7
import Derived.Deep.DrawnRows
import Derived.Deep.DeepMust
namespace Go.Proofs.Ytlanefdeeanpnaa
set_option linter.unusedVariables false
set_option linter.unusedSimpArgs false
open Go.RowKit
attribute [local go_sem ↓] Go.wp_at_zero Go.wp_at_succ

theorem w64_nat {k : Nat} (h : k ≤ 1000000) : wrap64 ((k : Int) + 1) = (k : Int) + 1 := w64 (by omega) (by omega)
theorem c_lt {j c : Nat} (h : j < c) : (j : Int) + 1 ≤ (c : Int) := by omega
theorem c_le {i j : Nat} (h : i ≤ j) : (i : Int) ≤ (j : Int) + 1 := by omega
theorem len_mid {L : List Pt} {i j : Nat} (hij : i ≤ j) (hj : j < L.length) : ((L.drop i).take (j + 1 - i)).length = j + 1 - i := by rw [List.length_take, List.length_drop]; omega
theorem len_take1 {L : List Pt} {i : Nat} (hi : i < L.length) : (L.take (i + 1)).length = i + 1 := by rw [List.length_take]; omega
theorem mid_small {L : List Pt} {i j : Nat} (hj : j < L.length) (h : L.length ≤ 8) : ([] : List Pt).length + (j + 1 - i) ≤ 1000000 := by simp; omega
theorem n2_small {L : List Pt} {i : Nat} (hj : i < L.length) (h : L.length ≤ 8) : ([] : List Pt).length + (i + 1) ≤ 1000000 := by simp; omega
theorem n3_small {L : List Pt} {i j : Nat} (hj : i < L.length) (h : L.length ≤ 8) : (i + 1) + (L.length - j) ≤ 1000000 := by omega
theorem i64_lo (i : Nat) : -9223372036854775808 ≤ (i : Int) + 1 := by omega
theorem i64_hi {i : Nat} (h : i < 8) : (i : Int) + 1 ≤ 9223372036854775807 := by omega
theorem nn_one (i : Nat) : (0 : Int) ≤ (i : Int) + 1 := by omega
theorem near_parts (L : List Pt) (i j : Nat) : ∀ p ∈ [(L.drop i).take (j + 1 - i), L.take (i + 1) ++ L.drop j], ∀ q ∈ p, ∃ p0 ∈ [L], q ∈ p0 := by
  intro p hp q hq
  refine ⟨L, List.mem_singleton.2 rfl, ?_⟩
  rcases List.mem_cons.1 hp with rfl | hp
  · exact List.mem_of_mem_drop (List.mem_of_mem_take hq)
  · rw [List.mem_singleton.1 hp] at hq
    rcases List.mem_append.1 hq with hq | hq
    · exact List.mem_of_mem_take hq
    · exact List.mem_of_mem_drop hq
theorem add_zero_r (a b : Int) : a + (b + 0) = a + b := by omega
theorem two_len (p q : List Pt) : [p, q].length ≤ 1000 := by simp
theorem one_len (p : List Pt) : [p].length ≤ 1000 := by simp
theorem two_small {p q : List Pt} (h1 : p.length ≤ 1000) (h2 : q.length ≤ 1000) : ∀ r ∈ [p, q], r.length ≤ 1000 := by
  intro r hr
  rcases List.mem_cons.1 hr with rfl | hr
  · exact h1
  · rw [List.mem_singleton.1 hr]; exact h2
theorem one_small {p : List Pt} (h1 : p.length ≤ 1000) : ∀ r ∈ [p], r.length ≤ 1000 := by
  intro r hr
  rw [List.mem_singleton.1 hr]; exact h1
theorem l12_small {P1 P2 P3 L : List Pt} {i j : Nat} (h1 : P1.length = j + 1 - i) (h2 : P2.length = i + 1) (h3 : P3.length = L.length - j) (hj : j < L.length) (hi : i < L.length) (h : L.length ≤ 8) : P1.length ≤ 1000 ∧ (P2 ++ P3).length ≤ 1000 ∧ L.length ≤ 1000 := by
  rw [List.length_append]
  omega
theorem near_rev {ls : List (List Pt)} : ∀ p ∈ ls.map List.reverse, ∀ q ∈ p, ∃ p0 ∈ ls, q ∈ p0 := by
  intro p hp q hq
  obtain ⟨p0, h0, rfl⟩ := List.mem_map.1 hp
  exact ⟨p0, h0, List.mem_reverse.1 hq⟩
theorem near_rot (z : Int) {ls : List (List Pt)} : ∀ p ∈ ls.map (rotB z), ∀ q ∈ p, ∃ p0 ∈ ls, q ∈ p0 := by
  intro p hp q hq
  obtain ⟨p0, h0, rfl⟩ := List.mem_map.1 hp
  refine ⟨p0, h0, ?_⟩
  unfold rotB rot at hq
  rcases List.mem_append.1 hq with hq | hq
  · exact List.mem_of_mem_drop hq
  · exact List.mem_of_mem_take hq
theorem near_sub {R : Int} {ls ls' : List (List Pt)} (h : Near R ls) (hs : ∀ p ∈ ls', ∀ q ∈ p, ∃ p0 ∈ ls, q ∈ p0) : Near R ls' := fun p hp q hq => by
  obtain ⟨p0, h0, h1⟩ := hs p hp q hq
  exact h p0 h0 q h1
theorem windV_near {R x y : Int} {ls : List (List Pt)} (h : Near R ls) (hR : R ≤ 1073741824) (hx : -1073741824 ≤ x ∧ x ≤ 1073741824) (hy : -1073741824 ≤ y ∧ y ≤ 1073741824) : windV ls x y = rings x y ls := by
  rw [windV_yes ⟨near_in h hR, in_mk hx, in_mk hy⟩, windN_rings]
theorem near_m7s (ls : List (List Int)) : Near 100 (m7s ls) := fun p hp q hq => by
  have := (m7s_small ls p hp).2 q hq
  unfold smallP at this
  omega
theorem RdPs.one {w : World} {B b o k c : Nat} {ls : List (List Pt)} {Ak : Option Addr} (hb : b < B) {p : List Pt} (h1 : w.cell? ⟨b, o + k, none⟩ = some (.slice Ak p.length c)) (h2 : RdPt w B Ak p) : RdPs w B (some ⟨b, o + k, none⟩) [p] := fun _ =>
  ⟨b, o + k, rfl, hb, fun j hj => by
    obtain rfl : j = 0 := by simpa using hj
    exact ⟨Ak, c, h1, h2⟩⟩
theorem RdPt.drop {w : World} {B b o : Nat} {xs : List Pt} (h : RdPt w B (some ⟨b, o, none⟩) xs) (n : Nat) : RdPt w B (some ⟨b, o + n * 3, none⟩) (xs.drop n) := fun h0 => by
  rw [List.length_drop] at h0
  obtain ⟨b', o', e, hlt, hc⟩ := h (by omega)
  injection e with e
  injection e with e1 e2 _
  subst e1 e2
  refine ⟨b, o + n * 3, rfl, hlt, fun k hk => ?_⟩
  rw [List.length_drop] at hk
  rw [List.getElem_drop]
  have := hc (n + k) (by omega)
  rw [show o + n * 3 + k * 3 = o + (n + k) * 3 by omega]
  exact this
theorem rdps_two {w : World} {q c1 c2 : Nat} {A1 A2 : Option Addr} {xs ys : List Pt} (hQ : Blk w q 96 #[.slice A1 xs.length c1, .slice A2 ys.length c2]) (h1 : RdPt w w.heap.size A1 xs) (h2 : RdPt w w.heap.size A2 ys) : RdPs w w.heap.size (some ⟨q, 0, none⟩) [xs, ys] := fun _ =>
  ⟨q, 0, rfl, hQ.lt, fun k hk => by
    match k, hk with
    | 0, _ => exact ⟨A1, c1, hQ.cell 0, h1⟩
    | 1, _ => exact ⟨A2, c2, hQ.cell 1, h2⟩⟩

set_option maxHeartbeats 1000000 in
set_option maxRecDepth 100000 in
theorem sums_law (ls : List (List Int)) (A : Option Addr) (c : Nat) (a0 a1 z0 z1 : Int) (w : World) (hn : ∀ l ∈ ls, l.length ≤ 9223372036854775807) (hls : ls.length ≤ 9223372036854775807)
    (hr : RdIs w w.heap.size A ls) :
    Calls Try.prog 16 #[.slice A ls.length c, .agg #[.int .i64 a0, .int .i64 a1], .agg #[.int .i64 z0, .int .i64 z1]] w fun e w' => e = .returned (.bool true) ∧ Below w.heap.size w w' := by
  have HR := Lib.hid hr
  have CMD := Lib.hid (fun w h => Made7_more ls A c w hn hls h)
  have HL4 := Lib.hid (m7s_len ls)
  have HL8 := Lib.hid (m7s_small ls)
  have HNR := Lib.hid (near_m7s ls)
  generalize m7s ls = l7 at *
  have CMX := Lib.hid (fun w => Mod_any a0 100 w (by omega) (by omega))
  have CMY := Lib.hid (fun w => Mod_any a1 100 w (by omega) (by omega))
  have hx1 := Int.emod_nonneg a0 (show (100 : Int) ≠ 0 by omega)
  have hx2 := Int.emod_lt_of_pos a0 (show (0 : Int) < 100 by omega)
  have hy1 := Int.emod_nonneg a1 (show (100 : Int) ≠ 0 by omega)
  have hy2 := Int.emod_lt_of_pos a1 (show (0 : Int) < 100 by omega)
  generalize a0 % 100 = x0 at *
  generalize a1 % 100 = y0 at *
  have wx : IntKind.i64.wrap (x0 - 34) = x0 - 34 := IntWalk.i64_in _ (by omega)
  have wy : IntKind.i64.wrap (y0 - 34) = y0 - 34 := IntWalk.i64_in _ (by omega)
  have CW := Lib.hid (fun (li : List (List Pt)) Ai ci w (hli : li.length ≤ 1000) (hlp : ∀ p ∈ li, p.length ≤ 1000) h => raster_Winding li Ai ci (x0 - 34) (y0 - 34) w hli hlp h)
  have HWN := Lib.hid (fun (li : List (List Pt)) (h : Near 100 li) => windV_near (x := x0 - 34) (y := y0 - 34) h (by omega) (by omega) (by omega))
  have HLS := Lib.hid (fun s => windL_small (ls := l7) (fun p hp => by have := (HL8.out p hp).1; omega) (x0 - 34) (y0 - 34) s)
  have HLR := Lib.hid (fun s (h : s ≤ l7.length) => windL_rings (x0 - 34) (y0 - 34) l7 s h)
  generalize hxg : x0 - 34 = x at *
  generalize hyg : y0 - 34 = y at *
  have hxb : -34 ≤ x ∧ x ≤ 65 := by omega
  have hyb : -34 ≤ y ∧ y ≤ 65 := by omega
  obtain ⟨hxb1, hxb2⟩ := hxb
  obtain ⟨hyb1, hyb2⟩ := hyb
  have HU := Lib.hid (Try.underlying96)
  clear hr hn hx1 hx2 hy1 hy2
  go_enter Try.func16, Try.ntmps16
  go_wp2_with fail
  refine calls_world (fun W0 hW0 => ?_)
  obtain ⟨hQ4, hQ5, hb0, hs0⟩ := new2 hW0
  clear hW0
  generalize hp : w.heap.size = p at *
  have HP := Lib.hid hp
  clear hp
  refine (sanity07 _).mono ?_
  rintro e w1 ⟨rfl, hba⟩
  replace hQ4 := hQ4.below hba hQ4.lt
  replace hQ5 := hQ5.below hba hQ5.lt
  have hb1 := hb0.trans (hba.mono (by omega))
  have hz : p ≤ w1.heap.size := by have := hQ4.lt; omega
  clear hs0 hba hb0
  go_wp2_with fail
  refine (CMD.out _ (((HR.out.below hb1 (Nat.le_refl _)).more hz))).mono ?_
  rintro e w3 ⟨AM, cM, rfl, hrM, ⟨hcM, hcM2⟩, hba⟩
  replace hQ4 := hQ4.below hba hQ4.lt
  replace hQ5 := hQ5.below hba hQ5.lt
  have hb3 := hb1.trans (hba.mono hz)
  replace hz : p ≤ w3.heap.size := by have := hba.size; omega
  clear hba hb1 HR CMD
  obtain ⟨⟨k0, k1⟩, _⟩ := hQ4.two
  have HRM := Lib.hid hrM
  clear hrM
  go_wp2_with fail
  refine (CMX.out _).mono ?_
  rintro e wa ⟨rfl, rfl⟩
  go_wp2_with fail
  refine (CMY.out _).mono ?_
  rintro e wa ⟨rfl, rfl⟩
  go_wp2_with fail
  refine (CW.out l7 _ _ _ (by have := HL4.out; omega) (fun p hp => by have := (HL8.out p hp).1; omega) HRM.out.rd).mono ?_
  rintro e w4 ⟨rfl, hba⟩
  rw [HWN.out l7 HNR.out]
  replace hQ5 := hQ5.below hba hQ5.lt
  have HRM4 := Lib.hid ((HRM.out.below hba (Nat.le_refl _)).more hba.size)
  have hb4 := hb3.trans (hba.mono hz)
  replace hz : p ≤ w4.heap.size := by have := hba.size; omega
  clear hba hb3 HRM k0 k1 hQ4 CMX CMY hxg hyg wx wy
  obtain ⟨⟨k0, k1⟩, _⟩ := hQ5.two
  go_wp2_with fail
  refine (turned_any l7 _ _ z0 _ (by have := HL4.out; omega) (fun p hp => by have := (HL8.out p hp).1; omega) HRM4.out.rd).mono ?_
  rintro e w5 ⟨A1, A2, c1, c2, rfl, hr1, hr2, hba⟩
  replace hQ5 := hQ5.below hba hQ5.lt
  have HRM5 := Lib.hid ((HRM4.out.below hba (Nat.le_refl _)).more hba.size)
  have hb5 := hb4.trans (hba.mono hz)
  replace hz : p ≤ w5.heap.size := by have := hba.size; omega
  have HT1 := Lib.hid hr1
  have HT2 := Lib.hid hr2
  clear hba hb4 HRM4 k0 k1 hr1 hr2
  obtain ⟨⟨k0, k1⟩, _⟩ := hQ5.two
  have zq5 := hQ5.lt
  have HRA : Hid (rings x y l7 = windL l7 x y l7.length) := Lib.hid (by rw [HLR.out _ (Nat.le_refl _), List.take_length])
  rw [HRA.out]
  have hcM' : (l7.length : Int) ≤ (cM : Int) := by omega
  go_wp2_with fail
  go_loopw [14, 44] (fun s14 s44 wr => ∃ i : Nat, i ≤ l7.length ∧ s44 = .int .i64 i ∧ s14 = .int .i64 (windL l7 x y i) ∧ Below w5.heap.size w5 wr) (fun _ s44 _ => l7.length - (intOf s44).toNat)
  case atStart => exact ⟨0, by omega, rfl, rfl, Below.refl _ _⟩
  case round =>
    obtain ⟨i, hi, rfl, rfl, hbr⟩ := hrel
    have hcr := (sb_of hbr).1
    have hzr := hbr.size
    have hsi := HLS.out i
    have hi4 := HL4.out
    by_cases hlt : i < l7.length
    · have hlt' : (i : Int) < (l7.length : Int) := by omega
      have hsi1 := HLS.out (i + 1)
      have HE : Hid (windL l7 x y (i + 1) = windL l7 x y i + ring x y l7[i]) := Lib.hid (by rw [HLR.out _ hlt, HLR.out _ (by omega), List.take_succ_eq_append_getElem hlt, rings_snoc])
      obtain ⟨b, o, rfl, hb, Ak, ck, hck, hrk, hlc, hcm, hnl⟩ := HRM5.out.at_ hlt
      clear hnl
      have h8 := (HL8.out l7[i] (List.getElem_mem hlt)).1
      have HN1 : Hid (Near 100 [l7[i]]) := Lib.hid (near_sub HNR.out (fun p hp q hq => ⟨l7[i], List.getElem_mem hlt, by rw [List.mem_singleton.1 hp] at hq; exact hq⟩))
      generalize l7[i] = L at *
      generalize windL l7 x y i = n0 at *
      have HONE := Lib.hid (RdPs.one (ls := []) (p := L) hb hck hrk)
      have HRK := Lib.hid hrk
      clear hrk
      have hckr := (hbr.cell (p := ⟨b, o + i, none⟩) hb).trans hck
      have hwi : IntKind.i64.wrap ((i : Int) + 1) = (i : Int) + 1 := IntWalk.i64_in _ (by omega)
      have hci : (i : Int) + 1 ≤ (cM : Int) := by omega
      have hring : windV [L] x y = ring x y L := by rw [HWN.out _ HN1.out, rings_cons, rings_nil]; omega
      have HRI := Lib.hid hring
      clear hring
      have hs0 : wrap64 (n0 + ring x y L) = n0 + ring x y L := w64 (by have := HE.out; omega) (by have := HE.out; omega)
      go_wp2_with fail
      refine (CW.out [L] _ _ _ (by simp) (fun p hp => by rw [List.mem_singleton.1 hp]; omega) ((HONE.out.below hbr (Nat.le_refl _)).more hzr)).mono ?_
      rintro e wA ⟨rfl, hbA⟩
      rw [HRI.out]
      have hb6 := hbr.trans (hbA.mono hzr)
      have hckA := (hb6.cell (p := ⟨b, o + i, none⟩) hb).trans hck
      have k0A := (hb6.cell (p := ⟨p + 1, 0, none⟩) zq5).trans k0
      have k1A := (hb6.cell (p := ⟨p + 1, 1, none⟩) zq5).trans k1
      have hzA := hb6.size
      clear hcr hckr hbr hbA hzr
      by_cases hL0 : L.length = 0
      · have hLe : L = [] := List.eq_nil_of_length_eq_zero hL0
        have HS0 := Lib.hid hs0
        subst hLe
        go_wp2_with fail
        go_roundw
        case rel => exact ⟨i + 1, by omega, by go_num, by rw [HE.out]; first | rfl | rw [HS0.out], hb6⟩
        case measure => simp [intOf]; omega
      · have hL1 : 0 < L.length := by omega
        have hL2 : ¬ (L.length : Int) = 0 := by omega
        have hL3 : ¬ L = [] := fun h => by rw [h] at hL1; simp at hL1
        obtain ⟨ii, hii, hiil⟩ := mod_nat (z := z0) (n := L.length) hL1
        obtain ⟨jj, hjj, hjjl⟩ := mod_nat (z := z1) (n := L.length - ii) (by omega)
        have CI := Lib.hid (fun w => Mod_any z0 (L.length : Int) w (by omega) (by omega))
        have CJ := Lib.hid (fun w => Mod_any z1 ((L.length - ii : Nat) : Int) w (by omega) (by omega))
        rw [hii] at CI
        rw [hjj] at CJ
        have hd : (L.length : Int) - (ii : Int) = ((L.length - ii : Nat) : Int) := by omega
        have wd1 : IntKind.i64.wrap ((L.length : Int) - (ii : Int)) = ((L.length - ii : Nat) : Int) := by rw [hd]; exact IntWalk.i64_in _ (by omega)
        have wd2 : IntKind.i64.wrap ((ii : Int) + (jj : Int)) = (ii : Int) + (jj : Int) := IntWalk.i64_in _ (by omega)
        clear hii hjj hd
        have zA5 : p + 1 < wA.heap.size := by omega
        have zAb : b < wA.heap.size := by omega
        go_upto_region 13 with fail
        have HS0 := Lib.hid hs0
        clear hs0
        refine wp_region_L 8 (fun w' => (∀ b o, b < wA.heap.size → w'.cell? ⟨b, o, none⟩ = wA.cell? ⟨b, o, none⟩) ∧ Below wA.heap.size wA w') (by kernel_rfl) ?_ (fun Wd hWd hS => ?_)
        · (try dsimp only)
          exact sb_of (Below.refl _ _).drew
        (try dsimp only at hS)
        refine wpT_take 0 (v := ?_) rfl (by kernel_rfl) (by kernel_rfl) (fun _ _ _ h => h) hS (Or.inl ⟨rfl, ?_⟩) ?_
        rotate_left
        · (intro w' hSw; (try dsimp only at hSw); go_simp; first | done | with_reducible rfl)
        (try simp only [Act.put, List.setIfInBounds_toArray, List.set_cons_zero, List.set_cons_succ])
        refine wpT_take 1 (v := ?_) rfl (by kernel_rfl) (by kernel_rfl) (fun _ _ _ h => h) hS (Or.inl ⟨rfl, ?_⟩) ?_
        rotate_left
        · (intro w' hSw; (try dsimp only at hSw); go_simp; first | done | with_reducible rfl)
        (try simp only [Act.put, List.setIfInBounds_toArray, List.set_cons_zero, List.set_cons_succ])
        refine wpT_take 2 (v := ?_) rfl (by kernel_rfl) (by kernel_rfl) (fun _ _ _ h => h) hS (Or.inl ⟨rfl, ?_⟩) ?_
        rotate_left
        · (intro w' hSw; (try dsimp only at hSw); go_simp; first | done | with_reducible rfl)
        (try simp only [Act.put, List.setIfInBounds_toArray, List.set_cons_zero, List.set_cons_succ])
        refine wpT_take 3 (v := ?_) rfl (by kernel_rfl) (by kernel_rfl) (fun _ _ _ h => h) hS (Or.inl ⟨rfl, ?_⟩) ?_
        rotate_left
        · (intro w' hSw; (try dsimp only at hSw); go_simp; first | done | with_reducible rfl)
        (try simp only [Act.put, List.setIfInBounds_toArray, List.set_cons_zero, List.set_cons_succ])
        refine wpT_take 4 (v := ?_) rfl (by kernel_rfl) (by kernel_rfl) (fun _ _ _ h => h) hS (Or.inl ⟨rfl, ?_⟩) ?_
        rotate_left
        · (intro w' hSw; (try dsimp only at hSw); go_simp; first | done | with_reducible rfl)
        (try simp only [Act.put, List.setIfInBounds_toArray, List.set_cons_zero, List.set_cons_succ])
        refine wpT_take 5 (v := ?_) rfl (by kernel_rfl) (by kernel_rfl) (fun _ _ _ h => h) hS (Or.inl ⟨rfl, ?_⟩) ?_
        rotate_left
        · (intro w' hSw; (try dsimp only at hSw); go_simp; first | done | with_reducible rfl)
        (try simp only [Act.put, List.setIfInBounds_toArray, List.set_cons_zero, List.set_cons_succ])
        refine wpT_take 6 (v := ?_) rfl (by kernel_rfl) (by kernel_rfl) (fun _ _ _ h => h) hS (Or.inl ⟨rfl, ?_⟩) ?_
        rotate_left
        · (intro w' hSw; (try dsimp only at hSw); go_simp; first | done | with_reducible rfl)
        (try simp only [Act.put, List.setIfInBounds_toArray, List.set_cons_zero, List.set_cons_succ])
        refine wpT_one 7 rfl (by kernel_rfl) (fun K hK => ?_)
        go_simp
        go_at_call 44
        refine (CI.out _).mono ?_
        rintro e wo ⟨rfl, rfl⟩
        have hbS := hS.2
        refine hK.out _ _ ?_ (fun hS => ?_)
        · (try dsimp only)
          exact sb_of hbS
        clear hK K
        (try simp only [Act.put, List.setIfInBounds_toArray, List.set_cons_zero, List.set_cons_succ])
        (try dsimp only at hS)
        refine wpT_tail (by rfl) (by kernel_rfl) ?_
        (try simp only [List.drop_succ_cons, List.drop_zero])
        have hbB := hS.2
        have hckB := (hbB.cell (p := ⟨b, o + i, none⟩) zAb).trans hckA
        have k1B := (hbB.cell (p := ⟨p + 1, 1, none⟩) zA5).trans k1A
        have zB5 : p + 1 < Wd.heap.size := by have := hbB.size; omega
        have zBb : b < Wd.heap.size := by have := hbB.size; omega
        have hb7 := hb6.trans (hbB.mono hzA)
        clear hS hWd hckA k0A k1A zA5 zAb hbB hb6 hzA
        have hzB := hb7.size
        generalize Wd = WB at *
        go_upto_region 14 with fail
        refine wp_region_L 12 (fun w' => (∀ b o, b < WB.heap.size → w'.cell? ⟨b, o, none⟩ = WB.cell? ⟨b, o, none⟩) ∧ Below WB.heap.size WB w') (by kernel_rfl) ?_ (fun Wd hWd hS => ?_)
        · (try dsimp only)
          exact sb_of (Below.refl _ _).drew
        (try dsimp only at hS)
        refine wpT_take 0 (v := ?_) rfl (by kernel_rfl) (by kernel_rfl) (fun _ _ _ h => h) hS (Or.inl ⟨rfl, ?_⟩) ?_
        rotate_left
        · (intro w' hSw; (try dsimp only at hSw); go_simp; first | done | with_reducible rfl)
        (try simp only [Act.put, List.setIfInBounds_toArray, List.set_cons_zero, List.set_cons_succ])
        refine wpT_take 1 (v := ?_) rfl (by kernel_rfl) (by kernel_rfl) (fun _ _ _ h => h) hS (Or.inl ⟨rfl, ?_⟩) ?_
        rotate_left
        · (intro w' hSw; (try dsimp only at hSw); go_simp; first | done | with_reducible rfl)
        (try simp only [Act.put, List.setIfInBounds_toArray, List.set_cons_zero, List.set_cons_succ])
        refine wpT_take 2 (v := ?_) rfl (by kernel_rfl) (by kernel_rfl) (fun _ _ _ h => h) hS (Or.inl ⟨rfl, ?_⟩) ?_
        rotate_left
        · (intro w' hSw; (try dsimp only at hSw); go_simp; first | done | with_reducible rfl)
        (try simp only [Act.put, List.setIfInBounds_toArray, List.set_cons_zero, List.set_cons_succ])
        refine wpT_take 3 (v := ?_) rfl (by kernel_rfl) (by kernel_rfl) (fun _ _ _ h => h) hS (Or.inl ⟨rfl, ?_⟩) ?_
        rotate_left
        · (intro w' hSw; (try dsimp only at hSw); go_simp; first | done | with_reducible rfl)
        (try simp only [Act.put, List.setIfInBounds_toArray, List.set_cons_zero, List.set_cons_succ])
        refine wpT_take 4 (v := ?_) rfl (by kernel_rfl) (by kernel_rfl) (fun _ _ _ h => h) hS (Or.inl ⟨rfl, ?_⟩) ?_
        rotate_left
        · (intro w' hSw; (try dsimp only at hSw); go_simp; first | done | with_reducible rfl)
        (try simp only [Act.put, List.setIfInBounds_toArray, List.set_cons_zero, List.set_cons_succ])
        refine wpT_take 5 (v := ?_) rfl (by kernel_rfl) (by kernel_rfl) (fun _ _ _ h => h) hS (Or.inl ⟨rfl, ?_⟩) ?_
        rotate_left
        · (intro w' hSw; (try dsimp only at hSw); go_simp; first | done | with_reducible rfl)
        (try simp only [Act.put, List.setIfInBounds_toArray, List.set_cons_zero, List.set_cons_succ])
        refine wpT_take 6 (v := ?_) rfl (by kernel_rfl) (by kernel_rfl) (fun _ _ _ h => h) hS (Or.inl ⟨rfl, ?_⟩) ?_
        rotate_left
        · (intro w' hSw; (try dsimp only at hSw); go_simp; first | done | with_reducible rfl)
        (try simp only [Act.put, List.setIfInBounds_toArray, List.set_cons_zero, List.set_cons_succ])
        refine wpT_take 7 (v := ?_) rfl (by kernel_rfl) (by kernel_rfl) (fun _ _ _ h => h) hS (Or.inl ⟨rfl, ?_⟩) ?_
        rotate_left
        · (intro w' hSw; (try dsimp only at hSw); go_simp; first | done | with_reducible rfl)
        (try simp only [Act.put, List.setIfInBounds_toArray, List.set_cons_zero, List.set_cons_succ])
        refine wpT_take 8 (v := ?_) rfl (by kernel_rfl) (by kernel_rfl) (fun _ _ _ h => h) hS (Or.inl ⟨rfl, ?_⟩) ?_
        rotate_left
        · (intro w' hSw; (try dsimp only at hSw); go_simp; first | done | with_reducible rfl)
        (try simp only [Act.put, List.setIfInBounds_toArray, List.set_cons_zero, List.set_cons_succ])
        refine wpT_take 9 (v := ?_) rfl (by kernel_rfl) (by kernel_rfl) (fun _ _ _ h => h) hS (Or.inl ⟨rfl, ?_⟩) ?_
        rotate_left
        · (intro w' hSw; (try dsimp only at hSw); go_simp; first | done | with_reducible rfl)
        (try simp only [Act.put, List.setIfInBounds_toArray, List.set_cons_zero, List.set_cons_succ])
        refine wpT_one 10 rfl (by kernel_rfl) (fun K hK => ?_)
        go_simp
        go_at_call 44
        refine (CJ.out _).mono ?_
        rintro e wo ⟨rfl, rfl⟩
        have hbS := hS.2
        refine hK.out _ _ ?_ (fun hS => ?_)
        · (try dsimp only)
          exact sb_of hbS
        clear hK K
        (try simp only [Act.put, List.setIfInBounds_toArray, List.set_cons_zero, List.set_cons_succ])
        (try dsimp only at hS)
        refine wpT_take 11 (v := ?_) rfl (by kernel_rfl) (by kernel_rfl) (fun _ _ _ h => h) hS (Or.inl ⟨rfl, ?_⟩) ?_
        rotate_left
        · (intro w' hSw; (try dsimp only at hSw); go_simp; first | done | with_reducible rfl)
        (try simp only [Act.put, List.setIfInBounds_toArray, List.set_cons_zero, List.set_cons_succ])
        refine wpT_tail (by rfl) (by kernel_rfl) ?_
        (try simp only [List.drop_succ_cons, List.drop_zero])
        have hbB := hS.2
        have hckC := (hbB.cell (p := ⟨b, o + i, none⟩) zBb).trans hckB
        have zCb : b < Wd.heap.size := by have := hbB.size; omega
        have hb8 := hb7.trans (hbB.mono hzB)
        clear hS hWd hckB k1B zB5 zBb hbB hb7 hzB CI CJ wd1 wd2
        have hzC := hb8.size
        generalize Wd = WC at *
        obtain ⟨j, hjg⟩ : ∃ j : Nat, (ii : Int) + (jj : Int) = (j : Int) := ⟨ii + jj, by omega⟩
        rw [hjg]
        have hij : ii ≤ j := by omega
        have hjl : j < L.length := by omega
        have HPT := Lib.hid (ring_parts x y hij hjl)
        clear hjg hjjl
        have hrLC := (HRK.out.below hb8 (Nat.le_refl _)).more hzC
        have HRC := Lib.hid hrLC
        clear hrLC
        obtain ⟨bL, oL, rfl, hbL, hrest⟩ := HRC.out hL1
        clear hrest hS hbS
        have hj8 : (j : Int) + 1 ≤ 8 := c_lt (Nat.lt_of_lt_of_le hjl h8)
        have hi8 : (ii : Int) + 1 ≤ 8 := c_lt (Nat.lt_of_lt_of_le hiil h8)
        have hjc := c_lt (Nat.lt_of_lt_of_le hjl hlc)
        have hic := c_lt (Nat.lt_of_lt_of_le hiil hlc)
        have hijc := c_le hij
        have HD1 : Hid (((L.drop ii).take (j + 1 - ii)).length = j + 1 - ii) := Lib.hid (len_mid hij hjl)
        have HD2 : Hid ((L.take (ii + 1)).length = ii + 1) := Lib.hid (len_take1 hiil)
        have HD3 : Hid ((L.drop j).length = L.length - j) := Lib.hid List.length_drop
        have H8L := Lib.hid h8
        have HR1 := Lib.hid ((HRC.out.drop ii).take (j + 1 - ii))
        have HR2 := Lib.hid (fun w' (hb' : Below WC.heap.size WC w') => (HRC.out.below hb' (Nat.le_refl _)).take (ii + 1))
        have HR3 := Lib.hid (fun w' (hb' : Below WC.heap.size WC w') => (HRC.out.below hb' (Nat.le_refl _)).drop j)
        have HNP : Hid (Near 100 [(L.drop ii).take (j + 1 - ii), L.take (ii + 1) ++ L.drop j]) := Lib.hid (near_sub HN1.out (near_parts L ii j))
        generalize (L.drop ii).take (j + 1 - ii) = P1 at *
        generalize L.take (ii + 1) = P2 at *
        generalize L.drop j = P3 at *
        have HW2 : Hid (windV [P1, P2 ++ P3] x y = ring x y L) := Lib.hid (by rw [HWN.out _ HNP.out, rings_cons, rings_cons, rings_nil, ← HPT.out]; exact add_zero_r _ _)
        have HN2 : Hid (([] : List Pt).length + (ii + 1) ≤ 1000000) := Lib.hid (n2_small hiil h8)
        have HN3 : Hid ((ii + 1) + (L.length - j) ≤ 1000000) := Lib.hid (n3_small hiil h8)
        have HALC := Lib.hid ((Below.refl WC.heap.size WC).alloc (Nat.le_refl _) (.cells #[] 134))
        have HZC := Lib.hid hzC
        go_wp2_with (at_builtin; go_must (refine wpList_append_pts _ rfl _ _ _ rfl WC.heap.size HU.out _ [] rfl (own_empty3 (Blk.new _ _ _) (Nat.le_refl _)) (some ⟨bL, oL + ii * 3, none⟩) (ck - ii) WC.heap.size P1 (by rw [HD1.out] <;> rfl) (HR1.out.below HALC.out (Nat.le_refl _)) (by rw [HD1.out]; exact mid_small hjl H8L.out) HALC.out.size ?_))
        intro A18 c18 w18 hown18 hgrow
        have hb18 : Below WC.heap.size WC w18 := below_grown HALC.out hgrow HALC.out.size (fun g hg => by simp [Value.ownBlock] at hg; omega)
        (try simp only [List.length_nil, Nat.zero_add, List.nil_append] at hown18)
        (try simp only [List.length_nil, Nat.zero_add, List.nil_append])
        have hb9 := hb8.trans (hb18.mono hzC)
        have hckD := (hb18.cell (p := ⟨b, o + i, none⟩) zCb).trans hckC
        have zDb : b < w18.heap.size := Nat.lt_of_lt_of_le zCb hb18.size
        have hzD := hb9.size
        have HR2D := Lib.hid ((HR2.out _ hb18).more hb18.size)
        have HR3D := Lib.hid ((HR3.out _ hb18).more hb18.size)
        clear hgrow hb18 hckC zCb hb8 hzC HALC HR1 HRC HR2 HR3
        have hii0 : (0 : Int) ≤ (ii : Int) + 1 := nn_one ii
        have hckj : ¬ ck = j := Nat.ne_of_gt (Nat.lt_of_lt_of_le hjl hlc)
        have hjle : j ≤ L.length := Nat.le_of_lt hjl
        have wii : IntKind.i64.wrap ((ii : Int) + 1) = (ii : Int) + 1 := IntWalk.i64_in _ ⟨i64_lo ii, i64_hi (Nat.lt_of_lt_of_le hiil H8L.out)⟩
        go_upto_region 16 with fail
        refine wp_region_L 16 (fun w' => (∀ b o, b < w18.heap.size → w'.cell? ⟨b, o, none⟩ = w18.cell? ⟨b, o, none⟩) ∧ Below w18.heap.size w18 w') (by kernel_rfl) ?_ (fun Wd hWd hS => ?_)
        · (try dsimp only)
          exact sb_of (Below.refl _ _).drew
        (try dsimp only at hS)
        refine wpT_take 1 (v := ?_) rfl (by kernel_rfl) (by kernel_rfl) (fun _ _ _ h => h) hS (Or.inl ⟨rfl, ?_⟩) ?_
        rotate_left
        · (intro w' hSw; (try dsimp only at hSw); go_simp; first | done | with_reducible rfl)
        (try simp only [Act.put, List.setIfInBounds_toArray, List.set_cons_zero, List.set_cons_succ])
        refine wpT_take 2 (v := ?_) rfl (by kernel_rfl) (by kernel_rfl) (fun _ _ _ h => h) hS (Or.inl ⟨rfl, ?_⟩) ?_
        rotate_left
        · (intro w' hSw; (try dsimp only at hSw); go_simp; first | done | with_reducible rfl)
        (try simp only [Act.put, List.setIfInBounds_toArray, List.set_cons_zero, List.set_cons_succ])
        refine wpT_take 3 (v := ?_) rfl (by kernel_rfl) (by kernel_rfl) (fun _ _ _ h => h) hS (Or.inl ⟨rfl, ?_⟩) ?_
        rotate_left
        · (intro w' hSw; (try dsimp only at hSw); go_simp; first | done | with_reducible rfl)
        (try simp only [Act.put, List.setIfInBounds_toArray, List.set_cons_zero, List.set_cons_succ])
        refine wpT_take 4 (v := ?_) rfl (by kernel_rfl) (by kernel_rfl) (fun _ _ _ h => h) hS (Or.inl ⟨rfl, ?_⟩) ?_
        rotate_left
        · (intro w' hSw; (try dsimp only at hSw); go_simp; first | done | with_reducible rfl)
        (try simp only [Act.put, List.setIfInBounds_toArray, List.set_cons_zero, List.set_cons_succ])
        refine wpT_take 5 (v := ?_) rfl (by kernel_rfl) (by kernel_rfl) (fun _ _ _ h => h) hS (Or.inl ⟨rfl, ?_⟩) ?_
        rotate_left
        · (intro w' hSw; (try dsimp only at hSw); go_simp; first | done | with_reducible rfl)
        (try simp only [Act.put, List.setIfInBounds_toArray, List.set_cons_zero, List.set_cons_succ])
        refine wpT_take 6 (v := ?_) rfl (by kernel_rfl) (by kernel_rfl) (fun _ _ _ h => h) hS (Or.inl ⟨rfl, ?_⟩) ?_
        rotate_left
        · (intro w' hSw; (try dsimp only at hSw); go_simp; first | done | with_reducible rfl)
        (try simp only [Act.put, List.setIfInBounds_toArray, List.set_cons_zero, List.set_cons_succ])
        refine wpT_take 7 (v := ?_) rfl (by kernel_rfl) (by kernel_rfl) (fun _ _ _ h => h) hS (Or.inl ⟨rfl, ?_⟩) ?_
        rotate_left
        · (intro w' hSw; (try dsimp only at hSw); go_simp; first | done | with_reducible rfl)
        (try simp only [Act.put, List.setIfInBounds_toArray, List.set_cons_zero, List.set_cons_succ])
        refine wpT_take 9 (v := ?_) rfl (by kernel_rfl) (by kernel_rfl) (fun _ _ _ h => h) hS (Or.inl ⟨rfl, ?_⟩) ?_
        rotate_left
        · (intro w' hSw; (try dsimp only at hSw); go_simp; first | done | with_reducible rfl)
        (try simp only [Act.put, List.setIfInBounds_toArray, List.set_cons_zero, List.set_cons_succ])
        refine wpT_take 10 (v := ?_) rfl (by kernel_rfl) (by kernel_rfl) (fun _ _ _ h => h) hS (Or.inl ⟨rfl, ?_⟩) ?_
        rotate_left
        · (intro w' hSw; (try dsimp only at hSw); go_simp; first | done | with_reducible rfl)
        (try simp only [Act.put, List.setIfInBounds_toArray, List.set_cons_zero, List.set_cons_succ])
        refine wpT_take 11 (v := ?_) rfl (by kernel_rfl) (by kernel_rfl) (fun _ _ _ h => h) hS (Or.inl ⟨rfl, ?_⟩) ?_
        rotate_left
        · (intro w' hSw; (try dsimp only at hSw); go_simp; first | done | with_reducible rfl)
        (try simp only [Act.put, List.setIfInBounds_toArray, List.set_cons_zero, List.set_cons_succ])
        refine wpT_take 12 (v := ?_) rfl (by kernel_rfl) (by kernel_rfl) (fun _ _ _ h => h) hS (Or.inl ⟨rfl, ?_⟩) ?_
        rotate_left
        · (intro w' hSw; (try dsimp only at hSw); go_simp; first | done | with_reducible rfl)
        (try simp only [Act.put, List.setIfInBounds_toArray, List.set_cons_zero, List.set_cons_succ])
        refine wpT_take 13 (v := ?_) rfl (by kernel_rfl) (by kernel_rfl) (fun _ _ _ h => h) hS (Or.inl ⟨rfl, ?_⟩) ?_
        rotate_left
        · (intro w' hSw; (try dsimp only at hSw); go_simp; first | done | with_reducible rfl)
        (try simp only [Act.put, List.setIfInBounds_toArray, List.set_cons_zero, List.set_cons_succ])
        refine wpT_take 14 (v := ?_) rfl (by kernel_rfl) (by kernel_rfl) (fun _ _ _ h => h) hS (Or.inl ⟨rfl, ?_⟩) ?_
        rotate_left
        · (intro w' hSw; (try dsimp only at hSw); go_simp; first | done | with_reducible rfl)
        (try simp only [Act.put, List.setIfInBounds_toArray, List.set_cons_zero, List.set_cons_succ])
        refine wpT_one 0 rfl (by kernel_rfl) (fun K hK => ?_)
        go_simp
        refine k_world (fun Wq hWq => ?_)
        have hownF := own_below hown18 hWd
        have hzd := hWd.size
        obtain ⟨qq, eqq, hQ, hbQ, hsQ⟩ := new1n hWq
        clear hWq
        rw [eqq]
        have hownG := own_below hownF (by rw [eqq]; exact hbQ)
        have hqqz : w18.heap.size ≤ qq := by rw [← eqq]; exact hzd
        have hbS := hS.2.trans (hbQ.mono hqqz)
        refine hK.out _ _ ?_ (fun hS => ?_)
        · (try dsimp only)
          exact sb_of hbS
        clear hK K
        (try simp only [Act.put, List.setIfInBounds_toArray, List.set_cons_zero, List.set_cons_succ])
        (try dsimp only at hS)
        refine wpT_one 8 rfl (by kernel_rfl) (fun K hK => ?_)
        refine step_append_pts _ (by rfl) _ _ _ (by rfl) w18.heap.size HU.out _ [] (by rfl) (own_empty3 hQ hqqz) (some ⟨bL, oL, none⟩) ck _ P2 (by rw [HD2.out] <;> rfl) (HR2D.out.below hbS (Nat.le_refl _)) (by rw [HD2.out]; exact HN2.out) (hbS.size) ?_
        intro A27 c27 w27 hown27 hgrow
        have hbS2 := below_grown hbS hgrow hbS.size (fun g hg => (own_lt (own_empty3 hQ hqqz) hg).1)
        (try simp only [List.length_nil, Nat.zero_add, List.nil_append] at hown27)
        (try simp only [List.length_nil, Nat.zero_add, List.nil_append])
        refine hK.out _ _ ?_ (fun hS => ?_)
        · (try dsimp only)
          exact sb_of hbS2
        clear hK K
        (try simp only [Act.put, List.setIfInBounds_toArray, List.set_cons_zero, List.set_cons_succ])
        (try dsimp only at hS)
        refine wpT_one 15 rfl (by kernel_rfl) (fun K hK => ?_)
        refine step_append_pts _ (by rfl) _ _ _ (by rfl) w18.heap.size HU.out _ P2 (by rfl) hown27 (some ⟨bL, oL + j * 3, none⟩) (ck - j) _ P3 (by rw [HD3.out] <;> rfl) (HR3D.out.below hbS2 (Nat.le_refl _)) (by rw [HD2.out, HD3.out]; exact HN3.out) (hbS2.size) ?_
        intro A28 c28 w28 hown28 hgrow2
        have hbS3 := below_grown hbS2 hgrow2 hbS2.size (fun g hg => (own_lt hown27 hg).1)
        refine hK.out _ _ ?_ (fun hS => ?_)
        · (try dsimp only)
          exact sb_of hbS3
        clear hK K
        (try simp only [Act.put, List.setIfInBounds_toArray, List.set_cons_zero, List.set_cons_succ])
        (try dsimp only at hS)
        refine wpT_tail (by rfl) (by kernel_rfl) ?_
        (try simp only [List.drop_succ_cons, List.drop_zero])
        have hown18' := own_below hown18 hbS3
        have HP1 := Lib.hid (own_rdpt hown18')
        have hl28 : P2.length + P3.length = (P2 ++ P3).length := by rw [List.length_append]
        rw [hl28] at hown28
        rw [hl28]
        have HP2 := Lib.hid (own_rdpt hown28)
        have hb10 := hb9.trans (hbS3.mono hzD)
        have hckE := (hbS3.cell (p := ⟨b, o + i, none⟩) zDb).trans hckD
        have zEb : b < w28.heap.size := Nat.lt_of_lt_of_le zDb hbS3.size
        have hzE := hb10.size
        have HONE2 := Lib.hid ((HONE.out.below hb10 (Nat.le_refl _)).more hzE)
        have HL12 : Hid (P1.length ≤ 1000 ∧ (P2 ++ P3).length ≤ 1000 ∧ L.length ≤ 1000) := Lib.hid (l12_small HD1.out HD2.out HD3.out hjl hiil h8)
        clear hS hWd hown18 hown18' hown27 hown28 hgrow2 hgrow hbS hbS2 hbS3 hownF hownG hQ hbQ hckD zDb hl28
        have hi0 : (0 : Int) ≤ (i : Int) + 1 := nn_one i
        have hcmi : ¬ cM = i := Nat.ne_of_gt (Nat.lt_of_lt_of_le hlt hcM)
        go_upto_region 17 with fail
        refine wp_region_U (fun w' => (∀ b o, b < w28.heap.size → w'.cell? ⟨b, o, none⟩ = w28.cell? ⟨b, o, none⟩) ∧ Below w28.heap.size w28 w') (by kernel_rfl) ?_ (fun Wd hWd hS => ?_)
        · (try dsimp only)
          exact sb_of (Below.refl _ _).drew
        (try dsimp only at hS)
        refine wpU_take 0 (v := ?_) rfl (by kernel_rfl) (fun _ _ _ h => h) hS (Or.inl ⟨rfl, ?_⟩) ?_
        rotate_left
        · (intro w' hSw; (try dsimp only at hSw); go_simp; first | done | with_reducible rfl)
        (try simp only [Act.put, List.setIfInBounds_toArray, List.set_cons_zero, List.set_cons_succ])
        refine wpU_take 1 (v := ?_) rfl (by kernel_rfl) (fun _ _ _ h => h) hS (Or.inl ⟨rfl, ?_⟩) ?_
        rotate_left
        · (intro w' hSw; (try dsimp only at hSw); go_simp; first | done | with_reducible rfl)
        (try simp only [Act.put, List.setIfInBounds_toArray, List.set_cons_zero, List.set_cons_succ])
        refine wpU_take 3 (v := ?_) rfl (by kernel_rfl) (fun _ _ _ h => h) hS (Or.inl ⟨rfl, ?_⟩) ?_
        rotate_left
        · (intro w' hSw; (try dsimp only at hSw); go_simp; first | done | with_reducible rfl)
        (try simp only [Act.put, List.setIfInBounds_toArray, List.set_cons_zero, List.set_cons_succ])
        refine wpU_take 4 (v := ?_) rfl (by kernel_rfl) (fun _ _ _ h => h) hS (Or.inl ⟨rfl, ?_⟩) ?_
        rotate_left
        · (intro w' hSw; (try dsimp only at hSw); go_simp; first | done | with_reducible rfl)
        (try simp only [Act.put, List.setIfInBounds_toArray, List.set_cons_zero, List.set_cons_succ])
        refine wpU_take 6 (v := ?_) rfl (by kernel_rfl) (fun _ _ _ h => h) hS (Or.inl ⟨rfl, ?_⟩) ?_
        rotate_left
        · (intro w' hSw; (try dsimp only at hSw); go_simp; first | done | with_reducible rfl)
        (try simp only [Act.put, List.setIfInBounds_toArray, List.set_cons_zero, List.set_cons_succ])
        refine wpU_take 7 (v := ?_) rfl (by kernel_rfl) (fun _ _ _ h => h) hS (Or.inl ⟨rfl, ?_⟩) ?_
        rotate_left
        · (intro w' hSw; (try dsimp only at hSw); go_simp; first | done | with_reducible rfl)
        (try simp only [Act.put, List.setIfInBounds_toArray, List.set_cons_zero, List.set_cons_succ])
        refine wpU_take 8 (v := ?_) rfl (by kernel_rfl) (fun _ _ _ h => h) hS (Or.inl ⟨rfl, ?_⟩) ?_
        rotate_left
        · (intro w' hSw; (try dsimp only at hSw); go_simp; first | done | with_reducible rfl)
        (try simp only [Act.put, List.setIfInBounds_toArray, List.set_cons_zero, List.set_cons_succ])
        refine wpU_take 9 (v := ?_) rfl (by kernel_rfl) (fun _ _ _ h => h) hS (Or.inl ⟨rfl, ?_⟩) ?_
        rotate_left
        · (intro w' hSw; (try dsimp only at hSw); go_simp; first | done | with_reducible rfl)
        (try simp only [Act.put, List.setIfInBounds_toArray, List.set_cons_zero, List.set_cons_succ])
        refine wpU_take 10 (v := ?_) rfl (by kernel_rfl) (fun _ _ _ h => h) hS (Or.inl ⟨rfl, ?_⟩) ?_
        rotate_left
        · (intro w' hSw; (try dsimp only at hSw); go_simp; first | done | with_reducible rfl)
        (try simp only [Act.put, List.setIfInBounds_toArray, List.set_cons_zero, List.set_cons_succ])
        refine wpU_take 11 (v := ?_) rfl (by kernel_rfl) (fun _ _ _ h => h) hS (Or.inl ⟨rfl, ?_⟩) ?_
        rotate_left
        · (intro w' hSw; (try dsimp only at hSw); go_simp; first | done | with_reducible rfl)
        (try simp only [Act.put, List.setIfInBounds_toArray, List.set_cons_zero, List.set_cons_succ])
        refine wpU_take 12 (v := ?_) rfl (by kernel_rfl) (fun _ _ _ h => h) hS (Or.inl ⟨rfl, ?_⟩) ?_
        rotate_left
        · (intro w' hSw; (try dsimp only at hSw); go_simp; first | done | with_reducible rfl)
        (try simp only [Act.put, List.setIfInBounds_toArray, List.set_cons_zero, List.set_cons_succ])
        refine wpT_one 2 rfl (by kernel_rfl) (fun K hK => ?_)
        go_simp
        refine k_world (fun Wq hWq => ?_)
        have hzd := hS.2.size
        obtain ⟨qq, eqq, hQ, hbQ, hsQ⟩ := new1n hWq
        clear hWq
        rw [eqq]
        have hbS := hS.2.trans (hbQ.mono (by rw [← eqq]; exact hzd))
        have HRT := Lib.hid (rdps_two (by rw [List.length_append]; exact hQ) ((HP1.out.below hbS (Nat.le_refl _)).more hbS.size) ((HP2.out.below hbS (Nat.le_refl _)).more hbS.size))
        have hzS := hbS.size
        refine hK.out _ _ ?_ (fun hS => ?_)
        · (try dsimp only)
          exact sb_of hbS
        clear hK K
        (try simp only [Act.put, List.setIfInBounds_toArray, List.set_cons_zero, List.set_cons_succ])
        (try dsimp only at hS)
        refine wpT_one 5 rfl (by kernel_rfl) (fun K hK => ?_)
        go_simp
        go_at_call 54
        refine (CW.out [P1, P2 ++ P3] _ _ _ (two_len _ _) (two_small HL12.out.1 HL12.out.2.1) HRT.out).mono ?_
        rintro e wo ⟨rfl, hbo⟩
        rw [HW2.out]
        have hbS := hS.2.trans (hbo.mono hzS)
        have hzS := hbS.size
        refine hK.out _ _ ?_ (fun hS => ?_)
        · (try dsimp only)
          exact sb_of hbS
        clear hK K
        (try simp only [Act.put, List.setIfInBounds_toArray, List.set_cons_zero, List.set_cons_succ])
        (try dsimp only at hS)
        refine wpT_one 13 rfl (by kernel_rfl) (fun K hK => ?_)
        go_simp
        go_at_call 54
        refine (CW.out [L] _ _ _ (one_len _) (one_small HL12.out.2.2) ((HONE2.out.below hS.2 (Nat.le_refl _)).more hzS)).mono ?_
        rintro e wo ⟨rfl, hbo⟩
        rw [HRI.out]
        have hbS := hS.2.trans (hbo.mono hzS)
        refine hK.out _ _ ?_ (fun hS => ?_)
        · (try dsimp only)
          exact sb_of hbS
        clear hK K
        (try simp only [Act.put, List.setIfInBounds_toArray, List.set_cons_zero, List.set_cons_succ])
        (try dsimp only at hS)
        refine wpU_take 14 (v := ?_) rfl (by kernel_rfl) (fun _ _ _ h => h) hS (Or.inl ⟨rfl, ?_⟩) ?_
        rotate_left
        · (intro w' hSw; (try dsimp only at hSw); go_simp; first | done | with_reducible rfl)
        (try simp only [Act.put, List.setIfInBounds_toArray, List.set_cons_zero, List.set_cons_succ])
        refine wpU_done (by kernel_rfl) ?_
        have hb11 := hb10.trans (hS.2.mono hzE)
        clear hS hWd
        go_wp2_with fail
        go_roundw
        case rel => exact ⟨i + 1, Nat.succ_le_of_lt hlt, by go_num, by rw [HE.out]; first | rfl | rw [HS0.out], hb11⟩
        case measure => simp [intOf]; omega
    · have hie : i = l7.length := by omega
      have hlt' : ¬ (i : Int) < (l7.length : Int) := by omega
      subst hie
      have hal := HLS.out l7.length
      have HB : Hid (windV (l7.map List.reverse) x y = -(windL l7 x y l7.length)) := Lib.hid (by rw [HWN.out _ (near_sub HNR.out near_rev), rings_rev, HRA.out])
      have HO : Hid (windV (l7.map (rotB z0)) x y = windL l7 x y l7.length) := Lib.hid (by rw [HWN.out _ (near_sub HNR.out (near_rot z0)), ← HRA.out]; exact rings_rot x y (fun p => (z0 % (p.length : Int)).toNat) l7)
      have HNL : Hid (windV [] x y = 0) := Lib.hid (HWN.out [] (fun p hp => absurd hp (by simp)))
      have C1 := fun w h => CW.out (l7.map List.reverse) A1 c1 w (by simp; omega) (fun p hp => by
        obtain ⟨p0, h0, rfl⟩ := List.mem_map.1 hp
        have := (HL8.out p0 h0).1
        simp; omega) h
      rw [List.length_map] at C1
      have C2 := fun w h => CW.out (l7.map (rotB z0)) A2 c2 w (by simp; omega) (fun p hp => by
        obtain ⟨p0, h0, rfl⟩ := List.mem_map.1 hp
        have := (HL8.out p0 h0).1
        unfold rotB rot
        simp; omega) h
      rw [List.length_map] at C2
      rw [HB.out] at C1
      rw [HO.out] at C2
      have HC1 := Lib.hid C1
      have HC2 := Lib.hid C2
      clear C1 C2 HB HO HLR HWN HRA HLS HL8 HNR
      generalize windL l7 x y l7.length = al at *
      have hna : wrap64 (-al) = -al := w64 (by omega) (by omega)
      generalize l7.length = n7 at *
      have hb6 := hb5.trans (hbr.mono hz)
      have HR1 := Lib.hid ((HT1.out.below hbr (Nat.le_refl _)).more hzr)
      have HR2 := Lib.hid ((HT2.out.below hbr (Nat.le_refl _)).more hzr)
      have hz6 : p ≤ wr.heap.size := Nat.le_trans hz hzr
      clear hcr HT1 HT2
      go_wp2_with fail
      refine (HC1.out _ HR1.out).mono ?_
      rintro e wA ⟨rfl, hbA⟩
      have hb7 := hb6.trans (hbA.mono hz6)
      have hz7 := Nat.le_trans hz6 hbA.size
      go_wp2_with fail
      refine (HC2.out _ (HR2.out.on hbA)).mono ?_
      rintro e wB ⟨rfl, hbB⟩
      have hb8 := hb7.trans (hbB.mono hz7)
      have hz8 := Nat.le_trans hz7 hbB.size
      go_wp2_with fail
      refine (CW.out [] none 0 _ (by simp) (fun p hp => absurd hp (by simp)) RdPs.nil).mono ?_
      rintro e wC ⟨rfl, hbC⟩
      rw [HNL.out]
      go_wp2
      go_ret
      exact ⟨rfl, by rw [HP.out]; exact hb8.trans (hbC.mono hz8)⟩
end Go.Proofs.Ytlanefdeeanpnaa
