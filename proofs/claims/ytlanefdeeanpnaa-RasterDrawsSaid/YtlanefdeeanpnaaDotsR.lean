/-
  Contract of Dots of layer 7's reference: it answers as the program's does. Conditions: at most 1000 polygons with at most 1000 points, read below the heap's size.
-/
import Derived.Test.YtlanefdeeanpnaaDotsV
import Derived.Test.YtlanefdeeanpnaaFloor
import Derived.Test.YtlanefdeeanpnaaPolyApp
namespace Go.Proofs.Ytlanefdeeanpnaa
set_option linter.unusedVariables false
set_option linter.unusedSimpArgs false
open Go.RowKit
attribute [local go_sem ↓] Go.wp_at_zero Go.wp_at_succ
attribute [local go_sem] mn_if mx_if

def fdX (u : Int) (q : Pt) : Int := q.1 / u
def fdY (u : Int) (q : Pt) : Int := q.2.1 / u
theorem mn_floor {u R : Int} {l : List Pt} (hu : 0 < u) (hl : l ≠ []) (h : ∀ q ∈ l, -1073741824 ≤ fX q ∧ fX q ≤ 1073741824) : mnF (fdX u) l 1073741824 = mnF fX l 2147483648 / u := by
  have e := mn_map (f := fX) (f' := fdX u) (g := id) (φ := fun a => a / u) (l := l) (m := 2147483648) (m' := 1073741824) (fun a b h => Int.ediv_le_ediv (by omega) h) hl (fun q hq => by have := h q hq; omega) (fun q hq => rfl) (fun q hq => by have := h q hq; have := floor_small (n := fX q) (u := u) (by omega) (by omega) (by omega); omega)
  rw [List.map_id] at e
  exact e
theorem mn_floorY {u R : Int} {l : List Pt} (hu : 0 < u) (hl : l ≠ []) (h : ∀ q ∈ l, -1073741824 ≤ fY q ∧ fY q ≤ 1073741824) : mnF (fdY u) l 1073741824 = mnF fY l 2147483648 / u := by
  have e := mn_map (f := fY) (f' := fdY u) (g := id) (φ := fun a => a / u) (l := l) (m := 2147483648) (m' := 1073741824) (fun a b h => Int.ediv_le_ediv (by omega) h) hl (fun q hq => by have := h q hq; omega) (fun q hq => rfl) (fun q hq => by have := h q hq; have := floor_small (n := fY q) (u := u) (by omega) (by omega) (by omega); omega)
  rw [List.map_id] at e
  exact e
theorem mx_floor {u R : Int} {l : List Pt} (hu : 0 < u) (hl : l ≠ []) (h : ∀ q ∈ l, -1073741824 ≤ fX q ∧ fX q ≤ 1073741824) : mxF (fdX u) l (-1073741824) = mxF fX l (-2147483648) / u := by
  have e := mx_map (f := fX) (f' := fdX u) (g := id) (φ := fun a => a / u) (l := l) (m := -2147483648) (m' := -1073741824) (fun a b h => Int.ediv_le_ediv (by omega) h) hl (fun q hq => by have := h q hq; omega) (fun q hq => rfl) (fun q hq => by have := h q hq; have := floor_small (n := fX q) (u := u) (by omega) (by omega) (by omega); omega)
  rw [List.map_id] at e
  exact e
theorem mx_floorY {u R : Int} {l : List Pt} (hu : 0 < u) (hl : l ≠ []) (h : ∀ q ∈ l, -1073741824 ≤ fY q ∧ fY q ≤ 1073741824) : mxF (fdY u) l (-1073741824) = mxF fY l (-2147483648) / u := by
  have e := mx_map (f := fY) (f' := fdY u) (g := id) (φ := fun a => a / u) (l := l) (m := -2147483648) (m' := -1073741824) (fun a b h => Int.ediv_le_ediv (by omega) h) hl (fun q hq => by have := h q hq; omega) (fun q hq => rfl) (fun q hq => by have := h q hq; have := floor_small (n := fY q) (u := u) (by omega) (by omega) (by omega); omega)
  rw [List.map_id] at e
  exact e

set_option maxHeartbeats 8000000 in
set_option maxRecDepth 100000 in
theorem ref07_Dots (ls : List (List Pt)) (A : Option Addr) (c : Nat) (u : Int) (w : World) (hl : ls.length ≤ 1000) (hp : ∀ p ∈ ls, p.length ≤ 1000) (hr : RdPs w w.heap.size A ls) :
    Calls Try.prog 59 #[.slice A ls.length c, .int .i64 u] w fun e w' => IsPic (dotsV ls u) e w' ∧ Below w.heap.size w w' := by
  have CR := Lib.hid (fun w h => ref07_ranged ls A c w hl hp h)
  have CV := Lib.hid (ref07_valid u)
  have HR := Lib.hid hr
  have HPL := Lib.hid (fun i (h : i < ls.length) => hp ls[i] (List.getElem_mem h))
  have HTT := Lib.hid (tot_take_le hl hp)
  have HV := Lib.hid (dotsV.eq_1 ls u)
  generalize dotsV ls u = V at *
  have CCV := Lib.hid (fun (hv : validB u = true) (ha : allIn ls = true) x y w (hx : inB x = true) (hy : inB y = true) h => by have := ref07_Cover ls A c u x y w hl hp h; rw [show coverV ls u x y = cvT ls u x y (u / 4) 4 from if_pos ⟨hv, hx, hy, ha⟩] at this; exact this)
  clear hr hp
  have HVU := Lib.hid (fun (h : validB u = true) => valid_yes h)
  have HAI := Lib.hid (fun (h : allIn ls = true) q hq => ptIn_yes (pts_in h q hq))
  generalize hbv : validB u = bv at *
  generalize hba : allIn ls = ba at *
  go_enter Try.func59, Try.ntmps59
  go_wp2_with fail
  refine calls_world (fun W0 hW0 => ?_)
  obtain ⟨hB0, hbw, hs0⟩ := new1 hW0
  clear hW0
  generalize hq : w.heap.size = p at *
  have HP := Lib.hid hq
  clear hq
  refine (CV.out _).mono ?_
  rintro e wa ⟨rfl, rfl⟩
  have hB1 := hB0
  have hz := hB1.lt
  cases bv with
  | false =>
    rw [if_pos rfl] at HV
    clear CCV HVU HAI CR
    obtain ⟨e0, e1, e2, e3, e4⟩ := hB1.five
    have f0 := hB1.frozen 0
    have f1 := hB1.frozen 1
    have f2 := hB1.frozen 2
    have f3 := hB1.frozen 3
    have f4 := hB1.frozen 4
    go_wp2
    obtain ⟨hR9, hk9⟩ := store5 (w := W0) (b0 := .int .i64 0) (b1 := .int .i64 0) (b2 := .int .i64 0) (b3 := .int .i64 0) (b4 := .slice none 0 0) rfl hB1
    have hB9 := hbw.trans (hk9.to_below (by omega) (by simp))
    generalize ((((World.setCell W0 ⟨p, 0, none⟩ (.int .i64 0)).setCell ⟨p, 1, none⟩ (.int .i64 0)).setCell ⟨p, 2, none⟩ (.int .i64 0)).setCell ⟨p, 3, none⟩ (.int .i64 0)).setCell ⟨p, 4, none⟩ (.slice none 0 0) = W9 at *
    obtain ⟨s0, s1, s2, s3, s4⟩ := hR9.five
    exact bodyPost_ret (v := .tuple #[zPic, .int .i64 1]) (by simp [results, Try.results59, go_sem, s0, s1, s2, s3, s4]) rfl ⟨by rw [HV.out]; exact isPic_none _ _, by rw [HP.out]; exact hB9⟩
  | true =>
    rw [if_neg (by simp)] at HV
    go_wp2_with fail
    refine (CR.out _ ((HR.out.below hbw (Nat.le_refl _)).more (by omega))).mono ?_
    rintro e wa ⟨rfl, rfl⟩
    cases ba with
    | false =>
      rw [if_pos rfl] at HV
      clear CCV HVU HAI CR
      obtain ⟨e0, e1, e2, e3, e4⟩ := hB1.five
      have f0 := hB1.frozen 0
      have f1 := hB1.frozen 1
      have f2 := hB1.frozen 2
      have f3 := hB1.frozen 3
      have f4 := hB1.frozen 4
      go_wp2
      obtain ⟨hR9, hk9⟩ := store5 (w := W0) (b0 := .int .i64 0) (b1 := .int .i64 0) (b2 := .int .i64 0) (b3 := .int .i64 0) (b4 := .slice none 0 0) rfl hB1
      have hB9 := hbw.trans (hk9.to_below (by omega) (by simp))
      generalize ((((World.setCell W0 ⟨p, 0, none⟩ (.int .i64 0)).setCell ⟨p, 1, none⟩ (.int .i64 0)).setCell ⟨p, 2, none⟩ (.int .i64 0)).setCell ⟨p, 3, none⟩ (.int .i64 0)).setCell ⟨p, 4, none⟩ (.slice none 0 0) = W9 at *
      obtain ⟨s0, s1, s2, s3, s4⟩ := hR9.five
      exact bodyPost_ret (v := .tuple #[zPic, .int .i64 3]) (by simp [results, Try.results59, go_sem, s0, s1, s2, s3, s4]) rfl ⟨by rw [HV.out]; exact isPic_none _ _, by rw [HP.out]; exact hB9⟩
    | true =>
      rw [if_neg (by simp)] at HV
      obtain ⟨hu1, hu2, hu3⟩ := HVU.out trivial
      have HIN := Lib.hid (HAI.out rfl)
      have CC := Lib.hid (fun x y w hx hy h => CCV.out trivial rfl x y w hx hy h)
      clear CCV HVU HAI CR CV hu3 hs0
      have HU := Lib.hid (Try.underlying96)
      have HRW := Lib.hid ((HR.out.below hbw (Nat.le_refl _)))
      go_wp2_with fail
      go_loopw [6, 7] (fun s6 s7 wr => ∃ (i : Nat) (A' : Option Addr) (c' : Nat), i ≤ ls.length ∧ s7 = .int .i64 i ∧ s6 = .slice A' (pts (ls.take i)).length c' ∧ wr.ownsRow W0.heap.size 134 3 (.slice A' (pts (ls.take i)).length c') (pts (ls.take i)).length (flat (pts (ls.take i))) ∧ Below W0.heap.size W0 wr) (fun _ s7 _ => ls.length - (intOf s7).toNat)
      case atStart => exact ⟨0, none, 0, by omega, rfl, rfl, World.ownsRow_nil _ _ _ _, Below.refl _ _⟩
      case round =>
        obtain ⟨i, A', c', hi, rfl, rfl, hown, hbr⟩ := hrel
        have hszr := hbr.size
        by_cases hlt : i < ls.length
        · have hlt' : (i : Int) < (ls.length : Int) := by omega
          obtain ⟨b, o, rfl, hb, Ak, ck, hck, hrk⟩ := (HRW.out.below hbr (by omega)).at_ hlt
          have HRP := Lib.hid hrk
          have hpl := HPL.out i hlt
          have HPS := Lib.hid (pts_succ hlt)
          have htl : tot (ls.take (i + 1)) ≤ 1000000 := HTT.out (i + 1)
          rw [← pts_len, HPS.out, List.length_append] at htl
          have hbz : b < wr.heap.size := by omega
          generalize ls[i] = pl at *
          generalize pts (ls.take i) = P at *
          clear hrk
          go_wp2_with (at_builtin; refine wpList_append_pts _ rfl _ _ _ rfl W0.heap.size HU.out _ P rfl hown Ak ck _ pl rfl HRP.out htl hszr ?_)
          intro A9 c9 w9 hown9 hgrow
          have hbe : Below W0.heap.size W0 w9 := below_grown hbr hgrow hszr (fun g hg => (hown.lt g hg).1)
          go_wp2_with fail
          go_roundw
          case rel => exact ⟨i + 1, A9, c9, by omega, by go_num, by rw [HPS.out, List.length_append], by rw [HPS.out, List.length_append]; exact hown9, hbe⟩
          case measure => simp [intOf]; omega
        · have hie : i = ls.length := by omega
          have hlt' : ¬ (i : Int) < (ls.length : Int) := by omega
          have HTA : Hid (pts (ls.take ls.length) = pts ls) := Lib.hid (by rw [List.take_of_length_le (Nat.le_refl _)])
          subst hie
          rw [HTA.out] at hown
          rw [HTA.out]
          have hbw1 := hbw.trans (hbr.mono (by omega))
          have HRR := Lib.hid (HRW.out.below hbr (by omega))
          replace hB1 := hB1.below hbr hz
          replace hz := hB1.lt
          have htl : tot ls ≤ 1000000 := by have := HTT.out ls.length; rw [List.take_length] at this; exact this
          have HTL := Lib.hid (pts_len ls)
          clear HTA hi hlt' HR hbw hB0
          by_cases ht : tot ls = 0
          · rw [if_pos ht] at HV
            have hpe : (pts ls).length = 0 := by rw [HTL.out]; exact ht
            rw [hpe] at hown ⊢
            clear hown hpe CC HIN ht
            obtain ⟨e0, e1, e2, e3, e4⟩ := hB1.five
            have f0 := hB1.frozen 0
            have f1 := hB1.frozen 1
            have f2 := hB1.frozen 2
            have f3 := hB1.frozen 3
            have f4 := hB1.frozen 4
            go_wp2
            obtain ⟨hR9, hk9⟩ := store5 (w := wr) (b0 := .int .i64 0) (b1 := .int .i64 0) (b2 := .int .i64 0) (b3 := .int .i64 0) (b4 := .slice none 0 0) rfl hB1
            have hB9 := hbw1.trans (hk9.to_below (by have := hB1.lt; omega) (by simp))
            generalize ((((World.setCell wr ⟨p, 0, none⟩ (.int .i64 0)).setCell ⟨p, 1, none⟩ (.int .i64 0)).setCell ⟨p, 2, none⟩ (.int .i64 0)).setCell ⟨p, 3, none⟩ (.int .i64 0)).setCell ⟨p, 4, none⟩ (.slice none 0 0) = W9 at *
            obtain ⟨s0, s1, s2, s3, s4⟩ := hR9.five
            exact bodyPost_ret (v := .tuple #[zPic, .int .i64 0]) (by simp [results, Try.results59, go_sem, s0, s1, s2, s3, s4]) rfl ⟨by rw [HV.out]; exact isPic_none _ _, by rw [HP.out]; exact hB9⟩
          · rw [if_neg ht] at HV
            have hne : pts ls ≠ [] := tot_pts ht
            have hpn : ¬ (pts ls).length = 0 := by rw [HTL.out]; exact ht
            have hpn' : ¬ ((pts ls).length : Int) = 0 := by omega
            have hpb : (((pts ls).length : Int) == 0) = false := by simpa using hpn
            have hpl : (pts ls).length ≤ 1000000 := by rw [HTL.out]; exact htl
            have HRP := Lib.hid (own_rdpt hown)
            have HF1 := Lib.hid (mn_floor (u := u) (R := 0) (by omega) hne (fun q hq => (HIN.out q hq).1))
            have HF2 := Lib.hid (mn_floorY (u := u) (R := 0) (by omega) hne (fun q hq => (HIN.out q hq).2))
            have HF3 := Lib.hid (mx_floor (u := u) (R := 0) (by omega) hne (fun q hq => (HIN.out q hq).1))
            have HF4 := Lib.hid (mx_floorY (u := u) (R := 0) (by omega) hne (fun q hq => (HIN.out q hq).2))
            have HBX := Lib.hid (box_in (f := fX) (R := 1073741824) (m := 2147483648) (M := -2147483648) hne (fun q hq => (HIN.out q hq).1) (by omega) (by omega))
            have HBY := Lib.hid (box_in (f := fY) (R := 1073741824) (m := 2147483648) (M := -2147483648) hne (fun q hq => (HIN.out q hq).2) (by omega) (by omega))
            have HQI := Lib.hid (fun k (h : k < (pts ls).length) => HIN.out (pts ls)[k] (List.getElem_mem h))
            have HEL : Hid (bxL ls u = mnF fX (pts ls) 2147483648 / u) := Lib.hid rfl
            have HEB : Hid (bxB ls u = mnF fY (pts ls) 2147483648 / u) := Lib.hid rfl
            have HEW : Hid (bxW ls u = mxF fX (pts ls) (-2147483648) / u - bxL ls u + 1) := Lib.hid rfl
            have HEH : Hid (bxH ls u = mxF fY (pts ls) (-2147483648) / u - bxB ls u + 1) := Lib.hid rfl
            have hu0 : ¬ u = 0 := by omega
            clear hne ht hown htl HTL HIN
            go_upto_region 13 with fail
            refine wp_world (fun W1 hW1 => ?_)
            obtain ⟨hQ8, hbn, hsn⟩ := new1 hW1
            clear hW1
            have hbw2 := hbw1.trans (hbn.mono (by omega))
            have HRP1 := Lib.hid (HRP.out.below hbn (Nat.le_refl _))
            have HRR1 := Lib.hid (HRR.out.below hbn (by omega))
            replace hB1 := hB1.below hbn hz
            generalize hqq : wr.heap.size = q8 at *
            have hpq : p < q8 := by omega
            have zq8 := hQ8.lt
            clear hqq hsn hbn hbw1 hz HRR HRP hszr hbr HRW
            generalize pts ls = P at *
            go_wp2_with fail
            go_loopw [9] (fun s9 wx => ∃ k : Nat, k ≤ P.length ∧ s9 = .int .i64 k ∧ Blk wx q8 139 #[.int .i64 (mnF (fdX u) (P.take k) 1073741824), .int .i64 (mnF (fdY u) (P.take k) 1073741824), .int .i64 (mxF (fdX u) (P.take k) (-1073741824)), .int .i64 (mxF (fdY u) (P.take k) (-1073741824))] ∧ Below q8 W1 wx) (fun s9 _ => P.length - (intOf s9).toNat)
            case atStart => exact ⟨0, Nat.zero_le _, rfl, hQ8, Below.refl _ _⟩
            case round =>
              obtain ⟨k, hk, rfl, hQ, hbx⟩ := hrel
              by_cases hlk : k < P.length
              · have hlk' : (k : Int) < (P.length : Int) := by omega
                obtain ⟨b2, o2, rfl, hb2, x0, x1, x2⟩ := (HRP1.out.below hbx (Nat.le_refl _)).at_ hlk
                have hq := HQI.out k hlk
                have HQS : Hid (P.take (k + 1) = P.take k ++ [P[k]]) := Lib.hid (List.take_succ_eq_append_getElem hlk)
                generalize P[k] = q at *
                have HN1 := Lib.hid (mnF_snoc (fdX u) (P.take k) q 1073741824)
                have HN2 := Lib.hid (mnF_snoc (fdY u) (P.take k) q 1073741824)
                have HN3 := Lib.hid (mxF_snoc (fdX u) (P.take k) q (-1073741824))
                have HN4 := Lib.hid (mxF_snoc (fdY u) (P.take k) q (-1073741824))
                rw [← HQS.out] at HN1 HN2 HN3 HN4
                generalize mnF (fdX u) (P.take k) 1073741824 = a1 at *
                generalize mnF (fdY u) (P.take k) 1073741824 = a2 at *
                generalize mxF (fdX u) (P.take k) (-1073741824) = a3 at *
                generalize mxF (fdY u) (P.take k) (-1073741824) = a4 at *
                obtain ⟨X, Y, O⟩ := q
                dsimp only at x0 x1 x2 hq
                obtain ⟨⟨g1, g2⟩, g3, g4⟩ := hq
                have CF1 := Lib.hid (fun w => ref01_Floor X u w ⟨by omega, by omega⟩ ⟨by omega, by omega⟩)
                have CF2 := Lib.hid (fun w => ref01_Floor Y u w ⟨by omega, by omega⟩ ⟨by omega, by omega⟩)
                have HX : Hid (fdX u (X, Y, O) = X / u) := Lib.hid rfl
                have HY : Hid (fdY u (X, Y, O) = Y / u) := Lib.hid rfl
                rw [HX.out] at HN1 HN3
                rw [HY.out] at HN2 HN4
                generalize X / u = x' at *
                generalize Y / u = y' at *
                have zq := hQ.lt
                have zb2 : b2 < wr.heap.size := by omega
                clear g1 g2 g3 g4 HX HY

                go_wp2_with fail
                refine (CF1.out _).mono ?_
                rintro e wf ⟨rfl, hf1⟩
                have y0 := (hf1.cell (p := ⟨b2, o2 + k * 3 + 1, none⟩) zb2).trans x1
                have hQ1 := hQ.below hf1 zq
                clear x0 x1 x2
                go_wp2_with fail
                refine (CF2.out _).mono ?_
                rintro e wg ⟨rfl, hf2⟩
                have hQ2 := hQ1.below hf2 hQ1.lt
                have hbx2 := (hbx.trans (hf1.mono (by omega))).trans (hf2.mono (by have := hf1.size; omega))
                obtain ⟨⟨c0, c1, c2, c3⟩, d0, d1, d2, d3⟩ := hQ2.n4
                clear y0 hQ1 hf1 hf2
                go_wp2_with fail
                go_roundw
                case rel =>
                  obtain ⟨hQ3, hk3⟩ := store4 (b0 := .int .i64 (mnI a1 x')) (b1 := .int .i64 (mnI a2 y')) (b2 := .int .i64 (mxI a3 x')) (b3 := .int .i64 (mxI a4 y')) rfl hQ2
                  exact ⟨k + 1, by omega, by go_num, by rw [HN1.out, HN2.out, HN3.out, HN4.out]; exact hQ3, hbx2.trans (hk3.to_below (by have := hQ2.lt; omega) (by simp))⟩
                case measure => simp [intOf]; omega
              · have hke : k = P.length := by omega
                have hlk' : ¬ (k : Int) < (P.length : Int) := by omega
                have HTA : Hid (P.take P.length = P) := Lib.hid List.take_length
                subst hke
                rw [HTA.out, HF1.out, HF2.out, HF3.out, HF4.out] at hQ
                have d1 := floor_small (n := mnF fX P 2147483648) (u := u) (by have := HBX.out; omega) (by have := HBX.out; omega) (by omega)
                have d2 := floor_small (n := mnF fY P 2147483648) (u := u) (by have := HBY.out; omega) (by have := HBY.out; omega) (by omega)
                have d3 := floor_small (n := mxF fX P (-2147483648)) (u := u) (by have := HBX.out; omega) (by have := HBX.out; omega) (by omega)
                have d4 := floor_small (n := mxF fY P (-2147483648)) (u := u) (by have := HBY.out; omega) (by have := HBY.out; omega) (by omega)
                have d5 := Int.ediv_le_ediv (c := u) (by omega) HBX.out.2.1
                have d6 := Int.ediv_le_ediv (c := u) (by omega) HBY.out.2.1
                rw [← HEL.out] at d1 d5 hQ
                rw [← HEB.out] at d2 d6 hQ
                have hEW := HEW.out
                have hEH := HEH.out
                generalize mxF fX P (-2147483648) / u = g3 at *
                generalize mxF fY P (-2147483648) / u = g4 at *
                generalize bxL ls u = L at *
                generalize bxB ls u = Bt at *
                generalize bxW ls u = Wd0 at *
                generalize bxH ls u = Hd0 at *
                have HEW2 := Lib.hid (show g3 - L + 1 = Wd0 by omega)
                have HEH2 := Lib.hid (show g4 - Bt + 1 = Hd0 by omega)
                have hW1 : 1 ≤ Wd0 := by omega
                have hH1 : 1 ≤ Hd0 := by omega
                clear hEW hEH HEW HEH HEL HEB HBX HBY HTA hk HF1 HF2 HF3 HF4 HRP1 HQI hQ8 zq8 hlk' HPL HTT HU
                obtain ⟨d11, d12⟩ := d1
                obtain ⟨d21, d22⟩ := d2
                obtain ⟨d31, d32⟩ := d3
                obtain ⟨d41, d42⟩ := d4
                have wi1 : IntKind.i64.wrap (g3 - L) = g3 - L := IntWalk.i64_in _ (by omega)
                have wi2 : IntKind.i64.wrap (g3 - L + 1) = Wd0 := by rw [HEW2.out]; exact IntWalk.i64_in _ (by have := HEW2.out; omega)
                have wi3 : IntKind.i64.wrap (g4 - Bt) = g4 - Bt := IntWalk.i64_in _ (by omega)
                have wi4 : IntKind.i64.wrap (g4 - Bt + 1) = Hd0 := by rw [HEH2.out]; exact IntWalk.i64_in _ (by have := HEH2.out; omega)
                have HRR2 := Lib.hid (HRR1.out.below hbx (by omega))
                have hB2 := hB1.below hbx hpq
                have hbw3 := hbw2.trans (hbx.mono (by omega))
                clear HRR1 hB1 hbx hbw2
                have zq := hQ.lt
                obtain ⟨⟨c0, c1, c2, c3⟩, _⟩ := hQ.n4
                generalize P.length = pn at *
                go_wp2_with fail
                by_cases hok : (sideB Wd0 && sideB Hd0) = true
                · rw [if_neg (by rw [hok]; simp)] at HV
                  obtain ⟨hk1, hk2⟩ := Bool.and_eq_true_iff.1 hok
                  obtain ⟨m, rfl⟩ := Int.eq_ofNat_of_zero_le (sideB_true hk1).1
                  obtain ⟨n, rfl⟩ := Int.eq_ofNat_of_zero_le (sideB_true hk2).1
                  have hm := (sideB_true hk1).2
                  have hn := (sideB_true hk2).2
                  simp only [Int.toNat_natCast] at HV
                  refine (ref04_New_ok (m : Int) (n : Int) _ hok).mono ?_
                  rintro e wn ⟨g, rfl, hgw, hgl, hO, hbn⟩
                  have hmnt : ((m : Int) * (n : Int)).toNat = m * n := by rw [← Int.natCast_mul, Int.toNat_natCast]
                  rw [hmnt] at hO ⊢
                  clear hok hk1 hk2 hmnt c0 c1 c2 c3 wi1 wi2 wi3 wi4
                  have hQn := hQ.below hbn zq
                  have hBn := hB2.below hbn hB2.lt
                  have hbw4 := hbw3.trans (hbn.mono (by have := hB2.lt; omega))
                  have HRR3 := Lib.hid (HRR2.out.below hbn (by have := hB2.lt; omega))
                  clear hQ hB2 hbw3 HRR2
                  go_upto_region 20 with fail
                  refine wp_world (fun W2 hW2 => ?_)
                  obtain ⟨hQ14, hbn2, hsn⟩ := new1 hW2
                  clear hW2
                  have hQ8 := hQn.below hbn2 hQn.lt
                  have hB3 := hBn.below hbn2 hBn.lt
                  have hO3 := hO.below hbn2 hO.lt
                  have hbw5 := hbw4.trans (hbn2.mono (by have := hBn.lt; omega))
                  have HR3 := Lib.hid (HRR3.out.below hbn2 (by have := hBn.lt; omega))
                  generalize hqq : wn.heap.size = q14 at *
                  have hgq : g < q14 := hgl
                  have hq814 : q8 < q14 := by have := hQn.lt; omega
                  have zq14 := hQ14.lt
                  clear hqq hsn hbn2 hbn hQn hBn hO hbw4 HRR3 hgl
                  have hmn : m * n ≤ 9216 := Nat.mul_le_mul (show m ≤ 96 by omega) (show n ≤ 96 by omega)
                  have hLm : L + (m : Int) ≤ 1073741825 := by have := HEW2.out; omega
                  have hBm : Bt + (n : Int) ≤ 1073741825 := by have := HEH2.out; omega
                  clear HEW2 HEH2 d32 d42 d31 d41 d5 d6
                  rw [← dotT_zero ls u L Bt m n] at hO3
                  obtain ⟨⟨c0, c1, c2⟩, _⟩ := hQ14.three
                  have hg8 : q8 < g := by omega
                  have hg14 : g ≠ q14 := by omega
                  have HZ := Lib.hid (dotT_zero ls u L Bt m n)
                  go_wp2_with fail
                  go_loopw [16, 17] (fun s16 _ wr => ∃ k : Nat, k ≤ n ∧ s16 = .int .i64 k ∧ Kp [g] W2 wr ∧ Own Value.bool 4 wr g (dotT ls u L Bt m n (k * m))) (fun s16 _ _ => n - (intOf s16).toNat)
                  case atStart => exact ⟨0, Nat.zero_le _, rfl, Kp.refl _ _, by rw [Nat.zero_mul]; exact hO3⟩
                  case round =>
                    clear hO3 c0 c1 c2
                    obtain ⟨k, hk, rfl, hkp, how⟩ := hrel
                    obtain ⟨⟨c0, c1, c2⟩, _⟩ := (hkp.blk hQ14 (by simpa using fun e => hg14 e.symm)).three
                    by_cases hkn : k < n
                    · have hkn' : (k : Int) < (n : Int) := by omega
                      go_wp2_with fail
                      go_loopw [17] (fun s17 wx => ∃ i : Nat, i ≤ m ∧ s17 = .int .i64 i ∧ Kp [g] W2 wx ∧ Own Value.bool 4 wx g (dotT ls u L Bt m n (k * m + i))) (fun s17 _ => m - (intOf s17).toNat)
                      case atStart => exact ⟨0, Nat.zero_le _, rfl, hkp, how⟩
                      case round =>
                        clear how hkp c0 c1 c2
                        obtain ⟨i, hi, rfl, hkp, how⟩ := hrel
                        obtain ⟨⟨c0, c1, c2⟩, _⟩ := (hkp.blk hQ14 (by simpa using fun e => hg14 e.symm)).three
                        by_cases him : i < m
                        · have him' : (i : Int) < (m : Int) := by omega
                          obtain ⟨⟨l0, l1, _⟩, _⟩ := (hkp.blk hQ8 (by simp; omega)).n4
                          have hszx := hkp.size
                          have zg := how.lt
                          have z8 : q8 < wr.heap.size := by omega
                          have z14 : q14 < wr.heap.size := by omega
                          have hrlt := row_lt hkn him
                          obtain ⟨e1, e2, e3⟩ := row_int hkn him
                          have hst := Lib.hid (dotT_set (ls := ls) (u := u) (L := L) (B := Bt) hkn him)
                          have hpl : k * m + i < (dotT ls u L Bt m n (k * m + i)).length := by rw [dotT_len]; exact hrlt
                          have hc5 := how.cell hpl
                          rw [dotT_at hrlt] at hc5
                          have hf5 := how.frozen (k * m + i)
                          have w1' : IntKind.i64.wrap ((k : Int) * (m : Int)) = (k : Int) * (m : Int) := IntWalk.i64_in _ (by omega)
                          have w2' : IntKind.i64.wrap ((k : Int) * (m : Int) + (i : Int)) = ((k * m + i : Nat) : Int) := by rw [Int.natCast_add, Int.natCast_mul]; exact IntWalk.i64_in _ (by omega)
                          have CCx := Lib.hid (fun w h => CC.out (L + i) (Bt + k) w (in_mk ⟨by omega, by omega⟩) (in_mk ⟨by omega, by omega⟩) h)
                          generalize cvT ls u (L + i) (Bt + k) (u / 4) 4 = cv at *
                          have HOW := Lib.hid how
                          generalize hr2 : k * m + i = r at *
                          have HRR := Lib.hid hr2
                          have hrlt' : (r : Int) < ((m * n : Nat) : Int) := by omega
                          have w3' : IntKind.i64.wrap (L + (i : Int)) = L + (i : Int) := IntWalk.i64_in _ (by omega)
                          have w4' : IntKind.i64.wrap (Bt + (k : Int)) = Bt + (k : Int) := IntWalk.i64_in _ (by omega)
                          have hrx : RdPs wr wr.heap.size A ls := (HR3.out.below (hkp.to_below (B := p) (by omega) (by simp; omega)) (Nat.le_refl _)).more (by omega)
                          have HRX := Lib.hid hrx
                          clear hrx hr2 how e1 e2 e3 hpl
                          go_upto_region 28 with fail
                          refine wp_region_L 20 (fun w' => (∀ b o, b < wr.heap.size → w'.cell? ⟨b, o, none⟩ = wr.cell? ⟨b, o, none⟩) ∧ Below wr.heap.size wr w') (by kernel_rfl) ?_ (fun Wd hWd hS => ?_)
                          · (try dsimp only)
                            exact sb_of (Below.refl _ _).drew
                          (try dsimp only at hS)
                          refine wpT_take 0 (v := ?_) rfl (by kernel_rfl) (by kernel_rfl) (fun _ _ _ h => h) hS (Or.inl ⟨rfl, ?_⟩) ?_
                          rotate_left
                          · (intro w' hSw; (try dsimp only at hSw); go_simp; first | done | with_reducible rfl)
                          (try simp only [Act.put, List.setIfInBounds_toArray, List.set_cons_zero, List.set_cons_succ])
                          refine wpT_take 1 (v := ?_) rfl (by kernel_rfl) (by kernel_rfl) (fun _ _ _ h => h) hS (Or.inl ⟨rfl, ?_⟩) ?_
                          rotate_left
                          · (intro w' hSw; (try dsimp only at hSw); go_simp; first | done | with_reducible rfl)
                          (try simp only [Act.put, List.setIfInBounds_toArray, List.set_cons_zero, List.set_cons_succ])
                          refine wpT_take 2 (v := ?_) rfl (by kernel_rfl) (by kernel_rfl) (fun _ _ _ h => h) hS (Or.inl ⟨rfl, ?_⟩) ?_
                          rotate_left
                          · (intro w' hSw; (try dsimp only at hSw); go_simp; first | done | with_reducible rfl)
                          (try simp only [Act.put, List.setIfInBounds_toArray, List.set_cons_zero, List.set_cons_succ])
                          refine wpT_take 3 (v := ?_) rfl (by kernel_rfl) (by kernel_rfl) (fun _ _ _ h => h) hS (Or.inl ⟨rfl, ?_⟩) ?_
                          rotate_left
                          · (intro w' hSw; (try dsimp only at hSw); go_simp; first | done | with_reducible rfl)
                          (try simp only [Act.put, List.setIfInBounds_toArray, List.set_cons_zero, List.set_cons_succ])
                          refine wpT_take 4 (v := ?_) rfl (by kernel_rfl) (by kernel_rfl) (fun _ _ _ h => h) hS (Or.inl ⟨rfl, ?_⟩) ?_
                          rotate_left
                          · (intro w' hSw; (try dsimp only at hSw); go_simp; first | done | with_reducible rfl)
                          (try simp only [Act.put, List.setIfInBounds_toArray, List.set_cons_zero, List.set_cons_succ])
                          refine wpT_take 5 (v := ?_) rfl (by kernel_rfl) (by kernel_rfl) (fun _ _ _ h => h) hS (Or.inl ⟨rfl, ?_⟩) ?_
                          rotate_left
                          · (intro w' hSw; (try dsimp only at hSw); go_simp; first | done | with_reducible rfl)
                          (try simp only [Act.put, List.setIfInBounds_toArray, List.set_cons_zero, List.set_cons_succ])
                          refine wpT_take 6 (v := ?_) rfl (by kernel_rfl) (by kernel_rfl) (fun _ _ _ h => h) hS (Or.inl ⟨rfl, ?_⟩) ?_
                          rotate_left
                          · (intro w' hSw; (try dsimp only at hSw); go_simp; first | done | with_reducible rfl)
                          (try simp only [Act.put, List.setIfInBounds_toArray, List.set_cons_zero, List.set_cons_succ])
                          refine wpT_take 7 (v := ?_) rfl (by kernel_rfl) (by kernel_rfl) (fun _ _ _ h => h) hS (Or.inl ⟨rfl, ?_⟩) ?_
                          rotate_left
                          · (intro w' hSw; (try dsimp only at hSw); go_simp; first | done | with_reducible rfl)
                          (try simp only [Act.put, List.setIfInBounds_toArray, List.set_cons_zero, List.set_cons_succ])
                          refine wpT_take 8 (v := ?_) rfl (by kernel_rfl) (by kernel_rfl) (fun _ _ _ h => h) hS (Or.inl ⟨rfl, ?_⟩) ?_
                          rotate_left
                          · (intro w' hSw; (try dsimp only at hSw); go_simp; first | done | with_reducible rfl)
                          (try simp only [Act.put, List.setIfInBounds_toArray, List.set_cons_zero, List.set_cons_succ])
                          refine wpT_take 9 (v := ?_) rfl (by kernel_rfl) (by kernel_rfl) (fun _ _ _ h => h) hS (Or.inl ⟨rfl, ?_⟩) ?_
                          rotate_left
                          · (intro w' hSw; (try dsimp only at hSw); go_simp; first | done | with_reducible rfl)
                          (try simp only [Act.put, List.setIfInBounds_toArray, List.set_cons_zero, List.set_cons_succ])
                          refine wpT_take 10 (v := ?_) rfl (by kernel_rfl) (by kernel_rfl) (fun _ _ _ h => h) hS (Or.inl ⟨rfl, ?_⟩) ?_
                          rotate_left
                          · (intro w' hSw; (try dsimp only at hSw); go_simp; first | done | with_reducible rfl)
                          (try simp only [Act.put, List.setIfInBounds_toArray, List.set_cons_zero, List.set_cons_succ])
                          refine wpT_take 11 (v := ?_) rfl (by kernel_rfl) (by kernel_rfl) (fun _ _ _ h => h) hS (Or.inl ⟨rfl, ?_⟩) ?_
                          rotate_left
                          · (intro w' hSw; (try dsimp only at hSw); go_simp; first | done | with_reducible rfl)
                          (try simp only [Act.put, List.setIfInBounds_toArray, List.set_cons_zero, List.set_cons_succ])
                          refine wpT_take 12 (v := ?_) rfl (by kernel_rfl) (by kernel_rfl) (fun _ _ _ h => h) hS (Or.inl ⟨rfl, ?_⟩) ?_
                          rotate_left
                          · (intro w' hSw; (try dsimp only at hSw); go_simp; first | done | with_reducible rfl)
                          (try simp only [Act.put, List.setIfInBounds_toArray, List.set_cons_zero, List.set_cons_succ])
                          refine wpT_take 13 (v := ?_) rfl (by kernel_rfl) (by kernel_rfl) (fun _ _ _ h => h) hS (Or.inl ⟨rfl, ?_⟩) ?_
                          rotate_left
                          · (intro w' hSw; (try dsimp only at hSw); go_simp; first | done | with_reducible rfl)
                          (try simp only [Act.put, List.setIfInBounds_toArray, List.set_cons_zero, List.set_cons_succ])
                          refine wpT_take 14 (v := ?_) rfl (by kernel_rfl) (by kernel_rfl) (fun _ _ _ h => h) hS (Or.inl ⟨rfl, ?_⟩) ?_
                          rotate_left
                          · (intro w' hSw; (try dsimp only at hSw); go_simp; first | done | with_reducible rfl)
                          (try simp only [Act.put, List.setIfInBounds_toArray, List.set_cons_zero, List.set_cons_succ])
                          refine wpT_take 15 (v := ?_) rfl (by kernel_rfl) (by kernel_rfl) (fun _ _ _ h => h) hS (Or.inl ⟨rfl, ?_⟩) ?_
                          rotate_left
                          · (intro w' hSw; (try dsimp only at hSw); go_simp; first | done | with_reducible rfl)
                          (try simp only [Act.put, List.setIfInBounds_toArray, List.set_cons_zero, List.set_cons_succ])
                          refine wpT_take 16 (v := ?_) rfl (by kernel_rfl) (by kernel_rfl) (fun _ _ _ h => h) hS (Or.inl ⟨rfl, ?_⟩) ?_
                          rotate_left
                          · (intro w' hSw; (try dsimp only at hSw); go_simp; first | done | with_reducible rfl)
                          (try simp only [Act.put, List.setIfInBounds_toArray, List.set_cons_zero, List.set_cons_succ])
                          refine wpT_take 17 (v := ?_) rfl (by kernel_rfl) (by kernel_rfl) (fun _ _ _ h => h) hS (Or.inl ⟨rfl, ?_⟩) ?_
                          rotate_left
                          · (intro w' hSw; (try dsimp only at hSw); go_simp; first | done | with_reducible rfl)
                          (try simp only [Act.put, List.setIfInBounds_toArray, List.set_cons_zero, List.set_cons_succ])
                          refine wpT_one 18 rfl (by kernel_rfl) (fun K hK => ?_)
                          go_simp
                          go_at_call 57
                          refine (CCx.out _ (HRX.out.on hS.2)).mono ?_
                          rintro e wc ⟨rfl, hbc⟩
                          have hbS := hS.2.trans (hbc.mono hS.2.size)
                          refine hK.out _ _ ?_ (fun hS => ?_)
                          · (try dsimp only)
                            exact sb_of hbS
                          clear hK K
                          (try simp only [Act.put, List.setIfInBounds_toArray, List.set_cons_zero, List.set_cons_succ])
                          (try dsimp only at hS)
                          refine wpT_take 19 (v := ?_) rfl (by kernel_rfl) (by kernel_rfl) (fun _ _ _ h => h) hS (Or.inl ⟨rfl, ?_⟩) ?_
                          rotate_left
                          · (intro w' hSw; (try dsimp only at hSw); go_simp; first | done | with_reducible rfl)
                          (try simp only [Act.put, List.setIfInBounds_toArray, List.set_cons_zero, List.set_cons_succ])
                          refine wpT_tail (by rfl) (by kernel_rfl) ?_
                          (try simp only [List.drop_succ_cons, List.drop_zero])
                          have hbz := hS.2
                          have hc6 := hbz.cell (p := ⟨g, r, none⟩) zg
                          rw [hc5] at hc6
                          have hf6 := hbz.frozen (p := ⟨g, r, none⟩) zg
                          rw [hf5] at hf6
                          have ho6 := HOW.out.below hbz zg
                          have ho7 := Lib.hid (ho6.set_ r (decide (2 ≤ cv)))
                          rw [hst.out] at ho7
                          have hkp6 := hkp.below hbz
                          clear hS hbc hWd hc5 hf5
                          go_wp2_with fail
                          go_roundw
                          case rel => exact ⟨i + 1, by omega, by go_num, hkp6.set (.inl (by simp)) _ _, by rw [show k * m + (i + 1) = r + 1 by have := HRR.out; omega]; exact ho7.out⟩
                          case measure => simp [intOf]; omega
                        · have hie : i = m := by omega
                          have him' : ¬ (i : Int) < (m : Int) := by omega
                          have HKM : Hid (k * m + i = (k + 1) * m) := Lib.hid (by rw [Nat.add_mul, Nat.one_mul]; omega)
                          clear hie
                          go_wp2
                          go_roundw
                          case rel => exact ⟨k + 1, by omega, by go_num, hkp, by rw [← HKM.out]; exact how⟩
                          case measure => simp [intOf]; omega
                    · have hke : k = n := by omega
                      have hkn' : ¬ (k : Int) < (n : Int) := by omega
                      subst hke
                      rw [Nat.mul_comm k m, dotT_all] at how
                      have hB4 := hkp.blk hB3 (by simp; omega)
                      obtain ⟨⟨l0, l1, _⟩, _⟩ := (hkp.blk hQ8 (by simp; omega)).n4
                      obtain ⟨e0, e1, e2, e3, e4⟩ := hB4.five
                      have f0 := hB4.frozen 0
                      have f1 := hB4.frozen 1
                      have f2 := hB4.frozen 2
                      have f3 := hB4.frozen 3
                      have f4 := hB4.frozen 4
                      have hszx := hkp.size
                      have hbw6 := hbw5.trans (hkp.to_below (B := p) (by omega) (by simp; omega))
                      go_wp2
                      obtain ⟨hR9, hk9⟩ := store5 (w := wr) (b0 := .int .i64 L) (b1 := .int .i64 Bt) (b2 := .int .i64 m) (b3 := .int .i64 k) (b4 := .slice (some ⟨g, 0, none⟩) (m * k) (m * k)) rfl hB4
                      have hO9 : Own Value.bool 4 _ g (dotL ls u L Bt m k) := hk9.blk how.blk (by simp; omega)
                      have hB9 := hbw6.trans (hk9.to_below (B := p) (by omega) (by simp))
                      generalize ((((World.setCell wr ⟨p, 0, none⟩ (.int .i64 L)).setCell ⟨p, 1, none⟩ (.int .i64 Bt)).setCell ⟨p, 2, none⟩ (.int .i64 m)).setCell ⟨p, 3, none⟩ (.int .i64 k)).setCell ⟨p, 4, none⟩ (.slice (some ⟨g, 0, none⟩) (m * k) (m * k)) = W9 at *
                      obtain ⟨s0, s1, s2, s3, s4⟩ := hR9.five
                      refine bodyPost_ret (v := .tuple #[.agg #[.int .i64 L, .int .i64 Bt, .int .i64 m, .int .i64 k, .slice (some ⟨g, 0, none⟩) (m * k) (m * k)], .int .i64 0]) (by simp [results, Try.results59, go_sem, s0, s1, s2, s3, s4]) rfl ⟨?_, by rw [HP.out]; exact hB9⟩
                      rw [HV.out]
                      exact ⟨some ⟨g, 0, none⟩, m * k, by dsimp only; rw [dotL_len], hO9.rd hO9.lt⟩
                · rw [if_pos (by simpa using hok)] at HV
                  refine (ref04_New_no Wd0 Hd0 _ (by simpa using hok)).mono ?_
                  rintro e wn ⟨rfl, hbn⟩
                  have hBn := hB2.below hbn hB2.lt
                  have hbw4 := hbw3.trans (hbn.mono (by have := hB2.lt; omega))
                  clear hQ hB2 hbw3 HRR2 CC c0 c1 c2 c3 wi1 wi2 wi3 wi4
                  go_upto_region 20 with fail
                  refine wp_world (fun W2 hW2 => ?_)
                  obtain ⟨hQ14, hbn2, hsn⟩ := new1 hW2
                  clear hW2
                  have hB3 := hBn.below hbn2 hBn.lt
                  have hbw5 := hbw4.trans (hbn2.mono (by have := hBn.lt; omega))
                  have hz3 := hB3.lt
                  generalize hqq : wn.heap.size = q14 at *
                  clear hqq hsn hbn2 hbn hBn hbw4
                  obtain ⟨e0, e1, e2, e3, e4⟩ := hB3.five
                  have f0 := hB3.frozen 0
                  have f1 := hB3.frozen 1
                  have f2 := hB3.frozen 2
                  have f3 := hB3.frozen 3
                  have f4 := hB3.frozen 4
                  go_wp2
                  obtain ⟨hR9, hk9⟩ := store5 (w := W2) (b0 := .int .i64 0) (b1 := .int .i64 0) (b2 := .int .i64 0) (b3 := .int .i64 0) (b4 := .slice none 0 0) rfl hB3
                  have hB9 := hbw5.trans (hk9.to_below (by omega) (by simp))
                  generalize ((((World.setCell W2 ⟨p, 0, none⟩ (.int .i64 0)).setCell ⟨p, 1, none⟩ (.int .i64 0)).setCell ⟨p, 2, none⟩ (.int .i64 0)).setCell ⟨p, 3, none⟩ (.int .i64 0)).setCell ⟨p, 4, none⟩ (.slice none 0 0) = W9 at *
                  obtain ⟨s0, s1, s2, s3, s4⟩ := hR9.five
                  exact bodyPost_ret (v := .tuple #[zPic, .int .i64 13]) (by simp [results, Try.results59, go_sem, s0, s1, s2, s3, s4]) rfl ⟨by rw [HV.out]; exact isPic_none _ _, by rw [HP.out]; exact hB9⟩
end Go.Proofs.Ytlanefdeeanpnaa
