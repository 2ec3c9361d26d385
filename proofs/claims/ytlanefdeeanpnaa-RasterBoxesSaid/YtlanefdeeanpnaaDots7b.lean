/-
  Contract of Dots of the program's raster package, where it draws or the picture is too large. Conditions: at most 1000 polygons with at most 1000 points, read below the heap's size. (Printed by gendots7.py.)
-/
import Derived.Test.YtlanefdeeanpnaaDots7
namespace Go.Proofs.Ytlanefdeeanpnaa
set_option linter.unusedVariables false
set_option linter.unusedSimpArgs false
open Go.RowKit
attribute [local go_sem ↓] Go.wp_at_zero Go.wp_at_succ

theorem mn_if (a b : Int) : (if b < a then b else a) = mnI a b := rfl
theorem mx_if (a b : Int) : (if a < b then b else a) = mxI a b := rfl
set_option maxHeartbeats 8000000 in
set_option maxRecDepth 100000 in
theorem Dots_yes (ls : List (List Pt)) (A : Option Addr) (c : Nat) (u : Int) (w : World) (hl : ls.length ≤ 1000) (hp : ∀ p ∈ ls, p.length ≤ 1000) (hu : validB u = true) (ha : allIn ls = true) (ht : 0 < tot ls) (hr : RdPs w w.heap.size A ls) :
    Calls Try.prog 58 #[.slice A ls.length c, .int .i64 u] w fun e w' =>
      (∀ m n : Nat, bxW ls u = m → bxH ls u = n → m ≤ 96 → n ≤ 96 → ∃ g : Nat, e = .returned (.tuple #[.agg #[.int .i64 (bxL ls u), .int .i64 (bxB ls u), .int .i64 m, .int .i64 n, .slice (some ⟨g, 0, none⟩) (m * n) (m * n)], .int .i64 0]) ∧ Own Value.bool 4 w' g (dotL ls u (bxL ls u) (bxB ls u) m n)) ∧
      ((sideB (bxW ls u) && sideB (bxH ls u)) = false → e = .returned (.tuple #[zPic, .int .i64 13])) ∧ Below w.heap.size w w' := by
  have CR := Lib.hid (fun w h => raster_ranged ls A c w hl hp h)
  rw [show rangedN ls = (tot ls : Int) from if_pos ha] at CR
  have CV := Lib.hid (raster_valid u)
  rw [hu] at CV
  obtain ⟨hu1, hu2, hu3⟩ := valid_yes hu
  have HR := Lib.hid hr
  have HPL := Lib.hid (fun i (h : i < ls.length) => hp ls[i] (List.getElem_mem h))
  have CC := Lib.hid (fun (x y : Int) (hx : -1073741824 ≤ x ∧ x ≤ 1073741824) (hy : -1073741824 ≤ y ∧ y ≤ 1073741824) w h => raster_cover ls A c u x y (u / 4) w hl hp ha ⟨hu1, hu2⟩ (by omega) hx hy h)
  have hne : pts ls ≠ [] := fun h => by have := pts_len ls; rw [h] at this; simp at this; omega
  have HBX := Lib.hid (box_in (f := fX) (R := 1073741824) (m := 2147483648) (M := -2147483648) hne (fun q hq => (ptIn_yes (pts_in ha q hq)).1) (by omega) (by omega))
  have HBY := Lib.hid (box_in (f := fY) (R := 1073741824) (m := 2147483648) (M := -2147483648) hne (fun q hq => (ptIn_yes (pts_in ha q hq)).2) (by omega) (by omega))
  have HEL : Hid (bxL ls u = mnF fX (pts ls) 2147483648 / u) := Lib.hid rfl
  have HEB : Hid (bxB ls u = mnF fY (pts ls) 2147483648 / u) := Lib.hid rfl
  have HEW : Hid (bxW ls u = mxF fX (pts ls) (-2147483648) / u - bxL ls u + 1) := Lib.hid rfl
  have HEH : Hid (bxH ls u = mxF fY (pts ls) (-2147483648) / u - bxB ls u + 1) := Lib.hid rfl
  have HTA : Hid (pts (ls.take ls.length) = pts ls) := Lib.hid (by rw [List.take_of_length_le (Nat.le_refl _)])
  have htp : (0 : Int) < (tot ls : Int) := by omega
  have hu0 : ¬ u = 0 := by omega
  clear hr hp hu ha hne hu3 ht
  generalize tot ls = tn at *
  go_enter Try.func58, Try.ntmps58
  go_wp2_with fail
  refine calls_world (fun W0 hW0 => ?_)
  obtain ⟨hB0, hbw, hs0⟩ := new1 hW0
  clear hW0
  generalize hq : w.heap.size = p at *
  have HP := Lib.hid hq
  clear hq
  refine (CR.out _ ((HR.out.below hbw (Nat.le_refl _)).more (by omega))).mono ?_
  rintro e w1 ⟨rfl, hb1⟩
  have hB1 := hB0.below hb1 hB0.lt
  have hbw1 := hbw.trans (hb1.mono (by omega))
  have hz := hB1.lt
  clear hB0 hbw hs0 hb1 CR
  go_wp2_with fail
  refine (CV.out _).mono ?_
  rintro e wa ⟨rfl, rfl⟩
  clear CV
  have ht1 : ¬ (tn : Int) < 0 := by omega
  have ht2 : ¬ (tn : Int) = 0 := by omega
  have ht3 : ¬ tn = 0 := by omega
  go_wp2_with fail
  go_loopw [7, 8, 9, 10, 37] (fun s7 s8 s9 s10 s37 wr => ∃ i : Nat, i ≤ ls.length ∧ s37 = .int .i64 i ∧ s7 = .int .i64 (mnF fX (pts (ls.take i)) 2147483648) ∧ s8 = .int .i64 (mnF fY (pts (ls.take i)) 2147483648) ∧ s9 = .int .i64 (mxF fX (pts (ls.take i)) (-2147483648)) ∧ s10 = .int .i64 (mxF fY (pts (ls.take i)) (-2147483648)) ∧ Below w1.heap.size w1 wr) (fun _ _ _ _ s37 _ => ls.length - (intOf s37).toNat)
  case atStart => exact ⟨0, Nat.zero_le _, rfl, rfl, rfl, rfl, rfl, Below.refl _ _⟩
  case round =>
    obtain ⟨i, hi, rfl, rfl, rfl, rfl, rfl, hbr⟩ := hrel
    have hszr := hbr.size
    by_cases hlt : i < ls.length
    · have hlt' : (i : Int) < (ls.length : Int) := by omega
      obtain ⟨b, o, rfl, hb, Ak, ck, hck, hrk⟩ := (HR.out.below (hbw1.trans (hbr.mono (by omega))) (Nat.le_refl _)).at_ hlt
      have HRP := Lib.hid hrk
      have hpl := HPL.out i hlt
      have HPS := Lib.hid (pts_succ hlt)
      have hbz : b < wr.heap.size := by omega
      generalize ls[i] = pl at *
      clear hrk
      go_wp2_with fail
      go_loopw [7, 8, 9, 10, 43] (fun s7 s8 s9 s10 s43 wx => ∃ k : Nat, k ≤ pl.length ∧ s43 = .int .i64 k ∧ s7 = .int .i64 (mnF fX (pts (ls.take i) ++ pl.take k) 2147483648) ∧ s8 = .int .i64 (mnF fY (pts (ls.take i) ++ pl.take k) 2147483648) ∧ s9 = .int .i64 (mxF fX (pts (ls.take i) ++ pl.take k) (-2147483648)) ∧ s10 = .int .i64 (mxF fY (pts (ls.take i) ++ pl.take k) (-2147483648)) ∧ Below wr.heap.size wr wx) (fun _ _ _ _ s43 _ => pl.length - (intOf s43).toNat)
      case atStart => exact ⟨0, Nat.zero_le _, rfl, by simp, by simp, by simp, by simp, Below.refl _ _⟩
      case round =>
        clear hck
        obtain ⟨k, hk, rfl, rfl, rfl, rfl, rfl, hbx⟩ := hrel
        by_cases hlk : k < pl.length
        · have hlk' : (k : Int) < (pl.length : Int) := by omega
          obtain ⟨b2, o2, rfl, hb2, x0, x1, x2⟩ := (HRP.out.below hbx (by omega)).at_ hlk
          have HQS : Hid (pts (ls.take i) ++ pl.take (k + 1) = (pts (ls.take i) ++ pl.take k) ++ [pl[k]]) := Lib.hid (by rw [List.take_succ_eq_append_getElem hlk, List.append_assoc])
          generalize pl[k] = q at *
          have HN1 := Lib.hid (mnF_snoc fX (pts (ls.take i) ++ pl.take k) q 2147483648)
          have HN2 := Lib.hid (mnF_snoc fY (pts (ls.take i) ++ pl.take k) q 2147483648)
          have HN3 := Lib.hid (mxF_snoc fX (pts (ls.take i) ++ pl.take k) q (-2147483648))
          have HN4 := Lib.hid (mxF_snoc fY (pts (ls.take i) ++ pl.take k) q (-2147483648))
          rw [← HQS.out] at HN1 HN2 HN3 HN4
          generalize mnF fX (pts (ls.take i) ++ pl.take k) 2147483648 = a1 at *
          generalize mnF fY (pts (ls.take i) ++ pl.take k) 2147483648 = a2 at *
          generalize mxF fX (pts (ls.take i) ++ pl.take k) (-2147483648) = a3 at *
          generalize mxF fY (pts (ls.take i) ++ pl.take k) (-2147483648) = a4 at *
          obtain ⟨X, Y, O⟩ := q
          dsimp only at x0 x1 x2
          have hzx := hbx.size
          go_upto_region 15 with fail
          refine wp_world (fun W1 hW1 => ?_)
          obtain ⟨hQ, hbn, hsn⟩ := new1 hW1
          clear hW1
          have hbx1 := hbx.trans (hbn.mono hzx)
          have zq := hQ.lt
          obtain ⟨⟨v0, v1, v2⟩, _⟩ := hQ.three
          generalize hqq : wr.heap.size = qq at *
          clear hqq hsn hbn x0 x1 x2
          refine wp_region_L 19 (fun w' => (∀ b o, b < W1.heap.size → w'.cell? ⟨b, o, none⟩ = W1.cell? ⟨b, o, none⟩) ∧ Below W1.heap.size W1 w') (by kernel_rfl) ?_ (fun Wd hWd hS => ?_)
          · (try dsimp only)
            exact sb_of (Below.refl _ _).drew
          (try dsimp only at hS)
          refine wpT_take 0 (v := ?_) rfl (by kernel_rfl) (by kernel_rfl) (fun _ _ _ h => h) hS (Or.inl ⟨rfl, ?_⟩) ?_
          rotate_left
          · (intro w' hSw; (try dsimp only at hSw); go_simp; first | done | with_reducible rfl)
          (try simp only [Act.put, List.setIfInBounds_toArray, List.set_cons_zero, List.set_cons_succ])
          refine wpT_take 1 (v := ?_) rfl (by kernel_rfl) (by kernel_rfl) (fun _ _ _ h => h) hS (Or.inl ⟨rfl, ?_⟩) ?_
          rotate_left
          · (intro w' hSw; (try dsimp only at hSw); go_simp; first | done | with_reducible rfl)
          (try simp only [Act.put, List.setIfInBounds_toArray, List.set_cons_zero, List.set_cons_succ])
          refine wpT_take 2 (v := ?_) rfl (by kernel_rfl) (by kernel_rfl) (fun _ _ _ h => h) hS (Or.inl ⟨rfl, ?_⟩) ?_
          rotate_left
          · (intro w' hSw; (try dsimp only at hSw); go_simp; first | done | with_reducible rfl)
          (try simp only [Act.put, List.setIfInBounds_toArray, List.set_cons_zero, List.set_cons_succ])
          refine wpT_take 3 (v := ?_) rfl (by kernel_rfl) (by kernel_rfl) (fun _ _ _ h => h) hS (Or.inl ⟨rfl, ?_⟩) ?_
          rotate_left
          · (intro w' hSw; (try dsimp only at hSw); go_simp; first | done | with_reducible rfl)
          (try simp only [Act.put, List.setIfInBounds_toArray, List.set_cons_zero, List.set_cons_succ])
          refine wpT_take 4 (v := ?_) rfl (by kernel_rfl) (by kernel_rfl) (fun _ _ _ h => h) hS (Or.inl ⟨rfl, ?_⟩) ?_
          rotate_left
          · (intro w' hSw; (try dsimp only at hSw); go_simp; first | done | with_reducible rfl)
          (try simp only [Act.put, List.setIfInBounds_toArray, List.set_cons_zero, List.set_cons_succ])
          refine wpT_take 5 (v := ?_) rfl (by kernel_rfl) (by kernel_rfl) (fun _ _ _ h => h) hS (Or.inl ⟨rfl, ?_⟩) ?_
          rotate_left
          · (intro w' hSw; (try dsimp only at hSw); go_simp; first | done | with_reducible rfl)
          (try simp only [Act.put, List.setIfInBounds_toArray, List.set_cons_zero, List.set_cons_succ])
          refine wpT_take 6 (v := ?_) rfl (by kernel_rfl) (by kernel_rfl) (fun _ _ _ h => h) hS (Or.inl ⟨rfl, ?_⟩) ?_
          rotate_left
          · (intro w' hSw; (try dsimp only at hSw); go_simp; first | done | with_reducible rfl)
          (try simp only [Act.put, List.setIfInBounds_toArray, List.set_cons_zero, List.set_cons_succ])
          refine wpT_take 7 (v := ?_) rfl (by kernel_rfl) (by kernel_rfl) (fun _ _ _ h => h) hS (Or.inl ⟨rfl, ?_⟩) ?_
          rotate_left
          · (intro w' hSw; (try dsimp only at hSw); go_simp; first | done | with_reducible rfl)
          (try simp only [Act.put, List.setIfInBounds_toArray, List.set_cons_zero, List.set_cons_succ])
          refine wpT_take 8 (v := ?_) rfl (by kernel_rfl) (by kernel_rfl) (fun _ _ _ h => h) hS (Or.inl ⟨rfl, ?_⟩) ?_
          rotate_left
          · (intro w' hSw; (try dsimp only at hSw); go_simp; first | done | with_reducible rfl)
          (try simp only [Act.put, List.setIfInBounds_toArray, List.set_cons_zero, List.set_cons_succ])
          refine wpT_take 9 (v := ?_) rfl (by kernel_rfl) (by kernel_rfl) (fun _ _ _ h => h) hS (Or.inl ⟨rfl, ?_⟩) ?_
          rotate_left
          · (intro w' hSw; (try dsimp only at hSw); go_simp; first | done | with_reducible rfl)
          (try simp only [Act.put, List.setIfInBounds_toArray, List.set_cons_zero, List.set_cons_succ])
          refine wpT_take 10 (v := ?_) rfl (by kernel_rfl) (by kernel_rfl) (fun _ _ _ h => h) hS (Or.inl ⟨rfl, ?_⟩) ?_
          rotate_left
          · (intro w' hSw; (try dsimp only at hSw); go_simp; first | done | with_reducible rfl)
          (try simp only [Act.put, List.setIfInBounds_toArray, List.set_cons_zero, List.set_cons_succ])
          refine wpT_take 11 (v := ?_) rfl (by kernel_rfl) (by kernel_rfl) (fun _ _ _ h => h) hS (Or.inl ⟨rfl, ?_⟩) ?_
          rotate_left
          · (intro w' hSw; (try dsimp only at hSw); go_simp; first | done | with_reducible rfl)
          (try simp only [Act.put, List.setIfInBounds_toArray, List.set_cons_zero, List.set_cons_succ])
          refine wpT_take 12 (v := ?_) rfl (by kernel_rfl) (by kernel_rfl) (fun _ _ _ h => h) hS (Or.inl ⟨rfl, ?_⟩) ?_
          rotate_left
          · (intro w' hSw; (try dsimp only at hSw); go_simp; first | done | with_reducible rfl)
          (try simp only [Act.put, List.setIfInBounds_toArray, List.set_cons_zero, List.set_cons_succ])
          refine wpT_take 13 (v := ?_) rfl (by kernel_rfl) (by kernel_rfl) (fun _ _ _ h => h) hS (Or.inl ⟨rfl, ?_⟩) ?_
          rotate_left
          · (intro w' hSw; (try dsimp only at hSw); go_simp; first | done | with_reducible rfl)
          (try simp only [Act.put, List.setIfInBounds_toArray, List.set_cons_zero, List.set_cons_succ])
          refine wpT_take 14 (v := ?_) rfl (by kernel_rfl) (by kernel_rfl) (fun _ _ _ h => h) hS (Or.inl ⟨rfl, ?_⟩) ?_
          rotate_left
          · (intro w' hSw; (try dsimp only at hSw); go_simp; first | done | with_reducible rfl)
          (try simp only [Act.put, List.setIfInBounds_toArray, List.set_cons_zero, List.set_cons_succ])
          refine wpT_take 15 (v := ?_) rfl (by kernel_rfl) (by kernel_rfl) (fun _ _ _ h => h) hS (Or.inl ⟨rfl, ?_⟩) ?_
          rotate_left
          · (intro w' hSw; (try dsimp only at hSw); go_simp; first | done | with_reducible rfl)
          (try simp only [Act.put, List.setIfInBounds_toArray, List.set_cons_zero, List.set_cons_succ])
          refine wpT_take 16 (v := ?_) rfl (by kernel_rfl) (by kernel_rfl) (fun _ _ _ h => h) hS (Or.inl ⟨rfl, ?_⟩) ?_
          rotate_left
          · (intro w' hSw; (try dsimp only at hSw); go_simp; first | done | with_reducible rfl)
          (try simp only [Act.put, List.setIfInBounds_toArray, List.set_cons_zero, List.set_cons_succ])
          refine wpT_take 17 (v := ?_) rfl (by kernel_rfl) (by kernel_rfl) (fun _ _ _ h => h) hS (Or.inl ⟨rfl, ?_⟩) ?_
          rotate_left
          · (intro w' hSw; (try dsimp only at hSw); go_simp; first | done | with_reducible rfl)
          (try simp only [Act.put, List.setIfInBounds_toArray, List.set_cons_zero, List.set_cons_succ])
          refine wpT_take 18 (v := ?_) rfl (by kernel_rfl) (by kernel_rfl) (fun _ _ _ h => h) hS (Or.inl ⟨rfl, ?_⟩) ?_
          rotate_left
          · (intro w' hSw; (try dsimp only at hSw); go_simp; first | done | with_reducible rfl)
          (try simp only [Act.put, List.setIfInBounds_toArray, List.set_cons_zero, List.set_cons_succ])
          refine wpT_tail (by rfl) (by kernel_rfl) ?_
          (try simp only [List.drop_succ_cons, List.drop_zero])
          have hbx2 := hbx1.trans (hWd.mono hbx1.size)
          clear hS hWd
          go_wp2_with fail
          go_roundw
          case rel => exact ⟨k + 1, by omega, by go_num, by rw [HN1.out]; rfl, by rw [HN2.out]; rfl, by rw [HN3.out]; rfl, by rw [HN4.out]; rfl, hbx2⟩
          case measure => simp [intOf]; omega
        · have hke : k = pl.length := by omega
          have hlk' : ¬ (k : Int) < (pl.length : Int) := by omega
          have HKE : Hid (pts (ls.take i) ++ pl.take k = pts (ls.take (i + 1))) := Lib.hid (by rw [HPS.out, show pl.take k = pl from List.take_of_length_le (by omega)])
          rw [HKE.out]
          clear hke
          go_wp2
          go_roundw
          case rel => exact ⟨i + 1, by omega, by go_num, rfl, rfl, rfl, rfl, hbr.trans (hbx.mono hszr)⟩
          case measure => simp [intOf]; omega
    · have hie : i = ls.length := by omega
      have hlt' : ¬ (i : Int) < (ls.length : Int) := by omega
      subst hie
      rw [HTA.out]
      obtain ⟨hx1, hx2, hx3⟩ := HBX.out
      obtain ⟨hy1, hy2, hy3⟩ := HBY.out
      generalize mnF fX (pts ls) 2147483648 = a1 at *
      generalize mnF fY (pts ls) 2147483648 = a2 at *
      generalize mxF fX (pts ls) (-2147483648) = a3 at *
      generalize mxF fY (pts ls) (-2147483648) = a4 at *
      have CO1 := Lib.hid (fun w => raster_over a1 u w ⟨by omega, by omega⟩ ⟨hu1, hu2⟩)
      have CO2 := Lib.hid (fun w => raster_over a2 u w ⟨by omega, by omega⟩ ⟨hu1, hu2⟩)
      have CO3 := Lib.hid (fun w => raster_over a3 u w ⟨by omega, by omega⟩ ⟨hu1, hu2⟩)
      have CO4 := Lib.hid (fun w => raster_over a4 u w ⟨by omega, by omega⟩ ⟨hu1, hu2⟩)
      have d1 := floor_small (n := a1) (u := u) (by omega) (by omega) (by omega)
      have d2 := floor_small (n := a2) (u := u) (by omega) (by omega) (by omega)
      have d3 := floor_small (n := a3) (u := u) (by omega) (by omega) (by omega)
      have d4 := floor_small (n := a4) (u := u) (by omega) (by omega) (by omega)
      have d5 := Int.ediv_le_ediv (c := u) (by omega) hx2
      have d6 := Int.ediv_le_ediv (c := u) (by omega) hy2
      rw [← HEL.out] at CO1 d1 d5
      rw [← HEB.out] at CO2 d2 d6
      have hEW := HEW.out
      have hEH := HEH.out
      generalize a3 / u = g3 at *
      generalize a4 / u = g4 at *
      generalize hLE : bxL ls u = L at *
      have HLE := Lib.hid hLE
      clear hLE
      generalize hBE : bxB ls u = Bt at *
      have HBE := Lib.hid hBE
      clear hBE
      generalize hWE : bxW ls u = Wd0 at *
      have HWE := Lib.hid hWE
      clear hWE
      generalize hHE : bxH ls u = Hd0 at *
      have HHE := Lib.hid hHE
      clear hHE
      have HEW2 := Lib.hid (show g3 - L + 1 = Wd0 by omega)
      have HEH2 := Lib.hid (show g4 - Bt + 1 = Hd0 by omega)
      have hW1 : 1 ≤ Wd0 := by omega
      have hH1 : 1 ≤ Hd0 := by omega
      clear hEW hEH HEW HEH HEL HEB HBX HBY HTA hi hx1 hx2 hx3 hy1 hy2 hy3
      obtain ⟨d11, d12⟩ := d1
      obtain ⟨d21, d22⟩ := d2
      obtain ⟨d31, d32⟩ := d3
      obtain ⟨d41, d42⟩ := d4
      have wi1 : IntKind.i64.wrap (g3 - L) = g3 - L := IntWalk.i64_in _ (by omega)
      have wi2 : IntKind.i64.wrap (g3 - L + 1) = Wd0 := by rw [HEW2.out]; exact IntWalk.i64_in _ (by have := HEW2.out; omega)
      have wi3 : IntKind.i64.wrap (g4 - Bt) = g4 - Bt := IntWalk.i64_in _ (by omega)
      have wi4 : IntKind.i64.wrap (g4 - Bt + 1) = Hd0 := by rw [HEH2.out]; exact IntWalk.i64_in _ (by have := HEH2.out; omega)
      go_wp2_with fail
      refine (CO1.out _).mono ?_
      rintro e wa ⟨rfl, rfl⟩
      go_wp2_with fail
      refine (CO2.out _).mono ?_
      rintro e wa ⟨rfl, rfl⟩
      clear CO1 CO2
      go_upto_region 19 with fail
      refine wp_world (fun W2 hW2 => ?_)
      obtain ⟨hP15, hbn, hsn⟩ := new1 hW2
      clear hW2
      have hb2 := hbr.trans (hbn.mono hszr)
      have hB2 := hB1.below hb2 hz
      have hbw2 := hbw1.trans (hb2.mono (by omega))
      generalize hqq : wr.heap.size = q15 at *
      have zp15 := hP15.lt
      have zp2 := hB2.lt
      have hp15 : p < q15 := by omega
      clear hqq hsn hbn hbr hB1 hbw1 hszr hz hb2 d31 d41 d5 d6
      obtain ⟨l0, l1, l2, l3, l4⟩ := hP15.five
      by_cases hok : (sideB Wd0 && sideB Hd0) = true
      · obtain ⟨hk1, hk2⟩ := Bool.and_eq_true_iff.1 hok
        obtain ⟨m, rfl⟩ := Int.eq_ofNat_of_zero_le (sideB_true hk1).1
        obtain ⟨n, rfl⟩ := Int.eq_ofNat_of_zero_le (sideB_true hk2).1
        have hm := (sideB_true hk1).2
        have hn := (sideB_true hk2).2
        have CN := Lib.hid (fun w => bitmap_New_nat m n w (by omega) (by omega))
        clear hok hk1 hk2
        go_cut [16, 17] from 72 to 89 (fun s16 s17 wx => s17 = .int .i64 0 ∧ ∃ q16 g : Nat, s16 = .pointer (some ⟨q16, 0, none⟩) ∧ Blk wx q16 29 #[.int .i64 m, .int .i64 n, .slice (some ⟨g, 0, none⟩) (m * n) (m * n)] ∧ Own Value.bool 4 wx g (List.replicate (m * n) false) ∧ W2.heap.size ≤ q16 ∧ W2.heap.size ≤ g ∧ Below W2.heap.size W2 wx)
        case first =>
          refine wp_region_L 20 (fun w' => (∀ b o, b < W2.heap.size → w'.cell? ⟨b, o, none⟩ = W2.cell? ⟨b, o, none⟩) ∧ Below W2.heap.size W2 w') (by kernel_rfl) ?_ (fun Wd hWd hS => ?_)
          · (try dsimp only)
            exact sb_of (Below.refl _ _).drew
          (try dsimp only at hS)
          refine wpT_take 0 (v := ?_) rfl (by kernel_rfl) (by kernel_rfl) (fun _ _ _ h => h) hS (Or.inl ⟨rfl, ?_⟩) ?_
          rotate_left
          · (intro w' hSw; (try dsimp only at hSw); go_simp; first | done | with_reducible rfl)
          (try simp only [Act.put, List.setIfInBounds_toArray, List.set_cons_zero, List.set_cons_succ])
          refine wpT_take 1 (v := ?_) rfl (by kernel_rfl) (by kernel_rfl) (fun _ _ _ h => h) hS (Or.inl ⟨rfl, ?_⟩) ?_
          rotate_left
          · (intro w' hSw; (try dsimp only at hSw); go_simp; first | done | with_reducible rfl)
          (try simp only [Act.put, List.setIfInBounds_toArray, List.set_cons_zero, List.set_cons_succ])
          refine wpT_take 3 (v := ?_) rfl (by kernel_rfl) (by kernel_rfl) (fun _ _ _ h => h) hS (Or.inl ⟨rfl, ?_⟩) ?_
          rotate_left
          · (intro w' hSw; (try dsimp only at hSw); go_simp; first | done | with_reducible rfl)
          (try simp only [Act.put, List.setIfInBounds_toArray, List.set_cons_zero, List.set_cons_succ])
          refine wpT_take 4 (v := ?_) rfl (by kernel_rfl) (by kernel_rfl) (fun _ _ _ h => h) hS (Or.inl ⟨rfl, ?_⟩) ?_
          rotate_left
          · (intro w' hSw; (try dsimp only at hSw); go_simp; first | done | with_reducible rfl)
          (try simp only [Act.put, List.setIfInBounds_toArray, List.set_cons_zero, List.set_cons_succ])
          refine wpT_take 7 (v := ?_) rfl (by kernel_rfl) (by kernel_rfl) (fun _ _ _ h => h) hS (Or.inl ⟨rfl, ?_⟩) ?_
          rotate_left
          · (intro w' hSw; (try dsimp only at hSw); go_simp; first | done | with_reducible rfl)
          (try simp only [Act.put, List.setIfInBounds_toArray, List.set_cons_zero, List.set_cons_succ])
          refine wpT_take 8 (v := ?_) rfl (by kernel_rfl) (by kernel_rfl) (fun _ _ _ h => h) hS (Or.inl ⟨rfl, ?_⟩) ?_
          rotate_left
          · (intro w' hSw; (try dsimp only at hSw); go_simp; first | done | with_reducible rfl)
          (try simp only [Act.put, List.setIfInBounds_toArray, List.set_cons_zero, List.set_cons_succ])
          refine wpT_take 10 (v := ?_) rfl (by kernel_rfl) (by kernel_rfl) (fun _ _ _ h => h) hS (Or.inl ⟨rfl, ?_⟩) ?_
          rotate_left
          · (intro w' hSw; (try dsimp only at hSw); go_simp; first | done | with_reducible rfl)
          (try simp only [Act.put, List.setIfInBounds_toArray, List.set_cons_zero, List.set_cons_succ])
          refine wpT_take 11 (v := ?_) rfl (by kernel_rfl) (by kernel_rfl) (fun _ _ _ h => h) hS (Or.inl ⟨rfl, ?_⟩) ?_
          rotate_left
          · (intro w' hSw; (try dsimp only at hSw); go_simp; first | done | with_reducible rfl)
          (try simp only [Act.put, List.setIfInBounds_toArray, List.set_cons_zero, List.set_cons_succ])
          refine wpT_two 2 18 rfl rfl (by kernel_rfl) (fun K hK => ?_) (fun K hK => ?_)
          · skip
            go_simp
            go_at_call 97
            refine (CO3.out _).mono ?_
            rintro e wo ⟨rfl, rfl⟩
            have hbS := hS.2
            refine hK.out _ _ ?_ (fun hS => ?_)
            · (try dsimp only)
              exact sb_of hbS
            clear hK K
            (try simp only [Act.put, List.setIfInBounds_toArray, List.set_cons_zero, List.set_cons_succ])
            (try dsimp only at hS)
            refine wpT_take 5 (v := ?_) rfl (by kernel_rfl) (by kernel_rfl) (fun _ _ _ h => h) hS (Or.inl ⟨rfl, ?_⟩) ?_
            rotate_left
            · (intro w' hSw; (try dsimp only at hSw); go_simp; first | done | with_reducible rfl)
            (try simp only [Act.put, List.setIfInBounds_toArray, List.set_cons_zero, List.set_cons_succ])
            refine wpT_take 6 (v := ?_) rfl (by kernel_rfl) (by kernel_rfl) (fun _ _ _ h => h) hS (Or.inl ⟨rfl, ?_⟩) ?_
            rotate_left
            · (intro w' hSw; (try dsimp only at hSw); go_simp; first | done | with_reducible rfl)
            (try simp only [Act.put, List.setIfInBounds_toArray, List.set_cons_zero, List.set_cons_succ])
            refine wpT_two 9 18 rfl rfl (by kernel_rfl) (fun K hK => ?_) (fun K hK => ?_)
            · skip
              go_simp
              go_at_call 97
              refine (CO4.out _).mono ?_
              rintro e wo ⟨rfl, rfl⟩
              have hbS := hS.2
              refine hK.out _ _ ?_ (fun hS => ?_)
              · (try dsimp only)
                exact sb_of hbS
              clear hK K
              (try simp only [Act.put, List.setIfInBounds_toArray, List.set_cons_zero, List.set_cons_succ])
              (try dsimp only at hS)
              refine wpT_take 12 (v := ?_) rfl (by kernel_rfl) (by kernel_rfl) (fun _ _ _ h => h) hS (Or.inl ⟨rfl, ?_⟩) ?_
              rotate_left
              · (intro w' hSw; (try dsimp only at hSw); go_simp; first | done | with_reducible rfl)
              (try simp only [Act.put, List.setIfInBounds_toArray, List.set_cons_zero, List.set_cons_succ])
              refine wpT_take 13 (v := ?_) rfl (by kernel_rfl) (by kernel_rfl) (fun _ _ _ h => h) hS (Or.inl ⟨rfl, ?_⟩) ?_
              rotate_left
              · (intro w' hSw; (try dsimp only at hSw); go_simp; first | done | with_reducible rfl)
              (try simp only [Act.put, List.setIfInBounds_toArray, List.set_cons_zero, List.set_cons_succ])
              refine wpT_two 14 18 rfl rfl (by kernel_rfl) (fun K hK => ?_) (fun K hK => ?_)
              · skip
                go_simp
                go_at_call 34
                refine (CN.out _).mono ?_
                rintro e wn ⟨g, rfl, hgw, hgl, hO, hbn⟩
                have hbS := hS.2.trans (hbn.mono hS.2.size)
                try have hQ := hQ.below hbn hQ.lt
                have hgS : W2.heap.size ≤ g := by have := hS.2.size; omega
                refine hK.out _ _ ?_ (fun hS => ?_)
                · (try dsimp only)
                  exact sb_of hbS
                clear hK K
                (try simp only [Act.put, List.setIfInBounds_toArray, List.set_cons_zero, List.set_cons_succ])
                (try dsimp only at hS)
                refine wpT_take 15 (v := ?_) rfl (by kernel_rfl) (by kernel_rfl) (fun _ _ _ h => h) hS (Or.inl ⟨rfl, ?_⟩) ?_
                rotate_left
                · (intro w' hSw; (try dsimp only at hSw); go_simp; first | done | with_reducible rfl)
                (try simp only [Act.put, List.setIfInBounds_toArray, List.set_cons_zero, List.set_cons_succ])
                refine wpT_take 16 (v := ?_) rfl (by kernel_rfl) (by kernel_rfl) (fun _ _ _ h => h) hS (Or.inl ⟨rfl, ?_⟩) ?_
                rotate_left
                · (intro w' hSw; (try dsimp only at hSw); go_simp; first | done | with_reducible rfl)
                (try simp only [Act.put, List.setIfInBounds_toArray, List.set_cons_zero, List.set_cons_succ])
                refine wpT_take 17 (v := ?_) rfl (by kernel_rfl) (by kernel_rfl) (fun _ _ _ h => h) hS (Or.inl ⟨rfl, ?_⟩) ?_
                rotate_left
                · (intro w' hSw; (try dsimp only at hSw); go_simp; first | done | with_reducible rfl)
                (try simp only [Act.put, List.setIfInBounds_toArray, List.set_cons_zero, List.set_cons_succ])
                refine wpT_one 18 rfl (by kernel_rfl) (fun K hK => ?_)
                go_simp
                refine k_world (fun Wq hWq => ?_)
                have hS18 := hS.2.size
                obtain ⟨q16, eqq, hQ, hbQ, hsQ⟩ := new1n hWq
                clear hWq
                try rw [eqq]
                have hq16 : W2.heap.size ≤ q16 := by omega
                have hbS := hS.2.trans (hbQ.mono hq16)
                try have hO := hO.below hbQ (by have := hO.lt; omega)
                refine hK.out _ _ ?_ (fun hS => ?_)
                · (try dsimp only)
                  exact sb_of hbS
                clear hK K
                (try simp only [Act.put, List.setIfInBounds_toArray, List.set_cons_zero, List.set_cons_succ])
                (try dsimp only at hS)
                refine wpT_one 19 rfl (by kernel_rfl) (fun K hK => ?_)
                obtain ⟨⟨u0, u1, u2⟩, v0, v1, v2⟩ := hQ.three
                go_simp
                refine k_world (fun WX hWX => ?_)
                have hQ0 := hQ
                obtain ⟨hQ, hkX⟩ := store3 hWX hQ
                clear hWX u0 u1 u2 v0 v1 v2
                have hO := hkX.blk hO.blk (by have := own_blk_ne hO hQ0 (by decide); simpa using this)
                have hbS := hS.2.trans (hkX.to_below hS.2.size (by simpa using hq16))
                refine hK.out _ _ ?_ (fun hS => ?_)
                · (try dsimp only)
                  exact sb_of hbS
                clear hK K
                (try simp only [Act.put, List.setIfInBounds_toArray, List.set_cons_zero, List.set_cons_succ])
                (try dsimp only at hS)
                refine wpT_tail (by rfl) (by kernel_rfl) ?_
                (try simp only [List.drop_succ_cons, List.drop_zero])
                go_wp2
                go_meet
                exact ⟨rfl, q16, g, rfl, hQ, hO, hq16, hgS, hS.2⟩
              · skip
                go_simp
                refine k_world (fun Wq hWq => ?_)
                have hS18 := hS.2.size
                obtain ⟨q16, eqq, hQ, hbQ, hsQ⟩ := new1n hWq
                clear hWq
                try rw [eqq]
                have hq16 : W2.heap.size ≤ q16 := by omega
                have hbS := hS.2.trans (hbQ.mono hq16)
                try have hO := hO.below hbQ (by have := hO.lt; omega)
                refine hK.out _ _ ?_ (fun hS => ?_)
                · (try dsimp only)
                  exact sb_of hbS
                clear hK K
                (try simp only [Act.put, List.setIfInBounds_toArray, List.set_cons_zero, List.set_cons_succ])
                (try dsimp only at hS)
                refine wpT_one 14 rfl (by kernel_rfl) (fun K hK => ?_)
                go_simp
                go_at_call 34
                refine (CN.out _).mono ?_
                rintro e wn ⟨g, rfl, hgw, hgl, hO, hbn⟩
                have hbS := hS.2.trans (hbn.mono hS.2.size)
                try have hQ := hQ.below hbn hQ.lt
                have hgS : W2.heap.size ≤ g := by have := hS.2.size; omega
                refine hK.out _ _ ?_ (fun hS => ?_)
                · (try dsimp only)
                  exact sb_of hbS
                clear hK K
                (try simp only [Act.put, List.setIfInBounds_toArray, List.set_cons_zero, List.set_cons_succ])
                (try dsimp only at hS)
                refine wpT_take 15 (v := ?_) rfl (by kernel_rfl) (by kernel_rfl) (fun _ _ _ h => h) hS (Or.inl ⟨rfl, ?_⟩) ?_
                rotate_left
                · (intro w' hSw; (try dsimp only at hSw); go_simp; first | done | with_reducible rfl)
                (try simp only [Act.put, List.setIfInBounds_toArray, List.set_cons_zero, List.set_cons_succ])
                refine wpT_take 16 (v := ?_) rfl (by kernel_rfl) (by kernel_rfl) (fun _ _ _ h => h) hS (Or.inl ⟨rfl, ?_⟩) ?_
                rotate_left
                · (intro w' hSw; (try dsimp only at hSw); go_simp; first | done | with_reducible rfl)
                (try simp only [Act.put, List.setIfInBounds_toArray, List.set_cons_zero, List.set_cons_succ])
                refine wpT_take 17 (v := ?_) rfl (by kernel_rfl) (by kernel_rfl) (fun _ _ _ h => h) hS (Or.inl ⟨rfl, ?_⟩) ?_
                rotate_left
                · (intro w' hSw; (try dsimp only at hSw); go_simp; first | done | with_reducible rfl)
                (try simp only [Act.put, List.setIfInBounds_toArray, List.set_cons_zero, List.set_cons_succ])
                refine wpT_one 19 rfl (by kernel_rfl) (fun K hK => ?_)
                obtain ⟨⟨u0, u1, u2⟩, v0, v1, v2⟩ := hQ.three
                go_simp
                refine k_world (fun WX hWX => ?_)
                have hQ0 := hQ
                obtain ⟨hQ, hkX⟩ := store3 hWX hQ
                clear hWX u0 u1 u2 v0 v1 v2
                have hO := hkX.blk hO.blk (by have := own_blk_ne hO hQ0 (by decide); simpa using this)
                have hbS := hS.2.trans (hkX.to_below hS.2.size (by simpa using hq16))
                refine hK.out _ _ ?_ (fun hS => ?_)
                · (try dsimp only)
                  exact sb_of hbS
                clear hK K
                (try simp only [Act.put, List.setIfInBounds_toArray, List.set_cons_zero, List.set_cons_succ])
                (try dsimp only at hS)
                refine wpT_tail (by rfl) (by kernel_rfl) ?_
                (try simp only [List.drop_succ_cons, List.drop_zero])
                go_wp2
                go_meet
                exact ⟨rfl, q16, g, rfl, hQ, hO, hq16, hgS, hS.2⟩
            · skip
              go_simp
              refine k_world (fun Wq hWq => ?_)
              have hS18 := hS.2.size
              obtain ⟨q16, eqq, hQ, hbQ, hsQ⟩ := new1n hWq
              clear hWq
              try rw [eqq]
              have hq16 : W2.heap.size ≤ q16 := by omega
              have hbS := hS.2.trans (hbQ.mono hq16)
              try have hO := hO.below hbQ (by have := hO.lt; omega)
              refine hK.out _ _ ?_ (fun hS => ?_)
              · (try dsimp only)
                exact sb_of hbS
              clear hK K
              (try simp only [Act.put, List.setIfInBounds_toArray, List.set_cons_zero, List.set_cons_succ])
              (try dsimp only at hS)
              refine wpT_one 9 rfl (by kernel_rfl) (fun K hK => ?_)
              go_simp
              go_at_call 97
              refine (CO4.out _).mono ?_
              rintro e wo ⟨rfl, rfl⟩
              have hbS := hS.2
              refine hK.out _ _ ?_ (fun hS => ?_)
              · (try dsimp only)
                exact sb_of hbS
              clear hK K
              (try simp only [Act.put, List.setIfInBounds_toArray, List.set_cons_zero, List.set_cons_succ])
              (try dsimp only at hS)
              refine wpT_take 12 (v := ?_) rfl (by kernel_rfl) (by kernel_rfl) (fun _ _ _ h => h) hS (Or.inl ⟨rfl, ?_⟩) ?_
              rotate_left
              · (intro w' hSw; (try dsimp only at hSw); go_simp; first | done | with_reducible rfl)
              (try simp only [Act.put, List.setIfInBounds_toArray, List.set_cons_zero, List.set_cons_succ])
              refine wpT_take 13 (v := ?_) rfl (by kernel_rfl) (by kernel_rfl) (fun _ _ _ h => h) hS (Or.inl ⟨rfl, ?_⟩) ?_
              rotate_left
              · (intro w' hSw; (try dsimp only at hSw); go_simp; first | done | with_reducible rfl)
              (try simp only [Act.put, List.setIfInBounds_toArray, List.set_cons_zero, List.set_cons_succ])
              refine wpT_one 14 rfl (by kernel_rfl) (fun K hK => ?_)
              go_simp
              go_at_call 34
              refine (CN.out _).mono ?_
              rintro e wn ⟨g, rfl, hgw, hgl, hO, hbn⟩
              have hbS := hS.2.trans (hbn.mono hS.2.size)
              try have hQ := hQ.below hbn hQ.lt
              have hgS : W2.heap.size ≤ g := by have := hS.2.size; omega
              refine hK.out _ _ ?_ (fun hS => ?_)
              · (try dsimp only)
                exact sb_of hbS
              clear hK K
              (try simp only [Act.put, List.setIfInBounds_toArray, List.set_cons_zero, List.set_cons_succ])
              (try dsimp only at hS)
              refine wpT_take 15 (v := ?_) rfl (by kernel_rfl) (by kernel_rfl) (fun _ _ _ h => h) hS (Or.inl ⟨rfl, ?_⟩) ?_
              rotate_left
              · (intro w' hSw; (try dsimp only at hSw); go_simp; first | done | with_reducible rfl)
              (try simp only [Act.put, List.setIfInBounds_toArray, List.set_cons_zero, List.set_cons_succ])
              refine wpT_take 16 (v := ?_) rfl (by kernel_rfl) (by kernel_rfl) (fun _ _ _ h => h) hS (Or.inl ⟨rfl, ?_⟩) ?_
              rotate_left
              · (intro w' hSw; (try dsimp only at hSw); go_simp; first | done | with_reducible rfl)
              (try simp only [Act.put, List.setIfInBounds_toArray, List.set_cons_zero, List.set_cons_succ])
              refine wpT_take 17 (v := ?_) rfl (by kernel_rfl) (by kernel_rfl) (fun _ _ _ h => h) hS (Or.inl ⟨rfl, ?_⟩) ?_
              rotate_left
              · (intro w' hSw; (try dsimp only at hSw); go_simp; first | done | with_reducible rfl)
              (try simp only [Act.put, List.setIfInBounds_toArray, List.set_cons_zero, List.set_cons_succ])
              refine wpT_one 19 rfl (by kernel_rfl) (fun K hK => ?_)
              obtain ⟨⟨u0, u1, u2⟩, v0, v1, v2⟩ := hQ.three
              go_simp
              refine k_world (fun WX hWX => ?_)
              have hQ0 := hQ
              obtain ⟨hQ, hkX⟩ := store3 hWX hQ
              clear hWX u0 u1 u2 v0 v1 v2
              have hO := hkX.blk hO.blk (by have := own_blk_ne hO hQ0 (by decide); simpa using this)
              have hbS := hS.2.trans (hkX.to_below hS.2.size (by simpa using hq16))
              refine hK.out _ _ ?_ (fun hS => ?_)
              · (try dsimp only)
                exact sb_of hbS
              clear hK K
              (try simp only [Act.put, List.setIfInBounds_toArray, List.set_cons_zero, List.set_cons_succ])
              (try dsimp only at hS)
              refine wpT_tail (by rfl) (by kernel_rfl) ?_
              (try simp only [List.drop_succ_cons, List.drop_zero])
              go_wp2
              go_meet
              exact ⟨rfl, q16, g, rfl, hQ, hO, hq16, hgS, hS.2⟩
          · skip
            go_simp
            refine k_world (fun Wq hWq => ?_)
            have hS18 := hS.2.size
            obtain ⟨q16, eqq, hQ, hbQ, hsQ⟩ := new1n hWq
            clear hWq
            try rw [eqq]
            have hq16 : W2.heap.size ≤ q16 := by omega
            have hbS := hS.2.trans (hbQ.mono hq16)
            try have hO := hO.below hbQ (by have := hO.lt; omega)
            refine hK.out _ _ ?_ (fun hS => ?_)
            · (try dsimp only)
              exact sb_of hbS
            clear hK K
            (try simp only [Act.put, List.setIfInBounds_toArray, List.set_cons_zero, List.set_cons_succ])
            (try dsimp only at hS)
            refine wpT_one 2 rfl (by kernel_rfl) (fun K hK => ?_)
            go_simp
            go_at_call 97
            refine (CO3.out _).mono ?_
            rintro e wo ⟨rfl, rfl⟩
            have hbS := hS.2
            refine hK.out _ _ ?_ (fun hS => ?_)
            · (try dsimp only)
              exact sb_of hbS
            clear hK K
            (try simp only [Act.put, List.setIfInBounds_toArray, List.set_cons_zero, List.set_cons_succ])
            (try dsimp only at hS)
            refine wpT_take 5 (v := ?_) rfl (by kernel_rfl) (by kernel_rfl) (fun _ _ _ h => h) hS (Or.inl ⟨rfl, ?_⟩) ?_
            rotate_left
            · (intro w' hSw; (try dsimp only at hSw); go_simp; first | done | with_reducible rfl)
            (try simp only [Act.put, List.setIfInBounds_toArray, List.set_cons_zero, List.set_cons_succ])
            refine wpT_take 6 (v := ?_) rfl (by kernel_rfl) (by kernel_rfl) (fun _ _ _ h => h) hS (Or.inl ⟨rfl, ?_⟩) ?_
            rotate_left
            · (intro w' hSw; (try dsimp only at hSw); go_simp; first | done | with_reducible rfl)
            (try simp only [Act.put, List.setIfInBounds_toArray, List.set_cons_zero, List.set_cons_succ])
            refine wpT_one 9 rfl (by kernel_rfl) (fun K hK => ?_)
            go_simp
            go_at_call 97
            refine (CO4.out _).mono ?_
            rintro e wo ⟨rfl, rfl⟩
            have hbS := hS.2
            refine hK.out _ _ ?_ (fun hS => ?_)
            · (try dsimp only)
              exact sb_of hbS
            clear hK K
            (try simp only [Act.put, List.setIfInBounds_toArray, List.set_cons_zero, List.set_cons_succ])
            (try dsimp only at hS)
            refine wpT_take 12 (v := ?_) rfl (by kernel_rfl) (by kernel_rfl) (fun _ _ _ h => h) hS (Or.inl ⟨rfl, ?_⟩) ?_
            rotate_left
            · (intro w' hSw; (try dsimp only at hSw); go_simp; first | done | with_reducible rfl)
            (try simp only [Act.put, List.setIfInBounds_toArray, List.set_cons_zero, List.set_cons_succ])
            refine wpT_take 13 (v := ?_) rfl (by kernel_rfl) (by kernel_rfl) (fun _ _ _ h => h) hS (Or.inl ⟨rfl, ?_⟩) ?_
            rotate_left
            · (intro w' hSw; (try dsimp only at hSw); go_simp; first | done | with_reducible rfl)
            (try simp only [Act.put, List.setIfInBounds_toArray, List.set_cons_zero, List.set_cons_succ])
            refine wpT_one 14 rfl (by kernel_rfl) (fun K hK => ?_)
            go_simp
            go_at_call 34
            refine (CN.out _).mono ?_
            rintro e wn ⟨g, rfl, hgw, hgl, hO, hbn⟩
            have hbS := hS.2.trans (hbn.mono hS.2.size)
            try have hQ := hQ.below hbn hQ.lt
            have hgS : W2.heap.size ≤ g := by have := hS.2.size; omega
            refine hK.out _ _ ?_ (fun hS => ?_)
            · (try dsimp only)
              exact sb_of hbS
            clear hK K
            (try simp only [Act.put, List.setIfInBounds_toArray, List.set_cons_zero, List.set_cons_succ])
            (try dsimp only at hS)
            refine wpT_take 15 (v := ?_) rfl (by kernel_rfl) (by kernel_rfl) (fun _ _ _ h => h) hS (Or.inl ⟨rfl, ?_⟩) ?_
            rotate_left
            · (intro w' hSw; (try dsimp only at hSw); go_simp; first | done | with_reducible rfl)
            (try simp only [Act.put, List.setIfInBounds_toArray, List.set_cons_zero, List.set_cons_succ])
            refine wpT_take 16 (v := ?_) rfl (by kernel_rfl) (by kernel_rfl) (fun _ _ _ h => h) hS (Or.inl ⟨rfl, ?_⟩) ?_
            rotate_left
            · (intro w' hSw; (try dsimp only at hSw); go_simp; first | done | with_reducible rfl)
            (try simp only [Act.put, List.setIfInBounds_toArray, List.set_cons_zero, List.set_cons_succ])
            refine wpT_take 17 (v := ?_) rfl (by kernel_rfl) (by kernel_rfl) (fun _ _ _ h => h) hS (Or.inl ⟨rfl, ?_⟩) ?_
            rotate_left
            · (intro w' hSw; (try dsimp only at hSw); go_simp; first | done | with_reducible rfl)
            (try simp only [Act.put, List.setIfInBounds_toArray, List.set_cons_zero, List.set_cons_succ])
            refine wpT_one 19 rfl (by kernel_rfl) (fun K hK => ?_)
            obtain ⟨⟨u0, u1, u2⟩, v0, v1, v2⟩ := hQ.three
            go_simp
            refine k_world (fun WX hWX => ?_)
            have hQ0 := hQ
            obtain ⟨hQ, hkX⟩ := store3 hWX hQ
            clear hWX u0 u1 u2 v0 v1 v2
            have hO := hkX.blk hO.blk (by have := own_blk_ne hO hQ0 (by decide); simpa using this)
            have hbS := hS.2.trans (hkX.to_below hS.2.size (by simpa using hq16))
            refine hK.out _ _ ?_ (fun hS => ?_)
            · (try dsimp only)
              exact sb_of hbS
            clear hK K
            (try simp only [Act.put, List.setIfInBounds_toArray, List.set_cons_zero, List.set_cons_succ])
            (try dsimp only at hS)
            refine wpT_tail (by rfl) (by kernel_rfl) ?_
            (try simp only [List.drop_succ_cons, List.drop_zero])
            go_wp2
            go_meet
            exact ⟨rfl, q16, g, rfl, hQ, hO, hq16, hgS, hS.2⟩
        case rest =>
          obtain ⟨rfl, q16, g, rfl, hQ16, hO, hq16, hg, hb3⟩ := hcut
          refine k_world (fun W3 hW3 => ?_)
          rw [← hW3] at hQ16 hO hb3
          clear hW3 l0 l1 l2 l3 l4 wi1 wi2 wi3 wi4 CO3 CO4 CN
          have hP15 := hP15.below hb3 hP15.lt
          have hB2 := hB2.below hb3 hB2.lt
          have hbw3 := hbw2.trans (hb3.mono (by omega))
          have hLm : L + (m : Int) ≤ 1073741825 := by have := HEW2.out; omega
          have hBm : Bt + (n : Int) ≤ 1073741825 := by have := HEH2.out; omega
          clear hbw2 hb3 HEW2 HEH2 d32 d42
          have hmn : m * n ≤ 9216 := Nat.mul_le_mul (show m ≤ 96 by omega) (show n ≤ 96 by omega)
          rw [← dotT_zero ls u L Bt m n] at hO
          have hgq : g ≠ q16 := own_blk_ne hO hQ16 (by decide)
          have hz3 := hQ16.lt
          have hzg := hO.lt
          obtain ⟨⟨c0, c1, c2⟩, _⟩ := hQ16.three
          have HR3 := Lib.hid (HR.out.below hbw3 (Nat.le_refl _))
          go_wp2_with fail
          go_loopw [18, 19, 96] (fun _ _ s96 wr => ∃ k : Nat, k ≤ n ∧ s96 = .int .i64 k ∧ Kp [g] W3 wr ∧ Own Value.bool 4 wr g (dotT ls u L Bt m n (k * m))) (fun _ _ s96 _ => n - (intOf s96).toNat)
          case atStart => exact ⟨0, Nat.zero_le _, rfl, Kp.refl _ _, by rw [Nat.zero_mul]; exact hO⟩
          case round =>
            clear hO c0 c1 c2
            obtain ⟨k, hk, rfl, hkp, how⟩ := hrel
            obtain ⟨⟨c0, c1, c2⟩, _⟩ := (hkp.blk hQ16 (by simpa using fun e => hgq e.symm)).three
            by_cases hkn : k < n
            · have hkn' : (k : Int) < (n : Int) := by omega
              go_wp2_with fail
              go_loopw [19, 101] (fun _ s101 wx => ∃ i : Nat, i ≤ m ∧ s101 = .int .i64 i ∧ Kp [g] W3 wx ∧ Own Value.bool 4 wx g (dotT ls u L Bt m n (k * m + i))) (fun _ s101 _ => m - (intOf s101).toNat)
              case atStart => exact ⟨0, Nat.zero_le _, rfl, hkp, how⟩
              case round =>
                clear how hkp c0 c1 c2
                obtain ⟨i, hi, rfl, hkp, how⟩ := hrel
                obtain ⟨⟨c0, c1, c2⟩, _⟩ := (hkp.blk hQ16 (by simpa using fun e => hgq e.symm)).three
                by_cases him : i < m
                · have him' : (i : Int) < (m : Int) := by omega
                  obtain ⟨l0, l1, _⟩ := (hkp.blk hP15 (by simp; omega)).five
                  have hszx := hkp.size
                  have zg := how.lt
                  have z15 : q15 < wr.heap.size := by omega
                  have z16 : q16 < wr.heap.size := by omega
                  have hrlt := row_lt hkn him
                  obtain ⟨e1, e2, e3⟩ := row_int hkn him
                  have hst := Lib.hid (dotT_set (ls := ls) (u := u) (L := L) (B := Bt) hkn him)
                  have hpl : k * m + i < (dotT ls u L Bt m n (k * m + i)).length := by rw [dotT_len]; exact hrlt
                  have hc5 := how.cell hpl
                  rw [dotT_at hrlt] at hc5
                  have hf5 := how.frozen (k * m + i)
                  have w1' : IntKind.i64.wrap ((k : Int) * (m : Int)) = (k : Int) * (m : Int) := IntWalk.i64_in _ (by omega)
                  have w2' : IntKind.i64.wrap ((k : Int) * (m : Int) + (i : Int)) = ((k * m + i : Nat) : Int) := by rw [Int.natCast_add, Int.natCast_mul]; exact IntWalk.i64_in _ (by omega)
                  have CCx := Lib.hid (fun w h => CC.out (L + i) (Bt + k) ⟨by omega, by omega⟩ ⟨by omega, by omega⟩ w h)
                  generalize cvT ls u (L + i) (Bt + k) (u / 4) 4 = cv at *
                  have HOW := Lib.hid how
                  generalize hr2 : k * m + i = r at *
                  have HRR := Lib.hid hr2
                  have hrlt' : (r : Int) < ((m * n : Nat) : Int) := by omega
                  have w3' : IntKind.i64.wrap (L + (i : Int)) = L + (i : Int) := IntWalk.i64_in _ (by omega)
                  have w4' : IntKind.i64.wrap (Bt + (k : Int)) = Bt + (k : Int) := IntWalk.i64_in _ (by omega)
                  have hrx : RdPs wr wr.heap.size A ls := (HR3.out.below (hkp.to_below (B := p) (by omega) (by simp; omega)) (Nat.le_refl _)).more (by omega)
                  have HRX := Lib.hid hrx
                  clear hrx hr2 how e1 e2 e3 hpl
                  go_upto_region 28 with fail
                  refine wp_region_L 20 (fun w' => (∀ b o, b < wr.heap.size → w'.cell? ⟨b, o, none⟩ = wr.cell? ⟨b, o, none⟩) ∧ Below wr.heap.size wr w') (by kernel_rfl) ?_ (fun Wd hWd hS => ?_)
                  · (try dsimp only)
                    exact sb_of (Below.refl _ _).drew
                  (try dsimp only at hS)
                  refine wpT_take 0 (v := ?_) rfl (by kernel_rfl) (by kernel_rfl) (fun _ _ _ h => h) hS (Or.inl ⟨rfl, ?_⟩) ?_
                  rotate_left
                  · (intro w' hSw; (try dsimp only at hSw); go_simp; first | done | with_reducible rfl)
                  (try simp only [Act.put, List.setIfInBounds_toArray, List.set_cons_zero, List.set_cons_succ])
                  refine wpT_take 1 (v := ?_) rfl (by kernel_rfl) (by kernel_rfl) (fun _ _ _ h => h) hS (Or.inl ⟨rfl, ?_⟩) ?_
                  rotate_left
                  · (intro w' hSw; (try dsimp only at hSw); go_simp; first | done | with_reducible rfl)
                  (try simp only [Act.put, List.setIfInBounds_toArray, List.set_cons_zero, List.set_cons_succ])
                  refine wpT_take 2 (v := ?_) rfl (by kernel_rfl) (by kernel_rfl) (fun _ _ _ h => h) hS (Or.inl ⟨rfl, ?_⟩) ?_
                  rotate_left
                  · (intro w' hSw; (try dsimp only at hSw); go_simp; first | done | with_reducible rfl)
                  (try simp only [Act.put, List.setIfInBounds_toArray, List.set_cons_zero, List.set_cons_succ])
                  refine wpT_take 3 (v := ?_) rfl (by kernel_rfl) (by kernel_rfl) (fun _ _ _ h => h) hS (Or.inl ⟨rfl, ?_⟩) ?_
                  rotate_left
                  · (intro w' hSw; (try dsimp only at hSw); go_simp; first | done | with_reducible rfl)
                  (try simp only [Act.put, List.setIfInBounds_toArray, List.set_cons_zero, List.set_cons_succ])
                  refine wpT_take 4 (v := ?_) rfl (by kernel_rfl) (by kernel_rfl) (fun _ _ _ h => h) hS (Or.inl ⟨rfl, ?_⟩) ?_
                  rotate_left
                  · (intro w' hSw; (try dsimp only at hSw); go_simp; first | done | with_reducible rfl)
                  (try simp only [Act.put, List.setIfInBounds_toArray, List.set_cons_zero, List.set_cons_succ])
                  refine wpT_take 5 (v := ?_) rfl (by kernel_rfl) (by kernel_rfl) (fun _ _ _ h => h) hS (Or.inl ⟨rfl, ?_⟩) ?_
                  rotate_left
                  · (intro w' hSw; (try dsimp only at hSw); go_simp; first | done | with_reducible rfl)
                  (try simp only [Act.put, List.setIfInBounds_toArray, List.set_cons_zero, List.set_cons_succ])
                  refine wpT_take 6 (v := ?_) rfl (by kernel_rfl) (by kernel_rfl) (fun _ _ _ h => h) hS (Or.inl ⟨rfl, ?_⟩) ?_
                  rotate_left
                  · (intro w' hSw; (try dsimp only at hSw); go_simp; first | done | with_reducible rfl)
                  (try simp only [Act.put, List.setIfInBounds_toArray, List.set_cons_zero, List.set_cons_succ])
                  refine wpT_take 7 (v := ?_) rfl (by kernel_rfl) (by kernel_rfl) (fun _ _ _ h => h) hS (Or.inl ⟨rfl, ?_⟩) ?_
                  rotate_left
                  · (intro w' hSw; (try dsimp only at hSw); go_simp; first | done | with_reducible rfl)
                  (try simp only [Act.put, List.setIfInBounds_toArray, List.set_cons_zero, List.set_cons_succ])
                  refine wpT_take 8 (v := ?_) rfl (by kernel_rfl) (by kernel_rfl) (fun _ _ _ h => h) hS (Or.inl ⟨rfl, ?_⟩) ?_
                  rotate_left
                  · (intro w' hSw; (try dsimp only at hSw); go_simp; first | done | with_reducible rfl)
                  (try simp only [Act.put, List.setIfInBounds_toArray, List.set_cons_zero, List.set_cons_succ])
                  refine wpT_take 9 (v := ?_) rfl (by kernel_rfl) (by kernel_rfl) (fun _ _ _ h => h) hS (Or.inl ⟨rfl, ?_⟩) ?_
                  rotate_left
                  · (intro w' hSw; (try dsimp only at hSw); go_simp; first | done | with_reducible rfl)
                  (try simp only [Act.put, List.setIfInBounds_toArray, List.set_cons_zero, List.set_cons_succ])
                  refine wpT_take 10 (v := ?_) rfl (by kernel_rfl) (by kernel_rfl) (fun _ _ _ h => h) hS (Or.inl ⟨rfl, ?_⟩) ?_
                  rotate_left
                  · (intro w' hSw; (try dsimp only at hSw); go_simp; first | done | with_reducible rfl)
                  (try simp only [Act.put, List.setIfInBounds_toArray, List.set_cons_zero, List.set_cons_succ])
                  refine wpT_take 11 (v := ?_) rfl (by kernel_rfl) (by kernel_rfl) (fun _ _ _ h => h) hS (Or.inl ⟨rfl, ?_⟩) ?_
                  rotate_left
                  · (intro w' hSw; (try dsimp only at hSw); go_simp; first | done | with_reducible rfl)
                  (try simp only [Act.put, List.setIfInBounds_toArray, List.set_cons_zero, List.set_cons_succ])
                  refine wpT_take 12 (v := ?_) rfl (by kernel_rfl) (by kernel_rfl) (fun _ _ _ h => h) hS (Or.inl ⟨rfl, ?_⟩) ?_
                  rotate_left
                  · (intro w' hSw; (try dsimp only at hSw); go_simp; first | done | with_reducible rfl)
                  (try simp only [Act.put, List.setIfInBounds_toArray, List.set_cons_zero, List.set_cons_succ])
                  refine wpT_take 13 (v := ?_) rfl (by kernel_rfl) (by kernel_rfl) (fun _ _ _ h => h) hS (Or.inl ⟨rfl, ?_⟩) ?_
                  rotate_left
                  · (intro w' hSw; (try dsimp only at hSw); go_simp; first | done | with_reducible rfl)
                  (try simp only [Act.put, List.setIfInBounds_toArray, List.set_cons_zero, List.set_cons_succ])
                  refine wpT_take 14 (v := ?_) rfl (by kernel_rfl) (by kernel_rfl) (fun _ _ _ h => h) hS (Or.inl ⟨rfl, ?_⟩) ?_
                  rotate_left
                  · (intro w' hSw; (try dsimp only at hSw); go_simp; first | done | with_reducible rfl)
                  (try simp only [Act.put, List.setIfInBounds_toArray, List.set_cons_zero, List.set_cons_succ])
                  refine wpT_take 15 (v := ?_) rfl (by kernel_rfl) (by kernel_rfl) (fun _ _ _ h => h) hS (Or.inl ⟨rfl, ?_⟩) ?_
                  rotate_left
                  · (intro w' hSw; (try dsimp only at hSw); go_simp; first | done | with_reducible rfl)
                  (try simp only [Act.put, List.setIfInBounds_toArray, List.set_cons_zero, List.set_cons_succ])
                  refine wpT_take 16 (v := ?_) rfl (by kernel_rfl) (by kernel_rfl) (fun _ _ _ h => h) hS (Or.inl ⟨rfl, ?_⟩) ?_
                  rotate_left
                  · (intro w' hSw; (try dsimp only at hSw); go_simp; first | done | with_reducible rfl)
                  (try simp only [Act.put, List.setIfInBounds_toArray, List.set_cons_zero, List.set_cons_succ])
                  refine wpT_take 17 (v := ?_) rfl (by kernel_rfl) (by kernel_rfl) (fun _ _ _ h => h) hS (Or.inl ⟨rfl, ?_⟩) ?_
                  rotate_left
                  · (intro w' hSw; (try dsimp only at hSw); go_simp; first | done | with_reducible rfl)
                  (try simp only [Act.put, List.setIfInBounds_toArray, List.set_cons_zero, List.set_cons_succ])
                  refine wpT_one 18 rfl (by kernel_rfl) (fun K hK => ?_)
                  go_simp
                  go_at_call 95
                  refine (CCx.out _ (HRX.out.on hS.2)).mono ?_
                  rintro e wc ⟨rfl, hbc⟩
                  have hbS := hS.2.trans (hbc.mono hS.2.size)
                  refine hK.out _ _ ?_ (fun hS => ?_)
                  · (try dsimp only)
                    exact sb_of hbS
                  clear hK K
                  (try simp only [Act.put, List.setIfInBounds_toArray, List.set_cons_zero, List.set_cons_succ])
                  (try dsimp only at hS)
                  refine wpT_take 19 (v := ?_) rfl (by kernel_rfl) (by kernel_rfl) (fun _ _ _ h => h) hS (Or.inl ⟨rfl, ?_⟩) ?_
                  rotate_left
                  · (intro w' hSw; (try dsimp only at hSw); go_simp; first | done | with_reducible rfl)
                  (try simp only [Act.put, List.setIfInBounds_toArray, List.set_cons_zero, List.set_cons_succ])
                  refine wpT_tail (by rfl) (by kernel_rfl) ?_
                  (try simp only [List.drop_succ_cons, List.drop_zero])
                  have hbz := hS.2
                  have hc6 := hbz.cell (p := ⟨g, r, none⟩) zg
                  rw [hc5] at hc6
                  have hf6 := hbz.frozen (p := ⟨g, r, none⟩) zg
                  rw [hf5] at hf6
                  have ho6 := HOW.out.below hbz zg
                  have ho7 := Lib.hid (ho6.set_ r (decide (2 ≤ cv)))
                  rw [hst.out] at ho7
                  have hkp6 := hkp.below hbz
                  clear hS hbc hWd hc5 hf5
                  go_wp2_with fail
                  go_roundw
                  case rel => exact ⟨i + 1, by omega, by go_num, hkp6.set (.inl (by simp)) _ _, by rw [show k * m + (i + 1) = r + 1 by have := HRR.out; omega]; exact ho7.out⟩
                  case measure => simp [intOf]; omega
                · have hie : i = m := by omega
                  have him' : ¬ (i : Int) < (m : Int) := by omega
                  have HKM : Hid (k * m + i = (k + 1) * m) := Lib.hid (by rw [Nat.add_mul, Nat.one_mul]; omega)
                  clear hie
                  go_wp2
                  go_roundw
                  case rel => exact ⟨k + 1, by omega, by go_num, hkp, by rw [← HKM.out]; exact how⟩
                  case measure => simp [intOf]; omega
            · have hke : k = n := by omega
              have hkn' : ¬ (k : Int) < (n : Int) := by omega
              subst hke
              rw [Nat.mul_comm k m, dotT_all] at how
              have hP15' := hkp.blk hP15 (by simp; omega)
              have hB2' := hkp.blk hB2 (by simp; omega)
              obtain ⟨l0, l1, l2, l3, l4⟩ := hP15'.five
              have g0 := hP15'.frozen 0
              have g1 := hP15'.frozen 1
              have g2 := hP15'.frozen 2
              have g3' := hP15'.frozen 3
              have g4' := hP15'.frozen 4
              have hzk := hkp.size
              go_upto_region 32 with fail
              refine wp_world (fun W4 hW4 => ?_)
              have hS4 : W4 = ((((wr.setCell ⟨q15, 0, none⟩ (.int .i64 L)).setCell ⟨q15, 1, none⟩ (.int .i64 Bt)).setCell ⟨q15, 2, none⟩ (.int .i64 m)).setCell ⟨q15, 3, none⟩ (.int .i64 k)).setCell ⟨q15, 4, none⟩ (.slice (some ⟨g, 0, none⟩) (m * k) (m * k)) := by
                rw [hW4, setCell_id l0, setCell_id l1]
              obtain ⟨hP4, hk4⟩ := store5 hS4 hP15'
              clear hW4 hS4 l0 l1 l2 l3 l4 g0 g1 g2 g3' g4'
              have hB4 := hk4.blk hB2' (by simp; omega)
              have hO4 : Own Value.bool 4 W4 g (dotL ls u L Bt m k) := hk4.blk how.blk (by simp; omega)
              have hbw4 := (hbw3.trans (hkp.to_below (B := p) (by omega) (by simp; omega))).trans (hk4.to_below (B := p) (by omega) (by simp; omega))
              have hz4 := hk4.size
              clear hP15' hB2' how
              obtain ⟨l0, l1, l2, l3, l4⟩ := hP4.five
              obtain ⟨e0, e1, e2, e3, e4⟩ := hB4.five
              have f0 := hB4.frozen 0
              have f1 := hB4.frozen 1
              have f2 := hB4.frozen 2
              have f3 := hB4.frozen 3
              have f4 := hB4.frozen 4
              go_wp2
              obtain ⟨hR9, hk9⟩ := store5 (w := W4) (b0 := .int .i64 L) (b1 := .int .i64 Bt) (b2 := .int .i64 m) (b3 := .int .i64 k) (b4 := .slice (some ⟨g, 0, none⟩) (m * k) (m * k)) rfl hB4
              have hO9 : Own Value.bool 4 _ g (dotL ls u L Bt m k) := hk9.blk hO4.blk (by simp; omega)
              have hB9 := hbw4.trans (hk9.to_below (B := p) (by omega) (by simp))
              generalize ((((World.setCell W4 ⟨p, 0, none⟩ (.int .i64 L)).setCell ⟨p, 1, none⟩ (.int .i64 Bt)).setCell ⟨p, 2, none⟩ (.int .i64 m)).setCell ⟨p, 3, none⟩ (.int .i64 k)).setCell ⟨p, 4, none⟩ (.slice (some ⟨g, 0, none⟩) (m * k) (m * k)) = W9 at *
              obtain ⟨s0, s1, s2, s3, s4⟩ := hR9.five
              refine bodyPost_ret (v := .tuple #[.agg #[.int .i64 L, .int .i64 Bt, .int .i64 m, .int .i64 k, .slice (some ⟨g, 0, none⟩) (m * k) (m * k)], .int .i64 0]) (by simp [results, Try.results58, go_sem, s0, s1, s2, s3, s4]) rfl ⟨fun m' n' h1 h2 _ _ => ?_, fun h => ?_, by rw [HP.out]; exact hB9⟩
              · obtain rfl : m' = m := by have := HWE.out.symm.trans h1; omega
                obtain rfl : n' = k := by have := HHE.out.symm.trans h2; omega
                rw [HLE.out, HBE.out]
                exact ⟨g, rfl, hO9⟩
              · exfalso
                rw [HWE.out, HHE.out] at h
                simp [sideB] at h
                omega
      · have CN := Lib.hid (fun w => bitmap_New_no Wd0 Hd0 w (by simpa using hok))
        have HOK := Lib.hid hok
        clear hok
        go_cut [16, 17] from 72 to 89 (fun s16 s17 wx => s17 = .int .i64 13 ∧ Below W2.heap.size W2 wx)
        case first =>
          refine wp_region_L 20 (fun w' => (∀ b o, b < W2.heap.size → w'.cell? ⟨b, o, none⟩ = W2.cell? ⟨b, o, none⟩) ∧ Below W2.heap.size W2 w') (by kernel_rfl) ?_ (fun Wd hWd hS => ?_)
          · (try dsimp only)
            exact sb_of (Below.refl _ _).drew
          (try dsimp only at hS)
          refine wpT_take 0 (v := ?_) rfl (by kernel_rfl) (by kernel_rfl) (fun _ _ _ h => h) hS (Or.inl ⟨rfl, ?_⟩) ?_
          rotate_left
          · (intro w' hSw; (try dsimp only at hSw); go_simp; first | done | with_reducible rfl)
          (try simp only [Act.put, List.setIfInBounds_toArray, List.set_cons_zero, List.set_cons_succ])
          refine wpT_take 1 (v := ?_) rfl (by kernel_rfl) (by kernel_rfl) (fun _ _ _ h => h) hS (Or.inl ⟨rfl, ?_⟩) ?_
          rotate_left
          · (intro w' hSw; (try dsimp only at hSw); go_simp; first | done | with_reducible rfl)
          (try simp only [Act.put, List.setIfInBounds_toArray, List.set_cons_zero, List.set_cons_succ])
          refine wpT_take 3 (v := ?_) rfl (by kernel_rfl) (by kernel_rfl) (fun _ _ _ h => h) hS (Or.inl ⟨rfl, ?_⟩) ?_
          rotate_left
          · (intro w' hSw; (try dsimp only at hSw); go_simp; first | done | with_reducible rfl)
          (try simp only [Act.put, List.setIfInBounds_toArray, List.set_cons_zero, List.set_cons_succ])
          refine wpT_take 4 (v := ?_) rfl (by kernel_rfl) (by kernel_rfl) (fun _ _ _ h => h) hS (Or.inl ⟨rfl, ?_⟩) ?_
          rotate_left
          · (intro w' hSw; (try dsimp only at hSw); go_simp; first | done | with_reducible rfl)
          (try simp only [Act.put, List.setIfInBounds_toArray, List.set_cons_zero, List.set_cons_succ])
          refine wpT_take 7 (v := ?_) rfl (by kernel_rfl) (by kernel_rfl) (fun _ _ _ h => h) hS (Or.inl ⟨rfl, ?_⟩) ?_
          rotate_left
          · (intro w' hSw; (try dsimp only at hSw); go_simp; first | done | with_reducible rfl)
          (try simp only [Act.put, List.setIfInBounds_toArray, List.set_cons_zero, List.set_cons_succ])
          refine wpT_take 8 (v := ?_) rfl (by kernel_rfl) (by kernel_rfl) (fun _ _ _ h => h) hS (Or.inl ⟨rfl, ?_⟩) ?_
          rotate_left
          · (intro w' hSw; (try dsimp only at hSw); go_simp; first | done | with_reducible rfl)
          (try simp only [Act.put, List.setIfInBounds_toArray, List.set_cons_zero, List.set_cons_succ])
          refine wpT_take 10 (v := ?_) rfl (by kernel_rfl) (by kernel_rfl) (fun _ _ _ h => h) hS (Or.inl ⟨rfl, ?_⟩) ?_
          rotate_left
          · (intro w' hSw; (try dsimp only at hSw); go_simp; first | done | with_reducible rfl)
          (try simp only [Act.put, List.setIfInBounds_toArray, List.set_cons_zero, List.set_cons_succ])
          refine wpT_take 11 (v := ?_) rfl (by kernel_rfl) (by kernel_rfl) (fun _ _ _ h => h) hS (Or.inl ⟨rfl, ?_⟩) ?_
          rotate_left
          · (intro w' hSw; (try dsimp only at hSw); go_simp; first | done | with_reducible rfl)
          (try simp only [Act.put, List.setIfInBounds_toArray, List.set_cons_zero, List.set_cons_succ])
          refine wpT_two 2 18 rfl rfl (by kernel_rfl) (fun K hK => ?_) (fun K hK => ?_)
          · skip
            go_simp
            go_at_call 97
            refine (CO3.out _).mono ?_
            rintro e wo ⟨rfl, rfl⟩
            have hbS := hS.2
            refine hK.out _ _ ?_ (fun hS => ?_)
            · (try dsimp only)
              exact sb_of hbS
            clear hK K
            (try simp only [Act.put, List.setIfInBounds_toArray, List.set_cons_zero, List.set_cons_succ])
            (try dsimp only at hS)
            refine wpT_take 5 (v := ?_) rfl (by kernel_rfl) (by kernel_rfl) (fun _ _ _ h => h) hS (Or.inl ⟨rfl, ?_⟩) ?_
            rotate_left
            · (intro w' hSw; (try dsimp only at hSw); go_simp; first | done | with_reducible rfl)
            (try simp only [Act.put, List.setIfInBounds_toArray, List.set_cons_zero, List.set_cons_succ])
            refine wpT_take 6 (v := ?_) rfl (by kernel_rfl) (by kernel_rfl) (fun _ _ _ h => h) hS (Or.inl ⟨rfl, ?_⟩) ?_
            rotate_left
            · (intro w' hSw; (try dsimp only at hSw); go_simp; first | done | with_reducible rfl)
            (try simp only [Act.put, List.setIfInBounds_toArray, List.set_cons_zero, List.set_cons_succ])
            refine wpT_two 9 18 rfl rfl (by kernel_rfl) (fun K hK => ?_) (fun K hK => ?_)
            · skip
              go_simp
              go_at_call 97
              refine (CO4.out _).mono ?_
              rintro e wo ⟨rfl, rfl⟩
              have hbS := hS.2
              refine hK.out _ _ ?_ (fun hS => ?_)
              · (try dsimp only)
                exact sb_of hbS
              clear hK K
              (try simp only [Act.put, List.setIfInBounds_toArray, List.set_cons_zero, List.set_cons_succ])
              (try dsimp only at hS)
              refine wpT_take 12 (v := ?_) rfl (by kernel_rfl) (by kernel_rfl) (fun _ _ _ h => h) hS (Or.inl ⟨rfl, ?_⟩) ?_
              rotate_left
              · (intro w' hSw; (try dsimp only at hSw); go_simp; first | done | with_reducible rfl)
              (try simp only [Act.put, List.setIfInBounds_toArray, List.set_cons_zero, List.set_cons_succ])
              refine wpT_take 13 (v := ?_) rfl (by kernel_rfl) (by kernel_rfl) (fun _ _ _ h => h) hS (Or.inl ⟨rfl, ?_⟩) ?_
              rotate_left
              · (intro w' hSw; (try dsimp only at hSw); go_simp; first | done | with_reducible rfl)
              (try simp only [Act.put, List.setIfInBounds_toArray, List.set_cons_zero, List.set_cons_succ])
              refine wpT_two 14 18 rfl rfl (by kernel_rfl) (fun K hK => ?_) (fun K hK => ?_)
              · skip
                go_simp
                go_at_call 34
                refine (CN.out _).mono ?_
                rintro e wn ⟨rfl, hbn⟩
                have hbS := hS.2.trans (hbn.mono hS.2.size)
                try have hQ := hQ.below hbn hQ.lt
                refine hK.out _ _ ?_ (fun hS => ?_)
                · (try dsimp only)
                  exact sb_of hbS
                clear hK K
                (try simp only [Act.put, List.setIfInBounds_toArray, List.set_cons_zero, List.set_cons_succ])
                (try dsimp only at hS)
                refine wpT_take 15 (v := ?_) rfl (by kernel_rfl) (by kernel_rfl) (fun _ _ _ h => h) hS (Or.inl ⟨rfl, ?_⟩) ?_
                rotate_left
                · (intro w' hSw; (try dsimp only at hSw); go_simp; first | done | with_reducible rfl)
                (try simp only [Act.put, List.setIfInBounds_toArray, List.set_cons_zero, List.set_cons_succ])
                refine wpT_take 16 (v := ?_) rfl (by kernel_rfl) (by kernel_rfl) (fun _ _ _ h => h) hS (Or.inl ⟨rfl, ?_⟩) ?_
                rotate_left
                · (intro w' hSw; (try dsimp only at hSw); go_simp; first | done | with_reducible rfl)
                (try simp only [Act.put, List.setIfInBounds_toArray, List.set_cons_zero, List.set_cons_succ])
                refine wpT_take 17 (v := ?_) rfl (by kernel_rfl) (by kernel_rfl) (fun _ _ _ h => h) hS (Or.inl ⟨rfl, ?_⟩) ?_
                rotate_left
                · (intro w' hSw; (try dsimp only at hSw); go_simp; first | done | with_reducible rfl)
                (try simp only [Act.put, List.setIfInBounds_toArray, List.set_cons_zero, List.set_cons_succ])
                refine wpT_one 18 rfl (by kernel_rfl) (fun K hK => ?_)
                go_simp
                refine k_world (fun Wq hWq => ?_)
                have hS18 := hS.2.size
                obtain ⟨q16, eqq, hQ, hbQ, hsQ⟩ := new1n hWq
                clear hWq
                try rw [eqq]
                have hq16 : W2.heap.size ≤ q16 := by omega
                have hbS := hS.2.trans (hbQ.mono hq16)
                try have hO := hO.below hbQ (by have := hO.lt; omega)
                refine hK.out _ _ ?_ (fun hS => ?_)
                · (try dsimp only)
                  exact sb_of hbS
                clear hK K
                (try simp only [Act.put, List.setIfInBounds_toArray, List.set_cons_zero, List.set_cons_succ])
                (try dsimp only at hS)
                refine wpT_one 19 rfl (by kernel_rfl) (fun K hK => ?_)
                obtain ⟨⟨u0, u1, u2⟩, v0, v1, v2⟩ := hQ.three
                go_simp
                refine k_world (fun WX hWX => ?_)
                have hQ0 := hQ
                obtain ⟨hQ, hkX⟩ := store3 hWX hQ
                clear hWX u0 u1 u2 v0 v1 v2
                skip
                have hbS := hS.2.trans (hkX.to_below hS.2.size (by simpa using hq16))
                refine hK.out _ _ ?_ (fun hS => ?_)
                · (try dsimp only)
                  exact sb_of hbS
                clear hK K
                (try simp only [Act.put, List.setIfInBounds_toArray, List.set_cons_zero, List.set_cons_succ])
                (try dsimp only at hS)
                refine wpT_tail (by rfl) (by kernel_rfl) ?_
                (try simp only [List.drop_succ_cons, List.drop_zero])
                go_wp2
                go_meet
                exact ⟨rfl, hS.2⟩
              · skip
                go_simp
                refine k_world (fun Wq hWq => ?_)
                have hS18 := hS.2.size
                obtain ⟨q16, eqq, hQ, hbQ, hsQ⟩ := new1n hWq
                clear hWq
                try rw [eqq]
                have hq16 : W2.heap.size ≤ q16 := by omega
                have hbS := hS.2.trans (hbQ.mono hq16)
                try have hO := hO.below hbQ (by have := hO.lt; omega)
                refine hK.out _ _ ?_ (fun hS => ?_)
                · (try dsimp only)
                  exact sb_of hbS
                clear hK K
                (try simp only [Act.put, List.setIfInBounds_toArray, List.set_cons_zero, List.set_cons_succ])
                (try dsimp only at hS)
                refine wpT_one 14 rfl (by kernel_rfl) (fun K hK => ?_)
                go_simp
                go_at_call 34
                refine (CN.out _).mono ?_
                rintro e wn ⟨rfl, hbn⟩
                have hbS := hS.2.trans (hbn.mono hS.2.size)
                try have hQ := hQ.below hbn hQ.lt
                refine hK.out _ _ ?_ (fun hS => ?_)
                · (try dsimp only)
                  exact sb_of hbS
                clear hK K
                (try simp only [Act.put, List.setIfInBounds_toArray, List.set_cons_zero, List.set_cons_succ])
                (try dsimp only at hS)
                refine wpT_take 15 (v := ?_) rfl (by kernel_rfl) (by kernel_rfl) (fun _ _ _ h => h) hS (Or.inl ⟨rfl, ?_⟩) ?_
                rotate_left
                · (intro w' hSw; (try dsimp only at hSw); go_simp; first | done | with_reducible rfl)
                (try simp only [Act.put, List.setIfInBounds_toArray, List.set_cons_zero, List.set_cons_succ])
                refine wpT_take 16 (v := ?_) rfl (by kernel_rfl) (by kernel_rfl) (fun _ _ _ h => h) hS (Or.inl ⟨rfl, ?_⟩) ?_
                rotate_left
                · (intro w' hSw; (try dsimp only at hSw); go_simp; first | done | with_reducible rfl)
                (try simp only [Act.put, List.setIfInBounds_toArray, List.set_cons_zero, List.set_cons_succ])
                refine wpT_take 17 (v := ?_) rfl (by kernel_rfl) (by kernel_rfl) (fun _ _ _ h => h) hS (Or.inl ⟨rfl, ?_⟩) ?_
                rotate_left
                · (intro w' hSw; (try dsimp only at hSw); go_simp; first | done | with_reducible rfl)
                (try simp only [Act.put, List.setIfInBounds_toArray, List.set_cons_zero, List.set_cons_succ])
                refine wpT_one 19 rfl (by kernel_rfl) (fun K hK => ?_)
                obtain ⟨⟨u0, u1, u2⟩, v0, v1, v2⟩ := hQ.three
                go_simp
                refine k_world (fun WX hWX => ?_)
                have hQ0 := hQ
                obtain ⟨hQ, hkX⟩ := store3 hWX hQ
                clear hWX u0 u1 u2 v0 v1 v2
                skip
                have hbS := hS.2.trans (hkX.to_below hS.2.size (by simpa using hq16))
                refine hK.out _ _ ?_ (fun hS => ?_)
                · (try dsimp only)
                  exact sb_of hbS
                clear hK K
                (try simp only [Act.put, List.setIfInBounds_toArray, List.set_cons_zero, List.set_cons_succ])
                (try dsimp only at hS)
                refine wpT_tail (by rfl) (by kernel_rfl) ?_
                (try simp only [List.drop_succ_cons, List.drop_zero])
                go_wp2
                go_meet
                exact ⟨rfl, hS.2⟩
            · skip
              go_simp
              refine k_world (fun Wq hWq => ?_)
              have hS18 := hS.2.size
              obtain ⟨q16, eqq, hQ, hbQ, hsQ⟩ := new1n hWq
              clear hWq
              try rw [eqq]
              have hq16 : W2.heap.size ≤ q16 := by omega
              have hbS := hS.2.trans (hbQ.mono hq16)
              try have hO := hO.below hbQ (by have := hO.lt; omega)
              refine hK.out _ _ ?_ (fun hS => ?_)
              · (try dsimp only)
                exact sb_of hbS
              clear hK K
              (try simp only [Act.put, List.setIfInBounds_toArray, List.set_cons_zero, List.set_cons_succ])
              (try dsimp only at hS)
              refine wpT_one 9 rfl (by kernel_rfl) (fun K hK => ?_)
              go_simp
              go_at_call 97
              refine (CO4.out _).mono ?_
              rintro e wo ⟨rfl, rfl⟩
              have hbS := hS.2
              refine hK.out _ _ ?_ (fun hS => ?_)
              · (try dsimp only)
                exact sb_of hbS
              clear hK K
              (try simp only [Act.put, List.setIfInBounds_toArray, List.set_cons_zero, List.set_cons_succ])
              (try dsimp only at hS)
              refine wpT_take 12 (v := ?_) rfl (by kernel_rfl) (by kernel_rfl) (fun _ _ _ h => h) hS (Or.inl ⟨rfl, ?_⟩) ?_
              rotate_left
              · (intro w' hSw; (try dsimp only at hSw); go_simp; first | done | with_reducible rfl)
              (try simp only [Act.put, List.setIfInBounds_toArray, List.set_cons_zero, List.set_cons_succ])
              refine wpT_take 13 (v := ?_) rfl (by kernel_rfl) (by kernel_rfl) (fun _ _ _ h => h) hS (Or.inl ⟨rfl, ?_⟩) ?_
              rotate_left
              · (intro w' hSw; (try dsimp only at hSw); go_simp; first | done | with_reducible rfl)
              (try simp only [Act.put, List.setIfInBounds_toArray, List.set_cons_zero, List.set_cons_succ])
              refine wpT_one 14 rfl (by kernel_rfl) (fun K hK => ?_)
              go_simp
              go_at_call 34
              refine (CN.out _).mono ?_
              rintro e wn ⟨rfl, hbn⟩
              have hbS := hS.2.trans (hbn.mono hS.2.size)
              try have hQ := hQ.below hbn hQ.lt
              refine hK.out _ _ ?_ (fun hS => ?_)
              · (try dsimp only)
                exact sb_of hbS
              clear hK K
              (try simp only [Act.put, List.setIfInBounds_toArray, List.set_cons_zero, List.set_cons_succ])
              (try dsimp only at hS)
              refine wpT_take 15 (v := ?_) rfl (by kernel_rfl) (by kernel_rfl) (fun _ _ _ h => h) hS (Or.inl ⟨rfl, ?_⟩) ?_
              rotate_left
              · (intro w' hSw; (try dsimp only at hSw); go_simp; first | done | with_reducible rfl)
              (try simp only [Act.put, List.setIfInBounds_toArray, List.set_cons_zero, List.set_cons_succ])
              refine wpT_take 16 (v := ?_) rfl (by kernel_rfl) (by kernel_rfl) (fun _ _ _ h => h) hS (Or.inl ⟨rfl, ?_⟩) ?_
              rotate_left
              · (intro w' hSw; (try dsimp only at hSw); go_simp; first | done | with_reducible rfl)
              (try simp only [Act.put, List.setIfInBounds_toArray, List.set_cons_zero, List.set_cons_succ])
              refine wpT_take 17 (v := ?_) rfl (by kernel_rfl) (by kernel_rfl) (fun _ _ _ h => h) hS (Or.inl ⟨rfl, ?_⟩) ?_
              rotate_left
              · (intro w' hSw; (try dsimp only at hSw); go_simp; first | done | with_reducible rfl)
              (try simp only [Act.put, List.setIfInBounds_toArray, List.set_cons_zero, List.set_cons_succ])
              refine wpT_one 19 rfl (by kernel_rfl) (fun K hK => ?_)
              obtain ⟨⟨u0, u1, u2⟩, v0, v1, v2⟩ := hQ.three
              go_simp
              refine k_world (fun WX hWX => ?_)
              have hQ0 := hQ
              obtain ⟨hQ, hkX⟩ := store3 hWX hQ
              clear hWX u0 u1 u2 v0 v1 v2
              skip
              have hbS := hS.2.trans (hkX.to_below hS.2.size (by simpa using hq16))
              refine hK.out _ _ ?_ (fun hS => ?_)
              · (try dsimp only)
                exact sb_of hbS
              clear hK K
              (try simp only [Act.put, List.setIfInBounds_toArray, List.set_cons_zero, List.set_cons_succ])
              (try dsimp only at hS)
              refine wpT_tail (by rfl) (by kernel_rfl) ?_
              (try simp only [List.drop_succ_cons, List.drop_zero])
              go_wp2
              go_meet
              exact ⟨rfl, hS.2⟩
          · skip
            go_simp
            refine k_world (fun Wq hWq => ?_)
            have hS18 := hS.2.size
            obtain ⟨q16, eqq, hQ, hbQ, hsQ⟩ := new1n hWq
            clear hWq
            try rw [eqq]
            have hq16 : W2.heap.size ≤ q16 := by omega
            have hbS := hS.2.trans (hbQ.mono hq16)
            try have hO := hO.below hbQ (by have := hO.lt; omega)
            refine hK.out _ _ ?_ (fun hS => ?_)
            · (try dsimp only)
              exact sb_of hbS
            clear hK K
            (try simp only [Act.put, List.setIfInBounds_toArray, List.set_cons_zero, List.set_cons_succ])
            (try dsimp only at hS)
            refine wpT_one 2 rfl (by kernel_rfl) (fun K hK => ?_)
            go_simp
            go_at_call 97
            refine (CO3.out _).mono ?_
            rintro e wo ⟨rfl, rfl⟩
            have hbS := hS.2
            refine hK.out _ _ ?_ (fun hS => ?_)
            · (try dsimp only)
              exact sb_of hbS
            clear hK K
            (try simp only [Act.put, List.setIfInBounds_toArray, List.set_cons_zero, List.set_cons_succ])
            (try dsimp only at hS)
            refine wpT_take 5 (v := ?_) rfl (by kernel_rfl) (by kernel_rfl) (fun _ _ _ h => h) hS (Or.inl ⟨rfl, ?_⟩) ?_
            rotate_left
            · (intro w' hSw; (try dsimp only at hSw); go_simp; first | done | with_reducible rfl)
            (try simp only [Act.put, List.setIfInBounds_toArray, List.set_cons_zero, List.set_cons_succ])
            refine wpT_take 6 (v := ?_) rfl (by kernel_rfl) (by kernel_rfl) (fun _ _ _ h => h) hS (Or.inl ⟨rfl, ?_⟩) ?_
            rotate_left
            · (intro w' hSw; (try dsimp only at hSw); go_simp; first | done | with_reducible rfl)
            (try simp only [Act.put, List.setIfInBounds_toArray, List.set_cons_zero, List.set_cons_succ])
            refine wpT_one 9 rfl (by kernel_rfl) (fun K hK => ?_)
            go_simp
            go_at_call 97
            refine (CO4.out _).mono ?_
            rintro e wo ⟨rfl, rfl⟩
            have hbS := hS.2
            refine hK.out _ _ ?_ (fun hS => ?_)
            · (try dsimp only)
              exact sb_of hbS
            clear hK K
            (try simp only [Act.put, List.setIfInBounds_toArray, List.set_cons_zero, List.set_cons_succ])
            (try dsimp only at hS)
            refine wpT_take 12 (v := ?_) rfl (by kernel_rfl) (by kernel_rfl) (fun _ _ _ h => h) hS (Or.inl ⟨rfl, ?_⟩) ?_
            rotate_left
            · (intro w' hSw; (try dsimp only at hSw); go_simp; first | done | with_reducible rfl)
            (try simp only [Act.put, List.setIfInBounds_toArray, List.set_cons_zero, List.set_cons_succ])
            refine wpT_take 13 (v := ?_) rfl (by kernel_rfl) (by kernel_rfl) (fun _ _ _ h => h) hS (Or.inl ⟨rfl, ?_⟩) ?_
            rotate_left
            · (intro w' hSw; (try dsimp only at hSw); go_simp; first | done | with_reducible rfl)
            (try simp only [Act.put, List.setIfInBounds_toArray, List.set_cons_zero, List.set_cons_succ])
            refine wpT_one 14 rfl (by kernel_rfl) (fun K hK => ?_)
            go_simp
            go_at_call 34
            refine (CN.out _).mono ?_
            rintro e wn ⟨rfl, hbn⟩
            have hbS := hS.2.trans (hbn.mono hS.2.size)
            try have hQ := hQ.below hbn hQ.lt
            refine hK.out _ _ ?_ (fun hS => ?_)
            · (try dsimp only)
              exact sb_of hbS
            clear hK K
            (try simp only [Act.put, List.setIfInBounds_toArray, List.set_cons_zero, List.set_cons_succ])
            (try dsimp only at hS)
            refine wpT_take 15 (v := ?_) rfl (by kernel_rfl) (by kernel_rfl) (fun _ _ _ h => h) hS (Or.inl ⟨rfl, ?_⟩) ?_
            rotate_left
            · (intro w' hSw; (try dsimp only at hSw); go_simp; first | done | with_reducible rfl)
            (try simp only [Act.put, List.setIfInBounds_toArray, List.set_cons_zero, List.set_cons_succ])
            refine wpT_take 16 (v := ?_) rfl (by kernel_rfl) (by kernel_rfl) (fun _ _ _ h => h) hS (Or.inl ⟨rfl, ?_⟩) ?_
            rotate_left
            · (intro w' hSw; (try dsimp only at hSw); go_simp; first | done | with_reducible rfl)
            (try simp only [Act.put, List.setIfInBounds_toArray, List.set_cons_zero, List.set_cons_succ])
            refine wpT_take 17 (v := ?_) rfl (by kernel_rfl) (by kernel_rfl) (fun _ _ _ h => h) hS (Or.inl ⟨rfl, ?_⟩) ?_
            rotate_left
            · (intro w' hSw; (try dsimp only at hSw); go_simp; first | done | with_reducible rfl)
            (try simp only [Act.put, List.setIfInBounds_toArray, List.set_cons_zero, List.set_cons_succ])
            refine wpT_one 19 rfl (by kernel_rfl) (fun K hK => ?_)
            obtain ⟨⟨u0, u1, u2⟩, v0, v1, v2⟩ := hQ.three
            go_simp
            refine k_world (fun WX hWX => ?_)
            have hQ0 := hQ
            obtain ⟨hQ, hkX⟩ := store3 hWX hQ
            clear hWX u0 u1 u2 v0 v1 v2
            skip
            have hbS := hS.2.trans (hkX.to_below hS.2.size (by simpa using hq16))
            refine hK.out _ _ ?_ (fun hS => ?_)
            · (try dsimp only)
              exact sb_of hbS
            clear hK K
            (try simp only [Act.put, List.setIfInBounds_toArray, List.set_cons_zero, List.set_cons_succ])
            (try dsimp only at hS)
            refine wpT_tail (by rfl) (by kernel_rfl) ?_
            (try simp only [List.drop_succ_cons, List.drop_zero])
            go_wp2
            go_meet
            exact ⟨rfl, hS.2⟩
        case rest =>
          obtain ⟨rfl, hb3⟩ := hcut
          have hB3 := hB2.below hb3 hB2.lt
          have hbw3 := hbw2.trans (hb3.mono (by omega))
          have hz3 := hB3.lt
          obtain ⟨e0, e1, e2, e3, e4⟩ := hB3.five
          have f0 := hB3.frozen 0
          have f1 := hB3.frozen 1
          have f2 := hB3.frozen 2
          have f3 := hB3.frozen 3
          have f4 := hB3.frozen 4
          go_wp2
          obtain ⟨hR9, hk9⟩ := store5 (w := wc) (b0 := .int .i64 0) (b1 := .int .i64 0) (b2 := .int .i64 0) (b3 := .int .i64 0) (b4 := .slice none 0 0) rfl hB3
          have hB9 := hbw3.trans (hk9.to_below (by omega) (by simp))
          generalize ((((World.setCell wc ⟨p, 0, none⟩ (.int .i64 0)).setCell ⟨p, 1, none⟩ (.int .i64 0)).setCell ⟨p, 2, none⟩ (.int .i64 0)).setCell ⟨p, 3, none⟩ (.int .i64 0)).setCell ⟨p, 4, none⟩ (.slice none 0 0) = W9 at *
          obtain ⟨s0, s1, s2, s3, s4⟩ := hR9.five
          refine bodyPost_ret (v := .tuple #[zPic, .int .i64 13]) (by simp [results, Try.results58, go_sem, s0, s1, s2, s3, s4]) rfl ⟨fun m n h1 h2 h3 h4 => ?_, fun _ => rfl, by rw [HP.out]; exact hB9⟩
          have e1 := HWE.out.symm.trans h1
          have e2 := HHE.out.symm.trans h2
          exact absurd (by rw [e1, e2]; simp [sideB]; omega) HOK.out
end Go.Proofs.Ytlanefdeeanpnaa
