/-
  Contract of Winding of layer 7's reference. Conditions: at most 1000 polygons with at most 1000 points, read below the heap's size. (Printed by genwindr.py.)
-/
import Derived.Test.YtlanefdeeanpnaaWind2
namespace Go.Proofs.Ytlanefdeeanpnaa
set_option linter.unusedVariables false
set_option linter.unusedSimpArgs false
open Go.RowKit
attribute [local go_sem ↓] Go.wp_at_zero Go.wp_at_succ

set_option maxHeartbeats 4000000 in
set_option maxRecDepth 100000 in
theorem ref07_Winding_in (ls : List (List Pt)) (A : Option Addr) (c : Nat) (x y : Int) (w : World) (hl : ls.length ≤ 1000) (hp : ∀ p ∈ ls, p.length ≤ 1000) (ha : allIn ls = true) (hx : inB x = true) (hy : inB y = true) (hr : RdPs w w.heap.size A ls) :
    Calls Try.prog 55 #[.slice A ls.length c, .int .i64 x, .int .i64 y] w fun e w' => e = .returned (.int .i64 (windN ls x y)) ∧ Below w.heap.size w w' := by
  have CR := Lib.hid (fun h => ref07_ranged ls A c w hl hp h)
  rw [ha] at CR
  have CX := Lib.hid (ref07_in x)
  have CY := Lib.hid (ref07_in y)
  rw [hx] at CX
  rw [hy] at CY
  have HX := Lib.hid (in_yes hx)
  have HY := Lib.hid (in_yes hy)
  have HR := Lib.hid hr
  have HS := Lib.hid (fun s => windL_small hp x y s)
  have HPL := Lib.hid (fun i (h : i < ls.length) => hp ls[i] (List.getElem_mem h))
  have HIN := Lib.hid (fun i k (hi : i < ls.length) (hk : k < ls[i].length) => ptIn_yes (allIn_pt ha hi hk))
  clear hr hp ha hx hy
  go_enter Try.func55, Try.ntmps55
  go_wp2_with fail
  refine (CR.out HR.out).mono ?_
  rintro e wa ⟨rfl, rfl⟩
  go_wp2_with fail
  refine (CX.out _).mono ?_
  rintro e wa ⟨rfl, rfl⟩
  go_wp2_with fail
  refine (CY.out _).mono ?_
  rintro e wa ⟨rfl, rfl⟩
  clear CR CX CY
  go_wp2_with fail
  go_loopw [7, 8, 9] (fun s7 s8 _ wr => ∃ i : Nat, i ≤ ls.length ∧ s8 = .int .i64 i ∧ s7 = .int .i64 (windL ls x y i) ∧ Below w.heap.size w wr) (fun _ s8 _ _ => ls.length - (intOf s8).toNat)
  case atStart => exact ⟨0, Nat.zero_le _, rfl, rfl, Below.refl _ _⟩
  case round =>
    obtain ⟨i, hi, rfl, rfl, hbr⟩ := hrel
    by_cases hlt : i < ls.length
    · have hlt' : (i : Int) < (ls.length : Int) := by omega
      obtain ⟨b, o, rfl, hb, Ak, ck, hck, hrk⟩ := (HR.out.on hbr).at_ hlt
      have HRP := Lib.hid hrk
      have hs1 := HS.out i
      have HW : Hid (windL ls x y (i + 1) = windL ls x y i + windR ls[i] x y ls[i].length) := Lib.hid (by rw [windL, getD_at hlt, windR_all])
      have hpl := HPL.out i hlt
      have HINi := Lib.hid (fun k hk => HIN.out i k hlt hk)
      generalize windL ls x y i = n0 at *
      generalize ls[i] = p at *
      have HPS := Lib.hid (fun t => windR_small p x y t)
      clear hrk HIN HS HPL
      obtain ⟨hs2, hs3⟩ := hs1
      go_wp2_with fail
      go_loopw [7, 9] (fun s7 s9 wx => ∃ k : Nat, k ≤ p.length ∧ s9 = .int .i64 k ∧ s7 = .int .i64 (n0 + windR p x y k) ∧ Below wr.heap.size wr wx) (fun _ s9 _ => p.length - (intOf s9).toNat)
      case atStart => exact ⟨0, Nat.zero_le _, rfl, by simp [windR], Below.refl _ _⟩
      case round =>
        obtain ⟨k, hk, rfl, rfl, hbx⟩ := hrel
        have hckx := (hbx.cell (p := ⟨b, o + i, none⟩) hb).trans hck
        have hbz : b < wr.heap.size := by have := hbx.size; omega
        clear hck
        by_cases hlk : k < p.length
        · have hlk' : (k : Int) < (p.length : Int) := by omega
          have hpos : 0 < p.length := by omega
          have hmi : ((k : Int) + 1).tmod (p.length : Int) = (((k + 1) % p.length : Nat) : Int) := by
            rw [Int.tmod_eq_emod_of_nonneg (by omega), Int.natCast_emod]
            congr 1
          have hml : (k + 1) % p.length < p.length := Nat.mod_lt _ hpos
          have HWP : Hid (windR p x y (k + 1) = windR p x y k + turnsV p[k] p[(k + 1) % p.length] x y) := Lib.hid (by rw [windR, getD_at hml, getD_at hlk])
          have hps := HPS.out k
          generalize windR p x y k = t0 at *
          generalize (k + 1) % p.length = kx at *
          have hrx := HRP.out.on hbx
          obtain ⟨b2, o2, rfl, hb2, x0, x1, x2⟩ := hrx.at_ hlk
          obtain ⟨b3, o3, e3, hb3, y0, y1, y2⟩ := hrx.at_ hml
          injection e3 with e3
          injection e3 with e31 e32 _
          subst e31 e32
          have hq1 := HINi.out k hlk
          have hq2 := HINi.out kx hml
          generalize p[k] = q at *
          generalize p[kx] = q2 at *
          obtain ⟨X, Y, O⟩ := q
          obtain ⟨X2, Y2, O2⟩ := q2
          dsimp only at x0 x1 x2 y0 y1 y2 hq1 hq2
          obtain ⟨⟨g1, g2⟩, g3, g4⟩ := hq1
          obtain ⟨⟨g5, g6⟩, g7, g8⟩ := hq2
          have hmx : (kx : Int) < (p.length : Int) := by omega
          have hml0 : ¬ (p.length : Int) = 0 := by omega
          have hml1 : ¬ p.length = 0 := by omega
          have CP := Lib.hid (fun w => ref07_left X Y X2 Y2 x y O O2 w ⟨g1, g2⟩ ⟨g3, g4⟩ ⟨g5, g6⟩ ⟨g7, g8⟩ HX.out HY.out)
          have CQ := Lib.hid (fun w => ref07_left X2 Y2 X Y x y O2 O w ⟨g5, g6⟩ ⟨g7, g8⟩ ⟨g1, g2⟩ ⟨g3, g4⟩ HX.out HY.out)
          clear g1 g2 g3 g4 g5 g6 g7 g8
          have wi1 : IntKind.i64.wrap ((k : Int) + 1) = (k : Int) + 1 := IntWalk.i64_in _ (by omega)
          go_upto_region 11 with fail
          refine wp_world (fun W1 hW1 => ?_)
          obtain ⟨hQ, hbn, hsn⟩ := new1 hW1
          clear hW1
          have hbx1 := hbx.trans (hbn.mono hbx.size)
          have y0' := (hbn.cell (p := ⟨b2, o2 + kx * 3, none⟩) hb2).trans y0
          have y1' := (hbn.cell (p := ⟨b2, o2 + kx * 3 + 1, none⟩) hb2).trans y1
          have y2' := (hbn.cell (p := ⟨b2, o2 + kx * 3 + 2, none⟩) hb2).trans y2
          have hck1 := (hbn.cell (p := ⟨b, o + i, none⟩) hbz).trans hckx
          have zb2 : b2 < W1.heap.size := by omega
          have zb1 : b < W1.heap.size := by omega
          generalize hqq : wr.heap.size = q10 at *
          clear hqq hsn hbn x0 x1 x2 y0 y1 y2 hckx
          refine wp_region_L 15 (fun w' => (∀ b o, b < W1.heap.size → w'.cell? ⟨b, o, none⟩ = W1.cell? ⟨b, o, none⟩) ∧ Below W1.heap.size W1 w') (by kernel_rfl) ?_ (fun Wd hWd hS => ?_)
          · (try dsimp only)
            exact sb_of (Below.refl _ _).drew
          (try dsimp only at hS)
          refine wpT_take 0 (v := ?_) rfl (by kernel_rfl) (by kernel_rfl) (fun _ _ _ h => h) hS (Or.inl ⟨rfl, ?_⟩) ?_
          rotate_left
          · (intro w' hSw; (try dsimp only at hSw); go_simp; first | done | with_reducible rfl)
          (try simp only [Act.put, List.setIfInBounds_toArray, List.set_cons_zero, List.set_cons_succ])
          refine wpT_take 1 (v := ?_) rfl (by kernel_rfl) (by kernel_rfl) (fun _ _ _ h => h) hS (Or.inl ⟨rfl, ?_⟩) ?_
          rotate_left
          · (intro w' hSw; (try dsimp only at hSw); go_simp; first | done | with_reducible rfl)
          (try simp only [Act.put, List.setIfInBounds_toArray, List.set_cons_zero, List.set_cons_succ])
          refine wpT_take 2 (v := ?_) rfl (by kernel_rfl) (by kernel_rfl) (fun _ _ _ h => h) hS (Or.inl ⟨rfl, ?_⟩) ?_
          rotate_left
          · (intro w' hSw; (try dsimp only at hSw); go_simp; first | done | with_reducible rfl)
          (try simp only [Act.put, List.setIfInBounds_toArray, List.set_cons_zero, List.set_cons_succ])
          refine wpT_take 3 (v := ?_) rfl (by kernel_rfl) (by kernel_rfl) (fun _ _ _ h => h) hS (Or.inl ⟨rfl, ?_⟩) ?_
          rotate_left
          · (intro w' hSw; (try dsimp only at hSw); go_simp; first | done | with_reducible rfl)
          (try simp only [Act.put, List.setIfInBounds_toArray, List.set_cons_zero, List.set_cons_succ])
          refine wpT_take 4 (v := ?_) rfl (by kernel_rfl) (by kernel_rfl) (fun _ _ _ h => h) hS (Or.inl ⟨rfl, ?_⟩) ?_
          rotate_left
          · (intro w' hSw; (try dsimp only at hSw); go_simp; first | done | with_reducible rfl)
          (try simp only [Act.put, List.setIfInBounds_toArray, List.set_cons_zero, List.set_cons_succ])
          refine wpT_take 5 (v := ?_) rfl (by kernel_rfl) (by kernel_rfl) (fun _ _ _ h => h) hS (Or.inl ⟨rfl, ?_⟩) ?_
          rotate_left
          · (intro w' hSw; (try dsimp only at hSw); go_simp; first | done | with_reducible rfl)
          (try simp only [Act.put, List.setIfInBounds_toArray, List.set_cons_zero, List.set_cons_succ])
          refine wpT_take 6 (v := ?_) rfl (by kernel_rfl) (by kernel_rfl) (fun _ _ _ h => h) hS (Or.inl ⟨rfl, ?_⟩) ?_
          rotate_left
          · (intro w' hSw; (try dsimp only at hSw); go_simp; first | done | with_reducible rfl)
          (try simp only [Act.put, List.setIfInBounds_toArray, List.set_cons_zero, List.set_cons_succ])
          refine wpT_take 7 (v := ?_) rfl (by kernel_rfl) (by kernel_rfl) (fun _ _ _ h => h) hS (Or.inl ⟨rfl, ?_⟩) ?_
          rotate_left
          · (intro w' hSw; (try dsimp only at hSw); go_simp; first | done | with_reducible rfl)
          (try simp only [Act.put, List.setIfInBounds_toArray, List.set_cons_zero, List.set_cons_succ])
          refine wpT_take 8 (v := ?_) rfl (by kernel_rfl) (by kernel_rfl) (fun _ _ _ h => h) hS (Or.inl ⟨rfl, ?_⟩) ?_
          rotate_left
          · (intro w' hSw; (try dsimp only at hSw); go_simp; first | done | with_reducible rfl)
          (try simp only [Act.put, List.setIfInBounds_toArray, List.set_cons_zero, List.set_cons_succ])
          refine wpT_take 9 (v := ?_) rfl (by kernel_rfl) (by kernel_rfl) (fun _ _ _ h => h) hS (Or.inl ⟨rfl, ?_⟩) ?_
          rotate_left
          · (intro w' hSw; (try dsimp only at hSw); go_simp; first | done | with_reducible rfl)
          (try simp only [Act.put, List.setIfInBounds_toArray, List.set_cons_zero, List.set_cons_succ])
          refine wpT_take 10 (v := ?_) rfl (by kernel_rfl) (by kernel_rfl) (fun _ _ _ h => h) hS (Or.inl ⟨rfl, ?_⟩) ?_
          rotate_left
          · (intro w' hSw; (try dsimp only at hSw); go_simp; first | done | with_reducible rfl)
          (try simp only [Act.put, List.setIfInBounds_toArray, List.set_cons_zero, List.set_cons_succ])
          refine wpT_take 11 (v := ?_) rfl (by kernel_rfl) (by kernel_rfl) (fun _ _ _ h => h) hS (Or.inl ⟨rfl, ?_⟩) ?_
          rotate_left
          · (intro w' hSw; (try dsimp only at hSw); go_simp; first | done | with_reducible rfl)
          (try simp only [Act.put, List.setIfInBounds_toArray, List.set_cons_zero, List.set_cons_succ])
          refine wpT_take 12 (v := ?_) rfl (by kernel_rfl) (by kernel_rfl) (fun _ _ _ h => h) hS (Or.inl ⟨rfl, ?_⟩) ?_
          rotate_left
          · (intro w' hSw; (try dsimp only at hSw); go_simp; first | done | with_reducible rfl)
          (try simp only [Act.put, List.setIfInBounds_toArray, List.set_cons_zero, List.set_cons_succ])
          refine wpT_take 13 (v := ?_) rfl (by kernel_rfl) (by kernel_rfl) (fun _ _ _ h => h) hS (Or.inl ⟨rfl, ?_⟩) ?_
          rotate_left
          · (intro w' hSw; (try dsimp only at hSw); go_simp; first | done | with_reducible rfl)
          (try simp only [Act.put, List.setIfInBounds_toArray, List.set_cons_zero, List.set_cons_succ])
          refine wpT_one 14 rfl (by kernel_rfl) (fun K hK => ?_)
          go_simp
          refine k_world (fun Wq hWq => ?_)
          obtain ⟨q11, eqq, hQ11, hbQ, hsQ⟩ := new1n hWq
          clear hWq
          try rw [eqq]
          have hbS := hS.2.trans (hbQ.mono (by have := hS.2.size; omega))
          refine hK.out _ _ ?_ (fun hS => ?_)
          · (try dsimp only)
            exact sb_of hbS
          clear hK K
          (try simp only [Act.put, List.setIfInBounds_toArray, List.set_cons_zero, List.set_cons_succ])
          (try dsimp only at hS)
          refine wpT_tail (by rfl) (by kernel_rfl) ?_
          (try simp only [List.drop_succ_cons, List.drop_zero])
          have hbq := hS.2
          have hQ2 := hQ.below hbq hQ.lt
          have hne : q10 ≠ q11 := by have := hQ.lt; have := hS.2.size; have := hWd.size; omega
          have hq11 : W1.heap.size ≤ q11 := by have := hWd.size; omega
          clear hS hQ hck1 y0' y1' y2'
          obtain ⟨⟨e0, e1, e2⟩, f0, f1, f2⟩ := hQ11.three
          go_upto_region 12 with fail
          refine wp_world (fun W2 hW2 => ?_)
          obtain ⟨hQb, hk2⟩ := store3 hW2 hQ11
          have hQa := hk2.blk hQ2 (by simpa using hne)
          have hbx2 := hbx1.trans ((hbq.trans (hk2.to_below hbq.size (by simpa using hq11))).mono hbx1.size)
          clear hW2 hk2 hQ2 hQ11 e0 e1 e2 f0 f1 f2 hbq hbQ hsQ hWd eqq
          obtain ⟨⟨a0, a1, a2⟩, _⟩ := hQa.three
          obtain ⟨⟨v0, v1, v2⟩, _⟩ := hQb.three
          have za := hQa.lt
          have zb := hQb.lt
          clear hbx hbx1 zb2 zb1 hq11
          by_cases c1 : Y ≤ y
          · by_cases c2 : y < Y2
            · have d1 : ¬ Y2 ≤ y := by omega
              have HTy := Lib.hid (show (X2 - X) * (y - Y) < (x - X) * (Y2 - Y) → turnsV (X, Y, O) (X2, Y2, O2) x y = 1 from fun h => by unfold turnsV; rw [if_pos ⟨c1, c2, h⟩])
              have HTn := Lib.hid (show ¬ (X2 - X) * (y - Y) < (x - X) * (Y2 - Y) → turnsV (X, Y, O) (X2, Y2, O2) x y = 0 from fun h => by unfold turnsV; rw [if_neg (fun g => h g.2.2), if_neg (fun g => d1 g.1)])
              go_wp2_with fail
              refine (CP.out _).mono ?_
              rintro e wb ⟨rfl, hbb⟩
              have hbw := hbx2.trans (hbb.mono hbx2.size)
              obtain ⟨⟨a0, a1, a2⟩, _⟩ := (hQa.below hbb hQa.lt).three
              obtain ⟨⟨v0, v1, v2⟩, _⟩ := (hQb.below hbb hQb.lt).three
              by_cases c3 : (X2 - X) * (y - Y) < (x - X) * (Y2 - Y)
              · rw [decide_eq_true c3]
                have htv := HTy.out c3
                clear c3
                go_wp2_with fail
                go_roundw
                case rel => exact ⟨k + 1, by omega, by go_num, by rw [HWP.out, htv]; rw [Int.add_assoc], hbw⟩
                case measure => simp [intOf]; omega
              · rw [decide_eq_false c3]
                have htv := HTn.out (by omega)
                clear c3
                go_wp2_with fail
                go_roundw
                case rel => exact ⟨k + 1, by omega, by go_num, by rw [HWP.out, htv]; simp, hbw⟩
                case measure => simp [intOf]; omega
            · have d1 : Y2 ≤ y := by omega
              have d2 : ¬ y < Y := by omega
              have hbw := hbx2
              have htv : turnsV (X, Y, O) (X2, Y2, O2) x y = 0 := by unfold turnsV; rw [if_neg (fun h => c2 h.2.1), if_neg (fun h => d2 h.2.1)]
              go_wp2_with fail
              go_roundw
              case rel => exact ⟨k + 1, by omega, by go_num, by rw [HWP.out, htv]; simp, hbw⟩
              case measure => simp [intOf]; omega
          · by_cases d1 : Y2 ≤ y
            · have d2 : y < Y := by omega
              have HTy := Lib.hid (show (X - X2) * (y - Y2) < (x - X2) * (Y - Y2) → turnsV (X, Y, O) (X2, Y2, O2) x y = -1 from fun h => by unfold turnsV; rw [if_neg (fun g => c1 g.1), if_pos ⟨d1, d2, h⟩])
              have HTn := Lib.hid (show ¬ (X - X2) * (y - Y2) < (x - X2) * (Y - Y2) → turnsV (X, Y, O) (X2, Y2, O2) x y = 0 from fun h => by unfold turnsV; rw [if_neg (fun g => c1 g.1), if_neg (fun g => h g.2.2)])
              go_wp2_with fail
              refine (CQ.out _).mono ?_
              rintro e wb ⟨rfl, hbb⟩
              have hbw := hbx2.trans (hbb.mono hbx2.size)
              by_cases c3 : (X - X2) * (y - Y2) < (x - X2) * (Y - Y2)
              · rw [decide_eq_true c3]
                have htv := HTy.out c3
                clear c3
                go_wp2_with fail
                go_roundw
                case rel => exact ⟨k + 1, by omega, by go_num, by rw [HWP.out, htv]; go_num, hbw⟩
                case measure => simp [intOf]; omega
              · rw [decide_eq_false c3]
                have htv := HTn.out (by omega)
                clear c3
                go_wp2_with fail
                go_roundw
                case rel => exact ⟨k + 1, by omega, by go_num, by rw [HWP.out, htv]; simp, hbw⟩
                case measure => simp [intOf]; omega
            · have hbw := hbx2
              have htv : turnsV (X, Y, O) (X2, Y2, O2) x y = 0 := by unfold turnsV; rw [if_neg (fun h => c1 h.1), if_neg (fun h => d1 h.1)]
              go_wp2_with fail
              go_roundw
              case rel => exact ⟨k + 1, by omega, by go_num, by rw [HWP.out, htv]; simp, hbw⟩
              case measure => simp [intOf]; omega
        · have hke : k = p.length := by omega
          have hlk' : ¬ (k : Int) < (p.length : Int) := by omega
          subst hke
          go_wp2
          go_roundw
          case rel => exact ⟨i + 1, by omega, by go_num, by rw [HW.out], hbr.trans (hbx.mono hbr.size)⟩
          case measure => simp [intOf]; omega
    · have hie : i = ls.length := by omega
      have hlt' : ¬ (i : Int) < (ls.length : Int) := by omega
      subst hie
      go_wp2
      go_ret
      exact ⟨rfl, hbr⟩
end Go.Proofs.Ytlanefdeeanpnaa
