/-
  Contract of turned of layer 7's law: the polygons the other way round, and begun elsewhere. Conditions: at most 1000 polygons with at most 1000 points, read below the heap's size.
-/
import Derived.Test.YtlanefdeeanpnaaPolyApp2
import Derived.Test.YtlanefdeeanpnaaRing7
namespace Go.Proofs.Ytlanefdeeanpnaa
set_option linter.unusedVariables false
set_option linter.unusedSimpArgs false
open Go.RowKit
attribute [local go_sem ↓] Go.wp_at_zero Go.wp_at_succ

def rotB (z : Int) (p : List Pt) : List Pt := rot (z % (p.length : Int)).toNat p
theorem rot_len {r : Nat} {p : List Pt} (h : r ≤ p.length) : (rot r p).length = p.length := by simp [rot]; omega
theorem rot_at {r k : Nat} {p : List Pt} (hr : r < p.length) (hk : k < p.length) : ∃ h1 h2, (rot r p)[k]'h1 = p[(k + r) % p.length]'h2 := by
  refine ⟨by rw [rot_len (by omega)]; exact hk, Nat.mod_lt _ (by omega), ?_⟩
  unfold rot
  rcases Nat.lt_or_ge k (p.length - r) with h | h
  · rw [List.getElem_append_left (by rw [List.length_drop]; exact h), List.getElem_drop]
    congr 1
    rw [Nat.mod_eq_of_lt (by omega), Nat.add_comm]
  · rw [List.getElem_append_right (by rw [List.length_drop]; exact h), List.getElem_take]
    congr 1
    rw [List.length_drop, show k + r = (k - (p.length - r)) + p.length by omega, Nat.add_mod_right, Nat.mod_eq_of_lt (by omega)]
theorem mod_nat {z : Int} {n : Nat} (h : 0 < n) : ∃ r : Nat, z % (n : Int) = (r : Int) ∧ r < n := by
  have h1 := Int.emod_nonneg z (show (n : Int) ≠ 0 by omega)
  have h2 := Int.emod_lt_of_pos z (show (0 : Int) < n by omega)
  exact ⟨(z % (n : Int)).toNat, by omega, by omega⟩

set_option maxHeartbeats 8000000 in
set_option maxRecDepth 100000 in
theorem turned_any (ls : List (List Pt)) (A : Option Addr) (c : Nat) (z : Int) (w : World) (hls : ls.length ≤ 1000) (hp : ∀ p ∈ ls, p.length ≤ 1000) (hr : RdPs w w.heap.size A ls) :
    Calls Try.prog 61 #[.slice A ls.length c, .int .i64 z] w fun e w' =>
      ∃ (A1 A2 : Option Addr) (c1 c2 : Nat), e = .returned (.tuple #[.slice A1 ls.length c1, .slice A2 ls.length c2]) ∧ RdPs w' w'.heap.size A1 (ls.map List.reverse) ∧ RdPs w' w'.heap.size A2 (ls.map (rotB z)) ∧ Below w.heap.size w w' := by
  have HR := Lib.hid hr
  have HPL := Lib.hid (fun i (h : i < ls.length) => hp ls[i] (List.getElem_mem h))
  have HU := Lib.hid (Try.underlying96)
  have HU2 := Lib.hid (Try.underlying78)
  clear hr hp
  go_enter Try.func61, Try.ntmps61
  go_wp2_with fail
  generalize hp : w.heap.size = B at *
  have HP := Lib.hid hp
  clear hp
  go_loopw [6, 7, 14] (fun s6 s7 s14 wr => ∃ (i : Nat) (rs qs : List Row) (A6 A7 : Option Addr) (c6 c7 : Nat), i ≤ ls.length ∧ s14 = .int .i64 i ∧ s6 = .slice A6 i c6 ∧ s7 = .slice A7 i c7 ∧
    wr.ownsRow B 96 1 (.slice A6 i c6) i (rs.map rowV) ∧ wr.ownsRow B 96 1 (.slice A7 i c7) i (qs.map rowV) ∧ Hid (Apart (.slice A6 i c6) (.slice A7 i c7)) ∧
    Hid (rs.map (fun r => r.2.2) = (ls.take i).map List.reverse ∧ rs.length = i) ∧ Hid (qs.map (fun r => r.2.2) = (ls.take i).map (rotB z) ∧ qs.length = i) ∧
    Hid (∀ r ∈ rs, wr.ownsRow B 134 3 (.slice r.1 r.2.2.length r.2.1) r.2.2.length (flat r.2.2)) ∧ Hid (∀ r ∈ qs, wr.ownsRow B 134 3 (.slice r.1 r.2.2.length r.2.1) r.2.2.length (flat r.2.2)) ∧ Below B w wr) (fun _ _ s14 _ => ls.length - (intOf s14).toNat)
  case atStart => exact ⟨0, [], [], none, none, 0, 0, by omega, rfl, rfl, rfl, World.ownsRow_nil _ _ _ _, World.ownsRow_nil _ _ _ _, Lib.hid (Apart.nil _), Lib.hid ⟨rfl, rfl⟩, Lib.hid ⟨rfl, rfl⟩, Lib.hid (fun r hr => absurd hr (by simp)), Lib.hid (fun r hr => absurd hr (by simp)), Below.refl _ _⟩
  case round =>
    obtain ⟨i, rs, qs, A6, A7, c6, c7, hil, rfl, rfl, rfl, hown6, hown7, HAP, HRS, HQS, HRO, HQO, hbr⟩ := hrel
    have hsz := hbr.size
    by_cases hlt : i < ls.length
    · have hlt' : (i : Int) < (ls.length : Int) := by omega
      obtain ⟨b, o, rfl, hb, AL, cL, hck, hrk⟩ := HR.out.at_ hlt
      have hck1 := (hbr.cell (p := ⟨b, o + i, none⟩) hb).trans hck
      have hpl := HPL.out i hlt
      have HM1 : Hid ((ls.take (i + 1)).map List.reverse = (ls.take i).map List.reverse ++ [ls[i].reverse]) := Lib.hid (by rw [List.take_succ_eq_append_getElem hlt, List.map_append]; rfl)
      have HM2 : Hid ((ls.take (i + 1)).map (rotB z) = (ls.take i).map (rotB z) ++ [rotB z ls[i]]) := Lib.hid (by rw [List.take_succ_eq_append_getElem hlt, List.map_append]; rfl)
      have HRL := Lib.hid (hrk.below hbr (Nat.le_refl _))
      generalize ls[i] = L at *
      clear hck hrk
      have hsz' : B ≤ wr.heap.size := by have := HP.out; omega
      have hpB := HP.out
      clear hsz
      go_wp2_with fail
      go_loopw [9, 10, 22] (fun s9 s10 s22 wx => ∃ (k : Nat) (A9 A10 : Option Addr) (c9 c10 : Nat), k ≤ L.length ∧ s22 = .int .i64 k ∧ s9 = .slice A9 k c9 ∧ s10 = .slice A10 k c10 ∧
        wx.ownsRow wr.heap.size 134 3 (.slice A9 k c9) k (flat (L.reverse.take k)) ∧ wx.ownsRow wr.heap.size 134 3 (.slice A10 k c10) k (flat ((rotB z L).take k)) ∧ Hid (Apart (.slice A9 k c9) (.slice A10 k c10)) ∧ Below wr.heap.size wr wx) (fun _ _ s22 _ => L.length - (intOf s22).toNat)
      case atStart => exact ⟨0, none, none, 0, 0, by omega, rfl, rfl, rfl, World.ownsRow_nil _ _ _ _, World.ownsRow_nil _ _ _ _, Lib.hid (Apart.nil _), Below.refl _ _⟩
      case round =>
        obtain ⟨k, A9, A10, c9, c10, hkl, rfl, rfl, rfl, hown9, hown10, HAQ, hbx⟩ := hrel
        have hckx := (hbx.cell (p := ⟨b, o + i, none⟩) (show b < _ by omega)).trans hck1
        have hzx := hbx.size
        by_cases hlk : k < L.length
        · have hlk' : (k : Int) < (L.length : Int) := by omega
          obtain ⟨r, hr, hrl⟩ := mod_nat (z := z) (n := L.length) (by omega)
          have hrot : rotB z L = rot r L := by unfold rotB; rw [hr]; rfl
          have CM := Lib.hid (fun w => Mod_any z (L.length : Int) w (by omega) (by omega))
          rw [hr] at CM
          rw [hrot] at hown10
          have hx : L.length - 1 - k < L.length := by omega
          have hy : (k + r) % L.length < L.length := Nat.mod_lt _ (by omega)
          have HRX := Lib.hid (HRL.out.below hbx (by omega))
          obtain ⟨b2, o2, rfl, hb2, x0, x1, x2⟩ := HRX.out.at_ hx
          obtain ⟨b3, o3, e3, hb3, y0, y1, y2⟩ := HRX.out.at_ hy
          injection e3 with e3
          injection e3 with e31 e32 _
          subst e31 e32
          have HMK : Hid (L.reverse.take (k + 1) = L.reverse.take k ++ [L[L.length - 1 - k]]) := Lib.hid (by rw [List.take_succ_eq_append_getElem (by simpa using hlk), List.getElem_reverse])
          have HMQ : Hid ((rotB z L).take (k + 1) = (rot r L).take k ++ [L[(k + r) % L.length]]) := Lib.hid (by
            obtain ⟨h1, h2, h3⟩ := rot_at hrl hlk
            rw [hrot, List.take_succ_eq_append_getElem h1, h3])
          have HKL : Hid ((L.reverse.take k).length = k) := Lib.hid (by simp; omega)
          have HKQ : Hid (((rot r L).take k).length = k) := Lib.hid (by rw [List.length_take, rot_len (by omega)]; omega)
          have hmi : ((k : Int) + (r : Int)).tmod (L.length : Int) = (((k + r) % L.length : Nat) : Int) := by
            rw [Int.tmod_eq_emod_of_nonneg (by omega), Int.natCast_emod, Int.natCast_add]
          have hmx : (L.length : Int) - 1 - (k : Int) = ((L.length - 1 - k : Nat) : Int) := by omega
          generalize (rot r L).take k = P2 at *
          generalize L.reverse.take k = P at *
          generalize L[(k + r) % L.length] = q2 at *
          generalize L[L.length - 1 - k] = q at *
          generalize (k + r) % L.length = ky at *
          generalize L.length - 1 - k = kx at *
          obtain ⟨X, Y, O⟩ := q
          obtain ⟨X2, Y2, O2⟩ := q2
          dsimp only at x0 x1 x2 y0 y1 y2
          have hL0 : ¬ (L.length : Int) = 0 := by omega
          have hLn : ¬ L = [] := fun h => by rw [h] at hlk; simp at hlk
          have w1 : IntKind.i64.wrap ((L.length : Int) - 1) = (L.length : Int) - 1 := IntWalk.i64_in _ (by omega)
          have w2 : IntKind.i64.wrap ((L.length : Int) - 1 - (k : Int)) = (kx : Int) := by rw [hmx]; exact IntWalk.i64_in _ (by omega)
          have w3 : IntKind.i64.wrap ((k : Int) + (r : Int)) = (k : Int) + (r : Int) := IntWalk.i64_in _ (by omega)
          have hx' : (kx : Int) < (L.length : Int) := by omega
          have hy' : (ky : Int) < (L.length : Int) := by omega
          clear hr hrot hmx
          go_upto_region 9 with fail
          refine wp_region_L 17 (fun w' => (∀ b o, b < B → w'.cell? ⟨b, o, none⟩ = wr.cell? ⟨b, o, none⟩) ∧ Below B wr w') (by kernel_rfl) ?_ (fun Wd hWd hS => ?_)
          · (try dsimp only)
            exact sb_at (Below.refl _ _).drew
          (try dsimp only at hS)
          refine wpT_take 0 (v := ?_) rfl (by kernel_rfl) (by kernel_rfl) (fun _ _ _ h => h) hS (Or.inl ⟨rfl, ?_⟩) ?_
          rotate_left
          · (intro w' hSw; (try dsimp only at hSw); go_simp; first | done | with_reducible rfl)
          (try simp only [Act.put, List.setIfInBounds_toArray, List.set_cons_zero, List.set_cons_succ])
          refine wpT_take 1 (v := ?_) rfl (by kernel_rfl) (by kernel_rfl) (fun _ _ _ h => h) hS (Or.inl ⟨rfl, ?_⟩) ?_
          rotate_left
          · (intro w' hSw; (try dsimp only at hSw); go_simp; first | done | with_reducible rfl)
          (try simp only [Act.put, List.setIfInBounds_toArray, List.set_cons_zero, List.set_cons_succ])
          refine wpT_take 2 (v := ?_) rfl (by kernel_rfl) (by kernel_rfl) (fun _ _ _ h => h) hS (Or.inl ⟨rfl, ?_⟩) ?_
          rotate_left
          · (intro w' hSw; (try dsimp only at hSw); go_simp; first | done | with_reducible rfl)
          (try simp only [Act.put, List.setIfInBounds_toArray, List.set_cons_zero, List.set_cons_succ])
          refine wpT_take 3 (v := ?_) rfl (by kernel_rfl) (by kernel_rfl) (fun _ _ _ h => h) hS (Or.inl ⟨rfl, ?_⟩) ?_
          rotate_left
          · (intro w' hSw; (try dsimp only at hSw); go_simp; first | done | with_reducible rfl)
          (try simp only [Act.put, List.setIfInBounds_toArray, List.set_cons_zero, List.set_cons_succ])
          refine wpT_take 4 (v := ?_) rfl (by kernel_rfl) (by kernel_rfl) (fun _ _ _ h => h) hS (Or.inl ⟨rfl, ?_⟩) ?_
          rotate_left
          · (intro w' hSw; (try dsimp only at hSw); go_simp; first | done | with_reducible rfl)
          (try simp only [Act.put, List.setIfInBounds_toArray, List.set_cons_zero, List.set_cons_succ])
          refine wpT_take 5 (v := ?_) rfl (by kernel_rfl) (by kernel_rfl) (fun _ _ _ h => h) hS (Or.inl ⟨rfl, ?_⟩) ?_
          rotate_left
          · (intro w' hSw; (try dsimp only at hSw); go_simp; first | done | with_reducible rfl)
          (try simp only [Act.put, List.setIfInBounds_toArray, List.set_cons_zero, List.set_cons_succ])
          refine wpT_take 6 (v := ?_) rfl (by kernel_rfl) (by kernel_rfl) (fun _ _ _ h => h) hS (Or.inl ⟨rfl, ?_⟩) ?_
          rotate_left
          · (intro w' hSw; (try dsimp only at hSw); go_simp; first | done | with_reducible rfl)
          (try simp only [Act.put, List.setIfInBounds_toArray, List.set_cons_zero, List.set_cons_succ])
          refine wpT_take 7 (v := ?_) rfl (by kernel_rfl) (by kernel_rfl) (fun _ _ _ h => h) hS (Or.inl ⟨rfl, ?_⟩) ?_
          rotate_left
          · (intro w' hSw; (try dsimp only at hSw); go_simp; first | done | with_reducible rfl)
          (try simp only [Act.put, List.setIfInBounds_toArray, List.set_cons_zero, List.set_cons_succ])
          refine wpT_take 8 (v := ?_) rfl (by kernel_rfl) (by kernel_rfl) (fun _ _ _ h => h) hS (Or.inl ⟨rfl, ?_⟩) ?_
          rotate_left
          · (intro w' hSw; (try dsimp only at hSw); go_simp; first | done | with_reducible rfl)
          (try simp only [Act.put, List.setIfInBounds_toArray, List.set_cons_zero, List.set_cons_succ])
          refine wpT_take 9 (v := ?_) rfl (by kernel_rfl) (by kernel_rfl) (fun _ _ _ h => h) hS (Or.inl ⟨rfl, ?_⟩) ?_
          rotate_left
          · (intro w' hSw; (try dsimp only at hSw); go_simp; first | done | with_reducible rfl)
          (try simp only [Act.put, List.setIfInBounds_toArray, List.set_cons_zero, List.set_cons_succ])
          refine wpT_take 10 (v := ?_) rfl (by kernel_rfl) (by kernel_rfl) (fun _ _ _ h => h) hS (Or.inl ⟨rfl, ?_⟩) ?_
          rotate_left
          · (intro w' hSw; (try dsimp only at hSw); go_simp; first | done | with_reducible rfl)
          (try simp only [Act.put, List.setIfInBounds_toArray, List.set_cons_zero, List.set_cons_succ])
          refine wpT_take 11 (v := ?_) rfl (by kernel_rfl) (by kernel_rfl) (fun _ _ _ h => h) hS (Or.inl ⟨rfl, ?_⟩) ?_
          rotate_left
          · (intro w' hSw; (try dsimp only at hSw); go_simp; first | done | with_reducible rfl)
          (try simp only [Act.put, List.setIfInBounds_toArray, List.set_cons_zero, List.set_cons_succ])
          refine wpT_take 12 (v := ?_) rfl (by kernel_rfl) (by kernel_rfl) (fun _ _ _ h => h) hS (Or.inl ⟨rfl, ?_⟩) ?_
          rotate_left
          · (intro w' hSw; (try dsimp only at hSw); go_simp; first | done | with_reducible rfl)
          (try simp only [Act.put, List.setIfInBounds_toArray, List.set_cons_zero, List.set_cons_succ])
          refine wpT_take 13 (v := ?_) rfl (by kernel_rfl) (by kernel_rfl) (fun _ _ _ h => h) hS (Or.inl ⟨rfl, ?_⟩) ?_
          rotate_left
          · (intro w' hSw; (try dsimp only at hSw); go_simp; first | done | with_reducible rfl)
          (try simp only [Act.put, List.setIfInBounds_toArray, List.set_cons_zero, List.set_cons_succ])
          refine wpT_take 14 (v := ?_) rfl (by kernel_rfl) (by kernel_rfl) (fun _ _ _ h => h) hS (Or.inl ⟨rfl, ?_⟩) ?_
          rotate_left
          · (intro w' hSw; (try dsimp only at hSw); go_simp; first | done | with_reducible rfl)
          (try simp only [Act.put, List.setIfInBounds_toArray, List.set_cons_zero, List.set_cons_succ])
          refine wpT_one 15 rfl (by kernel_rfl) (fun K hK => ?_)
          go_simp
          refine k_world (fun Wq hWq => ?_)
          have hown1 := own_below hown9 hWd
          have hownB := own_below hown10 hWd
          have hzd := hWd.size
          obtain ⟨qq, eqq, hQ, hbQ, hsQ⟩ := new1n hWq
          clear hWq
          rw [eqq]
          have hown2 := own_below hown1 (by rw [eqq]; exact hbQ)
          have hownC := own_below hownB (by rw [eqq]; exact hbQ)
          have hbS := hS.2.trans (hbQ.mono (by omega))
          have hbS2 := hWd.trans (hbQ.mono (by omega))
          refine hK.out _ _ ?_ (fun hS => ?_)
          · (try dsimp only)
            exact sb_at hbS
          clear hK K
          (try simp only [Act.put, List.setIfInBounds_toArray, List.set_cons_zero, List.set_cons_succ])
          (try dsimp only at hS)
          refine wpT_one 16 rfl (by kernel_rfl) (fun K hK => ?_)
          refine step_append_pt2 _ (by rfl) _ _ _ (by rfl) _ HU.out _ P (by rfl) (by rw [HKL.out]; exact hown2) qq X Y O (by rfl) hQ (by rw [HKL.out]; omega) (by have := hbS2.size; omega) ?_
          intro A17 c17 w17 hown17 hgrow hgrew
          rw [HKL.out] at hown17 hgrew ⊢
          have hownD := own_far hownC hgrow HAQ.out
          have HAR := Lib.hid (HAQ.out.grew hownC hgrew)
          have hbS3 := below_grown hbS hgrow (by have := hbS2.size; omega) (fun k hk => by have := (own_lt hown2 hk).1; omega)
          refine hK.out _ _ ?_ (fun hS => ?_)
          · (try dsimp only)
            exact sb_at hbS3
          clear hK K
          (try simp only [Act.put, List.setIfInBounds_toArray, List.set_cons_zero, List.set_cons_succ])
          (try dsimp only at hS)
          refine wpT_tail (by rfl) (by kernel_rfl) ?_
          (try simp only [List.drop_succ_cons, List.drop_zero])
          have hbx7 : Below _ _ w17 := below_grown (hbx.trans (hbS2.mono hbx.size)) hgrow (by have := hbS2.size; omega) (fun k hk => (own_lt hown2 hk).1)
          have hck7 := (hbS3.cell (p := ⟨b, o + i, none⟩) (show b < B by omega)).trans hckx
          have y07 := (hbS3.cell (p := ⟨b2, o2 + ky * 3, none⟩) (show b2 < B by omega)).trans y0
          have y17 := (hbS3.cell (p := ⟨b2, o2 + ky * 3 + 1, none⟩) (show b2 < B by omega)).trans y1
          have y27 := (hbS3.cell (p := ⟨b2, o2 + ky * 3 + 2, none⟩) (show b2 < B by omega)).trans y2
          clear hS hWd hckx x0 x1 x2 y0 y1 y2 hown1 hownB hown2 hownC hbS hbS2 hbS3 hgrow hgrew hQ hbQ hown9 hown10 hbx HAQ
          go_upto_region 10 with fail
          refine wp_region_L 24 (fun w' => (∀ b o, b < B → w'.cell? ⟨b, o, none⟩ = w17.cell? ⟨b, o, none⟩) ∧ Below B w17 w') (by kernel_rfl) ?_ (fun Wd hWd hS => ?_)
          · (try dsimp only)
            exact sb_at (Below.refl _ _).drew
          (try dsimp only at hS)
          refine wpT_take 0 (v := ?_) rfl (by kernel_rfl) (by kernel_rfl) (fun _ _ _ h => h) hS (Or.inl ⟨rfl, ?_⟩) ?_
          rotate_left
          · (intro w' hSw; (try dsimp only at hSw); go_simp; first | done | with_reducible rfl)
          (try simp only [Act.put, List.setIfInBounds_toArray, List.set_cons_zero, List.set_cons_succ])
          refine wpT_take 1 (v := ?_) rfl (by kernel_rfl) (by kernel_rfl) (fun _ _ _ h => h) hS (Or.inl ⟨rfl, ?_⟩) ?_
          rotate_left
          · (intro w' hSw; (try dsimp only at hSw); go_simp; first | done | with_reducible rfl)
          (try simp only [Act.put, List.setIfInBounds_toArray, List.set_cons_zero, List.set_cons_succ])
          refine wpT_take 2 (v := ?_) rfl (by kernel_rfl) (by kernel_rfl) (fun _ _ _ h => h) hS (Or.inl ⟨rfl, ?_⟩) ?_
          rotate_left
          · (intro w' hSw; (try dsimp only at hSw); go_simp; first | done | with_reducible rfl)
          (try simp only [Act.put, List.setIfInBounds_toArray, List.set_cons_zero, List.set_cons_succ])
          refine wpT_take 3 (v := ?_) rfl (by kernel_rfl) (by kernel_rfl) (fun _ _ _ h => h) hS (Or.inl ⟨rfl, ?_⟩) ?_
          rotate_left
          · (intro w' hSw; (try dsimp only at hSw); go_simp; first | done | with_reducible rfl)
          (try simp only [Act.put, List.setIfInBounds_toArray, List.set_cons_zero, List.set_cons_succ])
          refine wpT_take 4 (v := ?_) rfl (by kernel_rfl) (by kernel_rfl) (fun _ _ _ h => h) hS (Or.inl ⟨rfl, ?_⟩) ?_
          rotate_left
          · (intro w' hSw; (try dsimp only at hSw); go_simp; first | done | with_reducible rfl)
          (try simp only [Act.put, List.setIfInBounds_toArray, List.set_cons_zero, List.set_cons_succ])
          refine wpT_take 5 (v := ?_) rfl (by kernel_rfl) (by kernel_rfl) (fun _ _ _ h => h) hS (Or.inl ⟨rfl, ?_⟩) ?_
          rotate_left
          · (intro w' hSw; (try dsimp only at hSw); go_simp; first | done | with_reducible rfl)
          (try simp only [Act.put, List.setIfInBounds_toArray, List.set_cons_zero, List.set_cons_succ])
          refine wpT_take 6 (v := ?_) rfl (by kernel_rfl) (by kernel_rfl) (fun _ _ _ h => h) hS (Or.inl ⟨rfl, ?_⟩) ?_
          rotate_left
          · (intro w' hSw; (try dsimp only at hSw); go_simp; first | done | with_reducible rfl)
          (try simp only [Act.put, List.setIfInBounds_toArray, List.set_cons_zero, List.set_cons_succ])
          refine wpT_take 7 (v := ?_) rfl (by kernel_rfl) (by kernel_rfl) (fun _ _ _ h => h) hS (Or.inl ⟨rfl, ?_⟩) ?_
          rotate_left
          · (intro w' hSw; (try dsimp only at hSw); go_simp; first | done | with_reducible rfl)
          (try simp only [Act.put, List.setIfInBounds_toArray, List.set_cons_zero, List.set_cons_succ])
          refine wpT_take 8 (v := ?_) rfl (by kernel_rfl) (by kernel_rfl) (fun _ _ _ h => h) hS (Or.inl ⟨rfl, ?_⟩) ?_
          rotate_left
          · (intro w' hSw; (try dsimp only at hSw); go_simp; first | done | with_reducible rfl)
          (try simp only [Act.put, List.setIfInBounds_toArray, List.set_cons_zero, List.set_cons_succ])
          refine wpT_take 9 (v := ?_) rfl (by kernel_rfl) (by kernel_rfl) (fun _ _ _ h => h) hS (Or.inl ⟨rfl, ?_⟩) ?_
          rotate_left
          · (intro w' hSw; (try dsimp only at hSw); go_simp; first | done | with_reducible rfl)
          (try simp only [Act.put, List.setIfInBounds_toArray, List.set_cons_zero, List.set_cons_succ])
          refine wpT_take 10 (v := ?_) rfl (by kernel_rfl) (by kernel_rfl) (fun _ _ _ h => h) hS (Or.inl ⟨rfl, ?_⟩) ?_
          rotate_left
          · (intro w' hSw; (try dsimp only at hSw); go_simp; first | done | with_reducible rfl)
          (try simp only [Act.put, List.setIfInBounds_toArray, List.set_cons_zero, List.set_cons_succ])
          refine wpT_take 11 (v := ?_) rfl (by kernel_rfl) (by kernel_rfl) (fun _ _ _ h => h) hS (Or.inl ⟨rfl, ?_⟩) ?_
          rotate_left
          · (intro w' hSw; (try dsimp only at hSw); go_simp; first | done | with_reducible rfl)
          (try simp only [Act.put, List.setIfInBounds_toArray, List.set_cons_zero, List.set_cons_succ])
          refine wpT_take 14 (v := ?_) rfl (by kernel_rfl) (by kernel_rfl) (fun _ _ _ h => h) hS (Or.inl ⟨rfl, ?_⟩) ?_
          rotate_left
          · (intro w' hSw; (try dsimp only at hSw); go_simp; first | done | with_reducible rfl)
          (try simp only [Act.put, List.setIfInBounds_toArray, List.set_cons_zero, List.set_cons_succ])
          refine wpT_take 15 (v := ?_) rfl (by kernel_rfl) (by kernel_rfl) (fun _ _ _ h => h) hS (Or.inl ⟨rfl, ?_⟩) ?_
          rotate_left
          · (intro w' hSw; (try dsimp only at hSw); go_simp; first | done | with_reducible rfl)
          (try simp only [Act.put, List.setIfInBounds_toArray, List.set_cons_zero, List.set_cons_succ])
          refine wpT_take 16 (v := ?_) rfl (by kernel_rfl) (by kernel_rfl) (fun _ _ _ h => h) hS (Or.inl ⟨rfl, ?_⟩) ?_
          rotate_left
          · (intro w' hSw; (try dsimp only at hSw); go_simp; first | done | with_reducible rfl)
          (try simp only [Act.put, List.setIfInBounds_toArray, List.set_cons_zero, List.set_cons_succ])
          refine wpT_take 17 (v := ?_) rfl (by kernel_rfl) (by kernel_rfl) (fun _ _ _ h => h) hS (Or.inl ⟨rfl, ?_⟩) ?_
          rotate_left
          · (intro w' hSw; (try dsimp only at hSw); go_simp; first | done | with_reducible rfl)
          (try simp only [Act.put, List.setIfInBounds_toArray, List.set_cons_zero, List.set_cons_succ])
          refine wpT_take 18 (v := ?_) rfl (by kernel_rfl) (by kernel_rfl) (fun _ _ _ h => h) hS (Or.inl ⟨rfl, ?_⟩) ?_
          rotate_left
          · (intro w' hSw; (try dsimp only at hSw); go_simp; first | done | with_reducible rfl)
          (try simp only [Act.put, List.setIfInBounds_toArray, List.set_cons_zero, List.set_cons_succ])
          refine wpT_one 12 rfl (by kernel_rfl) (fun K hK => ?_)
          go_simp
          go_at_call 44
          refine (CM.out _).mono ?_
          rintro e wo ⟨rfl, rfl⟩
          refine hK.out _ _ ?_ (fun hS => ?_)
          · (try dsimp only)
            exact hS
          clear hK K
          (try simp only [Act.put, List.setIfInBounds_toArray, List.set_cons_zero, List.set_cons_succ])
          (try dsimp only at hS)
          refine wpT_take 13 (v := ?_) rfl (by kernel_rfl) (by kernel_rfl) (fun _ _ _ h => h) hS (Or.inl ⟨rfl, ?_⟩) ?_
          rotate_left
          · (intro w' hSw; (try dsimp only at hSw); go_simp; first | done | with_reducible rfl)
          (try simp only [Act.put, List.setIfInBounds_toArray, List.set_cons_zero, List.set_cons_succ])
          refine wpT_take 19 (v := ?_) rfl (by kernel_rfl) (by kernel_rfl) (fun _ _ _ h => h) hS (Or.inl ⟨rfl, ?_⟩) ?_
          rotate_left
          · (intro w' hSw; (try dsimp only at hSw); go_simp; first | done | with_reducible rfl)
          (try simp only [Act.put, List.setIfInBounds_toArray, List.set_cons_zero, List.set_cons_succ])
          refine wpT_take 20 (v := ?_) rfl (by kernel_rfl) (by kernel_rfl) (fun _ _ _ h => h) hS (Or.inl ⟨rfl, ?_⟩) ?_
          rotate_left
          · (intro w' hSw; (try dsimp only at hSw); go_simp; first | done | with_reducible rfl)
          (try simp only [Act.put, List.setIfInBounds_toArray, List.set_cons_zero, List.set_cons_succ])
          refine wpT_take 21 (v := ?_) rfl (by kernel_rfl) (by kernel_rfl) (fun _ _ _ h => h) hS (Or.inl ⟨rfl, ?_⟩) ?_
          rotate_left
          · (intro w' hSw; (try dsimp only at hSw); go_simp; first | done | with_reducible rfl)
          (try simp only [Act.put, List.setIfInBounds_toArray, List.set_cons_zero, List.set_cons_succ])
          refine wpT_one 22 rfl (by kernel_rfl) (fun K hK => ?_)
          go_simp
          refine k_world (fun Wq hWq => ?_)
          have hown1 := own_below hownD hWd
          have hownB := own_below hown17 hWd
          have hzd := hWd.size
          obtain ⟨qq, eqq, hQ, hbQ, hsQ⟩ := new1n hWq
          clear hWq
          rw [eqq]
          have hown2 := own_below hown1 (by rw [eqq]; exact hbQ)
          have hownC := own_below hownB (by rw [eqq]; exact hbQ)
          have hbS := hS.2.trans (hbQ.mono (by have := hbx7.size; omega))
          have hbS2 := hWd.trans (hbQ.mono (by omega))
          refine hK.out _ _ ?_ (fun hS => ?_)
          · (try dsimp only)
            exact sb_at hbS
          clear hK K
          (try simp only [Act.put, List.setIfInBounds_toArray, List.set_cons_zero, List.set_cons_succ])
          (try dsimp only at hS)
          refine wpT_one 23 rfl (by kernel_rfl) (fun K hK => ?_)
          refine step_append_pt2 _ (by rfl) _ _ _ (by rfl) _ HU.out _ P2 (by rfl) (by rw [HKQ.out]; exact hown2) qq X2 Y2 O2 (by rfl) hQ (by rw [HKQ.out]; omega) (by have := hbS2.size; have := hbx7.size; omega) ?_
          intro A27 c27 w27 hown27 hgrow hgrew
          rw [HKQ.out] at hown27 hgrew ⊢
          have hownE := own_far hownC hgrow HAR.out.symm
          have HAS := Lib.hid (HAR.out.symm.grew hownC hgrew).symm
          have hbS3 := below_grown hbS hgrow (by have := hbS2.size; have := hbx7.size; omega) (fun k hk => by have := (own_lt hown2 hk).1; omega)
          refine hK.out _ _ ?_ (fun hS => ?_)
          · (try dsimp only)
            exact sb_at hbS3
          clear hK K
          (try simp only [Act.put, List.setIfInBounds_toArray, List.set_cons_zero, List.set_cons_succ])
          (try dsimp only at hS)
          refine wpT_tail (by rfl) (by kernel_rfl) ?_
          (try simp only [List.drop_succ_cons, List.drop_zero])
          have hbx8 : Below _ _ w27 := below_grown (hbx7.trans (hbS2.mono hbx7.size)) hgrow (by have := hbS2.size; have := hbx7.size; omega) (fun k hk => (own_lt hown2 hk).1)
          clear hS
          go_wp2_with fail
          go_roundw
          case rel => exact ⟨k + 1, A17, A27, c17, c27, by omega, by go_num, rfl, rfl, by rw [HMK.out]; exact hownE, by rw [HMQ.out]; exact hown27, HAS, hbx8⟩
          case measure => simp [intOf]; omega
        · have hke : k = L.length := by omega
          have hlk' : ¬ (k : Int) < (L.length : Int) := by omega
          have HK1 : Hid (L.reverse.take k = L.reverse) := Lib.hid (List.take_of_length_le (by simp; omega))
          have HK2 : Hid ((rotB z L).take k = rotB z L) := Lib.hid (List.take_of_length_le (by unfold rotB rot; simp; omega))
          rw [HK1.out] at hown9
          rw [HK2.out] at hown10
          have HL1 := Lib.hid (show L.reverse.length = k by simp; omega)
          have HL2 := Lib.hid (show (rotB z L).length = k by unfold rotB rot; simp; omega)
          generalize L.reverse = P at *
          generalize rotB z L = P2 at *
          have howno := own_below hown6 hbx
          have hownq := own_below hown7 hbx
          have HRD := Lib.hid (fun r hr => own_kept3 (HRO.out r hr) hbx)
          have HQD := Lib.hid (fun r hr => own_kept3 (HQO.out r hr) hbx)
          obtain ⟨hmap, hlen⟩ := HRS.out
          obtain ⟨qmap, qlen⟩ := HQS.out
          subst hlen
          have hownd : wr.ownsRow B 134 3 (.slice A9 P.length c9) P.length (flat P) := by rw [HL1.out]; exact own_base' hown9 hsz'
          have hownf : wr.ownsRow B 134 3 (.slice A10 P2.length c10) P2.length (flat P2) := by rw [HL2.out]; exact own_base' hown10 hsz'
          clear hke hckx HRO HQO hown6 hown7 hown9 hown10 HRL
          have hal := (Below.refl wr.heap.size wr).alloc (Nat.le_refl _) (.cells #[.slice A9 k c9] 96)
          have HAL := Lib.hid hal
          clear hal
          have hpB := HP.out
          go_wp2_with (at_builtin; go_must (refine wpList_append_row2 _ rfl _ _ _ rfl B HU2.out _ rs rfl (own_below howno HAL.out) wr.heap.size (A9, c9, P) rfl (by have hb := Blk.new wr 96 #[.slice A9 k c9]; rw [← HL1.out] at hb ⊢; exact hb) (by omega) (by simp; omega) ?_))
          intro A16 c16 w16 hown16 hgrow hgrew
          have hbe : Below B w w16 := below_grown ((hbr.trans (hbx.mono hsz')).alloc (by omega) _) hgrow (by simp; omega) (fun g hg => (own_lt howno hg).1)
          have HRN : Hid (∀ r ∈ rs ++ [((A9, c9, P) : Row)], w16.ownsRow B 134 3 (.slice r.1 r.2.2.length r.2.1) r.2.2.length (flat r.2.2)) := Lib.hid (fun r hr => by
            rcases List.mem_append.1 hr with hr | hr
            · exact own_grown (own_kept3 (HRD.out r hr) HAL.out) (own_kept3 howno HAL.out) (by decide) hgrow
            · have : r = (A9, c9, P) := by simpa using hr
              subst this
              exact own_grown (own_kept3 hownd HAL.out) (own_kept3 howno HAL.out) (by decide) hgrow)
          have HQN := Lib.hid (fun r hr => own_grown (own_kept3 (HQD.out r hr) HAL.out) (own_kept3 howno HAL.out) (by decide) hgrow)
          have hownf2 := own_grown (own_kept3 hownf HAL.out) (own_kept3 howno HAL.out) (by decide) hgrow
          have hownq2 := own_far (own_kept3 hownq HAL.out) hgrow HAP.out
          have HAP2 := Lib.hid (HAP.out.grew (own_kept3 hownq HAL.out) hgrew)
          have HMN := Lib.hid (show (rs ++ [((A9, c9, P) : Row)]).map (fun r => r.2.2) = (ls.take (rs.length + 1)).map List.reverse by rw [HM1.out, List.map_append, hmap]; rfl)
          have hrql : qs.length = rs.length := qlen
          have HAL2 := Lib.hid ((Below.refl w16.heap.size w16).alloc (Nat.le_refl _) (.cells #[.slice A10 k c10] 96))
          rw [← qlen] at hownq2 HAP2
          have hsz16 : B ≤ w16.heap.size := by have := hbe.size; omega
          clear hmap HRD HQD hownd hownf howno hownq HAP hgrow hgrew HAL
          go_wp2_with (at_builtin; go_must (refine wpList_append_row2 _ rfl _ _ _ rfl B HU2.out _ qs (by rw [qlen] <;> rfl) (own_below hownq2 HAL2.out) w16.heap.size (A10, c10, P2) rfl (by have hb := Blk.new w16 96 #[.slice A10 k c10]; rw [← HL2.out] at hb ⊢; exact hb) (by omega) (by simp; omega) ?_))
          intro A17 c17 w17 hown17 hgrow hgrew
          rw [qlen] at hownq2 HAP2
          (try rw [qlen] at hgrow); (try rw [qlen] at hgrew); (try rw [qlen] at hown17); (try rw [qlen])
          have hbe2 : Below B w w17 := below_grown (hbe.alloc (by omega) _) hgrow (by simp; omega) (fun g hg => (own_lt hownq2 hg).1)
          have HRN2 := Lib.hid (fun r hr => own_grown (own_kept3 (HRN.out r hr) HAL2.out) (own_kept3 hownq2 HAL2.out) (by decide) hgrow)
          have HQN2 : Hid (∀ r ∈ qs ++ [((A10, c10, P2) : Row)], w17.ownsRow B 134 3 (.slice r.1 r.2.2.length r.2.1) r.2.2.length (flat r.2.2)) := Lib.hid (fun r hr => by
            rcases List.mem_append.1 hr with hr | hr
            · exact own_grown (own_kept3 (HQN.out r hr) HAL2.out) (own_kept3 hownq2 HAL2.out) (by decide) hgrow
            · have : r = (A10, c10, P2) := by simpa using hr
              subst this
              exact own_grown (own_kept3 hownf2 HAL2.out) (own_kept3 hownq2 HAL2.out) (by decide) hgrow)
          have hown62 := own_far (own_kept3 hown16 HAL2.out) hgrow HAP2.out.symm
          have HAP3 := Lib.hid (HAP2.out.symm.grew (own_kept3 hown16 HAL2.out) hgrew).symm
          have HQM := Lib.hid (show (qs ++ [((A10, c10, P2) : Row)]).map (fun r => r.2.2) = (ls.take (rs.length + 1)).map (rotB z) by rw [HM2.out, List.map_append, qmap]; rfl)
          have HQL := Lib.hid qlen
          clear qmap qlen hrql hbe hown16 hownq2 hownf2 HAP2 hgrow hgrew HRN HQN HAL2
          go_wp2_with fail
          go_roundw
          case rel => exact ⟨rs.length + 1, rs ++ [((A9, c9, P) : Row)], qs ++ [((A10, c10, P2) : Row)], A16, A17, c16, c17, by omega, by go_num, rfl, rfl, by rw [List.map_append]; exact hown62, by rw [List.map_append]; exact hown17, HAP3, Lib.hid ⟨HMN.out, by simp⟩, Lib.hid ⟨HQM.out, by rw [List.length_append, HQL.out]; rfl⟩, HRN2, HQN2, hbe2⟩
          case measure => simp [intOf]; omega
    · have hlt' : ¬ (i : Int) < (ls.length : Int) := by omega
      have hie : i = ls.length := by omega
      obtain ⟨hmap, hlen⟩ := HRS.out
      obtain ⟨qmap, qlen⟩ := HQS.out
      have hm : rs.map (fun r => r.2.2) = ls.map List.reverse := by rw [hmap, List.take_of_length_le (by omega)]
      have hm2 : qs.map (fun r => r.2.2) = ls.map (rotB z) := by rw [qmap, List.take_of_length_le (by omega)]
      have hrd := own_rdps hown6 (fun r hr => own_rdpt (HRO.out r hr))
      rw [hm] at hrd
      have hqd := own_rdps hown7 (fun r hr => own_rdpt (HQO.out r hr))
      rw [hm2] at hqd
      have HRDS := Lib.hid hrd
      have HQDS := Lib.hid hqd
      clear hm hm2 hrd hqd hmap qmap hlen qlen
      subst hie
      go_wp2
      exact bodyPost_ret (v := .tuple #[.slice A6 ls.length c6, .slice A7 ls.length c7]) (by simp [results, Try.results61, go_sem]) rfl ⟨A6, A7, ⟨c6, c7, rfl⟩, HRDS.out, HQDS.out, by rw [HP.out]; exact hbr⟩
end Go.Proofs.Ytlanefdeeanpnaa
