/-
  Contract of Moved of layer 7's reference: polygons whose points are multiplied by a number, and then moved. Conditions: small coordinates, numbers that fit; the polygons are read below the heap's size.
-/
import Derived.Test.YtlanefdeeanpnaaMade7
namespace Go.Proofs.Ytlanefdeeanpnaa
set_option linter.unusedVariables false
set_option linter.unusedSimpArgs false
open Go.RowKit
attribute [local go_sem ↓] Go.wp_at_zero Go.wp_at_succ

def movedP (tm x y : Int) (q : Pt) : Pt := (tm * q.1 + x, tm * q.2.1 + y, q.2.2)
def moved (tm x y : Int) (ls : List (List Pt)) : List (List Pt) := ls.map fun p => p.map (movedP tm x y)
theorem prod_small {u v : Int} (hu : -1000 ≤ u ∧ u ≤ 1000) (hv : -1000 ≤ v ∧ v ≤ 1000) : -1000000 ≤ u * v ∧ u * v ≤ 1000000 := by
  have h1 := Int.natAbs_mul u v
  have h2 := Nat.mul_le_mul (show u.natAbs ≤ 1000 by omega) (show v.natAbs ≤ 1000 by omega)
  rw [← h1] at h2
  omega

set_option maxHeartbeats 8000000 in
set_option maxRecDepth 100000 in
theorem Moved_any (ls : List (List Pt)) (A : Option Addr) (c : Nat) (tm x y : Int) (w : World) (hls : ls.length ≤ 1000) (hp : ∀ p ∈ ls, p.length ≤ 1000) (hX : ∀ p ∈ ls, ∀ q ∈ p, (-1000 ≤ q.1 ∧ q.1 ≤ 1000) ∧ -1000 ≤ q.2.1 ∧ q.2.1 ≤ 1000)
    (htm : -1000 ≤ tm ∧ tm ≤ 1000) (hx : -4294967296 ≤ x ∧ x ≤ 4294967296) (hy : -4294967296 ≤ y ∧ y ≤ 4294967296) (hr : RdPs w w.heap.size A ls) :
    Calls Try.prog 53 #[.slice A ls.length c, .int .i64 tm, .int .i64 x, .int .i64 y] w fun e w' =>
      ∃ (A' : Option Addr) (c' : Nat), e = .returned (.slice A' ls.length c') ∧ RdPs w' w'.heap.size A' (moved tm x y ls) ∧ Below w.heap.size w w' := by
  have HR := Lib.hid hr
  have HPL := Lib.hid (fun i (h : i < ls.length) => hp ls[i] (List.getElem_mem h))
  have HXS := Lib.hid (fun i (h : i < ls.length) k (hk : k < ls[i].length) => hX ls[i] (List.getElem_mem h) ls[i][k] (List.getElem_mem hk))
  have HU := Lib.hid (Try.underlying96)
  have HU2 := Lib.hid (Try.underlying78)
  obtain ⟨hx1, hx2⟩ := hx
  obtain ⟨hy1, hy2⟩ := hy
  have HTM := Lib.hid htm
  clear hr hp hX htm
  go_enter Try.func53, Try.ntmps53
  go_wp2_with fail
  generalize hp : w.heap.size = B at *
  have HP := Lib.hid hp
  clear hp
  go_loopw [9, 10] (fun s9 s10 wr => ∃ (i : Nat) (rs : List Row) (Ao : Option Addr) (co : Nat), i ≤ ls.length ∧ s10 = .int .i64 i ∧ s9 = .slice Ao i co ∧ wr.ownsRow B 96 1 (.slice Ao i co) i (rs.map rowV) ∧ Hid (rs.map (fun r => r.2.2) = moved tm x y (ls.take i) ∧ rs.length = i) ∧ Hid (∀ r ∈ rs, wr.ownsRow B 134 3 (.slice r.1 r.2.2.length r.2.1) r.2.2.length (flat r.2.2)) ∧ Below B w wr) (fun _ s10 _ => ls.length - (intOf s10).toNat)
  case atStart => exact ⟨0, [], none, 0, by omega, rfl, rfl, World.ownsRow_nil _ _ _ _, Lib.hid ⟨rfl, rfl⟩, Lib.hid (fun r hr => absurd hr (by simp)), Below.refl _ _⟩
  case round =>
    obtain ⟨i, rs, Ao, co, hil, rfl, rfl, hown, HRS, HRO, hbr⟩ := hrel
    have hsz := hbr.size
    by_cases hlt : i < ls.length
    · have hlt' : (i : Int) < (ls.length : Int) := by omega
      obtain ⟨b, o, rfl, hb, AL, cL, hck, hrk⟩ := HR.out.at_ hlt
      have hck1 := (hbr.cell (p := ⟨b, o + i, none⟩) hb).trans hck
      have hpl := HPL.out i hlt
      have HXi := Lib.hid (fun k hk => HXS.out i hlt k hk)
      have HMI : Hid (moved tm x y (ls.take (i + 1)) = moved tm x y (ls.take i) ++ [ls[i].map (movedP tm x y)]) := Lib.hid (by rw [List.take_succ_eq_append_getElem hlt]; unfold moved; rw [List.map_append]; rfl)
      have HRL := Lib.hid (hrk.below hbr (Nat.le_refl _))
      generalize ls[i] = L at *
      clear hck hrk
      have hsz' : B ≤ wr.heap.size := by have := HP.out; omega
      have hgo := hown.lt
      have HRQ := Lib.hid (fun r hr g hg => ((HRO.out r hr).lt g hg).2)
      have hpB := HP.out
      clear hsz
      go_wp2_with fail
      go_loopw [11, 12] (fun s11 s12 wx => ∃ (k : Nat) (A' : Option Addr) (c' : Nat), k ≤ L.length ∧ s12 = .int .i64 k ∧ s11 = .slice A' k c' ∧ wx.ownsRow wr.heap.size 134 3 (.slice A' k c') k (flat ((L.take k).map (movedP tm x y))) ∧ Below wr.heap.size wr wx) (fun _ s12 _ => L.length - (intOf s12).toNat)
      case atStart => exact ⟨0, none, 0, by omega, rfl, rfl, World.ownsRow_nil _ _ _ _, Below.refl _ _⟩
      case round =>
        obtain ⟨k, A', c', hkl, rfl, rfl, hownP, hbx⟩ := hrel
        have hckx := (hbx.cell (p := ⟨b, o + i, none⟩) (show b < _ by omega)).trans hck1
        have hzx := hbx.size
        by_cases hlk : k < L.length
        · have hlk' : (k : Int) < (L.length : Int) := by omega
          obtain ⟨b2, o2, rfl, hb2, x0, x1, x2⟩ := (HRL.out.below hbx (by omega)).at_ hlk
          have hq := HXi.out k hlk
          have HMK : Hid ((L.take (k + 1)).map (movedP tm x y) = (L.take k).map (movedP tm x y) ++ [movedP tm x y L[k]]) := Lib.hid (by rw [List.take_succ_eq_append_getElem hlk, List.map_append]; rfl)
          have HKL : Hid (((L.take k).map (movedP tm x y)).length = k) := Lib.hid (by simp; omega)
          generalize (L.take k).map (movedP tm x y) = P at *
          generalize L[k] = q at *
          obtain ⟨X, Y, O⟩ := q
          dsimp only at x0 x1 x2 hq
          have HMV := Lib.hid (show movedP tm x y (X, Y, O) = (tm * X + x, tm * Y + y, O) from rfl)
          have hpx := prod_small HTM.out hq.1
          have hpy := prod_small HTM.out hq.2
          have w1 : IntKind.i64.wrap (tm * X) = tm * X := IntWalk.i64_in _ (by omega)
          have w2 : IntKind.i64.wrap (tm * X + x) = tm * X + x := IntWalk.i64_in _ (by omega)
          have w3 : IntKind.i64.wrap (tm * Y) = tm * Y := IntWalk.i64_in _ (by omega)
          have w4 : IntKind.i64.wrap (tm * Y + y) = tm * Y + y := IntWalk.i64_in _ (by omega)
          clear hq
          go_upto_region 9 with fail
          refine wp_region_L 36 (fun w' => (∀ b o, b < B → w'.cell? ⟨b, o, none⟩ = wr.cell? ⟨b, o, none⟩) ∧ Below B wr w') (by kernel_rfl) ?_ (fun Wd hWd hS => ?_)
          · (try dsimp only)
            exact sb_at (Below.refl _ _).drew
          (try dsimp only at hS)
          refine wpT_take 0 (v := ?_) rfl (by kernel_rfl) (by kernel_rfl) (fun _ _ _ h => h) hS (Or.inl ⟨rfl, ?_⟩) ?_
          rotate_left
          · (intro w' hSw; (try dsimp only at hSw); go_simp; first | done | with_reducible rfl)
          (try simp only [Act.put, List.setIfInBounds_toArray, List.set_cons_zero, List.set_cons_succ])
          refine wpT_take 1 (v := ?_) rfl (by kernel_rfl) (by kernel_rfl) (fun _ _ _ h => h) hS (Or.inl ⟨rfl, ?_⟩) ?_
          rotate_left
          · (intro w' hSw; (try dsimp only at hSw); go_simp; first | done | with_reducible rfl)
          (try simp only [Act.put, List.setIfInBounds_toArray, List.set_cons_zero, List.set_cons_succ])
          refine wpT_take 2 (v := ?_) rfl (by kernel_rfl) (by kernel_rfl) (fun _ _ _ h => h) hS (Or.inl ⟨rfl, ?_⟩) ?_
          rotate_left
          · (intro w' hSw; (try dsimp only at hSw); go_simp; first | done | with_reducible rfl)
          (try simp only [Act.put, List.setIfInBounds_toArray, List.set_cons_zero, List.set_cons_succ])
          refine wpT_take 3 (v := ?_) rfl (by kernel_rfl) (by kernel_rfl) (fun _ _ _ h => h) hS (Or.inl ⟨rfl, ?_⟩) ?_
          rotate_left
          · (intro w' hSw; (try dsimp only at hSw); go_simp; first | done | with_reducible rfl)
          (try simp only [Act.put, List.setIfInBounds_toArray, List.set_cons_zero, List.set_cons_succ])
          refine wpT_take 4 (v := ?_) rfl (by kernel_rfl) (by kernel_rfl) (fun _ _ _ h => h) hS (Or.inl ⟨rfl, ?_⟩) ?_
          rotate_left
          · (intro w' hSw; (try dsimp only at hSw); go_simp; first | done | with_reducible rfl)
          (try simp only [Act.put, List.setIfInBounds_toArray, List.set_cons_zero, List.set_cons_succ])
          refine wpT_take 5 (v := ?_) rfl (by kernel_rfl) (by kernel_rfl) (fun _ _ _ h => h) hS (Or.inl ⟨rfl, ?_⟩) ?_
          rotate_left
          · (intro w' hSw; (try dsimp only at hSw); go_simp; first | done | with_reducible rfl)
          (try simp only [Act.put, List.setIfInBounds_toArray, List.set_cons_zero, List.set_cons_succ])
          refine wpT_take 6 (v := ?_) rfl (by kernel_rfl) (by kernel_rfl) (fun _ _ _ h => h) hS (Or.inl ⟨rfl, ?_⟩) ?_
          rotate_left
          · (intro w' hSw; (try dsimp only at hSw); go_simp; first | done | with_reducible rfl)
          (try simp only [Act.put, List.setIfInBounds_toArray, List.set_cons_zero, List.set_cons_succ])
          refine wpT_take 7 (v := ?_) rfl (by kernel_rfl) (by kernel_rfl) (fun _ _ _ h => h) hS (Or.inl ⟨rfl, ?_⟩) ?_
          rotate_left
          · (intro w' hSw; (try dsimp only at hSw); go_simp; first | done | with_reducible rfl)
          (try simp only [Act.put, List.setIfInBounds_toArray, List.set_cons_zero, List.set_cons_succ])
          refine wpT_take 8 (v := ?_) rfl (by kernel_rfl) (by kernel_rfl) (fun _ _ _ h => h) hS (Or.inl ⟨rfl, ?_⟩) ?_
          rotate_left
          · (intro w' hSw; (try dsimp only at hSw); go_simp; first | done | with_reducible rfl)
          (try simp only [Act.put, List.setIfInBounds_toArray, List.set_cons_zero, List.set_cons_succ])
          refine wpT_take 9 (v := ?_) rfl (by kernel_rfl) (by kernel_rfl) (fun _ _ _ h => h) hS (Or.inl ⟨rfl, ?_⟩) ?_
          rotate_left
          · (intro w' hSw; (try dsimp only at hSw); go_simp; first | done | with_reducible rfl)
          (try simp only [Act.put, List.setIfInBounds_toArray, List.set_cons_zero, List.set_cons_succ])
          refine wpT_take 10 (v := ?_) rfl (by kernel_rfl) (by kernel_rfl) (fun _ _ _ h => h) hS (Or.inl ⟨rfl, ?_⟩) ?_
          rotate_left
          · (intro w' hSw; (try dsimp only at hSw); go_simp; first | done | with_reducible rfl)
          (try simp only [Act.put, List.setIfInBounds_toArray, List.set_cons_zero, List.set_cons_succ])
          refine wpT_take 11 (v := ?_) rfl (by kernel_rfl) (by kernel_rfl) (fun _ _ _ h => h) hS (Or.inl ⟨rfl, ?_⟩) ?_
          rotate_left
          · (intro w' hSw; (try dsimp only at hSw); go_simp; first | done | with_reducible rfl)
          (try simp only [Act.put, List.setIfInBounds_toArray, List.set_cons_zero, List.set_cons_succ])
          refine wpT_take 12 (v := ?_) rfl (by kernel_rfl) (by kernel_rfl) (fun _ _ _ h => h) hS (Or.inl ⟨rfl, ?_⟩) ?_
          rotate_left
          · (intro w' hSw; (try dsimp only at hSw); go_simp; first | done | with_reducible rfl)
          (try simp only [Act.put, List.setIfInBounds_toArray, List.set_cons_zero, List.set_cons_succ])
          refine wpT_take 13 (v := ?_) rfl (by kernel_rfl) (by kernel_rfl) (fun _ _ _ h => h) hS (Or.inl ⟨rfl, ?_⟩) ?_
          rotate_left
          · (intro w' hSw; (try dsimp only at hSw); go_simp; first | done | with_reducible rfl)
          (try simp only [Act.put, List.setIfInBounds_toArray, List.set_cons_zero, List.set_cons_succ])
          refine wpT_take 14 (v := ?_) rfl (by kernel_rfl) (by kernel_rfl) (fun _ _ _ h => h) hS (Or.inl ⟨rfl, ?_⟩) ?_
          rotate_left
          · (intro w' hSw; (try dsimp only at hSw); go_simp; first | done | with_reducible rfl)
          (try simp only [Act.put, List.setIfInBounds_toArray, List.set_cons_zero, List.set_cons_succ])
          refine wpT_take 15 (v := ?_) rfl (by kernel_rfl) (by kernel_rfl) (fun _ _ _ h => h) hS (Or.inl ⟨rfl, ?_⟩) ?_
          rotate_left
          · (intro w' hSw; (try dsimp only at hSw); go_simp; first | done | with_reducible rfl)
          (try simp only [Act.put, List.setIfInBounds_toArray, List.set_cons_zero, List.set_cons_succ])
          refine wpT_take 16 (v := ?_) rfl (by kernel_rfl) (by kernel_rfl) (fun _ _ _ h => h) hS (Or.inl ⟨rfl, ?_⟩) ?_
          rotate_left
          · (intro w' hSw; (try dsimp only at hSw); go_simp; first | done | with_reducible rfl)
          (try simp only [Act.put, List.setIfInBounds_toArray, List.set_cons_zero, List.set_cons_succ])
          refine wpT_take 17 (v := ?_) rfl (by kernel_rfl) (by kernel_rfl) (fun _ _ _ h => h) hS (Or.inl ⟨rfl, ?_⟩) ?_
          rotate_left
          · (intro w' hSw; (try dsimp only at hSw); go_simp; first | done | with_reducible rfl)
          (try simp only [Act.put, List.setIfInBounds_toArray, List.set_cons_zero, List.set_cons_succ])
          refine wpT_take 18 (v := ?_) rfl (by kernel_rfl) (by kernel_rfl) (fun _ _ _ h => h) hS (Or.inl ⟨rfl, ?_⟩) ?_
          rotate_left
          · (intro w' hSw; (try dsimp only at hSw); go_simp; first | done | with_reducible rfl)
          (try simp only [Act.put, List.setIfInBounds_toArray, List.set_cons_zero, List.set_cons_succ])
          refine wpT_take 19 (v := ?_) rfl (by kernel_rfl) (by kernel_rfl) (fun _ _ _ h => h) hS (Or.inl ⟨rfl, ?_⟩) ?_
          rotate_left
          · (intro w' hSw; (try dsimp only at hSw); go_simp; first | done | with_reducible rfl)
          (try simp only [Act.put, List.setIfInBounds_toArray, List.set_cons_zero, List.set_cons_succ])
          refine wpT_take 20 (v := ?_) rfl (by kernel_rfl) (by kernel_rfl) (fun _ _ _ h => h) hS (Or.inl ⟨rfl, ?_⟩) ?_
          rotate_left
          · (intro w' hSw; (try dsimp only at hSw); go_simp; first | done | with_reducible rfl)
          (try simp only [Act.put, List.setIfInBounds_toArray, List.set_cons_zero, List.set_cons_succ])
          refine wpT_take 21 (v := ?_) rfl (by kernel_rfl) (by kernel_rfl) (fun _ _ _ h => h) hS (Or.inl ⟨rfl, ?_⟩) ?_
          rotate_left
          · (intro w' hSw; (try dsimp only at hSw); go_simp; first | done | with_reducible rfl)
          (try simp only [Act.put, List.setIfInBounds_toArray, List.set_cons_zero, List.set_cons_succ])
          refine wpT_take 22 (v := ?_) rfl (by kernel_rfl) (by kernel_rfl) (fun _ _ _ h => h) hS (Or.inl ⟨rfl, ?_⟩) ?_
          rotate_left
          · (intro w' hSw; (try dsimp only at hSw); go_simp; first | done | with_reducible rfl)
          (try simp only [Act.put, List.setIfInBounds_toArray, List.set_cons_zero, List.set_cons_succ])
          refine wpT_take 23 (v := ?_) rfl (by kernel_rfl) (by kernel_rfl) (fun _ _ _ h => h) hS (Or.inl ⟨rfl, ?_⟩) ?_
          rotate_left
          · (intro w' hSw; (try dsimp only at hSw); go_simp; first | done | with_reducible rfl)
          (try simp only [Act.put, List.setIfInBounds_toArray, List.set_cons_zero, List.set_cons_succ])
          refine wpT_take 24 (v := ?_) rfl (by kernel_rfl) (by kernel_rfl) (fun _ _ _ h => h) hS (Or.inl ⟨rfl, ?_⟩) ?_
          rotate_left
          · (intro w' hSw; (try dsimp only at hSw); go_simp; first | done | with_reducible rfl)
          (try simp only [Act.put, List.setIfInBounds_toArray, List.set_cons_zero, List.set_cons_succ])
          refine wpT_take 25 (v := ?_) rfl (by kernel_rfl) (by kernel_rfl) (fun _ _ _ h => h) hS (Or.inl ⟨rfl, ?_⟩) ?_
          rotate_left
          · (intro w' hSw; (try dsimp only at hSw); go_simp; first | done | with_reducible rfl)
          (try simp only [Act.put, List.setIfInBounds_toArray, List.set_cons_zero, List.set_cons_succ])
          refine wpT_take 26 (v := ?_) rfl (by kernel_rfl) (by kernel_rfl) (fun _ _ _ h => h) hS (Or.inl ⟨rfl, ?_⟩) ?_
          rotate_left
          · (intro w' hSw; (try dsimp only at hSw); go_simp; first | done | with_reducible rfl)
          (try simp only [Act.put, List.setIfInBounds_toArray, List.set_cons_zero, List.set_cons_succ])
          refine wpT_take 27 (v := ?_) rfl (by kernel_rfl) (by kernel_rfl) (fun _ _ _ h => h) hS (Or.inl ⟨rfl, ?_⟩) ?_
          rotate_left
          · (intro w' hSw; (try dsimp only at hSw); go_simp; first | done | with_reducible rfl)
          (try simp only [Act.put, List.setIfInBounds_toArray, List.set_cons_zero, List.set_cons_succ])
          refine wpT_take 28 (v := ?_) rfl (by kernel_rfl) (by kernel_rfl) (fun _ _ _ h => h) hS (Or.inl ⟨rfl, ?_⟩) ?_
          rotate_left
          · (intro w' hSw; (try dsimp only at hSw); go_simp; first | done | with_reducible rfl)
          (try simp only [Act.put, List.setIfInBounds_toArray, List.set_cons_zero, List.set_cons_succ])
          refine wpT_take 29 (v := ?_) rfl (by kernel_rfl) (by kernel_rfl) (fun _ _ _ h => h) hS (Or.inl ⟨rfl, ?_⟩) ?_
          rotate_left
          · (intro w' hSw; (try dsimp only at hSw); go_simp; first | done | with_reducible rfl)
          (try simp only [Act.put, List.setIfInBounds_toArray, List.set_cons_zero, List.set_cons_succ])
          refine wpT_take 30 (v := ?_) rfl (by kernel_rfl) (by kernel_rfl) (fun _ _ _ h => h) hS (Or.inl ⟨rfl, ?_⟩) ?_
          rotate_left
          · (intro w' hSw; (try dsimp only at hSw); go_simp; first | done | with_reducible rfl)
          (try simp only [Act.put, List.setIfInBounds_toArray, List.set_cons_zero, List.set_cons_succ])
          refine wpT_take 31 (v := ?_) rfl (by kernel_rfl) (by kernel_rfl) (fun _ _ _ h => h) hS (Or.inl ⟨rfl, ?_⟩) ?_
          rotate_left
          · (intro w' hSw; (try dsimp only at hSw); go_simp; first | done | with_reducible rfl)
          (try simp only [Act.put, List.setIfInBounds_toArray, List.set_cons_zero, List.set_cons_succ])
          refine wpT_take 32 (v := ?_) rfl (by kernel_rfl) (by kernel_rfl) (fun _ _ _ h => h) hS (Or.inl ⟨rfl, ?_⟩) ?_
          rotate_left
          · (intro w' hSw; (try dsimp only at hSw); go_simp; first | done | with_reducible rfl)
          (try simp only [Act.put, List.setIfInBounds_toArray, List.set_cons_zero, List.set_cons_succ])
          refine wpT_take 33 (v := ?_) rfl (by kernel_rfl) (by kernel_rfl) (fun _ _ _ h => h) hS (Or.inl ⟨rfl, ?_⟩) ?_
          rotate_left
          · (intro w' hSw; (try dsimp only at hSw); go_simp; first | done | with_reducible rfl)
          (try simp only [Act.put, List.setIfInBounds_toArray, List.set_cons_zero, List.set_cons_succ])
          refine wpT_one 34 rfl (by kernel_rfl) (fun K hK => ?_)
          go_simp
          refine k_world (fun Wq hWq => ?_)
          have hown1 := own_below hownP hWd
          have hzd := hWd.size
          obtain ⟨qq, eqq, hQ, hbQ, hsQ⟩ := new1n hWq
          clear hWq
          rw [eqq]
          have hown2 := own_below hown1 (by rw [eqq]; exact hbQ)
          have hbS := hS.2.trans (hbQ.mono (by omega))
          have hbS2 := hWd.trans (hbQ.mono (by omega))
          refine hK.out _ _ ?_ (fun hS => ?_)
          · (try dsimp only)
            exact sb_at hbS
          clear hK K
          (try simp only [Act.put, List.setIfInBounds_toArray, List.set_cons_zero, List.set_cons_succ])
          (try dsimp only at hS)
          refine wpT_one 35 rfl (by kernel_rfl) (fun K hK => ?_)
          refine step_append_pt _ (by rfl) _ _ _ (by rfl) _ HU.out _ P (by rfl) (by rw [HKL.out]; exact hown2) qq (tm * X + x) (tm * Y + y) O (by rfl) hQ (by rw [HKL.out]; omega) (by have := hbS2.size; omega) ?_
          intro A7 c7 w7 hown7 hgrow
          rw [HKL.out] at hown7 ⊢
          have hbS3 := below_grown hbS hgrow (by have := hbS2.size; omega) (fun k hk => by have := (hown2.lt k hk).1; omega)
          refine hK.out _ _ ?_ (fun hS => ?_)
          · (try dsimp only)
            exact sb_at hbS3
          clear hK K
          (try simp only [Act.put, List.setIfInBounds_toArray, List.set_cons_zero, List.set_cons_succ])
          (try dsimp only at hS)
          refine wpT_tail (by rfl) (by kernel_rfl) ?_
          (try simp only [List.drop_succ_cons, List.drop_zero])
          have hbx7 : Below _ _ w7 := below_grown (hbx.trans (hbS2.mono hbx.size)) hgrow (by have := hbS2.size; omega) (fun k hk => (hown2.lt k hk).1)
          clear hS
          go_wp2_with fail
          go_roundw
          case rel => exact ⟨k + 1, A7, c7, by omega, by go_num, rfl, by rw [HMK.out, HMV.out]; exact hown7, hbx7⟩
          case measure => simp [intOf]; omega
        · have hke : k = L.length := by omega
          have hlk' : ¬ (k : Int) < (L.length : Int) := by omega
          have HKE : Hid ((L.take k).map (movedP tm x y) = L.map (movedP tm x y)) := Lib.hid (by rw [List.take_of_length_le (by omega)])
          rw [HKE.out] at hownP
          have HLL := Lib.hid (show (L.map (movedP tm x y)).length = k by simp; omega)
          generalize L.map (movedP tm x y) = P at *
          have howno := own_below hown hbx
          have HRD := Lib.hid (fun r hr => own_kept3 (HRO.out r hr) hbx)
          obtain ⟨hmap, hlen⟩ := HRS.out
          subst hlen
          have hownd : wr.ownsRow B 134 3 (.slice A' P.length c') P.length (flat P) := by rw [HLL.out]; exact own_base' hownP hsz'
          clear hke
          go_wp2_with (at_builtin; refine wpList_append_row _ rfl _ _ _ rfl B HU2.out _ rs rfl (own_below howno ((Below.refl _ _).alloc (Nat.le_refl _) (.cells #[.slice A' k c'] 96))) wr.heap.size (A', c', P) rfl (by have hb := Blk.new wr 96 #[.slice A' k c']; rw [← HLL.out] at hb ⊢; exact hb) (by omega) (by simp; omega) ?_)
          intro A9 c9 w9 hown9 hgrow
          have hbe : Below B w w9 := below_grown ((hbr.trans (hbx.mono hsz')).alloc (by omega) _) hgrow (by simp; omega) (fun g hg => (hgo g hg).1)
          have HRN : Hid (∀ r ∈ rs ++ [((A', c', P) : Row)], w9.ownsRow B 134 3 (.slice r.1 r.2.2.length r.2.1) r.2.2.length (flat r.2.2)) := Lib.hid (fun r hr => by
            have hal := (Below.refl wr.heap.size wr).alloc (Nat.le_refl _) (.cells #[.slice A' k c'] 96)
            rcases List.mem_append.1 hr with hr | hr
            · exact own_grown (own_kept3 (HRD.out r hr) hal) (own_kept3 howno hal) (by decide) hgrow
            · have : r = (A', c', P) := by simpa using hr
              subst this
              exact own_grown (own_kept3 hownd hal) (own_kept3 howno hal) (by decide) hgrow)
          have HMN := Lib.hid (show (rs ++ [((A', c', P) : Row)]).map (fun r => r.2.2) = moved tm x y (ls.take (rs.length + 1)) by rw [HMI.out, List.map_append, hmap]; rfl)
          clear hmap
          go_wp2_with fail
          go_roundw
          case rel => exact ⟨rs.length + 1, rs ++ [((A', c', P) : Row)], A9, c9, by omega, by go_num, rfl, by rw [List.map_append]; exact hown9, Lib.hid ⟨HMN.out, by simp⟩, HRN, hbe⟩
          case measure => simp [intOf]; omega
    · have hlt' : ¬ (i : Int) < (ls.length : Int) := by omega
      have hie : i = ls.length := by omega
      obtain ⟨hmap, hlen⟩ := HRS.out
      have hm : rs.map (fun r => r.2.2) = moved tm x y ls := by rw [hmap, List.take_of_length_le (by omega)]
      have hrd := own_rdps hown (fun r hr => own_rdpt (HRO.out r hr))
      rw [hm] at hrd
      have HRDS := Lib.hid hrd
      clear hm hrd hmap hlen
      subst hie
      go_wp2
      go_ret
      refine ⟨Ao, ⟨co, rfl⟩, HRDS.out, ?_⟩
      rw [HP.out]
      exact hbr
end Go.Proofs.Ytlanefdeeanpnaa
