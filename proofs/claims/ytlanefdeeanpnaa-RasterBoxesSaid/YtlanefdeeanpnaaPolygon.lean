/-
  Contract of polygon of layer 7's law: the points with given coordinates. Conditions: at most 1000 numbers, read below the heap's size.
-/
import Derived.Test.YtlanefdeeanpnaaPolyOwn
namespace Go.Proofs.Ytlanefdeeanpnaa
set_option linter.unusedVariables false
set_option linter.unusedSimpArgs false
open Go.RowKit
attribute [local go_sem ↓] Go.wp_at_zero Go.wp_at_succ

def polyTo (L : List Int) (t : Nat) : List Pt := (List.range t).map fun k => (L.getD (2 * k) 0, L.getD (2 * k + 1) 0, false)
theorem polyTo_len (L : List Int) (t : Nat) : (polyTo L t).length = t := by simp [polyTo]
theorem polyTo_succ (L : List Int) (t : Nat) : polyTo L (t + 1) = polyTo L t ++ [(L.getD (2 * t) 0, L.getD (2 * t + 1) 0, false)] := by simp [polyTo, List.range_succ]
theorem sb_at {B : Nat} {W w' : World} (hb : Below B W w') : (∀ b o, b < B → w'.cell? ⟨b, o, none⟩ = W.cell? ⟨b, o, none⟩) ∧ Below B W w' := ⟨fun b o h => hb.cell (p := ⟨b, o, none⟩) h, hb⟩

set_option maxHeartbeats 4000000 in
set_option maxRecDepth 100000 in
theorem polygon_any (L : List Int) (A : Option Addr) (c : Nat) (w : World) (hn : L.length ≤ 1000) (hr : Rd (Value.int .i64) w w.heap.size A L) :
    Calls Try.prog 62 #[.slice A L.length c] w fun e w' =>
      ∃ (A' : Option Addr) (c' : Nat), e = .returned (.slice A' (L.length / 2) c') ∧ RdPt w' w'.heap.size A' (polyTo L (L.length / 2)) ∧ Below w.heap.size w w' := by
  have HR := Lib.hid hr
  have HU := Lib.hid (Try.underlying96)
  clear hr
  go_enter Try.func62, Try.ntmps62
  go_wp2_with fail
  generalize hp : w.heap.size = B at *
  go_loopw [3, 4] (fun s3 s4 wr => ∃ (t : Nat) (A' : Option Addr) (c' : Nat), t ≤ L.length / 2 ∧ s4 = .int .i64 ((2 * t : Nat) : Int) ∧ s3 = .slice A' t c' ∧ wr.ownsRow B 134 3 (.slice A' t c') t (flat (polyTo L t)) ∧ Below B w wr) (fun _ s4 _ => L.length - (intOf s4).toNat)
  case atStart => exact ⟨0, none, 0, Nat.zero_le _, rfl, rfl, World.ownsRow_nil _ _ _ _, Below.refl _ _⟩
  case round =>
    obtain ⟨t, A', c', ht, rfl, rfl, hown, hbr⟩ := hrel
    have hsz : B ≤ wr.heap.size := by have := hbr.size; omega
    obtain ⟨t2, ht2⟩ : ∃ t2, t2 = 2 * t := ⟨_, rfl⟩
    rw [← ht2]
    have HT2 := Lib.hid ht2
    by_cases hlt : t2 + 1 < L.length
    · have hlt' : (t2 : Int) + 1 < (L.length : Int) := by omega
      obtain ⟨b, o, rfl, hb, hc⟩ := HR.out (by omega)
      have hca := (hbr.cell (p := ⟨b, o + t2, none⟩) hb).trans (hc t2 (by omega))
      have hcb := (hbr.cell (p := ⟨b, o + (t2 + 1), none⟩) hb).trans (hc (t2 + 1) hlt)
      have HPS : Hid (polyTo L (t + 1) = polyTo L t ++ [(L[t2], L[t2 + 1], false)]) := Lib.hid (by rw [polyTo_succ, ← ht2, List.getD_eq_getElem?_getD, List.getElem?_eq_getElem (show t2 < L.length by omega), List.getD_eq_getElem?_getD, List.getElem?_eq_getElem hlt]; rfl)
      have HPL := Lib.hid (polyTo_len L t)
      generalize polyTo L t = P at *
      generalize L[t2] = X at *
      generalize L[t2 + 1] = Y at *
      have wi1 : IntKind.i64.wrap ((t2 : Int) + 1) = ((t2 + 1 : Nat) : Int) := by rw [Int.natCast_add]; exact IntWalk.i64_in _ (by omega)
      obtain ⟨t3, ht3⟩ : ∃ t3, t3 = t2 + 1 := ⟨_, rfl⟩
      rw [← ht3] at wi1 hcb
      have hlt3 : (t3 : Int) < (L.length : Int) := by omega
      have hlt2 : (t2 : Int) < (L.length : Int) := by omega
      have HT3 := Lib.hid ht3
      have htl : t < L.length / 2 := by omega
      clear hc ht2 ht3
      go_upto_region 5 with fail
      refine wp_region_L 13 (fun w' => (∀ b o, b < B → w'.cell? ⟨b, o, none⟩ = wr.cell? ⟨b, o, none⟩) ∧ Below B wr w') (by kernel_rfl) ?_ (fun Wd hWd hS => ?_)
      · (try dsimp only)
        exact sb_at (Below.refl _ _).drew
      (try dsimp only at hS)
      refine wpT_take 0 (v := ?_) rfl (by kernel_rfl) (by kernel_rfl) (fun _ _ _ h => h) hS (Or.inl ⟨rfl, ?_⟩) ?_
      rotate_left
      · (intro w' hSw; (try dsimp only at hSw); go_simp; first | done | with_reducible rfl)
      (try simp only [Act.put, List.setIfInBounds_toArray, List.set_cons_zero, List.set_cons_succ])
      refine wpT_take 1 (v := ?_) rfl (by kernel_rfl) (by kernel_rfl) (fun _ _ _ h => h) hS (Or.inl ⟨rfl, ?_⟩) ?_
      rotate_left
      · (intro w' hSw; (try dsimp only at hSw); go_simp; first | done | with_reducible rfl)
      (try simp only [Act.put, List.setIfInBounds_toArray, List.set_cons_zero, List.set_cons_succ])
      refine wpT_take 2 (v := ?_) rfl (by kernel_rfl) (by kernel_rfl) (fun _ _ _ h => h) hS (Or.inl ⟨rfl, ?_⟩) ?_
      rotate_left
      · (intro w' hSw; (try dsimp only at hSw); go_simp; first | done | with_reducible rfl)
      (try simp only [Act.put, List.setIfInBounds_toArray, List.set_cons_zero, List.set_cons_succ])
      refine wpT_take 3 (v := ?_) rfl (by kernel_rfl) (by kernel_rfl) (fun _ _ _ h => h) hS (Or.inl ⟨rfl, ?_⟩) ?_
      rotate_left
      · (intro w' hSw; (try dsimp only at hSw); go_simp; first | done | with_reducible rfl)
      (try simp only [Act.put, List.setIfInBounds_toArray, List.set_cons_zero, List.set_cons_succ])
      refine wpT_take 4 (v := ?_) rfl (by kernel_rfl) (by kernel_rfl) (fun _ _ _ h => h) hS (Or.inl ⟨rfl, ?_⟩) ?_
      rotate_left
      · (intro w' hSw; (try dsimp only at hSw); go_simp; first | done | with_reducible rfl)
      (try simp only [Act.put, List.setIfInBounds_toArray, List.set_cons_zero, List.set_cons_succ])
      refine wpT_take 5 (v := ?_) rfl (by kernel_rfl) (by kernel_rfl) (fun _ _ _ h => h) hS (Or.inl ⟨rfl, ?_⟩) ?_
      rotate_left
      · (intro w' hSw; (try dsimp only at hSw); go_simp; first | done | with_reducible rfl)
      (try simp only [Act.put, List.setIfInBounds_toArray, List.set_cons_zero, List.set_cons_succ])
      refine wpT_take 6 (v := ?_) rfl (by kernel_rfl) (by kernel_rfl) (fun _ _ _ h => h) hS (Or.inl ⟨rfl, ?_⟩) ?_
      rotate_left
      · (intro w' hSw; (try dsimp only at hSw); go_simp; first | done | with_reducible rfl)
      (try simp only [Act.put, List.setIfInBounds_toArray, List.set_cons_zero, List.set_cons_succ])
      refine wpT_take 7 (v := ?_) rfl (by kernel_rfl) (by kernel_rfl) (fun _ _ _ h => h) hS (Or.inl ⟨rfl, ?_⟩) ?_
      rotate_left
      · (intro w' hSw; (try dsimp only at hSw); go_simp; first | done | with_reducible rfl)
      (try simp only [Act.put, List.setIfInBounds_toArray, List.set_cons_zero, List.set_cons_succ])
      refine wpT_take 8 (v := ?_) rfl (by kernel_rfl) (by kernel_rfl) (fun _ _ _ h => h) hS (Or.inl ⟨rfl, ?_⟩) ?_
      rotate_left
      · (intro w' hSw; (try dsimp only at hSw); go_simp; first | done | with_reducible rfl)
      (try simp only [Act.put, List.setIfInBounds_toArray, List.set_cons_zero, List.set_cons_succ])
      refine wpT_take 9 (v := ?_) rfl (by kernel_rfl) (by kernel_rfl) (fun _ _ _ h => h) hS (Or.inl ⟨rfl, ?_⟩) ?_
      rotate_left
      · (intro w' hSw; (try dsimp only at hSw); go_simp; first | done | with_reducible rfl)
      (try simp only [Act.put, List.setIfInBounds_toArray, List.set_cons_zero, List.set_cons_succ])
      refine wpT_take 10 (v := ?_) rfl (by kernel_rfl) (by kernel_rfl) (fun _ _ _ h => h) hS (Or.inl ⟨rfl, ?_⟩) ?_
      rotate_left
      · (intro w' hSw; (try dsimp only at hSw); go_simp; first | done | with_reducible rfl)
      (try simp only [Act.put, List.setIfInBounds_toArray, List.set_cons_zero, List.set_cons_succ])
      refine wpT_one 11 rfl (by kernel_rfl) (fun K hK => ?_)
      go_simp
      refine k_world (fun Wq hWq => ?_)
      have hown1 := own_below hown hWd
      have hzd := hWd.size
      obtain ⟨qq, eqq, hQ, hbQ, hsQ⟩ := new1n hWq
      clear hWq
      rw [eqq]
      have hown2 := own_below hown1 (by rw [eqq]; exact hbQ)
      have hbS := hS.2.trans (hbQ.mono (by omega))
      refine hK.out _ _ ?_ (fun hS => ?_)
      · (try dsimp only)
        exact sb_at hbS
      clear hK K
      (try simp only [Act.put, List.setIfInBounds_toArray, List.set_cons_zero, List.set_cons_succ])
      (try dsimp only at hS)
      refine wpT_one 12 rfl (by kernel_rfl) (fun K hK => ?_)
      refine step_append_pt _ (by rfl) _ _ _ (by rfl) B HU.out _ P (by rfl) (by rw [HPL.out]; exact hown2) qq X Y false (by rfl) hQ (by rw [HPL.out]; omega) (by omega) ?_
      intro A7 c7 w7 hown7 hgrow
      rw [HPL.out] at hown7 ⊢
      have hbS2 := below_grown hbS hgrow (by omega) (fun k hk => (hown2.lt k hk).1)
      refine hK.out _ _ ?_ (fun hS => ?_)
      · (try dsimp only)
        exact sb_at hbS2
      clear hK K
      (try simp only [Act.put, List.setIfInBounds_toArray, List.set_cons_zero, List.set_cons_succ])
      (try dsimp only at hS)
      refine wpT_tail (by rfl) (by kernel_rfl) ?_
      (try simp only [List.drop_succ_cons, List.drop_zero])
      clear hS
      go_wp2_with fail
      go_roundw
      case rel => exact ⟨t + 1, A7, c7, by omega, by have := HT2.out; go_num, rfl, by rw [HPS.out]; exact hown7, hbr.trans hbS2⟩
      case measure => have := HT2.out; simp [intOf]; omega
    · have hte : t = L.length / 2 := by omega
      have hlt' : ¬ (t2 : Int) + 1 < (L.length : Int) := by omega
      have h2l : t2 ≤ 1000 := by omega
      clear ht2
      go_wp2
      go_ret
      rw [← hte]
      exact ⟨A', ⟨c', rfl⟩, own_rdpt hown, hbr⟩
end Go.Proofs.Ytlanefdeeanpnaa
