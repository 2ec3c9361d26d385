/-
  Contract of cut of layer 7's law: at most 4 polygons with at most 12 points each. Conditions: what an argument's opening gives.
-/
import Derived.Test.YtlanefdeeanpnaaMoved
namespace Go.Proofs.Ytlanefdeeanpnaa
set_option linter.unusedVariables false
set_option linter.unusedSimpArgs false
open Go.RowKit
attribute [local go_sem ↓] Go.wp_at_zero Go.wp_at_succ

theorem RdPt.take {w : World} {B : Nat} {A : Option Addr} {xs : List Pt} (h : RdPt w B A xs) (n : Nat) : RdPt w B A (xs.take n) := fun h0 => by
  have hl : 0 < xs.length := by rw [List.length_take] at h0; omega
  obtain ⟨b, o, e, hlt, hc⟩ := h hl
  refine ⟨b, o, e, hlt, fun k hk => ?_⟩
  rw [List.length_take] at hk
  rw [List.getElem_take]
  exact hc k (by omega)
def cutL (ls : List (List Pt)) : List (List Pt) := (ls.take 4).map (fun p => p.take 12)
theorem rdps_of_rows {w : World} {base n c : Nat} {A : Option Addr} {rs : List Row} (h : w.ownsRow base 96 1 (.slice A n c) n (rs.map rowV)) (hr : ∀ r ∈ rs, RdPt w w.heap.size r.1 r.2.2) : RdPs w w.heap.size A (rs.map fun r => r.2.2) := own_rdps h hr

set_option maxHeartbeats 8000000 in
set_option maxRecDepth 100000 in
theorem cut7_any (ls : List (List Pt)) (A : Option Addr) (c : Nat) (w : World) (hls : ls.length ≤ 9223372036854775807) (hr : RwPs w w.heap.size A ls) :
    Calls Try.prog 51 #[.slice A ls.length c] w fun e w' =>
      ∃ (A' : Option Addr) (c' : Nat), e = .returned (.slice A' (cutL ls).length c') ∧ RdPs w' w'.heap.size A' (cutL ls) ∧ Below w.heap.size w w' := by
  have HR := Lib.hid hr
  have HU2 := Lib.hid (Try.underlying78)
  clear hr
  go_enter Try.func51, Try.ntmps51
  go_wp2_with fail
  generalize hp : w.heap.size = B at *
  have HP := Lib.hid hp
  clear hp
  go_loopw [3, 4] (fun s3 s4 wr => ∃ (i : Nat) (rs : List Row) (Ao : Option Addr) (co : Nat), i ≤ 4 ∧ i ≤ ls.length ∧ s4 = .int .i64 i ∧ s3 = .slice Ao i co ∧ wr.ownsRow B 96 1 (.slice Ao i co) i (rs.map rowV) ∧ Hid (rs.map (fun r => r.2.2) = (ls.take i).map (fun p => p.take 12) ∧ rs.length = i) ∧ Hid (∀ r ∈ rs, RdPt w B r.1 r.2.2) ∧ Below B w wr) (fun _ s4 _ => 4 - (intOf s4).toNat)
  case atStart => exact ⟨0, [], none, 0, by omega, by omega, rfl, rfl, World.ownsRow_nil _ _ _ _, Lib.hid ⟨rfl, rfl⟩, Lib.hid (fun r hr => absurd hr (by simp)), Below.refl _ _⟩
  case round =>
    obtain ⟨i, rs, Ao, co, hi4, hil, rfl, rfl, hown, HRS, HRO, hbr⟩ := hrel
    have hsz : B ≤ wr.heap.size := by have := hbr.size; have := HP.out; omega
    have HLN := Lib.hid HRS.out.2
    have HMP := Lib.hid HRS.out.1
    by_cases hlt : i < ls.length
    · by_cases h4 : i < 4
      · have hlt' : (i : Int) < (ls.length : Int) := by omega
        have h4' : (i : Int) < 4 := by omega
        obtain ⟨b, o, rfl, hb, AL, cL, hck, hrk, hlc, hcm, hnl⟩ := HR.out.at_ hlt
        have hck1 := (hbr.cell (p := ⟨b, o + i, none⟩) hb).trans hck
        have HRT := Lib.hid (hrk.take 12)
        have HMI : Hid ((ls.take (i + 1)).map (fun p => p.take 12) = (ls.take i).map (fun p => p.take 12) ++ [ls[i].take 12]) := Lib.hid (by rw [List.take_succ_eq_append_getElem hlt, List.map_append]; rfl)
        have HTL := Lib.hid (show (ls[i].take 12).length = min ls[i].length 12 by rw [List.length_take, Nat.min_comm])
        generalize ls[i].take 12 = T at *
        generalize ls[i].length = l at *
        clear hck hrk
        cases AL with
        | none =>
          obtain ⟨e1, e2⟩ := hnl rfl
          subst e1 e2
          have hm0 : min (0 : Int) 12 = 0 := by decide
          have HT0 : Hid (T.length = 0) := Lib.hid (by rw [HTL.out]; rfl)
          clear hnl hlc hcm
          go_upto_region 5 with fail
          refine wp_region_L 14 (fun w' => (∀ b o, b < B → w'.cell? ⟨b, o, none⟩ = wr.cell? ⟨b, o, none⟩) ∧ Below B wr w') (by kernel_rfl) ?_ (fun Wd hWd hS => ?_)
          · (try dsimp only)
            exact sb_at (Below.refl _ _).drew
          (try dsimp only at hS)
          refine wpT_take 0 (v := ?_) rfl (by kernel_rfl) (by kernel_rfl) (fun _ _ _ h => h) hS (Or.inl ⟨rfl, ?_⟩) ?_
          rotate_left
          · (intro w' hSw; (try dsimp only at hSw); go_simp; first | done | with_reducible rfl)
          (try simp only [Act.put, List.setIfInBounds_toArray, List.set_cons_zero, List.set_cons_succ])
          refine wpT_take 1 (v := ?_) rfl (by kernel_rfl) (by kernel_rfl) (fun _ _ _ h => h) hS (Or.inl ⟨rfl, ?_⟩) ?_
          rotate_left
          · (intro w' hSw; (try dsimp only at hSw); go_simp; first | done | with_reducible rfl)
          (try simp only [Act.put, List.setIfInBounds_toArray, List.set_cons_zero, List.set_cons_succ])
          refine wpT_take 2 (v := ?_) rfl (by kernel_rfl) (by kernel_rfl) (fun _ _ _ h => h) hS (Or.inl ⟨rfl, ?_⟩) ?_
          rotate_left
          · (intro w' hSw; (try dsimp only at hSw); go_simp; first | done | with_reducible rfl)
          (try simp only [Act.put, List.setIfInBounds_toArray, List.set_cons_zero, List.set_cons_succ])
          refine wpT_take 3 (v := ?_) rfl (by kernel_rfl) (by kernel_rfl) (fun _ _ _ h => h) hS (Or.inl ⟨rfl, ?_⟩) ?_
          rotate_left
          · (intro w' hSw; (try dsimp only at hSw); go_simp; first | done | with_reducible rfl)
          (try simp only [Act.put, List.setIfInBounds_toArray, List.set_cons_zero, List.set_cons_succ])
          refine wpT_take 4 (v := ?_) rfl (by kernel_rfl) (by kernel_rfl) (fun _ _ _ h => h) hS (Or.inl ⟨rfl, ?_⟩) ?_
          rotate_left
          · (intro w' hSw; (try dsimp only at hSw); go_simp; first | done | with_reducible rfl)
          (try simp only [Act.put, List.setIfInBounds_toArray, List.set_cons_zero, List.set_cons_succ])
          refine wpT_take 5 (v := ?_) rfl (by kernel_rfl) (by kernel_rfl) (fun _ _ _ h => h) hS (Or.inl ⟨rfl, ?_⟩) ?_
          rotate_left
          · (intro w' hSw; (try dsimp only at hSw); go_simp; first | done | with_reducible rfl)
          (try simp only [Act.put, List.setIfInBounds_toArray, List.set_cons_zero, List.set_cons_succ])
          refine wpT_take 6 (v := ?_) rfl (by kernel_rfl) (by kernel_rfl) (fun _ _ _ h => h) hS (Or.inl ⟨rfl, ?_⟩) ?_
          rotate_left
          · (intro w' hSw; (try dsimp only at hSw); go_simp; first | done | with_reducible rfl)
          (try simp only [Act.put, List.setIfInBounds_toArray, List.set_cons_zero, List.set_cons_succ])
          refine wpT_take 7 (v := ?_) rfl (by kernel_rfl) (by kernel_rfl) (fun _ _ _ h => h) hS (Or.inl ⟨rfl, ?_⟩) ?_
          rotate_left
          · (intro w' hSw; (try dsimp only at hSw); go_simp; first | done | with_reducible rfl)
          (try simp only [Act.put, List.setIfInBounds_toArray, List.set_cons_zero, List.set_cons_succ])
          refine wpT_take 8 (v := ?_) rfl (by kernel_rfl) (by kernel_rfl) (fun _ _ _ h => h) hS (Or.inl ⟨rfl, ?_⟩) ?_
          rotate_left
          · (intro w' hSw; (try dsimp only at hSw); go_simp; first | done | with_reducible rfl)
          (try simp only [Act.put, List.setIfInBounds_toArray, List.set_cons_zero, List.set_cons_succ])
          refine wpT_take 9 (v := ?_) rfl (by kernel_rfl) (by kernel_rfl) (fun _ _ _ h => h) hS (Or.inl ⟨rfl, ?_⟩) ?_
          rotate_left
          · (intro w' hSw; (try dsimp only at hSw); go_simp; first | done | with_reducible rfl)
          (try simp only [Act.put, List.setIfInBounds_toArray, List.set_cons_zero, List.set_cons_succ])
          refine wpT_take 10 (v := ?_) rfl (by kernel_rfl) (by kernel_rfl) (fun _ _ _ h => h) hS (Or.inl ⟨rfl, ?_⟩) ?_
          rotate_left
          · (intro w' hSw; (try dsimp only at hSw); go_simp; first | done | with_reducible rfl)
          (try simp only [Act.put, List.setIfInBounds_toArray, List.set_cons_zero, List.set_cons_succ])
          refine wpT_take 11 (v := ?_) rfl (by kernel_rfl) (by kernel_rfl) (fun _ _ _ h => h) hS (Or.inl ⟨rfl, ?_⟩) ?_
          rotate_left
          · (intro w' hSw; (try dsimp only at hSw); go_simp; first | done | with_reducible rfl)
          (try simp only [Act.put, List.setIfInBounds_toArray, List.set_cons_zero, List.set_cons_succ])
          refine wpT_one 12 rfl (by kernel_rfl) (fun K hK => ?_)
          go_simp
          refine k_world (fun Wq hWq => ?_)
          have hown1 := own_below hown hWd
          have hzd := hWd.size
          obtain ⟨qq, eqq, hQ, hbQ, hsQ⟩ := new1n hWq
          clear hWq
          rw [eqq]
          have hown2 := own_below hown1 (by rw [eqq]; exact hbQ)
          have hbS := hS.2.trans (hbQ.mono (by omega))
          refine hK.out _ _ ?_ (fun hS => ?_)
          · (try dsimp only)
            exact sb_at hbS
          clear hK K
          (try simp only [Act.put, List.setIfInBounds_toArray, List.set_cons_zero, List.set_cons_succ])
          (try dsimp only at hS)
          refine wpT_one 13 rfl (by kernel_rfl) (fun K hK => ?_)
          refine step_append_row _ (by rfl) _ _ _ (by rfl) B HU2.out _ rs (by rfl) (by rw [HLN.out]; exact hown2) qq (none, 0, T) (by rfl) (by have h0 := HT0.out; unfold rowV; dsimp only; rw [h0]; exact hQ) (by rw [HLN.out]; omega) (by omega) ?_
          intro A7 c7 w7 hown7 hgrow
          rw [HLN.out] at hown7 ⊢
          have hbS2 := below_grown hbS hgrow (by omega) (fun k hk => (hown2.lt k hk).1)
          refine hK.out _ _ ?_ (fun hS => ?_)
          · (try dsimp only)
            exact sb_at hbS2
          clear hK K
          (try simp only [Act.put, List.setIfInBounds_toArray, List.set_cons_zero, List.set_cons_succ])
          (try dsimp only at hS)
          refine wpT_tail (by rfl) (by kernel_rfl) ?_
          (try simp only [List.drop_succ_cons, List.drop_zero])
          clear hS
          go_wp2_with fail
          go_roundw
          case rel => exact ⟨i + 1, rs ++ [((none, 0, T) : Row)], A7, c7, by omega, by omega, by go_num, rfl, hown7, Lib.hid ⟨by rw [HMI.out, List.map_append, HMP.out]; rfl, by rw [List.length_append, HLN.out]; rfl⟩, Lib.hid (fun r hr => by
            rcases List.mem_append.1 hr with hr | hr
            · exact HRO.out r hr
            · have : r = (none, 0, T) := by simpa using hr
              subst this
              exact HRT.out), hbr.trans hbS2⟩
          case measure => simp [intOf]; omega
        | some a =>
          clear hnl
          by_cases h12 : 12 < l
          · have h12' : (12 : Int) < (l : Int) := by omega
            have hm1 : (12 : Int) ≤ (cL : Int) := by omega
            have hm2 : 12 ≤ cL := by omega
            have HT0 : Hid (T.length = 12) := Lib.hid (by rw [HTL.out]; omega)
            go_upto_region 5 with fail
            refine wp_region_L 14 (fun w' => (∀ b o, b < B → w'.cell? ⟨b, o, none⟩ = wr.cell? ⟨b, o, none⟩) ∧ Below B wr w') (by kernel_rfl) ?_ (fun Wd hWd hS => ?_)
            · (try dsimp only)
              exact sb_at (Below.refl _ _).drew
            (try dsimp only at hS)
            refine wpT_take 0 (v := ?_) rfl (by kernel_rfl) (by kernel_rfl) (fun _ _ _ h => h) hS (Or.inl ⟨rfl, ?_⟩) ?_
            rotate_left
            · (intro w' hSw; (try dsimp only at hSw); go_simp; first | done | with_reducible rfl)
            (try simp only [Act.put, List.setIfInBounds_toArray, List.set_cons_zero, List.set_cons_succ])
            refine wpT_take 1 (v := ?_) rfl (by kernel_rfl) (by kernel_rfl) (fun _ _ _ h => h) hS (Or.inl ⟨rfl, ?_⟩) ?_
            rotate_left
            · (intro w' hSw; (try dsimp only at hSw); go_simp; first | done | with_reducible rfl)
            (try simp only [Act.put, List.setIfInBounds_toArray, List.set_cons_zero, List.set_cons_succ])
            refine wpT_take 2 (v := ?_) rfl (by kernel_rfl) (by kernel_rfl) (fun _ _ _ h => h) hS (Or.inl ⟨rfl, ?_⟩) ?_
            rotate_left
            · (intro w' hSw; (try dsimp only at hSw); go_simp; first | done | with_reducible rfl)
            (try simp only [Act.put, List.setIfInBounds_toArray, List.set_cons_zero, List.set_cons_succ])
            refine wpT_take 3 (v := ?_) rfl (by kernel_rfl) (by kernel_rfl) (fun _ _ _ h => h) hS (Or.inl ⟨rfl, ?_⟩) ?_
            rotate_left
            · (intro w' hSw; (try dsimp only at hSw); go_simp; first | done | with_reducible rfl)
            (try simp only [Act.put, List.setIfInBounds_toArray, List.set_cons_zero, List.set_cons_succ])
            refine wpT_take 4 (v := ?_) rfl (by kernel_rfl) (by kernel_rfl) (fun _ _ _ h => h) hS (Or.inl ⟨rfl, ?_⟩) ?_
            rotate_left
            · (intro w' hSw; (try dsimp only at hSw); go_simp; first | done | with_reducible rfl)
            (try simp only [Act.put, List.setIfInBounds_toArray, List.set_cons_zero, List.set_cons_succ])
            refine wpT_take 5 (v := ?_) rfl (by kernel_rfl) (by kernel_rfl) (fun _ _ _ h => h) hS (Or.inl ⟨rfl, ?_⟩) ?_
            rotate_left
            · (intro w' hSw; (try dsimp only at hSw); go_simp; first | done | with_reducible rfl)
            (try simp only [Act.put, List.setIfInBounds_toArray, List.set_cons_zero, List.set_cons_succ])
            refine wpT_take 6 (v := ?_) rfl (by kernel_rfl) (by kernel_rfl) (fun _ _ _ h => h) hS (Or.inl ⟨rfl, ?_⟩) ?_
            rotate_left
            · (intro w' hSw; (try dsimp only at hSw); go_simp; first | done | with_reducible rfl)
            (try simp only [Act.put, List.setIfInBounds_toArray, List.set_cons_zero, List.set_cons_succ])
            refine wpT_take 7 (v := ?_) rfl (by kernel_rfl) (by kernel_rfl) (fun _ _ _ h => h) hS (Or.inl ⟨rfl, ?_⟩) ?_
            rotate_left
            · (intro w' hSw; (try dsimp only at hSw); go_simp; first | done | with_reducible rfl)
            (try simp only [Act.put, List.setIfInBounds_toArray, List.set_cons_zero, List.set_cons_succ])
            refine wpT_take 8 (v := ?_) rfl (by kernel_rfl) (by kernel_rfl) (fun _ _ _ h => h) hS (Or.inl ⟨rfl, ?_⟩) ?_
            rotate_left
            · (intro w' hSw; (try dsimp only at hSw); go_simp; first | done | with_reducible rfl)
            (try simp only [Act.put, List.setIfInBounds_toArray, List.set_cons_zero, List.set_cons_succ])
            refine wpT_take 9 (v := ?_) rfl (by kernel_rfl) (by kernel_rfl) (fun _ _ _ h => h) hS (Or.inl ⟨rfl, ?_⟩) ?_
            rotate_left
            · (intro w' hSw; (try dsimp only at hSw); go_simp; first | done | with_reducible rfl)
            (try simp only [Act.put, List.setIfInBounds_toArray, List.set_cons_zero, List.set_cons_succ])
            refine wpT_take 10 (v := ?_) rfl (by kernel_rfl) (by kernel_rfl) (fun _ _ _ h => h) hS (Or.inl ⟨rfl, ?_⟩) ?_
            rotate_left
            · (intro w' hSw; (try dsimp only at hSw); go_simp; first | done | with_reducible rfl)
            (try simp only [Act.put, List.setIfInBounds_toArray, List.set_cons_zero, List.set_cons_succ])
            refine wpT_take 11 (v := ?_) rfl (by kernel_rfl) (by kernel_rfl) (fun _ _ _ h => h) hS (Or.inl ⟨rfl, ?_⟩) ?_
            rotate_left
            · (intro w' hSw; (try dsimp only at hSw); go_simp; first | done | with_reducible rfl)
            (try simp only [Act.put, List.setIfInBounds_toArray, List.set_cons_zero, List.set_cons_succ])
            refine wpT_one 12 rfl (by kernel_rfl) (fun K hK => ?_)
            go_simp
            refine k_world (fun Wq hWq => ?_)
            have hown1 := own_below hown hWd
            have hzd := hWd.size
            obtain ⟨qq, eqq, hQ, hbQ, hsQ⟩ := new1n hWq
            clear hWq
            rw [eqq]
            have hown2 := own_below hown1 (by rw [eqq]; exact hbQ)
            have hbS := hS.2.trans (hbQ.mono (by omega))
            refine hK.out _ _ ?_ (fun hS => ?_)
            · (try dsimp only)
              exact sb_at hbS
            clear hK K
            (try simp only [Act.put, List.setIfInBounds_toArray, List.set_cons_zero, List.set_cons_succ])
            (try dsimp only at hS)
            refine wpT_one 13 rfl (by kernel_rfl) (fun K hK => ?_)
            refine step_append_row _ (by rfl) _ _ _ (by rfl) B HU2.out _ rs (by rfl) (by rw [HLN.out]; exact hown2) qq (some a, cL, T) (by rfl) (by have h0 := HT0.out; unfold rowV; dsimp only; rw [h0]; exact hQ) (by rw [HLN.out]; omega) (by omega) ?_
            intro A7 c7 w7 hown7 hgrow
            rw [HLN.out] at hown7 ⊢
            have hbS2 := below_grown hbS hgrow (by omega) (fun k hk => (hown2.lt k hk).1)
            refine hK.out _ _ ?_ (fun hS => ?_)
            · (try dsimp only)
              exact sb_at hbS2
            clear hK K
            (try simp only [Act.put, List.setIfInBounds_toArray, List.set_cons_zero, List.set_cons_succ])
            (try dsimp only at hS)
            refine wpT_tail (by rfl) (by kernel_rfl) ?_
            (try simp only [List.drop_succ_cons, List.drop_zero])
            clear hS
            go_wp2_with fail
            go_roundw
            case rel => exact ⟨i + 1, rs ++ [((some a, cL, T) : Row)], A7, c7, by omega, by omega, by go_num, rfl, hown7, Lib.hid ⟨by rw [HMI.out, List.map_append, HMP.out]; rfl, by rw [List.length_append, HLN.out]; rfl⟩, Lib.hid (fun r hr => by
              rcases List.mem_append.1 hr with hr | hr
              · exact HRO.out r hr
              · have : r = (some a, cL, T) := by simpa using hr
                subst this
                exact HRT.out), hbr.trans hbS2⟩
            case measure => simp [intOf]; omega
          · have h12' : ¬ (12 : Int) < (l : Int) := by omega
            have hm1 : (l : Int) ≤ (cL : Int) := by omega
            have HT0 : Hid (T.length = l) := Lib.hid (by rw [HTL.out]; omega)
            go_upto_region 5 with fail
            refine wp_region_L 14 (fun w' => (∀ b o, b < B → w'.cell? ⟨b, o, none⟩ = wr.cell? ⟨b, o, none⟩) ∧ Below B wr w') (by kernel_rfl) ?_ (fun Wd hWd hS => ?_)
            · (try dsimp only)
              exact sb_at (Below.refl _ _).drew
            (try dsimp only at hS)
            refine wpT_take 0 (v := ?_) rfl (by kernel_rfl) (by kernel_rfl) (fun _ _ _ h => h) hS (Or.inl ⟨rfl, ?_⟩) ?_
            rotate_left
            · (intro w' hSw; (try dsimp only at hSw); go_simp; first | done | with_reducible rfl)
            (try simp only [Act.put, List.setIfInBounds_toArray, List.set_cons_zero, List.set_cons_succ])
            refine wpT_take 1 (v := ?_) rfl (by kernel_rfl) (by kernel_rfl) (fun _ _ _ h => h) hS (Or.inl ⟨rfl, ?_⟩) ?_
            rotate_left
            · (intro w' hSw; (try dsimp only at hSw); go_simp; first | done | with_reducible rfl)
            (try simp only [Act.put, List.setIfInBounds_toArray, List.set_cons_zero, List.set_cons_succ])
            refine wpT_take 2 (v := ?_) rfl (by kernel_rfl) (by kernel_rfl) (fun _ _ _ h => h) hS (Or.inl ⟨rfl, ?_⟩) ?_
            rotate_left
            · (intro w' hSw; (try dsimp only at hSw); go_simp; first | done | with_reducible rfl)
            (try simp only [Act.put, List.setIfInBounds_toArray, List.set_cons_zero, List.set_cons_succ])
            refine wpT_take 3 (v := ?_) rfl (by kernel_rfl) (by kernel_rfl) (fun _ _ _ h => h) hS (Or.inl ⟨rfl, ?_⟩) ?_
            rotate_left
            · (intro w' hSw; (try dsimp only at hSw); go_simp; first | done | with_reducible rfl)
            (try simp only [Act.put, List.setIfInBounds_toArray, List.set_cons_zero, List.set_cons_succ])
            refine wpT_take 4 (v := ?_) rfl (by kernel_rfl) (by kernel_rfl) (fun _ _ _ h => h) hS (Or.inl ⟨rfl, ?_⟩) ?_
            rotate_left
            · (intro w' hSw; (try dsimp only at hSw); go_simp; first | done | with_reducible rfl)
            (try simp only [Act.put, List.setIfInBounds_toArray, List.set_cons_zero, List.set_cons_succ])
            refine wpT_take 5 (v := ?_) rfl (by kernel_rfl) (by kernel_rfl) (fun _ _ _ h => h) hS (Or.inl ⟨rfl, ?_⟩) ?_
            rotate_left
            · (intro w' hSw; (try dsimp only at hSw); go_simp; first | done | with_reducible rfl)
            (try simp only [Act.put, List.setIfInBounds_toArray, List.set_cons_zero, List.set_cons_succ])
            refine wpT_take 6 (v := ?_) rfl (by kernel_rfl) (by kernel_rfl) (fun _ _ _ h => h) hS (Or.inl ⟨rfl, ?_⟩) ?_
            rotate_left
            · (intro w' hSw; (try dsimp only at hSw); go_simp; first | done | with_reducible rfl)
            (try simp only [Act.put, List.setIfInBounds_toArray, List.set_cons_zero, List.set_cons_succ])
            refine wpT_take 7 (v := ?_) rfl (by kernel_rfl) (by kernel_rfl) (fun _ _ _ h => h) hS (Or.inl ⟨rfl, ?_⟩) ?_
            rotate_left
            · (intro w' hSw; (try dsimp only at hSw); go_simp; first | done | with_reducible rfl)
            (try simp only [Act.put, List.setIfInBounds_toArray, List.set_cons_zero, List.set_cons_succ])
            refine wpT_take 8 (v := ?_) rfl (by kernel_rfl) (by kernel_rfl) (fun _ _ _ h => h) hS (Or.inl ⟨rfl, ?_⟩) ?_
            rotate_left
            · (intro w' hSw; (try dsimp only at hSw); go_simp; first | done | with_reducible rfl)
            (try simp only [Act.put, List.setIfInBounds_toArray, List.set_cons_zero, List.set_cons_succ])
            refine wpT_take 9 (v := ?_) rfl (by kernel_rfl) (by kernel_rfl) (fun _ _ _ h => h) hS (Or.inl ⟨rfl, ?_⟩) ?_
            rotate_left
            · (intro w' hSw; (try dsimp only at hSw); go_simp; first | done | with_reducible rfl)
            (try simp only [Act.put, List.setIfInBounds_toArray, List.set_cons_zero, List.set_cons_succ])
            refine wpT_take 10 (v := ?_) rfl (by kernel_rfl) (by kernel_rfl) (fun _ _ _ h => h) hS (Or.inl ⟨rfl, ?_⟩) ?_
            rotate_left
            · (intro w' hSw; (try dsimp only at hSw); go_simp; first | done | with_reducible rfl)
            (try simp only [Act.put, List.setIfInBounds_toArray, List.set_cons_zero, List.set_cons_succ])
            refine wpT_take 11 (v := ?_) rfl (by kernel_rfl) (by kernel_rfl) (fun _ _ _ h => h) hS (Or.inl ⟨rfl, ?_⟩) ?_
            rotate_left
            · (intro w' hSw; (try dsimp only at hSw); go_simp; first | done | with_reducible rfl)
            (try simp only [Act.put, List.setIfInBounds_toArray, List.set_cons_zero, List.set_cons_succ])
            refine wpT_one 12 rfl (by kernel_rfl) (fun K hK => ?_)
            go_simp
            refine k_world (fun Wq hWq => ?_)
            have hown1 := own_below hown hWd
            have hzd := hWd.size
            obtain ⟨qq, eqq, hQ, hbQ, hsQ⟩ := new1n hWq
            clear hWq
            rw [eqq]
            have hown2 := own_below hown1 (by rw [eqq]; exact hbQ)
            have hbS := hS.2.trans (hbQ.mono (by omega))
            refine hK.out _ _ ?_ (fun hS => ?_)
            · (try dsimp only)
              exact sb_at hbS
            clear hK K
            (try simp only [Act.put, List.setIfInBounds_toArray, List.set_cons_zero, List.set_cons_succ])
            (try dsimp only at hS)
            refine wpT_one 13 rfl (by kernel_rfl) (fun K hK => ?_)
            refine step_append_row _ (by rfl) _ _ _ (by rfl) B HU2.out _ rs (by rfl) (by rw [HLN.out]; exact hown2) qq (some a, cL, T) (by rfl) (by have h0 := HT0.out; unfold rowV; dsimp only; rw [h0]; exact hQ) (by rw [HLN.out]; omega) (by omega) ?_
            intro A7 c7 w7 hown7 hgrow
            rw [HLN.out] at hown7 ⊢
            have hbS2 := below_grown hbS hgrow (by omega) (fun k hk => (hown2.lt k hk).1)
            refine hK.out _ _ ?_ (fun hS => ?_)
            · (try dsimp only)
              exact sb_at hbS2
            clear hK K
            (try simp only [Act.put, List.setIfInBounds_toArray, List.set_cons_zero, List.set_cons_succ])
            (try dsimp only at hS)
            refine wpT_tail (by rfl) (by kernel_rfl) ?_
            (try simp only [List.drop_succ_cons, List.drop_zero])
            clear hS
            go_wp2_with fail
            go_roundw
            case rel => exact ⟨i + 1, rs ++ [((some a, cL, T) : Row)], A7, c7, by omega, by omega, by go_num, rfl, hown7, Lib.hid ⟨by rw [HMI.out, List.map_append, HMP.out]; rfl, by rw [List.length_append, HLN.out]; rfl⟩, Lib.hid (fun r hr => by
              rcases List.mem_append.1 hr with hr | hr
              · exact HRO.out r hr
              · have : r = (some a, cL, T) := by simpa using hr
                subst this
                exact HRT.out), hbr.trans hbS2⟩
            case measure => simp [intOf]; omega
      · have h4' : ¬ (i : Int) < 4 := by omega
        have hlt' : (i : Int) < (ls.length : Int) := by omega
        have HE := Lib.hid (show ls.take i = ls.take 4 by rw [show i = 4 by omega])
        obtain ⟨hmap, hlen⟩ := HRS.out
        rw [HE.out] at hmap
        have hm : rs.map (fun r => r.2.2) = cutL ls := hmap
        have hl : (cutL ls).length = i := by rw [← hm]; simp [hlen]
        have hrd := own_rdps hown (fun r hr => ((HRO.out r hr).below hbr (Nat.le_refl _)).more hsz)
        rw [hm] at hrd
        have HRDS := Lib.hid hrd
        have HL := Lib.hid hl
        clear hm hl hrd hmap hlen
        go_wp2
        go_ret
        refine ⟨Ao, ⟨co, by rw [HL.out]; rfl⟩, HRDS.out, ?_⟩
        rw [HP.out]
        exact hbr
    · have hlt' : ¬ (i : Int) < (ls.length : Int) := by omega
      have HE := Lib.hid (show ls.take i = ls.take 4 by rw [List.take_of_length_le (by omega), List.take_of_length_le (by omega)])
      obtain ⟨hmap, hlen⟩ := HRS.out
      rw [HE.out] at hmap
      have hm : rs.map (fun r => r.2.2) = cutL ls := hmap
      have hl : (cutL ls).length = i := by rw [← hm]; simp [hlen]
      have hrd := own_rdps hown (fun r hr => ((HRO.out r hr).below hbr (Nat.le_refl _)).more hsz)
      rw [hm] at hrd
      have HRDS := Lib.hid hrd
      have HL := Lib.hid hl
      clear hm hl hrd hmap hlen
      go_wp2
      go_ret
      refine ⟨Ao, ⟨co, by rw [HL.out]; rfl⟩, HRDS.out, ?_⟩
      rw [HP.out]
      exact hbr
end Go.Proofs.Ytlanefdeeanpnaa
