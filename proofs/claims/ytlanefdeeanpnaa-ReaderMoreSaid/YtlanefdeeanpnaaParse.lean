/-
  The reference Parse at the sanity's text.
-/
import Derived.Test.YtlanefdeeanpnaaText
import Derived.Test.YtlanefdeeanpnaaRegion
import Derived.Deep.DeepCutAuto
import Derived.Deep.RegionLaw
namespace Go.Proofs.Ytlanefdeeanpnaa
set_option linter.unusedVariables false
set_option linter.unusedSimpArgs false
open Go.RowKit
attribute [local go_sem ↓] Go.wp_at_zero Go.wp_at_succ

def S0 : ByteArray := ⟨#[46, 46, 35, 10, 46, 35, 35, 10, 46, 46, 46, 10]⟩
def D0 : List Bool := [false, false, false, false, true, true, false, false, true]
/-- What the first t bytes say. -/
def pS (t : Nat) : List Bool := (List.range 9).map fun k => D0.getD k false && decide ((2 - k / 3) * 4 + k % 3 < t)
theorem S0_size : S0.size = 12 := rfl
theorem S0_at : ∀ t (h : t < S0.size), S0[t].toNat = [46, 46, 35, 10, 46, 35, 35, 10, 46, 46, 46, 10].getD t 0 := by decide
theorem pS_nl : ∀ t, t < 12 → t % 4 = 3 → pS (t + 1) = pS t := by decide
theorem pS_set : ∀ t, t < 12 → t % 4 ≠ 3 → (pS t).set ((2 - t / 4) * 3 + t % 4) (decide ([46, 46, 35, 10, 46, 35, 35, 10, 46, 46, 46, 10].getD t 0 = 35)) = pS (t + 1) := by decide
theorem S0_ways : ∀ t, t < 12 → (t % 4 = 3 ∧ [46, 46, 35, 10, 46, 35, 35, 10, 46, 46, 46, 10].getD t 0 = 10) ∨ (t % 4 ≠ 3 ∧ [46, 46, 35, 10, 46, 35, 35, 10, 46, 46, 46, 10].getD t 0 = 46) ∨ (t % 4 ≠ 3 ∧ [46, 46, 35, 10, 46, 35, 35, 10, 46, 46, 46, 10].getD t 0 = 35) := by decide
theorem S0_low : ∀ t, t < 3 → [46, 46, 35, 10, 46, 35, 35, 10, 46, 46, 46, 10].getD t 0 ≠ 10 := by decide

set_option maxHeartbeats 4000000 in
set_option maxRecDepth 100000 in
theorem parse_S0 (w : World) : Calls Try.prog 64 #[.string S0] w fun e w' => ∃ g : Nat, e = .returned (.tuple #[.agg #[.int .i64 3, .int .i64 3, .slice (some ⟨g, 0, none⟩) 9 9], .bool true]) ∧ w.heap.size ≤ g ∧ Own Value.bool 4 w' g D0 ∧ Below w.heap.size w w' := by
  have hS := S0_size
  have HA := Lib.hid S0_at
  generalize hs : S0 = s at *
  go_enter Try.func64, Try.ntmps64
  go_wp2_with fail
  refine wp_world (fun W0 hW0 => ?_)
  obtain ⟨hB, hbw, hsz⟩ := new1 hW0
  clear hW0
  generalize hp : w.heap.size = p at *
  have HP := Lib.hid hp
  clear hp
  go_loopw [4] (fun kk wr => ∃ t : Nat, t ≤ 3 ∧ kk = .int .i64 t ∧ wr = W0) (fun kk _ => 4 - (intOf kk).toNat)
  case atStart => exact ⟨0, by omega, rfl, rfl⟩
  case round =>
    obtain ⟨t, ht, rfl, rfl⟩ := hrel
    have hts : t < s.size := by omega
    by_cases hlt : t < 3
    · have hb : ¬ s[t].toNat = 10 := by rw [HA.out t hts]; exact S0_low t hlt
      have ht12 : (t : Int) < 12 := by omega
      go_wp2
      go_roundw
      case rel => exact ⟨t + 1, by omega, by go_num, trivial⟩
      case measure => simp [intOf]; omega
    · have hte : t = 3 := by omega
      subst hte
      have hb : s[3].toNat = 10 := by rw [HA.out 3 hts]; rfl
      go_wp2_with fail
      refine (ref04_New 3 3 _).mono ?_
      rintro e w1 ⟨hb1, hq⟩
      rw [if_pos (by decide)] at hq
      obtain ⟨g, hg, hgl, hO, rfl⟩ := hq
      have e9 : ((3 : Int) * 3).toNat = 9 := rfl
      rw [e9] at hO ⊢
      have hB := hB.below hb1 hB.lt
      have hbw := hbw.trans (hb1.mono (by omega))
      have hpw : p < w1.heap.size := hB.lt
      clear hb1
      go_wp2_with fail
      refine wp_world (fun W1 hW1 => ?_)
      obtain ⟨hQ, hbq, hsz1⟩ := new1 hW1
      clear hW1
      have hB := hB.below hbq hpw
      have hO := hO.below hbq hgl
      have hbw := hbw.trans (hbq.mono (by omega))
      have hqg : w1.heap.size ≠ g := by omega
      have hpg : p ≠ g := by omega
      generalize hq : w1.heap.size = q at *
      clear hq
      go_loopw [7] (fun kk wr => ∃ t : Nat, t ≤ 12 ∧ kk = .int .i64 t ∧ Kp [g] W1 wr ∧ Own Value.bool 4 wr g (pS t)) (fun kk _ => 13 - (intOf kk).toNat)
      case atStart => exact ⟨0, by omega, rfl, Kp.refl _ _, by exact hO⟩
      case round =>
        clear hO
        obtain ⟨t, ht, rfl, hkp, hO⟩ := hrel
        obtain ⟨⟨d0, d1, d2⟩, _⟩ := (hkp.blk hQ (ni1 hqg)).three
        by_cases hlt : t < 12
        · have hti : (t : Int) < 12 := by omega
          have hts : t < s.size := by omega
          have hw1 : IntKind.i64.wrap ((t : Int) / 4) = (t : Int) / 4 := IntWalk.i64_in _ (by omega)
          have hw2 : IntKind.i64.wrap (2 - (t : Int) / 4) = 2 - (t : Int) / 4 := IntWalk.i64_in _ (by omega)
          have hw3 : (t : Int).tdiv 4 = (t : Int) / 4 := Int.tdiv_eq_ediv_of_nonneg (by omega)
          have hw4 : (t : Int).tmod 4 = (t : Int) % 4 := Int.tmod_eq_emod_of_nonneg (by omega)
          have hw5 : IntKind.i64.wrap 4 = 4 := rfl
          have hw6 : IntKind.i64.wrap 2 = 2 := rfl
          have hw7 : IntKind.i64.wrap ((2 - (t : Int) / 4) * 3) = (2 - (t : Int) / 4) * 3 := IntWalk.i64_in _ (by omega)
          have hw8 : IntKind.i64.wrap ((2 - (t : Int) / 4) * 3 + (t : Int) % 4) = (2 - (t : Int) / 4) * 3 + (t : Int) % 4 := IntWalk.i64_in _ (by omega)
          rcases S0_ways t hlt with ⟨hm, hv⟩ | ⟨hm, hv⟩ | ⟨hm, hv⟩
          · have hb : s[t].toNat = 10 := by rw [HA.out t hts]; exact hv
            have HP1 := Lib.hid (pS_nl t hlt hm)
            clear hv
            go_wp2
            refine wp_region_T 8 (fun w' => w'.cell? ⟨q, 1, none⟩ = some (.int .i64 3) ∧ w' = wr.drew) (by kernel_rfl) ?_ (fun hS => ?_)
            · (try dsimp only)
              exact ⟨d1, rfl⟩
            (try dsimp only at hS)
            refine wpT_take 0 (v := ?_) rfl (by kernel_rfl) (by kernel_rfl) (fun _ _ _ h => h) hS (Or.inl ⟨rfl, ?_⟩) ?_
            rotate_left
            · (intro w' hSw; (try dsimp only at hSw); go_simp; first | done | with_reducible rfl)
            (try simp only [Act.put, List.setIfInBounds_toArray, List.set_cons_zero, List.set_cons_succ])
            refine wpT_take 1 (v := ?_) rfl (by kernel_rfl) (by kernel_rfl) (fun _ _ _ h => h) hS (Or.inl ⟨rfl, ?_⟩) ?_
            rotate_left
            · (intro w' hSw; (try dsimp only at hSw); go_simp; first | done | with_reducible rfl)
            (try simp only [Act.put, List.setIfInBounds_toArray, List.set_cons_zero, List.set_cons_succ])
            refine wpT_take 2 (v := ?_) rfl (by kernel_rfl) (by kernel_rfl) (fun _ _ _ h => h) hS (Or.inl ⟨rfl, ?_⟩) ?_
            rotate_left
            · (intro w' hSw; (try dsimp only at hSw); go_simp; first | done | with_reducible rfl)
            (try simp only [Act.put, List.setIfInBounds_toArray, List.set_cons_zero, List.set_cons_succ])
            refine wpT_take 3 (v := ?_) rfl (by kernel_rfl) (by kernel_rfl) (fun _ _ _ h => h) hS (Or.inl ⟨rfl, ?_⟩) ?_
            rotate_left
            · (intro w' hSw; (try dsimp only at hSw); go_simp; first | done | with_reducible rfl)
            (try simp only [Act.put, List.setIfInBounds_toArray, List.set_cons_zero, List.set_cons_succ])
            refine wpT_take 4 (v := ?_) rfl (by kernel_rfl) (by kernel_rfl) (fun _ _ _ h => h) hS (Or.inl ⟨rfl, ?_⟩) ?_
            rotate_left
            · (intro w' hSw; (try dsimp only at hSw); go_simp; first | done | with_reducible rfl)
            (try simp only [Act.put, List.setIfInBounds_toArray, List.set_cons_zero, List.set_cons_succ])
            refine wpT_take 5 (v := ?_) rfl (by kernel_rfl) (by kernel_rfl) (fun _ _ _ h => h) hS (Or.inl ⟨rfl, ?_⟩) ?_
            rotate_left
            · (intro w' hSw; (try dsimp only at hSw); go_simp; first | done | with_reducible rfl)
            (try simp only [Act.put, List.setIfInBounds_toArray, List.set_cons_zero, List.set_cons_succ])
            refine wpT_take 6 (v := ?_) rfl (by kernel_rfl) (by kernel_rfl) (fun _ _ _ h => h) hS (Or.inl ⟨rfl, ?_⟩) ?_
            rotate_left
            · (intro w' hSw; (try dsimp only at hSw); go_simp; first | done | with_reducible rfl)
            (try simp only [Act.put, List.setIfInBounds_toArray, List.set_cons_zero, List.set_cons_succ])
            refine wpT_take 7 (v := ?_) rfl (by kernel_rfl) (by kernel_rfl) (fun _ _ _ h => h) hS (Or.inl ⟨rfl, ?_⟩) ?_
            rotate_left
            · (intro w' hSw; (try dsimp only at hSw); go_simp; first | done | with_reducible rfl)
            (try simp only [Act.put, List.setIfInBounds_toArray, List.set_cons_zero, List.set_cons_succ])
            refine wpT_tail (by rfl) (by kernel_rfl) ?_
            (try simp only [List.drop_succ_cons, List.drop_zero])
            go_wp2
            go_roundw
            case rel => exact ⟨t + 1, by omega, by go_num, hkp.drew, by rw [HP1.out]; exact hO⟩
            case measure => simp [intOf]; omega
          · have hb : s[t].toNat = 46 := by rw [HA.out t hts]; exact hv
            have HP1 := Lib.hid (pS_set t hlt hm)
            rw [hv] at HP1
            clear hv
            have hm3 : (t : Int) % 4 < 3 := by omega
            have hm4 : ¬ (t : Int) % 4 = 3 := by omega
            have hi0 : 0 ≤ (2 - (t : Int) / 4) * 3 + (t : Int) % 4 := by omega
            have hi1 : (2 - (t : Int) / 4) * 3 + (t : Int) % 4 < 9 := by omega
            have hi2 : ((2 - (t : Int) / 4) * 3 + (t : Int) % 4).toNat = (2 - t / 4) * 3 + t % 4 := by omega
            have hi3 : (2 - t / 4) * 3 + t % 4 < 9 := by omega
            have hcl := hO.cell (k := (2 - t / 4) * 3 + t % 4) (by simpa [pS] using hi3)
            have hfr := hO.frozen ((2 - t / 4) * 3 + t % 4)
            have HO := Lib.hid hO
            clear hO
            go_wp2
            refine wp_region_T 8 (fun w' => w'.cell? ⟨q, 1, none⟩ = some (.int .i64 3) ∧ w' = wr.drew) (by kernel_rfl) ?_ (fun hS => ?_)
            · (try dsimp only)
              exact ⟨d1, rfl⟩
            (try dsimp only at hS)
            refine wpT_take 0 (v := ?_) rfl (by kernel_rfl) (by kernel_rfl) (fun _ _ _ h => h) hS (Or.inl ⟨rfl, ?_⟩) ?_
            rotate_left
            · (intro w' hSw; (try dsimp only at hSw); go_simp; first | done | with_reducible rfl)
            (try simp only [Act.put, List.setIfInBounds_toArray, List.set_cons_zero, List.set_cons_succ])
            refine wpT_take 1 (v := ?_) rfl (by kernel_rfl) (by kernel_rfl) (fun _ _ _ h => h) hS (Or.inl ⟨rfl, ?_⟩) ?_
            rotate_left
            · (intro w' hSw; (try dsimp only at hSw); go_simp; first | done | with_reducible rfl)
            (try simp only [Act.put, List.setIfInBounds_toArray, List.set_cons_zero, List.set_cons_succ])
            refine wpT_take 2 (v := ?_) rfl (by kernel_rfl) (by kernel_rfl) (fun _ _ _ h => h) hS (Or.inl ⟨rfl, ?_⟩) ?_
            rotate_left
            · (intro w' hSw; (try dsimp only at hSw); go_simp; first | done | with_reducible rfl)
            (try simp only [Act.put, List.setIfInBounds_toArray, List.set_cons_zero, List.set_cons_succ])
            refine wpT_take 3 (v := ?_) rfl (by kernel_rfl) (by kernel_rfl) (fun _ _ _ h => h) hS (Or.inl ⟨rfl, ?_⟩) ?_
            rotate_left
            · (intro w' hSw; (try dsimp only at hSw); go_simp; first | done | with_reducible rfl)
            (try simp only [Act.put, List.setIfInBounds_toArray, List.set_cons_zero, List.set_cons_succ])
            refine wpT_take 4 (v := ?_) rfl (by kernel_rfl) (by kernel_rfl) (fun _ _ _ h => h) hS (Or.inl ⟨rfl, ?_⟩) ?_
            rotate_left
            · (intro w' hSw; (try dsimp only at hSw); go_simp; first | done | with_reducible rfl)
            (try simp only [Act.put, List.setIfInBounds_toArray, List.set_cons_zero, List.set_cons_succ])
            refine wpT_take 5 (v := ?_) rfl (by kernel_rfl) (by kernel_rfl) (fun _ _ _ h => h) hS (Or.inl ⟨rfl, ?_⟩) ?_
            rotate_left
            · (intro w' hSw; (try dsimp only at hSw); go_simp; first | done | with_reducible rfl)
            (try simp only [Act.put, List.setIfInBounds_toArray, List.set_cons_zero, List.set_cons_succ])
            refine wpT_take 6 (v := ?_) rfl (by kernel_rfl) (by kernel_rfl) (fun _ _ _ h => h) hS (Or.inl ⟨rfl, ?_⟩) ?_
            rotate_left
            · (intro w' hSw; (try dsimp only at hSw); go_simp; first | done | with_reducible rfl)
            (try simp only [Act.put, List.setIfInBounds_toArray, List.set_cons_zero, List.set_cons_succ])
            refine wpT_take 7 (v := ?_) rfl (by kernel_rfl) (by kernel_rfl) (fun _ _ _ h => h) hS (Or.inl ⟨rfl, ?_⟩) ?_
            rotate_left
            · (intro w' hSw; (try dsimp only at hSw); go_simp; first | done | with_reducible rfl)
            (try simp only [Act.put, List.setIfInBounds_toArray, List.set_cons_zero, List.set_cons_succ])
            refine wpT_tail (by rfl) (by kernel_rfl) ?_
            (try simp only [List.drop_succ_cons, List.drop_zero])
            go_wp2
            refine wp_region_T 11 (fun w' => w'.cell? ⟨q, 2, none⟩ = some (.slice (some ⟨g, 0, none⟩) 9 9) ∧ w' = wr.drew.drew) (by kernel_rfl) ?_ (fun hS => ?_)
            · (try dsimp only)
              exact ⟨d2, rfl⟩
            (try dsimp only at hS)
            refine wpT_take 0 (v := ?_) rfl (by kernel_rfl) (by kernel_rfl) (fun _ _ _ h => h) hS (Or.inl ⟨rfl, ?_⟩) ?_
            rotate_left
            · (intro w' hSw; (try dsimp only at hSw); go_simp; first | done | with_reducible rfl)
            (try simp only [Act.put, List.setIfInBounds_toArray, List.set_cons_zero, List.set_cons_succ])
            refine wpT_take 1 (v := ?_) rfl (by kernel_rfl) (by kernel_rfl) (fun _ _ _ h => h) hS (Or.inl ⟨rfl, ?_⟩) ?_
            rotate_left
            · (intro w' hSw; (try dsimp only at hSw); go_simp; first | done | with_reducible rfl)
            (try simp only [Act.put, List.setIfInBounds_toArray, List.set_cons_zero, List.set_cons_succ])
            refine wpT_take 2 (v := ?_) rfl (by kernel_rfl) (by kernel_rfl) (fun _ _ _ h => h) hS (Or.inl ⟨rfl, ?_⟩) ?_
            rotate_left
            · (intro w' hSw; (try dsimp only at hSw); go_simp; first | done | with_reducible rfl)
            (try simp only [Act.put, List.setIfInBounds_toArray, List.set_cons_zero, List.set_cons_succ])
            refine wpT_take 3 (v := ?_) rfl (by kernel_rfl) (by kernel_rfl) (fun _ _ _ h => h) hS (Or.inl ⟨rfl, ?_⟩) ?_
            rotate_left
            · (intro w' hSw; (try dsimp only at hSw); go_simp; first | done | with_reducible rfl)
            (try simp only [Act.put, List.setIfInBounds_toArray, List.set_cons_zero, List.set_cons_succ])
            refine wpT_take 4 (v := ?_) rfl (by kernel_rfl) (by kernel_rfl) (fun _ _ _ h => h) hS (Or.inl ⟨rfl, ?_⟩) ?_
            rotate_left
            · (intro w' hSw; (try dsimp only at hSw); go_simp; first | done | with_reducible rfl)
            (try simp only [Act.put, List.setIfInBounds_toArray, List.set_cons_zero, List.set_cons_succ])
            refine wpT_take 5 (v := ?_) rfl (by kernel_rfl) (by kernel_rfl) (fun _ _ _ h => h) hS (Or.inl ⟨rfl, ?_⟩) ?_
            rotate_left
            · (intro w' hSw; (try dsimp only at hSw); go_simp; first | done | with_reducible rfl)
            (try simp only [Act.put, List.setIfInBounds_toArray, List.set_cons_zero, List.set_cons_succ])
            refine wpT_take 6 (v := ?_) rfl (by kernel_rfl) (by kernel_rfl) (fun _ _ _ h => h) hS (Or.inl ⟨rfl, ?_⟩) ?_
            rotate_left
            · (intro w' hSw; (try dsimp only at hSw); go_simp; first | done | with_reducible rfl)
            (try simp only [Act.put, List.setIfInBounds_toArray, List.set_cons_zero, List.set_cons_succ])
            refine wpT_take 7 (v := ?_) rfl (by kernel_rfl) (by kernel_rfl) (fun _ _ _ h => h) hS (Or.inl ⟨rfl, ?_⟩) ?_
            rotate_left
            · (intro w' hSw; (try dsimp only at hSw); go_simp; first | done | with_reducible rfl)
            (try simp only [Act.put, List.setIfInBounds_toArray, List.set_cons_zero, List.set_cons_succ])
            refine wpT_take 8 (v := ?_) rfl (by kernel_rfl) (by kernel_rfl) (fun _ _ _ h => h) hS (Or.inl ⟨rfl, ?_⟩) ?_
            rotate_left
            · (intro w' hSw; (try dsimp only at hSw); go_simp; first | done | with_reducible rfl)
            (try simp only [Act.put, List.setIfInBounds_toArray, List.set_cons_zero, List.set_cons_succ])
            refine wpT_take 9 (v := ?_) rfl (by kernel_rfl) (by kernel_rfl) (fun _ _ _ h => h) hS (Or.inl ⟨rfl, ?_⟩) ?_
            rotate_left
            · (intro w' hSw; (try dsimp only at hSw); go_simp; first | done | with_reducible rfl)
            (try simp only [Act.put, List.setIfInBounds_toArray, List.set_cons_zero, List.set_cons_succ])
            refine wpT_take 10 (v := ?_) rfl (by kernel_rfl) (by kernel_rfl) (fun _ _ _ h => h) hS (Or.inl ⟨rfl, ?_⟩) ?_
            rotate_left
            · (intro w' hSw; (try dsimp only at hSw); go_simp; first | done | with_reducible rfl)
            (try simp only [Act.put, List.setIfInBounds_toArray, List.set_cons_zero, List.set_cons_succ])
            refine wpT_tail (by rfl) (by kernel_rfl) ?_
            (try simp only [List.drop_succ_cons, List.drop_zero])
            go_wp2
            go_roundw
            case rel =>
              refine ⟨t + 1, by omega, by go_num, hkp.drew.drew.set (.inl (by simp)) _ _, ?_⟩
              rw [← HP1.out]
              exact HO.out.drew.drew.set_ _ _
            case measure => simp [intOf]; omega
          · have hb : s[t].toNat = 35 := by rw [HA.out t hts]; exact hv
            have HP1 := Lib.hid (pS_set t hlt hm)
            rw [hv] at HP1
            clear hv
            have hm3 : (t : Int) % 4 < 3 := by omega
            have hm4 : ¬ (t : Int) % 4 = 3 := by omega
            have hi0 : 0 ≤ (2 - (t : Int) / 4) * 3 + (t : Int) % 4 := by omega
            have hi1 : (2 - (t : Int) / 4) * 3 + (t : Int) % 4 < 9 := by omega
            have hi2 : ((2 - (t : Int) / 4) * 3 + (t : Int) % 4).toNat = (2 - t / 4) * 3 + t % 4 := by omega
            have hi3 : (2 - t / 4) * 3 + t % 4 < 9 := by omega
            have hcl := hO.cell (k := (2 - t / 4) * 3 + t % 4) (by simpa [pS] using hi3)
            have hfr := hO.frozen ((2 - t / 4) * 3 + t % 4)
            have HO := Lib.hid hO
            clear hO
            go_wp2
            refine wp_region_T 8 (fun w' => w'.cell? ⟨q, 1, none⟩ = some (.int .i64 3) ∧ w' = wr.drew) (by kernel_rfl) ?_ (fun hS => ?_)
            · (try dsimp only)
              exact ⟨d1, rfl⟩
            (try dsimp only at hS)
            refine wpT_take 0 (v := ?_) rfl (by kernel_rfl) (by kernel_rfl) (fun _ _ _ h => h) hS (Or.inl ⟨rfl, ?_⟩) ?_
            rotate_left
            · (intro w' hSw; (try dsimp only at hSw); go_simp; first | done | with_reducible rfl)
            (try simp only [Act.put, List.setIfInBounds_toArray, List.set_cons_zero, List.set_cons_succ])
            refine wpT_take 1 (v := ?_) rfl (by kernel_rfl) (by kernel_rfl) (fun _ _ _ h => h) hS (Or.inl ⟨rfl, ?_⟩) ?_
            rotate_left
            · (intro w' hSw; (try dsimp only at hSw); go_simp; first | done | with_reducible rfl)
            (try simp only [Act.put, List.setIfInBounds_toArray, List.set_cons_zero, List.set_cons_succ])
            refine wpT_take 2 (v := ?_) rfl (by kernel_rfl) (by kernel_rfl) (fun _ _ _ h => h) hS (Or.inl ⟨rfl, ?_⟩) ?_
            rotate_left
            · (intro w' hSw; (try dsimp only at hSw); go_simp; first | done | with_reducible rfl)
            (try simp only [Act.put, List.setIfInBounds_toArray, List.set_cons_zero, List.set_cons_succ])
            refine wpT_take 3 (v := ?_) rfl (by kernel_rfl) (by kernel_rfl) (fun _ _ _ h => h) hS (Or.inl ⟨rfl, ?_⟩) ?_
            rotate_left
            · (intro w' hSw; (try dsimp only at hSw); go_simp; first | done | with_reducible rfl)
            (try simp only [Act.put, List.setIfInBounds_toArray, List.set_cons_zero, List.set_cons_succ])
            refine wpT_take 4 (v := ?_) rfl (by kernel_rfl) (by kernel_rfl) (fun _ _ _ h => h) hS (Or.inl ⟨rfl, ?_⟩) ?_
            rotate_left
            · (intro w' hSw; (try dsimp only at hSw); go_simp; first | done | with_reducible rfl)
            (try simp only [Act.put, List.setIfInBounds_toArray, List.set_cons_zero, List.set_cons_succ])
            refine wpT_take 5 (v := ?_) rfl (by kernel_rfl) (by kernel_rfl) (fun _ _ _ h => h) hS (Or.inl ⟨rfl, ?_⟩) ?_
            rotate_left
            · (intro w' hSw; (try dsimp only at hSw); go_simp; first | done | with_reducible rfl)
            (try simp only [Act.put, List.setIfInBounds_toArray, List.set_cons_zero, List.set_cons_succ])
            refine wpT_take 6 (v := ?_) rfl (by kernel_rfl) (by kernel_rfl) (fun _ _ _ h => h) hS (Or.inl ⟨rfl, ?_⟩) ?_
            rotate_left
            · (intro w' hSw; (try dsimp only at hSw); go_simp; first | done | with_reducible rfl)
            (try simp only [Act.put, List.setIfInBounds_toArray, List.set_cons_zero, List.set_cons_succ])
            refine wpT_take 7 (v := ?_) rfl (by kernel_rfl) (by kernel_rfl) (fun _ _ _ h => h) hS (Or.inl ⟨rfl, ?_⟩) ?_
            rotate_left
            · (intro w' hSw; (try dsimp only at hSw); go_simp; first | done | with_reducible rfl)
            (try simp only [Act.put, List.setIfInBounds_toArray, List.set_cons_zero, List.set_cons_succ])
            refine wpT_tail (by rfl) (by kernel_rfl) ?_
            (try simp only [List.drop_succ_cons, List.drop_zero])
            go_wp2
            refine wp_region_T 11 (fun w' => w'.cell? ⟨q, 2, none⟩ = some (.slice (some ⟨g, 0, none⟩) 9 9) ∧ w' = wr.drew.drew) (by kernel_rfl) ?_ (fun hS => ?_)
            · (try dsimp only)
              exact ⟨d2, rfl⟩
            (try dsimp only at hS)
            refine wpT_take 0 (v := ?_) rfl (by kernel_rfl) (by kernel_rfl) (fun _ _ _ h => h) hS (Or.inl ⟨rfl, ?_⟩) ?_
            rotate_left
            · (intro w' hSw; (try dsimp only at hSw); go_simp; first | done | with_reducible rfl)
            (try simp only [Act.put, List.setIfInBounds_toArray, List.set_cons_zero, List.set_cons_succ])
            refine wpT_take 1 (v := ?_) rfl (by kernel_rfl) (by kernel_rfl) (fun _ _ _ h => h) hS (Or.inl ⟨rfl, ?_⟩) ?_
            rotate_left
            · (intro w' hSw; (try dsimp only at hSw); go_simp; first | done | with_reducible rfl)
            (try simp only [Act.put, List.setIfInBounds_toArray, List.set_cons_zero, List.set_cons_succ])
            refine wpT_take 2 (v := ?_) rfl (by kernel_rfl) (by kernel_rfl) (fun _ _ _ h => h) hS (Or.inl ⟨rfl, ?_⟩) ?_
            rotate_left
            · (intro w' hSw; (try dsimp only at hSw); go_simp; first | done | with_reducible rfl)
            (try simp only [Act.put, List.setIfInBounds_toArray, List.set_cons_zero, List.set_cons_succ])
            refine wpT_take 3 (v := ?_) rfl (by kernel_rfl) (by kernel_rfl) (fun _ _ _ h => h) hS (Or.inl ⟨rfl, ?_⟩) ?_
            rotate_left
            · (intro w' hSw; (try dsimp only at hSw); go_simp; first | done | with_reducible rfl)
            (try simp only [Act.put, List.setIfInBounds_toArray, List.set_cons_zero, List.set_cons_succ])
            refine wpT_take 4 (v := ?_) rfl (by kernel_rfl) (by kernel_rfl) (fun _ _ _ h => h) hS (Or.inl ⟨rfl, ?_⟩) ?_
            rotate_left
            · (intro w' hSw; (try dsimp only at hSw); go_simp; first | done | with_reducible rfl)
            (try simp only [Act.put, List.setIfInBounds_toArray, List.set_cons_zero, List.set_cons_succ])
            refine wpT_take 5 (v := ?_) rfl (by kernel_rfl) (by kernel_rfl) (fun _ _ _ h => h) hS (Or.inl ⟨rfl, ?_⟩) ?_
            rotate_left
            · (intro w' hSw; (try dsimp only at hSw); go_simp; first | done | with_reducible rfl)
            (try simp only [Act.put, List.setIfInBounds_toArray, List.set_cons_zero, List.set_cons_succ])
            refine wpT_take 6 (v := ?_) rfl (by kernel_rfl) (by kernel_rfl) (fun _ _ _ h => h) hS (Or.inl ⟨rfl, ?_⟩) ?_
            rotate_left
            · (intro w' hSw; (try dsimp only at hSw); go_simp; first | done | with_reducible rfl)
            (try simp only [Act.put, List.setIfInBounds_toArray, List.set_cons_zero, List.set_cons_succ])
            refine wpT_take 7 (v := ?_) rfl (by kernel_rfl) (by kernel_rfl) (fun _ _ _ h => h) hS (Or.inl ⟨rfl, ?_⟩) ?_
            rotate_left
            · (intro w' hSw; (try dsimp only at hSw); go_simp; first | done | with_reducible rfl)
            (try simp only [Act.put, List.setIfInBounds_toArray, List.set_cons_zero, List.set_cons_succ])
            refine wpT_take 8 (v := ?_) rfl (by kernel_rfl) (by kernel_rfl) (fun _ _ _ h => h) hS (Or.inl ⟨rfl, ?_⟩) ?_
            rotate_left
            · (intro w' hSw; (try dsimp only at hSw); go_simp; first | done | with_reducible rfl)
            (try simp only [Act.put, List.setIfInBounds_toArray, List.set_cons_zero, List.set_cons_succ])
            refine wpT_take 9 (v := ?_) rfl (by kernel_rfl) (by kernel_rfl) (fun _ _ _ h => h) hS (Or.inl ⟨rfl, ?_⟩) ?_
            rotate_left
            · (intro w' hSw; (try dsimp only at hSw); go_simp; first | done | with_reducible rfl)
            (try simp only [Act.put, List.setIfInBounds_toArray, List.set_cons_zero, List.set_cons_succ])
            refine wpT_take 10 (v := ?_) rfl (by kernel_rfl) (by kernel_rfl) (fun _ _ _ h => h) hS (Or.inl ⟨rfl, ?_⟩) ?_
            rotate_left
            · (intro w' hSw; (try dsimp only at hSw); go_simp; first | done | with_reducible rfl)
            (try simp only [Act.put, List.setIfInBounds_toArray, List.set_cons_zero, List.set_cons_succ])
            refine wpT_tail (by rfl) (by kernel_rfl) ?_
            (try simp only [List.drop_succ_cons, List.drop_zero])
            go_wp2
            go_roundw
            case rel =>
              refine ⟨t + 1, by omega, by go_num, hkp.drew.drew.set (.inl (by simp)) _ _, ?_⟩
              rw [← HP1.out]
              exact HO.out.drew.drew.set_ _ _
            case measure => simp [intOf]; omega
        · have hte : t = 12 := by omega
          subst hte
          obtain ⟨⟨r0, r1, r2⟩, f0, f1, f2⟩ := (hkp.blk hB (ni1 hpg)).three
          go_wp2
          refine bodyPost_ret (v := .tuple #[.agg #[.int .i64 3, .int .i64 3, .slice (some ⟨g, 0, none⟩) 9 9], .bool true]) (by simp [results, Try.results64, go_sem, r0, r1, r2]) rfl ?_
          rw [HP.out]
          have hkz := hkp.size
          refine ⟨g, rfl, by omega, ?_, below_set (below_set (below_set (hbw.trans (hkp.to_below (by omega) (by simp; omega))) (by omega) _) (by omega) _) (by omega) _⟩
          exact (((show Own Value.bool 4 _ g D0 from hO).far (p := ⟨p, 0, none⟩) hpg.symm _).far (p := ⟨p, 1, none⟩) hpg.symm _).far (p := ⟨p, 2, none⟩) hpg.symm _
end Go.Proofs.Ytlanefdeeanpnaa
