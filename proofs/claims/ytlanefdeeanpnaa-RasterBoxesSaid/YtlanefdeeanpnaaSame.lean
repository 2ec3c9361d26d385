/-
  Contracts of Same (reference and program), slices.Equal and slices.Clone at []bool. Conditions: the bitmaps' dots are read below the heap's size; lengths fit an int.
-/
import Derived.Test.YtlanefdeeanpnaaGet
import Derived.Deep.QuietTactic
import Derived.BigQuiet
namespace Go.Proofs.Ytlanefdeeanpnaa
set_option linter.unusedVariables false
set_option linter.unusedSimpArgs false
open Go.RowKit

def sameB (W H : Int) (D : List Bool) (W' H' : Int) (D' : List Bool) : Bool := decide (W = W') && decide (H = H') && decide (D = D')

theorem take_step {D E : List Bool} {k : Nat} (h : D.take k = E.take k) (h1 : k < D.length) (h2 : k < E.length) (e : D[k] = E[k]) : D.take (k + 1) = E.take (k + 1) := by
  rw [List.take_succ_eq_append_getElem h1, List.take_succ_eq_append_getElem h2, h, e]
theorem ne_at {D E : List Bool} {k : Nat} (h1 : k < D.length) (h2 : k < E.length) (e : D[k] ≠ E[k]) : D ≠ E := fun h => e (by subst h; rfl)

set_option maxHeartbeats 400000 in
theorem ref04_Same (W H : Int) (A : Option Addr) (c : Nat) (D : List Bool) (W' H' : Int) (A' : Option Addr) (c' : Nat) (D' : List Bool) (w : World) (hn : D.length ≤ 9223372036854775807) (hn' : D'.length ≤ 9223372036854775807)
    (hr : Rd Value.bool w w.heap.size A D) (hr' : Rd Value.bool w w.heap.size A' D') :
    Calls Try.prog 27 #[.agg #[.int .i64 W, .int .i64 H, .slice A D.length c], .agg #[.int .i64 W', .int .i64 H', .slice A' D'.length c']] w fun e w' => e = .returned (.bool (sameB W H D W' H' D')) ∧ Below w.heap.size w w' := by
  by_cases hW : W = W'
  · subst hW
    by_cases hH : H = H'
    · subst hH
      by_cases hL : D'.length = D.length
      · rw [hL]
        have HL := Lib.hid hL
        clear hL hn'
        go_enter Try.func27, Try.ntmps27
        go_wp2
        go_loopw [5] (fun i wr => ∃ k : Nat, k ≤ D.length ∧ i = .int .i64 k ∧ D.take k = D'.take k ∧ ∃ nq, wr = ((w.alloc (.cells #[.int .i64 W, .int .i64 H, .slice A D.length c] 29)).alloc (.cells #[.int .i64 W, .int .i64 H, .slice A' D.length c'] 29)).drewN nq) (fun i _ => D.length - (intOf i).toNat)
        case atStart => exact ⟨0, Nat.zero_le _, rfl, by simp, 0, rfl⟩
        case round =>
          obtain ⟨k, hk, rfl, ht, nq, rfl⟩ := hrel
          by_cases hlt : k < D.length
          · obtain ⟨b, o, rfl, hb, hc⟩ := hr.at_ hlt
            have hlt' : k < D'.length := by rw [HL.out]; exact hlt
            obtain ⟨b', o', rfl, hb', hc'⟩ := hr'.at_ hlt'
            have hcell := hc k hlt
            have hcell' := hc' k hlt'
            have hstep := Lib.hid (take_step ht hlt hlt')
            have hne := Lib.hid (@ne_at D D' k hlt hlt')
            clear hc hc' hr hr' ht
            generalize D[k] = u at hcell hstep hne
            generalize D'[k] = u' at hcell' hstep hne
            clear hlt'
            have hk0 : (0 : Int) ≤ (k : Int) := by omega
            have hk1 : (k : Int) < (D.length : Int) := by omega
            go_wp2
            go_quiet (fail)
            go_wp2
            · have hd : u ≠ u' := by rename_i h; simpa using h
              go_ret
              exact ⟨ret_bool (by simp [sameB, hne.out hd]), below_drewN (below_drewN (((Below.refl _ _).alloc (Nat.le_refl _) _).alloc (by simp) _) _) _⟩
            · have hd : u = u' := by rename_i h; simpa using h
              go_roundw
              case rel => exact ⟨k + 1, by omega, by go_num, hstep.out hd, _, rfl⟩
              case measure => simp [intOf]; omega
          · go_wp2
            go_ret
            have hk' : k = D.length := by omega
            subst hk'
            refine ⟨ret_bool ?_, below_drewN (((Below.refl _ _).alloc (Nat.le_refl _) _).alloc (by simp) _) _⟩
            rw [List.take_length, ← HL.out, List.take_length] at ht
            simp [sameB, ht]
      · have hg := Lib.hid (show sameB W H D W H D' = false by simp only [sameB, decide_true, Bool.true_and, decide_eq_false_iff_not]; intro h; exact hL (by rw [h]))
        have hL' : ((D.length : Int) != (D'.length : Int)) = true := by simp; omega
        clear hL
        go_enter Try.func27, Try.ntmps27
        go_wp2
        go_ret
        exact ⟨ret_bool hg.out.symm, ((Below.refl _ _).alloc (Nat.le_refl _) _).alloc (by simp) _⟩
    · have hg := Lib.hid (show sameB W H D W H' D' = false by simp [sameB, hH])
      have hH' : (H != H') = true := by simp [hH]
      clear hH
      go_enter Try.func27, Try.ntmps27
      go_wp2
      go_ret
      exact ⟨ret_bool hg.out.symm, ((Below.refl _ _).alloc (Nat.le_refl _) _).alloc (by simp) _⟩
  · have hg := Lib.hid (show sameB W H D W' H' D' = false by simp [sameB, hW])
    have hW' : (W != W') = true := by simp [hW]
    clear hW
    go_enter Try.func27, Try.ntmps27
    go_wp2
    go_ret
    exact ⟨ret_bool hg.out.symm, ((Below.refl _ _).alloc (Nat.le_refl _) _).alloc (by simp) _⟩


set_option maxHeartbeats 400000 in
theorem slices_Equal (A : Option Addr) (c : Nat) (D : List Bool) (A' : Option Addr) (c' : Nat) (D' : List Bool) (w : World) (hn : D.length ≤ 9223372036854775807) (hn' : D'.length ≤ 9223372036854775807)
    (hr : Rd Value.bool w w.heap.size A D) (hr' : Rd Value.bool w w.heap.size A' D') :
    Calls Try.prog 75 #[.slice A D.length c, .slice A' D'.length c'] w fun e w' => e = .returned (.bool (decide (D = D'))) ∧ Below w.heap.size w w' := by
  by_cases hL : D'.length = D.length
  · rw [hL]
    have HL := Lib.hid hL
    clear hL hn'
    go_enter Try.func75, Try.ntmps75
    go_wp2
    go_loopw [5, 13] (fun j i wr => ∃ k : Nat, k ≤ D.length ∧ i = .int .i64 k ∧ D.take k = D'.take k ∧ ∃ nq, wr = w.drewN nq) (fun _ i _ => D.length - (intOf i).toNat)
    case atStart => exact ⟨0, Nat.zero_le _, rfl, by simp, 0, rfl⟩
    case round =>
      obtain ⟨k, hk, rfl, ht, nq, rfl⟩ := hrel
      by_cases hlt : k < D.length
      · obtain ⟨b, o, rfl, hb, hc⟩ := hr.at_ hlt
        have hlt' : k < D'.length := by rw [HL.out]; exact hlt
        obtain ⟨b', o', rfl, hb', hc'⟩ := hr'.at_ hlt'
        have hcell := hc k hlt
        have hcell' := hc' k hlt'
        have hstep := Lib.hid (take_step ht hlt hlt')
        have hne := Lib.hid (@ne_at D D' k hlt hlt')
        clear hc hc' hr hr' ht
        generalize D[k] = u at hcell hstep hne
        generalize D'[k] = u' at hcell' hstep hne
        clear hlt'
        have hk0 : (0 : Int) ≤ (k : Int) := by omega
        have hk1 : (k : Int) < (D.length : Int) := by omega
        go_wp2
        go_quiet (fail)
        go_wp2
        · have hd : u ≠ u' := by rename_i h; simpa using h
          go_ret
          exact ⟨ret_bool (by simp [hne.out hd]), below_drewN (below_drewN (Below.refl _ _) _) _⟩
        · have hd : u = u' := by rename_i h; simpa using h
          go_roundw
          case rel => exact ⟨k + 1, by omega, by go_num, hstep.out hd, _, rfl⟩
          case measure => simp [intOf]; omega
      · go_wp2
        go_ret
        have hk' : k = D.length := by omega
        subst hk'
        refine ⟨ret_bool ?_, below_drewN (Below.refl _ _) _⟩
        rw [List.take_length, ← HL.out, List.take_length] at ht
        simp [ht]
  · have hg := Lib.hid (show decide (D = D') = false by simp only [decide_eq_false_iff_not]; intro h; exact hL (by rw [h]))
    have hL' : ((D.length : Int) != (D'.length : Int)) = true := by simp; omega
    clear hL
    go_enter Try.func75, Try.ntmps75
    go_wp2
    go_ret
    exact ⟨ret_bool hg.out.symm, Below.refl _ _⟩

theorem bitmap_Same (W H : Int) (A : Option Addr) (c : Nat) (D : List Bool) (W' H' : Int) (A' : Option Addr) (c' : Nat) (D' : List Bool) (w : World) (hn : D.length ≤ 9223372036854775807) (hn' : D'.length ≤ 9223372036854775807)
    (hr : Rd Value.bool w w.heap.size A D) (hr' : Rd Value.bool w w.heap.size A' D') :
    Calls Try.prog 35 #[.agg #[.int .i64 W, .int .i64 H, .slice A D.length c], .agg #[.int .i64 W', .int .i64 H', .slice A' D'.length c']] w fun e w' => e = .returned (.bool (sameB W H D W' H' D')) ∧ Below w.heap.size w w' := by
  have Hr := Lib.hid hr
  have Hr' := Lib.hid hr'
  clear hr hr'
  by_cases hW : W = W'
  · by_cases hH : H = H'
    · have hg := Lib.hid (show sameB W H D W' H' D' = decide (D = D') by simp [sameB, hW, hH])
      have hW' : (W == W') = true := by simp [hW]
      have hH' : (H == H') = true := by simp [hH]
      clear hW hH
      go_enter Try.func35, Try.ntmps35
      go_wp2_with (go_at_call 75; refine (slices_Equal _ _ _ _ _ _ _ hn hn' (((Hr.out.alloc (Nat.le_refl _) _).alloc (by simp) _).more (by simp; omega)) (((Hr'.out.alloc (Nat.le_refl _) _).alloc (by simp) _).more (by simp; omega))).mono ?_; rintro e w2 ⟨rfl, hb2⟩)
      go_ret
      exact ⟨ret_bool hg.out.symm, (((Below.refl _ _).alloc (Nat.le_refl _) _).alloc (by simp) _).trans (hb2.mono (by simp; omega))⟩
    · have hg := Lib.hid (show sameB W H D W' H' D' = false by simp [sameB, hH])
      have hW' : (W == W') = true := by simp [hW]
      have hH' : (H == H') = false := by simp [hH]
      clear hW hH
      go_enter Try.func35, Try.ntmps35
      go_wp2
      go_ret
      exact ⟨ret_bool hg.out.symm, (((Below.refl _ _).alloc (Nat.le_refl _) _).alloc (by simp) _)⟩
  · have hg := Lib.hid (show sameB W H D W' H' D' = false by simp [sameB, hW])
    have hW' : (W == W') = false := by simp [hW]
    clear hW
    go_enter Try.func35, Try.ntmps35
    go_wp2
    go_ret
    exact ⟨ret_bool hg.out.symm, (((Below.refl _ _).alloc (Nat.le_refl _) _).alloc (by simp) _)⟩

end Go.Proofs.Ytlanefdeeanpnaa
