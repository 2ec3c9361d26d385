/-
  Contracts of Mod and of Draw's Next. Conditions: the divisor is from 1 to 2^62; the list is read, and the pointer is to a Draw of it.
-/
import Derived.Test.YtlanefdeeanpnaaBase
import Derived.BigQuiet
namespace Go.Proofs.Ytlanefdeeanpnaa
set_option linter.unusedVariables false
set_option linter.unusedSimpArgs false
open Go.RowKit

theorem mod_val (n m : Int) (h : 0 < m) (h2 : m ≤ 4611686018427387904) : (wrap64 (n.tmod m + m)).tmod m = n % m := by
  have h3 := Int.lt_tmod_of_pos n h
  have h4 := Int.tmod_lt_of_pos n h
  rw [w64 (by omega) (by omega), Int.tmod_eq_emod_of_nonneg (by omega), Int.add_emod_right]
  rcases Int.le_total 0 n with h0 | h0
  · rw [Int.tmod_eq_emod_of_nonneg h0, Int.emod_emod_of_dvd _ (Int.dvd_refl m)]
  · have e : n.tmod m = n - m * (n.tdiv m) := by have := Int.mul_tdiv_add_tmod n m; omega
    rw [e, Int.sub_mul_emod_self_left]

theorem Mod_any (n m : Int) (w : World) (h : 0 < m) (h2 : m ≤ 4611686018427387904) :
    Calls Try.prog 44 #[.int .i64 n, .int .i64 m] w fun e w' => e = .returned (.int .i64 (n % m)) ∧ w = w' := by
  have hv := Lib.hid (mod_val n m h h2)
  go_enter Try.func44, Try.ntmps44
  go_wp2
  go_ret
  exact ⟨ret_int hv.out, rfl⟩

def dN (L : List Int) (k : Nat) (m : Int) : Int := if k < L.length then L.getD k 0 % m else 0
def dAt (L : List Int) (k : Nat) : Nat := if k < L.length then k + 1 else k
theorem dN_range (L : List Int) (k : Nat) {m : Int} (h : 0 < m) : 0 ≤ dN L k m ∧ dN L k m < m := by
  unfold dN
  split
  · exact ⟨Int.emod_nonneg _ (by omega), Int.emod_lt_of_pos _ h⟩
  · omega
theorem dAt_le {L : List Int} {k : Nat} (h : k ≤ L.length) : dAt L k ≤ L.length := by unfold dAt; split <;> omega

theorem Next_any (L : List Int) (A : Option Addr) (c : Nat) (k : Nat) (m : Int) (g : Nat) (w : World) (h : 0 < m) (h2 : m ≤ 4611686018427387904) (hk : k ≤ L.length) (hn : L.length ≤ 9223372036854775807)
    (hr : Rd (Value.int .i64) w g A L) (c0 : w.cell? ⟨g, 0, none⟩ = some (.slice A L.length c)) (c1 : w.cell? ⟨g, 1, none⟩ = some (.int .i64 k)) (f1 : w.frozen? ⟨g, 1, none⟩ = false) :
    Calls Try.prog 72 #[.pointer (some ⟨g, 0, none⟩), .int .i64 m] w fun e w' => e = .returned (.int .i64 (dN L k m)) ∧ ∃ n, w' = (w.setCell ⟨g, 1, none⟩ (.int .i64 (dAt L k))).drewN n := by
  by_cases hlt : k < L.length
  · obtain ⟨b, o, rfl, hb, hc⟩ := hr.at_ hlt
    have hne : b ≠ g := by omega
    have hcell := hc k hlt
    have hv := Lib.hid (show L[k] % m = dN L k m by simp [dN, hlt])
    have ha := Lib.hid (show k + 1 = dAt L k by simp [dAt, hlt])
    clear hc hr
    generalize L[k] = v at hcell hv
    have hk1 : (k : Int) < (L.length : Int) := by omega
    have hk0 : (0 : Int) ≤ (k : Int) := by omega
    go_enter Try.func72, Try.ntmps72
    go_wp2
    go_quiet (fail)
    go_wp2
    generalize hW : (w.drewN nq).setCell ⟨g, 1, none⟩ (.int .i64 ((k : Int) + 1)) = W1
    have e0 : W1.cell? ⟨g, 0, none⟩ = some (.slice (some ⟨b, o, none⟩) L.length c) := by
      rw [← hW, World.cell?_setCell_other _ _ _ _ (by simp)]; exact c0
    have e1 : W1.cell? ⟨g, 1, none⟩ = some (.int .i64 ((k : Int) + 1)) := by
      rw [← hW]; exact World.cell?_setCell_same _ _ _ (u := .int .i64 k) c1
    have e2 : W1.cell? ⟨b, o + k, none⟩ = some (.int .i64 v) := by
      rw [← hW, World.cell?_setCell_other _ _ _ _ (by simp [hne])]; exact hcell
    have HW := Lib.hid hW
    clear hW c0 c1 hcell
    have hsub : IntKind.i64.wrap ((k : Int) + 1 - 1) = (k : Int) := by rw [IntWalk.i64_in _ (by omega)]; omega
    go_quiet ((go_at_call 44; exact quiet_l (Mod_any _ _ _ h h2)))
    go_wp2
    go_ret
    obtain ⟨n1, hn1⟩ : ∃ n1, W1 = (w.setCell ⟨g, 1, none⟩ (.int .i64 (dAt L k))).drewN n1 := ⟨_, by rw [← HW.out, ← ha.out]; rfl⟩
    exact ⟨ret_int hv.out, n1 + nq, by rw [hn1, World.drewN_drewN]⟩
  · have hv := Lib.hid (show 0 = dN L k m by simp [dN, hlt])
    have ha := Lib.hid (show k = dAt L k by simp [dAt, hlt])
    have hs := Lib.hid (setCell_id c1)
    have hk1 : (L.length : Int) ≤ (k : Int) := by omega
    go_enter Try.func72, Try.ntmps72
    go_wp2
    go_quiet (fail)
    go_wp2
    go_ret
    exact ⟨ret_int hv.out, _, by rw [← ha.out, hs.out]⟩

/-- Next, said of the draw's block. -/
theorem Next_blk (L : List Int) (A : Option Addr) (c : Nat) (k : Nat) (m : Int) (g : Nat) (w : World) (h : 0 < m) (h2 : m ≤ 4611686018427387904) (hk : k ≤ L.length) (hn : L.length ≤ 9223372036854775807)
    (hr : Rd (Value.int .i64) w g A L) (hB : Blk w g 111 #[.slice A L.length c, .int .i64 k]) :
    Calls Try.prog 72 #[.pointer (some ⟨g, 0, none⟩), .int .i64 m] w fun e w' => e = .returned (.int .i64 (dN L k m)) ∧ Blk w' g 111 #[.slice A L.length c, .int .i64 (dAt L k)] ∧ Kp [g] w w' ∧ w'.heap.size = w.heap.size :=
  (Next_any L A c k m g w h h2 hk hn hr (hB.cell 0) (hB.cell 1) (hB.frozen 1)).mono fun e w' ⟨he, n, hw⟩ => by
    subst hw
    exact ⟨he, (hB.set_ 1 _).drewN n, ((Kp.refl [g] w).set (.inl (by simp)) _ _).drewN n, by show (w.setCell _ _).heap.size = _; simp [World.setCell]⟩

end Go.Proofs.Ytlanefdeeanpnaa
