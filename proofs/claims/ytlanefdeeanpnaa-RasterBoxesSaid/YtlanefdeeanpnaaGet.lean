/-
  Contracts of Get and has. Conditions: the bitmap's dots are read below the heap's size; lengths fit an int.
-/
import Derived.Test.YtlanefdeeanpnaaL04
namespace Go.Proofs.Ytlanefdeeanpnaa
set_option linter.unusedVariables false
set_option linter.unusedSimpArgs false
open Go.RowKit

/-- A dot of a bitmap, wherever it lies. -/
def hasB (W H : Int) (D : List Bool) (x y : Int) : Bool := decide (0 ≤ x) && decide (x < W) && decide (0 ≤ y) && decide (y < H) && D.getD (y * W + x).toNat false
def getB (W H : Int) (D : List Bool) (x y : Int) : Bool := decide (bmCheck W H D.length = 0) && hasB W H D x y

theorem bmCheck_ok {W H : Int} {n : Nat} (h : bmCheck W H n = 0) : sideB W = true ∧ sideB H = true ∧ (n : Int) = W * H := by
  unfold bmCheck at h
  split at h
  · rename_i h1
    simp only [Bool.and_eq_true] at h1
    split at h
    · exact ⟨h1.1, h1.2, by assumption⟩
    · simp at h
  · simp at h
theorem idx_lt {W H x y : Int} (x0 : 0 ≤ x) (x1 : x < W) (y0 : 0 ≤ y) (y1 : y < H) : 0 ≤ y * W ∧ 0 ≤ y * W + x ∧ y * W + x < W * H := by
  have h1 : 0 ≤ y * W := Int.mul_nonneg y0 (by omega)
  have h2 : y * W ≤ (H - 1) * W := Int.mul_le_mul_of_nonneg_right (by omega) (by omega)
  rw [Int.sub_mul] at h2
  have h3 : H * W = W * H := Int.mul_comm _ _
  omega
theorem get_no {W H : Int} {D : List Bool} {x y : Int} (h : ¬ (bmCheck W H D.length = 0 ∧ 0 ≤ x ∧ x < W ∧ 0 ≤ y ∧ y < H)) : getB W H D x y = false := by
  cases hb : getB W H D x y
  · rfl
  · exfalso
    apply h
    simp only [getB, hasB, Bool.and_eq_true, decide_eq_true_eq] at hb
    omega
theorem ways5 {a b c d e : Prop} (h : ¬ (a ∧ b ∧ c ∧ d ∧ e)) : ¬ a ∨ (a ∧ ¬ b) ∨ (a ∧ b ∧ ¬ c) ∨ (a ∧ b ∧ c ∧ ¬ d) ∨ (a ∧ b ∧ c ∧ d ∧ ¬ e) := by
  by_cases h0 : a <;> by_cases h1 : b <;> by_cases h2 : c <;> by_cases h3 : d <;> by_cases h4 : e <;> simp_all

theorem ref04_Get (W H : Int) (A : Option Addr) (c : Nat) (D : List Bool) (x y : Int) (w : World) (hn : D.length ≤ 9223372036854775807) (hr : Rd Value.bool w w.heap.size A D) :
    Calls Try.prog 71 #[.agg #[.int .i64 W, .int .i64 H, .slice A D.length c], .int .i64 x, .int .i64 y] w fun e w' => e = .returned (.bool (getB W H D x y)) ∧ Below w.heap.size w w' := by
  by_cases hall : bmCheck W H D.length = 0 ∧ 0 ≤ x ∧ x < W ∧ 0 ≤ y ∧ y < H
  · obtain ⟨h0, x0, x1, y0, y1⟩ := hall
    obtain ⟨s1, s2, hl⟩ := bmCheck_ok h0
    have hi := idx_lt x0 x1 y0 y1
    have hm := mul_small s1 s2
    obtain ⟨k, hk⟩ := Int.eq_ofNat_of_zero_le hi.2.1
    obtain ⟨b, o, rfl, hb, hc⟩ := hr.at_ (k := k) (by omega)
    have hcell : w.cell? ⟨b, o + k, none⟩ = some (.bool (D.getD k false)) := by rw [hc k (by omega)]; simp [show k < D.length by omega]
    have hg : getB W H D x y = D.getD k false := by simp [getB, hasB, h0, x0, x1, y0, y1, hk]
    have Hg := Lib.hid hg
    have Hl := Lib.hid hl
    have hkD : k < D.length := by omega
    clear hg hc hr hl
    generalize D.getD k false = v at hcell Hg
    go_enter Try.func71, Try.ntmps71
    go_wp2_with (go_at_call 69; refine (ref04_Check _ _ _ _ _ _ hn).mono ?_; rintro e w1 ⟨rfl, hb1⟩; have hcell1 := (hb1.cell (p := ⟨b, o + k, none⟩) (by simp; omega)).trans ((World.cell?_alloc_lt w _ ⟨b, o + k, none⟩ hb).trans hcell); obtain ⟨hc1, hf1⟩ := bcell hb1)
    go_ret
    exact ⟨ret_bool Hg.out.symm, ((Below.refl _ _).alloc (Nat.le_refl _) _).trans (hb1.mono (by simp))⟩
  · have hg := Lib.hid (get_no hall)
    replace hall := ways5 hall
    rcases hall with h | ⟨h1, h2⟩ | ⟨h1, h2, h3⟩ | ⟨h1, h2, h3, h4⟩ | ⟨h1, h2, h3, h4, h5⟩
    all_goals
      go_enter Try.func71, Try.ntmps71
      go_wp2_with (go_at_call 69; refine (ref04_Check _ _ _ _ _ _ hn).mono ?_; rintro e w1 ⟨rfl, hb1⟩; obtain ⟨hc1, hf1⟩ := bcell hb1)
      go_ret
      exact ⟨ret_bool hg.out.symm, ((Below.refl _ _).alloc (Nat.le_refl _) _).trans (hb1.mono (by simp))⟩

/-- has: of a well-formed bitmap. -/
theorem bitmap_has (W H : Int) (A : Option Addr) (c : Nat) (D : List Bool) (x y : Int) (w : World) (h0 : bmCheck W H D.length = 0) (hr : Rd Value.bool w w.heap.size A D) :
    Calls Try.prog 74 #[.agg #[.int .i64 W, .int .i64 H, .slice A D.length c], .agg #[.int .i64 x, .int .i64 y]] w fun e w' => e = .returned (.bool (hasB W H D x y)) ∧ Below w.heap.size w w' := by
  obtain ⟨s1, s2, hl⟩ := bmCheck_ok h0
  have hm := mul_small s1 s2
  have hgh : getB W H D x y = hasB W H D x y := by simp [getB, h0]
  by_cases hall : bmCheck W H D.length = 0 ∧ 0 ≤ x ∧ x < W ∧ 0 ≤ y ∧ y < H
  · obtain ⟨_, x0, x1, y0, y1⟩ := hall
    have hi := idx_lt x0 x1 y0 y1
    obtain ⟨k, hk⟩ := Int.eq_ofNat_of_zero_le hi.2.1
    obtain ⟨b, o, rfl, hb, hc⟩ := hr.at_ (k := k) (by omega)
    have hcell : w.cell? ⟨b, o + k, none⟩ = some (.bool (D.getD k false)) := by rw [hc k (by omega)]; simp [show k < D.length by omega]
    have hg : hasB W H D x y = D.getD k false := by simp [hasB, x0, x1, y0, y1, hk]
    have Hg := Lib.hid hg
    have hkD : k < D.length := by omega
    clear hg hc hr hl hgh h0
    generalize D.getD k false = v at hcell Hg
    go_enter Try.func74, Try.ntmps74
    go_wp2
    go_ret
    exact ⟨ret_bool Hg.out.symm, ((Below.refl _ _).alloc (Nat.le_refl _) _).alloc (by simp) _⟩
  · have hg := Lib.hid (hgh.symm.trans (get_no hall))
    replace hall := ways5 hall
    clear hgh hl
    rcases hall with h | ⟨h1, h2⟩ | ⟨h1, h2, h3⟩ | ⟨h1, h2, h3, h4⟩ | ⟨h1, h2, h3, h4, h5⟩
    · exact absurd h0 h
    all_goals
      clear h1 h0
      go_enter Try.func74, Try.ntmps74
      go_wp2
      go_ret
      exact ⟨ret_bool hg.out.symm, ((Below.refl _ _).alloc (Nat.le_refl _) _).alloc (by simp) _⟩

theorem bitmap_Get (W H : Int) (A : Option Addr) (c : Nat) (D : List Bool) (x y : Int) (w : World) (hn : D.length ≤ 9223372036854775807) (hr : Rd Value.bool w w.heap.size A D) :
    Calls Try.prog 33 #[.agg #[.int .i64 W, .int .i64 H, .slice A D.length c], .int .i64 x, .int .i64 y] w fun e w' => e = .returned (.bool (getB W H D x y)) ∧ Below w.heap.size w w' := by
  by_cases h0 : bmCheck W H D.length = 0
  · have hg := Lib.hid (show getB W H D x y = hasB W H D x y by simp [getB, h0])
    have H0 := Lib.hid h0
    have h0' : (bmCheck W H D.length == 0) = true := by simp [h0]
    clear h0
    have Hr := Lib.hid hr
    clear hr
    go_enter Try.func33, Try.ntmps33
    go_wp2_with (first
      | (go_at_call 32; refine (bitmap_Check _ _ _ _ _ _ hn).mono ?_; rintro e w1 ⟨rfl, hb1⟩; obtain ⟨hc1, hf1⟩ := bcell hb1)
      | (go_at_call 74; refine (bitmap_has _ _ _ _ _ _ _ _ H0.out ((((Hr.out.alloc (Nat.le_refl _) _).below hb1 (by simp))).more (by have := hb1.size; simp at this; omega))).mono ?_; rintro e w2 ⟨rfl, hb2⟩))
    go_ret
    exact ⟨ret_bool hg.out.symm, ((Below.refl _ _).alloc (Nat.le_refl _) _).trans ((hb1.mono (by simp)).trans (hb2.mono (by have := hb1.size; simp at this; omega)))⟩
  · have hg := Lib.hid (show getB W H D x y = false by simp [getB, h0])
    have h0' : (bmCheck W H D.length == 0) = false := by simp [h0]
    clear h0
    go_enter Try.func33, Try.ntmps33
    go_wp2_with (go_at_call 32; refine (bitmap_Check _ _ _ _ _ _ hn).mono ?_; rintro e w1 ⟨rfl, hb1⟩; obtain ⟨hc1, hf1⟩ := bcell hb1)
    go_ret
    exact ⟨ret_bool hg.out.symm, ((Below.refl _ _).alloc (Nat.le_refl _) _).trans (hb1.mono (by simp))⟩

end Go.Proofs.Ytlanefdeeanpnaa
