/-
  Contract of the reference Text, at bitmaps that pass Check.
-/
import Derived.Test.YtlanefdeeanpnaaGet
import Derived.Test.YtlanefdeeanpnaaCrop
namespace Go.Proofs.Ytlanefdeeanpnaa
set_option linter.unusedVariables false
set_option linter.unusedSimpArgs false
open Go.RowKit
attribute [local go_sem ↓] Go.wp_at_zero Go.wp_at_succ

def txRow (acc : ByteArray) (f : Nat → Bool) : Nat → ByteArray
  | 0 => acc
  | x + 1 => if f x then txRow acc f x ++ ⟨#[35]⟩ else txRow acc f x ++ ⟨#[46]⟩
def txP (m n : Nat) (D : List Bool) : Nat → ByteArray
  | 0 => ⟨#[]⟩
  | t + 1 => txRow (txP m n D t) (fun x => D.getD ((n - 1 - t) * m + x) false) m ++ ⟨#[10]⟩

theorem bmCheck_nat' {m n l : Nat} (h : bmCheck m n l = 0) : l = m * n := by
  obtain ⟨_, _, h3⟩ := bmCheck_ok h
  have : ((m : Int) * (n : Int)) = ((m * n : Nat) : Int) := by simp
  omega
theorem txRow_size (acc : ByteArray) (f : Nat → Bool) (x : Nat) : (txRow acc f x).size = acc.size + x := by
  induction x with
  | zero => rfl
  | succ x ih =>
    unfold txRow
    split <;> rw [ByteArray.size_append, ih] <;> rfl
theorem txP_size (m n : Nat) (D : List Bool) (t : Nat) : (txP m n D t).size = t * (m + 1) := by
  induction t with
  | zero => rw [Nat.zero_mul]; rfl
  | succ t ih =>
    unfold txP
    rw [ByteArray.size_append, txRow_size, ih, Nat.add_mul]
    simp [ByteArray.size]
    omega
theorem getB_nat {m n : Nat} {D : List Bool} {x y : Nat} (h : bmCheck m n D.length = 0) (hx : x < m) (hy : y < n) : getB m n D x y = D.getD (y * m + x) false := by
  have hk : ((y : Int) * (m : Int) + (x : Int)).toNat = y * m + x := by
    have : (y : Int) * (m : Int) + (x : Int) = ((y * m + x : Nat) : Int) := by simp
    omega
  have x1 : (x : Int) < (m : Int) := by omega
  have y1 : (y : Int) < (n : Int) := by omega
  simp [getB, hasB, h, x1, y1, hk]
set_option maxHeartbeats 2000000 in
theorem ref04_Text (m n : Nat) (A : Option Addr) (c : Nat) (D : List Bool) (w : World) (hm : m ≤ 96) (hn : n ≤ 96) (h0 : bmCheck m n D.length = 0) (hr : Rd Value.bool w w.heap.size A D) :
    Calls Try.prog 99 #[.agg #[.int .i64 m, .int .i64 n, .slice A D.length c]] w fun e w' => e = .returned (.string (txP m n D n)) ∧ Below w.heap.size w w' := by
  have HR := Lib.hid hr
  have HC := Lib.hid h0
  have HDl := Lib.hid (bmCheck_nat' h0)
  have hDl : D.length ≤ 9223372036854775807 := by have := bmCheck_nat' h0; have := Nat.mul_le_mul hm hn; omega
  clear hr h0
  go_enter Try.func99, Try.ntmps99
  go_wp2_with fail
  refine wp_world (fun W0 hW0 => ?_)
  obtain ⟨hB, hbw, hsz⟩ := new1 hW0
  clear hW0
  generalize hp : w.heap.size = p at *
  have HP := Lib.hid hp
  clear hp
  have HR := Lib.hid (HR.out.below hbw (Nat.le_refl _))
  go_loopw [3, 4] (fun ss yy wr => ∃ t : Nat, t ≤ n ∧ yy = .int .i64 ((n : Int) - 1 - t) ∧ ss = .string (txP m n D t) ∧ Kp [] W0 wr) (fun _ yy _ => (intOf yy + 1).toNat)
  case atStart => exact ⟨0, Nat.zero_le _, by go_num, rfl, Kp.refl _ _⟩
  case round =>
    obtain ⟨t, ht, rfl, rfl, hkp⟩ := hrel
    obtain ⟨⟨d0, d1, d2⟩, _⟩ := (hkp.blk hB (by simp)).three
    have hpz : (txP m n D t).size ≤ 9312 := by
      rw [txP_size]
      exact Nat.mul_le_mul (show t ≤ 96 by omega) (show m + 1 ≤ 97 by omega)
    by_cases hlt : t < n
    · have hle : (t : Int) ≤ (n : Int) - 1 := by omega
      have HF := Lib.hid (show ∀ u : Nat, u < m → getB m n D u ((n : Int) - 1 - t) = D.getD ((n - 1 - t) * m + u) false from fun u hu => by
        have e : (n : Int) - 1 - t = ((n - 1 - t : Nat) : Int) := by omega
        rw [e]
        exact getB_nat HC.out hu (by omega))
      have HS := Lib.hid (show txP m n D (t + 1) = txRow (txP m n D t) (fun x => D.getD ((n - 1 - t) * m + x) false) m ++ ⟨#[10]⟩ from rfl)
      generalize hF : (fun x => D.getD ((n - 1 - t) * m + x) false) = F at HS
      have HF := Lib.hid (show ∀ u : Nat, u < m → getB m n D u ((n : Int) - 1 - t) = F u from fun u hu => by rw [← hF]; exact HF.out u hu)
      clear hF
      go_wp2_with (go_at_call 69; refine (ref04_Check _ _ _ _ _ _ hDl).mono ?_; rw [HC.out]; rintro e w1 ⟨rfl, hb1⟩; have hkp := hkp.below hb1; clear d0 d1 d2; obtain ⟨⟨d0, d1, d2⟩, _⟩ := (hkp.blk hB (by simp)).three)
      go_loopw [3, 5] (fun ss xx wr => ∃ u : Nat, u ≤ m ∧ xx = .int .i64 u ∧ ss = .string (txRow (txP m n D t) F u) ∧ Kp [] W0 wr) (fun _ xx _ => m - (intOf xx).toNat)
      case atStart => exact ⟨0, Nat.zero_le _, rfl, rfl, hkp⟩
      case round =>
        clear hkp d0 d1 d2
        obtain ⟨u, hu, rfl, rfl, hkp⟩ := hrel
        obtain ⟨⟨d0, d1, d2⟩, _⟩ := (hkp.blk hB (by simp)).three
        have hrz : (txRow (txP m n D t) F u).size ≤ 9500 := by
          rw [txRow_size]
          omega
        by_cases hlu : u < m
        · have hfu := Lib.hid (HF.out u hlu)
          go_wp2_with (go_at_call 71; refine (ref04_Get _ _ _ _ _ _ _ _ hDl ((hkp.rd HR.out (by omega) (by simp)).more (by have := hkp.size; omega))).mono ?_; rw [hfu.out]; rintro e w1 ⟨rfl, hb1⟩; have hkp := hkp.below hb1)
          · have ht : F u = true := by assumption
            go_roundw
            case rel => exact ⟨u + 1, by omega, by go_num, by rw [txRow, if_pos ht], hkp⟩
            case measure => simp [intOf]; omega
          · have ht : F u = false := by assumption
            go_roundw
            case rel => exact ⟨u + 1, by omega, by go_num, by rw [txRow, if_neg (by simp [ht])], hkp⟩
            case measure => simp [intOf]; omega
        · have hue := Lib.hid (show u = m by omega)
          have hlu' : ¬ (u : Int) < (m : Int) := by omega
          go_wp2
          go_roundw
          case rel => exact ⟨t + 1, by omega, by go_num, by rw [HS.out, hue.out], hkp⟩
          case measure => simp [intOf]; omega
    · have hte : t = n := by omega
      subst hte
      have hle : ¬ (t : Int) ≤ (t : Int) - 1 := by omega
      go_wp2_with (go_at_call 69; refine (ref04_Check _ _ _ _ _ _ hDl).mono ?_; rw [HC.out]; rintro e w1 ⟨rfl, hb1⟩; have hkp := hkp.below hb1; clear d0 d1 d2; obtain ⟨⟨d0, d1, d2⟩, _⟩ := (hkp.blk hB (by simp)).three)
      go_ret
      exact ⟨rfl, by rw [HP.out]; exact hbw.trans (hkp.to_below (by omega) (by simp))⟩
end Go.Proofs.Ytlanefdeeanpnaa
