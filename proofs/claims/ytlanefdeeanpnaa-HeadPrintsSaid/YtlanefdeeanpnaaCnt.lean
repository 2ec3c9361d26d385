/-
  Count of the program's bitmap package: how many dots are on. Conditions: a well-formed bitmap whose dots are read.
-/
import Derived.Test.YtlanefdeeanpnaaCount
namespace Go.Proofs.Ytlanefdeeanpnaa
set_option linter.unusedVariables false
set_option linter.unusedSimpArgs false
open Go.RowKit
attribute [local go_sem ↓] Go.wp_at_zero Go.wp_at_succ

def cntB : List Bool → Nat
  | [] => 0
  | b :: l => (if b then 1 else 0) + cntB l
theorem cntB_snoc (b : Bool) : ∀ l : List Bool, cntB (l ++ [b]) = cntB l + if b then 1 else 0
  | [] => by simp [cntB]
  | x :: l => by rw [List.cons_append, cntB, cntB_snoc b l, cntB]; omega
theorem onTo_cnt {N : Nat} {D : List Bool} (hD : D.length = N) : ∀ t, t ≤ N → (onTo N D t).length = cntB (D.take t)
  | 0, _ => by rw [List.take_zero]; rfl
  | t + 1, ht => by
    have hlt : t < D.length := by omega
    rw [List.take_succ_eq_append_getElem hlt, cntB_snoc]
    have hg : D.getD t false = D[t] := by rw [List.getD_eq_getElem?_getD, List.getElem?_eq_getElem hlt]; rfl
    cases hv : D[t] with
    | true => rw [onTo_yes (by omega) (hg.trans hv), List.length_append, onTo_cnt hD t (by omega)]; simp
    | false => rw [onTo_no (by omega) (hg.trans hv), onTo_cnt hD t (by omega)]; simp
theorem onL_cnt {N : Nat} {D : List Bool} (hD : D.length = N) : (onL N D).length = cntB D := by
  rw [← onTo_all, onTo_cnt hD N (Nat.le_refl _), List.take_of_length_le (by omega)]
theorem cntB_le : ∀ l : List Bool, cntB l ≤ l.length
  | [] => Nat.le_refl _
  | b :: l => by have := cntB_le l; cases b <;> simp [cntB] <;> omega

theorem count1_any (x : Value) (w : World) (hx : ∃ a b : Int, x = .agg #[.int .i64 a, .int .i64 b]) : Calls Try.prog 85 #[x] w fun e w' => e = .returned (.bool true) ∧ Below w.heap.size w w' := by
  obtain ⟨a, b, rfl⟩ := hx
  go_enter Try.func85, Try.ntmps85
  go_wp2
  go_ret
  exact ⟨rfl, (Below.refl _ _).alloc (Nat.le_refl _) _⟩

set_option maxRecDepth 100000 in
theorem bitmap_Count (m n c : Nat) (A : Option Addr) (D : List Bool) (w : World) (hm : m ≤ 96) (hn : n ≤ 96) (hD : D.length = m * n) (hr : Rd Value.bool w w.heap.size A D) :
    Calls Try.prog 47 #[.agg #[.int .i64 m, .int .i64 n, .slice A (m * n) c]] w fun e w' =>
      e = .returned (.int .i64 (cntB D : Nat)) ∧ Below w.heap.size w w' := by
  have hmn : m * n ≤ 9216 := Nat.mul_le_mul hm hn
  have HR := Lib.hid hr
  have HD := Lib.hid hD
  have HC := Lib.hid (onL_cnt hD)
  clear hr hD
  go_enter Try.func47, Try.ntmps47
  go_wp2_with fail
  refine calls_world (fun W0 hW0 => ?_)
  obtain ⟨hB0, hb0, hs0⟩ := new1 hW0
  clear hW0
  have hr1 := (HR.out.below hb0 (Nat.le_refl _)).more hb0.size
  refine (bmcount_any m n c 85 #[] A D (fun _ => true) W0 hm hn HD.out hr1 (enters_of Try.func85 (by kernel_rfl) rfl) (fun x w' hb => ?_)).mono ?_
  · exact count1_any _ w' ⟨_, _, rfl⟩
  · rintro e w2 ⟨rfl, hb2⟩
    have hf : ((onL (m * n) D).filter fun k => (fun _ : Nat => true) k.1).length = cntB D := by rw [List.filter_eq_self.2 (by simp), HC.out]
    rw [hf]
    clear hf
    go_wp2
    go_ret
    exact ⟨rfl, hb0.trans (hb2.mono hb0.size)⟩
end Go.Proofs.Ytlanefdeeanpnaa
