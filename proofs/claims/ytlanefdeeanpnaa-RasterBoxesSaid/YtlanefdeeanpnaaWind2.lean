/-
  Contracts of both Windings of layer 7: they answer alike. Conditions: at most 1000 polygons with at most 1000 points, read below the heap's size.
-/
import Derived.Test.YtlanefdeeanpnaaWind
namespace Go.Proofs.Ytlanefdeeanpnaa
set_option linter.unusedVariables false
set_option linter.unusedSimpArgs false
open Go.RowKit
attribute [local go_sem ↓] Go.wp_at_zero Go.wp_at_succ

def windV (ls : List (List Pt)) (x y : Int) : Int := if allIn ls = true ∧ inB x = true ∧ inB y = true then windN ls x y else 0
theorem windV_no {ls : List (List Pt)} {x y : Int} (h : ¬ (allIn ls = true ∧ inB x = true ∧ inB y = true)) : windV ls x y = 0 := if_neg h
theorem windV_yes {ls : List (List Pt)} {x y : Int} (h : allIn ls = true ∧ inB x = true ∧ inB y = true) : windV ls x y = windN ls x y := if_pos h

set_option maxHeartbeats 2000000 in
set_option maxRecDepth 100000 in
theorem raster_Winding (ls : List (List Pt)) (A : Option Addr) (c : Nat) (x y : Int) (w : World) (hl : ls.length ≤ 1000) (hp : ∀ p ∈ ls, p.length ≤ 1000) (hr : RdPs w w.heap.size A ls) :
    Calls Try.prog 54 #[.slice A ls.length c, .int .i64 x, .int .i64 y] w fun e w' => e = .returned (.int .i64 (windV ls x y)) ∧ Below w.heap.size w w' := by
  have CR := Lib.hid (fun w h => raster_ranged ls A c w hl hp h)
  have HR := Lib.hid hr
  have CW := Lib.hid (fun (ha : allIn ls = true) (hx : inB x = true) (hy : inB y = true) w h => raster_winding ls A c x y w hl hp ha hx hy h)
  have HN := Lib.hid (windV_no (ls := ls) (x := x) (y := y))
  have HY := Lib.hid (windV_yes (ls := ls) (x := x) (y := y))
  have htn : 0 ≤ (tot ls : Int) := by omega
  have HRA := Lib.hid (show allIn ls = true → rangedN ls = (tot ls : Int) from fun h => if_pos h)
  have HRB := Lib.hid (show ¬ allIn ls = true → rangedN ls = -1 from fun h => if_neg h)
  clear hr hp
  generalize ls.length = l at *
  go_enter Try.func54, Try.ntmps54
  go_wp2_with fail
  refine (CR.out _ HR.out).mono ?_
  rintro e w1 ⟨rfl, hb1⟩
  by_cases ha : allIn ls = true
  · rw [HRA.out ha]
    generalize tot ls = t at *
    have ht0 : ¬ (t : Int) < 0 := by omega
    have CX := Lib.hid (raster_in x)
    have CY := Lib.hid (raster_in y)
    cases hx : inB x with
    | false =>
      have hv := Lib.hid (HN.out (fun h => by rw [hx] at h; exact absurd h.2.1 (by decide)))
      rw [hx] at CX
      clear hx CW HY HN HRA HRB ha
      go_wp2_with fail
      refine (CX.out _).mono ?_
      rintro e wa ⟨rfl, rfl⟩
      go_wp2
      go_ret
      exact ⟨ret_int hv.out.symm, hb1⟩
    | true =>
      cases hy : inB y with
      | false =>
        have hv := Lib.hid (HN.out (fun h => by rw [hy] at h; exact absurd h.2.2 (by decide)))
        rw [hx] at CX
        rw [hy] at CY
        clear hx hy CW HY HN HRA HRB ha
        go_wp2_with fail
        refine (CX.out _).mono ?_
        rintro e wa ⟨rfl, rfl⟩
        go_wp2_with fail
        refine (CY.out _).mono ?_
        rintro e wa ⟨rfl, rfl⟩
        go_wp2
        go_ret
        exact ⟨ret_int hv.out.symm, hb1⟩
      | true =>
        have hv := Lib.hid (HY.out ⟨ha, hx, hy⟩)
        have CW2 := Lib.hid (CW.out ha hx hy)
        rw [hx] at CX
        rw [hy] at CY
        clear hx hy CW HY HN HRA HRB ha
        go_wp2_with fail
        refine (CX.out _).mono ?_
        rintro e wa ⟨rfl, rfl⟩
        go_wp2_with fail
        refine (CY.out _).mono ?_
        rintro e wa ⟨rfl, rfl⟩
        go_wp2_with fail
        refine (CW2.out _ (HR.out.on hb1)).mono ?_
        rintro e wa ⟨rfl, hba⟩
        go_wp2
        go_ret
        exact ⟨ret_int hv.out.symm, hb1.trans (hba.mono hb1.size)⟩
  · rw [HRB.out ha]
    have hv := Lib.hid (HN.out (fun h => ha h.1))
    clear ha CW HY HN HRA HRB
    go_wp2
    go_ret
    exact ⟨ret_int hv.out.symm, hb1⟩

/-- The reference's sum: each edge leads from the point of its number. -/
def windR (p : List Pt) (x y : Int) : Nat → Int
  | 0 => 0
  | t + 1 => windR p x y t + turnsV (p.getD t pD0) (p.getD ((t + 1) % p.length) pD0) x y
theorem windR_lt (p : List Pt) (x y : Int) : ∀ t, t < p.length → windR p x y t + turnsV (p.getD (p.length - 1) pD0) (p.getD 0 pD0) x y = windP p x y (t + 1)
  | 0, h => by
    show 0 + _ = 0 + turnsV (p.getD ((0 + p.length - 1) % p.length) pD0) (p.getD 0 pD0) x y
    rw [Nat.zero_add, Nat.mod_eq_of_lt (by omega)]
  | t + 1, h => by
    have ih := windR_lt p x y t (by omega)
    have e1 : (t + 1) % p.length = t + 1 := Nat.mod_eq_of_lt h
    have e2 : (t + 1 + p.length - 1) % p.length = t := by
      rw [show t + 1 + p.length - 1 = t + p.length by omega, Nat.add_mod_right, Nat.mod_eq_of_lt (by omega)]
    rw [windR, windP, ← ih, e1, e2]
    omega
theorem windR_all (p : List Pt) (x y : Int) : windR p x y p.length = windP p x y p.length := by
  cases hl : p.length with
  | zero => rfl
  | succ t =>
    have h := windR_lt p x y t (by omega)
    rw [← h]
    rw [windR, hl, Nat.mod_self]
    rfl
theorem windR_small (p : List Pt) (x y : Int) (t : Nat) : -(t : Int) ≤ windR p x y t ∧ windR p x y t ≤ t := by
  induction t with
  | zero => exact ⟨Int.le_refl _, Int.le_refl _⟩
  | succ t ih =>
    have := turns_small (p.getD t pD0) (p.getD ((t + 1) % p.length) pD0) x y
    unfold windR
    omega
end Go.Proofs.Ytlanefdeeanpnaa
