/-
  Layer 37's sanity: true. Conditions: none. (Printed by gensan37.py.)
-/
import Derived.Test.YtlanefdeeanpnaaFour
import Derived.Deep.DrawnRows
namespace Go.Proofs.Ytlanefdeeanpnaa
set_option linter.unusedVariables false
set_option linter.unusedSimpArgs false
open Go.RowKit
attribute [local go_sem ↓] Go.wp_at_zero Go.wp_at_succ

def D37 : List Bool := [true, false, false, false, true, true]
theorem sane_four_nil (w : World) : Calls Try.prog 78 #[.slice none 0 0] w fun e w' => ∃ g : Nat, e = .returned (.agg #[.slice (some ⟨g, 0, none⟩) 4 4]) ∧ w.heap.size ≤ g ∧ Own Value.bool 4 w' g [false, false, false, false] ∧ Below w.heap.size w w' :=
  four_any [] none 0 w (by simp) (by simp) (fun h => absurd h (by simp))
theorem sane_four_0 (q : Nat) (w : World) (hQ : Blk w q 3 #[.int .i64 0]) : Calls Try.prog 78 #[.slice (some ⟨q, 0, none⟩) 1 1] w fun e w' => ∃ g : Nat, e = .returned (.agg #[.slice (some ⟨g, 0, none⟩) 4 4]) ∧ w.heap.size ≤ g ∧ Own Value.bool 4 w' g [true, false, false, false] ∧ Below w.heap.size w w' :=
  four_any [0] (some ⟨q, 0, none⟩) 1 w (by simp) (by simp) ((show Own (fun k : Nat => Value.int .i64 (k : Int)) 3 w q [0] from hQ).rd hQ.lt)
theorem sane_four_1 (q : Nat) (w : World) (hQ : Blk w q 3 #[.int .i64 1]) : Calls Try.prog 78 #[.slice (some ⟨q, 0, none⟩) 1 1] w fun e w' => ∃ g : Nat, e = .returned (.agg #[.slice (some ⟨g, 0, none⟩) 4 4]) ∧ w.heap.size ≤ g ∧ Own Value.bool 4 w' g [false, true, false, false] ∧ Below w.heap.size w w' :=
  four_any [1] (some ⟨q, 0, none⟩) 1 w (by simp) (by simp) ((show Own (fun k : Nat => Value.int .i64 (k : Int)) 3 w q [1] from hQ).rd hQ.lt)
theorem sane_four_2 (q : Nat) (w : World) (hQ : Blk w q 3 #[.int .i64 2]) : Calls Try.prog 78 #[.slice (some ⟨q, 0, none⟩) 1 1] w fun e w' => ∃ g : Nat, e = .returned (.agg #[.slice (some ⟨g, 0, none⟩) 4 4]) ∧ w.heap.size ≤ g ∧ Own Value.bool 4 w' g [false, false, true, false] ∧ Below w.heap.size w w' :=
  four_any [2] (some ⟨q, 0, none⟩) 1 w (by simp) (by simp) ((show Own (fun k : Nat => Value.int .i64 (k : Int)) 3 w q [2] from hQ).rd hQ.lt)
theorem sane_four_12 (q : Nat) (w : World) (hQ : Blk w q 3 #[.int .i64 1, .int .i64 2]) : Calls Try.prog 78 #[.slice (some ⟨q, 0, none⟩) 2 2] w fun e w' => ∃ g : Nat, e = .returned (.agg #[.slice (some ⟨g, 0, none⟩) 4 4]) ∧ w.heap.size ≤ g ∧ Own Value.bool 4 w' g [false, true, true, false] ∧ Below w.heap.size w w' :=
  four_any [1, 2] (some ⟨q, 0, none⟩) 2 w (by simp) (by simp) ((show Own (fun k : Nat => Value.int .i64 (k : Int)) 3 w q [1, 2] from hQ).rd hQ.lt)
theorem sane_off_n (A : Option Addr) (g : Nat) (w : World) (hO : Own Value.bool 4 w g [false, false, false, false]) (hr : Rd Value.bool w w.heap.size A D37) : Calls Try.prog 79 #[.agg #[.slice (some ⟨g, 0, none⟩) 4 4], .agg #[.int .i64 2, .int .i64 3, .slice A 6 6], .int .i64 0] w fun e w' => e = .returned (.bool true) ∧ Below w.heap.size w w' :=
  offset_yes 2 3 6 4 0 A _ D37 [false, false, false, false] w (by decide) hr (hO.rd hO.lt) (by kernel_rfl)
theorem sane_off_0 (A : Option Addr) (g : Nat) (w : World) (hO : Own Value.bool 4 w g [true, false, false, false]) (hr : Rd Value.bool w w.heap.size A D37) : Calls Try.prog 79 #[.agg #[.slice (some ⟨g, 0, none⟩) 4 4], .agg #[.int .i64 2, .int .i64 3, .slice A 6 6], .int .i64 1] w fun e w' => e = .returned (.bool true) ∧ Below w.heap.size w w' :=
  offset_yes 2 3 6 4 1 A _ D37 [true, false, false, false] w (by decide) hr (hO.rd hO.lt) (by kernel_rfl)
theorem sane_off_1 (A : Option Addr) (g : Nat) (w : World) (hO : Own Value.bool 4 w g [false, true, false, false]) (hr : Rd Value.bool w w.heap.size A D37) : Calls Try.prog 79 #[.agg #[.slice (some ⟨g, 0, none⟩) 4 4], .agg #[.int .i64 2, .int .i64 3, .slice A 6 6], .int .i64 0] w fun e w' => e = .returned (.bool true) ∧ Below w.heap.size w w' :=
  offset_yes 2 3 6 4 0 A _ D37 [false, true, false, false] w (by decide) hr (hO.rd hO.lt) (by kernel_rfl)
theorem sane_off_2 (A : Option Addr) (g : Nat) (w : World) (hO : Own Value.bool 4 w g [false, false, true, false]) (hr : Rd Value.bool w w.heap.size A D37) : Calls Try.prog 79 #[.agg #[.slice (some ⟨g, 0, none⟩) 4 4], .agg #[.int .i64 2, .int .i64 3, .slice A 6 6], .int .i64 1] w fun e w' => e = .returned (.bool true) ∧ Below w.heap.size w w' :=
  offset_yes 2 3 6 4 1 A _ D37 [false, false, true, false] w (by decide) hr (hO.rd hO.lt) (by kernel_rfl)
theorem sane_prn_2 (A : Option Addr) (g : Nat) (w : World) (hO : Own Value.bool 4 w g [false, false, true, false]) (hr : Rd Value.bool w w.heap.size A D37) : Calls Try.prog 80 #[.agg #[.slice (some ⟨g, 0, none⟩) 4 4], .agg #[.int .i64 2, .int .i64 3, .slice A 6 6], .int .i64 0, .string ⟨#[46, 46, 10, 46, 46, 10, 35, 46, 10]⟩] w fun e w' => e = .returned (.bool true) ∧ Below w.heap.size w w' :=
  printed_yes 2 3 0 6 4 A _ D37 [false, false, true, false] w (by decide) hr (hO.rd hO.lt) (by kernel_rfl) ⟨#[46, 46, 10, 46, 46, 10, 35, 46, 10]⟩ (by kernel_rfl)
theorem sane_prn_1 (A : Option Addr) (g : Nat) (w : World) (hO : Own Value.bool 4 w g [false, true, false, false]) (hr : Rd Value.bool w w.heap.size A D37) : Calls Try.prog 80 #[.agg #[.slice (some ⟨g, 0, none⟩) 4 4], .agg #[.int .i64 2, .int .i64 3, .slice A 6 6], .int .i64 0, .string ⟨#[35, 35, 10, 46, 46, 10, 35, 46, 10]⟩] w fun e w' => e = .returned (.bool true) ∧ Below w.heap.size w w' :=
  printed_yes 2 3 0 6 4 A _ D37 [false, true, false, false] w (by decide) hr (hO.rd hO.lt) (by kernel_rfl) ⟨#[35, 35, 10, 46, 46, 10, 35, 46, 10]⟩ (by kernel_rfl)
theorem sane_prn_0 (A : Option Addr) (g : Nat) (w : World) (hO : Own Value.bool 4 w g [true, false, false, false]) (hr : Rd Value.bool w w.heap.size A D37) : Calls Try.prog 80 #[.agg #[.slice (some ⟨g, 0, none⟩) 4 4], .agg #[.int .i64 2, .int .i64 3, .slice A 6 6], .int .i64 0, .string ⟨#[35, 35, 10, 46, 46, 10, 46, 46, 10]⟩] w fun e w' => e = .returned (.bool true) ∧ Below w.heap.size w w' :=
  printed_yes 2 3 0 6 4 A _ D37 [true, false, false, false] w (by decide) hr (hO.rd hO.lt) (by kernel_rfl) ⟨#[35, 35, 10, 46, 46, 10, 46, 46, 10]⟩ (by kernel_rfl)
theorem sane_prn_01 (A : Option Addr) (g : Nat) (w : World) (hO : Own Value.bool 4 w g [true, false, false, false]) (hr : Rd Value.bool w w.heap.size A D37) : Calls Try.prog 80 #[.agg #[.slice (some ⟨g, 0, none⟩) 4 4], .agg #[.int .i64 2, .int .i64 3, .slice A 6 6], .int .i64 1, .string ⟨#[35, 35, 10, 46, 46, 10, 35, 46, 10]⟩] w fun e w' => e = .returned (.bool true) ∧ Below w.heap.size w w' :=
  printed_yes 2 3 1 6 4 A _ D37 [true, false, false, false] w (by decide) hr (hO.rd hO.lt) (by kernel_rfl) ⟨#[35, 35, 10, 46, 46, 10, 35, 46, 10]⟩ (by kernel_rfl)
theorem sane_ref_2 (A : Option Addr) (g : Nat) (w : World) (hO : Own Value.bool 4 w g [false, false, false, false]) (hr : Rd Value.bool w w.heap.size A D37) : Calls Try.prog 81 #[.agg #[.slice (some ⟨g, 0, none⟩) 4 4], .agg #[.int .i64 2, .int .i64 3, .slice A 6 6], .int .i64 (2)] w fun e w' => e = .returned (.bool true) ∧ Below w.heap.size w w' :=
  refused_yes 2 3 (2) 6 4 A _ D37 [false, false, false, false] w (by decide) hr (hO.rd hO.lt) (by kernel_rfl) (by kernel_rfl)
theorem sane_ref_m (A : Option Addr) (g : Nat) (w : World) (hO : Own Value.bool 4 w g [false, false, false, false]) (hr : Rd Value.bool w w.heap.size A D37) : Calls Try.prog 81 #[.agg #[.slice (some ⟨g, 0, none⟩) 4 4], .agg #[.int .i64 2, .int .i64 3, .slice A 6 6], .int .i64 (-1)] w fun e w' => e = .returned (.bool true) ∧ Below w.heap.size w w' :=
  refused_yes 2 3 (-1) 6 4 A _ D37 [false, false, false, false] w (by decide) hr (hO.rd hO.lt) (by kernel_rfl) (by kernel_rfl)
theorem sane_off_12 (A : Option Addr) (g : Nat) (w : World) (hO : Own Value.bool 4 w g [false, true, true, false]) (hr : Rd Value.bool w w.heap.size A D37) : Calls Try.prog 42 #[.agg #[.slice (some ⟨g, 0, none⟩) 4 4], .agg #[.int .i64 2, .int .i64 3, .slice A 6 6]] w fun e w' => e = .returned (.tuple #[.int .i64 0, .bool false]) ∧ Below w.heap.size w w' := by
  have h := head_Offset_any 2 3 6 4 A (some ⟨g, 0, none⟩) D37 [false, true, true, false] w (by decide) hr (hO.rd hO.lt)
  rw [show offN 2 3 D37 [false, true, true, false] = none by kernel_rfl] at h
  exact h
theorem sane_chk0 (w : World) : Calls Try.prog 40 #[.agg #[.slice none 0 0]] w fun e w' => e = .returned (.int .i64 71) ∧ Below w.heap.size w w' := head_Check 0 none 0 w
theorem sane_chk193 (q : Nat) (w : World) : Calls Try.prog 40 #[.agg #[.slice (some ⟨q, 0, none⟩) 193 193]] w fun e w' => e = .returned (.int .i64 71) ∧ Below w.heap.size w w' := head_Check 193 _ 193 w
theorem sane_chk4 (g : Nat) (w : World) : Calls Try.prog 40 #[.agg #[.slice (some ⟨g, 0, none⟩) 4 4]] w fun e w' => e = .returned (.int .i64 0) ∧ Below w.heap.size w w' := head_Check 4 _ 4 w

set_option maxHeartbeats 8000000 in
set_option maxRecDepth 100000 in
theorem sanity37 (w0 : World) : Calls Try.prog 38 #[] w0 fun e w' => e = .returned (.bool true) ∧ Below w0.heap.size w0 w' := by
  have Fn := Lib.hid (sane_four_nil)
  have F0 := Lib.hid (sane_four_0)
  have F1 := Lib.hid (sane_four_1)
  have F2 := Lib.hid (sane_four_2)
  have F12 := Lib.hid (sane_four_12)
  have On := Lib.hid (fun g w h hr => sane_off_n (some ⟨w0.heap.size, 0, none⟩) g w h hr)
  have O0 := Lib.hid (fun g w h hr => sane_off_0 (some ⟨w0.heap.size, 0, none⟩) g w h hr)
  have O1 := Lib.hid (fun g w h hr => sane_off_1 (some ⟨w0.heap.size, 0, none⟩) g w h hr)
  have O2 := Lib.hid (fun g w h hr => sane_off_2 (some ⟨w0.heap.size, 0, none⟩) g w h hr)
  have P2 := Lib.hid (fun g w h hr => sane_prn_2 (some ⟨w0.heap.size, 0, none⟩) g w h hr)
  have P1 := Lib.hid (fun g w h hr => sane_prn_1 (some ⟨w0.heap.size, 0, none⟩) g w h hr)
  have P0 := Lib.hid (fun g w h hr => sane_prn_0 (some ⟨w0.heap.size, 0, none⟩) g w h hr)
  have P01 := Lib.hid (fun g w h hr => sane_prn_01 (some ⟨w0.heap.size, 0, none⟩) g w h hr)
  have R2 := Lib.hid (fun g w h hr => sane_ref_2 (some ⟨w0.heap.size, 0, none⟩) g w h hr)
  have Rm := Lib.hid (fun g w h hr => sane_ref_m (some ⟨w0.heap.size, 0, none⟩) g w h hr)
  have O12 := Lib.hid (fun g w h hr => sane_off_12 (some ⟨w0.heap.size, 0, none⟩) g w h hr)
  have C0 := Lib.hid (fun w => sane_chk0 w)
  have C193 := Lib.hid (fun q w => sane_chk193 q w)
  have C4 := Lib.hid (fun g w => sane_chk4 g w)
  have hmk := fun w1 => mk_run (P := Try.prog) 27 4 (.bool false) 1 Try.underlying27 info_bool rfl (193 : Int) (by omega) (by omega) (by omega) w1
  go_enter Try.func38, Try.ntmps38
  go_upto_region 2 with fail
  refine wp_world (fun W1 hW1 => ?_)
  obtain ⟨hOD0, hBB, hbw, hs1⟩ := new2 hW1
  clear hW1
  have hOD : Own Value.bool 4 W1 w0.heap.size D37 := hOD0
  clear hOD0
  generalize hp : w0.heap.size = p at *
  have HP := Lib.hid hp
  clear hp
  have zD : p < W1.heap.size := by omega
  have zB : p + 1 < W1.heap.size := by omega
  obtain ⟨⟨b0, b1, b2⟩, _⟩ := hBB.three
  clear hs1
  have hbS : Below W1.heap.size W1 W1 := Below.refl _ _
  refine wp_region_L 8 (fun w' => (∀ b o, b < W1.heap.size → w'.cell? ⟨b, o, none⟩ = W1.cell? ⟨b, o, none⟩) ∧ Below W1.heap.size W1 w') (by kernel_rfl) ?_ (fun Wd hWd hS => ?_)
  · (try dsimp only)
    exact sb_of hbS.drew
  (try dsimp only at hS)
  refine wpT_take 2 (v := ?_) rfl (by kernel_rfl) (by kernel_rfl) (fun _ _ _ h => h) hS (Or.inl ⟨rfl, ?_⟩) ?_
  rotate_left
  · (intro w' hSw; (try dsimp only at hSw); go_simp; first | done | with_reducible rfl)
  (try simp only [Act.put, List.setIfInBounds_toArray, List.set_cons_zero, List.set_cons_succ])
  refine wpT_one 0 rfl (by kernel_rfl) (fun K hK => ?_)
  go_simp
  refine k_world (fun Wq hWq => ?_)
  obtain ⟨qq, eqq, hQ, hbQ, hsQ⟩ := new1n hWq
  clear hWq
  rw [eqq]
  have hbS := hS.2.trans (hbQ.mono (by have := hS.2.size; omega))
  refine hK.out _ _ ?_ (fun hS => ?_)
  · (try dsimp only)
    exact sb_of hbS
  clear hK K
  (try simp only [Act.put, List.setIfInBounds_toArray, List.set_cons_zero, List.set_cons_succ])
  (try dsimp only at hS)
  refine wpT_one 1 rfl (by kernel_rfl) (fun K hK => ?_)
  go_simp
  go_at_call 78
  refine (F12.out _ _ hQ).mono ?_
  rintro e wA ⟨gA, rfl, hgA, hOA, hbA⟩
  have hbS := hS.2.trans (hbA.mono hS.2.size)
  refine hK.out _ _ ?_ (fun hS => ?_)
  · (try dsimp only)
    exact sb_of hbS
  clear hK K
  (try simp only [Act.put, List.setIfInBounds_toArray, List.set_cons_zero, List.set_cons_succ])
  (try dsimp only at hS)
  refine wpT_one 3 rfl (by kernel_rfl) (fun K hK => ?_)
  go_simp
  go_at_call 42
  refine (O12.out _ _ hOA ((hOD.below hS.2 zD).rd (by have := hS.2.size; omega))).mono ?_
  rintro e wB ⟨rfl, hbB⟩
  have hbS := hS.2.trans (hbB.mono hS.2.size)
  refine hK.out _ _ ?_ (fun hS => ?_)
  · (try dsimp only)
    exact sb_of hbS
  clear hK K
  (try simp only [Act.put, List.setIfInBounds_toArray, List.set_cons_zero, List.set_cons_succ])
  (try dsimp only at hS)
  refine wpT_take 4 (v := ?_) rfl (by kernel_rfl) (by kernel_rfl) (fun _ _ _ h => h) hS (Or.inl ⟨rfl, ?_⟩) ?_
  rotate_left
  · (intro w' hSw; (try dsimp only at hSw); go_simp; first | done | with_reducible rfl)
  (try simp only [Act.put, List.setIfInBounds_toArray, List.set_cons_zero, List.set_cons_succ])
  refine wpT_take 5 (v := ?_) rfl (by kernel_rfl) (by kernel_rfl) (fun _ _ _ h => h) hS (Or.inl ⟨rfl, ?_⟩) ?_
  rotate_left
  · (intro w' hSw; (try dsimp only at hSw); go_simp; first | done | with_reducible rfl)
  (try simp only [Act.put, List.setIfInBounds_toArray, List.set_cons_zero, List.set_cons_succ])
  refine wpT_take 6 (v := ?_) rfl (by kernel_rfl) (by kernel_rfl) (fun _ _ _ h => h) hS (Or.inl ⟨rfl, ?_⟩) ?_
  rotate_left
  · (intro w' hSw; (try dsimp only at hSw); go_simp; first | done | with_reducible rfl)
  (try simp only [Act.put, List.setIfInBounds_toArray, List.set_cons_zero, List.set_cons_succ])
  refine wpT_take 7 (v := ?_) rfl (by kernel_rfl) (by kernel_rfl) (fun _ _ _ h => h) hS (Or.inl ⟨rfl, ?_⟩) ?_
  rotate_left
  · (intro w' hSw; (try dsimp only at hSw); go_simp; first | done | with_reducible rfl)
  (try simp only [Act.put, List.setIfInBounds_toArray, List.set_cons_zero, List.set_cons_succ])
  refine wpT_tail (by rfl) (by kernel_rfl) ?_
  (try simp only [List.drop_succ_cons, List.drop_zero])
  clear hbB hbA hOA hgA hbS
  have hbS := hS.2
  go_upto_region 3 with fail
  refine wp_region_L 29 (fun w' => (∀ b o, b < W1.heap.size → w'.cell? ⟨b, o, none⟩ = W1.cell? ⟨b, o, none⟩) ∧ Below W1.heap.size W1 w') (by kernel_rfl) ?_ (fun Wd hWd hS => ?_)
  · (try dsimp only)
    exact sb_of hbS.drew
  (try dsimp only at hS)
  refine wpT_take 1 (v := ?_) rfl (by kernel_rfl) (by kernel_rfl) (fun _ _ _ h => h) hS (Or.inl ⟨rfl, ?_⟩) ?_
  rotate_left
  · (intro w' hSw; (try dsimp only at hSw); go_simp; first | done | with_reducible rfl)
  (try simp only [Act.put, List.setIfInBounds_toArray, List.set_cons_zero, List.set_cons_succ])
  refine wpT_one 0 rfl (by kernel_rfl) (fun K hK => ?_)
  go_simp
  go_at_call 78
  refine (Fn.out _).mono ?_
  rintro e wA ⟨gA, rfl, hgA, hOA, hbA⟩
  have hbS := hS.2.trans (hbA.mono hS.2.size)
  refine hK.out _ _ ?_ (fun hS => ?_)
  · (try dsimp only)
    exact sb_of hbS
  clear hK K
  (try simp only [Act.put, List.setIfInBounds_toArray, List.set_cons_zero, List.set_cons_succ])
  (try dsimp only at hS)
  refine wpT_one 2 rfl (by kernel_rfl) (fun K hK => ?_)
  go_simp
  go_at_call 79
  refine (On.out _ _ hOA ((hOD.below hS.2 zD).rd (by have := hS.2.size; omega))).mono ?_
  rintro e wB ⟨rfl, hbB⟩
  have hbS := hS.2.trans (hbB.mono hS.2.size)
  refine hK.out _ _ ?_ (fun hS => ?_)
  · (try dsimp only)
    exact sb_of hbS
  clear hK K
  (try simp only [Act.put, List.setIfInBounds_toArray, List.set_cons_zero, List.set_cons_succ])
  (try dsimp only at hS)
  refine wpT_take 3 (v := ?_) rfl (by kernel_rfl) (by kernel_rfl) (fun _ _ _ h => h) hS (Or.inl ⟨rfl, ?_⟩) ?_
  rotate_left
  · (intro w' hSw; (try dsimp only at hSw); go_simp; first | done | with_reducible rfl)
  (try simp only [Act.put, List.setIfInBounds_toArray, List.set_cons_zero, List.set_cons_succ])
  refine wpT_take 6 (v := ?_) rfl (by kernel_rfl) (by kernel_rfl) (fun _ _ _ h => h) hS (Or.inl ⟨rfl, ?_⟩) ?_
  rotate_left
  · (intro w' hSw; (try dsimp only at hSw); go_simp; first | done | with_reducible rfl)
  (try simp only [Act.put, List.setIfInBounds_toArray, List.set_cons_zero, List.set_cons_succ])
  refine wpT_one 4 rfl (by kernel_rfl) (fun K hK => ?_)
  go_simp
  refine k_world (fun Wq hWq => ?_)
  obtain ⟨qq, eqq, hQ, hbQ, hsQ⟩ := new1n hWq
  clear hWq
  rw [eqq]
  have hbS := hS.2.trans (hbQ.mono (by have := hS.2.size; omega))
  refine hK.out _ _ ?_ (fun hS => ?_)
  · (try dsimp only)
    exact sb_of hbS
  clear hK K
  (try simp only [Act.put, List.setIfInBounds_toArray, List.set_cons_zero, List.set_cons_succ])
  (try dsimp only at hS)
  refine wpT_one 5 rfl (by kernel_rfl) (fun K hK => ?_)
  go_simp
  go_at_call 78
  refine (F0.out _ _ hQ).mono ?_
  rintro e wA ⟨gA, rfl, hgA, hOA, hbA⟩
  have hbS := hS.2.trans (hbA.mono hS.2.size)
  refine hK.out _ _ ?_ (fun hS => ?_)
  · (try dsimp only)
    exact sb_of hbS
  clear hK K
  (try simp only [Act.put, List.setIfInBounds_toArray, List.set_cons_zero, List.set_cons_succ])
  (try dsimp only at hS)
  refine wpT_one 7 rfl (by kernel_rfl) (fun K hK => ?_)
  go_simp
  go_at_call 79
  refine (O0.out _ _ hOA ((hOD.below hS.2 zD).rd (by have := hS.2.size; omega))).mono ?_
  rintro e wB ⟨rfl, hbB⟩
  have hbS := hS.2.trans (hbB.mono hS.2.size)
  refine hK.out _ _ ?_ (fun hS => ?_)
  · (try dsimp only)
    exact sb_of hbS
  clear hK K
  (try simp only [Act.put, List.setIfInBounds_toArray, List.set_cons_zero, List.set_cons_succ])
  (try dsimp only at hS)
  refine wpT_take 8 (v := ?_) rfl (by kernel_rfl) (by kernel_rfl) (fun _ _ _ h => h) hS (Or.inl ⟨rfl, ?_⟩) ?_
  rotate_left
  · (intro w' hSw; (try dsimp only at hSw); go_simp; first | done | with_reducible rfl)
  (try simp only [Act.put, List.setIfInBounds_toArray, List.set_cons_zero, List.set_cons_succ])
  refine wpT_take 9 (v := ?_) rfl (by kernel_rfl) (by kernel_rfl) (fun _ _ _ h => h) hS (Or.inl ⟨rfl, ?_⟩) ?_
  rotate_left
  · (intro w' hSw; (try dsimp only at hSw); go_simp; first | done | with_reducible rfl)
  (try simp only [Act.put, List.setIfInBounds_toArray, List.set_cons_zero, List.set_cons_succ])
  refine wpT_take 12 (v := ?_) rfl (by kernel_rfl) (by kernel_rfl) (fun _ _ _ h => h) hS (Or.inl ⟨rfl, ?_⟩) ?_
  rotate_left
  · (intro w' hSw; (try dsimp only at hSw); go_simp; first | done | with_reducible rfl)
  (try simp only [Act.put, List.setIfInBounds_toArray, List.set_cons_zero, List.set_cons_succ])
  refine wpT_one 10 rfl (by kernel_rfl) (fun K hK => ?_)
  go_simp
  refine k_world (fun Wq hWq => ?_)
  obtain ⟨qq, eqq, hQ, hbQ, hsQ⟩ := new1n hWq
  clear hWq
  rw [eqq]
  have hbS := hS.2.trans (hbQ.mono (by have := hS.2.size; omega))
  refine hK.out _ _ ?_ (fun hS => ?_)
  · (try dsimp only)
    exact sb_of hbS
  clear hK K
  (try simp only [Act.put, List.setIfInBounds_toArray, List.set_cons_zero, List.set_cons_succ])
  (try dsimp only at hS)
  refine wpT_one 11 rfl (by kernel_rfl) (fun K hK => ?_)
  go_simp
  go_at_call 78
  refine (F1.out _ _ hQ).mono ?_
  rintro e wA ⟨gA, rfl, hgA, hOA, hbA⟩
  have hbS := hS.2.trans (hbA.mono hS.2.size)
  refine hK.out _ _ ?_ (fun hS => ?_)
  · (try dsimp only)
    exact sb_of hbS
  clear hK K
  (try simp only [Act.put, List.setIfInBounds_toArray, List.set_cons_zero, List.set_cons_succ])
  (try dsimp only at hS)
  refine wpT_one 13 rfl (by kernel_rfl) (fun K hK => ?_)
  go_simp
  go_at_call 79
  refine (O1.out _ _ hOA ((hOD.below hS.2 zD).rd (by have := hS.2.size; omega))).mono ?_
  rintro e wB ⟨rfl, hbB⟩
  have hbS := hS.2.trans (hbB.mono hS.2.size)
  refine hK.out _ _ ?_ (fun hS => ?_)
  · (try dsimp only)
    exact sb_of hbS
  clear hK K
  (try simp only [Act.put, List.setIfInBounds_toArray, List.set_cons_zero, List.set_cons_succ])
  (try dsimp only at hS)
  refine wpT_take 14 (v := ?_) rfl (by kernel_rfl) (by kernel_rfl) (fun _ _ _ h => h) hS (Or.inl ⟨rfl, ?_⟩) ?_
  rotate_left
  · (intro w' hSw; (try dsimp only at hSw); go_simp; first | done | with_reducible rfl)
  (try simp only [Act.put, List.setIfInBounds_toArray, List.set_cons_zero, List.set_cons_succ])
  refine wpT_take 15 (v := ?_) rfl (by kernel_rfl) (by kernel_rfl) (fun _ _ _ h => h) hS (Or.inl ⟨rfl, ?_⟩) ?_
  rotate_left
  · (intro w' hSw; (try dsimp only at hSw); go_simp; first | done | with_reducible rfl)
  (try simp only [Act.put, List.setIfInBounds_toArray, List.set_cons_zero, List.set_cons_succ])
  refine wpT_take 18 (v := ?_) rfl (by kernel_rfl) (by kernel_rfl) (fun _ _ _ h => h) hS (Or.inl ⟨rfl, ?_⟩) ?_
  rotate_left
  · (intro w' hSw; (try dsimp only at hSw); go_simp; first | done | with_reducible rfl)
  (try simp only [Act.put, List.setIfInBounds_toArray, List.set_cons_zero, List.set_cons_succ])
  refine wpT_one 16 rfl (by kernel_rfl) (fun K hK => ?_)
  go_simp
  refine k_world (fun Wq hWq => ?_)
  obtain ⟨qq, eqq, hQ, hbQ, hsQ⟩ := new1n hWq
  clear hWq
  rw [eqq]
  have hbS := hS.2.trans (hbQ.mono (by have := hS.2.size; omega))
  refine hK.out _ _ ?_ (fun hS => ?_)
  · (try dsimp only)
    exact sb_of hbS
  clear hK K
  (try simp only [Act.put, List.setIfInBounds_toArray, List.set_cons_zero, List.set_cons_succ])
  (try dsimp only at hS)
  refine wpT_one 17 rfl (by kernel_rfl) (fun K hK => ?_)
  go_simp
  go_at_call 78
  refine (F2.out _ _ hQ).mono ?_
  rintro e wA ⟨gA, rfl, hgA, hOA, hbA⟩
  have hbS := hS.2.trans (hbA.mono hS.2.size)
  refine hK.out _ _ ?_ (fun hS => ?_)
  · (try dsimp only)
    exact sb_of hbS
  clear hK K
  (try simp only [Act.put, List.setIfInBounds_toArray, List.set_cons_zero, List.set_cons_succ])
  (try dsimp only at hS)
  refine wpT_one 19 rfl (by kernel_rfl) (fun K hK => ?_)
  go_simp
  go_at_call 79
  refine (O2.out _ _ hOA ((hOD.below hS.2 zD).rd (by have := hS.2.size; omega))).mono ?_
  rintro e wB ⟨rfl, hbB⟩
  have hbS := hS.2.trans (hbB.mono hS.2.size)
  refine hK.out _ _ ?_ (fun hS => ?_)
  · (try dsimp only)
    exact sb_of hbS
  clear hK K
  (try simp only [Act.put, List.setIfInBounds_toArray, List.set_cons_zero, List.set_cons_succ])
  (try dsimp only at hS)
  refine wpT_take 20 (v := ?_) rfl (by kernel_rfl) (by kernel_rfl) (fun _ _ _ h => h) hS (Or.inl ⟨rfl, ?_⟩) ?_
  rotate_left
  · (intro w' hSw; (try dsimp only at hSw); go_simp; first | done | with_reducible rfl)
  (try simp only [Act.put, List.setIfInBounds_toArray, List.set_cons_zero, List.set_cons_succ])
  refine wpT_take 21 (v := ?_) rfl (by kernel_rfl) (by kernel_rfl) (fun _ _ _ h => h) hS (Or.inl ⟨rfl, ?_⟩) ?_
  rotate_left
  · (intro w' hSw; (try dsimp only at hSw); go_simp; first | done | with_reducible rfl)
  (try simp only [Act.put, List.setIfInBounds_toArray, List.set_cons_zero, List.set_cons_succ])
  refine wpT_take 22 (v := ?_) rfl (by kernel_rfl) (by kernel_rfl) (fun _ _ _ h => h) hS (Or.inl ⟨rfl, ?_⟩) ?_
  rotate_left
  · (intro w' hSw; (try dsimp only at hSw); go_simp; first | done | with_reducible rfl)
  (try simp only [Act.put, List.setIfInBounds_toArray, List.set_cons_zero, List.set_cons_succ])
  refine wpT_take 23 (v := ?_) rfl (by kernel_rfl) (by kernel_rfl) (fun _ _ _ h => h) hS (Or.inl ⟨rfl, ?_⟩) ?_
  rotate_left
  · (intro w' hSw; (try dsimp only at hSw); go_simp; first | done | with_reducible rfl)
  (try simp only [Act.put, List.setIfInBounds_toArray, List.set_cons_zero, List.set_cons_succ])
  refine wpT_take 24 (v := ?_) rfl (by kernel_rfl) (by kernel_rfl) (fun _ _ _ h => h) hS (Or.inl ⟨rfl, ?_⟩) ?_
  rotate_left
  · (intro w' hSw; (try dsimp only at hSw); go_simp; first | done | with_reducible rfl)
  (try simp only [Act.put, List.setIfInBounds_toArray, List.set_cons_zero, List.set_cons_succ])
  refine wpT_take 25 (v := ?_) rfl (by kernel_rfl) (by kernel_rfl) (fun _ _ _ h => h) hS (Or.inl ⟨rfl, ?_⟩) ?_
  rotate_left
  · (intro w' hSw; (try dsimp only at hSw); go_simp; first | done | with_reducible rfl)
  (try simp only [Act.put, List.setIfInBounds_toArray, List.set_cons_zero, List.set_cons_succ])
  refine wpT_take 26 (v := ?_) rfl (by kernel_rfl) (by kernel_rfl) (fun _ _ _ h => h) hS (Or.inl ⟨rfl, ?_⟩) ?_
  rotate_left
  · (intro w' hSw; (try dsimp only at hSw); go_simp; first | done | with_reducible rfl)
  (try simp only [Act.put, List.setIfInBounds_toArray, List.set_cons_zero, List.set_cons_succ])
  refine wpT_take 27 (v := ?_) rfl (by kernel_rfl) (by kernel_rfl) (fun _ _ _ h => h) hS (Or.inl ⟨rfl, ?_⟩) ?_
  rotate_left
  · (intro w' hSw; (try dsimp only at hSw); go_simp; first | done | with_reducible rfl)
  (try simp only [Act.put, List.setIfInBounds_toArray, List.set_cons_zero, List.set_cons_succ])
  refine wpT_take 28 (v := ?_) rfl (by kernel_rfl) (by kernel_rfl) (fun _ _ _ h => h) hS (Or.inl ⟨rfl, ?_⟩) ?_
  rotate_left
  · (intro w' hSw; (try dsimp only at hSw); go_simp; first | done | with_reducible rfl)
  (try simp only [Act.put, List.setIfInBounds_toArray, List.set_cons_zero, List.set_cons_succ])
  refine wpT_tail (by rfl) (by kernel_rfl) ?_
  (try simp only [List.drop_succ_cons, List.drop_zero])
  have hbS := hS.2
  go_upto_region 4 with fail
  refine wp_region_L 22 (fun w' => (∀ b o, b < W1.heap.size → w'.cell? ⟨b, o, none⟩ = W1.cell? ⟨b, o, none⟩) ∧ Below W1.heap.size W1 w') (by kernel_rfl) ?_ (fun Wd hWd hS => ?_)
  · (try dsimp only)
    exact sb_of hbS.drew
  (try dsimp only at hS)
  refine wpT_take 2 (v := ?_) rfl (by kernel_rfl) (by kernel_rfl) (fun _ _ _ h => h) hS (Or.inl ⟨rfl, ?_⟩) ?_
  rotate_left
  · (intro w' hSw; (try dsimp only at hSw); go_simp; first | done | with_reducible rfl)
  (try simp only [Act.put, List.setIfInBounds_toArray, List.set_cons_zero, List.set_cons_succ])
  refine wpT_one 0 rfl (by kernel_rfl) (fun K hK => ?_)
  go_simp
  refine k_world (fun Wq hWq => ?_)
  obtain ⟨qq, eqq, hQ, hbQ, hsQ⟩ := new1n hWq
  clear hWq
  rw [eqq]
  have hbS := hS.2.trans (hbQ.mono (by have := hS.2.size; omega))
  refine hK.out _ _ ?_ (fun hS => ?_)
  · (try dsimp only)
    exact sb_of hbS
  clear hK K
  (try simp only [Act.put, List.setIfInBounds_toArray, List.set_cons_zero, List.set_cons_succ])
  (try dsimp only at hS)
  refine wpT_one 1 rfl (by kernel_rfl) (fun K hK => ?_)
  go_simp
  go_at_call 78
  refine (F2.out _ _ hQ).mono ?_
  rintro e wA ⟨gA, rfl, hgA, hOA, hbA⟩
  have hbS := hS.2.trans (hbA.mono hS.2.size)
  refine hK.out _ _ ?_ (fun hS => ?_)
  · (try dsimp only)
    exact sb_of hbS
  clear hK K
  (try simp only [Act.put, List.setIfInBounds_toArray, List.set_cons_zero, List.set_cons_succ])
  (try dsimp only at hS)
  refine wpT_one 3 rfl (by kernel_rfl) (fun K hK => ?_)
  go_simp
  go_at_call 80
  refine (P2.out _ _ hOA ((hOD.below hS.2 zD).rd (by have := hS.2.size; omega))).mono ?_
  rintro e wB ⟨rfl, hbB⟩
  have hbS := hS.2.trans (hbB.mono hS.2.size)
  refine hK.out _ _ ?_ (fun hS => ?_)
  · (try dsimp only)
    exact sb_of hbS
  clear hK K
  (try simp only [Act.put, List.setIfInBounds_toArray, List.set_cons_zero, List.set_cons_succ])
  (try dsimp only at hS)
  refine wpT_take 4 (v := ?_) rfl (by kernel_rfl) (by kernel_rfl) (fun _ _ _ h => h) hS (Or.inl ⟨rfl, ?_⟩) ?_
  rotate_left
  · (intro w' hSw; (try dsimp only at hSw); go_simp; first | done | with_reducible rfl)
  (try simp only [Act.put, List.setIfInBounds_toArray, List.set_cons_zero, List.set_cons_succ])
  refine wpT_take 7 (v := ?_) rfl (by kernel_rfl) (by kernel_rfl) (fun _ _ _ h => h) hS (Or.inl ⟨rfl, ?_⟩) ?_
  rotate_left
  · (intro w' hSw; (try dsimp only at hSw); go_simp; first | done | with_reducible rfl)
  (try simp only [Act.put, List.setIfInBounds_toArray, List.set_cons_zero, List.set_cons_succ])
  refine wpT_one 5 rfl (by kernel_rfl) (fun K hK => ?_)
  go_simp
  refine k_world (fun Wq hWq => ?_)
  obtain ⟨qq, eqq, hQ, hbQ, hsQ⟩ := new1n hWq
  clear hWq
  rw [eqq]
  have hbS := hS.2.trans (hbQ.mono (by have := hS.2.size; omega))
  refine hK.out _ _ ?_ (fun hS => ?_)
  · (try dsimp only)
    exact sb_of hbS
  clear hK K
  (try simp only [Act.put, List.setIfInBounds_toArray, List.set_cons_zero, List.set_cons_succ])
  (try dsimp only at hS)
  refine wpT_one 6 rfl (by kernel_rfl) (fun K hK => ?_)
  go_simp
  go_at_call 78
  refine (F1.out _ _ hQ).mono ?_
  rintro e wA ⟨gA, rfl, hgA, hOA, hbA⟩
  have hbS := hS.2.trans (hbA.mono hS.2.size)
  refine hK.out _ _ ?_ (fun hS => ?_)
  · (try dsimp only)
    exact sb_of hbS
  clear hK K
  (try simp only [Act.put, List.setIfInBounds_toArray, List.set_cons_zero, List.set_cons_succ])
  (try dsimp only at hS)
  refine wpT_one 8 rfl (by kernel_rfl) (fun K hK => ?_)
  go_simp
  go_at_call 80
  refine (P1.out _ _ hOA ((hOD.below hS.2 zD).rd (by have := hS.2.size; omega))).mono ?_
  rintro e wB ⟨rfl, hbB⟩
  have hbS := hS.2.trans (hbB.mono hS.2.size)
  refine hK.out _ _ ?_ (fun hS => ?_)
  · (try dsimp only)
    exact sb_of hbS
  clear hK K
  (try simp only [Act.put, List.setIfInBounds_toArray, List.set_cons_zero, List.set_cons_succ])
  (try dsimp only at hS)
  refine wpT_take 9 (v := ?_) rfl (by kernel_rfl) (by kernel_rfl) (fun _ _ _ h => h) hS (Or.inl ⟨rfl, ?_⟩) ?_
  rotate_left
  · (intro w' hSw; (try dsimp only at hSw); go_simp; first | done | with_reducible rfl)
  (try simp only [Act.put, List.setIfInBounds_toArray, List.set_cons_zero, List.set_cons_succ])
  refine wpT_take 10 (v := ?_) rfl (by kernel_rfl) (by kernel_rfl) (fun _ _ _ h => h) hS (Or.inl ⟨rfl, ?_⟩) ?_
  rotate_left
  · (intro w' hSw; (try dsimp only at hSw); go_simp; first | done | with_reducible rfl)
  (try simp only [Act.put, List.setIfInBounds_toArray, List.set_cons_zero, List.set_cons_succ])
  refine wpT_take 13 (v := ?_) rfl (by kernel_rfl) (by kernel_rfl) (fun _ _ _ h => h) hS (Or.inl ⟨rfl, ?_⟩) ?_
  rotate_left
  · (intro w' hSw; (try dsimp only at hSw); go_simp; first | done | with_reducible rfl)
  (try simp only [Act.put, List.setIfInBounds_toArray, List.set_cons_zero, List.set_cons_succ])
  refine wpT_one 11 rfl (by kernel_rfl) (fun K hK => ?_)
  go_simp
  refine k_world (fun Wq hWq => ?_)
  obtain ⟨qq, eqq, hQ, hbQ, hsQ⟩ := new1n hWq
  clear hWq
  rw [eqq]
  have hbS := hS.2.trans (hbQ.mono (by have := hS.2.size; omega))
  refine hK.out _ _ ?_ (fun hS => ?_)
  · (try dsimp only)
    exact sb_of hbS
  clear hK K
  (try simp only [Act.put, List.setIfInBounds_toArray, List.set_cons_zero, List.set_cons_succ])
  (try dsimp only at hS)
  refine wpT_one 12 rfl (by kernel_rfl) (fun K hK => ?_)
  go_simp
  go_at_call 78
  refine (F0.out _ _ hQ).mono ?_
  rintro e wA ⟨gA, rfl, hgA, hOA, hbA⟩
  have hbS := hS.2.trans (hbA.mono hS.2.size)
  refine hK.out _ _ ?_ (fun hS => ?_)
  · (try dsimp only)
    exact sb_of hbS
  clear hK K
  (try simp only [Act.put, List.setIfInBounds_toArray, List.set_cons_zero, List.set_cons_succ])
  (try dsimp only at hS)
  refine wpT_one 14 rfl (by kernel_rfl) (fun K hK => ?_)
  go_simp
  go_at_call 80
  refine (P0.out _ _ hOA ((hOD.below hS.2 zD).rd (by have := hS.2.size; omega))).mono ?_
  rintro e wB ⟨rfl, hbB⟩
  have hbS := hS.2.trans (hbB.mono hS.2.size)
  refine hK.out _ _ ?_ (fun hS => ?_)
  · (try dsimp only)
    exact sb_of hbS
  clear hK K
  (try simp only [Act.put, List.setIfInBounds_toArray, List.set_cons_zero, List.set_cons_succ])
  (try dsimp only at hS)
  refine wpT_take 15 (v := ?_) rfl (by kernel_rfl) (by kernel_rfl) (fun _ _ _ h => h) hS (Or.inl ⟨rfl, ?_⟩) ?_
  rotate_left
  · (intro w' hSw; (try dsimp only at hSw); go_simp; first | done | with_reducible rfl)
  (try simp only [Act.put, List.setIfInBounds_toArray, List.set_cons_zero, List.set_cons_succ])
  refine wpT_take 16 (v := ?_) rfl (by kernel_rfl) (by kernel_rfl) (fun _ _ _ h => h) hS (Or.inl ⟨rfl, ?_⟩) ?_
  rotate_left
  · (intro w' hSw; (try dsimp only at hSw); go_simp; first | done | with_reducible rfl)
  (try simp only [Act.put, List.setIfInBounds_toArray, List.set_cons_zero, List.set_cons_succ])
  refine wpT_take 19 (v := ?_) rfl (by kernel_rfl) (by kernel_rfl) (fun _ _ _ h => h) hS (Or.inl ⟨rfl, ?_⟩) ?_
  rotate_left
  · (intro w' hSw; (try dsimp only at hSw); go_simp; first | done | with_reducible rfl)
  (try simp only [Act.put, List.setIfInBounds_toArray, List.set_cons_zero, List.set_cons_succ])
  refine wpT_one 17 rfl (by kernel_rfl) (fun K hK => ?_)
  go_simp
  refine k_world (fun Wq hWq => ?_)
  obtain ⟨qq, eqq, hQ, hbQ, hsQ⟩ := new1n hWq
  clear hWq
  rw [eqq]
  have hbS := hS.2.trans (hbQ.mono (by have := hS.2.size; omega))
  refine hK.out _ _ ?_ (fun hS => ?_)
  · (try dsimp only)
    exact sb_of hbS
  clear hK K
  (try simp only [Act.put, List.setIfInBounds_toArray, List.set_cons_zero, List.set_cons_succ])
  (try dsimp only at hS)
  refine wpT_one 18 rfl (by kernel_rfl) (fun K hK => ?_)
  go_simp
  go_at_call 78
  refine (F0.out _ _ hQ).mono ?_
  rintro e wA ⟨gA, rfl, hgA, hOA, hbA⟩
  have hbS := hS.2.trans (hbA.mono hS.2.size)
  refine hK.out _ _ ?_ (fun hS => ?_)
  · (try dsimp only)
    exact sb_of hbS
  clear hK K
  (try simp only [Act.put, List.setIfInBounds_toArray, List.set_cons_zero, List.set_cons_succ])
  (try dsimp only at hS)
  refine wpT_one 20 rfl (by kernel_rfl) (fun K hK => ?_)
  go_simp
  go_at_call 80
  refine (P01.out _ _ hOA ((hOD.below hS.2 zD).rd (by have := hS.2.size; omega))).mono ?_
  rintro e wB ⟨rfl, hbB⟩
  have hbS := hS.2.trans (hbB.mono hS.2.size)
  refine hK.out _ _ ?_ (fun hS => ?_)
  · (try dsimp only)
    exact sb_of hbS
  clear hK K
  (try simp only [Act.put, List.setIfInBounds_toArray, List.set_cons_zero, List.set_cons_succ])
  (try dsimp only at hS)
  refine wpT_take 21 (v := ?_) rfl (by kernel_rfl) (by kernel_rfl) (fun _ _ _ h => h) hS (Or.inl ⟨rfl, ?_⟩) ?_
  rotate_left
  · (intro w' hSw; (try dsimp only at hSw); go_simp; first | done | with_reducible rfl)
  (try simp only [Act.put, List.setIfInBounds_toArray, List.set_cons_zero, List.set_cons_succ])
  refine wpT_tail (by rfl) (by kernel_rfl) ?_
  (try simp only [List.drop_succ_cons, List.drop_zero])
  have hbS := hS.2
  go_upto_region 5 with fail
  refine wp_region_L 30 (fun w' => (∀ b o, b < W1.heap.size → w'.cell? ⟨b, o, none⟩ = W1.cell? ⟨b, o, none⟩) ∧ Below W1.heap.size W1 w') (by kernel_rfl) ?_ (fun Wd hWd hS => ?_)
  · (try dsimp only)
    exact sb_of hbS.drew
  (try dsimp only at hS)
  refine wpT_take 0 (v := ?_) rfl (by kernel_rfl) (by kernel_rfl) (fun _ _ _ h => h) hS (Or.inl ⟨rfl, ?_⟩) ?_
  rotate_left
  · (intro w' hSw; (try dsimp only at hSw); go_simp; first | done | with_reducible rfl)
  (try simp only [Act.put, List.setIfInBounds_toArray, List.set_cons_zero, List.set_cons_succ])
  refine wpT_take 1 (v := ?_) rfl (by kernel_rfl) (by kernel_rfl) (fun _ _ _ h => h) hS (Or.inl ⟨rfl, ?_⟩) ?_
  rotate_left
  · (intro w' hSw; (try dsimp only at hSw); go_simp; first | done | with_reducible rfl)
  (try simp only [Act.put, List.setIfInBounds_toArray, List.set_cons_zero, List.set_cons_succ])
  refine wpT_take 2 (v := ?_) rfl (by kernel_rfl) (by kernel_rfl) (fun _ _ _ h => h) hS (Or.inl ⟨rfl, ?_⟩) ?_
  rotate_left
  · (intro w' hSw; (try dsimp only at hSw); go_simp; first | done | with_reducible rfl)
  (try simp only [Act.put, List.setIfInBounds_toArray, List.set_cons_zero, List.set_cons_succ])
  refine wpT_take 3 (v := ?_) rfl (by kernel_rfl) (by kernel_rfl) (fun _ _ _ h => h) hS (Or.inl ⟨rfl, ?_⟩) ?_
  rotate_left
  · (intro w' hSw; (try dsimp only at hSw); go_simp; first | done | with_reducible rfl)
  (try simp only [Act.put, List.setIfInBounds_toArray, List.set_cons_zero, List.set_cons_succ])
  refine wpT_take 4 (v := ?_) rfl (by kernel_rfl) (by kernel_rfl) (fun _ _ _ h => h) hS (Or.inl ⟨rfl, ?_⟩) ?_
  rotate_left
  · (intro w' hSw; (try dsimp only at hSw); go_simp; first | done | with_reducible rfl)
  (try simp only [Act.put, List.setIfInBounds_toArray, List.set_cons_zero, List.set_cons_succ])
  refine wpT_take 6 (v := ?_) rfl (by kernel_rfl) (by kernel_rfl) (fun _ _ _ h => h) hS (Or.inl ⟨rfl, ?_⟩) ?_
  rotate_left
  · (intro w' hSw; (try dsimp only at hSw); go_simp; first | done | with_reducible rfl)
  (try simp only [Act.put, List.setIfInBounds_toArray, List.set_cons_zero, List.set_cons_succ])
  refine wpT_one 5 rfl (by kernel_rfl) (fun K hK => ?_)
  go_simp
  go_at_call 78
  refine (Fn.out _).mono ?_
  rintro e wA ⟨gA, rfl, hgA, hOA, hbA⟩
  have hbS := hS.2.trans (hbA.mono hS.2.size)
  refine hK.out _ _ ?_ (fun hS => ?_)
  · (try dsimp only)
    exact sb_of hbS
  clear hK K
  (try simp only [Act.put, List.setIfInBounds_toArray, List.set_cons_zero, List.set_cons_succ])
  (try dsimp only at hS)
  refine wpT_one 7 rfl (by kernel_rfl) (fun K hK => ?_)
  go_simp
  go_at_call 81
  refine (R2.out _ _ hOA ((hOD.below hS.2 zD).rd (by have := hS.2.size; omega))).mono ?_
  rintro e wB ⟨rfl, hbB⟩
  have hbS := hS.2.trans (hbB.mono hS.2.size)
  refine hK.out _ _ ?_ (fun hS => ?_)
  · (try dsimp only)
    exact sb_of hbS
  clear hK K
  (try simp only [Act.put, List.setIfInBounds_toArray, List.set_cons_zero, List.set_cons_succ])
  (try dsimp only at hS)
  refine wpT_take 8 (v := ?_) rfl (by kernel_rfl) (by kernel_rfl) (fun _ _ _ h => h) hS (Or.inl ⟨rfl, ?_⟩) ?_
  rotate_left
  · (intro w' hSw; (try dsimp only at hSw); go_simp; first | done | with_reducible rfl)
  (try simp only [Act.put, List.setIfInBounds_toArray, List.set_cons_zero, List.set_cons_succ])
  refine wpT_take 9 (v := ?_) rfl (by kernel_rfl) (by kernel_rfl) (fun _ _ _ h => h) hS (Or.inl ⟨rfl, ?_⟩) ?_
  rotate_left
  · (intro w' hSw; (try dsimp only at hSw); go_simp; first | done | with_reducible rfl)
  (try simp only [Act.put, List.setIfInBounds_toArray, List.set_cons_zero, List.set_cons_succ])
  refine wpT_take 11 (v := ?_) rfl (by kernel_rfl) (by kernel_rfl) (fun _ _ _ h => h) hS (Or.inl ⟨rfl, ?_⟩) ?_
  rotate_left
  · (intro w' hSw; (try dsimp only at hSw); go_simp; first | done | with_reducible rfl)
  (try simp only [Act.put, List.setIfInBounds_toArray, List.set_cons_zero, List.set_cons_succ])
  refine wpT_one 10 rfl (by kernel_rfl) (fun K hK => ?_)
  go_simp
  go_at_call 78
  refine (Fn.out _).mono ?_
  rintro e wA ⟨gA, rfl, hgA, hOA, hbA⟩
  have hbS := hS.2.trans (hbA.mono hS.2.size)
  refine hK.out _ _ ?_ (fun hS => ?_)
  · (try dsimp only)
    exact sb_of hbS
  clear hK K
  (try simp only [Act.put, List.setIfInBounds_toArray, List.set_cons_zero, List.set_cons_succ])
  (try dsimp only at hS)
  refine wpT_one 12 rfl (by kernel_rfl) (fun K hK => ?_)
  go_simp
  go_at_call 81
  refine (Rm.out _ _ hOA ((hOD.below hS.2 zD).rd (by have := hS.2.size; omega))).mono ?_
  rintro e wB ⟨rfl, hbB⟩
  have hbS := hS.2.trans (hbB.mono hS.2.size)
  refine hK.out _ _ ?_ (fun hS => ?_)
  · (try dsimp only)
    exact sb_of hbS
  clear hK K
  (try simp only [Act.put, List.setIfInBounds_toArray, List.set_cons_zero, List.set_cons_succ])
  (try dsimp only at hS)
  refine wpT_take 13 (v := ?_) rfl (by kernel_rfl) (by kernel_rfl) (fun _ _ _ h => h) hS (Or.inl ⟨rfl, ?_⟩) ?_
  rotate_left
  · (intro w' hSw; (try dsimp only at hSw); go_simp; first | done | with_reducible rfl)
  (try simp only [Act.put, List.setIfInBounds_toArray, List.set_cons_zero, List.set_cons_succ])
  refine wpT_take 14 (v := ?_) rfl (by kernel_rfl) (by kernel_rfl) (fun _ _ _ h => h) hS (Or.inl ⟨rfl, ?_⟩) ?_
  rotate_left
  · (intro w' hSw; (try dsimp only at hSw); go_simp; first | done | with_reducible rfl)
  (try simp only [Act.put, List.setIfInBounds_toArray, List.set_cons_zero, List.set_cons_succ])
  refine wpT_take 15 (v := ?_) rfl (by kernel_rfl) (by kernel_rfl) (fun _ _ _ h => h) hS (Or.inl ⟨rfl, ?_⟩) ?_
  rotate_left
  · (intro w' hSw; (try dsimp only at hSw); go_simp; first | done | with_reducible rfl)
  (try simp only [Act.put, List.setIfInBounds_toArray, List.set_cons_zero, List.set_cons_succ])
  refine wpT_one 16 rfl (by kernel_rfl) (fun K hK => ?_)
  go_simp
  go_at_call 40
  refine (C0.out _).mono ?_
  rintro e wB ⟨rfl, hbB⟩
  have hbS := hS.2.trans (hbB.mono hS.2.size)
  refine hK.out _ _ ?_ (fun hS => ?_)
  · (try dsimp only)
    exact sb_of hbS
  clear hK K
  (try simp only [Act.put, List.setIfInBounds_toArray, List.set_cons_zero, List.set_cons_succ])
  (try dsimp only at hS)
  refine wpT_take 17 (v := ?_) rfl (by kernel_rfl) (by kernel_rfl) (fun _ _ _ h => h) hS (Or.inl ⟨rfl, ?_⟩) ?_
  rotate_left
  · (intro w' hSw; (try dsimp only at hSw); go_simp; first | done | with_reducible rfl)
  (try simp only [Act.put, List.setIfInBounds_toArray, List.set_cons_zero, List.set_cons_succ])
  refine wpT_take 18 (v := ?_) rfl (by kernel_rfl) (by kernel_rfl) (fun _ _ _ h => h) hS (Or.inl ⟨rfl, ?_⟩) ?_
  rotate_left
  · (intro w' hSw; (try dsimp only at hSw); go_simp; first | done | with_reducible rfl)
  (try simp only [Act.put, List.setIfInBounds_toArray, List.set_cons_zero, List.set_cons_succ])
  refine wpT_take 19 (v := ?_) rfl (by kernel_rfl) (by kernel_rfl) (fun _ _ _ h => h) hS (Or.inl ⟨rfl, ?_⟩) ?_
  rotate_left
  · (intro w' hSw; (try dsimp only at hSw); go_simp; first | done | with_reducible rfl)
  (try simp only [Act.put, List.setIfInBounds_toArray, List.set_cons_zero, List.set_cons_succ])
  refine wpT_one 20 rfl (by kernel_rfl) (fun K hK => ?_)
  go_simp
  refine k_world (fun Wq hWq => ?_)
  obtain ⟨qq, eqq, hQ, hbQ, hsQ⟩ := new1n hWq
  clear hWq
  rw [eqq]
  have hbS := hS.2.trans (hbQ.mono (by have := hS.2.size; omega))
  refine hK.out _ _ ?_ (fun hS => ?_)
  · (try dsimp only)
    exact sb_of hbS
  clear hK K
  (try simp only [Act.put, List.setIfInBounds_toArray, List.set_cons_zero, List.set_cons_succ])
  (try dsimp only at hS)
  refine wpT_take 21 (v := ?_) rfl (by kernel_rfl) (by kernel_rfl) (fun _ _ _ h => h) hS (Or.inl ⟨rfl, ?_⟩) ?_
  rotate_left
  · (intro w' hSw; (try dsimp only at hSw); go_simp; first | done | with_reducible rfl)
  (try simp only [Act.put, List.setIfInBounds_toArray, List.set_cons_zero, List.set_cons_succ])
  refine wpT_one 22 rfl (by kernel_rfl) (fun K hK => ?_)
  go_simp
  go_at_call 40
  refine (C193.out _ _).mono ?_
  rintro e wB ⟨rfl, hbB⟩
  have hbS := hS.2.trans (hbB.mono hS.2.size)
  refine hK.out _ _ ?_ (fun hS => ?_)
  · (try dsimp only)
    exact sb_of hbS
  clear hK K
  (try simp only [Act.put, List.setIfInBounds_toArray, List.set_cons_zero, List.set_cons_succ])
  (try dsimp only at hS)
  refine wpT_take 23 (v := ?_) rfl (by kernel_rfl) (by kernel_rfl) (fun _ _ _ h => h) hS (Or.inl ⟨rfl, ?_⟩) ?_
  rotate_left
  · (intro w' hSw; (try dsimp only at hSw); go_simp; first | done | with_reducible rfl)
  (try simp only [Act.put, List.setIfInBounds_toArray, List.set_cons_zero, List.set_cons_succ])
  refine wpT_take 24 (v := ?_) rfl (by kernel_rfl) (by kernel_rfl) (fun _ _ _ h => h) hS (Or.inl ⟨rfl, ?_⟩) ?_
  rotate_left
  · (intro w' hSw; (try dsimp only at hSw); go_simp; first | done | with_reducible rfl)
  (try simp only [Act.put, List.setIfInBounds_toArray, List.set_cons_zero, List.set_cons_succ])
  refine wpT_take 25 (v := ?_) rfl (by kernel_rfl) (by kernel_rfl) (fun _ _ _ h => h) hS (Or.inl ⟨rfl, ?_⟩) ?_
  rotate_left
  · (intro w' hSw; (try dsimp only at hSw); go_simp; first | done | with_reducible rfl)
  (try simp only [Act.put, List.setIfInBounds_toArray, List.set_cons_zero, List.set_cons_succ])
  refine wpT_one 26 rfl (by kernel_rfl) (fun K hK => ?_)
  go_simp
  go_at_call 78
  refine (Fn.out _).mono ?_
  rintro e wA ⟨gA, rfl, hgA, hOA, hbA⟩
  have hbS := hS.2.trans (hbA.mono hS.2.size)
  refine hK.out _ _ ?_ (fun hS => ?_)
  · (try dsimp only)
    exact sb_of hbS
  clear hK K
  (try simp only [Act.put, List.setIfInBounds_toArray, List.set_cons_zero, List.set_cons_succ])
  (try dsimp only at hS)
  refine wpT_one 27 rfl (by kernel_rfl) (fun K hK => ?_)
  go_simp
  go_at_call 40
  refine (C4.out _ _).mono ?_
  rintro e wB ⟨rfl, hbB⟩
  have hbS := hS.2.trans (hbB.mono hS.2.size)
  refine hK.out _ _ ?_ (fun hS => ?_)
  · (try dsimp only)
    exact sb_of hbS
  clear hK K
  (try simp only [Act.put, List.setIfInBounds_toArray, List.set_cons_zero, List.set_cons_succ])
  (try dsimp only at hS)
  refine wpT_take 28 (v := ?_) rfl (by kernel_rfl) (by kernel_rfl) (fun _ _ _ h => h) hS (Or.inl ⟨rfl, ?_⟩) ?_
  rotate_left
  · (intro w' hSw; (try dsimp only at hSw); go_simp; first | done | with_reducible rfl)
  (try simp only [Act.put, List.setIfInBounds_toArray, List.set_cons_zero, List.set_cons_succ])
  refine wpT_take 29 (v := ?_) rfl (by kernel_rfl) (by kernel_rfl) (fun _ _ _ h => h) hS (Or.inl ⟨rfl, ?_⟩) ?_
  rotate_left
  · (intro w' hSw; (try dsimp only at hSw); go_simp; first | done | with_reducible rfl)
  (try simp only [Act.put, List.setIfInBounds_toArray, List.set_cons_zero, List.set_cons_succ])
  refine wpT_tail (by rfl) (by kernel_rfl) ?_
  (try simp only [List.drop_succ_cons, List.drop_zero])
  go_wp2
  go_ret
  exact ⟨rfl, by rw [HP.out]; exact hbw.trans (hS.2.mono (by omega))⟩
end Go.Proofs.Ytlanefdeeanpnaa
