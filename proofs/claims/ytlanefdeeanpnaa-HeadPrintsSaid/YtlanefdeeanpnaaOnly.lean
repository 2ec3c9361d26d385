/-
  Only of the program's bitmap package at no shift and no columns; within of layer 21's law; Count. Conditions: well-formed bitmaps of one size.
-/
import Derived.Test.YtlanefdeeanpnaaCount
import Derived.Deep.DeepCutAuto
namespace Go.Proofs.Ytlanefdeeanpnaa
set_option linter.unusedVariables false
set_option linter.unusedSimpArgs false
open Go.RowKit
attribute [local go_sem ↓] Go.wp_at_zero Go.wp_at_succ

set_option maxRecDepth 100000 in
theorem only1_any (kx ky m n c pf pt pb px py : Nat) (A : Option Addr) (D : List Bool) (w : World) (hx : kx < 100) (hy : ky < 100) (hm : m ≤ 96) (hn : n ≤ 96) (hD : D.length = m * n) (hr : Rd Value.bool w w.heap.size A D)
    (h1 : Blk w pf 3 #[.int .i64 0]) (h2 : Blk w pt 3 #[.int .i64 0]) (h3 : Blk w pb 29 #[.int .i64 m, .int .i64 n, .slice A (m * n) c]) (h4 : Blk w px 3 #[.int .i64 0]) (h5 : Blk w py 3 #[.int .i64 0]) :
    Calls Try.prog 86 #[.agg #[.int .i64 kx, .int .i64 ky], .pointer (some ⟨pf, 0, none⟩), .pointer (some ⟨pt, 0, none⟩), .pointer (some ⟨pb, 0, none⟩), .pointer (some ⟨px, 0, none⟩), .pointer (some ⟨py, 0, none⟩)] w fun e w' =>
      e = .returned (.bool (!hasB m n D kx ky)) ∧ Below w.heap.size w w' := by
  have hmn : m * n ≤ 9216 := Nat.mul_le_mul hm hn
  have hck : bmCheck m n D.length = 0 := by rw [hD]; simp [bmCheck, sideB]; omega
  have CH := Lib.hid (fun w h => bitmap_has m n A c D kx ky w hck h)
  rw [hD] at CH
  have HR := Lib.hid hr
  clear hr hD hck
  go_enter Try.func86, Try.ntmps86
  go_upto_region 1 with fail
  refine wp_world (fun W0 hW0 => ?_)
  obtain ⟨hB0, hb0, hs0⟩ := new1 hW0
  clear hW0
  have hr0 := (HR.out.below hb0 (Nat.le_refl _)).more hb0.size
  have c1 := (h1.below hb0 h1.lt).cell 0
  have c2 := (h2.below hb0 h2.lt).cell 0
  obtain ⟨⟨c3, c4, c5⟩, _⟩ := (h3.below hb0 h3.lt).three
  have c6 := (h4.below hb0 h4.lt).cell 0
  have c7 := (h5.below hb0 h5.lt).cell 0
  obtain ⟨⟨d0, d1⟩, _⟩ := hB0.two
  clear hs0
  generalize hq : w.heap.size = q at *
  have HQ := Lib.hid hq
  clear hq
  go_wp2_with fail
  refine (CH.out _ hr0).mono ?_
  rintro e w1 ⟨rfl, hb1⟩
  go_wp2
  go_ret
  exact ⟨rfl, by rw [HQ.out]; exact hb0.trans (hb1.mono (by have := hb0.size; have := HQ.out; omega))⟩
/-- How many dots of the first the second does not have. -/
def onlyN (m n : Nat) (D E : List Bool) : Nat := ((onL (m * n) D).filter fun k => !hasB m n E ((k.1 % m : Nat) : Int) ((k.1 / m : Nat) : Int)).length

set_option maxRecDepth 100000 in
theorem only_any (m n c c2 : Nat) (A A2 : Option Addr) (D E : List Bool) (w : World) (hm : m ≤ 96) (hn : n ≤ 96) (hD : D.length = m * n) (hE : E.length = m * n) (hr : Rd Value.bool w w.heap.size A D) (hr2 : Rd Value.bool w w.heap.size A2 E) :
    Calls Try.prog 49 #[.agg #[.int .i64 m, .int .i64 n, .slice A (m * n) c], .agg #[.int .i64 m, .int .i64 n, .slice A2 (m * n) c2], .int .i64 0, .int .i64 0, .int .i64 0, .int .i64 0] w fun e w' =>
      e = .returned (.int .i64 (onlyN m n D E : Int)) ∧ Below w.heap.size w w' := by
  have hmn : m * n ≤ 9216 := Nat.mul_le_mul hm hn
  have CK := Lib.hid (fun w => bitmap_Check m n A2 (m * n) c2 w (by omega))
  rw [show bmCheck m n (m * n) = 0 by simp [bmCheck, sideB]; omega] at CK
  have HR := Lib.hid hr
  have HR2 := Lib.hid hr2
  have HD := Lib.hid hD
  have HE := Lib.hid hE
  clear hr hr2 hD hE
  go_enter Try.func49, Try.ntmps49
  go_wp2_with fail
  refine calls_world (fun W0 hW0 => ?_)
  obtain ⟨hB0, hB1, hB2, hB3, hB4, hB5, hb0, hs0⟩ := new6 hW0
  clear hW0
  generalize hp : w.heap.size = p at *
  have HP := Lib.hid hp
  clear hp
  refine (CK.out _).mono ?_
  rintro e w1 ⟨rfl, hb1⟩
  have hB0 := hB0.below hb1 hB0.lt
  have hB1 := hB1.below hb1 hB1.lt
  have hB2 := hB2.below hb1 hB2.lt
  have hB3 := hB3.below hb1 hB3.lt
  have hB4 := hB4.below hb1 hB4.lt
  have hB5 := hB5.below hb1 hB5.lt
  have hbw := hb0.trans (hb1.mono (by omega))
  have hsz : p ≤ w1.heap.size := by have := hB0.lt; omega
  clear hs0 hb0 hb1
  obtain ⟨⟨d0, d1, d2⟩, _⟩ := hB0.three
  go_wp2_with fail
  have hr1 := (HR.out.below hbw (Nat.le_refl _)).more hsz
  have hr2 := (HR2.out.below hbw (Nat.le_refl _)).more hsz
  refine (bmcount_any m n c 86 _ A D (fun k => !hasB m n E ((k % m : Nat) : Int) ((k / m : Nat) : Int)) w1 hm hn HD.out hr1 (enters_of Try.func86 (by kernel_rfl) rfl) (fun x w' hb => ?_)).mono ?_
  · have hN : 0 < m * n := Nat.lt_of_le_of_lt (Nat.zero_le _) x.2
    have h1 : x.1 % m < m := Nat.mod_lt _ (Nat.pos_of_mul_pos_right hN)
    have h2 : x.1 / m < n := Nat.div_lt_of_lt_mul x.2
    exact only1_any (x.1 % m) (x.1 / m) m n c2 (p + 1 + 1 + 1 + 1) (p + 1 + 1 + 1 + 1 + 1) (p + 1) (p + 1 + 1) (p + 1 + 1 + 1) A2 E w' (by omega) (by omega) hm hn HE.out ((hr2.below hb (Nat.le_refl _)).more hb.size) (hB4.below hb hB4.lt) (hB5.below hb hB5.lt) (hB1.below hb hB1.lt) (hB2.below hb hB2.lt) (hB3.below hb hB3.lt)
  · rintro e w2 ⟨rfl, hb2⟩
    go_wp2
    go_ret
    exact ⟨rfl, by rw [HP.out]; exact hbw.trans (hb2.mono hsz)⟩

theorem onlyN_zero {m n : Nat} {D E : List Bool} (hm : m ≤ 96) (hn : n ≤ 96) (hE : E.length = m * n) (h : ∀ k, k < m * n → D.getD k false = true → E.getD k false = true) : onlyN m n D E = 0 := by
  unfold onlyN
  rw [List.length_eq_zero_iff, List.filter_eq_nil_iff]
  intro k hk
  have hk1 : D.getD k.1 false = true := by
    have := (List.mem_filter.1 hk).2
    simpa using this
  have hN : 0 < m * n := Nat.lt_of_le_of_lt (Nat.zero_le _) k.2
  have h1 : k.1 % m < m := Nat.mod_lt _ (Nat.pos_of_mul_pos_right hN)
  have h2 : k.1 / m < n := Nat.div_lt_of_lt_mul k.2
  have he := h k.1 k.2 hk1
  have hix : (((k.1 / m : Nat) : Int) * (m : Int) + ((k.1 % m : Nat) : Int)).toNat = k.1 := by
    rw [← Int.natCast_mul, ← Int.natCast_add, Int.toNat_natCast, Nat.mul_comm]
    exact Nat.div_add_mod _ _
  have hh : hasB m n E ((k.1 % m : Nat) : Int) ((k.1 / m : Nat) : Int) = true := by
    unfold hasB
    rw [hix, he]
    generalize k.1 % m = x at *
    generalize k.1 / m = y at *
    simp only [Bool.and_true, Bool.and_eq_true, decide_eq_true_eq]
    omega
  rw [hh]
  decide
set_option maxRecDepth 100000 in
theorem within_any (m n c c2 : Nat) (A A2 : Option Addr) (D E : List Bool) (w : World) (hm : m ≤ 96) (hn : n ≤ 96) (hD : D.length = m * n) (hE : E.length = m * n) (hr : Rd Value.bool w w.heap.size A D) (hr2 : Rd Value.bool w w.heap.size A2 E) (h0 : onlyN m n D E = 0) :
    Calls Try.prog 37 #[.agg #[.int .i64 m, .int .i64 n, .slice A (m * n) c], .agg #[.int .i64 m, .int .i64 n, .slice A2 (m * n) c2]] w fun e w' =>
      e = .returned (.bool true) ∧ Below w.heap.size w w' := by
  have CO := Lib.hid (fun w h h' => only_any m n c c2 A A2 D E w hm hn hD hE h h')
  rw [h0] at CO
  have HR := Lib.hid hr
  have HR2 := Lib.hid hr2
  clear hr hr2 hD hE h0
  go_enter Try.func37, Try.ntmps37
  go_wp2_with fail
  refine calls_world (fun W0 hW0 => ?_)
  obtain ⟨hB0, hB1, hb0, hs0⟩ := new2 hW0
  clear hW0
  refine (CO.out _ ((HR.out.below hb0 (Nat.le_refl _)).more hb0.size) ((HR2.out.below hb0 (Nat.le_refl _)).more hb0.size)).mono ?_
  rintro e w1 ⟨rfl, hb1⟩
  go_wp2
  go_ret
  exact ⟨rfl, hb0.trans (hb1.mono hb0.size)⟩
end Go.Proofs.Ytlanefdeeanpnaa
