/-
  Layer 7's sanity: true; and its helpers drawn and Same. Conditions: none. (Printed by gensane7.py.)
-/
import Derived.Test.YtlanefdeeanpnaaDots7b
import Derived.Test.YtlanefdeeanpnaaPolyOwn
import Derived.Test.YtlanefdeeanpnaaPolygon
import Derived.Test.YtlanefdeeanpnaaText2
import Derived.Test.YtlanefdeeanpnaaSame
namespace Go.Proofs.Ytlanefdeeanpnaa
set_option linter.unusedVariables false
set_option linter.unusedSimpArgs false
open Go.RowKit
attribute [local go_sem ↓] Go.wp_at_zero Go.wp_at_succ

set_option maxHeartbeats 2000000 in
set_option maxRecDepth 100000 in
theorem drawn_yes (L Bt : Int) (m n : Nat) (A : Option Addr) (c : Nat) (D : List Bool) (s : ByteArray) (w : World) (hm : m ≤ 96) (hn : n ≤ 96) (hD : D.length = m * n) (hs : txP m n D n = s) (hr : Rd Value.bool w w.heap.size A D) :
    Calls Try.prog 87 #[.agg #[.int .i64 L, .int .i64 Bt, .int .i64 m, .int .i64 n, .slice A (m * n) c], .int .i64 0, .int .i64 L, .int .i64 Bt, .string s] w fun e w' => e = .returned (.bool true) ∧ Below w.heap.size w w' := by
  have CT := Lib.hid (fun w h => bitmap_Text m n A c D w hm hn hD h)
  rw [hs] at CT
  have HR := Lib.hid hr
  clear hr hs hD
  have hmn : m * n ≤ 9216 := Nat.mul_le_mul hm hn
  generalize m * n = mn at *
  go_enter Try.func87, Try.ntmps87
  go_wp2_with fail
  refine calls_world (fun W0 hW0 => ?_)
  obtain ⟨hB0, hbw, hsz⟩ := new1 hW0
  clear hW0
  refine (CT.out _ ((HR.out.below hbw (Nat.le_refl _)).more hbw.size)).mono ?_
  rintro e w1 ⟨rfl, hb1⟩
  go_wp2
  go_ret
  exact ⟨rfl, hbw.trans (hb1.mono hbw.size)⟩

def same7 (L B W H : Int) (D : List Bool) (L' B' W' H' : Int) (D' : List Bool) : Bool := decide (L = L') && decide (B = B') && sameB W H D W' H' D'
set_option maxHeartbeats 2000000 in
set_option maxRecDepth 100000 in
theorem ref07_Same (L B W H : Int) (A : Option Addr) (c : Nat) (D : List Bool) (L' B' W' H' : Int) (A' : Option Addr) (c' : Nat) (D' : List Bool) (w : World) (hn : D.length ≤ 9223372036854775807) (hn' : D'.length ≤ 9223372036854775807)
    (hr : Rd Value.bool w w.heap.size A D) (hr' : Rd Value.bool w w.heap.size A' D') :
    Calls Try.prog 60 #[.agg #[.int .i64 L, .int .i64 B, .int .i64 W, .int .i64 H, .slice A D.length c], .agg #[.int .i64 L', .int .i64 B', .int .i64 W', .int .i64 H', .slice A' D'.length c']] w fun e w' => e = .returned (.bool (same7 L B W H D L' B' W' H' D')) ∧ Below w.heap.size w w' := by
  have CS := Lib.hid (fun w h h' => ref04_Same W H A c D W' H' A' c' D' w hn hn' h h')
  have HR := Lib.hid hr
  have HR' := Lib.hid hr'
  clear hr hr'
  by_cases h1 : L = L'
  · by_cases h2 : B = B'
    · subst h1 h2
      have hv := Lib.hid (show same7 L B W H D L B W' H' D' = sameB W H D W' H' D' by simp [same7])
      generalize sameB W H D W' H' D' = sb at *
      go_enter Try.func60, Try.ntmps60
      go_wp2_with fail
      refine calls_world (fun W0 hW0 => ?_)
      obtain ⟨hB0, hB1, hbw, hsz⟩ := new2 hW0
      clear hW0
      refine (CS.out _ ((HR.out.below hbw (Nat.le_refl _)).more hbw.size) ((HR'.out.below hbw (Nat.le_refl _)).more hbw.size)).mono ?_
      rintro e w1 ⟨rfl, hb1⟩
      go_wp2
      go_ret
      exact ⟨ret_bool hv.out.symm, hbw.trans (hb1.mono hbw.size)⟩
    · have hv := Lib.hid (show same7 L B W H D L' B' W' H' D' = false by simp [same7, h2])
      subst h1
      clear CS HR HR'
      go_enter Try.func60, Try.ntmps60
      go_wp2
      go_ret
      exact ⟨ret_bool hv.out.symm, ((Below.refl _ _).alloc (Nat.le_refl _) _).alloc (by simp) _⟩
  · have hv := Lib.hid (show same7 L B W H D L' B' W' H' D' = false by simp [same7, h1])
    clear CS HR HR'
    go_enter Try.func60, Try.ntmps60
    go_wp2
    go_ret
    exact ⟨ret_bool hv.out.symm, ((Below.refl _ _).alloc (Nat.le_refl _) _).alloc (by simp) _⟩

theorem rdps_one {w : World} {q c : Nat} {A : Option Addr} {xs : List Pt} (hQ : Blk w q 96 #[.slice A xs.length c]) (hr : RdPt w w.heap.size A xs) : RdPs w w.heap.size (some ⟨q, 0, none⟩) [xs] := fun _ =>
  ⟨q, 0, rfl, hQ.lt, fun k hk => by
    obtain rfl : k = 0 := by simpa using hk
    exact ⟨A, c, hQ.cell 0, hr⟩⟩
theorem RdPt.grown {w w' : World} {q : Nat} {t : TypeId} {x : Value} {A : Option Addr} {xs : List Pt} {row : Option Nat} (h : RdPt w w.heap.size A xs) (hQ : Blk w q t #[x]) (hg : w.grownBy w' row) (hrow : row = some q) (hx : ∀ z : Int, x ≠ .int .i64 z := by intro z; exact fun h => by cases h) : RdPt w' w.heap.size A xs := fun h0 => by
  subst hrow
  obtain ⟨b, o, e, hlt, hc⟩ := h h0
  refine ⟨b, o, e, hlt, fun k hk => ?_⟩
  obtain ⟨h1, h2, h3⟩ := hc k hk
  have hne : b ≠ q := by
    intro he
    subst he
    rw [hQ.cell] at h1
    match o + k * 3, h1 with
    | 0, h1 => exact hx _ (by simpa using h1)
    | n + 1, h1 => simp at h1
  have hb := hg.block b hlt (fun e => hne (by injection e))
  exact ⟨(World.cell?_of_block (w := w) hb).trans h1, (World.cell?_of_block (w := w) hb).trans h2, (World.cell?_of_block (w := w) hb).trans h3⟩
def sqP : List Pt := [(0, 0, false), (8, 0, false), (8, 8, false), (0, 8, false)]
def bkP : List Pt := [(0, 8, false), (8, 8, false), (8, 0, false), (0, 0, false)]
def trP : List Pt := [(0, 0, false), (16, 0, false), (0, 16, false)]
theorem sane7_sq (q : Nat) (w : World) (hQ : Blk w q 3 #[.int .i64 0, .int .i64 0, .int .i64 8, .int .i64 0, .int .i64 8, .int .i64 8, .int .i64 0, .int .i64 8]) : Calls Try.prog 62 #[.slice (some ⟨q, 0, none⟩) 8 8] w fun e w' => ∃ (A' : Option Addr) (c' : Nat), e = .returned (.slice A' 4 c') ∧ RdPt w' w'.heap.size A' sqP ∧ Below w.heap.size w w' :=
  polygon_any [0, 0, 8, 0, 8, 8, 0, 8] (some ⟨q, 0, none⟩) 8 w (by decide) ((show Own (Value.int .i64) 3 w q [0, 0, 8, 0, 8, 8, 0, 8] from hQ).rd hQ.lt)
theorem sane7_bk (q : Nat) (w : World) (hQ : Blk w q 3 #[.int .i64 0, .int .i64 8, .int .i64 8, .int .i64 8, .int .i64 8, .int .i64 0, .int .i64 0, .int .i64 0]) : Calls Try.prog 62 #[.slice (some ⟨q, 0, none⟩) 8 8] w fun e w' => ∃ (A' : Option Addr) (c' : Nat), e = .returned (.slice A' 4 c') ∧ RdPt w' w'.heap.size A' bkP ∧ Below w.heap.size w w' :=
  polygon_any [0, 8, 8, 8, 8, 0, 0, 0] (some ⟨q, 0, none⟩) 8 w (by decide) ((show Own (Value.int .i64) 3 w q [0, 8, 8, 8, 8, 0, 0, 0] from hQ).rd hQ.lt)
theorem sane7_tr (q : Nat) (w : World) (hQ : Blk w q 3 #[.int .i64 0, .int .i64 0, .int .i64 16, .int .i64 0, .int .i64 0, .int .i64 16]) : Calls Try.prog 62 #[.slice (some ⟨q, 0, none⟩) 6 6] w fun e w' => ∃ (A' : Option Addr) (c' : Nat), e = .returned (.slice A' 3 c') ∧ RdPt w' w'.heap.size A' trP ∧ Below w.heap.size w w' :=
  polygon_any [0, 0, 16, 0, 0, 16] (some ⟨q, 0, none⟩) 6 w (by decide) ((show Own (Value.int .i64) 3 w q [0, 0, 16, 0, 0, 16] from hQ).rd hQ.lt)
theorem sane7_w1 (q c : Nat) (w : World) (hr : RdPs w w.heap.size (some ⟨q, 0, none⟩) [sqP]) : Calls Try.prog 54 #[.slice (some ⟨q, 0, none⟩) 1 c, .int .i64 4, .int .i64 4] w fun e w' => e = .returned (.int .i64 (-1)) ∧ Below w.heap.size w w' := by
  have h := raster_Winding [sqP] (some ⟨q, 0, none⟩) c 4 4 w (by decide) (by decide) hr
  rw [show windV [sqP] 4 4 = -1 by kernel_rfl] at h
  exact h
theorem sane7_w2 (q c : Nat) (w : World) (hr : RdPs w w.heap.size (some ⟨q, 0, none⟩) [sqP]) : Calls Try.prog 54 #[.slice (some ⟨q, 0, none⟩) 1 c, .int .i64 0, .int .i64 4] w fun e w' => e = .returned (.int .i64 (0)) ∧ Below w.heap.size w w' := by
  have h := raster_Winding [sqP] (some ⟨q, 0, none⟩) c 0 4 w (by decide) (by decide) hr
  rw [show windV [sqP] 0 4 = 0 by kernel_rfl] at h
  exact h
theorem sane7_w3 (q c : Nat) (w : World) (hr : RdPs w w.heap.size (some ⟨q, 0, none⟩) [sqP]) : Calls Try.prog 54 #[.slice (some ⟨q, 0, none⟩) 1 c, .int .i64 8, .int .i64 4] w fun e w' => e = .returned (.int .i64 (-1)) ∧ Below w.heap.size w w' := by
  have h := raster_Winding [sqP] (some ⟨q, 0, none⟩) c 8 4 w (by decide) (by decide) hr
  rw [show windV [sqP] 8 4 = -1 by kernel_rfl] at h
  exact h
theorem sane7_w4 (q c : Nat) (w : World) (hr : RdPs w w.heap.size (some ⟨q, 0, none⟩) [sqP]) : Calls Try.prog 54 #[.slice (some ⟨q, 0, none⟩) 1 c, .int .i64 4, .int .i64 0] w fun e w' => e = .returned (.int .i64 (-1)) ∧ Below w.heap.size w w' := by
  have h := raster_Winding [sqP] (some ⟨q, 0, none⟩) c 4 0 w (by decide) (by decide) hr
  rw [show windV [sqP] 4 0 = -1 by kernel_rfl] at h
  exact h
theorem sane7_w5 (q c : Nat) (w : World) (hr : RdPs w w.heap.size (some ⟨q, 0, none⟩) [sqP]) : Calls Try.prog 54 #[.slice (some ⟨q, 0, none⟩) 1 c, .int .i64 4, .int .i64 8] w fun e w' => e = .returned (.int .i64 (0)) ∧ Below w.heap.size w w' := by
  have h := raster_Winding [sqP] (some ⟨q, 0, none⟩) c 4 8 w (by decide) (by decide) hr
  rw [show windV [sqP] 4 8 = 0 by kernel_rfl] at h
  exact h
theorem sane7_w6 (q c : Nat) (w : World) (hr : RdPs w w.heap.size (some ⟨q, 0, none⟩) [bkP]) : Calls Try.prog 54 #[.slice (some ⟨q, 0, none⟩) 1 c, .int .i64 4, .int .i64 4] w fun e w' => e = .returned (.int .i64 (1)) ∧ Below w.heap.size w w' := by
  have h := raster_Winding [bkP] (some ⟨q, 0, none⟩) c 4 4 w (by decide) (by decide) hr
  rw [show windV [bkP] 4 4 = 1 by kernel_rfl] at h
  exact h
theorem sane7_w7 (q c : Nat) (w : World) (hr : RdPs w w.heap.size (some ⟨q, 0, none⟩) [bkP, sqP]) : Calls Try.prog 54 #[.slice (some ⟨q, 0, none⟩) 2 c, .int .i64 4, .int .i64 4] w fun e w' => e = .returned (.int .i64 (0)) ∧ Below w.heap.size w w' := by
  have h := raster_Winding [bkP, sqP] (some ⟨q, 0, none⟩) c 4 4 w (by decide) (by decide) hr
  rw [show windV [bkP, sqP] 4 4 = 0 by kernel_rfl] at h
  exact h
theorem sane7_w8 (q c : Nat) (w : World) (hr : RdPs w w.heap.size (some ⟨q, 0, none⟩) [sqP]) : Calls Try.prog 54 #[.slice (some ⟨q, 0, none⟩) 1 c, .int .i64 4, .int .i64 1073741825] w fun e w' => e = .returned (.int .i64 (0)) ∧ Below w.heap.size w w' := by
  have h := raster_Winding [sqP] (some ⟨q, 0, none⟩) c 4 1073741825 w (by decide) (by decide) hr
  rw [show windV [sqP] 4 1073741825 = 0 by kernel_rfl] at h
  exact h
theorem sane7_c1 (q c : Nat) (w : World) (hr : RdPs w w.heap.size (some ⟨q, 0, none⟩) [sqP]) : Calls Try.prog 56 #[.slice (some ⟨q, 0, none⟩) 1 c, .int .i64 8, .int .i64 0, .int .i64 0] w fun e w' => e = .returned (.int .i64 4) ∧ Below w.heap.size w w' := by
  have h := raster_Cover [sqP] (some ⟨q, 0, none⟩) c 8 0 0 w (by decide) (by decide) hr
  rw [show coverV [sqP] 8 0 0 = 4 by kernel_rfl] at h
  exact h
theorem sane7_c2 (q c : Nat) (w : World) (hr : RdPs w w.heap.size (some ⟨q, 0, none⟩) [sqP]) : Calls Try.prog 56 #[.slice (some ⟨q, 0, none⟩) 1 c, .int .i64 8, .int .i64 1, .int .i64 0] w fun e w' => e = .returned (.int .i64 0) ∧ Below w.heap.size w w' := by
  have h := raster_Cover [sqP] (some ⟨q, 0, none⟩) c 8 1 0 w (by decide) (by decide) hr
  rw [show coverV [sqP] 8 1 0 = 0 by kernel_rfl] at h
  exact h
theorem sane7_c3 (q c : Nat) (w : World) (hr : RdPs w w.heap.size (some ⟨q, 0, none⟩) [sqP]) : Calls Try.prog 56 #[.slice (some ⟨q, 0, none⟩) 1 c, .int .i64 16, .int .i64 0, .int .i64 0] w fun e w' => e = .returned (.int .i64 1) ∧ Below w.heap.size w w' := by
  have h := raster_Cover [sqP] (some ⟨q, 0, none⟩) c 16 0 0 w (by decide) (by decide) hr
  rw [show coverV [sqP] 16 0 0 = 1 by kernel_rfl] at h
  exact h
theorem sane7_c4 (q c : Nat) (w : World) (hr : RdPs w w.heap.size (some ⟨q, 0, none⟩) [sqP]) : Calls Try.prog 56 #[.slice (some ⟨q, 0, none⟩) 1 c, .int .i64 6, .int .i64 0, .int .i64 0] w fun e w' => e = .returned (.int .i64 0) ∧ Below w.heap.size w w' := by
  have h := raster_Cover [sqP] (some ⟨q, 0, none⟩) c 6 0 0 w (by decide) (by decide) hr
  rw [show coverV [sqP] 6 0 0 = 0 by kernel_rfl] at h
  exact h
theorem sane7_d1 (q c : Nat) (w : World) (hr : RdPs w w.heap.size (some ⟨q, 0, none⟩) [sqP]) : Calls Try.prog 58 #[.slice (some ⟨q, 0, none⟩) 1 c, .int .i64 4] w fun e w' => ∃ g : Nat, e = .returned (.tuple #[.agg #[.int .i64 0, .int .i64 0, .int .i64 3, .int .i64 3, .slice (some ⟨g, 0, none⟩) 9 9], .int .i64 0]) ∧ Own Value.bool 4 w' g [true, true, false, true, true, false, false, false, false] ∧ Below w.heap.size w w' := by
  refine (Dots_yes [sqP] (some ⟨q, 0, none⟩) c 4 w (by decide) (by decide) (by decide) (by decide) (by decide) hr).mono ?_
  rintro e w' ⟨h1, _, h3⟩
  obtain ⟨g, he, hO⟩ := h1 3 3 (by kernel_rfl) (by kernel_rfl) (by decide) (by decide)
  rw [show dotL [sqP] 4 (bxL [sqP] 4) (bxB [sqP] 4) 3 3 = [true, true, false, true, true, false, false, false, false] by kernel_rfl] at hO
  rw [show bxL [sqP] 4 = 0 by kernel_rfl, show bxB [sqP] 4 = 0 by kernel_rfl] at he
  exact ⟨g, he, hO, h3⟩
theorem sane7_d2 (q c : Nat) (w : World) (hr : RdPs w w.heap.size (some ⟨q, 0, none⟩) [sqP]) : Calls Try.prog 58 #[.slice (some ⟨q, 0, none⟩) 1 c, .int .i64 16] w fun e w' => ∃ g : Nat, e = .returned (.tuple #[.agg #[.int .i64 0, .int .i64 0, .int .i64 1, .int .i64 1, .slice (some ⟨g, 0, none⟩) 1 1], .int .i64 0]) ∧ Own Value.bool 4 w' g [false] ∧ Below w.heap.size w w' := by
  refine (Dots_yes [sqP] (some ⟨q, 0, none⟩) c 16 w (by decide) (by decide) (by decide) (by decide) (by decide) hr).mono ?_
  rintro e w' ⟨h1, _, h3⟩
  obtain ⟨g, he, hO⟩ := h1 1 1 (by kernel_rfl) (by kernel_rfl) (by decide) (by decide)
  rw [show dotL [sqP] 16 (bxL [sqP] 16) (bxB [sqP] 16) 1 1 = [false] by kernel_rfl] at hO
  rw [show bxL [sqP] 16 = 0 by kernel_rfl, show bxB [sqP] 16 = 0 by kernel_rfl] at he
  exact ⟨g, he, hO, h3⟩
theorem sane7_d3 (q c : Nat) (w : World) (hr : RdPs w w.heap.size (some ⟨q, 0, none⟩) [trP]) : Calls Try.prog 58 #[.slice (some ⟨q, 0, none⟩) 1 c, .int .i64 8] w fun e w' => ∃ g : Nat, e = .returned (.tuple #[.agg #[.int .i64 0, .int .i64 0, .int .i64 3, .int .i64 3, .slice (some ⟨g, 0, none⟩) 9 9], .int .i64 0]) ∧ Own Value.bool 4 w' g [true, true, false, true, false, false, false, false, false] ∧ Below w.heap.size w w' := by
  refine (Dots_yes [trP] (some ⟨q, 0, none⟩) c 8 w (by decide) (by decide) (by decide) (by decide) (by decide) hr).mono ?_
  rintro e w' ⟨h1, _, h3⟩
  obtain ⟨g, he, hO⟩ := h1 3 3 (by kernel_rfl) (by kernel_rfl) (by decide) (by decide)
  rw [show dotL [trP] 8 (bxL [trP] 8) (bxB [trP] 8) 3 3 = [true, true, false, true, false, false, false, false, false] by kernel_rfl] at hO
  rw [show bxL [trP] 8 = 0 by kernel_rfl, show bxB [trP] 8 = 0 by kernel_rfl] at he
  exact ⟨g, he, hO, h3⟩
theorem sane7_n1 (w : World) : Calls Try.prog 58 #[.slice none 0 0, .int .i64 4] w fun e w' => e = .returned (.tuple #[zPic, .int .i64 0]) ∧ Below w.heap.size w w' :=
  Dots_no [] none 0 4 w (by decide) (by simp) 0 (.inr (.inr ⟨by decide, rfl, rfl, rfl⟩)) RdPs.nil
theorem sane7_n2 (w : World) : Calls Try.prog 58 #[.slice none 0 0, .int .i64 0] w fun e w' => e = .returned (.tuple #[zPic, .int .i64 1]) ∧ Below w.heap.size w w' :=
  Dots_no [] none 0 0 w (by decide) (by simp) 1 (.inl ⟨by decide, rfl⟩) RdPs.nil
theorem sane7_t1 (g : Nat) (w : World) (hO : Own Value.bool 4 w g [true, true, false, true, true, false, false, false, false]) : Calls Try.prog 87 #[.agg #[.int .i64 0, .int .i64 0, .int .i64 3, .int .i64 3, .slice (some ⟨g, 0, none⟩) 9 9], .int .i64 0, .int .i64 0, .int .i64 0, .string ⟨#[46, 46, 46, 10, 35, 35, 46, 10, 35, 35, 46, 10]⟩] w fun e w' => e = .returned (.bool true) ∧ Below w.heap.size w w' :=
  drawn_yes 0 0 3 3 (some ⟨g, 0, none⟩) 9 [true, true, false, true, true, false, false, false, false] ⟨#[46, 46, 46, 10, 35, 35, 46, 10, 35, 35, 46, 10]⟩ w (by decide) (by decide) rfl (by kernel_rfl) (hO.rd hO.lt)
theorem sane7_t2 (g : Nat) (w : World) (hO : Own Value.bool 4 w g [false]) : Calls Try.prog 87 #[.agg #[.int .i64 0, .int .i64 0, .int .i64 1, .int .i64 1, .slice (some ⟨g, 0, none⟩) 1 1], .int .i64 0, .int .i64 0, .int .i64 0, .string ⟨#[46, 10]⟩] w fun e w' => e = .returned (.bool true) ∧ Below w.heap.size w w' :=
  drawn_yes 0 0 1 1 (some ⟨g, 0, none⟩) 1 [false] ⟨#[46, 10]⟩ w (by decide) (by decide) rfl (by kernel_rfl) (hO.rd hO.lt)
theorem sane7_t3 (g : Nat) (w : World) (hO : Own Value.bool 4 w g [true, true, false, true, false, false, false, false, false]) : Calls Try.prog 87 #[.agg #[.int .i64 0, .int .i64 0, .int .i64 3, .int .i64 3, .slice (some ⟨g, 0, none⟩) 9 9], .int .i64 0, .int .i64 0, .int .i64 0, .string ⟨#[46, 46, 46, 10, 35, 46, 46, 10, 35, 35, 46, 10]⟩] w fun e w' => e = .returned (.bool true) ∧ Below w.heap.size w w' :=
  drawn_yes 0 0 3 3 (some ⟨g, 0, none⟩) 9 [true, true, false, true, false, false, false, false, false] ⟨#[46, 46, 46, 10, 35, 46, 46, 10, 35, 35, 46, 10]⟩ w (by decide) (by decide) rfl (by kernel_rfl) (hO.rd hO.lt)
theorem sane7_z (w : World) : Calls Try.prog 60 #[zPic, zPic] w fun e w' => e = .returned (.bool true) ∧ Below w.heap.size w w' :=
  ref07_Same 0 0 0 0 none 0 [] 0 0 0 0 none 0 [] w (by simp) (by simp) (fun h => absurd h (by simp)) (fun h => absurd h (by simp))

set_option maxHeartbeats 8000000 in
set_option maxRecDepth 100000 in
theorem sanity07 (w : World) : Calls Try.prog 50 #[] w fun e w' => e = .returned (.bool true) ∧ Below w.heap.size w w' := by
  have Psq := Lib.hid sane7_sq
  have Pbk := Lib.hid sane7_bk
  have Ptr := Lib.hid sane7_tr
  have W1 := Lib.hid sane7_w1
  have W2 := Lib.hid sane7_w2
  have W3 := Lib.hid sane7_w3
  have W4 := Lib.hid sane7_w4
  have W5 := Lib.hid sane7_w5
  have W6 := Lib.hid sane7_w6
  have W7 := Lib.hid sane7_w7
  have W8 := Lib.hid sane7_w8
  have C1 := Lib.hid sane7_c1
  have C2 := Lib.hid sane7_c2
  have C3 := Lib.hid sane7_c3
  have C4 := Lib.hid sane7_c4
  have D1 := Lib.hid sane7_d1
  have T1 := Lib.hid sane7_t1
  have D2 := Lib.hid sane7_d2
  have T2 := Lib.hid sane7_t2
  have D3 := Lib.hid sane7_d3
  have T3 := Lib.hid sane7_t3
  have Z := Lib.hid sane7_z
  have N1 := Lib.hid sane7_n1
  have N2 := Lib.hid sane7_n2
  have HU2 := Lib.hid (Try.underlying78)
  go_enter Try.func50, Try.ntmps50
  have hbS := Below.refl w.heap.size w
  go_wp2_with fail
  refine calls_world (fun W hW => ?_)
  obtain ⟨hI, hba, hsn⟩ := new1 hW
  clear hW
  replace hbS := hbS.trans (hba.mono hbS.size)
  clear hba hsn
  refine (Psq.out _ _ hI).mono ?_
  rintro e wa ⟨A1, d1, rfl, hpS, hba⟩
  replace hbS := hbS.trans (hba.mono hbS.size)
  clear hba hI
  go_upto_region 2 with fail
  refine wp_world (fun W hW => ?_)
  obtain ⟨hJ1, hba, hsn⟩ := new1 hW
  clear hW
  replace hpS := hpS.on hba
  replace hbS := hbS.trans (hba.mono hbS.size)
  clear hba hsn
  generalize hqq : wa.heap.size = q1 at *
  clear hqq
  skip
  have hs := rdps_one hJ1 hpS
  go_wp2_with fail
  refine calls_world (fun W hW => ?_)
  obtain ⟨hI, hba, hsn⟩ := new1 hW
  clear hW
  replace hs := hs.on hba
  replace hpS := hpS.on hba
  replace hJ1 := hJ1.below hba hJ1.lt
  replace hbS := hbS.trans (hba.mono hbS.size)
  clear hba hsn
  refine (Pbk.out _ _ hI).mono ?_
  rintro e wa ⟨A2, d2, rfl, hpB, hba⟩
  replace hs := hs.on hba
  replace hpS := hpS.on hba
  replace hJ1 := hJ1.below hba hJ1.lt
  replace hbS := hbS.trans (hba.mono hbS.size)
  clear hba hI
  have hbq := hbS.size
  have hj1l := hJ1.lt
  go_upto_region 3 with fail
  refine wp_world (fun W hW => ?_)
  obtain ⟨hJ2, hba, hsn⟩ := new1 hW
  clear hW
  replace hs := hs.on hba
  replace hpS := hpS.on hba
  replace hpB := hpB.on hba
  replace hJ1 := hJ1.below hba hJ1.lt
  replace hbS := hbS.trans (hba.mono hbS.size)
  clear hba hsn
  generalize hqq : wa.heap.size = q2 at *
  clear hqq
  have hk := rdps_one hJ2 hpB
  go_wp2_with fail
  refine (W1.out _ _ _ hs).mono ?_
  rintro e wa ⟨rfl, hba⟩
  replace hs := hs.on hba
  replace hk := hk.on hba
  replace hpS := hpS.on hba
  replace hpB := hpB.on hba
  replace hJ1 := hJ1.below hba hJ1.lt
  replace hJ2 := hJ2.below hba hJ2.lt
  replace hbS := hbS.trans (hba.mono hbS.size)
  clear hba
  go_wp2_with fail
  refine (W2.out _ _ _ hs).mono ?_
  rintro e wa ⟨rfl, hba⟩
  replace hs := hs.on hba
  replace hk := hk.on hba
  replace hpS := hpS.on hba
  replace hpB := hpB.on hba
  replace hJ1 := hJ1.below hba hJ1.lt
  replace hJ2 := hJ2.below hba hJ2.lt
  replace hbS := hbS.trans (hba.mono hbS.size)
  clear hba
  go_wp2_with fail
  refine (W3.out _ _ _ hs).mono ?_
  rintro e wa ⟨rfl, hba⟩
  replace hs := hs.on hba
  replace hk := hk.on hba
  replace hpS := hpS.on hba
  replace hpB := hpB.on hba
  replace hJ1 := hJ1.below hba hJ1.lt
  replace hJ2 := hJ2.below hba hJ2.lt
  replace hbS := hbS.trans (hba.mono hbS.size)
  clear hba
  go_wp2_with fail
  refine (W4.out _ _ _ hs).mono ?_
  rintro e wa ⟨rfl, hba⟩
  replace hs := hs.on hba
  replace hk := hk.on hba
  replace hpS := hpS.on hba
  replace hpB := hpB.on hba
  replace hJ1 := hJ1.below hba hJ1.lt
  replace hJ2 := hJ2.below hba hJ2.lt
  replace hbS := hbS.trans (hba.mono hbS.size)
  clear hba
  go_wp2_with fail
  refine (W5.out _ _ _ hs).mono ?_
  rintro e wa ⟨rfl, hba⟩
  replace hs := hs.on hba
  replace hk := hk.on hba
  replace hpS := hpS.on hba
  replace hpB := hpB.on hba
  replace hJ1 := hJ1.below hba hJ1.lt
  replace hJ2 := hJ2.below hba hJ2.lt
  replace hbS := hbS.trans (hba.mono hbS.size)
  clear hba
  go_wp2_with fail
  refine (W6.out _ _ _ hk).mono ?_
  rintro e wa ⟨rfl, hba⟩
  replace hs := hs.on hba
  replace hk := hk.on hba
  replace hpS := hpS.on hba
  replace hpB := hpB.on hba
  replace hJ1 := hJ1.below hba hJ1.lt
  replace hJ2 := hJ2.below hba hJ2.lt
  replace hbS := hbS.trans (hba.mono hbS.size)
  clear hba
  have hwz := hbS.size
  have hownK : wa.ownsRow w.heap.size 96 1 (.slice (some ⟨q2, 0, none⟩) 1 1) 1 ([((A2, d2, bkP) : Row)].map rowV) := ⟨rfl, .inr ⟨q2, 1, _, rfl, hbq, hJ2, by omega, by unfold maxLen; omega, rfl, rfl⟩⟩
  go_wp2_with (refine wpList_append_row_g _ (by rfl) _ _ _ rfl w.heap.size HU2.out _ [((A2, d2, bkP) : Row)] rfl hownK q1 1 (A1, d1, sqP) rfl hJ1 (by simp) (by omega) ?_)
  intro A9 c9 w9 hown9 hgrow
  have hpB9 := hpB.grown hJ2 hgrow rfl
  have hpS9 := hpS.grown hJ2 hgrow rfl
  have hJ19 := hJ1.grown hgrow (by intro e; simp [Value.ownBlock] at e; omega)
  replace hbS := below_grown hbS hgrow hbS.size (fun k hk => by simp [Value.ownBlock] at hk; omega)
  have hz9 := hgrow.size
  replace hpS := hpS9.more hz9
  replace hpB := hpB9.more hz9
  replace hJ1 := hJ19
  replace hs := rdps_one hJ1 hpS
  have hsk : RdPs w9 w9.heap.size A9 [bkP, sqP] := own_rdps (rs := [((A2, d2, bkP) : Row), (A1, d1, sqP)]) hown9 (fun r hr => by
    simp only [List.mem_cons, List.not_mem_nil, or_false] at hr
    rcases hr with rfl | rfl
    · exact hpB
    · exact hpS)
  obtain ⟨g9, cap9, hv9, _, _⟩ := hown9.form (by simp)
  injection hv9 with hv1 _ hv3
  subst hv1 hv3
  clear hk hJ2 hpB9 hpS9 hJ19 hown9 hownK hgrow hz9 hwz hbq hj1l
  go_wp2_with fail
  refine (W7.out _ _ _ hsk).mono ?_
  rintro e wa ⟨rfl, hba⟩
  replace hs := hs.on hba
  replace hsk := hsk.on hba
  replace hpS := hpS.on hba
  replace hpB := hpB.on hba
  replace hJ1 := hJ1.below hba hJ1.lt
  replace hbS := hbS.trans (hba.mono hbS.size)
  clear hba
  clear hsk
  go_wp2_with fail
  refine (W8.out _ _ _ hs).mono ?_
  rintro e wa ⟨rfl, hba⟩
  replace hs := hs.on hba
  replace hpS := hpS.on hba
  replace hpB := hpB.on hba
  replace hJ1 := hJ1.below hba hJ1.lt
  replace hbS := hbS.trans (hba.mono hbS.size)
  clear hba
  go_wp2_with fail
  refine (C1.out _ _ _ hs).mono ?_
  rintro e wa ⟨rfl, hba⟩
  replace hs := hs.on hba
  replace hpS := hpS.on hba
  replace hpB := hpB.on hba
  replace hJ1 := hJ1.below hba hJ1.lt
  replace hbS := hbS.trans (hba.mono hbS.size)
  clear hba
  go_wp2_with fail
  refine (C2.out _ _ _ hs).mono ?_
  rintro e wa ⟨rfl, hba⟩
  replace hs := hs.on hba
  replace hpS := hpS.on hba
  replace hpB := hpB.on hba
  replace hJ1 := hJ1.below hba hJ1.lt
  replace hbS := hbS.trans (hba.mono hbS.size)
  clear hba
  go_wp2_with fail
  refine (C3.out _ _ _ hs).mono ?_
  rintro e wa ⟨rfl, hba⟩
  replace hs := hs.on hba
  replace hpS := hpS.on hba
  replace hpB := hpB.on hba
  replace hJ1 := hJ1.below hba hJ1.lt
  replace hbS := hbS.trans (hba.mono hbS.size)
  clear hba
  go_wp2_with fail
  refine (C4.out _ _ _ hs).mono ?_
  rintro e wa ⟨rfl, hba⟩
  replace hs := hs.on hba
  replace hpS := hpS.on hba
  replace hpB := hpB.on hba
  replace hJ1 := hJ1.below hba hJ1.lt
  replace hbS := hbS.trans (hba.mono hbS.size)
  clear hba
  go_wp2_with fail
  refine (D1.out _ _ _ hs).mono ?_
  rintro e wa ⟨g1, rfl, hO1, hba⟩
  replace hs := hs.on hba
  replace hpS := hpS.on hba
  replace hpB := hpB.on hba
  replace hJ1 := hJ1.below hba hJ1.lt
  replace hbS := hbS.trans (hba.mono hbS.size)
  clear hba
  go_upto_region 7 with fail
  refine wp_world (fun W hW => ?_)
  obtain ⟨hP6, hba, hsn⟩ := new1 hW
  clear hW
  replace hs := hs.on hba
  replace hpS := hpS.on hba
  replace hpB := hpB.on hba
  replace hJ1 := hJ1.below hba hJ1.lt
  replace hO1 := hO1.below hba hO1.lt
  replace hbS := hbS.trans (hba.mono hbS.size)
  clear hba hsn
  generalize hqq : wa.heap.size = q6 at *
  clear hqq
  go_wp2_with fail
  refine (D2.out _ _ _ hs).mono ?_
  rintro e wa ⟨g2, rfl, hO2, hba⟩
  replace hs := hs.on hba
  replace hpS := hpS.on hba
  replace hpB := hpB.on hba
  replace hJ1 := hJ1.below hba hJ1.lt
  replace hP6 := hP6.below hba hP6.lt
  replace hO1 := hO1.below hba hO1.lt
  replace hbS := hbS.trans (hba.mono hbS.size)
  clear hba
  go_upto_region 8 with fail
  refine wp_world (fun W hW => ?_)
  obtain ⟨hP8, hba, hsn⟩ := new1 hW
  clear hW
  replace hs := hs.on hba
  replace hpS := hpS.on hba
  replace hpB := hpB.on hba
  replace hJ1 := hJ1.below hba hJ1.lt
  replace hP6 := hP6.below hba hP6.lt
  replace hO1 := hO1.below hba hO1.lt
  replace hO2 := hO2.below hba hO2.lt
  replace hbS := hbS.trans (hba.mono hbS.size)
  clear hba hsn
  generalize hqq : wa.heap.size = q8 at *
  clear hqq
  go_wp2_with fail
  refine calls_world (fun W hW => ?_)
  obtain ⟨hI, hba, hsn⟩ := new1 hW
  clear hW
  replace hs := hs.on hba
  replace hpS := hpS.on hba
  replace hpB := hpB.on hba
  replace hJ1 := hJ1.below hba hJ1.lt
  replace hP6 := hP6.below hba hP6.lt
  replace hP8 := hP8.below hba hP8.lt
  replace hO1 := hO1.below hba hO1.lt
  replace hO2 := hO2.below hba hO2.lt
  replace hbS := hbS.trans (hba.mono hbS.size)
  clear hba hsn
  refine (Ptr.out _ _ hI).mono ?_
  rintro e wa ⟨A3, d3, rfl, hpT, hba⟩
  replace hs := hs.on hba
  replace hpS := hpS.on hba
  replace hpB := hpB.on hba
  replace hJ1 := hJ1.below hba hJ1.lt
  replace hP6 := hP6.below hba hP6.lt
  replace hP8 := hP8.below hba hP8.lt
  replace hO1 := hO1.below hba hO1.lt
  replace hO2 := hO2.below hba hO2.lt
  replace hbS := hbS.trans (hba.mono hbS.size)
  clear hba hI
  go_wp2_with fail
  refine calls_world (fun W hW => ?_)
  obtain ⟨hJ3, hba, hsn⟩ := new1 hW
  clear hW
  replace hs := hs.on hba
  replace hpS := hpS.on hba
  replace hpB := hpB.on hba
  replace hpT := hpT.on hba
  replace hJ1 := hJ1.below hba hJ1.lt
  replace hP6 := hP6.below hba hP6.lt
  replace hP8 := hP8.below hba hP8.lt
  replace hO1 := hO1.below hba hO1.lt
  replace hO2 := hO2.below hba hO2.lt
  replace hbS := hbS.trans (hba.mono hbS.size)
  clear hba hsn
  have ht3 := rdps_one hJ3 hpT
  clear hJ3
  refine (D3.out _ _ _ ht3).mono ?_
  rintro e wa ⟨g3, rfl, hO3, hba⟩
  replace hs := hs.on hba
  replace hpS := hpS.on hba
  replace hpB := hpB.on hba
  replace hpT := hpT.on hba
  replace hJ1 := hJ1.below hba hJ1.lt
  replace hP6 := hP6.below hba hP6.lt
  replace hP8 := hP8.below hba hP8.lt
  replace hO1 := hO1.below hba hO1.lt
  replace hO2 := hO2.below hba hO2.lt
  replace hbS := hbS.trans (hba.mono hbS.size)
  clear hba ht3
  go_upto_region 9 with fail
  refine wp_world (fun W hW => ?_)
  obtain ⟨hP10, hba, hsn⟩ := new1 hW
  clear hW
  replace hs := hs.on hba
  replace hpS := hpS.on hba
  replace hpB := hpB.on hba
  replace hpT := hpT.on hba
  replace hJ1 := hJ1.below hba hJ1.lt
  replace hP6 := hP6.below hba hP6.lt
  replace hP8 := hP8.below hba hP8.lt
  replace hO1 := hO1.below hba hO1.lt
  replace hO2 := hO2.below hba hO2.lt
  replace hO3 := hO3.below hba hO3.lt
  replace hbS := hbS.trans (hba.mono hbS.size)
  clear hba hsn
  generalize hqq : wa.heap.size = q10 at *
  clear hqq
  go_wp2_with fail
  refine (N1.out _).mono ?_
  rintro e wa ⟨rfl, hba⟩
  replace hs := hs.on hba
  replace hpS := hpS.on hba
  replace hpB := hpB.on hba
  replace hpT := hpT.on hba
  replace hJ1 := hJ1.below hba hJ1.lt
  replace hP6 := hP6.below hba hP6.lt
  replace hP8 := hP8.below hba hP8.lt
  replace hP10 := hP10.below hba hP10.lt
  replace hO1 := hO1.below hba hO1.lt
  replace hO2 := hO2.below hba hO2.lt
  replace hO3 := hO3.below hba hO3.lt
  replace hbS := hbS.trans (hba.mono hbS.size)
  clear hba
  go_upto_region 10 with fail
  refine wp_world (fun W hW => ?_)
  obtain ⟨hP12, hba, hsn⟩ := new1 hW
  clear hW
  replace hs := hs.on hba
  replace hpS := hpS.on hba
  replace hpB := hpB.on hba
  replace hpT := hpT.on hba
  replace hJ1 := hJ1.below hba hJ1.lt
  replace hP6 := hP6.below hba hP6.lt
  replace hP8 := hP8.below hba hP8.lt
  replace hP10 := hP10.below hba hP10.lt
  replace hO1 := hO1.below hba hO1.lt
  replace hO2 := hO2.below hba hO2.lt
  replace hO3 := hO3.below hba hO3.lt
  replace hbS := hbS.trans (hba.mono hbS.size)
  clear hba hsn
  generalize hqq : wa.heap.size = q12 at *
  clear hqq
  go_wp2_with fail
  refine (N2.out _).mono ?_
  rintro e wa ⟨rfl, hba⟩
  replace hs := hs.on hba
  replace hpS := hpS.on hba
  replace hpB := hpB.on hba
  replace hpT := hpT.on hba
  replace hJ1 := hJ1.below hba hJ1.lt
  replace hP6 := hP6.below hba hP6.lt
  replace hP8 := hP8.below hba hP8.lt
  replace hP10 := hP10.below hba hP10.lt
  replace hP12 := hP12.below hba hP12.lt
  replace hO1 := hO1.below hba hO1.lt
  replace hO2 := hO2.below hba hO2.lt
  replace hO3 := hO3.below hba hO3.lt
  replace hbS := hbS.trans (hba.mono hbS.size)
  clear hba
  go_upto_region 11 with fail
  refine wp_world (fun W hW => ?_)
  obtain ⟨hP14, hba, hsn⟩ := new1 hW
  clear hW
  replace hs := hs.on hba
  replace hpS := hpS.on hba
  replace hpB := hpB.on hba
  replace hpT := hpT.on hba
  replace hJ1 := hJ1.below hba hJ1.lt
  replace hP6 := hP6.below hba hP6.lt
  replace hP8 := hP8.below hba hP8.lt
  replace hP10 := hP10.below hba hP10.lt
  replace hP12 := hP12.below hba hP12.lt
  replace hO1 := hO1.below hba hO1.lt
  replace hO2 := hO2.below hba hO2.lt
  replace hO3 := hO3.below hba hO3.lt
  replace hbS := hbS.trans (hba.mono hbS.size)
  clear hba hsn
  generalize hqq : wa.heap.size = q14 at *
  clear hqq
  clear hs hpS hpB hpT hJ1 hP14
  obtain ⟨a0, a1, a2, a3, a4⟩ := hP6.five
  go_wp2_with fail
  refine (T1.out _ _ hO1).mono ?_
  rintro e wa ⟨rfl, hba⟩
  replace hP6 := hP6.below hba hP6.lt
  replace hP8 := hP8.below hba hP8.lt
  replace hP10 := hP10.below hba hP10.lt
  replace hP12 := hP12.below hba hP12.lt
  replace hO1 := hO1.below hba hO1.lt
  replace hO2 := hO2.below hba hO2.lt
  replace hO3 := hO3.below hba hO3.lt
  replace hbS := hbS.trans (hba.mono hbS.size)
  clear hba
  clear a0 a1 a2 a3 a4
  obtain ⟨b0, b1, b2, b3, b4⟩ := hP8.five
  go_wp2_with fail
  refine (T2.out _ _ hO2).mono ?_
  rintro e wa ⟨rfl, hba⟩
  replace hP6 := hP6.below hba hP6.lt
  replace hP8 := hP8.below hba hP8.lt
  replace hP10 := hP10.below hba hP10.lt
  replace hP12 := hP12.below hba hP12.lt
  replace hO1 := hO1.below hba hO1.lt
  replace hO2 := hO2.below hba hO2.lt
  replace hO3 := hO3.below hba hO3.lt
  replace hbS := hbS.trans (hba.mono hbS.size)
  clear hba
  clear b0 b1 b2 b3 b4
  obtain ⟨c0, c1, c2, c3, c4⟩ := hP10.five
  go_wp2_with fail
  refine (T3.out _ _ hO3).mono ?_
  rintro e wa ⟨rfl, hba⟩
  replace hP6 := hP6.below hba hP6.lt
  replace hP8 := hP8.below hba hP8.lt
  replace hP10 := hP10.below hba hP10.lt
  replace hP12 := hP12.below hba hP12.lt
  replace hO1 := hO1.below hba hO1.lt
  replace hO2 := hO2.below hba hO2.lt
  replace hO3 := hO3.below hba hO3.lt
  replace hbS := hbS.trans (hba.mono hbS.size)
  clear hba
  clear c0 c1 c2 c3 c4
  obtain ⟨d0, d1, d2, d3, d4⟩ := hP12.five
  go_wp2_with fail
  refine (Z.out _).mono ?_
  rintro e wa ⟨rfl, hba⟩
  go_wp2
  go_ret
  exact ⟨rfl, hbS.trans (hba.mono hbS.size)⟩
end Go.Proofs.Ytlanefdeeanpnaa
