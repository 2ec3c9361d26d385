/-
  The dots of a bitmap, one after the other: the iterator of the program's bitmap package. Conditions: a well-formed bitmap whose dots are read.
-/
import Derived.RangeFuncNested
import Derived.RangeFuncBound
import Derived.RangeFuncCalls
import Derived.RangeFuncLeaves
import Derived.Shelf.Abstract
import Derived.Shelf.RegionOpen
import Derived.WalkKit
import Derived.OwnWalkIn
import Derived.TacticsInMore
import Derived.LoopNIn
import Derived.LoopIn
import Derived.Test.YtlanefdeeanpnaaGet
import Derived.Test.YtlanefdeeanpnaaAppend
import Derived.Deep.DrawnRows
namespace Go.Proofs.Ytlanefdeeanpnaa
set_option linter.unusedVariables false
set_option linter.unusedSimpArgs false
open Go.RowKit Go.Shelf
attribute [local go_sem] Oper.semAt_some
attribute [local go_sem ↓] Go.wp_at_zero Go.wp_at_succ

/-- The first t dots that are on. -/
def onTo (N : Nat) (D : List Bool) (t : Nat) : List (Fin N) := ((List.finRange N).take t).filter fun k => D.getD k.1 false
def onL (N : Nat) (D : List Bool) : List (Fin N) := (List.finRange N).filter fun k => D.getD k.1 false
theorem onTo_zero (N : Nat) (D : List Bool) : onTo N D 0 = [] := rfl
theorem onTo_all (N : Nat) (D : List Bool) : onTo N D N = onL N D := by unfold onTo onL; rw [List.take_of_length_le (by simp)]
theorem onTo_yes {N : Nat} {D : List Bool} {t : Nat} (ht : t < N) (h : D.getD t false = true) : onTo N D (t + 1) = onTo N D t ++ [⟨t, ht⟩] := by
  unfold onTo
  rw [List.take_succ_eq_append_getElem (by simpa using ht), List.filter_append]
  simp only [List.getElem_finRange, List.filter_cons, List.filter_nil, Fin.cast_mk, h, if_true]
theorem onTo_no {N : Nat} {D : List Bool} {t : Nat} (ht : t < N) (h : D.getD t false = false) : onTo N D (t + 1) = onTo N D t := by
  unfold onTo
  rw [List.take_succ_eq_append_getElem (by simpa using ht), List.filter_append]
  simp only [List.getElem_finRange, List.filter_cons, List.filter_nil, Fin.cast_mk, h, if_neg Bool.false_ne_true, List.append_nil]
theorem onTo_len (N : Nat) (D : List Bool) (t : Nat) : (onTo N D t).length ≤ t := by
  unfold onTo
  refine Nat.le_trans (List.length_filter_le _ _) ?_
  simp only [List.length_take]
  omega

/-- The blocks of ks lie as they lay. -/
def KpL (ks : List Nat) (A B : World) : Prop := A.heap.size ≤ B.heap.size ∧ ∀ k ∈ ks, B.heap[k]? = A.heap[k]?
section
variable {ks : List Nat} {A B C w : World}
theorem KpL.refl (ks : List Nat) (w : World) : KpL ks w w := ⟨Nat.le_refl _, fun _ _ => rfl⟩
theorem KpL.trans (h : KpL ks A B) (k : KpL ks B C) : KpL ks A C := ⟨Nat.le_trans h.1 k.1, fun x hx => (k.2 x hx).trans (h.2 x hx)⟩
theorem kpL_t {ks : List Nat} {A B C : World} (h : KpL ks A B) (k : KpL ks B C) : KpL ks A C := h.trans k
theorem kpL_b (hk : ∀ k ∈ ks, k < w.heap.size) (W : World) (l : Nat) (o o' : Obj) (hl : w.heap.size ≤ l) (h : W.heap[l]? = some o) (_ : o.isCells = false) (_ : o.isWalk = false) : KpL ks W (W.putObj l o') :=
  ⟨by simp, fun k hk' => World.putObj_heap_other (fun e => by have := hk k hk'; omega)⟩
theorem KpL.grown {row : Option Nat} (hg : A.grownBy B row) (hk : ∀ k ∈ ks, k < A.heap.size) (hr : ∀ k ∈ ks, some k ≠ row) : KpL ks A B := ⟨hg.size, fun k hk' => hg.block k (hk k hk') (hr k hk')⟩
theorem KpL.below {n : Nat} (hb : Below n A B) (hk : ∀ k ∈ ks, k < n) : KpL ks A B := ⟨hb.size, fun k hk' => hb.block k (hk k hk')⟩
theorem KpL.kp {l : List Nat} (hb : Kp l A B) (hk : ∀ k ∈ ks, k < A.heap.size ∧ k ∉ l) : KpL ks A B := ⟨hb.size, fun k hk' => hb.block k (hk k hk').1 (hk k hk').2⟩
theorem KpL.blk {g : Nat} {t : TypeId} {cs : Array Value} (h : KpL ks A B) (hb : Blk A g t cs) (hg : g ∈ ks) : Blk B g t cs := (h.2 g hg).trans hb
theorem KpL.cell (h : KpL ks A B) {g i : Nat} (hg : g ∈ ks) : B.cell? ⟨g, i, none⟩ = A.cell? ⟨g, i, none⟩ := World.cell?_of_block (h.2 g hg)
end
theorem grownBy_of_below {w w' : World} (hb : Below w.heap.size w w') : w.grownBy w' none := ⟨hb.os, hb.tape, hb.output, hb.size, fun k hk _ => hb.block k hk⟩

set_option maxRecDepth 100000 in
set_option maxHeartbeats 2000000 in
theorem dots1_in (r l Bn gd o m n c : Nat) (D : List Bool) (hr : 2 ≤ r) (hm : m ≤ 96) (hn : n ≤ 96) (hm0 : 0 < m) (hn0 : 0 < n) (hD : D.length = m * n) (J Jx : List (Fin (m * n)) → World → Prop)
    (hJ : ∀ s A B, J s A → A.grownBy B none → J s B)
    (hY : ∀ pre (x : Fin (m * n)) W, J pre W → pre.length < m * n → YieldAt Fence.wide (r - 1) Try.prog l #[.agg #[.int .i64 ((x.1 % m : Nat) : Int), .int .i64 ((x.1 / m : Nat) : Int)]] W fun e W' =>
      (e = .returned (.bool true) ∧ J (pre ++ [x]) W' ∧ KpL [Bn, gd] W W') ∨ (e = .returned (.bool false) ∧ Jx (pre ++ [x]) W'))
    (W : World) (hBn : Blk W Bn 29 #[.int .i64 m, .int .i64 n, .slice (some ⟨gd, o, none⟩) (m * n) c]) (hgd : gd < W.heap.size) (hc : ∀ k (h : k < D.length), W.cell? ⟨gd, o + k, none⟩ = some (.bool D[k])) (h0 : J [] W) :
    CallsIn Fence.wide r Try.prog 103 #[.func (.yield l) #[] #[], .pointer (some ⟨Bn, 0, none⟩)] W fun e W' => (∃ v, e = .returned v) ∧
      ((∃ ys, ys = onL (m * n) D ∧ J ys W') ∨ (∃ pre, True ∧ Jx pre W')) := by
  have hmn : m * n ≤ 9216 := Nat.mul_le_mul hm hn
  refine callsIn_of_wp Try.func103 rfl trivial ?_ rfl
  simp only [Try.ntmps103, List.size_toArray, List.length_cons, List.length_nil, Nat.reduceAdd, Nat.reduceSub, Array.replicate_succ, Array.replicate_zero, List.push_toArray, List.append_toArray, List.nil_append, List.cons_append]
  obtain ⟨⟨b0, b1, b2⟩, _⟩ := hBn.three
  gi_wp2_with fail
  have hck : bmCheck m n (m * n) = 0 := by simp [bmCheck, sideB]; omega
  refine ⟨trivial, fun _ => by omega, (callsIn_wide.2 (bitmap_Check m n (some ⟨gd, o, none⟩) (m * n) c _ (by omega))).mono ?_⟩
  rintro e w1 ⟨rfl, hb1⟩
  rw [hck]
  clear hck
  have hBl := hBn.lt
  have hk1 : KpL [Bn, gd] W w1 := KpL.below hb1 (by simp; omega)
  have hJ1 := hJ _ _ _ h0 (grownBy_of_below hb1)
  obtain ⟨⟨d0, d1, d2⟩, _⟩ := (hk1.blk hBn (by simp)).three
  have HC := Lib.hid hc
  have HBN := Lib.hid hBn
  have HDl := Lib.hid hD
  clear b0 b1 b2 hc hBn hD
  gi_wp2_with fail
  gi_loopw [11] (fun i wr => ∃ t : Nat, t ≤ m * n ∧ i = .int .i64 t ∧ J (onTo (m * n) D t) wr ∧ KpL [Bn, gd] W wr) (fun i _ => m * n - (intOf i).toNat)
  case atStart => exact ⟨0, Nat.zero_le _, rfl, hJ1, hk1⟩
  case round =>
    clear hJ1 hk1 d0 d1 d2
    obtain ⟨t, ht, rfl, hJt, hkt⟩ := hrel
    obtain ⟨⟨d0, d1, d2⟩, _⟩ := (hkt.blk HBN.out (by simp)).three
    by_cases hlt : t < m * n
    · have hcell := (hkt.cell (g := gd) (i := o + t) (by simp)).trans (HC.out t (by rw [HDl.out]; exact hlt))
      have hcast : ((t : Int) < (m : Int) * (n : Int)) := by rw [← Int.natCast_mul]; omega
      have hge : (0 : Int) ≤ (t : Int) := by omega
      have HY1 := Lib.hid (@onTo_yes (m * n) D t hlt)
      have HN1 := Lib.hid (@onTo_no (m * n) D t hlt)
      have hget : D.getD t false = D[t]'(by rw [HDl.out]; exact hlt) := by rw [List.getD_eq_getElem?_getD, List.getElem?_eq_getElem (by rw [HDl.out]; exact hlt)]; rfl
      rw [hget] at HY1 HN1
      generalize D[t]'(by rw [HDl.out]; exact hlt) = dt at *
      have hlen : (onTo (m * n) D t).length < m * n := by have := onTo_len (m * n) D t; omega
      clear hget
      cases dt with
      | false =>
        have HN2 := Lib.hid (HN1.out rfl)
        clear HY1 HN1
        gi_wp2_with fail
        refine wpIn_wide.2 ?_
        refine wp_region_L 14 (fun w' => Below wr.heap.size wr w') (by kernel_rfl) ?_ (fun Wd hWd hS => ?_)
        · (try dsimp only)
          exact (Below.refl _ _).drew
        (try dsimp only at hS)
        refine wpT_take 0 (v := ?_) rfl (by kernel_rfl) (by kernel_rfl) (fun _ _ _ h => h) hS (Or.inl ⟨rfl, ?_⟩) ?_
        rotate_left
        · (intro w' hSw; (try dsimp only at hSw); go_simp; first | done | with_reducible rfl)
        (try simp only [Act.put, List.setIfInBounds_toArray, List.set_cons_zero, List.set_cons_succ])
        refine wpT_take 1 (v := ?_) rfl (by kernel_rfl) (by kernel_rfl) (fun _ _ _ h => h) hS (Or.inl ⟨rfl, ?_⟩) ?_
        rotate_left
        · (intro w' hSw; (try dsimp only at hSw); go_simp; first | done | with_reducible rfl)
        (try simp only [Act.put, List.setIfInBounds_toArray, List.set_cons_zero, List.set_cons_succ])
        refine wpT_take 2 rfl (by kernel_rfl) (by kernel_rfl) (fun _ _ _ h => h) hS (Or.inr ⟨rfl, rfl⟩) ?_
        (try simp only [Act.put, List.setIfInBounds_toArray, List.set_cons_zero, List.set_cons_succ])
        refine wpT_take 3 rfl (by kernel_rfl) (by kernel_rfl) (fun _ _ _ h => h) hS (Or.inr ⟨rfl, rfl⟩) ?_
        (try simp only [Act.put, List.setIfInBounds_toArray, List.set_cons_zero, List.set_cons_succ])
        refine wpT_take 4 rfl (by kernel_rfl) (by kernel_rfl) (fun _ _ _ h => h) hS (Or.inr ⟨rfl, rfl⟩) ?_
        (try simp only [Act.put, List.setIfInBounds_toArray, List.set_cons_zero, List.set_cons_succ])
        refine wpT_take 5 rfl (by kernel_rfl) (by kernel_rfl) (fun _ _ _ h => h) hS (Or.inr ⟨rfl, rfl⟩) ?_
        (try simp only [Act.put, List.setIfInBounds_toArray, List.set_cons_zero, List.set_cons_succ])
        refine wpT_take 6 rfl (by kernel_rfl) (by kernel_rfl) (fun _ _ _ h => h) hS (Or.inr ⟨rfl, rfl⟩) ?_
        (try simp only [Act.put, List.setIfInBounds_toArray, List.set_cons_zero, List.set_cons_succ])
        refine wpT_take 7 rfl (by kernel_rfl) (by kernel_rfl) (fun _ _ _ h => h) hS (Or.inr ⟨rfl, rfl⟩) ?_
        (try simp only [Act.put, List.setIfInBounds_toArray, List.set_cons_zero, List.set_cons_succ])
        refine wpT_take 8 rfl (by kernel_rfl) (by kernel_rfl) (fun _ _ _ h => h) hS (Or.inr ⟨rfl, rfl⟩) ?_
        (try simp only [Act.put, List.setIfInBounds_toArray, List.set_cons_zero, List.set_cons_succ])
        refine wpT_take 9 rfl (by kernel_rfl) (by kernel_rfl) (fun _ _ _ h => h) hS (Or.inr ⟨rfl, rfl⟩) ?_
        (try simp only [Act.put, List.setIfInBounds_toArray, List.set_cons_zero, List.set_cons_succ])
        refine wpT_take 10 rfl (by kernel_rfl) (by kernel_rfl) (fun _ _ _ h => h) hS (Or.inr ⟨rfl, rfl⟩) ?_
        (try simp only [Act.put, List.setIfInBounds_toArray, List.set_cons_zero, List.set_cons_succ])
        refine wpT_take 11 rfl (by kernel_rfl) (by kernel_rfl) (fun _ _ _ h => h) hS (Or.inr ⟨rfl, rfl⟩) ?_
        (try simp only [Act.put, List.setIfInBounds_toArray, List.set_cons_zero, List.set_cons_succ])
        refine wpT_take 12 rfl (by kernel_rfl) (by kernel_rfl) (fun _ _ _ h => h) hS (Or.inr ⟨rfl, rfl⟩) ?_
        (try simp only [Act.put, List.setIfInBounds_toArray, List.set_cons_zero, List.set_cons_succ])
        refine wpT_take 13 rfl (by kernel_rfl) (by kernel_rfl) (fun _ _ _ h => h) hS (Or.inr ⟨rfl, rfl⟩) ?_
        (try simp only [Act.put, List.setIfInBounds_toArray, List.set_cons_zero, List.set_cons_succ])
        refine wpT_tail (by rfl) (by kernel_rfl) ?_
        (try simp only [List.drop_succ_cons, List.drop_zero])
        go_wp2_with fail
        gi_wp2
        go_roundw
        case rel => exact ⟨t + 1, by omega, by go_num, by rw [HN2.out]; exact hJ _ _ _ hJt (grownBy_of_below hS), hkt.trans (KpL.below hS (by have := hkt.1; simp; omega))⟩
        case measure => simp [intOf]; omega
      | true =>
        have HY2 := Lib.hid (HY1.out rfl)
        clear HN1 HY1
        gi_wp2_with fail
        have hYt := hY _ ⟨t, hlt⟩ wr.drew (hJ _ _ _ hJt (grownBy_of_below (Below.refl _ _).drew)) hlen
        dsimp only at hYt
        obtain ⟨kx, hkx⟩ : ∃ kx : Nat, kx = t % m := ⟨_, rfl⟩
        obtain ⟨ky, hky⟩ : ∃ ky : Nat, ky = t / m := ⟨_, rfl⟩
        have hxi : (t : Int).tmod (m : Int) = (kx : Int) := by rw [Int.tmod_eq_emod_of_nonneg (by omega), hkx, Int.natCast_emod]
        have hyi : (t : Int).tdiv (m : Int) = (ky : Int) := by rw [Int.tdiv_eq_ediv_of_nonneg (by omega), hky, Int.natCast_ediv]
        have hyb : IntKind.i64.wrap (ky : Int) = (ky : Int) := IntWalk.i64_in _ (by have := Nat.div_le_self t m; omega)
        rw [← hkx, ← hky] at hYt
        clear hkx hky
        obtain ⟨fn, tmps, assign, body, hy, hR⟩ := hYt
        have hm1 : ¬ m = 0 := by omega
        have hmi : (0 : Int) < (m : Int) := by omega
        have hmo : Try.prog.follows .mixedOrders = true := by kernel_rfl
        have hR2 := hR.mono (R' := fun e W' => ∃ bv : Bool, e = .returned (.bool bv) ∧ Hid (bv = true → J (onTo (m * n) D t ++ [⟨t, hlt⟩]) W' ∧ KpL [Bn, gd] wr.drew W') ∧ Hid (bv = false → Jx (onTo (m * n) D t ++ [⟨t, hlt⟩]) W')) (fun e W' h => by
          rcases h with ⟨rfl, h1, h2⟩ | ⟨rfl, h1⟩
          · exact ⟨true, rfl, Lib.hid (fun _ => ⟨h1, h2⟩), Lib.hid (fun h => by cases h)⟩
          · exact ⟨false, rfl, Lib.hid (fun h => by cases h), Lib.hid (fun _ => h1)⟩)
        clear hR
        gi_region_with_o ((refine ⟨fun _ => (by omega), hR2.mono ?_⟩; rintro e W3 ⟨bv, rfl, hbt, hbf⟩))
        all_goals clear hR2 hy
        all_goals
          cases bv
          · gi_wp2
            refine bodyPost_ret (results_none rfl _ _ _) rfl ⟨⟨_, rfl⟩, .inr ?_⟩
            first | exact ⟨_, trivial, hbf.out (by trivial)⟩ | exact ⟨_, hbf.out (by trivial)⟩
          · gi_wp2
            go_roundw
            case rel => exact ⟨t + 1, by omega, by go_num, by rw [HY2.out]; exact (hbt.out (by trivial)).1, (hkt.trans (KpL.refl _ _)).trans (hbt.out (by trivial)).2⟩
            case measure => simp [intOf]; omega
    · have hte : t = m * n := by omega
      subst hte
      rw [onTo_all] at hJt
      gi_wp2
      go_end0
      exact ⟨⟨_, rfl⟩, .inl ⟨_, rfl, hJt⟩⟩

/-- dots(b): the bitmap is boxed; the function value captures the box. -/
theorem dots_mk (v : Value) (a b c : Value) (w : World) (hv : v = .agg #[a, b, c]) :
    Calls Try.prog 77 #[.agg #[a, b, c]] w fun e w' => e = .returned (.func (.func 103) #[] #[.pointer (some ⟨w.heap.size, 0, none⟩)]) ∧ w' = w.alloc (.cells #[a, b, c] 29) := by
  go_enter Try.func77, Try.ntmps77
  go_wp2
  go_ret
  exact ⟨rfl, rfl⟩

theorem dots_stops (r Bn gd o m n c : Nat) (D : List Bool) (w : World) (hr : 2 ≤ r) (hm : m ≤ 96) (hn : n ≤ 96) (hm0 : 0 < m) (hn0 : 0 < n) (hD : D.length = m * n)
    (hBn : Blk w Bn 29 #[.int .i64 m, .int .i64 n, .slice (some ⟨gd, o, none⟩) (m * n) c]) (hgd : gd < w.heap.size) (hc : ∀ k (h : k < D.length), w.cell? ⟨gd, o + k, none⟩ = some (.bool D[k])) :
    SeqStopsK Fence.wide r Try.prog 103 #[.pointer (some ⟨Bn, 0, none⟩)] (fun x : Fin (m * n) => #[.agg #[.int .i64 ((x.1 % m : Nat) : Int), .int .i64 ((x.1 / m : Nat) : Int)]]) (KpL [Bn, gd]) (fun ys => ys = onL (m * n) D) (fun _ => True) (m * n) w := fun l J Jx W hW hJ _ hY h0 =>
  dots1_in r l Bn gd o m n c D hr hm hn hm0 hn0 hD J Jx (fun s A B hs hg => hJ s A B none hs hg (fun r e => by cases e)) hY W (hBn.below hW hBn.lt) (Nat.lt_of_lt_of_le hgd hW.size) (fun k h => (hW.cell (p := ⟨gd, o + k, none⟩) hgd).trans (hc k h)) h0
set_option maxRecDepth 100000 in
set_option maxHeartbeats 2000000 in
theorem dots0_in (r l Bn m n c : Nat) (A : Option Addr) (hr : 2 ≤ r) (hm : m ≤ 96) (hn : n ≤ 96) (h0 : m * n = 0) (J : World → Prop) (hJ : ∀ A B, J A → A.grownBy B none → J B)
    (W : World) (hBn : Blk W Bn 29 #[.int .i64 m, .int .i64 n, .slice A (m * n) c]) (hJ0 : J W) :
    CallsIn Fence.wide r Try.prog 103 #[.func (.yield l) #[] #[], .pointer (some ⟨Bn, 0, none⟩)] W fun e W' => (∃ v, e = .returned v) ∧ J W' := by
  refine callsIn_of_wp Try.func103 rfl trivial ?_ rfl
  simp only [Try.ntmps103, List.size_toArray, List.length_cons, List.length_nil, Nat.reduceAdd, Nat.reduceSub, Array.replicate_succ, Array.replicate_zero, List.push_toArray, List.append_toArray, List.nil_append, List.cons_append]
  have H0 := Lib.hid h0
  clear h0
  have hmn : m * n ≤ 9216 := Nat.mul_le_mul hm hn
  obtain ⟨⟨b0, b1, b2⟩, _⟩ := hBn.three
  gi_wp2_with fail
  have hck : bmCheck m n (m * n) = 0 := by simp [bmCheck, sideB]; omega
  refine ⟨trivial, fun _ => by omega, (callsIn_wide.2 (bitmap_Check m n A (m * n) c _ (by omega))).mono ?_⟩
  rintro e w1 ⟨rfl, hb1⟩
  rw [hck]
  clear hck
  have hJ1 := hJ _ _ hJ0 (grownBy_of_below hb1)
  obtain ⟨⟨d0, d1, d2⟩, _⟩ := (hBn.below hb1 hBn.lt).three
  rw [H0.out] at d2
  clear b0 b1 b2
  gi_wp2_with fail
  gi_loopw [11] (fun i wr => i = .int .i64 0 ∧ J wr) (fun _ _ => 0)
  case atStart => exact ⟨rfl, hJ1⟩
  case round =>
    obtain ⟨rfl, hJs⟩ := hrel
    gi_wp2
    go_end0
    exact ⟨⟨_, rfl⟩, hJs⟩

theorem onL_empty {N : Nat} (D : List Bool) (h : N = 0) : onL N D = [] := by subst h; rfl
/-- The iterator's contract, whatever the bitmap's sides. -/
theorem dots_stops_any (r Bn m n c : Nat) (A : Option Addr) (D : List Bool) (w : World) (hr : 2 ≤ r) (hm : m ≤ 96) (hn : n ≤ 96) (hD : D.length = m * n)
    (hBn : Blk w Bn 29 #[.int .i64 m, .int .i64 n, .slice A (m * n) c]) (hrd : Rd Value.bool w w.heap.size A D) :
    ∃ gd : Nat, gd < w.heap.size ∧ (0 < m * n → ∃ o, A = some ⟨gd, o, none⟩) ∧ (m * n = 0 → gd = Bn) ∧
      SeqStopsK Fence.wide r Try.prog 103 #[.pointer (some ⟨Bn, 0, none⟩)] (fun x : Fin (m * n) => #[.agg #[.int .i64 ((x.1 % m : Nat) : Int), .int .i64 ((x.1 / m : Nat) : Int)]]) (KpL [Bn, gd]) (fun ys => ys = onL (m * n) D) (fun _ => True) (m * n) w := by
  by_cases hN : 0 < m * n
  · obtain ⟨gd, o, rfl, hgd, hc⟩ := hrd (by rw [hD]; exact hN)
    exact ⟨gd, hgd, fun _ => ⟨o, rfl⟩, fun h => by omega, dots_stops r Bn gd o m n c D w hr hm hn (Nat.pos_of_mul_pos_right hN) (Nat.pos_of_mul_pos_left hN) hD hBn hgd hc⟩
  · have h0 : m * n = 0 := by omega
    refine ⟨Bn, hBn.lt, fun h => absurd h hN, fun _ => rfl, fun l J Jx W hW hJ _ hY hJ0 => ?_⟩
    refine (dots0_in r l Bn m n c A hr hm hn h0 (J []) (fun X Y hs hg => hJ [] X Y none hs hg (fun r e => by cases e)) W (hBn.below hW hBn.lt) hJ0).mono ?_
    rintro e W' ⟨h1, h2⟩
    exact ⟨h1, .inl ⟨[], (onL_empty D h0).symm, h2⟩⟩
end Go.Proofs.Ytlanefdeeanpnaa
