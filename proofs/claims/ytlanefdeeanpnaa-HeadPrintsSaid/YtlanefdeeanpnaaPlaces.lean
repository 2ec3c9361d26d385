/-
  The places of a bitmap on a head: the iterator of the program's head package. Conditions: a head of at most 192 nozzles, a bitmap of at most 96 rows.
-/
import Derived.Test.YtlanefdeeanpnaaDots
import Derived.Test.YtlanefdeeanpnaaHead
namespace Go.Proofs.Ytlanefdeeanpnaa
set_option linter.unusedVariables false
set_option linter.unusedSimpArgs false
open Go.RowKit Go.Shelf
attribute [local go_sem] Oper.semAt_some
attribute [local go_sem ↓] Go.wp_at_zero Go.wp_at_succ

/-- places(h, b): both are boxed; the function value captures the boxes. -/
theorem places_mk (s a b c : Value) (w : World) :
    Calls Try.prog 83 #[.agg #[s], .agg #[a, b, c]] w fun e w' => e = .returned (.func (.func 105) #[] #[.pointer (some ⟨w.heap.size, 0, none⟩), .pointer (some ⟨w.heap.size + 1, 0, none⟩)]) ∧ w' = (w.alloc (.cells #[s] 59)).alloc (.cells #[a, b, c] 29) := by
  go_enter Try.func83, Try.ntmps83
  go_wp2
  go_ret
  exact ⟨by simp, rfl⟩

theorem take_fin_succ {N t : Nat} (ht : t < N) : (List.finRange N).take (t + 1) = (List.finRange N).take t ++ [⟨t, ht⟩] := by
  rw [List.take_succ_eq_append_getElem (by simpa using ht)]
  simp
theorem take_fin_all (N : Nat) : (List.finRange N).take N = List.finRange N := List.take_of_length_le (by simp)

set_option maxRecDepth 100000 in
set_option maxHeartbeats 2000000 in
theorem places1_in (r l Bh Bb L m n c c2 N : Nat) (A A2 : Option Addr) (k : Nat) (hr : 2 ≤ r) (hL : L ≤ 192) (hn : n ≤ 96) (hN : N = L + 1 - n) (J Jx : List (Fin N) → World → Prop)
    (hJ : ∀ s A B, J s A → A.grownBy B none → J s B)
    (hY : ∀ pre (x : Fin N) W, J pre W → pre.length < N → YieldAt Fence.wide (r - 1) Try.prog l #[.int .i64 (x.1 : Int)] W fun e W' =>
      (e = .returned (.bool true) ∧ J (pre ++ [x]) W' ∧ KpL [Bh, Bb] W W') ∨ (e = .returned (.bool false) ∧ Jx (pre ++ [x]) W'))
    (W : World) (hBh : Blk W Bh 59 #[.slice A L c]) (hBb : Blk W Bb 29 #[.int .i64 m, .int .i64 n, .slice A2 k c2]) (h0 : J [] W) :
    CallsIn Fence.wide r Try.prog 105 #[.func (.yield l) #[] #[], .pointer (some ⟨Bh, 0, none⟩), .pointer (some ⟨Bb, 0, none⟩)] W fun e W' => (∃ v, e = .returned v) ∧
      ((∃ ys, ys = List.finRange N ∧ J ys W') ∨ (∃ pre, pre = (List.finRange N).take pre.length ∧ Jx pre W')) := by
  refine callsIn_of_wp Try.func105 rfl trivial ?_ rfl
  simp only [Try.ntmps105, List.size_toArray, List.length_cons, List.length_nil, Nat.reduceAdd, Nat.reduceSub, Array.replicate_succ, Array.replicate_zero, List.push_toArray, List.append_toArray, List.nil_append, List.cons_append]
  have HBH := Lib.hid hBh
  have HBB := Lib.hid hBb
  have HN := Lib.hid hN
  clear hBh hBb hN
  gi_wp2_with fail
  gi_loopw [4] (fun i wr => ∃ t : Nat, t ≤ N ∧ i = .int .i64 t ∧ J ((List.finRange N).take t) wr ∧ KpL [Bh, Bb] W wr) (fun i _ => N - (intOf i).toNat)
  case atStart => exact ⟨0, Nat.zero_le _, rfl, h0, KpL.refl _ _⟩
  case round =>
    obtain ⟨t, ht, rfl, hJt, hkt⟩ := hrel
    have d0 := (hkt.blk HBH.out (by simp)).cell 0
    obtain ⟨⟨b0, b1, b2⟩, _⟩ := (hkt.blk HBB.out (by simp)).three
    by_cases hlt : t < N
    · have hle : (t : Int) ≤ (L : Int) - (n : Int) := by have := HN.out; omega
      have hlen : ((List.finRange N).take t).length < N := by simp; omega
      have hS := Lib.hid (take_fin_succ hlt)
      obtain ⟨fn, tmps, assign, body, hy, hR⟩ := hY _ ⟨t, hlt⟩ wr hJt hlen
      gi_wp2
      refine ⟨fun _ => by omega, hR.mono ?_⟩
      rintro e W3 (⟨rfl, hJ3, hk3⟩ | ⟨rfl, hJx3⟩)
      · clear hy hR
        gi_wp2
        go_roundw
        case rel => exact ⟨t + 1, by omega, by go_num, by rw [hS.out]; exact hJ3, hkt.trans hk3⟩
        case measure => simp [intOf]; omega
      · clear hy hR
        gi_wp2
        refine bodyPost_ret (results_none rfl _ _ _) rfl ⟨⟨_, rfl⟩, .inr ⟨_, ?_, hJx3⟩⟩
        have e1 : (List.take t (List.finRange N) ++ [(⟨t, hlt⟩ : Fin N)]).length = t + 1 := by simp; omega
        rw [e1, hS.out]
    · have hte : t = N := by omega
      have hgt : ¬ (t : Int) ≤ (L : Int) - (n : Int) := by have := HN.out; omega
      have hJt2 := Lib.hid hJt
      rw [hte, take_fin_all] at hJt
      have hJt3 := Lib.hid hJt
      clear hJt hte
      gi_wp2
      go_end0
      first | exact ⟨⟨_, rfl⟩, .inl ⟨_, rfl, hJt3.out⟩⟩ | exact hJt3.out | exact ⟨⟨_, rfl⟩, .inl hJt3.out⟩

theorem places_stops (r Bh Bb L m n c c2 N : Nat) (A A2 : Option Addr) (k : Nat) (w : World) (hr : 2 ≤ r) (hL : L ≤ 192) (hn : n ≤ 96) (hN : N = L + 1 - n)
    (hBh : Blk w Bh 59 #[.slice A L c]) (hBb : Blk w Bb 29 #[.int .i64 m, .int .i64 n, .slice A2 k c2]) :
    SeqStopsK Fence.wide r Try.prog 105 #[.pointer (some ⟨Bh, 0, none⟩), .pointer (some ⟨Bb, 0, none⟩)] (fun x : Fin N => #[.int .i64 (x.1 : Int)]) (KpL [Bh, Bb]) (fun ys => ys = List.finRange N) (fun pre => pre = (List.finRange N).take pre.length) N w := fun l J Jx W hW hJ _ hY h0 =>
  places1_in r l Bh Bb L m n c c2 N A A2 k hr hL hn hN J Jx (fun s A B hs hg => hJ s A B none hs hg (fun r e => by cases e)) hY W (hBh.below hW hBh.lt) (hBb.below hW hBb.lt) h0
end Go.Proofs.Ytlanefdeeanpnaa
