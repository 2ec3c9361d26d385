/-
  The rows in which a bitmap has dots: a set by a map. Conditions: a well-formed bitmap whose dots are read.
-/
import Derived.Test.YtlanefdeeanpnaaBase2
import Derived.Test.YtlanefdeeanpnaaAppend
import Derived.Maps.OwnIn
import Derived.Deep.DrawnRows
import Derived.Deep.DeepMust
namespace Go.Proofs.Ytlanefdeeanpnaa
set_option linter.unusedVariables false
set_option linter.unusedSimpArgs false
open Go.RowKit Go.Maps
attribute [local go_sem ↓] Go.wp_at_zero Go.wp_at_succ

theorem key_int : Keyed Try.prog 3 := int_keyed Try.underlying3
theorem u125 : Try.prog.underlying 125 = some (.map 3 142) := by kernel_rfl
abbrev uE : Value → Option (DataW Unit × List MemPlace) := unitElem
abbrev uD : DataW Unit := .agg []
/-- The rows of the first t dots that are on. -/
def inkKeys (m : Nat) (D : List Bool) (t : Nat) : List Lit := ((List.range t).filter fun k => D.getD k false).map fun k => Lit.int .i64 ((k / m : Nat) : Int)
theorem ink_yes {m t : Nat} {D : List Bool} (h : D.getD t false = true) : inkKeys m D (t + 1) = inkKeys m D t ++ [Lit.int .i64 ((t / m : Nat) : Int)] := by
  unfold inkKeys
  rw [List.range_succ, List.filter_append, List.map_append]
  simp only [List.filter_cons, List.filter_nil, h, if_true, List.map_cons, List.map_nil]
theorem ink_no {m t : Nat} {D : List Bool} (h : D.getD t false = false) : inkKeys m D (t + 1) = inkKeys m D t := by
  unfold inkKeys
  rw [List.range_succ, List.filter_append, List.map_append]
  simp only [List.filter_cons, List.filter_nil, h, if_neg Bool.false_ne_true, List.map_nil, List.append_nil]

set_option maxRecDepth 100000 in
set_option maxHeartbeats 2000000 in
theorem inked_any (m n c : Nat) (A : Option Addr) (D : List Bool) (w : World) (hm : m ≤ 96) (hn : n ≤ 96) (hD : D.length = m * n) (hr : Rd Value.bool w w.heap.size A D) :
    Calls Try.prog 82 #[.agg #[.int .i64 m, .int .i64 n, .slice A (m * n) c]] w fun e w' =>
      ∃ bm, e = .returned (.map (some bm)) ∧ w.heap.size ≤ bm ∧ w'.ownsMap Try.prog 3 uE bm (m * n) (setOf uD (inkKeys m D (m * n))) ∧ Below w.heap.size w w' := by
  have hmn : m * n ≤ 9216 := Nat.mul_le_mul hm hn
  have hmm := @run_makeMap Try.prog
  have HR := Lib.hid hr
  have HD := Lib.hid hD
  clear hr hD
  go_enter Try.func82, Try.ntmps82
  go_wp2_with fail
  refine wp_world (fun W hW => ?_)
  have hwm : (w.alloc (.cells #[.int .i64 m, .int .i64 n, .slice A (m * n) c] 29)).heap.size = w.heap.size + 1 := by simp
  have hown0 := World.ownsMap_made (w.alloc (.cells #[.int .i64 m, .int .i64 n, .slice A (m * n) c] 29)) Try.prog 3 uE
  have hB0 : Blk W w.heap.size 29 #[.int .i64 m, .int .i64 n, .slice A (m * n) c] := by
    rw [hW]
    exact (Blk.new w _ _).alloc _
  have hbw : Below w.heap.size w W := by
    rw [hW]
    exact ((Below.refl _ _).alloc (Nat.le_refl _) _).alloc (by simp) _
  rw [← hW, hwm] at hown0
  clear hW hwm
  generalize hp : w.heap.size = p at *
  have HP := Lib.hid hp
  clear hp
  go_loopw [10] (fun i wr => ∃ t : Nat, t ≤ m * n ∧ i = .int .i64 t ∧ wr.ownsMap Try.prog 3 uE (p + 1) t (setOf uD (inkKeys m D t)) ∧ Blk wr p 29 #[.int .i64 m, .int .i64 n, .slice A (m * n) c] ∧ Below p w wr) (fun i _ => m * n - (intOf i).toNat)
  case atStart => exact ⟨0, Nat.zero_le _, rfl, hown0, hB0, hbw⟩
  case round =>
    clear hown0 hB0 hbw hmm
    obtain ⟨t, ht, rfl, hown, hB, hbr⟩ := hrel
    obtain ⟨⟨b0, b1, b2⟩, _⟩ := hB.three
    by_cases hlt : t < m * n
    · have hltD : t < D.length := by rw [HD.out]; exact hlt
      obtain ⟨g, o, hAg, hg, hc⟩ := HR.out (by omega)
      have hct := (hbr.cell (p := ⟨g, o + t, none⟩) hg).trans (hc t hltD)
      have hm0 : 0 < m := Nat.pos_of_mul_pos_right (Nat.lt_of_le_of_lt (Nat.zero_le _) hlt)
      have HY1 := Lib.hid (@ink_yes m t D)
      have HN1 := Lib.hid (@ink_no m t D)
      have hget : D.getD t false = D[t] := by rw [List.getD_eq_getElem?_getD, List.getElem?_eq_getElem hltD]; rfl
      rw [hget] at HY1 HN1
      subst hAg
      clear hc hg
      generalize D[t] = dt at *
      clear hget hltD
      cases dt with
      | false =>
        have HN2 := Lib.hid (HN1.out rfl)
        clear HY1 HN1
        go_wp2
        go_roundw
        case rel => exact ⟨t + 1, by omega, by go_num, by rw [HN2.out]; exact hown.mono (Nat.le_succ _), hB, hbr⟩
        case measure => simp [intOf]; omega
      | true =>
        have HY2 := Lib.hid (HY1.out rfl)
        clear HN1 HY1
        have hyt : t / m ≤ 9216 := Nat.le_trans (Nat.div_le_self _ _) (by omega)
        obtain ⟨ky, hky⟩ : ∃ ky : Nat, ky = t / m := ⟨_, rfl⟩
        have hyi : (t : Int).tdiv (m : Int) = (ky : Int) := by rw [Int.tdiv_eq_ediv_of_nonneg (by omega), hky, Int.natCast_ediv]
        rw [← hky] at HY2 hyt
        have hyb : IntKind.i64.wrap (ky : Int) = (ky : Int) := IntWalk.i64_in _ (by omega)
        clear hky
        have hm1 : ¬ m = 0 := by omega
        have hmi : (0 : Int) < (m : Int) := by omega
        go_wp2_with (first
          | (at_mapUpdate; go_must (refine wpList_mapUpdate_own _ rfl _ _ _ 125 rfl 3 142 key_int u125 uE (p + 1) t _ rfl hown (by unfold maxLen; omega) _ _ _ rfl rfl (keyOf_int_mk Try.underlying3 (WalkArith.wf_i64 (by omega))) uD [] unitElem_mk ?_); intro w1 hown1 hgrow1)
          | go_in)
        go_roundw
        case rel => exact ⟨t + 1, by omega, by go_num, by rw [HY2.out, setOf_snoc]; exact hown1, hB.grown hgrow1 (by simp), hbr.grown hgrow1 (by have := hB.lt; omega) (fun j hj => by cases hj; omega)⟩
        case measure => simp [intOf]; omega
    · have hte : t = m * n := by omega
      subst hte
      go_wp2
      go_ret
      exact ⟨_, rfl, by rw [HP.out]; omega, hown, by rw [HP.out]; exact hbr⟩
end Go.Proofs.Ytlanefdeeanpnaa
