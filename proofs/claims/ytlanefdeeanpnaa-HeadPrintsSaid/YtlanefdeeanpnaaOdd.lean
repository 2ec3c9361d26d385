/-
  Contract of Odd of layer 4's reference. Conditions: the sides lie within a million, and so does the number of dots, which are read below the heap's size.
-/
import Derived.Test.YtlanefdeeanpnaaAppend
import Derived.Test.YtlanefdeeanpnaaDraw
import Derived.Test.YtlanefdeeanpnaaL04
import Derived.Deep.RegionLaw
import Derived.Deep.DeepCutAuto
import Derived.Deep.DrawnRows
namespace Go.Proofs.Ytlanefdeeanpnaa
set_option linter.unusedVariables false
set_option linter.unusedSimpArgs false
open Go.RowKit
attribute [local go_sem ↓] Go.wp_at_zero Go.wp_at_succ

def oddW (W q : Int) : Int := if q % 6 = 0 then W + 1 else if q % 6 = 4 then -W else W
def oddH (H q : Int) : Int := if q % 6 = 1 then q else if q % 6 = 4 then -H else H
def oddD (D : List Bool) (q : Int) : List Bool := if q % 6 = 2 then D ++ [true] else if q % 6 = 3 then D.take (D.length / 2) else D
theorem oddD_len (D : List Bool) (q : Int) : (oddD D q).length ≤ D.length + 1 := by
  unfold oddD
  split
  · simp
  · split
    · simp; omega
    · omega

/-- A bitmap is returned, and its dots are read. -/
def BmOut (W H : Int) (D : List Bool) (w : World) (e : Ending) (w' : World) : Prop :=
  ∃ A' c', e = .returned (.agg #[.int .i64 W, .int .i64 H, .slice A' D.length c']) ∧ Rd Value.bool w' w'.heap.size A' D ∧ Below w.heap.size w w'

theorem odd_S {W0 w' : World} {p : Nat} {a b c : Value} (hB : Blk W0 p 29 #[a, b, c]) (hb : Below W0.heap.size W0 w') :
    w'.cell? ⟨p, 0, none⟩ = some a ∧ w'.cell? ⟨p, 1, none⟩ = some b ∧ w'.cell? ⟨p, 2, none⟩ = some c ∧ Below W0.heap.size W0 w' := by
  have := hB.below hb hB.lt
  exact ⟨this.cell 0, this.cell 1, this.cell 2, hb⟩

theorem odd_fin {W0 w : World} {q5 c' : Nat} {A' : Option Addr} {D : List Bool} {W H : Int} {x y z : Value} (hQ : Blk w q5 29 #[x, y, z])
    (hown : w.ownsRow W0.heap.size 4 1 (.slice A' D.length c') D.length (D.map Value.bool)) (hne : (Value.slice A' D.length c').ownBlock ≠ some q5) (hb : Below W0.heap.size W0 w) (hq : W0.heap.size ≤ q5) :
    ∃ (q : Nat) (A : Option Addr) (c : Nat), Value.pointer (some ⟨q5, 0, none⟩) = .pointer (some ⟨q, 0, none⟩) ∧ Blk (((w.setCell ⟨q5, 0, none⟩ (.int .i64 W)).setCell ⟨q5, 1, none⟩ (.int .i64 H)).setCell ⟨q5, 2, none⟩ (.slice A' D.length c')) q 29 #[.int .i64 W, .int .i64 H, .slice A D.length c] ∧
      (((w.setCell ⟨q5, 0, none⟩ (.int .i64 W)).setCell ⟨q5, 1, none⟩ (.int .i64 H)).setCell ⟨q5, 2, none⟩ (.slice A' D.length c')).ownsRow W0.heap.size 4 1 (.slice A D.length c) D.length (D.map Value.bool) ∧ (Value.slice A D.length c).ownBlock ≠ some q ∧
      Below W0.heap.size W0 (((w.setCell ⟨q5, 0, none⟩ (.int .i64 W)).setCell ⟨q5, 1, none⟩ (.int .i64 H)).setCell ⟨q5, 2, none⟩ (.slice A' D.length c')) ∧ W0.heap.size ≤ q := by
  generalize hW : ((w.setCell ⟨q5, 0, none⟩ (.int .i64 W)).setCell ⟨q5, 1, none⟩ (.int .i64 H)).setCell ⟨q5, 2, none⟩ (.slice A' D.length c') = W'
  obtain ⟨h1, h2⟩ := store3 hW.symm hQ
  refine ⟨q5, A', c', rfl, h1, hown.kept (row := some q5) ⟨h2.os, h2.tape, h2.output, h2.size, fun k hk hn => h2.block k hk (by simpa using hn)⟩ (.inr hne), hne, hb.trans (h2.to_below hb.size (by simpa using hq)), hq⟩

theorem own_app_ne {A A2 : Option Addr} {n m c c2 q5 H : Nat} (hat : (Value.slice A2 m c2).ownBlock = (Value.slice A n c).ownBlock ∨ (Value.slice A2 m c2).ownBlock = some H) (hne : (Value.slice A n c).ownBlock ≠ some q5) (hq : q5 ≠ H) (k : Nat := m) : (Value.slice A2 k c2).ownBlock ≠ some q5 := by
  have e : (Value.slice A2 k c2).ownBlock = (Value.slice A2 m c2).ownBlock := by cases A2 <;> rfl
  rw [e]
  intro h
  rw [h] at hat
  rcases hat with h1 | h1
  · exact hne h1.symm
  · injection h1 with h1; exact hq h1
theorem odd_ret {w w1 W9 : World} {b0 p n c' : Nat} {A' : Option Addr} {DD : List Bool} {x y z a1 a2 a3 : Value} (hW9 : W9 = ((w1.setCell ⟨p + 1, 0, none⟩ x).setCell ⟨p + 1, 1, none⟩ y).setCell ⟨p + 1, 2, none⟩ z)
    (hB1 : Blk w1 (p + 1) 29 #[a1, a2, a3]) (hown : w1.ownsRow b0 4 1 (.slice A' n c') n (DD.map Value.bool)) (hp : p + 1 < b0) (hb : Below p w w1) :
    Blk W9 (p + 1) 29 #[x, y, z] ∧ Rd Value.bool W9 W9.heap.size A' DD ∧ Below p w W9 := by
  obtain ⟨h1, h2⟩ := store3 hW9 hB1
  have h3 := own_kp hown h2 (by intro k hk; have := (hown.lt k hk).1; simp; omega)
  exact ⟨h1, own_rd h3, hb.trans (h2.to_below (by have := hB1.lt; omega) (by simp))⟩

set_option maxHeartbeats 2000000 in
set_option maxRecDepth 100000 in
theorem ref04_Odd (W H : Int) (A : Option Addr) (c : Nat) (D : List Bool) (q : Int) (w : World) (hW : -1000000 ≤ W ∧ W ≤ 1000000) (hH : -1000000 ≤ H ∧ H ≤ 1000000) (hD : D.length ≤ 1000000) (hr : Rd Value.bool w w.heap.size A D) :
    Calls Try.prog 22 #[.agg #[.int .i64 W, .int .i64 H, .slice A D.length c], .int .i64 q] w (BmOut (oddW W q) (oddH H q) (oddD D q) w) := by
  obtain ⟨i0, hi0, hy0, hy1, hy2⟩ := info_parts info_bool
  have HR := Lib.hid hr
  clear hr
  obtain ⟨hW1, hW2⟩ := hW
  obtain ⟨hH1, hH2⟩ := hH
  go_enter Try.func22, Try.ntmps22
  go_upto_region 1 with fail
  refine wp_world (fun W0 hW0 => ?_)
  obtain ⟨hB0, hB1, hbw, hsz⟩ := new2 hW0
  clear hW0
  generalize hp : w.heap.size = p at *
  have HP := Lib.hid hp
  clear hp
  have HR0 := Lib.hid ((HR.out.below hbw (Nat.le_refl _)).more (show p ≤ W0.heap.size by omega))
  obtain ⟨⟨b0, b1, b2⟩, _⟩ := hB0.three
  go_cut [5] (fun s5 wx => ∃ (q5 : Nat) (A' : Option Addr) (c' : Nat), s5 = .pointer (some ⟨q5, 0, none⟩) ∧ Blk wx q5 29 #[.int .i64 W, .int .i64 H, .slice A' D.length c'] ∧ wx.ownsRow W0.heap.size 4 1 (.slice A' D.length c') D.length (D.map Value.bool) ∧ (Value.slice A' D.length c').ownBlock ≠ some q5 ∧ Below W0.heap.size W0 wx ∧ W0.heap.size ≤ q5)
  case first =>
    refine wp_region_L 10 (fun w' => w'.cell? ⟨p, 0, none⟩ = some (.int .i64 W) ∧ w'.cell? ⟨p, 1, none⟩ = some (.int .i64 H) ∧ w'.cell? ⟨p, 2, none⟩ = some (.slice A D.length c) ∧ Below W0.heap.size W0 w') (by kernel_rfl) ?_ (fun Wd hWd hS => ?_)
    · (try dsimp only)
      exact odd_S hB0 (Below.refl _ _).drew
    (try dsimp only at hS)
    refine wpT_take 0 (v := ?_) rfl (by kernel_rfl) (by kernel_rfl) (fun _ _ _ h => h) hS (Or.inl ⟨rfl, ?_⟩) ?_
    rotate_left
    · (intro w' hSw; (try dsimp only at hSw); go_simp; first | done | with_reducible rfl)
    (try simp only [Act.put, List.setIfInBounds_toArray, List.set_cons_zero, List.set_cons_succ])
    refine wpT_take 1 (v := ?_) rfl (by kernel_rfl) (by kernel_rfl) (fun _ _ _ h => h) hS (Or.inl ⟨rfl, ?_⟩) ?_
    rotate_left
    · (intro w' hSw; (try dsimp only at hSw); go_simp; first | done | with_reducible rfl)
    (try simp only [Act.put, List.setIfInBounds_toArray, List.set_cons_zero, List.set_cons_succ])
    refine wpT_take 2 (v := ?_) rfl (by kernel_rfl) (by kernel_rfl) (fun _ _ _ h => h) hS (Or.inl ⟨rfl, ?_⟩) ?_
    rotate_left
    · (intro w' hSw; (try dsimp only at hSw); go_simp; first | done | with_reducible rfl)
    (try simp only [Act.put, List.setIfInBounds_toArray, List.set_cons_zero, List.set_cons_succ])
    refine wpT_take 3 (v := ?_) rfl (by kernel_rfl) (by kernel_rfl) (fun _ _ _ h => h) hS (Or.inl ⟨rfl, ?_⟩) ?_
    rotate_left
    · (intro w' hSw; (try dsimp only at hSw); go_simp; first | done | with_reducible rfl)
    (try simp only [Act.put, List.setIfInBounds_toArray, List.set_cons_zero, List.set_cons_succ])
    refine wpT_take 5 (v := ?_) rfl (by kernel_rfl) (by kernel_rfl) (fun _ _ _ h => h) hS (Or.inl ⟨rfl, ?_⟩) ?_
    rotate_left
    · (intro w' hSw; (try dsimp only at hSw); go_simp; first | done | with_reducible rfl)
    (try simp only [Act.put, List.setIfInBounds_toArray, List.set_cons_zero, List.set_cons_succ])
    refine wpT_take 6 (v := ?_) rfl (by kernel_rfl) (by kernel_rfl) (fun _ _ _ h => h) hS (Or.inl ⟨rfl, ?_⟩) ?_
    rotate_left
    · (intro w' hSw; (try dsimp only at hSw); go_simp; first | done | with_reducible rfl)
    (try simp only [Act.put, List.setIfInBounds_toArray, List.set_cons_zero, List.set_cons_succ])
    refine wpT_two 4 9 rfl rfl (by kernel_rfl) (fun K hK => ?_) (fun K hK => ?_)
    · skip
      go_simp
      refine k_world (fun Wa hWa => ?_)
      have hS4 := hS.2.2.2.size
      obtain ⟨ge, eq, hE, hbE, hsE⟩ := new1n hWa
      clear hWa
      try rw [eq]
      have hge : W0.heap.size ≤ ge := by omega
      have hbS := hS.2.2.2.trans (hbE.mono hge)
      try have hq5e : q5 ≠ ge := by have := hQ.lt; omega
      try have hQ := hQ.below hbE (by have := hQ.lt; omega)
      refine hK.out _ _ ?_ (fun hS => ?_)
      · (try dsimp only)
        exact odd_S hB0 hbS
      clear hK K
      (try simp only [Act.put, List.setIfInBounds_toArray, List.set_cons_zero, List.set_cons_succ])
      (try dsimp only at hS)
      refine wpT_two 7 9 rfl rfl (by kernel_rfl) (fun K hK => ?_) (fun K hK => ?_)
      · skip
        refine step_append_rd _ (by rfl) _ _ _ (by rfl) W0.heap.size 4 i0 _ 1 Try.underlying27 hi0 hy0 hy1 hy2 rfl _ 0 [] (by rfl) (own_empty hE hge) A c W0.heap.size D (by rfl) (HR0.out.below hS.2.2.2 (Nat.le_refl _)) (fun _ => rfl) (by unfold maxLen; omega) (by omega) hS.2.2.2.size ?_
        intro A' c' w7 hown hgrow hat
        rw [Nat.zero_add] at hown hat
        simp only [List.nil_append] at hown
        have hbS := below_grown hS.2.2.2 hgrow hS.2.2.2.size (by intro k hk; simp [Value.ownBlock] at hk; omega)
        try have hne : (Value.slice A' D.length c').ownBlock ≠ some q5 := by (have h9 := hQ.lt; intro h8; rw [h8] at hat; simp [Value.ownBlock] at hat; omega)
        try have hQ := hQ.grown hgrow (by intro h7; simp [Value.ownBlock] at h7; exact hq5e h7)
        rw [Nat.zero_add]
        refine hK.out _ _ ?_ (fun hS => ?_)
        · (try dsimp only)
          exact odd_S hB0 hbS
        clear hK K
        (try simp only [Act.put, List.setIfInBounds_toArray, List.set_cons_zero, List.set_cons_succ])
        (try dsimp only at hS)
        refine wpT_take 8 (v := ?_) rfl (by kernel_rfl) (by kernel_rfl) (fun _ _ _ h => h) hS (Or.inl ⟨rfl, ?_⟩) ?_
        rotate_left
        · (intro w' hSw; (try dsimp only at hSw); go_simp; first | done | with_reducible rfl)
        (try simp only [Act.put, List.setIfInBounds_toArray, List.set_cons_zero, List.set_cons_succ])
        refine wpT_one 9 rfl (by kernel_rfl) (fun K hK => ?_)
        go_simp
        refine k_world (fun Wq hWq => ?_)
        have hS9 := hS.2.2.2.size
        obtain ⟨q5, eq5, hQ, hbQ, hsQ⟩ := new1n hWq
        clear hWq
        try rw [eq5]
        have hq5 : W0.heap.size ≤ q5 := by omega
        have hbS := hS.2.2.2.trans (hbQ.mono hq5)
        try have hne : (Value.slice A' D.length c').ownBlock ≠ some q5 := by (intro h8; have := (hown.lt q5 h8).2; omega)
        try have hown := own_below hown (by rw [eq5]; exact hbQ)
        try have hq5e : q5 ≠ ge := by have := hE.lt; omega
        try have hE := hE.below hbQ (by have := hE.lt; omega)
        refine hK.out _ _ ?_ (fun hS => ?_)
        · (try dsimp only)
          exact odd_S hB0 hbS
        clear hK K
        (try simp only [Act.put, List.setIfInBounds_toArray, List.set_cons_zero, List.set_cons_succ])
        (try dsimp only at hS)
        refine wpT_tail (by rfl) (by kernel_rfl) ?_
        (try simp only [List.drop_succ_cons, List.drop_zero])
        obtain ⟨⟨e0, e1, e2⟩, f0, f1, f2⟩ := hQ.three
        go_wp2
        go_meet
        exact odd_fin hQ hown hne hbS hq5
      · skip
        go_simp
        refine k_world (fun Wq hWq => ?_)
        have hS9 := hS.2.2.2.size
        obtain ⟨q5, eq5, hQ, hbQ, hsQ⟩ := new1n hWq
        clear hWq
        try rw [eq5]
        have hq5 : W0.heap.size ≤ q5 := by omega
        have hbS := hS.2.2.2.trans (hbQ.mono hq5)
        try have hne : (Value.slice A' D.length c').ownBlock ≠ some q5 := by (intro h8; have := (hown.lt q5 h8).2; omega)
        try have hown := own_below hown (by rw [eq5]; exact hbQ)
        try have hq5e : q5 ≠ ge := by have := hE.lt; omega
        try have hE := hE.below hbQ (by have := hE.lt; omega)
        refine hK.out _ _ ?_ (fun hS => ?_)
        · (try dsimp only)
          exact odd_S hB0 hbS
        clear hK K
        (try simp only [Act.put, List.setIfInBounds_toArray, List.set_cons_zero, List.set_cons_succ])
        (try dsimp only at hS)
        refine wpT_one 7 rfl (by kernel_rfl) (fun K hK => ?_)
        refine step_append_rd _ (by rfl) _ _ _ (by rfl) W0.heap.size 4 i0 _ 1 Try.underlying27 hi0 hy0 hy1 hy2 rfl _ 0 [] (by rfl) (own_empty hE hge) A c W0.heap.size D (by rfl) (HR0.out.below hS.2.2.2 (Nat.le_refl _)) (fun _ => rfl) (by unfold maxLen; omega) (by omega) hS.2.2.2.size ?_
        intro A' c' w7 hown hgrow hat
        rw [Nat.zero_add] at hown hat
        simp only [List.nil_append] at hown
        have hbS := below_grown hS.2.2.2 hgrow hS.2.2.2.size (by intro k hk; simp [Value.ownBlock] at hk; omega)
        try have hne : (Value.slice A' D.length c').ownBlock ≠ some q5 := by (have h9 := hQ.lt; intro h8; rw [h8] at hat; simp [Value.ownBlock] at hat; omega)
        try have hQ := hQ.grown hgrow (by intro h7; simp [Value.ownBlock] at h7; exact hq5e h7)
        rw [Nat.zero_add]
        refine hK.out _ _ ?_ (fun hS => ?_)
        · (try dsimp only)
          exact odd_S hB0 hbS
        clear hK K
        (try simp only [Act.put, List.setIfInBounds_toArray, List.set_cons_zero, List.set_cons_succ])
        (try dsimp only at hS)
        refine wpT_take 8 (v := ?_) rfl (by kernel_rfl) (by kernel_rfl) (fun _ _ _ h => h) hS (Or.inl ⟨rfl, ?_⟩) ?_
        rotate_left
        · (intro w' hSw; (try dsimp only at hSw); go_simp; first | done | with_reducible rfl)
        (try simp only [Act.put, List.setIfInBounds_toArray, List.set_cons_zero, List.set_cons_succ])
        refine wpT_tail (by rfl) (by kernel_rfl) ?_
        (try simp only [List.drop_succ_cons, List.drop_zero])
        obtain ⟨⟨e0, e1, e2⟩, f0, f1, f2⟩ := hQ.three
        go_wp2
        go_meet
        exact odd_fin hQ hown hne hbS hq5
    · skip
      go_simp
      refine k_world (fun Wq hWq => ?_)
      have hS9 := hS.2.2.2.size
      obtain ⟨q5, eq5, hQ, hbQ, hsQ⟩ := new1n hWq
      clear hWq
      try rw [eq5]
      have hq5 : W0.heap.size ≤ q5 := by omega
      have hbS := hS.2.2.2.trans (hbQ.mono hq5)
      try have hne : (Value.slice A' D.length c').ownBlock ≠ some q5 := by (intro h8; have := (hown.lt q5 h8).2; omega)
      try have hown := own_below hown (by rw [eq5]; exact hbQ)
      try have hq5e : q5 ≠ ge := by have := hE.lt; omega
      try have hE := hE.below hbQ (by have := hE.lt; omega)
      refine hK.out _ _ ?_ (fun hS => ?_)
      · (try dsimp only)
        exact odd_S hB0 hbS
      clear hK K
      (try simp only [Act.put, List.setIfInBounds_toArray, List.set_cons_zero, List.set_cons_succ])
      (try dsimp only at hS)
      refine wpT_one 4 rfl (by kernel_rfl) (fun K hK => ?_)
      go_simp
      refine k_world (fun Wa hWa => ?_)
      have hS4 := hS.2.2.2.size
      obtain ⟨ge, eq, hE, hbE, hsE⟩ := new1n hWa
      clear hWa
      try rw [eq]
      have hge : W0.heap.size ≤ ge := by omega
      have hbS := hS.2.2.2.trans (hbE.mono hge)
      try have hq5e : q5 ≠ ge := by have := hQ.lt; omega
      try have hQ := hQ.below hbE (by have := hQ.lt; omega)
      refine hK.out _ _ ?_ (fun hS => ?_)
      · (try dsimp only)
        exact odd_S hB0 hbS
      clear hK K
      (try simp only [Act.put, List.setIfInBounds_toArray, List.set_cons_zero, List.set_cons_succ])
      (try dsimp only at hS)
      refine wpT_one 7 rfl (by kernel_rfl) (fun K hK => ?_)
      refine step_append_rd _ (by rfl) _ _ _ (by rfl) W0.heap.size 4 i0 _ 1 Try.underlying27 hi0 hy0 hy1 hy2 rfl _ 0 [] (by rfl) (own_empty hE hge) A c W0.heap.size D (by rfl) (HR0.out.below hS.2.2.2 (Nat.le_refl _)) (fun _ => rfl) (by unfold maxLen; omega) (by omega) hS.2.2.2.size ?_
      intro A' c' w7 hown hgrow hat
      rw [Nat.zero_add] at hown hat
      simp only [List.nil_append] at hown
      have hbS := below_grown hS.2.2.2 hgrow hS.2.2.2.size (by intro k hk; simp [Value.ownBlock] at hk; omega)
      try have hne : (Value.slice A' D.length c').ownBlock ≠ some q5 := by (have h9 := hQ.lt; intro h8; rw [h8] at hat; simp [Value.ownBlock] at hat; omega)
      try have hQ := hQ.grown hgrow (by intro h7; simp [Value.ownBlock] at h7; exact hq5e h7)
      rw [Nat.zero_add]
      refine hK.out _ _ ?_ (fun hS => ?_)
      · (try dsimp only)
        exact odd_S hB0 hbS
      clear hK K
      (try simp only [Act.put, List.setIfInBounds_toArray, List.set_cons_zero, List.set_cons_succ])
      (try dsimp only at hS)
      refine wpT_take 8 (v := ?_) rfl (by kernel_rfl) (by kernel_rfl) (fun _ _ _ h => h) hS (Or.inl ⟨rfl, ?_⟩) ?_
      rotate_left
      · (intro w' hSw; (try dsimp only at hSw); go_simp; first | done | with_reducible rfl)
      (try simp only [Act.put, List.setIfInBounds_toArray, List.set_cons_zero, List.set_cons_succ])
      refine wpT_tail (by rfl) (by kernel_rfl) ?_
      (try simp only [List.drop_succ_cons, List.drop_zero])
      obtain ⟨⟨e0, e1, e2⟩, f0, f1, f2⟩ := hQ.three
      go_wp2
      go_meet
      exact odd_fin hQ hown hne hbS hq5
  case rest =>
    obtain ⟨q5, A', c', rfl, hQ, hown, hne, hb, hq5⟩ := hcut
    have hB1 := hB1.below hb hB1.lt
    have hbw := hbw.trans (hb.mono (by omega))
    have hz1 : p + 1 < q5 := by omega
    clear hB0 b0 b1 b2 HR HR0
    have hm6 : q % 6 = 0 ∨ q % 6 = 1 ∨ q % 6 = 2 ∨ q % 6 = 3 ∨ q % 6 = 4 ∨ q % 6 = 5 := by omega
    obtain ⟨⟨e0, e1, e2⟩, f0, f1, f2⟩ := hQ.three
    obtain ⟨⟨d0, d1, d2⟩, g0, g1, g2⟩ := hB1.three
    go_wp2_with fail
    refine calls_world (fun Wx hWx => ?_)
    rw [← hWx] at hQ hown hb hB1 hbw e0 e1 e2 f0 f1 f2 d0 d1 d2 g0 g1 g2
    clear hWx
    refine (Mod_any q 6 _ (by omega) (by omega)).mono ?_
    rintro e w' ⟨rfl, rfl⟩
    have hz1' : p + 1 < W0.heap.size := by omega
    rcases hm6 with h | h | h | h | h | h
    · rw [h]
      have HW := Lib.hid (show oddW W q = W + 1 by simp [oddW, h])
      have HH := Lib.hid (show oddH H q = H by simp [oddH, h])
      have HD := Lib.hid (show oddD D q = D by simp [oddD, h])
      clear h
      go_wp2
      refine bp_world (fun W9 hW9 => ?_)
      obtain ⟨hR9, hr9, hb9⟩ := odd_ret hW9 (hB1.far (p := ⟨q5, 0, none⟩) (by simp; omega) _) (own_kp hown ((Kp.refl [q5] _).set (.inl (by simp)) _ _) (by intro k hk; have : k ≠ q5 := (fun e => hne (by rw [hk, e])); simpa using this)) hz1' (below_set hbw (by omega) _)
      clear hW9
      obtain ⟨⟨d0, d1, d2⟩, g0, g1, g2⟩ := hR9.three
      refine bodyPost_ret (v := .agg #[.int .i64 (W + 1), .int .i64 H, .slice A' D.length c']) (by simp [results, Try.results22, go_sem, d0, d1, d2]) rfl ?_
      rw [HW.out, HH.out, HD.out]
      exact ⟨A', c', rfl, hr9, by rw [HP.out]; exact hb9⟩
    · rw [h]
      have HW := Lib.hid (show oddW W q = W by simp [oddW, h])
      have HH := Lib.hid (show oddH H q = q by simp [oddH, h])
      have HD := Lib.hid (show oddD D q = D by simp [oddD, h])
      clear h
      go_wp2
      refine bp_world (fun W9 hW9 => ?_)
      obtain ⟨hR9, hr9, hb9⟩ := odd_ret hW9 (hB1.far (p := ⟨q5, 1, none⟩) (by simp; omega) _) (own_kp hown ((Kp.refl [q5] _).set (.inl (by simp)) _ _) (by intro k hk; have : k ≠ q5 := (fun e => hne (by rw [hk, e])); simpa using this)) hz1' (below_set hbw (by omega) _)
      clear hW9
      obtain ⟨⟨d0, d1, d2⟩, g0, g1, g2⟩ := hR9.three
      refine bodyPost_ret (v := .agg #[.int .i64 W, .int .i64 q, .slice A' D.length c']) (by simp [results, Try.results22, go_sem, d0, d1, d2]) rfl ?_
      rw [HW.out, HH.out, HD.out]
      exact ⟨A', c', rfl, hr9, by rw [HP.out]; exact hb9⟩
    · rw [h]
      have HW := Lib.hid (show oddW W q = W by simp [oddW, h])
      have HH := Lib.hid (show oddH H q = H by simp [oddH, h])
      have HD := Lib.hid (show oddD D q = D ++ [true] by simp [oddD, h])
      clear h
      have hwx : W0.heap.size ≤ Wx.heap.size := hb.size
      have hqx := hQ.lt
      have hz2x : p + 1 < Wx.heap.size := by omega
      have hQ1 := hQ.alloc (.cells #[.bool true] 4)
      have hB11 := hB1.alloc (.cells #[.bool true] 4)
      have hbw1 := hbw.alloc (by omega) (.cells #[.bool true] 4)
      have hq5x : q5 ≠ Wx.heap.size := by omega
      go_wp2_with (at_builtin; go_must (refine wpList_append_rd _ rfl _ _ _ rfl W0.heap.size 4 i0 _ 1 Try.underlying27 hi0 hy0 hy1 hy2 rfl _ D.length _ rfl (hown.alloc _) (some ⟨Wx.heap.size, 0, none⟩) 1 (Wx.heap.size + 1) [true] rfl ((Own.new Wx 4 [true]).rd (Nat.lt_succ_self _)) (fun _ => rfl) (by unfold maxLen; simp; omega) (by simp; omega) (by simp; omega) ?_); intro A2 c2 w2 hown2 hgrow hat; go_must (have hne2 := own_app_ne hat hne (show q5 ≠ (Wx.alloc (.cells #[.bool true] 4)).heap.size by rw [World.size_alloc]; omega) (D.length + 1); have hQ2 := hQ1.grown hgrow (fun e => hne e.symm); have hB12 := hB11.grown hgrow (own_ne hown hz1'); have hbw2 := below_grown hbw1 hgrow (by simp; omega) (by intro k hk; have := (hown.lt k hk).1; omega); obtain ⟨⟨e0, e1, e2⟩, f0, f1, f2⟩ := hQ2.three; obtain ⟨⟨d0, d1, d2⟩, g0, g1, g2⟩ := hB12.three))
      refine bp_world (fun W9 hW9 => ?_)
      have hown3 : w2.ownsRow W0.heap.size 4 1 (.slice A2 (D.length + 1) c2) (D.length + 1) ((D ++ [true]).map Value.bool) := by simpa using hown2
      obtain ⟨hR9, hr9, hb9⟩ := odd_ret hW9 (hB12.far (p := ⟨q5, 2, none⟩) (by simp; omega) _) (own_kp hown3 ((Kp.refl [q5] _).set (.inl (by simp)) _ _) (by intro k hk; have : k ≠ q5 := (fun e => hne2 (by rw [← e]; exact hk)); simpa using this)) hz1' (below_set hbw2 (by omega) _)
      clear hW9
      obtain ⟨⟨d0, d1, d2⟩, g0, g1, g2⟩ := hR9.three
      refine bodyPost_ret (v := .agg #[.int .i64 W, .int .i64 H, .slice A2 (D.length + 1) c2]) (by simp [results, Try.results22, go_sem, d0, d1, d2]) rfl ?_
      rw [HW.out, HH.out, HD.out]
      exact ⟨A2, c2, by simp, hr9, by rw [HP.out]; exact hb9⟩
    · rw [h]
      have HW := Lib.hid (show oddW W q = W by simp [oddW, h])
      have HH := Lib.hid (show oddH H q = H by simp [oddH, h])
      have HD := Lib.hid (show oddD D q = D.take (D.length / 2) by simp [oddD, h])
      clear h
      have hcap := own_cap hown
      have hl1 : (0 : Int) ≤ (D.length : Int) / 2 := by omega
      have hl2 : (D.length : Int) / 2 ≤ (c' : Int) := by omega
      go_wp2
      refine bp_world (fun W9 hW9 => ?_)
      obtain ⟨hR9, hr9, hb9⟩ := odd_ret hW9 (hB1.far (p := ⟨q5, 2, none⟩) (by simp; omega) _) (own_kp (n := D.length) hown ((Kp.refl [q5] _).set (.inl (by simp)) _ _) (by intro k hk; have : k ≠ q5 := (fun e => hne (by rw [hk, e])); simpa using this)) hz1' (below_set hbw (by omega) _)
      clear hW9
      obtain ⟨⟨d0, d1, d2⟩, g0, g1, g2⟩ := hR9.three
      refine bodyPost_ret (v := .agg #[.int .i64 W, .int .i64 H, .slice A' (D.length / 2) c']) (by simp [results, Try.results22, go_sem, d0, d1, d2]) rfl ?_
      rw [HW.out, HH.out, HD.out]
      exact ⟨A', c', by rw [List.length_take, Nat.min_eq_left (by omega)], hr9.take _, by rw [HP.out]; exact hb9⟩
    · rw [h]
      have HW := Lib.hid (show oddW W q = -W by simp [oddW, h])
      have HH := Lib.hid (show oddH H q = -H by simp [oddH, h])
      have HD := Lib.hid (show oddD D q = D by simp [oddD, h])
      clear h
      go_wp2
      refine bp_world (fun W9 hW9 => ?_)
      obtain ⟨hR9, hr9, hb9⟩ := odd_ret hW9 ((hB1.far (p := ⟨q5, 0, none⟩) (by simp; omega) _).far (p := ⟨q5, 1, none⟩) (by simp; omega) _) (own_kp hown (((Kp.refl [q5] _).set (.inl (by simp)) _ _).set (.inl (by simp)) _ _) (by intro k hk; have : k ≠ q5 := (fun e => hne (by rw [hk, e])); simpa using this)) hz1' (below_set (below_set hbw (by omega) _) (by omega) _)
      clear hW9
      obtain ⟨⟨d0, d1, d2⟩, g0, g1, g2⟩ := hR9.three
      refine bodyPost_ret (v := .agg #[.int .i64 (-W), .int .i64 (-H), .slice A' D.length c']) (by simp [results, Try.results22, go_sem, d0, d1, d2]) rfl ?_
      rw [HW.out, HH.out, HD.out]
      exact ⟨A', c', rfl, hr9, by rw [HP.out]; exact hb9⟩
    · rw [h]
      have HW := Lib.hid (show oddW W q = W by simp [oddW, h])
      have HH := Lib.hid (show oddH H q = H by simp [oddH, h])
      have HD := Lib.hid (show oddD D q = D by simp [oddD, h])
      clear h
      go_wp2
      refine bp_world (fun W9 hW9 => ?_)
      obtain ⟨hR9, hr9, hb9⟩ := odd_ret hW9 hB1 hown hz1' hbw
      clear hW9
      obtain ⟨⟨d0, d1, d2⟩, g0, g1, g2⟩ := hR9.three
      refine bodyPost_ret (v := .agg #[.int .i64 W, .int .i64 H, .slice A' D.length c']) (by simp [results, Try.results22, go_sem, d0, d1, d2]) rfl ?_
      rw [HW.out, HH.out, HD.out]
      exact ⟨A', c', rfl, hr9, by rw [HP.out]; exact hb9⟩
end Go.Proofs.Ytlanefdeeanpnaa
