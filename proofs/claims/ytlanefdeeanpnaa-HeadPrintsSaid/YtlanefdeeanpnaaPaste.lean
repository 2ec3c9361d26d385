/-
  slices.Clone at []bool, and Paste of the program's bitmap package. Conditions: well-formed bitmaps whose dots are read.
-/
import Derived.Test.YtlanefdeeanpnaaOnly
import Derived.Test.YtlanefdeeanpnaaCrop
import Derived.Deep.RegionLaw
namespace Go.Proofs.Ytlanefdeeanpnaa
set_option linter.unusedVariables false
set_option linter.unusedSimpArgs false
open Go.RowKit
attribute [local go_sem ↓] Go.wp_at_zero Go.wp_at_succ
attribute [local go_sem] Oper.semAt_some

set_option maxRecDepth 100000 in
theorem clone_any (A : Option Addr) (c : Nat) (D : List Bool) (w : World) (hD : D.length ≤ 1000000) (hr : Rd Value.bool w w.heap.size A D) :
    Calls Try.prog 76 #[.slice A D.length c] w fun e w' => ∃ A' c', e = .returned (.slice A' D.length c') ∧ w'.ownsRow w.heap.size 4 1 (.slice A' D.length c') D.length (D.map Value.bool) ∧ Below w.heap.size w w' := by
  obtain ⟨i0, hi0, hy0, hy1, hy2⟩ := info_parts info_bool
  have q22 : ∀ (w : World) (a : Option Addr) (n c n' c' : Nat), (binOp .eql 27 (.slice a n c) (.slice none n' c')).run Try.prog w = .ok (.bool a.isNone) w := fun w a n c n' c' => Lib.run_eql_slice_nil w _ _ a n c n' c' Try.underlying27
  cases A with
  | none =>
    have hnil : D = [] := by
      cases D with
      | nil => rfl
      | cons d l => obtain ⟨b, o, h, _⟩ := hr (by simp); cases h
    subst hnil
    go_enter Try.func76, Try.ntmps76
    go_wp2
    go_ret
    exact ⟨none, 0, rfl, World.ownsRow_nil _ _ _ _, Below.refl _ _⟩
  | some a =>
    have HR := Lib.hid hr
    have hbl : ∀ k, (Value.slice (some ⟨w.heap.size, 0, none⟩) 0 0).ownBlock = some k → w.heap.size ≤ k := fun k hk => by
      have : w.heap.size = k := by simpa [Value.ownBlock] using hk
      omega
    clear hr
    go_enter Try.func76, Try.ntmps76
    go_wp2_with (at_builtin; refine wpList_append_rd _ rfl _ _ _ rfl w.heap.size 4 i0 _ 1 Try.underlying27 hi0 hy0 hy1 hy2 rfl _ 0 [] rfl (own_empty (Blk.new w 4 #[]) (Nat.le_refl _)) (some a) c w.heap.size D rfl (HR.out.alloc (Nat.le_refl _) _) (fun _ => rfl) (by unfold maxLen; omega) (by omega) (by simp) ?_; intro A2 c2 w2 hown2 hgrow hat; rw [Nat.zero_add] at hown2 ⊢)
    go_ret
    exact ⟨A2, c2, rfl, by simpa using hown2, below_grown ((Below.refl _ _).alloc (Nat.le_refl _) _) hgrow (by simp) hbl⟩

def pasteStep (m n m2 : Nat) (x y : Int) (D : List Bool) (k : Nat) : List Bool :=
  if 0 ≤ ((k % m2 : Nat) : Int) + x ∧ ((k % m2 : Nat) : Int) + x < m ∧ 0 ≤ ((k / m2 : Nat) : Int) + y ∧ ((k / m2 : Nat) : Int) + y < n then D.set ((((k / m2 : Nat) : Int) + y) * m + (((k % m2 : Nat) : Int) + x)).toNat true else D
def pasteTo (m n m2 n2 : Nat) (x y : Int) (D : List Bool) (pre : List (Fin (m2 * n2))) : List Bool := pre.foldl (fun D k => pasteStep m n m2 x y D k.1) D
def pasteL (m n m2 n2 : Nat) (x y : Int) (D E : List Bool) : List Bool := pasteTo m n m2 n2 x y D (onL (m2 * n2) E)
theorem pasteStep_len (m n m2 : Nat) (x y : Int) (D : List Bool) (k : Nat) : (pasteStep m n m2 x y D k).length = D.length := by
  unfold pasteStep
  split <;> simp
theorem pasteTo_len (m n m2 n2 : Nat) (x y : Int) (pre : List (Fin (m2 * n2))) : ∀ D : List Bool, (pasteTo m n m2 n2 x y D pre).length = D.length := by
  induction pre with
  | nil => intro D; rfl
  | cons k l ih => intro D; exact (ih _).trans (pasteStep_len _ _ _ _ _ _ _)
theorem pasteTo_snoc (m n m2 n2 : Nat) (x y : Int) (D : List Bool) (pre : List (Fin (m2 * n2))) (k : Fin (m2 * n2)) : pasteTo m n m2 n2 x y D (pre ++ [k]) = pasteStep m n m2 x y (pasteTo m n m2 n2 x y D pre) k.1 := by
  simp [pasteTo]
theorem own_base {w : World} {b b' : Nat} {e : TypeId} {n : Nat} {v : Value} {xs : List Value} (h : w.ownsRow b e 1 v n xs) (hb : b' ≤ b) : w.ownsRow b' e 1 v n xs := by
  refine ⟨h.1, ?_⟩
  rcases h.2 with h2 | ⟨g, cap, cur, h1, h2, h3⟩
  · exact .inl h2
  · exact .inr ⟨g, cap, cur, h1, by omega, h3⟩
theorem row_own {β : Type} (base : Nat) (e : TypeId) (v : Value) (n : Nat) (f : β → List Value) : Go.Own (fun s W => W.ownsRow base e 1 v n (f s)) := fun s X Y row hs hg hr =>
  hs.kept hg (by
    cases hv : v.ownBlock with
    | none => exact .inl rfl
    | some g =>
      right
      intro e'
      obtain ⟨o, ho, hc⟩ := hr g e'.symm
      rcases hs.2 with ⟨rfl, _⟩ | ⟨g', cap, cur, rfl, _, hg', _⟩
      · simp [Value.ownBlock] at hv
      · have : g' = g := by simpa [Value.ownBlock] using hv
        subst this
        rw [hg'] at ho
        injection ho with ho
        subst ho
        simp [Obj.isCells] at hc)

set_option maxRecDepth 100000 in
set_option maxHeartbeats 4000000 in
theorem paste_any (m n c m2 n2 c2 : Nat) (A A2 : Option Addr) (D E : List Bool) (x y : Int) (w : World) (hm : m ≤ 96) (hn : n ≤ 96) (hD : D.length = m * n) (hm2 : m2 ≤ 96) (hn2 : n2 ≤ 96) (hE : E.length = m2 * n2)
    (hx : -1000 ≤ x ∧ x ≤ 1000) (hy : -1000 ≤ y ∧ y ≤ 1000) (hr : Rd Value.bool w w.heap.size A D) (hr2 : Rd Value.bool w w.heap.size A2 E) :
    Calls Try.prog 36 #[.agg #[.int .i64 m, .int .i64 n, .slice A (m * n) c], .agg #[.int .i64 m2, .int .i64 n2, .slice A2 (m2 * n2) c2], .int .i64 x, .int .i64 y] w fun e w' =>
      ∃ A' c', e = .returned (.agg #[.int .i64 m, .int .i64 n, .slice A' (m * n) c']) ∧ Rd Value.bool w' w'.heap.size A' (pasteL m n m2 n2 x y D E) ∧ Below w.heap.size w w' := by
  have hmn : m * n ≤ 9216 := Nat.mul_le_mul hm hn
  have hmn2 : m2 * n2 ≤ 9216 := Nat.mul_le_mul hm2 hn2
  have CK := Lib.hid (fun w => bitmap_Check m n A (m * n) c w (by omega))
  rw [show bmCheck m n (m * n) = 0 by simp [bmCheck, sideB]; omega] at CK
  have CC := Lib.hid (fun w h => clone_any A c D w (by omega) h)
  rw [hD] at CC
  have HR := Lib.hid hr
  have HR2 := Lib.hid hr2
  have HD := Lib.hid hD
  have HE := Lib.hid hE
  obtain ⟨hx1, hx2⟩ := hx
  obtain ⟨hy1, hy2⟩ := hy
  clear hr hr2 hD hE
  refine (callsIn_wide (n := 6)).1 ?_
  refine callsIn_of_wp_marks Try.func36 rfl trivial ?_ rfl
  simp only [Try.ntmps36, List.size_toArray, List.length_cons, List.length_nil, Nat.reduceAdd, Nat.reduceSub, Array.replicate_succ, Array.replicate_zero, List.push_toArray, List.append_toArray, List.nil_append, List.cons_append]
  gi_wp2_with fail
  refine ⟨trivial, callsIn_world (fun W0 hW0 => ?_)⟩
  obtain ⟨hB0, hB1, hB2, hB3, hB4, hb0, hs0⟩ := new5 hW0
  clear hW0
  generalize hp : w.heap.size = p at *
  have HP := Lib.hid hp
  clear hp
  refine (callsIn_wide.2 (CK.out _)).mono ?_
  rintro e w1 ⟨rfl, hb1⟩
  have hB0 := hB0.below hb1 hB0.lt
  have hB1 := hB1.below hb1 hB1.lt
  have hB2 := hB2.below hb1 hB2.lt
  have hB3 := hB3.below hb1 hB3.lt
  have hB4 := hB4.below hb1 hB4.lt
  have hbw := hb0.trans (hb1.mono (by omega))
  clear hs0 hb0 hb1
  obtain ⟨⟨d0, d1, d2⟩, _⟩ := hB0.three
  gi_wp2_with fail
  have hpw := hB4.lt
  have hr1 := HR.out.below hbw (Nat.le_refl _)
  have z0 := hB0.lt
  refine wpIn_mono (Q := Exit.then (fun a' w' => ∃ (q9 : Nat) (A' : Option Addr) (c' : Nat), a' = { tmps := (Value.agg #[.int .i64 m, .int .i64 n, .slice A (m * n) c] :: .agg #[.int .i64 m2, .int .i64 n2, .slice A2 (m2 * n2) c2] :: .int .i64 x :: .int .i64 y :: .pointer (some ⟨p, 0, none⟩) :: .pointer (some ⟨p + 1, 0, none⟩) :: .pointer (some ⟨p + 1 + 1, 0, none⟩) :: .pointer (some ⟨p + 1 + 1 + 1, 0, none⟩) :: .pointer (some ⟨p + 1 + 1 + 1 + 1, 0, none⟩) :: .pointer (some ⟨q9, 0, none⟩) :: undef :: .agg #[.int .i64 m, .int .i64 n, .slice A (m * n) c] :: .int .i64 0 :: .bool false :: undef :: .pointer (some ⟨p, 0, none⟩) :: .int .i64 m :: .pointer (some ⟨p, 1, none⟩) :: .int .i64 n :: .pointer (some ⟨p, 2, none⟩) :: .slice A (m * n) c :: .slice A' (m * n) c' :: .agg #[.int .i64 m, .int .i64 n, .slice A' (m * n) c'] :: [undef , undef , undef , undef , undef , undef , undef , undef , undef , undef , undef , undef , undef , undef , undef , undef , undef , undef , undef , undef , undef , undef , undef , undef , undef , undef , undef , undef , undef , undef , undef , undef , undef , undef , undef , undef , undef , undef , undef , undef , undef , undef , undef , undef , undef , undef]).toArray, defers := [] } ∧ Blk w' q9 29 #[.int .i64 m, .int .i64 n, .slice A' (m * n) c'] ∧ w'.ownsRow w1.heap.size 4 1 (.slice A' (m * n) c') (m * n) (D.map Value.bool) ∧ (Value.slice A' (m * n) c').ownBlock ≠ some q9 ∧ w1.heap.size ≤ q9 ∧ Below w1.heap.size w1 w') (fun _ _ _ => False)) (wpIn_wide.2 ?_) ?_
  · skip
    refine wp_region_L 9 (fun w' => (∀ b o, b < w1.heap.size → w'.cell? ⟨b, o, none⟩ = w1.cell? ⟨b, o, none⟩) ∧ Below w1.heap.size w1 w') (by kernel_rfl) ?_ (fun Wd hWd hS => ?_)
    · (try dsimp only)
      exact sb_of (Below.refl _ _).drew
    (try dsimp only at hS)
    refine wpT_take 0 (v := ?_) rfl (by kernel_rfl) (by kernel_rfl) (fun _ _ _ h => h) hS (Or.inl ⟨rfl, ?_⟩) ?_
    rotate_left
    · (intro w' hSw; (try dsimp only at hSw); go_simp; first | done | with_reducible rfl)
    (try simp only [Act.put, List.setIfInBounds_toArray, List.set_cons_zero, List.set_cons_succ])
    refine wpT_take 1 (v := ?_) rfl (by kernel_rfl) (by kernel_rfl) (fun _ _ _ h => h) hS (Or.inl ⟨rfl, ?_⟩) ?_
    rotate_left
    · (intro w' hSw; (try dsimp only at hSw); go_simp; first | done | with_reducible rfl)
    (try simp only [Act.put, List.setIfInBounds_toArray, List.set_cons_zero, List.set_cons_succ])
    refine wpT_take 2 (v := ?_) rfl (by kernel_rfl) (by kernel_rfl) (fun _ _ _ h => h) hS (Or.inl ⟨rfl, ?_⟩) ?_
    rotate_left
    · (intro w' hSw; (try dsimp only at hSw); go_simp; first | done | with_reducible rfl)
    (try simp only [Act.put, List.setIfInBounds_toArray, List.set_cons_zero, List.set_cons_succ])
    refine wpT_take 3 (v := ?_) rfl (by kernel_rfl) (by kernel_rfl) (fun _ _ _ h => h) hS (Or.inl ⟨rfl, ?_⟩) ?_
    rotate_left
    · (intro w' hSw; (try dsimp only at hSw); go_simp; first | done | with_reducible rfl)
    (try simp only [Act.put, List.setIfInBounds_toArray, List.set_cons_zero, List.set_cons_succ])
    refine wpT_take 4 (v := ?_) rfl (by kernel_rfl) (by kernel_rfl) (fun _ _ _ h => h) hS (Or.inl ⟨rfl, ?_⟩) ?_
    rotate_left
    · (intro w' hSw; (try dsimp only at hSw); go_simp; first | done | with_reducible rfl)
    (try simp only [Act.put, List.setIfInBounds_toArray, List.set_cons_zero, List.set_cons_succ])
    refine wpT_take 5 (v := ?_) rfl (by kernel_rfl) (by kernel_rfl) (fun _ _ _ h => h) hS (Or.inl ⟨rfl, ?_⟩) ?_
    rotate_left
    · (intro w' hSw; (try dsimp only at hSw); go_simp; first | done | with_reducible rfl)
    (try simp only [Act.put, List.setIfInBounds_toArray, List.set_cons_zero, List.set_cons_succ])
    refine wpT_two 6 8 rfl rfl (by kernel_rfl) (fun K hK => ?_) (fun K hK => ?_)
    · skip
      go_simp
      go_at_call 76
      refine (CC.out _ ((hr1.below (hS.2.mono (by omega)) (Nat.le_refl _)).more (by have := hS.2.size; omega))).mono ?_
      rintro e w6 ⟨A', c', rfl, hown0, hb6⟩
      have hS6 := hS.2.size
      have hown := own_base hown0 hS6
      have hbS := hS.2.trans (hb6.mono hS.2.size)
      try have hne : (Value.slice A' (m * n) c').ownBlock ≠ some q9 := by (intro h8; have h9 := (hown0.lt q9 h8).1; have h10 := hQ.lt; omega)
      try have hQ := hQ.below hb6 hQ.lt
      refine hK.out _ _ ?_ (fun hS => ?_)
      · (try dsimp only)
        exact sb_of hbS
      clear hK K
      (try simp only [Act.put, List.setIfInBounds_toArray, List.set_cons_zero, List.set_cons_succ])
      (try dsimp only at hS)
      refine wpT_take 7 (v := ?_) rfl (by kernel_rfl) (by kernel_rfl) (fun _ _ _ h => h) hS (Or.inl ⟨rfl, ?_⟩) ?_
      rotate_left
      · (intro w' hSw; (try dsimp only at hSw); go_simp; first | done | with_reducible rfl)
      (try simp only [Act.put, List.setIfInBounds_toArray, List.set_cons_zero, List.set_cons_succ])
      refine wpT_one 8 rfl (by kernel_rfl) (fun K hK => ?_)
      go_simp
      refine k_world (fun Wq hWq => ?_)
      have hS9 := hS.2.size
      obtain ⟨q9, eqq, hQ, hbQ, hsQ⟩ := new1n hWq
      clear hWq
      try rw [eqq]
      have hq9 : w1.heap.size ≤ q9 := by omega
      have hbS := hS.2.trans (hbQ.mono hq9)
      try have hne : (Value.slice A' (m * n) c').ownBlock ≠ some q9 := by (intro h8; have := (hown.lt q9 h8).2; omega)
      try have hown := own_below hown (by rw [eqq]; exact hbQ)
      refine hK.out _ _ ?_ (fun hS => ?_)
      · (try dsimp only)
        exact sb_of hbS
      clear hK K
      (try simp only [Act.put, List.setIfInBounds_toArray, List.set_cons_zero, List.set_cons_succ])
      (try dsimp only at hS)
      refine wpT_tail (by rfl) (by kernel_rfl) ?_
      (try simp only [List.drop_succ_cons, List.drop_zero])
      obtain ⟨⟨e0, e1, e2⟩, f0, f1, f2⟩ := hQ.three
      go_wp2_with fail
      have hst := store3 (x := .int .i64 m) (y := .int .i64 n) (z := .slice A' (m * n) c') rfl hQ
      exact ⟨q9, A', c', rfl, hst.1, own_kp hown hst.2 (by intro k hk; have : k ≠ q9 := (fun e => hne (by rw [← e]; exact hk)); simpa using this), hne, hq9, hbS.trans (hst.2.to_below hbS.size (by simpa using hq9))⟩
    · skip
      go_simp
      refine k_world (fun Wq hWq => ?_)
      have hS9 := hS.2.size
      obtain ⟨q9, eqq, hQ, hbQ, hsQ⟩ := new1n hWq
      clear hWq
      try rw [eqq]
      have hq9 : w1.heap.size ≤ q9 := by omega
      have hbS := hS.2.trans (hbQ.mono hq9)
      try have hne : (Value.slice A' (m * n) c').ownBlock ≠ some q9 := by (intro h8; have := (hown.lt q9 h8).2; omega)
      try have hown := own_below hown (by rw [eqq]; exact hbQ)
      refine hK.out _ _ ?_ (fun hS => ?_)
      · (try dsimp only)
        exact sb_of hbS
      clear hK K
      (try simp only [Act.put, List.setIfInBounds_toArray, List.set_cons_zero, List.set_cons_succ])
      (try dsimp only at hS)
      refine wpT_one 6 rfl (by kernel_rfl) (fun K hK => ?_)
      go_simp
      go_at_call 76
      refine (CC.out _ ((hr1.below (hS.2.mono (by omega)) (Nat.le_refl _)).more (by have := hS.2.size; omega))).mono ?_
      rintro e w6 ⟨A', c', rfl, hown0, hb6⟩
      have hS6 := hS.2.size
      have hown := own_base hown0 hS6
      have hbS := hS.2.trans (hb6.mono hS.2.size)
      try have hne : (Value.slice A' (m * n) c').ownBlock ≠ some q9 := by (intro h8; have h9 := (hown0.lt q9 h8).1; have h10 := hQ.lt; omega)
      try have hQ := hQ.below hb6 hQ.lt
      refine hK.out _ _ ?_ (fun hS => ?_)
      · (try dsimp only)
        exact sb_of hbS
      clear hK K
      (try simp only [Act.put, List.setIfInBounds_toArray, List.set_cons_zero, List.set_cons_succ])
      (try dsimp only at hS)
      refine wpT_take 7 (v := ?_) rfl (by kernel_rfl) (by kernel_rfl) (fun _ _ _ h => h) hS (Or.inl ⟨rfl, ?_⟩) ?_
      rotate_left
      · (intro w' hSw; (try dsimp only at hSw); go_simp; first | done | with_reducible rfl)
      (try simp only [Act.put, List.setIfInBounds_toArray, List.set_cons_zero, List.set_cons_succ])
      refine wpT_tail (by rfl) (by kernel_rfl) ?_
      (try simp only [List.drop_succ_cons, List.drop_zero])
      obtain ⟨⟨e0, e1, e2⟩, f0, f1, f2⟩ := hQ.three
      go_wp2_with fail
      have hst := store3 (x := .int .i64 m) (y := .int .i64 n) (z := .slice A' (m * n) c') rfl hQ
      exact ⟨q9, A', c', rfl, hst.1, own_kp hown hst.2 (by intro k hk; have : k ≠ q9 := (fun e => hne (by rw [← e]; exact hk)); simpa using this), hne, hq9, hbS.trans (hst.2.to_below hbS.size (by simpa using hq9))⟩
  · intro e a' w2 hh
    cases e with
    | normal =>
      obtain ⟨q9, A', c', rfl, hQ, hown, hne, hq9, hb2⟩ := hh
      have hB1 := hB1.below hb2 hB1.lt
      have hB2 := hB2.below hb2 hB2.lt
      have hB3 := hB3.below hb2 hB3.lt
      have hB4 := hB4.below hb2 hB4.lt
      have hbw := hbw.trans (hb2.mono (by omega))
      obtain ⟨⟨c0, c1, c2'⟩, _⟩ := hB1.three
      gi_wp2_with fail
      refine ⟨trivial, (callsIn_wide.2 (dots_mk (.agg #[.int .i64 m2, .int .i64 n2, .slice A2 (m2 * n2) c2]) _ _ _ w2 rfl)).mono ?_⟩
      rintro e w3 ⟨rfl, hw3⟩
      obtain ⟨hBq, hb3, hsz3⟩ := new1 hw3
      have hB2 := hB2.below hb3 hB2.lt
      have hB3 := hB3.below hb3 hB3.lt
      have hB4 := hB4.below hb3 hB4.lt
      have hql := hQ.lt
      have hQ := hQ.below hb3 hQ.lt
      have hgl := hown.lt
      have hown := own_below hown hb3
      have hz2 := hb2.size
      have hbw := hbw.trans (hb3.mono (by omega))
      clear hw3 hb3 c0 c1 c2'
      generalize hq : w2.heap.size = q at *
      clear hq hsz3
      have hrd1 : Rd Value.bool w3 w3.heap.size A2 E := (HR2.out.below hbw (Nat.le_refl _)).more (by have := hB4.lt; omega)
      obtain ⟨gd, hgd, hgA, hg0, hstops⟩ := dots_stops_any 5 q m2 n2 c2 A2 E w3 (by omega) hm2 hn2 HE.out hBq hrd1
      have hgdc : gd < p ∨ gd = q := by
        by_cases hN : 0 < m2 * n2
        · obtain ⟨o, ho⟩ := hgA hN
          obtain ⟨b', o', hbo, hlt, _⟩ := HR2.out (by rw [HE.out]; exact hN)
          rw [ho] at hbo
          injection hbo with hbo
          injection hbo with hb1 _ _
          omega
        · exact .inr (hg0 (by omega))
      gi_wp2_with fail
      refine wpIn_rangeFunc_ownH rfl (by omega) (gf := 103) (lb := #[.pointer (some ⟨q, 0, none⟩)]) rfl trivial (enters_of Try.func103 (by kernel_rfl) rfl)
        hstops kpL_t (kpL_b (by have := hBq.lt; simp; omega)) (Below.refl _ _) (fun _ => rfl)
        (fun pre W => ((Blk W q9 29 #[.int .i64 m, .int .i64 n, .slice A' (m * n) c'] ∧ W.ownsRow w1.heap.size 4 1 (.slice A' (m * n) c') (m * n) ((pasteTo m n m2 n2 x y D pre).map Value.bool)) ∧ ((Blk W (p + 1 + 1) 3 #[.int .i64 x] ∧ Blk W (p + 1 + 1 + 1) 3 #[.int .i64 y]) ∧ Blk W (p + 1 + 1 + 1 + 1) 29 #[.int .i64 0, .int .i64 0, .slice none 0 0])) ∧ (Below p w W ∧ w3.heap.size ≤ W.heap.size))
        (fun _ _ _ => False)
        (OwnFrom.and (OwnFrom.and (OwnFrom.and (Go.Own.from (blk_own _ _ _) _) (Go.Own.from (row_own _ _ _ _ _) _)) (OwnFrom.and (OwnFrom.and (Go.Own.from (blk_own _ _ _) _) (Go.Own.from (blk_own _ _ _) _)) (Go.Own.from (blk_own _ _ _) _))) (OwnFrom.and (ownFrom_below (by rw [HP.out]; exact Nat.le_refl _) (by have := hB4.lt; omega)) (fun _ _ _ _ hs hg _ => Nat.le_trans hs hg.size)))
        (fun _ _ _ _ _ hs _ _ => hs)
        ⟨⟨⟨hQ, hown⟩, ⟨hB2, hB3⟩, hB4⟩, hbw, Nat.le_refl _⟩
        (fun k a' W => ∃ Bx, w3.heap.size ≤ Bx ∧ Blk W Bx 116 #[.int .i64 ((k.1 % m2 : Nat) : Int), .int .i64 ((k.1 / m2 : Nat) : Int)] ∧ a' = { tmps := (Value.agg #[.int .i64 m, .int .i64 n, .slice A (m * n) c] :: .agg #[.int .i64 m2, .int .i64 n2, .slice A2 (m2 * n2) c2] :: .int .i64 x :: .int .i64 y :: .pointer (some ⟨p, 0, none⟩) :: .pointer (some ⟨p + 1, 0, none⟩) :: .pointer (some ⟨p + 1 + 1, 0, none⟩) :: .pointer (some ⟨p + 1 + 1 + 1, 0, none⟩) :: .pointer (some ⟨p + 1 + 1 + 1 + 1, 0, none⟩) :: .pointer (some ⟨q9, 0, none⟩) :: .pointer (some ⟨Bx, 0, none⟩) :: .agg #[.int .i64 m, .int .i64 n, .slice A (m * n) c] :: .int .i64 0 :: .bool false :: undef :: .pointer (some ⟨p, 0, none⟩) :: .int .i64 m :: .pointer (some ⟨p, 1, none⟩) :: .int .i64 n :: .pointer (some ⟨p, 2, none⟩) :: .slice A (m * n) c :: .slice A' (m * n) c' :: .agg #[.int .i64 m, .int .i64 n, .slice A' (m * n) c'] :: .agg #[.int .i64 m2, .int .i64 n2, .slice A2 (m2 * n2) c2] :: .func (.func 103) #[] #[.pointer (some ⟨q, 0, none⟩)] :: .agg #[.int .i64 ((k.1 % m2 : Nat) : Int), .int .i64 ((k.1 / m2 : Nat) : Int)] :: [undef, undef, undef, undef, undef, undef, undef, undef, undef, undef, undef, undef, undef, undef, undef, undef, undef, undef, undef, undef, undef, undef, undef, undef, undef, undef, undef, undef, undef, undef, undef, undef, undef, undef, undef, undef, undef, undef, undef, undef, undef, undef, undef]).toArray, defers := [] })
        (fun k a' _ X Y row hs hg hr => by obtain ⟨Bx, h1, h2, h3⟩ := hs; exact ⟨Bx, h1, blk_own Bx 116 (fun (_ : Unit) => #[.int .i64 ((k.1 % m2 : Nat) : Int), .int .i64 ((k.1 / m2 : Nat) : Int)]) () X Y row h2 hg (fun r e => (hr r e).2), h3⟩)
        ?assign ?body ?done ?stop
      case assign =>
        rintro l pre k W K ⟨⟨⟨bQ, bO⟩, ⟨bx, by'⟩, b4⟩, hB1', hw1⟩ hK
        dsimp only at hK ⊢
        generalize k.1 % m2 = kx at hK ⊢
        generalize k.1 / m2 = ky at hK ⊢
        gi_wp2
        exact hK _ _ ((KeepsOthers.alloc _ _).from _) (KpL.grown (World.grownBy_alloc W _ none) (by have := hBq.lt; simp; omega) (fun _ _ h => by cases h)) ⟨⟨⟨bQ.alloc _, bO.alloc _⟩, ⟨bx.alloc _, by'.alloc _⟩, b4.alloc _⟩, hB1'.alloc (by have := b4.lt; omega) _, by simp; omega⟩ ⟨W.heap.size, hw1, Blk.new W 116 _, rfl⟩
      case body =>
        rintro l pre k a' W hl ⟨r, hr⟩ ⟨⟨⟨bQ, bO⟩, ⟨bx, by'⟩, b4⟩, hB1', hw1⟩ ⟨Bx, hBx, bX, rfl⟩ hlt
        have hN2 : 0 < m2 * n2 := Nat.lt_of_le_of_lt (Nat.zero_le _) k.2
        have hkx2 : k.1 % m2 < m2 := Nat.mod_lt _ (Nat.pos_of_mul_pos_right hN2)
        have hky2 : k.1 / m2 < n2 := Nat.div_lt_of_lt_mul k.2
        have HST := Lib.hid (show pasteTo m n m2 n2 x y D (pre ++ [k]) = _ from pasteTo_snoc m n m2 n2 x y D pre k)
        have hlen := pasteTo_len m n m2 n2 x y pre D
        rw [HD.out] at hlen
        have HLEN := Lib.hid hlen
        clear hlen
        generalize pasteTo m n m2 n2 x y D pre = P at bO HST HLEN
        unfold pasteStep at HST
        generalize k.1 % m2 = kx at bX hkx2 HST ⊢
        generalize k.1 / m2 = ky at bX hky2 HST ⊢
        have hbz := hBq.lt
        have hne9 : q9 ≠ Bx := by omega
        have hnx : p + 1 + 1 ≠ Bx := by have := hB4.lt; omega
        have hny : p + 1 + 1 + 1 ≠ Bx := by have := hB4.lt; omega
        have hn4 : p + 1 + 1 + 1 + 1 ≠ Bx := by have := hB4.lt; omega
        have hkp : ∀ u v : Value, Kp [Bx] W ((W.setCell ⟨Bx, 0, none⟩ u).setCell ⟨Bx, 1, none⟩ v) := fun u v => ((Kp.refl [Bx] W).set (.inl (by simp)) 0 u).set (.inl (by simp)) 1 v
        have hno : ∀ k, (Value.slice A' (m * n) c').ownBlock = some k → k ∉ [Bx] := fun k hk => by have := (hgl k hk).2; have := hBq.lt; simp; omega
        have HKP := Lib.hid hkp
        have HNO := Lib.hid hno
        clear hkp hno
        obtain ⟨⟨x0, x1⟩, fx0, fx1⟩ := bX.two
        have cx := bx.cell 0
        have cy := by'.cell 0
        obtain ⟨⟨q0, q1, q2⟩, _⟩ := bQ.three
        have hXl := bX.lt
        by_cases hin : 0 ≤ (kx : Int) + x ∧ (kx : Int) + x < m ∧ 0 ≤ (ky : Int) + y ∧ (ky : Int) + y < n
        · obtain ⟨h1, h2, h3, h4⟩ := hin
          have HS2 := HST.out
          rw [if_pos ⟨h1, h2, h3, h4⟩] at HS2
          obtain ⟨xa, hxa⟩ := Int.eq_ofNat_of_zero_le h1
          obtain ⟨yb, hyb⟩ := Int.eq_ofNat_of_zero_le h3
          rw [hxa] at h1 h2 HS2
          rw [hyb] at h3 h4 HS2
          have hlt := row_lt (m := m) (n := n) (k := yb) (i := xa) (by omega) (by omega)
          obtain ⟨g1, g2, g3⟩ := row_int (m := m) (n := n) (k := yb) (i := xa) (by omega) (by omega)
          have e3 : ((yb : Int) * (m : Int) + (xa : Int)).toNat = yb * m + xa := by rw [← Int.natCast_mul, ← Int.natCast_add]; exact Int.toNat_natCast _
          rw [e3] at HS2
          have HS3 := Lib.hid HS2
          clear HS2 HST
          obtain ⟨g, cap, hv, hgb, hgl'⟩ := bO.form (by omega)
          injection hv with hv1 _ hv3
          subst hv1 hv3
          have hgB : g ≠ Bx := by have := HNO.out g rfl; simpa using this
          have hoc := own_cell bO (k := yb * m + xa) (by rw [HLEN.out]; exact hlt)
          have hof := own_frozen (k := yb * m + xa) bO
          have hgq : g < q := (hgl g rfl).2
          have hgp : w1.heap.size ≤ g := (hgl g rfl).1
          generalize P[yb * m + xa]'(by rw [HLEN.out]; exact hlt) = old at hoc
          have hgq9 : g ≠ q9 := fun e => hne (by rw [e]; rfl)
          have hpw1 : p + 1 + 1 + 1 + 1 < w1.heap.size := hpw
          gi_wp2
          have K1 := HKP.out (.int .i64 xa) (.int .i64 yb)
          have K2 := (K1.more (l' := [Bx, g]) (by simp)).set (g := g) (.inl (by simp)) (yb * m + xa) (.bool true)
          refine ⟨(((KeepsOthers.setCell _ _ _).trans (KeepsOthers.setCell _ _ _)).trans (KeepsOthers.setCell _ _ _)).from _, KpL.kp K2 (by simp; omega), ⟨⟨⟨K2.blk bQ (by simp; omega), ?_⟩, ⟨K2.blk bx (by simp; omega), K2.blk by' (by simp; omega)⟩, K2.blk b4 (by simp; omega)⟩, hB1'.trans (K2.to_below (by omega) (by simp; omega)), Nat.le_trans hw1 K2.size⟩⟩
          rw [HS3.out]
          exact own_upd (own_kp bO K1 HNO.out) hlt true
        · have HS2 := HST.out
          rw [if_neg hin] at HS2
          have HS3 := Lib.hid HS2
          clear HS2 HST
          have hw : (kx : Int) + x < 0 ∨ (0 ≤ (kx : Int) + x ∧ (m : Int) ≤ (kx : Int) + x) ∨ (0 ≤ (kx : Int) + x ∧ (kx : Int) + x < m ∧ (ky : Int) + y < 0) ∨ (0 ≤ (kx : Int) + x ∧ (kx : Int) + x < m ∧ 0 ≤ (ky : Int) + y ∧ (n : Int) ≤ (ky : Int) + y) := by omega
          clear hin
          have hpw1 : p + 1 + 1 + 1 + 1 < w1.heap.size := hpw
          have K1 := Lib.hid (HKP.out (.int .i64 ((kx : Int) + x)) (.int .i64 ((ky : Int) + y)))
          clear HKP
          rcases hw with h1 | ⟨h1, h2⟩ | ⟨h1, h2, h3⟩ | ⟨h1, h2, h3, h4⟩
          all_goals
            gi_wp2
            have K2 := K1.out
            refine ⟨((KeepsOthers.setCell _ _ _).trans (KeepsOthers.setCell _ _ _)).from _, KpL.kp K2 (by simp; omega), ⟨⟨⟨K2.blk bQ (by simp; omega), ?_⟩, ⟨K2.blk bx (by simp; omega), K2.blk by' (by simp; omega)⟩, K2.blk b4 (by simp; omega)⟩, hB1'.trans (K2.to_below (by omega) (by simp; omega)), Nat.le_trans hw1 K2.size⟩⟩
            rw [HS3.out]
            exact own_kp bO K2 HNO.out
      case done =>
        rintro D' ys W hD' rfl ⟨⟨⟨bQ, bO⟩, ⟨bx, by'⟩, b4⟩, hB1', hw1⟩ hK
        obtain ⟨⟨q0, q1, q2⟩, _⟩ := bQ.three
        obtain ⟨⟨r0, r1, r2⟩, f0, f1, f2⟩ := b4.three
        gi_wp2
        have hK9 := (((KeepsOthers.setCell W ⟨p + 1 + 1 + 1 + 1, 0, none⟩ (.int .i64 m)).trans (KeepsOthers.setCell _ ⟨p + 1 + 1 + 1 + 1, 1, none⟩ (.int .i64 n))).trans (KeepsOthers.setCell _ ⟨p + 1 + 1 + 1 + 1, 2, none⟩ (.slice A' (m * n) c'))).same D' _ hK rfl
        obtain ⟨hR9, hk9⟩ := store3 (x := .int .i64 m) (y := .int .i64 n) (z := .slice A' (m * n) c') rfl b4
        have hO9 := own_kp bO hk9 (fun k hk => by have := (hgl k hk).1; simp; omega)
        have hB9 := hB1'.trans (hk9.to_below (by have := b4.lt; omega) (by simp; omega))
        generalize ((W.setCell ⟨p + 1 + 1 + 1 + 1, 0, none⟩ (.int .i64 m)).setCell ⟨p + 1 + 1 + 1 + 1, 1, none⟩ (.int .i64 n)).setCell ⟨p + 1 + 1 + 1 + 1, 2, none⟩ (.slice A' (m * n) c') = W9 at *
        refine ⟨by simp, .inl ⟨_, _, rfl, run_takeDeferred hK9, ?_⟩⟩
        have hT9 := ownsRow_putObj hO9 (.deferred none) hK9 rfl
        have hRR : Blk (W9.putObj D' (.deferred none)) (p + 1 + 1 + 1 + 1) 29 #[.int .i64 m, .int .i64 n, .slice A' (m * n) c'] := hR9.grown (grownBy_putObj' W9 D' (.deferred none)) (fun e => by
          injection e with e
          unfold Blk at hR9
          rw [e, hK9] at hR9
          cases hR9)
        obtain ⟨⟨s0, s1, s2⟩, _⟩ := hRR.three
        refine ⟨.agg #[.int .i64 m, .int .i64 n, .slice A' (m * n) c'], by simp [results, Try.results36, go_sem, s0, s1, s2], A', c', rfl, own_rd hT9, ?_⟩
        rw [HP.out]
        exact hB9.trans (belowK_b (w := w3) (by have := hB4.lt; omega) W9 D' _ _ hD' hK9 rfl rfl)
      case stop =>
        rintro D' c' pre W _ _ h _
        exact h.elim
    | _ => exact hh.elim
end Go.Proofs.Ytlanefdeeanpnaa
