/-
  The law's Case.made. (under way)
-/
import Derived.Test.YtlanefdeeanpnaaCut
import Derived.Test.YtlanefdeeanpnaaBase2
namespace Go.Proofs.Ytlanefdeeanpnaa
set_option linter.unusedVariables false
set_option linter.unusedSimpArgs false
open Go.RowKit
attribute [local go_sem ↓] Go.wp_at_zero Go.wp_at_succ

/-- The second bitmap: what the second list makes, cut to the first's sides. -/
def mkD2 (L1 L2 : List Int) : List Bool := cropL (mkW L2) (mkH L2) (mkD L2) 0 0 (mkW L1) (mkH L1)

theorem mkD2_len (L1 L2 : List Int) : (mkD2 L1 L2).length = mkW L1 * mkH L1 := by simp [mkD2, cropL]

theorem crop_mk (L1 L2 : List Int) (g : Nat) (w : World) (hr : Rd Value.bool w w.heap.size (some ⟨g, 0, none⟩) (mkD L2)) :
    Calls Try.prog 30 #[.agg #[.int .i64 (mkW L2), .int .i64 (mkH L2), .slice (some ⟨g, 0, none⟩) (mkW L2 * mkH L2) (mkW L2 * mkH L2)], .int .i64 0, .int .i64 0, .int .i64 (mkW L1), .int .i64 (mkH L1)] w fun e w' =>
      ∃ g2 : Nat, e = .returned (.tuple #[.agg #[.int .i64 (mkW L1), .int .i64 (mkH L1), .slice (some ⟨g2, 0, none⟩) (mkW L1 * mkH L1) (mkW L1 * mkH L1)], .int .i64 0]) ∧ w.heap.size ≤ g2 ∧ g2 < w'.heap.size ∧ Own Value.bool 4 w' g2 (mkD2 L1 L2) ∧ Below w.heap.size w w' := by
  have a1 := mkW_le L1
  have a2 := mkH_le L1
  have a3 := mkW_le L2
  have a4 := mkH_le L2
  have hl := mkD_len L2
  have hmul : mkW L2 * mkH L2 ≤ 16 * 12 := Nat.mul_le_mul a3 a4
  have h := crop_yes (mkW L2) (mkH L2) (some ⟨g, 0, none⟩) (mkW L2 * mkH L2) (mkD L2) 0 0 (mkW L1) (mkH L1) w (by omega) (by rw [hl]; simp [bmCheck, sideB]; omega) (by omega) (by omega) hr (by omega) (by omega)
  rw [hl] at h
  exact h
theorem cm_S {W1 w' : World} {p q1 : Nat} {a0 a1 a2 a3 a4 c0 c1 c2 : Value} (hB0 : Blk W1 p 24 #[a0, a1, a2, a3, a4]) (hQ1 : Blk W1 q1 29 #[c0, c1, c2]) (hb : Below W1.heap.size W1 w') :
    w'.cell? ⟨p, 1, none⟩ = some a1 ∧ w'.cell? ⟨q1, 0, none⟩ = some c0 ∧ w'.cell? ⟨q1, 1, none⟩ = some c1 ∧ Below W1.heap.size W1 w' :=
  ⟨(hB0.below hb hB0.lt).cell 1, (hQ1.below hb hQ1.lt).cell 0, (hQ1.below hb hQ1.lt).cell 1, hb⟩

theorem blk_of {W1 X : World} {t : TypeId} {cs : Array Value} (h : W1.heap.size ≤ X.heap.size) : Blk (X.alloc (.cells cs t)) X.heap.size t cs := Blk.new X t cs
theorem cm_fin1 {W1 wc : World} {g2 : Nat} {m n : Int} {N : Nat} {D : List Bool} (hO : Own Value.bool 4 wc g2 D) (hb : Below W1.heap.size W1 wc) (hg : W1.heap.size ≤ g2) :
    ∃ g q : Nat, Value.pointer (some ⟨wc.heap.size, 0, none⟩) = .pointer (some ⟨q, 0, none⟩) ∧ Value.int .i64 0 = .int .i64 0 ∧ Own Value.bool 4 (wc.alloc (.cells #[.int .i64 m, .int .i64 n, .slice (some ⟨g2, 0, none⟩) N N] 29)) g D ∧
      Blk (wc.alloc (.cells #[.int .i64 m, .int .i64 n, .slice (some ⟨g2, 0, none⟩) N N] 29)) q 29 #[.int .i64 m, .int .i64 n, .slice (some ⟨g, 0, none⟩) N N] ∧ W1.heap.size ≤ g ∧ W1.heap.size ≤ q ∧ Below W1.heap.size W1 (wc.alloc (.cells #[.int .i64 m, .int .i64 n, .slice (some ⟨g2, 0, none⟩) N N] 29)) :=
  ⟨g2, wc.heap.size, rfl, rfl, hO.alloc _, Blk.new _ _ _, hg, hb.size, hb.alloc hb.size _⟩
theorem cm_fin2 {W1 wc : World} {g2 q : Nat} {m n : Int} {N : Nat} {D : List Bool} {a0 a1 a2 : Value} (hq : Blk wc q 29 #[a0, a1, a2]) (hO : Own Value.bool 4 wc g2 D) (hb : Below W1.heap.size W1 wc) (hg : W1.heap.size ≤ g2) (hq2 : W1.heap.size ≤ q) (hne : g2 ≠ q) :
    ∃ g q' : Nat, Value.pointer (some ⟨q, 0, none⟩) = .pointer (some ⟨q', 0, none⟩) ∧ Value.int .i64 0 = .int .i64 0 ∧ Own Value.bool 4 (((wc.setCell ⟨q, 0, none⟩ (.int .i64 m)).setCell ⟨q, 1, none⟩ (.int .i64 n)).setCell ⟨q, 2, none⟩ (.slice (some ⟨g2, 0, none⟩) N N)) g D ∧
      Blk (((wc.setCell ⟨q, 0, none⟩ (.int .i64 m)).setCell ⟨q, 1, none⟩ (.int .i64 n)).setCell ⟨q, 2, none⟩ (.slice (some ⟨g2, 0, none⟩) N N)) q' 29 #[.int .i64 m, .int .i64 n, .slice (some ⟨g, 0, none⟩) N N] ∧ W1.heap.size ≤ g ∧ W1.heap.size ≤ q' ∧ Below W1.heap.size W1 (((wc.setCell ⟨q, 0, none⟩ (.int .i64 m)).setCell ⟨q, 1, none⟩ (.int .i64 n)).setCell ⟨q, 2, none⟩ (.slice (some ⟨g2, 0, none⟩) N N)) :=
  ⟨g2, q, rfl, rfl, ((hO.far (p := ⟨q, 0, none⟩) hne _).far (p := ⟨q, 1, none⟩) hne _).far (p := ⟨q, 2, none⟩) hne _, by simpa using ((hq.set_ 0 (.int .i64 m)).set_ 1 (.int .i64 n)).set_ 2 (.slice (some ⟨g2, 0, none⟩) N N), hg, hq2,
    below_set (below_set (below_set hb hq2 _) hq2 _) hq2 _⟩

theorem cm_S3 {W2 w' : World} {p q1 q2 : Nat} {a0 a1 a2 a3 a4 c0 c1 c2 e0 e1 e2 : Value} (hB0 : Blk W2 p 24 #[a0, a1, a2, a3, a4]) (hQ1 : Blk W2 q1 29 #[c0, c1, c2]) (hQ2 : Blk W2 q2 29 #[e0, e1, e2])
    (h1 : p + 1 + 1 + 1 < q1) (h2 : p + 1 + 1 + 1 < q2) (hk : Kp [p + 1, p + 1 + 1, p + 1 + 1 + 1] W2 w') :
    w'.cell? ⟨p, 2, none⟩ = some a2 ∧ w'.cell? ⟨p, 3, none⟩ = some a3 ∧ w'.cell? ⟨q1, 0, none⟩ = some c0 ∧ w'.cell? ⟨q1, 1, none⟩ = some c1 ∧ w'.cell? ⟨q1, 2, none⟩ = some c2 ∧ w'.cell? ⟨q2, 0, none⟩ = some e0 ∧ w'.cell? ⟨q2, 1, none⟩ = some e1 ∧ w'.cell? ⟨q2, 2, none⟩ = some e2 ∧ Kp [p + 1, p + 1 + 1, p + 1 + 1 + 1] W2 w' := by
  have b0 := hk.blk hB0 (by simp; omega)
  have b1 := hk.blk hQ1 (by simp; omega)
  have b2 := hk.blk hQ2 (by simp; omega)
  exact ⟨b0.cell 2, b0.cell 3, b1.cell 0, b1.cell 1, b1.cell 2, b2.cell 0, b2.cell 1, b2.cell 2, hk⟩

set_option maxHeartbeats 2000000 in
set_option maxRecDepth 100000 in
theorem case_made (L1 L2 : List Int) (A1 A2 : Option Addr) (c1 c2 : Nat) (a b k : Int) (w : World) (hn1 : L1.length ≤ 9223372036854775807) (hn2 : L2.length ≤ 9223372036854775807)
    (hr1 : Rd (Value.int .i64) w w.heap.size A1 L1) (hr2 : Rd (Value.int .i64) w w.heap.size A2 L2) :
    Calls Try.prog 20 #[.agg #[.slice A1 L1.length c1, .slice A2 L2.length c2, .int .i64 a, .int .i64 b, .int .i64 k]] w fun e w' => ∃ g1 g2 : Nat,
      e = .returned (.tuple #[.agg #[.int .i64 (mdB a), .int .i64 (mdS a b)], .agg #[.int .i64 (mkW L1), .int .i64 (mkH L1), .slice (some ⟨g1, 0, none⟩) (mkW L1 * mkH L1) (mkW L1 * mkH L1)], .agg #[.int .i64 (mkW L1), .int .i64 (mkH L1), .slice (some ⟨g2, 0, none⟩) (mkW L1 * mkH L1) (mkW L1 * mkH L1)]]) ∧
        w.heap.size ≤ g1 ∧ w.heap.size ≤ g2 ∧ Own Value.bool 4 w' g1 (mkD L1) ∧ Own Value.bool 4 w' g2 (mkD2 L1 L2) ∧ Below w.heap.size w w' := by
  have HR1 := Lib.hid hr1
  have HR2 := Lib.hid hr2
  clear hr1 hr2
  go_enter Try.func20, Try.ntmps20
  go_wp2_with fail
  refine calls_world (fun W0 hW0 => ?_)
  obtain ⟨hB0, hB1, hB2, hB3, hbw, hsz⟩ := new4 hW0
  clear hW0
  generalize hp : w.heap.size = p at *
  have HP := Lib.hid hp
  clear hp
  refine (Made_any L1 A1 c1 W0 hn1 ((HR1.out.below hbw (Nat.le_refl _)).more (by omega))).mono ?_
  rintro e w1 ⟨g1, rfl, hg1, hgl1, hO1, hb1⟩
  have hB0 := hB0.below hb1 hB0.lt
  have hB1 := hB1.below hb1 hB1.lt
  have hB2 := hB2.below hb1 hB2.lt
  have hB3 := hB3.below hb1 hB3.lt
  have hbw := hbw.trans (hb1.mono (by omega))
  clear hb1
  dsimp only
  have z0 : p < w1.heap.size := hB0.lt
  have z1 : p + 1 < w1.heap.size := hB1.lt
  have z2 : p + 1 + 1 < w1.heap.size := hB2.lt
  have z3 : p + 1 + 1 + 1 < w1.heap.size := hB3.lt
  go_upto_region 2 with fail
  refine wp_world (fun W1 hW1 => ?_)
  obtain ⟨hQ1, hbq1, hsz1⟩ := new1 hW1
  clear hW1
  have hB0 := hB0.below hbq1 z0
  have hB1 := hB1.below hbq1 z1
  have hB2 := hB2.below hbq1 z2
  have hB3 := hB3.below hbq1 z3
  have hO1 := hO1.below hbq1 hgl1
  have hbw := hbw.trans (hbq1.mono (by omega))
  generalize hq1 : w1.heap.size = q1 at *
  clear hq1
  have HR2 := Lib.hid ((HR2.out.below hbw (Nat.le_refl _)).more (show p ≤ W1.heap.size by omega))
  have b1 := hB0.cell 1
  obtain ⟨⟨q10, q11, q12⟩, _⟩ := hQ1.three
  go_cut [6, 7] (fun s6 s7 wx => ∃ g2 q2 : Nat, s6 = .pointer (some ⟨q2, 0, none⟩) ∧ s7 = .int .i64 0 ∧ Own Value.bool 4 wx g2 (mkD2 L1 L2) ∧ Blk wx q2 29 #[.int .i64 (mkW L1), .int .i64 (mkH L1), .slice (some ⟨g2, 0, none⟩) (mkW L1 * mkH L1) (mkW L1 * mkH L1)] ∧ W1.heap.size ≤ g2 ∧ W1.heap.size ≤ q2 ∧ Below W1.heap.size W1 wx)
  case first =>
    refine wp_region_T 13 (fun w' => w'.cell? ⟨p, 1, none⟩ = some (.slice A2 L2.length c2) ∧ w'.cell? ⟨q1, 0, none⟩ = some (.int .i64 (mkW L1)) ∧ w'.cell? ⟨q1, 1, none⟩ = some (.int .i64 (mkH L1)) ∧ Below W1.heap.size W1 w') (by kernel_rfl) ?_ (fun hS => ?_)
    · (try dsimp only)
      exact cm_S hB0 hQ1 (Below.refl _ _).drew
    (try dsimp only at hS)
    refine wpT_take 0 (v := ?_) rfl (by kernel_rfl) (by kernel_rfl) (fun _ _ _ h => h) hS (Or.inl ⟨rfl, ?_⟩) ?_
    rotate_left
    · (intro w' hSw; (try dsimp only at hSw); go_simp; first | done | with_reducible rfl)
    (try simp only [Act.put, List.setIfInBounds_toArray, List.set_cons_zero, List.set_cons_succ])
    refine wpT_take 1 (v := ?_) rfl (by kernel_rfl) (by kernel_rfl) (fun _ _ _ h => h) hS (Or.inl ⟨rfl, ?_⟩) ?_
    rotate_left
    · (intro w' hSw; (try dsimp only at hSw); go_simp; first | done | with_reducible rfl)
    (try simp only [Act.put, List.setIfInBounds_toArray, List.set_cons_zero, List.set_cons_succ])
    refine wpT_take 3 (v := ?_) rfl (by kernel_rfl) (by kernel_rfl) (fun _ _ _ h => h) hS (Or.inl ⟨rfl, ?_⟩) ?_
    rotate_left
    · (intro w' hSw; (try dsimp only at hSw); go_simp; first | done | with_reducible rfl)
    (try simp only [Act.put, List.setIfInBounds_toArray, List.set_cons_zero, List.set_cons_succ])
    refine wpT_take 4 (v := ?_) rfl (by kernel_rfl) (by kernel_rfl) (fun _ _ _ h => h) hS (Or.inl ⟨rfl, ?_⟩) ?_
    rotate_left
    · (intro w' hSw; (try dsimp only at hSw); go_simp; first | done | with_reducible rfl)
    (try simp only [Act.put, List.setIfInBounds_toArray, List.set_cons_zero, List.set_cons_succ])
    refine wpT_take 5 (v := ?_) rfl (by kernel_rfl) (by kernel_rfl) (fun _ _ _ h => h) hS (Or.inl ⟨rfl, ?_⟩) ?_
    rotate_left
    · (intro w' hSw; (try dsimp only at hSw); go_simp; first | done | with_reducible rfl)
    (try simp only [Act.put, List.setIfInBounds_toArray, List.set_cons_zero, List.set_cons_succ])
    refine wpT_take 6 (v := ?_) rfl (by kernel_rfl) (by kernel_rfl) (fun _ _ _ h => h) hS (Or.inl ⟨rfl, ?_⟩) ?_
    rotate_left
    · (intro w' hSw; (try dsimp only at hSw); go_simp; first | done | with_reducible rfl)
    (try simp only [Act.put, List.setIfInBounds_toArray, List.set_cons_zero, List.set_cons_succ])
    refine wpT_two 2 11 rfl rfl (by kernel_rfl) (fun K hK => ?_) (fun K hK => ?_)
    · skip
      go_simp
      go_at_call 31
      refine (Made_any L2 A2 c2 _ hn2 ((HR2.out.below hS.2.2.2 (Nat.le_refl _)).more hS.2.2.2.size)).mono ?_
      rintro e wm ⟨g, rfl, hg, hgl, hO, hbm⟩
      try have hq6 := hq6.below hbm hq6.lt
      refine hK.out _ _ ?_ (fun hS => ?_)
      · (try dsimp only)
        exact cm_S hB0 hQ1 (hS.2.2.2.trans (hbm.mono hS.2.2.2.size))
      clear hK K
      (try simp only [Act.put, List.setIfInBounds_toArray, List.set_cons_zero, List.set_cons_succ])
      (try dsimp only at hS)
      refine wpT_two 7 11 rfl rfl (by kernel_rfl) (fun K hK => ?_) (fun K hK => ?_)
      · skip
        go_simp
        go_at_call 30
        refine (crop_mk L1 L2 g _ (by first | exact hO.rd hgl | exact (hO.alloc _).rd (by simp; omega))).mono ?_
        rintro e wc ⟨g2, rfl, hg2, hgl2, hO2, hbc⟩
        have hsc := hS.2.2.2.size
        have hbc1 := hS.2.2.2.trans (hbc.mono hS.2.2.2.size)
        try have hqne := Nat.lt_of_lt_of_le hq6.lt hg2
        try have hq6 := hq6.below hbc hq6.lt
        refine hK.out _ _ ?_ (fun hS => ?_)
        · (try dsimp only)
          exact cm_S hB0 hQ1 hbc1
        clear hK K
        (try simp only [Act.put, List.setIfInBounds_toArray, List.set_cons_zero, List.set_cons_succ])
        (try dsimp only at hS)
        refine wpT_take 8 (v := ?_) rfl (by kernel_rfl) (by kernel_rfl) (fun _ _ _ h => h) hS (Or.inl ⟨rfl, ?_⟩) ?_
        rotate_left
        · (intro w' hSw; (try dsimp only at hSw); go_simp; first | done | with_reducible rfl)
        (try simp only [Act.put, List.setIfInBounds_toArray, List.set_cons_zero, List.set_cons_succ])
        refine wpT_take 9 (v := ?_) rfl (by kernel_rfl) (by kernel_rfl) (fun _ _ _ h => h) hS (Or.inl ⟨rfl, ?_⟩) ?_
        rotate_left
        · (intro w' hSw; (try dsimp only at hSw); go_simp; first | done | with_reducible rfl)
        (try simp only [Act.put, List.setIfInBounds_toArray, List.set_cons_zero, List.set_cons_succ])
        refine wpT_take 10 (v := ?_) rfl (by kernel_rfl) (by kernel_rfl) (fun _ _ _ h => h) hS (Or.inl ⟨rfl, ?_⟩) ?_
        rotate_left
        · (intro w' hSw; (try dsimp only at hSw); go_simp; first | done | with_reducible rfl)
        (try simp only [Act.put, List.setIfInBounds_toArray, List.set_cons_zero, List.set_cons_succ])
        refine wpT_one 11 rfl (by kernel_rfl) (fun K hK => ?_)
        have hS11 := hS.2.2.2.size
        have hq6 := blk_of (t := 29) (cs := #[.int .i64 0, .int .i64 0, .slice none 0 0]) hS11
        go_simp
        refine hK.out _ _ ?_ (fun hS => ?_)
        · (try dsimp only)
          exact cm_S hB0 hQ1 (hS.2.2.2.alloc hS.2.2.2.size _)
        clear hK K
        (try simp only [Act.put, List.setIfInBounds_toArray, List.set_cons_zero, List.set_cons_succ])
        (try dsimp only at hS)
        refine wpT_one 12 rfl (by kernel_rfl) (fun K hK => ?_)
        try (have e9 : W1.drew.heap.size = q1 + 1 := hsz1; rw [e9] at hq6 hqne hS11)
        try (obtain ⟨⟨e0, e1, e2⟩, f0, f1, f2⟩ := hq6.three; have hql := hq6.lt)
        go_simp
        refine hK.out _ _ ?_ (fun hS => ?_)
        · (try dsimp only)
          first | exact cm_S hB0 hQ1 (hbc1.alloc hbc1.size _) | exact cm_S hB0 hQ1 (below_set (below_set (below_set hbc1 hS11 _) hS11 _) hS11 _)
        clear hK K
        (try simp only [Act.put, List.setIfInBounds_toArray, List.set_cons_zero, List.set_cons_succ])
        (try dsimp only at hS)
        refine wpT_tail (by rfl) (by kernel_rfl) ?_
        (try simp only [List.drop_succ_cons, List.drop_zero])
        go_wp2
        go_meet
        first | exact cm_fin1 hO2 hbc1 (Nat.le_trans hsc hg2) | exact cm_fin2 hq6 hO2 hbc1 (Nat.le_trans hsc hg2) hS11 (Nat.ne_of_gt hqne)
      · skip
        have hS11 := hS.2.2.2.size
        have hq6 := blk_of (t := 29) (cs := #[.int .i64 0, .int .i64 0, .slice none 0 0]) hS11
        go_simp
        refine hK.out _ _ ?_ (fun hS => ?_)
        · (try dsimp only)
          exact cm_S hB0 hQ1 (hS.2.2.2.alloc hS.2.2.2.size _)
        clear hK K
        (try simp only [Act.put, List.setIfInBounds_toArray, List.set_cons_zero, List.set_cons_succ])
        (try dsimp only at hS)
        refine wpT_one 7 rfl (by kernel_rfl) (fun K hK => ?_)
        go_simp
        go_at_call 30
        refine (crop_mk L1 L2 g _ (by first | exact hO.rd hgl | exact (hO.alloc _).rd (by simp; omega))).mono ?_
        rintro e wc ⟨g2, rfl, hg2, hgl2, hO2, hbc⟩
        have hsc := hS.2.2.2.size
        have hbc1 := hS.2.2.2.trans (hbc.mono hS.2.2.2.size)
        try have hqne := Nat.lt_of_lt_of_le hq6.lt hg2
        try have hq6 := hq6.below hbc hq6.lt
        refine hK.out _ _ ?_ (fun hS => ?_)
        · (try dsimp only)
          exact cm_S hB0 hQ1 hbc1
        clear hK K
        (try simp only [Act.put, List.setIfInBounds_toArray, List.set_cons_zero, List.set_cons_succ])
        (try dsimp only at hS)
        refine wpT_take 8 (v := ?_) rfl (by kernel_rfl) (by kernel_rfl) (fun _ _ _ h => h) hS (Or.inl ⟨rfl, ?_⟩) ?_
        rotate_left
        · (intro w' hSw; (try dsimp only at hSw); go_simp; first | done | with_reducible rfl)
        (try simp only [Act.put, List.setIfInBounds_toArray, List.set_cons_zero, List.set_cons_succ])
        refine wpT_take 9 (v := ?_) rfl (by kernel_rfl) (by kernel_rfl) (fun _ _ _ h => h) hS (Or.inl ⟨rfl, ?_⟩) ?_
        rotate_left
        · (intro w' hSw; (try dsimp only at hSw); go_simp; first | done | with_reducible rfl)
        (try simp only [Act.put, List.setIfInBounds_toArray, List.set_cons_zero, List.set_cons_succ])
        refine wpT_take 10 (v := ?_) rfl (by kernel_rfl) (by kernel_rfl) (fun _ _ _ h => h) hS (Or.inl ⟨rfl, ?_⟩) ?_
        rotate_left
        · (intro w' hSw; (try dsimp only at hSw); go_simp; first | done | with_reducible rfl)
        (try simp only [Act.put, List.setIfInBounds_toArray, List.set_cons_zero, List.set_cons_succ])
        refine wpT_one 12 rfl (by kernel_rfl) (fun K hK => ?_)
        try (have e9 : W1.drew.heap.size = q1 + 1 := hsz1; rw [e9] at hq6 hqne hS11)
        try (obtain ⟨⟨e0, e1, e2⟩, f0, f1, f2⟩ := hq6.three; have hql := hq6.lt)
        go_simp
        refine hK.out _ _ ?_ (fun hS => ?_)
        · (try dsimp only)
          first | exact cm_S hB0 hQ1 (hbc1.alloc hbc1.size _) | exact cm_S hB0 hQ1 (below_set (below_set (below_set hbc1 hS11 _) hS11 _) hS11 _)
        clear hK K
        (try simp only [Act.put, List.setIfInBounds_toArray, List.set_cons_zero, List.set_cons_succ])
        (try dsimp only at hS)
        refine wpT_tail (by rfl) (by kernel_rfl) ?_
        (try simp only [List.drop_succ_cons, List.drop_zero])
        go_wp2
        go_meet
        first | exact cm_fin1 hO2 hbc1 (Nat.le_trans hsc hg2) | exact cm_fin2 hq6 hO2 hbc1 (Nat.le_trans hsc hg2) hS11 (Nat.ne_of_gt hqne)
    · skip
      have hS11 := hS.2.2.2.size
      have hq6 := blk_of (t := 29) (cs := #[.int .i64 0, .int .i64 0, .slice none 0 0]) hS11
      go_simp
      refine hK.out _ _ ?_ (fun hS => ?_)
      · (try dsimp only)
        exact cm_S hB0 hQ1 (hS.2.2.2.alloc hS.2.2.2.size _)
      clear hK K
      (try simp only [Act.put, List.setIfInBounds_toArray, List.set_cons_zero, List.set_cons_succ])
      (try dsimp only at hS)
      refine wpT_one 2 rfl (by kernel_rfl) (fun K hK => ?_)
      go_simp
      go_at_call 31
      refine (Made_any L2 A2 c2 _ hn2 ((HR2.out.below hS.2.2.2 (Nat.le_refl _)).more hS.2.2.2.size)).mono ?_
      rintro e wm ⟨g, rfl, hg, hgl, hO, hbm⟩
      try have hq6 := hq6.below hbm hq6.lt
      refine hK.out _ _ ?_ (fun hS => ?_)
      · (try dsimp only)
        exact cm_S hB0 hQ1 (hS.2.2.2.trans (hbm.mono hS.2.2.2.size))
      clear hK K
      (try simp only [Act.put, List.setIfInBounds_toArray, List.set_cons_zero, List.set_cons_succ])
      (try dsimp only at hS)
      refine wpT_one 7 rfl (by kernel_rfl) (fun K hK => ?_)
      go_simp
      go_at_call 30
      refine (crop_mk L1 L2 g _ (by first | exact hO.rd hgl | exact (hO.alloc _).rd (by simp; omega))).mono ?_
      rintro e wc ⟨g2, rfl, hg2, hgl2, hO2, hbc⟩
      have hsc := hS.2.2.2.size
      have hbc1 := hS.2.2.2.trans (hbc.mono hS.2.2.2.size)
      try have hqne := Nat.lt_of_lt_of_le hq6.lt hg2
      try have hq6 := hq6.below hbc hq6.lt
      refine hK.out _ _ ?_ (fun hS => ?_)
      · (try dsimp only)
        exact cm_S hB0 hQ1 hbc1
      clear hK K
      (try simp only [Act.put, List.setIfInBounds_toArray, List.set_cons_zero, List.set_cons_succ])
      (try dsimp only at hS)
      refine wpT_take 8 (v := ?_) rfl (by kernel_rfl) (by kernel_rfl) (fun _ _ _ h => h) hS (Or.inl ⟨rfl, ?_⟩) ?_
      rotate_left
      · (intro w' hSw; (try dsimp only at hSw); go_simp; first | done | with_reducible rfl)
      (try simp only [Act.put, List.setIfInBounds_toArray, List.set_cons_zero, List.set_cons_succ])
      refine wpT_take 9 (v := ?_) rfl (by kernel_rfl) (by kernel_rfl) (fun _ _ _ h => h) hS (Or.inl ⟨rfl, ?_⟩) ?_
      rotate_left
      · (intro w' hSw; (try dsimp only at hSw); go_simp; first | done | with_reducible rfl)
      (try simp only [Act.put, List.setIfInBounds_toArray, List.set_cons_zero, List.set_cons_succ])
      refine wpT_take 10 (v := ?_) rfl (by kernel_rfl) (by kernel_rfl) (fun _ _ _ h => h) hS (Or.inl ⟨rfl, ?_⟩) ?_
      rotate_left
      · (intro w' hSw; (try dsimp only at hSw); go_simp; first | done | with_reducible rfl)
      (try simp only [Act.put, List.setIfInBounds_toArray, List.set_cons_zero, List.set_cons_succ])
      refine wpT_one 12 rfl (by kernel_rfl) (fun K hK => ?_)
      try (have e9 : W1.drew.heap.size = q1 + 1 := hsz1; rw [e9] at hq6 hqne hS11)
      try (obtain ⟨⟨e0, e1, e2⟩, f0, f1, f2⟩ := hq6.three; have hql := hq6.lt)
      go_simp
      refine hK.out _ _ ?_ (fun hS => ?_)
      · (try dsimp only)
        first | exact cm_S hB0 hQ1 (hbc1.alloc hbc1.size _) | exact cm_S hB0 hQ1 (below_set (below_set (below_set hbc1 hS11 _) hS11 _) hS11 _)
      clear hK K
      (try simp only [Act.put, List.setIfInBounds_toArray, List.set_cons_zero, List.set_cons_succ])
      (try dsimp only at hS)
      refine wpT_tail (by rfl) (by kernel_rfl) ?_
      (try simp only [List.drop_succ_cons, List.drop_zero])
      go_wp2
      go_meet
      first | exact cm_fin1 hO2 hbc1 (Nat.le_trans hsc hg2) | exact cm_fin2 hq6 hO2 hbc1 (Nat.le_trans hsc hg2) hS11 (Nat.ne_of_gt hqne)
  case rest =>
    obtain ⟨g2, q2, rfl, rfl, hO2, hQ2, hg2, hq2, hb2⟩ := hcut
    have hpq1 : p + 1 + 1 + 1 < q1 := z3
    have hpq2 : p + 1 + 1 + 1 < q2 := by omega
    have hB0 := hB0.below hb2 hB0.lt
    have hB1 := hB1.below hb2 hB1.lt
    have hB2 := hB2.below hb2 hB2.lt
    have hB3 := hB3.below hb2 hB3.lt
    have hQ1l := hQ1.lt
    have hQ1 := hQ1.below hb2 hQ1.lt
    have hO1l := hO1.lt
    have hO1 := hO1.below hb2 hO1.lt
    have hbw := hbw.trans (hb2.mono (by omega))
    clear b1 q10 q11 q12
    go_wp2_with fail
    refine wp_world (fun W2 hW2 => ?_)
    rw [← hW2] at hB0 hB1 hB2 hB3 hQ1 hQ2 hO1 hO2 hbw
    clear hW2
    have hbw2 : p ≤ W2.heap.size := by have := hQ1.lt; omega
    refine wp_region_T 9 (fun w' => w'.cell? ⟨p, 2, none⟩ = some (.int .i64 a) ∧ w'.cell? ⟨p, 3, none⟩ = some (.int .i64 b) ∧ w'.cell? ⟨q1, 0, none⟩ = some (.int .i64 (mkW L1)) ∧ w'.cell? ⟨q1, 1, none⟩ = some (.int .i64 (mkH L1)) ∧ w'.cell? ⟨q1, 2, none⟩ = some (.slice (some ⟨g1, 0, none⟩) (mkW L1 * mkH L1) (mkW L1 * mkH L1)) ∧ w'.cell? ⟨q2, 0, none⟩ = some (.int .i64 (mkW L1)) ∧ w'.cell? ⟨q2, 1, none⟩ = some (.int .i64 (mkH L1)) ∧ w'.cell? ⟨q2, 2, none⟩ = some (.slice (some ⟨g2, 0, none⟩) (mkW L1 * mkH L1) (mkW L1 * mkH L1)) ∧ Kp [p + 1, p + 1 + 1, p + 1 + 1 + 1] W2 w') (by kernel_rfl) ?_ (fun hS => ?_)
    · (try dsimp only)
      exact cm_S3 hB0 hQ1 hQ2 hpq1 hpq2 (Kp.refl _ _).drew
    (try dsimp only at hS)
    refine wpT_take 0 (v := ?_) rfl (by kernel_rfl) (by kernel_rfl) (fun _ _ _ h => h) hS (Or.inl ⟨rfl, ?_⟩) ?_
    rotate_left
    · (intro w' hSw; (try dsimp only at hSw); go_simp; first | done | with_reducible rfl)
    (try simp only [Act.put, List.setIfInBounds_toArray, List.set_cons_zero, List.set_cons_succ])
    refine wpT_take 1 (v := ?_) rfl (by kernel_rfl) (by kernel_rfl) (fun _ _ _ h => h) hS (Or.inl ⟨rfl, ?_⟩) ?_
    rotate_left
    · (intro w' hSw; (try dsimp only at hSw); go_simp; first | done | with_reducible rfl)
    (try simp only [Act.put, List.setIfInBounds_toArray, List.set_cons_zero, List.set_cons_succ])
    refine wpT_take 2 (v := ?_) rfl (by kernel_rfl) (by kernel_rfl) (fun _ _ _ h => h) hS (Or.inl ⟨rfl, ?_⟩) ?_
    rotate_left
    · (intro w' hSw; (try dsimp only at hSw); go_simp; first | done | with_reducible rfl)
    (try simp only [Act.put, List.setIfInBounds_toArray, List.set_cons_zero, List.set_cons_succ])
    refine wpT_take 3 (v := ?_) rfl (by kernel_rfl) (by kernel_rfl) (fun _ _ _ h => h) hS (Or.inl ⟨rfl, ?_⟩) ?_
    rotate_left
    · (intro w' hSw; (try dsimp only at hSw); go_simp; first | done | with_reducible rfl)
    (try simp only [Act.put, List.setIfInBounds_toArray, List.set_cons_zero, List.set_cons_succ])
    refine wpT_take 5 (v := ?_) rfl (by kernel_rfl) (by kernel_rfl) (fun _ _ _ h => h) hS (Or.inl ⟨rfl, ?_⟩) ?_
    rotate_left
    · (intro w' hSw; (try dsimp only at hSw); go_simp; first | done | with_reducible rfl)
    (try simp only [Act.put, List.setIfInBounds_toArray, List.set_cons_zero, List.set_cons_succ])
    refine wpT_take 6 (v := ?_) rfl (by kernel_rfl) (by kernel_rfl) (fun _ _ _ h => h) hS (Or.inl ⟨rfl, ?_⟩) ?_
    rotate_left
    · (intro w' hSw; (try dsimp only at hSw); go_simp; first | done | with_reducible rfl)
    (try simp only [Act.put, List.setIfInBounds_toArray, List.set_cons_zero, List.set_cons_succ])
    refine wpT_one 4 rfl (by kernel_rfl) (fun K hK => ?_)
    go_simp
    go_at_call 66
    refine (ref21_Made a b _).mono ?_
    rintro e w5 ⟨rfl, hb5⟩
    have hb6 : Below W2.heap.size W2 w5 := (Below.refl _ _).drew.trans hb5
    have hB1 := hB1.below hb6 hB1.lt
    have hB2 := hB2.below hb6 hB2.lt
    have hB3 := hB3.below hb6 hB3.lt
    have hk5 := (Kp.refl [p + 1, p + 1 + 1, p + 1 + 1 + 1] W2).below hb6
    refine hK.out _ _ ?_ (fun hS => ?_)
    · (try dsimp only)
      exact cm_S3 hB0 hQ1 hQ2 hpq1 hpq2 hk5
    clear hK K
    (try simp only [Act.put, List.setIfInBounds_toArray, List.set_cons_zero, List.set_cons_succ])
    (try dsimp only at hS)
    refine wpT_one 7 rfl (by kernel_rfl) (fun K hK => ?_)
    obtain ⟨⟨d0, d1⟩, e0, e1⟩ := hB1.two
    go_simp
    refine k_world (fun W7 hW7 => ?_)
    obtain ⟨hB1, hk7⟩ := store2 hW7 hB1
    clear hW7 d0 d1 e0 e1
    have hB2 := hk7.blk hB2 (by simp)
    have hB3 := hk7.blk hB3 (by simp; omega)
    have hk6 := hk5.trans (hk7.more (l' := [p + 1, p + 1 + 1, p + 1 + 1 + 1]) (by simp))
    refine hK.out _ _ ?_ (fun hS => ?_)
    · (try dsimp only)
      exact cm_S3 hB0 hQ1 hQ2 hpq1 hpq2 hk6
    clear hK K
    (try simp only [Act.put, List.setIfInBounds_toArray, List.set_cons_zero, List.set_cons_succ])
    (try dsimp only at hS)
    refine wpT_one 8 rfl (by kernel_rfl) (fun K hK => ?_)
    obtain ⟨⟨d0, d1, d2⟩, e0, e1, e2⟩ := hB2.three
    go_simp
    refine k_world (fun W8 hW8 => ?_)
    obtain ⟨hB2, hk8⟩ := store3 hW8 hB2
    clear hW8 d0 d1 d2 e0 e1 e2
    have hB1 := hk8.blk hB1 (by simp)
    have hB3 := hk8.blk hB3 (by simp)
    have hk9 := hk6.trans (hk8.more (l' := [p + 1, p + 1 + 1, p + 1 + 1 + 1]) (by simp))
    refine hK.out _ _ ?_ (fun hS => ?_)
    · (try dsimp only)
      exact cm_S3 hB0 hQ1 hQ2 hpq1 hpq2 hk9
    clear hK K
    (try simp only [Act.put, List.setIfInBounds_toArray, List.set_cons_zero, List.set_cons_succ])
    (try dsimp only at hS)
    refine wpT_tail (by rfl) (by kernel_rfl) ?_
    (try simp only [List.drop_succ_cons, List.drop_zero])
    have hO1 := hk9.own hO1 (by simp; omega)
    have hO2 := hk9.own hO2 (by simp; omega)
    have hbw := hbw.trans (hk9.to_below hbw2 (by simp; omega))
    clear hS hk9 hk8 hk7 hk6 hk5 hb5 hb6
    obtain ⟨⟨d0, d1⟩, e0, e1⟩ := hB1.two
    obtain ⟨⟨r0, r1, r2⟩, f0, f1, f2⟩ := hB2.three
    obtain ⟨⟨s0, s1, s2⟩, t0, t1, t2⟩ := hB3.three
    go_wp2
    refine bp_world (fun W9 hW9 => ?_)
    obtain ⟨hB3, hk9⟩ := store3 hW9 hB3
    clear hW9 s0 s1 s2 t0 t1 t2
    have hw9 : p ≤ W8.heap.size := by have := hB2.lt; omega
    obtain ⟨⟨d0, d1⟩, e0, e1⟩ := (hk9.blk hB1 (by simp <;> omega)).two
    obtain ⟨⟨r0, r1, r2⟩, f0, f1, f2⟩ := (hk9.blk hB2 (by simp)).three
    obtain ⟨⟨s0, s1, s2⟩, t0, t1, t2⟩ := hB3.three
    refine bodyPost_ret (v := .tuple #[.agg #[.int .i64 (mdB a), .int .i64 (mdS a b)], .agg #[.int .i64 (mkW L1), .int .i64 (mkH L1), .slice (some ⟨g1, 0, none⟩) (mkW L1 * mkH L1) (mkW L1 * mkH L1)], .agg #[.int .i64 (mkW L1), .int .i64 (mkH L1), .slice (some ⟨g2, 0, none⟩) (mkW L1 * mkH L1) (mkW L1 * mkH L1)]])
      (by simp [results, Try.results20, go_sem, d0, d1, r0, r1, r2, s0, s1, s2]) rfl ⟨g1, g2, rfl, by have := HP.out; omega, by have := HP.out; omega, ?_, ?_, ?_⟩
    · exact hk9.own hO1 (by simp; omega)
    · exact hk9.own hO2 (by simp; omega)
    · rw [HP.out]; exact hbw.trans (hk9.to_below hw9 (by simp; omega))
end Go.Proofs.Ytlanefdeeanpnaa
