/-
  The law ReaderNear: for every argument the call returns true. Conditions: the lists' lengths fit an int, and they are read below the heap's size.
-/
import Derived.Test.YtlanefdeeanpnaaCaseMade
import Derived.Test.YtlanefdeeanpnaaSanity
import Derived.Test.YtlanefdeeanpnaaMath21
import Derived.Test.YtlanefdeeanpnaaOdd
import Derived.Deep.QuietTactic
import Derived.BigQuiet
import Derived.Test.YtlanefdeeanpnaaSame
import Derived.Test.YtlanefdeeanpnaaText
import Derived.Deep.DrawnRows
namespace Go.Proofs.Ytlanefdeeanpnaa
set_option linter.unusedVariables false
set_option linter.unusedSimpArgs false
open Go.RowKit
attribute [local go_sem ↓] Go.wp_at_zero Go.wp_at_succ
attribute [local go_sem] run_max_int4

set_option maxHeartbeats 1000000 in
set_option maxRecDepth 100000 in
theorem near_law (L1 L2 : List Int) (A1 A2 : Option Addr) (c1 c2 : Nat) (a b k u : Int) (w : World) (hu0 : 0 ≤ u) (hu1 : u ≤ 65535) (hn1 : L1.length ≤ 9223372036854775807) (hn2 : L2.length ≤ 9223372036854775807)
    (hr1 : Rd (Value.int .i64) w w.heap.size A1 L1) (hr2 : Rd (Value.int .i64) w w.heap.size A2 L2) :
    Calls Try.prog 6 #[.agg #[.slice A1 L1.length c1, .slice A2 L2.length c2, .int .i64 a, .int .i64 b, .int .i64 k], .int .u16 u] w fun e w' => e = .returned (.bool true) ∧ Below w.heap.size w w' := by
  have HR1 := Lib.hid hr1
  have HR2 := Lib.hid hr2
  clear hr1 hr2
  go_enter Try.func6, Try.ntmps6
  go_wp2_with fail
  refine calls_world (fun W0 hW0 => ?_)
  obtain ⟨T0, hs0, _⟩ := (Tr.start w).new1 hW0
  clear hW0
  generalize hp : w.heap.size = p at *
  have HP := Lib.hid hp
  clear hp
  refine (sanity_true _).mono ?_
  rintro e w1 ⟨rfl, hb1⟩
  have T1 := T0.call hb1
  clear T0 hb1 hs0
  obtain ⟨b0, b1, b2, b3, b4⟩ := T1.stand.1.five
  go_wp2_with fail
  refine (case_made L1 L2 A1 A2 c1 c2 a b k _ hn1 hn2 (T1.rd HR1.out) (T1.rd HR2.out)).mono ?_
  rintro e w2 ⟨g1, g2, rfl, hg1, hg2, hO1, hO2, hb2⟩
  have T2 := ((T1.call hb2).push hO2.blk).push hO1.blk
  clear T1 hb2 hO1 hO2 b0 b1 b2 b3 b4
  go_upto_region 3 with fail
  refine wp_world (fun W3 hW3 => ?_)
  obtain ⟨T3, hs3, _⟩ := T2.new3 hW3
  clear hW3 T2 hs3
  generalize hq : w2.heap.size = q at *
  clear hq HR1 HR2
  have hl1 := mkD_len L1
  have hm := mkW_le L1
  have hn := mkH_le L1
  have hok := md_ok a b
  generalize mkD2 L1 L2 = D2 at *
  generalize mkD L1 = D at *
  generalize mkW L1 = m at *
  generalize mkH L1 = n at *
  generalize mdS a b = S at *
  obtain ⟨hB0, hB2, hS1, hS2⟩ := rd_yes hok
  generalize mdB a = B at *
  obtain ⟨bb, rfl⟩ := Int.eq_ofNat_of_zero_le hB0
  have hmn : m * n ≤ 192 := Nat.mul_le_mul hm hn
  have hb2 : bb ≤ 2 := by omega
  have HOK := Lib.hid hok
  have HL1 := Lib.hid hl1
  clear hok hS1 hS2 hB0 hB2 hl1
  obtain ⟨⟨b0, b1, b2⟩, _⟩ := T3.stand.2.1.three
  have hlow := T3.low
  have hsz := T3.size
  obtain ⟨un, rfl⟩ := Int.eq_ofNat_of_zero_le hu0
  clear hu0
  by_cases hN : m * n = 0
  · have hNi : (m : Int) * (n : Int) = 0 := by rw [← Int.natCast_mul, hN]; rfl
    go_wp2
    go_ret
    exact ⟨rfl, by rw [HP.out]; exact hlow⟩
  · have hNi : (0 : Int) < (m : Int) * (n : Int) := by rw [← Int.natCast_mul]; omega
    have hN0 : 0 < m * n := by omega
    have hm0 : 0 < m := Nat.pos_of_mul_pos_right hN0
    have hn0 : 0 < n := Nat.pos_of_mul_pos_left hN0
    have hNe : ((m : Int) * (n : Int) == 0) = false := beq_eq_false_iff_ne.2 (by omega)
    have hNs : (m : Int) * (n : Int) ≤ 192 := by rw [← Int.natCast_mul]; omega
    obtain ⟨kk, hkk⟩ : ∃ kk : Nat, (un : Int) % ((m : Int) * (n : Int)) = (kk : Int) := ⟨un % (m * n), by rw [← Int.natCast_mul, Int.natCast_emod]⟩
    have hk1 : kk < m * n := by have := Int.emod_lt_of_pos (un : Int) hNi; rw [hkk, ← Int.natCast_mul] at this; omega
    go_upto_region 6 with fail
    rw [hkk]
    have HKK := Lib.hid hkk
    clear hkk
    refine wp_world (fun W5 hW5 => ?_)
    rw [← hW5] at T3 b0 b1 b2 hlow hsz
    clear hW5
    obtain ⟨i0, hi0, hy0, hy1, hy2⟩ := info_parts info_bool
    have hrD : Rd Value.bool W5 W5.heap.size (some ⟨g1, 0, none⟩) D := (T3.stand.2.2.2.1.own (f := Value.bool)).rd T3.stand.2.2.2.1.lt
    have z1 := T3.stand.2.1.lt
    go_cut [10] (fun s10 wx => ∃ (q10 : Nat) (A' : Option Addr) (c' : Nat), s10 = .pointer (some ⟨q10, 0, none⟩) ∧ Blk wx q10 29 #[.int .i64 m, .int .i64 n, .slice A' D.length c'] ∧ wx.ownsRow W5.heap.size 4 1 (.slice A' D.length c') D.length (D.map Value.bool) ∧ (Value.slice A' D.length c').ownBlock ≠ some q10 ∧ Below W5.heap.size W5 wx ∧ W5.heap.size ≤ q10)
    case first =>
      refine wp_region_L 10 (fun w' => (∀ b o, b < W5.heap.size → w'.cell? ⟨b, o, none⟩ = W5.cell? ⟨b, o, none⟩) ∧ Below W5.heap.size W5 w') (by kernel_rfl) ?_ (fun Wd hWd hS => ?_)
      · (try dsimp only)
        exact sb_of (Below.refl _ _).drew
      (try dsimp only at hS)
      refine wpT_take 0 (v := ?_) rfl (by kernel_rfl) (by kernel_rfl) (fun _ _ _ h => h) hS (Or.inl ⟨rfl, ?_⟩) ?_
      rotate_left
      · (intro w' hSw; (try dsimp only at hSw); go_simp; first | done | with_reducible rfl)
      (try simp only [Act.put, List.setIfInBounds_toArray, List.set_cons_zero, List.set_cons_succ])
      refine wpT_take 1 (v := ?_) rfl (by kernel_rfl) (by kernel_rfl) (fun _ _ _ h => h) hS (Or.inl ⟨rfl, ?_⟩) ?_
      rotate_left
      · (intro w' hSw; (try dsimp only at hSw); go_simp; first | done | with_reducible rfl)
      (try simp only [Act.put, List.setIfInBounds_toArray, List.set_cons_zero, List.set_cons_succ])
      refine wpT_take 2 (v := ?_) rfl (by kernel_rfl) (by kernel_rfl) (fun _ _ _ h => h) hS (Or.inl ⟨rfl, ?_⟩) ?_
      rotate_left
      · (intro w' hSw; (try dsimp only at hSw); go_simp; first | done | with_reducible rfl)
      (try simp only [Act.put, List.setIfInBounds_toArray, List.set_cons_zero, List.set_cons_succ])
      refine wpT_take 3 (v := ?_) rfl (by kernel_rfl) (by kernel_rfl) (fun _ _ _ h => h) hS (Or.inl ⟨rfl, ?_⟩) ?_
      rotate_left
      · (intro w' hSw; (try dsimp only at hSw); go_simp; first | done | with_reducible rfl)
      (try simp only [Act.put, List.setIfInBounds_toArray, List.set_cons_zero, List.set_cons_succ])
      refine wpT_take 5 (v := ?_) rfl (by kernel_rfl) (by kernel_rfl) (fun _ _ _ h => h) hS (Or.inl ⟨rfl, ?_⟩) ?_
      rotate_left
      · (intro w' hSw; (try dsimp only at hSw); go_simp; first | done | with_reducible rfl)
      (try simp only [Act.put, List.setIfInBounds_toArray, List.set_cons_zero, List.set_cons_succ])
      refine wpT_take 6 (v := ?_) rfl (by kernel_rfl) (by kernel_rfl) (fun _ _ _ h => h) hS (Or.inl ⟨rfl, ?_⟩) ?_
      rotate_left
      · (intro w' hSw; (try dsimp only at hSw); go_simp; first | done | with_reducible rfl)
      (try simp only [Act.put, List.setIfInBounds_toArray, List.set_cons_zero, List.set_cons_succ])
      refine wpT_two 4 9 rfl rfl (by kernel_rfl) (fun K hK => ?_) (fun K hK => ?_)
      · skip
        go_simp
        refine k_world (fun Wa hWa => ?_)
        have hS4 := hS.2.size
        obtain ⟨ge, eq, hE, hbE, hsE⟩ := new1n hWa
        clear hWa
        try rw [eq]
        have hge : W5.heap.size ≤ ge := by omega
        have hbS := hS.2.trans (hbE.mono hge)
        try have hq10e : q10 ≠ ge := by have := hQ.lt; omega
        try have hQ := hQ.below hbE (by have := hQ.lt; omega)
        refine hK.out _ _ ?_ (fun hS => ?_)
        · (try dsimp only)
          exact sb_of hbS
        clear hK K
        (try simp only [Act.put, List.setIfInBounds_toArray, List.set_cons_zero, List.set_cons_succ])
        (try dsimp only at hS)
        refine wpT_two 7 9 rfl rfl (by kernel_rfl) (fun K hK => ?_) (fun K hK => ?_)
        · skip
          refine step_append_rd _ (by rfl) _ _ _ (by rfl) W5.heap.size 4 i0 _ 1 Try.underlying27 hi0 hy0 hy1 hy2 rfl _ 0 [] (by rfl) (own_empty hE hge) (some ⟨g1, 0, none⟩) (m * n) W5.heap.size D (by rw [HL1.out]; rfl) (hrD.below hS.2 (Nat.le_refl _)) (fun _ => rfl) (by have := HL1.out; unfold maxLen; omega) (by have := HL1.out; omega) hS.2.size ?_
          intro A' c' w7 hown hgrow hat
          rw [Nat.zero_add] at hown hat
          simp only [List.nil_append] at hown
          have hbS := below_grown hS.2 hgrow hS.2.size (by intro k hk; simp [Value.ownBlock] at hk; omega)
          try have hne : (Value.slice A' D.length c').ownBlock ≠ some q10 := by (have h9 := hQ.lt; intro h8; rw [h8] at hat; simp [Value.ownBlock] at hat; omega)
          try have hQ := hQ.grown hgrow (by intro h7; simp [Value.ownBlock] at h7; exact hq10e h7)
          rw [Nat.zero_add]
          refine hK.out _ _ ?_ (fun hS => ?_)
          · (try dsimp only)
            exact sb_of hbS
          clear hK K
          (try simp only [Act.put, List.setIfInBounds_toArray, List.set_cons_zero, List.set_cons_succ])
          (try dsimp only at hS)
          refine wpT_take 8 (v := ?_) rfl (by kernel_rfl) (by kernel_rfl) (fun _ _ _ h => h) hS (Or.inl ⟨rfl, ?_⟩) ?_
          rotate_left
          · (intro w' hSw; (try dsimp only at hSw); go_simp; first | done | with_reducible rfl)
          (try simp only [Act.put, List.setIfInBounds_toArray, List.set_cons_zero, List.set_cons_succ])
          refine wpT_one 9 rfl (by kernel_rfl) (fun K hK => ?_)
          go_simp
          refine k_world (fun Wq hWq => ?_)
          have hS9 := hS.2.size
          obtain ⟨q10, eqq, hQ, hbQ, hsQ⟩ := new1n hWq
          clear hWq
          try rw [eqq]
          have hq10 : W5.heap.size ≤ q10 := by omega
          have hbS := hS.2.trans (hbQ.mono hq10)
          try have hne : (Value.slice A' D.length c').ownBlock ≠ some q10 := by (intro h8; have := (hown.lt q10 h8).2; omega)
          try have hown := own_below hown (by rw [eqq]; exact hbQ)
          try have hq10e : q10 ≠ ge := by have := hE.lt; omega
          try have hE := hE.below hbQ (by have := hE.lt; omega)
          refine hK.out _ _ ?_ (fun hS => ?_)
          · (try dsimp only)
            exact sb_of hbS
          clear hK K
          (try simp only [Act.put, List.setIfInBounds_toArray, List.set_cons_zero, List.set_cons_succ])
          (try dsimp only at hS)
          refine wpT_tail (by rfl) (by kernel_rfl) ?_
          (try simp only [List.drop_succ_cons, List.drop_zero])
          obtain ⟨⟨e0, e1, e2⟩, f0, f1, f2⟩ := hQ.three
          go_wp2
          go_meet
          exact odd_fin hQ hown hne hbS hq10
        · skip
          go_simp
          refine k_world (fun Wq hWq => ?_)
          have hS9 := hS.2.size
          obtain ⟨q10, eqq, hQ, hbQ, hsQ⟩ := new1n hWq
          clear hWq
          try rw [eqq]
          have hq10 : W5.heap.size ≤ q10 := by omega
          have hbS := hS.2.trans (hbQ.mono hq10)
          try have hne : (Value.slice A' D.length c').ownBlock ≠ some q10 := by (intro h8; have := (hown.lt q10 h8).2; omega)
          try have hown := own_below hown (by rw [eqq]; exact hbQ)
          try have hq10e : q10 ≠ ge := by have := hE.lt; omega
          try have hE := hE.below hbQ (by have := hE.lt; omega)
          refine hK.out _ _ ?_ (fun hS => ?_)
          · (try dsimp only)
            exact sb_of hbS
          clear hK K
          (try simp only [Act.put, List.setIfInBounds_toArray, List.set_cons_zero, List.set_cons_succ])
          (try dsimp only at hS)
          refine wpT_one 7 rfl (by kernel_rfl) (fun K hK => ?_)
          refine step_append_rd _ (by rfl) _ _ _ (by rfl) W5.heap.size 4 i0 _ 1 Try.underlying27 hi0 hy0 hy1 hy2 rfl _ 0 [] (by rfl) (own_empty hE hge) (some ⟨g1, 0, none⟩) (m * n) W5.heap.size D (by rw [HL1.out]; rfl) (hrD.below hS.2 (Nat.le_refl _)) (fun _ => rfl) (by have := HL1.out; unfold maxLen; omega) (by have := HL1.out; omega) hS.2.size ?_
          intro A' c' w7 hown hgrow hat
          rw [Nat.zero_add] at hown hat
          simp only [List.nil_append] at hown
          have hbS := below_grown hS.2 hgrow hS.2.size (by intro k hk; simp [Value.ownBlock] at hk; omega)
          try have hne : (Value.slice A' D.length c').ownBlock ≠ some q10 := by (have h9 := hQ.lt; intro h8; rw [h8] at hat; simp [Value.ownBlock] at hat; omega)
          try have hQ := hQ.grown hgrow (by intro h7; simp [Value.ownBlock] at h7; exact hq10e h7)
          rw [Nat.zero_add]
          refine hK.out _ _ ?_ (fun hS => ?_)
          · (try dsimp only)
            exact sb_of hbS
          clear hK K
          (try simp only [Act.put, List.setIfInBounds_toArray, List.set_cons_zero, List.set_cons_succ])
          (try dsimp only at hS)
          refine wpT_take 8 (v := ?_) rfl (by kernel_rfl) (by kernel_rfl) (fun _ _ _ h => h) hS (Or.inl ⟨rfl, ?_⟩) ?_
          rotate_left
          · (intro w' hSw; (try dsimp only at hSw); go_simp; first | done | with_reducible rfl)
          (try simp only [Act.put, List.setIfInBounds_toArray, List.set_cons_zero, List.set_cons_succ])
          refine wpT_tail (by rfl) (by kernel_rfl) ?_
          (try simp only [List.drop_succ_cons, List.drop_zero])
          obtain ⟨⟨e0, e1, e2⟩, f0, f1, f2⟩ := hQ.three
          go_wp2
          go_meet
          exact odd_fin hQ hown hne hbS hq10
      · skip
        go_simp
        refine k_world (fun Wq hWq => ?_)
        have hS9 := hS.2.size
        obtain ⟨q10, eqq, hQ, hbQ, hsQ⟩ := new1n hWq
        clear hWq
        try rw [eqq]
        have hq10 : W5.heap.size ≤ q10 := by omega
        have hbS := hS.2.trans (hbQ.mono hq10)
        try have hne : (Value.slice A' D.length c').ownBlock ≠ some q10 := by (intro h8; have := (hown.lt q10 h8).2; omega)
        try have hown := own_below hown (by rw [eqq]; exact hbQ)
        try have hq10e : q10 ≠ ge := by have := hE.lt; omega
        try have hE := hE.below hbQ (by have := hE.lt; omega)
        refine hK.out _ _ ?_ (fun hS => ?_)
        · (try dsimp only)
          exact sb_of hbS
        clear hK K
        (try simp only [Act.put, List.setIfInBounds_toArray, List.set_cons_zero, List.set_cons_succ])
        (try dsimp only at hS)
        refine wpT_one 4 rfl (by kernel_rfl) (fun K hK => ?_)
        go_simp
        refine k_world (fun Wa hWa => ?_)
        have hS4 := hS.2.size
        obtain ⟨ge, eq, hE, hbE, hsE⟩ := new1n hWa
        clear hWa
        try rw [eq]
        have hge : W5.heap.size ≤ ge := by omega
        have hbS := hS.2.trans (hbE.mono hge)
        try have hq10e : q10 ≠ ge := by have := hQ.lt; omega
        try have hQ := hQ.below hbE (by have := hQ.lt; omega)
        refine hK.out _ _ ?_ (fun hS => ?_)
        · (try dsimp only)
          exact sb_of hbS
        clear hK K
        (try simp only [Act.put, List.setIfInBounds_toArray, List.set_cons_zero, List.set_cons_succ])
        (try dsimp only at hS)
        refine wpT_one 7 rfl (by kernel_rfl) (fun K hK => ?_)
        refine step_append_rd _ (by rfl) _ _ _ (by rfl) W5.heap.size 4 i0 _ 1 Try.underlying27 hi0 hy0 hy1 hy2 rfl _ 0 [] (by rfl) (own_empty hE hge) (some ⟨g1, 0, none⟩) (m * n) W5.heap.size D (by rw [HL1.out]; rfl) (hrD.below hS.2 (Nat.le_refl _)) (fun _ => rfl) (by have := HL1.out; unfold maxLen; omega) (by have := HL1.out; omega) hS.2.size ?_
        intro A' c' w7 hown hgrow hat
        rw [Nat.zero_add] at hown hat
        simp only [List.nil_append] at hown
        have hbS := below_grown hS.2 hgrow hS.2.size (by intro k hk; simp [Value.ownBlock] at hk; omega)
        try have hne : (Value.slice A' D.length c').ownBlock ≠ some q10 := by (have h9 := hQ.lt; intro h8; rw [h8] at hat; simp [Value.ownBlock] at hat; omega)
        try have hQ := hQ.grown hgrow (by intro h7; simp [Value.ownBlock] at h7; exact hq10e h7)
        rw [Nat.zero_add]
        refine hK.out _ _ ?_ (fun hS => ?_)
        · (try dsimp only)
          exact sb_of hbS
        clear hK K
        (try simp only [Act.put, List.setIfInBounds_toArray, List.set_cons_zero, List.set_cons_succ])
        (try dsimp only at hS)
        refine wpT_take 8 (v := ?_) rfl (by kernel_rfl) (by kernel_rfl) (fun _ _ _ h => h) hS (Or.inl ⟨rfl, ?_⟩) ?_
        rotate_left
        · (intro w' hSw; (try dsimp only at hSw); go_simp; first | done | with_reducible rfl)
        (try simp only [Act.put, List.setIfInBounds_toArray, List.set_cons_zero, List.set_cons_succ])
        refine wpT_tail (by rfl) (by kernel_rfl) ?_
        (try simp only [List.drop_succ_cons, List.drop_zero])
        obtain ⟨⟨e0, e1, e2⟩, f0, f1, f2⟩ := hQ.three
        go_wp2
        go_meet
        exact odd_fin hQ hown hne hbS hq10
    case rest =>
      obtain ⟨q10, A', c', rfl, hQ, hown, hne, hb, hq10⟩ := hcut
      rw [HL1.out] at hQ hown hne
      refine k_world (fun W6 hW6 => ?_)
      rw [← hW6] at hQ hown hb
      clear hW6
      have T6 := T3.call hb
      obtain ⟨g, cap, hv, hgb, hgl⟩ := hown.form hN0
      injection hv with hv1 _ hv3
      subst hv1 hv3
      have hgq : g ≠ q10 := fun e => hne (by rw [e]; rfl)
      have hkD : kk < D.length := by rw [HL1.out]; exact hk1
      have hd := own_cell hown hkD
      generalize D[kk] = dk at hd
      have hfz := own_frozen (k := kk) hown
      have yq := T3.stand.1.lt
      have yq1 := T3.stand.2.1.lt
      have yg1 := T3.stand.2.2.2.1.lt
      clear b0 b1 b2
      obtain ⟨⟨b0, b1, b2⟩, _⟩ := hQ.three
      have hlD2 : (D.set kk (!dk)).length = m * n := by rw [List.length_set, HL1.out]
      have k0 : (0 : Int) ≤ (kk : Int) := by omega
      have k3 : (kk : Int) < ((m * n : Nat) : Int) := by omega
      have k4 : (kk : Int) < (m : Int) * (n : Int) := by rw [← Int.natCast_mul]; exact k3
      clear hne T3 hrD
      go_upto_region 7 with fail
      refine wp_region_L 10 (fun w' => w'.cell? ⟨q10, 2, none⟩ = some (.slice (some ⟨g, 0, none⟩) (m * n) c') ∧ w'.cell? ⟨g, kk, none⟩ = some (.bool dk) ∧ w'.frozen? ⟨g, kk, none⟩ = false) (by kernel_rfl) ?_ (fun Wd hWd hS => ?_)
      · (try dsimp only)
        exact ⟨b2, hd, hfz⟩
      (try dsimp only at hS)
      refine wpT_take 0 (v := ?_) rfl (by kernel_rfl) (by kernel_rfl) (fun _ _ _ h => h) hS (Or.inl ⟨rfl, ?_⟩) ?_
      rotate_left
      · (intro w' hSw; (try dsimp only at hSw); go_simp; first | done | with_reducible rfl)
      (try simp only [Act.put, List.setIfInBounds_toArray, List.set_cons_zero, List.set_cons_succ])
      refine wpT_take 1 (v := ?_) rfl (by kernel_rfl) (by kernel_rfl) (fun _ _ _ h => h) hS (Or.inl ⟨rfl, ?_⟩) ?_
      rotate_left
      · (intro w' hSw; (try dsimp only at hSw); go_simp; first | done | with_reducible rfl)
      (try simp only [Act.put, List.setIfInBounds_toArray, List.set_cons_zero, List.set_cons_succ])
      refine wpT_take 2 (v := ?_) rfl (by kernel_rfl) (by kernel_rfl) (fun _ _ _ h => h) hS (Or.inl ⟨rfl, ?_⟩) ?_
      rotate_left
      · (intro w' hSw; (try dsimp only at hSw); go_simp; first | done | with_reducible rfl)
      (try simp only [Act.put, List.setIfInBounds_toArray, List.set_cons_zero, List.set_cons_succ])
      refine wpT_take 3 (v := ?_) rfl (by kernel_rfl) (by kernel_rfl) (fun _ _ _ h => h) hS (Or.inl ⟨rfl, ?_⟩) ?_
      rotate_left
      · (intro w' hSw; (try dsimp only at hSw); go_simp; first | done | with_reducible rfl)
      (try simp only [Act.put, List.setIfInBounds_toArray, List.set_cons_zero, List.set_cons_succ])
      refine wpT_take 4 (v := ?_) rfl (by kernel_rfl) (by kernel_rfl) (fun _ _ _ h => h) hS (Or.inl ⟨rfl, ?_⟩) ?_
      rotate_left
      · (intro w' hSw; (try dsimp only at hSw); go_simp; first | done | with_reducible rfl)
      (try simp only [Act.put, List.setIfInBounds_toArray, List.set_cons_zero, List.set_cons_succ])
      refine wpT_take 5 (v := ?_) rfl (by kernel_rfl) (by kernel_rfl) (fun _ _ _ h => h) hS (Or.inl ⟨rfl, ?_⟩) ?_
      rotate_left
      · (intro w' hSw; (try dsimp only at hSw); go_simp; first | done | with_reducible rfl)
      (try simp only [Act.put, List.setIfInBounds_toArray, List.set_cons_zero, List.set_cons_succ])
      refine wpT_take 6 (v := ?_) rfl (by kernel_rfl) (by kernel_rfl) (fun _ _ _ h => h) hS (Or.inl ⟨rfl, ?_⟩) ?_
      rotate_left
      · (intro w' hSw; (try dsimp only at hSw); go_simp; first | done | with_reducible rfl)
      (try simp only [Act.put, List.setIfInBounds_toArray, List.set_cons_zero, List.set_cons_succ])
      refine wpT_take 7 (v := ?_) rfl (by kernel_rfl) (by kernel_rfl) (fun _ _ _ h => h) hS (Or.inl ⟨rfl, ?_⟩) ?_
      rotate_left
      · (intro w' hSw; (try dsimp only at hSw); go_simp; first | done | with_reducible rfl)
      (try simp only [Act.put, List.setIfInBounds_toArray, List.set_cons_zero, List.set_cons_succ])
      refine wpT_take 8 (v := ?_) rfl (by kernel_rfl) (by kernel_rfl) (fun _ _ _ h => h) hS (Or.inl ⟨rfl, ?_⟩) ?_
      rotate_left
      · (intro w' hSw; (try dsimp only at hSw); go_simp; first | done | with_reducible rfl)
      (try simp only [Act.put, List.setIfInBounds_toArray, List.set_cons_zero, List.set_cons_succ])
      refine wpT_take 9 (v := ?_) rfl (by kernel_rfl) (by kernel_rfl) (fun _ _ _ h => h) hS (Or.inl ⟨rfl, ?_⟩) ?_
      rotate_left
      · (intro w' hSw; (try dsimp only at hSw); go_simp; first | done | with_reducible rfl)
      (try simp only [Act.put, List.setIfInBounds_toArray, List.set_cons_zero, List.set_cons_succ])
      refine wpT_tail (by rfl) (by kernel_rfl) ?_
      (try simp only [List.drop_succ_cons, List.drop_zero])
      go_upto_region 8 with fail
      refine wp_world (fun W7 hW7 => ?_)
      have ho7 := own_upd (own_below hown hWd) hk1 (!dk)
      rw [← hW7] at ho7
      have hkp : Kp [g] Wd W7 := by rw [hW7]; exact (Kp.refl [g] _).set (.inl (by simp)) _ _
      have Td := T6.call hWd
      have T7 := ((((Tr.bare (Td.low.trans (hkp.to_below Td.size (by have := Td.size; have := hsz; simp; omega))) (Nat.le_trans Td.size hkp.size)).push (hkp.blk Td.stand.2.2.2.1 (by simp; omega))).push (hkp.blk (hQ.below hWd hQ.lt) (by simp; omega))).push (hkp.blk Td.stand.2.1 (by simp; omega))).push (hkp.blk Td.stand.1 (by simp; omega))
      clear hW7 hkp Td T6 hWd hS hown hQ hd hfz b0 b1 b2 hb
      have hrA : Rd Value.bool W7 W7.heap.size (some ⟨g1, 0, none⟩) D := (T7.stand.2.2.2.1.own (f := Value.bool)).rd T7.stand.2.2.2.1.lt
      have hrB : Rd Value.bool W7 W7.heap.size (some ⟨g, 0, none⟩) (D.set kk (!dk)) := own_rd ho7
      clear ho7
      have hok := HOK.out
      have hl1 := HL1.out
      have CX := Lib.hid (fun w h => reader_See bb S m n (some ⟨g1, 0, none⟩) (m * n) D w (by omega) h)
      rw [see_ok hok (by omega) (by omega) hl1, hl1, Int.toNat_natCast] at CX
      have CY := Lib.hid (fun w h => reader_See bb S m n (some ⟨g, 0, none⟩) c' (D.set kk (!dk)) w (by omega) h)
      rw [see_ok hok (by omega) (by omega) hlD2, hlD2, Int.toNat_natCast] at CY
      have CD := Lib.hid (fun w h h' => reader_Differ bb S m n m n (some ⟨g1, 0, none⟩) (some ⟨g, 0, none⟩) (m * n) c' D (D.set kk (!dk)) w (by omega) (by omega) h h')
      rw [diff_ok hok (by omega) (by omega) hl1 hlD2, hl1, hlD2] at CD
      have HF := Lib.hid (fun i j hi hj h => see_far m n D kk (!dk) bb S i j hi hj hl1 hk1 h)
      have HB := dif_near_all m n D kk (!dk) bb S hl1 hk1
      have hDM : dmN m n bb S D (D.set kk (!dk)) = dif (seeL m n D bb S) (seeL m n (D.set kk (!dk)) bb S) (m * n) := rfl
      rw [hDM] at CD
      have hXl := seeL_len m n D bb S
      have hYl := seeL_len m n (D.set kk (!dk)) bb S
      generalize seeL m n D bb S = X at CX CD HF HB hXl
      generalize seeL m n (D.set kk (!dk)) bb S = Y at CY CD HF HB hYl
      generalize D.set kk (!dk) = E at *
      clear hDM HOK hok hl1 hlD2 hkD HL1
      have hlow := T7.low
      have hsz7 := T7.size
      have x1 := T7.stand.1.lt
      have x2 := T7.stand.2.1.lt
      have x3 := T7.stand.2.2.1.lt
      obtain ⟨⟨r0, r1⟩, _⟩ := T7.stand.1.two
      obtain ⟨⟨b0, b1, b2⟩, _⟩ := T7.stand.2.1.three
      obtain ⟨⟨d0, d1, d2⟩, _⟩ := T7.stand.2.2.1.three
      go_wp2_with fail
      refine (CX.out _ hrA).mono ?_
      rintro e w8 ⟨hb8, A8, c8, rfl, hr8⟩
      dsimp only at hr8 ⊢
      rw [hXl]
      have T8 := T7.call hb8
      replace hrA := (hrA.below hb8 (Nat.le_refl _)).more hb8.size
      replace hrB := (hrB.below hb8 (Nat.le_refl _)).more hb8.size
      clear T7 hb8 r0 r1 b0 b1 b2 d0 d1 d2 x1 x2 x3 CX hlow hsz7
      go_upto_region 9 with fail
      refine wp_world (fun W9 hW9 => ?_)
      obtain ⟨T9, hs9, hb9⟩ := T8.new1 hW9
      replace hrA := (hrA.below hb9 (Nat.le_refl _)).more hb9.size
      replace hrB := (hrB.below hb9 (Nat.le_refl _)).more hb9.size
      replace hr8 := (hr8.below hb9 (Nat.le_refl _)).more hb9.size
      clear hW9 T8 hb9 hs9
      generalize hq11 : w8.heap.size = q11 at *
      clear hq11
      obtain ⟨⟨r0, r1⟩, _⟩ := T9.stand.2.1.two
      obtain ⟨⟨d0, d1, d2⟩, _⟩ := T9.stand.2.2.2.1.three
      go_wp2_with fail
      refine (CY.out _ hrB).mono ?_
      rintro e w10 ⟨hb10, A10, c10, rfl, hr10⟩
      dsimp only at hr10 ⊢
      rw [hYl]
      have T10 := T9.call hb10
      replace hrA := (hrA.below hb10 (Nat.le_refl _)).more hb10.size
      replace hrB := (hrB.below hb10 (Nat.le_refl _)).more hb10.size
      replace hr8 := (hr8.below hb10 (Nat.le_refl _)).more hb10.size
      clear T9 hb10 r0 r1 d0 d1 d2 CY
      go_upto_region 10 with fail
      refine wp_world (fun W11 hW11 => ?_)
      obtain ⟨T11, hs11, hb11⟩ := T10.new1 hW11
      replace hrA := (hrA.below hb11 (Nat.le_refl _)).more hb11.size
      replace hrB := (hrB.below hb11 (Nat.le_refl _)).more hb11.size
      replace hr8 := (hr8.below hb11 (Nat.le_refl _)).more hb11.size
      replace hr10 := (hr10.below hb11 (Nat.le_refl _)).more hb11.size
      clear hW11 T10 hb11 hs11
      generalize hq13 : w10.heap.size = q13 at *
      clear hq13
      have hlow := T11.low
      have hsz := T11.size
      have x1 := T11.stand.1.lt
      have x2 := T11.stand.2.1.lt
      have x3 := T11.stand.2.2.1.lt
      have x4 := T11.stand.2.2.2.1.lt
      have x5 := T11.stand.2.2.2.2.1.lt
      obtain ⟨⟨y0, y1, y2⟩, _⟩ := T11.stand.1.three
      obtain ⟨⟨s0, s1, s2⟩, _⟩ := T11.stand.2.1.three
      obtain ⟨⟨r0, r1⟩, _⟩ := T11.stand.2.2.1.two
      obtain ⟨⟨b0, b1, b2⟩, _⟩ := T11.stand.2.2.2.1.three
      obtain ⟨⟨d0, d1, d2⟩, _⟩ := T11.stand.2.2.2.2.1.three
      clear T11
      have CK := Lib.hid (fun A c w => bitmap_Check m n A (m * n) c w (by omega))
      rw [bm_ok (by omega) (by omega)] at CK
      have hbS := Below.refl W11.heap.size W11
      go_wp2_with fail
      refine (CD.out _ hrA hrB).mono ?_
      rintro e v1 ⟨hv1, rfl⟩
      dsimp only
      have hbS := hbS.trans (hv1.mono hbS.size)
      have hc1 := (sb_of hbS).1
      go_wp2_with fail
      refine (CK.out _ _ _).mono ?_
      rintro e v2 ⟨rfl, hv2⟩
      have hbS := hbS.trans (hv2.mono hbS.size)
      have hc2 := (sb_of hbS).1
      go_wp2_with fail
      refine (CK.out _ _ _).mono ?_
      rintro e v3 ⟨rfl, hv3⟩
      have hbS := hbS.trans (hv3.mono hbS.size)
      clear hc1 hc2 hv1 hv2 hv3 CK hrA hrB CD
      obtain ⟨kx, hkx⟩ : ∃ kx : Nat, kx = kk % m := ⟨_, rfl⟩
      obtain ⟨ky, hky⟩ : ∃ ky : Nat, ky = kk / m := ⟨_, rfl⟩
      have hkxm : kx < m := by rw [hkx]; exact Nat.mod_lt _ hm0
      have hkyn : ky < n := by rw [hky]; exact Nat.div_lt_of_lt_mul hk1
      have hxi : (kk : Int) % (m : Int) = (kx : Int) := by rw [hkx, Int.natCast_emod]
      have hyi : (kk : Int) / (m : Int) = (ky : Int) := by rw [hky, Int.natCast_ediv]
      rw [← hkx, ← hky] at HF
      have HXI := Lib.hid hxi
      have HYI := Lib.hid hyi
      clear hkx hky hxi hyi
      have hXd := Lib.hid (fun i j => @getB_nat m n X i j (by rw [hXl]; exact bm_ok (by omega) (by omega)))
      have hYd := Lib.hid (fun i j => @getB_nat m n Y i j (by rw [hYl]; exact bm_ok (by omega) (by omega)))
      have CGX := Lib.hid (fun x y w h => bitmap_Get m n A8 c8 X x y w (by omega) h)
      have CGY := Lib.hid (fun x y w h => bitmap_Get m n A10 c10 Y x y w (by omega) h)
      rw [hXl] at CGX
      rw [hYl] at CGY
      clear hXl hYl
      go_wp2_with fail
      go_loopw [17, 18] (fun mm jj wr => ∃ j : Nat, j ≤ n ∧ jj = .int .i64 j ∧ mm = .int .i64 ((dif X Y (j * m) : Nat) : Int) ∧ Below W11.heap.size W11 wr) (fun _ jj _ => n - (intOf jj).toNat)
      case atStart => exact ⟨0, by omega, rfl, by simp [dif_zero], hbS⟩
      case round =>
        clear hbS
        obtain ⟨j, hj, rfl, rfl, hbr⟩ := hrel
        have hcr := (sb_of hbr).1
        by_cases hjl : j < n
        · have g1 : (j : Int) < (n : Int) := by omega
          go_wp2_with fail
          go_loopw [17, 19] (fun mm ii wr => ∃ i : Nat, i ≤ m ∧ ii = .int .i64 i ∧ mm = .int .i64 ((dif X Y (j * m + i) : Nat) : Int) ∧ Below W11.heap.size W11 wr) (fun _ ii _ => m - (intOf ii).toNat)
          case atStart => exact ⟨0, by omega, rfl, by rw [Nat.add_zero], hbr⟩
          case round =>
            clear hbr hcr
            obtain ⟨i, hi, rfl, rfl, hbi⟩ := hrel
            have hci := (sb_of hbi).1
            by_cases hil : i < m
            · have g2 : (i : Int) < (m : Int) := by omega
              go_upto_region 20 with fail
              have hxi : (kk : Int).tmod (m : Int) = (kx : Int) := by rw [Int.tmod_eq_emod_of_nonneg (by omega), HXI.out]
              have hyi : (kk : Int).tdiv (m : Int) = (ky : Int) := by rw [Int.tdiv_eq_ediv_of_nonneg (by omega), HYI.out]
              have hmne : ¬ m = 0 := by omega
              have w1 : IntKind.i64.wrap ((i : Int) - (kx : Int)) = (i : Int) - (kx : Int) := IntWalk.i64_in _ (by omega)
              have w2 : IntKind.i64.wrap ((kx : Int) - (i : Int)) = (kx : Int) - (i : Int) := IntWalk.i64_in _ (by omega)
              have w3 : IntKind.i64.wrap ((j : Int) - (ky : Int)) = (j : Int) - (ky : Int) := IntWalk.i64_in _ (by omega)
              have w4 : IntKind.i64.wrap ((ky : Int) - (j : Int)) = (ky : Int) - (j : Int) := IntWalk.i64_in _ (by omega)
              have hmi : (0 : Int) < (m : Int) := by omega
              have w0 : IntKind.i64.wrap (ky : Int) = (ky : Int) := IntWalk.i64_in _ (by omega)
              refine wp_region_L 28 (fun w' => (∀ b o, b < W11.heap.size → w'.cell? ⟨b, o, none⟩ = W11.cell? ⟨b, o, none⟩) ∧ Below W11.heap.size W11 w') (by kernel_rfl) ?_ (fun Wd hWd hS => ?_)
              · (try dsimp only)
                exact sb_of hbi.drew
              (try dsimp only at hS)
              refine wpT_take 0 (v := ?_) rfl (by kernel_rfl) (by kernel_rfl) (fun _ _ _ h => h) hS (Or.inl ⟨rfl, ?_⟩) ?_
              rotate_left
              · (intro w' hSw; (try dsimp only at hSw); go_simp; first | done | with_reducible rfl)
              (try simp only [Act.put, List.setIfInBounds_toArray, List.set_cons_zero, List.set_cons_succ])
              refine wpT_take 1 (v := ?_) rfl (by kernel_rfl) (by kernel_rfl) (fun _ _ _ h => h) hS (Or.inl ⟨rfl, ?_⟩) ?_
              rotate_left
              · (intro w' hSw; (try dsimp only at hSw); go_simp; first | done | with_reducible rfl)
              (try simp only [Act.put, List.setIfInBounds_toArray, List.set_cons_zero, List.set_cons_succ])
              refine wpT_take 2 (v := ?_) rfl (by kernel_rfl) (by kernel_rfl) (fun _ _ _ h => h) hS (Or.inl ⟨rfl, ?_⟩) ?_
              rotate_left
              · (intro w' hSw; (try dsimp only at hSw); go_simp; first | done | with_reducible rfl)
              (try simp only [Act.put, List.setIfInBounds_toArray, List.set_cons_zero, List.set_cons_succ])
              refine wpT_take 3 (v := ?_) rfl (by kernel_rfl) (by kernel_rfl) (fun _ _ _ h => h) hS (Or.inl ⟨rfl, ?_⟩) ?_
              rotate_left
              · (intro w' hSw; (try dsimp only at hSw); go_simp; first | done | with_reducible rfl)
              (try simp only [Act.put, List.setIfInBounds_toArray, List.set_cons_zero, List.set_cons_succ])
              refine wpT_take 4 (v := ?_) rfl (by kernel_rfl) (by kernel_rfl) (fun _ _ _ h => h) hS (Or.inl ⟨rfl, ?_⟩) ?_
              rotate_left
              · (intro w' hSw; (try dsimp only at hSw); go_simp; first | done | with_reducible rfl)
              (try simp only [Act.put, List.setIfInBounds_toArray, List.set_cons_zero, List.set_cons_succ])
              refine wpT_take 5 (v := ?_) rfl (by kernel_rfl) (by kernel_rfl) (fun _ _ _ h => h) hS (Or.inl ⟨rfl, ?_⟩) ?_
              rotate_left
              · (intro w' hSw; (try dsimp only at hSw); go_simp; first | done | with_reducible rfl)
              (try simp only [Act.put, List.setIfInBounds_toArray, List.set_cons_zero, List.set_cons_succ])
              refine wpT_take 6 (v := ?_) rfl (by kernel_rfl) (by kernel_rfl) (fun _ _ _ h => h) hS (Or.inl ⟨rfl, ?_⟩) ?_
              rotate_left
              · (intro w' hSw; (try dsimp only at hSw); go_simp; first | done | with_reducible rfl)
              (try simp only [Act.put, List.setIfInBounds_toArray, List.set_cons_zero, List.set_cons_succ])
              refine wpT_take 7 (v := ?_) rfl (by kernel_rfl) (by kernel_rfl) (fun _ _ _ h => h) hS (Or.inl ⟨rfl, ?_⟩) ?_
              rotate_left
              · (intro w' hSw; (try dsimp only at hSw); go_simp; first | done | with_reducible rfl)
              (try simp only [Act.put, List.setIfInBounds_toArray, List.set_cons_zero, List.set_cons_succ])
              refine wpT_take 8 (v := ?_) rfl (by kernel_rfl) (by kernel_rfl) (fun _ _ _ h => h) hS (Or.inl ⟨rfl, ?_⟩) ?_
              rotate_left
              · (intro w' hSw; (try dsimp only at hSw); go_simp; first | done | with_reducible rfl)
              (try simp only [Act.put, List.setIfInBounds_toArray, List.set_cons_zero, List.set_cons_succ])
              refine wpT_take 9 (v := ?_) rfl (by kernel_rfl) (by kernel_rfl) (fun _ _ _ h => h) hS (Or.inl ⟨rfl, ?_⟩) ?_
              rotate_left
              · (intro w' hSw; (try dsimp only at hSw); go_simp; first | done | with_reducible rfl)
              (try simp only [Act.put, List.setIfInBounds_toArray, List.set_cons_zero, List.set_cons_succ])
              refine wpT_take 10 (v := ?_) rfl (by kernel_rfl) (by kernel_rfl) (fun _ _ _ h => h) hS (Or.inl ⟨rfl, ?_⟩) ?_
              rotate_left
              · (intro w' hSw; (try dsimp only at hSw); go_simp; first | done | with_reducible rfl)
              (try simp only [Act.put, List.setIfInBounds_toArray, List.set_cons_zero, List.set_cons_succ])
              refine wpT_take 11 (v := ?_) rfl (by kernel_rfl) (by kernel_rfl) (fun _ _ _ h => h) hS (Or.inl ⟨rfl, ?_⟩) ?_
              rotate_left
              · (intro w' hSw; (try dsimp only at hSw); go_simp; first | done | with_reducible rfl)
              (try simp only [Act.put, List.setIfInBounds_toArray, List.set_cons_zero, List.set_cons_succ])
              refine wpT_take 12 (v := ?_) rfl (by kernel_rfl) (by kernel_rfl) (fun _ _ _ h => h) hS (Or.inl ⟨rfl, ?_⟩) ?_
              rotate_left
              · (intro w' hSw; (try dsimp only at hSw); go_simp; first | done | with_reducible rfl)
              (try simp only [Act.put, List.setIfInBounds_toArray, List.set_cons_zero, List.set_cons_succ])
              refine wpT_take 13 (v := ?_) rfl (by kernel_rfl) (by kernel_rfl) (fun _ _ _ h => h) hS (Or.inl ⟨rfl, ?_⟩) ?_
              rotate_left
              · (intro w' hSw; (try dsimp only at hSw); go_simp; first | done | with_reducible rfl)
              (try simp only [Act.put, List.setIfInBounds_toArray, List.set_cons_zero, List.set_cons_succ])
              refine wpT_take 14 (v := ?_) rfl (by kernel_rfl) (by kernel_rfl) (fun _ _ _ h => h) hS (Or.inl ⟨rfl, ?_⟩) ?_
              rotate_left
              · (intro w' hSw; (try dsimp only at hSw); go_simp; first | done | with_reducible rfl)
              (try simp only [Act.put, List.setIfInBounds_toArray, List.set_cons_zero, List.set_cons_succ])
              refine wpT_take 15 (v := ?_) rfl (by kernel_rfl) (by kernel_rfl) (fun _ _ _ h => h) hS (Or.inl ⟨rfl, ?_⟩) ?_
              rotate_left
              · (intro w' hSw; (try dsimp only at hSw); go_simp; first | done | with_reducible rfl)
              (try simp only [Act.put, List.setIfInBounds_toArray, List.set_cons_zero, List.set_cons_succ])
              refine wpT_take 16 (v := ?_) rfl (by kernel_rfl) (by kernel_rfl) (fun _ _ _ h => h) hS (Or.inl ⟨rfl, ?_⟩) ?_
              rotate_left
              · (intro w' hSw; (try dsimp only at hSw); go_simp; first | done | with_reducible rfl)
              (try simp only [Act.put, List.setIfInBounds_toArray, List.set_cons_zero, List.set_cons_succ])
              refine wpT_take 17 (v := ?_) rfl (by kernel_rfl) (by kernel_rfl) (fun _ _ _ h => h) hS (Or.inl ⟨rfl, ?_⟩) ?_
              rotate_left
              · (intro w' hSw; (try dsimp only at hSw); go_simp; first | done | with_reducible rfl)
              (try simp only [Act.put, List.setIfInBounds_toArray, List.set_cons_zero, List.set_cons_succ])
              refine wpT_take 18 (v := ?_) rfl (by kernel_rfl) (by kernel_rfl) (fun _ _ _ h => h) hS (Or.inl ⟨rfl, ?_⟩) ?_
              rotate_left
              · (intro w' hSw; (try dsimp only at hSw); go_simp; first | done | with_reducible rfl)
              (try simp only [Act.put, List.setIfInBounds_toArray, List.set_cons_zero, List.set_cons_succ])
              refine wpT_take 19 (v := ?_) rfl (by kernel_rfl) (by kernel_rfl) (fun _ _ _ h => h) hS (Or.inl ⟨rfl, ?_⟩) ?_
              rotate_left
              · (intro w' hSw; (try dsimp only at hSw); go_simp; first | done | with_reducible rfl)
              (try simp only [Act.put, List.setIfInBounds_toArray, List.set_cons_zero, List.set_cons_succ])
              refine wpT_take 20 (v := ?_) rfl (by kernel_rfl) (by kernel_rfl) (fun _ _ _ h => h) hS (Or.inl ⟨rfl, ?_⟩) ?_
              rotate_left
              · (intro w' hSw; (try dsimp only at hSw); go_simp; first | done | with_reducible rfl)
              (try simp only [Act.put, List.setIfInBounds_toArray, List.set_cons_zero, List.set_cons_succ])
              refine wpT_take 21 (v := ?_) rfl (by kernel_rfl) (by kernel_rfl) (fun _ _ _ h => h) hS (Or.inl ⟨rfl, ?_⟩) ?_
              rotate_left
              · (intro w' hSw; (try dsimp only at hSw); go_simp; first | done | with_reducible rfl)
              (try simp only [Act.put, List.setIfInBounds_toArray, List.set_cons_zero, List.set_cons_succ])
              refine wpT_take 22 (v := ?_) rfl (by kernel_rfl) (by kernel_rfl) (fun _ _ _ h => h) hS (Or.inl ⟨rfl, ?_⟩) ?_
              rotate_left
              · (intro w' hSw; (try dsimp only at hSw); go_simp; first | done | with_reducible rfl)
              (try simp only [Act.put, List.setIfInBounds_toArray, List.set_cons_zero, List.set_cons_succ])
              refine wpT_take 23 (v := ?_) rfl (by kernel_rfl) (by kernel_rfl) (fun _ _ _ h => h) hS (Or.inl ⟨rfl, ?_⟩) ?_
              rotate_left
              · (intro w' hSw; (try dsimp only at hSw); go_simp; first | done | with_reducible rfl)
              (try simp only [Act.put, List.setIfInBounds_toArray, List.set_cons_zero, List.set_cons_succ])
              refine wpT_take 24 (v := ?_) rfl (by kernel_rfl) (by kernel_rfl) (fun _ _ _ h => h) hS (Or.inl ⟨rfl, ?_⟩) ?_
              rotate_left
              · (intro w' hSw; (try dsimp only at hSw); go_simp; first | done | with_reducible rfl)
              (try simp only [Act.put, List.setIfInBounds_toArray, List.set_cons_zero, List.set_cons_succ])
              refine wpT_take 25 (v := ?_) rfl (by kernel_rfl) (by kernel_rfl) (fun _ _ _ h => h) hS (Or.inl ⟨rfl, ?_⟩) ?_
              rotate_left
              · (intro w' hSw; (try dsimp only at hSw); go_simp; first | done | with_reducible rfl)
              (try simp only [Act.put, List.setIfInBounds_toArray, List.set_cons_zero, List.set_cons_succ])
              refine wpT_take 26 (v := ?_) rfl (by kernel_rfl) (by kernel_rfl) (fun _ _ _ h => h) hS (Or.inl ⟨rfl, ?_⟩) ?_
              rotate_left
              · (intro w' hSw; (try dsimp only at hSw); go_simp; first | done | with_reducible rfl)
              (try simp only [Act.put, List.setIfInBounds_toArray, List.set_cons_zero, List.set_cons_succ])
              refine wpT_take 27 (v := ?_) rfl (by kernel_rfl) (by kernel_rfl) (fun _ _ _ h => h) hS (Or.inl ⟨rfl, ?_⟩) ?_
              rotate_left
              · (intro w' hSw; (try dsimp only at hSw); go_simp; first | done | with_reducible rfl)
              (try simp only [Act.put, List.setIfInBounds_toArray, List.set_cons_zero, List.set_cons_succ])
              refine wpT_tail (by rfl) (by kernel_rfl) ?_
              (try simp only [List.drop_succ_cons, List.drop_zero])
              have hbS := hS.2
              clear hS hxi hyi w0 w1 w2 w3 w4 hci
              go_upto_region 21 with fail
              generalize hmx : mx4 ((i : Int) - (kx : Int)) ((kx : Int) - (i : Int)) ((j : Int) - (ky : Int)) ((ky : Int) - (j : Int)) = mx
              have HMX := Lib.hid hmx
              clear hmx
              refine wp_region_L 8 (fun w' => (∀ b o, b < W11.heap.size → w'.cell? ⟨b, o, none⟩ = W11.cell? ⟨b, o, none⟩) ∧ Below W11.heap.size W11 w') (by kernel_rfl) ?_ (fun Wd hWd hS => ?_)
              · (try dsimp only)
                exact sb_of hbS.drew
              (try dsimp only at hS)
              refine wpT_take 0 (v := ?_) rfl (by kernel_rfl) (by kernel_rfl) (fun _ _ _ h => h) hS (Or.inl ⟨rfl, ?_⟩) ?_
              rotate_left
              · (intro w' hSw; (try dsimp only at hSw); go_simp; first | done | with_reducible rfl)
              (try simp only [Act.put, List.setIfInBounds_toArray, List.set_cons_zero, List.set_cons_succ])
              refine wpT_take 1 (v := ?_) rfl (by kernel_rfl) (by kernel_rfl) (fun _ _ _ h => h) hS (Or.inl ⟨rfl, ?_⟩) ?_
              rotate_left
              · (intro w' hSw; (try dsimp only at hSw); go_simp; first | done | with_reducible rfl)
              (try simp only [Act.put, List.setIfInBounds_toArray, List.set_cons_zero, List.set_cons_succ])
              refine wpT_take 2 (v := ?_) rfl (by kernel_rfl) (by kernel_rfl) (fun _ _ _ h => h) hS (Or.inl ⟨rfl, ?_⟩) ?_
              rotate_left
              · (intro w' hSw; (try dsimp only at hSw); go_simp; first | done | with_reducible rfl)
              (try simp only [Act.put, List.setIfInBounds_toArray, List.set_cons_zero, List.set_cons_succ])
              refine wpT_take 4 (v := ?_) rfl (by kernel_rfl) (by kernel_rfl) (fun _ _ _ h => h) hS (Or.inl ⟨rfl, ?_⟩) ?_
              rotate_left
              · (intro w' hSw; (try dsimp only at hSw); go_simp; first | done | with_reducible rfl)
              (try simp only [Act.put, List.setIfInBounds_toArray, List.set_cons_zero, List.set_cons_succ])
              refine wpT_take 5 (v := ?_) rfl (by kernel_rfl) (by kernel_rfl) (fun _ _ _ h => h) hS (Or.inl ⟨rfl, ?_⟩) ?_
              rotate_left
              · (intro w' hSw; (try dsimp only at hSw); go_simp; first | done | with_reducible rfl)
              (try simp only [Act.put, List.setIfInBounds_toArray, List.set_cons_zero, List.set_cons_succ])
              refine wpT_take 6 (v := ?_) rfl (by kernel_rfl) (by kernel_rfl) (fun _ _ _ h => h) hS (Or.inl ⟨rfl, ?_⟩) ?_
              rotate_left
              · (intro w' hSw; (try dsimp only at hSw); go_simp; first | done | with_reducible rfl)
              (try simp only [Act.put, List.setIfInBounds_toArray, List.set_cons_zero, List.set_cons_succ])
              refine wpT_one 3 rfl (by kernel_rfl) (fun K hK => ?_)
              go_simp
              go_at_call 33
              refine (CGX.out i j _ ((hr8.below hS.2 (Nat.le_refl _)).more hS.2.size)).mono ?_
              rintro e v5 ⟨rfl, hv5⟩
              have hbS := hS.2.trans (hv5.mono hS.2.size)
              refine hK.out _ _ ?_ (fun hS => ?_)
              · (try dsimp only)
                exact sb_of hbS
              clear hK K
              (try simp only [Act.put, List.setIfInBounds_toArray, List.set_cons_zero, List.set_cons_succ])
              (try dsimp only at hS)
              refine wpT_one 7 rfl (by kernel_rfl) (fun K hK => ?_)
              go_simp
              go_at_call 33
              refine (CGY.out i j _ ((hr10.below hS.2 (Nat.le_refl _)).more hS.2.size)).mono ?_
              rintro e v6 ⟨rfl, hv6⟩
              have hbS := hS.2.trans (hv6.mono hS.2.size)
              refine hK.out _ _ ?_ (fun hS => ?_)
              · (try dsimp only)
                exact sb_of hbS
              clear hK K
              (try simp only [Act.put, List.setIfInBounds_toArray, List.set_cons_zero, List.set_cons_succ])
              (try dsimp only at hS)
              refine wpT_tail (by rfl) (by kernel_rfl) ?_
              (try simp only [List.drop_succ_cons, List.drop_zero])
              rw [hXd.out i j hil hjl, hYd.out i j hil hjl]
              have hds := Lib.hid (dif_succ X Y (j * m + i))
              have hle := dif_le X Y (j * m + i)
              have hlt := row_lt hjl hil
              have hfar := Lib.hid (HF.out i j hil hjl)
              generalize X.getD (j * m + i) false = xb at *
              generalize Y.getD (j * m + i) false = yb at *
              generalize hdd : dif X Y (j * m + i) = dd at *
              have HDD := Lib.hid hdd
              clear hdd hS hv5 hv6
              by_cases hxy : xb = yb
              · subst hxy
                cases xb
                all_goals
                  go_wp2
                  go_roundw
                  case rel => exact ⟨i + 1, by omega, by go_num, by rw [← Nat.add_assoc, hds.out]; simp, hbS⟩
                  case measure => simp [intOf]; omega
              · have hne : (xb != yb) = true := by simpa using hxy
                have hmle : mx ≤ (bb : Int) := by
                  rw [← HMX.out, mx4_le]
                  by_cases hn : kx ≤ i + bb ∧ i ≤ kx + bb ∧ ky ≤ j + bb ∧ j ≤ ky + bb
                  · omega
                  · exact absurd (hfar.out hn).symm hxy
                have HNE := Lib.hid hne
                clear hxy hne
                cases xb
                all_goals
                  cases yb
                  all_goals first
                    | exact absurd HNE.out (by decide)
                    | (go_wp2
                       go_roundw
                       case rel => exact ⟨i + 1, by omega, by go_num, by rw [← Nat.add_assoc, hds.out, if_pos HNE.out]; go_num, hbS⟩
                       case measure => simp [intOf]; omega)
            · have hie : i = m := by omega
              subst hie
              go_wp2
              go_roundw
              case rel => exact ⟨j + 1, by omega, by go_num, by rw [Nat.add_mul, Nat.one_mul], hbi⟩
              case measure => simp [intOf]; omega
        · have hje : j = n := by omega
          subst hje
          rw [Nat.mul_comm]
          rw [Nat.mul_comm] at HB
          have hdl := dif_le X Y (j * m)
          have hsq : ((dif X Y (j * m) : Nat) : Int) ≤ (2 * (bb : Int) + 1) * (2 * (bb : Int) + 1) := by have := HB; exact_mod_cast this
          have hq0 : 0 ≤ (2 * (bb : Int) + 1) * (2 * (bb : Int) + 1) := Int.mul_nonneg (by omega) (by omega)
          have hq1 : (2 * (bb : Int) + 1) * (2 * (bb : Int) + 1) ≤ 5 * 5 := Int.mul_le_mul (by omega) (by omega) (by omega) (by omega)
          go_wp2
          go_ret
          exact ⟨rfl, by rw [HP.out]; exact hlow.trans (hbr.mono hsz)⟩
end Go.Proofs.Ytlanefdeeanpnaa
