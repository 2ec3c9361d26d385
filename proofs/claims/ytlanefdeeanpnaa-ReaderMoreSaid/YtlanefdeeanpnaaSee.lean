/-
  Contract of the reader's See. Conditions: the dots are read below the heap's size; their number fits an int.
-/
import Derived.Test.YtlanefdeeanpnaaCounterMk
import Derived.Test.YtlanefdeeanpnaaSeeRef
import Derived.Deep.DeepCutAuto
namespace Go.Proofs.Ytlanefdeeanpnaa
set_option linter.unusedVariables false
set_option linter.unusedSimpArgs false
open Go.RowKit
attribute [local go_sem ↓] Go.wp_at_zero Go.wp_at_succ

theorem psee_fail1 (B S W H : Int) (A : Option Addr) (c : Nat) (D : List Bool) (w : World) (h : rdOk B S = false) :
    Calls Try.prog 25 #[.agg #[.int .i64 B, .int .i64 S], .agg #[.int .i64 W, .int .i64 H, .slice A D.length c]] w (BmRes (seeSpec B S W H D) w) := by
  have hv := Lib.hid (show seeSpec B S W H D = (0, 0, [], 3) by simp [seeSpec, h])
  have hc := Lib.hid (show rdCheck B S = 3 by simp [rdCheck, h])
  clear h
  go_enter Try.func25, Try.ntmps25
  go_wp2_with (go_at_call 23; refine (reader_Check _ _ _).mono ?_; rw [hc.out]; rintro e w1 ⟨rfl, hb1⟩; obtain ⟨hc1, hf1⟩ := bcell hb1; have hs1 := hb1.size; simp only [World.size_alloc] at hs1)
  refine bodyPost_ret (v := .tuple #[.agg #[.int .i64 0, .int .i64 0, .slice none 0 0], .int .i64 3]) (by simp [results, Try.results25, go_sem, hc1, hf1, hs1]) rfl ⟨?_, none, 0, ?_, ?_⟩
  · exact below_set (below_set (below_set (((((Below.refl _ _).alloc (Nat.le_refl _) _).alloc (by simp) _).alloc (by simp; omega) _).trans (hb1.mono (by simp; omega))) (by omega) _) (by omega) _) (by omega) _
  · rw [hv.out]; rfl
  · rw [hv.out]; exact Rd.nil

theorem psee_fail2 (B S W H : Int) (A : Option Addr) (c : Nat) (D : List Bool) (w : World) (hn : D.length ≤ 9223372036854775807) (h : rdOk B S = true) (h2 : bmCheck W H D.length ≠ 0) :
    Calls Try.prog 25 #[.agg #[.int .i64 B, .int .i64 S], .agg #[.int .i64 W, .int .i64 H, .slice A D.length c]] w (BmRes (seeSpec B S W H D) w) := by
  have hv := Lib.hid (show seeSpec B S W H D = (0, 0, [], bmCheck W H D.length) by simp [seeSpec, h, h2])
  have hc := Lib.hid (show rdCheck B S = 0 by simp [rdCheck, h])
  have h2' : (bmCheck W H D.length != 0) = true := by simp [h2]
  clear h h2
  go_enter Try.func25, Try.ntmps25
  go_wp2_with (first
    | (go_at_call 23; refine (reader_Check _ _ _).mono ?_; rw [hc.out]; rintro e w1 ⟨rfl, hb1⟩; obtain ⟨hc1, hf1⟩ := bcell hb1; have hs1 := hb1.size; simp only [World.size_alloc] at hs1; have hz1 : w.heap.size + 1 < w1.heap.size := by omega
       have hz2 : w.heap.size + 1 + 1 < w1.heap.size := by omega)
    | (go_at_call 32; refine (bitmap_Check _ _ _ _ _ _ hn).mono ?_; rintro e w2 ⟨rfl, hb2⟩; obtain ⟨hc2, hf2⟩ := bcell hb2; have hs2 := hb2.size))
  have hs3 : w.heap.size + 1 + 1 < w2.heap.size := by omega
  refine bodyPost_ret (v := .tuple #[.agg #[.int .i64 0, .int .i64 0, .slice none 0 0], .int .i64 (bmCheck W H D.length)]) (by simp [results, Try.results25, go_sem, hc1, hf1, hs1, hc2, hf2, hs3, hz2]) rfl ⟨?_, none, 0, ?_, ?_⟩
  · exact below_set (below_set (below_set ((((((Below.refl _ _).alloc (Nat.le_refl _) _).alloc (by simp) _).alloc (by simp; omega) _).trans (hb1.mono (by simp; omega))).trans (hb2.mono (by omega))) (by omega) _) (by omega) _) (by omega) _
  · rw [hv.out]; rfl
  · rw [hv.out]; exact Rd.nil

/-- The rows of which the first t dots are seen. -/
def seenP (m n : Nat) (D : List Bool) (b : Nat) (S : Int) (t : Nat) : List Bool := (List.range (m * n)).map fun k => if k < t then decide (S ≤ sqN m n D (k % m) (k / m) b) else false
theorem seenP_len (m n : Nat) (D : List Bool) (b : Nat) (S : Int) (t : Nat) : (seenP m n D b S t).length = m * n := by simp [seenP]
theorem seenP_zero (m n : Nat) (D : List Bool) (b : Nat) (S : Int) : seenP m n D b S 0 = List.replicate (m * n) false := by
  apply List.ext_getElem
  · simp [seenP]
  · intro i h1 h2
    simp [seenP]
theorem seenP_all (m n : Nat) (D : List Bool) (b : Nat) (S : Int) : seenP m n D b S (m * n) = seeL m n D b S := by
  apply List.map_congr_left
  intro k hk
  rw [if_pos (by simpa using hk)]
theorem seenP_set (m n : Nat) (D : List Bool) (b : Nat) (S : Int) (t : Nat) (ht : t < m * n) : (seenP m n D b S t).set t (decide (S ≤ sqN m n D (t % m) (t / m) b)) = seenP m n D b S (t + 1) := by
  apply List.ext_getElem
  · simp [seenP]
  · intro j h1 h2
    rw [List.getElem_set]
    simp only [seenP, List.getElem_map, List.getElem_range]
    split
    · rename_i e
      subst e
      rw [if_pos (by omega)]
    · by_cases hj : j < t
      · rw [if_pos hj, if_pos (by omega)]
      · rw [if_neg hj, if_neg (by omega)]
theorem seenP_at (m n : Nat) (D : List Bool) (b : Nat) (S : Int) (t : Nat) (ht : t < m * n) : (seenP m n D b S t)[t]'(by rw [seenP_len]; exact ht) = false := by simp [seenP]

theorem rep_bools (N : Nat) : ((List.replicate N false).map Value.bool).toArray = Array.replicate N (.bool false) := by simp
theorem own_blank {w : World} {g N : Nat} {T : TypeId} (h : Blk w g T (Array.replicate N (.bool false))) : Own Value.bool T w g (List.replicate N false) := by
  unfold Own
  rw [rep_bools]
  exact h

/-- A blank row and a box that holds it are made, in either order. -/
theorem mk_rowbox (w : World) (m n : Int) (N : Nat) :
    ∃ g q : Nat, Value.pointer (some ⟨w.heap.size + 1, 0, none⟩) = .pointer (some ⟨q, 0, none⟩) ∧ Own Value.bool 4 (((w.alloc (.cells (Array.replicate N (.bool false)) 4)).alloc (.cells #[.int .i64 m, .int .i64 n, .slice (some ⟨w.heap.size, 0, none⟩) N N] 29)).drew) g (List.replicate N false) ∧
      Blk (((w.alloc (.cells (Array.replicate N (.bool false)) 4)).alloc (.cells #[.int .i64 m, .int .i64 n, .slice (some ⟨w.heap.size, 0, none⟩) N N] 29)).drew) q 29 #[.int .i64 m, .int .i64 n, .slice (some ⟨g, 0, none⟩) N N] ∧ w.heap.size ≤ g ∧ w.heap.size ≤ q ∧ Below w.heap.size w (((w.alloc (.cells (Array.replicate N (.bool false)) 4)).alloc (.cells #[.int .i64 m, .int .i64 n, .slice (some ⟨w.heap.size, 0, none⟩) N N] 29)).drew) := by
  obtain ⟨h0, h1, h2, h3⟩ := new2 (w := w) (c0 := Array.replicate N (.bool false)) (t0 := 4) (c1 := #[.int .i64 m, .int .i64 n, .slice (some ⟨w.heap.size, 0, none⟩) N N]) (t1 := 29) rfl
  exact ⟨w.heap.size, w.heap.size + 1, rfl, own_blank h0, h1, Nat.le_refl _, by omega, h2.drew⟩
theorem mk_boxrow (w : World) (m n : Int) (N : Nat) :
    ∃ g q : Nat, Value.pointer (some ⟨w.heap.size, 0, none⟩) = .pointer (some ⟨q, 0, none⟩) ∧ Own Value.bool 4 (((w.alloc (.cells #[.int .i64 m, .int .i64 n, .slice (some ⟨w.heap.size + 1, 0, none⟩) N N] 29)).alloc (.cells (Array.replicate N (.bool false)) 4)).drew) g (List.replicate N false) ∧
      Blk (((w.alloc (.cells #[.int .i64 m, .int .i64 n, .slice (some ⟨w.heap.size + 1, 0, none⟩) N N] 29)).alloc (.cells (Array.replicate N (.bool false)) 4)).drew) q 29 #[.int .i64 m, .int .i64 n, .slice (some ⟨g, 0, none⟩) N N] ∧ w.heap.size ≤ g ∧ w.heap.size ≤ q ∧ Below w.heap.size w (((w.alloc (.cells #[.int .i64 m, .int .i64 n, .slice (some ⟨w.heap.size + 1, 0, none⟩) N N] 29)).alloc (.cells (Array.replicate N (.bool false)) 4)).drew) := by
  obtain ⟨h0, h1, h2, h3⟩ := new2 (w := w) (c1 := Array.replicate N (.bool false)) (t1 := 4) (c0 := #[.int .i64 m, .int .i64 n, .slice (some ⟨w.heap.size + 1, 0, none⟩) N N]) (t0 := 29) rfl
  exact ⟨w.heap.size + 1, w.heap.size, rfl, own_blank h1, h0, by omega, Nat.le_refl _, h2.drew⟩

/-- What a round of the reader's See reads. -/
theorem psee_S {W4 w' : World} {p q g : Nat} {b m : Nat} {S : Int} {a1 b1 a3 b3 s3 : Value} (hB0 : Blk W4 p 26 #[.int .i64 b, .int .i64 S]) (hB1 : Blk W4 (p + 1) 29 #[.int .i64 m, a1, b1]) (hq : Blk W4 q 29 #[a3, b3, s3])
    (h1 : p ≠ g) (h2 : p + 1 ≠ g) (h3 : q ≠ g) (hk : Kp [g] W4 w') :
    w'.cell? ⟨q, 2, none⟩ = some s3 ∧ w'.cell? ⟨p + 1, 0, none⟩ = some (.int .i64 m) ∧ w'.cell? ⟨p, 1, none⟩ = some (.int .i64 S) ∧ Kp [g] W4 w' :=
  ⟨(hk.blk hq (ni1 h3)).cell 2, (hk.blk hB1 (ni1 h2)).cell 0, (hk.blk hB0 (ni1 h1)).cell 1, hk⟩

set_option maxHeartbeats 2000000 in
set_option maxRecDepth 100000 in
theorem psee_yes (b m n : Nat) (S : Int) (A : Option Addr) (c : Nat) (D : List Bool) (w : World) (h : rdOk b S = true) (hb : b ≤ 2) (hm : m ≤ 96) (hn : n ≤ 96) (hD : D.length = m * n) (hr : Rd Value.bool w w.heap.size A D) :
    Calls Try.prog 25 #[.agg #[.int .i64 b, .int .i64 S], .agg #[.int .i64 m, .int .i64 n, .slice A (m * n) c]] w (BmRes (m, n, seeL m n D b S, 0) w) := by
  have hc := Lib.hid (show rdCheck b S = 0 by simp [rdCheck, h])
  have hmn : m * n ≤ 9216 := Nat.mul_le_mul hm hn
  have h2 := Lib.hid (show bmCheck m n (m * n) = 0 by simp [bmCheck, sideB]; omega)
  clear h
  have HR := Lib.hid hr
  have HD := Lib.hid hD
  clear hr hD
  have HMK := Lib.hid (fun w => mk_run (P := Try.prog) 27 4 (.bool false) 1 Try.underlying27 info_bool rfl ((m * n : Nat) : Int) (by omega) (by omega) (by omega) w)
  go_enter Try.func25, Try.ntmps25
  go_wp2_with fail
  refine calls_world (fun W0 hW0 => ?_)
  obtain ⟨hB0, hB1, hB2, hbw, hsz⟩ := new3 hW0
  clear hW0
  generalize hp : w.heap.size = p at *
  have HP := Lib.hid hp
  clear hp
  refine (reader_Check _ _ _).mono ?_
  rw [hc.out]
  rintro e w1 ⟨rfl, hb1⟩
  have hbw := hbw.trans (hb1.mono (by omega))
  have hB0 := hB0.below hb1 hB0.lt
  have hB1 := hB1.below hb1 hB1.lt
  have hB2 := hB2.below hb1 hB2.lt
  obtain ⟨⟨d0, d1, d2⟩, _⟩ := hB1.three
  go_wp2_with fail
  refine (bitmap_Check _ _ _ _ _ _ (by omega)).mono ?_
  rw [h2.out]
  rintro e w2 ⟨rfl, hb2⟩
  have hbw := hbw.trans (hb2.mono (by have := hB0.lt; omega))
  have hB0 := hB0.below hb2 hB0.lt
  have hB1 := hB1.below hb2 hB1.lt
  have hB2 := hB2.below hb2 hB2.lt
  clear hb1 hb2 d0 d1 d2
  obtain ⟨⟨d0, d1, d2⟩, _⟩ := hB1.three
  obtain ⟨⟨g0, g1⟩, _⟩ := hB0.two
  go_wp2_with fail
  refine (counter_any m n A c D b w2 hm hn hb HD.out ((HR.out.below hbw (Nat.le_refl _)).more (by have := hB2.lt; omega))).mono ?_
  rintro e w3 ⟨pb, ps, gs, pu, pf, rfl, hE, hU, hF, hb3, q1, q2, q3, q4, q5⟩
  have hbw := hbw.trans (hb3.mono (by have := hB0.lt; omega))
  have hz2 := hB2.lt
  have hB0 := hB0.below hb3 hB0.lt
  have hB1 := hB1.below hb3 hB1.lt
  have hB2 := hB2.below hb3 hB2.lt
  clear hb3 d0 d1 d2 g0 g1
  obtain ⟨⟨d0, d1, d2⟩, _⟩ := hB1.three
  go_upto_region 8 with fail
  go_cut [9] (fun s9 wx => ∃ g q : Nat, s9 = .pointer (some ⟨q, 0, none⟩) ∧ Own Value.bool 4 wx g (List.replicate (m * n) false) ∧ Blk wx q 29 #[.int .i64 m, .int .i64 n, .slice (some ⟨g, 0, none⟩) (m * n) (m * n)] ∧ w3.heap.size ≤ g ∧ w3.heap.size ≤ q ∧ Below w3.heap.size w3 wx)
  case first =>
    have hnew := fun (W : World) => Own.new (f := Value.bool) W 4 (List.replicate (m * n) false)
    simp only [List.map_replicate] at hnew
    have hmk := HMK.out
    simp only [Int.toNat_natCast, Int.natCast_mul] at hmk
    have HN := Lib.hid hnew
    clear hnew
    refine wp_region_T 10 (fun w' => w'.cell? ⟨p + 1, 0, none⟩ = some (.int .i64 m) ∧ w'.cell? ⟨p + 1, 1, none⟩ = some (.int .i64 n) ∧ w'.cell? ⟨p + 1, 2, none⟩ = some (.slice A (m * n) c)) (by kernel_rfl) ?_ (fun hS => ?_)
    · (try dsimp only)
      exact ⟨d0, d1, d2⟩
    (try dsimp only at hS)
    refine wpT_take 0 (v := ?_) rfl (by kernel_rfl) (by kernel_rfl) (fun _ _ _ h => h) hS (Or.inl ⟨rfl, ?_⟩) ?_
    rotate_left
    · (intro w' hSw; (try dsimp only at hSw); go_simp; first | done | with_reducible rfl)
    (try simp only [Act.put, List.setIfInBounds_toArray, List.set_cons_zero, List.set_cons_succ])
    refine wpT_take 1 (v := ?_) rfl (by kernel_rfl) (by kernel_rfl) (fun _ _ _ h => h) hS (Or.inl ⟨rfl, ?_⟩) ?_
    rotate_left
    · (intro w' hSw; (try dsimp only at hSw); go_simp; first | done | with_reducible rfl)
    (try simp only [Act.put, List.setIfInBounds_toArray, List.set_cons_zero, List.set_cons_succ])
    refine wpT_take 2 (v := ?_) rfl (by kernel_rfl) (by kernel_rfl) (fun _ _ _ h => h) hS (Or.inl ⟨rfl, ?_⟩) ?_
    rotate_left
    · (intro w' hSw; (try dsimp only at hSw); go_simp; first | done | with_reducible rfl)
    (try simp only [Act.put, List.setIfInBounds_toArray, List.set_cons_zero, List.set_cons_succ])
    refine wpT_take 3 (v := ?_) rfl (by kernel_rfl) (by kernel_rfl) (fun _ _ _ h => h) hS (Or.inl ⟨rfl, ?_⟩) ?_
    rotate_left
    · (intro w' hSw; (try dsimp only at hSw); go_simp; first | done | with_reducible rfl)
    (try simp only [Act.put, List.setIfInBounds_toArray, List.set_cons_zero, List.set_cons_succ])
    refine wpT_take 4 (v := ?_) rfl (by kernel_rfl) (by kernel_rfl) (fun _ _ _ h => h) hS (Or.inl ⟨rfl, ?_⟩) ?_
    rotate_left
    · (intro w' hSw; (try dsimp only at hSw); go_simp; first | done | with_reducible rfl)
    (try simp only [Act.put, List.setIfInBounds_toArray, List.set_cons_zero, List.set_cons_succ])
    refine wpT_take 5 (v := ?_) rfl (by kernel_rfl) (by kernel_rfl) (fun _ _ _ h => h) hS (Or.inl ⟨rfl, ?_⟩) ?_
    rotate_left
    · (intro w' hSw; (try dsimp only at hSw); go_simp; first | done | with_reducible rfl)
    (try simp only [Act.put, List.setIfInBounds_toArray, List.set_cons_zero, List.set_cons_succ])
    refine wpT_take 6 (v := ?_) rfl (by kernel_rfl) (by kernel_rfl) (fun _ _ _ h => h) hS (Or.inl ⟨rfl, ?_⟩) ?_
    rotate_left
    · (intro w' hSw; (try dsimp only at hSw); go_simp; first | done | with_reducible rfl)
    (try simp only [Act.put, List.setIfInBounds_toArray, List.set_cons_zero, List.set_cons_succ])
    refine wpT_two 7 9 rfl rfl (by kernel_rfl) (fun K hK => ?_) (fun K hK => ?_)
    · skip
      go_simp
      refine hK.out _ _ ?_ (fun hS => ?_)
      · (try dsimp only)
        go_keep
      clear hK K
      (try simp only [Act.put, List.setIfInBounds_toArray, List.set_cons_zero, List.set_cons_succ])
      (try dsimp only at hS)
      refine wpT_take 8 (v := ?_) rfl (by kernel_rfl) (by kernel_rfl) (fun _ _ _ h => h) hS (Or.inl ⟨rfl, ?_⟩) ?_
      rotate_left
      · (intro w' hSw; (try dsimp only at hSw); go_simp; first | done | with_reducible rfl)
      (try simp only [Act.put, List.setIfInBounds_toArray, List.set_cons_zero, List.set_cons_succ])
      refine wpT_one 9 rfl (by kernel_rfl) (fun K hK => ?_)
      go_simp
      refine hK.out _ _ ?_ (fun hS => ?_)
      · (try dsimp only)
        go_keep
      clear hK K
      (try simp only [Act.put, List.setIfInBounds_toArray, List.set_cons_zero, List.set_cons_succ])
      (try dsimp only at hS)
      refine wpT_tail (by rfl) (by kernel_rfl) ?_
      (try simp only [List.drop_succ_cons, List.drop_zero])
      go_wp2
      go_meet
      first | exact mk_rowbox _ _ _ _ | exact mk_boxrow _ _ _ _
    · skip
      go_simp
      refine hK.out _ _ ?_ (fun hS => ?_)
      · (try dsimp only)
        go_keep
      clear hK K
      (try simp only [Act.put, List.setIfInBounds_toArray, List.set_cons_zero, List.set_cons_succ])
      (try dsimp only at hS)
      refine wpT_one 7 rfl (by kernel_rfl) (fun K hK => ?_)
      go_simp
      refine hK.out _ _ ?_ (fun hS => ?_)
      · (try dsimp only)
        go_keep
      clear hK K
      (try simp only [Act.put, List.setIfInBounds_toArray, List.set_cons_zero, List.set_cons_succ])
      (try dsimp only at hS)
      refine wpT_take 8 (v := ?_) rfl (by kernel_rfl) (by kernel_rfl) (fun _ _ _ h => h) hS (Or.inl ⟨rfl, ?_⟩) ?_
      rotate_left
      · (intro w' hSw; (try dsimp only at hSw); go_simp; first | done | with_reducible rfl)
      (try simp only [Act.put, List.setIfInBounds_toArray, List.set_cons_zero, List.set_cons_succ])
      refine wpT_tail (by rfl) (by kernel_rfl) ?_
      (try simp only [List.drop_succ_cons, List.drop_zero])
      go_wp2
      go_meet
      first | exact mk_rowbox _ _ _ _ | exact mk_boxrow _ _ _ _
  case rest =>
    obtain ⟨g, q, rfl, hO, hq, hg3, hq3, hb4⟩ := hcut
    have hbw := hbw.trans (hb4.mono (by have := hB2.lt; omega))
    have hp3 := hB2.lt
    have z1 := hE.b.lt
    have z2 := hE.s.lt
    have z3 := hE.o.lt
    have z4 := hU.lt
    have z5 := hF.lt
    have k1 : pb ≠ g := by omega
    have k2 : ps ≠ g := by omega
    have k3 : gs ≠ g := by omega
    have k4 : pu ≠ g := by omega
    have k5 : pf ≠ g := by omega
    have k6 : p ≠ g := by omega
    have k7 : p + 1 ≠ g := by omega
    have k8 : p + 1 + 1 ≠ g := by omega
    have k10 : p ≤ g := by omega
    have k11 : p + 1 + 1 < w3.heap.size := hp3
    have k9 : q ≠ g := fun e => by
      subst e
      have a1 : some _ = some _ := hO.symm.trans hq
      simp at a1
    have hkb : Kp [] w3 _ := (Kp.refl [] w3).below hb4
    have hE := hE.kp hkb (by simp) (by simp) (by simp)
    have hU := hkb.blk hU (by simp)
    have hF := hkb.blk hF (by simp)
    have hB0 := hkb.blk hB0 (by simp)
    have hB1 := hkb.blk hB1 (by simp)
    have hB2 := hkb.blk hB2 (by simp)
    obtain ⟨⟨e0, e1, e2⟩, _⟩ := hq.three
    rw [← seenP_zero m n D b S] at hO
    have hsz4 := hkb.size
    clear d0 d1 d2 hkb hb4 z1 z2 z3 z4 z5
    go_wp2
    refine wp_world (fun W4 hW4 => ?_)
    rw [← hW4] at hE hU hF hB0 hB1 hB2 hO hq hbw hsz4
    clear e0 e1 e2 hW4
    have hgW := hO.lt
    have hqW := hq.lt
    go_loopw [10, 39] (fun _ kk wr => ∃ t : Nat, t ≤ m * n ∧ kk = .int .i64 t ∧ Kp [g] W4 wr ∧ Own Value.bool 4 wr g (seenP m n D b S t)) (fun _ kk _ => m * n - (intOf kk).toNat)
    case atStart => exact ⟨0, Nat.zero_le _, rfl, Kp.refl _ _, hO⟩
    case round =>
      clear hO
      obtain ⟨t, ht, rfl, hkp, how⟩ := hrel
      by_cases hlt : t < m * n
      · have hlti : (t : Int) < (m : Int) * (n : Int) := by rw [← Int.natCast_mul]; omega
        have hm0 : 0 < m := Nat.pos_of_ne_zero (fun e => by subst e; simp at hlt)
        have hm0' : ¬ m = 0 := by omega
        have hm0i : ¬ (m : Int) = 0 := by omega
        have hxm : t % m < m := Nat.mod_lt _ hm0
        have hyn : t / m < n := by rw [Nat.div_lt_iff_lt_mul hm0, Nat.mul_comm]; exact hlt
        have hcl := how.cell (k := t) (by rw [seenP_len]; exact hlt)
        rw [seenP_at _ _ _ _ _ _ hlt] at hcl
        have hfr := how.frozen t
        have HS := Lib.hid (seenP_set m n D b S t hlt)
        have HO := Lib.hid how
        clear how
        have ht0 : (0 : Int) ≤ (t : Int) := by omega
        have hm1 : (1 : Int) ≤ (m : Int) := by omega
        have hdl : t / m ≤ t := Nat.div_le_self _ _
        have ht1 : (t : Int).tmod (m : Int) = (t : Int) % (m : Int) := Int.tmod_eq_emod_of_nonneg ht0
        have ht2 : IntKind.i64.wrap ((t : Int) / (m : Int)) = (t : Int) / (m : Int) := by
          rw [← Int.natCast_ediv]
          generalize t / m = d at hdl ⊢
          exact IntWalk.i64_in _ (by omega)
        have ht3 : (t : Int).tdiv (m : Int) = (t : Int) / (m : Int) := Int.tdiv_eq_ediv_of_nonneg ht0
        go_wp2
        refine wp_region_T 17 (fun w' => w'.cell? ⟨q, 2, none⟩ = some (.slice (some ⟨g, 0, none⟩) (m * n) (m * n)) ∧ w'.cell? ⟨p + 1, 0, none⟩ = some (.int .i64 m) ∧ w'.cell? ⟨p, 1, none⟩ = some (.int .i64 S) ∧ Kp [g] W4 w') (by kernel_rfl) ?_ (fun hS => ?_)
        · (try dsimp only)
          exact psee_S hB0 hB1 hq k6 k7 k9 hkp.drew
        (try dsimp only at hS)
        refine wpT_take 0 (v := ?_) rfl (by kernel_rfl) (by kernel_rfl) (fun _ _ _ h => h) hS (Or.inl ⟨rfl, ?_⟩) ?_
        rotate_left
        · (intro w' hSw; (try dsimp only at hSw); go_simp; first | done | with_reducible rfl)
        (try simp only [Act.put, List.setIfInBounds_toArray, List.set_cons_zero, List.set_cons_succ])
        refine wpT_take 1 (v := ?_) rfl (by kernel_rfl) (by kernel_rfl) (fun _ _ _ h => h) hS (Or.inl ⟨rfl, ?_⟩) ?_
        rotate_left
        · (intro w' hSw; (try dsimp only at hSw); go_simp; first | done | with_reducible rfl)
        (try simp only [Act.put, List.setIfInBounds_toArray, List.set_cons_zero, List.set_cons_succ])
        refine wpT_take 2 (v := ?_) rfl (by kernel_rfl) (by kernel_rfl) (fun _ _ _ h => h) hS (Or.inl ⟨rfl, ?_⟩) ?_
        rotate_left
        · (intro w' hSw; (try dsimp only at hSw); go_simp; first | done | with_reducible rfl)
        (try simp only [Act.put, List.setIfInBounds_toArray, List.set_cons_zero, List.set_cons_succ])
        refine wpT_take 3 (v := ?_) rfl (by kernel_rfl) (by kernel_rfl) (fun _ _ _ h => h) hS (Or.inl ⟨rfl, ?_⟩) ?_
        rotate_left
        · (intro w' hSw; (try dsimp only at hSw); go_simp; first | done | with_reducible rfl)
        (try simp only [Act.put, List.setIfInBounds_toArray, List.set_cons_zero, List.set_cons_succ])
        refine wpT_take 4 (v := ?_) rfl (by kernel_rfl) (by kernel_rfl) (fun _ _ _ h => h) hS (Or.inl ⟨rfl, ?_⟩) ?_
        rotate_left
        · (intro w' hSw; (try dsimp only at hSw); go_simp; first | done | with_reducible rfl)
        (try simp only [Act.put, List.setIfInBounds_toArray, List.set_cons_zero, List.set_cons_succ])
        refine wpT_take 5 (v := ?_) rfl (by kernel_rfl) (by kernel_rfl) (fun _ _ _ h => h) hS (Or.inl ⟨rfl, ?_⟩) ?_
        rotate_left
        · (intro w' hSw; (try dsimp only at hSw); go_simp; first | done | with_reducible rfl)
        (try simp only [Act.put, List.setIfInBounds_toArray, List.set_cons_zero, List.set_cons_succ])
        refine wpT_take 6 (v := ?_) rfl (by kernel_rfl) (by kernel_rfl) (fun _ _ _ h => h) hS (Or.inl ⟨rfl, ?_⟩) ?_
        rotate_left
        · (intro w' hSw; (try dsimp only at hSw); go_simp; first | done | with_reducible rfl)
        (try simp only [Act.put, List.setIfInBounds_toArray, List.set_cons_zero, List.set_cons_succ])
        refine wpT_take 7 (v := ?_) rfl (by kernel_rfl) (by kernel_rfl) (fun _ _ _ h => h) hS (Or.inl ⟨rfl, ?_⟩) ?_
        rotate_left
        · (intro w' hSw; (try dsimp only at hSw); go_simp; first | done | with_reducible rfl)
        (try simp only [Act.put, List.setIfInBounds_toArray, List.set_cons_zero, List.set_cons_succ])
        refine wpT_take 8 (v := ?_) rfl (by kernel_rfl) (by kernel_rfl) (fun _ _ _ h => h) hS (Or.inl ⟨rfl, ?_⟩) ?_
        rotate_left
        · (intro w' hSw; (try dsimp only at hSw); go_simp; first | done | with_reducible rfl)
        (try simp only [Act.put, List.setIfInBounds_toArray, List.set_cons_zero, List.set_cons_succ])
        refine wpT_take 9 (v := ?_) rfl (by kernel_rfl) (by kernel_rfl) (fun _ _ _ h => h) hS (Or.inl ⟨rfl, ?_⟩) ?_
        rotate_left
        · (intro w' hSw; (try dsimp only at hSw); go_simp; first | done | with_reducible rfl)
        (try simp only [Act.put, List.setIfInBounds_toArray, List.set_cons_zero, List.set_cons_succ])
        refine wpT_take 10 (v := ?_) rfl (by kernel_rfl) (by kernel_rfl) (fun _ _ _ h => h) hS (Or.inl ⟨rfl, ?_⟩) ?_
        rotate_left
        · (intro w' hSw; (try dsimp only at hSw); go_simp; first | done | with_reducible rfl)
        (try simp only [Act.put, List.setIfInBounds_toArray, List.set_cons_zero, List.set_cons_succ])
        refine wpT_take 11 (v := ?_) rfl (by kernel_rfl) (by kernel_rfl) (fun _ _ _ h => h) hS (Or.inl ⟨rfl, ?_⟩) ?_
        rotate_left
        · (intro w' hSw; (try dsimp only at hSw); go_simp; first | done | with_reducible rfl)
        (try simp only [Act.put, List.setIfInBounds_toArray, List.set_cons_zero, List.set_cons_succ])
        refine wpT_take 13 (v := ?_) rfl (by kernel_rfl) (by kernel_rfl) (fun _ _ _ h => h) hS (Or.inl ⟨rfl, ?_⟩) ?_
        rotate_left
        · (intro w' hSw; (try dsimp only at hSw); go_simp; first | done | with_reducible rfl)
        (try simp only [Act.put, List.setIfInBounds_toArray, List.set_cons_zero, List.set_cons_succ])
        refine wpT_take 14 (v := ?_) rfl (by kernel_rfl) (by kernel_rfl) (fun _ _ _ h => h) hS (Or.inl ⟨rfl, ?_⟩) ?_
        rotate_left
        · (intro w' hSw; (try dsimp only at hSw); go_simp; first | done | with_reducible rfl)
        (try simp only [Act.put, List.setIfInBounds_toArray, List.set_cons_zero, List.set_cons_succ])
        refine wpT_one 12 rfl (by kernel_rfl) (fun K hK => ?_)
        go_simp
        go_at_call 102
        rw [← Int.natCast_emod, ← Int.natCast_ediv]
        refine (count_any m n _ D pb ps gs pu pf (t % m) (t / m) b _ hm hn hxm hyn hb (hE.kp hkp.drew (ni1 k1) (ni1 k2) (ni1 k3)) ((hkp.drew.blk hU (ni1 k4)).cell 0) ((hkp.drew.blk hF (ni1 k5)).cell 0)).mono ?_
        rintro e w5 ⟨rfl, k5, rfl⟩
        refine hK.out _ _ ?_ (fun hS => ?_)
        · (try dsimp only)
          exact psee_S hB0 hB1 hq k6 k7 k9 (hkp.drew.drewN _)
        clear hK K
        (try simp only [Act.put, List.setIfInBounds_toArray, List.set_cons_zero, List.set_cons_succ])
        (try dsimp only at hS)
        refine wpT_take 15 (v := ?_) rfl (by kernel_rfl) (by kernel_rfl) (fun _ _ _ h => h) hS (Or.inl ⟨rfl, ?_⟩) ?_
        rotate_left
        · (intro w' hSw; (try dsimp only at hSw); go_simp; first | done | with_reducible rfl)
        (try simp only [Act.put, List.setIfInBounds_toArray, List.set_cons_zero, List.set_cons_succ])
        refine wpT_take 16 (v := ?_) rfl (by kernel_rfl) (by kernel_rfl) (fun _ _ _ h => h) hS (Or.inl ⟨rfl, ?_⟩) ?_
        rotate_left
        · (intro w' hSw; (try dsimp only at hSw); go_simp; first | done | with_reducible rfl)
        (try simp only [Act.put, List.setIfInBounds_toArray, List.set_cons_zero, List.set_cons_succ])
        refine wpT_tail (by rfl) (by kernel_rfl) ?_
        (try simp only [List.drop_succ_cons, List.drop_zero])
        go_wp2
        go_roundw
        case rel =>
          refine ⟨t + 1, by omega, by go_num, (hkp.drewN _).set (.inl (by simp)) _ _, ?_⟩
          rw [← HS.out]
          exact (HO.out.drewN _).set_ t (decide (S ≤ sqN m n D (t % m) (t / m) b))
        case measure => simp [intOf]; omega
      · have hte : t = m * n := by omega
        subst hte
        obtain ⟨⟨e0, e1, e2⟩, _⟩ := (hkp.blk hq (ni1 k9)).three
        obtain ⟨⟨r0, r1, r2⟩, f0, f1, f2⟩ := (hkp.blk hB2 (ni1 k8)).three
        go_wp2
        refine bodyPost_ret (v := .tuple #[.agg #[.int .i64 m, .int .i64 n, .slice (some ⟨g, 0, none⟩) (m * n) (m * n)], .int .i64 0]) (by simp [results, Try.results25, go_sem, r0, r1, r2]) rfl ?_
        have hkz := hkp.size
        unfold BmRes
        rw [HP.out]
        refine ⟨below_set (below_set (below_set (hbw.trans (hkp.to_below (by omega) (by simp; omega))) (by omega) _) (by omega) _) (by omega) _, some ⟨g, 0, none⟩, m * n, by simp [seeL], ?_⟩
        rw [seenP_all] at how
        have hgr := how.lt
        exact (((how.far (p := ⟨p + 1 + 1, 0, none⟩) k8.symm _).far (p := ⟨p + 1 + 1, 1, none⟩) k8.symm _).far (p := ⟨p + 1 + 1, 2, none⟩) k8.symm _).rd (by simp [World.setCell]; omega)
end Go.Proofs.Ytlanefdeeanpnaa
