/-
  Contract of the reference's See. Conditions: the dots are read below the heap's size; their number fits an int.
-/
import Derived.Test.YtlanefdeeanpnaaAround
import Derived.Test.YtlanefdeeanpnaaRCheck
import Derived.Deep.RegionLaw
import Derived.Deep.AppendLies
import Derived.Maps.AppendAt
import Derived.Test.YtlanefdeeanpnaaRegion
namespace Go.Proofs.Ytlanefdeeanpnaa
set_option linter.unusedVariables false
set_option linter.unusedSimpArgs false
open Go.RowKit
attribute [local go_sem ↓] Go.wp_at_zero Go.wp_at_succ

/-- What is seen. -/
def seeL (m n : Nat) (D : List Bool) (b : Nat) (S : Int) : List Bool := (List.range (m * n)).map fun k => decide (S ≤ sqN m n D (k % m) (k / m) b)
/-- ..its first t dots -/
def seeP (m n : Nat) (D : List Bool) (b : Nat) (S : Int) (t : Nat) : List Bool := (List.range t).map fun k => decide (S ≤ sqN m n D (k % m) (k / m) b)
theorem seeP_len (m n : Nat) (D : List Bool) (b : Nat) (S : Int) (t : Nat) : (seeP m n D b S t).length = t := by simp [seeP]
theorem seeP_step (m n : Nat) (D : List Bool) (b : Nat) (S : Int) (k i : Nat) (hi : i < m) : seeP m n D b S (k * m + i + 1) = seeP m n D b S (k * m + i) ++ [decide (S ≤ sqN m n D i k b)] := by
  unfold seeP
  rw [List.range_succ, List.map_append]
  simp only [List.map_cons, List.map_nil, row_mod hi, row_div hi]

/-- What See returns of a bitmap: its width, its height, its dots; and the error. -/
def seeSpec (B S W H : Int) (D : List Bool) : Int × Int × List Bool × Int :=
  if rdOk B S = true then (if bmCheck W H D.length = 0 then (W, H, seeL W.toNat H.toNat D B.toNat S, 0) else (0, 0, [], bmCheck W H D.length)) else (0, 0, [], 3)
/-- A bitmap and an error are returned, the dots in new memory. -/
def BmRes (r : Int × Int × List Bool × Int) (w : World) (e : Ending) (w' : World) : Prop :=
  Below w.heap.size w w' ∧ ∃ A c, e = .returned (.tuple #[.agg #[.int .i64 r.1, .int .i64 r.2.1, .slice A r.2.2.1.length c], .int .i64 r.2.2.2]) ∧ Rd Value.bool w' w'.heap.size A r.2.2.1

theorem bmCheck_nat {W H : Int} {n : Nat} (h : bmCheck W H n = 0) : ∃ a b : Nat, W = a ∧ H = b ∧ a ≤ 96 ∧ b ≤ 96 ∧ n = a * b := by
  obtain ⟨h1, h2, h3⟩ := bmCheck_ok h
  have a := sideB_true h1
  have b := sideB_true h2
  obtain ⟨x, rfl⟩ := Int.eq_ofNat_of_zero_le a.1
  obtain ⟨y, rfl⟩ := Int.eq_ofNat_of_zero_le b.1
  exact ⟨x, y, rfl, rfl, by omega, by omega, by rw [← Int.natCast_mul] at h3; omega⟩

theorem see_fail1 (B S W H : Int) (A : Option Addr) (c : Nat) (D : List Bool) (w : World) (h : rdOk B S = false) :
    Calls Try.prog 26 #[.agg #[.int .i64 B, .int .i64 S], .agg #[.int .i64 W, .int .i64 H, .slice A D.length c]] w (BmRes (seeSpec B S W H D) w) := by
  have hv := Lib.hid (show seeSpec B S W H D = (0, 0, [], 3) by simp [seeSpec, h])
  have hc := Lib.hid (show rdCheck B S = 3 by simp [rdCheck, h])
  clear h
  go_enter Try.func26, Try.ntmps26
  go_wp2_with (go_at_call 24; refine (ref21_Check _ _ _).mono ?_; rw [hc.out]; rintro e w1 ⟨rfl, hb1⟩; obtain ⟨hc1, hf1⟩ := bcell hb1; have hs1 := hb1.size; simp only [World.size_alloc] at hs1)
  refine bodyPost_ret (v := .tuple #[.agg #[.int .i64 0, .int .i64 0, .slice none 0 0], .int .i64 3]) (by simp [results, Try.results26, go_sem, hc1, hf1, hs1]) rfl ⟨?_, none, 0, ?_, ?_⟩
  · exact below_set (below_set (below_set (((((Below.refl _ _).alloc (Nat.le_refl _) _).alloc (by simp) _).alloc (by simp; omega) _).trans (hb1.mono (by simp; omega))) (by omega) _) (by omega) _) (by omega) _
  · rw [hv.out]; rfl
  · rw [hv.out]; exact Rd.nil
theorem see_fail2 (B S W H : Int) (A : Option Addr) (c : Nat) (D : List Bool) (w : World) (hn : D.length ≤ 9223372036854775807) (h : rdOk B S = true) (h2 : bmCheck W H D.length ≠ 0) :
    Calls Try.prog 26 #[.agg #[.int .i64 B, .int .i64 S], .agg #[.int .i64 W, .int .i64 H, .slice A D.length c]] w (BmRes (seeSpec B S W H D) w) := by
  have hv := Lib.hid (show seeSpec B S W H D = (0, 0, [], bmCheck W H D.length) by simp [seeSpec, h, h2])
  have hc := Lib.hid (show rdCheck B S = 0 by simp [rdCheck, h])
  have h2' : (bmCheck W H D.length != 0) = true := by simp [h2]
  clear h h2
  go_enter Try.func26, Try.ntmps26
  go_wp2_with (first
    | (go_at_call 24; refine (ref21_Check _ _ _).mono ?_; rw [hc.out]; rintro e w1 ⟨rfl, hb1⟩; obtain ⟨hc1, hf1⟩ := bcell hb1; have hs1 := hb1.size; simp only [World.size_alloc] at hs1; have hz1 : w.heap.size + 1 < w1.heap.size := by omega
       have hz2 : w.heap.size + 1 + 1 < w1.heap.size := by omega)
    | (go_at_call 69; refine (ref04_Check _ _ _ _ _ _ hn).mono ?_; rintro e w2 ⟨rfl, hb2⟩; obtain ⟨hc2, hf2⟩ := bcell hb2; have hs2 := hb2.size))
  have hs3 : w.heap.size + 1 + 1 < w2.heap.size := by omega
  refine bodyPost_ret (v := .tuple #[.agg #[.int .i64 0, .int .i64 0, .slice none 0 0], .int .i64 (bmCheck W H D.length)]) (by simp [results, Try.results26, go_sem, hc1, hf1, hs1, hc2, hf2, hs3, hz2]) rfl ⟨?_, none, 0, ?_, ?_⟩
  · exact below_set (below_set (below_set ((((((Below.refl _ _).alloc (Nat.le_refl _) _).alloc (by simp) _).alloc (by simp; omega) _).trans (hb1.mono (by simp; omega))).trans (hb2.mono (by omega))) (by omega) _) (by omega) _) (by omega) _
  · rw [hv.out]; rfl
  · rw [hv.out]; exact Rd.nil

/-- What a round of See reads. -/
theorem see_S {W3 w' wr : World} {p q : Nat} {b m n : Nat} {S : Int} {s1 s3 : Value} {a3 b3 : Value} (hB0 : Blk W3 p 26 #[.int .i64 b, .int .i64 S]) (hB1 : Blk W3 (p + 1) 29 #[.int .i64 m, .int .i64 n, s1]) (hpq : p + 1 + 1 < q)
    (hq : Blk wr q 29 #[a3, b3, s3]) (hk : Kp [q] W3 w') (hb : Below wr.heap.size wr w') :
    w'.cell? ⟨q, 2, none⟩ = some s3 ∧ w'.cell? ⟨p + 1, 0, none⟩ = some (.int .i64 m) ∧ w'.cell? ⟨p + 1, 1, none⟩ = some (.int .i64 n) ∧ w'.cell? ⟨p + 1, 2, none⟩ = some s1 ∧ w'.cell? ⟨p, 0, none⟩ = some (.int .i64 b) ∧ w'.cell? ⟨p, 1, none⟩ = some (.int .i64 S) ∧
      Kp [q] W3 w' ∧ Below wr.heap.size wr w' :=
  have h1 := hk.blk hB1 (by simp; omega)
  have h0 := hk.blk hB0 (by simp; omega)
  ⟨(hq.below hb hq.lt).cell 2, h1.cell 0, h1.cell 1, h1.cell 2, h0.cell 0, h0.cell 1, hk, hb⟩

set_option maxHeartbeats 2000000 in
set_option maxRecDepth 100000 in
theorem see_yes (b m n : Nat) (S : Int) (A : Option Addr) (c : Nat) (D : List Bool) (w : World) (h : rdOk b S = true) (hb : b ≤ 2) (hm : m ≤ 96) (hn : n ≤ 96) (hD : D.length = m * n) (hr : Rd Value.bool w w.heap.size A D) :
    Calls Try.prog 26 #[.agg #[.int .i64 b, .int .i64 S], .agg #[.int .i64 m, .int .i64 n, .slice A (m * n) c]] w (BmRes (m, n, seeL m n D b S, 0) w) := by
  have hc := Lib.hid (show rdCheck b S = 0 by simp [rdCheck, h])
  have hmn : m * n ≤ 9216 := Nat.mul_le_mul hm hn
  have h2 := Lib.hid (show bmCheck m n (m * n) = 0 by simp [bmCheck, sideB]; omega)
  clear h
  have HR := Lib.hid hr
  have HD := Lib.hid hD
  clear hr hD
  go_enter Try.func26, Try.ntmps26
  go_wp2_with fail
  have hB0 := ((Blk.new w 26 #[.int .i64 b, .int .i64 S]).alloc (.cells #[.int .i64 m, .int .i64 n, .slice A (m * n) c] 29)).alloc (.cells #[.int .i64 0, .int .i64 0, .slice none 0 0] 29)
  have hB1 := (Blk.new (w.alloc (.cells #[.int .i64 b, .int .i64 S] 26)) 29 #[.int .i64 m, .int .i64 n, .slice A (m * n) c]).alloc (.cells #[.int .i64 0, .int .i64 0, .slice none 0 0] 29)
  have hB2 := Blk.new ((w.alloc (.cells #[.int .i64 b, .int .i64 S] 26)).alloc (.cells #[.int .i64 m, .int .i64 n, .slice A (m * n) c] 29)) 29 #[.int .i64 0, .int .i64 0, .slice none 0 0]
  have hW0 := (((Below.refl w.heap.size w).alloc (Nat.le_refl _) (.cells #[.int .i64 b, .int .i64 S] 26)).alloc (by simp) (.cells #[.int .i64 m, .int .i64 n, .slice A (m * n) c] 29)).alloc (by simp; omega) (.cells #[.int .i64 0, .int .i64 0, .slice none 0 0] 29)
  simp only [World.size_alloc] at hB1 hB2
  generalize ((w.alloc (.cells #[.int .i64 b, .int .i64 S] 26)).alloc (.cells #[.int .i64 m, .int .i64 n, .slice A (m * n) c] 29)).alloc (.cells #[.int .i64 0, .int .i64 0, .slice none 0 0] 29) = W0 at hB0 hB1 hB2 hW0 ⊢
  generalize hp : w.heap.size = p at *
  have HP := Lib.hid hp
  clear hp
  refine (ref21_Check _ _ _).mono ?_
  rw [hc.out]
  rintro e w1 ⟨rfl, hb1⟩
  have hW0 := hW0.trans (hb1.mono (by have := hB0.lt; omega))
  have hB0 := hB0.below hb1 hB0.lt
  have hB1 := hB1.below hb1 hB1.lt
  have hB2 := hB2.below hb1 hB2.lt
  obtain ⟨⟨d0, d1, d2⟩, _⟩ := hB1.three
  go_wp2_with fail
  refine (ref04_Check _ _ _ _ _ _ (by omega)).mono ?_
  rw [h2.out]
  rintro e w2 ⟨rfl, hb2⟩
  have hW0 := hW0.trans (hb2.mono (by have := hB0.lt; omega))
  have hB0 := hB0.below hb2 hB0.lt
  have hB1 := hB1.below hb2 hB1.lt
  have hB2 := hB2.below hb2 hB2.lt
  have hpq2 : p + 1 + 1 < w2.heap.size := hB2.lt
  clear hb1 hb2 d0 d1 d2
  obtain ⟨⟨d0, d1, d2⟩, _⟩ := hB1.three
  go_wp2_with fail
  have hq := Blk.new w2 29 #[.int .i64 m, .int .i64 n, .slice none 0 0]
  have hB0 := hB0.alloc (.cells #[.int .i64 m, .int .i64 n, .slice none 0 0] 29)
  have hB1 := hB1.alloc (.cells #[.int .i64 m, .int .i64 n, .slice none 0 0] 29)
  have hB2 := hB2.alloc (.cells #[.int .i64 m, .int .i64 n, .slice none 0 0] 29)
  have hpq : p + 1 + 1 < w2.heap.size := by assumption
  have hW0 := hW0.alloc (by omega) (.cells #[.int .i64 m, .int .i64 n, .slice none 0 0] 29)
  have HR0 := Lib.hid (HR.out.below hW0 (Nat.le_refl _))
  generalize w2.alloc (.cells #[.int .i64 m, .int .i64 n, .slice none 0 0] 29) = W3 at hq hB0 hB1 hB2 hW0 HR0 ⊢
  generalize hqq : w2.heap.size = q at *
  have hqW := hq.lt
  clear d0 d1 d2
  obtain ⟨i0, hi0, hz0, hz1, hz2⟩ := info_parts info_bool
  go_loopw [9, 10] (fun yy xx wr => ∃ (k : Nat) (A' : Option Addr) (c' : Nat), k ≤ n ∧ yy = .int .i64 k ∧ Kp [q] W3 wr ∧ Blk wr q 29 #[.int .i64 m, .int .i64 n, .slice A' (k * m) c'] ∧
      wr.ownsRow W3.heap.size 4 1 (.slice A' (k * m) c') (k * m) ((seeP m n D b S (k * m)).map Value.bool)) (fun yy _ _ => n - (intOf yy).toNat)
  case atStart => exact ⟨0, none, 0, by omega, rfl, Kp.refl _ _, by simpa using hq, by rw [Nat.zero_mul]; exact World.ownsRow_nil _ _ _ _⟩
  case round =>
    clear hq
    obtain ⟨k, A', c', hk, rfl, hkp, hq, how⟩ := hrel
    obtain ⟨⟨d0, d1, d2⟩, _⟩ := (hkp.blk hB1 (by simp; omega)).three
    by_cases hlt : k < n
    · go_wp2
      go_loopw [10] (fun xx wr => ∃ (t : Nat) (A' : Option Addr) (c' : Nat), t ≤ m ∧ xx = .int .i64 t ∧ Kp [q] W3 wr ∧ Blk wr q 29 #[.int .i64 m, .int .i64 n, .slice A' (k * m + t) c'] ∧
          wr.ownsRow W3.heap.size 4 1 (.slice A' (k * m + t) c') (k * m + t) ((seeP m n D b S (k * m + t)).map Value.bool)) (fun xx _ => m - (intOf xx).toNat)
      case atStart => exact ⟨0, A', c', by omega, rfl, hkp, hq, how⟩
      case round =>
        clear hkp hq how
        obtain ⟨t, A', c', ht, rfl, hkp, hq, how⟩ := hrel
        obtain ⟨⟨d0, d1, d2⟩, _⟩ := (hkp.blk hB1 (by simp; omega)).three
        by_cases hti : t < m
        · have hlt2 := row_lt hlt hti
          have hst := Lib.hid (seeP_step m n D b S k t hti)
          have hbS := hkp.size
          have HQ := Lib.hid hq
          have HO := Lib.hid how
          clear hq how
          generalize hj : k * m + t = j at *
          have HJ := Lib.hid hj
          clear hj
          go_wp2
          refine wp_region_T 12 (fun w' => w'.cell? ⟨q, 2, none⟩ = some (.slice A' j c') ∧ w'.cell? ⟨p + 1, 0, none⟩ = some (.int .i64 m) ∧ w'.cell? ⟨p + 1, 1, none⟩ = some (.int .i64 n) ∧ w'.cell? ⟨p + 1, 2, none⟩ = some (.slice A (m * n) c) ∧ w'.cell? ⟨p, 0, none⟩ = some (.int .i64 b) ∧ w'.cell? ⟨p, 1, none⟩ = some (.int .i64 S) ∧ Kp [q] W3 w' ∧ Below wr.heap.size wr w') (by kernel_rfl) ?_ (fun hS => ?_)
          · (try dsimp only)
            exact see_S hB0 hB1 hpq HQ.out hkp.drew (Below.refl _ _).drew
          (try dsimp only at hS)
          refine wpT_take 0 (v := ?_) rfl (by kernel_rfl) (by kernel_rfl) (fun _ _ _ h => h) hS (Or.inl ⟨rfl, ?_⟩) ?_
          rotate_left
          · (intro w' hSw; (try dsimp only at hSw); go_simp; first | done | with_reducible rfl)
          (try simp only [Act.put, List.setIfInBounds_toArray, List.set_cons_zero, List.set_cons_succ])
          refine wpT_take 1 (v := ?_) rfl (by kernel_rfl) (by kernel_rfl) (fun _ _ _ h => h) hS (Or.inl ⟨rfl, ?_⟩) ?_
          rotate_left
          · (intro w' hSw; (try dsimp only at hSw); go_simp; first | done | with_reducible rfl)
          (try simp only [Act.put, List.setIfInBounds_toArray, List.set_cons_zero, List.set_cons_succ])
          refine wpT_take 2 (v := ?_) rfl (by kernel_rfl) (by kernel_rfl) (fun _ _ _ h => h) hS (Or.inl ⟨rfl, ?_⟩) ?_
          rotate_left
          · (intro w' hSw; (try dsimp only at hSw); go_simp; first | done | with_reducible rfl)
          (try simp only [Act.put, List.setIfInBounds_toArray, List.set_cons_zero, List.set_cons_succ])
          refine wpT_take 3 (v := ?_) rfl (by kernel_rfl) (by kernel_rfl) (fun _ _ _ h => h) hS (Or.inl ⟨rfl, ?_⟩) ?_
          rotate_left
          · (intro w' hSw; (try dsimp only at hSw); go_simp; first | done | with_reducible rfl)
          (try simp only [Act.put, List.setIfInBounds_toArray, List.set_cons_zero, List.set_cons_succ])
          refine wpT_take 4 (v := ?_) rfl (by kernel_rfl) (by kernel_rfl) (fun _ _ _ h => h) hS (Or.inl ⟨rfl, ?_⟩) ?_
          rotate_left
          · (intro w' hSw; (try dsimp only at hSw); go_simp; first | done | with_reducible rfl)
          (try simp only [Act.put, List.setIfInBounds_toArray, List.set_cons_zero, List.set_cons_succ])
          refine wpT_take 5 (v := ?_) rfl (by kernel_rfl) (by kernel_rfl) (fun _ _ _ h => h) hS (Or.inl ⟨rfl, ?_⟩) ?_
          rotate_left
          · (intro w' hSw; (try dsimp only at hSw); go_simp; first | done | with_reducible rfl)
          (try simp only [Act.put, List.setIfInBounds_toArray, List.set_cons_zero, List.set_cons_succ])
          refine wpT_take 6 (v := ?_) rfl (by kernel_rfl) (by kernel_rfl) (fun _ _ _ h => h) hS (Or.inl ⟨rfl, ?_⟩) ?_
          rotate_left
          · (intro w' hSw; (try dsimp only at hSw); go_simp; first | done | with_reducible rfl)
          (try simp only [Act.put, List.setIfInBounds_toArray, List.set_cons_zero, List.set_cons_succ])
          refine wpT_take 8 (v := ?_) rfl (by kernel_rfl) (by kernel_rfl) (fun _ _ _ h => h) hS (Or.inl ⟨rfl, ?_⟩) ?_
          rotate_left
          · (intro w' hSw; (try dsimp only at hSw); go_simp; first | done | with_reducible rfl)
          (try simp only [Act.put, List.setIfInBounds_toArray, List.set_cons_zero, List.set_cons_succ])
          refine wpT_take 9 (v := ?_) rfl (by kernel_rfl) (by kernel_rfl) (fun _ _ _ h => h) hS (Or.inl ⟨rfl, ?_⟩) ?_
          rotate_left
          · (intro w' hSw; (try dsimp only at hSw); go_simp; first | done | with_reducible rfl)
          (try simp only [Act.put, List.setIfInBounds_toArray, List.set_cons_zero, List.set_cons_succ])
          refine wpT_one 7 rfl (by kernel_rfl) (fun K hK => ?_)
          go_simp
          go_at_call 70
          refine (around_any m n A c D t k b _ hm hn HD.out hti hlt hb ((hkp.drew.rd HR0.out (by omega) (by simp; omega)).more (by have := hkp.drew.size; omega))).mono ?_
          rintro e w5 ⟨rfl, hb5⟩
          refine hK.out _ _ ?_ (fun hS => ?_)
          · (try dsimp only)
            exact see_S hB0 hB1 hpq HQ.out (hkp.drew.below hb5) ((Below.refl _ _).drew.trans hb5)
          clear hK K
          (try simp only [Act.put, List.setIfInBounds_toArray, List.set_cons_zero, List.set_cons_succ])
          (try dsimp only at hS)
          refine wpT_take 10 (v := ?_) rfl (by kernel_rfl) (by kernel_rfl) (fun _ _ _ h => h) hS (Or.inl ⟨rfl, ?_⟩) ?_
          rotate_left
          · (intro w' hSw; (try dsimp only at hSw); go_simp; first | done | with_reducible rfl)
          (try simp only [Act.put, List.setIfInBounds_toArray, List.set_cons_zero, List.set_cons_succ])
          refine wpT_one 11 rfl (by kernel_rfl) (fun K hK => ?_)
          go_simp
          refine hK.out _ _ ?_ (fun hS => ?_)
          · (try dsimp only)
            exact see_S hB0 hB1 hpq HQ.out ((hkp.drew.below hb5).alloc _) (((Below.refl _ _).drew.trans hb5).alloc (by have := hb5.size; simpa using this) _)
          clear hK K
          (try simp only [Act.put, List.setIfInBounds_toArray, List.set_cons_zero, List.set_cons_succ])
          (try dsimp only at hS)
          refine wpT_tail (by rfl) (by kernel_rfl) ?_
          (try simp only [List.drop_succ_cons, List.drop_zero])
          have hb6 : Below wr.heap.size wr w5 := (Below.refl _ _).drew.trans hb5
          have ho6 := (own_below HO.out hb6).alloc (.cells #[.bool (decide (S ≤ sqN m n D t k b))] 4)
          have hq6 := (HQ.out.below hb6 HQ.out.lt).alloc (.cells #[.bool (decide (S ≤ sqN m n D t k b))] 4)
          have hk6 := ((hkp.below hb6)).alloc (.cells #[.bool (decide (S ≤ sqN m n D t k b))] 4)
          have hjl : j < 9216 := by omega
          have hnew := World.news_of_block (cs := #[.bool (decide (S ≤ sqN m n D t k b))]) (t := 4) (fr := (0, 0)) (heap_alloc_new w5 (.cells #[.bool (decide (S ≤ sqN m n D t k b))] 4))
          have hbz := hk6.size
          clear hb5 hb6 hS
          generalize hW6 : w5.alloc (.cells #[.bool (decide (S ≤ sqN m n D t k b))] 4) = W6 at ho6 hq6 hk6 hnew hbz ⊢
          clear hW6
          go_wp2_with (at_builtin; refine wpList_append_lies _ rfl _ _ _ rfl W3.heap.size 4 i0 _ 1 1 Try.underlying27 hi0 hz0 hz1 hz2 rfl (by omega) _ j _ rfl ho6 ⟨w5.heap.size, 0, none⟩ 1 1 [.bool (decide (S ≤ sqN m n D t k b))] rfl rfl hnew (by simp [Value.oneCell']) (by omega) (by unfold maxLen; omega) (by omega) hbz W6.heap.size rfl ?_)
          intro g' cap' w7 hown7 hgr7 hat7 hlt7
          have hk7 := hk6.grown_new hgr7 (fun x hx => (ho6.lt x hx).1)
          have hq7 := hq6.grown hgr7 (own_ne ho6 (by omega))
          have e : k * m + (t + 1) = j + 1 := by have := HJ.out; omega
          obtain ⟨⟨e0, e1, e2⟩, f0, f1, f2⟩ := hq7.three
          have hs7 := hq7.set_ 2 (.slice (some ⟨g', 0, none⟩) (j + 1) cap')
          have ho8 := own_set (q := q) (k := 2) (u := .slice (some ⟨g', 0, none⟩) (j + 1) cap') hown7 (by omega)
          have hk8 := hk7.set (g := q) (.inl (by simp)) 2 (.slice (some ⟨g', 0, none⟩) (j + 1) cap')
          clear ho6 hq6 hk6 hnew hbz hgr7 hat7 hown7 hk7 hq7
          go_wp2
          go_roundw
          case rel =>
            refine ⟨t + 1, some ⟨g', 0, none⟩, cap', by omega, by go_num, hk8, ?_, ?_⟩
            · rw [e]; simpa using hs7
            · rw [e, hst.out, List.map_append]
              exact ho8
          case measure => simp [intOf]; omega
        · have hte : t = m := by omega
          subst hte
          go_wp2
          go_roundw
          case rel => exact ⟨k + 1, A', c', by omega, by go_num, hkp, by rw [Nat.add_mul, Nat.one_mul]; exact hq, by rw [Nat.add_mul, Nat.one_mul]; exact how⟩
          case measure => simp [intOf]; omega
    · have hke : k = n := by omega
      subst hke
      obtain ⟨⟨e0, e1, e2⟩, _⟩ := hq.three
      obtain ⟨⟨r0, r1, r2⟩, f0, f1, f2⟩ := (hkp.blk hB2 (by simp; omega)).three
      go_wp2
      refine bodyPost_ret (v := .tuple #[.agg #[.int .i64 m, .int .i64 k, .slice A' (k * m) c'], .int .i64 0]) (by simp [results, Try.results26, go_sem, r0, r1, r2]) rfl ?_
      have hlen : (seeL m k D b S).length = k * m := by simp [seeL, Nat.mul_comm]
      have hsl : seeP m k D b S (k * m) = seeL m k D b S := by unfold seeP seeL; rw [Nat.mul_comm]
      have hown9 := own_set (q := p + 1 + 1) (k := 2) (u := .slice A' (k * m) c') (own_set (q := p + 1 + 1) (k := 1) (u := .int .i64 k) (own_set (q := p + 1 + 1) (k := 0) (u := .int .i64 m) how (by omega)) (by omega)) (by omega)
      refine ⟨?_, A', c', by rw [hlen], ?_⟩
      · rw [HP.out]
        exact below_set (below_set (below_set (hW0.trans (hkp.to_below (by omega) (by simp; omega))) (by omega) _) (by omega) _) (by omega) _
      · rw [hsl] at hown9
        exact own_rd hown9

end Go.Proofs.Ytlanefdeeanpnaa
