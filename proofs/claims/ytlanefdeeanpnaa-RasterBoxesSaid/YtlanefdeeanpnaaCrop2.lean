/-
  Contract of Crop of the program's bitmap package, at bitmaps that pass Check and parts that New takes. Conditions: the dots are read; the corner lies within the int32 range.
-/
import Derived.Test.YtlanefdeeanpnaaCrop
import Derived.Test.YtlanefdeeanpnaaBase2
namespace Go.Proofs.Ytlanefdeeanpnaa
set_option linter.unusedVariables false
set_option linter.unusedSimpArgs false
open Go.RowKit
attribute [local go_sem ↓] Go.wp_at_zero Go.wp_at_succ

theorem div_mod_set {m t : Nat} : t / m * m + t % m = t := by have := Nat.div_add_mod t m; rw [Nat.mul_comm] at this; exact this

set_option maxHeartbeats 4000000 in
set_option maxRecDepth 100000 in
theorem bitmap_Crop (W H : Int) (A : Option Addr) (c : Nat) (D : List Bool) (x y : Int) (m n : Nat) (w : World) (hn : D.length ≤ 9223372036854775807) (h0 : bmCheck W H D.length = 0) (hm : m ≤ 96) (hn' : n ≤ 96) (hr : Rd Value.bool w w.heap.size A D)
    (hx : -2147483648 ≤ x ∧ x ≤ 2147483647) (hy : -2147483648 ≤ y ∧ y ≤ 2147483647) :
    Calls Try.prog 48 #[.agg #[.int .i64 W, .int .i64 H, .slice A D.length c], .int .i64 x, .int .i64 y, .int .i64 m, .int .i64 n] w fun e w' =>
      ∃ g : Nat, e = .returned (.tuple #[.agg #[.int .i64 m, .int .i64 n, .slice (some ⟨g, 0, none⟩) (m * n) (m * n)], .int .i64 0]) ∧ w.heap.size ≤ g ∧ g < w'.heap.size ∧ Own Value.bool 4 w' g (cropL W H D x y m n) ∧ Below w.heap.size w w' := by
  have hmn : m * n ≤ 9216 := Nat.mul_le_mul hm hn'
  have CK := Lib.hid (fun w => bitmap_Check W H A D.length c w hn)
  rw [h0] at CK
  have CH := Lib.hid (fun (x y : Int) w h => bitmap_has W H A c D x y w h0 h)
  have hgh : ∀ x y : Int, hasB W H D x y = getB W H D x y := fun x y => by simp [getB, h0]
  have HGH := Lib.hid hgh
  have CN := Lib.hid (fun w => bitmap_New_nat m n w hm hn')
  have HR := Lib.hid hr
  clear hr h0 hgh
  go_enter Try.func48, Try.ntmps48
  go_wp2_with fail
  refine calls_world (fun W0 hW0 => ?_)
  obtain ⟨hB0, hB1, hbw, hs0⟩ := new2 hW0
  clear hW0
  generalize hp : w.heap.size = p at *
  have HP := Lib.hid hp
  clear hp
  refine (CK.out _).mono ?_
  rintro e w1 ⟨rfl, hb1⟩
  replace hB0 := hB0.below hb1 hB0.lt
  replace hB1 := hB1.below hb1 hB1.lt
  replace hbw := hbw.trans (hb1.mono (by omega))
  clear hb1 hs0
  go_wp2_with fail
  refine (CN.out _).mono ?_
  rintro e w2 ⟨g, rfl, hg1, hg2, hO, hb2⟩
  have hz1 := hB1.lt
  replace hB0 := hB0.below hb2 hB0.lt
  replace hB1 := hB1.below hb2 hB1.lt
  replace hbw := hbw.trans (hb2.mono (by omega))
  clear hb2
  dsimp only
  go_upto_region 5 with fail
  refine wp_world (fun W3 hW3 => ?_)
  obtain ⟨hB3, hb3, hs3⟩ := new1 hW3
  clear hW3
  replace hB0 := hB0.below hb3 hB0.lt
  replace hB1 := hB1.below hb3 hB1.lt
  replace hO := hO.below hb3 hO.lt
  replace hbw := hbw.trans (hb3.mono (by omega))
  clear hb3
  generalize hq : w2.heap.size = q at *
  have hz3 := hB3.lt
  clear hq hs3
  have c2 : W3.cell? ⟨q, 2, none⟩ = some (.slice (some ⟨g, 0, none⟩) (m * n) (m * n)) := hB3.three.1.2.2
  have hrd := Lib.hid ((HR.out.below hbw (Nat.le_refl _)))
  rw [← cropP_zero W H D x y m n] at hO
  go_wp2_with fail
  go_loopw [15, 31] (fun _ s31 wr => ∃ t : Nat, t ≤ m * n ∧ s31 = .int .i64 t ∧ Kp [g] W3 wr ∧ Own Value.bool 4 wr g (cropP W H D x y m n t)) (fun _ s31 _ => m * n - (intOf s31).toNat)
  case atStart => exact ⟨0, Nat.zero_le _, rfl, Kp.refl _ _, hO⟩
  case round =>
    clear hO
    obtain ⟨t, ht, rfl, hkp, how⟩ := hrel
    have hgp : p ≠ g := by omega
    have hgp1 : p + 1 ≠ g := by omega
    have hgq : q ≠ g := by omega
    by_cases hlt : t < m * n
    · have hlt' : (t : Int) < ((m * n : Nat) : Int) := by omega
      have hm0 : 0 < m := Nat.pos_of_mul_pos_right (Nat.lt_of_le_of_lt (Nat.zero_le _) hlt)
      obtain ⟨⟨b0, b1, b2⟩, _⟩ := (hkp.blk hB0 (by simpa using hgp)).three
      obtain ⟨⟨d0, d1, d2⟩, _⟩ := (hkp.blk hB3 (by simpa using hgq)).three
      have zr := hkp.size
      have hst := Lib.hid (cropP_set W H D x y m n (t / m) (t % m) (Nat.div_lt_of_lt_mul hlt) (Nat.mod_lt _ hm0))
      rw [div_mod_set] at hst
      have hpl : t < (cropP W H D x y m n t).length := by rw [cropP_len]; exact hlt
      have hc5 := how.cell hpl
      rw [cropP_at _ _ _ _ _ _ _ _ hlt] at hc5
      have hf5 := how.frozen t
      have hso := Lib.hid (fun b => how.set_ t b)
      have hxi0 : (t : Int).tmod (m : Int) = ((t % m : Nat) : Int) := by rw [Int.tmod_eq_emod_of_nonneg (by omega), Int.natCast_emod]
      have hyi0 : (t : Int).tdiv (m : Int) = ((t / m : Nat) : Int) := by rw [Int.tdiv_eq_ediv_of_nonneg (by omega), Int.natCast_ediv]
      have hkx : t % m < m := Nat.mod_lt _ hm0
      have hky : t / m < n := Nat.div_lt_of_lt_mul hlt
      generalize t % m = kx at *
      generalize t / m = ky at *
      have hxi := hxi0
      have hyi := hyi0
      clear hxi0 hyi0
      have hmz : ¬ (m : Int) = 0 := by omega
      have hmz2 : ¬ m = 0 := by omega
      have e1 : IntKind.i64.wrap (x + (kx : Int)) = x + kx := IntWalk.i64_in _ (by omega)
      have e2 : IntKind.i64.wrap (y + (ky : Int)) = y + ky := IntWalk.i64_in _ (by omega)
      have e3 : IntKind.i64.wrap ((ky : Int)) = ky := IntWalk.i64_in _ (by omega)
      have zg := how.lt
      have z0 : p < wr.heap.size := by omega
      have z3 : q < wr.heap.size := by omega
      have hrd2 : Rd Value.bool wr wr.heap.size A D := (hkp.rd hrd.out (by omega) (by simp; omega)).more (by omega)
      have CHt := Lib.hid (CH.out (x + kx) (y + ky))
      rw [HGH.out] at CHt
      generalize getB W H D (x + kx) (y + ky) = v at *
      go_upto_region 8 with fail
      refine wp_region_L 16 (fun w' => (∀ b o, b < wr.heap.size → w'.cell? ⟨b, o, none⟩ = wr.cell? ⟨b, o, none⟩) ∧ Below wr.heap.size wr w') (by kernel_rfl) ?_ (fun Wd hWd hS => ?_)
      · (try dsimp only)
        exact sb_of (Below.refl _ _).drew
      (try dsimp only at hS)
      refine wpT_take 0 (v := ?_) rfl (by kernel_rfl) (by kernel_rfl) (fun _ _ _ h => h) hS (Or.inl ⟨rfl, ?_⟩) ?_
      rotate_left
      · (intro w' hSw; (try dsimp only at hSw); go_simp; first | done | with_reducible rfl)
      (try simp only [Act.put, List.setIfInBounds_toArray, List.set_cons_zero, List.set_cons_succ])
      refine wpT_take 1 (v := ?_) rfl (by kernel_rfl) (by kernel_rfl) (fun _ _ _ h => h) hS (Or.inl ⟨rfl, ?_⟩) ?_
      rotate_left
      · (intro w' hSw; (try dsimp only at hSw); go_simp; first | done | with_reducible rfl)
      (try simp only [Act.put, List.setIfInBounds_toArray, List.set_cons_zero, List.set_cons_succ])
      refine wpT_take 2 (v := ?_) rfl (by kernel_rfl) (by kernel_rfl) (fun _ _ _ h => h) hS (Or.inl ⟨rfl, ?_⟩) ?_
      rotate_left
      · (intro w' hSw; (try dsimp only at hSw); go_simp; first | done | with_reducible rfl)
      (try simp only [Act.put, List.setIfInBounds_toArray, List.set_cons_zero, List.set_cons_succ])
      refine wpT_take 3 (v := ?_) rfl (by kernel_rfl) (by kernel_rfl) (fun _ _ _ h => h) hS (Or.inl ⟨rfl, ?_⟩) ?_
      rotate_left
      · (intro w' hSw; (try dsimp only at hSw); go_simp; first | done | with_reducible rfl)
      (try simp only [Act.put, List.setIfInBounds_toArray, List.set_cons_zero, List.set_cons_succ])
      refine wpT_take 4 (v := ?_) rfl (by kernel_rfl) (by kernel_rfl) (fun _ _ _ h => h) hS (Or.inl ⟨rfl, ?_⟩) ?_
      rotate_left
      · (intro w' hSw; (try dsimp only at hSw); go_simp; first | done | with_reducible rfl)
      (try simp only [Act.put, List.setIfInBounds_toArray, List.set_cons_zero, List.set_cons_succ])
      refine wpT_take 5 (v := ?_) rfl (by kernel_rfl) (by kernel_rfl) (fun _ _ _ h => h) hS (Or.inl ⟨rfl, ?_⟩) ?_
      rotate_left
      · (intro w' hSw; (try dsimp only at hSw); go_simp; first | done | with_reducible rfl)
      (try simp only [Act.put, List.setIfInBounds_toArray, List.set_cons_zero, List.set_cons_succ])
      refine wpT_take 6 (v := ?_) rfl (by kernel_rfl) (by kernel_rfl) (fun _ _ _ h => h) hS (Or.inl ⟨rfl, ?_⟩) ?_
      rotate_left
      · (intro w' hSw; (try dsimp only at hSw); go_simp; first | done | with_reducible rfl)
      (try simp only [Act.put, List.setIfInBounds_toArray, List.set_cons_zero, List.set_cons_succ])
      refine wpT_take 7 (v := ?_) rfl (by kernel_rfl) (by kernel_rfl) (fun _ _ _ h => h) hS (Or.inl ⟨rfl, ?_⟩) ?_
      rotate_left
      · (intro w' hSw; (try dsimp only at hSw); go_simp; first | done | with_reducible rfl)
      (try simp only [Act.put, List.setIfInBounds_toArray, List.set_cons_zero, List.set_cons_succ])
      refine wpT_take 8 (v := ?_) rfl (by kernel_rfl) (by kernel_rfl) (fun _ _ _ h => h) hS (Or.inl ⟨rfl, ?_⟩) ?_
      rotate_left
      · (intro w' hSw; (try dsimp only at hSw); go_simp; first | done | with_reducible rfl)
      (try simp only [Act.put, List.setIfInBounds_toArray, List.set_cons_zero, List.set_cons_succ])
      refine wpT_take 9 (v := ?_) rfl (by kernel_rfl) (by kernel_rfl) (fun _ _ _ h => h) hS (Or.inl ⟨rfl, ?_⟩) ?_
      rotate_left
      · (intro w' hSw; (try dsimp only at hSw); go_simp; first | done | with_reducible rfl)
      (try simp only [Act.put, List.setIfInBounds_toArray, List.set_cons_zero, List.set_cons_succ])
      refine wpT_take 10 (v := ?_) rfl (by kernel_rfl) (by kernel_rfl) (fun _ _ _ h => h) hS (Or.inl ⟨rfl, ?_⟩) ?_
      rotate_left
      · (intro w' hSw; (try dsimp only at hSw); go_simp; first | done | with_reducible rfl)
      (try simp only [Act.put, List.setIfInBounds_toArray, List.set_cons_zero, List.set_cons_succ])
      refine wpT_take 11 (v := ?_) rfl (by kernel_rfl) (by kernel_rfl) (fun _ _ _ h => h) hS (Or.inl ⟨rfl, ?_⟩) ?_
      rotate_left
      · (intro w' hSw; (try dsimp only at hSw); go_simp; first | done | with_reducible rfl)
      (try simp only [Act.put, List.setIfInBounds_toArray, List.set_cons_zero, List.set_cons_succ])
      refine wpT_take 12 (v := ?_) rfl (by kernel_rfl) (by kernel_rfl) (fun _ _ _ h => h) hS (Or.inl ⟨rfl, ?_⟩) ?_
      rotate_left
      · (intro w' hSw; (try dsimp only at hSw); go_simp; first | done | with_reducible rfl)
      (try simp only [Act.put, List.setIfInBounds_toArray, List.set_cons_zero, List.set_cons_succ])
      refine wpT_take 13 (v := ?_) rfl (by kernel_rfl) (by kernel_rfl) (fun _ _ _ h => h) hS (Or.inl ⟨rfl, ?_⟩) ?_
      rotate_left
      · (intro w' hSw; (try dsimp only at hSw); go_simp; first | done | with_reducible rfl)
      (try simp only [Act.put, List.setIfInBounds_toArray, List.set_cons_zero, List.set_cons_succ])
      refine wpT_take 14 (v := ?_) rfl (by kernel_rfl) (by kernel_rfl) (fun _ _ _ h => h) hS (Or.inl ⟨rfl, ?_⟩) ?_
      rotate_left
      · (intro w' hSw; (try dsimp only at hSw); go_simp; first | done | with_reducible rfl)
      (try simp only [Act.put, List.setIfInBounds_toArray, List.set_cons_zero, List.set_cons_succ])
      refine wpT_one 15 rfl (by kernel_rfl) (fun K hK => ?_)
      go_simp
      go_at_call 74
      refine (CHt.out _ ((hrd2.below hS.2 (Nat.le_refl _)).more hS.2.size)).mono ?_
      rintro e w5 ⟨rfl, hb5⟩
      have hbS := hS.2.trans (hb5.mono hS.2.size)
      refine hK.out _ _ ?_ (fun hS => ?_)
      · (try dsimp only)
        exact sb_of hbS
      clear hK K
      (try simp only [Act.put, List.setIfInBounds_toArray, List.set_cons_zero, List.set_cons_succ])
      (try dsimp only at hS)
      refine wpT_tail (by rfl) (by kernel_rfl) ?_
      (try simp only [List.drop_succ_cons, List.drop_zero])
      have hbz := hS.2
      have hc6 := hbz.cell (p := ⟨g, t, none⟩) zg
      rw [hc5] at hc6
      have hf6 := hbz.frozen (p := ⟨g, t, none⟩) zg
      rw [hf5] at hf6
      have ho6 := how.below hbz zg
      have ho7 := Lib.hid (ho6.set_ t v)
      rw [hst.out] at ho7
      have hkp6 := hkp.below hbz
      clear hS hb5 hWd
      go_wp2_with fail
      go_roundw
      case rel => exact ⟨t + 1, by omega, by go_num, hkp6.set (.inl (by simp)) _ _, ho7.out⟩
      case measure => simp [intOf]; omega
    · have hte : t = m * n := by omega
      have hlt' : ¬ (t : Int) < ((m * n : Nat) : Int) := by omega
      subst hte
      obtain ⟨⟨d0, d1, d2⟩, _⟩ := (hkp.blk hB3 (by simpa using hgq)).three
      have hB1' := hkp.blk hB1 (by simpa using hgp1)
      obtain ⟨⟨r0, r1, r2⟩, f0, f1, f2⟩ := hB1'.three
      have zr := hkp.size
      rw [cropP_all] at how
      go_wp2
      obtain ⟨hR9, hk9⟩ := store3 (w := wr) (x := .int .i64 m) (y := .int .i64 n) (z := .slice (some ⟨g, 0, none⟩) (m * n) (m * n)) rfl hB1'
      have hO9 := hk9.blk how.blk (by simpa using fun e => hgp1 e.symm)
      have hB9 : Below p w _ := (hbw.trans (hkp.to_below (by omega) (by simp; omega))).trans (hk9.to_below (B := p) (by omega) (by simp))
      generalize ((World.setCell wr ⟨p + 1, 0, none⟩ (.int .i64 m)).setCell ⟨p + 1, 1, none⟩ (.int .i64 n)).setCell ⟨p + 1, 2, none⟩ (.slice (some ⟨g, 0, none⟩) (m * n) (m * n)) = W9 at *
      obtain ⟨⟨s0, s1, s2⟩, _⟩ := hR9.three
      have hO9' : Own Value.bool 4 W9 g (cropL W H D x y m n) := hO9
      exact bodyPost_ret (v := .tuple #[.agg #[.int .i64 m, .int .i64 n, .slice (some ⟨g, 0, none⟩) (m * n) (m * n)], .int .i64 0]) (by simp [results, Try.results48, go_sem, s0, s1, s2]) rfl ⟨g, rfl, by rw [HP.out]; omega, hO9'.lt, hO9', by rw [HP.out]; exact hB9⟩
end Go.Proofs.Ytlanefdeeanpnaa
