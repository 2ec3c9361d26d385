/-
  Contract of the reference's Crop. Conditions: the bitmap's dots are read below the heap's size; the corner lies within the int32 range.
-/
import Derived.Test.YtlanefdeeanpnaaGet
import Derived.Deep.RegionHeld3
import Derived.Deep.DrawnRows
import Derived.Deep.DeepCutAuto
namespace Go.Proofs.Ytlanefdeeanpnaa
set_option linter.unusedVariables false
set_option linter.unusedSimpArgs false
open Go.RowKit
attribute [local go_sem ↓] Go.wp_at_zero Go.wp_at_succ

/-- The cut-out rows. -/
def cropL (W H : Int) (D : List Bool) (x y : Int) (w h : Nat) : List Bool := (List.range (w * h)).map fun k => getB W H D (x + (k % w : Nat)) (y + (k / w : Nat))

set_option maxHeartbeats 1000000 in
/-- One dot of Crop's inner loop: the store of what Get returns. -/
theorem crop_no (W H : Int) (A : Option Addr) (c : Nat) (D : List Bool) (x y u v : Int) (w : World) (hn : D.length ≤ 9223372036854775807) (h0 : bmCheck W H D.length ≠ 0) :
    Calls Try.prog 30 #[.agg #[.int .i64 W, .int .i64 H, .slice A D.length c], .int .i64 x, .int .i64 y, .int .i64 u, .int .i64 v] w fun e w' =>
      e = .returned (.tuple #[.agg #[.int .i64 0, .int .i64 0, .slice none 0 0], .int .i64 (bmCheck W H D.length)]) ∧ Below w.heap.size w w' := by
  have h0' : (bmCheck W H D.length != 0) = true := by simp [h0]
  clear h0
  go_enter Try.func30, Try.ntmps30
  go_wp2_with (go_at_call 69; refine (ref04_Check _ _ _ _ _ _ hn).mono ?_; rintro e w1 ⟨rfl, hb1⟩; obtain ⟨hc1, hf1⟩ := bcell hb1; have hs1 := hb1.size; simp only [World.size_alloc] at hs1)
  refine bodyPost_ret (v := .tuple #[.agg #[.int .i64 0, .int .i64 0, .slice none 0 0], .int .i64 (bmCheck W H D.length)]) (by simp [results, Try.results30, go_sem, hc1, hf1, hs1]) rfl ⟨rfl, ?_⟩
  exact below_set (below_set (below_set ((((Below.refl _ _).alloc (Nat.le_refl _) _).alloc (by simp) _).trans (hb1.mono (by simp; omega))) (by omega) _) (by omega) _) (by omega) _

/-- The rows of which the first t dots are cut out. -/
def cropP (W H : Int) (D : List Bool) (x y : Int) (m n t : Nat) : List Bool := (List.range (m * n)).map fun k => if k < t then getB W H D (x + (k % m : Nat)) (y + (k / m : Nat)) else false
theorem cropP_zero (W H : Int) (D : List Bool) (x y : Int) (m n : Nat) : cropP W H D x y m n 0 = List.replicate (m * n) false := by
  unfold cropP
  apply List.ext_getElem
  · simp
  · intro i h1 h2
    simp
theorem cropP_all (W H : Int) (D : List Bool) (x y : Int) (m n : Nat) : cropP W H D x y m n (m * n) = cropL W H D x y m n := by
  unfold cropP cropL
  apply List.map_congr_left
  intro k hk
  rw [if_pos (by simpa using hk)]
theorem cropP_len (W H : Int) (D : List Bool) (x y : Int) (m n t : Nat) : (cropP W H D x y m n t).length = m * n := by simp [cropP]
theorem row_lt {m n k i : Nat} (hk : k < n) (hi : i < m) : k * m + i < m * n := by
  have h1 : (k + 1) * m ≤ n * m := Nat.mul_le_mul_right m hk
  rw [Nat.add_mul, Nat.one_mul, Nat.mul_comm n m] at h1
  omega
theorem row_int {m n k i : Nat} (hk : k < n) (hi : i < m) : (0 : Int) ≤ (k : Int) * (m : Int) ∧ (0 : Int) ≤ (k : Int) * (m : Int) + (i : Int) ∧ (k : Int) * (m : Int) + (i : Int) < ((m * n : Nat) : Int) := by
  have h1 : (0 : Int) ≤ (k : Int) * (m : Int) := Int.mul_nonneg (by omega) (by omega)
  have h2 : ((k * m + i : Nat) : Int) < ((m * n : Nat) : Int) := by have := row_lt hk hi; omega
  rw [Int.natCast_add, Int.natCast_mul] at h2
  exact ⟨h1, by omega, h2⟩
theorem row_mod {m k i : Nat} (hi : i < m) : (k * m + i) % m = i := by rw [Nat.add_comm, Nat.add_mul_mod_self_right]; exact Nat.mod_eq_of_lt hi
theorem row_div {m k i : Nat} (hi : i < m) : (k * m + i) / m = k := by rw [Nat.add_comm, Nat.add_mul_div_right _ _ (by omega), Nat.div_eq_of_lt hi]; omega
theorem cropP_set (W H : Int) (D : List Bool) (x y : Int) (m n k i : Nat) (hk : k < n) (hi : i < m) : (cropP W H D x y m n (k * m + i)).set (k * m + i) (getB W H D (x + i) (y + k)) = cropP W H D x y m n (k * m + i + 1) := by
  apply List.ext_getElem
  · simp [cropP]
  · intro j h1 h2
    rw [List.getElem_set]
    split
    · rename_i e
      subst e
      simp only [cropP, List.getElem_map, List.getElem_range, row_mod hi, row_div hi]
      rw [if_pos (by omega)]
    · simp only [cropP, List.getElem_map, List.getElem_range]
      by_cases hj : j < k * m + i
      · rw [if_pos hj, if_pos (by omega)]
      · rw [if_neg hj, if_neg (by omega)]
theorem cropP_at (W H : Int) (D : List Bool) (x y : Int) (m n t : Nat) (ht : t < m * n) : (cropP W H D x y m n t)[t]'(by rw [cropP_len]; exact ht) = false := by simp [cropP]

/-- What a round of Crop's inner loop reads: out of the two blocks. -/
theorem crop_S {W0 w' : World} {p1 p3 g : Nat} {W H : Int} {s1 s3 : Value} {a b : Value} (hb3 : Blk W0 p3 29 #[a, b, s3]) (hb1 : Blk W0 p1 29 #[.int .i64 W, .int .i64 H, s1])
    (hp3g : some p3 ≠ some g) (hp1g : some p1 ≠ some g) (h1 : W0.grownBy w' (some g)) :
    w'.cell? ⟨p3, 2, none⟩ = some s3 ∧ w'.cell? ⟨p1, 0, none⟩ = some (.int .i64 W) ∧ w'.cell? ⟨p1, 1, none⟩ = some (.int .i64 H) ∧ w'.cell? ⟨p1, 2, none⟩ = some s1 ∧ W0.grownBy w' (some g) :=
  ⟨(hb3.grown h1 hp3g).cell 2, (hb1.grown h1 hp1g).cell 0, (hb1.grown h1 hp1g).cell 1, (hb1.grown h1 hp1g).cell 2, h1⟩

set_option maxHeartbeats 1000000 in
theorem crop_yes (W H : Int) (A : Option Addr) (c : Nat) (D : List Bool) (x y : Int) (m n : Nat) (w : World) (hn : D.length ≤ 9223372036854775807) (h0 : bmCheck W H D.length = 0) (hm : m ≤ 96) (hn' : n ≤ 96) (hr : Rd Value.bool w w.heap.size A D)
    (hx : -2147483648 ≤ x ∧ x ≤ 2147483647) (hy : -2147483648 ≤ y ∧ y ≤ 2147483647) :
    Calls Try.prog 30 #[.agg #[.int .i64 W, .int .i64 H, .slice A D.length c], .int .i64 x, .int .i64 y, .int .i64 m, .int .i64 n] w fun e w' =>
      ∃ g : Nat, e = .returned (.tuple #[.agg #[.int .i64 m, .int .i64 n, .slice (some ⟨g, 0, none⟩) (m * n) (m * n)], .int .i64 0]) ∧ w.heap.size ≤ g ∧ g < w'.heap.size ∧ Own Value.bool 4 w' g (cropL W H D x y m n) ∧ Below w.heap.size w w' := by
  have h0' : (bmCheck W H D.length == 0) = true := by simp [h0]
  have H0 := Lib.hid h0
  clear h0
  have Hr := Lib.hid hr
  clear hr
  go_enter Try.func30, Try.ntmps30
  go_wp2_with (first
    | (go_at_call 69; refine (ref04_Check _ _ _ _ _ _ hn).mono ?_; rintro e w1 ⟨rfl, hb1⟩; obtain ⟨hc1, hf1⟩ := bcell hb1; have hs1 := hb1.size; simp only [World.size_alloc] at hs1)
    | (go_at_call 65; refine (ref04_New_nat _ _ _ hm hn').mono ?_; rintro e w2 ⟨g, rfl, hg1, hg2, hown, hb2⟩; obtain ⟨hc2, hf2⟩ := bcell hb2; have hs2 := hb2.size))
  have hB1 : Blk w1 w.heap.size 29 #[.int .i64 W, .int .i64 H, .slice A D.length c] := ((Blk.new w _ _).alloc _).below hb1 (by simp; omega)
  have hB2 : Blk w1 (w.heap.size + 1) 29 #[.int .i64 0, .int .i64 0, .slice none 0 0] := by
    have h := Blk.new (w.alloc (.cells #[.int .i64 W, .int .i64 H, .slice A D.length c] 29)) 29 #[.int .i64 0, .int .i64 0, .slice none 0 0]
    rw [World.size_alloc] at h
    exact h.below hb1 (by simp)
  have hbw : Below w.heap.size w w1 := (((Below.refl _ _).alloc (Nat.le_refl _) _).alloc (by simp) _).trans (hb1.mono (by simp; omega))
  have hbw2 : Below w.heap.size w w2 := hbw.trans (hb2.mono (by omega))
  have hb3 := Blk.new w2 29 #[.int .i64 m, .int .i64 n, .slice (some ⟨g, 0, none⟩) (m * n) (m * n)]
  have hb1' := ((hB1.below hb2 (by omega))).alloc (.cells #[.int .i64 m, .int .i64 n, .slice (some ⟨g, 0, none⟩) (m * n) (m * n)] 29)
  have hb2' := ((hB2.below hb2 (by omega))).alloc (.cells #[.int .i64 m, .int .i64 n, .slice (some ⟨g, 0, none⟩) (m * n) (m * n)] 29)
  have hown' := hown.alloc (.cells #[.int .i64 m, .int .i64 n, .slice (some ⟨g, 0, none⟩) (m * n) (m * n)] 29)
  have hbw3 := hbw2.alloc (by omega) (.cells #[.int .i64 m, .int .i64 n, .slice (some ⟨g, 0, none⟩) (m * n) (m * n)] 29)
  have hsz : w2.heap.size < (w2.alloc (.cells #[.int .i64 m, .int .i64 n, .slice (some ⟨g, 0, none⟩) (m * n) (m * n)] 29)).heap.size := by simp
  have hr0 := Lib.hid (Hr.out.below hbw3 (Nat.le_refl _))
  generalize w2.alloc (.cells #[.int .i64 m, .int .i64 n, .slice (some ⟨g, 0, none⟩) (m * n) (m * n)] 29) = W0 at hb3 hb1' hb2' hown' hbw3 hsz hr0 ⊢
  generalize hp3 : w2.heap.size = p3 at *
  generalize hp1 : w.heap.size = p1 at *
  rw [← cropP_zero W H D x y m n] at hown'
  clear hB1 hB2 hbw hbw2 hc1 hf1 hc2 hf2 hown hb1 hb2
  go_loopw [14] (fun j wr => ∃ k : Nat, k ≤ n ∧ j = .int .i64 k ∧ W0.grownBy wr (some g) ∧ Own Value.bool 4 wr g (cropP W H D x y m n (k * m))) (fun j _ => n - (intOf j).toNat)
  case atStart => exact ⟨0, Nat.zero_le _, rfl, only_refl _ _, by rw [Nat.zero_mul]; exact hown'⟩
  case round =>
    obtain ⟨k, hk, rfl, hgr, how⟩ := hrel
    have hp3g : some p3 ≠ some g := by intro e; injection e; omega
    have hp1g : some p1 ≠ some g := by intro e; injection e; omega
    have hp2g : some (p1 + 1) ≠ some g := by intro e; injection e; omega
    by_cases hlt : k < n
    · go_wp2
      have hgr' := hgr
      clear hgr
      have how' := how
      clear how
      go_loopw [15] (fun i w4 => ∃ t : Nat, t ≤ m ∧ i = .int .i64 t ∧ W0.grownBy w4 (some g) ∧ Own Value.bool 4 w4 g (cropP W H D x y m n (k * m + t))) (fun i _ => m - (intOf i).toNat)
      case atStart => exact ⟨0, Nat.zero_le _, rfl, hgr', how'⟩
      case round =>
        clear how' hgr'
        obtain ⟨t, ht, rfl, hgr, how⟩ := hrel
        by_cases hti : t < m
        · obtain ⟨⟨c0, c1, c2⟩, _⟩ := (hb3.grown hgr hp3g).three
          obtain ⟨⟨d0, d1, d2⟩, _⟩ := (hb1'.grown hgr hp1g).three
          have hlt2 := row_lt hlt hti
          have hst := Lib.hid (cropP_set W H D x y m n k t hlt hti)
          have hc4 := how.cell (k := k * m + t) (by rw [cropP_len]; exact hlt2)
          rw [cropP_at _ _ _ _ _ _ _ _ hlt2] at hc4
          have hf4 := how.frozen (k * m + t)
          obtain ⟨hi1, hi2, hi3⟩ := row_int hlt hti
          have hi4 : (k : Int) * (m : Int) + (t : Int) < (m : Int) * (n : Int) := by rw [← Int.natCast_mul]; exact hi3
          have hmn : m * n ≤ 9216 := by have := Nat.mul_le_mul hm hn'; omega
          have hte : (cropP W H D x y m n (k * m + t))[k * m + t]'(by rw [cropP_len]; exact hlt2) = false := cropP_at _ _ _ _ _ _ _ _ hlt2
          have hpl : k * m + t < (cropP W H D x y m n (k * m + t)).length := by rw [cropP_len]; exact hlt2
          have e1 : IntKind.i64.wrap ((k : Int) * (m : Int)) = (k : Int) * (m : Int) := IntWalk.i64_in _ (by omega)
          have e2 : IntKind.i64.wrap ((k : Int) * (m : Int) + (t : Int)) = (k : Int) * (m : Int) + (t : Int) := IntWalk.i64_in _ (by omega)
          have e3 : ((k : Int) * (m : Int) + (t : Int)).toNat = k * m + t := by rw [← Int.natCast_mul, ← Int.natCast_add]; exact Int.toNat_natCast _
          have hpg : p1 ≤ g := by omega
          have hpw : p1 ≤ W0.heap.size := by omega
          go_wp2
          go_region_held3 (fun w' => w'.cell? ⟨p3, 2, none⟩ = some (.slice (some ⟨g, 0, none⟩) (m * n) (m * n)) ∧ w'.cell? ⟨p1, 0, none⟩ = some (.int .i64 W) ∧ w'.cell? ⟨p1, 1, none⟩ = some (.int .i64 H) ∧ w'.cell? ⟨p1, 2, none⟩ = some (.slice A D.length c) ∧
              W0.grownBy w' (some g))
            ((first | exact crop_S hb3 hb1' hp3g hp1g (only_drew hgr) | exact crop_S hb3 hb1' hp3g hp1g (only_below (only_drew hgr) hb5) | exact crop_S hb3 hb1' hp3g hp1g (only_set (only_below (only_drew hgr) hb5) _ _)))
            ((go_at_call 71; go_split_ands; refine (ref04_Get _ _ _ _ _ _ _ _ hn ((only_rd hr0.out (only_drew hgr) hpg hpw).more (by have := hgr.size; simp; omega))).mono ?_; rintro e w5 ⟨rfl, hb5⟩; have ho5 := how.drew.below hb5 how.lt; have hc5 := ho5.cell hpl; rw [hte] at hc5; have hf5 := ho5.frozen (k * m + t)))
          go_wp2
          have ho6 := ho5.set_ (k * m + t) (getB W H D (x + t) (y + k))
          rw [hst.out] at ho6
          go_roundw
          case rel => exact ⟨t + 1, by omega, by go_num, only_set (only_below (only_drew hgr) hb5) _ _, ho6⟩
          case measure => simp [intOf]; omega
        · go_wp2
          have ht' : t = m := by omega
          subst ht'
          go_roundw
          case rel => exact ⟨k + 1, by omega, by go_num, hgr, by rw [Nat.add_mul, Nat.one_mul]; exact how⟩
          case measure => simp [intOf]; omega
    · obtain ⟨⟨c0, c1, c2⟩, _⟩ := (hb3.grown hgr hp3g).three
      obtain ⟨⟨d0, d1, d2⟩, f0, f1, f2⟩ := (hb2'.grown hgr hp2g).three
      go_wp2
      refine bodyPost_ret (v := .tuple #[.agg #[.int .i64 m, .int .i64 n, .slice (some ⟨g, 0, none⟩) (m * n) (m * n)], .int .i64 0]) (by simp [results, Try.results30, go_sem, d0, d1, d2]) rfl ⟨g, rfl, by omega, ?_, ?_, ?_⟩
      · have := how.lt; simpa using this
      · have hk' : k = n := by omega
        subst hk'
        rw [Nat.mul_comm k m, cropP_all] at how
        exact ((how.far (by simp; omega) _).far (by simp; omega) _).far (by simp; omega) _
      · rw [hp1]
        exact below_set (below_set (below_set (hbw3.trans (only_to_below hgr (by omega) (by omega))) (by omega) _) (by omega) _) (by omega) _
end Go.Proofs.Ytlanefdeeanpnaa
