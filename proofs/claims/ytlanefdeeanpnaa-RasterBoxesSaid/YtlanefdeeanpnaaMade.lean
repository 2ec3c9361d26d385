/-
  Contract of Made of layer 4's reference: the bitmap that numbers make, as a function of the list. Conditions: the list is read below the heap's size and its length fits an int.
-/
import Derived.Test.YtlanefdeeanpnaaDraw
import Derived.Test.YtlanefdeeanpnaaCrop
namespace Go.Proofs.Ytlanefdeeanpnaa
set_option linter.unusedVariables false
set_option linter.unusedSimpArgs false
open Go.RowKit

/-- One column of a rectangle: t dots from y on. -/
def colN (W i y : Nat) (on : Bool) : Nat → List Bool → List Bool
  | 0, D => D
  | t + 1, D => (colN W i y on t D).set ((y + t) * W + i) on
def rowN (W x y : Nat) (on : Bool) (h : Nat) : Nat → List Bool → List Bool
  | 0, D => D
  | t + 1, D => colN W (x + t) y on h (rowN W x y on h t D)
def rect (W H x y s : Nat) (on : Bool) (D : List Bool) : List Bool := rowN W x y on (min (H - y) (s / 4 + 1)) (min (W - x) (s % 4 + 1)) D
theorem colN_len (W i y : Nat) (on : Bool) (t : Nat) (D : List Bool) : (colN W i y on t D).length = D.length := by
  induction t with
  | zero => rfl
  | succ t ih => simp [colN, ih]
theorem rowN_len (W x y : Nat) (on : Bool) (h t : Nat) (D : List Bool) : (rowN W x y on h t D).length = D.length := by
  induction t with
  | zero => rfl
  | succ t ih => simp [rowN, colN_len, ih]
theorem rect_len (W H x y s : Nat) (on : Bool) (D : List Bool) : (rect W H x y s on D).length = D.length := rowN_len _ _ _ _ _ _ _

/-- One round of Made: where the draw stands, and the dots. -/
def mkStep (L : List Int) (W H : Nat) (s : Nat × List Bool) : Nat × List Bool :=
  (dAt L (dAt L (dAt L (dAt L s.1))), rect W H (dN L s.1 W).toNat (dN L (dAt L s.1) H).toNat (dN L (dAt L (dAt L s.1)) 16).toNat (decide (0 < dN L (dAt L (dAt L (dAt L s.1))) 4)) s.2)
def mkRun (L : List Int) (W H : Nat) : Nat → Nat × List Bool → Nat × List Bool
  | 0, s => s
  | n + 1, s => if s.1 < L.length ∧ 0 < W * H then mkRun L W H n (mkStep L W H s) else s
def mkW (L : List Int) : Nat := (dN L 0 17).toNat
def mkH (L : List Int) : Nat := (dN L (dAt L 0) 13).toNat
def mkD (L : List Int) : List Bool := (mkRun L (mkW L) (mkH L) 12 (dAt L (dAt L 0), List.replicate (mkW L * mkH L) false)).2
theorem mkRun_len (L : List Int) (W H n : Nat) : ∀ s : Nat × List Bool, (mkRun L W H n s).2.length = s.2.length := by
  induction n with
  | zero => intro s; rfl
  | succ n ih =>
    intro s
    unfold mkRun
    split
    · rw [ih]; exact rect_len _ _ _ _ _ _ _
    · rfl
theorem mkD_len (L : List Int) : (mkD L).length = mkW L * mkH L := by unfold mkD; rw [mkRun_len]; simp
theorem mkW_le (L : List Int) : mkW L ≤ 16 := by have := dN_range L 0 (m := 17) (by omega); unfold mkW; omega
theorem mkH_le (L : List Int) : mkH L ≤ 12 := by have := dN_range L (dAt L 0) (m := 13) (by omega); unfold mkH; omega

theorem mk_small (L : List Int) : (mkD L).length ≤ 192 := by rw [mkD_len]; exact Nat.mul_le_mul (mkW_le L) (mkH_le L)

theorem mkRun_stop {L : List Int} {W H r k : Nat} {D : List Bool} (h : ¬ (r < 12 ∧ k < L.length ∧ 0 < W * H)) : mkRun L W H (12 - r) (k, D) = (k, D) := by
  rcases Nat.lt_or_ge r 12 with h1 | h1
  · obtain ⟨j, hj⟩ : ∃ j, 12 - r = j + 1 := ⟨11 - r, by omega⟩
    rw [hj]
    unfold mkRun
    rw [if_neg (fun hh => h ⟨h1, hh⟩)]
  · rw [show 12 - r = 0 by omega]; rfl
theorem mkRun_step {L : List Int} {W H r k : Nat} {D : List Bool} (h : r < 12 ∧ k < L.length ∧ 0 < W * H) : mkRun L W H (12 - r) (k, D) = mkRun L W H (12 - (r + 1)) (mkStep L W H (k, D)) := by
  rw [show 12 - r = (12 - (r + 1)) + 1 by omega]
  show (if k < L.length ∧ 0 < W * H then mkRun L W H (12 - (r + 1)) (mkStep L W H (k, D)) else (k, D)) = _
  rw [if_pos h.2]

set_option maxHeartbeats 4000000 in
set_option maxRecDepth 100000 in
theorem Made_any (L : List Int) (A : Option Addr) (c : Nat) (w : World) (hn : L.length ≤ 9223372036854775807) (hr : Rd (Value.int .i64) w w.heap.size A L) :
    Calls Try.prog 31 #[.slice A L.length c] w fun e w' =>
      ∃ g : Nat, e = .returned (.agg #[.int .i64 (mkW L), .int .i64 (mkH L), .slice (some ⟨g, 0, none⟩) (mkW L * mkH L) (mkW L * mkH L)]) ∧ w.heap.size ≤ g ∧ g < w'.heap.size ∧ Own Value.bool 4 w' g (mkD L) ∧ Below w.heap.size w w' := by
  have hw17 : dN L 0 17 = (mkW L : Int) := by have := dN_range L 0 (m := 17) (by omega); unfold mkW; omega
  have hh13 : dN L (dAt L 0) 13 = (mkH L : Int) := by have := dN_range L (dAt L 0) (m := 13) (by omega); unfold mkH; omega
  have hWl := mkW_le L
  have hHl := mkH_le L
  have Hr := Lib.hid hr
  have HD := Lib.hid (show mkD L = (mkRun L (mkW L) (mkH L) 12 (dAt L (dAt L 0), List.replicate (mkW L * mkH L) false)).2 from rfl)
  have hk1 := dAt_le (L := L) (k := 0) (by omega)
  have hk2 := dAt_le hk1
  clear hr
  generalize mkW L = m at *
  generalize mkH L = n at *
  have H17 := Lib.hid hw17
  have H13 := Lib.hid hh13
  clear hw17 hh13
  go_enter Try.func31, Try.ntmps31
  go_wp2_with fail
  have hB0 := (Blk.new w 29 #[.int .i64 0, .int .i64 0, .slice none 0 0]).alloc (.cells #[.slice A L.length c, .int .i64 0] 111)
  have hB1 := Blk.new (w.alloc (.cells #[.int .i64 0, .int .i64 0, .slice none 0 0] 29)) 111 #[.slice A L.length c, .int .i64 0]
  rw [World.size_alloc] at hB1
  have hR0 := (Hr.out.alloc (Nat.le_refl _) (.cells #[.int .i64 0, .int .i64 0, .slice none 0 0] 29)).alloc (by simp) (.cells #[.slice A L.length c, .int .i64 0] 111)
  have hW0 := ((Below.refl w.heap.size w).alloc (Nat.le_refl _) (.cells #[.int .i64 0, .int .i64 0, .slice none 0 0] 29)).alloc (by simp) (.cells #[.slice A L.length c, .int .i64 0] 111)
  generalize (w.alloc (.cells #[.int .i64 0, .int .i64 0, .slice none 0 0] 29)).alloc (.cells #[.slice A L.length c, .int .i64 0] 111) = W0 at hB0 hB1 hR0 hW0 ⊢
  generalize hp : w.heap.size = p at *
  have hpW := hB1.lt
  have HR := Lib.hid hR0
  clear hR0 Hr
  refine (Next_blk L A c 0 17 (p + 1) W0 (by omega) (by omega) (by omega) hn (HR.out.more (by omega)) hB1).mono ?_
  rw [H17.out]
  rintro e w1 ⟨rfl, hb1, hk1', hs1⟩
  go_wp2_with fail
  refine (Next_blk L A c (dAt L 0) 13 (p + 1) w1 (by omega) (by omega) (by omega) hn ((hk1'.rd HR.out (by omega) (by simp)).more (by omega)) hb1).mono ?_
  rw [H13.out]
  rintro e w2 ⟨rfl, hb2, hk2', hs2⟩
  go_wp2_with fail
  refine (ref04_New_nat m n w2 (by omega) (by omega)).mono ?_
  rintro e w3 ⟨g, rfl, hg1, hg2, hown, hb3⟩
  go_wp2_with fail
  have hmn : m * n ≤ 192 := Nat.mul_le_mul hWl hHl
  have hq4 := Blk.new w3 29 #[.int .i64 m, .int .i64 n, .slice (some ⟨g, 0, none⟩) (m * n) (m * n)]
  have hk3 : Kp [p + 1] W0 w3 := (hk1'.trans hk2').below hb3
  have hz3 := hb3.size
  have hB0' := (hk3.blk hB0 (by simp)).alloc (.cells #[.int .i64 m, .int .i64 n, .slice (some ⟨g, 0, none⟩) (m * n) (m * n)] 29)
  have hB1' := (hb2.below hb3 hb2.lt).alloc (.cells #[.int .i64 m, .int .i64 n, .slice (some ⟨g, 0, none⟩) (m * n) (m * n)] 29)
  have hown' := hown.alloc (.cells #[.int .i64 m, .int .i64 n, .slice (some ⟨g, 0, none⟩) (m * n) (m * n)] 29)
  have hbw := (hW0.trans (hk3.to_below (B := p) (by omega) (by simp))).alloc (by omega) (.cells #[.int .i64 m, .int .i64 n, .slice (some ⟨g, 0, none⟩) (m * n) (m * n)] 29)
  have hrd := Lib.hid ((HR.out.below (hk3.to_below (B := p) (by omega) (by simp)) (by omega)).alloc (by omega) (.cells #[.int .i64 m, .int .i64 n, .slice (some ⟨g, 0, none⟩) (m * n) (m * n)] 29))
  have hsz : w3.heap.size < (w3.alloc (.cells #[.int .i64 m, .int .i64 n, .slice (some ⟨g, 0, none⟩) (m * n) (m * n)] 29)).heap.size := by simp
  generalize w3.alloc (.cells #[.int .i64 m, .int .i64 n, .slice (some ⟨g, 0, none⟩) (m * n) (m * n)] 29) = W4 at hq4 hB0' hB1' hown' hbw hrd hsz ⊢
  generalize hq : w3.heap.size = q at *
  have hgq : g < q := by omega
  have hpg : p + 1 < g := by omega
  have HP := Lib.hid hp
  clear hp hB0 hB1 hW0 hk1' hb1 hs1 hk2' hb2 hs2 hown hb3 hk3 hz3 HR hg1 hg2 hpW
  go_loopw [6] (fun kk wr => ∃ (r k : Nat) (D : List Bool), r ≤ 12 ∧ kk = .int .i64 r ∧ k ≤ L.length ∧ D.length = m * n ∧ Hid ((mkRun L m n (12 - r) (k, D)).2 = mkD L) ∧ Kp [p + 1, g] W4 wr ∧ Blk wr (p + 1) 111 #[.slice A L.length c, .int .i64 k] ∧ Own Value.bool 4 wr g D) (fun kk _ => 12 - (intOf kk).toNat)
  case atStart => exact ⟨0, dAt L (dAt L 0), _, by omega, rfl, hk2, by simp, Lib.hid HD.out.symm, Kp.refl _ _, hB1', hown'⟩
  case round =>
    obtain ⟨r, k, D, hr12, rfl, hkl, hDl, HM, hkp, hbd, how⟩ := hrel
    clear hB1' hown' HD
    have hq' := hkp.blk hq4 (by simp; omega)
    have hp' := hkp.blk hB0' (by simp; omega)
    obtain ⟨⟨c0, c1⟩, _⟩ := hbd.two
    obtain ⟨⟨d0, d1, d2⟩, _⟩ := hq'.three
    by_cases hall : r < 12 ∧ k < L.length ∧ 0 < m * n
    · have hst := Lib.hid (mkRun_step (D := D) hall)
      obtain ⟨hr1, hk1, hmn0⟩ := hall
      have hm0 : 0 < m := Nat.pos_of_mul_pos_right hmn0
      have hn0 : 0 < n := Nat.pos_of_mul_pos_left hmn0
      obtain ⟨x, hx⟩ := Int.eq_ofNat_of_zero_le (dN_range L k (m := (m : Int)) (by omega)).1
      obtain ⟨y, hy⟩ := Int.eq_ofNat_of_zero_le (dN_range L (dAt L k) (m := (n : Int)) (by omega)).1
      obtain ⟨z, hz⟩ := Int.eq_ofNat_of_zero_le (dN_range L (dAt L (dAt L k)) (m := 16) (by omega)).1
      obtain ⟨v, hv⟩ := Int.eq_ofNat_of_zero_le (dN_range L (dAt L (dAt L (dAt L k))) (m := 4) (by omega)).1
      have hxm : x < m := by have := (dN_range L k (m := (m : Int)) (by omega)).2; omega
      have hyn : y < n := by have := (dN_range L (dAt L k) (m := (n : Int)) (by omega)).2; omega
      have hz16 : z < 16 := by have := (dN_range L (dAt L (dAt L k)) (m := 16) (by omega)).2; omega
      have hsp := Lib.hid (show mkStep L m n (k, D) = (dAt L (dAt L (dAt L (dAt L k))), rect m n x y z (decide (0 < v)) D) by simp [mkStep, hx, hy, hz, hv])
      have Hx := Lib.hid hx
      have Hy := Lib.hid hy
      have Hz := Lib.hid hz
      have Hv := Lib.hid hv
      have hka := dAt_le hkl
      have hkb := dAt_le hka
      have hkc := dAt_le hkb
      have hkd := dAt_le hkc
      clear hx hy hz hv
      have hmnl : (0 : Int) < ((m * n : Nat) : Int) := by omega
      go_wp2_with fail
      refine (Next_blk L A c k m (p + 1) _ (by omega) (by omega) hkl hn ((hkp.rd hrd.out (by omega) (by simp; omega)).more (by omega)) hbd).mono ?_
      rw [Hx.out]
      rintro e w5 ⟨rfl, hb5, hk5, hs5⟩
      have hkp5 := hkp.trans (hk5.more (by simp))
      obtain ⟨⟨d0, d1, d2⟩, _⟩ := (hkp5.blk hq4 (by simp; omega)).three
      go_wp2_with fail
      refine (Next_blk L A c _ n (p + 1) _ (by omega) (by omega) hka hn ((hkp5.rd hrd.out (by omega) (by simp; omega)).more (by omega)) hb5).mono ?_
      rw [Hy.out]
      rintro e w6 ⟨rfl, hb6, hk6, hs6⟩
      have hkp6 := hkp5.trans (hk6.more (by simp))
      go_wp2_with fail
      refine (Next_blk L A c _ 16 (p + 1) _ (by omega) (by omega) hkb hn ((hkp6.rd hrd.out (by omega) (by simp; omega)).more (by omega)) hb6).mono ?_
      rw [Hz.out]
      rintro e w7 ⟨rfl, hb7, hk7, hs7⟩
      have hkp7 := hkp6.trans (hk7.more (by simp))
      go_wp2_with fail
      refine (Next_blk L A c _ 4 (p + 1) _ (by omega) (by omega) hkc hn ((hkp7.rd hrd.out (by omega) (by simp; omega)).more (by omega)) hb7).mono ?_
      rw [Hv.out]
      rintro e w8 ⟨rfl, hb8, hk8, hs8⟩
      have hkp8 := hkp7.trans (hk8.more (by simp))
      have how8 := hk8.own (hk7.own (hk6.own (hk5.own how (by simp; omega)) (by simp; omega)) (by simp; omega)) (by simp; omega)
      clear hkp hkp5 hkp6 hkp7 hb5 hb6 hb7 hk5 hk6 hk7 hk8 hbd how c0 c1 d0 d1 d2 hq' hp'
      go_wp2_with fail
      go_loopw [11, 12] (fun ii jj wr => ∃ t : Nat, t ≤ min (m - x) (z % 4 + 1) ∧ ii = .int .i64 ((x : Int) + t) ∧ Kp [p + 1, g] W4 wr ∧ Blk wr (p + 1) 111 #[.slice A L.length c, .int .i64 (dAt L (dAt L (dAt L (dAt L k))))] ∧ Own Value.bool 4 wr g (rowN m x y (decide (0 < v)) (min (n - y) (z / 4 + 1)) t D)) (fun ii _ _ => m + 1 - (intOf ii).toNat)
      case atStart => exact ⟨0, Nat.zero_le _, by simp, hkp8, hb8, how8⟩
      case round =>
        obtain ⟨t, ht, rfl, hkp, hbd, how⟩ := hrel
        have hq' := hkp.blk hq4 (by simp; omega)
        obtain ⟨⟨d0, d1, d2⟩, _⟩ := hq'.three
        clear hkp8 hb8 how8
        by_cases htl : t < min (m - x) (z % 4 + 1)
        · have g1 : (x : Int) + (t : Int) < (m : Int) := by omega
          have g2 : (x : Int) + (t : Int) ≤ (x : Int) + (z : Int) % 4 := by omega
          go_wp2_with fail
          go_loopw [12] (fun jj wr => ∃ u : Nat, u ≤ min (n - y) (z / 4 + 1) ∧ jj = .int .i64 ((y : Int) + u) ∧ Kp [p + 1, g] W4 wr ∧ Blk wr (p + 1) 111 #[.slice A L.length c, .int .i64 (dAt L (dAt L (dAt L (dAt L k))))] ∧ Own Value.bool 4 wr g (colN m (x + t) y (decide (0 < v)) u (rowN m x y (decide (0 < v)) (min (n - y) (z / 4 + 1)) t D))) (fun jj _ => n + 1 - (intOf jj).toNat)
          case atStart => exact ⟨0, Nat.zero_le _, by simp, hkp, hbd, how⟩
          case round =>
            clear hkp hbd how
            obtain ⟨u, hu, rfl, hkp, hbd, how⟩ := hrel
            obtain ⟨⟨d0, d1, d2⟩, _⟩ := (hkp.blk hq4 (by simp; omega)).three
            by_cases hul : u < min (n - y) (z / 4 + 1)
            · have g3 : (y : Int) + (u : Int) < (n : Int) := by omega
              have g4 : (y : Int) + (u : Int) ≤ (y : Int) + (z : Int) / 4 := by omega
              obtain ⟨hi1, hi2, hi3⟩ := row_int (k := y + u) (i := x + t) (m := m) (n := n) (by omega) (by omega)
              rw [Int.natCast_add, Int.natCast_add] at hi2 hi3
              rw [Int.natCast_add] at hi1
              have hlt2 := row_lt (k := y + u) (i := x + t) (m := m) (n := n) (by omega) (by omega)
              have hc4 := how.cell (k := (y + u) * m + (x + t)) (by rw [colN_len, rowN_len, hDl]; exact hlt2)
              have hf4 := how.frozen ((y + u) * m + (x + t))
              have hs4 := Lib.hid (how.set_ ((y + u) * m + (x + t)) (decide (0 < v)))
              have e3 : (((y : Int) + u) * (m : Int) + ((x : Int) + t)).toNat = (y + u) * m + (x + t) := by rw [← Int.natCast_add, ← Int.natCast_add, ← Int.natCast_mul, ← Int.natCast_add]; exact Int.toNat_natCast _
              generalize (colN m (x + t) y (decide (0 < v)) u (rowN m x y (decide (0 < v)) (min (n - y) (z / 4 + 1)) t D))[(y + u) * m + (x + t)]'(by rw [colN_len, rowN_len, hDl]; exact hlt2) = old at hc4
              go_wp2_with fail
              go_roundw
              case rel => exact ⟨u + 1, by omega, by rw [Int.natCast_add]; go_num, hkp.set (.inl (by simp)) _ _, hbd.far (by simp; omega) _, hs4.out⟩
              case measure => simp [intOf]; omega
            · have hue : u = min (n - y) (z / 4 + 1) := by omega
              have how2 := how
              rw [hue] at how2
              have hue := Lib.hid hue
              by_cases h5 : (y : Int) + (u : Int) < (n : Int)
              · have h6 : (y : Int) + (z : Int) / 4 < (y : Int) + (u : Int) := by have := hue.out; omega
                go_wp2_with fail
                go_roundw
                case rel => exact ⟨t + 1, by omega, by rw [Int.natCast_add]; go_num, hkp, hbd, how2⟩
                case measure => simp [intOf]; omega
              · go_wp2_with fail
                go_roundw
                case rel => exact ⟨t + 1, by omega, by rw [Int.natCast_add]; go_num, hkp, hbd, how2⟩
                case measure => simp [intOf]; omega
        · have hte : t = min (m - x) (z % 4 + 1) := by omega
          have how2 := how
          rw [hte] at how2
          have hte := Lib.hid hte
          by_cases h5 : (x : Int) + (t : Int) < (m : Int)
          · have h6 : (x : Int) + (z : Int) % 4 < (x : Int) + (t : Int) := by have := hte.out; omega
            go_wp2_with fail
            go_roundw
            case rel =>
              refine ⟨r + 1, dAt L (dAt L (dAt L (dAt L k))), rect m n x y z (decide (0 < v)) D, by omega, by go_num, hkd, by rw [rect_len]; exact hDl, ?_, hkp, hbd, how2⟩
              have hM := HM.out
              rw [hst.out, hsp.out] at hM
              exact Lib.hid hM
            case measure => simp [intOf]; omega
          · go_wp2_with fail
            go_roundw
            case rel =>
              refine ⟨r + 1, dAt L (dAt L (dAt L (dAt L k))), rect m n x y z (decide (0 < v)) D, by omega, by go_num, hkd, by rw [rect_len]; exact hDl, ?_, hkp, hbd, how2⟩
              have hM := HM.out
              rw [hst.out, hsp.out] at hM
              exact Lib.hid hM
            case measure => simp [intOf]; omega
    · have hst := Lib.hid (mkRun_stop (L := L) (W := m) (H := n) (D := D) hall)
      have hw : ¬ r < 12 ∨ (r < 12 ∧ ¬ k < L.length) ∨ (r < 12 ∧ k < L.length ∧ ¬ 0 < m * n) := by omega
      clear hall
      obtain ⟨⟨e0, e1, e2⟩, f0, f1, f2⟩ := hp'.three
      rcases hw with h1 | ⟨h1, h2⟩ | ⟨h1, h2, h3⟩
      all_goals
        go_wp2
        refine bodyPost_ret (v := .agg #[.int .i64 m, .int .i64 n, .slice (some ⟨g, 0, none⟩) (m * n) (m * n)]) (by simp [results, Try.results31, go_sem, e0, e1, e2]) rfl ⟨g, rfl, by have := HP.out; omega, ?_, ?_, ?_⟩
        · have := how.lt; simpa using this
        · have he := HM.out
          rw [hst.out] at he
          rw [← he]
          exact ((how.far (by simp; omega) _).far (by simp; omega) _).far (by simp; omega) _
        · have hb9 := hbw.trans (hkp.to_below (B := p) (by omega) (by simp; omega))
          rw [HP.out]
          exact below_set (below_set (below_set hb9 (by omega) _) (by omega) _) (by omega) _
end Go.Proofs.Ytlanefdeeanpnaa
