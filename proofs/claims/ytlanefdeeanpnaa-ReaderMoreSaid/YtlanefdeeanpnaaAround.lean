/-
  Contract of around of layer 21's reference: the dots in a square. Conditions: a well-formed bitmap, a dot of it, a blur of at most 2.
-/
import Derived.Test.YtlanefdeeanpnaaPre
import Derived.Deep.DeepCutAuto
namespace Go.Proofs.Ytlanefdeeanpnaa
set_option linter.unusedVariables false
set_option linter.unusedSimpArgs false
open Go.RowKit

theorem box_small (W : Nat) (D : List Bool) (l n lo hi : Nat) (h : lo ≤ hi) (hn : n ≤ 96) (hh : hi ≤ 96) : 0 ≤ box W D l (l + n) lo hi ∧ box W D l (l + n) lo hi ≤ 9216 := by
  have h1 := box_bd W D l n lo hi h
  have h2 : n * hi ≤ 9216 := Nat.mul_le_mul hn hh
  have h3 : ((n : Int) * (hi : Int)) ≤ 9216 := by rw [← Int.natCast_mul]; omega
  omega
theorem dot_true {W : Nat} {D : List Bool} {i j : Nat} (h : j * W + i < D.length) (hd : D[j * W + i] = true) : dotN W D i j = 1 := by simp [dotN, h, hd]
theorem dot_false {W : Nat} {D : List Bool} {i j : Nat} (h : j * W + i < D.length) (hd : D[j * W + i] = false) : dotN W D i j = 0 := by simp [dotN, h, hd]
theorem max0 (x b : Nat) : max 0 ((x : Int) - (b : Int)) = ((x - b : Nat) : Int) := by omega

set_option maxHeartbeats 1000000 in
set_option maxRecDepth 100000 in
theorem around_any (m n : Nat) (A : Option Addr) (c : Nat) (D : List Bool) (x y b : Nat) (w : World) (hm : m ≤ 96) (hn : n ≤ 96) (hD : D.length = m * n) (hx : x < m) (hy : y < n) (hb : b ≤ 2) (hr : Rd Value.bool w w.heap.size A D) :
    Calls Try.prog 70 #[.agg #[.int .i64 m, .int .i64 n, .slice A (m * n) c], .int .i64 x, .int .i64 y, .int .i64 b] w fun e w' => e = .returned (.int .i64 (sqN m n D x y b)) ∧ Below w.heap.size w w' := by
  have hl : 0 < D.length := by rw [hD]; exact Nat.mul_pos (by omega) (by omega)
  obtain ⟨bb, o, rfl, hbb, hc⟩ := hr hl
  have HC := Lib.hid hc
  have HDl := Lib.hid hD
  have hmx := max0 x b
  have hmy := max0 y b
  have hmn : m * n ≤ 9216 := Nat.mul_le_mul hm hn
  clear hr hc hD hl
  have hL : x - b ≤ min m (x + b + 1) := by omega
  have hLo : y - b ≤ min n (y + b + 1) := by omega
  go_enter Try.func70, Try.ntmps70
  go_upto_region 2 with fail
  have hq := Blk.new w 29 #[.int .i64 m, .int .i64 n, .slice (some ⟨bb, o, none⟩) (m * n) c]
  have hbw := (Below.refl w.heap.size w).alloc (Nat.le_refl _) (.cells #[.int .i64 m, .int .i64 n, .slice (some ⟨bb, o, none⟩) (m * n) c] 29)
  have HC1 := Lib.hid (show ∀ k (h : k < D.length), (w.alloc (.cells #[.int .i64 m, .int .i64 n, .slice (some ⟨bb, o, none⟩) (m * n) c] 29)).cell? ⟨bb, o + k, none⟩ = some (.bool D[k]) from fun k h => (World.cell?_alloc_lt w _ ⟨bb, o + k, none⟩ hbb).trans (HC.out k h))
  generalize w.alloc (.cells #[.int .i64 m, .int .i64 n, .slice (some ⟨bb, o, none⟩) (m * n) c] 29) = W0 at hq hbw HC1 ⊢
  generalize hp : w.heap.size = p at *
  obtain ⟨⟨d0, d1, d2⟩, _⟩ := hq.three
  clear HC
  go_wp2
  all_goals
    go_loop [9, 10, 11] (fun nn ii jj => ∃ t : Nat, x - b + t ≤ min m (x + b + 1) ∧ ii = .int .i64 ((x - b + t : Nat) : Int) ∧ nn = .int .i64 (box m D (x - b) (x - b + t) (y - b) (min n (y + b + 1)))) (fun _ ii _ => m + 1 - (intOf ii).toNat)
    case atStart => exact ⟨0, by omega, by go_num, by rw [Nat.add_zero, box_zero]⟩
    case round =>
      obtain ⟨t, ht, rfl, rfl⟩ := hrel
      by_cases htl : x - b + t < min m (x + b + 1)
      · have g1 : ((x - b + t : Nat) : Int) ≤ (x : Int) + (b : Int) := by omega
        have g2 : ((x - b + t : Nat) : Int) < (m : Int) := by omega
        generalize hi : x - b + t = i at *
        have hbd := box_small m D (x - b) t (y - b) (min n (y + b + 1)) hLo (by omega) (by omega)
        rw [hi] at hbd
        have hbs := Lib.hid (box_step m D (x - b) i (y - b) (min n (y + b + 1)))
        have HI := Lib.hid hi
        clear hi
        generalize hB : box m D (x - b) i (y - b) (min n (y + b + 1)) = B0 at *
        clear hB
        have hc0 := csum_bd m D i (y - b)
        generalize hC0 : csum m D i (y - b) = C0 at *
        have HC0 := Lib.hid hC0
        clear hC0
        go_wp2
        all_goals
          go_loop [9, 11] (fun nn jj => ∃ u : Nat, y - b + u ≤ min n (y + b + 1) ∧ jj = .int .i64 ((y - b + u : Nat) : Int) ∧ nn = .int .i64 (B0 + (csum m D i (y - b + u) - C0))) (fun _ jj => n + 1 - (intOf jj).toNat)
          case atStart => exact ⟨0, by omega, by go_num, by rw [Nat.add_zero, HC0.out]; go_num⟩
          case round =>
            obtain ⟨u, hu, rfl, rfl⟩ := hrel
            by_cases hul : y - b + u < min n (y + b + 1)
            · have g3 : ((y - b + u : Nat) : Int) ≤ (y : Int) + (b : Int) := by omega
              have g4 : ((y - b + u : Nat) : Int) < (n : Int) := by omega
              generalize hj : y - b + u = j at *
              have HJ := Lib.hid hj
              clear hj
              obtain ⟨hi1, hi2, hi3⟩ := row_int (k := j) (i := i) (m := m) (n := n) (by omega) (by omega)
              have hlt2 := row_lt (k := j) (i := i) (m := m) (n := n) (by omega) (by omega)
              have hlD : j * m + i < D.length := by rw [HDl.out]; exact hlt2
              have hc4 := HC1.out (j * m + i) hlD
              have ht1 := Lib.hid (@dot_true m D i j hlD)
              have ht0 := Lib.hid (@dot_false m D i j hlD)
              have hcs := Lib.hid (show csum m D i (j + 1) = csum m D i j + dotN m D i j from rfl)
              have hcb := csum_bd m D i j
              generalize D[j * m + i] = dd at hc4 ht1 ht0
              generalize csum m D i j = Cj at *
              clear hlD
              have e : y - b + (u + 1) = j + 1 := by have := HJ.out; omega
              have e1 := Lib.hid (show y - b + (u + 1) ≤ min n (y + b + 1) by omega)
              go_wp2
              all_goals
                go_round
                case rel =>
                  refine ⟨u + 1, e1.out, by rw [e]; go_num, ?_⟩
                  rw [e, hcs.out]
                  first
                    | (rw [ht1.out (by assumption)]; go_num)
                    | (rw [ht0.out (by assumption)]; go_num)
                case measure => simp [intOf]; omega
            · have hue : y - b + u = min n (y + b + 1) := by omega
              rw [hue]
              have Hue := Lib.hid hue
              clear hue
              generalize hj : min n (y + b + 1) = j at *
              have HJ := Lib.hid hj
              clear hj
              have e : x - b + (t + 1) = i + 1 := by have := HI.out; omega
              have e1 := Lib.hid (show x - b + (t + 1) ≤ min m (x + b + 1) by omega)
              generalize csum m D i j = Cj at *
              by_cases g3 : (j : Int) ≤ (y : Int) + (b : Int)
              · have g4 : (n : Int) ≤ (j : Int) := by have := HJ.out; omega
                go_wp2
                go_round
                case rel =>
                  refine ⟨t + 1, e1.out, by rw [e]; go_num, ?_⟩
                  rw [e, HJ.out, hbs.out]
                case measure => simp [intOf]; omega
              · go_wp2
                go_round
                case rel =>
                  refine ⟨t + 1, e1.out, by rw [e]; go_num, ?_⟩
                  rw [e, HJ.out, hbs.out]
                case measure => simp [intOf]; omega
      · have hte : x - b + t = min m (x + b + 1) := by omega
        rw [hte]
        have HV := Lib.hid (show sqN m n D x y b = box m D (x - b) (min m (x + b + 1)) (y - b) (min n (y + b + 1)) from rfl)
        generalize box m D (x - b) (min m (x + b + 1)) (y - b) (min n (y + b + 1)) = B0 at *
        have Hte := Lib.hid hte
        clear hte
        generalize hi : min m (x + b + 1) = i at *
        have HI := Lib.hid hi
        clear hi
        by_cases g3 : (i : Int) ≤ (x : Int) + (b : Int)
        · have g4 : (m : Int) ≤ (i : Int) := by have := HI.out; omega
          go_wp2
          go_ret
          exact ⟨ret_int HV.out.symm, hbw⟩
        · go_wp2
          go_ret
          exact ⟨ret_int HV.out.symm, hbw⟩
end Go.Proofs.Ytlanefdeeanpnaa
