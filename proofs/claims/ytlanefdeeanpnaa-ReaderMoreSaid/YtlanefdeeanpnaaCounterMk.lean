/-
  Contract of the reader's counter: the function that it returns, and what that function looks at. Conditions: a well-formed bitmap with at least one dot, a blur of at most 2.
-/
import Derived.Test.YtlanefdeeanpnaaCounter
import Derived.Laws.EntriesVeiled
namespace Go.Proofs.Ytlanefdeeanpnaa
set_option linter.unusedVariables false
set_option linter.unusedSimpArgs false
open Go.RowKit
attribute [local go_sem ↓] Go.wp_at_zero Go.wp_at_succ

theorem sums_len (m n : Nat) : (m + 1) * (n + 1) ≤ 97 * 97 ∨ 96 < m ∨ 96 < n := by
  by_cases h1 : 96 < m
  · exact .inr (.inl h1)
  · by_cases h2 : 96 < n
    · exact .inr (.inr h2)
    · exact .inl (Nat.mul_le_mul (by omega) (by omega))
theorem rep_ints (N : Nat) : (List.replicate N (0 : Int)).map (Value.int .i64) = List.replicate N (.int .i64 0) := by simp

/-- What a round of the counter's inner loop reads. -/
theorem ct_S {W0 w' : World} {pb ps gs : Nat} {m n : Nat} {s1 : Value} {N i0 : Nat} {v : Int} (hB : Blk W0 pb 29 #[.int .i64 m, .int .i64 n, s1]) (hs : Blk W0 ps 22 #[.slice (some ⟨gs, 0, none⟩) N N]) (h1 : pb ≠ gs) (h2 : ps ≠ gs)
    (hk : Kp [gs] W0 w') (hc : w'.cell? ⟨gs, i0, none⟩ = some (.int .i64 v)) :
    w'.cell? ⟨ps, 0, none⟩ = some (.slice (some ⟨gs, 0, none⟩) N N) ∧ w'.cell? ⟨pb, 0, none⟩ = some (.int .i64 m) ∧ w'.cell? ⟨gs, i0, none⟩ = some (.int .i64 v) :=
  ⟨(hk.blk hs (by simpa using h2)).cell 0, (hk.blk hB (by simpa using h1)).cell 0, hc⟩

theorem idx_new {m n k t : Nat} (hk : k < n) (ht : t < m) (hm : m ≤ 96) (hn : n ≤ 96) :
    (0 : Int) ≤ ((k : Int) + 1) * ((m : Int) + 1) ∧ ((k : Int) + 1) * ((m : Int) + 1) ≤ 10000 ∧ ((k : Int) + 1) * ((m : Int) + 1) + (t : Int) + 1 < (((m + 1) * (n + 1) : Nat) : Int) ∧ (((k : Int) + 1) * ((m : Int) + 1) + (t : Int) + 1).toNat = (k + 1) * (m + 1) + (t + 1) := by
  have h := idx_facts (m := m) (n := n) (k := k + 1) (i := t + 1) (by omega) (by omega) hm hn
  have e1 : ((k + 1 : Nat) : Int) = (k : Int) + 1 := by omega
  have e2 : ((t + 1 : Nat) : Int) = (t : Int) + 1 := by omega
  rw [e1, e2, ← Int.add_assoc] at h
  exact h
theorem idx_old {m n k t : Nat} (hk : k < n) (ht : t < m) (hm : m ≤ 96) (hn : n ≤ 96) :
    (0 : Int) ≤ (k : Int) * ((m : Int) + 1) ∧ (k : Int) * ((m : Int) + 1) ≤ 10000 ∧ (k : Int) * ((m : Int) + 1) + (t : Int) + 1 < (((m + 1) * (n + 1) : Nat) : Int) ∧ ((k : Int) * ((m : Int) + 1) + (t : Int) + 1).toNat = k * (m + 1) + (t + 1) := by
  have h := idx_facts (m := m) (n := n) (k := k) (i := t + 1) (by omega) (by omega) hm hn
  have e2 : ((t + 1 : Nat) : Int) = (t : Int) + 1 := by omega
  rw [e2, ← Int.add_assoc] at h
  exact h
theorem idx_lt_T {m k t : Nat} (ht : t < m) : k * (m + 1) + (t + 1) < (k + 1) * (m + 1) + (t + 1) := by
  have : (k + 1) * (m + 1) = k * (m + 1) + (m + 1) := by rw [Nat.add_mul, Nat.one_mul]
  omega
theorem rsum_true {m k t : Nat} {D : List Bool} (h : k * m + t < D.length) (hd : D[k * m + t] = true) : rsum m D k (t + 1) = rsum m D k t + 1 := by simp [rsum, dotN, h, hd]
theorem rsum_false {m k t : Nat} {D : List Bool} (h : k * m + t < D.length) (hd : D[k * m + t] = false) : rsum m D k (t + 1) = rsum m D k t := by simp [rsum, dotN, h, hd]

set_option maxHeartbeats 2000000 in
set_option maxRecDepth 100000 in
theorem counter_any (m n : Nat) (A : Option Addr) (c : Nat) (D : List Bool) (b : Nat) (w : World) (hm : m ≤ 96) (hn : n ≤ 96) (hb : b ≤ 2) (hD : D.length = m * n) (hr : Rd Value.bool w w.heap.size A D) :
    Calls Try.prog 68 #[.agg #[.int .i64 m, .int .i64 n, .slice A (m * n) c], .int .i64 b] w fun e w' => ∃ pb ps gs pu pf : Nat, e = .returned (.func (.func 102) #[] #[.pointer (some ⟨pu, 0, none⟩), .pointer (some ⟨pf, 0, none⟩)]) ∧
      CtEnv w' pb ps gs m n (.slice A (m * n) c) D ∧ Blk w' pu 3 #[.int .i64 b] ∧ Blk w' pf 69 #[.func (.func 101) #[] #[.pointer (some ⟨ps, 0, none⟩), .pointer (some ⟨pb, 0, none⟩)]] ∧ Below w.heap.size w w' ∧
      w.heap.size ≤ pb ∧ w.heap.size ≤ ps ∧ w.heap.size ≤ gs ∧ w.heap.size ≤ pu ∧ w.heap.size ≤ pf := by
  have HC := Lib.hid hr
  have HDl := Lib.hid hD
  clear hr hD
  have hN : (m + 1) * (n + 1) ≤ 97 * 97 := by have := sums_len m n; omega
  have hmn : m * n ≤ 96 * 96 := Nat.mul_le_mul hm hn
  have hNi : ((m : Int) + 1) * ((n : Int) + 1) = (((m + 1) * (n + 1) : Nat) : Int) := by rw [Int.natCast_mul]; rfl
  have hmk : ∀ w, (Instr.makeSlice 22 (.int .i64 (((m : Int) + 1) * ((n : Int) + 1))) (.int .i64 (((m : Int) + 1) * ((n : Int) + 1)))).run Try.prog w = .ok (.slice (some ⟨w.heap.size, 0, none⟩) ((m + 1) * (n + 1)) ((m + 1) * (n + 1))) (w.alloc (.cells (List.replicate ((m + 1) * (n + 1)) (.int .i64 0)).toArray 3)) := by
    intro w
    have := mk_run (P := Try.prog) 22 3 (.int .i64 0) 8 Try.underlying22 info_int rfl (((m : Int) + 1) * ((n : Int) + 1)) (by rw [hNi]; omega) (by rw [hNi]; omega) (by rw [hNi]; omega) w
    rw [hNi, Int.toNat_natCast] at this
    rw [hNi]
    exact this
  have hNb : ((m : Int) + 1) * ((n : Int) + 1) ≤ 9409 ∧ 0 ≤ ((m : Int) + 1) * ((n : Int) + 1) := by rw [hNi]; omega
  have HNi := Lib.hid hNi
  clear hNi
  go_enter Try.func68, Try.ntmps68
  go_wp2
  refine wp_world (fun W0 hW0 => ?_)
  obtain ⟨hB, hU, hG, hS, hbw, hsz⟩ := new4 hW0
  have HC1 := Lib.hid (HC.out.below hbw (Nat.le_refl _))
  have hO : Own (Value.int .i64) 3 W0 (w.heap.size + 1 + 1) (sumsP m D ((m + 1) * (n + 1)) ((0 + 1) * (m + 1) + (0 + 1))) := by
    have e : (0 + 1) * (m + 1) + (0 + 1) = m + 2 := by omega
    rw [e, sumsP_start]
    unfold Own
    rw [rep_ints]
    simpa [Blk] using hG
  clear hW0 hmk hG HC
  generalize hp : w.heap.size = p at *
  have HP := Lib.hid hp
  clear hp
  generalize hNN : (m + 1) * (n + 1) = N at *
  have HN := Lib.hid hNN
  clear hNN
  go_loopw [20] (fun yy wr => ∃ k : Nat, k ≤ n ∧ yy = .int .i64 k ∧ Kp [p + 1 + 1] W0 wr ∧ Own (Value.int .i64) 3 wr (p + 1 + 1) (sumsP m D N ((k + 1) * (m + 1) + (0 + 1)))) (fun yy _ => n - (intOf yy).toNat)
  case atStart => exact ⟨0, Nat.zero_le _, rfl, Kp.refl _ _, hO⟩
  case round =>
    clear hO
    obtain ⟨k, hk, rfl, hkp, how⟩ := hrel
    obtain ⟨⟨d0, d1, d2⟩, _⟩ := (hkp.blk hB (ni1 (by omega))).three
    by_cases hlt : k < n
    · go_wp2
      go_loopw [7, 25] (fun rr xx wr => ∃ t : Nat, t ≤ m ∧ xx = .int .i64 t ∧ rr = .int .i64 (rsum m D k t) ∧ Kp [p + 1 + 1] W0 wr ∧ Own (Value.int .i64) 3 wr (p + 1 + 1) (sumsP m D N ((k + 1) * (m + 1) + (t + 1)))) (fun _ xx _ => m - (intOf xx).toNat)
      case atStart => exact ⟨0, Nat.zero_le _, rfl, rfl, hkp, how⟩
      case round =>
        clear hkp how d0 d1 d2
        obtain ⟨t, ht, rfl, rfl, hkp, how⟩ := hrel
        obtain ⟨⟨d0, d1, d2⟩, _⟩ := (hkp.blk hB (ni1 (by omega))).three
        by_cases hti : t < m
        · have hlD : k * m + t < D.length := by rw [HDl.out]; exact row_lt hlt hti
          obtain ⟨bb, o, rfl, hbb, hcc⟩ := HC1.out (by omega)
          have hcd := (hkp.cell (by omega) (ni1 (by omega))).trans (hcc (k * m + t) hlD)
          clear hcc
          have hrt := Lib.hid (@rsum_true m k t D hlD)
          have hrf := Lib.hid (@rsum_false m k t D hlD)
          obtain ⟨j1, j2, j3⟩ := row_int hlt hti
          obtain ⟨i1, i2, i3, i4⟩ := idx_new hlt hti hm hn
          obtain ⟨o1, o2, o3, o4⟩ := idx_old hlt hti hm hn
          rw [HN.out] at i3 o3
          have hiT := row_lt (m := m + 1) (n := n + 1) (k := k + 1) (i := t + 1) (by omega) (by omega)
          have hoT := row_lt (m := m + 1) (n := n + 1) (k := k) (i := t + 1) (by omega) (by omega)
          rw [HN.out] at hiT hoT
          have hold := how.cell (k := k * (m + 1) + (t + 1)) (by rw [sumsP_len]; exact hoT)
          rw [sumsP_at _ _ _ _ _ hoT (idx_lt_T hti), row_mod (by omega), row_div (by omega)] at hold
          have hnew := how.cell (k := (k + 1) * (m + 1) + (t + 1)) (by rw [sumsP_len]; exact hiT)
          have hfn := how.frozen ((k + 1) * (m + 1) + (t + 1))
          have hset := Lib.hid (fun v h => (how.set_ ((k + 1) * (m + 1) + (t + 1)) v : Own (Value.int .i64) 3 _ _ _) |> fun x => (sumsP_set m D N ((k + 1) * (m + 1) + (t + 1)) v h) ▸ x)
          have hps := pre_small m D (x := t + 1) (y := k) (by omega) (by omega)
          have hrb := rsum_bd m D k t
          have hrb1 := rsum_bd m D k (t + 1)
          have hpr := Lib.hid (pre_row m D (t + 1) k)
          generalize (sumsP m D N ((k + 1) * (m + 1) + (t + 1)))[(k + 1) * (m + 1) + (t + 1)]'(by rw [sumsP_len]; exact hiT) = old at hnew
          generalize pre m D (t + 1) k = P0 at *
          have HO := Lib.hid how
          clear how
          cases hdd : D[k * m + t]
          all_goals
            first
              | (have hR := hrt.out hdd; clear hrf)
              | (have hR := hrf.out hdd; clear hrt)
            rw [hdd] at hcd
            have HR := Lib.hid hR
            clear hR hdd
            go_wp2
            have w1 : IntKind.i64.wrap ((k : Int) + 1) = (k : Int) + 1 := IntWalk.i64_in _ (by omega)
            have w2 : IntKind.i64.wrap ((m : Int) + 1) = (m : Int) + 1 := IntWalk.i64_in _ (by omega)
            have w3 : IntKind.i64.wrap (((k : Int) + 1) * ((m : Int) + 1)) = ((k : Int) + 1) * ((m : Int) + 1) := IntWalk.i64_in _ (by omega)
            have w4 : IntKind.i64.wrap (((k : Int) + 1) * ((m : Int) + 1) + (t : Int)) = ((k : Int) + 1) * ((m : Int) + 1) + (t : Int) := IntWalk.i64_in _ (by omega)
            have w5 : IntKind.i64.wrap (((k : Int) + 1) * ((m : Int) + 1) + (t : Int) + 1) = ((k : Int) + 1) * ((m : Int) + 1) + (t : Int) + 1 := IntWalk.i64_in _ (by omega)
            have w6 : IntKind.i64.wrap ((k : Int) * ((m : Int) + 1)) = (k : Int) * ((m : Int) + 1) := IntWalk.i64_in _ (by omega)
            have w7 : IntKind.i64.wrap ((k : Int) * ((m : Int) + 1) + (t : Int)) = (k : Int) * ((m : Int) + 1) + (t : Int) := IntWalk.i64_in _ (by omega)
            have w8 : IntKind.i64.wrap ((k : Int) * ((m : Int) + 1) + (t : Int) + 1) = (k : Int) * ((m : Int) + 1) + (t : Int) + 1 := IntWalk.i64_in _ (by omega)
            have p5 : (0 : Int) ≤ ((k : Int) + 1) * ((m : Int) + 1) + (t : Int) + 1 := by omega
            have p8 : (0 : Int) ≤ (k : Int) * ((m : Int) + 1) + (t : Int) + 1 := by omega
            refine wp_region_T 24 (fun w' => w'.cell? ⟨p + 1 + 1 + 1, 0, none⟩ = some (.slice (some ⟨p + 1 + 1, 0, none⟩) N N) ∧ w'.cell? ⟨p, 0, none⟩ = some (.int .i64 m) ∧ w'.cell? ⟨p + 1 + 1, k * (m + 1) + (t + 1), none⟩ = some (.int .i64 P0)) (by kernel_rfl) ?_ (fun hS => ?_)
            · (try dsimp only)
              exact ct_S hB hS (by omega) (by omega) hkp.drew hold
            (try dsimp only at hS)
            refine wpT_take 0 (v := ?_) rfl (by kernel_rfl) (by kernel_rfl) (fun _ _ _ h => h) hS (Or.inl ⟨rfl, ?_⟩) ?_
            rotate_left
            · (intro w' hSw; (try dsimp only at hSw); go_simp; first | done | with_reducible rfl)
            (try simp only [Act.put, List.setIfInBounds_toArray, List.set_cons_zero, List.set_cons_succ])
            refine wpT_take 1 (v := ?_) rfl (by kernel_rfl) (by kernel_rfl) (fun _ _ _ h => h) hS (Or.inl ⟨rfl, ?_⟩) ?_
            rotate_left
            · (intro w' hSw; (try dsimp only at hSw); go_simp; first | done | with_reducible rfl)
            (try simp only [Act.put, List.setIfInBounds_toArray, List.set_cons_zero, List.set_cons_succ])
            refine wpT_take 2 (v := ?_) rfl (by kernel_rfl) (by kernel_rfl) (fun _ _ _ h => h) hS (Or.inl ⟨rfl, ?_⟩) ?_
            rotate_left
            · (intro w' hSw; (try dsimp only at hSw); go_simp; first | done | with_reducible rfl)
            (try simp only [Act.put, List.setIfInBounds_toArray, List.set_cons_zero, List.set_cons_succ])
            refine wpT_take 3 (v := ?_) rfl (by kernel_rfl) (by kernel_rfl) (fun _ _ _ h => h) hS (Or.inl ⟨rfl, ?_⟩) ?_
            rotate_left
            · (intro w' hSw; (try dsimp only at hSw); go_simp; first | done | with_reducible rfl)
            (try simp only [Act.put, List.setIfInBounds_toArray, List.set_cons_zero, List.set_cons_succ])
            refine wpT_take 4 (v := ?_) rfl (by kernel_rfl) (by kernel_rfl) (fun _ _ _ h => h) hS (Or.inl ⟨rfl, ?_⟩) ?_
            rotate_left
            · (intro w' hSw; (try dsimp only at hSw); go_simp; first | done | with_reducible rfl)
            (try simp only [Act.put, List.setIfInBounds_toArray, List.set_cons_zero, List.set_cons_succ])
            refine wpT_take 5 (v := ?_) rfl (by kernel_rfl) (by kernel_rfl) (fun _ _ _ h => h) hS (Or.inl ⟨rfl, ?_⟩) ?_
            rotate_left
            · (intro w' hSw; (try dsimp only at hSw); go_simp; first | done | with_reducible rfl)
            (try simp only [Act.put, List.setIfInBounds_toArray, List.set_cons_zero, List.set_cons_succ])
            refine wpT_take 6 (v := ?_) rfl (by kernel_rfl) (by kernel_rfl) (fun _ _ _ h => h) hS (Or.inl ⟨rfl, ?_⟩) ?_
            rotate_left
            · (intro w' hSw; (try dsimp only at hSw); go_simp; first | done | with_reducible rfl)
            (try simp only [Act.put, List.setIfInBounds_toArray, List.set_cons_zero, List.set_cons_succ])
            refine wpT_take 7 (v := ?_) rfl (by kernel_rfl) (by kernel_rfl) (fun _ _ _ h => h) hS (Or.inl ⟨rfl, ?_⟩) ?_
            rotate_left
            · (intro w' hSw; (try dsimp only at hSw); go_simp; first | done | with_reducible rfl)
            (try simp only [Act.put, List.setIfInBounds_toArray, List.set_cons_zero, List.set_cons_succ])
            refine wpT_take 8 (v := ?_) rfl (by kernel_rfl) (by kernel_rfl) (fun _ _ _ h => h) hS (Or.inl ⟨rfl, ?_⟩) ?_
            rotate_left
            · (intro w' hSw; (try dsimp only at hSw); go_simp; first | done | with_reducible rfl)
            (try simp only [Act.put, List.setIfInBounds_toArray, List.set_cons_zero, List.set_cons_succ])
            refine wpT_take 9 (v := ?_) rfl (by kernel_rfl) (by kernel_rfl) (fun _ _ _ h => h) hS (Or.inl ⟨rfl, ?_⟩) ?_
            rotate_left
            · (intro w' hSw; (try dsimp only at hSw); go_simp; first | done | with_reducible rfl)
            (try simp only [Act.put, List.setIfInBounds_toArray, List.set_cons_zero, List.set_cons_succ])
            refine wpT_take 10 (v := ?_) rfl (by kernel_rfl) (by kernel_rfl) (fun _ _ _ h => h) hS (Or.inl ⟨rfl, ?_⟩) ?_
            rotate_left
            · (intro w' hSw; (try dsimp only at hSw); go_simp; first | done | with_reducible rfl)
            (try simp only [Act.put, List.setIfInBounds_toArray, List.set_cons_zero, List.set_cons_succ])
            refine wpT_take 11 (v := ?_) rfl (by kernel_rfl) (by kernel_rfl) (fun _ _ _ h => h) hS (Or.inl ⟨rfl, ?_⟩) ?_
            rotate_left
            · (intro w' hSw; (try dsimp only at hSw); go_simp; first | done | with_reducible rfl)
            (try simp only [Act.put, List.setIfInBounds_toArray, List.set_cons_zero, List.set_cons_succ])
            refine wpT_take 12 (v := ?_) rfl (by kernel_rfl) (by kernel_rfl) (fun _ _ _ h => h) hS (Or.inl ⟨rfl, ?_⟩) ?_
            rotate_left
            · (intro w' hSw; (try dsimp only at hSw); go_simp; first | done | with_reducible rfl)
            (try simp only [Act.put, List.setIfInBounds_toArray, List.set_cons_zero, List.set_cons_succ])
            refine wpT_take 13 (v := ?_) rfl (by kernel_rfl) (by kernel_rfl) (fun _ _ _ h => h) hS (Or.inl ⟨rfl, ?_⟩) ?_
            rotate_left
            · (intro w' hSw; (try dsimp only at hSw); go_simp; first | done | with_reducible rfl)
            (try simp only [Act.put, List.setIfInBounds_toArray, List.set_cons_zero, List.set_cons_succ])
            refine wpT_take 14 (v := ?_) rfl (by kernel_rfl) (by kernel_rfl) (fun _ _ _ h => h) hS (Or.inl ⟨rfl, ?_⟩) ?_
            rotate_left
            · (intro w' hSw; (try dsimp only at hSw); go_simp; first | done | with_reducible rfl)
            (try simp only [Act.put, List.setIfInBounds_toArray, List.set_cons_zero, List.set_cons_succ])
            refine wpT_take 15 (v := ?_) rfl (by kernel_rfl) (by kernel_rfl) (fun _ _ _ h => h) hS (Or.inl ⟨rfl, ?_⟩) ?_
            rotate_left
            · (intro w' hSw; (try dsimp only at hSw); go_simp; first | done | with_reducible rfl)
            (try simp only [Act.put, List.setIfInBounds_toArray, List.set_cons_zero, List.set_cons_succ])
            refine wpT_take 16 (v := ?_) rfl (by kernel_rfl) (by kernel_rfl) (fun _ _ _ h => h) hS (Or.inl ⟨rfl, ?_⟩) ?_
            rotate_left
            · (intro w' hSw; (try dsimp only at hSw); go_simp; first | done | with_reducible rfl)
            (try simp only [Act.put, List.setIfInBounds_toArray, List.set_cons_zero, List.set_cons_succ])
            refine wpT_take 17 (v := ?_) rfl (by kernel_rfl) (by kernel_rfl) (fun _ _ _ h => h) hS (Or.inl ⟨rfl, ?_⟩) ?_
            rotate_left
            · (intro w' hSw; (try dsimp only at hSw); go_simp; first | done | with_reducible rfl)
            (try simp only [Act.put, List.setIfInBounds_toArray, List.set_cons_zero, List.set_cons_succ])
            refine wpT_take 18 (v := ?_) rfl (by kernel_rfl) (by kernel_rfl) (fun _ _ _ h => h) hS (Or.inl ⟨rfl, ?_⟩) ?_
            rotate_left
            · (intro w' hSw; (try dsimp only at hSw); go_simp; first | done | with_reducible rfl)
            (try simp only [Act.put, List.setIfInBounds_toArray, List.set_cons_zero, List.set_cons_succ])
            refine wpT_take 19 (v := ?_) rfl (by kernel_rfl) (by kernel_rfl) (fun _ _ _ h => h) hS (Or.inl ⟨rfl, ?_⟩) ?_
            rotate_left
            · (intro w' hSw; (try dsimp only at hSw); go_simp; first | done | with_reducible rfl)
            (try simp only [Act.put, List.setIfInBounds_toArray, List.set_cons_zero, List.set_cons_succ])
            refine wpT_take 20 (v := ?_) rfl (by kernel_rfl) (by kernel_rfl) (fun _ _ _ h => h) hS (Or.inl ⟨rfl, ?_⟩) ?_
            rotate_left
            · (intro w' hSw; (try dsimp only at hSw); go_simp; first | done | with_reducible rfl)
            (try simp only [Act.put, List.setIfInBounds_toArray, List.set_cons_zero, List.set_cons_succ])
            refine wpT_take 21 (v := ?_) rfl (by kernel_rfl) (by kernel_rfl) (fun _ _ _ h => h) hS (Or.inl ⟨rfl, ?_⟩) ?_
            rotate_left
            · (intro w' hSw; (try dsimp only at hSw); go_simp; first | done | with_reducible rfl)
            (try simp only [Act.put, List.setIfInBounds_toArray, List.set_cons_zero, List.set_cons_succ])
            refine wpT_take 22 (v := ?_) rfl (by kernel_rfl) (by kernel_rfl) (fun _ _ _ h => h) hS (Or.inl ⟨rfl, ?_⟩) ?_
            rotate_left
            · (intro w' hSw; (try dsimp only at hSw); go_simp; first | done | with_reducible rfl)
            (try simp only [Act.put, List.setIfInBounds_toArray, List.set_cons_zero, List.set_cons_succ])
            refine wpT_take 23 (v := ?_) rfl (by kernel_rfl) (by kernel_rfl) (fun _ _ _ h => h) hS (Or.inl ⟨rfl, ?_⟩) ?_
            rotate_left
            · (intro w' hSw; (try dsimp only at hSw); go_simp; first | done | with_reducible rfl)
            (try simp only [Act.put, List.setIfInBounds_toArray, List.set_cons_zero, List.set_cons_succ])
            refine wpT_tail (by rfl) (by kernel_rfl) ?_
            (try simp only [List.drop_succ_cons, List.drop_zero])
            go_wp2
            go_roundw
            case rel =>
              refine ⟨t + 1, by omega, by go_num, by rw [HR.out], (hkp.set (.inl (by simp)) _ _).drew, ?_⟩
              refine hset.out _ ?_
              rw [row_mod (by omega), row_div (by omega), hpr.out, HR.out]
            case measure => simp [intOf]; omega
        · go_wp2
          have hte : t = m := by omega
          subst hte
          go_roundw
          case rel =>
            refine ⟨k + 1, by omega, by go_num, hkp, ?_⟩
            have e : (k + 1) * (t + 1) + (t + 1) = (k + 1 + 1) * (t + 1) := by rw [Nat.add_mul (k + 1) 1, Nat.one_mul]
            rw [e, sumsP_col] at how
            exact how
          case measure => simp [intOf]; omega
    · have hke : k = n := by omega
      subst hke
      go_wp2
      go_ret
      have hO2 : Own (Value.int .i64) 3 wr (p + 1 + 1) (sumsP m D ((m + 1) * (k + 1)) ((m + 1) * (k + 1))) := by
        rw [← sumsP_done]
        rw [HN.out]
        exact how
      have hpe := HP.out
      refine ⟨p, p + 1 + 1 + 1, p + 1 + 1, p + 1, wr.heap.size, rfl, ⟨(hkp.blk hB (ni1 (by omega))).alloc _, ?_, hO2.alloc _⟩, (hkp.blk hU (ni1 (by omega))).alloc _, Blk.new _ _ _, ?_, by omega, by omega, by omega, by omega, ?_⟩
      · have := (hkp.blk hS (ni1 (by omega))).alloc (.cells #[.func (.func 101) #[] #[.pointer (some ⟨p + 1 + 1 + 1, 0, none⟩), .pointer (some ⟨p, 0, none⟩)]] 69)
        rw [HN.out]
        exact this
      · rw [HP.out]; exact (hbw.trans (hkp.to_below (by omega) (by simp; omega))).alloc (by have := hkp.size; omega) _
      · have := hkp.size; omega
end Go.Proofs.Ytlanefdeeanpnaa
