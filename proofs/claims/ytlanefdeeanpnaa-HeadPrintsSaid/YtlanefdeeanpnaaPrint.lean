/-
  Print of the program's head package, where it prints. Conditions: a valid head, a well-formed bitmap, a nozzle from which it can be printed.
-/
import Derived.Test.YtlanefdeeanpnaaPaste
import Derived.Test.YtlanefdeeanpnaaHead
import Derived.Lib.SliceRun
import Derived.Deep.DeepCutAuto
namespace Go.Proofs.Ytlanefdeeanpnaa
set_option linter.unusedVariables false
set_option linter.unusedSimpArgs false
open Go.RowKit
attribute [local go_sem ↓] Go.wp_at_zero Go.wp_at_succ

def printL (m at_ : Nat) (D Dead : List Bool) : List Bool := (List.range D.length).map fun k => D.getD k false && !Dead.getD (at_ + k / m) false
def fillL : List Bool → Nat → Nat → List Bool
  | P, _, 0 => P
  | P, o, k + 1 => fillL (P.set o false) (o + 1) k
theorem fillL_len : ∀ (k o : Nat) (P : List Bool), (fillL P o k).length = P.length
  | 0, _, _ => rfl
  | k + 1, o, P => (fillL_len k (o + 1) _).trans (by simp)
theorem fillL_get : ∀ (k o : Nat) (P : List Bool) (j : Nat), (fillL P o k).getD j false = if o ≤ j ∧ j < o + k then false else P.getD j false
  | 0, o, P, j => by rw [if_neg (by omega)]; rfl
  | k + 1, o, P, j => by
    show (fillL (P.set o false) (o + 1) k).getD j false = _
    rw [fillL_get k (o + 1) _ j]
    by_cases h : o + 1 ≤ j ∧ j < o + 1 + k
    · rw [if_pos h, if_pos (by omega)]
    · rw [if_neg h]
      by_cases h2 : j = o
      · subst h2
        rw [if_pos (by omega)]
        by_cases hl : j < P.length
        · simp [List.getD_eq_getElem?_getD, List.getElem?_set, hl]
        · rw [List.getD_eq_getElem?_getD, List.getElem?_eq_none (by simp; omega)]; rfl
      · rw [if_neg (by omega)]
        simp only [List.getD_eq_getElem?_getD, List.getElem?_set]
        rw [if_neg (fun e => h2 e.symm)]
theorem own_fill {base : Nat} {e : TypeId} {n c g : Nat} : ∀ (k o : Nat) (P : List Bool) (w : World), w.ownsRow base e 1 (.slice (some ⟨g, 0, none⟩) n c) n (P.map Value.bool) → o + k ≤ n →
    (w.setCells g o (List.replicate k (.bool false))).ownsRow base e 1 (.slice (some ⟨g, 0, none⟩) n c) n ((fillL P o k).map Value.bool)
  | 0, _, _, _, h, _ => h
  | k + 1, o, P, w, h, hk => own_fill k (o + 1) (P.set o false) (w.setCell ⟨g, o, none⟩ (.bool false)) (own_upd h (by omega) false) (by omega)
theorem kp_fill {l : List Nat} {w : World} {g : Nat} : ∀ (k o : Nat) (W : World), Kp l w W → g ∈ l → Kp l w (W.setCells g o (List.replicate k (.bool false)))
  | 0, _, _, h, _ => h
  | k + 1, o, W, h, hg => kp_fill k (o + 1) (W.setCell ⟨g, o, none⟩ (.bool false)) (h.set (.inl hg) o (.bool false)) hg
/-- What P holds when y rows have been gone through. -/
def rowsTo (m at_ : Nat) (D Dead P : List Bool) (y : Nat) : Prop := P.length = D.length ∧ ∀ k, k < D.length → P.getD k false = (D.getD k false && !(decide (k / m < y) && Dead.getD (at_ + k / m) false))
theorem rows_start {m at_ : Nat} {D Dead : List Bool} : rowsTo m at_ D Dead D 0 := ⟨rfl, fun k _ => by simp⟩
theorem rows_alive {m at_ y : Nat} {D Dead P : List Bool} (h : rowsTo m at_ D Dead P y) (hd : Dead.getD (at_ + y) false = false) : rowsTo m at_ D Dead P (y + 1) := by
  refine ⟨h.1, fun k hk => ?_⟩
  rw [h.2 k hk]
  by_cases he : k / m = y
  · rw [he, hd]; simp
  · have : decide (k / m < y) = decide (k / m < y + 1) := by
      by_cases hl : k / m < y
      · rw [decide_eq_true hl, decide_eq_true (by omega)]
      · rw [decide_eq_false hl, decide_eq_false (by omega)]
    rw [this]
theorem rows_dead {m n at_ y : Nat} {D Dead P : List Bool} (hD : D.length = m * n) (h : rowsTo m at_ D Dead P y) (hd : Dead.getD (at_ + y) false = true) : rowsTo m at_ D Dead (fillL P (y * m) m) (y + 1) := by
  refine ⟨(fillL_len _ _ _).trans h.1, fun k hk => ?_⟩
  have hm : 0 < m := by
    rcases Nat.eq_zero_or_pos m with h0 | h0
    · subst h0; simp at hD; rw [hD] at hk; simp at hk
    · exact h0
  rw [fillL_get, h.2 k hk]
  have key : (y * m ≤ k ∧ k < y * m + m) ↔ k / m = y := by
    constructor
    · rintro ⟨h1, h2⟩
      exact Nat.div_eq_of_lt_le (by rw [Nat.mul_comm] at h1 ⊢; omega) (by rw [Nat.succ_mul]; omega)
    · rintro rfl
      have h1 := Nat.div_add_mod k m
      have h2 := Nat.mod_lt k hm
      rw [Nat.mul_comm] at h1
      omega
  by_cases he : k / m = y
  · rw [if_pos (key.2 he), he, hd]
    simp
  · rw [if_neg (fun hh => he (key.1 hh))]
    have : decide (k / m < y) = decide (k / m < y + 1) := by
      by_cases hl : k / m < y
      · rw [decide_eq_true hl, decide_eq_true (by omega)]
      · rw [decide_eq_false hl, decide_eq_false (by omega)]
    rw [this]
theorem rows_end {m n at_ : Nat} {D Dead P : List Bool} (hD : D.length = m * n) (h : rowsTo m at_ D Dead P n) : P = printL m at_ D Dead := by
  apply List.ext_getElem
  · simp [printL, h.1]
  · intro k h1 h2
    have hk : k < D.length := by rw [← h.1]; exact h1
    have := h.2 k hk
    have hlt : k / m < n := Nat.div_lt_of_lt_mul (by rw [← hD]; exact hk)
    rw [decide_eq_true hlt, Bool.true_and] at this
    have e1 : P.getD k false = P[k] := by rw [List.getD_eq_getElem?_getD, List.getElem?_eq_getElem h1]; rfl
    rw [← e1, this]
    simp [printL]

theorem bool_zero (w : World) : (zeroValue 4).run Try.prog w = .ok (.bool false) w := by kernel_rfl
set_option maxRecDepth 100000 in
set_option maxHeartbeats 4000000 in
theorem head_Print (m n at_ c ch : Nat) (A AH : Option Addr) (D Dead : List Bool) (w : World) (hm : m ≤ 96) (hn : n ≤ 96) (hD : D.length = m * n) (hL : 1 ≤ Dead.length) (hL2 : Dead.length ≤ 192) (hat : at_ + n ≤ Dead.length)
    (hr : Rd Value.bool w w.heap.size A D) (hh : Rd Value.bool w w.heap.size AH Dead) :
    Calls Try.prog 45 #[.agg #[.slice AH Dead.length ch], .agg #[.int .i64 m, .int .i64 n, .slice A (m * n) c], .int .i64 at_] w fun e w' =>
      ∃ A' c', e = .returned (.tuple #[.agg #[.int .i64 m, .int .i64 n, .slice A' (m * n) c'], .int .i64 0]) ∧ Rd Value.bool w' w'.heap.size A' (printL m at_ D Dead) ∧ Below w.heap.size w w' := by
  have hmn : m * n ≤ 9216 := Nat.mul_le_mul hm hn
  have CK := Lib.hid (fun w => bitmap_Check m n A (m * n) c w (by omega))
  rw [show bmCheck m n (m * n) = 0 by simp [bmCheck, sideB]; omega] at CK
  have CH := Lib.hid (fun w => head_Check Dead.length AH ch w)
  rw [show hdCheck Dead.length = 0 by simp [hdCheck]; omega] at CH
  have CC := Lib.hid (fun w h => clone_any A c D w (by omega) h)
  rw [hD] at CC
  have HR := Lib.hid hr
  have HD := Lib.hid hD
  obtain ⟨gh, oh, rfl, hgh, hch⟩ := hh (by omega)
  have HCH := Lib.hid hch
  obtain ⟨L, hLe⟩ : ∃ L, L = Dead.length := ⟨_, rfl⟩
  have HL := Lib.hid hLe
  rw [← hLe] at hL hL2 CH hat ⊢
  clear hr hh hD hLe hch
  go_enter Try.func45, Try.ntmps45
  go_wp2_with fail
  refine calls_world (fun W0 hW0 => ?_)
  obtain ⟨hB0, hB1, hB2, hbw, hs0⟩ := new3 hW0
  clear hW0
  generalize hp : w.heap.size = p at *
  have HP := Lib.hid hp
  clear hp
  refine (CK.out _).mono ?_
  rintro e w1 ⟨rfl, hb1⟩
  replace hB0 := hB0.below hb1 hB0.lt
  replace hB1 := hB1.below hb1 hB1.lt
  replace hB2 := hB2.below hb1 hB2.lt
  replace hbw := hbw.trans (hb1.mono (by omega))
  clear hs0 hb1
  have d0 : w1.cell? ⟨p, 0, none⟩ = some (.slice (some ⟨gh, oh, none⟩) L ch) := hB0.cell 0
  go_wp2_with fail
  refine (CH.out _).mono ?_
  rintro e w2 ⟨rfl, hb1⟩
  have h3l := hB2.lt
  replace hB0 := hB0.below hb1 hB0.lt
  replace hB1 := hB1.below hb1 hB1.lt
  replace hB2 := hB2.below hb1 hB2.lt
  replace hbw := hbw.trans (hb1.mono (by omega))
  clear hb1 d0 h3l
  have d0 : w2.cell? ⟨p, 0, none⟩ = some (.slice (some ⟨gh, oh, none⟩) L ch) := hB0.cell 0
  obtain ⟨⟨b0, b1, b2⟩, _⟩ := hB1.three
  have hle : (at_ : Int) ≤ (L : Int) - (n : Int) := by omega
  go_upto_region 6 with fail
  have hr1 := HR.out.below hbw (Nat.le_refl _)
  have z0 := hB1.lt
  have z1 := hB2.lt
  go_cut [9] (fun s9 wx => ∃ (q9 : Nat) (A' : Option Addr) (c' : Nat), s9 = .pointer (some ⟨q9, 0, none⟩) ∧ Blk wx q9 29 #[.int .i64 m, .int .i64 n, .slice A' (m * n) c'] ∧ wx.ownsRow w2.heap.size 4 1 (.slice A' (m * n) c') (m * n) (D.map Value.bool) ∧ (Value.slice A' (m * n) c').ownBlock ≠ some q9 ∧ w2.heap.size ≤ q9 ∧ Below w2.heap.size w2 wx)
  case first =>
    refine wp_region_L 9 (fun w' => (∀ b o, b < w2.heap.size → w'.cell? ⟨b, o, none⟩ = w2.cell? ⟨b, o, none⟩) ∧ Below w2.heap.size w2 w') (by kernel_rfl) ?_ (fun Wd hWd hS => ?_)
    · (try dsimp only)
      exact sb_of (Below.refl _ _).drew
    (try dsimp only at hS)
    refine wpT_take 0 (v := ?_) rfl (by kernel_rfl) (by kernel_rfl) (fun _ _ _ h => h) hS (Or.inl ⟨rfl, ?_⟩) ?_
    rotate_left
    · (intro w' hSw; (try dsimp only at hSw); go_simp; first | done | with_reducible rfl)
    (try simp only [Act.put, List.setIfInBounds_toArray, List.set_cons_zero, List.set_cons_succ])
    refine wpT_take 1 (v := ?_) rfl (by kernel_rfl) (by kernel_rfl) (fun _ _ _ h => h) hS (Or.inl ⟨rfl, ?_⟩) ?_
    rotate_left
    · (intro w' hSw; (try dsimp only at hSw); go_simp; first | done | with_reducible rfl)
    (try simp only [Act.put, List.setIfInBounds_toArray, List.set_cons_zero, List.set_cons_succ])
    refine wpT_take 2 (v := ?_) rfl (by kernel_rfl) (by kernel_rfl) (fun _ _ _ h => h) hS (Or.inl ⟨rfl, ?_⟩) ?_
    rotate_left
    · (intro w' hSw; (try dsimp only at hSw); go_simp; first | done | with_reducible rfl)
    (try simp only [Act.put, List.setIfInBounds_toArray, List.set_cons_zero, List.set_cons_succ])
    refine wpT_take 3 (v := ?_) rfl (by kernel_rfl) (by kernel_rfl) (fun _ _ _ h => h) hS (Or.inl ⟨rfl, ?_⟩) ?_
    rotate_left
    · (intro w' hSw; (try dsimp only at hSw); go_simp; first | done | with_reducible rfl)
    (try simp only [Act.put, List.setIfInBounds_toArray, List.set_cons_zero, List.set_cons_succ])
    refine wpT_take 4 (v := ?_) rfl (by kernel_rfl) (by kernel_rfl) (fun _ _ _ h => h) hS (Or.inl ⟨rfl, ?_⟩) ?_
    rotate_left
    · (intro w' hSw; (try dsimp only at hSw); go_simp; first | done | with_reducible rfl)
    (try simp only [Act.put, List.setIfInBounds_toArray, List.set_cons_zero, List.set_cons_succ])
    refine wpT_take 5 (v := ?_) rfl (by kernel_rfl) (by kernel_rfl) (fun _ _ _ h => h) hS (Or.inl ⟨rfl, ?_⟩) ?_
    rotate_left
    · (intro w' hSw; (try dsimp only at hSw); go_simp; first | done | with_reducible rfl)
    (try simp only [Act.put, List.setIfInBounds_toArray, List.set_cons_zero, List.set_cons_succ])
    refine wpT_two 6 8 rfl rfl (by kernel_rfl) (fun K hK => ?_) (fun K hK => ?_)
    · skip
      go_simp
      go_at_call 76
      refine (CC.out _ ((hr1.below (hS.2.mono (by omega)) (Nat.le_refl _)).more (by have := hS.2.size; omega))).mono ?_
      rintro e w6 ⟨A', c', rfl, hown0, hb6⟩
      have hS6 := hS.2.size
      have hown := own_base hown0 hS6
      have hbS := hS.2.trans (hb6.mono hS.2.size)
      try have hne : (Value.slice A' (m * n) c').ownBlock ≠ some q9 := by (intro h8; have h9 := (hown0.lt q9 h8).1; have h10 := hQ.lt; omega)
      try have hQ := hQ.below hb6 hQ.lt
      refine hK.out _ _ ?_ (fun hS => ?_)
      · (try dsimp only)
        exact sb_of hbS
      clear hK K
      (try simp only [Act.put, List.setIfInBounds_toArray, List.set_cons_zero, List.set_cons_succ])
      (try dsimp only at hS)
      refine wpT_take 7 (v := ?_) rfl (by kernel_rfl) (by kernel_rfl) (fun _ _ _ h => h) hS (Or.inl ⟨rfl, ?_⟩) ?_
      rotate_left
      · (intro w' hSw; (try dsimp only at hSw); go_simp; first | done | with_reducible rfl)
      (try simp only [Act.put, List.setIfInBounds_toArray, List.set_cons_zero, List.set_cons_succ])
      refine wpT_one 8 rfl (by kernel_rfl) (fun K hK => ?_)
      go_simp
      refine k_world (fun Wq hWq => ?_)
      have hS9 := hS.2.size
      obtain ⟨q9, eqq, hQ, hbQ, hsQ⟩ := new1n hWq
      clear hWq
      try rw [eqq]
      have hq9 : w2.heap.size ≤ q9 := by omega
      have hbS := hS.2.trans (hbQ.mono hq9)
      try have hne : (Value.slice A' (m * n) c').ownBlock ≠ some q9 := by (intro h8; have := (hown.lt q9 h8).2; omega)
      try have hown := own_below hown (by rw [eqq]; exact hbQ)
      refine hK.out _ _ ?_ (fun hS => ?_)
      · (try dsimp only)
        exact sb_of hbS
      clear hK K
      (try simp only [Act.put, List.setIfInBounds_toArray, List.set_cons_zero, List.set_cons_succ])
      (try dsimp only at hS)
      refine wpT_tail (by rfl) (by kernel_rfl) ?_
      (try simp only [List.drop_succ_cons, List.drop_zero])
      obtain ⟨⟨e0, e1, e2⟩, f0, f1, f2⟩ := hQ.three
      go_wp2
      go_meet
      have hst := store3 (x := .int .i64 m) (y := .int .i64 n) (z := .slice A' (m * n) c') rfl hQ
      exact ⟨q9, A', c', rfl, hst.1, own_kp hown hst.2 (by intro k hk; have : k ≠ q9 := (fun e => hne (by rw [← e]; exact hk)); simpa using this), hne, hq9, hbS.trans (hst.2.to_below hbS.size (by simpa using hq9))⟩
    · skip
      go_simp
      refine k_world (fun Wq hWq => ?_)
      have hS9 := hS.2.size
      obtain ⟨q9, eqq, hQ, hbQ, hsQ⟩ := new1n hWq
      clear hWq
      try rw [eqq]
      have hq9 : w2.heap.size ≤ q9 := by omega
      have hbS := hS.2.trans (hbQ.mono hq9)
      try have hne : (Value.slice A' (m * n) c').ownBlock ≠ some q9 := by (intro h8; have := (hown.lt q9 h8).2; omega)
      try have hown := own_below hown (by rw [eqq]; exact hbQ)
      refine hK.out _ _ ?_ (fun hS => ?_)
      · (try dsimp only)
        exact sb_of hbS
      clear hK K
      (try simp only [Act.put, List.setIfInBounds_toArray, List.set_cons_zero, List.set_cons_succ])
      (try dsimp only at hS)
      refine wpT_one 6 rfl (by kernel_rfl) (fun K hK => ?_)
      go_simp
      go_at_call 76
      refine (CC.out _ ((hr1.below (hS.2.mono (by omega)) (Nat.le_refl _)).more (by have := hS.2.size; omega))).mono ?_
      rintro e w6 ⟨A', c', rfl, hown0, hb6⟩
      have hS6 := hS.2.size
      have hown := own_base hown0 hS6
      have hbS := hS.2.trans (hb6.mono hS.2.size)
      try have hne : (Value.slice A' (m * n) c').ownBlock ≠ some q9 := by (intro h8; have h9 := (hown0.lt q9 h8).1; have h10 := hQ.lt; omega)
      try have hQ := hQ.below hb6 hQ.lt
      refine hK.out _ _ ?_ (fun hS => ?_)
      · (try dsimp only)
        exact sb_of hbS
      clear hK K
      (try simp only [Act.put, List.setIfInBounds_toArray, List.set_cons_zero, List.set_cons_succ])
      (try dsimp only at hS)
      refine wpT_take 7 (v := ?_) rfl (by kernel_rfl) (by kernel_rfl) (fun _ _ _ h => h) hS (Or.inl ⟨rfl, ?_⟩) ?_
      rotate_left
      · (intro w' hSw; (try dsimp only at hSw); go_simp; first | done | with_reducible rfl)
      (try simp only [Act.put, List.setIfInBounds_toArray, List.set_cons_zero, List.set_cons_succ])
      refine wpT_tail (by rfl) (by kernel_rfl) ?_
      (try simp only [List.drop_succ_cons, List.drop_zero])
      obtain ⟨⟨e0, e1, e2⟩, f0, f1, f2⟩ := hQ.three
      go_wp2
      go_meet
      have hst := store3 (x := .int .i64 m) (y := .int .i64 n) (z := .slice A' (m * n) c') rfl hQ
      exact ⟨q9, A', c', rfl, hst.1, own_kp hown hst.2 (by intro k hk; have : k ≠ q9 := (fun e => hne (by rw [← e]; exact hk)); simpa using this), hne, hq9, hbS.trans (hst.2.to_below hbS.size (by simpa using hq9))⟩
  case rest =>
    obtain ⟨q9, A', c', rfl, hQ, hown, hne, hq9, hb2⟩ := hcut
    replace hB0 := hB0.below hb2 hB0.lt
    replace hB1 := hB1.below hb2 hB1.lt
    replace hB2 := hB2.below hb2 hB2.lt
    replace hbw := hbw.trans (hb2.mono (by omega))
    have hgl := hown.lt
    have hpw := z1
    generalize w2.heap.size = s at *
    clear hb2 hr1 d0 b0 b1 b2 z0 z1
    obtain ⟨⟨b0, b1, b2⟩, _⟩ := hB1.three
    go_wp2_with fail
    go_loopw [45] (fun i wr => ∃ (y : Nat) (P : List Bool), y ≤ n ∧ i = .int .i64 y ∧ rowsTo m at_ D Dead P y ∧ Blk wr p 59 #[.slice (some ⟨gh, oh, none⟩) L ch] ∧ Blk wr (p + 1) 29 #[.int .i64 m, .int .i64 n, .slice A (m * n) c] ∧ Blk wr (p + 1 + 1) 29 #[.int .i64 0, .int .i64 0, .slice none 0 0] ∧
      Blk wr q9 29 #[.int .i64 m, .int .i64 n, .slice A' (m * n) c'] ∧ wr.ownsRow s 4 1 (.slice A' (m * n) c') (m * n) (P.map Value.bool) ∧ Below p w wr) (fun i _ => n - (intOf i).toNat)
    case atStart => exact ⟨0, D, Nat.zero_le _, rfl, rows_start, hB0, hB1, hB2, hQ, hown, hbw⟩
    case round =>
      clear b0 b1 b2 hB0 hB1 hB2 hQ hown hbw
      obtain ⟨y, P, hy, rfl, hrows, hB0, hB1, hB2, hQ, hown, hbw⟩ := hrel
      have d0 : wr.cell? ⟨p, 0, none⟩ = some (.slice (some ⟨gh, oh, none⟩) L ch) := hB0.cell 0
      obtain ⟨⟨b0, b1, b2⟩, _⟩ := hB1.three
      obtain ⟨⟨q0, q1, q2⟩, _⟩ := hQ.three
      have HROWS := Lib.hid hrows
      clear hrows
      by_cases hlt : y < n
      · have hxl : at_ + y < Dead.length := by have := HL.out; omega
        have hxl2 : at_ + y < L := by omega
        have hcd := (hbw.cell (p := ⟨gh, oh + (at_ + y), none⟩) (by show gh < p; omega)).trans (HCH.out _ hxl)
        have hgd : Dead.getD (at_ + y) false = Dead[at_ + y] := by rw [List.getD_eq_getElem?_getD, List.getElem?_eq_getElem hxl]; rfl
        have HA := Lib.hid (fun h => rows_alive (y := y) HROWS.out h)
        have HDd := Lib.hid (fun h => rows_dead (y := y) HD.out HROWS.out h)
        rw [hgd] at HA HDd
        clear hgd
        generalize Dead[at_ + y] = d at *
        clear hxl
        cases d with
        | false =>
          have HA2 := Lib.hid (HA.out rfl)
          clear HA HDd
          go_wp2
          go_roundw
          case rel => exact ⟨y + 1, P, by omega, by go_num, HA2.out, hB0, hB1, hB2, hQ, hown, hbw⟩
          case measure => simp [intOf]; omega
        | true =>
          have HD2 := Lib.hid (HDd.out rfl)
          clear HA HDd
          obtain ⟨ym, hym⟩ : ∃ ym : Nat, ym = y * m := ⟨_, rfl⟩
          have hyb : ym + m ≤ m * n := by rw [hym, ← Nat.succ_mul, Nat.mul_comm]; exact Nat.mul_le_mul_left m hlt
          have hyi : (y : Int) * (m : Int) = (ym : Int) := by rw [hym]; exact (Int.natCast_mul _ _).symm
          have hyj : ((y : Int) + 1) * (m : Int) = ((ym + m : Nat) : Int) := by rw [Int.add_mul, hyi, Int.one_mul]; exact (Int.natCast_add _ _).symm
          rw [← hym] at HD2
          have hcap := own_cap hown
          clear hym
          by_cases hm0 : m = 0
          · have hym0 : ym = 0 := by rw [hm0] at hyb; omega
            have hcl : ∀ (A2 : Option Addr) cc ty, (Builtin.clear_ #[27] ty #[.slice A2 0 cc]).run Try.prog wr = .ok (.tuple #[]) wr := fun A2 cc ty => by
              cases A2 <;> simp [Builtin.clear_, run_underlying Try.underlying27]
            have HD3 : rowsTo m at_ D Dead P (y + 1) := by
              have := HD2.out
              rw [hm0] at this ⊢
              exact this
            have HD4 := Lib.hid HD3
            clear HD3 HD2
            subst hm0 hym0
            cases A' with
            | none =>
              go_wp2
              go_roundw
              case rel => exact ⟨y + 1, P, by omega, by go_num, HD4.out, hB0, hB1, hB2, hQ, hown, hbw⟩
              case measure => simp [intOf]; omega
            | some a =>
              go_wp2
              go_roundw
              case rel => exact ⟨y + 1, P, by omega, by go_num, HD4.out, hB0, hB1, hB2, hQ, hown, hbw⟩
              case measure => simp [intOf]; omega
          · obtain ⟨g, cap, hv, hgb, hgl'⟩ := hown.form (by omega)
            injection hv with hv1 _ hv3
            subst hv1 hv3
            have hcl : ∀ cc ty, (Builtin.clear_ #[27] ty #[.slice (some ⟨g, ym, none⟩) m cc]).run Try.prog wr = .ok (.tuple #[]) (wr.setCells g ym (List.replicate m (.bool false))) := fun cc ty => by
              have h1 : P.length = m * n := HROWS.out.1.trans HD.out
              exact Lib.run_clear_slice wr 27 4 ty (.bool false) Try.underlying27 bool_zero rfl rfl g ym m cc (by omega) (fun j hj => by rw [own_cell hown (k := ym + j) (by omega)]; rfl) (fun j hj => own_frozen hown)
            go_wp2_with fail
            have hk := kp_fill (g := g) m ym wr (Kp.refl [g] wr) (by simp)
            have hq9l := hQ.lt
            have hgq9 : g ≠ q9 := fun e => hne (by rw [e]; rfl)
            go_roundw
            case rel => exact ⟨y + 1, fillL P ym m, by omega, by go_num, HD2.out, hk.blk hB0 (by simp; omega), hk.blk hB1 (by simp; omega), hk.blk hB2 (by simp; omega), hk.blk hQ (by simpa using fun e => hgq9 e.symm), own_fill m ym P wr hown hyb, hbw.trans (hk.to_below (by have := hB0.lt; omega) (by simp; omega))⟩
            case measure => simp [intOf]; omega
      · have hye : y = n := by omega
        subst hye
        have hP := Lib.hid (rows_end HD.out HROWS.out)
        obtain ⟨⟨r0, r1, r2⟩, f0, f1, f2⟩ := hB2.three
        go_wp2
        obtain ⟨hR9, hk9⟩ := store3 (x := .int .i64 m) (y := .int .i64 y) (z := .slice A' (m * y) c') rfl hB2
        have hO9 := own_kp hown hk9 (fun k hk => by have := (hgl k hk).1; simp; omega)
        have hB9 := hbw.trans (hk9.to_below (by have := hB2.lt; omega) (by simp; omega))
        generalize ((wr.setCell ⟨p + 1 + 1, 0, none⟩ (.int .i64 m)).setCell ⟨p + 1 + 1, 1, none⟩ (.int .i64 y)).setCell ⟨p + 1 + 1, 2, none⟩ (.slice A' (m * y) c') = W9 at *
        obtain ⟨⟨s0, s1, s2⟩, _⟩ := hR9.three
        refine bodyPost_ret (v := .tuple #[.agg #[.int .i64 m, .int .i64 y, .slice A' (m * y) c'], .int .i64 0]) (by simp [results, Try.results45, go_sem, s0, s1, s2]) rfl ⟨A', c', rfl, ?_, by rw [HP.out]; exact hB9⟩
        rw [← hP.out]
        exact own_rd hO9
end Go.Proofs.Ytlanefdeeanpnaa
