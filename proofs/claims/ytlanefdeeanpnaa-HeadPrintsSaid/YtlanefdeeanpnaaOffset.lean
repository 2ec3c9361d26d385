/-
  Offset of the program's head package. Conditions: a valid head, a well-formed bitmap, both read.
-/
import Derived.Test.YtlanefdeeanpnaaPlaces
import Derived.Test.YtlanefdeeanpnaaInked
import Derived.Test.YtlanefdeeanpnaaCount
import Derived.Deep.RegionLaw
namespace Go.Proofs.Ytlanefdeeanpnaa
set_option linter.unusedVariables false
set_option linter.unusedSimpArgs false
open Go.RowKit Go.Shelf Go.Maps
attribute [local go_sem] Oper.semAt_some
attribute [local go_sem ↓] Go.wp_at_zero Go.wp_at_succ

section
variable {F : Fence} {n : Nat} (w : World) {ops : Array Oper} {rest : List Oper} {o : Oper} {a : Act} {Q : Exit → Act → World → Prop}
/-- A step of a range over a set of integers. -/
theorem next_set (hg : o.guard = none) (it : Operand) (hop : o.op = Op.next it false) (b r nn : Nat) (D : DataW Unit) (left : Lit → Bool) (cnt : Nat)
    (hit : a.eval it = .pointer (some ⟨r, 0, none⟩)) (h : w.ranges Try.prog 3 uE b r nn D left cnt)
    (hDone : (∀ kl, left kl = false) → wpListIn F n Try.prog ops Q rest (a.put o.dst (.tuple #[.bool false])) w)
    (hMore : ∀ (x : Int) (w' : World) (cnt' : Nat), left (.int .i64 x) = true → w'.ranges Try.prog 3 uE b r nn D (fun z => left z && !z.sameKey (.int .i64 x)) cnt' → cnt' < cnt →
      w.grownBy w' (some r) → w'.heap.size = w.heap.size → (Instr.entry (.pointer (some ⟨r, 0, none⟩))).run Try.prog w' = .ok (.tuple #[.int .i64 x, .agg #[]]) w' → wpListIn F n Try.prog ops Q rest (a.put o.dst (.tuple #[.bool true, .int .i64 x, .agg #[]])) w') :
    wpListIn F n Try.prog ops Q (o :: rest) a w :=
  wpListIn_next_ranges (α := Int) (β := Unit) w hg it hop 3 key_int uE (Value.int .i64) (fun _ => .agg #[]) (fun key kl hk => by obtain ⟨x, hx, _⟩ := Maps.keyOf_int_inv Try.underlying3 hk; exact ⟨x, hx⟩) (fun v y hv => ⟨(), (unitElem_inv hv).1⟩)
    b r nn D left cnt hit h (fun _ => hDone) (fun x c kl y w' cnt' hkey hlk hv hat hrg hlt hgr hsz hen => by
      obtain ⟨x', ex, rfl, hwx⟩ := Maps.keyOf_int_inv Try.underlying3 hkey
      injection ex with _ ex
      subst ex
      exact hMore x w' cnt' hlk hrg hlt hgr hsz hen)
end

/-- All dots are printed from nozzle x on. -/
def wholeAt (m : Nat) (D Dead : List Bool) (x : Nat) : Bool := decide (∀ k, k < D.length → D.getD k false = true → Dead.getD (x + k / m) false = false)
def headOff (m n : Nat) (D Dead : List Bool) : Option Nat := (List.range (Dead.length + 1 - n)).find? (wholeAt m D Dead)
def offI (o : Option Nat) : Int := ((o.getD 0 : Nat) : Int)
theorem off_found {m n : Nat} {D Dead : List Bool} {x : Nat} (hx : x < Dead.length + 1 - n) (h : wholeAt m D Dead x = true) (hb : ∀ y, y < x → wholeAt m D Dead y = false) : headOff m n D Dead = some x := by
  unfold headOff
  rw [List.find?_range_eq_some]
  refine ⟨h, by simpa using hx, fun j hj => by simp [hb j hj]⟩
theorem off_none {m n : Nat} {D Dead : List Bool} (hb : ∀ y, y < Dead.length + 1 - n → wholeAt m D Dead y = false) : headOff m n D Dead = none := by
  unfold headOff
  rw [List.find?_eq_none]
  intro y hy
  simp [hb y (by simpa using hy)]

theorem has_ink {m N : Nat} {D : List Bool} {kl : Lit} : Maps.has (setOf uD (inkKeys m D N)) kl = true ↔ ∃ k, k < N ∧ D.getD k false = true ∧ kl = .int .i64 ((k / m : Nat) : Int) := by
  rw [has_setOf]
  · unfold inkKeys
    simp only [List.any_map, List.any_eq_true, List.mem_filter, List.mem_range, Function.comp]
    constructor
    · rintro ⟨k, ⟨h1, h2⟩, h3⟩
      refine ⟨k, h1, h2, ?_⟩
      by_cases he : kl = .int .i64 ((k / m : Nat) : Int)
      · exact he
      · rw [sameKey_ne (fun e => he e.symm)] at h3
        cases h3
    · rintro ⟨k, h1, h2, rfl⟩
      exact ⟨k, ⟨h1, h2⟩, by simp [Lit.sameKey]⟩
  · intro x hx
    unfold inkKeys at hx
    obtain ⟨k, _, rfl⟩ := List.mem_map.1 hx
    trivial
/-- What is known of the rows that have been looked at. -/
def okTill (m N x : Nat) (D Dead : List Bool) (left : Lit → Bool) (bv : Bool) : Prop := bv = true ↔ ∀ k, k < N → D.getD k false = true → left (.int .i64 ((k / m : Nat) : Int)) = false → Dead.getD (x + k / m) false = false
theorem till_start {m N x : Nat} {D Dead : List Bool} : okTill m N x D Dead (Maps.has (setOf uD (inkKeys m D N))) true := by
  refine ⟨fun _ k hk hd hl => ?_, fun _ => rfl⟩
  rw [has_ink.2 ⟨k, hk, hd, rfl⟩] at hl
  cases hl
theorem till_step {m N x ky : Nat} {D Dead : List Bool} {left : Lit → Bool} {bv d : Bool} (h : okTill m N x D Dead left bv) (hd : Dead.getD (x + ky) false = d) (hk : ∃ k, k < N ∧ D.getD k false = true ∧ ky = k / m) :
    okTill m N x D Dead (fun z => left z && !z.sameKey (.int .i64 (ky : Int))) (bv && !d) := by
  unfold okTill at *
  constructor
  · intro hb k hkN hon hl
    have hb1 : bv = true := by cases bv <;> simp_all
    have hb2 : d = false := by cases d <;> simp_all
    by_cases he : k / m = ky
    · rw [he, hd, hb2]
    · refine h.1 hb1 k hkN hon ?_
      have hne : (Lit.int .i64 ((k / m : Nat) : Int)).sameKey (.int .i64 (ky : Int)) = false := sameKey_ne (fun e => by injection e with _ e; omega)
      have hl2 : (left (.int .i64 ((k / m : Nat) : Int)) && !(Lit.int .i64 ((k / m : Nat) : Int)).sameKey (.int .i64 (ky : Int))) = false := hl
      rw [hne] at hl2
      simpa only [Bool.not_false, Bool.and_true] using hl2
  · intro hall
    obtain ⟨k, hkN, hon, rfl⟩ := hk
    have h1 : Dead.getD (x + k / m) false = false := hall k hkN hon (by show (left _ && !(Lit.sameKey _ _)) = false; rw [WideAt.sameKey_self (show WideAt.IsKeyLit (.int .i64 ((k / m : Nat) : Int)) from trivial)]; simp only [Bool.not_true, Bool.and_false])
    rw [h1] at hd
    subst hd
    have h2 : bv = true := h.2 (fun j hj hjon hl => hall j hj hjon (by show (left _ && _) = false; rw [hl]; rfl))
    simp [h2]
theorem till_end {m x : Nat} {D Dead : List Bool} {left : Lit → Bool} {bv : Bool} {N : Nat} (h : okTill m N x D Dead left bv) (hN : D.length = N) (hl : ∀ kl, left kl = false) : wholeAt m D Dead x = bv := by
  unfold wholeAt
  unfold okTill at h
  subst hN
  cases bv with
  | true => exact decide_eq_true (fun k hk hd => (h.1 rfl) k hk hd (hl _))
  | false => exact decide_eq_false (fun hh => by have := h.2 (fun k hk hd _ => hh k hk hd); cases this)

set_option maxRecDepth 100000 in
set_option maxHeartbeats 4000000 in
theorem head_Offset (m n c ch : Nat) (A AH : Option Addr) (D Dead : List Bool) (w : World) (hm : m ≤ 96) (hn : n ≤ 96) (hD : D.length = m * n) (hL : 1 ≤ Dead.length) (hL2 : Dead.length ≤ 192)
    (hr : Rd Value.bool w w.heap.size A D) (hh : Rd Value.bool w w.heap.size AH Dead) :
    Calls Try.prog 42 #[.agg #[.slice AH Dead.length ch], .agg #[.int .i64 m, .int .i64 n, .slice A (m * n) c]] w fun e w' =>
      e = .returned (.tuple #[.int .i64 (offI (headOff m n D Dead)), .bool (headOff m n D Dead).isSome]) ∧ Below w.heap.size w w' := by
  have hmn : m * n ≤ 9216 := Nat.mul_le_mul hm hn
  have CK := Lib.hid (fun w => bitmap_Check m n A (m * n) c w (by omega))
  rw [show bmCheck m n (m * n) = 0 by simp [bmCheck, sideB]; omega] at CK
  have CH := Lib.hid (fun w => head_Check Dead.length AH ch w)
  rw [show hdCheck Dead.length = 0 by simp [hdCheck]; omega] at CH
  have CI := Lib.hid (fun w h => inked_any m n c A D w hm hn hD h)
  have HR := Lib.hid hr
  have HD := Lib.hid hD
  obtain ⟨gh, oh, rfl, hgh, hch⟩ := hh (by omega)
  have HCH := Lib.hid hch
  obtain ⟨L, hLe⟩ : ∃ L, L = Dead.length := ⟨_, rfl⟩
  have HL := Lib.hid hLe
  rw [← hLe] at hL hL2 CH ⊢
  clear hr hh hD hLe hch
  refine (callsIn_wide (n := 6)).1 ?_
  refine callsIn_of_wp_marks Try.func42 rfl trivial ?_ rfl
  simp only [Try.ntmps42, List.size_toArray, List.length_cons, List.length_nil, Nat.reduceAdd, Nat.reduceSub, Array.replicate_succ, Array.replicate_zero, List.push_toArray, List.append_toArray, List.nil_append, List.cons_append]
  gi_wp2_with fail
  refine ⟨trivial, callsIn_world (fun W0 hW0 => ?_)⟩
  obtain ⟨hB0, hB1, hB2, hB3, hbw, hs0⟩ := new4 hW0
  clear hW0
  generalize hp : w.heap.size = p at *
  have HP := Lib.hid hp
  clear hp
  refine (callsIn_wide.2 (CH.out _)).mono ?_
  rintro e w1 ⟨rfl, hb1⟩
  replace hB0 := hB0.below hb1 hB0.lt
  replace hB1 := hB1.below hb1 hB1.lt
  replace hB2 := hB2.below hb1 hB2.lt
  replace hB3 := hB3.below hb1 hB3.lt
  replace hbw := hbw.trans (hb1.mono (by omega))
  clear hs0 hb1
  obtain ⟨⟨d0, d1, d2⟩, _⟩ := hB1.three
  gi_wp2_with fail
  refine ⟨trivial, (callsIn_wide.2 (CK.out _)).mono ?_⟩
  rintro e w2 ⟨rfl, hb1⟩
  have h3l := hB3.lt
  replace hB0 := hB0.below hb1 hB0.lt
  replace hB1 := hB1.below hb1 hB1.lt
  replace hB2 := hB2.below hb1 hB2.lt
  replace hB3 := hB3.below hb1 hB3.lt
  replace hbw := hbw.trans (hb1.mono (by omega))
  clear hb1 d0 d1 d2 h3l
  obtain ⟨⟨d0, d1, d2⟩, _⟩ := hB1.three
  gi_wp2_with fail
  have h3l := hB3.lt
  refine ⟨trivial, (callsIn_wide.2 (CI.out _ ((HR.out.below hbw (Nat.le_refl _)).more (by omega)))).mono ?_⟩
  rintro e w3 ⟨bm, rfl, hbm, hmap, hb1⟩
  replace hB0 := hB0.below hb1 hB0.lt
  replace hB1 := hB1.below hb1 hB1.lt
  replace hB2 := hB2.below hb1 hB2.lt
  replace hB3 := hB3.below hb1 hB3.lt
  replace hbw := hbw.trans (hb1.mono (by omega))
  have h3m : p + 1 + 1 + 1 < w3.heap.size := hB3.lt
  have hpm : p + 1 + 1 + 1 < bm := by omega
  clear hb1 d0 d1 d2 h3l hbm
  have d0 : w3.cell? ⟨p, 0, none⟩ = some (.slice (some ⟨gh, oh, none⟩) L ch) := hB0.cell 0
  obtain ⟨⟨d1, d2, d3⟩, _⟩ := hB1.three
  have hp3 : p < w3.heap.size := hB0.lt
  have hp4 : p + 1 < w3.heap.size := hB1.lt
  gi_wp2_with fail
  refine ⟨trivial, callsIn_world (fun W4 hW4 => ?_)⟩
  obtain ⟨hBm, hb4, hs4⟩ := new1 hW4
  replace hmap := hmap.kept (grownBy_of_below hb4) (by simp)
  replace hB0 := hB0.below hb4 hB0.lt
  replace hB1 := hB1.below hb4 hB1.lt
  replace hB2 := hB2.below hb4 hB2.lt
  replace hB3 := hB3.below hb4 hB3.lt
  replace hbw := hbw.trans (hb4.mono (by omega))
  clear hW4 hb4 d0 d1 d2 d3 hp3 hp4
  generalize hq : w3.heap.size = q at *
  clear hq
  refine (callsIn_wide.2 (places_mk (.slice (some ⟨gh, oh, none⟩) L ch) _ _ _ W4)).mono ?_
  rintro e w5 ⟨rfl, hw5⟩
  obtain ⟨hBx, hBy, hb5, hs5⟩ := new2 hw5
  have hml := hmap.lt
  replace hmap := hmap.kept (grownBy_of_below hb5) (by simp)
  replace hB0 := hB0.below hb5 hB0.lt
  replace hB2 := hB2.below hb5 hB2.lt
  replace hB3 := hB3.below hb5 hB3.lt
  replace hBm := hBm.below hb5 hBm.lt
  replace hbw := hbw.trans (hb5.mono (by omega))
  clear hw5 hb5 hB1
  generalize hq : W4.heap.size = q1 at *
  clear hq
  subst hs4
  have hxl := hBx.lt
  have hyl := hBy.lt
  gi_wp2_with fail
  refine wpIn_rangeFunc_ownH rfl (by omega) (gf := 105) (lb := #[.pointer (some ⟨q + 1, 0, none⟩), .pointer (some ⟨q + 1 + 1, 0, none⟩)]) rfl trivial (enters_of Try.func105 (by kernel_rfl) rfl)
    (places_stops 5 (q + 1) (q + 1 + 1) L m n ch c (L + 1 - n) (some ⟨gh, oh, none⟩) A (m * n) w5 (by omega) hL2 hn rfl hBx hBy) kpL_t (kpL_b (by simp; omega)) (Below.refl _ _) (fun _ => rfl)
    (fun pre W => ((Blk W p 59 #[.slice (some ⟨gh, oh, none⟩) L ch] ∧ Blk W q 125 #[.map (some bm)]) ∧ (Blk W (p + 1 + 1) 3 #[.int .i64 0] ∧ Blk W (p + 1 + 1 + 1) 4 #[.bool false])) ∧ (W.ownsMap Try.prog 3 uE bm (m * n) (setOf uD (inkKeys m D (m * n))) ∧ ((Below p w W ∧ w5.heap.size ≤ W.heap.size) ∧ (∀ y ∈ pre, wholeAt m D Dead y.1 = false))))
    (fun c pre W => c = Code.ret ∧ ∃ (pre' : List (Fin (L + 1 - n))) (x : Fin (L + 1 - n)), pre = pre' ++ [x] ∧ wholeAt m D Dead x.1 = true ∧ (∀ y ∈ pre', wholeAt m D Dead y.1 = false) ∧ Blk W (p + 1 + 1) 3 #[.int .i64 (x.1 : Int)] ∧ Blk W (p + 1 + 1 + 1) 4 #[.bool true] ∧ Below p w W ∧ w5.heap.size ≤ W.heap.size)
    (OwnFrom.and (OwnFrom.and (OwnFrom.and (Go.Own.from (blk_own _ _ _) _) (Go.Own.from (blk_own _ _ _) _)) (OwnFrom.and (Go.Own.from (blk_own _ _ _) _) (Go.Own.from (blk_own _ _ _) _)))
      (OwnFrom.and (fun s X Y row hs hg hr => hs.kept hg (fun e => by have := (hr bm e.symm).1; omega)) (OwnFrom.and (OwnFrom.and (ownFrom_below (by rw [HP.out]; exact Nat.le_refl _) (by omega)) (fun _ _ _ _ hs hg _ => Nat.le_trans hs hg.size)) (ownFrom_pure _ _))))
    (fun c s X Y row hs hg hr => by
      obtain ⟨h1, pre', x, h2, h3, h4, h5, h6, h7, h8⟩ := hs
      exact ⟨h1, pre', x, h2, h3, h4, blk_own _ _ (fun (_ : Unit) => #[.int .i64 (x.1 : Int)]) () X Y row h5 hg (fun r e => (hr r e).2), blk_own _ _ (fun (_ : Unit) => #[.bool true]) () X Y row h6 hg (fun r e => (hr r e).2),
        ownFrom_below (β := Unit) (B := w5.heap.size) (by rw [HP.out]; exact Nat.le_refl _) (by omega) () X Y row h7 hg hr, Nat.le_trans h8 hg.size⟩)
    ⟨⟨⟨hB0, hBm⟩, hB2, hB3⟩, hmap, ⟨hbw, Nat.le_refl _⟩, fun y hy => by cases hy⟩
    (fun x a' W => a' = { tmps := (.agg #[.slice (some ⟨gh, oh, none⟩) L ch] :: .agg #[.int .i64 m, .int .i64 n, .slice A (m * n) c] :: .pointer (some ⟨p, 0, none⟩) :: .pointer (some ⟨p + 1, 0, none⟩) :: .pointer (some ⟨p + 1 + 1, 0, none⟩) :: .pointer (some ⟨p + 1 + 1 + 1, 0, none⟩) :: .pointer (some ⟨q, 0, none⟩) :: .int .i64 (x.1 : Int) :: undef :: undef ::
      .agg #[.slice (some ⟨gh, oh, none⟩) L ch] :: .int .i64 0 :: .bool false :: .bool false :: .agg #[.int .i64 m, .int .i64 n, .slice A (m * n) c] :: .int .i64 0 :: .bool false :: .bool false :: .agg #[.int .i64 m, .int .i64 n, .slice A (m * n) c] :: .map (some bm) :: .agg #[.slice (some ⟨gh, oh, none⟩) L ch] :: .agg #[.int .i64 m, .int .i64 n, .slice A (m * n) c] ::
      .func (.func 105) #[] #[.pointer (some ⟨q + 1, 0, none⟩), .pointer (some ⟨q + 1 + 1, 0, none⟩)] :: .int .i64 (x.1 : Int) :: [undef, undef, undef, undef, undef, undef, undef, undef, undef, undef, undef, undef, undef, undef, undef, undef, undef, undef, undef]).toArray, defers := [] })
    (fun x a' _ X Y row hs hg hr => hs)
    ?assign ?body ?done ?stop
  case assign =>
    rintro l pre x W K ⟨⟨⟨b0, bq⟩, b2, b3⟩, bmap, ⟨hBW, hw1⟩, hpre⟩ hK
    dsimp only at hK ⊢
    generalize x.1 = kx at hK ⊢
    gi_wp2
    exact hK _ _ (KeepsFrom.refl _ _) (KpL.refl _ _) ⟨⟨⟨b0, bq⟩, b2, b3⟩, bmap, ⟨hBW, hw1⟩, hpre⟩ rfl
  case body =>
    rintro l pre x a' W hl ⟨r, hr⟩ ⟨⟨⟨b0, bq⟩, b2, b3⟩, bmap, ⟨hBW, hw1⟩, hpre⟩ rfl hlt
    have hx2 := x.2
    have cq : W.cell? ⟨q, 0, none⟩ = some (.map (some bm)) := bq.cell 0
    have hxe : ∃ kx, kx = x.1 := ⟨_, rfl⟩
    have hcD : ∀ k (hk : k < Dead.length), W.cell? ⟨gh, oh + k, none⟩ = some (.bool Dead[k]) := fun k hk => (hBW.cell (p := ⟨gh, oh + k, none⟩) hgh).trans (HCH.out k hk)
    have HC := Lib.hid hcD
    clear hcD
    have hql : q < W.heap.size := bq.lt
    have hpl : p < W.heap.size := b0.lt
    have hbml := bmap.lt
    gi_wp2_with (gi_at_range; refine wpListIn_range_own _ rfl _ 125 rfl 3 142 key_int u125 uE bm (m * n) _ rfl bmap ?_; intro w0 hrg0 hg0 hs0)
    go_frame
    have hb0 : Below W.heap.size W w0 := (Below.refl _ _).grown hg0 (Nat.le_refl _) (fun _ h => by cases h)
    gi_loopw [8] (fun v8 wr => ∃ (left : Lit → Bool) (cnt : Nat) (bv : Bool), wr.ranges Try.prog 3 uE bm W.heap.size (m * n) (setOf uD (inkKeys m D (m * n))) left cnt ∧ Below W.heap.size W wr ∧ v8 = .bool bv ∧ okTill m (m * n) x.1 D Dead left bv ∧ (∀ kl, left kl = true → Maps.has (setOf uD (inkKeys m D (m * n))) kl = true))
      (fun _ wr => wr.rangeLeft bm W.heap.size)
    case atStart => exact ⟨_, _, true, hrg0, hb0, rfl, till_start, fun _ h => h⟩
    case round =>
      clear hrg0 hg0 hs0 hb0 cq
      obtain ⟨left, cnt, bv, hrg, hbr, rfl, hok, hlft⟩ := hrel
      have HOK := Lib.hid hok
      have HLF := Lib.hid hlft
      clear hok hlft
      gi_wp2_with (gi_at_next; refine next_set _ rfl _ rfl bm W.heap.size (m * n) _ _ _ rfl hrg ?_ ?_)
      · intro hl0
        have hend := Lib.hid (till_end HOK.out HD.out hl0)
        clear hl0 HOK HLF
        cases bv with
        | true =>
          have k2 := b2.below hbr b2.lt
          have k3 := b3.below hbr b3.lt
          have fz2 := k2.frozen 0
          have fz3 := k3.frozen 0
          have c2 : wr.cell? ⟨p + 1 + 1, 0, none⟩ = some (.int .i64 0) := k2.cell 0
          have c3 : wr.cell? ⟨p + 1 + 1 + 1, 0, none⟩ = some (.bool false) := k3.cell 0
          have hbz := hbr.size
          gi_wp2
          refine ⟨(((keeps_below hbr).trans (KeepsOthers.setCell _ _ _)).trans (KeepsOthers.setCell _ _ _)).from _, rfl, pre, x, rfl, hend.out, hpre, ?_, ?_, below_set (below_set (hBW.trans (hbr.mono (by omega))) (by omega) _) (by omega) _, by simp; omega⟩
          · exact (show Blk _ _ _ _ by simpa using k2.set_ 0 (.int .i64 (x.1 : Int))).far (p := ⟨p + 1 + 1 + 1, 0, none⟩) (by simp) _
          · simpa using (k3.far (p := ⟨p + 1 + 1, 0, none⟩) (by simp) (.int .i64 (x.1 : Int))).set_ 0 (.bool true)
        | false =>
          have hbz := hbr.size
          gi_wp2
          refine ⟨(keeps_below hbr).from _, KpL.below hbr (by simp; omega), ⟨⟨⟨b0.below hbr b0.lt, bq.below hbr bq.lt⟩, b2.below hbr b2.lt, b3.below hbr b3.lt⟩, bmap.kept (grownBy_of_below hbr) (by simp), ⟨hBW.trans (hbr.mono (by omega)), Nat.le_trans hw1 hbr.size⟩, ?_⟩⟩
          intro y hy
          rcases List.mem_append.1 hy with h | h
          · exact hpre y h
          · obtain rfl : y = x := by simpa using h
            exact hend.out
      · intro y w1 cnt1 hly hrg1 hlt1 hg1 hs1 hen
        obtain ⟨k0, hk0, hon, hye⟩ := has_ink.1 (HLF.out _ hly)
        injection hye with _ hye
        subst hye
        have hstep := Lib.hid (fun d hd => till_step (d := d) HOK.out hd ⟨k0, hk0, hon, rfl⟩)
        have hmp : 0 < m := Nat.pos_of_mul_pos_right (Nat.lt_of_le_of_lt (Nat.zero_le _) hk0)
        have hky : k0 / m < n := Nat.div_lt_of_lt_mul hk0
        have hxl : x.1 + k0 / m < Dead.length := by have := HL.out; omega
        have hb1 : Below W.heap.size W w1 := hbr.grown hg1 hbr.size (fun j hj => by cases hj; exact Nat.le_refl _)
        have hcd := (hb1.cell (p := ⟨gh, oh + (x.1 + k0 / m), none⟩) (by show gh < W.heap.size; omega)).trans (HC.out _ hxl)
        have hgd : Dead.getD (x.1 + k0 / m) false = Dead[x.1 + k0 / m] := by rw [List.getD_eq_getElem?_getD, List.getElem?_eq_getElem hxl]; rfl
        have hst := Lib.hid (hstep.out _ hgd)
        have hlf2 : Hid (∀ kl, (left kl && !kl.sameKey (Lit.int .i64 ((k0 / m : Nat) : Int))) = true → Maps.has (setOf uD (inkKeys m D (m * n))) kl = true) := Lib.hid (fun kl h => HLF.out kl (by cases hlk : left kl <;> simp_all))
        have cp := (b0.below hb1 hpl).cell 0
        have cp : w1.cell? ⟨p, 0, none⟩ = some (.slice (some ⟨gh, oh, none⟩) L ch) := cp
        have hml : w1.rangeLeft bm W.heap.size < wr.rangeLeft bm W.heap.size := by rw [hrg1.left_eq, hrg.left_eq]; exact hlt1
        have hml' := Lib.hid hml
        clear hml hstep hgd HLF HOK hlt1 hly hg1
        generalize Dead[x.1 + k0 / m] = d at *
        generalize k0 / m = ky at *
        have hxl2 := hxl
        rw [← HL.out] at hxl2
        cases bv with
        | true =>
          gi_wp2
          go_roundw
          case rel =>
            have h9 : okTill m (m * n) x.1 D Dead (fun z => left z && !z.sameKey (Lit.int .i64 (ky : Int))) (!d) := by simpa only [Bool.true_and] using hst.out
            first | exact ⟨_, ⟨cnt1, hrg1⟩, hb1, h9, hlf2.out⟩ | exact ⟨_, cnt1, hrg1, hb1, h9, hlf2.out⟩ | exact ⟨_, cnt1, !d, hrg1, hb1, rfl, h9, hlf2.out⟩
          case measure => exact hml'.out
        | false =>
          gi_wp2
          go_roundw
          case rel =>
            have h9 : okTill m (m * n) x.1 D Dead (fun z => left z && !z.sameKey (Lit.int .i64 (ky : Int))) false := by simpa only [Bool.false_and] using hst.out
            first | exact ⟨_, ⟨cnt1, hrg1⟩, hb1, h9, hlf2.out⟩ | exact ⟨_, cnt1, hrg1, hb1, h9, hlf2.out⟩ | exact ⟨_, cnt1, false, hrg1, hb1, rfl, h9, hlf2.out⟩
          case measure => exact hml'.out
  case done =>
    rintro D' ys W hD' rfl ⟨⟨⟨b0, bq⟩, b2, b3⟩, bmap, ⟨hBW, hw1⟩, hpre⟩ hK
    have hoff := Lib.hid (off_none (m := m) (n := n) (D := D) (Dead := Dead) (fun y hy => hpre ⟨y, by rw [HL.out]; exact hy⟩ (List.mem_finRange _)))
    have c2 : W.cell? ⟨p + 1 + 1, 0, none⟩ = some (.int .i64 0) := b2.cell 0
    have c3 : W.cell? ⟨p + 1 + 1 + 1, 0, none⟩ = some (.bool false) := b3.cell 0
    have f2 := b2.frozen 0
    have f3 := b3.frozen 0
    gi_wp2
    have hK9 := ((KeepsOthers.setCell W ⟨p + 1 + 1, 0, none⟩ (.int .i64 0)).trans (KeepsOthers.setCell _ ⟨p + 1 + 1 + 1, 0, none⟩ (.bool false))).same D' _ hK rfl
    have e2 : Blk ((W.setCell ⟨p + 1 + 1, 0, none⟩ (.int .i64 0)).setCell ⟨p + 1 + 1 + 1, 0, none⟩ (.bool false)) (p + 1 + 1) 3 #[.int .i64 0] := (show Blk _ _ _ _ by simpa using b2.set_ 0 (.int .i64 0)).far (p := ⟨p + 1 + 1 + 1, 0, none⟩) (by simp) _
    have e3 : Blk ((W.setCell ⟨p + 1 + 1, 0, none⟩ (.int .i64 0)).setCell ⟨p + 1 + 1 + 1, 0, none⟩ (.bool false)) (p + 1 + 1 + 1) 4 #[.bool false] := by simpa using (b3.far (p := ⟨p + 1 + 1, 0, none⟩) (by simp) (.int .i64 0)).set_ 0 (.bool false)
    have hB9 : Below p w ((W.setCell ⟨p + 1 + 1, 0, none⟩ (.int .i64 0)).setCell ⟨p + 1 + 1 + 1, 0, none⟩ (.bool false)) := below_set (below_set hBW (by omega) _) (by omega) _
    generalize (W.setCell ⟨p + 1 + 1, 0, none⟩ (.int .i64 0)).setCell ⟨p + 1 + 1 + 1, 0, none⟩ (.bool false) = W9 at *
    refine ⟨by simp, .inl ⟨_, _, rfl, run_takeDeferred hK9, ?_⟩⟩
    have g2 : (W9.putObj D' (.deferred none)).cell? ⟨p + 1 + 1, 0, none⟩ = some (.int .i64 0) := (blk_own _ _ (fun (_ : Unit) => #[.int .i64 0]) () _ _ _ e2 (grownBy_putObj' W9 D' (.deferred none)) (fun r e => by cases e; exact ⟨_, hK9, rfl⟩)).cell 0
    have g3 : (W9.putObj D' (.deferred none)).cell? ⟨p + 1 + 1 + 1, 0, none⟩ = some (.bool false) := (blk_own _ _ (fun (_ : Unit) => #[.bool false]) () _ _ _ e3 (grownBy_putObj' W9 D' (.deferred none)) (fun r e => by cases e; exact ⟨_, hK9, rfl⟩)).cell 0
    refine ⟨.tuple #[.int .i64 0, .bool false], by simp [results, Try.results42, go_sem, g2, g3], ?_, ?_⟩
    · rw [hoff.out]; rfl
    · rw [HP.out]
      exact hB9.trans (belowK_b (w := w5) (by omega) W9 D' _ _ hD' hK9 rfl rfl)
  case stop =>
    rintro D' c' pre W hD' hpre ⟨rfl, pre', x, rfl, h3, h4, h5, h6, h7, h8⟩ hK
    gi_wp2
    refine ⟨by simp, .inl ⟨_, _, rfl, run_takeDeferred hK, ?_⟩⟩
    have hxn : x.1 = pre'.length ∧ pre' = (List.finRange (L + 1 - n)).take pre'.length := by
      have e1 : pre'.length < L + 1 - n := by
        have := congrArg List.length hpre
        simp at this
        omega
      have e2 : (pre' ++ [x]).length = pre'.length + 1 := by simp
      rw [e2, take_fin_succ e1] at hpre
      have e3 := List.append_inj hpre (by simp; omega)
      refine ⟨?_, e3.1⟩
      have := e3.2
      injection this with h _
      rw [h]
    have hoff := off_found (m := m) (n := n) (D := D) (Dead := Dead) (x := x.1) (by rw [← HL.out]; exact x.2) h3 (fun y hy => by
      have hyl : y < L + 1 - n := by have := x.2; omega
      refine h4 ⟨y, hyl⟩ ?_
      have hyx : y < pre'.length := by rw [← hxn.1]; exact hy
      rw [hxn.2]
      rw [List.mem_take_iff_getElem]
      exact ⟨y, by simp; omega, by simp⟩)
    have g2 : (W.putObj D' (.deferred none)).cell? ⟨p + 1 + 1, 0, none⟩ = some (.int .i64 (x.1 : Int)) := (blk_own _ _ (fun (_ : Unit) => #[.int .i64 (x.1 : Int)]) () _ _ _ h5 (grownBy_putObj' W D' (.deferred none)) (fun r e => by cases e; exact ⟨_, hK, rfl⟩)).cell 0
    have g3 : (W.putObj D' (.deferred none)).cell? ⟨p + 1 + 1 + 1, 0, none⟩ = some (.bool true) := (blk_own _ _ (fun (_ : Unit) => #[.bool true]) () _ _ _ h6 (grownBy_putObj' W D' (.deferred none)) (fun r e => by cases e; exact ⟨_, hK, rfl⟩)).cell 0
    refine ⟨.tuple #[.int .i64 (x.1 : Int), .bool true], by simp [results, Try.results42, go_sem, g2, g3], ?_, ?_⟩
    · rw [hoff]; rfl
    · rw [HP.out]
      exact h7.trans (belowK_b (w := w5) (by omega) W D' _ _ hD' hK rfl rfl)
end Go.Proofs.Ytlanefdeeanpnaa
