/-
  count of the program's bitmap package: the dots for which a function value says yes. Conditions: a well-formed bitmap whose dots are read; the function value's contract.
-/
import Derived.Test.YtlanefdeeanpnaaDots
namespace Go.Proofs.Ytlanefdeeanpnaa
set_option linter.unusedVariables false
set_option linter.unusedSimpArgs false
open Go.RowKit Go.Shelf
attribute [local go_sem] Oper.semAt_some

theorem keeps_below {W W' : World} (h : Below W.heap.size W W') : KeepsOthers W W' := ⟨h.size, fun k o hk _ => (h.block k (Array.getElem?_eq_some_iff.1 hk).1).trans hk⟩
theorem keeps_kp {W W' : World} {l : List Nat} (h : Kp l W W') (hl : ∀ k ∈ l, ∃ cs t fr, W.heap[k]? = some (.cells cs t fr)) : KeepsOthers W W' := ⟨h.size, fun k o hk ho => by
  refine (h.block k (Array.getElem?_eq_some_iff.1 hk).1 (fun hm => ?_)).trans hk
  obtain ⟨cs, t, fr, hc⟩ := hl k hm
  rw [hc] at hk
  injection hk with hk
  subst hk
  simp [Obj.isCells] at ho⟩
theorem blk_own {β : Type} (g : Nat) (t : TypeId) (f : β → Array Value) : Go.Own (fun s W => Blk W g t (f s)) := fun s X Y row hs hg hr =>
  Blk.grown hs hg (fun e => by
    obtain ⟨o, ho, hc⟩ := hr g e.symm
    unfold Blk at hs
    rw [hs] at ho
    injection ho with ho
    subst ho
    simp [Obj.isCells] at hc)

theorem callsIn_world {F : Fence} {n : Nat} {P : Program} {f : FuncId} {args : Array Value} {W : World} {R : Ending → World → Prop} (h : ∀ W', W' = W → CallsIn F n P f args W' R) : CallsIn F n P f args W R := h W rfl
theorem wpIn_world {F : Fence} {n : Nat} {P : Program} {c : Code} {Q : Exit → Act → World → Prop} {a : Act} {W : World} (h : ∀ W', W' = W → Code.wpIn F n P c Q a W') : Code.wpIn F n P c Q a W := h W rfl

set_option maxRecDepth 100000 in
set_option maxHeartbeats 4000000 in
theorem bmcount_any (m n c fid : Nat) (caps : Array Value) (A : Option Addr) (D : List Bool) (p : Nat → Bool) (w : World) (hm : m ≤ 96) (hn : n ≤ 96) (hD : D.length = m * n) (hrd : Rd Value.bool w w.heap.size A D)
    (heg : ∀ args w, (callFunc fid args).run Try.prog w = .ok (.enter fid args) w)
    (hp : ∀ (x : Fin (m * n)) w', Below w.heap.size w w' → Calls Try.prog fid (#[.agg #[.int .i64 ((x.1 % m : Nat) : Int), .int .i64 ((x.1 / m : Nat) : Int)]] ++ caps) w' fun e w'' => e = .returned (.bool (p x.1)) ∧ Below w'.heap.size w' w'') :
    Calls Try.prog 84 #[.agg #[.int .i64 m, .int .i64 n, .slice A (m * n) c], .func (.func fid) #[] caps] w fun e w' => e = .returned (.int .i64 (((onL (m * n) D).filter fun k => p k.1).length : Int)) ∧ Below w.heap.size w w' := by
  have hmn : m * n ≤ 9216 := Nat.mul_le_mul hm hn
  refine (callsIn_wide (n := 6)).1 ?_
  refine callsIn_of_wp_marks Try.func84 rfl trivial ?_ rfl
  simp only [Try.ntmps84, List.size_toArray, List.length_cons, List.length_nil, Nat.reduceAdd, Nat.reduceSub, Array.replicate_succ, Array.replicate_zero, List.push_toArray, List.append_toArray, List.nil_append, List.cons_append]
  have HP := Lib.hid hp
  have HR := Lib.hid hrd
  have HD := Lib.hid hD
  have HE := Lib.hid heg
  clear hp hrd hD heg
  gi_wp2_with fail
  refine ⟨trivial, callsIn_world (fun W0 hW0 => ?_)⟩
  obtain ⟨hB0, hB1, hB2, hbw, hsz⟩ := new3 hW0
  clear hW0
  generalize hp0 : w.heap.size = p0 at *
  have HP0 := Lib.hid hp0
  clear hp0
  refine (callsIn_wide.2 (dots_mk (.agg #[.int .i64 m, .int .i64 n, .slice A (m * n) c]) _ _ _ W0 rfl)).mono ?_
  rintro e w1 ⟨rfl, hw1⟩
  obtain ⟨hB3, hb3, hsz3⟩ := new1 hw1
  have hB0 := hB0.below hb3 hB0.lt
  have hB1 := hB1.below hb3 hB1.lt
  have hB2 := hB2.below hb3 hB2.lt
  have hbw := hbw.trans (hb3.mono (by omega))
  clear hw1 hb3
  rw [hsz] at hB3 hsz3 ⊢
  have hrd1 : Rd Value.bool w1 w1.heap.size A D := (HR.out.below hbw (Nat.le_refl _)).more (by omega)
  obtain ⟨gd, hgd, hgA, hg0, hstops⟩ := dots_stops_any 5 (p0 + 1 + 1 + 1) m n c A D w1 (by omega) hm hn HD.out hB3 hrd1
  have hne1 : p0 + 1 + 1 ≠ gd := by
    by_cases hN : 0 < m * n
    · obtain ⟨o, ho⟩ := hgA hN
      obtain ⟨b', o', hbo, hlt, _⟩ := HR.out (by rw [HD.out]; exact hN)
      rw [ho] at hbo
      injection hbo with hbo
      injection hbo with hb1 _ _
      omega
    · have := hg0 (by omega)
      omega
  gi_wp2_with fail
  refine wpIn_rangeFunc_ownH rfl (by omega) (gf := 103) (lb := #[.pointer (some ⟨p0 + 1 + 1 + 1, 0, none⟩)]) rfl trivial (enters_of Try.func103 (by kernel_rfl) rfl)
    hstops kpL_t (kpL_b (by have := hB3.lt; simp; omega)) (Below.refl _ _) (fun _ => rfl)
    (fun pre W => (Blk W (p0 + 1 + 1) 3 #[.int .i64 ((pre.filter fun k => p k.1).length : Int)] ∧ Blk W (p0 + 1) 131 #[.func (.func fid) #[] caps]) ∧ (Below p0 w W ∧ w1.heap.size ≤ W.heap.size))
    (fun _ _ _ => False)
    (OwnFrom.and (OwnFrom.and (Go.Own.from (blk_own _ _ _) _) (Go.Own.from (blk_own _ _ _) _)) (OwnFrom.and (ownFrom_below (by rw [HP0.out]; exact Nat.le_refl _) (by omega)) (fun _ _ _ _ hs hg _ => Nat.le_trans hs hg.size)))
    (fun _ _ _ _ _ hs _ _ => hs)
    ⟨⟨hB2, hB1⟩, hbw, Nat.le_refl _⟩
    (fun x a' W => ∃ Bx, p0 + 1 + 1 < Bx ∧ Blk W Bx 116 #[.int .i64 ((x.1 % m : Nat) : Int), .int .i64 ((x.1 / m : Nat) : Int)] ∧ a' = { tmps := #[.agg #[.int .i64 m, .int .i64 n, .slice A (m * n) c], .func (.func fid) #[] caps, .pointer (some ⟨p0, 0, none⟩), .pointer (some ⟨p0 + 1, 0, none⟩), .int .i64 0, .pointer (some ⟨p0 + 1 + 1, 0, none⟩), .pointer (some ⟨Bx, 0, none⟩), .agg #[.int .i64 m, .int .i64 n, .slice A (m * n) c], .func (.func 103) #[] #[.pointer (some ⟨p0 + 1 + 1 + 1, 0, none⟩)], .agg #[.int .i64 ((x.1 % m : Nat) : Int), .int .i64 ((x.1 / m : Nat) : Int)], undef, undef, undef, undef, undef, undef], defers := [] })
    (fun x a' _ X Y row hs hg hr => by obtain ⟨Bx, h1, h2, h3⟩ := hs; exact ⟨Bx, h1, blk_own Bx 116 (fun (_ : Unit) => #[.int .i64 ((x.1 % m : Nat) : Int), .int .i64 ((x.1 / m : Nat) : Int)]) () X Y row h2 hg (fun r e => (hr r e).2), h3⟩)
    ?assign ?body ?done ?stop
  case assign =>
    rintro l pre x W K ⟨⟨bS1, bB1⟩, hB1', hw1⟩ hK
    dsimp only at hK ⊢
    generalize x.1 % m = kx at hK ⊢
    generalize x.1 / m = ky at hK ⊢
    gi_wp2
    exact hK _ _ ((KeepsOthers.alloc _ _).from _) (KpL.grown (World.grownBy_alloc W _ none) (by have := hB3.lt; simp; omega) (fun _ _ h => by cases h)) ⟨⟨bS1.alloc _, bB1.alloc _⟩, hB1'.alloc (by have := bS1.lt; omega) _, by simp; omega⟩ ⟨W.heap.size, bS1.lt, Blk.new W 116 _, rfl⟩
  case body =>
    rintro l pre x a' W hl ⟨r, hr⟩ ⟨⟨bS1, bB1⟩, hB1', hw1⟩ ⟨Bx, hBx, bX, rfl⟩ hlt
    have hpx := HP.out x
    have hpl : (pre.filter fun k => p k.1).length ≤ pre.length := List.length_filter_le _ _
    generalize x.1 % m = kx at bX hpx ⊢
    generalize x.1 / m = ky at bX hpx ⊢
    generalize hcn : (pre.filter fun k => p k.1).length = cn at bS1 hpl
    obtain ⟨⟨x0, x1⟩, _⟩ := bX.two
    have c0 := bB1.cell 0
    have s0 := bS1.cell 0
    have fs := bS1.frozen 0
    have heg := HE.out
    have hsz1 := bS1.lt
    have hlt2 : cn < m * n := by omega
    gi_wp2_with fail
    clear heg
    refine ⟨trivial, CallsIn.inRound l (((callsIn_wide.2 (hpx W hB1')).mono ?_))⟩
    rintro e w2 ⟨rfl, hb2⟩
    have hS2 := bS1.below hb2 bS1.lt
    have hF2 := bB1.below hb2 bB1.lt
    have s0 := hS2.cell 0
    have fs := hS2.frozen 0
    have hsz2 := hb2.size
    have hgdl : p0 + 1 + 1 + 1 < W.heap.size ∧ gd < W.heap.size := by have := hB3.lt; omega
    have hcs : ((pre ++ [x]).filter fun k => p k.1).length = cn + if p x.1 = true then 1 else 0 := by rw [List.filter_append, List.length_append, hcn, List.filter_cons]; split <;> rfl
    have HCS := Lib.hid hcs
    have HCN := Lib.hid hcn
    clear hcs hcn hpx
    generalize p x.1 = px at *
    cases px with
    | true =>
      gi_wp2
      refine ⟨((keeps_below hb2).trans (KeepsOthers.setCell _ _ _)).from _, (KpL.below hb2 (by simp; omega)).trans (KpL.kp ((Kp.refl [p0 + 1 + 1] w2).set (.inl (by simp)) 0 _) (by simp; omega)), ⟨⟨?_, hF2.far (p := ⟨p0 + 1 + 1, 0, none⟩) (by simp) _⟩, below_set (hB1'.trans (hb2.mono (by omega))) (by omega) _, by simp; omega⟩⟩
      rw [HCS.out]
      simpa using hS2.set_ 0 (.int .i64 ((cn : Int) + 1))
    | false =>
      gi_wp2
      refine ⟨(keeps_below hb2).from _, KpL.below hb2 (by simp; omega), ⟨⟨?_, hF2⟩, hB1'.trans (hb2.mono (by omega)), by omega⟩⟩
      rw [HCS.out]
      simpa using hS2
  case done =>
    rintro D' ys W hD' rfl ⟨⟨bS1, bB1⟩, hB1', hw1⟩ hK
    have s0 := bS1.cell 0
    gi_wp2
    refine ⟨by simp, .inl ⟨_, _, rfl, run_takeDeferred hK, ?_⟩⟩
    exact ⟨_, results_tmp rfl _ _ _, rfl, by rw [HP0.out]; exact hB1'.trans (belowK_b (w := w1) (by omega) W D' _ _ (by omega) hK rfl rfl)⟩
  case stop =>
    rintro D' c' pre W _ _ h _
    exact h.elim
end Go.Proofs.Ytlanefdeeanpnaa
