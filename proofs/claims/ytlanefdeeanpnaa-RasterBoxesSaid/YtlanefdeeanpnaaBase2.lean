/-
  More words for the proofs of this seat: what stands in memory as one list of blocks, and how it is carried. Conditions: none; no function of the program is named here.
-/
import Derived.Test.YtlanefdeeanpnaaRegion
namespace Go.Proofs.Ytlanefdeeanpnaa
set_option linter.unusedVariables false
set_option linter.unusedSimpArgs false
open Go.RowKit

theorem k_world {K : Act → World → Prop} {a : Act} {W : World} (h : ∀ W', W' = W → K a W') : K a W := h W rfl

theorem bp_world {P : Program} {fn : Func} {R : Ending → World → Prop} {x : Exit} {a : Act} {W : World} (h : ∀ W', W' = W → bodyPost P fn R x a W') : bodyPost P fn R x a W := h W rfl

section
variable {w W : World} {g : Nat} {t : TypeId}
theorem store1 {a x : Value} (hW : W = w.setCell ⟨g, 0, none⟩ x) (h : Blk w g t #[a]) : Blk W g t #[x] ∧ Kp [g] w W := by
  subst hW
  exact ⟨by simpa using h.set_ 0 x, (Kp.refl [g] w).set (.inl (by simp)) 0 x⟩
theorem store2 {a b x y : Value} (hW : W = (w.setCell ⟨g, 0, none⟩ x).setCell ⟨g, 1, none⟩ y) (h : Blk w g t #[a, b]) : Blk W g t #[x, y] ∧ Kp [g] w W := by
  subst hW
  exact ⟨by simpa using (h.set_ 0 x).set_ 1 y, ((Kp.refl [g] w).set (.inl (by simp)) 0 x).set (.inl (by simp)) 1 y⟩
theorem store3 {a b c x y z : Value} (hW : W = ((w.setCell ⟨g, 0, none⟩ x).setCell ⟨g, 1, none⟩ y).setCell ⟨g, 2, none⟩ z) (h : Blk w g t #[a, b, c]) : Blk W g t #[x, y, z] ∧ Kp [g] w W := by
  subst hW
  exact ⟨by simpa using ((h.set_ 0 x).set_ 1 y).set_ 2 z, (((Kp.refl [g] w).set (.inl (by simp)) 0 x).set (.inl (by simp)) 1 y).set (.inl (by simp)) 2 z⟩
theorem store_at {cs : Array Value} {i : Nat} {x : Value} (hW : W = w.setCell ⟨g, i, none⟩ x) (h : Blk w g t cs) : Blk W g t (cs.setIfInBounds i x) ∧ Kp [g] w W := by
  subst hW
  exact ⟨h.set_ i x, (Kp.refl [g] w).set (.inl (by simp)) i x⟩
theorem Blk.at_ {cs : Array Value} {i : Nat} {x : Value} (h : Blk w g t cs) (hx : cs[i]? = some x) : w.cell? ⟨g, i, none⟩ = some x := (h.cell i).trans hx
end

/-- The region's law with a letter for the world behind the draw. -/
theorem wp_region_L {P : Program} {Q : Exit → Act → World → Prop} {l : List Oper} {id : Nat} {a : Act} {w : World} (n : Nat) (S : World → Prop) (hm : P.follows .mixedOrders = true) (hS : S w.drew)
    (h : ∀ Wd : World, Below w.heap.size w Wd → S Wd → wpT P .any l.toArray Q S n l.length (Array.replicate l.length false) a Wd) : (Code.region id l.toArray true).wp P Q a w :=
  wp_region_T n S hm hS (fun hS => h _ (Below.refl _ _).drew hS)

/-- These blocks are known whole. -/
def Stand (w : World) : List (Nat × TypeId × Array Value) → Prop
  | [] => True
  | (g, t, cs) :: l => Blk w g t cs ∧ Stand w l
def Fresh (l : List Nat) : List (Nat × TypeId × Array Value) → Prop
  | [] => True
  | (g, _, _) :: L => g ∉ l ∧ Fresh l L
section
variable {w w' : World} {L : List (Nat × TypeId × Array Value)} {l : List Nat}
theorem Stand.below (h : Stand w L) (hb : Below w.heap.size w w') : Stand w' L := by
  induction L with
  | nil => trivial
  | cons x l ih => exact ⟨h.1.below hb h.1.lt, ih h.2⟩
theorem Stand.kp (h : Stand w L) (hk : Kp l w w') (hl : Fresh l L) : Stand w' L := by
  induction L with
  | nil => trivial
  | cons x l ih => exact ⟨hk.blk h.1 hl.1, ih h.2 hl.2⟩
end

/-- From w0, where blocks below p0 stood, to w; L is known whole. -/
structure Tr (p0 : Nat) (w0 w : World) (L : List (Nat × TypeId × Array Value)) : Prop where
  low : Below p0 w0 w
  size : p0 ≤ w.heap.size
  stand : Stand w L
section
variable {p0 : Nat} {w0 w w' W : World} {L : List (Nat × TypeId × Array Value)} {l : List Nat}
theorem Tr.start (w : World) : Tr w.heap.size w w [] := ⟨Below.refl _ _, Nat.le_refl _, trivial⟩
theorem Tr.bare (h : Below p0 w0 w) (hs : p0 ≤ w.heap.size) : Tr p0 w0 w [] := ⟨h, hs, trivial⟩
theorem Tr.call (h : Tr p0 w0 w L) (hb : Below w.heap.size w w') : Tr p0 w0 w' L := ⟨h.low.trans (hb.mono h.size), Nat.le_trans h.size hb.size, h.stand.below hb⟩
theorem Tr.drewN (h : Tr p0 w0 w L) (n : Nat) : Tr p0 w0 (w.drewN n) L := h.call (below_drewN (Below.refl _ _) n)
theorem Tr.drew (h : Tr p0 w0 w L) : Tr p0 w0 w.drew L := h.call (Below.refl _ _).drew
theorem Tr.kp (h : Tr p0 w0 w L) (hk : Kp l w w') (hp : ∀ g ∈ l, p0 ≤ g) (hl : Fresh l L) : Tr p0 w0 w' L := ⟨h.low.trans (hk.to_below h.size hp), Nat.le_trans h.size hk.size, h.stand.kp hk hl⟩
theorem Tr.push {g : Nat} {t : TypeId} {cs : Array Value} (h : Tr p0 w0 w L) (hb : Blk w g t cs) : Tr p0 w0 w ((g, t, cs) :: L) := ⟨h.low, h.size, hb, h.stand⟩
theorem Tr.less (h : Tr p0 w0 w L) {L' : List (Nat × TypeId × Array Value)} (hs : Stand w L → Stand w L') : Tr p0 w0 w L' := ⟨h.low, h.size, hs h.stand⟩
theorem Tr.new1 (h : Tr p0 w0 w L) {c0 : Array Value} {t0 : TypeId} (hW : W = w.alloc (.cells c0 t0)) : Tr p0 w0 W ((w.heap.size, t0, c0) :: L) ∧ W.heap.size = w.heap.size + 1 ∧ Below w.heap.size w W := by
  obtain ⟨b0, hb, hs⟩ := Proofs.Ytlanefdeeanpnaa.new1 hW
  exact ⟨(h.call hb).push b0, hs, hb⟩
theorem Tr.new2 (h : Tr p0 w0 w L) {c0 c1 : Array Value} {t0 t1 : TypeId} (hW : W = (w.alloc (.cells c0 t0)).alloc (.cells c1 t1)) :
    Tr p0 w0 W ((w.heap.size, t0, c0) :: (w.heap.size + 1, t1, c1) :: L) ∧ W.heap.size = w.heap.size + 1 + 1 ∧ Below w.heap.size w W := by
  obtain ⟨b0, b1, hb, hs⟩ := Proofs.Ytlanefdeeanpnaa.new2 hW
  exact ⟨((h.call hb).push b1).push b0, hs, hb⟩
theorem Tr.new3 (h : Tr p0 w0 w L) {c0 c1 c2 : Array Value} {t0 t1 t2 : TypeId} (hW : W = ((w.alloc (.cells c0 t0)).alloc (.cells c1 t1)).alloc (.cells c2 t2)) :
    Tr p0 w0 W ((w.heap.size, t0, c0) :: (w.heap.size + 1, t1, c1) :: (w.heap.size + 1 + 1, t2, c2) :: L) ∧ W.heap.size = w.heap.size + 1 + 1 + 1 ∧ Below w.heap.size w W := by
  obtain ⟨b0, b1, b2, hb, hs⟩ := Proofs.Ytlanefdeeanpnaa.new3 hW
  exact ⟨(((h.call hb).push b2).push b1).push b0, hs, hb⟩
theorem Tr.new4 (h : Tr p0 w0 w L) {c0 c1 c2 c3 : Array Value} {t0 t1 t2 t3 : TypeId} (hW : W = (((w.alloc (.cells c0 t0)).alloc (.cells c1 t1)).alloc (.cells c2 t2)).alloc (.cells c3 t3)) :
    Tr p0 w0 W ((w.heap.size, t0, c0) :: (w.heap.size + 1, t1, c1) :: (w.heap.size + 1 + 1, t2, c2) :: (w.heap.size + 1 + 1 + 1, t3, c3) :: L) ∧ W.heap.size = w.heap.size + 1 + 1 + 1 + 1 ∧ Below w.heap.size w W := by
  obtain ⟨b0, b1, b2, b3, hb, hs⟩ := Proofs.Ytlanefdeeanpnaa.new4 hW
  exact ⟨((((h.call hb).push b3).push b2).push b1).push b0, hs, hb⟩
theorem Tr.rd {α : Type} {f : α → Value} {A : Option Addr} {xs : List α} (h : Tr p0 w0 w L) (hr : Rd f w0 p0 A xs) : Rd f w w.heap.size A xs := (hr.below h.low (Nat.le_refl _)).more h.size
theorem Tr.back (h : Tr p0 w0 w L) (hp : w0.heap.size = p0) : Below w0.heap.size w0 w := by rw [hp]; exact h.low
end
theorem stand_set {L : List (Nat × TypeId × Array Value)} {w w' : World} {g : Nat} {t : TypeId} {cs cs' : Array Value} : ∀ (L : List (Nat × TypeId × Array Value)) (i : Nat), Stand w L → L[i]? = some (g, t, cs) → Blk w' g t cs' → Kp [g] w w' → Fresh [g] (L.eraseIdx i) → Stand w' (L.set i (g, t, cs'))
  | [], _, _, hi, _, _, _ => by simp at hi
  | x :: L, 0, h, hi, hb, hk, hf => ⟨hb, h.2.kp hk hf⟩
  | x :: L, i + 1, h, hi, hb, hk, hf => ⟨hk.blk h.1 hf.1, stand_set (L := []) L i h.2 (by simpa using hi) hb hk hf.2⟩
/-- A known block is written. -/
theorem Tr.setAt {p0 : Nat} {w0 w w' : World} {L : List (Nat × TypeId × Array Value)} {g : Nat} {t : TypeId} {cs cs' : Array Value} (h : Tr p0 w0 w L) (i : Nat) (hi : L[i]? = some (g, t, cs)) (hb : Blk w' g t cs') (hk : Kp [g] w w') (hg : p0 ≤ g) (hf : Fresh [g] (L.eraseIdx i)) :
    Tr p0 w0 w' (L.set i (g, t, cs')) :=
  ⟨h.low.trans (hk.to_below h.size (by simpa using hg)), Nat.le_trans h.size hk.size, stand_set (L := []) L i h.stand hi hb hk hf⟩
theorem Stand.at_ : ∀ {L : List (Nat × TypeId × Array Value)} {w : World} (h : Stand w L) (i : Nat) {x : Nat × TypeId × Array Value}, L[i]? = some x → Blk w x.1 x.2.1 x.2.2
  | [], _, _, _, _, hi => by simp at hi
  | y :: L, _, h, 0, x, hi => by
    obtain rfl : y = x := by simpa using hi
    exact h.1
  | y :: L, _, h, i + 1, x, hi => h.2.at_ i (by simpa using hi)
section
variable {w : World} {g : Nat} {t : TypeId}
theorem Blk.five {a b c d e : Value} (h : Blk w g t #[a, b, c, d, e]) : w.cell? ⟨g, 0, none⟩ = some a ∧ w.cell? ⟨g, 1, none⟩ = some b ∧ w.cell? ⟨g, 2, none⟩ = some c ∧ w.cell? ⟨g, 3, none⟩ = some d ∧ w.cell? ⟨g, 4, none⟩ = some e := ⟨h.cell 0, h.cell 1, h.cell 2, h.cell 3, h.cell 4⟩
end
theorem Tr.set3new1 {p0 : Nat} {w0 w W : World} {L : List (Nat × TypeId × Array Value)} {g : Nat} {t t0 : TypeId} {a b c x y z : Value} {c0 : Array Value} (h : Tr p0 w0 w L) (i : Nat) (hi : L[i]? = some (g, t, #[a, b, c])) (hg : p0 ≤ g) (hf : Fresh [g] (L.eraseIdx i))
    (hW : W = (((w.setCell ⟨g, 0, none⟩ x).setCell ⟨g, 1, none⟩ y).setCell ⟨g, 2, none⟩ z).alloc (.cells c0 t0)) : Tr p0 w0 W ((w.heap.size, t0, c0) :: L.set i (g, t, #[x, y, z])) ∧ W.heap.size = w.heap.size + 1 := by
  generalize hX : ((w.setCell ⟨g, 0, none⟩ x).setCell ⟨g, 1, none⟩ y).setCell ⟨g, 2, none⟩ z = X at hW
  obtain ⟨hb, hk⟩ := store3 hX.symm (h.stand.at_ i hi)
  have hs : X.heap.size = w.heap.size := by rw [← hX]; simp
  obtain ⟨T, hz, _⟩ := (h.setAt i hi hb hk hg hf).new1 hW
  rw [hs] at T hz
  exact ⟨T, hz⟩
/-- What is read below W's size is as W has it. -/
theorem sb_of {W w' : World} (hb : Below W.heap.size W w') : (∀ b o, b < W.heap.size → w'.cell? ⟨b, o, none⟩ = W.cell? ⟨b, o, none⟩) ∧ Below W.heap.size W w' := ⟨fun b o h => hb.cell (p := ⟨b, o, none⟩) h, hb⟩
theorem new1n {W w : World} {cs : Array Value} {t : TypeId} (h : W = w.alloc (.cells cs t)) : ∃ q, w.heap.size = q ∧ Blk W q t cs ∧ Below q w W ∧ q < W.heap.size := by
  obtain ⟨a, b, c⟩ := new1 h
  exact ⟨_, rfl, a, b, a.lt⟩
theorem own_blk_ne {α : Type} {f : α → Value} {w : World} {T t : TypeId} {g q : Nat} {xs : List α} {cs : Array Value} (h : Own f T w g xs) (hb : Blk w q t cs) (hT : T ≠ t) : g ≠ q := by
  intro e
  subst e
  unfold Own at h
  unfold Blk at hb
  rw [h] at hb
  injection hb with hb
  injection hb with _ h2 _
  exact hT h2
/-- max of four. -/
def mx4 (a b c d : Int) : Int := if d > (if c > (if b > a then b else a) then c else (if b > a then b else a)) then d else (if c > (if b > a then b else a) then c else (if b > a then b else a))
theorem mx4_le {a b c d x : Int} : mx4 a b c d ≤ x ↔ a ≤ x ∧ b ≤ x ∧ c ≤ x ∧ d ≤ x := by
  unfold mx4
  by_cases h1 : b > a
  · rw [if_pos h1]
    by_cases h2 : c > b
    · rw [if_pos h2]; by_cases h3 : d > c
      · rw [if_pos h3]; omega
      · rw [if_neg h3]; omega
    · rw [if_neg h2]; by_cases h3 : d > b
      · rw [if_pos h3]; omega
      · rw [if_neg h3]; omega
  · rw [if_neg h1]
    by_cases h2 : c > a
    · rw [if_pos h2]; by_cases h3 : d > c
      · rw [if_pos h3]; omega
      · rw [if_neg h3]; omega
    · rw [if_neg h2]; by_cases h3 : d > a
      · rw [if_pos h3]; omega
      · rw [if_neg h3]; omega
theorem run_max_int4 {P : Program} {w : World} (ts : Array TypeId) (t : TypeId) (k : IntKind) (a b c d : Int) : (Builtin.max_ ts t #[.int k a, .int k b, .int k c, .int k d]).run P w = .ok (.int k (mx4 a b c d)) w := by
  simp [Builtin.max_, Builtin.max2, mx4]
def notBool : Value → Bool
  | .bool _ => false
  | _ => true
/-- Dots that are read don't lie in a block without bools. -/
theorem Rd.other {w w' : World} {B g : Nat} {t : TypeId} {cs : Array Value} {A : Option Addr} {xs : List Bool} (h : Rd Value.bool w B A xs) (hb : Blk w g t cs) (hk : Kp [g] w w') (hB : B ≤ w.heap.size) (hcs : cs.toList.all notBool = true) : Rd Value.bool w' B A xs := fun h0 => by
  obtain ⟨b, o, e, hlt, hc⟩ := h h0
  refine ⟨b, o, e, hlt, fun k hk' => ?_⟩
  have hne : b ≠ g := by
    intro he
    subst he
    have h1 := hc k hk'
    rw [hb.cell (o + k)] at h1
    have h2 := List.all_eq_true.1 hcs (.bool xs[k]) (by
      rw [Array.getElem?_eq_some_iff] at h1
      obtain ⟨h3, h4⟩ := h1
      rw [← h4, ← Array.getElem_toList]
      exact List.getElem_mem _)
    simp [notBool] at h2
  rw [hk.cell (by omega) (by simpa using hne)]
  exact hc k hk'
theorem Own.blk {α : Type} {f : α → Value} {T : TypeId} {w : World} {g : Nat} {xs : List α} (h : Own f T w g xs) : Blk w g T (xs.map f).toArray := h
theorem Blk.own {α : Type} {f : α → Value} {T : TypeId} {w : World} {g : Nat} {xs : List α} (h : Blk w g T (xs.map f).toArray) : Own f T w g xs := h
end Go.Proofs.Ytlanefdeeanpnaa
