/-
  Plain lemmas and words for the proofs of this seat: what a slice reads, a block that is known whole, bounds. Conditions: none; no function of the program is named here.
-/
import Derived.Test.YtlanefdeeanpnaaProg
import Derived.WalkKit
import Derived.WalkSpells
import Derived.WalkLawsBesides
import Derived.Lib.Hide
import Derived.Deep.Draws
import Derived.Deep.QuietTactic
import Derived.Deep.AppendLies
namespace Go.Proofs.Ytlanefdeeanpnaa
set_option linter.unusedVariables false
set_option linter.unusedSimpArgs false
open Go.RowKit

theorem ret_int {k : IntKind} {a b : Int} (h : a = b) : Ending.returned (.int k a) = .returned (.int k b) := by rw [h]
theorem ret_bool {a b : Bool} (h : a = b) : Ending.returned (.bool a) = .returned (.bool b) := by rw [h]
theorem w64 {n : Int} (h1 : -9223372036854775808 ≤ n) (h2 : n ≤ 9223372036854775807) : wrap64 n = n := IntWalk.wrap64_in n ⟨h1, h2⟩

theorem bcell {W w1 : World} (hb : Below W.heap.size W w1) : (∀ b o, b < W.heap.size → w1.cell? ⟨b, o, none⟩ = W.cell? ⟨b, o, none⟩) ∧ (∀ b o, b < W.heap.size → w1.frozen? ⟨b, o, none⟩ = W.frozen? ⟨b, o, none⟩) :=
  ⟨fun b o h => hb.cell (p := ⟨b, o, none⟩) h, fun b o h => hb.frozen (p := ⟨b, o, none⟩) h⟩
theorem below_drewN {B : Nat} {a w : World} (h : Below B a w) (n : Nat) : Below B a (w.drewN n) := ⟨h.os, h.tape, h.output, h.size, h.block⟩

theorem drew2 (w : World) (a b : Nat) : ∃ k, (w.drewN a).drewN b = w.drewN k := ⟨a + b, by rw [World.drewN_drewN]⟩
theorem quiet_l {P : Program} {f : FuncId} {args : Array Value} {w : World} {n : Nat} {v : Value} (h : Calls P f args (w.drewN n) fun e w' => e = .returned v ∧ w.drewN n = w') :
    Calls P f args (w.drewN n) fun e w'' => e = .returned v ∧ ∃ m, w'' = w.drewN m := h.mono fun _ _ ⟨he, hm⟩ => ⟨he, n, hm.symm⟩
theorem quiet_al {P : Program} {f : FuncId} {args : Array Value} {w : World} {a n : Nat} {v : Value} (h : Calls P f args (w.drewN (a + n)) fun e w' => e = .returned v ∧ w.drewN (a + n) = w') :
    Calls P f args (w.drewN (a + n)) fun e w'' => e = .returned v ∧ ∃ m, w'' = w.drewN (a + m) := h.mono fun _ _ ⟨he, hm⟩ => ⟨he, n, hm.symm⟩

/-- A cell that is written with what it holds. -/
theorem setCell_id {w : World} {g k : Nat} {v : Value} (h : w.cell? ⟨g, k, none⟩ = some v) : w.setCell ⟨g, k, none⟩ v = w := by
  have hh : (w.setCell ⟨g, k, none⟩ v).heap = w.heap := by
    unfold World.setCell
    apply Array.ext
    · simp
    · intro i h1 h2
      simp only [Array.getElem_modify]
      split
      · rename_i hi
        subst hi
        simp only [World.cell?] at h
        have he : w.heap[g]? = some w.heap[g] := Array.getElem?_eq_getElem h2
        rw [he] at h
        cases hx : w.heap[g] with
        | cells c elem frozen =>
          rw [hx] at h
          simp only [Option.isSome_none, Bool.false_eq_true, if_false] at h
          have hc : c.setIfInBounds k v = c := by
            apply Array.ext
            · simp
            · intro j j1 j2
              rw [Array.getElem_setIfInBounds j2]
              split
              · rename_i hj
                subst hj
                rw [Array.getElem?_eq_getElem j2] at h
                exact (Option.some.inj h).symm
              · rfl
          simp [hc]
        | _ => rfl
      · rfl
  show ({ w with heap := (w.setCell ⟨g, k, none⟩ v).heap } : World) = w
  rw [hh]

/-- A slice's address A reads the list xs, below block B. -/
def Rd {α : Type} (f : α → Value) (w : World) (B : Nat) (A : Option Addr) (xs : List α) : Prop :=
  0 < xs.length → ∃ b o, A = some ⟨b, o, none⟩ ∧ b < B ∧ ∀ k (h : k < xs.length), w.cell? ⟨b, o + k, none⟩ = some (f xs[k])

section
variable {α : Type} {f : α → Value} {w w' : World} {B B' : Nat} {A : Option Addr} {xs : List α}
theorem Rd.nil : Rd f w B A ([] : List α) := fun h => absurd h (by simp)
theorem Rd.at_ (h : Rd f w B A xs) {k : Nat} (hk : k < xs.length) : ∃ b o, A = some ⟨b, o, none⟩ ∧ b < B ∧ ∀ k (h : k < xs.length), w.cell? ⟨b, o + k, none⟩ = some (f xs[k]) := h (by omega)
theorem Rd.keep (h : Rd f w B A xs) (hk : ∀ p : Addr, p.block < B → w'.cell? p = w.cell? p) : Rd f w' B A xs := fun h0 => by
  obtain ⟨b, o, e, hb, hc⟩ := h h0
  exact ⟨b, o, e, hb, fun k hk' => (hk _ hb).trans (hc k hk')⟩
theorem Rd.more (h : Rd f w B A xs) (hB : B ≤ B') : Rd f w B' A xs := fun h0 => by
  obtain ⟨b, o, e, hb, hc⟩ := h h0
  exact ⟨b, o, e, by omega, hc⟩
theorem Rd.below {C : Nat} (h : Rd f w B A xs) (hb : Below C w w') (hC : B ≤ C) : Rd f w' B A xs := h.keep fun _ hp => hb.cell (by omega)
theorem Rd.drew (h : Rd f w B A xs) : Rd f w.drew B A xs := h
theorem Rd.drewN (h : Rd f w B A xs) (k : Nat) : Rd f (w.drewN k) B A xs := h
theorem Rd.alloc (h : Rd f w B A xs) (hB : B ≤ w.heap.size) (o : Obj) : Rd f (w.alloc o) B A xs := h.keep fun p hp => World.cell?_alloc_lt w o p (by omega)
theorem Rd.setCell (h : Rd f w B A xs) {p : Addr} (hB : B ≤ p.block) (u : Value) : Rd f (w.setCell p u) B A xs :=
  h.keep fun q hq => World.cell?_setCell_other w p q u (fun e => by subst e; omega)
end

/-- Block g is just the cells of the list xs, of element type T, none frozen. -/
def Own {α : Type} (f : α → Value) (T : TypeId) (w : World) (g : Nat) (xs : List α) : Prop := w.heap[g]? = some (.cells (xs.map f).toArray T (0, 0))

section
variable {α : Type} {f : α → Value} {w w' : World} {T : TypeId} {g : Nat} {xs : List α}
theorem Own.lt (h : Own f T w g xs) : g < w.heap.size := by
  rcases Nat.lt_or_ge g w.heap.size with hlt | hge
  · exact hlt
  · unfold Own at h; rw [Array.getElem?_eq_none hge] at h; cases h
theorem Own.cell (h : Own f T w g xs) {k : Nat} (hk : k < xs.length) : w.cell? ⟨g, k, none⟩ = some (f xs[k]) := by
  rw [cell_of_row w g k _ T (0, 0) h]
  simp [hk]
theorem Own.frozen (h : Own f T w g xs) (k : Nat) : w.frozen? ⟨g, k, none⟩ = false := by
  unfold Own at h
  simp [World.frozen?, h]
theorem Own.drew (h : Own f T w g xs) : Own f T w.drew g xs := h
theorem Own.drewN (h : Own f T w g xs) (n : Nat) : Own f T (w.drewN n) g xs := h
theorem Own.alloc (h : Own f T w g xs) (o : Obj) : Own f T (w.alloc o) g xs := (Below.heap_alloc w o g h.lt).trans h
theorem Own.set_ (h : Own f T w g xs) (k : Nat) (u : α) : Own f T (w.setCell ⟨g, k, none⟩ (f u)) g (xs.set k u) := by
  unfold Own at h ⊢
  simp [World.setCell, Array.getElem?_modify, h, List.map_set]
theorem Own.far (h : Own f T w g xs) {p : Addr} (hp : g ≠ p.block) (u : Value) : Own f T (w.setCell p u) g xs := (Below.heap_setCell w p u g hp).trans h
theorem Own.below {B : Nat} (h : Own f T w g xs) (hb : Below B w w') (hg : g < B) : Own f T w' g xs := (hb.block g hg).trans h
theorem Own.rd (h : Own f T w g xs) {B : Nat} (hg : g < B) : Rd f w B (some ⟨g, 0, none⟩) xs := fun _ => ⟨g, 0, rfl, hg, fun k hk => by rw [Nat.zero_add]; exact h.cell hk⟩
theorem Own.new (w : World) (T : TypeId) (xs : List α) : Own f T (w.alloc (.cells (xs.map f).toArray T)) w.heap.size xs := heap_alloc_new w _
end

theorem below_set {B : Nat} {a w : World} (h : Below B a w) {g k : Nat} (hg : B ≤ g) (u : Value) : Below B a (w.setCell ⟨g, k, none⟩ u) := h.setCell (p := ⟨g, k, none⟩) hg u

/-- Block g is known whole. -/
def Blk (w : World) (g : Nat) (t : TypeId) (cs : Array Value) : Prop := w.heap[g]? = some (.cells cs t (0, 0))
section
variable {w w' : World} {g : Nat} {t : TypeId} {cs : Array Value}
theorem Blk.lt (h : Blk w g t cs) : g < w.heap.size := by
  rcases Nat.lt_or_ge g w.heap.size with hlt | hge
  · exact hlt
  · unfold Blk at h; rw [Array.getElem?_eq_none hge] at h; cases h
theorem Blk.cell (h : Blk w g t cs) (i : Nat) : w.cell? ⟨g, i, none⟩ = cs[i]? := cell_of_row w g i cs t (0, 0) h
theorem Blk.frozen (h : Blk w g t cs) (i : Nat) : w.frozen? ⟨g, i, none⟩ = false := by
  unfold Blk at h
  simp [World.frozen?, h]
theorem Blk.two {a b : Value} (h : Blk w g t #[a, b]) : (w.cell? ⟨g, 0, none⟩ = some a ∧ w.cell? ⟨g, 1, none⟩ = some b) ∧ w.frozen? ⟨g, 0, none⟩ = false ∧ w.frozen? ⟨g, 1, none⟩ = false := ⟨⟨h.cell 0, h.cell 1⟩, h.frozen 0, h.frozen 1⟩
theorem Blk.three {a b c : Value} (h : Blk w g t #[a, b, c]) : (w.cell? ⟨g, 0, none⟩ = some a ∧ w.cell? ⟨g, 1, none⟩ = some b ∧ w.cell? ⟨g, 2, none⟩ = some c) ∧ w.frozen? ⟨g, 0, none⟩ = false ∧ w.frozen? ⟨g, 1, none⟩ = false ∧ w.frozen? ⟨g, 2, none⟩ = false := ⟨⟨h.cell 0, h.cell 1, h.cell 2⟩, h.frozen 0, h.frozen 1, h.frozen 2⟩
theorem Blk.new (w : World) (t : TypeId) (cs : Array Value) : Blk (w.alloc (.cells cs t)) w.heap.size t cs := heap_alloc_new w _
theorem Blk.drew (h : Blk w g t cs) : Blk w.drew g t cs := h
theorem Blk.drewN (h : Blk w g t cs) (n : Nat) : Blk (w.drewN n) g t cs := h
theorem Blk.alloc (h : Blk w g t cs) (o : Obj) : Blk (w.alloc o) g t cs := (Below.heap_alloc w o g h.lt).trans h
theorem Blk.set_ (h : Blk w g t cs) (i : Nat) (u : Value) : Blk (w.setCell ⟨g, i, none⟩ u) g t (cs.setIfInBounds i u) := by
  unfold Blk at h ⊢
  simp [World.setCell, Array.getElem?_modify, h]
theorem Blk.far (h : Blk w g t cs) {p : Addr} (hp : g ≠ p.block) (u : Value) : Blk (w.setCell p u) g t cs := (Below.heap_setCell w p u g hp).trans h
theorem Blk.below {B : Nat} (h : Blk w g t cs) (hb : Below B w w') (hg : g < B) : Blk w' g t cs := (hb.block g hg).trans h
theorem Blk.grown {row : Option Nat} (h : Blk w g t cs) (hb : w.grownBy w' row) (hg : some g ≠ row) : Blk w' g t cs := (hb.block g h.lt hg).trans h
end

section
variable {a w w' : World} {g : Nat}
theorem only_refl (w : World) (row : Option Nat) : w.grownBy w row := World.grownBy.refl w row
theorem only_trans {row : Option Nat} (h : a.grownBy w row) (h' : w.grownBy w' row) : a.grownBy w' row :=
  ⟨h'.os.trans h.os, h'.tape.trans h.tape, h'.output.trans h.output, Nat.le_trans h.size h'.size, fun i hi hn => (h'.block i (Nat.lt_of_lt_of_le hi h.size) hn).trans (h.block i hi hn)⟩
theorem only_drewN {row : Option Nat} (h : a.grownBy w row) (n : Nat) : a.grownBy (w.drewN n) row := ⟨h.os, h.tape, h.output, h.size, h.block⟩
theorem only_drew {row : Option Nat} (h : a.grownBy w row) : a.grownBy w.drew row := ⟨h.os, h.tape, h.output, h.size, h.block⟩
theorem only_below {row : Option Nat} (h : a.grownBy w row) (hb : Below w.heap.size w w') : a.grownBy w' row :=
  ⟨hb.os.trans h.os, hb.tape.trans h.tape, hb.output.trans h.output, Nat.le_trans h.size hb.size, fun i hi hn => (hb.block i (Nat.lt_of_lt_of_le hi h.size)).trans (h.block i hi hn)⟩
theorem only_alloc {row : Option Nat} (h : a.grownBy w row) (o : Obj) : a.grownBy (w.alloc o) row :=
  ⟨h.os, h.tape, h.output, Nat.le_trans h.size (by simp), fun i hi hn => (Below.heap_alloc w o i (Nat.lt_of_lt_of_le hi h.size)).trans (h.block i hi hn)⟩
theorem only_set (h : a.grownBy w (some g)) (k : Nat) (u : Value) : a.grownBy (w.setCell ⟨g, k, none⟩ u) (some g) :=
  ⟨h.os, h.tape, h.output, by simpa [World.setCell] using h.size, fun i hi hn => (Below.heap_setCell w ⟨g, k, none⟩ u i (fun e => hn (by rw [e]))).trans (h.block i hi hn)⟩
theorem only_to_below {B : Nat} (h : a.grownBy w (some g)) (hB : B ≤ a.heap.size) (hg : B ≤ g) : Below B a w :=
  ⟨h.os, h.tape, h.output, h.size, fun i hi => h.block i (by omega) (fun e => by injection e; omega)⟩
theorem only_rd {α : Type} {f : α → Value} {B : Nat} {A : Option Addr} {xs : List α} (h : Rd f a B A xs) (hg : a.grownBy w (some g)) (hB : B ≤ g) (hB' : B ≤ a.heap.size) : Rd f w B A xs :=
  h.below (only_to_below hg hB' hB) (Nat.le_refl _)
end

theorem wp_world {P : Program} {c : Code} {Q : Exit → Act → World → Prop} {a : Act} {W : World} (h : ∀ W', W' = W → Code.wp P c Q a W') : Code.wp P c Q a W := h W rfl
theorem calls_world {P : Program} {f : FuncId} {args : Array Value} {W : World} {R : Ending → World → Prop} (h : ∀ W', W' = W → Calls P f args W' R) : Calls P f args W R := h W rfl
theorem new1 {W w : World} {c0 : Array Value} {t0 : TypeId} (h : W = w.alloc (.cells c0 t0)) : Blk W (w.heap.size) t0 c0 ∧ Below w.heap.size w W ∧ W.heap.size = w.heap.size + 1 := by
  subst h
  have b0 := (Blk.new w t0 c0)
  exact ⟨b0, ((Below.refl w.heap.size w).alloc (Nat.le_refl _) (.cells c0 t0)), by simp only [World.size_alloc]⟩
theorem new2 {W w : World} {c0 c1 : Array Value} {t0 t1 : TypeId} (h : W = (w.alloc (.cells c0 t0)).alloc (.cells c1 t1)) : Blk W (w.heap.size) t0 c0 ∧ Blk W (w.heap.size + 1) t1 c1 ∧ Below w.heap.size w W ∧ W.heap.size = w.heap.size + 1 + 1 := by
  subst h
  have b0 := ((Blk.new w t0 c0).alloc (.cells c1 t1))
  have b1 := (Blk.new (w.alloc (.cells c0 t0)) t1 c1)
  simp only [World.size_alloc] at b1
  exact ⟨b0, b1, (((Below.refl w.heap.size w).alloc (Nat.le_refl _) (.cells c0 t0)).alloc (by simp only [World.size_alloc]; omega) (.cells c1 t1)), by simp only [World.size_alloc]⟩
theorem new3 {W w : World} {c0 c1 c2 : Array Value} {t0 t1 t2 : TypeId} (h : W = ((w.alloc (.cells c0 t0)).alloc (.cells c1 t1)).alloc (.cells c2 t2)) : Blk W (w.heap.size) t0 c0 ∧ Blk W (w.heap.size + 1) t1 c1 ∧ Blk W (w.heap.size + 1 + 1) t2 c2 ∧ Below w.heap.size w W ∧ W.heap.size = w.heap.size + 1 + 1 + 1 := by
  subst h
  have b0 := (((Blk.new w t0 c0).alloc (.cells c1 t1)).alloc (.cells c2 t2))
  have b1 := ((Blk.new (w.alloc (.cells c0 t0)) t1 c1).alloc (.cells c2 t2))
  have b2 := (Blk.new ((w.alloc (.cells c0 t0)).alloc (.cells c1 t1)) t2 c2)
  simp only [World.size_alloc] at b1 b2
  exact ⟨b0, b1, b2, ((((Below.refl w.heap.size w).alloc (Nat.le_refl _) (.cells c0 t0)).alloc (by simp only [World.size_alloc]; omega) (.cells c1 t1)).alloc (by simp only [World.size_alloc]; omega) (.cells c2 t2)), by simp only [World.size_alloc]⟩
theorem new4 {W w : World} {c0 c1 c2 c3 : Array Value} {t0 t1 t2 t3 : TypeId} (h : W = (((w.alloc (.cells c0 t0)).alloc (.cells c1 t1)).alloc (.cells c2 t2)).alloc (.cells c3 t3)) : Blk W (w.heap.size) t0 c0 ∧ Blk W (w.heap.size + 1) t1 c1 ∧ Blk W (w.heap.size + 1 + 1) t2 c2 ∧ Blk W (w.heap.size + 1 + 1 + 1) t3 c3 ∧ Below w.heap.size w W ∧ W.heap.size = w.heap.size + 1 + 1 + 1 + 1 := by
  subst h
  have b0 := ((((Blk.new w t0 c0).alloc (.cells c1 t1)).alloc (.cells c2 t2)).alloc (.cells c3 t3))
  have b1 := (((Blk.new (w.alloc (.cells c0 t0)) t1 c1).alloc (.cells c2 t2)).alloc (.cells c3 t3))
  have b2 := ((Blk.new ((w.alloc (.cells c0 t0)).alloc (.cells c1 t1)) t2 c2).alloc (.cells c3 t3))
  have b3 := (Blk.new (((w.alloc (.cells c0 t0)).alloc (.cells c1 t1)).alloc (.cells c2 t2)) t3 c3)
  simp only [World.size_alloc] at b1 b2 b3
  exact ⟨b0, b1, b2, b3, (((((Below.refl w.heap.size w).alloc (Nat.le_refl _) (.cells c0 t0)).alloc (by simp only [World.size_alloc]; omega) (.cells c1 t1)).alloc (by simp only [World.size_alloc]; omega) (.cells c2 t2)).alloc (by simp only [World.size_alloc]; omega) (.cells c3 t3)), by simp only [World.size_alloc]⟩
theorem new5 {W w : World} {c0 c1 c2 c3 c4 : Array Value} {t0 t1 t2 t3 t4 : TypeId} (h : W = ((((w.alloc (.cells c0 t0)).alloc (.cells c1 t1)).alloc (.cells c2 t2)).alloc (.cells c3 t3)).alloc (.cells c4 t4)) : Blk W (w.heap.size) t0 c0 ∧ Blk W (w.heap.size + 1) t1 c1 ∧ Blk W (w.heap.size + 1 + 1) t2 c2 ∧ Blk W (w.heap.size + 1 + 1 + 1) t3 c3 ∧ Blk W (w.heap.size + 1 + 1 + 1 + 1) t4 c4 ∧ Below w.heap.size w W ∧ W.heap.size = w.heap.size + 1 + 1 + 1 + 1 + 1 := by
  subst h
  have b0 := (((((Blk.new w t0 c0).alloc (.cells c1 t1)).alloc (.cells c2 t2)).alloc (.cells c3 t3)).alloc (.cells c4 t4))
  have b1 := ((((Blk.new (w.alloc (.cells c0 t0)) t1 c1).alloc (.cells c2 t2)).alloc (.cells c3 t3)).alloc (.cells c4 t4))
  have b2 := (((Blk.new ((w.alloc (.cells c0 t0)).alloc (.cells c1 t1)) t2 c2).alloc (.cells c3 t3)).alloc (.cells c4 t4))
  have b3 := ((Blk.new (((w.alloc (.cells c0 t0)).alloc (.cells c1 t1)).alloc (.cells c2 t2)) t3 c3).alloc (.cells c4 t4))
  have b4 := (Blk.new ((((w.alloc (.cells c0 t0)).alloc (.cells c1 t1)).alloc (.cells c2 t2)).alloc (.cells c3 t3)) t4 c4)
  simp only [World.size_alloc] at b1 b2 b3 b4
  exact ⟨b0, b1, b2, b3, b4, ((((((Below.refl w.heap.size w).alloc (Nat.le_refl _) (.cells c0 t0)).alloc (by simp only [World.size_alloc]; omega) (.cells c1 t1)).alloc (by simp only [World.size_alloc]; omega) (.cells c2 t2)).alloc (by simp only [World.size_alloc]; omega) (.cells c3 t3)).alloc (by simp only [World.size_alloc]; omega) (.cells c4 t4)), by simp only [World.size_alloc]⟩
theorem new6 {W w : World} {c0 c1 c2 c3 c4 c5 : Array Value} {t0 t1 t2 t3 t4 t5 : TypeId} (h : W = (((((w.alloc (.cells c0 t0)).alloc (.cells c1 t1)).alloc (.cells c2 t2)).alloc (.cells c3 t3)).alloc (.cells c4 t4)).alloc (.cells c5 t5)) : Blk W (w.heap.size) t0 c0 ∧ Blk W (w.heap.size + 1) t1 c1 ∧ Blk W (w.heap.size + 1 + 1) t2 c2 ∧ Blk W (w.heap.size + 1 + 1 + 1) t3 c3 ∧ Blk W (w.heap.size + 1 + 1 + 1 + 1) t4 c4 ∧ Blk W (w.heap.size + 1 + 1 + 1 + 1 + 1) t5 c5 ∧ Below w.heap.size w W ∧ W.heap.size = w.heap.size + 1 + 1 + 1 + 1 + 1 + 1 := by
  subst h
  have b0 := ((((((Blk.new w t0 c0).alloc (.cells c1 t1)).alloc (.cells c2 t2)).alloc (.cells c3 t3)).alloc (.cells c4 t4)).alloc (.cells c5 t5))
  have b1 := (((((Blk.new (w.alloc (.cells c0 t0)) t1 c1).alloc (.cells c2 t2)).alloc (.cells c3 t3)).alloc (.cells c4 t4)).alloc (.cells c5 t5))
  have b2 := ((((Blk.new ((w.alloc (.cells c0 t0)).alloc (.cells c1 t1)) t2 c2).alloc (.cells c3 t3)).alloc (.cells c4 t4)).alloc (.cells c5 t5))
  have b3 := (((Blk.new (((w.alloc (.cells c0 t0)).alloc (.cells c1 t1)).alloc (.cells c2 t2)) t3 c3).alloc (.cells c4 t4)).alloc (.cells c5 t5))
  have b4 := ((Blk.new ((((w.alloc (.cells c0 t0)).alloc (.cells c1 t1)).alloc (.cells c2 t2)).alloc (.cells c3 t3)) t4 c4).alloc (.cells c5 t5))
  have b5 := (Blk.new (((((w.alloc (.cells c0 t0)).alloc (.cells c1 t1)).alloc (.cells c2 t2)).alloc (.cells c3 t3)).alloc (.cells c4 t4)) t5 c5)
  simp only [World.size_alloc] at b1 b2 b3 b4 b5
  exact ⟨b0, b1, b2, b3, b4, b5, (((((((Below.refl w.heap.size w).alloc (Nat.le_refl _) (.cells c0 t0)).alloc (by simp only [World.size_alloc]; omega) (.cells c1 t1)).alloc (by simp only [World.size_alloc]; omega) (.cells c2 t2)).alloc (by simp only [World.size_alloc]; omega) (.cells c3 t3)).alloc (by simp only [World.size_alloc]; omega) (.cells c4 t4)).alloc (by simp only [World.size_alloc]; omega) (.cells c5 t5)), by simp only [World.size_alloc]⟩

/-- From a to w only the blocks of l may have turned, and new blocks may have come. -/
structure Kp (l : List Nat) (a w : World) : Prop where
  os : w.os = a.os
  tape : w.tape = a.tape
  output : w.output = a.output
  size : a.heap.size ≤ w.heap.size
  block : ∀ k, k < a.heap.size → k ∉ l → w.heap[k]? = a.heap[k]?
section
variable {l : List Nat} {a w w' : World}
theorem Kp.refl (l : List Nat) (w : World) : Kp l w w := ⟨rfl, rfl, rfl, Nat.le_refl _, fun _ _ _ => rfl⟩
theorem Kp.trans (h : Kp l a w) (h' : Kp l w w') : Kp l a w' :=
  ⟨h'.os.trans h.os, h'.tape.trans h.tape, h'.output.trans h.output, Nat.le_trans h.size h'.size, fun i hi hn => (h'.block i (Nat.lt_of_lt_of_le hi h.size) hn).trans (h.block i hi hn)⟩
theorem Kp.drewN (h : Kp l a w) (n : Nat) : Kp l a (w.drewN n) := ⟨h.os, h.tape, h.output, h.size, h.block⟩
theorem Kp.drew (h : Kp l a w) : Kp l a w.drew := ⟨h.os, h.tape, h.output, h.size, h.block⟩
theorem Kp.below (h : Kp l a w) (hb : Below w.heap.size w w') : Kp l a w' :=
  ⟨hb.os.trans h.os, hb.tape.trans h.tape, hb.output.trans h.output, Nat.le_trans h.size hb.size, fun i hi hn => (hb.block i (Nat.lt_of_lt_of_le hi h.size)).trans (h.block i hi hn)⟩
theorem Kp.alloc (h : Kp l a w) (o : Obj) : Kp l a (w.alloc o) :=
  ⟨h.os, h.tape, h.output, Nat.le_trans h.size (by simp), fun i hi hn => (Below.heap_alloc w o i (Nat.lt_of_lt_of_le hi h.size)).trans (h.block i hi hn)⟩
theorem Kp.set (h : Kp l a w) {g : Nat} (hg : g ∈ l ∨ a.heap.size ≤ g) (k : Nat) (u : Value) : Kp l a (w.setCell ⟨g, k, none⟩ u) :=
  ⟨h.os, h.tape, h.output, by simpa [World.setCell] using h.size, fun i hi hn => (Below.heap_setCell w ⟨g, k, none⟩ u i (by
    rintro rfl
    rcases hg with hg | hg
    · exact hn hg
    · omega)).trans (h.block i hi hn)⟩
theorem Kp.more {l' : List Nat} (h : Kp l a w) (hl : ∀ x ∈ l, x ∈ l') : Kp l' a w := ⟨h.os, h.tape, h.output, h.size, fun k hk hn => h.block k hk fun hx => hn (hl k hx)⟩
theorem Kp.grown {g : Nat} (h : Kp l a w) (hg : w.grownBy w' (some g)) (hl : g ∈ l) : Kp l a w' :=
  ⟨hg.os.trans h.os, hg.tape.trans h.tape, hg.output.trans h.output, Nat.le_trans h.size hg.size, fun i hi hn => (hg.block i (Nat.lt_of_lt_of_le hi h.size) (fun e => by injection e with e; subst e; exact hn hl)).trans (h.block i hi hn)⟩
theorem Kp.grown_new {row : Option Nat} (h : Kp l a w) (hg : w.grownBy w' row) (hr : ∀ k, row = some k → a.heap.size ≤ k) : Kp l a w' :=
  ⟨hg.os.trans h.os, hg.tape.trans h.tape, hg.output.trans h.output, Nat.le_trans h.size hg.size, fun i hi hn => (hg.block i (Nat.lt_of_lt_of_le hi h.size) (fun e => by have := hr i e.symm; omega)).trans (h.block i hi hn)⟩
theorem own_below {base : Nat} {e : TypeId} {size n : Nat} {v : Value} {xs : List Value} (h : w.ownsRow base e size v n xs) (hb : Below w.heap.size w w') : w'.ownsRow base e size v n xs :=
  h.kept (row := none) ⟨hb.os, hb.tape, hb.output, hb.size, fun k hk _ => hb.block k hk⟩ (by cases hv : v.ownBlock <;> simp)
theorem own_ne {base : Nat} {e : TypeId} {size n q : Nat} {v : Value} {xs : List Value} (h : w.ownsRow base e size v n xs) (hq : q < base) : some q ≠ v.ownBlock := fun e => by have := (h.lt q e.symm).1; omega
theorem own_set {base : Nat} {e : TypeId} {size n q k : Nat} {v u : Value} {xs : List Value} (h : w.ownsRow base e size v n xs) (hq : q < base) : (w.setCell ⟨q, k, none⟩ u).ownsRow base e size v n xs := ownsRow_setCell_below h (a := ⟨q, k, none⟩) hq u
/-- An owned row of one-cell elements reads as its list. -/
theorem own_rd {α : Type} {f : α → Value} {base : Nat} {e : TypeId} {A : Option Addr} {c n : Nat} {xs : List α} (h : w.ownsRow base e 1 (.slice A n c) n (xs.map f)) : Rd f w w.heap.size A xs := fun h0 => by
  have hn : n = xs.length := by have := h.1; simp at this; omega
  obtain ⟨g, cap, hv, _, hlt⟩ := h.form (by omega)
  have hA : A = some ⟨g, 0, none⟩ := by injection hv
  subst hA
  refine ⟨g, 0, rfl, hlt, fun k hk => ?_⟩
  have hc := h.cells (g := g) rfl k (f xs[k]) (by simp [hk])
  rw [Addr.add_lit] at hc
  exact hc
theorem Kp.to_below {B : Nat} (h : Kp l a w) (hB : B ≤ a.heap.size) (hl : ∀ g ∈ l, B ≤ g) : Below B a w :=
  ⟨h.os, h.tape, h.output, h.size, fun i hi => h.block i (by omega) (fun hx => by have := hl i hx; omega)⟩
theorem ni1 {g x : Nat} (h : g ≠ x) : g ∉ [x] := by simpa using h
theorem ni2 {g x y : Nat} (h : g ≠ x) (h2 : g ≠ y) : g ∉ [x, y] := by simp [h, h2]
theorem Kp.cell (h : Kp l a w) {b o : Nat} (hb : b < a.heap.size) (hl : b ∉ l) : w.cell? ⟨b, o, none⟩ = a.cell? ⟨b, o, none⟩ := World.cell?_of_block (w := a) (h.block b hb hl)
theorem Kp.blk {g : Nat} {t : TypeId} {cs : Array Value} (h : Kp l a w) (hb : Blk a g t cs) (hg : g ∉ l) : Blk w g t cs := (h.block g hb.lt hg).trans hb
theorem Kp.own {α : Type} {f : α → Value} {t : TypeId} {g : Nat} {xs : List α} (h : Kp l a w) (hb : Own f t a g xs) (hg : g ∉ l) : Own f t w g xs := (h.block g hb.lt hg).trans hb
theorem Kp.rd {α : Type} {f : α → Value} {B : Nat} {A : Option Addr} {xs : List α} (h : Kp l a w) (hr : Rd f a B A xs) (hB : B ≤ a.heap.size) (hl : ∀ g ∈ l, B ≤ g) : Rd f w B A xs := hr.below (h.to_below hB hl) (Nat.le_refl _)
end

/-- make([]T, n): one-cell elements. -/
theorem mk_run {P : Program} (t e : TypeId) (z : Value) (bytes : Nat) (ht : P.underlying t = some (.slice e)) (hinfo : (P.info? e).map (fun i => (i.zero, i.size, i.bytes)) = some (some z, 1, bytes)) (hz : z.cells = #[z])
    (N : Int) (h0 : 0 ≤ N) (hb : N * bytes ≤ 281474976710656) (h63 : N ≤ 9223372036854775807) (w : World) :
    (Instr.makeSlice t (.int .i64 N) (.int .i64 N)).run P w = .ok (.slice (some ⟨w.heap.size, 0, none⟩) N.toNat N.toNat) (w.alloc (.cells (List.replicate N.toNat z).toArray e)) := by
  obtain ⟨i, hi, hz0, hz1, hz2⟩ := info_parts hinfo
  obtain ⟨n, rfl⟩ := Int.eq_ofNat_of_zero_le h0
  have hr := run_make (P := P) w t e i z ht hi hz0 .i64 .i64 n n (by omega) (by omega) (by rw [hz2, Int.mul_comm]; exact hb) (by omega)
  rw [hr]
  simp only [Int.toNat_natCast, hz1, Nat.mul_one, hz]
  congr 3
  apply Array.ext
  · simp [madeCells]
  · intro k h1 h2
    simp [madeCells, Nat.mod_one]

end Go.Proofs.Ytlanefdeeanpnaa
