/-
  append of a slice of one-cell elements that is read, onto one that the call owns, nil or not, empty or not. Conditions: none; no function of the program is named here.
-/
import Derived.Test.YtlanefdeeanpnaaBase2
namespace Go.Proofs.Ytlanefdeeanpnaa
set_option linter.unusedVariables false
set_option linter.unusedSimpArgs false
open Go.RowKit

section
variable {P : Program} {α : Type} {f : α → Value}

theorem form_own {w : World} {base : Nat} {e : TypeId} {n : Nat} {v : Value} {xs : List Value} (h : w.ownsRow base e 1 v n xs) : ∃ A c, v = .slice A n c := by
  rcases h.2 with ⟨rfl, rfl⟩ | ⟨g, cap, cur, hv, _⟩
  · exact ⟨none, 0, rfl⟩
  · exact ⟨_, _, hv⟩

theorem load_none (w : World) (a : Addr) : (Builtin.firstCells 1 0 (.slice (some a) 0 0)).run P w = .ok #[] w := by
  rw [run_firstCells_some w 1 0 a 0 0 [] rfl (by simp)]
theorem load_none' (w : World) (A : Option Addr) (c : Nat) : (Builtin.firstCells 1 0 (.slice A 0 c)).run P w = .ok #[] w := by
  cases A with
  | none => exact run_firstCells_none w 1 0 0 c
  | some a => rw [run_firstCells_some w 1 0 a 0 c [] rfl (by simp)]

/-- Nothing is appended. -/
theorem run_append_none (w : World) (t ty e : TypeId) (i : TypeInfo) (ht : P.underlying t = some (.slice e)) (hi : P.info? e = some i) (hsize : i.size = 1)
    (v : Value) (n base : Nat) (xs : List Value) (hown : w.ownsRow base e 1 v n xs) (A : Option Addr) (c : Nat) :
    (Builtin.append_ #[t, t] ty #[v, .slice A 0 c]).run P w = .ok v w := by
  have hl := load_none' (P := P) w A c
  rcases hown.2 with ⟨rfl, rfl⟩ | ⟨g, cap, cur, rfl, _, hg, hle, hmx, hcs, htk⟩
  · simp [Builtin.append_, run_underlying ht, sizeOf, typeInfo, hi, hsize, Builtin.lenOf, hl]
  · simp [Builtin.append_, run_underlying ht, sizeOf, typeInfo, hi, hsize, Builtin.lenOf, hl, hle, storeCells]

theorem run_append_rd (w : World) (t ty : TypeId) (base : Nat) (e : TypeId) (i : TypeInfo) (z : Value) (bytes : Nat) (ht : P.underlying t = some (.slice e)) (hi : P.info? e = some i) (hz : i.zero = some z)
    (hsize : i.size = 1) (hby : i.bytes = bytes) (hzs : z.cells.size = 1) (v : Value) (n : Nat) (xs : List Value) (hown : w.ownsRow base e 1 v n xs)
    (A : Option Addr) (c B : Nat) (D : List α) (hr : Rd f w B A D) (h1 : ∀ x, (f x).oneCell' = true) (h63 : n + D.length ≤ maxLen) (hbytes : (n + D.length) * bytes ≤ 140737488355328) (hbase : base ≤ w.heap.size) :
    ∃ A' c' w', (Builtin.append_ #[t, t] ty #[v, .slice A D.length c]).run P w = .ok (.slice A' (n + D.length) c') w' ∧
      w'.ownsRow base e 1 (.slice A' (n + D.length) c') (n + D.length) (xs ++ D.map f) ∧ w.grownBy w' v.ownBlock ∧ ((Value.slice A' (n + D.length) c').ownBlock = v.ownBlock ∨ (Value.slice A' (n + D.length) c').ownBlock = some w.heap.size) := by
  by_cases hD : 0 < D.length
  · obtain ⟨b, o, rfl, hb, hc⟩ := hr hD
    obtain ⟨v', w', hrun, h2, h3, _, h5⟩ := run_append_own_at (P := P) w base t ty e i z 1 bytes ht hi hz hsize hby hzs (by omega) v n xs hown ⟨b, o, none⟩ D.length c (D.map f) (by simp) (fun j u hu => by
      rw [List.getElem?_map, Option.map_eq_some_iff] at hu
      obtain ⟨x, hx, rfl⟩ := hu
      obtain ⟨hj, rfl⟩ := List.getElem?_eq_some_iff.1 hx
      have : (⟨b, o, none⟩ : Addr).add j = ⟨b, o + j, none⟩ := by unfold Addr.add; split <;> simp_all
      rw [this]
      exact hc j hj) (fun u hu => by
      obtain ⟨x, _, rfl⟩ := List.mem_map.1 hu
      exact h1 x) h63 hbytes hbase
    obtain ⟨A', c', rfl⟩ := form_own h2
    exact ⟨A', c', w', hrun, h2, h3, h5⟩
  · have h0 : D.length = 0 := by omega
    have hnil : D = [] := List.eq_nil_of_length_eq_zero h0
    subst hnil
    obtain ⟨A', c', rfl⟩ := form_own hown
    exact ⟨A', c', w, run_append_none w t ty e i ht hi hsize _ n base xs hown A c, by simpa using hown, World.grownBy.refl _ _, .inl rfl⟩

theorem wp_append_rd (w : World) {o : Oper} {a : Act} {K : Act → World → Prop} {Q : Exit → Act → World → Prop} (s x : Operand) (t : TypeId)
    (ho : o.op = .call { callee := .builtin .append, args := #[s, x], argTypes := #[t, t] })
    (base : Nat) (e : TypeId) (i : TypeInfo) (z : Value) (bytes : Nat) (ht : P.underlying t = some (.slice e)) (hi : P.info? e = some i) (hz : i.zero = some z)
    (hsize : i.size = 1) (hby : i.bytes = bytes) (hzs : z.cells.size = 1) (v : Value) (n : Nat) (xs : List Value) (hs : a.eval s = v) (hown : w.ownsRow base e 1 v n xs)
    (A : Option Addr) (c B : Nat) (D : List α) (hx : a.eval x = .slice A D.length c) (hr : Rd f w B A D) (h1 : ∀ x, (f x).oneCell' = true) (h63 : n + D.length ≤ maxLen) (hbytes : (n + D.length) * bytes ≤ 140737488355328) (hbase : base ≤ w.heap.size)
    (h : ∀ A' c' w', w'.ownsRow base e 1 (.slice A' (n + D.length) c') (n + D.length) (xs ++ D.map f) → w.grownBy w' v.ownBlock → ((Value.slice A' (n + D.length) c').ownBlock = v.ownBlock ∨ (Value.slice A' (n + D.length) c').ownBlock = some w.heap.size) → K (a.put o.dst (.slice A' (n + D.length) c')) w') : o.wp P a w K Q := by
  obtain ⟨A', c', w', hrun, h2, h3, h4⟩ := run_append_rd (P := P) w t o.type base e i z bytes ht hi hz hsize hby hzs v n xs hown A c B D hr h1 h63 hbytes hbase
  unfold Oper.wp execOp
  simp only [ho, resolve, invoke, builtin, Sem.run_bind, Sem.run_pure, Result.andThen_ok, List.map_toArray, List.map_cons, List.map_nil, hs, hx, hrun]
  exact h A' c' w' h2 h3 h4
theorem wpList_append_rd (w : World) {ops : Array Oper} {rest : List Oper} {o : Oper} {a : Act} {Q : Exit → Act → World → Prop} (hgd : o.guard = none) (s x : Operand) (t : TypeId)
    (ho : o.op = .call { callee := .builtin .append, args := #[s, x], argTypes := #[t, t] })
    (base : Nat) (e : TypeId) (i : TypeInfo) (z : Value) (bytes : Nat) (ht : P.underlying t = some (.slice e)) (hi : P.info? e = some i) (hz : i.zero = some z)
    (hsize : i.size = 1) (hby : i.bytes = bytes) (hzs : z.cells.size = 1) (v : Value) (n : Nat) (xs : List Value) (hs : a.eval s = v) (hown : w.ownsRow base e 1 v n xs)
    (A : Option Addr) (c B : Nat) (D : List α) (hx : a.eval x = .slice A D.length c) (hr : Rd f w B A D) (h1 : ∀ x, (f x).oneCell' = true) (h63 : n + D.length ≤ maxLen) (hbytes : (n + D.length) * bytes ≤ 140737488355328) (hbase : base ≤ w.heap.size)
    (h : ∀ A' c' w', w'.ownsRow base e 1 (.slice A' (n + D.length) c') (n + D.length) (xs ++ D.map f) → w.grownBy w' v.ownBlock → ((Value.slice A' (n + D.length) c').ownBlock = v.ownBlock ∨ (Value.slice A' (n + D.length) c').ownBlock = some w.heap.size) → wpList P ops Q rest (a.put o.dst (.slice A' (n + D.length) c')) w') : wpList P ops Q (o :: rest) a w :=
  wpList_plain hgd fun _ hK => wp_append_rd w s x t ho base e i z bytes ht hi hz hsize hby hzs v n xs hs hown A c B D hx hr h1 h63 hbytes hbase fun A' c' w' h2 h3 h4 => hK _ _ (h A' c' w' h2 h3 h4)

/-- An empty row that was just made is owned. -/
theorem own_empty {w : World} {g base : Nat} {e : TypeId} (h : Blk w g e #[]) (hb : base ≤ g) : w.ownsRow base e 1 (.slice (some ⟨g, 0, none⟩) 0 0) 0 [] :=
  ⟨rfl, .inr ⟨g, 0, #[], rfl, hb, h, Nat.le_refl _, by unfold maxLen; omega, rfl, rfl⟩⟩
theorem own_block_new {w w' : World} {base n : Nat} {e : TypeId} {A' : Option Addr} {c' : Nat} {g : Nat} {xs : List Value} (h : w'.ownsRow base e 1 (.slice A' n c') n xs) (hg : base ≤ g) : ∀ k, (Value.slice A' n c').ownBlock = some k → base ≤ k ∧ k < w'.heap.size := h.lt
/-- At a step of a region that draws its order. -/
theorem step_append_rd (w : World) {ops : Array Oper} {o : Oper} {a : Act} {K : Act → World → Prop} {Q : Exit → Act → World → Prop} {E : Prop} (hgd : o.guard = none) (s x : Operand) (t : TypeId)
    (ho : o.op = .call { callee := .builtin .append, args := #[s, x], argTypes := #[t, t] })
    (base : Nat) (e : TypeId) (i : TypeInfo) (z : Value) (bytes : Nat) (ht : P.underlying t = some (.slice e)) (hi : P.info? e = some i) (hz : i.zero = some z)
    (hsize : i.size = 1) (hby : i.bytes = bytes) (hzs : z.cells.size = 1) (v : Value) (n : Nat) (xs : List Value) (hs : a.eval s = v) (hown : w.ownsRow base e 1 v n xs)
    (A : Option Addr) (c B : Nat) (D : List α) (hx : a.eval x = .slice A D.length c) (hr : Rd f w B A D) (h1 : ∀ x, (f x).oneCell' = true) (h63 : n + D.length ≤ maxLen) (hbytes : (n + D.length) * bytes ≤ 140737488355328) (hbase : base ≤ w.heap.size)
    (h : ∀ A' c' w', w'.ownsRow base e 1 (.slice A' (n + D.length) c') (n + D.length) (xs ++ D.map f) → w.grownBy w' v.ownBlock → ((Value.slice A' (n + D.length) c').ownBlock = v.ownBlock ∨ (Value.slice A' (n + D.length) c').ownBlock = some w.heap.size) → K (a.put o.dst (.slice A' (n + D.length) c')) w') :
    if Region.wanted o (yielded ops a.tmps) = true then Oper.wp P o a w K Q else E := by
  have hw : Region.wanted o (yielded ops a.tmps) = true := by simp [Region.wanted, hgd]
  rw [if_pos hw]
  exact wp_append_rd w s x t ho base e i z bytes ht hi hz hsize hby hzs v n xs hs hown A c B D hx hr h1 h63 hbytes hbase h

theorem new1d {W w : World} {cs : Array Value} {t : TypeId} (h : W = (w.alloc (.cells cs t)).drew) : ∃ q, w.heap.size = q ∧ Blk W q t cs ∧ Below q w W ∧ q < W.heap.size := by
  subst h
  obtain ⟨a, b, c⟩ := new1 (rfl : w.alloc (.cells cs t) = _)
  exact ⟨_, rfl, a.drew, b.drew, a.lt⟩
theorem below_grown {B : Nat} {a w w' : World} {row : Option Nat} (h : Below B a w) (hg : w.grownBy w' row) (hB : B ≤ w.heap.size) (hr : ∀ k, row = some k → B ≤ k) : Below B a w' :=
  h.trans ⟨hg.os, hg.tape, hg.output, hg.size, fun k hk => hg.block k (by omega) (fun e => by have := hr k e.symm; omega)⟩
end
theorem Rd.take {α : Type} {f : α → Value} {w : World} {B : Nat} {A : Option Addr} {xs : List α} (h : Rd f w B A xs) (k : Nat) : Rd f w B A (xs.take k) := fun h0 => by
  have h1 : 0 < xs.length := by rw [List.length_take] at h0; omega
  obtain ⟨b, o, e, hb, hc⟩ := h h1
  refine ⟨b, o, e, hb, fun j hj => ?_⟩
  rw [List.getElem_take]
  exact hc j (by rw [List.length_take] at hj; omega)
theorem own_kp {w w' : World} {base : Nat} {e : TypeId} {n : Nat} {v : Value} {xs : List Value} {l : List Nat} (h : w.ownsRow base e 1 v n xs) (hk : Kp l w w') (hl : ∀ k, v.ownBlock = some k → k ∉ l) : w'.ownsRow base e 1 v n xs := by
  cases hv : v.ownBlock with
  | none =>
    rcases h.2 with ⟨rfl, rfl⟩ | ⟨g, cap, cur, rfl, _⟩
    · exact ⟨h.1, .inl ⟨rfl, rfl⟩⟩
    · simp [Value.ownBlock] at hv
  | some g =>
    refine ⟨h.1, ?_⟩
    rcases h.2 with h2 | ⟨g', cap, cur, rfl, h3, h4, h5⟩
    · exact .inl h2
    · have : g' = g := by simpa [Value.ownBlock] using hv
      subst this
      have hlt : g' < w.heap.size := by
        rcases Nat.lt_or_ge g' w.heap.size with hlt | hge
        · exact hlt
        · rw [Array.getElem?_eq_none hge] at h4; cases h4
      exact .inr ⟨g', cap, cur, rfl, h3, (hk.block g' hlt (hl g' hv)).trans h4, h5⟩
theorem own_cap {w : World} {base : Nat} {e : TypeId} {n c : Nat} {A : Option Addr} {xs : List Value} (h : w.ownsRow base e 1 (.slice A n c) n xs) : n ≤ c := by
  rcases h.2 with ⟨hv, rfl⟩ | ⟨g, cap, cur, hv, _, _, hle, _⟩
  · omega
  · injection hv with _ _ h3; omega
theorem own_frozen {w : World} {base : Nat} {e : TypeId} {n c g k : Nat} {xs : List Value} (h : w.ownsRow base e 1 (.slice (some ⟨g, 0, none⟩) n c) n xs) : w.frozen? ⟨g, k, none⟩ = false := by
  rcases h.2 with ⟨hv, _⟩ | ⟨g', cap, cur, hv, _, hg, _⟩
  · cases hv
  · injection hv with h1 _ _
    injection h1 with h1
    injection h1 with h1 _ _
    subst h1
    simp [World.frozen?, hg]
theorem own_cell {α : Type} {f : α → Value} {w : World} {base : Nat} {e : TypeId} {n c g k : Nat} {xs : List α} (h : w.ownsRow base e 1 (.slice (some ⟨g, 0, none⟩) n c) n (xs.map f)) (hk : k < xs.length) : w.cell? ⟨g, k, none⟩ = some (f xs[k]) := by
  have := h.cells (g := g) rfl k (f xs[k]) (by simp [hk])
  rw [Addr.add_lit] at this
  simpa using this
/-- A cell of an owned row is written. -/
theorem own_upd {α : Type} {f : α → Value} {w : World} {base : Nat} {e : TypeId} {n c g k : Nat} {xs : List α} (h : w.ownsRow base e 1 (.slice (some ⟨g, 0, none⟩) n c) n (xs.map f)) (hk : k < n) (u : α) :
    (w.setCell ⟨g, k, none⟩ (f u)).ownsRow base e 1 (.slice (some ⟨g, 0, none⟩) n c) n ((xs.set k u).map f) := by
  have hl := h.1
  refine ⟨by simpa using hl, ?_⟩
  rcases h.2 with ⟨hv, _⟩ | ⟨g', cap, cur, hv, hb, hg, hle, hmx, hcs, htk⟩
  · cases hv
  · injection hv with h1 _ h3
    injection h1 with h1
    injection h1 with h1 _ _
    subst h1 h3
    refine .inr ⟨g, c, cur.setIfInBounds k (f u), rfl, hb, ?_, hle, hmx, by simpa using hcs, ?_⟩
    · simp [World.setCell, Array.getElem?_modify, hg]
    · rw [Array.toList_setIfInBounds, List.take_set, htk, List.map_set]
theorem Blk.n9 {w : World} {g : Nat} {t : TypeId} {a0 a1 a2 a3 a4 a5 a6 a7 a8 : Value} (h : Blk w g t #[a0, a1, a2, a3, a4, a5, a6, a7, a8]) : (w.cell? ⟨g, 0, none⟩ = some a0 ∧ w.cell? ⟨g, 1, none⟩ = some a1 ∧ w.cell? ⟨g, 2, none⟩ = some a2 ∧ w.cell? ⟨g, 3, none⟩ = some a3 ∧ w.cell? ⟨g, 4, none⟩ = some a4 ∧ w.cell? ⟨g, 5, none⟩ = some a5 ∧ w.cell? ⟨g, 6, none⟩ = some a6 ∧ w.cell? ⟨g, 7, none⟩ = some a7 ∧ w.cell? ⟨g, 8, none⟩ = some a8) ∧ w.frozen? ⟨g, 0, none⟩ = false ∧ w.frozen? ⟨g, 1, none⟩ = false ∧ w.frozen? ⟨g, 2, none⟩ = false ∧ w.frozen? ⟨g, 3, none⟩ = false ∧ w.frozen? ⟨g, 4, none⟩ = false ∧ w.frozen? ⟨g, 5, none⟩ = false ∧ w.frozen? ⟨g, 6, none⟩ = false ∧ w.frozen? ⟨g, 7, none⟩ = false ∧ w.frozen? ⟨g, 8, none⟩ = false := ⟨⟨h.cell 0, h.cell 1, h.cell 2, h.cell 3, h.cell 4, h.cell 5, h.cell 6, h.cell 7, h.cell 8⟩, h.frozen 0, h.frozen 1, h.frozen 2, h.frozen 3, h.frozen 4, h.frozen 5, h.frozen 6, h.frozen 7, h.frozen 8⟩
theorem Blk.n12 {w : World} {g : Nat} {t : TypeId} {a0 a1 a2 a3 a4 a5 a6 a7 a8 a9 a10 a11 : Value} (h : Blk w g t #[a0, a1, a2, a3, a4, a5, a6, a7, a8, a9, a10, a11]) : (w.cell? ⟨g, 0, none⟩ = some a0 ∧ w.cell? ⟨g, 1, none⟩ = some a1 ∧ w.cell? ⟨g, 2, none⟩ = some a2 ∧ w.cell? ⟨g, 3, none⟩ = some a3 ∧ w.cell? ⟨g, 4, none⟩ = some a4 ∧ w.cell? ⟨g, 5, none⟩ = some a5 ∧ w.cell? ⟨g, 6, none⟩ = some a6 ∧ w.cell? ⟨g, 7, none⟩ = some a7 ∧ w.cell? ⟨g, 8, none⟩ = some a8 ∧ w.cell? ⟨g, 9, none⟩ = some a9 ∧ w.cell? ⟨g, 10, none⟩ = some a10 ∧ w.cell? ⟨g, 11, none⟩ = some a11) ∧ w.frozen? ⟨g, 0, none⟩ = false ∧ w.frozen? ⟨g, 1, none⟩ = false ∧ w.frozen? ⟨g, 2, none⟩ = false ∧ w.frozen? ⟨g, 3, none⟩ = false ∧ w.frozen? ⟨g, 4, none⟩ = false ∧ w.frozen? ⟨g, 5, none⟩ = false ∧ w.frozen? ⟨g, 6, none⟩ = false ∧ w.frozen? ⟨g, 7, none⟩ = false ∧ w.frozen? ⟨g, 8, none⟩ = false ∧ w.frozen? ⟨g, 9, none⟩ = false ∧ w.frozen? ⟨g, 10, none⟩ = false ∧ w.frozen? ⟨g, 11, none⟩ = false := ⟨⟨h.cell 0, h.cell 1, h.cell 2, h.cell 3, h.cell 4, h.cell 5, h.cell 6, h.cell 7, h.cell 8, h.cell 9, h.cell 10, h.cell 11⟩, h.frozen 0, h.frozen 1, h.frozen 2, h.frozen 3, h.frozen 4, h.frozen 5, h.frozen 6, h.frozen 7, h.frozen 8, h.frozen 9, h.frozen 10, h.frozen 11⟩
theorem Blk.n6 {w : World} {g : Nat} {t : TypeId} {a0 a1 a2 a3 a4 a5 : Value} (h : Blk w g t #[a0, a1, a2, a3, a4, a5]) : (w.cell? ⟨g, 0, none⟩ = some a0 ∧ w.cell? ⟨g, 1, none⟩ = some a1 ∧ w.cell? ⟨g, 2, none⟩ = some a2 ∧ w.cell? ⟨g, 3, none⟩ = some a3 ∧ w.cell? ⟨g, 4, none⟩ = some a4 ∧ w.cell? ⟨g, 5, none⟩ = some a5) ∧ w.frozen? ⟨g, 0, none⟩ = false ∧ w.frozen? ⟨g, 1, none⟩ = false ∧ w.frozen? ⟨g, 2, none⟩ = false ∧ w.frozen? ⟨g, 3, none⟩ = false ∧ w.frozen? ⟨g, 4, none⟩ = false ∧ w.frozen? ⟨g, 5, none⟩ = false := ⟨⟨h.cell 0, h.cell 1, h.cell 2, h.cell 3, h.cell 4, h.cell 5⟩, h.frozen 0, h.frozen 1, h.frozen 2, h.frozen 3, h.frozen 4, h.frozen 5⟩
theorem Blk.n4 {w : World} {g : Nat} {t : TypeId} {a0 a1 a2 a3 : Value} (h : Blk w g t #[a0, a1, a2, a3]) : (w.cell? ⟨g, 0, none⟩ = some a0 ∧ w.cell? ⟨g, 1, none⟩ = some a1 ∧ w.cell? ⟨g, 2, none⟩ = some a2 ∧ w.cell? ⟨g, 3, none⟩ = some a3) ∧ w.frozen? ⟨g, 0, none⟩ = false ∧ w.frozen? ⟨g, 1, none⟩ = false ∧ w.frozen? ⟨g, 2, none⟩ = false ∧ w.frozen? ⟨g, 3, none⟩ = false := ⟨⟨h.cell 0, h.cell 1, h.cell 2, h.cell 3⟩, h.frozen 0, h.frozen 1, h.frozen 2, h.frozen 3⟩
theorem store9 {w W : World} {g : Nat} {t : TypeId} {a0 a1 a2 a3 a4 a5 a6 a7 a8 b0 b1 b2 b3 b4 b5 b6 b7 b8 : Value} (hW : W = (((((((((w.setCell ⟨g, 0, none⟩ b0).setCell ⟨g, 1, none⟩ b1).setCell ⟨g, 2, none⟩ b2).setCell ⟨g, 3, none⟩ b3).setCell ⟨g, 4, none⟩ b4).setCell ⟨g, 5, none⟩ b5).setCell ⟨g, 6, none⟩ b6).setCell ⟨g, 7, none⟩ b7).setCell ⟨g, 8, none⟩ b8)) (h : Blk w g t #[a0, a1, a2, a3, a4, a5, a6, a7, a8]) : Blk W g t #[b0, b1, b2, b3, b4, b5, b6, b7, b8] ∧ Kp [g] w W := by
  subst hW
  exact ⟨by simpa using (((((((((h.set_ 0 b0).set_ 1 b1).set_ 2 b2).set_ 3 b3).set_ 4 b4).set_ 5 b5).set_ 6 b6).set_ 7 b7).set_ 8 b8), ((((((((((Kp.refl [g] w).set (.inl (by simp)) 0 b0).set (.inl (by simp)) 1 b1).set (.inl (by simp)) 2 b2).set (.inl (by simp)) 3 b3).set (.inl (by simp)) 4 b4).set (.inl (by simp)) 5 b5).set (.inl (by simp)) 6 b6).set (.inl (by simp)) 7 b7).set (.inl (by simp)) 8 b8)⟩
theorem store12 {w W : World} {g : Nat} {t : TypeId} {a0 a1 a2 a3 a4 a5 a6 a7 a8 a9 a10 a11 b0 b1 b2 b3 b4 b5 b6 b7 b8 b9 b10 b11 : Value} (hW : W = ((((((((((((w.setCell ⟨g, 0, none⟩ b0).setCell ⟨g, 1, none⟩ b1).setCell ⟨g, 2, none⟩ b2).setCell ⟨g, 3, none⟩ b3).setCell ⟨g, 4, none⟩ b4).setCell ⟨g, 5, none⟩ b5).setCell ⟨g, 6, none⟩ b6).setCell ⟨g, 7, none⟩ b7).setCell ⟨g, 8, none⟩ b8).setCell ⟨g, 9, none⟩ b9).setCell ⟨g, 10, none⟩ b10).setCell ⟨g, 11, none⟩ b11)) (h : Blk w g t #[a0, a1, a2, a3, a4, a5, a6, a7, a8, a9, a10, a11]) : Blk W g t #[b0, b1, b2, b3, b4, b5, b6, b7, b8, b9, b10, b11] ∧ Kp [g] w W := by
  subst hW
  exact ⟨by simpa using ((((((((((((h.set_ 0 b0).set_ 1 b1).set_ 2 b2).set_ 3 b3).set_ 4 b4).set_ 5 b5).set_ 6 b6).set_ 7 b7).set_ 8 b8).set_ 9 b9).set_ 10 b10).set_ 11 b11), (((((((((((((Kp.refl [g] w).set (.inl (by simp)) 0 b0).set (.inl (by simp)) 1 b1).set (.inl (by simp)) 2 b2).set (.inl (by simp)) 3 b3).set (.inl (by simp)) 4 b4).set (.inl (by simp)) 5 b5).set (.inl (by simp)) 6 b6).set (.inl (by simp)) 7 b7).set (.inl (by simp)) 8 b8).set (.inl (by simp)) 9 b9).set (.inl (by simp)) 10 b10).set (.inl (by simp)) 11 b11)⟩
theorem store6 {w W : World} {g : Nat} {t : TypeId} {a0 a1 a2 a3 a4 a5 b0 b1 b2 b3 b4 b5 : Value} (hW : W = ((((((w.setCell ⟨g, 0, none⟩ b0).setCell ⟨g, 1, none⟩ b1).setCell ⟨g, 2, none⟩ b2).setCell ⟨g, 3, none⟩ b3).setCell ⟨g, 4, none⟩ b4).setCell ⟨g, 5, none⟩ b5)) (h : Blk w g t #[a0, a1, a2, a3, a4, a5]) : Blk W g t #[b0, b1, b2, b3, b4, b5] ∧ Kp [g] w W := by
  subst hW
  exact ⟨by simpa using ((((((h.set_ 0 b0).set_ 1 b1).set_ 2 b2).set_ 3 b3).set_ 4 b4).set_ 5 b5), (((((((Kp.refl [g] w).set (.inl (by simp)) 0 b0).set (.inl (by simp)) 1 b1).set (.inl (by simp)) 2 b2).set (.inl (by simp)) 3 b3).set (.inl (by simp)) 4 b4).set (.inl (by simp)) 5 b5)⟩
theorem store4 {w W : World} {g : Nat} {t : TypeId} {a0 a1 a2 a3 b0 b1 b2 b3 : Value} (hW : W = ((((w.setCell ⟨g, 0, none⟩ b0).setCell ⟨g, 1, none⟩ b1).setCell ⟨g, 2, none⟩ b2).setCell ⟨g, 3, none⟩ b3)) (h : Blk w g t #[a0, a1, a2, a3]) : Blk W g t #[b0, b1, b2, b3] ∧ Kp [g] w W := by
  subst hW
  exact ⟨by simpa using ((((h.set_ 0 b0).set_ 1 b1).set_ 2 b2).set_ 3 b3), (((((Kp.refl [g] w).set (.inl (by simp)) 0 b0).set (.inl (by simp)) 1 b1).set (.inl (by simp)) 2 b2).set (.inl (by simp)) 3 b3)⟩
end Go.Proofs.Ytlanefdeeanpnaa
