/-
  Polygons that a call makes: rows of points and rows of slices that it owns, appended to. Conditions: none; no function of the program is named here.
-/
import Derived.Test.YtlanefdeeanpnaaPoly
import Derived.Test.YtlanefdeeanpnaaAppend
namespace Go.Proofs.Ytlanefdeeanpnaa
set_option linter.unusedVariables false
set_option linter.unusedSimpArgs false
open Go.RowKit

def ptCells (p : Pt) : List Value := [.int .i64 p.1, .int .i64 p.2.1, .bool p.2.2]
def flat (xs : List Pt) : List Value := xs.flatMap ptCells
theorem flat_snoc (xs : List Pt) (p : Pt) : flat (xs ++ [p]) = flat xs ++ ptCells p := by simp [flat]
theorem flat_len (xs : List Pt) : (flat xs).length = xs.length * 3 := by
  induction xs with
  | nil => rfl
  | cons p l ih =>
    have : flat (p :: l) = ptCells p ++ flat l := rfl
    rw [this, List.length_append, ih, List.length_cons, Nat.add_mul]
    show 3 + _ = _
    omega
theorem flat_get : ∀ (xs : List Pt) (k : Nat) (h : k < xs.length), (flat xs)[k * 3]? = some (.int .i64 xs[k].1) ∧ (flat xs)[k * 3 + 1]? = some (.int .i64 xs[k].2.1) ∧ (flat xs)[k * 3 + 2]? = some (.bool xs[k].2.2)
  | p :: l, 0, _ => ⟨rfl, rfl, rfl⟩
  | p :: l, k + 1, h => by
    have h' := flat_get l k (by simpa using h)
    have e : flat (p :: l) = ptCells p ++ flat l := rfl
    have g : ∀ j, (ptCells p ++ flat l)[j + 3]? = (flat l)[j]? := fun j => by
      rw [List.getElem?_append_right (by simp [ptCells])]
      rfl
    rw [e, show (k + 1) * 3 = k * 3 + 3 by omega, show k * 3 + 3 + 1 = k * 3 + 1 + 3 by omega, show k * 3 + 3 + 2 = k * 3 + 2 + 3 by omega, g, g, g]
    simpa using h'
theorem info_pt : (Try.prog.info? 134).map (fun i => (i.zero, i.size, i.bytes)) = some (some (.agg #[.int .i64 0, .int .i64 0, .bool false]), 3, 24) := by kernel_rfl
theorem info_pts : (Try.prog.info? 96).map (fun i => (i.zero, i.size, i.bytes)) = some (some (.slice none 0 0), 1, 24) := by kernel_rfl

section
variable {w w' : World} {base : Nat}
/-- An owned row of any size: a slice. -/
theorem own_form {e : TypeId} {s n : Nat} {v : Value} {xs : List Value} (h : w.ownsRow base e s v n xs) : ∃ A c, v = .slice A n c := by
  rcases h.2 with ⟨rfl, rfl⟩ | ⟨g, cap, cur, hv, _⟩
  · exact ⟨none, 0, rfl⟩
  · exact ⟨_, _, hv⟩
/-- Rows of different element types lie in different blocks. -/
theorem own_apart {b2 e1 e2 s1 s2 n1 n2 : Nat} {v1 v2 : Value} {xs1 xs2 : List Value} (h1 : w.ownsRow base e1 s1 v1 n1 xs1) (h2 : w.ownsRow b2 e2 s2 v2 n2 xs2) (he : e1 ≠ e2) : ∀ k, v1.ownBlock = some k → v2.ownBlock ≠ some k := by
  intro k hk hk2
  rcases h1.2 with ⟨rfl, _⟩ | ⟨g1, cap1, cur1, rfl, _, hg1, _⟩
  · simp [Value.ownBlock] at hk
  · rcases h2.2 with ⟨rfl, _⟩ | ⟨g2, cap2, cur2, rfl, _, hg2, _⟩
    · simp [Value.ownBlock] at hk2
    · have e1 : g1 = k := by simpa [Value.ownBlock] using hk
      have e2 : g2 = k := by simpa [Value.ownBlock] using hk2
      subst e1 e2
      rw [hg1] at hg2
      injection hg2 with hg2
      injection hg2 with _ h3 _
      exact he h3
theorem own_grown {e1 e2 s1 s2 n1 n2 b2 : Nat} {v1 v2 : Value} {xs1 xs2 : List Value} (h1 : w.ownsRow base e1 s1 v1 n1 xs1) (h2 : w.ownsRow b2 e2 s2 v2 n2 xs2) (he : e1 ≠ e2) (hg : w.grownBy w' v2.ownBlock) : w'.ownsRow base e1 s1 v1 n1 xs1 := by
  refine ⟨h1.1, ?_⟩
  rcases h1.2 with hh | ⟨g, cap, cur, rfl, h3, h4, h5⟩
  · exact .inl hh
  · have hlt : g < w.heap.size := by
      rcases Nat.lt_or_ge g w.heap.size with hlt | hge
      · exact hlt
      · rw [Array.getElem?_eq_none hge] at h4; cases h4
    exact .inr ⟨g, cap, cur, rfl, h3, (hg.block g hlt (fun e => own_apart h1 h2 he g rfl e.symm)).trans h4, h5⟩
theorem own_base' {e s n b' : Nat} {v : Value} {xs : List Value} (h : w.ownsRow base e s v n xs) (hb : b' ≤ base) : w.ownsRow b' e s v n xs := by
  refine ⟨h.1, ?_⟩
  rcases h.2 with h2 | ⟨g, cap, cur, h1, h2, h3⟩
  · exact .inl h2
  · exact .inr ⟨g, cap, cur, h1, by omega, h3⟩
theorem own_cells3 {e g n c : Nat} {xs : List Pt} (h : w.ownsRow base e 3 (.slice (some ⟨g, 0, none⟩) n c) n (flat xs)) {k : Nat} (hk : k < xs.length) : w.cell? ⟨g, k * 3, none⟩ = some (.int .i64 xs[k].1) ∧ w.cell? ⟨g, k * 3 + 1, none⟩ = some (.int .i64 xs[k].2.1) ∧ w.cell? ⟨g, k * 3 + 2, none⟩ = some (.bool xs[k].2.2) := by
  obtain ⟨h1, h2, h3⟩ := flat_get xs k hk
  have c1 := h.cells (g := g) rfl _ _ h1
  have c2 := h.cells (g := g) rfl _ _ h2
  have c3 := h.cells (g := g) rfl _ _ h3
  rw [Addr.add_lit] at c1 c2 c3
  simp only [Nat.zero_add] at c1 c2 c3
  exact ⟨c1, c2, c3⟩
/-- A row of points that is owned reads as its points. -/
theorem own_rdpt {e n c : Nat} {A : Option Addr} {xs : List Pt} (h : w.ownsRow base e 3 (.slice A n c) n (flat xs)) : RdPt w w.heap.size A xs := fun h0 => by
  have hn : n = xs.length := by have := h.1; rw [flat_len] at this; omega
  obtain ⟨g, cap, hv, _, hlt⟩ := h.form (by omega)
  have hA : A = some ⟨g, 0, none⟩ := by injection hv
  subst hA
  refine ⟨g, 0, rfl, hlt, fun k hk => ?_⟩
  rw [Nat.zero_add]
  exact own_cells3 h hk
end

/-- One point more, onto a row that the call owns. -/
theorem step_append_pt (w : World) {ops : Array Oper} {o : Oper} {a : Act} {K : Act → World → Prop} {Q : Exit → Act → World → Prop} {E : Prop} (hgd : o.guard = none) (s x : Operand) (t : TypeId)
    (ho : o.op = .call { callee := .builtin .append, args := #[s, x], argTypes := #[t, t] }) (base : Nat) (ht : Try.prog.underlying t = some (.slice 134))
    (v : Value) (xs : List Pt) (hs : a.eval s = v) (hown : w.ownsRow base 134 3 v xs.length (flat xs)) (g : Nat) (X Y : Int) (O : Bool) (hx : a.eval x = .slice (some ⟨g, 0, none⟩) 1 1) (hQ : Blk w g 134 #[.int .i64 X, .int .i64 Y, .bool O])
    (hn : xs.length ≤ 1000000) (hbase : base ≤ w.heap.size)
    (h : ∀ A' c' w', w'.ownsRow base 134 3 (.slice A' (xs.length + 1) c') (xs.length + 1) (flat (xs ++ [(X, Y, O)])) → w.grownBy w' v.ownBlock → K (a.put o.dst (.slice A' (xs.length + 1) c')) w') :
    if Region.wanted o (yielded ops a.tmps) = true then Oper.wp Try.prog o a w K Q else E := by
  obtain ⟨i0, hi, hz0, hz1, hz2⟩ := info_parts info_pt
  have hw : Region.wanted o (yielded ops a.tmps) = true := by simp [Region.wanted, hgd]
  rw [if_pos hw]
  refine wp_append_own w s x t ho base 134 i0 _ 3 24 ht hi hz0 hz1 hz2 rfl (by decide) v xs.length (flat xs) hs hown ⟨g, 0, none⟩ 1 1 [.int .i64 X, .int .i64 Y, .bool O] hx rfl ?_ ?_ (by unfold maxLen; omega) (by omega) hbase ?_
  · intro j u hj
    rw [Addr.add_lit, Nat.zero_add]
    match j, hj with
    | 0, hj => rw [hQ.cell 0]; exact hj
    | 1, hj => rw [hQ.cell 1]; exact hj
    | 2, hj => rw [hQ.cell 2]; exact hj
  · intro u hu
    simp only [List.mem_cons, List.not_mem_nil, or_false] at hu
    rcases hu with rfl | rfl | rfl <;> rfl
  · intro v' w' hown' hgrow _
    obtain ⟨A', c', rfl⟩ := own_form hown'
    exact h A' c' w' (by rw [flat_snoc]; exact hown') hgrow
theorem wpList_append_pt (w : World) {ops : Array Oper} {rest : List Oper} {o : Oper} {a : Act} {Q : Exit → Act → World → Prop} (hgd : o.guard = none) (s x : Operand) (t : TypeId)
    (ho : o.op = .call { callee := .builtin .append, args := #[s, x], argTypes := #[t, t] }) (base : Nat) (ht : Try.prog.underlying t = some (.slice 134))
    (v : Value) (xs : List Pt) (hs : a.eval s = v) (hown : w.ownsRow base 134 3 v xs.length (flat xs)) (g : Nat) (X Y : Int) (O : Bool) (hx : a.eval x = .slice (some ⟨g, 0, none⟩) 1 1) (hQ : Blk w g 134 #[.int .i64 X, .int .i64 Y, .bool O])
    (hn : xs.length ≤ 1000000) (hbase : base ≤ w.heap.size)
    (h : ∀ A' c' w', w'.ownsRow base 134 3 (.slice A' (xs.length + 1) c') (xs.length + 1) (flat (xs ++ [(X, Y, O)])) → w.grownBy w' v.ownBlock → wpList Try.prog ops Q rest (a.put o.dst (.slice A' (xs.length + 1) c')) w') : wpList Try.prog ops Q (o :: rest) a w := by
  refine wpList_plain hgd fun _ hK => ?_
  have hw : Region.wanted o (yielded #[] a.tmps) = true := by simp [Region.wanted, hgd]
  have := step_append_pt w (ops := #[]) (E := False) (Q := Q) hgd s x t ho base ht v xs hs hown g X Y O hx hQ hn hbase (fun A' c' w' h2 h3 => hK _ _ (h A' c' w' h2 h3))
  rw [if_pos hw] at this
  exact this

/-- What a row of slices holds. -/
abbrev Row := Option Addr × Nat × List Pt
def rowV (r : Row) : Value := .slice r.1 r.2.2.length r.2.1
/-- One slice more, onto a row of slices that the call owns. -/
theorem step_append_row (w : World) {ops : Array Oper} {o : Oper} {a : Act} {K : Act → World → Prop} {Q : Exit → Act → World → Prop} {E : Prop} (hgd : o.guard = none) (s x : Operand) (t : TypeId)
    (ho : o.op = .call { callee := .builtin .append, args := #[s, x], argTypes := #[t, t] }) (base : Nat) (ht : Try.prog.underlying t = some (.slice 96))
    (v : Value) (rs : List Row) (hs : a.eval s = v) (hown : w.ownsRow base 96 1 v rs.length (rs.map rowV)) (g : Nat) (r : Row) (hx : a.eval x = .slice (some ⟨g, 0, none⟩) 1 1) (hQ : Blk w g 96 #[rowV r])
    (hn : rs.length ≤ 1000000) (hbase : base ≤ w.heap.size)
    (h : ∀ A' c' w', w'.ownsRow base 96 1 (.slice A' (rs.length + 1) c') (rs.length + 1) ((rs ++ [r]).map rowV) → w.grownBy w' v.ownBlock → K (a.put o.dst (.slice A' (rs.length + 1) c')) w') :
    if Region.wanted o (yielded ops a.tmps) = true then Oper.wp Try.prog o a w K Q else E := by
  obtain ⟨i0, hi, hz0, hz1, hz2⟩ := info_parts info_pts
  have hw : Region.wanted o (yielded ops a.tmps) = true := by simp [Region.wanted, hgd]
  rw [if_pos hw]
  refine wp_append_own w s x t ho base 96 i0 _ 1 24 ht hi hz0 hz1 hz2 rfl (by decide) v rs.length (rs.map rowV) hs hown ⟨g, 0, none⟩ 1 1 [rowV r] hx rfl ?_ ?_ (by unfold maxLen; omega) (by omega) hbase ?_
  · intro j u hj
    rw [Addr.add_lit, Nat.zero_add]
    match j, hj with
    | 0, hj => rw [hQ.cell 0]; exact hj
  · intro u hu
    simp only [List.mem_cons, List.not_mem_nil, or_false] at hu
    subst hu
    rfl
  · intro v' w' hown' hgrow _
    obtain ⟨A', c', rfl⟩ := own_form hown'
    exact h A' c' w' (by rw [List.map_append]; exact hown') hgrow
theorem wpList_append_row (w : World) {ops : Array Oper} {rest : List Oper} {o : Oper} {a : Act} {Q : Exit → Act → World → Prop} (hgd : o.guard = none) (s x : Operand) (t : TypeId)
    (ho : o.op = .call { callee := .builtin .append, args := #[s, x], argTypes := #[t, t] }) (base : Nat) (ht : Try.prog.underlying t = some (.slice 96))
    (v : Value) (rs : List Row) (hs : a.eval s = v) (hown : w.ownsRow base 96 1 v rs.length (rs.map rowV)) (g : Nat) (r : Row) (hx : a.eval x = .slice (some ⟨g, 0, none⟩) 1 1) (hQ : Blk w g 96 #[rowV r])
    (hn : rs.length ≤ 1000000) (hbase : base ≤ w.heap.size)
    (h : ∀ A' c' w', w'.ownsRow base 96 1 (.slice A' (rs.length + 1) c') (rs.length + 1) ((rs ++ [r]).map rowV) → w.grownBy w' v.ownBlock → wpList Try.prog ops Q rest (a.put o.dst (.slice A' (rs.length + 1) c')) w') : wpList Try.prog ops Q (o :: rest) a w := by
  refine wpList_plain hgd fun _ hK => ?_
  have hw : Region.wanted o (yielded #[] a.tmps) = true := by simp [Region.wanted, hgd]
  have := step_append_row w (ops := #[]) (E := False) (Q := Q) hgd s x t ho base ht v rs hs hown g r hx hQ hn hbase (fun A' c' w' h2 h3 => hK _ _ (h A' c' w' h2 h3))
  rw [if_pos hw] at this
  exact this
/-- The same where a guard says yes. -/
theorem wpList_append_row_g (w : World) {ops : Array Oper} {rest : List Oper} {o : Oper} {a : Act} {Q : Exit → Act → World → Prop} (hw : Region.wanted o (yielded ops a.tmps) = true) (s x : Operand) (t : TypeId)
    (ho : o.op = .call { callee := .builtin .append, args := #[s, x], argTypes := #[t, t] }) (base : Nat) (ht : Try.prog.underlying t = some (.slice 96))
    (v : Value) (rs : List Row) (hs : a.eval s = v) (hown : w.ownsRow base 96 1 v rs.length (rs.map rowV)) (g c : Nat) (r : Row) (hx : a.eval x = .slice (some ⟨g, 0, none⟩) 1 c) (hQ : Blk w g 96 #[rowV r])
    (hn : rs.length ≤ 1000000) (hbase : base ≤ w.heap.size)
    (h : ∀ A' c' w', w'.ownsRow base 96 1 (.slice A' (rs.length + 1) c') (rs.length + 1) ((rs ++ [r]).map rowV) → w.grownBy w' v.ownBlock → wpList Try.prog ops Q rest (a.put o.dst (.slice A' (rs.length + 1) c')) w') : wpList Try.prog ops Q (o :: rest) a w := by
  obtain ⟨i0, hi, hz0, hz1, hz2⟩ := info_parts info_pts
  refine wpList_step fun K hK => ?_
  rw [if_pos hw]
  refine wp_append_own w s x t ho base 96 i0 _ 1 24 ht hi hz0 hz1 hz2 rfl (by decide) v rs.length (rs.map rowV) hs hown ⟨g, 0, none⟩ 1 c [rowV r] hx rfl ?_ ?_ (by unfold maxLen; omega) (by omega) hbase ?_
  · intro j u hj
    rw [Addr.add_lit, Nat.zero_add]
    match j, hj with
    | 0, hj => rw [hQ.cell 0]; exact hj
  · intro u hu
    simp only [List.mem_cons, List.not_mem_nil, or_false] at hu
    subst hu
    rfl
  · intro v' w' hown' hgrow _
    obtain ⟨A', c', rfl⟩ := own_form hown'
    exact hK _ _ (h A' c' w' (by rw [List.map_append]; exact hown') hgrow)
/-- A row of slices that is owned, and what its slices read. -/
theorem own_rdps {w : World} {base n c : Nat} {A : Option Addr} {rs : List Row} (h : w.ownsRow base 96 1 (.slice A n c) n (rs.map rowV)) (hr : ∀ r ∈ rs, RdPt w w.heap.size r.1 r.2.2) : RdPs w w.heap.size A (rs.map fun r => r.2.2) := fun h0 => by
  have hn : n = rs.length := by have := h.1; simp at this; omega
  have hl : 0 < rs.length := by simpa using h0
  obtain ⟨g, cap, hv, _, hlt⟩ := h.form (by omega)
  have hA : A = some ⟨g, 0, none⟩ := by injection hv
  subst hA
  refine ⟨g, 0, rfl, hlt, fun k hk => ?_⟩
  have hk' : k < rs.length := by simpa using hk
  have hc := h.cells (g := g) rfl k (rowV rs[k]) (by simp [hk'])
  rw [Addr.add_lit] at hc
  refine ⟨rs[k].1, rs[k].2.1, ?_, ?_⟩
  · rw [List.getElem_map]; exact hc
  · rw [List.getElem_map]; exact hr _ (List.getElem_mem hk')
/-- Polygons as an argument has them: with what is known of each slice. -/
def RwPs (w : World) (B : Nat) (A : Option Addr) (ls : List (List Pt)) : Prop :=
  0 < ls.length → ∃ b o, A = some ⟨b, o, none⟩ ∧ b < B ∧ ∀ k (h : k < ls.length), ∃ (Ak : Option Addr) (ck : Nat), w.cell? ⟨b, o + k, none⟩ = some (.slice Ak ls[k].length ck) ∧ RdPt w B Ak ls[k] ∧ ls[k].length ≤ ck ∧ ck ≤ 9223372036854775807 ∧ (Ak = none → ls[k].length = 0 ∧ ck = 0)
theorem RwPs.rd {w : World} {B : Nat} {A : Option Addr} {ls : List (List Pt)} (h : RwPs w B A ls) : RdPs w B A ls := fun h0 => by
  obtain ⟨b, o, e, hb, hc⟩ := h h0
  exact ⟨b, o, e, hb, fun k hk => by obtain ⟨Ak, ck, h1, h2, _⟩ := hc k hk; exact ⟨Ak, ck, h1, h2⟩⟩
theorem RwPs.below {w w' : World} {B C : Nat} {A : Option Addr} {ls : List (List Pt)} (h : RwPs w B A ls) (hb : Below C w w') (hC : B ≤ C) : RwPs w' B A ls := fun h0 => by
  obtain ⟨b, o, e, hlt, hc⟩ := h h0
  refine ⟨b, o, e, hlt, fun k hk => ?_⟩
  obtain ⟨Ak, ck, h1, h2, h3⟩ := hc k hk
  exact ⟨Ak, ck, (hb.cell (p := ⟨b, o + k, none⟩) (show b < C by omega)).trans h1, h2.below hb hC, h3⟩
theorem RwPs.more {w : World} {B B' : Nat} {A : Option Addr} {ls : List (List Pt)} (h : RwPs w B A ls) (hB : B ≤ B') : RwPs w B' A ls := fun h0 => by
  obtain ⟨b, o, e, hlt, hc⟩ := h h0
  refine ⟨b, o, e, by omega, fun k hk => ?_⟩
  obtain ⟨Ak, ck, h1, h2, h3⟩ := hc k hk
  exact ⟨Ak, ck, h1, h2.more hB, h3⟩
theorem RwPs.at_ {w : World} {B : Nat} {A : Option Addr} {ls : List (List Pt)} (h : RwPs w B A ls) {k : Nat} (hk : k < ls.length) : ∃ b o, A = some ⟨b, o, none⟩ ∧ b < B ∧ ∃ (Ak : Option Addr) (ck : Nat), w.cell? ⟨b, o + k, none⟩ = some (.slice Ak ls[k].length ck) ∧ RdPt w B Ak ls[k] ∧ ls[k].length ≤ ck ∧ ck ≤ 9223372036854775807 ∧ (Ak = none → ls[k].length = 0 ∧ ck = 0) := by
  obtain ⟨b, o, e, hlt, hc⟩ := h (by omega)
  exact ⟨b, o, e, hlt, hc k hk⟩
theorem own_cap' {w : World} {base e s n c : Nat} {A : Option Addr} {xs : List Value} (h : w.ownsRow base e s (.slice A n c) n xs) : n ≤ c ∧ c ≤ 9223372036854775807 ∧ (A = none → n = 0 ∧ c = 0) := by
  rcases h.2 with ⟨hv, rfl⟩ | ⟨g, cap, cur, hv, _, _, hle, hmx, _⟩
  · injection hv with h1 h2 h3
    exact ⟨by omega, by omega, fun _ => ⟨h2, h3⟩⟩
  · injection hv with h1 _ h3
    unfold maxLen at hmx
    exact ⟨by omega, by omega, fun h => by rw [h] at h1; cases h1⟩
/-- The same, with what is known of each slice. -/
theorem own_rwps {w : World} {base n c : Nat} {A : Option Addr} {rs : List Row} (h : w.ownsRow base 96 1 (.slice A n c) n (rs.map rowV)) (hr : ∀ r ∈ rs, w.ownsRow base 134 3 (.slice r.1 r.2.2.length r.2.1) r.2.2.length (flat r.2.2)) : RwPs w w.heap.size A (rs.map fun r => r.2.2) := fun h0 => by
  have hn : n = rs.length := by have := h.1; simp at this; omega
  have hl : 0 < rs.length := by simpa using h0
  obtain ⟨g, cap, hv, _, hlt⟩ := h.form (by omega)
  have hA : A = some ⟨g, 0, none⟩ := by injection hv
  subst hA
  refine ⟨g, 0, rfl, hlt, fun k hk => ?_⟩
  have hk' : k < rs.length := by simpa using hk
  have hc := h.cells (g := g) rfl k (rowV rs[k]) (by simp [hk'])
  rw [Addr.add_lit] at hc
  refine ⟨rs[k].1, rs[k].2.1, ?_, ?_⟩
  · rw [List.getElem_map]; exact hc
  · rw [List.getElem_map]
    have ho := hr _ (List.getElem_mem hk')
    exact ⟨own_rdpt ho, own_cap' ho⟩
end Go.Proofs.Ytlanefdeeanpnaa
