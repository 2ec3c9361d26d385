/-
  More of appends of points and of slices of points: where the row lies afterwards. Conditions: none; no function of the program is named here.
-/
import Derived.Test.YtlanefdeeanpnaaPolyApp
namespace Go.Proofs.Ytlanefdeeanpnaa
set_option linter.unusedVariables false
set_option linter.unusedSimpArgs false
open Go.RowKit

/-- Rows in different blocks. -/
def Apart (v1 v2 : Value) : Prop := ∀ k, v1.ownBlock = some k → v2.ownBlock ≠ some k
theorem Apart.symm {v1 v2 : Value} (h : Apart v1 v2) : Apart v2 v1 := fun k h1 h2 => h k h2 h1
theorem Apart.nil (v : Value) : Apart (.slice none 0 0) v := fun k h => by simp [Value.ownBlock] at h
/-- What an append makes of a row, or leaves. -/
def Grew (v v' : Value) (w : World) : Prop := v'.ownBlock = v.ownBlock ∨ v'.ownBlock = some w.heap.size
section
variable {w w' : World} {base e s n : Nat} {v v1 v2 : Value} {xs : List Value}
theorem own_lt {k : Nat} (h : w.ownsRow base e s v n xs) (hk : v.ownBlock = some k) : base ≤ k ∧ k < w.heap.size := by
  rcases h.2 with ⟨rfl, _⟩ | ⟨g, cap, cur, rfl, h3, h4, _⟩
  · simp [Value.ownBlock] at hk
  · have : g = k := by simpa [Value.ownBlock] using hk
    subst this
    rcases Nat.lt_or_ge g w.heap.size with hlt | hge
    · exact ⟨h3, hlt⟩
    · rw [Array.getElem?_eq_none hge] at h4; cases h4
theorem Apart.grew (h : Apart v1 v2) (h2 : w.ownsRow base e s v2 n xs) (hg : Grew v1 v w) : Apart v v2 := fun k hk hk2 => by
  rcases hg with hg | hg
  · exact h k (by rw [← hg]; exact hk) hk2
  · rw [hg] at hk
    have := (own_lt h2 hk2).2
    injection hk with hk
    omega
theorem own_far (h2 : w.ownsRow base e s v2 n xs) (hg : w.grownBy w' v1.ownBlock) (ha : Apart v1 v2) : w'.ownsRow base e s v2 n xs := by
  refine ⟨h2.1, ?_⟩
  rcases h2.2 with hh | ⟨g, cap, cur, rfl, h3, h4, h5⟩
  · exact .inl hh
  · have hlt : g < w.heap.size := by
      rcases Nat.lt_or_ge g w.heap.size with hlt | hge
      · exact hlt
      · rw [Array.getElem?_eq_none hge] at h4; cases h4
    exact .inr ⟨g, cap, cur, rfl, h3, (hg.block g hlt (fun e => ha g e.symm (by simp [Value.ownBlock]))).trans h4, h5⟩
end
theorem run_append_pts2 (w : World) (t ty : TypeId) (base : Nat) (ht : Try.prog.underlying t = some (.slice 134)) (v : Value) (xs : List Pt) (hown : w.ownsRow base 134 3 v xs.length (flat xs))
    (A : Option Addr) (c B : Nat) (D : List Pt) (hr : RdPt w B A D) (hn : xs.length + D.length ≤ 1000000) (hbase : base ≤ w.heap.size) :
    ∃ A' c' w', (Builtin.append_ #[t, t] ty #[v, .slice A D.length c]).run Try.prog w = .ok (.slice A' (xs.length + D.length) c') w' ∧
      w'.ownsRow base 134 3 (.slice A' (xs.length + D.length) c') (xs.length + D.length) (flat (xs ++ D)) ∧ w.grownBy w' v.ownBlock ∧ Grew v (.slice A' (xs.length + D.length) c') w := by
  obtain ⟨i0, hi, hz0, hz1, hz2⟩ := info_parts info_pt
  by_cases hD : 0 < D.length
  · obtain ⟨b, o, rfl, hb, hc⟩ := hr hD
    obtain ⟨v', w', hrun, h2, h3, _, h5⟩ := run_append_own_at (P := Try.prog) w base t ty 134 i0 _ 3 24 ht hi hz0 hz1 hz2 rfl (by decide) v xs.length (flat xs) hown ⟨b, o, none⟩ D.length c (flat D) (flat_len D) (flat_read hc) (flat_one D) (by unfold maxLen; omega) (by omega) hbase
    obtain ⟨A', c', rfl⟩ := own_form h2
    exact ⟨A', c', w', hrun, by rw [flat_app]; exact h2, h3, h5⟩
  · have h0 : D.length = 0 := by omega
    have hnil : D = [] := List.eq_nil_of_length_eq_zero h0
    subst hnil
    obtain ⟨A', c', rfl⟩ := own_form hown
    exact ⟨A', c', w, run_append_none3 w t ty _ i0 ht hi hz1 _ _ base _ hown A c, by simpa using hown, World.grownBy.refl _ _, .inl rfl⟩
theorem rdpt_one {w : World} {g : Nat} {X Y : Int} {O : Bool} (hQ : Blk w g 134 #[.int .i64 X, .int .i64 Y, .bool O]) : RdPt w (g + 1) (some ⟨g, 0, none⟩) [(X, Y, O)] := fun _ => ⟨g, 0, rfl, Nat.lt_succ_self g, fun k hk => by
  obtain rfl : k = 0 := by simpa using hk
  exact ⟨hQ.cell 0, hQ.cell 1, hQ.cell 2⟩⟩
/-- One point more, onto a row that the call owns; and where the row lies then. -/
theorem step_append_pt2 (w : World) {ops : Array Oper} {o : Oper} {a : Act} {K : Act → World → Prop} {Q : Exit → Act → World → Prop} {E : Prop} (hgd : o.guard = none) (s x : Operand) (t : TypeId)
    (ho : o.op = .call { callee := .builtin .append, args := #[s, x], argTypes := #[t, t] }) (base : Nat) (ht : Try.prog.underlying t = some (.slice 134))
    (v : Value) (xs : List Pt) (hs : a.eval s = v) (hown : w.ownsRow base 134 3 v xs.length (flat xs)) (g : Nat) (X Y : Int) (O : Bool) (hx : a.eval x = .slice (some ⟨g, 0, none⟩) 1 1) (hQ : Blk w g 134 #[.int .i64 X, .int .i64 Y, .bool O])
    (hn : xs.length ≤ 100000) (hbase : base ≤ w.heap.size)
    (h : ∀ A' c' w', w'.ownsRow base 134 3 (.slice A' (xs.length + 1) c') (xs.length + 1) (flat (xs ++ [(X, Y, O)])) → w.grownBy w' v.ownBlock → Grew v (.slice A' (xs.length + 1) c') w → K (a.put o.dst (.slice A' (xs.length + 1) c')) w') :
    if Region.wanted o (yielded ops a.tmps) = true then Oper.wp Try.prog o a w K Q else E := by
  have hw : Region.wanted o (yielded ops a.tmps) = true := by simp [Region.wanted, hgd]
  rw [if_pos hw]
  obtain ⟨A', c', w', hrun, h2, h3, h4⟩ := run_append_pts2 w t o.type base ht v xs hown (some ⟨g, 0, none⟩) 1 (g + 1) [(X, Y, O)] (rdpt_one hQ) (by simp; omega) hbase
  simp only [List.length_cons, List.length_nil, Nat.zero_add] at hrun h2 h4
  unfold Oper.wp execOp
  simp only [ho, resolve, invoke, builtin, Sem.run_bind, Sem.run_pure, Result.andThen_ok, List.map_toArray, List.map_cons, List.map_nil, hs, hx, hrun]
  exact h A' c' w' h2 h3 h4
/-- One slice more, onto a row of slices that the call owns; and where the row lies then. -/
theorem wpList_append_row2 (w : World) {ops : Array Oper} {rest : List Oper} {o : Oper} {a : Act} {Q : Exit → Act → World → Prop} (hgd : o.guard = none) (s x : Operand) (t : TypeId)
    (ho : o.op = .call { callee := .builtin .append, args := #[s, x], argTypes := #[t, t] }) (base : Nat) (ht : Try.prog.underlying t = some (.slice 96))
    (v : Value) (rs : List Row) (hs : a.eval s = v) (hown : w.ownsRow base 96 1 v rs.length (rs.map rowV)) (g : Nat) (r : Row) (hx : a.eval x = .slice (some ⟨g, 0, none⟩) 1 1) (hQ : Blk w g 96 #[rowV r])
    (hn : rs.length ≤ 1000000) (hbase : base ≤ w.heap.size)
    (h : ∀ A' c' w', w'.ownsRow base 96 1 (.slice A' (rs.length + 1) c') (rs.length + 1) ((rs ++ [r]).map rowV) → w.grownBy w' v.ownBlock → Grew v (.slice A' (rs.length + 1) c') w → wpList Try.prog ops Q rest (a.put o.dst (.slice A' (rs.length + 1) c')) w') : wpList Try.prog ops Q (o :: rest) a w := by
  refine wpList_plain hgd fun _ hK => ?_
  obtain ⟨i0, hi, hz0, hz1, hz2⟩ := info_parts info_pts
  obtain ⟨v', w', hrun, h2, h3, _, h5⟩ := run_append_own_at (P := Try.prog) w base t o.type 96 i0 _ 1 24 ht hi hz0 hz1 hz2 rfl (by decide) v rs.length (rs.map rowV) hown ⟨g, 0, none⟩ 1 1 [rowV r] rfl (fun j u hj => by
    rw [Addr.add_lit, Nat.zero_add]
    match j, hj with
    | 0, hj => rw [hQ.cell 0]; exact hj) (fun u hu => by
    simp only [List.mem_cons, List.not_mem_nil, or_false] at hu
    subst hu
    rfl) (by unfold maxLen; omega) (by omega) hbase
  obtain ⟨A', c', rfl⟩ := own_form h2
  unfold Oper.wp execOp
  simp only [ho, resolve, invoke, builtin, Sem.run_bind, Sem.run_pure, Result.andThen_ok, List.map_toArray, List.map_cons, List.map_nil, hs, hx, hrun]
  exact hK _ _ (h A' c' w' (by rw [List.map_append]; exact h2) h3 h5)
end Go.Proofs.Ytlanefdeeanpnaa
