/-
  append of a slice of points that is read, onto one that the call owns, nil or not, empty or not. Conditions: none; no function of the program is named here.
-/
import Derived.Test.YtlanefdeeanpnaaPolyOwn
namespace Go.Proofs.Ytlanefdeeanpnaa
set_option linter.unusedVariables false
set_option linter.unusedSimpArgs false
open Go.RowKit

theorem flat_app (xs ys : List Pt) : flat (xs ++ ys) = flat xs ++ flat ys := by simp [flat]
theorem flat_one (xs : List Pt) : ∀ u ∈ flat xs, u.oneCell' = true := by
  intro u hu
  unfold flat at hu
  rw [List.mem_flatMap] at hu
  obtain ⟨p, _, hp⟩ := hu
  simp only [ptCells, List.mem_cons, List.not_mem_nil, or_false] at hp
  rcases hp with rfl | rfl | rfl <;> rfl
theorem flat_read {w : World} {b o : Nat} {D : List Pt} (h : ∀ k (h : k < D.length), w.cell? ⟨b, o + k * 3, none⟩ = some (.int .i64 D[k].1) ∧ w.cell? ⟨b, o + k * 3 + 1, none⟩ = some (.int .i64 D[k].2.1) ∧ w.cell? ⟨b, o + k * 3 + 2, none⟩ = some (.bool D[k].2.2)) :
    ∀ j u, (flat D)[j]? = some u → w.cell? ((⟨b, o, none⟩ : Addr).add j) = some u := by
  intro j u hj
  have hlt : j < D.length * 3 := by
    obtain ⟨h1, _⟩ := List.getElem?_eq_some_iff.1 hj
    rw [flat_len] at h1
    exact h1
  have ha : (⟨b, o, none⟩ : Addr).add j = ⟨b, o + j, none⟩ := by unfold Addr.add; split <;> simp_all
  rw [ha]
  have hk : j / 3 < D.length := by omega
  obtain ⟨f1, f2, f3⟩ := flat_get D (j / 3) hk
  obtain ⟨g1, g2, g3⟩ := h (j / 3) hk
  have hc : j % 3 = 0 ∨ j % 3 = 1 ∨ j % 3 = 2 := by omega
  rcases hc with hc | hc | hc
  · have e : j = j / 3 * 3 := by omega
    rw [← e] at f1 g1
    rw [f1] at hj
    injection hj with hj
    rw [← hj]; exact g1
  · have e : j = j / 3 * 3 + 1 := by omega
    rw [← e] at f2
    rw [Nat.add_assoc, ← e] at g2
    rw [f2] at hj
    injection hj with hj
    rw [← hj]; exact g2
  · have e : j = j / 3 * 3 + 2 := by omega
    rw [← e] at f3
    rw [Nat.add_assoc, ← e] at g3
    rw [f3] at hj
    injection hj with hj
    rw [← hj]; exact g3

section
variable {w : World} {base : Nat}
theorem load_none3 (w : World) (A : Option Addr) (c : Nat) : (Builtin.firstCells 3 0 (.slice A 0 c)).run Try.prog w = .ok #[] w := by
  cases A with
  | none => exact run_firstCells_none w 3 0 0 c
  | some a => rw [run_firstCells_some w 3 0 a 0 c [] rfl (by simp)]
theorem run_append_none3 (w : World) (t ty e : TypeId) (i : TypeInfo) (ht : Try.prog.underlying t = some (.slice e)) (hi : Try.prog.info? e = some i) (hsize : i.size = 3)
    (v : Value) (n base : Nat) (xs : List Value) (hown : w.ownsRow base e 3 v n xs) (A : Option Addr) (c : Nat) :
    (Builtin.append_ #[t, t] ty #[v, .slice A 0 c]).run Try.prog w = .ok v w := by
  have hl := load_none3 w A c
  rcases hown.2 with ⟨rfl, rfl⟩ | ⟨g, cap, cur, rfl, _, hg, hle, hmx, hcs, htk⟩
  · simp [Builtin.append_, run_underlying ht, sizeOf, typeInfo, hi, hsize, Builtin.lenOf, hl]
  · simp [Builtin.append_, run_underlying ht, sizeOf, typeInfo, hi, hsize, Builtin.lenOf, hl, hle, storeCells]
theorem run_append_pts (w : World) (t ty : TypeId) (base : Nat) (ht : Try.prog.underlying t = some (.slice 134)) (v : Value) (xs : List Pt) (hown : w.ownsRow base 134 3 v xs.length (flat xs))
    (A : Option Addr) (c B : Nat) (D : List Pt) (hr : RdPt w B A D) (hn : xs.length + D.length ≤ 1000000) (hbase : base ≤ w.heap.size) :
    ∃ A' c' w', (Builtin.append_ #[t, t] ty #[v, .slice A D.length c]).run Try.prog w = .ok (.slice A' (xs.length + D.length) c') w' ∧
      w'.ownsRow base 134 3 (.slice A' (xs.length + D.length) c') (xs.length + D.length) (flat (xs ++ D)) ∧ w.grownBy w' v.ownBlock := by
  obtain ⟨i0, hi, hz0, hz1, hz2⟩ := info_parts info_pt
  by_cases hD : 0 < D.length
  · obtain ⟨b, o, rfl, hb, hc⟩ := hr hD
    obtain ⟨v', w', hrun, h2, h3, _, _⟩ := run_append_own_at (P := Try.prog) w base t ty 134 i0 _ 3 24 ht hi hz0 hz1 hz2 rfl (by decide) v xs.length (flat xs) hown ⟨b, o, none⟩ D.length c (flat D) (flat_len D) (flat_read hc) (flat_one D) (by unfold maxLen; omega) (by omega) hbase
    obtain ⟨A', c', rfl⟩ := own_form h2
    exact ⟨A', c', w', hrun, by rw [flat_app]; exact h2, h3⟩
  · have h0 : D.length = 0 := by omega
    have hnil : D = [] := List.eq_nil_of_length_eq_zero h0
    subst hnil
    obtain ⟨A', c', rfl⟩ := own_form hown
    exact ⟨A', c', w, run_append_none3 w t ty _ i0 ht hi hz1 _ _ base _ hown A c, by simpa using hown, World.grownBy.refl _ _⟩
theorem wp_append_pts (w : World) {o : Oper} {a : Act} {K : Act → World → Prop} {Q : Exit → Act → World → Prop} (s x : Operand) (t : TypeId)
    (ho : o.op = .call { callee := .builtin .append, args := #[s, x], argTypes := #[t, t] }) (base : Nat) (ht : Try.prog.underlying t = some (.slice 134)) (v : Value) (xs : List Pt) (hs : a.eval s = v) (hown : w.ownsRow base 134 3 v xs.length (flat xs))
    (A : Option Addr) (c B : Nat) (D : List Pt) (hx : a.eval x = .slice A D.length c) (hr : RdPt w B A D) (hn : xs.length + D.length ≤ 1000000) (hbase : base ≤ w.heap.size)
    (h : ∀ A' c' w', w'.ownsRow base 134 3 (.slice A' (xs.length + D.length) c') (xs.length + D.length) (flat (xs ++ D)) → w.grownBy w' v.ownBlock → K (a.put o.dst (.slice A' (xs.length + D.length) c')) w') : o.wp Try.prog a w K Q := by
  obtain ⟨A', c', w', hrun, h2, h3⟩ := run_append_pts w t o.type base ht v xs hown A c B D hr hn hbase
  unfold Oper.wp execOp
  simp only [ho, resolve, invoke, builtin, Sem.run_bind, Sem.run_pure, Result.andThen_ok, List.map_toArray, List.map_cons, List.map_nil, hs, hx, hrun]
  exact h A' c' w' h2 h3
theorem wpList_append_pts (w : World) {ops : Array Oper} {rest : List Oper} {o : Oper} {a : Act} {Q : Exit → Act → World → Prop} (hgd : o.guard = none) (s x : Operand) (t : TypeId)
    (ho : o.op = .call { callee := .builtin .append, args := #[s, x], argTypes := #[t, t] }) (base : Nat) (ht : Try.prog.underlying t = some (.slice 134)) (v : Value) (xs : List Pt) (hs : a.eval s = v) (hown : w.ownsRow base 134 3 v xs.length (flat xs))
    (A : Option Addr) (c B : Nat) (D : List Pt) (hx : a.eval x = .slice A D.length c) (hr : RdPt w B A D) (hn : xs.length + D.length ≤ 1000000) (hbase : base ≤ w.heap.size)
    (h : ∀ A' c' w', w'.ownsRow base 134 3 (.slice A' (xs.length + D.length) c') (xs.length + D.length) (flat (xs ++ D)) → w.grownBy w' v.ownBlock → wpList Try.prog ops Q rest (a.put o.dst (.slice A' (xs.length + D.length) c')) w') : wpList Try.prog ops Q (o :: rest) a w :=
  wpList_plain hgd fun _ hK => wp_append_pts w s x t ho base ht v xs hs hown A c B D hx hr hn hbase fun A' c' w' h2 h3 => hK _ _ (h A' c' w' h2 h3)
theorem step_append_pts (w : World) {ops : Array Oper} {o : Oper} {a : Act} {K : Act → World → Prop} {Q : Exit → Act → World → Prop} {E : Prop} (hgd : o.guard = none) (s x : Operand) (t : TypeId)
    (ho : o.op = .call { callee := .builtin .append, args := #[s, x], argTypes := #[t, t] }) (base : Nat) (ht : Try.prog.underlying t = some (.slice 134)) (v : Value) (xs : List Pt) (hs : a.eval s = v) (hown : w.ownsRow base 134 3 v xs.length (flat xs))
    (A : Option Addr) (c B : Nat) (D : List Pt) (hx : a.eval x = .slice A D.length c) (hr : RdPt w B A D) (hn : xs.length + D.length ≤ 1000000) (hbase : base ≤ w.heap.size)
    (h : ∀ A' c' w', w'.ownsRow base 134 3 (.slice A' (xs.length + D.length) c') (xs.length + D.length) (flat (xs ++ D)) → w.grownBy w' v.ownBlock → K (a.put o.dst (.slice A' (xs.length + D.length) c')) w') :
    if Region.wanted o (yielded ops a.tmps) = true then Oper.wp Try.prog o a w K Q else E := by
  have hw : Region.wanted o (yielded ops a.tmps) = true := by simp [Region.wanted, hgd]
  rw [if_pos hw]
  exact wp_append_pts w s x t ho base ht v xs hs hown A c B D hx hr hn hbase h
/-- An empty row of points that was just made is owned. -/
theorem own_empty3 {w : World} {g base : Nat} {e : TypeId} (h : Blk w g e #[]) (hb : base ≤ g) : w.ownsRow base e 3 (.slice (some ⟨g, 0, none⟩) 0 0) 0 [] :=
  ⟨rfl, .inr ⟨g, 0, #[], rfl, hb, h, Nat.le_refl _, by unfold maxLen; omega, rfl, rfl⟩⟩
end
end Go.Proofs.Ytlanefdeeanpnaa
