/-
  Plain lemmas for the laws of layer 21: distances, what a changed dot turns, blank and full bitmaps, more dots. Conditions: none; no function of the program is named here.
-/
import Derived.Test.YtlanefdeeanpnaaSeeAll
namespace Go.Proofs.Ytlanefdeeanpnaa
set_option linter.unusedVariables false
set_option linter.unusedSimpArgs false

/-- One step of the count of differences. -/
theorem dif_succ (a b : List Bool) (t : Nat) : dif a b (t + 1) = dif a b t + if (a.getD t false != b.getD t false) = true then 1 else 0 := by
  unfold dif
  rw [List.range_succ, List.filter_append, List.length_append, List.filter_cons]
  split <;> rfl
theorem dif_symm (a b : List Bool) (t : Nat) : dif a b t = dif b a t := by
  induction t with
  | zero => rfl
  | succ t ih =>
    rw [dif_succ, dif_succ, ih]
    congr 1
    cases a.getD t false <;> cases b.getD t false <;> rfl
theorem dif_self (a : List Bool) (t : Nat) : dif a a t = 0 := by
  induction t with
  | zero => rfl
  | succ t ih =>
    rw [dif_succ, ih]
    cases a.getD t false <;> rfl
theorem dif_tri (a b d : List Bool) (t : Nat) : dif a b t ≤ dif a d t + dif d b t := by
  induction t with
  | zero => exact Nat.le_refl _
  | succ t ih =>
    rw [dif_succ, dif_succ, dif_succ]
    cases a.getD t false <;> cases b.getD t false <;> cases d.getD t false <;> simp <;> omega

/-- Dots that agree where a column is counted. -/
theorem csum_congr (W : Nat) (D E : List Bool) (i lo n : Nat) (h : ∀ j, lo ≤ j → j < lo + n → dotN W D i j = dotN W E i j) : csum W D i (lo + n) - csum W D i lo = csum W E i (lo + n) - csum W E i lo := by
  induction n with
  | zero => rw [Nat.add_zero]; omega
  | succ n ih =>
    have ih := ih (fun j h1 h2 => h j h1 (by omega))
    have h1 := h (lo + n) (by omega) (by omega)
    rw [← Nat.add_assoc]
    simp only [csum]
    omega
theorem box_congr (W : Nat) (D E : List Bool) (l n lo hi : Nat) (hlo : lo ≤ hi) (h : ∀ i j, l ≤ i → i < l + n → lo ≤ j → j < hi → dotN W D i j = dotN W E i j) : box W D l (l + n) lo hi = box W E l (l + n) lo hi := by
  induction n with
  | zero => rw [Nat.add_zero, box_zero, box_zero]
  | succ n ih =>
    have ih := ih (fun i j h1 h2 h3 h4 => h i j h1 (by omega) h3 h4)
    have hc := csum_congr W D E (l + n) lo (hi - lo) (fun j h1 h2 => h (l + n) j (by omega) (by omega) h1 (by omega))
    rw [show lo + (hi - lo) = hi by omega] at hc
    rw [← Nat.add_assoc, box_step, box_step, ih, hc]
theorem csum_le (W : Nat) (D E : List Bool) (i lo n : Nat) (h : ∀ j, dotN W D i j ≤ dotN W E i j) : csum W D i (lo + n) - csum W D i lo ≤ csum W E i (lo + n) - csum W E i lo := by
  induction n with
  | zero => rw [Nat.add_zero]; omega
  | succ n ih =>
    have h1 := h (lo + n)
    rw [← Nat.add_assoc]
    simp only [csum]
    omega
theorem box_le (W : Nat) (D E : List Bool) (l n lo hi : Nat) (hlo : lo ≤ hi) (h : ∀ i j, dotN W D i j ≤ dotN W E i j) : box W D l (l + n) lo hi ≤ box W E l (l + n) lo hi := by
  induction n with
  | zero => rw [Nat.add_zero, box_zero, box_zero]; omega
  | succ n ih =>
    have hc := csum_le W D E (l + n) lo (hi - lo) (fun j => h (l + n) j)
    rw [show lo + (hi - lo) = hi by omega] at hc
    rw [← Nat.add_assoc, box_step, box_step]
    omega
theorem csum_one (W : Nat) (D : List Bool) (i lo n : Nat) (v : Int) (h : ∀ j, lo ≤ j → j < lo + n → dotN W D i j = v) : csum W D i (lo + n) - csum W D i lo = n * v := by
  induction n with
  | zero => simp
  | succ n ih =>
    have ih := ih (fun j h1 h2 => h j h1 (by omega))
    have h1 := h (lo + n) (by omega) (by omega)
    rw [← Nat.add_assoc, Int.natCast_add, Int.add_mul]
    simp only [csum]
    omega
theorem box_one (W : Nat) (D : List Bool) (l n lo m : Nat) (v : Int) (h : ∀ i j, l ≤ i → i < l + n → lo ≤ j → j < lo + m → dotN W D i j = v) : box W D l (l + n) lo (lo + m) = n * (m * v) := by
  induction n with
  | zero => rw [Nat.add_zero, box_zero]; simp
  | succ n ih =>
    have ih := ih (fun i j h1 h2 h3 h4 => h i j h1 (by omega) h3 h4)
    have hc := csum_one W D (l + n) lo m v (fun j h1 h2 => h (l + n) j (by omega) (by omega) h1 h2)
    rw [← Nat.add_assoc, box_step, ih, hc, Int.natCast_add, Int.add_mul]
    omega

theorem sq_split (m n x y b : Nat) (hx : x < m) (hy : y < n) : ∃ nx ny, min m (x + b + 1) = (x - b) + nx ∧ min n (y + b + 1) = (y - b) + ny := ⟨min m (x + b + 1) - (x - b), min n (y + b + 1) - (y - b), by omega, by omega⟩
theorem sqN_congr (m n : Nat) (D E : List Bool) (x y b : Nat) (hx : x < m) (hy : y < n) (h : ∀ i j, x ≤ i + b → i ≤ x + b → i < m → y ≤ j + b → j ≤ y + b → j < n → dotN m D i j = dotN m E i j) : sqN m n D x y b = sqN m n E x y b := by
  unfold sqN
  obtain ⟨nx, ny, h1, h2⟩ := sq_split m n x y b hx hy
  rw [h1]
  exact box_congr m D E _ _ _ _ (by omega) (fun i j a1 a2 a3 a4 => h i j (by omega) (by omega) (by omega) (by omega) (by omega) (by omega))
theorem sqN_le (m n : Nat) (D E : List Bool) (x y b : Nat) (hx : x < m) (hy : y < n) (h : ∀ i j, dotN m D i j ≤ dotN m E i j) : sqN m n D x y b ≤ sqN m n E x y b := by
  unfold sqN
  obtain ⟨nx, ny, h1, h2⟩ := sq_split m n x y b hx hy
  rw [h1]
  exact box_le m D E _ _ _ _ (by omega) h
theorem sqN_zero (m n : Nat) (D : List Bool) (x y b : Nat) (hx : x < m) (hy : y < n) (h : ∀ i j, dotN m D i j = 0) : sqN m n D x y b = 0 := by
  unfold sqN
  obtain ⟨nx, ny, h1, h2⟩ := sq_split m n x y b hx hy
  rw [h1, h2, box_one m D _ _ _ _ 0 (fun i j _ _ _ _ => h i j)]
  simp
theorem sqN_self (m n : Nat) (D : List Bool) (x y : Nat) (hx : x < m) (hy : y < n) : sqN m n D x y 0 = dotN m D x y := by
  unfold sqN
  rw [show min m (x + 0 + 1) = (x - 0) + 1 by omega, show min n (y + 0 + 1) = (y - 0) + 1 by omega, box_one m D (x - 0) 1 (y - 0) 1 (dotN m D x y) (fun i j a1 a2 a3 a4 => by rw [show i = x by omega, show j = y by omega])]
  simp
theorem sqN_full (m n : Nat) (D : List Bool) (x y b : Nat) (hx1 : b ≤ x) (hx : x + b < m) (hy1 : b ≤ y) (hy : y + b < n) (h : ∀ i j, i < m → j < n → dotN m D i j = 1) : sqN m n D x y b = ((2 * b + 1 : Nat) : Int) * ((2 * b + 1 : Nat) : Int) := by
  unfold sqN
  rw [show min m (x + b + 1) = (x - b) + (2 * b + 1) by omega, show min n (y + b + 1) = (y - b) + (2 * b + 1) by omega, box_one m D (x - b) (2 * b + 1) (y - b) (2 * b + 1) 1 (fun i j a1 a2 a3 a4 => h i j (by omega) (by omega))]
  simp

theorem seeL_at (m n : Nat) (D : List Bool) (b : Nat) (S : Int) (i j : Nat) (hi : i < m) (hj : j < n) : (seeL m n D b S).getD (j * m + i) false = decide (S ≤ sqN m n D i j b) := by
  have hl := row_lt hj hi
  rw [List.getD_eq_getElem?_getD, List.getElem?_eq_getElem (by rw [seeL_len]; exact hl)]
  simp only [seeL, List.getElem_map, List.getElem_range, Option.getD_some, row_mod hi, row_div hi]
theorem split_k {m n k : Nat} (h : k < m * n) : k % m < m ∧ k / m < n ∧ k = k / m * m + k % m := by
  have hm : 0 < m := by rcases Nat.eq_zero_or_pos m with e | e; (subst e; simp at h); exact e
  refine ⟨Nat.mod_lt _ hm, Nat.div_lt_of_lt_mul h, ?_⟩
  have := Nat.div_add_mod k m
  rw [Nat.mul_comm] at this
  omega
theorem bools_ext {m n : Nat} {D E : List Bool} (hD : D.length = m * n) (hE : E.length = m * n) (h : ∀ i j, i < m → j < n → D.getD (j * m + i) false = E.getD (j * m + i) false) : D = E := by
  apply List.ext_getElem
  · omega
  · intro k h1 h2
    obtain ⟨a1, a2, a3⟩ := split_k (m := m) (n := n) (k := k) (by omega)
    have := h _ _ a1 a2
    rw [← a3] at this
    simpa [List.getD_eq_getElem?_getD, h1, h2] using this
theorem dotN_le_iff (W : Nat) (D : List Bool) (i j : Nat) : (1 ≤ dotN W D i j) ↔ D.getD (j * W + i) false = true := by
  unfold dotN
  split <;> rename_i h
  · simp only [h]; decide
  · simp only [h]; decide
theorem see_self (m n : Nat) (D : List Bool) (hD : D.length = m * n) : seeL m n D 0 1 = D := by
  refine bools_ext (seeL_len _ _ _ _ _) hD (fun i j hi hj => ?_)
  rw [seeL_at m n D 0 1 i j hi hj, sqN_self m n D i j hi hj]
  have := dotN_le_iff m D i j
  cases hd : D.getD (j * m + i) false with
  | true => rw [decide_eq_true_eq, this, hd]
  | false => rw [decide_eq_false_iff_not, this, hd]; simp
theorem dotN_blank (W N i j : Nat) : dotN W (List.replicate N false) i j = 0 := by
  unfold dotN
  rw [if_neg]
  simp only [List.getD_eq_getElem?_getD, List.getElem?_replicate]
  split <;> simp
theorem see_blank (m n b : Nat) (S : Int) (hS : 1 ≤ S) : seeL m n (List.replicate (m * n) false) b S = List.replicate (m * n) false := by
  refine bools_ext (seeL_len _ _ _ _ _) (by simp) (fun i j hi hj => ?_)
  rw [seeL_at m n _ b S i j hi hj, sqN_zero m n _ i j b hi hj (fun i j => dotN_blank _ _ _ _)]
  have hl := row_lt hj hi
  simp only [List.getD_eq_getElem?_getD, List.getElem?_replicate, if_pos hl, Option.getD_some]
  rw [decide_eq_false_iff_not]
  omega
theorem dotN_full (m n i j : Nat) (hi : i < m) (hj : j < n) : dotN m (List.replicate (m * n) true) i j = 1 := by
  unfold dotN
  rw [if_pos]
  have hl := row_lt hj hi
  simp only [List.getD_eq_getElem?_getD, List.getElem?_replicate, if_pos hl, Option.getD_some]
theorem see_full (m n b : Nat) (S : Int) (hS : S ≤ ((2 * b + 1 : Nat) : Int) * ((2 * b + 1 : Nat) : Int)) (i j : Nat) (hx1 : b ≤ i) (hx : i + b < m) (hy1 : b ≤ j) (hy : j + b < n) :
    (seeL m n (List.replicate (m * n) true) b S).getD (j * m + i) false = true := by
  rw [seeL_at m n _ b S i j (by omega) (by omega), sqN_full m n _ i j b hx1 hx hy1 hy (fun i j hi hj => dotN_full m n i j hi hj)]
  exact decide_eq_true hS

/-- Each dot that the first has, the second has. -/
def SubB (D E : List Bool) : Prop := ∀ k : Nat, D.getD k false = true → E.getD k false = true
theorem dotN_sub {W : Nat} {D E : List Bool} (h : SubB D E) (i j : Nat) : dotN W D i j ≤ dotN W E i j := by
  unfold dotN
  have := h (j * W + i)
  split <;> split <;> simp_all
theorem see_more (m n : Nat) (D E : List Bool) (b : Nat) (S T : Int) (h : SubB D E) (hS : T ≤ S) : SubB (seeL m n D b S) (seeL m n E b T) := by
  intro k hk
  have hlt : k < m * n := by
    rcases Nat.lt_or_ge k (m * n) with h1 | h1
    · exact h1
    · rw [List.getD_eq_getElem?_getD, List.getElem?_eq_none (by rw [seeL_len]; exact h1)] at hk; simp at hk
  obtain ⟨a1, a2, a3⟩ := split_k hlt
  rw [a3] at hk ⊢
  rw [seeL_at m n _ b _ _ _ a1 a2, decide_eq_true_eq] at hk ⊢
  have := sqN_le m n D E (k % m) (k / m) b a1 a2 (dotN_sub h)
  omega

/-- How many of the first t numbers lie at most b from c. -/
def nearN (c b t : Nat) : Nat := min t (c + b + 1) - min t (c - b)
theorem nearN_le (c b t : Nat) : nearN c b t ≤ 2 * b + 1 := by unfold nearN; omega
theorem nearN_yes (c b t : Nat) (h1 : c ≤ t + b) (h2 : t ≤ c + b) : nearN c b (t + 1) = nearN c b t + 1 := by unfold nearN; omega
theorem nearN_no (c b t : Nat) (h : ¬ (c ≤ t + b ∧ t ≤ c + b)) : nearN c b (t + 1) = nearN c b t := by unfold nearN; omega
theorem nearN_zero (c b : Nat) : nearN c b 0 = 0 := by unfold nearN; omega

/-- Where a dot was changed: what is seen differs near it alone. -/
theorem set_dotN (m n : Nat) (D : List Bool) (k : Nat) (v : Bool) (i j : Nat) (hi : i < m) (hj : j < n) (hD : D.length = m * n) (hk : k < m * n) (h : ¬ (i = k % m ∧ j = k / m)) : dotN m (D.set k v) i j = dotN m D i j := by
  have hl := row_lt hj hi
  have hne : k ≠ j * m + i := by
    intro e
    refine h ⟨?_, ?_⟩
    · rw [e, row_mod hi]
    · rw [e, row_div hi]
  unfold dotN
  rw [List.getD_eq_getElem?_getD, List.getD_eq_getElem?_getD, List.getElem?_set_ne hne]
theorem see_far (m n : Nat) (D : List Bool) (k : Nat) (v : Bool) (b : Nat) (S : Int) (i j : Nat) (hi : i < m) (hj : j < n) (hD : D.length = m * n) (hk : k < m * n)
    (h : ¬ (k % m ≤ i + b ∧ i ≤ k % m + b ∧ k / m ≤ j + b ∧ j ≤ k / m + b)) : (seeL m n (D.set k v) b S).getD (j * m + i) false = (seeL m n D b S).getD (j * m + i) false := by
  rw [seeL_at m n _ b S i j hi hj, seeL_at m n _ b S i j hi hj, sqN_congr m n (D.set k v) D i j b hi hj (fun i' j' h1 h2 h3 h4 h5 h6 => set_dotN m n D k v i' j' h3 h6 hD hk (by omega))]
theorem dif_near (m n : Nat) (X Y : List Bool) (cx cy b : Nat) (h : ∀ i j, i < m → j < n → ¬ (cx ≤ i + b ∧ i ≤ cx + b ∧ cy ≤ j + b ∧ j ≤ cy + b) → X.getD (j * m + i) false = Y.getD (j * m + i) false) :
    ∀ j, j ≤ n → ∀ i, i ≤ m → (j < n ∨ i = 0) → dif X Y (j * m + i) ≤ nearN cy b j * (2 * b + 1) + if (cy ≤ j + b ∧ j ≤ cy + b) then nearN cx b i else 0 := by
  intro j
  induction j with
  | zero =>
    intro _ i
    induction i with
    | zero => intro _ _; simp [dif_zero]
    | succ i ih =>
      intro hi hh
      have ih := ih (by omega) (by omega)
      rw [← Nat.add_assoc, dif_succ]
      by_cases hy : cy ≤ 0 + b ∧ 0 ≤ cy + b
      · rw [if_pos hy] at ih ⊢
        by_cases hx : cx ≤ i + b ∧ i ≤ cx + b
        · rw [nearN_yes cx b i hx.1 hx.2]; split <;> omega
        · rw [nearN_no cx b i hx]
          have := h i 0 (by omega) (by omega) (by omega)
          rw [if_neg (by rw [this]; simp)]
          omega
      · rw [if_neg hy] at ih ⊢
        have := h i 0 (by omega) (by omega) (by omega)
        rw [if_neg (by rw [this]; simp)]
        omega
  | succ j ihj =>
    intro hj i
    have base : dif X Y ((j + 1) * m) ≤ nearN cy b (j + 1) * (2 * b + 1) := by
      have h0 := ihj (by omega) m (Nat.le_refl _) (.inl (by omega))
      rw [Nat.add_mul, Nat.one_mul]
      by_cases hy : cy ≤ j + b ∧ j ≤ cy + b
      · rw [if_pos hy] at h0
        rw [nearN_yes cy b j hy.1 hy.2, Nat.add_mul]
        have := nearN_le cx b m
        omega
      · rw [if_neg hy] at h0
        rw [nearN_no cy b j hy]
        omega
    induction i with
    | zero =>
      intro _ _
      rw [Nat.add_zero, nearN_zero]
      simpa using base
    | succ i ih =>
      intro hi hh
      have ih := ih (by omega) (by omega)
      rw [← Nat.add_assoc, dif_succ]
      by_cases hy : cy ≤ j + 1 + b ∧ j + 1 ≤ cy + b
      · rw [if_pos hy] at ih ⊢
        by_cases hx : cx ≤ i + b ∧ i ≤ cx + b
        · rw [nearN_yes cx b i hx.1 hx.2]; split <;> omega
        · rw [nearN_no cx b i hx]
          have := h i (j + 1) (by omega) (by omega) (by omega)
          rw [if_neg (by rw [this]; simp)]
          omega
      · rw [if_neg hy] at ih ⊢
        have := h i (j + 1) (by omega) (by omega) (by omega)
        rw [if_neg (by rw [this]; simp)]
        omega
theorem dif_near_all (m n : Nat) (D : List Bool) (k : Nat) (v : Bool) (b : Nat) (S : Int) (hD : D.length = m * n) (hk : k < m * n) : dif (seeL m n D b S) (seeL m n (D.set k v) b S) (m * n) ≤ (2 * b + 1) * (2 * b + 1) := by
  have h := dif_near m n (seeL m n D b S) (seeL m n (D.set k v) b S) (k % m) (k / m) b (fun i j hi hj hh => (see_far m n D k v b S i j hi hj hD hk hh).symm) n (Nat.le_refl _) 0 (Nat.zero_le _) (.inr rfl)
  rw [Nat.add_zero, nearN_zero, Nat.mul_comm n m] at h
  have h2 : nearN (k / m) b n * (2 * b + 1) ≤ (2 * b + 1) * (2 * b + 1) := Nat.mul_le_mul_right _ (nearN_le _ _ _)
  simp only [ite_self, Nat.add_zero] at h
  omega
theorem see_ok {m n : Nat} {B S : Int} {D : List Bool} (h : rdOk B S = true) (hm : m ≤ 96) (hn : n ≤ 96) (hD : D.length = m * n) : seeSpec B S m n D = ((m : Int), (n : Int), seeL m n D B.toNat S, 0) := by
  have hb : bmCheck m n (m * n) = 0 := by simp [bmCheck, sideB]; omega
  simp only [seeSpec, h, hD, hb, if_true, Int.toNat_natCast]
theorem bm_ok {m n : Nat} (hm : m ≤ 96) (hn : n ≤ 96) : bmCheck m n (m * n) = 0 := by simp [bmCheck, sideB]; omega

/-- How many dots a made kind of reader sees differ, of two bitmaps of one size. -/
def dmN (m n : Nat) (B S : Int) (D E : List Bool) : Nat := dif (seeL m n D B.toNat S) (seeL m n E B.toNat S) (m * n)
theorem diff_ok {m n : Nat} {B S : Int} {D E : List Bool} (h : rdOk B S = true) (hm : m ≤ 96) (hn : n ≤ 96) (hD : D.length = m * n) (hE : E.length = m * n) : diffSpec B S m n D m n E = ((dmN m n B S D E : Int), 0) := by
  have hb : bmCheck m n (m * n) = 0 := by simp [bmCheck, sideB]; omega
  simp only [diffSpec, seeSpec, h, hD, hE, hb, if_true, dmN, Int.toNat_natCast, and_self]
end Go.Proofs.Ytlanefdeeanpnaa
