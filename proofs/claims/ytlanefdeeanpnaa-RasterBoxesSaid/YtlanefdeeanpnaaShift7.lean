/-
  Plain laws of layer 7's pictures: of polygons that are moved by whole dots, or multiplied together with the unit. Conditions: none; no step of the program is taken here.
-/
import Derived.Test.YtlanefdeeanpnaaRing7
import Derived.Test.YtlanefdeeanpnaaDots7
namespace Go.Proofs.Ytlanefdeeanpnaa
set_option linter.unusedVariables false
set_option linter.unusedSimpArgs false
open Go.RowKit

theorem mn_eq {f : Pt → Int} {l : List Pt} {m v : Int} (hl : l ≠ []) (h : ∀ q ∈ l, f q ≤ m) (h1 : ∀ q ∈ l, v ≤ f q) (h2 : ∃ q ∈ l, v = f q) : mnF f l m = v := by
  obtain ⟨a1, a2, a3⟩ := mnF_le f l m
  obtain ⟨q, hq, hv⟩ := h2
  have b1 := a2 q hq
  rcases a3 with a3 | ⟨r, hr, a3⟩
  · have := h q hq
    have := h1 q hq
    omega
  · have := h1 r hr
    omega
theorem mn_at {f : Pt → Int} {l : List Pt} {m : Int} (hl : l ≠ []) (h : ∀ q ∈ l, f q ≤ m) : (∀ q ∈ l, mnF f l m ≤ f q) ∧ ∃ q ∈ l, mnF f l m = f q := by
  obtain ⟨a1, a2, a3⟩ := mnF_le f l m
  refine ⟨a2, ?_⟩
  rcases a3 with a3 | a3
  · obtain ⟨q0, hq0⟩ := List.exists_mem_of_ne_nil l hl
    exact ⟨q0, hq0, by have := h q0 hq0; have := a2 q0 hq0; omega⟩
  · exact a3
theorem mx_eq {f : Pt → Int} {l : List Pt} {m v : Int} (hl : l ≠ []) (h : ∀ q ∈ l, m ≤ f q) (h1 : ∀ q ∈ l, f q ≤ v) (h2 : ∃ q ∈ l, v = f q) : mxF f l m = v := by
  obtain ⟨a1, a2, a3⟩ := mxF_le f l m
  obtain ⟨q, hq, hv⟩ := h2
  have b1 := a2 q hq
  rcases a3 with a3 | ⟨r, hr, a3⟩
  · have := h q hq
    have := h1 q hq
    omega
  · have := h1 r hr
    omega
theorem mx_at {f : Pt → Int} {l : List Pt} {m : Int} (hl : l ≠ []) (h : ∀ q ∈ l, m ≤ f q) : (∀ q ∈ l, f q ≤ mxF f l m) ∧ ∃ q ∈ l, mxF f l m = f q := by
  obtain ⟨a1, a2, a3⟩ := mxF_le f l m
  refine ⟨a2, ?_⟩
  rcases a3 with a3 | a3
  · obtain ⟨q0, hq0⟩ := List.exists_mem_of_ne_nil l hl
    exact ⟨q0, hq0, by have := h q0 hq0; have := a2 q0 hq0; omega⟩
  · exact a3
theorem mn_map {f f' : Pt → Int} {g : Pt → Pt} {φ : Int → Int} {l : List Pt} {m m' : Int} (hφ : ∀ a b, a ≤ b → φ a ≤ φ b) (hl : l ≠ []) (h : ∀ q ∈ l, f q ≤ m) (hf : ∀ q ∈ l, f' (g q) = φ (f q)) (h' : ∀ q ∈ l, φ (f q) ≤ m') : mnF f' (l.map g) m' = φ (mnF f l m) := by
  obtain ⟨a1, q, hq, a2⟩ := mn_at hl h
  refine mn_eq (by simpa using hl) (fun r hr => ?_) (fun r hr => ?_) ⟨g q, List.mem_map.2 ⟨q, hq, rfl⟩, by rw [a2, hf q hq]⟩
  · obtain ⟨s, hs, rfl⟩ := List.mem_map.1 hr
    rw [hf s hs]; exact h' s hs
  · obtain ⟨s, hs, rfl⟩ := List.mem_map.1 hr
    rw [hf s hs]; exact hφ _ _ (a1 s hs)
theorem mx_map {f f' : Pt → Int} {g : Pt → Pt} {φ : Int → Int} {l : List Pt} {m m' : Int} (hφ : ∀ a b, a ≤ b → φ a ≤ φ b) (hl : l ≠ []) (h : ∀ q ∈ l, m ≤ f q) (hf : ∀ q ∈ l, f' (g q) = φ (f q)) (h' : ∀ q ∈ l, m' ≤ φ (f q)) : mxF f' (l.map g) m' = φ (mxF f l m) := by
  obtain ⟨a1, q, hq, a2⟩ := mx_at hl h
  refine mx_eq (by simpa using hl) (fun r hr => ?_) (fun r hr => ?_) ⟨g q, List.mem_map.2 ⟨q, hq, rfl⟩, by rw [a2, hf q hq]⟩
  · obtain ⟨s, hs, rfl⟩ := List.mem_map.1 hr
    rw [hf s hs]; exact h' s hs
  · obtain ⟨s, hs, rfl⟩ := List.mem_map.1 hr
    rw [hf s hs]; exact hφ _ _ (a1 s hs)

theorem pts_moved (tm x y : Int) (ls : List (List Pt)) : pts (moved tm x y ls) = (pts ls).map (movedP tm x y) := by
  unfold pts moved
  rw [List.map_flatten]
theorem tot_moved (tm x y : Int) (ls : List (List Pt)) : tot (moved tm x y ls) = tot ls := by
  rw [← pts_len, pts_moved, List.length_map, pts_len]
theorem tot_pts {ls : List (List Pt)} (h : tot ls ≠ 0) : pts ls ≠ [] := fun e => h (by rw [← pts_len, e]; rfl)
theorem pth_map {f : Pt → Pt} {x y x' y' : Int} (h : ∀ a b, turnsV (f a) (f b) x' y' = turnsV a b x y) : ∀ (l : List Pt) (a : Pt), pth x' y' (f a) (l.map f) = pth x y a l
  | [], _ => rfl
  | b :: l, a => by
    simp only [List.map_cons, pth]
    rw [h, pth_map h l b]
theorem ring_map {f : Pt → Pt} {x y x' y' : Int} (h : ∀ a b, turnsV (f a) (f b) x' y' = turnsV a b x y) (l : List Pt) : ring x' y' (l.map f) = ring x y l := by
  cases l with
  | nil => rfl
  | cons a t =>
    simp only [List.map_cons, ring]
    rw [← pth_map h]
    simp
theorem rings_map {f : Pt → Pt} {x y x' y' : Int} (h : ∀ a b, turnsV (f a) (f b) x' y' = turnsV a b x y) (ls : List (List Pt)) : rings x' y' (ls.map fun p => p.map f) = rings x y ls := by
  induction ls with
  | nil => rfl
  | cons p ls ih => rw [List.map_cons, rings_cons, rings_cons, ih, ring_map h]
theorem turns_moved (a b : Pt) (x y dx dy : Int) : turnsV (movedP 1 dx dy a) (movedP 1 dx dy b) (x + dx) (y + dy) = turnsV a b x y := by
  unfold turnsV movedP
  have e1 : 1 * b.1 + dx - (1 * a.1 + dx) = b.1 - a.1 := by omega
  have e2 : y + dy - (1 * a.2.1 + dy) = y - a.2.1 := by omega
  have e3 : x + dx - (1 * a.1 + dx) = x - a.1 := by omega
  have e4 : 1 * b.2.1 + dy - (1 * a.2.1 + dy) = b.2.1 - a.2.1 := by omega
  have e5 : 1 * a.1 + dx - (1 * b.1 + dx) = a.1 - b.1 := by omega
  have e6 : y + dy - (1 * b.2.1 + dy) = y - b.2.1 := by omega
  have e7 : x + dx - (1 * b.1 + dx) = x - b.1 := by omega
  have e8 : 1 * a.2.1 + dy - (1 * b.2.1 + dy) = a.2.1 - b.2.1 := by omega
  have c1 : (1 * a.2.1 + dy ≤ y + dy) ↔ a.2.1 ≤ y := by omega
  have c2 : (y + dy < 1 * b.2.1 + dy) ↔ y < b.2.1 := by omega
  have c3 : (1 * b.2.1 + dy ≤ y + dy) ↔ b.2.1 ≤ y := by omega
  have c4 : (y + dy < 1 * a.2.1 + dy) ↔ y < a.2.1 := by omega
  dsimp only
  simp only [e1, e2, e3, e4, e5, e6, e7, e8, c1, c2, c3, c4]
theorem mul7 (a b : Int) : 7 * a * (7 * b) = 49 * (a * b) := by
  rw [Int.mul_assoc, Int.mul_left_comm a 7 b, ← Int.mul_assoc]; rfl
theorem turns_scaled (a b : Pt) (x y : Int) : turnsV (movedP 7 0 0 a) (movedP 7 0 0 b) (7 * x) (7 * y) = turnsV a b x y := by
  unfold turnsV movedP
  have e1 : 7 * b.1 + 0 - (7 * a.1 + 0) = 7 * (b.1 - a.1) := by omega
  have e2 : 7 * y - (7 * a.2.1 + 0) = 7 * (y - a.2.1) := by omega
  have e3 : 7 * x - (7 * a.1 + 0) = 7 * (x - a.1) := by omega
  have e4 : 7 * b.2.1 + 0 - (7 * a.2.1 + 0) = 7 * (b.2.1 - a.2.1) := by omega
  have e5 : 7 * a.1 + 0 - (7 * b.1 + 0) = 7 * (a.1 - b.1) := by omega
  have e6 : 7 * y - (7 * b.2.1 + 0) = 7 * (y - b.2.1) := by omega
  have e7 : 7 * x - (7 * b.1 + 0) = 7 * (x - b.1) := by omega
  have e8 : 7 * a.2.1 + 0 - (7 * b.2.1 + 0) = 7 * (a.2.1 - b.2.1) := by omega
  have c1 : (7 * a.2.1 + 0 ≤ 7 * y) ↔ a.2.1 ≤ y := by omega
  have c2 : (7 * y < 7 * b.2.1 + 0) ↔ y < b.2.1 := by omega
  have c3 : (7 * b.2.1 + 0 ≤ 7 * y) ↔ b.2.1 ≤ y := by omega
  have c4 : (7 * y < 7 * a.2.1 + 0) ↔ y < a.2.1 := by omega
  dsimp only
  simp only [e1, e2, e3, e4, e5, e6, e7, e8, c1, c2, c3, c4, mul7]
  have d1 : ∀ s t : Int, (49 * s < 49 * t) ↔ s < t := fun s t => by omega
  simp only [d1]
theorem windN_moved (ls : List (List Pt)) (x y dx dy : Int) : windN (moved 1 dx dy ls) (x + dx) (y + dy) = windN ls x y := by
  rw [windN_rings, windN_rings]
  exact rings_map (f := movedP 1 dx dy) (fun a b => turns_moved a b x y dx dy) ls
theorem windN_scaled (ls : List (List Pt)) (x y : Int) : windN (moved 7 0 0 ls) (7 * x) (7 * y) = windN ls x y := by
  rw [windN_rings, windN_rings]
  exact rings_map (f := movedP 7 0 0) (fun a b => turns_scaled a b x y) ls

/-- All coordinates are in a small range. -/
def Near (R : Int) (ls : List (List Pt)) : Prop := ∀ p ∈ ls, ∀ q ∈ p, (-R ≤ q.1 ∧ q.1 ≤ R) ∧ -R ≤ q.2.1 ∧ q.2.1 ≤ R
theorem near_in {R : Int} {ls : List (List Pt)} (h : Near R ls) (hR : R ≤ 1073741824) : allIn ls = true := by
  unfold allIn
  rw [List.all_eq_true]
  intro p hp
  rw [List.all_eq_true]
  intro q hq
  obtain ⟨⟨h1, h2⟩, h3, h4⟩ := h p hp q hq
  unfold ptIn
  rw [in_mk ⟨by omega, by omega⟩, in_mk ⟨by omega, by omega⟩]
  rfl
theorem near_moved {R tm x y R' : Int} {ls : List (List Pt)} (h : Near R ls) (ht : ∀ a : Int, -R ≤ a → a ≤ R → (-R' ≤ tm * a + x ∧ tm * a + x ≤ R') ∧ -R' ≤ tm * a + y ∧ tm * a + y ≤ R') : Near R' (moved tm x y ls) := by
  intro p hp q hq
  unfold moved at hp
  obtain ⟨p0, hp0, rfl⟩ := List.mem_map.1 hp
  obtain ⟨q0, hq0, rfl⟩ := List.mem_map.1 hq
  obtain ⟨⟨h1, h2⟩, h3, h4⟩ := h p0 hp0 q0 hq0
  exact ⟨(ht q0.1 h1 h2).1, (ht q0.2.1 h3 h4).2⟩
theorem near_pts {R : Int} {ls : List (List Pt)} (h : Near R ls) : ∀ q ∈ pts ls, (-R ≤ q.1 ∧ q.1 ≤ R) ∧ -R ≤ q.2.1 ∧ q.2.1 ≤ R := by
  intro q hq
  unfold pts at hq
  obtain ⟨p, hp, hq⟩ := List.mem_flatten.1 hq
  exact h p hp q hq
theorem cvS_eq {ls ls' : List (List Pt)} {a b a' b' : Int} (h1 : allIn ls = true) (h2 : allIn ls' = true) (ha : inB a = true) (hb : inB b = true) (ha' : inB a' = true) (hb' : inB b' = true) (h : windN ls' a' b' = windN ls a b) : cvS ls' a' b' = cvS ls a b := by
  rw [cvS_yes h1 ha hb, cvS_yes h2 ha' hb', h]
theorem cvT_eq {ls ls' : List (List Pt)} {u X Y q u' X' Y' q' : Int} (h : ∀ i j : Int, i = 1 ∨ i = 3 → j = 1 ∨ j = 3 → cvS ls' (u' * X' + i * q') (u' * Y' + j * q') = cvS ls (u * X + i * q) (u * Y + j * q)) : cvT ls' u' X' Y' q' 4 = cvT ls u X Y q 4 := by
  have h1 := h 1 1 (.inl rfl) (.inl rfl)
  have h2 := h 3 1 (.inr rfl) (.inl rfl)
  have h3 := h 1 3 (.inl rfl) (.inr rfl)
  have h4 := h 3 3 (.inr rfl) (.inr rfl)
  simp only [Int.one_mul] at h1 h2 h3 h4
  unfold cvT
  rw [h1, h2, h3, h4]
theorem dotL_eq {ls ls' : List (List Pt)} {u L B u' L' B' : Int} {m n : Nat} (h : ∀ i j : Nat, i < m → j < n → cvT ls' u' (L' + i) (B' + j) (u' / 4) 4 = cvT ls u (L + i) (B + j) (u / 4) 4) : dotL ls' u' L' B' m n = dotL ls u L B m n := by
  unfold dotL
  apply List.map_congr_left
  intro k hk
  rw [List.mem_range] at hk
  have hm : 0 < m := by
    rcases Nat.eq_zero_or_pos m with h0 | h0
    · subst h0; simp at hk
    · exact h0
  unfold dotB
  rw [h (k % m) (k / m) (Nat.mod_lt _ hm) (Nat.div_lt_of_lt_mul (by rw [Nat.mul_comm] at hk; rw [Nat.mul_comm]; exact hk))]
/-- What lies in a box by dots. -/
theorem box7 {R u : Int} {ls : List (List Pt)} (h : Near R ls) (hne : tot ls ≠ 0) (hu : 0 < u) (hR : R ≤ 1073741824) :
    (∀ q ∈ pts ls, mnF fX (pts ls) 2147483648 ≤ q.1) ∧ (∀ q ∈ pts ls, q.1 ≤ mxF fX (pts ls) (-2147483648)) ∧ -R ≤ mnF fX (pts ls) 2147483648 ∧ mnF fX (pts ls) 2147483648 ≤ mxF fX (pts ls) (-2147483648) ∧ mxF fX (pts ls) (-2147483648) ≤ R ∧ -R ≤ mnF fY (pts ls) 2147483648 ∧ mnF fY (pts ls) 2147483648 ≤ mxF fY (pts ls) (-2147483648) ∧ mxF fY (pts ls) (-2147483648) ≤ R := by
  have hn := near_pts h
  have hp := tot_pts hne
  have hX := box_in (l := pts ls) (f := fX) (R := R) (m := 2147483648) (M := -2147483648) hp (fun q hq => (hn q hq).1) (by omega) (by omega)
  have hY := box_in (l := pts ls) (f := fY) (R := R) (m := 2147483648) (M := -2147483648) hp (fun q hq => (hn q hq).2) (by omega) (by omega)
  exact ⟨(mnF_le fX (pts ls) 2147483648).2.1, (mxF_le fX (pts ls) (-2147483648)).2.1, hX.1, hX.2.1, hX.2.2, hY.1, hY.2.1, hY.2.2⟩
theorem bx_moved {R u X Y : Int} {ls : List (List Pt)} (h : Near R ls) (hR : R ≤ 1000) (hne : tot ls ≠ 0) (hu : 0 < u) (hX : -1073741824 ≤ u * X ∧ u * X ≤ 1073741824) (hY : -1073741824 ≤ u * Y ∧ u * Y ≤ 1073741824) :
    bxL (moved 1 (u * X) (u * Y) ls) u = bxL ls u + X ∧ bxB (moved 1 (u * X) (u * Y) ls) u = bxB ls u + Y ∧ bxW (moved 1 (u * X) (u * Y) ls) u = bxW ls u ∧ bxH (moved 1 (u * X) (u * Y) ls) u = bxH ls u := by
  have hn := near_pts h
  have hp := tot_pts hne
  have e1 : mnF fX (pts (moved 1 (u * X) (u * Y) ls)) 2147483648 = mnF fX (pts ls) 2147483648 + u * X := by
    rw [pts_moved]
    exact mn_map (φ := fun a => a + u * X) (fun a b _ => by omega) hp (fun q hq => by have := hn q hq; unfold fX; omega) (fun q hq => by unfold fX movedP; dsimp only; omega) (fun q hq => by have := hn q hq; unfold fX; omega)
  have e2 : mnF fY (pts (moved 1 (u * X) (u * Y) ls)) 2147483648 = mnF fY (pts ls) 2147483648 + u * Y := by
    rw [pts_moved]
    exact mn_map (φ := fun a => a + u * Y) (fun a b _ => by omega) hp (fun q hq => by have := hn q hq; unfold fY; omega) (fun q hq => by unfold fY movedP; dsimp only; omega) (fun q hq => by have := hn q hq; unfold fY; omega)
  have e3 : mxF fX (pts (moved 1 (u * X) (u * Y) ls)) (-2147483648) = mxF fX (pts ls) (-2147483648) + u * X := by
    rw [pts_moved]
    exact mx_map (φ := fun a => a + u * X) (fun a b _ => by omega) hp (fun q hq => by have := hn q hq; unfold fX; omega) (fun q hq => by unfold fX movedP; dsimp only; omega) (fun q hq => by have := hn q hq; unfold fX; omega)
  have e4 : mxF fY (pts (moved 1 (u * X) (u * Y) ls)) (-2147483648) = mxF fY (pts ls) (-2147483648) + u * Y := by
    rw [pts_moved]
    exact mx_map (φ := fun a => a + u * Y) (fun a b _ => by omega) hp (fun q hq => by have := hn q hq; unfold fY; omega) (fun q hq => by unfold fY movedP; dsimp only; omega) (fun q hq => by have := hn q hq; unfold fY; omega)
  have d : ∀ a b : Int, (a + u * b) / u = a / u + b := fun a b => Int.add_mul_ediv_left a b (by omega)
  unfold bxW bxH bxL bxB
  rw [e1, e2, e3, e4, d, d, d, d]
  refine ⟨rfl, rfl, ?_, ?_⟩ <;> omega
theorem bx_scaled {R u : Int} {ls : List (List Pt)} (h : Near R ls) (hR : R ≤ 1000) (hne : tot ls ≠ 0) (hu : 0 < u) :
    bxL (moved 7 0 0 ls) (7 * u) = bxL ls u ∧ bxB (moved 7 0 0 ls) (7 * u) = bxB ls u ∧ bxW (moved 7 0 0 ls) (7 * u) = bxW ls u ∧ bxH (moved 7 0 0 ls) (7 * u) = bxH ls u := by
  have hn := near_pts h
  have hp := tot_pts hne
  have e1 : mnF fX (pts (moved 7 0 0 ls)) 2147483648 = 7 * mnF fX (pts ls) 2147483648 := by
    rw [pts_moved]
    exact mn_map (φ := fun a => 7 * a) (fun a b _ => by omega) hp (fun q hq => by have := hn q hq; unfold fX; omega) (fun q hq => by unfold fX movedP; dsimp only; omega) (fun q hq => by have := hn q hq; unfold fX; omega)
  have e2 : mnF fY (pts (moved 7 0 0 ls)) 2147483648 = 7 * mnF fY (pts ls) 2147483648 := by
    rw [pts_moved]
    exact mn_map (φ := fun a => 7 * a) (fun a b _ => by omega) hp (fun q hq => by have := hn q hq; unfold fY; omega) (fun q hq => by unfold fY movedP; dsimp only; omega) (fun q hq => by have := hn q hq; unfold fY; omega)
  have e3 : mxF fX (pts (moved 7 0 0 ls)) (-2147483648) = 7 * mxF fX (pts ls) (-2147483648) := by
    rw [pts_moved]
    exact mx_map (φ := fun a => 7 * a) (fun a b _ => by omega) hp (fun q hq => by have := hn q hq; unfold fX; omega) (fun q hq => by unfold fX movedP; dsimp only; omega) (fun q hq => by have := hn q hq; unfold fX; omega)
  have e4 : mxF fY (pts (moved 7 0 0 ls)) (-2147483648) = 7 * mxF fY (pts ls) (-2147483648) := by
    rw [pts_moved]
    exact mx_map (φ := fun a => 7 * a) (fun a b _ => by omega) hp (fun q hq => by have := hn q hq; unfold fY; omega) (fun q hq => by unfold fY movedP; dsimp only; omega) (fun q hq => by have := hn q hq; unfold fY; omega)
  have d : ∀ a : Int, (7 * a) / (7 * u) = a / u := fun a => Int.mul_ediv_mul_of_pos a u (by omega)
  unfold bxW bxH bxL bxB
  rw [e1, e2, e3, e4, d, d, d, d]
  exact ⟨rfl, rfl, rfl, rfl⟩
end Go.Proofs.Ytlanefdeeanpnaa
