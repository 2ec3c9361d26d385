/-
  The last step of a law's row, for every law: what a call that returns true and leaves all older memory alone has shown; and arguments opened: structs by value, slices of ints and of bools. Conditions: none.
-/
import Derived.Test.YtlanefdeeanpnaaRows
import Derived.Test.YtlanefdeeanpnaaBase
import Derived.ProofKit
import Derived.Below
import Derived.Lib.SmallJoins
import Derived.Deep.Grids
namespace Go.Proofs.Ytlanefdeeanpnaa
open Go.ChangeShapes Go.WideShapes Go.ChangeAt Go.RowKit Go.Joins Go.Deep
set_option linter.unusedVariables false
set_option linter.unusedSimpArgs false

theorem own_none : ownKnob Try.prog.godebug = none := by kernel_rfl
theorem laid_out : laidOutB Try.prog = true := by kernel_rfl
theorem cells_int : Try.prog.cellsOf 3 = 1 := by kernel_rfl
theorem cells_bool : Try.prog.cellsOf 4 = 1 := by kernel_rfl

section
variable {H : Type} {enc : TypeId × Value → H} {P : Program}
theorem trodAll_one' {w : World} {base : Nat} {spare : Nat → Bool} {held : Bool} {t : TypeId} {args : Array Value} {ds : List (DataW H)} {ps : List MemPlace} (h : DataW.TrodAll enc P w base spare held [t] args.toList ds ps) :
    ∃ v d p, args = #[v] ∧ ds = [d] ∧ ps = p ∧ DataW.Trod enc P w base spare held t v d p := by
  obtain ⟨v, vs, d, ds', p, q, hargs, rfl, rfl, hd, hrest⟩ := trodAll_cons h
  obtain ⟨rfl, rfl, rfl⟩ := trodAll_nil hrest
  exact ⟨v, d, p, by cases args; simp_all, rfl, by simp, hd⟩
/-- All arguments read as they did. -/
theorem trodAll_stays (hl : laidOutB P = true) {W W' : World} {sp : Nat → Bool} : ∀ {ts : List TypeId} {vs : List Value} {ds : List (DataW H)} {ps : List MemPlace},
    (∀ t ∈ ts, P.readableRec t = true ∧ t < P.types.size) → DataW.TrodAll enc P W 0 (fun _ => true) true ts vs ds ps → (∀ p ∈ ps, W.sameAt W' p) → (∀ p ∈ ps, sp p.block = true) → DataW.TrodAll enc P W' 0 sp true ts vs ds ps
  | [], [], [], _, _, h, _, _ => h
  | [], [], _ :: _, _, _, h, _, _ => h.elim
  | [], _ :: _, _, _, _, h, _, _ => by simp [DataW.TrodAll] at h
  | _ :: _, [], _, _, _, h, _, _ => by simp [DataW.TrodAll] at h
  | _ :: _, _ :: _, [], _, _, h, _, _ => by simp [DataW.TrodAll] at h
  | t :: ts, v :: vs, d :: ds, ps, hr, h, hs, hsp => by
    obtain ⟨p, q, h1, h2, rfl⟩ := h
    exact ⟨p, q, WideElems.Trod_stays hl (hr t (by simp)).1 (hr t (by simp)).2 h1 (fun x hx => hs x (by simp [hx])) (fun x hx => hsp x (by simp [hx])),
      trodAll_stays hl (fun t' ht => hr t' (by simp [ht])) h2 (fun x hx => hs x (by simp [hx])) (fun x hx => hsp x (by simp [hx])), rfl⟩

theorem law_end {f : Func} {s : ChangeSpec} {W W' : World} {args : Array Value} {ds gs : List (DataW H)} {before : List MemPlace} {tb : TypeId} (hl : laidOutB P = true) (hrd : ∀ t ∈ f.params.toList, P.readableRec t = true ∧ t < P.types.size)
    (hvars : s.vars = []) (hgs : gs = []) (hres : (s.fn H ds).results = [.lit (.bool true)]) (hargs : (s.fn H ds).args = ds) (hvv : (s.fn H ds).vars = []) (hrt : f.resultTypes = #[tb]) (hbt : P.underlying tb = some .bool)
    (hW : DataW.Whole enc P f.params.toList s.vars false W args.toList ds gs before) (hb : Below W.heap.size W W') : s.post enc P f false true false false W args (.bool true) W' := by
  have hW' := hW
  have hlt : ∀ p ∈ before, p.block < W.heap.size := fun p hp => hW.lt p hp
  obtain ⟨p, q, hA, hV, rfl, hfz, hnd⟩ := hW
  rw [hvars] at hV
  obtain ⟨_, rfl⟩ := trodVars_none hV
  subst hgs
  simp only [List.append_nil] at hW' hlt hfz
  have hargs' : ∀ sp : Nat → Bool, (∀ x ∈ p, sp x.block = true) → DataW.TrodAll enc P W' 0 sp true f.params.toList args.toList (s.fn H (ds ++ [])).args p := fun sp hsp => by
    rw [List.append_nil, hargs]
    exact trodAll_stays hl hrd hA (fun x hx => hb.same (hlt x hx)) hsp
  have hres' : ∀ (b : Nat) (sp : Nat → Bool) (hd : Bool), DataW.TrodAll enc P W' b sp hd f.resultTypes.toList ((Value.bool true).resultList f.resultTypes.size) (s.fn H (ds ++ [])).results [] := fun b sp hd => by
    rw [List.append_nil, hres, hrt]
    exact trodAll_mk1 (shut_bool hbt true)
  have hvars' : ∀ sp : Nat → Bool, DataW.TrodVars enc P W' sp s.vars (s.fn H (ds ++ [])).vars [] := fun sp => by
    rw [List.append_nil, hvv, hvars]
    rfl
  refine ⟨ds, [], p, [], p, [], hW', hres' _ _ _, hargs' (fun b => decide (b < W.heap.size)) (fun x hx => by simpa using hlt x hx), hvars' _, World.keptBut_mono (fun x hx => ⟨hx, by simpa using hx⟩) (hb.frame (· ∈ p)), fun _ => ?_⟩
  refine ⟨ok_one hrt rfl (okWide_bool_mk hbt _), _, _, ([] ++ p) ++ [], ⟨[] ++ p, [], trodAll_append (hargs' _ (fun _ _ => rfl)) (hres' _ _ _), hvars' _, rfl, ?_, ?_⟩, ?_⟩
  · intro b off hp
    have hin : MemPlace.cell b off ∈ p := by simpa using hp
    rw [hb.frozen (hlt _ hin)]
    exact hfz b off hin
  · intro ha
    cases ha
  · intro x hx _
    simpa using hx

/-- A slice of ints, opened. -/
theorem open_rd_ints {W : World} {held : Bool} {fuel : Nat} {t e : TypeId} {v : Value} {x : DataW H × List MemPlace} (ht : P.underlying t = some (.slice e)) (he : P.underlying e = some (.int .i64)) (hc : P.cellsOf e = 1)
    (h : DataW.trod enc P W 0 (fun _ => true) held fuel t [v] = some x) : ∃ (A : Option Addr) (L : List Int) (c : Nat), v = .slice A L.length c ∧ Rd (Value.int .i64) W W.heap.size A L ∧ L.length ≤ c ∧ c ≤ maxLen ∧ (A = none → L.length = 0 ∧ c = 0) := by
  rcases open_ints ht he hc h with ⟨h0, _⟩ | ⟨a, len, cap, zs, h0, _, hl, hm, hz, _, hcell, hwf⟩
  · injection h0 with h0 _
    exact ⟨none, [], 0, h0, Rd.nil, Nat.le_refl _, Nat.zero_le _, fun _ => ⟨rfl, rfl⟩⟩
  · injection h0 with h0 _
    simp only [if_true] at hz
    refine ⟨some a, zs.take len, cap, by rw [h0, List.length_take, Nat.min_eq_left (by omega)], ?_, by rw [List.length_take]; omega, hm, fun h => by cases h⟩
    intro h1
    rw [List.length_take] at h1
    obtain ⟨b, off, rfl, hcc⟩ := ints_at hcell (by omega)
    refine ⟨b, off, rfl, ?_, fun k hk => ?_⟩
    · exact World.block_lt_of_cell? W ⟨b, off + 0, none⟩ (hcc 0 (by omega))
    · rw [List.length_take] at hk
      rw [hcc k (by omega), List.getElem_take]
      simp [List.getD_eq_getElem?_getD, List.getElem?_eq_getElem (show k < zs.length by omega)]
/-- A slice of bools, opened. -/
theorem open_rd_bools {W : World} {held : Bool} {fuel : Nat} {t e : TypeId} {v : Value} {x : DataW H × List MemPlace} (ht : P.underlying t = some (.slice e)) (he : P.underlying e = some .bool) (hc : P.cellsOf e = 1)
    (h : DataW.trod enc P W 0 (fun _ => true) held fuel t [v] = some x) : ∃ (A : Option Addr) (L : List Bool) (c : Nat), v = .slice A L.length c ∧ Rd Value.bool W W.heap.size A L ∧ L.length ≤ c ∧ c ≤ maxLen ∧ (A = none → L.length = 0 ∧ c = 0) := by
  rcases open_bools ht he hc h with ⟨h0, _⟩ | ⟨a, len, cap, B, h0, _, hl, hm, _, hcell⟩
  · injection h0 with h0 _
    exact ⟨none, [], 0, h0, Rd.nil, Nat.le_refl _, Nat.zero_le _, fun _ => ⟨rfl, rfl⟩⟩
  · injection h0 with h0 _
    refine ⟨some a, (List.range len).map B, cap, by rw [h0, List.length_map, List.length_range], ?_, by rw [List.length_map, List.length_range]; exact hl, hm, fun h => by cases h⟩
    intro h1
    rw [List.length_map, List.length_range] at h1
    obtain ⟨b, off, spot⟩ := a
    have hspot : spot = none := by simpa [Addr.add] using World.cell?_spot (hcell 0 (by omega))
    subst hspot
    have hcc : ∀ k, k < cap → W.cell? ⟨b, off + k, none⟩ = some (.bool (B k)) := fun k hk => by rw [← Go.WideShapes.add_plain]; exact hcell k hk
    refine ⟨b, off, rfl, World.block_lt_of_cell? W ⟨b, off + 0, none⟩ (hcc 0 (by omega)), fun k hk => ?_⟩
    rw [List.length_map, List.length_range] at hk
    rw [hcc k (by omega)]
    simp
theorem open_field_int {W : World} {base : Nat} {spare : Nat → Bool} {held : Bool} {fuel : Nat} {t : TypeId} {k : IntKind} {v : Value} {x : DataW H × List MemPlace} (ht : P.underlying t = some (.int k))
    (h : DataW.trod enc P W base spare held fuel t [v] = some x) : ∃ n : Int, v = .int k n ∧ (Lit.int k n).wf = true := by
  obtain ⟨n, h1, h2, h3⟩ := DataW.trod_int ht h
  injection h1 with h1 _
  exact ⟨n, h1, h3⟩
end
end Go.Proofs.Ytlanefdeeanpnaa
