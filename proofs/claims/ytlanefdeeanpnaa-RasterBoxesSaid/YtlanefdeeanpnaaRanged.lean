/-
  Contracts of both ranged of layer 7. Conditions: at most 1000 polygons with at most 1000 points, read below the heap's size.
-/
import Derived.Test.YtlanefdeeanpnaaPoly
import Derived.WalkMore
namespace Go.Proofs.Ytlanefdeeanpnaa
set_option linter.unusedVariables false
set_option linter.unusedSimpArgs false
open Go.RowKit
attribute [local go_sem ↓] Go.wp_at_zero Go.wp_at_succ

def rangedN (ls : List (List Pt)) : Int := if allIn ls = true then (tot ls : Int) else -1
theorem tot_nil : tot [] = 0 := rfl
theorem tot_succ {ls : List (List Pt)} {i : Nat} (h : i < ls.length) : tot (ls.take (i + 1)) = tot (ls.take i) + ls[i].length := by
  rw [List.take_succ_eq_append_getElem h]
  simp only [tot, List.map_append, List.sum_append, List.map_cons, List.map_nil, List.sum_cons, List.sum_nil, Nat.add_zero]
theorem tot_le {ls : List (List Pt)} {c : Nat} (h : ∀ p ∈ ls, p.length ≤ c) : tot ls ≤ ls.length * c := by
  induction ls with
  | nil => simp [tot]
  | cons p l ih =>
    have h1 := h p (by simp)
    have h2 := ih (fun q hq => h q (by simp [hq]))
    simp only [tot, List.map_cons, List.sum_cons, List.length_cons] at h2 ⊢
    rw [Nat.add_mul]
    omega
theorem tot_take_le {ls : List (List Pt)} (hl : ls.length ≤ 1000) (hp : ∀ p ∈ ls, p.length ≤ 1000) (i : Nat) : tot (ls.take i) ≤ 1000000 := by
  have h1 := tot_le (ls := ls.take i) (c := 1000) (fun p hp' => hp p (List.mem_of_mem_take hp'))
  have h2 : (ls.take i).length ≤ 1000 := by rw [List.length_take]; omega
  have := Nat.mul_le_mul_right 1000 h2
  omega
theorem allIn_no {ls : List (List Pt)} {i k : Nat} (hi : i < ls.length) (hk : k < ls[i].length) (h : ptIn ls[i][k] = false) : allIn ls = false := by
  cases hh : allIn ls with
  | false => rfl
  | true =>
    unfold allIn at hh
    rw [List.all_eq_true] at hh
    have h1 := hh ls[i] (List.getElem_mem hi)
    rw [List.all_eq_true] at h1
    have h2 := h1 ls[i][k] (List.getElem_mem hk)
    rw [h] at h2
    cases h2
theorem ranged_no {ls : List (List Pt)} {i k : Nat} (hi : i < ls.length) (hk : k < ls[i].length) (h : ptIn ls[i][k] = false) : rangedN ls = -1 := by
  unfold rangedN
  rw [allIn_no hi hk h]
  rfl
theorem allIn_yes {ls : List (List Pt)} (h : ∀ i (hi : i < ls.length), ls[i].all ptIn = true) : allIn ls = true := by
  unfold allIn
  rw [List.all_eq_true]
  intro p hp
  obtain ⟨i, hi, rfl⟩ := List.getElem_of_mem hp
  exact h i hi
theorem all_pts {p : List Pt} (h : ∀ k (hk : k < p.length), ptIn p[k] = true) : p.all ptIn = true := by
  rw [List.all_eq_true]
  intro q hq
  obtain ⟨i, hi, rfl⟩ := List.getElem_of_mem hq
  exact h i hi
theorem ranged_yes {ls : List (List Pt)} (h : ∀ i (hi : i < ls.length), ls[i].all ptIn = true) : rangedN ls = (tot ls : Int) := by
  unfold rangedN
  rw [if_pos (allIn_yes h)]

set_option maxHeartbeats 2000000 in
set_option maxRecDepth 100000 in
theorem raster_ranged (ls : List (List Pt)) (A : Option Addr) (c : Nat) (w : World) (hl : ls.length ≤ 1000) (hp : ∀ p ∈ ls, p.length ≤ 1000) (hr : RdPs w w.heap.size A ls) :
    Calls Try.prog 88 #[.slice A ls.length c] w fun e w' => e = .returned (.int .i64 (rangedN ls)) ∧ Below w.heap.size w w' := by
  have HR := Lib.hid hr
  have HT := Lib.hid (fun i => tot_take_le hl hp i)
  have HPL := Lib.hid (fun i (h : i < ls.length) => hp ls[i] (List.getElem_mem h))
  clear hr hp
  go_enter Try.func88, Try.ntmps88
  go_wp2_with fail
  go_step3
  go_wp2_with fail
  go_step3
  go_wp2_with fail
  go_loopw [3, 10] (fun s3 s10 wr => ∃ i : Nat, i ≤ ls.length ∧ s10 = .int .i64 i ∧ s3 = .int .i64 (tot (ls.take i) : Nat) ∧ Hid (∀ j (hj : j < ls.length), j < i → ls[j].all ptIn = true) ∧ Below w.heap.size w wr) (fun _ s10 _ => ls.length - (intOf s10).toNat)
  case atStart => exact ⟨0, Nat.zero_le _, rfl, rfl, Lib.hid (fun j _ h => absurd h (by omega)), Below.refl _ _⟩
  case round =>
    obtain ⟨i, hi, rfl, rfl, HA, hbr⟩ := hrel
    by_cases hlt : i < ls.length
    · have hlt' : (i : Int) < (ls.length : Int) := by omega
      obtain ⟨b, o, rfl, hb, Ak, ck, hck, hrk⟩ := (HR.out.on hbr).at_ hlt
      have HRP := Lib.hid hrk
      have hti := HT.out i
      have HTS := Lib.hid (tot_succ hlt)
      have hpl := HPL.out i hlt
      have HNO := Lib.hid (fun k hk h => ranged_no (k := k) hlt hk h)
      have HA2 : Hid (ls[i].all ptIn = true → ∀ j (hj : j < ls.length), j < i + 1 → ls[j].all ptIn = true) := Lib.hid (fun h j hj hji => by
        by_cases he : j = i
        · subst he; exact h
        · exact HA.out j hj (by omega))
      generalize tot (ls.take i) = t at *
      generalize ls[i] = p at *
      clear hrk HA HT HPL
      go_wp2_with fail
      go_loopw [3, 16] (fun s3 s16 wx => ∃ k : Nat, k ≤ p.length ∧ s16 = .int .i64 k ∧ s3 = .int .i64 ((t + k : Nat) : Int) ∧ Hid (∀ j (hj : j < p.length), j < k → ptIn p[j] = true) ∧ Below wr.heap.size wr wx) (fun _ s16 _ => p.length - (intOf s16).toNat)
      case atStart => exact ⟨0, Nat.zero_le _, rfl, rfl, Lib.hid (fun j _ h => absurd h (by omega)), Below.refl _ _⟩
      case round =>
        clear hck
        obtain ⟨k, hk, rfl, rfl, HB, hbx⟩ := hrel
        by_cases hlk : k < p.length
        · have hlk' : (k : Int) < (p.length : Int) := by omega
          obtain ⟨b2, o2, rfl, hb2, x0, x1, x2⟩ := (HRP.out.on hbx).at_ hlk
          have HNk := Lib.hid (HNO.out k hlk)
          have HB2 : Hid (ptIn p[k] = true → ∀ j (hj : j < p.length), j < k + 1 → ptIn p[j] = true) := Lib.hid (fun h j hj hji => by
            by_cases he : j = k
            · subst he; exact h
            · exact HB.out j hj (by omega))
          generalize p[k] = q at *
          obtain ⟨X, Y, O⟩ := q
          dsimp only at x0 x1 x2
          go_upto_region 8 with fail
          refine wp_world (fun W1 hW1 => ?_)
          obtain ⟨hQ, hbn, hsn⟩ := new1 hW1
          clear hW1
          have hbx1 := hbx.trans (hbn.mono hbx.size)
          generalize hqq : wr.heap.size = qq at *
          clear hqq hsn hbn x0 x1 x2
          obtain ⟨⟨x0, x1, x2⟩, _⟩ := hQ.three
          go_wp2_with fail
          refine (raster_in X _).mono ?_
          rintro e wa ⟨rfl, rfl⟩
          cases hx : inB X with
          | false =>
            have hno := Lib.hid (HNk.out (by simp [ptIn, hx]))
            clear hx
            go_wp2
            rw [Exit.noGoto_ret]
            go_ret
            exact ⟨ret_int hno.out.symm, hbr.trans (hbx1.mono hbr.size)⟩
          | true =>
            go_wp2_with fail
            refine (raster_in Y _).mono ?_
            rintro e wa ⟨rfl, rfl⟩
            cases hy : inB Y with
            | false =>
              have hno := Lib.hid (HNk.out (by simp [ptIn, hy]))
              clear hx hy
              go_wp2
              rw [Exit.noGoto_ret]
              go_ret
              exact ⟨ret_int hno.out.symm, hbr.trans (hbx1.mono hbr.size)⟩
            | true =>
              have hyes := Lib.hid (HB2.out (by simp [ptIn, hx, hy]))
              clear hx hy
              go_wp2
              go_roundw
              case rel => exact ⟨k + 1, by omega, by go_num, by go_num, hyes, hbx1⟩
              case measure => simp [intOf]; omega
        · have hke : k = p.length := by omega
          have hlk' : ¬ (k : Int) < (p.length : Int) := by omega
          have hall := HA2.out (all_pts (fun j hj => HB.out j hj (by omega)))
          have HALL := Lib.hid hall
          clear hall
          go_wp2
          go_roundw
          case rel => exact ⟨i + 1, by omega, by go_num, by rw [HTS.out, hke], HALL, hbr.trans (hbx.mono hbr.size)⟩
          case measure => simp [intOf]; omega
    · have hie : i = ls.length := by omega
      have hlt' : ¬ (i : Int) < (ls.length : Int) := by omega
      have hv := Lib.hid (ranged_yes (fun j hj => HA.out j hj (by omega)))
      have HTK := Lib.hid (show ls.take i = ls from List.take_of_length_le (by omega))
      rw [HTK.out]
      go_wp2
      go_ret
      exact ⟨ret_int hv.out.symm, hbr⟩

set_option maxHeartbeats 2000000 in
set_option maxRecDepth 100000 in
theorem ref07_ranged (ls : List (List Pt)) (A : Option Addr) (c : Nat) (w : World) (hl : ls.length ≤ 1000) (hp : ∀ p ∈ ls, p.length ≤ 1000) (hr : RdPs w w.heap.size A ls) :
    Calls Try.prog 91 #[.slice A ls.length c] w fun e w' => e = .returned (.bool (allIn ls)) ∧ w = w' := by
  have HR := Lib.hid hr
  have HPL := Lib.hid (fun i (h : i < ls.length) => hp ls[i] (List.getElem_mem h))
  clear hr hp
  go_enter Try.func91, Try.ntmps91
  go_wp2_with fail
  go_loopw [3, 4] (fun s3 _ wr => ∃ i : Nat, i ≤ ls.length ∧ s3 = .int .i64 i ∧ Hid (∀ j (hj : j < ls.length), j < i → ls[j].all ptIn = true) ∧ wr = w) (fun s3 _ _ => ls.length - (intOf s3).toNat)
  case atStart => exact ⟨0, Nat.zero_le _, rfl, Lib.hid (fun j _ h => absurd h (by omega)), rfl⟩
  case round =>
    obtain ⟨i, hi, rfl, HA, rfl⟩ := hrel
    by_cases hlt : i < ls.length
    · have hlt' : (i : Int) < (ls.length : Int) := by omega
      obtain ⟨b, o, rfl, hb, Ak, ck, hck, hrk⟩ := HR.out.at_ hlt
      have HRP := Lib.hid hrk
      have hpl := HPL.out i hlt
      have HNO := Lib.hid (fun k hk h => allIn_no (k := k) hlt hk h)
      have HA2 : Hid (ls[i].all ptIn = true → ∀ j (hj : j < ls.length), j < i + 1 → ls[j].all ptIn = true) := Lib.hid (fun h j hj hji => by
        by_cases he : j = i
        · subst he; exact h
        · exact HA.out j hj (by omega))
      generalize ls[i] = p at *
      clear hrk HA HPL
      go_wp2_with fail
      go_loopw [4] (fun s4 wx => ∃ k : Nat, k ≤ p.length ∧ s4 = .int .i64 k ∧ Hid (∀ j (hj : j < p.length), j < k → ptIn p[j] = true) ∧ wx = wr) (fun s4 _ => p.length - (intOf s4).toNat)
      case atStart => exact ⟨0, Nat.zero_le _, rfl, Lib.hid (fun j _ h => absurd h (by omega)), rfl⟩
      case round =>
        obtain ⟨k, hk, rfl, HB, rfl⟩ := hrel
        by_cases hlk : k < p.length
        · have hlk' : (k : Int) < (p.length : Int) := by omega
          obtain ⟨b2, o2, rfl, hb2, x0, x1, x2⟩ := HRP.out.at_ hlk
          have HNk := Lib.hid (HNO.out k hlk)
          have HB2 : Hid (ptIn p[k] = true → ∀ j (hj : j < p.length), j < k + 1 → ptIn p[j] = true) := Lib.hid (fun h j hj hji => by
            by_cases he : j = k
            · subst he; exact h
            · exact HB.out j hj (by omega))
          generalize p[k] = q at *
          obtain ⟨X, Y, O⟩ := q
          dsimp only at x0 x1 x2
          go_wp2_with fail
          refine (ref07_in X _).mono ?_
          rintro e wa ⟨rfl, rfl⟩
          cases hx : inB X with
          | false =>
            have hno := Lib.hid (HNk.out (by simp [ptIn, hx]))
            clear hx
            go_wp2
            go_ret
            exact ⟨ret_bool hno.out.symm, rfl⟩
          | true =>
            go_wp2_with fail
            refine (ref07_in Y _).mono ?_
            rintro e wa ⟨rfl, rfl⟩
            cases hy : inB Y with
            | false =>
              have hno := Lib.hid (HNk.out (by simp [ptIn, hy]))
              clear hx hy
              go_wp2
              go_ret
              exact ⟨ret_bool hno.out.symm, rfl⟩
            | true =>
              have hyes := Lib.hid (HB2.out (by simp [ptIn, hx, hy]))
              clear hx hy
              go_wp2
              go_roundw
              case rel => exact ⟨k + 1, by omega, by go_num, hyes, trivial⟩
              case measure => simp [intOf]; omega
        · have hke : k = p.length := by omega
          have hlk' : ¬ (k : Int) < (p.length : Int) := by omega
          have hall := HA2.out (all_pts (fun j hj => HB.out j hj (by omega)))
          have HALL := Lib.hid hall
          clear hall
          go_wp2
          go_roundw
          case rel => exact ⟨i + 1, by omega, by go_num, HALL, trivial⟩
          case measure => simp [intOf]; omega
    · have hie : i = ls.length := by omega
      have hlt' : ¬ (i : Int) < (ls.length : Int) := by omega
      have hv := Lib.hid (allIn_yes (fun j hj => HA.out j hj (by omega)))
      go_wp2
      go_ret
      exact ⟨ret_bool hv.out.symm, rfl⟩
end Go.Proofs.Ytlanefdeeanpnaa
