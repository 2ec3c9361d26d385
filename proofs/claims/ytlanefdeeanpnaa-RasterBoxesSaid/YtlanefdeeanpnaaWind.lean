/-
  Contracts of winding and Winding of the program's raster package. Conditions: at most 1000 polygons with at most 1000 points, read below the heap's size.
-/
import Derived.Test.YtlanefdeeanpnaaRanged
import Derived.Test.YtlanefdeeanpnaaTurns
namespace Go.Proofs.Ytlanefdeeanpnaa
set_option linter.unusedVariables false
set_option linter.unusedSimpArgs false
open Go.RowKit
attribute [local go_sem ↓] Go.wp_at_zero Go.wp_at_succ

abbrev pD0 : Pt := (0, 0, false)
/-- The first t edges of a polygon, each edge leading to the point of its number. -/
def windP (p : List Pt) (x y : Int) : Nat → Int
  | 0 => 0
  | t + 1 => windP p x y t + turnsV (p.getD ((t + p.length - 1) % p.length) pD0) (p.getD t pD0) x y
def windL (ls : List (List Pt)) (x y : Int) : Nat → Int
  | 0 => 0
  | s + 1 => windL ls x y s + windP (ls.getD s []) x y (ls.getD s []).length
theorem windP_small (p : List Pt) (x y : Int) (t : Nat) : -(t : Int) ≤ windP p x y t ∧ windP p x y t ≤ t := by
  induction t with
  | zero => exact ⟨Int.le_refl _, Int.le_refl _⟩
  | succ t ih =>
    have := turns_small (p.getD ((t + p.length - 1) % p.length) pD0) (p.getD t pD0) x y
    unfold windP
    omega
theorem windL_small {ls : List (List Pt)} (hp : ∀ p ∈ ls, p.length ≤ 1000) (x y : Int) (s : Nat) : -(1000 * s : Int) ≤ windL ls x y s ∧ windL ls x y s ≤ 1000 * s := by
  induction s with
  | zero => exact ⟨Int.le_refl _, Int.le_refl _⟩
  | succ s ih =>
    have h1 := windP_small (ls.getD s []) x y (ls.getD s []).length
    have h2 : (ls.getD s []).length ≤ 1000 := by
      rcases Nat.lt_or_ge s ls.length with h | h
      · rw [List.getD_eq_getElem?_getD, List.getElem?_eq_getElem h]; exact hp _ (List.getElem_mem h)
      · rw [List.getD_eq_getElem?_getD, List.getElem?_eq_none h]; simp
    unfold windL
    omega
def windN (ls : List (List Pt)) (x y : Int) : Int := windL ls x y ls.length
theorem getD_at {α : Type} {l : List α} {i : Nat} {d : α} (h : i < l.length) : l.getD i d = l[i] := by rw [List.getD_eq_getElem?_getD, List.getElem?_eq_getElem h]; rfl
theorem allIn_pt {ls : List (List Pt)} (h : allIn ls = true) {i k : Nat} (hi : i < ls.length) (hk : k < ls[i].length) : ptIn ls[i][k] = true := by
  cases hh : ptIn ls[i][k] with
  | true => rfl
  | false => rw [allIn_no hi hk hh] at h; cases h
theorem ptIn_yes {q : Pt} (h : ptIn q = true) : (-1073741824 ≤ q.1 ∧ q.1 ≤ 1073741824) ∧ -1073741824 ≤ q.2.1 ∧ q.2.1 ≤ 1073741824 := by
  unfold ptIn at h
  rw [Bool.and_eq_true] at h
  exact ⟨in_yes h.1, in_yes h.2⟩

set_option maxHeartbeats 4000000 in
set_option maxRecDepth 100000 in
theorem raster_winding (ls : List (List Pt)) (A : Option Addr) (c : Nat) (x y : Int) (w : World) (hl : ls.length ≤ 1000) (hp : ∀ p ∈ ls, p.length ≤ 1000) (ha : allIn ls = true) (hx : inB x = true) (hy : inB y = true) (hr : RdPs w w.heap.size A ls) :
    Calls Try.prog 90 #[.slice A ls.length c, .int .i64 x, .int .i64 y] w fun e w' => e = .returned (.int .i64 (windN ls x y)) ∧ Below w.heap.size w w' := by
  have HX := Lib.hid (in_yes hx)
  have HY := Lib.hid (in_yes hy)
  have HR := Lib.hid hr
  have HS := Lib.hid (fun s => windL_small hp x y s)
  have HPL := Lib.hid (fun i (h : i < ls.length) => hp ls[i] (List.getElem_mem h))
  have HIN := Lib.hid (fun i k (hi : i < ls.length) (hk : k < ls[i].length) => ptIn_yes (allIn_pt ha hi hk))
  clear hr hp ha hx hy
  go_enter Try.func90, Try.ntmps90
  go_wp2_with fail
  go_loopw [7, 14] (fun s7 s14 wr => ∃ i : Nat, i ≤ ls.length ∧ s14 = .int .i64 i ∧ s7 = .int .i64 (windL ls x y i) ∧ Below w.heap.size w wr) (fun _ s14 _ => ls.length - (intOf s14).toNat)
  case atStart => exact ⟨0, Nat.zero_le _, rfl, rfl, Below.refl _ _⟩
  case round =>
    obtain ⟨i, hi, rfl, rfl, hbr⟩ := hrel
    by_cases hlt : i < ls.length
    · have hlt' : (i : Int) < (ls.length : Int) := by omega
      obtain ⟨b, o, rfl, hb, Ak, ck, hck, hrk⟩ := (HR.out.on hbr).at_ hlt
      have HRP := Lib.hid hrk
      have hs1 := HS.out i
      have HW : Hid (windL ls x y (i + 1) = windL ls x y i + windP ls[i] x y ls[i].length) := Lib.hid (by rw [windL, getD_at hlt])
      have hpl := HPL.out i hlt
      have HINi := Lib.hid (fun k hk => HIN.out i k hlt hk)
      generalize windL ls x y i = n0 at *
      generalize ls[i] = p at *
      have HPS := Lib.hid (fun t => windP_small p x y t)
      clear hrk HIN HS HPL
      obtain ⟨hs2, hs3⟩ := hs1
      go_wp2_with fail
      go_loopw [7, 20] (fun s7 s20 wx => ∃ k : Nat, k ≤ p.length ∧ s20 = .int .i64 k ∧ s7 = .int .i64 (n0 + windP p x y k) ∧ Below wr.heap.size wr wx) (fun _ s20 _ => p.length - (intOf s20).toNat)
      case atStart => exact ⟨0, Nat.zero_le _, rfl, by simp [windP], Below.refl _ _⟩
      case round =>
        clear hck
        obtain ⟨k, hk, rfl, rfl, hbx⟩ := hrel
        by_cases hlk : k < p.length
        · have hlk' : (k : Int) < (p.length : Int) := by omega
          have hpos : 0 < p.length := by omega
          have hmi : ((k : Int) + (p.length : Int) - 1).tmod (p.length : Int) = (((k + p.length - 1) % p.length : Nat) : Int) := by
            rw [Int.tmod_eq_emod_of_nonneg (by omega), Int.natCast_emod]
            congr 1
            omega
          have hml : (k + p.length - 1) % p.length < p.length := Nat.mod_lt _ hpos
          have HWP : Hid (windP p x y (k + 1) = windP p x y k + turnsV p[(k + p.length - 1) % p.length] p[k] x y) := Lib.hid (by rw [windP, getD_at hml, getD_at hlk])
          have hps := HPS.out k
          generalize windP p x y k = t0 at *
          generalize (k + p.length - 1) % p.length = kx at *
          have hrx := HRP.out.on hbx
          obtain ⟨b2, o2, rfl, hb2, x0, x1, x2⟩ := hrx.at_ hlk
          obtain ⟨b3, o3, e3, hb3, y0, y1, y2⟩ := hrx.at_ hml
          injection e3 with e3
          injection e3 with e31 e32 _
          subst e31 e32
          have hq1 := HINi.out k hlk
          have hq2 := HINi.out kx hml
          have hTS := turns_small p[kx] p[k] x y
          generalize p[k] = q at *
          generalize p[kx] = q2 at *
          obtain ⟨X, Y, O⟩ := q
          obtain ⟨X2, Y2, O2⟩ := q2
          dsimp only at x0 x1 x2 y0 y1 y2 hq1 hq2
          obtain ⟨⟨g1, g2⟩, g3, g4⟩ := hq1
          obtain ⟨⟨g5, g6⟩, g7, g8⟩ := hq2
          have hmx : (kx : Int) < (p.length : Int) := by omega
          have hml0 : ¬ (p.length : Int) = 0 := by omega
          have hml1 : ¬ p.length = 0 := by omega
          have CT := Lib.hid (fun w => raster_turns X2 Y2 X Y x y O2 O w ⟨g5, g6⟩ ⟨g7, g8⟩ ⟨g1, g2⟩ ⟨g3, g4⟩ HX.out HY.out)
          generalize turnsV (X2, Y2, O2) (X, Y, O) x y = tv at *
          clear g1 g2 g3 g4 g5 g6 g7 g8
          have wi1 : IntKind.i64.wrap ((k : Int) + (p.length : Int)) = (k : Int) + (p.length : Int) := IntWalk.i64_in _ (by omega)
          have wi2 : IntKind.i64.wrap ((k : Int) + (p.length : Int) - 1) = (k : Int) + (p.length : Int) - 1 := IntWalk.i64_in _ (by omega)
          have wi3 : IntKind.i64.wrap (n0 + t0 + tv) = n0 + t0 + tv := IntWalk.i64_in _ (by omega)
          go_upto_region 8 with fail
          refine wp_world (fun W1 hW1 => ?_)
          obtain ⟨hQ, hbn, hsn⟩ := new1 hW1
          clear hW1
          have hbx1 := hbx.trans (hbn.mono hbx.size)
          have y0' := (hbn.cell (p := ⟨b2, o2 + kx * 3, none⟩) hb2).trans y0
          have y1' := (hbn.cell (p := ⟨b2, o2 + kx * 3 + 1, none⟩) hb2).trans y1
          have y2' := (hbn.cell (p := ⟨b2, o2 + kx * 3 + 2, none⟩) hb2).trans y2
          have zb2 : b2 < W1.heap.size := by omega
          have zq := hQ.lt
          obtain ⟨⟨v0, v1, v2⟩, _⟩ := hQ.three
          generalize hqq : wr.heap.size = qq at *
          clear hqq hsn hbn x0 x1 x2 y0 y1 y2
          refine wp_region_L 17 (fun w' => (∀ b o, b < W1.heap.size → w'.cell? ⟨b, o, none⟩ = W1.cell? ⟨b, o, none⟩) ∧ Below W1.heap.size W1 w') (by kernel_rfl) ?_ (fun Wd hWd hS => ?_)
          · (try dsimp only)
            exact sb_of (Below.refl _ _).drew
          (try dsimp only at hS)
          refine wpT_take 0 (v := ?_) rfl (by kernel_rfl) (by kernel_rfl) (fun _ _ _ h => h) hS (Or.inl ⟨rfl, ?_⟩) ?_
          rotate_left
          · (intro w' hSw; (try dsimp only at hSw); go_simp; first | done | with_reducible rfl)
          (try simp only [Act.put, List.setIfInBounds_toArray, List.set_cons_zero, List.set_cons_succ])
          refine wpT_take 1 (v := ?_) rfl (by kernel_rfl) (by kernel_rfl) (fun _ _ _ h => h) hS (Or.inl ⟨rfl, ?_⟩) ?_
          rotate_left
          · (intro w' hSw; (try dsimp only at hSw); go_simp; first | done | with_reducible rfl)
          (try simp only [Act.put, List.setIfInBounds_toArray, List.set_cons_zero, List.set_cons_succ])
          refine wpT_take 2 (v := ?_) rfl (by kernel_rfl) (by kernel_rfl) (fun _ _ _ h => h) hS (Or.inl ⟨rfl, ?_⟩) ?_
          rotate_left
          · (intro w' hSw; (try dsimp only at hSw); go_simp; first | done | with_reducible rfl)
          (try simp only [Act.put, List.setIfInBounds_toArray, List.set_cons_zero, List.set_cons_succ])
          refine wpT_take 3 (v := ?_) rfl (by kernel_rfl) (by kernel_rfl) (fun _ _ _ h => h) hS (Or.inl ⟨rfl, ?_⟩) ?_
          rotate_left
          · (intro w' hSw; (try dsimp only at hSw); go_simp; first | done | with_reducible rfl)
          (try simp only [Act.put, List.setIfInBounds_toArray, List.set_cons_zero, List.set_cons_succ])
          refine wpT_take 4 (v := ?_) rfl (by kernel_rfl) (by kernel_rfl) (fun _ _ _ h => h) hS (Or.inl ⟨rfl, ?_⟩) ?_
          rotate_left
          · (intro w' hSw; (try dsimp only at hSw); go_simp; first | done | with_reducible rfl)
          (try simp only [Act.put, List.setIfInBounds_toArray, List.set_cons_zero, List.set_cons_succ])
          refine wpT_take 5 (v := ?_) rfl (by kernel_rfl) (by kernel_rfl) (fun _ _ _ h => h) hS (Or.inl ⟨rfl, ?_⟩) ?_
          rotate_left
          · (intro w' hSw; (try dsimp only at hSw); go_simp; first | done | with_reducible rfl)
          (try simp only [Act.put, List.setIfInBounds_toArray, List.set_cons_zero, List.set_cons_succ])
          refine wpT_take 6 (v := ?_) rfl (by kernel_rfl) (by kernel_rfl) (fun _ _ _ h => h) hS (Or.inl ⟨rfl, ?_⟩) ?_
          rotate_left
          · (intro w' hSw; (try dsimp only at hSw); go_simp; first | done | with_reducible rfl)
          (try simp only [Act.put, List.setIfInBounds_toArray, List.set_cons_zero, List.set_cons_succ])
          refine wpT_take 7 (v := ?_) rfl (by kernel_rfl) (by kernel_rfl) (fun _ _ _ h => h) hS (Or.inl ⟨rfl, ?_⟩) ?_
          rotate_left
          · (intro w' hSw; (try dsimp only at hSw); go_simp; first | done | with_reducible rfl)
          (try simp only [Act.put, List.setIfInBounds_toArray, List.set_cons_zero, List.set_cons_succ])
          refine wpT_take 8 (v := ?_) rfl (by kernel_rfl) (by kernel_rfl) (fun _ _ _ h => h) hS (Or.inl ⟨rfl, ?_⟩) ?_
          rotate_left
          · (intro w' hSw; (try dsimp only at hSw); go_simp; first | done | with_reducible rfl)
          (try simp only [Act.put, List.setIfInBounds_toArray, List.set_cons_zero, List.set_cons_succ])
          refine wpT_take 9 (v := ?_) rfl (by kernel_rfl) (by kernel_rfl) (fun _ _ _ h => h) hS (Or.inl ⟨rfl, ?_⟩) ?_
          rotate_left
          · (intro w' hSw; (try dsimp only at hSw); go_simp; first | done | with_reducible rfl)
          (try simp only [Act.put, List.setIfInBounds_toArray, List.set_cons_zero, List.set_cons_succ])
          refine wpT_take 10 (v := ?_) rfl (by kernel_rfl) (by kernel_rfl) (fun _ _ _ h => h) hS (Or.inl ⟨rfl, ?_⟩) ?_
          rotate_left
          · (intro w' hSw; (try dsimp only at hSw); go_simp; first | done | with_reducible rfl)
          (try simp only [Act.put, List.setIfInBounds_toArray, List.set_cons_zero, List.set_cons_succ])
          refine wpT_take 11 (v := ?_) rfl (by kernel_rfl) (by kernel_rfl) (fun _ _ _ h => h) hS (Or.inl ⟨rfl, ?_⟩) ?_
          rotate_left
          · (intro w' hSw; (try dsimp only at hSw); go_simp; first | done | with_reducible rfl)
          (try simp only [Act.put, List.setIfInBounds_toArray, List.set_cons_zero, List.set_cons_succ])
          refine wpT_take 12 (v := ?_) rfl (by kernel_rfl) (by kernel_rfl) (fun _ _ _ h => h) hS (Or.inl ⟨rfl, ?_⟩) ?_
          rotate_left
          · (intro w' hSw; (try dsimp only at hSw); go_simp; first | done | with_reducible rfl)
          (try simp only [Act.put, List.setIfInBounds_toArray, List.set_cons_zero, List.set_cons_succ])
          refine wpT_take 13 (v := ?_) rfl (by kernel_rfl) (by kernel_rfl) (fun _ _ _ h => h) hS (Or.inl ⟨rfl, ?_⟩) ?_
          rotate_left
          · (intro w' hSw; (try dsimp only at hSw); go_simp; first | done | with_reducible rfl)
          (try simp only [Act.put, List.setIfInBounds_toArray, List.set_cons_zero, List.set_cons_succ])
          refine wpT_take 14 (v := ?_) rfl (by kernel_rfl) (by kernel_rfl) (fun _ _ _ h => h) hS (Or.inl ⟨rfl, ?_⟩) ?_
          rotate_left
          · (intro w' hSw; (try dsimp only at hSw); go_simp; first | done | with_reducible rfl)
          (try simp only [Act.put, List.setIfInBounds_toArray, List.set_cons_zero, List.set_cons_succ])
          refine wpT_one 15 rfl (by kernel_rfl) (fun K hK => ?_)
          go_simp
          go_at_call 106
          refine (CT.out _).mono ?_
          rintro e wa ⟨rfl, hba⟩
          have hbS := hS.2.trans (hba.mono hS.2.size)
          refine hK.out _ _ ?_ (fun hS => ?_)
          · (try dsimp only)
            exact sb_of hbS
          clear hK K
          (try simp only [Act.put, List.setIfInBounds_toArray, List.set_cons_zero, List.set_cons_succ])
          (try dsimp only at hS)
          refine wpT_take 16 (v := ?_) rfl (by kernel_rfl) (by kernel_rfl) (fun _ _ _ h => h) hS (Or.inl ⟨rfl, ?_⟩) ?_
          rotate_left
          · (intro w' hSw; (try dsimp only at hSw); go_simp; first | done | with_reducible rfl)
          (try simp only [Act.put, List.setIfInBounds_toArray, List.set_cons_zero, List.set_cons_succ])
          refine wpT_tail (by rfl) (by kernel_rfl) ?_
          (try simp only [List.drop_succ_cons, List.drop_zero])
          have hbx2 := hbx1.trans (hS.2.mono hbx1.size)
          clear hS hba hWd
          go_wp2_with fail
          go_roundw
          case rel => exact ⟨k + 1, by omega, by go_num, by rw [HWP.out, Int.add_assoc], hbx2⟩
          case measure => simp [intOf]; omega
        · have hke : k = p.length := by omega
          have hlk' : ¬ (k : Int) < (p.length : Int) := by omega
          subst hke
          go_wp2
          go_roundw
          case rel => exact ⟨i + 1, by omega, by go_num, by rw [HW.out], hbr.trans (hbx.mono hbr.size)⟩
          case measure => simp [intOf]; omega
    · have hie : i = ls.length := by omega
      have hlt' : ¬ (i : Int) < (ls.length : Int) := by omega
      subst hie
      go_wp2
      go_ret
      exact ⟨rfl, hbr⟩
end Go.Proofs.Ytlanefdeeanpnaa
