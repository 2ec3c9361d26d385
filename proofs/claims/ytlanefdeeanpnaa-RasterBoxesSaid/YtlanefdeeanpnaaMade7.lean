/-
  Contract of Made of layer 7's reference: at most 4 polygons with at most 8 points. Conditions: the lists are read below the heap's size and their lengths fit an int.
-/
import Derived.Test.YtlanefdeeanpnaaPolygon
import Derived.Test.YtlanefdeeanpnaaMade
import Derived.Test.YtlanefdeeanpnaaRegionU
namespace Go.Proofs.Ytlanefdeeanpnaa
set_option linter.unusedVariables false
set_option linter.unusedSimpArgs false
open Go.RowKit
attribute [local go_sem ↓] Go.wp_at_zero Go.wp_at_succ

/-- A slice's address reads slices of ints, below block B. -/
def RdIs (w : World) (B : Nat) (A : Option Addr) (ls : List (List Int)) : Prop :=
  0 < ls.length → ∃ b o, A = some ⟨b, o, none⟩ ∧ b < B ∧ ∀ k (h : k < ls.length), ∃ (Ak : Option Addr) (ck : Nat), w.cell? ⟨b, o + k, none⟩ = some (.slice Ak ls[k].length ck) ∧ Rd (Value.int .i64) w B Ak ls[k]
theorem RdIs.below {w w' : World} {B C : Nat} {A : Option Addr} {ls : List (List Int)} (h : RdIs w B A ls) (hb : Below C w w') (hC : B ≤ C) : RdIs w' B A ls := fun h0 => by
  obtain ⟨b, o, e, hlt, hc⟩ := h h0
  refine ⟨b, o, e, hlt, fun k hk => ?_⟩
  obtain ⟨Ak, ck, h1, h2⟩ := hc k hk
  exact ⟨Ak, ck, (hb.cell (p := ⟨b, o + k, none⟩) (show b < C by omega)).trans h1, h2.below hb hC⟩
theorem RdIs.more {w : World} {B B' : Nat} {A : Option Addr} {ls : List (List Int)} (h : RdIs w B A ls) (hB : B ≤ B') : RdIs w B' A ls := fun h0 => by
  obtain ⟨b, o, e, hlt, hc⟩ := h h0
  refine ⟨b, o, e, by omega, fun k hk => ?_⟩
  obtain ⟨Ak, ck, h1, h2⟩ := hc k hk
  exact ⟨Ak, ck, h1, h2.more hB⟩
theorem RdIs.at_ {w : World} {B : Nat} {A : Option Addr} {ls : List (List Int)} (h : RdIs w B A ls) {k : Nat} (hk : k < ls.length) : ∃ b o, A = some ⟨b, o, none⟩ ∧ b < B ∧ ∃ (Ak : Option Addr) (ck : Nat), w.cell? ⟨b, o + k, none⟩ = some (.slice Ak ls[k].length ck) ∧ Rd (Value.int .i64) w B Ak ls[k] := by
  obtain ⟨b, o, e, hlt, hc⟩ := h (by omega)
  exact ⟨b, o, e, hlt, hc k hk⟩

def m7Step (L : List Int) (s : Nat × List Pt) : Nat × List Pt := (dAt L (dAt L s.1), s.2 ++ [(dN L s.1 80 - 24, dN L (dAt L s.1) 80 - 24, true)])
def m7Run (L : List Int) : Nat → Nat × List Pt → List Pt
  | 0, s => s.2
  | n + 1, s => if s.1 < L.length then m7Run L n (m7Step L s) else s.2
def m7 (L : List Int) : List Pt := m7Run L 8 (0, [])
def m7s (ls : List (List Int)) : List (List Pt) := (ls.take 4).map m7
theorem m7Run_stop {L : List Int} {r k : Nat} {P : List Pt} (h : ¬ (r < 8 ∧ k < L.length)) : m7Run L (8 - r) (k, P) = P := by
  rcases Nat.lt_or_ge r 8 with h1 | h1
  · obtain ⟨j, hj⟩ : ∃ j, 8 - r = j + 1 := ⟨7 - r, by omega⟩
    rw [hj]
    unfold m7Run
    rw [if_neg (fun hh => h ⟨h1, hh⟩)]
  · rw [show 8 - r = 0 by omega]; rfl
theorem m7Run_step {L : List Int} {r k : Nat} {P : List Pt} (h : r < 8 ∧ k < L.length) : m7Run L (8 - r) (k, P) = m7Run L (8 - (r + 1)) (m7Step L (k, P)) := by
  rw [show 8 - r = (8 - (r + 1)) + 1 by omega]
  show (if k < L.length then m7Run L (8 - (r + 1)) (m7Step L (k, P)) else P) = _
  rw [if_pos h.2]

theorem own_kept3 {w w' : World} {base e s n : Nat} {v : Value} {xs : List Value} (h : w.ownsRow base e s v n xs) (hb : Below w.heap.size w w') : w'.ownsRow base e s v n xs := by
  refine ⟨h.1, ?_⟩
  rcases h.2 with hh | ⟨g, cap, cur, rfl, h3, h4, h5⟩
  · exact .inl hh
  · have hlt : g < w.heap.size := by
      rcases Nat.lt_or_ge g w.heap.size with hlt | hge
      · exact hlt
      · rw [Array.getElem?_eq_none hge] at h4; cases h4
    exact .inr ⟨g, cap, cur, rfl, h3, (hb.block g hlt).trans h4, h5⟩
theorem own_kept3k {w w' : World} {base e s n : Nat} {v : Value} {xs : List Value} {l : List Nat} (h : w.ownsRow base e s v n xs) (hk : Kp l w w') (hl : ∀ g, v.ownBlock = some g → g ∉ l) : w'.ownsRow base e s v n xs := by
  refine ⟨h.1, ?_⟩
  rcases h.2 with hh | ⟨g, cap, cur, rfl, h3, h4, h5⟩
  · exact .inl hh
  · have hlt : g < w.heap.size := by
      rcases Nat.lt_or_ge g w.heap.size with hlt | hge
      · exact hlt
      · rw [Array.getElem?_eq_none hge] at h4; cases h4
    exact .inr ⟨g, cap, cur, rfl, h3, (hk.block g hlt (hl g rfl)).trans h4, h5⟩

set_option maxHeartbeats 8000000 in
set_option maxRecDepth 100000 in
theorem Made7_more (ls : List (List Int)) (A : Option Addr) (c : Nat) (w : World) (hn : ∀ l ∈ ls, l.length ≤ 9223372036854775807) (hls : ls.length ≤ 9223372036854775807) (hr : RdIs w w.heap.size A ls) :
    Calls Try.prog 52 #[.slice A ls.length c] w fun e w' =>
      ∃ (A' : Option Addr) (c' : Nat), e = .returned (.slice A' (m7s ls).length c') ∧ RwPs w' w'.heap.size A' (m7s ls) ∧ ((m7s ls).length ≤ c' ∧ c' ≤ 9223372036854775807) ∧ Below w.heap.size w w' := by
  have HR := Lib.hid hr
  have HNL := Lib.hid (fun i (h : i < ls.length) => hn ls[i] (List.getElem_mem h))
  have HU := Lib.hid (Try.underlying96)
  have HU2 := Lib.hid (Try.underlying78)
  clear hr hn
  go_enter Try.func52, Try.ntmps52
  go_wp2_with fail
  generalize hp : w.heap.size = B at *
  have HP := Lib.hid hp
  clear hp
  go_loopw [3, 4] (fun s3 s4 wr => ∃ (i : Nat) (rs : List Row) (Ao : Option Addr) (co : Nat), i ≤ 4 ∧ i ≤ ls.length ∧ s4 = .int .i64 i ∧ s3 = .slice Ao i co ∧ wr.ownsRow B 96 1 (.slice Ao i co) i (rs.map rowV) ∧ Hid (rs.map (fun r => r.2.2) = (ls.take i).map m7 ∧ rs.length = i) ∧ Hid (∀ r ∈ rs, wr.ownsRow B 134 3 (.slice r.1 r.2.2.length r.2.1) r.2.2.length (flat r.2.2)) ∧ Below B w wr) (fun _ s4 _ => 4 - (intOf s4).toNat)
  case atStart => exact ⟨0, [], none, 0, by omega, by omega, rfl, rfl, World.ownsRow_nil _ _ _ _, Lib.hid ⟨rfl, rfl⟩, Lib.hid (fun r hr => absurd hr (by simp)), Below.refl _ _⟩
  case round =>
    obtain ⟨i, rs, Ao, co, hi4, hil, rfl, rfl, hown, HRS, HRO, hbr⟩ := hrel
    have hsz := hbr.size
    by_cases hlt : i < ls.length
    · by_cases h4 : i < 4
      · have hlt' : (i : Int) < (ls.length : Int) := by omega
        have h4' : (i : Int) < 4 := by omega
        obtain ⟨b, o, rfl, hb, AL, cL, hck, hrk⟩ := HR.out.at_ hlt
        have hck1 := (hbr.cell (p := ⟨b, o + i, none⟩) hb).trans hck
        have HRL := Lib.hid hrk
        have hLn := HNL.out i hlt
        have HMI : Hid ((ls.take (i + 1)).map m7 = (ls.take i).map m7 ++ [m7 ls[i]]) := Lib.hid (by rw [List.take_succ_eq_append_getElem hlt, List.map_append]; rfl)
        generalize ls[i] = L at *
        clear hck hrk
        have hsz' : B ≤ wr.heap.size := by have := HP.out; omega
        have hzb : b < wr.heap.size := by have := HP.out; omega
        go_wp2_with fail
        refine wp_world (fun W1 hW1 => ?_)
        obtain ⟨hQ, hbn, hsn⟩ := new1 hW1
        clear hW1
        have hown1 := own_below hown hbn
        have HRO1 : Hid (∀ r ∈ rs, W1.ownsRow B 134 3 (.slice r.1 r.2.2.length r.2.1) r.2.2.length (flat r.2.2)) := Lib.hid (fun r hr => own_kept3 (HRO.out r hr) hbn)
        have hb1 := hbr.trans (hbn.mono hsz')
        have hck2 := (hbn.cell (p := ⟨b, o + i, none⟩) hzb).trans hck1
        have hgo := hown.lt
        have HRQ := Lib.hid (fun r hr g hg => (by have := ((HRO.out r hr).lt g hg).2; omega : g ≠ wr.heap.size))
        generalize hqq : wr.heap.size = q at *
        have hq1 : q + 1 = W1.heap.size := by omega
        have HQ1 := Lib.hid hq1
        have hrl1 := Lib.hid (HRL.out.below hb1 (Nat.le_refl _))
        have hqB : B ≤ q := hsz'
        have hpB := HP.out
        clear hqq hck1 hbn hq1 hsn HRL hown HRO hbr hsz
        go_loopw [6, 7, 8] (fun s6 s7 _ wx => ∃ (r k : Nat) (P : List Pt) (A' : Option Addr) (c' : Nat), r ≤ 8 ∧ s7 = .int .i64 r ∧ s6 = .slice A' P.length c' ∧ P.length ≤ 8 * r ∧ k ≤ L.length ∧ wx.ownsRow (q + 1) 134 3 (.slice A' P.length c') P.length (flat P) ∧ Blk wx q 111 #[.slice AL L.length cL, .int .i64 k] ∧ Kp [q] W1 wx ∧ Hid (m7Run L (8 - r) (k, P) = m7 L)) (fun _ s7 _ _ => 8 - (intOf s7).toNat)
        case atStart => exact ⟨0, 0, [], none, 0, by omega, rfl, rfl, by simp, by omega, World.ownsRow_nil _ _ _ _, hQ, Kp.refl _ _, Lib.hid rfl⟩
        case round =>
          clear hQ
          obtain ⟨r, k, P, A', c', hr8, rfl, rfl, hPl, hkl, hownP, hQ, hkp, HM⟩ := hrel
          have hckx := (hkp.cell (b := b) (o := o + i) (by have := HQ1.out; omega) (by simp; omega)).trans hck2
          have hzx := hkp.size
          have hq1 := HQ1.out
          have zq := hQ.lt
          obtain ⟨⟨d0, d1⟩, _⟩ := hQ.two
          have zbx : b < wr.heap.size := by omega
          clear hq1
          by_cases hall : r < 8 ∧ k < L.length
          · have hst := Lib.hid (m7Run_step (P := P) hall)
            obtain ⟨hr1, hkL⟩ := hall
            have hr1' : (r : Int) < 8 := by omega
            have hkL' : (k : Int) < (L.length : Int) := by omega
            have hkb := dAt_le hkl
            have hkb2 := dAt_le hkb
            have hz1 := dN_range L k (m := 80) (by omega)
            have hz2 := dN_range L (dAt L k) (m := 80) (by omega)
            have HS := Lib.hid (show m7Step L (k, P) = (dAt L (dAt L k), P ++ [(dN L k 80 - 24, dN L (dAt L k) 80 - 24, true)]) from rfl)
            rw [HS.out] at hst
            clear HS
            have CN1 := Lib.hid (fun w h h' => Next_blk L AL cL k 80 q w (by omega) (by omega) hkl hLn h h')
            have CN2 := Lib.hid (fun w h h' => Next_blk L AL cL (dAt L k) 80 q w (by omega) (by omega) hkb hLn h h')
            generalize dAt L (dAt L k) = k2 at *
            generalize dN L (dAt L k) 80 = z2 at *
            generalize dAt L k = k1 at *
            generalize dN L k 80 = z1 at *
            go_upto_region 8 with fail
            refine wp_region_U (fun w' => (∀ b o, b < wr.heap.size → w'.cell? ⟨b, o, none⟩ = wr.cell? ⟨b, o, none⟩) ∧ Below wr.heap.size wr w') (by kernel_rfl) ?_ (fun Wd hWd hS => ?_)
            · (try dsimp only)
              exact sb_of (Below.refl _ _).drew
            (try dsimp only at hS)
            refine wpU_take 0 (v := ?_) rfl (by kernel_rfl) (fun _ _ _ h => h) hS (Or.inl ⟨rfl, ?_⟩) ?_
            rotate_left
            · (intro w' hSw; (try dsimp only at hSw); go_simp; first | done | with_reducible rfl)
            (try simp only [Act.put, List.setIfInBounds_toArray, List.set_cons_zero, List.set_cons_succ])
            refine wpU_take 1 (v := ?_) rfl (by kernel_rfl) (fun _ _ _ h => h) hS (Or.inl ⟨rfl, ?_⟩) ?_
            rotate_left
            · (intro w' hSw; (try dsimp only at hSw); go_simp; first | done | with_reducible rfl)
            (try simp only [Act.put, List.setIfInBounds_toArray, List.set_cons_zero, List.set_cons_succ])
            refine wpU_take 2 (v := ?_) rfl (by kernel_rfl) (fun _ _ _ h => h) hS (Or.inl ⟨rfl, ?_⟩) ?_
            rotate_left
            · (intro w' hSw; (try dsimp only at hSw); go_simp; first | done | with_reducible rfl)
            (try simp only [Act.put, List.setIfInBounds_toArray, List.set_cons_zero, List.set_cons_succ])
            refine wpU_take 3 (v := ?_) rfl (by kernel_rfl) (fun _ _ _ h => h) hS (Or.inl ⟨rfl, ?_⟩) ?_
            rotate_left
            · (intro w' hSw; (try dsimp only at hSw); go_simp; first | done | with_reducible rfl)
            (try simp only [Act.put, List.setIfInBounds_toArray, List.set_cons_zero, List.set_cons_succ])
            refine wpU_take 4 (v := ?_) rfl (by kernel_rfl) (fun _ _ _ h => h) hS (Or.inl ⟨rfl, ?_⟩) ?_
            rotate_left
            · (intro w' hSw; (try dsimp only at hSw); go_simp; first | done | with_reducible rfl)
            (try simp only [Act.put, List.setIfInBounds_toArray, List.set_cons_zero, List.set_cons_succ])
            refine wpU_take 5 (v := ?_) rfl (by kernel_rfl) (fun _ _ _ h => h) hS (Or.inl ⟨rfl, ?_⟩) ?_
            rotate_left
            · (intro w' hSw; (try dsimp only at hSw); go_simp; first | done | with_reducible rfl)
            (try simp only [Act.put, List.setIfInBounds_toArray, List.set_cons_zero, List.set_cons_succ])
            refine wpU_take 6 (v := ?_) rfl (by kernel_rfl) (fun _ _ _ h => h) hS (Or.inl ⟨rfl, ?_⟩) ?_
            rotate_left
            · (intro w' hSw; (try dsimp only at hSw); go_simp; first | done | with_reducible rfl)
            (try simp only [Act.put, List.setIfInBounds_toArray, List.set_cons_zero, List.set_cons_succ])
            refine wpU_take 7 (v := ?_) rfl (by kernel_rfl) (fun _ _ _ h => h) hS (Or.inl ⟨rfl, ?_⟩) ?_
            rotate_left
            · (intro w' hSw; (try dsimp only at hSw); go_simp; first | done | with_reducible rfl)
            (try simp only [Act.put, List.setIfInBounds_toArray, List.set_cons_zero, List.set_cons_succ])
            refine wpU_take 8 (v := ?_) rfl (by kernel_rfl) (fun _ _ _ h => h) hS (Or.inl ⟨rfl, ?_⟩) ?_
            rotate_left
            · (intro w' hSw; (try dsimp only at hSw); go_simp; first | done | with_reducible rfl)
            (try simp only [Act.put, List.setIfInBounds_toArray, List.set_cons_zero, List.set_cons_succ])
            refine wpU_take 9 (v := ?_) rfl (by kernel_rfl) (fun _ _ _ h => h) hS (Or.inl ⟨rfl, ?_⟩) ?_
            rotate_left
            · (intro w' hSw; (try dsimp only at hSw); go_simp; first | done | with_reducible rfl)
            (try simp only [Act.put, List.setIfInBounds_toArray, List.set_cons_zero, List.set_cons_succ])
            refine wpU_take 10 (v := ?_) rfl (by kernel_rfl) (fun _ _ _ h => h) hS (Or.inl ⟨rfl, ?_⟩) ?_
            rotate_left
            · (intro w' hSw; (try dsimp only at hSw); go_simp; first | done | with_reducible rfl)
            (try simp only [Act.put, List.setIfInBounds_toArray, List.set_cons_zero, List.set_cons_succ])
            refine wpU_take 11 (v := ?_) rfl (by kernel_rfl) (fun _ _ _ h => h) hS (Or.inl ⟨rfl, ?_⟩) ?_
            rotate_left
            · (intro w' hSw; (try dsimp only at hSw); go_simp; first | done | with_reducible rfl)
            (try simp only [Act.put, List.setIfInBounds_toArray, List.set_cons_zero, List.set_cons_succ])
            refine wpU_take 12 (v := ?_) rfl (by kernel_rfl) (fun _ _ _ h => h) hS (Or.inl ⟨rfl, ?_⟩) ?_
            rotate_left
            · (intro w' hSw; (try dsimp only at hSw); go_simp; first | done | with_reducible rfl)
            (try simp only [Act.put, List.setIfInBounds_toArray, List.set_cons_zero, List.set_cons_succ])
            refine wpU_take 13 (v := ?_) rfl (by kernel_rfl) (fun _ _ _ h => h) hS (Or.inl ⟨rfl, ?_⟩) ?_
            rotate_left
            · (intro w' hSw; (try dsimp only at hSw); go_simp; first | done | with_reducible rfl)
            (try simp only [Act.put, List.setIfInBounds_toArray, List.set_cons_zero, List.set_cons_succ])
            refine wpU_done (by kernel_rfl) ?_
            have hkpd := hkp.below hWd
            have hQd := hQ.below hWd hQ.lt
            have hownd := own_below hownP hWd
            clear hS hWd hQ hkp hownP hckx zbx
            have hrlx : Rd (Value.int .i64) Wd q AL L := (hkpd.rd hrl1.out (by have := HQ1.out; omega) (by simp; omega)).more (by omega)
            have HRX := Lib.hid hrlx
            clear hrlx d0 d1
            go_wp2_with fail
            refine (CN1.out _ HRX.out hQd).mono ?_
            rintro e wa ⟨rfl, hQa, hka, hsa⟩
            have howna := own_kept3k hownd hka (fun g hg => by have := (hownd.lt g hg).1; simp; omega)
            have hrla : Rd (Value.int .i64) wa q AL L := hka.rd HRX.out (by have := hQd.lt; omega) (by simp)
            have hkpa := hkpd.trans hka
            clear hownd hQd hkpd hka hsa
            go_wp2_with fail
            refine (CN2.out _ hrla hQa).mono ?_
            rintro e wb ⟨rfl, hQb, hkb', hsb⟩
            have hownb := own_kept3k howna hkb' (fun g hg => by have := (howna.lt g hg).1; simp; omega)
            have hkpb := hkpa.trans hkb'
            clear howna hQa hkpa hkb' hsb hrla
            have hzb := hkpb.size
            have hqz := HQ1.out
            have hqs : q + 1 ≤ wb.heap.size := by omega
            clear hqz
            go_wp2_with (at_builtin; refine wpList_append_pt _ rfl _ _ _ rfl (q + 1) HU.out _ P rfl (own_below hownb ((Below.refl _ _).alloc (Nat.le_refl _) (.cells #[.int .i64 (z1 - 24), .int .i64 (z2 - 24), .bool true] 134))) wb.heap.size (z1 - 24) (z2 - 24) true rfl (Blk.new wb _ _) (by omega) (by simp; omega) ?_)
            intro A7 c7 w7 hown7 hgrow
            have hkp7 : Kp [q] W1 w7 := Kp.grown_new (row := _) (hkpb.alloc _) hgrow (fun g hg => by have := (hownb.lt g hg).1; have := HQ1.out; omega)
            have hQ7 : Blk w7 q 111 #[.slice AL L.length cL, .int .i64 k2] := (hQb.alloc _).grown hgrow (fun e => by have := (hownb.lt q e.symm).1; omega)
            go_wp2_with fail
            go_roundw
            case rel => exact ⟨r + 1, k2, P ++ [(z1 - 24, z2 - 24, true)], A7, c7, by omega, by go_num, by simp, by simp; omega, hkb2, by rw [show (P ++ [(z1 - 24, z2 - 24, true)]).length = P.length + 1 by simp]; exact hown7, hQ7, hkp7, by rw [hst.out] at HM; exact HM⟩
            case measure => simp [intOf]; omega
          · have hfin := Lib.hid (show P = m7 L by rw [← HM.out, m7Run_stop hall])
            by_cases hr1 : r < 8
            · have hkL' : ¬ (k : Int) < (L.length : Int) := by omega
              have hr1' : (r : Int) < 8 := by omega
              go_upto_region 8 with fail
              refine wp_region_U (fun w' => (∀ b o, b < wr.heap.size → w'.cell? ⟨b, o, none⟩ = wr.cell? ⟨b, o, none⟩) ∧ Below wr.heap.size wr w') (by kernel_rfl) ?_ (fun Wd hWd hS => ?_)
              · (try dsimp only)
                exact sb_of (Below.refl _ _).drew
              (try dsimp only at hS)
              refine wpU_take 0 (v := ?_) rfl (by kernel_rfl) (fun _ _ _ h => h) hS (Or.inl ⟨rfl, ?_⟩) ?_
              rotate_left
              · (intro w' hSw; (try dsimp only at hSw); go_simp; first | done | with_reducible rfl)
              (try simp only [Act.put, List.setIfInBounds_toArray, List.set_cons_zero, List.set_cons_succ])
              refine wpU_take 1 (v := ?_) rfl (by kernel_rfl) (fun _ _ _ h => h) hS (Or.inl ⟨rfl, ?_⟩) ?_
              rotate_left
              · (intro w' hSw; (try dsimp only at hSw); go_simp; first | done | with_reducible rfl)
              (try simp only [Act.put, List.setIfInBounds_toArray, List.set_cons_zero, List.set_cons_succ])
              refine wpU_take 2 (v := ?_) rfl (by kernel_rfl) (fun _ _ _ h => h) hS (Or.inl ⟨rfl, ?_⟩) ?_
              rotate_left
              · (intro w' hSw; (try dsimp only at hSw); go_simp; first | done | with_reducible rfl)
              (try simp only [Act.put, List.setIfInBounds_toArray, List.set_cons_zero, List.set_cons_succ])
              refine wpU_take 3 (v := ?_) rfl (by kernel_rfl) (fun _ _ _ h => h) hS (Or.inl ⟨rfl, ?_⟩) ?_
              rotate_left
              · (intro w' hSw; (try dsimp only at hSw); go_simp; first | done | with_reducible rfl)
              (try simp only [Act.put, List.setIfInBounds_toArray, List.set_cons_zero, List.set_cons_succ])
              refine wpU_take 4 (v := ?_) rfl (by kernel_rfl) (fun _ _ _ h => h) hS (Or.inl ⟨rfl, ?_⟩) ?_
              rotate_left
              · (intro w' hSw; (try dsimp only at hSw); go_simp; first | done | with_reducible rfl)
              (try simp only [Act.put, List.setIfInBounds_toArray, List.set_cons_zero, List.set_cons_succ])
              refine wpU_take 5 (v := ?_) rfl (by kernel_rfl) (fun _ _ _ h => h) hS (Or.inl ⟨rfl, ?_⟩) ?_
              rotate_left
              · (intro w' hSw; (try dsimp only at hSw); go_simp; first | done | with_reducible rfl)
              (try simp only [Act.put, List.setIfInBounds_toArray, List.set_cons_zero, List.set_cons_succ])
              refine wpU_take 6 (v := ?_) rfl (by kernel_rfl) (fun _ _ _ h => h) hS (Or.inl ⟨rfl, ?_⟩) ?_
              rotate_left
              · (intro w' hSw; (try dsimp only at hSw); go_simp; first | done | with_reducible rfl)
              (try simp only [Act.put, List.setIfInBounds_toArray, List.set_cons_zero, List.set_cons_succ])
              refine wpU_take 7 (v := ?_) rfl (by kernel_rfl) (fun _ _ _ h => h) hS (Or.inl ⟨rfl, ?_⟩) ?_
              rotate_left
              · (intro w' hSw; (try dsimp only at hSw); go_simp; first | done | with_reducible rfl)
              (try simp only [Act.put, List.setIfInBounds_toArray, List.set_cons_zero, List.set_cons_succ])
              refine wpU_take 8 (v := ?_) rfl (by kernel_rfl) (fun _ _ _ h => h) hS (Or.inl ⟨rfl, ?_⟩) ?_
              rotate_left
              · (intro w' hSw; (try dsimp only at hSw); go_simp; first | done | with_reducible rfl)
              (try simp only [Act.put, List.setIfInBounds_toArray, List.set_cons_zero, List.set_cons_succ])
              refine wpU_take 9 (v := ?_) rfl (by kernel_rfl) (fun _ _ _ h => h) hS (Or.inl ⟨rfl, ?_⟩) ?_
              rotate_left
              · (intro w' hSw; (try dsimp only at hSw); go_simp; first | done | with_reducible rfl)
              (try simp only [Act.put, List.setIfInBounds_toArray, List.set_cons_zero, List.set_cons_succ])
              refine wpU_take 10 (v := ?_) rfl (by kernel_rfl) (fun _ _ _ h => h) hS (Or.inl ⟨rfl, ?_⟩) ?_
              rotate_left
              · (intro w' hSw; (try dsimp only at hSw); go_simp; first | done | with_reducible rfl)
              (try simp only [Act.put, List.setIfInBounds_toArray, List.set_cons_zero, List.set_cons_succ])
              refine wpU_take 11 (v := ?_) rfl (by kernel_rfl) (fun _ _ _ h => h) hS (Or.inl ⟨rfl, ?_⟩) ?_
              rotate_left
              · (intro w' hSw; (try dsimp only at hSw); go_simp; first | done | with_reducible rfl)
              (try simp only [Act.put, List.setIfInBounds_toArray, List.set_cons_zero, List.set_cons_succ])
              refine wpU_take 12 (v := ?_) rfl (by kernel_rfl) (fun _ _ _ h => h) hS (Or.inl ⟨rfl, ?_⟩) ?_
              rotate_left
              · (intro w' hSw; (try dsimp only at hSw); go_simp; first | done | with_reducible rfl)
              (try simp only [Act.put, List.setIfInBounds_toArray, List.set_cons_zero, List.set_cons_succ])
              refine wpU_take 13 (v := ?_) rfl (by kernel_rfl) (fun _ _ _ h => h) hS (Or.inl ⟨rfl, ?_⟩) ?_
              rotate_left
              · (intro w' hSw; (try dsimp only at hSw); go_simp; first | done | with_reducible rfl)
              (try simp only [Act.put, List.setIfInBounds_toArray, List.set_cons_zero, List.set_cons_succ])
              refine wpU_done (by kernel_rfl) ?_
              have hkpd := hkp.below hWd
              have hownd := own_below hownP hWd
              clear hS hWd hQ hkp hownP hckx zbx d0 d1
              have hqz := HQ1.out
              have howno := own_kept3k hown1 hkpd (fun g hg => by have := (hgo g hg).2; simp; omega)
              have HRD := Lib.hid (fun r hr => own_kept3k (HRO1.out r hr) hkpd (fun g hg => by simpa using HRQ.out r hr g hg))
              obtain ⟨hmap, hlen⟩ := HRS.out
              subst hlen
              have hwz := hkpd.size
              go_wp2_with (at_builtin; refine wpList_append_row _ rfl _ _ _ rfl B HU2.out _ rs rfl (own_below howno ((Below.refl _ _).alloc (Nat.le_refl _) (.cells #[rowV (A', c', P)] 96))) Wd.heap.size (A', c', P) rfl (Blk.new Wd _ _) (by omega) (by simp; omega) ?_)
              intro A9 c9 w9 hown9 hgrow
              have hbe : Below B w w9 := below_grown ((hb1.trans (hkpd.to_below (B := B) (by omega) (by simp; omega))).alloc (by omega) _) hgrow (by simp; omega) (fun g hg => (hgo g hg).1)
              have HRN : Hid (∀ r ∈ rs ++ [((A', c', P) : Row)], w9.ownsRow B 134 3 (.slice r.1 r.2.2.length r.2.1) r.2.2.length (flat r.2.2)) := Lib.hid (fun r hr => by
                have hal := (Below.refl Wd.heap.size Wd).alloc (Nat.le_refl _) (.cells #[rowV (A', c', P)] 96)
                rcases List.mem_append.1 hr with hr | hr
                · exact own_grown (own_kept3 (HRD.out r hr) hal) (own_kept3 howno hal) (by decide) hgrow
                · have : r = (A', c', P) := by simpa using hr
                  subst this
                  exact own_grown (own_kept3 (own_base' hownd (by omega)) hal) (own_kept3 howno hal) (by decide) hgrow)
              have HMN := Lib.hid (show (rs ++ [((A', c', P) : Row)]).map (fun r => r.2.2) = (ls.take (rs.length + 1)).map m7 by rw [HMI.out, List.map_append, hmap, ← hfin.out]; rfl)
              clear hmap hqz
              go_wp2_with fail
              go_roundw
              case rel => exact ⟨rs.length + 1, rs ++ [((A', c', P) : Row)], A9, c9, by omega, by omega, by go_num, rfl, by rw [List.map_append]; exact hown9, Lib.hid ⟨HMN.out, by simp⟩, HRN, hbe⟩
              case measure => simp [intOf]; omega
            · have hr1' : ¬ (r : Int) < 8 := by omega
              go_upto_region 8 with fail
              refine wp_region_U (fun w' => (∀ b o, b < wr.heap.size → w'.cell? ⟨b, o, none⟩ = wr.cell? ⟨b, o, none⟩) ∧ Below wr.heap.size wr w') (by kernel_rfl) ?_ (fun Wd hWd hS => ?_)
              · (try dsimp only)
                exact sb_of (Below.refl _ _).drew
              (try dsimp only at hS)
              refine wpU_take 0 (v := ?_) rfl (by kernel_rfl) (fun _ _ _ h => h) hS (Or.inl ⟨rfl, ?_⟩) ?_
              rotate_left
              · (intro w' hSw; (try dsimp only at hSw); go_simp; first | done | with_reducible rfl)
              (try simp only [Act.put, List.setIfInBounds_toArray, List.set_cons_zero, List.set_cons_succ])
              refine wpU_take 1 (v := ?_) rfl (by kernel_rfl) (fun _ _ _ h => h) hS (Or.inl ⟨rfl, ?_⟩) ?_
              rotate_left
              · (intro w' hSw; (try dsimp only at hSw); go_simp; first | done | with_reducible rfl)
              (try simp only [Act.put, List.setIfInBounds_toArray, List.set_cons_zero, List.set_cons_succ])
              refine wpU_take 2 (v := ?_) rfl (by kernel_rfl) (fun _ _ _ h => h) hS (Or.inl ⟨rfl, ?_⟩) ?_
              rotate_left
              · (intro w' hSw; (try dsimp only at hSw); go_simp; first | done | with_reducible rfl)
              (try simp only [Act.put, List.setIfInBounds_toArray, List.set_cons_zero, List.set_cons_succ])
              refine wpU_take 3 rfl (by kernel_rfl) (fun _ _ _ h => h) hS (Or.inr ⟨rfl, rfl⟩) ?_
              (try simp only [Act.put, List.setIfInBounds_toArray, List.set_cons_zero, List.set_cons_succ])
              refine wpU_take 4 rfl (by kernel_rfl) (fun _ _ _ h => h) hS (Or.inr ⟨rfl, rfl⟩) ?_
              (try simp only [Act.put, List.setIfInBounds_toArray, List.set_cons_zero, List.set_cons_succ])
              refine wpU_take 5 rfl (by kernel_rfl) (fun _ _ _ h => h) hS (Or.inr ⟨rfl, rfl⟩) ?_
              (try simp only [Act.put, List.setIfInBounds_toArray, List.set_cons_zero, List.set_cons_succ])
              refine wpU_take 6 rfl (by kernel_rfl) (fun _ _ _ h => h) hS (Or.inr ⟨rfl, rfl⟩) ?_
              (try simp only [Act.put, List.setIfInBounds_toArray, List.set_cons_zero, List.set_cons_succ])
              refine wpU_take 7 rfl (by kernel_rfl) (fun _ _ _ h => h) hS (Or.inr ⟨rfl, rfl⟩) ?_
              (try simp only [Act.put, List.setIfInBounds_toArray, List.set_cons_zero, List.set_cons_succ])
              refine wpU_take 8 rfl (by kernel_rfl) (fun _ _ _ h => h) hS (Or.inr ⟨rfl, rfl⟩) ?_
              (try simp only [Act.put, List.setIfInBounds_toArray, List.set_cons_zero, List.set_cons_succ])
              refine wpU_take 9 rfl (by kernel_rfl) (fun _ _ _ h => h) hS (Or.inr ⟨rfl, rfl⟩) ?_
              (try simp only [Act.put, List.setIfInBounds_toArray, List.set_cons_zero, List.set_cons_succ])
              refine wpU_take 10 rfl (by kernel_rfl) (fun _ _ _ h => h) hS (Or.inr ⟨rfl, rfl⟩) ?_
              (try simp only [Act.put, List.setIfInBounds_toArray, List.set_cons_zero, List.set_cons_succ])
              refine wpU_take 11 rfl (by kernel_rfl) (fun _ _ _ h => h) hS (Or.inr ⟨rfl, rfl⟩) ?_
              (try simp only [Act.put, List.setIfInBounds_toArray, List.set_cons_zero, List.set_cons_succ])
              refine wpU_take 12 rfl (by kernel_rfl) (fun _ _ _ h => h) hS (Or.inr ⟨rfl, rfl⟩) ?_
              (try simp only [Act.put, List.setIfInBounds_toArray, List.set_cons_zero, List.set_cons_succ])
              refine wpU_take 13 (v := ?_) rfl (by kernel_rfl) (fun _ _ _ h => h) hS (Or.inl ⟨rfl, ?_⟩) ?_
              rotate_left
              · (intro w' hSw; (try dsimp only at hSw); go_simp; first | done | with_reducible rfl)
              (try simp only [Act.put, List.setIfInBounds_toArray, List.set_cons_zero, List.set_cons_succ])
              refine wpU_done (by kernel_rfl) ?_
              have hkpd := hkp.below hWd
              have hownd := own_below hownP hWd
              clear hS hWd hQ hkp hownP hckx zbx d0 d1
              have hqz := HQ1.out
              have howno := own_kept3k hown1 hkpd (fun g hg => by have := (hgo g hg).2; simp; omega)
              have HRD := Lib.hid (fun r hr => own_kept3k (HRO1.out r hr) hkpd (fun g hg => by simpa using HRQ.out r hr g hg))
              obtain ⟨hmap, hlen⟩ := HRS.out
              subst hlen
              have hwz := hkpd.size
              go_wp2_with (at_builtin; refine wpList_append_row _ rfl _ _ _ rfl B HU2.out _ rs rfl (own_below howno ((Below.refl _ _).alloc (Nat.le_refl _) (.cells #[rowV (A', c', P)] 96))) Wd.heap.size (A', c', P) rfl (Blk.new Wd _ _) (by omega) (by simp; omega) ?_)
              intro A9 c9 w9 hown9 hgrow
              have hbe : Below B w w9 := below_grown ((hb1.trans (hkpd.to_below (B := B) (by omega) (by simp; omega))).alloc (by omega) _) hgrow (by simp; omega) (fun g hg => (hgo g hg).1)
              have HRN : Hid (∀ r ∈ rs ++ [((A', c', P) : Row)], w9.ownsRow B 134 3 (.slice r.1 r.2.2.length r.2.1) r.2.2.length (flat r.2.2)) := Lib.hid (fun r hr => by
                have hal := (Below.refl Wd.heap.size Wd).alloc (Nat.le_refl _) (.cells #[rowV (A', c', P)] 96)
                rcases List.mem_append.1 hr with hr | hr
                · exact own_grown (own_kept3 (HRD.out r hr) hal) (own_kept3 howno hal) (by decide) hgrow
                · have : r = (A', c', P) := by simpa using hr
                  subst this
                  exact own_grown (own_kept3 (own_base' hownd (by omega)) hal) (own_kept3 howno hal) (by decide) hgrow)
              have HMN := Lib.hid (show (rs ++ [((A', c', P) : Row)]).map (fun r => r.2.2) = (ls.take (rs.length + 1)).map m7 by rw [HMI.out, List.map_append, hmap, ← hfin.out]; rfl)
              clear hmap hqz
              go_wp2_with fail
              go_roundw
              case rel => exact ⟨rs.length + 1, rs ++ [((A', c', P) : Row)], A9, c9, by omega, by omega, by go_num, rfl, by rw [List.map_append]; exact hown9, Lib.hid ⟨HMN.out, by simp⟩, HRN, hbe⟩
              case measure => simp [intOf]; omega
      · have h4' : ¬ (i : Int) < 4 := by omega
        have hlt' : (i : Int) < (ls.length : Int) := by omega
        have HE := Lib.hid (show ls.take i = ls.take 4 by rw [show i = 4 by omega])
        obtain ⟨hmap, hlen⟩ := HRS.out
        rw [HE.out] at hmap
        have hm : rs.map (fun r => r.2.2) = m7s ls := hmap
        have hl : (m7s ls).length = i := by rw [← hm]; simp [hlen]
        have hrd := own_rwps hown (fun r hr => HRO.out r hr)
        have hcap := own_cap' hown
        rw [hm] at hrd
        have HRDS := Lib.hid hrd
        have HL := Lib.hid hl
        have HCAP := Lib.hid (show (m7s ls).length ≤ co ∧ co ≤ 9223372036854775807 by rw [hl]; exact ⟨hcap.1, hcap.2.1⟩)
        clear hm hl hrd hmap hlen hcap
        go_wp2
        go_ret
        refine ⟨Ao, co, by rw [HL.out]; rfl, HRDS.out, HCAP.out, ?_⟩
        rw [HP.out]
        exact hbr
    · have hlt' : ¬ (i : Int) < (ls.length : Int) := by omega
      have HE := Lib.hid (show ls.take i = ls.take 4 by rw [List.take_of_length_le (by omega), List.take_of_length_le (by omega)])
      obtain ⟨hmap, hlen⟩ := HRS.out
      rw [HE.out] at hmap
      have hm : rs.map (fun r => r.2.2) = m7s ls := hmap
      have hl : (m7s ls).length = i := by rw [← hm]; simp [hlen]
      have hrd := own_rwps hown (fun r hr => HRO.out r hr)
      have hcap := own_cap' hown
      rw [hm] at hrd
      have HRDS := Lib.hid hrd
      have HL := Lib.hid hl
      have HCAP := Lib.hid (show (m7s ls).length ≤ co ∧ co ≤ 9223372036854775807 by rw [hl]; exact ⟨hcap.1, hcap.2.1⟩)
      clear hm hl hrd hmap hlen hcap
      go_wp2
      go_ret
      refine ⟨Ao, co, by rw [HL.out]; rfl, HRDS.out, HCAP.out, ?_⟩
      rw [HP.out]
      exact hbr
theorem Made7_any (ls : List (List Int)) (A : Option Addr) (c : Nat) (w : World) (hn : ∀ l ∈ ls, l.length ≤ 9223372036854775807) (hls : ls.length ≤ 9223372036854775807) (hr : RdIs w w.heap.size A ls) :
    Calls Try.prog 52 #[.slice A ls.length c] w fun e w' =>
      ∃ (A' : Option Addr) (c' : Nat), e = .returned (.slice A' (m7s ls).length c') ∧ RdPs w' w'.heap.size A' (m7s ls) ∧ Below w.heap.size w w' :=
  (Made7_more ls A c w hn hls hr).mono fun _ _ ⟨A', c', h1, h2, _, h3⟩ => ⟨A', c', h1, h2.rd, h3⟩
end Go.Proofs.Ytlanefdeeanpnaa
