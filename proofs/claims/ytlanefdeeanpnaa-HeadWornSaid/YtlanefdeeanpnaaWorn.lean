/-
  The law HeadWorn: for every argument the call returns true. Conditions: the lists' lengths fit an int, and they are read below the heap's size. (Printed by genworn.py.)
-/
import Derived.Test.YtlanefdeeanpnaaHMade
import Derived.Test.YtlanefdeeanpnaaSane37
import Derived.Test.YtlanefdeeanpnaaMath37d
import Derived.Test.YtlanefdeeanpnaaCrop2
import Derived.Deep.DrawnRows
namespace Go.Proofs.Ytlanefdeeanpnaa
set_option linter.unusedVariables false
set_option linter.unusedSimpArgs false
open Go.RowKit
attribute [local go_sem ↓] Go.wp_at_zero Go.wp_at_succ

set_option maxHeartbeats 4000000 in
set_option maxRecDepth 100000 in
theorem worn_law (L1 L2 : List Int) (A1 A2 : Option Addr) (c1 c2 : Nat) (k0 : Int) (w : World) (hn1 : L1.length ≤ 9223372036854775807) (hn2 : L2.length ≤ 9223372036854775807) (hk1 : -9223372036854775808 ≤ k0) (hk2 : k0 ≤ 9223372036854775807)
    (hr1 : Rd (Value.int .i64) w w.heap.size A1 L1) (hr2 : Rd (Value.int .i64) w w.heap.size A2 L2) :
    Calls Try.prog 13 #[.agg #[.slice A1 L1.length c1, .slice A2 L2.length c2], .int .i64 k0] w fun e w' => e = .returned (.bool true) ∧ Below w.heap.size w w' := by
  have HR1 := Lib.hid hr1
  have HR2 := Lib.hid hr2
  clear hr1 hr2
  go_enter Try.func13, Try.ntmps13
  go_wp2_with fail
  refine calls_world (fun W0 hW0 => ?_)
  obtain ⟨T0, hs0, _⟩ := (Tr.start w).new1 hW0
  clear hW0
  generalize hp : w.heap.size = p at *
  have HP := Lib.hid hp
  clear hp
  refine (sanity37 _).mono ?_
  rintro e w1 ⟨rfl, hb1⟩
  have T1 := T0.call hb1
  clear T0 hb1 hs0
  obtain ⟨⟨b0, b1⟩, _⟩ := T1.stand.1.two
  go_wp2_with fail
  refine (HMade_any L1 A1 c1 _ hn1 (T1.rd HR1.out)).mono ?_
  rintro e w2 ⟨g1, rfl, hg1, hl1, hO1, hb2⟩
  have T2 := (T1.call hb2).push hO1.blk
  clear T1 hb2 hO1 b0 b1
  go_upto_region 3 with fail
  refine wp_world (fun W3 hW3 => ?_)
  obtain ⟨T3, hs3, _⟩ := T2.new1 hW3
  clear hW3 T2 hs3
  generalize hq : w2.heap.size = q at *
  clear hq
  have z3 := T3.stand.1.lt
  obtain ⟨⟨b0, b1⟩, _⟩ := T3.stand.2.2.1.two
  have z0 := T3.stand.2.2.1.lt
  go_wp2_with fail
  refine (Made_any L2 A2 c2 _ hn2 (T3.rd HR2.out)).mono ?_
  rintro e w4 ⟨g2, rfl, hg2, hl2, hO2, hb4⟩
  have T4 := (T3.call hb4).push hO2.blk
  clear T3 hb4 hO2 b0 b1 z0 z3
  go_upto_region 4 with fail
  refine wp_world (fun W5 hW5 => ?_)
  obtain ⟨T5, hs5, _⟩ := T4.new1 hW5
  clear hW5 T4 hs5
  generalize hq4 : w4.heap.size = q4 at *
  clear hq4
  have hm := mkW_le L2
  have hn := mkH_le L2
  have hL := hmN_le L1
  have hD := mkD_len L2
  have hDl := hmD_len L1
  have HMD := Lib.hid (fun w h => Made_any L2 A2 c2 w hn2 h)
  generalize mkD L2 = D at *
  generalize mkW L2 = m at *
  generalize mkH L2 = n at *
  generalize hmD L1 = Dead at *
  generalize hmN L1 = L at *
  have hmn : m * n ≤ 192 := Nat.mul_le_mul hm hn
  have hrD : Rd Value.bool W5 W5.heap.size (some ⟨g2, 0, none⟩) D := (T5.stand.2.1.own (f := Value.bool)).rd T5.stand.2.1.lt
  have hrH : Rd Value.bool W5 W5.heap.size (some ⟨g1, 0, none⟩) Dead := (T5.stand.2.2.2.1.own (f := Value.bool)).rd T5.stand.2.2.2.1.lt
  obtain ⟨⟨b0, b1, b2⟩, _⟩ := T5.stand.1.three
  have d0 : W5.cell? ⟨q, 0, none⟩ = some (.slice (some ⟨g1, 0, none⟩) L L) := T5.stand.2.2.1.cell 0
  have zb := T5.stand.1.lt
  have zq := T5.stand.2.2.1.lt
  subst hDl
  obtain ⟨i0, hi0, hy0, hy1, hy2⟩ := info_parts info_bool
  have hlow := T5.low
  have hsz5 := T5.size
  have zg1 := T5.stand.2.2.2.1.lt
  clear T5 HMD HR1 HR2 hg1 hg2 hl1 hl2
  have hbl5 : ∀ k, (Value.slice (some ⟨W5.heap.size, 0, none⟩) 0 0).ownBlock = some k → W5.heap.size ≤ k := fun k hk => by
    have : W5.heap.size = k := by simpa [Value.ownBlock] using hk
    omega
  go_wp2_with (at_builtin; refine wpList_append_rd _ rfl _ _ _ rfl W5.heap.size 4 i0 _ 1 Try.underlying27 hi0 hy0 hy1 hy2 rfl _ 0 [] rfl (own_empty (Blk.new W5 4 #[]) (Nat.le_refl _)) (some ⟨g1, 0, none⟩) Dead.length W5.heap.size Dead rfl (hrH.alloc (Nat.le_refl _) _) (fun _ => rfl) (by unfold maxLen; omega) (by omega) (by simp) ?_; intro Aw cw w6 hown hgrow hat; rw [Nat.zero_add] at hown ⊢)
  have hown2 : w6.ownsRow W5.heap.size 4 1 (.slice Aw Dead.length cw) Dead.length (Dead.map Value.bool) := by simpa using hown
  have hbe : Below W5.heap.size W5 w6 := below_grown ((Below.refl _ _).alloc (Nat.le_refl _) _) hgrow (by simp) (hbl5)
  clear hown hgrow hat
  obtain ⟨gw, cap, hv, hgwb, hgwl⟩ := hown2.form (by omega)
  injection hv with hv1 _ hv3
  subst hv1 hv3
  have hcr := (sb_of hbe).1
  go_upto_region 5 with fail
  refine wp_world (fun W7 hW7 => ?_)
  obtain ⟨hQ8, hbn, hsn⟩ := new1 hW7
  clear hW7
  have hown := own_below hown2 hbn
  replace hbe := hbe.trans (hbn.mono hbe.size)
  clear hown2 hbn hsn hcr
  have hqw : gw ≠ w6.heap.size := by omega
  generalize hqq : w6.heap.size = q8 at *
  clear hqq hgwl
  have hcw : W7.cell? ⟨q8, 0, none⟩ = some (.slice (some ⟨gw, 0, none⟩) Dead.length cw) := hQ8.cell 0
  have CM := Lib.hid (fun w => Mod_any k0 (Dead.length : Int) w (by omega) (by omega))
  obtain ⟨k, hk⟩ := Int.eq_ofNat_of_zero_le (Int.emod_nonneg k0 (show (Dead.length : Int) ≠ 0 by omega))
  have hkl : k0 % (Dead.length : Int) < (Dead.length : Int) := Int.emod_lt_of_pos _ (by omega)
  rw [hk] at CM hkl
  clear hk
  have hkl' : k < Dead.length := by omega
  have y8 := hQ8.lt
  have ygw : gw < W7.heap.size := (hown.lt gw rfl).2
  refine wp_region_L 8 (fun w' => (∀ b o, b < W7.heap.size → w'.cell? ⟨b, o, none⟩ = W7.cell? ⟨b, o, none⟩) ∧ Below W7.heap.size W7 w') (by kernel_rfl) ?_ (fun Wd hWd hS => ?_)
  · (try dsimp only)
    exact sb_of (Below.refl _ _).drew
  (try dsimp only at hS)
  refine wpT_take 0 (v := ?_) rfl (by kernel_rfl) (by kernel_rfl) (fun _ _ _ h => h) hS (Or.inl ⟨rfl, ?_⟩) ?_
  rotate_left
  · (intro w' hSw; (try dsimp only at hSw); go_simp; first | done | with_reducible rfl)
  (try simp only [Act.put, List.setIfInBounds_toArray, List.set_cons_zero, List.set_cons_succ])
  refine wpT_take 1 (v := ?_) rfl (by kernel_rfl) (by kernel_rfl) (fun _ _ _ h => h) hS (Or.inl ⟨rfl, ?_⟩) ?_
  rotate_left
  · (intro w' hSw; (try dsimp only at hSw); go_simp; first | done | with_reducible rfl)
  (try simp only [Act.put, List.setIfInBounds_toArray, List.set_cons_zero, List.set_cons_succ])
  refine wpT_take 2 (v := ?_) rfl (by kernel_rfl) (by kernel_rfl) (fun _ _ _ h => h) hS (Or.inl ⟨rfl, ?_⟩) ?_
  rotate_left
  · (intro w' hSw; (try dsimp only at hSw); go_simp; first | done | with_reducible rfl)
  (try simp only [Act.put, List.setIfInBounds_toArray, List.set_cons_zero, List.set_cons_succ])
  refine wpT_take 3 (v := ?_) rfl (by kernel_rfl) (by kernel_rfl) (fun _ _ _ h => h) hS (Or.inl ⟨rfl, ?_⟩) ?_
  rotate_left
  · (intro w' hSw; (try dsimp only at hSw); go_simp; first | done | with_reducible rfl)
  (try simp only [Act.put, List.setIfInBounds_toArray, List.set_cons_zero, List.set_cons_succ])
  refine wpT_take 4 (v := ?_) rfl (by kernel_rfl) (by kernel_rfl) (fun _ _ _ h => h) hS (Or.inl ⟨rfl, ?_⟩) ?_
  rotate_left
  · (intro w' hSw; (try dsimp only at hSw); go_simp; first | done | with_reducible rfl)
  (try simp only [Act.put, List.setIfInBounds_toArray, List.set_cons_zero, List.set_cons_succ])
  refine wpT_take 5 (v := ?_) rfl (by kernel_rfl) (by kernel_rfl) (fun _ _ _ h => h) hS (Or.inl ⟨rfl, ?_⟩) ?_
  rotate_left
  · (intro w' hSw; (try dsimp only at hSw); go_simp; first | done | with_reducible rfl)
  (try simp only [Act.put, List.setIfInBounds_toArray, List.set_cons_zero, List.set_cons_succ])
  refine wpT_one 6 rfl (by kernel_rfl) (fun K hK => ?_)
  go_simp
  go_at_call 44
  refine (CM.out _).mono ?_
  rintro e wa ⟨rfl, rfl⟩
  have hbS := hS.2
  refine hK.out _ _ ?_ (fun hS => ?_)
  · (try dsimp only)
    exact sb_of hbS
  clear hK K
  (try simp only [Act.put, List.setIfInBounds_toArray, List.set_cons_zero, List.set_cons_succ])
  (try dsimp only at hS)
  refine wpT_take 7 (v := ?_) rfl (by kernel_rfl) (by kernel_rfl) (fun _ _ _ h => h) hS (Or.inl ⟨rfl, ?_⟩) ?_
  rotate_left
  · (intro w' hSw; (try dsimp only at hSw); go_simp; first | done | with_reducible rfl)
  (try simp only [Act.put, List.setIfInBounds_toArray, List.set_cons_zero, List.set_cons_succ])
  refine wpT_tail (by rfl) (by kernel_rfl) ?_
  (try simp only [List.drop_succ_cons, List.drop_zero])
  have hownd := own_below hown hS.2
  have hck := own_cell (k := k) hown hkl'
  have hfk := own_frozen (k := k) hownd
  generalize Dead[k] = old at hck
  go_upto_region 6 with fail
  refine wp_world (fun W8 hW8 => ?_)
  have hkp := (Kp.refl [gw] Wd).set (g := gw) (.inl (by simp)) k (.bool true)
  have hup := own_upd hownd hkl' true
  rw [← hW8] at hkp hup
  clear hW8
  have hbd := hS.2
  have hbe8 : Below W5.heap.size W5 W8 := (hbe.trans (hbd.mono hbe.size)).trans (hkp.to_below (by have := hbe.size; have := hbd.size; omega) (by simpa using hgwb))
  replace hQ8 := hkp.blk (hQ8.below hbd hQ8.lt) (by simpa using fun e => hqw e.symm)
  have hrW : Rd Value.bool W8 W8.heap.size (some ⟨gw, 0, none⟩) (Dead.set k true) := own_rd hup
  clear hkp hup hbd hbe hS hownd hown hck hfk hWd hcw y8 ygw CM hqw
  have hwl : (Dead.set k true).length = Dead.length := by simp
  have C1 := Lib.hid (fun w h1 h2 => head_Offset_any m n (m * n) Dead.length (some ⟨g2, 0, none⟩) (some ⟨g1, 0, none⟩) D Dead w (by omega) h1 h2)
  have C2 := Lib.hid (fun w h1 h2 => head_Offset_any m n (m * n) cw (some ⟨g2, 0, none⟩) (some ⟨gw, 0, none⟩) D (Dead.set k true) w (by omega) h1 h2)
  have C3 := Lib.hid (fun g w h1 h2 => head_Offset_any m ((n + 1 : Nat) : Int) (m * (n + 1)) Dead.length (some ⟨g, 0, none⟩) (some ⟨g1, 0, none⟩) (cropL m n D 0 0 m (n + 1)) Dead w (by rw [cropL_len]; have := Nat.mul_le_mul (show m ≤ 16 by omega) (show n + 1 ≤ 13 by omega); omega) h1 h2)
  have C4 := Lib.hid (fun g w h1 h2 => head_Offset_any m n (m * n) Dead.length (some ⟨g, 0, none⟩) (some ⟨g1, 0, none⟩) (List.replicate (m * n) false) Dead w (by simp; omega) h1 h2)
  rw [off_val (by omega) (by omega) hD (by omega) (by omega), hD] at C1
  rw [off_val (by omega) (by omega) hD (by omega) (by omega), hD, hwl] at C2
  rw [off_val (by omega) (by omega) (cropL_len _ _ _ _ _ _ _) (by omega) (by omega), cropL_len] at C3
  rw [off_val (by omega) (by omega) (by simp) (by omega) (by omega), List.length_replicate] at C4
  have F12 := Lib.hid (worn_off (m := m) (n := n) (k := k) (D := D) (Dead := Dead))
  have F3 := Lib.hid (more_off (m := m) (n := n) (D := D) (Dead := Dead) (by omega) (by omega) hD)
  have F4 := blank_off (m := m) (n := n) (Dead := Dead)
  have F1 := Lib.hid (off_told (rfl : headOff m n D Dead = _))
  obtain ⟨F4a, F4b⟩ := F4
  have hoi : ∀ o : Option Nat, offI o = ((o.getD 0 : Nat) : Int) := fun _ => rfl
  rw [hoi] at C1 C2 C3 C4
  rw [F4a, F4b] at C4
  clear F4a F4b hoi
  generalize (headOff m n D Dead).getD 0 = x1 at *
  generalize (headOff m n D Dead).isSome = b1 at *
  generalize (headOff m n D (Dead.set k true)).getD 0 = x2 at *
  generalize (headOff m n D (Dead.set k true)).isSome = b2 at *
  generalize (headOff m (n + 1) (cropL m n D 0 0 m (n + 1)) Dead).getD 0 = x3 at *
  generalize (headOff m (n + 1) (cropL m n D 0 0 m (n + 1)) Dead).isSome = b3 at *
  rw [Int.natCast_add] at C3
  have hF1 : b1 = true → x1 + n ≤ Dead.length := fun h => by
    rcases F1.out with ⟨_, h1, _⟩ | ⟨h1, _⟩
    · exact h1
    · rw [h] at h1; cases h1
  have HF1 := Lib.hid hF1
  clear hF1 F1
  have hcr := (sb_of hbe8).1
  have ze := hbe8.size
  have hcw : W8.cell? ⟨q8, 0, none⟩ = some (.slice (some ⟨gw, 0, none⟩) Dead.length cw) := hQ8.cell 0
  have y8 := hQ8.lt
  replace hrD := (hrD.below hbe8 (Nat.le_refl _)).more hbe8.size
  replace hrH := (hrH.below hbe8 (Nat.le_refl _)).more hbe8.size
  go_wp2_with fail
  refine (C1.out _ hrD hrH).mono ?_
  rintro e w9 ⟨rfl, hba⟩
  replace hrD := (hrD.below hba (Nat.le_refl _)).more hba.size
  replace hrH := (hrH.below hba (Nat.le_refl _)).more hba.size
  replace hrW := (hrW.below hba (Nat.le_refl _)).more hba.size
  replace hQ8 := hQ8.below hba hQ8.lt
  have hbe9 := hbe8.trans (hba.mono hbe8.size)
  clear hcr hcw y8 ze hba hbe8
  have hcr := (sb_of hbe9).1
  have ze := hbe9.size
  have hcw : w9.cell? ⟨q8, 0, none⟩ = some (.slice (some ⟨gw, 0, none⟩) Dead.length cw) := hQ8.cell 0
  have y8 := hQ8.lt
  go_wp2_with fail
  refine (C2.out _ hrD hrW).mono ?_
  rintro e w10 ⟨rfl, hba⟩
  replace hrD := (hrD.below hba (Nat.le_refl _)).more hba.size
  replace hrH := (hrH.below hba (Nat.le_refl _)).more hba.size
  replace hrW := (hrW.below hba (Nat.le_refl _)).more hba.size
  replace hQ8 := hQ8.below hba hQ8.lt
  have hbe10 := hbe9.trans (hba.mono hbe9.size)
  clear hcr hcw y8 ze hba hbe9 C1 C2
  go_upto_region 8 with fail
  go_cut [66] (fun s66 wx => s66 = .bool false ∧ wx = w10)
  case first =>
    have f12 := F12.out
    clear C3 C4 F12 F3 HF1
    cases b2 with
    | false =>
      go_wp2
      go_meet
      exact ⟨rfl, rfl⟩
    | true =>
      obtain ⟨rfl, hx12⟩ := f12 rfl
      have hx12' : ¬ (x2 : Int) < (x1 : Int) := by omega
      go_wp2
      go_meet
      exact ⟨rfl, rfl⟩
  case rest =>
    obtain ⟨rfl, rfl⟩ := hcut
    have hcr := (sb_of hbe10).1
    have ze := hbe10.size
    have hcw : wc.cell? ⟨q8, 0, none⟩ = some (.slice (some ⟨gw, 0, none⟩) Dead.length cw) := hQ8.cell 0
    have y8 := hQ8.lt
    go_upto_if 67 with fail
    go_cut [13, 14, 15, 16] (fun _ _ _ _ wx => Below wc.heap.size wc wx)
    case first =>
      clear C3 C4 F12 F3
      cases b1 with
      | false =>
        go_wp2
        go_meet
        exact Below.refl _ _
      | true =>
        have hx1 := HF1.out rfl
        have P1 := head_Print_any m n x1 (m * n) Dead.length (some ⟨g2, 0, none⟩) (some ⟨g1, 0, none⟩) D Dead
        have P2 := head_Print_any m n x1 (m * n) cw (some ⟨g2, 0, none⟩) (some ⟨gw, 0, none⟩) D (Dead.set k true)
        unfold PrOut at P1 P2
        obtain ⟨p1, p2, p3, p4⟩ := pr_in (x := x1) (m := m) (n := n) (D := D) (Dead := Dead) (by omega) (by omega) hD (by omega) (by omega) (by omega)
        obtain ⟨r1, r2, r3, r4⟩ := pr_in (x := x1) (m := m) (n := n) (D := D) (Dead := Dead.set k true) (by omega) (by omega) hD (by omega) (by omega) (by omega)
        rw [p1, p2, p3, p4, printL_len, hD] at P1
        rw [r1, r2, r3, r4, printL_len, hD, hwl] at P2
        clear p1 p2 p3 p4 r1 r2 r3 r4
        have l1 := (printL_len m x1 D Dead).trans hD
        have l2 := (printL_len m x1 D (Dead.set k true)).trans hD
        have hon := onlyN_zero (m := m) (n := n) (D := printL m x1 D (Dead.set k true)) (E := printL m x1 D Dead) (by omega) (by omega) l1 (fun j hj h => worn_sub (by rw [hD]; exact hj) h)
        have CO := Lib.hid (fun A A' c c' w h h' => only_any m n c c' A A' (printL m x1 D (Dead.set k true)) (printL m x1 D Dead) w (by omega) (by omega) l2 l1 h h')
        rw [hon] at CO
        have HP1 := Lib.hid P1
        have HP2 := Lib.hid P2
        clear P1 P2 hon l1 l2
        generalize printL m x1 D Dead = E1 at *
        generalize printL m x1 D (Dead.set k true) = E2 at *
        go_wp2_with fail
        refine (HP1.out _ (by omega) hrD hrH).mono ?_
        rintro e wa ⟨A11, c11, rfl, hr11, hba⟩
        replace hrD := (hrD.below hba (Nat.le_refl _)).more hba.size
        replace hrH := (hrH.below hba (Nat.le_refl _)).more hba.size
        replace hrW := (hrW.below hba (Nat.le_refl _)).more hba.size
        replace hQ8 := hQ8.below hba hQ8.lt
        have hbc := hba
        replace hbe10 := hbe10.trans (hba.mono hbe10.size)
        clear hcr hcw y8 ze hba
        go_upto_region 12 with fail
        refine wp_world (fun Wn hWn => ?_)
        obtain ⟨hQ13, hbn, hsn⟩ := new1 hWn
        clear hWn
        replace hrD := (hrD.below hbn (Nat.le_refl _)).more hbn.size
        replace hrH := (hrH.below hbn (Nat.le_refl _)).more hbn.size
        replace hrW := (hrW.below hbn (Nat.le_refl _)).more hbn.size
        replace hr11 := (hr11.below hbn (Nat.le_refl _)).more hbn.size
        replace hQ8 := hQ8.below hbn hQ8.lt
        replace hbc := hbc.trans (hbn.mono hbc.size)
        replace hbe10 := hbe10.trans (hbn.mono hbe10.size)
        clear hbn hsn
        generalize hqq : wa.heap.size = q13 at *
        clear hqq
        have hcr := (sb_of hbe10).1
        have ze := hbe10.size
        have hcw : Wn.cell? ⟨q8, 0, none⟩ = some (.slice (some ⟨gw, 0, none⟩) Dead.length cw) := hQ8.cell 0
        have y8 := hQ8.lt
        go_wp2_with fail
        refine (HP2.out _ (by omega) hrD hrW).mono ?_
        rintro e wb ⟨A12, c12, rfl, hr12, hba⟩
        replace hr11 := (hr11.below hba (Nat.le_refl _)).more hba.size
        replace hQ13 := hQ13.below hba hQ13.lt
        replace hbc := hbc.trans (hba.mono hbc.size)
        replace hbe10 := hbe10.trans (hba.mono hbe10.size)
        clear hcr hcw y8 ze hba
        go_upto_region 13 with fail
        refine wp_world (fun Wm hWm => ?_)
        obtain ⟨hQ15, hbn, hsn⟩ := new1 hWm
        clear hWm
        replace hr11 := (hr11.below hbn (Nat.le_refl _)).more hbn.size
        replace hr12 := (hr12.below hbn (Nat.le_refl _)).more hbn.size
        replace hQ13 := hQ13.below hbn hQ13.lt
        replace hbc := hbc.trans (hbn.mono hbc.size)
        clear hbn hsn hbe10
        generalize hqq : wb.heap.size = q15 at *
        clear hqq
        obtain ⟨⟨s0, s1, s2⟩, _⟩ := hQ13.three
        obtain ⟨⟨u0, u1, u2⟩, _⟩ := hQ15.three
        go_wp2_with fail
        refine (CO.out _ _ _ _ _ hr12 hr11).mono ?_
        rintro e wd ⟨rfl, hbd⟩
        go_wp2
        go_meet
        exact hbc.trans (hbd.mono hbc.size)
    case rest =>
      refine k_world (fun W11 hW11 => ?_)
      have hbf := hcut
      rw [← hW11] at hbf
      clear hW11 hcut hcr hcw y8 ze
      replace hrD := (hrD.below hbf (Nat.le_refl _)).more hbf.size
      replace hrH := (hrH.below hbf (Nat.le_refl _)).more hbf.size
      replace hbe10 := hbe10.trans (hbf.mono hbe10.size)
      clear hbf hrW hQ8
      have hcr := (sb_of hbe10).1
      have ze := hbe10.size
      have CC := Lib.hid (fun w hr => bitmap_Crop m n (some ⟨g2, 0, none⟩) (m * n) D 0 0 m (n + 1) w (by omega) (bm_val (by omega) (by omega) hD) (by omega) (by omega) hr (by omega) (by omega))
      rw [hD, Int.natCast_add] at CC
      have hcl := Lib.hid (cropL_len m n D 0 0 m (n + 1))
      generalize cropL m n D 0 0 m (n + 1) = mo at *
      have CN := Lib.hid (fun w => bitmap_New_nat m n w (by omega) (by omega))
      go_wp2_with fail
      refine (CC.out _ hrD).mono ?_
      rintro e wa ⟨g17, rfl, _, hgl17, hO17, hba⟩
      have hr17 := hO17.rd hgl17
      clear hO17 hgl17
      replace hrH := (hrH.below hba (Nat.le_refl _)).more hba.size
      replace hbe10 := hbe10.trans (hba.mono hbe10.size)
      clear hcr ze hba
      go_upto_region 16 with fail
      refine wp_world (fun Wn hWn => ?_)
      obtain ⟨hQ17, hbn, hsn⟩ := new1 hWn
      clear hWn
      replace hrH := (hrH.below hbn (Nat.le_refl _)).more hbn.size
      replace hr17 := (hr17.below hbn (Nat.le_refl _)).more hbn.size
      replace hbe10 := hbe10.trans (hbn.mono hbe10.size)
      clear hbn hsn
      generalize hqq : wa.heap.size = q17 at *
      clear hqq
      have hcr := (sb_of hbe10).1
      have ze := hbe10.size
      obtain ⟨⟨s0, s1, s2⟩, _⟩ := hQ17.three
      have y17 := hQ17.lt
      generalize m * (n + 1) = mn1 at *
      go_wp2_with fail
      refine (C3.out _ _ hr17 hrH).mono ?_
      rintro e w12 ⟨rfl, hba⟩
      replace hrH := (hrH.below hba (Nat.le_refl _)).more hba.size
      replace hbe10 := hbe10.trans (hba.mono hbe10.size)
      clear hcr ze hba s0 s1 s2 y17 hQ17
      have hcr := (sb_of hbe10).1
      have ze := hbe10.size
      go_wp2_with fail
      refine (CN.out _).mono ?_
      rintro e wb ⟨g21, rfl, _, hgl21, hO21, hba⟩
      have hr21 := hO21.rd hgl21
      clear hO21 hgl21
      replace hrH := (hrH.below hba (Nat.le_refl _)).more hba.size
      replace hbe10 := hbe10.trans (hba.mono hbe10.size)
      clear hcr ze hba
      go_upto_region 18 with fail
      refine wp_world (fun Wm hWm => ?_)
      obtain ⟨hQ21, hbn, hsn⟩ := new1 hWm
      clear hWm
      replace hrH := (hrH.below hbn (Nat.le_refl _)).more hbn.size
      replace hr21 := (hr21.below hbn (Nat.le_refl _)).more hbn.size
      replace hbe10 := hbe10.trans (hbn.mono hbe10.size)
      clear hbn hsn
      generalize hqq : wb.heap.size = q21 at *
      clear hqq
      have hcr := (sb_of hbe10).1
      have ze := hbe10.size
      obtain ⟨⟨s0, s1, s2⟩, _⟩ := hQ21.three
      have y21 := hQ21.lt
      go_wp2_with fail
      refine (C4.out _ _ hr21 hrH).mono ?_
      rintro e w13 ⟨rfl, hba⟩
      replace hbe10 := hbe10.trans (hba.mono hbe10.size)
      clear hcr ze hba s0 s1 s2 y21 hQ21 hrH hr21 hr17 hrD C3 C4 CC CN
      have hcr := (sb_of hbe10).1
      have ze := hbe10.size
      have f3 := F3.out
      clear F3 F12 HF1
      by_cases hnl : n ≤ Dead.length
      · rw [decide_eq_true hnl]
        have hnl' : (n : Int) ≤ (Dead.length : Int) := by omega
        cases b3 with
        | false =>
          clear f3
          go_wp2
          go_ret
          exact ⟨rfl, by rw [HP.out]; exact hlow.trans (hbe10.mono hsz5)⟩
        | true =>
          obtain ⟨rfl, rfl⟩ := f3 rfl
          clear f3
          go_wp2
          go_ret
          exact ⟨rfl, by rw [HP.out]; exact hlow.trans (hbe10.mono hsz5)⟩
      · rw [decide_eq_false hnl]
        have hnl' : ¬ (n : Int) ≤ (Dead.length : Int) := by omega
        cases b3 with
        | false =>
          clear f3
          go_wp2
          go_ret
          exact ⟨rfl, by rw [HP.out]; exact hlow.trans (hbe10.mono hsz5)⟩
        | true =>
          obtain ⟨rfl, rfl⟩ := f3 rfl
          clear f3
          go_wp2
          go_ret
          exact ⟨rfl, by rw [HP.out]; exact hlow.trans (hbe10.mono hsz5)⟩
end Go.Proofs.Ytlanefdeeanpnaa
