/-
  The law HeadPrints: for every argument the call returns true. Conditions: what the row's opening gives: lengths fit, lists are read below the heap's size. (Printed by genprints.py.)
-/
import Derived.Test.YtlanefdeeanpnaaHMade
import Derived.Test.YtlanefdeeanpnaaSane37
import Derived.Test.YtlanefdeeanpnaaMath37b
import Derived.Test.YtlanefdeeanpnaaOdd
import Derived.Test.YtlanefdeeanpnaaRegionU
import Derived.Deep.DrawnRows
namespace Go.Proofs.Ytlanefdeeanpnaa
set_option linter.unusedVariables false
set_option linter.unusedSimpArgs false
open Go.RowKit
attribute [local go_sem ↓] Go.wp_at_zero Go.wp_at_succ

set_option maxHeartbeats 8000000 in
set_option maxRecDepth 100000 in
theorem prints_law (L1 L2 : List Int) (A1 A2 : Option Addr) (c1 c2 : Nat) (AH : Option Addr) (DH : List Bool) (ch : Nat) (W H : Int) (A : Option Addr) (D0 : List Bool) (c : Nat) (qa qb : Int) (w : World) (hn1 : L1.length ≤ 9223372036854775807) (hn2 : L2.length ≤ 9223372036854775807)
    (hlh : DH.length ≤ ch) (hch : ch ≤ 9223372036854775807) (hAH : AH = none → DH.length = 0 ∧ ch = 0) (hl0 : D0.length ≤ c) (hc0 : c ≤ 9223372036854775807) (hA0 : A = none → D0.length = 0 ∧ c = 0)
    (hqa : -9223372036854775808 ≤ qa ∧ qa ≤ 9223372036854775807) (hqb : -9223372036854775808 ≤ qb ∧ qb ≤ 9223372036854775807)
    (hr1 : Rd (Value.int .i64) w w.heap.size A1 L1) (hr2 : Rd (Value.int .i64) w w.heap.size A2 L2) (hrh : Rd Value.bool w w.heap.size AH DH) (hrd : Rd Value.bool w w.heap.size A D0) :
    Calls Try.prog 9 #[.agg #[.slice A1 L1.length c1, .slice A2 L2.length c2], .agg #[.slice AH DH.length ch, .int .i64 W, .int .i64 H, .slice A D0.length c], .agg #[.int .i64 qa, .int .i64 qb]] w fun e w' => e = .returned (.bool true) ∧ Below w.heap.size w w' := by
  have HR1 := Lib.hid hr1
  have HR2 := Lib.hid hr2
  have HRH := Lib.hid hrh
  have HRD := Lib.hid hrd
  have HAH := Lib.hid hAH
  have HA0 := Lib.hid hA0
  clear hr1 hr2 hrh hrd hAH hA0
  have HLT := Lib.hid (show (DH.take 400).length = min DH.length 400 by rw [List.length_take, Nat.min_comm])
  have HLT2 := Lib.hid (show (D0.take 400).length = min D0.length 400 by rw [List.length_take, Nat.min_comm])
  obtain ⟨DT, hDT⟩ : ∃ DT, DT = DH.take 400 := ⟨_, rfl⟩
  obtain ⟨D1, hD1⟩ : ∃ D1, D1 = D0.take 400 := ⟨_, rfl⟩
  rw [← hDT] at HLT
  rw [← hD1] at HLT2
  have HRH2 : Hid (Rd Value.bool w w.heap.size AH DT) := Lib.hid (by rw [hDT]; exact HRH.out.take 400)
  have HRD2 : Hid (Rd Value.bool w w.heap.size A D1) := Lib.hid (by rw [hD1]; exact HRD.out.take 400)
  clear hDT hD1 HRH HRD
  generalize DH.length = lh at *
  generalize D0.length = l0 at *
  go_enter Try.func9, Try.ntmps9
  go_wp2_with fail
  refine calls_world (fun W0 hW0 => ?_)
  obtain ⟨T0, hs0, _⟩ := (Tr.start w).new3 hW0
  clear hW0
  generalize hp : w.heap.size = p at *
  have HP := Lib.hid hp
  clear hp
  refine (sanity37 _).mono ?_
  rintro e w1 ⟨rfl, hb1⟩
  have T1 := T0.call hb1
  clear T0 hb1 hs0
  obtain ⟨⟨r0, r1, r2, r3⟩, f0, f1, f2, f3⟩ := T1.stand.2.1.n4
  go_upto_region 2 with fail
  go_cut [8] (fun s8 wx => s8 = undef ∧ Blk wx (p + 1) 61 #[.slice AH (min lh 400) ch, .int .i64 W, .int .i64 H, .slice A l0 c] ∧ Kp [p + 1] w1 wx)
  case first =>
    have HMI := Lib.hid (show (min (lh : Int) 400).toNat = min lh 400 by omega)
    cases AH with
    | none =>
      obtain ⟨e1, e2⟩ := HAH.out rfl
      subst e1 e2
      go_wp2
      go_meet
      rw [show (min (0 : Int) 400).toNat = 0 by decide, show min 0 400 = 0 by decide]
      exact ⟨rfl, (store_at (w := w1) (i := 0) (x := .slice none 0 0) rfl T1.stand.2.1).1, (store_at (w := w1) (i := 0) (x := .slice none 0 0) rfl T1.stand.2.1).2⟩
    | some a =>
      go_wp2
      go_meet
      rw [HMI.out]
      exact ⟨rfl, (store_at (w := w1) (i := 0) (x := .slice (some a) (min lh 400) ch) rfl T1.stand.2.1).1, (store_at (w := w1) (i := 0) (x := .slice (some a) (min lh 400) ch) rfl T1.stand.2.1).2⟩
  case rest =>
    obtain ⟨rfl, hR, hkp⟩ := hcut
    have T2 := T1.setAt 1 rfl hR hkp (by omega) (by simp [Fresh])
    simp only [List.set_cons_succ, List.set_cons_zero] at T2
    clear T1 r0 r1 r2 r3 f0 f1 f2 f3 hkp
    rw [← HLT.out] at hR T2
    refine k_world (fun W2 hW2 => ?_)
    rw [← hW2] at T2 hR
    clear hW2
    obtain ⟨⟨r0, r1, r2, r3⟩, f0, f1, f2, f3⟩ := hR.n4
    go_upto_region 3 with fail
    go_cut [8] (fun s8 wx => s8 = undef ∧ Blk wx (p + 1) 61 #[.slice AH DT.length ch, .int .i64 W, .int .i64 H, .slice A (min l0 400) c] ∧ Kp [p + 1] W2 wx)
    case first =>
      have HR := Lib.hid hR
      clear hR
      have HMI := Lib.hid (show (min (l0 : Int) 400).toNat = min l0 400 by omega)
      cases A with
      | none =>
        obtain ⟨e1, e2⟩ := HA0.out rfl
        subst e1 e2
        go_wp2
        go_meet
        rw [show (min (0 : Int) 400).toNat = 0 by decide, show min 0 400 = 0 by decide]
        exact ⟨rfl, (store_at (w := W2) (i := 3) (x := .slice none 0 0) rfl HR.out).1, (store_at (w := W2) (i := 3) (x := .slice none 0 0) rfl HR.out).2⟩
      | some a =>
        go_wp2
        go_meet
        rw [HMI.out]
        exact ⟨rfl, (store_at (w := W2) (i := 3) (x := .slice (some a) (min l0 400) c) rfl HR.out).1, (store_at (w := W2) (i := 3) (x := .slice (some a) (min l0 400) c) rfl HR.out).2⟩
    case rest =>
      obtain ⟨rfl, hR3, hkp⟩ := hcut
      have T3 := T2.setAt 1 rfl hR3 hkp (by omega) (by simp [Fresh])
      simp only [List.set_cons_succ, List.set_cons_zero] at T3
      clear T2 r0 r1 r2 r3 f0 f1 f2 f3 hkp hR hR3
      rw [← HLT2.out] at T3
      refine k_world (fun W3 hW3 => ?_)
      rw [← hW3] at T3
      clear hW3
      obtain ⟨⟨a0, a1⟩, _⟩ := T3.stand.1.two
      have za := T3.stand.1.lt
      go_wp2_with fail
      refine (Made_any L2 A2 c2 _ hn2 (T3.rd HR2.out)).mono ?_
      rintro e w4 ⟨g2, rfl, hg2, hl2, hO2, hb4⟩
      have T4 := (T3.call hb4).push hO2.blk
      clear T3 hb4 hO2 a0 a1 za
      go_upto_region 5 with fail
      refine wp_world (fun W5 hW5 => ?_)
      obtain ⟨T5, hs5, _⟩ := T4.new1 hW5
      clear hW5 T4 hs5
      generalize hq4 : w4.heap.size = q4 at *
      clear hq4
      have hm := mkW_le L2
      have hn := mkH_le L2
      have hD := mkD_len L2
      generalize mkD L2 = D at *
      generalize mkW L2 = m at *
      generalize mkH L2 = n at *
      have hmn : m * n ≤ 192 := Nat.mul_le_mul hm hn
      obtain ⟨⟨a0, a1⟩, _⟩ := T5.stand.2.2.1.two
      have za := T5.stand.2.2.1.lt
      obtain ⟨⟨r0, r1, r2, r3⟩, _⟩ := T5.stand.2.2.2.1.n4
      have zr := T5.stand.2.2.2.1.lt
      have CH := Lib.hid (fun w h => HMade_any L1 A1 c1 w hn1 h)
      have hDl := hmD_len L1
      have hL := hmN_le L1
      generalize hmD L1 = Dead at *
      generalize hmN L1 = L at *
      have hmk := fun w1 => mk_run (P := Try.prog) 27 4 (.bool false) 1 Try.underlying27 info_bool rfl (192 : Int) (by omega) (by omega) (by omega) w1
      have hrl1 := T5.rd HR1.out
      go_cut [57, 58, 59] from 49 to 59 (fun s57 s58 s59 wx => s58 = .int .i64 4 ∧ s59 = .int .i64 0 ∧ ∃ q57 gz : Nat, s57 = .slice (some ⟨q57, 0, none⟩) 4 4 ∧ (∃ g1, Blk wx q57 59 #[.slice (some ⟨g1, 0, none⟩) L L, .slice AH DT.length ch, .slice none 0 0, .slice (some ⟨gz, 0, none⟩) 192 192] ∧ Own Value.bool 4 wx g1 Dead) ∧ Own Value.bool 4 wx gz (List.replicate 192 false) ∧ Below W5.heap.size W5 wx)
      case first =>
        refine wp_region_U (fun w' => (∀ b o, b < W5.heap.size → w'.cell? ⟨b, o, none⟩ = W5.cell? ⟨b, o, none⟩) ∧ Below W5.heap.size W5 w') (by kernel_rfl) ?_ (fun Wd hWd hS => ?_)
        · (try dsimp only)
          exact sb_of (Below.refl _ _).drew
        (try dsimp only at hS)
        refine wpU_take 0 (v := ?_) rfl (by kernel_rfl) (fun _ _ _ h => h) hS (Or.inl ⟨rfl, ?_⟩) ?_
        rotate_left
        · (intro w' hSw; (try dsimp only at hSw); go_simp; first | done | with_reducible rfl)
        (try simp only [Act.put, List.setIfInBounds_toArray, List.set_cons_zero, List.set_cons_succ])
        refine wpU_take 1 (v := ?_) rfl (by kernel_rfl) (fun _ _ _ h => h) hS (Or.inl ⟨rfl, ?_⟩) ?_
        rotate_left
        · (intro w' hSw; (try dsimp only at hSw); go_simp; first | done | with_reducible rfl)
        (try simp only [Act.put, List.setIfInBounds_toArray, List.set_cons_zero, List.set_cons_succ])
        refine wpU_take 3 (v := ?_) rfl (by kernel_rfl) (fun _ _ _ h => h) hS (Or.inl ⟨rfl, ?_⟩) ?_
        rotate_left
        · (intro w' hSw; (try dsimp only at hSw); go_simp; first | done | with_reducible rfl)
        (try simp only [Act.put, List.setIfInBounds_toArray, List.set_cons_zero, List.set_cons_succ])
        refine wpU_take 4 (v := ?_) rfl (by kernel_rfl) (fun _ _ _ h => h) hS (Or.inl ⟨rfl, ?_⟩) ?_
        rotate_left
        · (intro w' hSw; (try dsimp only at hSw); go_simp; first | done | with_reducible rfl)
        (try simp only [Act.put, List.setIfInBounds_toArray, List.set_cons_zero, List.set_cons_succ])
        refine wpU_take 5 (v := ?_) rfl (by kernel_rfl) (fun _ _ _ h => h) hS (Or.inl ⟨rfl, ?_⟩) ?_
        rotate_left
        · (intro w' hSw; (try dsimp only at hSw); go_simp; first | done | with_reducible rfl)
        (try simp only [Act.put, List.setIfInBounds_toArray, List.set_cons_zero, List.set_cons_succ])
        refine wpU_take 10 (v := ?_) rfl (by kernel_rfl) (fun _ _ _ h => h) hS (Or.inl ⟨rfl, ?_⟩) ?_
        rotate_left
        · (intro w' hSw; (try dsimp only at hSw); go_simp; first | done | with_reducible rfl)
        (try simp only [Act.put, List.setIfInBounds_toArray, List.set_cons_zero, List.set_cons_succ])
        refine wpT_two 2 6 rfl rfl (by kernel_rfl) (fun K hK => ?_) (fun K hK => ?_)
        · skip
          go_simp
          go_at_call 39
          refine (CH.out _ ((hrl1.below hS.2 (Nat.le_refl _)).more hS.2.size)).mono ?_
          rintro e wa ⟨g1, rfl, hg1, hl1, hO1, hba⟩
          have hbS := hS.2.trans (hba.mono hS.2.size)
          try have hZ := hZ.below hba hZ.lt
          refine hK.out _ _ ?_ (fun hS => ?_)
          · (try dsimp only)
            exact sb_of hbS
          clear hK K
          (try simp only [Act.put, List.setIfInBounds_toArray, List.set_cons_zero, List.set_cons_succ])
          (try dsimp only at hS)
          refine wpT_one 6 rfl (by kernel_rfl) (fun K hK => ?_)
          go_simp
          refine k_world (fun Wz hWz => ?_)
          obtain ⟨gz, eqz, hZ0, hbZ, hsZ⟩ := new1n hWz
          clear hWz
          try rw [eqz]
          have hZ : Own Value.bool 4 Wz gz (List.replicate 192 false) := by unfold Own; simpa [Blk] using hZ0
          have hbS := hS.2.trans (hbZ.mono (by have := hS.2.size; omega))
          try have hO1 := hO1.below hbZ (by have := hO1.lt; omega)
          refine hK.out _ _ ?_ (fun hS => ?_)
          · (try dsimp only)
            exact sb_of hbS
          clear hK K
          (try simp only [Act.put, List.setIfInBounds_toArray, List.set_cons_zero, List.set_cons_succ])
          (try dsimp only at hS)
          refine wpU_take 7 (v := ?_) rfl (by kernel_rfl) (fun _ _ _ h => h) hS (Or.inl ⟨rfl, ?_⟩) ?_
          rotate_left
          · (intro w' hSw; (try dsimp only at hSw); go_simp; first | done | with_reducible rfl)
          (try simp only [Act.put, List.setIfInBounds_toArray, List.set_cons_zero, List.set_cons_succ])
          refine wpT_one 8 rfl (by kernel_rfl) (fun K hK => ?_)
          go_simp
          refine k_world (fun Wq hWq => ?_)
          obtain ⟨q57, eqq, hQ, hbQ, hsQ⟩ := new1n hWq
          clear hWq
          try rw [eqq]
          have hbS := hS.2.trans (hbQ.mono (by have := hS.2.size; omega))
          have hO1 := hO1.below hbQ (by have := hO1.lt; omega)
          have hZ := hZ.below hbQ (by have := hZ.lt; omega)
          refine hK.out _ _ ?_ (fun hS => ?_)
          · (try dsimp only)
            exact sb_of hbS
          clear hK K
          (try simp only [Act.put, List.setIfInBounds_toArray, List.set_cons_zero, List.set_cons_succ])
          (try dsimp only at hS)
          refine wpU_take 9 (v := ?_) rfl (by kernel_rfl) (fun _ _ _ h => h) hS (Or.inl ⟨rfl, ?_⟩) ?_
          rotate_left
          · (intro w' hSw; (try dsimp only at hSw); go_simp; first | done | with_reducible rfl)
          (try simp only [Act.put, List.setIfInBounds_toArray, List.set_cons_zero, List.set_cons_succ])
          refine wpU_done (by kernel_rfl) ?_
          go_wp2
          go_meet
          exact ⟨rfl, rfl, q57, gz, rfl, ⟨g1, hQ, hO1⟩, hZ, hS.2⟩
        · skip
          go_simp
          refine k_world (fun Wz hWz => ?_)
          obtain ⟨gz, eqz, hZ0, hbZ, hsZ⟩ := new1n hWz
          clear hWz
          try rw [eqz]
          have hZ : Own Value.bool 4 Wz gz (List.replicate 192 false) := by unfold Own; simpa [Blk] using hZ0
          have hbS := hS.2.trans (hbZ.mono (by have := hS.2.size; omega))
          try have hO1 := hO1.below hbZ (by have := hO1.lt; omega)
          refine hK.out _ _ ?_ (fun hS => ?_)
          · (try dsimp only)
            exact sb_of hbS
          clear hK K
          (try simp only [Act.put, List.setIfInBounds_toArray, List.set_cons_zero, List.set_cons_succ])
          (try dsimp only at hS)
          refine wpU_take 7 (v := ?_) rfl (by kernel_rfl) (fun _ _ _ h => h) hS (Or.inl ⟨rfl, ?_⟩) ?_
          rotate_left
          · (intro w' hSw; (try dsimp only at hSw); go_simp; first | done | with_reducible rfl)
          (try simp only [Act.put, List.setIfInBounds_toArray, List.set_cons_zero, List.set_cons_succ])
          refine wpT_one 2 rfl (by kernel_rfl) (fun K hK => ?_)
          go_simp
          go_at_call 39
          refine (CH.out _ ((hrl1.below hS.2 (Nat.le_refl _)).more hS.2.size)).mono ?_
          rintro e wa ⟨g1, rfl, hg1, hl1, hO1, hba⟩
          have hbS := hS.2.trans (hba.mono hS.2.size)
          try have hZ := hZ.below hba hZ.lt
          refine hK.out _ _ ?_ (fun hS => ?_)
          · (try dsimp only)
            exact sb_of hbS
          clear hK K
          (try simp only [Act.put, List.setIfInBounds_toArray, List.set_cons_zero, List.set_cons_succ])
          (try dsimp only at hS)
          refine wpT_one 8 rfl (by kernel_rfl) (fun K hK => ?_)
          go_simp
          refine k_world (fun Wq hWq => ?_)
          obtain ⟨q57, eqq, hQ, hbQ, hsQ⟩ := new1n hWq
          clear hWq
          try rw [eqq]
          have hbS := hS.2.trans (hbQ.mono (by have := hS.2.size; omega))
          have hO1 := hO1.below hbQ (by have := hO1.lt; omega)
          have hZ := hZ.below hbQ (by have := hZ.lt; omega)
          refine hK.out _ _ ?_ (fun hS => ?_)
          · (try dsimp only)
            exact sb_of hbS
          clear hK K
          (try simp only [Act.put, List.setIfInBounds_toArray, List.set_cons_zero, List.set_cons_succ])
          (try dsimp only at hS)
          refine wpU_take 9 (v := ?_) rfl (by kernel_rfl) (fun _ _ _ h => h) hS (Or.inl ⟨rfl, ?_⟩) ?_
          rotate_left
          · (intro w' hSw; (try dsimp only at hSw); go_simp; first | done | with_reducible rfl)
          (try simp only [Act.put, List.setIfInBounds_toArray, List.set_cons_zero, List.set_cons_succ])
          refine wpU_done (by kernel_rfl) ?_
          go_wp2
          go_meet
          exact ⟨rfl, rfl, q57, gz, rfl, ⟨g1, hQ, hO1⟩, hZ, hS.2⟩
      case rest =>
        obtain ⟨rfl, rfl, q57, gz, rfl, ⟨g1, hQ, hO1⟩, hZ, hb6⟩ := hcut
        refine k_world (fun W6 hW6 => ?_)
        rw [← hW6] at hQ hO1 hZ hb6
        clear hW6 a0 a1 za r0 r1 r2 r3 zr hrl1 hmk
        have T6 := T5.call hb6
        clear T5 hb6
        have hrD : Rd Value.bool W6 W6.heap.size (some ⟨g2, 0, none⟩) D := (T6.stand.2.1.own (f := Value.bool)).rd T6.stand.2.1.lt
        have HHD : Hid (∀ i : Nat, i < 4 → ∃ (AHi : Option Addr) (Di : List Bool) (chi : Nat), W6.cell? ⟨q57, i, none⟩ = some (.slice AHi Di.length chi) ∧ Rd Value.bool W6 W6.heap.size AHi Di ∧ Di.length ≤ 1000) := Lib.hid (by
          have h1 := HLT.out
          intro i hi
          match i, hi with
          | 0, _ => exact ⟨some ⟨g1, 0, none⟩, Dead, L, by rw [hDl]; exact hQ.cell 0, hO1.rd hO1.lt, by omega⟩
          | 1, _ => exact ⟨AH, DT, ch, hQ.cell 1, T6.rd HRH2.out, by omega⟩
          | 2, _ => exact ⟨none, [], 0, hQ.cell 2, Rd.nil, by simp⟩
          | 3, _ => exact ⟨some ⟨gz, 0, none⟩, List.replicate 192 false, 192, by rw [List.length_replicate]; exact hQ.cell 3, hZ.rd hZ.lt, by simp⟩)
        have hrX := T6.rd HRD2.out
        have hlx : D1.length ≤ 1000 := by have := HLT2.out; omega
        have zq57 := hQ.lt
        obtain ⟨⟨b0, b1, b2⟩, _⟩ := T6.stand.1.three
        have zb := T6.stand.1.lt
        obtain ⟨⟨_, r1, r2, r3⟩, _⟩ := T6.stand.2.2.2.1.n4
        have zr := T6.stand.2.2.2.1.lt
        obtain ⟨⟨k0, k1⟩, _⟩ := T6.stand.2.2.2.2.1.two
        have zk := T6.stand.2.2.2.2.1.lt
        have hlow := T6.low
        have hsz6 := T6.size
        have HOD := Lib.hid (fun w hr => ref04_Odd m n (some ⟨g2, 0, none⟩) (m * n) D qb w (by omega) (by omega) (by omega) hr)
        rw [hD] at HOD
        have hod := oddD_len D qb
        rw [hD] at hod
        have CM := Lib.hid (fun w => Mod_any qa 26 w (by omega) (by omega))
        have hmo := Int.emod_nonneg qa (show (26 : Int) ≠ 0 by omega)
        have hmo2 := Int.emod_lt_of_pos qa (show (0 : Int) < 26 by omega)
        generalize qa % 26 = q26 at *
        clear T6 hQ hO1 hZ HR1 HR2 HRH2 HRD2 HAH HA0 HLT HLT2 hl2 hg2 CH
        go_wp2_with fail
        go_loopw [10, 59] (fun _ s59 wr => ∃ i : Nat, i ≤ 4 ∧ s59 = .int .i64 i ∧ Below W6.heap.size W6 wr) (fun _ s59 _ => 4 - (intOf s59).toNat)
        case atStart => exact ⟨0, by omega, rfl, Below.refl _ _⟩
        case round =>
          obtain ⟨i, hi, rfl, hbr⟩ := hrel
          have hcr := (sb_of hbr).1
          by_cases hi4 : i < 4
          · have i0 : (0 : Int) ≤ (i : Int) := by omega
            have i4 : (i : Int) < 4 := by omega
            obtain ⟨AHi, Di, chi, hci, hri, hli⟩ := HHD.out i hi4
            go_upto_region 8 with fail
            refine wp_world (fun W7 hW7 => ?_)
            obtain ⟨hQh, hbn, hsn⟩ := new1 hW7
            clear hW7 hcr
            have hb7 := hbr.trans (hbn.mono hbr.size)
            have zh := hQh.lt
            generalize hqq : wr.heap.size = qh at *
            clear hqq hsn hbn
            have h0 : W7.cell? ⟨qh, 0, none⟩ = some (.slice AHi Di.length chi) := hQh.cell 0
            have hri7 := (hri.below hb7 (Nat.le_refl _)).more hb7.size
            have hrD7 := (hrD.below hb7 (Nat.le_refl _)).more hb7.size
            have hrX7 := (hrX.below hb7 (Nat.le_refl _)).more hb7.size
            have z7 := hb7.size
            have e0 := hb7.cell (p := ⟨q4, 0, none⟩) zb
            have e1 := hb7.cell (p := ⟨q4, 1, none⟩) zb
            have e2 := hb7.cell (p := ⟨q4, 2, none⟩) zb
            have e3 := hb7.cell (p := ⟨p + 1, 1, none⟩) zr
            have e4 := hb7.cell (p := ⟨p + 1, 2, none⟩) zr
            have e5 := hb7.cell (p := ⟨p + 1, 3, none⟩) zr
            have e6 := hb7.cell (p := ⟨p + 1 + 1, 0, none⟩) zk
            have e7 := hb7.cell (p := ⟨p + 1 + 1, 1, none⟩) zk
            rw [b0] at e0
            rw [b1] at e1
            rw [b2] at e2
            rw [r1] at e3
            rw [r2] at e4
            rw [r3] at e5
            rw [k0] at e6
            rw [k1] at e7
            have zb7 : q4 < W7.heap.size := by omega
            have zr7 : p + 1 < W7.heap.size := by omega
            have zk7 : p + 1 + 1 < W7.heap.size := by omega
            have CA := Lib.hid (fun w => head_Check Di.length AHi chi w)
            have CB := Lib.hid (fun w => ref37_Check Di.length AHi chi w)
            generalize hdCheck Di.length = hc at CA CB
            refine wp_region_L 4 (fun w' => (∀ b o, b < W7.heap.size → w'.cell? ⟨b, o, none⟩ = W7.cell? ⟨b, o, none⟩) ∧ Below W7.heap.size W7 w') (by kernel_rfl) ?_ (fun Wd hWd hS => ?_)
            · (try dsimp only)
              exact sb_of (Below.refl _ _).drew
            (try dsimp only at hS)
            refine wpT_take 0 (v := ?_) rfl (by kernel_rfl) (by kernel_rfl) (fun _ _ _ h => h) hS (Or.inl ⟨rfl, ?_⟩) ?_
            rotate_left
            · (intro w' hSw; (try dsimp only at hSw); go_simp; first | done | with_reducible rfl)
            (try simp only [Act.put, List.setIfInBounds_toArray, List.set_cons_zero, List.set_cons_succ])
            refine wpT_take 2 (v := ?_) rfl (by kernel_rfl) (by kernel_rfl) (fun _ _ _ h => h) hS (Or.inl ⟨rfl, ?_⟩) ?_
            rotate_left
            · (intro w' hSw; (try dsimp only at hSw); go_simp; first | done | with_reducible rfl)
            (try simp only [Act.put, List.setIfInBounds_toArray, List.set_cons_zero, List.set_cons_succ])
            refine wpT_one 1 rfl (by kernel_rfl) (fun K hK => ?_)
            go_simp
            go_at_call 40
            refine (CA.out _).mono ?_
            rintro e wa ⟨rfl, hba⟩
            have hbS := hS.2.trans (hba.mono hS.2.size)
            refine hK.out _ _ ?_ (fun hS => ?_)
            · (try dsimp only)
              exact sb_of hbS
            clear hK K
            (try simp only [Act.put, List.setIfInBounds_toArray, List.set_cons_zero, List.set_cons_succ])
            (try dsimp only at hS)
            refine wpT_one 3 rfl (by kernel_rfl) (fun K hK => ?_)
            go_simp
            go_at_call 41
            refine (CB.out _).mono ?_
            rintro e wb ⟨rfl, hbb⟩
            have hbS := hS.2.trans (hbb.mono hS.2.size)
            refine hK.out _ _ ?_ (fun hS => ?_)
            · (try dsimp only)
              exact sb_of hbS
            clear hK K
            (try simp only [Act.put, List.setIfInBounds_toArray, List.set_cons_zero, List.set_cons_succ])
            (try dsimp only at hS)
            refine wpT_tail (by rfl) (by kernel_rfl) ?_
            (try simp only [List.drop_succ_cons, List.drop_zero])
            have hb78 := hS.2
            clear hS hba hbb hWd
            go_upto_region 10 with fail
            go_cut [75, 76, 77] from 68 to 77 (fun s75 s76 s77 wx => s76 = .int .i64 3 ∧ s77 = .int .i64 0 ∧ ∃ (q75 : Nat) (A' : Option Addr) (c' : Nat), s75 = .slice (some ⟨q75, 0, none⟩) 3 3 ∧ Blk wx q75 29 #[.int .i64 m, .int .i64 n, .slice (some ⟨g2, 0, none⟩) (m * n) (m * n), .int .i64 (oddW m qb), .int .i64 (oddH n qb), .slice A' (oddD D qb).length c', .int .i64 W, .int .i64 H, .slice A D1.length c] ∧ Rd Value.bool wx wx.heap.size A' (oddD D qb) ∧ Below W7.heap.size W7 wx)
            case first =>
              refine wp_region_U (fun w' => (∀ b o, b < W7.heap.size → w'.cell? ⟨b, o, none⟩ = W7.cell? ⟨b, o, none⟩) ∧ Below W7.heap.size W7 w') (by kernel_rfl) ?_ (fun Wd hWd hS => ?_)
              · (try dsimp only)
                exact sb_of hb78.drew
              (try dsimp only at hS)
              refine wpU_take 0 (v := ?_) rfl (by kernel_rfl) (fun _ _ _ h => h) hS (Or.inl ⟨rfl, ?_⟩) ?_
              rotate_left
              · (intro w' hSw; (try dsimp only at hSw); go_simp; first | done | with_reducible rfl)
              (try simp only [Act.put, List.setIfInBounds_toArray, List.set_cons_zero, List.set_cons_succ])
              refine wpU_take 1 (v := ?_) rfl (by kernel_rfl) (fun _ _ _ h => h) hS (Or.inl ⟨rfl, ?_⟩) ?_
              rotate_left
              · (intro w' hSw; (try dsimp only at hSw); go_simp; first | done | with_reducible rfl)
              (try simp only [Act.put, List.setIfInBounds_toArray, List.set_cons_zero, List.set_cons_succ])
              refine wpU_take 2 (v := ?_) rfl (by kernel_rfl) (fun _ _ _ h => h) hS (Or.inl ⟨rfl, ?_⟩) ?_
              rotate_left
              · (intro w' hSw; (try dsimp only at hSw); go_simp; first | done | with_reducible rfl)
              (try simp only [Act.put, List.setIfInBounds_toArray, List.set_cons_zero, List.set_cons_succ])
              refine wpU_take 3 (v := ?_) rfl (by kernel_rfl) (fun _ _ _ h => h) hS (Or.inl ⟨rfl, ?_⟩) ?_
              rotate_left
              · (intro w' hSw; (try dsimp only at hSw); go_simp; first | done | with_reducible rfl)
              (try simp only [Act.put, List.setIfInBounds_toArray, List.set_cons_zero, List.set_cons_succ])
              refine wpU_take 5 (v := ?_) rfl (by kernel_rfl) (fun _ _ _ h => h) hS (Or.inl ⟨rfl, ?_⟩) ?_
              rotate_left
              · (intro w' hSw; (try dsimp only at hSw); go_simp; first | done | with_reducible rfl)
              (try simp only [Act.put, List.setIfInBounds_toArray, List.set_cons_zero, List.set_cons_succ])
              refine wpU_take 6 (v := ?_) rfl (by kernel_rfl) (fun _ _ _ h => h) hS (Or.inl ⟨rfl, ?_⟩) ?_
              rotate_left
              · (intro w' hSw; (try dsimp only at hSw); go_simp; first | done | with_reducible rfl)
              (try simp only [Act.put, List.setIfInBounds_toArray, List.set_cons_zero, List.set_cons_succ])
              refine wpU_take 9 (v := ?_) rfl (by kernel_rfl) (fun _ _ _ h => h) hS (Or.inl ⟨rfl, ?_⟩) ?_
              rotate_left
              · (intro w' hSw; (try dsimp only at hSw); go_simp; first | done | with_reducible rfl)
              (try simp only [Act.put, List.setIfInBounds_toArray, List.set_cons_zero, List.set_cons_succ])
              refine wpT_one 4 rfl (by kernel_rfl) (fun K hK => ?_)
              go_simp
              go_at_call 22
              refine (HOD.out _ ((hrD7.below hS.2 (Nat.le_refl _)).more hS.2.size)).mono ?_
              rintro e wo ⟨A', c', rfl, hro, hbo⟩
              have hbS := hS.2.trans (hbo.mono hS.2.size)
              refine hK.out _ _ ?_ (fun hS => ?_)
              · (try dsimp only)
                exact sb_of hbS
              clear hK K
              (try simp only [Act.put, List.setIfInBounds_toArray, List.set_cons_zero, List.set_cons_succ])
              (try dsimp only at hS)
              refine wpT_one 7 rfl (by kernel_rfl) (fun K hK => ?_)
              go_simp
              refine k_world (fun Wq hWq => ?_)
              obtain ⟨q75, eqq, hQ75, hbQ, hsQ⟩ := new1n hWq
              clear hWq
              try rw [eqq]
              have hbS := hS.2.trans (hbQ.mono (by have := hS.2.size; omega))
              have hro := (hro.below hbQ (by omega)).more (show wo.heap.size ≤ Wq.heap.size by have := hbQ.size; omega)
              refine hK.out _ _ ?_ (fun hS => ?_)
              · (try dsimp only)
                exact sb_of hbS
              clear hK K
              (try simp only [Act.put, List.setIfInBounds_toArray, List.set_cons_zero, List.set_cons_succ])
              (try dsimp only at hS)
              refine wpU_take 8 (v := ?_) rfl (by kernel_rfl) (fun _ _ _ h => h) hS (Or.inl ⟨rfl, ?_⟩) ?_
              rotate_left
              · (intro w' hSw; (try dsimp only at hSw); go_simp; first | done | with_reducible rfl)
              (try simp only [Act.put, List.setIfInBounds_toArray, List.set_cons_zero, List.set_cons_succ])
              refine wpU_done (by kernel_rfl) ?_
              go_wp2
              go_meet
              exact ⟨rfl, rfl, q75, A', c', rfl, hQ75, hro, hS.2⟩
            case rest =>
              obtain ⟨rfl, rfl, q75, A', c', rfl, hQ75, hro, hb9⟩ := hcut
              refine k_world (fun W9 hW9 => ?_)
              rw [← hW9] at hQ75 hro hb9
              clear hW9 hb78
              have HBM : Hid (∀ t : Nat, t < 3 → ∃ (Wt Ht : Int) (At : Option Addr) (ct : Nat) (Dt : List Bool), W9.cell? ⟨q75, t * 3, none⟩ = some (.int .i64 Wt) ∧ W9.cell? ⟨q75, t * 3 + 1, none⟩ = some (.int .i64 Ht) ∧ W9.cell? ⟨q75, t * 3 + 2, none⟩ = some (.slice At Dt.length ct) ∧ Rd Value.bool W9 W9.heap.size At Dt ∧ Dt.length ≤ 1000) := Lib.hid (by
                have h := hQ75.n9.1
                intro t ht
                match t, ht with
                | 0, _ => exact ⟨_, _, _, _, D, h.1, h.2.1, by rw [hD]; exact h.2.2.1, (hrD7.below hb9 (Nat.le_refl _)).more hb9.size, by omega⟩
                | 1, _ => exact ⟨_, _, _, _, oddD D qb, h.2.2.2.1, h.2.2.2.2.1, h.2.2.2.2.2.1, hro, by omega⟩
                | 2, _ => exact ⟨_, _, _, _, D1, h.2.2.2.2.2.2.1, h.2.2.2.2.2.2.2.1, h.2.2.2.2.2.2.2.2, (hrX7.below hb9 (Nat.le_refl _)).more hb9.size, by omega⟩)
              have zq75 := hQ75.lt
              have hri9 := (hri7.below hb9 (Nat.le_refl _)).more hb9.size
              have hQh9 := hQh.below hb9 zh
              have h09 : W9.cell? ⟨qh, 0, none⟩ = some (.slice AHi Di.length chi) := hQh9.cell 0
              have zh9 := hQh9.lt
              have k09 := hb9.cell (p := ⟨p + 1 + 1, 0, none⟩) zk7
              rw [e6] at k09
              have zk9 : p + 1 + 1 < W9.heap.size := by have := hb9.size; omega
              have hb69 := hb7.trans (hb9.mono z7)
              clear e0 e1 e2 e3 e4 e5 e6 e7 zb7 zr7 zk7 h0 zh hQh hQh9 hri7 hrD7 hrX7 hQ75 hro hb9 hb7 z7 hbr hci hri CA CB
              have hsz9 := hb69.size
              go_wp2_with fail
              go_loopw [12, 77] (fun _ s77 wr => ∃ j : Nat, j ≤ 3 ∧ s77 = .int .i64 j ∧ Below W9.heap.size W9 wr) (fun _ s77 _ => 3 - (intOf s77).toNat)
              case atStart => exact ⟨0, by omega, rfl, Below.refl _ _⟩
              case round =>
                obtain ⟨j, hj, rfl, hbr⟩ := hrel
                have hcr := (sb_of hbr).1
                by_cases hj3 : j < 3
                · have j0 : (0 : Int) ≤ (j : Int) := by omega
                  have j3 : (j : Int) < 3 := by omega
                  obtain ⟨Wt, Ht, At, ct, Dt, hM0, hM1, hM2, hrB, hnB⟩ := HBM.out j hj3
                  go_upto_region 13 with fail
                  refine wp_world (fun W10 hW10 => ?_)
                  obtain ⟨hQm, hbn, hsn⟩ := new1 hW10
                  clear hW10 hcr
                  have hb10 := hbr.trans (hbn.mono hbr.size)
                  have zm := hQm.lt
                  generalize hqq : wr.heap.size = qm at *
                  clear hqq hsn hbn hM0 hM1 hM2 hbr
                  obtain ⟨⟨m0, m1, m2⟩, _⟩ := hQm.three
                  have z10 := hb10.size
                  have h10 := hb10.cell (p := ⟨qh, 0, none⟩) zh9
                  rw [h09] at h10
                  have k10 := hb10.cell (p := ⟨p + 1 + 1, 0, none⟩) zk9
                  rw [k09] at k10
                  have zh10 : qh < W10.heap.size := by omega
                  have zk10 : p + 1 + 1 < W10.heap.size := by omega
                  have hrB10 := (hrB.below hb10 (Nat.le_refl _)).more z10
                  have hri10 := (hri9.below hb10 (Nat.le_refl _)).more z10
                  clear hrB
                  have CO := Lib.hid (fun w h1 h2 => head_Offset_any Wt Ht ct chi At AHi Dt Di w (by omega) h1 h2)
                  have CR := Lib.hid (fun w h1 h2 => ref37_Offset Wt Ht _ ct chi At AHi Dt Di w (by omega) (by omega) rfl h1 h2)
                  rw [off_eq (by omega)] at CR
                  have hoi : offI (offN Wt Ht Dt Di) = (((offN Wt Ht Dt Di).getD 0 : Nat) : Int) := rfl
                  rw [hoi] at CO
                  clear hoi
                  generalize (offN Wt Ht Dt Di).getD 0 = ox at CO CR
                  generalize (offN Wt Ht Dt Di).isSome = ob at CO CR
                  have CP := Lib.hid (fun at_ w h1 h2 => head_Print_any Wt Ht at_ ct chi At AHi Dt Di w (by omega) h1 h2)
                  have CQ := Lib.hid (fun at_ w h1 h2 => ref37_Print_any Wt Ht at_ ct chi At AHi Dt Di w (by omega) h1 h2)
                  have hPD := Lib.hid (fun at_ => show (pD Wt Ht at_ Dt Di).length ≤ 1000 by unfold pD; split <;> first | (rw [printL_len]; omega) | simp)
                  unfold PrOut at CP CQ
                  go_wp2_with fail
                  refine (CO.out _ hrB10 hri10).mono ?_
                  rintro e w11 ⟨rfl, hb11⟩
                  have hcr := (sb_of hb11).1
                  have z11 := hb11.size
                  go_wp2_with fail
                  refine (CR.out _ ((hrB10.below hb11 (Nat.le_refl _)).more z11) ((hri10.below hb11 (Nat.le_refl _)).more z11)).mono ?_
                  rintro e w12 ⟨rfl, hb12⟩
                  have hb1012 := hb11.trans (hb12.mono z11)
                  clear hcr z11 hb11 hb12 CO CR
                  go_upto_region 15 with fail
                  go_cut [100] from 93 to 100 (fun s100 wx => s100 = .bool false ∧ wx = w12)
                  case first =>
                    cases ob with
                    | false =>
                      go_wp2
                      go_meet
                      exact ⟨rfl, rfl⟩
                    | true =>
                      go_wp2
                      go_meet
                      exact ⟨rfl, rfl⟩
                  case rest =>
                    obtain ⟨rfl, rfl⟩ := hcut
                    go_upto_region 17 with fail
                    refine wp_region_U (fun w' => (∀ b o, b < W10.heap.size → w'.cell? ⟨b, o, none⟩ = W10.cell? ⟨b, o, none⟩) ∧ Below W10.heap.size W10 w') (by kernel_rfl) ?_ (fun Wd hWd hS => ?_)
                    · (try dsimp only)
                      exact sb_of hb1012.drew
                    (try dsimp only at hS)
                    refine wpU_take 0 (v := ?_) rfl (by kernel_rfl) (fun _ _ _ h => h) hS (Or.inl ⟨rfl, ?_⟩) ?_
                    rotate_left
                    · (intro w' hSw; (try dsimp only at hSw); go_simp; first | done | with_reducible rfl)
                    (try simp only [Act.put, List.setIfInBounds_toArray, List.set_cons_zero, List.set_cons_succ])
                    refine wpU_take 1 (v := ?_) rfl (by kernel_rfl) (fun _ _ _ h => h) hS (Or.inl ⟨rfl, ?_⟩) ?_
                    rotate_left
                    · (intro w' hSw; (try dsimp only at hSw); go_simp; first | done | with_reducible rfl)
                    (try simp only [Act.put, List.setIfInBounds_toArray, List.set_cons_zero, List.set_cons_succ])
                    refine wpU_take 2 (v := ?_) rfl (by kernel_rfl) (fun _ _ _ h => h) hS (Or.inl ⟨rfl, ?_⟩) ?_
                    rotate_left
                    · (intro w' hSw; (try dsimp only at hSw); go_simp; first | done | with_reducible rfl)
                    (try simp only [Act.put, List.setIfInBounds_toArray, List.set_cons_zero, List.set_cons_succ])
                    refine wpU_take 3 (v := ?_) rfl (by kernel_rfl) (fun _ _ _ h => h) hS (Or.inl ⟨rfl, ?_⟩) ?_
                    rotate_left
                    · (intro w' hSw; (try dsimp only at hSw); go_simp; first | done | with_reducible rfl)
                    (try simp only [Act.put, List.setIfInBounds_toArray, List.set_cons_zero, List.set_cons_succ])
                    refine wpU_take 8 (v := ?_) rfl (by kernel_rfl) (fun _ _ _ h => h) hS (Or.inl ⟨rfl, ?_⟩) ?_
                    rotate_left
                    · (intro w' hSw; (try dsimp only at hSw); go_simp; first | done | with_reducible rfl)
                    (try simp only [Act.put, List.setIfInBounds_toArray, List.set_cons_zero, List.set_cons_succ])
                    refine wpT_one 4 rfl (by kernel_rfl) (fun K hK => ?_)
                    go_simp
                    go_at_call 44
                    refine (CM.out _).mono ?_
                    rintro e wo ⟨rfl, rfl⟩
                    have hbS := hS.2
                    refine hK.out _ _ ?_ (fun hS => ?_)
                    · (try dsimp only)
                      exact sb_of hbS
                    clear hK K
                    (try simp only [Act.put, List.setIfInBounds_toArray, List.set_cons_zero, List.set_cons_succ])
                    (try dsimp only at hS)
                    refine wpU_take 5 (v := ?_) rfl (by kernel_rfl) (fun _ _ _ h => h) hS (Or.inl ⟨rfl, ?_⟩) ?_
                    rotate_left
                    · (intro w' hSw; (try dsimp only at hSw); go_simp; first | done | with_reducible rfl)
                    (try simp only [Act.put, List.setIfInBounds_toArray, List.set_cons_zero, List.set_cons_succ])
                    refine wpT_one 6 rfl (by kernel_rfl) (fun K hK => ?_)
                    go_simp
                    refine k_world (fun Wq hWq => ?_)
                    obtain ⟨q107, eqq, hQ107, hbQ, hsQ⟩ := new1n hWq
                    clear hWq
                    try rw [eqq]
                    have hbS := hS.2.trans (hbQ.mono (by have := hS.2.size; omega))
                    refine hK.out _ _ ?_ (fun hS => ?_)
                    · (try dsimp only)
                      exact sb_of hbS
                    clear hK K
                    (try simp only [Act.put, List.setIfInBounds_toArray, List.set_cons_zero, List.set_cons_succ])
                    (try dsimp only at hS)
                    refine wpU_take 7 (v := ?_) rfl (by kernel_rfl) (fun _ _ _ h => h) hS (Or.inl ⟨rfl, ?_⟩) ?_
                    rotate_left
                    · (intro w' hSw; (try dsimp only at hSw); go_simp; first | done | with_reducible rfl)
                    (try simp only [Act.put, List.setIfInBounds_toArray, List.set_cons_zero, List.set_cons_succ])
                    refine wpU_done (by kernel_rfl) ?_
                    have hb13 : Below W10.heap.size W10 Wq := hS.2
                    have HAT : Hid (∀ t : Nat, t < 3 → ∃ at_ : Int, Wq.cell? ⟨q107, t, none⟩ = some (.int .i64 at_)) := Lib.hid (by
                      have h := hQ107.three.1
                      intro t ht
                      match t, ht with
                      | 0, _ => exact ⟨_, h.1⟩
                      | 1, _ => exact ⟨_, h.2.1⟩
                      | 2, _ => exact ⟨_, h.2.2⟩)
                    have zq107 := hQ107.lt
                    have hQm13 := hQm.below hb13 zm
                    obtain ⟨⟨n0, n1, n2⟩, _⟩ := hQm13.three
                    have zm13 := hQm13.lt
                    have h13 := hb13.cell (p := ⟨qh, 0, none⟩) zh10
                    rw [h10] at h13
                    have zh13 : qh < Wq.heap.size := by have := hb13.size; omega
                    have hrB13 := (hrB10.below hb13 (Nat.le_refl _)).more hb13.size
                    have hri13 := (hri10.below hb13 (Nat.le_refl _)).more hb13.size
                    have hb913 := hb10.trans (hb13.mono z10)
                    clear hS hWd hQ107 hsQ hbQ hb1012 hQm m0 m1 m2 h10 k10 zh10 zk10 hrB10 hri10 hb10 hb13 z10
                    have hs913 := hb913.size
                    go_wp2_with fail
                    go_loopw [18, 109] (fun _ s109 wr => ∃ k : Nat, k ≤ 3 ∧ s109 = .int .i64 k ∧ Below Wq.heap.size Wq wr) (fun _ s109 _ => 3 - (intOf s109).toNat)
                    case atStart => exact ⟨0, by omega, rfl, Below.refl _ _⟩
                    case round =>
                      obtain ⟨k, hk, rfl, hbr⟩ := hrel
                      have hcr := (sb_of hbr).1
                      have zs := hbr.size
                      by_cases hk3 : k < 3
                      · have t0 : (0 : Int) ≤ (k : Int) := by omega
                        have t3 : (k : Int) < 3 := by omega
                        obtain ⟨at_, hat⟩ := HAT.out k hk3
                        have P1 := Lib.hid (CP.out at_)
                        have P2 := Lib.hid (CQ.out at_)
                        have hpl := hPD.out at_
                        generalize pW Wt Ht at_ Dt Di = pw at P1 P2
                        generalize pH Wt Ht at_ Dt Di = ph at P1 P2
                        generalize pE Wt Ht at_ Dt Di = pe at P1 P2
                        generalize pD Wt Ht at_ Dt Di = pd at P1 P2 hpl
                        have CS := Lib.hid (fun A A' c c' w h h' => ref04_Same pw ph A c pd pw ph A' c' pd w (by omega) (by omega) h h')
                        rw [show sameB pw ph pd pw ph pd = true from by simp [sameB]] at CS
                        go_wp2_with fail
                        refine (P1.out _ ((hrB13.below hbr (Nat.le_refl _)).more hbr.size) ((hri13.below hbr (Nat.le_refl _)).more hbr.size)).mono ?_
                        rintro e wa ⟨A19, c19, rfl, hr19, hba⟩
                        have hbx := hbr.trans (hba.mono hbr.size)
                        clear hcr zs hba
                        go_upto_region 21 with fail
                        refine wp_world (fun W14 hW14 => ?_)
                        obtain ⟨hQ19, hbn, hsn⟩ := new1 hW14
                        clear hW14
                        replace hr19 := (hr19.below hbn (Nat.le_refl _)).more hbn.size
                        replace hbx := hbx.trans (hbn.mono hbx.size)
                        generalize hqq : wa.heap.size = q19 at *
                        clear hqq hsn hbn
                        have hcr := (sb_of hbx).1
                        have zs := hbx.size
                        go_wp2_with fail
                        refine (P2.out _ ((hrB13.below hbx (Nat.le_refl _)).more hbx.size) ((hri13.below hbx (Nat.le_refl _)).more hbx.size)).mono ?_
                        rintro e wb ⟨A21, c21, rfl, hr21, hba⟩
                        replace hr19 := (hr19.below hba (Nat.le_refl _)).more hba.size
                        replace hQ19 := hQ19.below hba hQ19.lt
                        replace hbx := hbx.trans (hba.mono hbx.size)
                        clear hcr zs hba
                        go_upto_region 22 with fail
                        refine wp_world (fun W15 hW15 => ?_)
                        obtain ⟨hQ21, hbn, hsn⟩ := new1 hW15
                        clear hW15
                        replace hr19 := (hr19.below hbn (Nat.le_refl _)).more hbn.size
                        replace hr21 := (hr21.below hbn (Nat.le_refl _)).more hbn.size
                        replace hQ19 := hQ19.below hbn hQ19.lt
                        replace hbx := hbx.trans (hbn.mono hbx.size)
                        generalize hqq : wb.heap.size = q21 at *
                        clear hqq hsn hbn
                        obtain ⟨⟨s0, s1, s2⟩, _⟩ := hQ19.three
                        obtain ⟨⟨u0, u1, u2⟩, _⟩ := hQ21.three
                        go_wp2_with fail
                        refine (CS.out _ _ _ _ _ hr19 hr21).mono ?_
                        rintro e wd ⟨rfl, hbd⟩
                        have hbz := hbx.trans (hbd.mono hbx.size)
                        go_wp2
                        go_roundw
                        case rel => exact ⟨k + 1, by omega, by go_num, hbz⟩
                        case measure => simp [intOf]; omega
                      · have t3 : ¬ (k : Int) < 3 := by omega
                        go_wp2
                        go_roundw
                        case rel => exact ⟨j + 1, by omega, by go_num, hb913.trans (hbr.mono hs913)⟩
                        case measure => simp [intOf]; omega
                · have j3 : ¬ (j : Int) < 3 := by omega
                  go_wp2
                  go_roundw
                  case rel => exact ⟨i + 1, by omega, by go_num, hb69.trans (hbr.mono hsz9)⟩
                  case measure => simp [intOf]; omega
          · have i4 : ¬ (i : Int) < 4 := by omega
            go_wp2
            go_ret
            exact ⟨rfl, by rw [HP.out]; exact hlow.trans (hbr.mono hsz6)⟩
end Go.Proofs.Ytlanefdeeanpnaa
