/-
  Contracts of both Differ functions.
-/
import Derived.Test.YtlanefdeeanpnaaSeeAll
import Derived.Deep.DeepCutAuto
namespace Go.Proofs.Ytlanefdeeanpnaa
set_option linter.unusedVariables false
set_option linter.unusedSimpArgs false
open Go.RowKit
attribute [local go_sem ↓] Go.wp_at_zero Go.wp_at_succ

/-- A pair is returned and what stood stands. -/
def PairRes (r : Int × Int) (w : World) (e : Ending) (w' : World) : Prop := Below w.heap.size w w' ∧ e = .returned (.tuple #[.int .i64 r.1, .int .i64 r.2])

set_option maxHeartbeats 2000000 in
set_option maxRecDepth 100000 in
theorem reader_Differ (B S W1 H1 W2 H2 : Int) (A1 A2 : Option Addr) (c1 c2 : Nat) (D1 D2 : List Bool) (w : World) (hn1 : D1.length ≤ 9223372036854775807) (hn2 : D2.length ≤ 9223372036854775807) (hr1 : Rd Value.bool w w.heap.size A1 D1) (hr2 : Rd Value.bool w w.heap.size A2 D2) :
    Calls Try.prog 28 #[.agg #[.int .i64 B, .int .i64 S], .agg #[.int .i64 W1, .int .i64 H1, .slice A1 D1.length c1], .agg #[.int .i64 W2, .int .i64 H2, .slice A2 D2.length c2]] w (PairRes (diffSpec B S W1 H1 D1 W2 H2 D2) w) := by
  have C1 := Lib.hid (fun w h => reader_See B S W1 H1 A1 c1 D1 w hn1 h)
  have C2 := Lib.hid (fun w h => reader_See B S W2 H2 A2 c2 D2 w hn2 h)
  have K1 := Lib.hid (seeSpec_ways B S W1 H1 D1)
  have K2 := Lib.hid (seeSpec_ways B S W2 H2 D2)
  have DS := Lib.hid (show diffSpec B S W1 H1 D1 W2 H2 D2 = _ from by unfold diffSpec; rfl)
  generalize seeSpec B S W1 H1 D1 = r1 at C1 K1 DS
  generalize seeSpec B S W2 H2 D2 = r2 at C2 K2 DS
  obtain ⟨x1, y1, l1, e1⟩ := r1
  obtain ⟨x2, y2, l2, e2⟩ := r2
  have HR1 := Lib.hid hr1
  have HR2 := Lib.hid hr2
  clear hr1 hr2 hn1 hn2
  go_enter Try.func28, Try.ntmps28
  go_wp2_with fail
  refine calls_world (fun W0 hW0 => ?_)
  obtain ⟨hB0, hB1, hB2, hbw, hsz⟩ := new3 hW0
  clear hW0
  generalize hp : w.heap.size = p at *
  have HP := Lib.hid hp
  clear hp
  refine (C1.out _ ((HR1.out.below hbw (Nat.le_refl _)).more (by have := hB2.lt; omega))).mono ?_
  rintro e w1 ⟨hb1, A1', c1', rfl, hr1⟩
  have hbw := hbw.trans (hb1.mono (by omega))
  have z1 := hB2.lt
  have hB0 := hB0.below hb1 hB0.lt
  have hB1 := hB1.below hb1 hB1.lt
  have hB2 := hB2.below hb1 hB2.lt
  clear hb1
  dsimp only at hr1 ⊢
  have hr1 := Lib.hid hr1
  have hz0 : p < w1.heap.size := hB0.lt
  have hz2 : p + 1 + 1 < w1.heap.size := hB2.lt
  obtain ⟨⟨d0, d1⟩, _⟩ := hB0.two
  obtain ⟨⟨g0, g1, g2⟩, _⟩ := hB2.three
  by_cases h1 : e1 = 0
  · subst h1
    go_wp2_with fail
    refine calls_world (fun Wq hWq => ?_)
    obtain ⟨hq1, hbq, hsq⟩ := new1 hWq
    clear hWq
    have hB0 := hB0.below hbq hz0
    have hB1 := hB1.below hbq hB1.lt
    have hB2 := hB2.below hbq hB2.lt
    have hr1 := Lib.hid (hr1.out.below hbq (Nat.le_refl _))
    have hbw := hbw.trans (hbq.mono (by omega))
    clear d0 d1 g0 g1 g2
    generalize hq : w1.heap.size = q1 at *
    clear hq
    refine (C2.out _ ((HR2.out.below hbw (Nat.le_refl _)).more (by have := hB2.lt; omega))).mono ?_
    rintro e w3 ⟨hb2, A2', c2', rfl, hr2⟩
    dsimp only at hr2 ⊢
    have hr2 := Lib.hid hr2
    have hr1 := Lib.hid (hr1.out.below hb2 (by omega))
    have hbw := hbw.trans (hb2.mono (by have := hB0.lt; omega))
    have hB1 := hB1.below hb2 hB1.lt
    have hB2 := hB2.below hb2 hB2.lt
    have hq1 := hq1.below hb2 hq1.lt
    have hz1 : p + 1 < w3.heap.size := hB1.lt
    have hz2 : p + 1 + 1 < w3.heap.size := hB2.lt
    have hzq : q1 < w3.heap.size := hq1.lt
    obtain ⟨⟨d0, d1, d2⟩, _⟩ := hB1.three
    obtain ⟨⟨g0, g1, g2⟩, _⟩ := hB2.three
    obtain ⟨⟨u0, u1, u2⟩, _⟩ := hq1.three
    by_cases h2 : e2 = 0
    · subst h2
      by_cases h3 : W1 = W2 ∧ H1 = H2
      · have h31 : (W1 != W2) = false := by simp [h3]
        have h32 : (H1 != H2) = false := by simp [h3]
        have HL := Lib.hid (show l1.length = l2.length ∧ D1.length = l1.length ∧ l1.length ≤ 9216 ∧ diffSpec B S W1 H1 D1 W2 H2 D2 = (((dif l1 l2 l1.length : Nat) : Int), (0 : Int)) by
          have ds := DS.out
          rw [if_pos h3] at ds
          obtain ⟨m, n, h11, h12, hm, hn, e, hok, hD1⟩ := K1.out.resolve_left (by simp)
          obtain ⟨m', n', h33, h34, hm', hn', e', hok', hD2⟩ := K2.out.resolve_left (by simp)
          have hl1 := seeL_len m n D1 B.toNat S
          have hl2 := seeL_len m' n' D2 B.toNat S
          have hm2 : m' = m := by omega
          have hn2 : n' = n := by omega
          subst hm2 hn2
          simp only [Prod.mk.injEq] at e e'
          rw [e.2.2.1, e'.2.2.1, hl1, hl2]
          rw [e.2.2.1, e'.2.2.1] at ds
          have hmn : m' * n' ≤ 96 * 96 := Nat.mul_le_mul hm hn
          refine ⟨rfl, hD1, hmn, ?_⟩
          rw [ds, hD1]
          rfl)
        clear h3
        go_wp2_with fail
        refine wp_world (fun W4 hW4 => ?_)
        obtain ⟨hq2, hbq2, hsq2⟩ := new1 hW4
        clear hW4
        have hr1 := hr1.out.below hbq2 (by omega)
        have hr2 := hr2.out.below hbq2 (Nat.le_refl _)
        have hq1 := hq1.below hbq2 hzq
        have hbw := hbw.trans (hbq2.mono (by omega))
        clear d0 d1 d2 g0 g1 g2 u0 u1 u2
        obtain ⟨⟨u0, u1, u2⟩, _⟩ := hq1.three
        obtain ⟨⟨v0, v1, v2⟩, _⟩ := hq2.three
        have hlen := Lib.hid HL.out.1
        have hle : l1.length ≤ 9216 := HL.out.2.2.1
        have HR1 := Lib.hid hr1
        have HR2 := Lib.hid hr2
        clear hr1 hr2
        go_loopw [11, 49] (fun cc kk wr => ∃ t : Nat, t ≤ l1.length ∧ kk = .int .i64 t ∧ cc = .int .i64 (dif l1 l2 t) ∧ wr = W4) (fun _ kk _ => l1.length - (intOf kk).toNat)
        case atStart => exact ⟨0, Nat.zero_le _, rfl, rfl, rfl⟩
        case round =>
          obtain ⟨t, ht, rfl, rfl, rfl⟩ := hrel
          have hdl := dif_le l1 l2 t
          by_cases hlt : t < l1.length
          · have hlt2 : t < l2.length := by have := hlen.out; omega
            obtain ⟨gb, go, rfl, _, hcc⟩ := HR1.out.at_ hlt
            obtain ⟨gb', go', rfl, _, hcc'⟩ := HR2.out.at_ hlt2
            have hc := hcc t hlt
            have hc' := hcc' t hlt2
            have hll : (t : Int) < (l2.length : Int) := by omega
            have HY := Lib.hid (dif_yes l1 l2 t hlt hlt2)
            have HX := Lib.hid (dif_no l1 l2 t hlt hlt2)
            clear hcc hcc'
            generalize l1[t] = u at hc HX HY
            generalize l2[t] = u' at hc' HX HY
            clear hlt2
            go_wp2
            · have hd : u ≠ u' := by rename_i h; simpa using h
              go_roundw
              case rel => exact ⟨t + 1, by omega, by go_num, by rw [HY.out (by simp [hd])]; go_num, trivial⟩
              case measure => simp [intOf]; omega
            · have hd : u = u' := by rename_i h; simpa using h
              go_roundw
              case rel => exact ⟨t + 1, by omega, by go_num, by rw [HX.out (by simp [hd])], trivial⟩
              case measure => simp [intOf]; omega
          · have hte : t = l1.length := by omega
            subst hte
            go_wp2
            refine bodyPost_ret (v := .tuple #[.int .i64 (dif l1 l2 l1.length), .int .i64 0]) (by simp [results, Try.results28, go_sem]) rfl ?_
            unfold PairRes
            rw [HP.out, HL.out.2.2.2]
            exact ⟨hbw, rfl⟩
      · have h3' : ((W1 != W2) || (H1 != H2)) = true := by
          by_cases h4 : W1 = W2
          · have h5 : H1 ≠ H2 := fun h5 => h3 ⟨h4, h5⟩
            simp [h5]
          · simp [h4]
        by_cases h4 : W1 = W2
        · have h5 : (H1 != H2) = true := by simpa [h4] using h3'
          have h4' : (W1 != W2) = false := by simp [h4]
          clear h4
          go_wp2
          refine bodyPost_ret (v := .tuple #[.int .i64 0, .int .i64 13]) (by simp [results, Try.results28, go_sem]) rfl ?_
          unfold PairRes
          rw [HP.out]
          refine ⟨hbw.alloc (by omega) _, ?_⟩
          rw [DS.out]
          simp [h3]
        · have h4' : (W1 != W2) = true := by simp [h4]
          go_wp2
          refine bodyPost_ret (v := .tuple #[.int .i64 0, .int .i64 13]) (by simp [results, Try.results28, go_sem]) rfl ?_
          unfold PairRes
          rw [HP.out]
          refine ⟨hbw.alloc (by omega) _, ?_⟩
          rw [DS.out]
          simp [h3]
    · have h2' : (e2 != 0) = true := by simp [h2]
      go_wp2
      refine bodyPost_ret (v := .tuple #[.int .i64 0, .int .i64 e2]) (by simp [results, Try.results28, go_sem]) rfl ?_
      unfold PairRes
      rw [HP.out]
      refine ⟨hbw.alloc (by omega) _, ?_⟩
      rw [DS.out]
      simp [h2]
  · have h1' : (e1 != 0) = true := by simp [h1]
    go_wp2
    refine bodyPost_ret (v := .tuple #[.int .i64 0, .int .i64 e1]) (by simp [results, Try.results28, go_sem]) rfl ?_
    unfold PairRes
    rw [HP.out]
    refine ⟨hbw.alloc (by omega) _, ?_⟩
    rw [DS.out]
    simp [h1]
set_option maxHeartbeats 2000000 in
set_option maxRecDepth 100000 in
theorem ref21_Differ (B S W1 H1 W2 H2 : Int) (A1 A2 : Option Addr) (c1 c2 : Nat) (D1 D2 : List Bool) (w : World) (hn1 : D1.length ≤ 9223372036854775807) (hn2 : D2.length ≤ 9223372036854775807) (hr1 : Rd Value.bool w w.heap.size A1 D1) (hr2 : Rd Value.bool w w.heap.size A2 D2) :
    Calls Try.prog 29 #[.agg #[.int .i64 B, .int .i64 S], .agg #[.int .i64 W1, .int .i64 H1, .slice A1 D1.length c1], .agg #[.int .i64 W2, .int .i64 H2, .slice A2 D2.length c2]] w (PairRes (diffSpec B S W1 H1 D1 W2 H2 D2) w) := by
  have C1 := Lib.hid (fun w h => ref21_See B S W1 H1 A1 c1 D1 w hn1 h)
  have C2 := Lib.hid (fun w h => ref21_See B S W2 H2 A2 c2 D2 w hn2 h)
  have K1 := Lib.hid (seeSpec_ways B S W1 H1 D1)
  have K2 := Lib.hid (seeSpec_ways B S W2 H2 D2)
  have DS := Lib.hid (show diffSpec B S W1 H1 D1 W2 H2 D2 = _ from by unfold diffSpec; rfl)
  generalize seeSpec B S W1 H1 D1 = r1 at C1 K1 DS
  generalize seeSpec B S W2 H2 D2 = r2 at C2 K2 DS
  obtain ⟨x1, y1, l1, e1⟩ := r1
  obtain ⟨x2, y2, l2, e2⟩ := r2
  have HR1 := Lib.hid hr1
  have HR2 := Lib.hid hr2
  clear hr1 hr2 hn1 hn2
  go_enter Try.func29, Try.ntmps29
  go_wp2_with fail
  refine calls_world (fun W0 hW0 => ?_)
  obtain ⟨hB0, hB1, hB2, hbw, hsz⟩ := new3 hW0
  clear hW0
  generalize hp : w.heap.size = p at *
  have HP := Lib.hid hp
  clear hp
  refine (C1.out _ ((HR1.out.below hbw (Nat.le_refl _)).more (by have := hB2.lt; omega))).mono ?_
  rintro e w1 ⟨hb1, A1', c1', rfl, hr1⟩
  have hbw := hbw.trans (hb1.mono (by omega))
  have z1 := hB2.lt
  have hB0 := hB0.below hb1 hB0.lt
  have hB1 := hB1.below hb1 hB1.lt
  have hB2 := hB2.below hb1 hB2.lt
  clear hb1
  dsimp only at hr1 ⊢
  have hr1 := Lib.hid hr1
  have hz0 : p < w1.heap.size := hB0.lt
  have hz2 : p + 1 + 1 < w1.heap.size := hB2.lt
  obtain ⟨⟨d0, d1⟩, _⟩ := hB0.two
  obtain ⟨⟨g0, g1, g2⟩, _⟩ := hB2.three
  by_cases h1 : e1 = 0
  · subst h1
    go_wp2_with fail
    refine calls_world (fun Wq hWq => ?_)
    obtain ⟨hq1, hbq, hsq⟩ := new1 hWq
    clear hWq
    have hB0 := hB0.below hbq hz0
    have hB1 := hB1.below hbq hB1.lt
    have hB2 := hB2.below hbq hB2.lt
    have hr1 := Lib.hid (hr1.out.below hbq (Nat.le_refl _))
    have hbw := hbw.trans (hbq.mono (by omega))
    clear d0 d1 g0 g1 g2
    generalize hq : w1.heap.size = q1 at *
    clear hq
    refine (C2.out _ ((HR2.out.below hbw (Nat.le_refl _)).more (by have := hB2.lt; omega))).mono ?_
    rintro e w3 ⟨hb2, A2', c2', rfl, hr2⟩
    dsimp only at hr2 ⊢
    have hr2 := Lib.hid hr2
    have hr1 := Lib.hid (hr1.out.below hb2 (by omega))
    have hbw := hbw.trans (hb2.mono (by have := hB0.lt; omega))
    have hB1 := hB1.below hb2 hB1.lt
    have hB2 := hB2.below hb2 hB2.lt
    have hq1 := hq1.below hb2 hq1.lt
    have hz1 : p + 1 < w3.heap.size := hB1.lt
    have hz2 : p + 1 + 1 < w3.heap.size := hB2.lt
    have hzq : q1 < w3.heap.size := hq1.lt
    obtain ⟨⟨d0, d1, d2⟩, _⟩ := hB1.three
    obtain ⟨⟨g0, g1, g2⟩, _⟩ := hB2.three
    obtain ⟨⟨u0, u1, u2⟩, _⟩ := hq1.three
    by_cases h2 : e2 = 0
    · subst h2
      by_cases h3 : W1 = W2 ∧ H1 = H2
      · have h31 : (W1 != W2) = false := by simp [h3]
        have h32 : (H1 != H2) = false := by simp [h3]
        have HL := Lib.hid (show l1.length = l2.length ∧ D1.length = l1.length ∧ l1.length ≤ 9216 ∧ diffSpec B S W1 H1 D1 W2 H2 D2 = (((dif l1 l2 l1.length : Nat) : Int), (0 : Int)) by
          have ds := DS.out
          rw [if_pos h3] at ds
          obtain ⟨m, n, h11, h12, hm, hn, e, hok, hD1⟩ := K1.out.resolve_left (by simp)
          obtain ⟨m', n', h33, h34, hm', hn', e', hok', hD2⟩ := K2.out.resolve_left (by simp)
          have hl1 := seeL_len m n D1 B.toNat S
          have hl2 := seeL_len m' n' D2 B.toNat S
          have hm2 : m' = m := by omega
          have hn2 : n' = n := by omega
          subst hm2 hn2
          simp only [Prod.mk.injEq] at e e'
          rw [e.2.2.1, e'.2.2.1, hl1, hl2]
          rw [e.2.2.1, e'.2.2.1] at ds
          have hmn : m' * n' ≤ 96 * 96 := Nat.mul_le_mul hm hn
          refine ⟨rfl, hD1, hmn, ?_⟩
          rw [ds, hD1]
          rfl)
        clear h3
        go_wp2_with fail
        refine wp_world (fun W4 hW4 => ?_)
        obtain ⟨hq2, hbq2, hsq2⟩ := new1 hW4
        clear hW4
        have hr1 := hr1.out.below hbq2 (by omega)
        have hr2 := hr2.out.below hbq2 (Nat.le_refl _)
        have hq1 := hq1.below hbq2 hzq
        have hbw := hbw.trans (hbq2.mono (by omega))
        clear d0 d1 d2 g0 g1 g2 u0 u1 u2
        obtain ⟨⟨u0, u1, u2⟩, _⟩ := hq1.three
        obtain ⟨⟨v0, v1, v2⟩, _⟩ := hq2.three
        have hlen := Lib.hid HL.out.1
        have hle : l1.length ≤ 9216 := HL.out.2.2.1
        have HR1 := Lib.hid hr1
        have HR2 := Lib.hid hr2
        clear hr1 hr2
        go_loopw [12, 13] (fun cc kk wr => ∃ t : Nat, t ≤ l1.length ∧ kk = .int .i64 t ∧ cc = .int .i64 (dif l1 l2 t) ∧ ∃ nq, wr = W4.drewN nq) (fun _ kk _ => l1.length - (intOf kk).toNat)
        case atStart => exact ⟨0, Nat.zero_le _, rfl, rfl, 0, rfl⟩
        case round =>
          obtain ⟨t, ht, rfl, rfl, nq, rfl⟩ := hrel
          have hdl := dif_le l1 l2 t
          by_cases hlt : t < l1.length
          · have hlt2 : t < l2.length := by have := hlen.out; omega
            obtain ⟨gb, go, rfl, _, hcc⟩ := HR1.out.at_ hlt
            obtain ⟨gb', go', rfl, _, hcc'⟩ := HR2.out.at_ hlt2
            have hc := hcc t hlt
            have hc' := hcc' t hlt2
            have hll : (t : Int) < (l2.length : Int) := by omega
            have HY := Lib.hid (dif_yes l1 l2 t hlt hlt2)
            have HX := Lib.hid (dif_no l1 l2 t hlt hlt2)
            clear hcc hcc'
            generalize l1[t] = u at hc HX HY
            generalize l2[t] = u' at hc' HX HY
            clear hlt2
            go_wp2
            go_quiet (fail)
            go_wp2
            · have hd : u ≠ u' := by rename_i h; simpa using h
              go_roundw
              case rel => exact ⟨t + 1, by omega, by go_num, by rw [HY.out (by simp [hd])]; go_num, _, rfl⟩
              case measure => simp [intOf]; omega
            · have hd : u = u' := by rename_i h; simpa using h
              go_roundw
              case rel => exact ⟨t + 1, by omega, by go_num, by rw [HX.out (by simp [hd])], _, rfl⟩
              case measure => simp [intOf]; omega
          · have hte : t = l1.length := by omega
            subst hte
            go_wp2
            refine bodyPost_ret (v := .tuple #[.int .i64 (dif l1 l2 l1.length), .int .i64 0]) (by simp [results, Try.results29, go_sem]) rfl ?_
            unfold PairRes
            rw [HP.out, HL.out.2.2.2]
            exact ⟨below_drewN hbw _, rfl⟩
      · have h3' : ((W1 != W2) || (H1 != H2)) = true := by
          by_cases h4 : W1 = W2
          · have h5 : H1 ≠ H2 := fun h5 => h3 ⟨h4, h5⟩
            simp [h5]
          · simp [h4]
        by_cases h4 : W1 = W2
        · have h5 : (H1 != H2) = true := by simpa [h4] using h3'
          have h4' : (W1 != W2) = false := by simp [h4]
          clear h4
          go_wp2
          refine bodyPost_ret (v := .tuple #[.int .i64 0, .int .i64 13]) (by simp [results, Try.results29, go_sem]) rfl ?_
          unfold PairRes
          rw [HP.out]
          refine ⟨hbw.alloc (by omega) _, ?_⟩
          rw [DS.out]
          simp [h3]
        · have h4' : (W1 != W2) = true := by simp [h4]
          go_wp2
          refine bodyPost_ret (v := .tuple #[.int .i64 0, .int .i64 13]) (by simp [results, Try.results29, go_sem]) rfl ?_
          unfold PairRes
          rw [HP.out]
          refine ⟨hbw.alloc (by omega) _, ?_⟩
          rw [DS.out]
          simp [h3]
    · have h2' : (e2 != 0) = true := by simp [h2]
      go_wp2
      refine bodyPost_ret (v := .tuple #[.int .i64 0, .int .i64 e2]) (by simp [results, Try.results29, go_sem]) rfl ?_
      unfold PairRes
      rw [HP.out]
      refine ⟨hbw.alloc (by omega) _, ?_⟩
      rw [DS.out]
      simp [h2]
  · have h1' : (e1 != 0) = true := by simp [h1]
    go_wp2
    refine bodyPost_ret (v := .tuple #[.int .i64 0, .int .i64 e1]) (by simp [results, Try.results29, go_sem]) rfl ?_
    unfold PairRes
    rw [HP.out]
    refine ⟨hbw.alloc (by omega) _, ?_⟩
    rw [DS.out]
    simp [h1]
end Go.Proofs.Ytlanefdeeanpnaa
