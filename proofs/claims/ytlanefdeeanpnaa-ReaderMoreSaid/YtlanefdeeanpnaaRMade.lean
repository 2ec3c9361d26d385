/-
  Contract of Made of layer 21's reference. Conditions: none.
-/
import Derived.Test.YtlanefdeeanpnaaRCheck
import Derived.Deep.DeepCutAuto
import Derived.Deep.RegionWith
namespace Go.Proofs.Ytlanefdeeanpnaa
set_option linter.unusedVariables false
set_option linter.unusedSimpArgs false
open Go.RowKit
attribute [local go_sem ↓] Go.wp_at_zero Go.wp_at_succ

def mdB (a : Int) : Int := a % 3
def mdS (a b : Int) : Int := 1 + b % ((2 * mdB a + 1) * (2 * mdB a + 1))
theorem md_ok (a b : Int) : rdOk (mdB a) (mdS a b) = true := by
  have h1 : 0 ≤ mdB a := Int.emod_nonneg _ (by omega)
  have h2 : mdB a < 3 := Int.emod_lt_of_pos _ (by omega)
  have hq := side_sq h1 (by omega)
  have h3 : 0 ≤ b % ((2 * mdB a + 1) * (2 * mdB a + 1)) := Int.emod_nonneg _ (by omega)
  have h4 : b % ((2 * mdB a + 1) * (2 * mdB a + 1)) < (2 * mdB a + 1) * (2 * mdB a + 1) := Int.emod_lt_of_pos _ (by omega)
  apply rd_mk
  unfold mdS
  omega

set_option maxRecDepth 100000 in
theorem ref21_Made (a b : Int) (w : World) :
    Calls Try.prog 66 #[.int .i64 a, .int .i64 b] w fun e w' => e = .returned (.agg #[.int .i64 (mdB a), .int .i64 (mdS a b)]) ∧ Below w.heap.size w w' := by
  have hok := rd_yes (md_ok a b)
  obtain ⟨h0, h1, h2, h3⟩ := hok
  have hq := side_sq h0 h1
  have hS := Lib.hid (show mdS a b = 1 + b % ((2 * mdB a + 1) * (2 * mdB a + 1)) from rfl)
  have hBv := Lib.hid (show a % 3 = mdB a from rfl)
  clear h2 h3
  generalize mdB a = B at *
  generalize hM : (2 * B + 1) * (2 * B + 1) = M at *
  have hsq : IntKind.i64.wrap ((2 * B + 1) * (2 * B + 1)) = M := by rw [hM]; exact IntWalk.i64_in _ (by omega)
  have hm0 : 0 ≤ b % M := Int.emod_nonneg _ (by omega)
  have hm1 : b % M < M := Int.emod_lt_of_pos _ (by omega)
  generalize hT : b % M = T at *
  have HT := Lib.hid hT
  have HM := Lib.hid hM
  clear hT hM
  have hadd : IntKind.i64.wrap (1 + T) = 1 + T := IntWalk.i64_in _ (by omega)
  go_enter Try.func66, Try.ntmps66
  go_upto_region 2 with (go_at_call 44; refine (Mod_any a 3 _ (by omega) (by omega)).mono ?_; rw [hBv.out]; rintro e w1 ⟨rfl, rfl⟩)
  have hB1 := Blk.new (w.alloc (.cells #[.int .i64 0, .int .i64 0] 26)) 26 #[.int .i64 B, .int .i64 0]
  have hB0 := (Blk.new w 26 #[.int .i64 0, .int .i64 0]).alloc (.cells #[.int .i64 B, .int .i64 0] 26)
  have hW0 := ((Below.refl w.heap.size w).alloc (Nat.le_refl _) (.cells #[.int .i64 0, .int .i64 0] 26)).alloc (by simp) (.cells #[.int .i64 B, .int .i64 0] 26)
  rw [World.size_alloc] at hB1
  generalize (w.alloc (.cells #[.int .i64 0, .int .i64 0] 26)).alloc (.cells #[.int .i64 B, .int .i64 0] 26) = W at hB0 hB1 hW0 ⊢
  generalize hp : w.heap.size = p at *
  go_cut [] (fun wx => ∃ w3, Below W.heap.size W w3 ∧ wx = w3.setCell ⟨p + 1, 1, none⟩ (.int .i64 (1 + T)))
  case first =>
    obtain ⟨⟨c0, c1⟩, f0, f1⟩ := hB1.two
    have hpW := hB1.lt
    have hbw := Below.refl W.heap.size W
    go_region_with (first
      | (go_at_call 67; refine (ref21_side _ _ _ h0 h1).mono ?_; rintro e w1 ⟨rfl, hb1⟩; have c0 := (hb1.cell (p := ⟨p + 1, 0, none⟩) hpW).trans c0; have c1 := (hb1.cell (p := ⟨p + 1, 1, none⟩) hpW).trans c1; have f1 := (hb1.frozen (p := ⟨p + 1, 1, none⟩) hpW).trans f1; have hpW := Nat.lt_of_lt_of_le hpW hb1.size; have hbw : Below W.heap.size W w1 := (by first | exact hbw.trans (hb1.mono hbw.size) | exact hbw.drew.trans (hb1.mono hbw.size)))
      | (go_at_call 44; refine (Mod_any b M _ (by omega) (by omega)).mono ?_; rw [HT.out]; rintro e w1 ⟨rfl, rfl⟩))
    all_goals (go_wp2_with fail; go_meet; exact ⟨_, hbw, rfl⟩)
  case rest =>
    obtain ⟨w3, hb3, rfl⟩ := hcut
    obtain ⟨⟨c0, c1⟩, f0, f1⟩ := (hB1.below hb3 hB1.lt).two
    obtain ⟨⟨d0, d1⟩, e0, e1⟩ := (hB0.below hb3 hB0.lt).two
    go_wp2
    refine bodyPost_ret (v := .agg #[.int .i64 B, .int .i64 (1 + T)]) (by simp [results, Try.results66, go_sem, c0, c1, d0, d1]) rfl ⟨by rw [hS.out], ?_⟩
    rw [hp]
    exact below_set (below_set (below_set (hW0.trans (hb3.mono (by have := hW0.size; omega))) (by omega) _) (by omega) _) (by omega) _

end Go.Proofs.Ytlanefdeeanpnaa
