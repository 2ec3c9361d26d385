/-
  The law's shown and sanity.
-/
import Derived.Test.YtlanefdeeanpnaaParse
import Derived.Test.YtlanefdeeanpnaaDiffer
namespace Go.Proofs.Ytlanefdeeanpnaa
set_option linter.unusedVariables false
set_option linter.unusedSimpArgs false
open Go.RowKit
attribute [local go_sem ↓] Go.wp_at_zero Go.wp_at_succ

set_option maxHeartbeats 4000000 in
theorem shown_S0 (S : Int) (T : ByteArray) (w : World) (h : rdOk 1 S = true) : Calls Try.prog 63 #[.agg #[.int .i64 1, .int .i64 S], .string S0, .string T] w fun e w' => e = .returned (.bool ((txP 3 3 (seeL 3 3 D0 1 S) 3).toList == T.toList)) ∧ Below w.heap.size w w' := by
  have hsp : seeSpec 1 S 3 3 D0 = ((3 : Int), (3 : Int), seeL 3 3 D0 1 S, (0 : Int)) := by
    have e : bmCheck 3 3 D0.length = 0 := by decide
    simp [seeSpec, h, e]
  have HSee := Lib.hid (fun A c w hr => reader_See 1 S 3 3 A c D0 w (by decide) hr)
  rw [hsp] at HSee
  clear hsp
  have hlen : (seeL 3 3 D0 1 S).length = 9 := seeL_len 3 3 D0 1 S
  have HTx := Lib.hid (fun A c w hr => ref04_Text 3 3 A c (seeL 3 3 D0 1 S) w (by decide) (by decide) (by rw [hlen]; decide) hr)
  generalize seeL 3 3 D0 1 S = L at *
  have HPa := Lib.hid (fun w => parse_S0 w)
  generalize S0 = s at *
  generalize txP 3 3 L 3 = tx at *
  go_enter Try.func63, Try.ntmps63
  go_wp2_with fail
  refine calls_world (fun W0 hW0 => ?_)
  obtain ⟨hB, hbw, hsz⟩ := new1 hW0
  clear hW0
  generalize hp : w.heap.size = p at *
  have HP := Lib.hid hp
  clear hp
  refine (HPa.out _).mono ?_
  rintro e w1 ⟨g, rfl, hg, hO, hb1⟩
  dsimp only
  have hB := hB.below hb1 hB.lt
  have hbw := hbw.trans (hb1.mono (by omega))
  have hpl : p < w1.heap.size := hB.lt
  obtain ⟨⟨d0, d1⟩, _⟩ := hB.two
  go_wp2_with fail
  refine calls_world (fun W1 hW1 => ?_)
  obtain ⟨hQ, hbq, hszq⟩ := new1 hW1
  clear hW1
  have hgl := hO.lt
  have hr := (hO.rd hgl).below hbq (Nat.le_refl _)
  have hbw := hbw.trans (hbq.mono (by omega))
  clear d0 d1 hB
  refine (HSee.out _ 9 _ (hr.more (by omega))).mono ?_
  rintro e w2 ⟨hb2, A', c', rfl, hr2⟩
  dsimp only at hr2 ⊢
  have hr2 := Lib.hid hr2
  have hbw := hbw.trans (hb2.mono (by omega))
  go_wp2_with fail
  refine calls_world (fun W2 hW2 => ?_)
  obtain ⟨hQ2, hbq2, hszq2⟩ := new1 hW2
  clear hW2
  have hr3 := hr2.out.below hbq2 (Nat.le_refl _)
  have hbw := hbw.trans (hbq2.mono (by have := hb2.size; omega))
  have HTx' := HTx.out A' c' W2 (hr3.more (by omega))
  rw [hlen] at HTx'
  refine HTx'.mono ?_
  rintro e w3 ⟨rfl, hb3⟩
  go_wp2
  go_ret
  refine ⟨rfl, ?_⟩
  rw [HP.out]
  exact hbw.trans (hb3.mono (by have := hb2.size; omega))

def T1 : ByteArray := ⟨#[46, 35, 35, 10, 46, 35, 35, 10, 46, 46, 46, 10]⟩
def T2 : ByteArray := ⟨#[46, 35, 35, 10, 46, 35, 35, 10, 46, 35, 35, 10]⟩
theorem T1_is : ((txP 3 3 (seeL 3 3 D0 1 3) 3).toList == T1.toList) = true := by decide +kernel
theorem T2_is : ((txP 3 3 (seeL 3 3 D0 1 2) 3).toList == T2.toList) = true := by decide +kernel
theorem sane_dif : diffSpec 1 3 3 3 D0 3 3 (List.replicate 9 false) = (4, 0) := by decide +kernel
end Go.Proofs.Ytlanefdeeanpnaa
