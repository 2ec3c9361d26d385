/-
  Contract of Text of the program's bitmap package, at bitmaps that pass Check: the same text as the reference's. Conditions: the sides are at most 96, the dots are read.
-/
import Derived.Test.YtlanefdeeanpnaaText
import Derived.Test.YtlanefdeeanpnaaBuild
import Derived.Lib.AppendStr
import Derived.Lib.UnsafeStr
import Derived.Test.YtlanefdeeanpnaaBase2
namespace Go.Proofs.Ytlanefdeeanpnaa
set_option linter.unusedVariables false
set_option linter.unusedSimpArgs false
open Go.RowKit
attribute [local go_sem ↓] Go.wp_at_zero Go.wp_at_succ

theorem sb_below {T e : TypeId} {B b : Nat} {bs : List Value} {w w' : World} (h : Lib.IsBuilder T e B b bs w) (hb : Below w.heap.size w w') : Lib.IsBuilder T e B b bs w' := by
  have hh : ∀ p, Lib.BuilderAt T e B b p bs w → Lib.BuilderAt T e B b p bs w' := fun p hp => by
    have hlt := hp.lt
    obtain ⟨h1, v, h2, h3, h4⟩ := hp
    exact ⟨h1, v, (hb.block b hlt).trans h2, own_below h3 hb, h4⟩
  exact h.elim (fun h => .inl (hh _ h)) (fun h => .inr (hh _ h))
theorem sb_alloc {T e : TypeId} {B b : Nat} {bs : List Value} {w : World} (h : Lib.IsBuilder T e B b bs w) (o : Obj) : Lib.IsBuilder T e B b bs (w.alloc o) := sb_below h ((Below.refl _ _).alloc (Nat.le_refl _) _)
theorem str_snoc (s : ByteArray) (x : UInt8) : Lib.strCells s ++ [.int .u8 (x.toNat : Int)] = Lib.strCells (s ++ ⟨#[x]⟩) := by
  rw [Lib.strCells_eq, Lib.strCells_eq]
  have : (s ++ ⟨#[x]⟩).data.toList = s.data.toList ++ [x] := by simp
  rw [this, Lib.byteCells_append]
  rfl
theorem str_len (s : ByteArray) : (Lib.strCells s).length = s.size := by rw [Lib.strCells_eq, Lib.byteCells_length]; exact Array.length_toList
set_option maxHeartbeats 4000000 in
set_option maxRecDepth 100000 in
theorem bitmap_Text (m n : Nat) (A : Option Addr) (c : Nat) (D : List Bool) (w : World) (hm : m ≤ 96) (hn : n ≤ 96) (hD : D.length = m * n) (hr : Rd Value.bool w w.heap.size A D) :
    Calls Try.prog 104 #[.agg #[.int .i64 m, .int .i64 n, .slice A (m * n) c]] w fun e w' => e = .returned (.string (txP m n D n)) ∧ Below w.heap.size w w' := by
  have hmn : m * n ≤ 9216 := Nat.mul_le_mul hm hn
  have h0 : bmCheck m n (m * n) = 0 := by simp [bmCheck, sideB]; omega
  have CK := Lib.hid (fun w => bitmap_Check m n A (m * n) c w (by omega))
  rw [h0] at CK
  rw [← hD] at h0
  have CH := Lib.hid (fun (x y : Int) w h => bitmap_has m n A c D x y w h0 h)
  rw [hD] at CH
  have HG := Lib.hid (fun (x y : Nat) (hx : x < m) (hy : y < n) => getB_nat (m := m) (n := n) (D := D) h0 hx hy)
  have hgh : ∀ x y : Int, hasB m n D x y = getB m n D x y := fun x y => by simp [getB, h0]
  have HGH := Lib.hid hgh
  have HR := Lib.hid hr
  clear hr h0 hD hgh
  go_enter Try.func104, Try.ntmps104
  go_wp2_with fail
  refine calls_world (fun W0 hW0 => ?_)
  obtain ⟨hB0, hbw, hsz⟩ := new1 hW0
  clear hW0
  generalize hp : w.heap.size = p at *
  have HP := Lib.hid hp
  clear hp
  refine (CK.out _).mono ?_
  rintro e w1 ⟨rfl, hb1⟩
  have hB1 := hB0.below hb1 hB0.lt
  have hbw1 := hbw.trans (hb1.mono (by omega))
  clear hB0 hbw hb1
  obtain ⟨⟨d0, d1, d2⟩, _⟩ := hB1.three
  have z1 := hB1.lt
  go_wp2_with fail
  refine wp_world (fun W2 hW2 => ?_)
  obtain ⟨hQ, hbq, hsq⟩ := new1 hW2
  clear hW2
  have hB2 := hB1.below hbq hB1.lt
  have hbw2 := hbw1.trans (hbq.mono (by omega))
  have hI : Lib.IsBuilder 151 5 w1.heap.size w1.heap.size (Lib.strCells (txP m n D 0)) W2 := .inl ⟨Nat.le_refl _, .slice none 0 0, hQ, World.ownsRow_nil _ _ _ _, by simp [Value.ownBlock]⟩
  generalize hq : w1.heap.size = q at *
  clear hq hB1 hbw1 hbq hQ d0 d1 d2
  go_loopw [4, 5, 6] (fun yy _ _ wr => ∃ t : Nat, t ≤ n ∧ yy = .int .i64 ((n : Int) - 1 - t) ∧ Lib.IsBuilder 151 5 q q (Lib.strCells (txP m n D t)) wr ∧ Below q W2 wr) (fun yy _ _ _ => (intOf yy + 1).toNat)
  case atStart => exact ⟨0, Nat.zero_le _, by go_num, hI, Below.refl _ _⟩
  case round =>
    clear hI
    obtain ⟨t, ht, rfl, hI, hbr⟩ := hrel
    have hB3 := hB2.below hbr z1
    obtain ⟨⟨d0, d1, d2⟩, _⟩ := hB3.three
    have hsz2 := hbr.size
    have hpz : (txP m n D t).size ≤ 9312 := by
      rw [txP_size]
      exact Nat.mul_le_mul (show t ≤ 96 by omega) (show m + 1 ≤ 97 by omega)
    by_cases hlt : t < n
    · have hle : (t : Int) ≤ (n : Int) - 1 := by omega
      have HF := Lib.hid (show ∀ u : Nat, u < m → hasB m n D u ((n : Int) - 1 - t) = D.getD ((n - 1 - t) * m + u) false from fun u hu => by
        have e : (n : Int) - 1 - t = ((n - 1 - t : Nat) : Int) := by omega
        rw [HGH.out, e]
        exact HG.out u (n - 1 - t) hu (by omega))
      have HS := Lib.hid (show txP m n D (t + 1) = txRow (txP m n D t) (fun x => D.getD ((n - 1 - t) * m + x) false) m ++ ⟨#[10]⟩ from rfl)
      generalize hF : (fun x => D.getD ((n - 1 - t) * m + x) false) = F at HS
      have HF := Lib.hid (show ∀ u : Nat, u < m → hasB m n D u ((n : Int) - 1 - t) = F u from fun u hu => by rw [← hF]; exact HF.out u hu)
      clear hF
      have hI0 : Lib.IsBuilder 151 5 q q (Lib.strCells (txRow (txP m n D t) F 0)) wr := hI
      generalize txP m n D t = S at *
      go_wp2_with fail
      go_loopw [5, 6, 19] (fun _ _ ii wx => ∃ u : Nat, u ≤ m ∧ ii = .int .i64 u ∧ Lib.IsBuilder 151 5 q q (Lib.strCells (txRow S F u)) wx ∧ Below q W2 wx) (fun _ _ ii _ => m - (intOf ii).toNat)
      case atStart => exact ⟨0, Nat.zero_le _, rfl, hI0, hbr⟩
      case round =>
        clear hI hI0 hbr d0 d1 d2 hB3 hsz2
        obtain ⟨u, hu, rfl, hI, hbr⟩ := hrel
        have hB3 := hB2.below hbr z1
        obtain ⟨⟨d0, d1, d2⟩, _⟩ := hB3.three
        have hsz2 := hbr.size
        have hrz : (Lib.strCells (txRow S F u)).length ≤ 9500 := by rw [str_len, txRow_size]; omega
        by_cases hlu : u < m
        · have hfu := HF.out u hlu
          have hrd : Rd Value.bool wr wr.heap.size A D := (HR.out.below (hbw2.trans (hbr.mono (by omega))) (Nat.le_refl _)).more (by omega)
          have HRD := Lib.hid hrd
          have HFU := Lib.hid hfu
          clear hfu hrd
          have hTR : txRow S F (u + 1) = if F u then txRow S F u ++ ⟨#[35]⟩ else txRow S F u ++ ⟨#[46]⟩ := rfl
          have HTR := Lib.hid hTR
          clear hTR
          generalize F u = fu at *
          generalize txRow S F u = R at *
          go_wp2_with fail
          refine (CH.out _ _ _ HRD.out).mono ?_
          rintro e w3 ⟨rfl, hb3⟩
          rw [HFU.out]
          have hI3 := sb_below hI hb3
          have hB4 := hbr.trans (hb3.mono (by omega))
          have hz3 := hb3.size
          cases fu with
          | true =>
            go_wp2_with fail
            refine (sb_WriteByte q q _ 35 _ hI3 (by omega) (by omega)).mono ?_
            rintro e w4 ⟨rfl, hI4, hb4⟩
            go_wp2_with fail
            go_roundw
            case rel => exact ⟨u + 1, by omega, by go_num, by rw [HTR.out, if_pos trivial, ← str_snoc]; exact hI4, hB4.trans hb4⟩
            case measure => simp [intOf]; omega
          | false =>
            go_wp2_with fail
            refine (sb_WriteByte q q _ 46 _ hI3 (by omega) (by omega)).mono ?_
            rintro e w4 ⟨rfl, hI4, hb4⟩
            go_wp2_with fail
            go_roundw
            case rel => exact ⟨u + 1, by omega, by go_num, by rw [HTR.out, if_neg (by simp), ← str_snoc]; exact hI4, hB4.trans hb4⟩
            case measure => simp [intOf]; omega
        · have hue := Lib.hid (show u = m by omega)
          have hlu' : ¬ (u : Int) < (m : Int) := by omega
          go_wp2_with fail
          refine (sb_WriteByte q q _ 10 _ hI (by omega) (by omega)).mono ?_
          rintro e w4 ⟨rfl, hI4, hb4⟩
          go_wp2_with fail
          go_roundw
          case rel => exact ⟨t + 1, by omega, by go_num, by rw [HS.out, ← hue.out, ← str_snoc]; exact hI4, hbr.trans hb4⟩
          case measure => simp [intOf]; omega
    · have hte : t = n := by omega
      subst hte
      have hle : ¬ (t : Int) ≤ (t : Int) - 1 := by omega
      go_wp2_with fail
      refine (sb_String q q _ _ hI (by omega)).mono ?_
      rintro e w4 ⟨rfl, hb4⟩
      go_wp2
      go_ret
      exact ⟨rfl, by rw [HP.out]; exact (hbw2.trans (hbr.mono (by omega))).trans (hb4.mono (by omega))⟩
end Go.Proofs.Ytlanefdeeanpnaa
