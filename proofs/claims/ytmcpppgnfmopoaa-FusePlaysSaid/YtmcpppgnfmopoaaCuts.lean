/-
  FuseCuts, walked: of any word and any cuts she returns true.
-/
import Derived.Test.YtmcpppgnfmopoaaProg
import Derived.Test.YtmcpppgnfmopoaaMem
import Derived.Test.YtmcpppgnfmopoaaFuseAwake
import Derived.Deep.CutRange
import Derived.Deep.CutBlock
import Derived.Deep.DeepCutAuto
import Derived.Deep.LoopGhost
namespace Go.Proofs.Ytmcpppgnfmopoaa
open Go.RowKit

namespace Fuse
theorem bit_not (v i : Nat) (hv : v < 4294967296) : (4294967295 - v).testBit i = (decide (i < 32) && !v.testBit i) := by
  have := Nat.testBit_two_pow_sub_succ (x := v) (n := 32) hv i
  rw [← this]
  congr 1
  omega
/-- No bit of x is outside v. -/
theorem sub_bits {x v : Nat} (hx : x < 4294967296) (hv : v < 4294967296) : x &&& (4294967295 - v) = 0 ↔ ∀ i, x.testBit i = true → v.testBit i = true := by
  constructor
  · intro h i hi
    have h2 := congrArg (fun y => Nat.testBit y i) h
    simp only [Nat.testBit_and, bit_not v i hv, Nat.zero_testBit, hi, Bool.true_and] at h2
    have h32 : i < 32 := by
      rcases Nat.lt_or_ge i 32 with hl | hl
      · exact hl
      · exfalso
        have : x < 2 ^ i := Nat.lt_of_lt_of_le hx (show 2 ^ 32 ≤ 2 ^ i from Nat.pow_le_pow_right (by decide) hl)
        rw [Nat.testBit_lt_two_pow this] at hi
        cases hi
    simp [h32] at h2
    exact h2
  · intro h
    apply Nat.eq_of_testBit_eq
    intro i
    simp only [Nat.testBit_and, bit_not v i hv, Nat.zero_testBit]
    cases hi : x.testBit i with
    | false => simp
    | true => simp [h i hi]
theorem cut_sub {x v g : Nat} (hx : x < 4294967296) (hv : v < 4294967296) (h : x &&& (4294967295 - v) = 0) : (x ||| (v &&& g)) &&& (4294967295 - v) = 0 ∧ x &&& (4294967295 - (x ||| (v &&& g))) = 0 ∧ x ||| (v &&& g) < 4294967296 := by
  have hvg : v &&& g < 4294967296 := Nat.lt_of_le_of_lt Nat.and_le_left hv
  have hor : x ||| (v &&& g) < 4294967296 := Nat.or_lt_two_pow (n := 32) hx hvg
  rw [sub_bits hor hv, sub_bits hx hor]
  rw [sub_bits hx hv] at h
  refine ⟨fun i hi => ?_, fun i hi => ?_, hor⟩
  · simp only [Nat.testBit_or, Nat.testBit_and, Bool.or_eq_true, Bool.and_eq_true] at hi
    rcases hi with hi | hi
    · exact h i hi
    · exact hi.1
  · simp [Nat.testBit_or, hi]
theorem full_sub {x v : Nat} (hx : x < 4294967296) (hv : v < 4294967296) (h : x &&& (4294967295 - v) = 0) : x ||| (v &&& 4294967295) = v := by
  rw [sub_bits hx hv] at h
  apply Nat.eq_of_testBit_eq
  intro i
  have hm : (4294967295 : Nat).testBit i = decide (i < 32) := by
    have := bit_not 0 i (by omega)
    simpa using this
  simp only [Nat.testBit_or, Nat.testBit_and, hm]
  cases hi : v.testBit i with
  | false =>
    cases hxi : x.testBit i with
    | false => simp
    | true => rw [h i hxi] at hi; cases hi
  | true =>
    have h32 : i < 32 := by
      rcases Nat.lt_or_ge i 32 with hl | hl
      · exact hl
      · exfalso
        have : v < 2 ^ i := Nat.lt_of_lt_of_le hv (show 2 ^ 32 ≤ 2 ^ i from Nat.pow_le_pow_right (by decide) hl)
        rw [Nat.testBit_lt_two_pow this] at hi
        cases hi
    simp [h32]

/-- What stands behind some cuts. -/
def CutsAt (v : Nat) (w w' : World) (p q last : Nat) : Prop := last < 4294967296 ∧ last &&& (4294967295 - v) = 0 ∧ Fz w' p q [last] [false] ∧ Below w.heap.size w w'

set_option maxHeartbeats 1000000 in
theorem cuts_any (v : Nat) (a : Option Addr) (len cap : Nat) (zs : List Nat) (w : World) (hv : v < 4294967296) (hl : zs.length = len) (hm : len ≤ maxLen) (hz : Nats .u32 4294967296 w w.heap.size a zs) :
    Calls Try.prog 4 #[.int .u32 (v : Int), .slice a len cap] w (TrueBelow w) := by
  unfold maxLen at hm
  have hm' : len ≤ 9223372036854775807 := by omega
  have HZ := Lib.hid hz
  have HL := Lib.hid hl
  clear hz hl hm
  go_enter Try.func4, Try.ntmps4
  go_wp2_with fail
  (with_reducible refine (awake_any _).mono ?_); rintro e w0 ⟨rfl, hb0⟩
  go_wp2_with fail
  (with_reducible refine (new_any 1 _ (by decide) (by decide)).mono ?_); rintro e w1 ⟨rfl, hf, hb, hs⟩
  have hbl : w0.heap.size ≤ w1.heap.size := hb.size
  have hB1 := below_then hb0 hb (Nat.le_refl _)
  clear hs
  simp only [show (1 : Int).toNat = 1 from rfl, List.replicate] at hf
  have hpb : w.heap.size ≤ w0.heap.size := hb0.size
  generalize hp : w0.heap.size + 1 = p at *
  generalize hq : w0.heap.size = q at *
  have hpp : w.heap.size ≤ p := by omega
  clear hp hq hb hb0 hbl
  go_upto_block 0 with fail
  have h0 : CutsAt v w w1 p q 0 := ⟨by omega, by simp, hf, hB1⟩
  have H0 := Lib.hid h0
  clear h0 hf hB1
  go_cut [7] (fun _ w' => ∃ last, CutsAt v w w' p q last)
  case first =>
    go_wp2_with fail
    go_loopg [7, 23] len (fun g s7 s23 wr => ∃ (i : Nat) (last : Nat), i + g = len ∧ s7 = .int .u32 (last : Int) ∧ s23 = .int .i64 (i : Int) ∧ CutsAt v w wr p q last)
    case atStart => exact ⟨0, 0, by omega, rfl, rfl, H0.out⟩
    case round =>
      obtain ⟨i, last, hg, rfl, rfl, hC⟩ := hrel
      have HG := Lib.hid hg
      have hig : i ≤ len := by omega
      clear hg
      by_cases hlt : i < len
      · by_cases h20 : (20 : Int) ≤ (i : Int)
        · have HC := Lib.hid hC
          clear hC
          obtain ⟨hx, b, off, rfl, hbl, hcell⟩ := (HZ.out.below HC.out.2.2.2) i (zs[i]'(by rw [HL.out]; exact hlt)) (List.getElem?_eq_getElem _)
          go_wp2_with fail
          go_meet
          exact ⟨_, HC.out⟩
        · obtain ⟨c1, c2, c3, c4⟩ := hC
          obtain ⟨hx, b, off, rfl, hbl, hcell⟩ := (HZ.out.below c4) i (zs[i]'(by rw [HL.out]; exact hlt)) (List.getElem?_eq_getElem _)
          generalize zs[i]'(by rw [HL.out]; exact hlt) = z at *
          obtain ⟨d1, d2, d3⟩ := cut_sub (g := z) c1 hv c2
          have a1 := u32_andNot_nat (last ||| (v &&& z)) v d3 hv
          have a2 := u32_andNot_nat last (last ||| (v &&& z)) c1 d3
          have a3 := u32_and_nat v z hv hx
          have a4 := u32_or_nat last (v &&& z) c1 (Nat.lt_of_le_of_lt Nat.and_le_left hv)
          rw [d1] at a1
          rw [d2] at a2
          have hE : cutE [last] 0 v = 0 := by simp [cutE, inR, c2]
          have hV : cutV [last] 0 v z = [last ||| (v &&& z)] := by simp [cutV, hE]
          have HE := Lib.hid hE
          have HV := Lib.hid hV
          have D1 := Lib.hid d1
          have C4 := Lib.hid c4
          have C3 := Lib.hid c3
          clear hE hV c2 d1 d2 c4 c3
          generalize hn : last ||| (v &&& z) = nw at *
          clear hn
          go_wp2_with fail
          (with_reducible refine (cut_to 0 v z _ 0 [nw] C3.out (by omega) (by omega) (by omega) (by omega) (by simp only [Int.toNat_natCast]; exact HE.out) (by simp only [Int.toNat_natCast]; exact HV.out)).mono ?_); rintro e w2 ⟨rfl, hz2, hf2⟩
          go_wp2_with fail
          (with_reducible refine (read_to 0 _ nw 0 hz2 (by simp [rdV, inR]) (by simp [rdE, inR])).mono ?_); rintro e w' ⟨rfl, rfl⟩
          go_wp2_with fail
          go_light
          go_roundg (len - (i + 1))
          case measure => have := HG.out; omega
          case rel => exact ⟨i + 1, nw, by omega, rfl, by go_num, d3, D1.out, hz2, Below.frm C4.out hf2 (Nat.le_refl _) (by simpa using hpb)⟩
      · go_wp2_with fail
        go_meet
        exact ⟨_, hC⟩
  case rest =>
    obtain ⟨last, c1, c2, c3, c4⟩ := hcut
    have hE : cutE [last] 0 v = 0 := by simp [cutE, inR, c2]
    have hV : cutV [last] 0 v 4294967295 = [v] := by simp [cutV, hE, full_sub c1 hv c2]
    have HE := Lib.hid hE
    have HV := Lib.hid hV
    have C4 := Lib.hid c4
    have C3 := Lib.hid c3
    clear hE hV c2 c3 c4
    go_wp2_with fail
    (with_reducible refine (program_to 0 v _ 0 [v] C3.out (by omega) (by omega) (by simp only [Int.toNat_natCast]; exact HE.out) (by simp only [Int.toNat_natCast]; exact HV.out)).mono ?_); rintro e w2 ⟨rfl, hz2, hf2⟩
    go_wp2_with fail
    (with_reducible refine (read_to 0 _ v 0 hz2 (by simp [rdV, inR]) (by simp [rdE, inR])).mono ?_); rintro e w' ⟨rfl, rfl⟩
    go_wp2_with fail
    go_light
    go_ret
    exact ⟨rfl, Below.frm C4.out hf2 (Nat.le_refl _) (by simpa using hpb)⟩
end Fuse
end Go.Proofs.Ytmcpppgnfmopoaa
