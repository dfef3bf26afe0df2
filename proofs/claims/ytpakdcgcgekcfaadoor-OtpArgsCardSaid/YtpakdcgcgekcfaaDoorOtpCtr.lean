/-
  Package otp: Counter.
-/
import Derived.Test.YtpakdcgcgekcfaaDoorProg
import Derived.Test.YtpakdcgcgekcfaaDoorMem
import Derived.Test.YtpakdcgcgekcfaaDoorOtp
import Derived.Deep.LoopGhost
namespace Go.Proofs.YtpakdcgcgekcfaaDoor
open Go.RowKit

namespace Otp
open Fuse
variable {w w' : World} {c p b : Nat} {vs : List Nat} {ls : List Bool} {sd : Bool}
/-- How many bits from the first one on. -/
def ctr : List Nat → Nat
  | [] => 0
  | x :: r => if x = 4294967295 then 32 + ctr r else Lib.ctz 32 (4294967295 - x)
def cwords (vs : List Nat) : List Nat := (vs.drop 1).take 8
def counter (vs : List Nat) : Nat := min (ctr (cwords vs)) 255

theorem xor_full (x : Nat) (hx : x < 4294967296) : 4294967295 ^^^ x = 4294967295 - x := by
  have e : 4294967295 - x = 2 ^ 32 - (x + 1) := by omega
  rw [e]
  apply Nat.eq_of_testBit_eq
  intro i
  rw [Nat.testBit_two_pow_sub_succ (show x < 2 ^ 32 from hx), Nat.testBit_xor, show 4294967295 = 2 ^ 32 - 1 from rfl, Nat.testBit_two_pow_sub_one]
  by_cases hi : i < 32
  · simp [hi]
  · have : x.testBit i = false := Nat.testBit_lt_two_pow (Nat.lt_of_lt_of_le hx (Nat.pow_le_pow_right (n := 2) (by decide) (show 32 ≤ i by omega)))
    simp [hi, this]
theorem not_u32 (x : Nat) (hx : x < 4294967296) : bits .xor .u32 IntKind.u32.max (x : Int) = ((4294967295 - x : Nat) : Int) := by
  rw [show IntKind.u32.max = ((4294967295 : Nat) : Int) by decide, u32_xor_nat _ _ (by decide) hx, xor_full x hx]
theorem cwords_drop (h : vs.length = 64) {i x : Nat} (hi : i < 8) (hx : vs[1 + i]? = some x) : (cwords vs).drop i = x :: (cwords vs).drop (i + 1) := by
  have hl : (cwords vs).length = 8 := by simp [cwords, h]
  have hx' : (cwords vs)[i]? = some x := by
    rw [cwords, List.getElem?_take, if_pos hi, List.getElem?_drop]
    exact hx
  obtain ⟨h1, h2⟩ := List.getElem?_eq_some_iff.1 hx'
  rw [List.drop_eq_getElem_cons h1, h2]
theorem ctr_le : ∀ l : List Nat, ctr l ≤ 32 * l.length
  | [] => by simp [ctr]
  | x :: r => by
    simp only [ctr, List.length_cons]
    have := ctr_le r
    split
    · omega
    · by_cases hx : 4294967295 - x = 0
      · simp [Lib.ctz, hx]; omega
      · have := (Lib.lowest_bit 32 (4294967295 - x) hx (by omega)).2
        omega

set_option maxHeartbeats 1000000 in
theorem counter_any (w : World) (h : Cz w c p b vs ls sd) (hT : Tab w) : Calls Tryd.prog 27 #[.pointer (some ⟨c, 0, none⟩)] w
    fun e w' => e = .returned (.int .i64 ((counter vs : Nat) : Int)) ∧ Below w.heap.size w w' := by
  have H := Lib.hid h
  have HT := Lib.hid hT
  clear h hT
  go_enter Tryd.func27, Tryd.ntmps27
  go_wp2_with fail
  (with_reducible refine (all_any _ H.out).mono ?_); rintro e w1 ⟨v, rfl, hO, hB⟩
  obtain ⟨A, cp, rfl, hc1, hc2, hN⟩ := hO.form H.out.fz.word
  have hl := H.out.len
  obtain ⟨g, rfl, hg1, hg2, -⟩ := hO.at_ (List.getElem?_eq_getElem (show 0 < vs.length by omega))
  have hC : ∀ (i x : Nat), vs[i]? = some x → w1.cell? ⟨g, i, none⟩ = some (.int .u32 (x : Int)) := fun i x hx => by
    obtain ⟨g', hg', _, _, hc, _⟩ := hO.at_ hx
    cases hg'
    exact hc
  have HB := Lib.hid hB
  have HT1 := Lib.hid (HT.out.old hB)
  have HW := Lib.hid H.out.fz.word
  have HC := Lib.hid hC
  clear hO hB hN HT hC
  rw [hl] at hc1 ⊢
  go_wp2_with fail
  go_loopg [3, 11] 8 (fun g s3 s11 wr => ∃ i : Nat, i + g = 8 ∧ s11 = .int .i64 (i : Int) ∧ s3 = .int .i64 ((32 * i : Nat) : Int) ∧ ctr (cwords vs) = 32 * i + ctr ((cwords vs).drop i) ∧ wr = w1)
  case atStart => exact ⟨0, by omega, rfl, rfl, by simp, rfl⟩
  case round =>
    obtain ⟨i, hgi, rfl, rfl, hc, rfl⟩ := hrel
    have HG := Lib.hid hgi
    have hi8 : i ≤ 8 := by omega
    clear hgi
    by_cases hlt : i < 8
    · obtain ⟨x, hx⟩ : ∃ x, vs[1 + i]? = some x := ⟨_, List.getElem?_eq_getElem (by omega)⟩
      have hcx := HC.out _ _ hx
      have hxb := HW.out _ _ hx
      have hd := cwords_drop hl hlt hx
      rw [hd, ctr] at hc
      have Hc := Lib.hid hc
      clear hd hc hx
      go_wp2_with fail
      (with_reducible refine (tz32 _ (4294967295 - x) _ (not_u32 x hxb) (by omega) HT1.out).mono ?_); rintro e w' ⟨rfl, rfl⟩
      by_cases hf : x = 4294967295
      · have hz : Lib.ctz 32 (4294967295 - x) = 32 := by rw [hf]; rfl
        rw [hz]
        have hc2 : ctr (cwords vs) = 32 * (i + 1) + ctr (List.drop (i + 1) (cwords vs)) := by rw [Hc.out, if_pos hf]; omega
        have Hc2 := Lib.hid hc2
        clear hc2 hz hf
        go_wp2_with fail
        go_light
        go_roundg (8 - (i + 1))
        case measure => have := HG.out; omega
        case rel => exact ⟨i + 1, by omega, by go_num, by go_num, Hc2.out, rfl⟩
      · have hk : Lib.ctz 32 (4294967295 - x) < 32 := (Lib.lowest_bit 32 _ (by omega) (by omega)).2
        have hc2 : counter vs = min (32 * i + Lib.ctz 32 (4294967295 - x)) 255 := by rw [counter, Hc.out, if_neg hf]
        generalize Lib.ctz 32 (4294967295 - x) = k at *
        have Hc2 := Lib.hid hc2
        clear hc2 hf Hc
        go_wp2_with fail
        go_light
        go_ret
        rw [Hc2.out]
        exact ⟨by go_num, HB.out⟩
    · have : i = 8 := by omega
      subst this
      have hc2 : counter vs = min 256 255 := by
        rw [counter, hc]
        have : (cwords vs).drop 8 = [] := List.drop_eq_nil_of_le (by simp [cwords]; omega)
        rw [this]; rfl
      have Hc2 := Lib.hid hc2
      clear hc2 hc
      go_wp2_with fail
      go_light
      go_ret
      rw [Hc2.out]
      exact ⟨rfl, HB.out⟩
end Otp
end Go.Proofs.YtpakdcgcgekcfaaDoor
