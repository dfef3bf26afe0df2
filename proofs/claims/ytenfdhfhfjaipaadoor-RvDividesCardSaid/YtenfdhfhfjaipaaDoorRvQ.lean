/-
  RvDivides: quotients, remainders, products: plain.
-/
import Derived.Test.YtenfdhfhfjaipaaDoorRvP
set_option linter.unusedSimpArgs false
set_option linter.unusedVariables false
namespace Go.Proofs.YtenfdhfhfjaipaaDoor
open Go.RowKit

namespace Rv
theorem cong_mul {n x y x' y' : Int} (h1 : x % n = x' % n) (h2 : y % n = y' % n) : x * y % n = x' * y' % n := by rw [Int.mul_emod, h1, h2, ← Int.mul_emod]
theorem cong_add {n x y x' y' : Int} (h1 : x % n = x' % n) (h2 : y % n = y' % n) : (x + y) % n = (x' + y') % n := by rw [Int.add_emod, h1, h2, ← Int.add_emod]
theorem low_cong (z : Int) : ((low z : Nat) : Int) % 4294967296 = z % 4294967296 := by rw [low_int]; exact Int.emod_emod_of_dvd _ (Int.dvd_refl _)
theorem wrap_cong (z : Int) : wrap32 z % 4294967296 = z % 4294967296 := by unfold wrap32; omega
theorem s32_cong (a : Nat) : ((a : Nat) : Int) % 4294967296 = s32 a % 4294967296 := (wrap_cong _).symm
/-- Of signed numbers quotient and remainder make the number again. -/
theorem signed_again {a b : Nat} (ha : a < 4294967296) (hb : b < 4294967296) (h0 : b ≠ 0) : (((timesN 53 a b : Nat) : Int) * (b : Int) + ((timesN 55 a b : Nat) : Int)) % 4294967296 = (a : Int) := by
  have hB0 : s32 b ≠ 0 := by unfold s32 wrap32; omega
  rw [tN53, tN55]
  have h1 : (quoZ (s32 a) (s32 b) * s32 b + remZ (s32 a) (s32 b)) % 4294967296 = s32 a % 4294967296 := by
    unfold quoZ remZ
    rw [if_neg hB0, if_neg hB0]
    by_cases h1 : s32 b = -1
    · rw [if_pos h1, if_pos h1, h1]
      refine (cong_add (cong_mul (wrap_cong (-s32 a)) rfl) rfl).trans ?_
      congr 1
      omega
    · rw [if_neg h1, if_neg h1]
      refine (cong_add (cong_mul (wrap_cong _) rfl) rfl).trans ?_
      congr 1
      have := Int.tmod_add_mul_tdiv (s32 a) (s32 b)
      rw [Int.mul_comm]
      omega
  refine (cong_add (cong_mul (low_cong _) (s32_cong b)) (low_cong _)).trans (h1.trans ?_)
  exact s32_mod a ha
theorem plain_again {a b : Nat} (ha : a < 4294967296) (h0 : b ≠ 0) : timesN 54 a b * b + timesN 56 a b = a ∧ timesN 56 a b < b := by
  have e1 : timesN 54 a b = a / b := by unfold timesN; simp [h0]
  have e2 : timesN 56 a b = a % b := by unfold timesN; simp [h0]
  rw [e1, e2]
  exact ⟨by rw [Nat.mul_comm]; exact Nat.div_add_mod a b, Nat.mod_lt _ (by omega)⟩
theorem at_zero {a : Nat} (ha : a < 4294967296) : timesN 54 a 0 = 4294967295 ∧ timesN 56 a 0 = a ∧ timesN 53 a 0 = 4294967295 ∧ timesN 55 a 0 = a := by
  refine ⟨rfl, rfl, ?_, ?_⟩
  · rw [tN53, show s32 0 = 0 by unfold s32 wrap32; omega]
    unfold quoZ
    rw [if_pos rfl]
    decide
  · rw [tN55, show s32 0 = 0 by unfold s32 wrap32; omega]
    unfold remZ
    rw [if_pos rfl]
    have h := low_int (s32 a)
    rw [s32_mod a ha] at h
    omega
theorem halves {a b : Nat} (ha : a < 4294967296) (hb : b < 4294967296) : timesN 52 a b * 4294967296 + timesN 49 a b = a * b ∧ timesN 52 a b < 4294967296 ∧ timesN 49 a b < 4294967296 ∧ a * b < 18446744073709551616 := by
  have h : a * b ≤ 4294967295 * 4294967295 := Nat.mul_le_mul (by omega) (by omega)
  rw [tN52, tN49]
  generalize a * b = p at *
  omega
end Rv
end Go.Proofs.YtenfdhfhfjaipaaDoor
