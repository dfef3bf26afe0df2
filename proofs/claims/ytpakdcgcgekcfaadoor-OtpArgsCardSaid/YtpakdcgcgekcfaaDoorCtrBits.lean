/-
  The counter, bit by bit: plain.
-/
import Derived.Test.YtpakdcgcgekcfaaDoorMem
import Derived.Test.YtpakdcgcgekcfaaDoorOtpLaw
namespace Go.Proofs.YtpakdcgcgekcfaaDoor
open Go.RowKit

namespace Otp
open Fuse
theorem bit_tb (x t : Nat) : x / 2 ^ t % 2 = (x.testBit t).toNat := by
  rw [Nat.toNat_testBit]
theorem bit_compl (x t : Nat) (hx : x < 4294967296) (ht : t < 32) : x / 2 ^ t % 2 = 1 - (4294967295 - x) / 2 ^ t % 2 := by
  rw [bit_tb, bit_tb, bit_not' x t hx]
  cases x.testBit t <;> simp [ht]
theorem ctz_bits (y : Nat) (h0 : y ≠ 0) (hy : y < 4294967296) : (∀ t, t < Lib.ctz 32 y → y / 2 ^ t % 2 = 0) ∧ y / 2 ^ (Lib.ctz 32 y) % 2 = 1 ∧ Lib.ctz 32 y < 32 := by
  obtain ⟨m, hm, hk⟩ := Lib.ctzFrom_spec 32 y (by omega) hy
  have e : Lib.ctz 32 y = Lib.ctzFrom 32 y := by simp [Lib.ctz, h0]
  rw [e]
  generalize Lib.ctzFrom 32 y = k at *
  refine ⟨fun t ht => ?_, ?_, hk⟩
  · have : y = 2 ^ t * (2 * (2 ^ (k - t - 1) * (2 * m + 1))) := by
      rw [hm, ← Nat.mul_assoc 2, ← Nat.mul_assoc, ← Nat.pow_succ', ← Nat.pow_add]
      congr 2
      omega
    rw [this, Nat.mul_div_cancel_left _ (Nat.pow_pos (by decide)), Nat.mul_mod_right]
  · rw [hm, Nat.mul_div_cancel_left _ (Nat.pow_pos (by decide))]
    omega
/-- Below the count every bit is set; at it, if there is such a bit, it isn't. -/
theorem ctr_bits : ∀ ws : List Nat, (∀ x ∈ ws, x < 4294967296) → (∀ n, n < ctr ws → (ws[n / 32]?.getD 0) / 2 ^ (n % 32) % 2 = 1) ∧ (ctr ws < 32 * ws.length → (ws[ctr ws / 32]?.getD 0) / 2 ^ (ctr ws % 32) % 2 = 0)
  | [], _ => ⟨fun n hn => by simp [ctr] at hn, fun h => by simp [ctr] at h⟩
  | x :: r, hw => by
    have hx := hw x (by simp)
    obtain ⟨i1, i2⟩ := ctr_bits r (fun y hy => hw y (by simp [hy]))
    by_cases hf : x = 4294967295
    · have e : ctr (x :: r) = 32 + ctr r := by rw [ctr, if_pos hf]
      rw [e]
      constructor
      · intro n hn
        by_cases h32 : n < 32
        · rw [Nat.div_eq_of_lt h32, List.getElem?_cons_zero, Option.getD_some, bit_compl x _ hx (Nat.mod_lt _ (by decide)), hf]
          simp
        · have := i1 (n - 32) (by omega)
          rw [show n / 32 = (n - 32) / 32 + 1 by omega, show n % 32 = (n - 32) % 32 by omega, List.getElem?_cons_succ]
          exact this
      · intro h
        have := i2 (by simp only [List.length_cons] at h; omega)
        rw [show (32 + ctr r) / 32 = ctr r / 32 + 1 by omega, show (32 + ctr r) % 32 = ctr r % 32 by omega, List.getElem?_cons_succ]
        exact this
    · have e : ctr (x :: r) = Lib.ctz 32 (4294967295 - x) := by rw [ctr, if_neg hf]
      obtain ⟨c1, c2, c3⟩ := ctz_bits (4294967295 - x) (by omega) (by omega)
      rw [e]
      constructor
      · intro n hn
        rw [Nat.div_eq_of_lt (show n < 32 by omega), Nat.mod_eq_of_lt (show n < 32 by omega), List.getElem?_cons_zero, Option.getD_some, bit_compl x n hx (by omega), c1 n hn]
      · intro _
        rw [Nat.div_eq_of_lt c3, Nat.mod_eq_of_lt c3, List.getElem?_cons_zero, Option.getD_some, bit_compl x _ hx c3, c2]
end Otp
end Go.Proofs.YtpakdcgcgekcfaaDoor
