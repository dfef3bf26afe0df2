/-
  Words and instructions: their bounds.
-/
import Derived.Test.YtgmomkinbfajkaaDoorRvI
set_option linter.unusedSimpArgs false
set_option linter.unusedVariables false
namespace Go.Proofs.YtgmomkinbfajkaaDoor
open Go.RowKit Go.Maps

namespace Rv
open Otp Sha R1
theorem ext_lt {v n : Nat} (h0 : 0 < n) (h : n ≤ 32) : ext v n < 4294967296 := by
  have h1 : v % 2 ^ n < 2 ^ n := Nat.mod_lt _ (Nat.two_pow_pos n)
  have h2 : 2 ^ n ≤ 2 ^ 32 := Nat.pow_le_pow_right (n := 2) (by decide) h
  unfold ext
  split <;> omega
theorem ok_mk {op rd a b imm csr : Nat} (h1 : op < 256) (h2 : rd < 256) (h3 : a < 256) (h4 : b < 256) (h5 : imm < 4294967296) (h6 : csr < 65536) : (⟨op, rd, a, b, imm, csr⟩ : In).Ok := ⟨h1, h2, h3, h4, h5, h6⟩
theorem dec_Ok {v : Nat} (h : v < 4294967296) : (dec v).1.Ok := by
  have h1 := cut_lt v 7 5
  have h2 := cut_lt v 15 5
  have h3 := cut_lt v 20 5
  have h4 := cut_lt v 20 12
  have e1 : immI v < 4294967296 := ext_lt (by decide) (by decide)
  have e2 : immS v < 4294967296 := ext_lt (by decide) (by decide)
  have e3 : immB v < 4294967296 := ext_lt (by decide) (by decide)
  have e4 : immJ v < 4294967296 := ext_lt (by decide) (by decide)
  have h5 := opAt_le (form v)
  have h6 : plainN v < 256 := by unfold plainN; (repeat' split) <;> omega
  unfold dec
  split
  · exact ok_mk h6 (by omega) (by omega) (by omega) (by omega) (by omega)
  · split
    · exact ok_mk (by omega) (by omega) (by omega) (by omega) (by omega) (by omega)
    · generalize opAt (form v) = op at h5
      show (decI op v).Ok
      unfold decI opIn
      (repeat' split) <;> exact ok_mk (by omega) (by omega) (by omega) (by omega) (by omega) (by omega)
theorem enc_lt {i : In} (hi : i.Ok) : (enc i).1 < 4294967296 := by
  unfold enc
  split
  · decide
  · split
    · decide
    · split
      · decide
      · split
        · decide
        · generalize hs : sOf i.op = s
          cases s with
          | none => exact (by decide : (0 : Nat) < 4294967296)
          | some s =>
            rw [encS_some]
            split
            · have := tab_bounds _ (sOf_mem hs).1
              exact word_lt s i hi this.1 this.2.1 this.2.2
            · decide
end Rv
end Go.Proofs.YtgmomkinbfajkaaDoor
