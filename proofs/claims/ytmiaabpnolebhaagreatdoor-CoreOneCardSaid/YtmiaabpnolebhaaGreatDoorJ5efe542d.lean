/-
  Texts of this claim, joined: RvP, AluA.
-/
import Derived.Test.YtmiaabpnolebhaaGreatDoorJ4afcd9a5
set_option maxHeartbeats 2000000
set_option maxRecDepth 100000
set_option linter.unusedSimpArgs false
set_option linter.unusedVariables false
namespace Go.Proofs.YtmiaabpnolebhaaGreatDoor
open Go.RowKit

namespace Rv
open Otp Sha
def s32 (a : Nat) : Int := wrap32 (a : Int)
def quoZ (a b : Int) : Int := if b = 0 then -1 else if b = -1 then wrap32 (-a) else wrap32 (a.tdiv b)
def remZ (a b : Int) : Int := if b = 0 then a else if b = -1 then 0 else a.tmod b
def low (z : Int) : Nat := (z % 4294967296).toNat
def timesN (op a b : Nat) : Nat :=
 if op = 49 then a * b % 4294967296
 else if op = 50 then low (s32 a * s32 b / 4294967296)
 else if op = 51 then low (s32 a * (b : Int) / 4294967296)
 else if op = 52 then a * b / 4294967296 % 4294967296
 else if op = 53 then low (quoZ (s32 a) (s32 b))
 else if op = 55 then low (remZ (s32 a) (s32 b))
 else if b = 0 ∧ op = 54 then 4294967295
 else if b = 0 then a
 else if op = 54 then a / b
 else a % b
def IntO (k : IntKind) (z : Int) (w : World) (e : Ending) (w' : World) : Prop := e = .returned (.int k z) ∧ w = w'
theorem quotient_any (a b : Int) (w : World) : Calls Tryz.prog 266 #[.int .i32 a, .int .i32 b] w (IntO .i32 (quoZ a b) w) := by
 obtain ⟨r, hr⟩ : ∃ r, quoZ a b = r := ⟨_, rfl⟩
 have HR := wall hr
 rw [hr]
 clear hr
 by_cases h0 : b = 0
 ·have HE := wall (show r = -1 by rw [← HR.out]; unfold quoZ; rw [if_pos h0])
  have hb0 : (b == 0) = true := by simpa using h0
  clear h0
  go_enter Tryz.func266, Tryz.ntmps266
  go_wp2_with fail
  go_light
  go_ret
  exact ⟨ret1i HE.out.symm, rfl⟩
 ·by_cases h1 : b = -1
  ·have HE := wall (show r = wrap32 (-a) by rw [← HR.out]; unfold quoZ; rw [if_neg h0, if_pos h1])
   have hb0 : (b == 0) = false := by simpa using h0
   have hb1 : (b == -1) = true := by simpa using h1
   clear h0 h1
   go_enter Tryz.func266, Tryz.ntmps266
   go_wp2_with fail
   go_light
   go_ret
   exact ⟨ret1i HE.out.symm, rfl⟩
  ·have HE := wall (show r = wrap32 (a.tdiv b) by rw [← HR.out]; unfold quoZ; rw [if_neg h0, if_neg h1])
   have hb0 : (b == 0) = false := by simpa using h0
   have hb1 : (b == -1) = false := by simpa using h1
   clear h1
   go_enter Tryz.func266, Tryz.ntmps266
   go_wp2_with fail
   go_light
   go_ret
   exact ⟨ret1i HE.out.symm, rfl⟩
theorem remainder_any (a b : Int) (w : World) : Calls Tryz.prog 267 #[.int .i32 a, .int .i32 b] w (IntO .i32 (remZ a b) w) := by
 obtain ⟨r, hr⟩ : ∃ r, remZ a b = r := ⟨_, rfl⟩
 have HR := wall hr
 rw [hr]
 clear hr
 by_cases h0 : b = 0
 ·have HE := wall (show r = a by rw [← HR.out]; unfold remZ; rw [if_pos h0])
  have hb0 : (b == 0) = true := by simpa using h0
  clear h0
  go_enter Tryz.func267, Tryz.ntmps267
  go_wp2_with fail
  go_light
  go_ret
  exact ⟨ret1i HE.out.symm, rfl⟩
 ·by_cases h1 : b = -1
  ·have HE := wall (show r = 0 by rw [← HR.out]; unfold remZ; rw [if_neg h0, if_pos h1])
   have hb0 : (b == 0) = false := by simpa using h0
   have hb1 : (b == -1) = true := by simpa using h1
   clear h0 h1
   go_enter Tryz.func267, Tryz.ntmps267
   go_wp2_with fail
   go_light
   go_ret
   exact ⟨ret1i HE.out.symm, rfl⟩
  ·have HE := wall (show r = a.tmod b by rw [← HR.out]; unfold remZ; rw [if_neg h0, if_neg h1])
   have hb0 : (b == 0) = false := by simpa using h0
   have hb1 : (b == -1) = false := by simpa using h1
   clear h1
   go_enter Tryz.func267, Tryz.ntmps267
   go_wp2_with fail
   go_light
   go_ret
   exact ⟨ret1i HE.out.symm, rfl⟩
theorem low_int (z : Int) : ((low z : Nat) : Int) = z % 4294967296 := by unfold low; omega
theorem s32_bounds (a : Nat) : -2147483648 ≤ s32 a ∧ s32 a < 2147483648 := by unfold s32 wrap32; omega
theorem w64_in {z : Int} (h1 : -9223372036854775808 ≤ z) (h2 : z < 9223372036854775808) : wrap64 z = z := by unfold wrap64; omega
theorem u64_mod (z : Int) : IntKind.u64.wrap z = z % 18446744073709551616 := by simp [IntKind.wrap, IntKind.signed, IntKind.bits]
theorem abs_mul {x y : Int} {m n : Nat} (hx : x.natAbs ≤ m) (hy : y.natAbs ≤ n) : (x * y).natAbs ≤ m * n := by
 rw [Int.natAbs_mul]
 exact Nat.mul_le_mul hx hy
theorem hi_word (z : Int) : z % 18446744073709551616 / 4294967296 % 4294967296 = z / 4294967296 % 4294967296 := by omega
theorem tN49 (a b : Nat) : timesN 49 a b = a * b % 4294967296 := by unfold timesN; rw [if_pos rfl]
theorem tN50 (a b : Nat) : timesN 50 a b = low (s32 a * s32 b / 4294967296) := by unfold timesN; rw [if_neg (by decide), if_pos rfl]
theorem tN51 (a b : Nat) : timesN 51 a b = low (s32 a * (b : Int) / 4294967296) := by unfold timesN; rw [if_neg (by decide), if_neg (by decide), if_pos rfl]
theorem tN52 (a b : Nat) : timesN 52 a b = a * b / 4294967296 % 4294967296 := by unfold timesN; rw [if_neg (by decide), if_neg (by decide), if_neg (by decide), if_pos rfl]
theorem tN53 (a b : Nat) : timesN 53 a b = low (quoZ (s32 a) (s32 b)) := by unfold timesN; rw [if_neg (by decide), if_neg (by decide), if_neg (by decide), if_neg (by decide), if_pos rfl]
theorem tN55 (a b : Nat) : timesN 55 a b = low (remZ (s32 a) (s32 b)) := by unfold timesN; rw [if_neg (by decide), if_neg (by decide), if_neg (by decide), if_neg (by decide), if_neg (by decide), if_pos rfl]
theorem e50 (a b : Nat) : IntKind.u64.wrap (wrap64 (wrap64 (wrap32 a) * wrap64 (wrap32 b))) / 4294967296 % 4294967296 = ((timesN 50 a b : Nat) : Int) := by
 have ha := s32_bounds a
 have hb := s32_bounds b
 have h := abs_mul (x := s32 a) (y := s32 b) (m := 2147483648) (n := 2147483648) (by omega) (by omega)
 rw [tN50, low_int, u64_mod, show wrap32 (a : Int) = s32 a from rfl, show wrap32 (b : Int) = s32 b from rfl, w64_in (z := s32 a) (by omega) (by omega), w64_in (z := s32 b) (by omega) (by omega), w64_in (z := s32 a * s32 b) (by omega) (by omega), hi_word]
theorem e51 (a b : Nat) (hb : b < 4294967296) : IntKind.u64.wrap (wrap64 (wrap64 (wrap32 a) * wrap64 b)) / 4294967296 % 4294967296 = ((timesN 51 a b : Nat) : Int) := by
 have ha := s32_bounds a
 have h := abs_mul (x := s32 a) (y := (b : Int)) (m := 2147483648) (n := 4294967295) (by omega) (by omega)
 rw [tN51, low_int, u64_mod, show wrap32 (a : Int) = s32 a from rfl, w64_in (z := s32 a) (by omega) (by omega), w64_in (z := (b : Int)) (by omega) (by omega), w64_in (z := s32 a * (b : Int)) (by omega) (by omega), hi_word]
theorem e52 (a b : Nat) (ha : a < 4294967296) (hb : b < 4294967296) : IntKind.u64.wrap (IntKind.u64.wrap a * IntKind.u64.wrap b) / 4294967296 % 4294967296 = ((timesN 52 a b : Nat) : Int) := by
 have h := abs_mul (x := (a : Int)) (y := (b : Int)) (m := 4294967295) (n := 4294967295) (by omega) (by omega)
 rw [tN52, u64_mod, u64_mod, u64_mod, show (a : Int) % 18446744073709551616 = a by omega, show (b : Int) % 18446744073709551616 = b by omega, hi_word]
 simp
theorem t49 (a b : Nat) (w : World) (ha : a < 4294967296) (hb : b < 4294967296) : Calls Tryz.prog 238 #[.int .u8 49, .int .u32 (a : Int), .int .u32 (b : Int)] w (IntO .u32 (timesN 49 a b : Nat) w) := by
 have HE := wall (show (a : Int) * (b : Int) % 4294967296 = ((timesN 49 a b : Nat) : Int) by rw [tN49]; simp)
 obtain ⟨r, hr⟩ : ∃ r, ((timesN 49 a b : Nat) : Int) = r := ⟨_, rfl⟩
 rw [hr] at HE ⊢
 clear hr ha hb
 go_enter Tryz.func238, Tryz.ntmps238
 go_wp2_with fail
 go_light
 go_ret
 exact ⟨ret1i HE.out, rfl⟩
theorem t50 (a b : Nat) (w : World) (ha : a < 4294967296) (hb : b < 4294967296) : Calls Tryz.prog 238 #[.int .u8 50, .int .u32 (a : Int), .int .u32 (b : Int)] w (IntO .u32 (timesN 50 a b : Nat) w) := by
 have HE := wall (e50 a b)
 obtain ⟨r, hr⟩ : ∃ r, ((timesN 50 a b : Nat) : Int) = r := ⟨_, rfl⟩
 rw [hr] at HE ⊢
 clear hr ha hb
 go_enter Tryz.func238, Tryz.ntmps238
 go_wp2_with fail
 go_light
 go_ret
 exact ⟨ret1i HE.out, rfl⟩
theorem t51 (a b : Nat) (w : World) (ha : a < 4294967296) (hb : b < 4294967296) : Calls Tryz.prog 238 #[.int .u8 51, .int .u32 (a : Int), .int .u32 (b : Int)] w (IntO .u32 (timesN 51 a b : Nat) w) := by
 have HE := wall (e51 a b hb)
 obtain ⟨r, hr⟩ : ∃ r, ((timesN 51 a b : Nat) : Int) = r := ⟨_, rfl⟩
 rw [hr] at HE ⊢
 clear hr ha hb
 go_enter Tryz.func238, Tryz.ntmps238
 go_wp2_with fail
 go_light
 go_ret
 exact ⟨ret1i HE.out, rfl⟩
theorem t52 (a b : Nat) (w : World) (ha : a < 4294967296) (hb : b < 4294967296) : Calls Tryz.prog 238 #[.int .u8 52, .int .u32 (a : Int), .int .u32 (b : Int)] w (IntO .u32 (timesN 52 a b : Nat) w) := by
 have HE := wall (e52 a b ha hb)
 obtain ⟨r, hr⟩ : ∃ r, ((timesN 52 a b : Nat) : Int) = r := ⟨_, rfl⟩
 rw [hr] at HE ⊢
 clear hr ha hb
 go_enter Tryz.func238, Tryz.ntmps238
 go_wp2_with fail
 go_light
 go_ret
 exact ⟨ret1i HE.out, rfl⟩
theorem t53 (a b : Nat) (w : World) (ha : a < 4294967296) (hb : b < 4294967296) : Calls Tryz.prog 238 #[.int .u8 53, .int .u32 (a : Int), .int .u32 (b : Int)] w (IntO .u32 (timesN 53 a b : Nat) w) := by
 have HE := wall (show quoZ (wrap32 a) (wrap32 b) % 4294967296 = ((timesN 53 a b : Nat) : Int) by rw [tN53, low_int]; rfl)
 obtain ⟨r, hr⟩ : ∃ r, ((timesN 53 a b : Nat) : Int) = r := ⟨_, rfl⟩
 rw [hr] at HE ⊢
 clear hr ha hb
 go_enter Tryz.func238, Tryz.ntmps238
 go_wp2_with fail
 (with_reducible refine (quotient_any _ _ _).mono ?_); rintro e w1 ⟨rfl, rfl⟩
 go_wp2_with fail
 go_light
 go_ret
 exact ⟨ret1i HE.out, rfl⟩
theorem t55 (a b : Nat) (w : World) (ha : a < 4294967296) (hb : b < 4294967296) : Calls Tryz.prog 238 #[.int .u8 55, .int .u32 (a : Int), .int .u32 (b : Int)] w (IntO .u32 (timesN 55 a b : Nat) w) := by
 have HE := wall (show remZ (wrap32 a) (wrap32 b) % 4294967296 = ((timesN 55 a b : Nat) : Int) by rw [tN55, low_int]; rfl)
 obtain ⟨r, hr⟩ : ∃ r, ((timesN 55 a b : Nat) : Int) = r := ⟨_, rfl⟩
 rw [hr] at HE ⊢
 clear hr ha hb
 go_enter Tryz.func238, Tryz.ntmps238
 go_wp2_with fail
 (with_reducible refine (remainder_any _ _ _).mono ?_); rintro e w1 ⟨rfl, rfl⟩
 go_wp2_with fail
 go_light
 go_ret
 exact ⟨ret1i HE.out, rfl⟩
theorem t54 (a b : Nat) (w : World) (ha : a < 4294967296) : Calls Tryz.prog 238 #[.int .u8 54, .int .u32 (a : Int), .int .u32 (b : Int)] w (IntO .u32 (timesN 54 a b : Nat) w) := by
 by_cases h0 : (b : Int) = 0
 ·have HE := wall (show ((timesN 54 a b : Nat) : Int) = 4294967295 by (have : b = 0 := by omega); subst this; rfl)
  obtain ⟨r, hr⟩ : ∃ r, ((timesN 54 a b : Nat) : Int) = r := ⟨_, rfl⟩
  rw [hr] at HE ⊢
  have hb0 : ((b : Int) == 0) = true := by simpa using h0
  clear hr ha h0
  go_enter Tryz.func238, Tryz.ntmps238
  go_wp2_with fail
  go_light
  go_ret
  exact ⟨ret1i HE.out.symm, rfl⟩
 ·have HE := wall (show ((timesN 54 a b : Nat) : Int) = ((a / b : Nat) : Int) by
   unfold timesN
   simp only [Nat.reduceEqDiff, if_false, and_false, and_true, if_true]
   have hb1 : ¬ b = 0 := by omega
   simp [hb1])
  obtain ⟨r, hr⟩ : ∃ r, ((timesN 54 a b : Nat) : Int) = r := ⟨_, rfl⟩
  rw [hr] at HE ⊢
  have hb0 : ((b : Int) == 0) = false := by simpa using h0
  have hm : (a : Int) / (b : Int) % 4294967296 = (a : Int) / (b : Int) := by
   have h1 : a / b ≤ a := Nat.div_le_self a b
   have h2 : (a : Int) / (b : Int) = ((a / b : Nat) : Int) := by simp
   rw [h2]
   exact Int.emod_eq_of_lt (Int.natCast_nonneg _) (Int.ofNat_lt.2 (Nat.lt_of_le_of_lt h1 ha))
  clear hr ha
  go_enter Tryz.func238, Tryz.ntmps238
  go_wp2_with fail
  go_light
  go_ret
  exact ⟨ret1i (by rw [HE.out]; simp), rfl⟩
theorem t56 (a b : Nat) (w : World) (ha : a < 4294967296) : Calls Tryz.prog 238 #[.int .u8 56, .int .u32 (a : Int), .int .u32 (b : Int)] w (IntO .u32 (timesN 56 a b : Nat) w) := by
 by_cases h0 : (b : Int) = 0
 ·have HE := wall (show ((timesN 56 a b : Nat) : Int) = (a : Int) by (have : b = 0 := by omega); subst this; rfl)
  obtain ⟨r, hr⟩ : ∃ r, ((timesN 56 a b : Nat) : Int) = r := ⟨_, rfl⟩
  rw [hr] at HE ⊢
  have hb0 : ((b : Int) == 0) = true := by simpa using h0
  clear hr ha h0
  go_enter Tryz.func238, Tryz.ntmps238
  go_wp2_with fail
  go_light
  go_ret
  exact ⟨ret1i HE.out.symm, rfl⟩
 ·have HE := wall (show ((timesN 56 a b : Nat) : Int) = ((a % b : Nat) : Int) by
   unfold timesN
   simp only [Nat.reduceEqDiff, if_false, and_false, and_true, if_true]
   have hb1 : ¬ b = 0 := by omega
   simp [hb1])
  obtain ⟨r, hr⟩ : ∃ r, ((timesN 56 a b : Nat) : Int) = r := ⟨_, rfl⟩
  rw [hr] at HE ⊢
  have hb0 : ((b : Int) == 0) = false := by simpa using h0
  have hm : (a : Int) / (b : Int) % 4294967296 = (a : Int) / (b : Int) := by
   have h1 : a / b ≤ a := Nat.div_le_self a b
   have h2 : (a : Int) / (b : Int) = ((a / b : Nat) : Int) := by simp
   rw [h2]
   exact Int.emod_eq_of_lt (Int.natCast_nonneg _) (Int.ofNat_lt.2 (Nat.lt_of_le_of_lt h1 ha))
  clear hr ha
  go_enter Tryz.func238, Tryz.ntmps238
  go_wp2_with fail
  go_light
  go_ret
  exact ⟨ret1i (by rw [HE.out]; simp), rfl⟩
theorem times_any (op a b : Nat) (w : World) (h1 : 49 ≤ op) (h2 : op ≤ 56) (ha : a < 4294967296) (hb : b < 4294967296) : Calls Tryz.prog 238 #[.int .u8 (op : Int), .int .u32 (a : Int), .int .u32 (b : Int)] w (IntO .u32 (timesN op a b : Nat) w) := by
 obtain rfl | rfl | rfl | rfl | rfl | rfl | rfl | rfl : op = 49 ∨ op = 50 ∨ op = 51 ∨ op = 52 ∨ op = 53 ∨ op = 54 ∨ op = 55 ∨ op = 56 := by omega
 ·exact t49 a b w ha hb
 ·exact t50 a b w ha hb
 ·exact t51 a b w ha hb
 ·exact t52 a b w ha hb
 ·exact t53 a b w ha hb
 ·exact t54 a b w ha
 ·exact t55 a b w ha hb
 ·exact t56 a b w ha
def AluO (v : Nat) (ok : Bool) (w : World) (e : Ending) (w' : World) : Prop := e = .returned (.tuple #[.int .u32 (v : Int), .bool ok]) ∧ w = w'
theorem alu_hi (op a b : Nat) (w : World) (h1 : 49 ≤ op) (h2 : op ≤ 56) (ha : a < 4294967296) (hb : b < 4294967296) : Calls Tryz.prog 176 #[.int .u8 (op : Int), .int .u32 (a : Int), .int .u32 (b : Int)] w (AluO (timesN op a b) true w) := by
 have HT := wall (fun W => times_any op a b W h1 h2 ha hb)
 have d1 : decide (49 ≤ (op : Int)) = true := decide_eq_true (by omega)
 have d2 : decide ((op : Int) ≤ 56) = true := decide_eq_true (by omega)
 obtain ⟨r, hr⟩ : ∃ r, timesN op a b = r := ⟨_, rfl⟩
 rw [hr] at HT ⊢
 clear hr ha hb
 go_enter Tryz.func176, Tryz.ntmps176
 go_wp2_with fail
 (with_reducible refine (HT.out _).mono ?_); rintro e w1 ⟨rfl, rfl⟩
 go_wp2_with fail
 exact bodyPost_ret (v := .tuple #[.int .u32 (r : Int), .bool true]) (results_tt Tryz.results176 _ _) rfl ⟨rfl, rfl⟩
end Rv
end Go.Proofs.YtmiaabpnolebhaaGreatDoor
namespace Go.Proofs.YtmiaabpnolebhaaGreatDoor
open Go.RowKit

namespace Rv
open Otp Sha Core
def baseN (op : Nat) : Nat := if op = 19 then 28 else if op = 20 then 31 else if op = 21 then 32 else if op = 22 then 33 else if op = 23 then 36 else if op = 24 then 37 else if op = 25 then 30 else if op = 26 then 34 else if op = 27 then 35 else op
def b01 (b : Bool) : Nat := if b then 1 else 0
def sumN (op a b : Nat) : Nat :=
 if op = 28 then (a + b) % 4294967296
 else if op = 29 then (a + 4294967296 - b) % 4294967296
 else if op = 30 then a * 2 ^ (b % 32) % 4294967296
 else if op = 31 then b01 (decide (s32 a < s32 b))
 else if op = 32 then b01 (decide (a < b))
 else if op = 33 then a ^^^ b
 else if op = 34 then a / 2 ^ (b % 32)
 else if op = 35 then low (s32 a / 2 ^ (b % 32))
 else if op = 36 then a ||| b
 else a &&& b
def aluN (op a b : Nat) : Nat × Bool :=
 if 49 ≤ op ∧ op ≤ 56 then (timesN op a b, true)
 else if 28 ≤ baseN op ∧ baseN op ≤ 37 then (sumN (baseN op) a b, true)
 else (0, false)
theorem base_any (op : Nat) (h : op < 57) (w : World) : Calls Tryz.prog 239 #[.int .u8 (op : Int)] w fun e w' => e = .returned (.int .u8 ((baseN op : Nat) : Int)) ∧ w = w' := by
 have key : ∀ k, k = op → Calls Tryz.prog 239 #[.int .u8 (k : Int)] w fun e w' => e = .returned (.int .u8 ((baseN k : Nat) : Int)) ∧ w = w' := fun k hk => by
  by_cases h9 : 19 ≤ k ∧ k ≤ 27
  ·obtain ⟨h1, h2⟩ := h9
   have hc : k = 19 ∨ k = 20 ∨ k = 21 ∨ k = 22 ∨ k = 23 ∨ k = 24 ∨ k = 25 ∨ k = 26 ∨ k = 27 := by omega
   clear h1 h2 hk
   rcases hc with rfl | rfl | rfl | rfl | rfl | rfl | rfl | rfl | rfl
   all_goals
    go_enter Tryz.func239, Tryz.ntmps239
    go_wp2_with fail
    go_light
    go_ret
    exact ⟨rfl, rfl⟩
  ·have e : baseN k = k := by unfold baseN; rw [if_neg (by omega), if_neg (by omega), if_neg (by omega), if_neg (by omega), if_neg (by omega), if_neg (by omega), if_neg (by omega), if_neg (by omega), if_neg (by omega)]
   have n1 : ((k : Int) == 19) = false := by rw [beq_eq_false_iff_ne]; omega
   have n2 : ((k : Int) == 20) = false := by rw [beq_eq_false_iff_ne]; omega
   have n3 : ((k : Int) == 21) = false := by rw [beq_eq_false_iff_ne]; omega
   have n4 : ((k : Int) == 22) = false := by rw [beq_eq_false_iff_ne]; omega
   have n5 : ((k : Int) == 23) = false := by rw [beq_eq_false_iff_ne]; omega
   have n6 : ((k : Int) == 24) = false := by rw [beq_eq_false_iff_ne]; omega
   have n7 : ((k : Int) == 25) = false := by rw [beq_eq_false_iff_ne]; omega
   have n8 : ((k : Int) == 26) = false := by rw [beq_eq_false_iff_ne]; omega
   have n9 : ((k : Int) == 27) = false := by rw [beq_eq_false_iff_ne]; omega
   rw [e]
   clear e h9 hk
   go_enter Tryz.func239, Tryz.ntmps239
   go_wp2_with fail
   go_light
   go_ret
   exact ⟨rfl, rfl⟩
 exact key op rfl
theorem one_any (b : Bool) (w : World) : Calls Tryz.prog 240 #[.bool b] w fun e w' => e = .returned (.int .u32 ((b01 b : Nat) : Int)) ∧ w = w' := by
 cases b
 all_goals
  go_enter Tryz.func240, Tryz.ntmps240
  go_wp2_with fail
  go_light
  go_ret
  exact ⟨rfl, rfl⟩
theorem and31 (b : Nat) (hb : b < 4294967296) : bits .and .u32 (b : Int) 31 = ((b % 32 : Nat) : Int) := by
 have h := bits_and_u32 b 31 hb (by decide)
 rw [Nat.and_two_pow_sub_one_eq_mod b 5] at h
 exact h
theorem bits_or_u32 (a b : Nat) (ha : a < 4294967296) (hb : b < 4294967296) : bits .or .u32 (a : Int) (b : Int) = ((a ||| b : Nat) : Int) := u32_or_nat a b ha hb
theorem bits_xor_u32 (a b : Nat) (ha : a < 4294967296) (hb : b < 4294967296) : bits .xor .u32 (a : Int) (b : Int) = ((a ^^^ b : Nat) : Int) := by
 have hx : a ^^^ b < 2 ^ 32 := Nat.xor_lt_two_pow (by omega) (by omega)
 have h1 : (BitVec.ofInt 32 (a : Int)).toNat = a := by
  rw [BitVec.ofInt_natCast, BitVec.toNat_ofNat]; exact Nat.mod_eq_of_lt (by omega)
 have h2 : (BitVec.ofInt 32 (b : Int)).toNat = b := by
  rw [BitVec.ofInt_natCast, BitVec.toNat_ofNat]; exact Nat.mod_eq_of_lt (by omega)
 show IntKind.u32.wrap ((BitVec.ofInt 32 (a : Int) ^^^ BitVec.ofInt 32 (b : Int)).toNat : Int) = _
 rw [BitVec.toNat_xor, h1, h2, IntKind.wrap_u32]
 omega
theorem ret_ub {x y : Int} {b : Bool} (h : x = y) : Ending.returned (.tuple #[.int .u32 x, .bool b]) = Ending.returned (.tuple #[.int .u32 y, .bool b]) := by rw [h]
theorem sN28 (a b : Nat) : sumN 28 a b = (a + b) % 4294967296 := by unfold sumN; rw [if_pos rfl]
theorem sN29 (a b : Nat) : sumN 29 a b = (a + 4294967296 - b) % 4294967296 := by unfold sumN; rw [if_neg (by decide), if_pos rfl]
theorem sN30 (a b : Nat) : sumN 30 a b = a * 2 ^ (b % 32) % 4294967296 := by unfold sumN; rw [if_neg (by decide), if_neg (by decide), if_pos rfl]
theorem sN31 (a b : Nat) : sumN 31 a b = b01 (decide (s32 a < s32 b)) := by unfold sumN; rw [if_neg (by decide), if_neg (by decide), if_neg (by decide), if_pos rfl]
theorem sN32 (a b : Nat) : sumN 32 a b = b01 (decide (a < b)) := by unfold sumN; rw [if_neg (by decide), if_neg (by decide), if_neg (by decide), if_neg (by decide), if_pos rfl]
theorem sN33 (a b : Nat) : sumN 33 a b = a ^^^ b := by unfold sumN; rw [if_neg (by decide), if_neg (by decide), if_neg (by decide), if_neg (by decide), if_neg (by decide), if_pos rfl]
theorem sN34 (a b : Nat) : sumN 34 a b = a / 2 ^ (b % 32) := by unfold sumN; rw [if_neg (by decide), if_neg (by decide), if_neg (by decide), if_neg (by decide), if_neg (by decide), if_neg (by decide), if_pos rfl]
theorem sN35 (a b : Nat) : sumN 35 a b = low (s32 a / 2 ^ (b % 32)) := by unfold sumN; rw [if_neg (by decide), if_neg (by decide), if_neg (by decide), if_neg (by decide), if_neg (by decide), if_neg (by decide), if_neg (by decide), if_pos rfl]
theorem sN36 (a b : Nat) : sumN 36 a b = a ||| b := by unfold sumN; rw [if_neg (by decide), if_neg (by decide), if_neg (by decide), if_neg (by decide), if_neg (by decide), if_neg (by decide), if_neg (by decide), if_neg (by decide), if_pos rfl]
theorem sN37 (a b : Nat) : sumN 37 a b = a &&& b := by unfold sumN; rw [if_neg (by decide), if_neg (by decide), if_neg (by decide), if_neg (by decide), if_neg (by decide), if_neg (by decide), if_neg (by decide), if_neg (by decide), if_neg (by decide)]
theorem eq28 (a b : Nat) : ((a : Int) + (b : Int)) % 4294967296 = ((sumN 28 a b : Nat) : Int) := by rw [sN28]; omega
theorem eq29 (a b : Nat) (hb : b < 4294967296) : ((a : Int) - (b : Int)) % 4294967296 = ((sumN 29 a b : Nat) : Int) := by rw [sN29]; omega
theorem eq30 (a b : Nat) : (a : Int) * 2 ^ (b % 32) % 4294967296 = ((sumN 30 a b : Nat) : Int) := by rw [sN30]; simp
theorem eq34 (a b : Nat) : (a : Int) / 2 ^ (b % 32) = ((sumN 34 a b : Nat) : Int) := by rw [sN34]; simp
theorem eq35 (a b : Nat) : wrap32 (a : Int) / 2 ^ (b % 32) % 4294967296 = ((sumN 35 a b : Nat) : Int) := by
 rw [sN35, low_int]
 rfl
theorem eq31 (a b : Nat) : ((b01 (decide (wrap32 (a : Int) < wrap32 (b : Int))) : Nat) : Int) = ((sumN 31 a b : Nat) : Int) := by rw [sN31]; rfl
theorem eq32 (a b : Nat) : ((b01 (decide (a < b)) : Nat) : Int) = ((sumN 32 a b : Nat) : Int) := by rw [sN32]
theorem eq33 (a b : Nat) : ((a ^^^ b : Nat) : Int) = ((sumN 33 a b : Nat) : Int) := by rw [sN33]
theorem eq36 (a b : Nat) : ((a ||| b : Nat) : Int) = ((sumN 36 a b : Nat) : Int) := by rw [sN36]
theorem eq37 (a b : Nat) : ((a &&& b : Nat) : Int) = ((sumN 37 a b : Nat) : Int) := by rw [sN37]
def AluR (r : Nat × Bool) (w : World) (e : Ending) (w' : World) : Prop := e = .returned (.tuple #[.int .u32 (r.1 : Int), .bool r.2]) ∧ w = w'
theorem sum28 (op a b : Nat) (hk : baseN op = 28) (ho : op < 49) (w : World) (ha : a < 4294967296) (hb : b < 4294967296) :
  Calls Tryz.prog 176 #[.int .u8 (op : Int), .int .u32 (a : Int), .int .u32 (b : Int)] w (AluR (sumN 28 a b, true) w) := by
 have HB := wall (fun W => base_any op (by omega) W)
 rw [hk] at HB
 have i1 : ¬ ((49 : Int) ≤ (op : Int)) := by omega
 have HE := wall (eq28 a b)
 clear hk ho ha hb
 go_enter Tryz.func176, Tryz.ntmps176
 go_wp2_with fail
 (with_reducible refine (HB.out _).mono ?_); rintro e w1 ⟨rfl, rfl⟩
 go_wp2_with fail
 exact bodyPost_ret (v := _) (results_tt Tryz.results176 _ _) rfl ⟨ret_ub HE.out, rfl⟩
theorem sum29 (op a b : Nat) (hk : baseN op = 29) (ho : op < 49) (w : World) (ha : a < 4294967296) (hb : b < 4294967296) :
  Calls Tryz.prog 176 #[.int .u8 (op : Int), .int .u32 (a : Int), .int .u32 (b : Int)] w (AluR (sumN 29 a b, true) w) := by
 have HB := wall (fun W => base_any op (by omega) W)
 rw [hk] at HB
 have i1 : ¬ ((49 : Int) ≤ (op : Int)) := by omega
 have HE := wall (eq29 a b hb)
 clear hk ho ha hb
 go_enter Tryz.func176, Tryz.ntmps176
 go_wp2_with fail
 (with_reducible refine (HB.out _).mono ?_); rintro e w1 ⟨rfl, rfl⟩
 go_wp2_with fail
 exact bodyPost_ret (v := _) (results_tt Tryz.results176 _ _) rfl ⟨ret_ub HE.out, rfl⟩
theorem sum30 (op a b : Nat) (hk : baseN op = 30) (ho : op < 49) (w : World) (ha : a < 4294967296) (hb : b < 4294967296) :
  Calls Tryz.prog 176 #[.int .u8 (op : Int), .int .u32 (a : Int), .int .u32 (b : Int)] w (AluR (sumN 30 a b, true) w) := by
 have HB := wall (fun W => base_any op (by omega) W)
 rw [hk] at HB
 have i1 : ¬ ((49 : Int) ≤ (op : Int)) := by omega
 have m31 := and31 b hb
 have hm : b % 32 < 32 := Nat.mod_lt _ (by decide)
 have HE := wall (eq30 a b)
 clear hk ho ha hb
 go_enter Tryz.func176, Tryz.ntmps176
 go_wp2_with fail
 (with_reducible refine (HB.out _).mono ?_); rintro e w1 ⟨rfl, rfl⟩
 go_wp2_with fail
 exact bodyPost_ret (v := _) (results_tt Tryz.results176 _ _) rfl ⟨ret_ub HE.out, rfl⟩
theorem sum31 (op a b : Nat) (hk : baseN op = 31) (ho : op < 49) (w : World) (ha : a < 4294967296) (hb : b < 4294967296) :
  Calls Tryz.prog 176 #[.int .u8 (op : Int), .int .u32 (a : Int), .int .u32 (b : Int)] w (AluR (sumN 31 a b, true) w) := by
 have HB := wall (fun W => base_any op (by omega) W)
 rw [hk] at HB
 have i1 : ¬ ((49 : Int) ≤ (op : Int)) := by omega
 have HE := wall (eq31 a b)
 clear hk ho ha hb
 go_enter Tryz.func176, Tryz.ntmps176
 go_wp2_with fail
 (with_reducible refine (HB.out _).mono ?_); rintro e w1 ⟨rfl, rfl⟩
 go_wp2_with fail
 (with_reducible refine (one_any _ _).mono ?_); rintro e w1 ⟨rfl, rfl⟩
 go_wp2_with fail
 exact bodyPost_ret (v := _) (results_tt Tryz.results176 _ _) rfl ⟨ret_ub HE.out, rfl⟩
theorem sum32 (op a b : Nat) (hk : baseN op = 32) (ho : op < 49) (w : World) (ha : a < 4294967296) (hb : b < 4294967296) :
  Calls Tryz.prog 176 #[.int .u8 (op : Int), .int .u32 (a : Int), .int .u32 (b : Int)] w (AluR (sumN 32 a b, true) w) := by
 have HB := wall (fun W => base_any op (by omega) W)
 rw [hk] at HB
 have i1 : ¬ ((49 : Int) ≤ (op : Int)) := by omega
 have HE := wall (eq32 a b)
 clear hk ho ha hb
 go_enter Tryz.func176, Tryz.ntmps176
 go_wp2_with fail
 (with_reducible refine (HB.out _).mono ?_); rintro e w1 ⟨rfl, rfl⟩
 go_wp2_with fail
 (with_reducible refine (one_any _ _).mono ?_); rintro e w1 ⟨rfl, rfl⟩
 go_wp2_with fail
 exact bodyPost_ret (v := _) (results_tt Tryz.results176 _ _) rfl ⟨ret_ub HE.out, rfl⟩
theorem sum33 (op a b : Nat) (hk : baseN op = 33) (ho : op < 49) (w : World) (ha : a < 4294967296) (hb : b < 4294967296) :
  Calls Tryz.prog 176 #[.int .u8 (op : Int), .int .u32 (a : Int), .int .u32 (b : Int)] w (AluR (sumN 33 a b, true) w) := by
 have HB := wall (fun W => base_any op (by omega) W)
 rw [hk] at HB
 have i1 : ¬ ((49 : Int) ≤ (op : Int)) := by omega
 have mxor := bits_xor_u32 a b ha hb
 have HE := wall (eq33 a b)
 clear hk ho ha hb
 go_enter Tryz.func176, Tryz.ntmps176
 go_wp2_with fail
 (with_reducible refine (HB.out _).mono ?_); rintro e w1 ⟨rfl, rfl⟩
 go_wp2_with fail
 exact bodyPost_ret (v := _) (results_tt Tryz.results176 _ _) rfl ⟨ret_ub HE.out, rfl⟩
theorem sum34 (op a b : Nat) (hk : baseN op = 34) (ho : op < 49) (w : World) (ha : a < 4294967296) (hb : b < 4294967296) :
  Calls Tryz.prog 176 #[.int .u8 (op : Int), .int .u32 (a : Int), .int .u32 (b : Int)] w (AluR (sumN 34 a b, true) w) := by
 have HB := wall (fun W => base_any op (by omega) W)
 rw [hk] at HB
 have i1 : ¬ ((49 : Int) ≤ (op : Int)) := by omega
 have m31 := and31 b hb
 have hm : b % 32 < 32 := Nat.mod_lt _ (by decide)
 have HE := wall (eq34 a b)
 clear hk ho ha hb
 go_enter Tryz.func176, Tryz.ntmps176
 go_wp2_with fail
 (with_reducible refine (HB.out _).mono ?_); rintro e w1 ⟨rfl, rfl⟩
 go_wp2_with fail
 exact bodyPost_ret (v := _) (results_tt Tryz.results176 _ _) rfl ⟨ret_ub HE.out, rfl⟩
theorem sum35 (op a b : Nat) (hk : baseN op = 35) (ho : op < 49) (w : World) (ha : a < 4294967296) (hb : b < 4294967296) :
  Calls Tryz.prog 176 #[.int .u8 (op : Int), .int .u32 (a : Int), .int .u32 (b : Int)] w (AluR (sumN 35 a b, true) w) := by
 have HB := wall (fun W => base_any op (by omega) W)
 rw [hk] at HB
 have i1 : ¬ ((49 : Int) ≤ (op : Int)) := by omega
 have m31 := and31 b hb
 have hm : b % 32 < 32 := Nat.mod_lt _ (by decide)
 have HE := wall (eq35 a b)
 clear hk ho ha hb
 go_enter Tryz.func176, Tryz.ntmps176
 go_wp2_with fail
 (with_reducible refine (HB.out _).mono ?_); rintro e w1 ⟨rfl, rfl⟩
 go_wp2_with fail
 exact bodyPost_ret (v := _) (results_tt Tryz.results176 _ _) rfl ⟨ret_ub HE.out, rfl⟩
theorem sum36 (op a b : Nat) (hk : baseN op = 36) (ho : op < 49) (w : World) (ha : a < 4294967296) (hb : b < 4294967296) :
  Calls Tryz.prog 176 #[.int .u8 (op : Int), .int .u32 (a : Int), .int .u32 (b : Int)] w (AluR (sumN 36 a b, true) w) := by
 have HB := wall (fun W => base_any op (by omega) W)
 rw [hk] at HB
 have i1 : ¬ ((49 : Int) ≤ (op : Int)) := by omega
 have mor := bits_or_u32 a b ha hb
 have HE := wall (eq36 a b)
 clear hk ho ha hb
 go_enter Tryz.func176, Tryz.ntmps176
 go_wp2_with fail
 (with_reducible refine (HB.out _).mono ?_); rintro e w1 ⟨rfl, rfl⟩
 go_wp2_with fail
 exact bodyPost_ret (v := _) (results_tt Tryz.results176 _ _) rfl ⟨ret_ub HE.out, rfl⟩
theorem sum37 (op a b : Nat) (hk : baseN op = 37) (ho : op < 49) (w : World) (ha : a < 4294967296) (hb : b < 4294967296) :
  Calls Tryz.prog 176 #[.int .u8 (op : Int), .int .u32 (a : Int), .int .u32 (b : Int)] w (AluR (sumN 37 a b, true) w) := by
 have HB := wall (fun W => base_any op (by omega) W)
 rw [hk] at HB
 have i1 : ¬ ((49 : Int) ≤ (op : Int)) := by omega
 have mand := bits_and_u32 a b ha hb
 have HE := wall (eq37 a b)
 clear hk ho ha hb
 go_enter Tryz.func176, Tryz.ntmps176
 go_wp2_with fail
 (with_reducible refine (HB.out _).mono ?_); rintro e w1 ⟨rfl, rfl⟩
 go_wp2_with fail
 exact bodyPost_ret (v := _) (results_tt Tryz.results176 _ _) rfl ⟨ret_ub HE.out, rfl⟩
theorem alu_none (op a b : Nat) (h : op < 49) (hk : ¬ (28 ≤ baseN op ∧ baseN op ≤ 37)) (w : World) : Calls Tryz.prog 176 #[.int .u8 (op : Int), .int .u32 (a : Int), .int .u32 (b : Int)] w (AluR (0, false) w) := by
 have HB := wall (fun W => base_any op (by omega) W)
 obtain ⟨k, hkk⟩ : ∃ k, baseN op = k := ⟨_, rfl⟩
 rw [hkk] at hk HB
 have i1 : ¬ ((49 : Int) ≤ (op : Int)) := by omega
 have n28 : ((k : Int) == 28) = false := by rw [beq_eq_false_iff_ne]; omega
 have n29 : ((k : Int) == 29) = false := by rw [beq_eq_false_iff_ne]; omega
 have n30 : ((k : Int) == 30) = false := by rw [beq_eq_false_iff_ne]; omega
 have n31 : ((k : Int) == 31) = false := by rw [beq_eq_false_iff_ne]; omega
 have n32 : ((k : Int) == 32) = false := by rw [beq_eq_false_iff_ne]; omega
 have n33 : ((k : Int) == 33) = false := by rw [beq_eq_false_iff_ne]; omega
 have n34 : ((k : Int) == 34) = false := by rw [beq_eq_false_iff_ne]; omega
 have n35 : ((k : Int) == 35) = false := by rw [beq_eq_false_iff_ne]; omega
 have n36 : ((k : Int) == 36) = false := by rw [beq_eq_false_iff_ne]; omega
 have n37 : ((k : Int) == 37) = false := by rw [beq_eq_false_iff_ne]; omega
 clear hk hkk h
 go_enter Tryz.func176, Tryz.ntmps176
 go_wp2_with fail
 (with_reducible refine (HB.out _).mono ?_); rintro e w1 ⟨rfl, rfl⟩
 go_wp2_with fail
 exact bodyPost_ret (v := _) (results_tt Tryz.results176 _ _) rfl ⟨rfl, rfl⟩
theorem alu_any (op a b : Nat) (h : op < 57) (w : World) (ha : a < 4294967296) (hb : b < 4294967296) : Calls Tryz.prog 176 #[.int .u8 (op : Int), .int .u32 (a : Int), .int .u32 (b : Int)] w (AluR (aluN op a b) w) := by
 unfold aluN
 by_cases h1 : 49 ≤ op ∧ op ≤ 56
 ·rw [if_pos h1]
  exact alu_hi op a b w h1.1 h1.2 ha hb
 ·rw [if_neg h1]
  by_cases h2 : 28 ≤ baseN op ∧ baseN op ≤ 37
  ·rw [if_pos h2]
   have h49 : op < 49 := by omega
   obtain ⟨h3, h4⟩ := h2
   have hc : baseN op = 28 ∨ baseN op = 29 ∨ baseN op = 30 ∨ baseN op = 31 ∨ baseN op = 32 ∨ baseN op = 33 ∨ baseN op = 34 ∨ baseN op = 35 ∨ baseN op = 36 ∨ baseN op = 37 := by omega
   rcases hc with k | k | k | k | k | k | k | k | k | k
   ·rw [k]; exact sum28 op a b k h49 w ha hb
   ·rw [k]; exact sum29 op a b k h49 w ha hb
   ·rw [k]; exact sum30 op a b k h49 w ha hb
   ·rw [k]; exact sum31 op a b k h49 w ha hb
   ·rw [k]; exact sum32 op a b k h49 w ha hb
   ·rw [k]; exact sum33 op a b k h49 w ha hb
   ·rw [k]; exact sum34 op a b k h49 w ha hb
   ·rw [k]; exact sum35 op a b k h49 w ha hb
   ·rw [k]; exact sum36 op a b k h49 w ha hb
   ·rw [k]; exact sum37 op a b k h49 w ha hb
  ·rw [if_neg h2]
   exact alu_none op a b (by omega) h2 w
def takesN (op a b : Nat) : Bool :=
 if op = 5 then a == b
 else if op = 6 then a != b
 else if op = 7 then decide (s32 a < s32 b)
 else if op = 8 then decide (s32 b ≤ s32 a)
 else if op = 9 then decide (a < b)
 else decide (b ≤ a)
theorem beq_cast (a b : Nat) : ((a : Int) == (b : Int)) = (a == b) := by rw [Bool.eq_iff_iff]; simp; omega
theorem ret_b {x y : Bool} (h : x = y) : Ending.returned (.bool x) = Ending.returned (.bool y) := by rw [h]
theorem tk5 (a b : Nat) : ((a : Int) == (b : Int)) = takesN 5 a b := by unfold takesN; rw [if_pos rfl, beq_cast]
theorem tk6 (a b : Nat) : ((a : Int) != (b : Int)) = takesN 6 a b := by
 unfold takesN
 rw [if_neg (by decide), if_pos rfl]
 unfold bne
 rw [beq_cast]
theorem tk7 (a b : Nat) : decide (wrap32 (a : Int) < wrap32 (b : Int)) = takesN 7 a b := by unfold takesN; rw [if_neg (by decide), if_neg (by decide), if_pos rfl]; rfl
theorem tk8 (a b : Nat) : decide (wrap32 (b : Int) ≤ wrap32 (a : Int)) = takesN 8 a b := by unfold takesN; rw [if_neg (by decide), if_neg (by decide), if_neg (by decide), if_pos rfl]; rfl
theorem tk9 (a b : Nat) : decide (a < b) = takesN 9 a b := by unfold takesN; rw [if_neg (by decide), if_neg (by decide), if_neg (by decide), if_neg (by decide), if_pos rfl]
theorem tk10 (a b : Nat) : decide (b ≤ a) = takesN 10 a b := by unfold takesN; rw [if_neg (by decide), if_neg (by decide), if_neg (by decide), if_neg (by decide), if_neg (by decide)]
theorem takes_any (op a b : Nat) (h1 : 5 ≤ op) (h2 : op ≤ 10) (w : World) : Calls Tryz.prog 171 #[.int .u8 (op : Int), .int .u32 (a : Int), .int .u32 (b : Int)] w fun e w' => e = .returned (.bool (takesN op a b)) ∧ w = w' := by
 have hc : op = 5 ∨ op = 6 ∨ op = 7 ∨ op = 8 ∨ op = 9 ∨ op = 10 := by omega
 clear h1 h2
 rcases hc with rfl | rfl | rfl | rfl | rfl | rfl
 ·have HE := wall (tk5 a b)
  obtain ⟨r, hr⟩ : ∃ r, takesN 5 a b = r := ⟨_, rfl⟩
  rw [hr] at HE ⊢
  clear hr
  go_enter Tryz.func171, Tryz.ntmps171
  go_wp2_with fail
  go_light
  go_ret
  exact ⟨ret_b HE.out, rfl⟩
 ·have HE := wall (tk6 a b)
  obtain ⟨r, hr⟩ : ∃ r, takesN 6 a b = r := ⟨_, rfl⟩
  rw [hr] at HE ⊢
  clear hr
  go_enter Tryz.func171, Tryz.ntmps171
  go_wp2_with fail
  go_light
  go_ret
  exact ⟨ret_b HE.out, rfl⟩
 ·have HE := wall (tk7 a b)
  obtain ⟨r, hr⟩ : ∃ r, takesN 7 a b = r := ⟨_, rfl⟩
  rw [hr] at HE ⊢
  clear hr
  go_enter Tryz.func171, Tryz.ntmps171
  go_wp2_with fail
  go_light
  go_ret
  exact ⟨ret_b HE.out, rfl⟩
 ·have HE := wall (tk8 a b)
  obtain ⟨r, hr⟩ : ∃ r, takesN 8 a b = r := ⟨_, rfl⟩
  rw [hr] at HE ⊢
  clear hr
  go_enter Tryz.func171, Tryz.ntmps171
  go_wp2_with fail
  go_light
  go_ret
  exact ⟨ret_b HE.out, rfl⟩
 ·have HE := wall (tk9 a b)
  obtain ⟨r, hr⟩ : ∃ r, takesN 9 a b = r := ⟨_, rfl⟩
  rw [hr] at HE ⊢
  clear hr
  go_enter Tryz.func171, Tryz.ntmps171
  go_wp2_with fail
  go_light
  go_ret
  exact ⟨ret_b HE.out, rfl⟩
 ·have HE := wall (tk10 a b)
  obtain ⟨r, hr⟩ : ∃ r, takesN 10 a b = r := ⟨_, rfl⟩
  rw [hr] at HE ⊢
  clear hr
  go_enter Tryz.func171, Tryz.ntmps171
  go_wp2_with fail
  go_light
  go_ret
  exact ⟨ret_b HE.out, rfl⟩
end Rv
end Go.Proofs.YtmiaabpnolebhaaGreatDoor
