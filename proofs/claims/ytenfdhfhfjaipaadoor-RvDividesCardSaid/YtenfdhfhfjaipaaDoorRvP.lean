/-
  Package rv: products, quotients.
-/
import Derived.Test.YtenfdhfhfjaipaaDoorRvD
import Derived.IntWalk
set_option linter.unusedSimpArgs false
set_option linter.unusedVariables false
namespace Go.Proofs.YtenfdhfhfjaipaaDoor
open Go.RowKit

namespace Rv
open Otp Sha
def s32 (a : Nat) : Int := wrap32 (a : Int)
def quoZ (a b : Int) : Int := if b = 0 then -1 else if b = -1 then wrap32 (-a) else wrap32 (a.tdiv b)
def remZ (a b : Int) : Int := if b = 0 then a else if b = -1 then 0 else a.tmod b
def low (z : Int) : Nat := (z % 4294967296).toNat
def timesN (op a b : Nat) : Nat :=
  if op = 49 then a * b % 4294967296
  else if op = 50 then low (s32 a * s32 b / 4294967296)
  else if op = 51 then low (s32 a * (b : Int) / 4294967296)
  else if op = 52 then a * b / 4294967296 % 4294967296
  else if op = 53 then low (quoZ (s32 a) (s32 b))
  else if op = 55 then low (remZ (s32 a) (s32 b))
  else if b = 0 ∧ op = 54 then 4294967295
  else if b = 0 then a
  else if op = 54 then a / b
  else a % b
def IntO (k : IntKind) (z : Int) (w : World) (e : Ending) (w' : World) : Prop := e = .returned (.int k z) ∧ w = w'
set_option maxHeartbeats 1000000 in
theorem quotient_any (a b : Int) (w : World) : Calls Tryd.prog 62 #[.int .i32 a, .int .i32 b] w (IntO .i32 (quoZ a b) w) := by
  obtain ⟨r, hr⟩ : ∃ r, quoZ a b = r := ⟨_, rfl⟩
  have HR := wall hr
  rw [hr]
  clear hr
  by_cases h0 : b = 0
  · have HE := wall (show r = -1 by rw [← HR.out]; unfold quoZ; rw [if_pos h0])
    have hb0 : (b == 0) = true := by simpa using h0
    clear h0
    go_enter Tryd.func62, Tryd.ntmps62
    go_wp2_with fail
    go_light
    go_ret
    exact ⟨ret1i HE.out.symm, rfl⟩
  · by_cases h1 : b = -1
    · have HE := wall (show r = wrap32 (-a) by rw [← HR.out]; unfold quoZ; rw [if_neg h0, if_pos h1])
      have hb0 : (b == 0) = false := by simpa using h0
      have hb1 : (b == -1) = true := by simpa using h1
      clear h0 h1
      go_enter Tryd.func62, Tryd.ntmps62
      go_wp2_with fail
      go_light
      go_ret
      exact ⟨ret1i HE.out.symm, rfl⟩
    · have HE := wall (show r = wrap32 (a.tdiv b) by rw [← HR.out]; unfold quoZ; rw [if_neg h0, if_neg h1])
      have hb0 : (b == 0) = false := by simpa using h0
      have hb1 : (b == -1) = false := by simpa using h1
      clear h1
      go_enter Tryd.func62, Tryd.ntmps62
      go_wp2_with fail
      go_light
      go_ret
      exact ⟨ret1i HE.out.symm, rfl⟩
set_option maxHeartbeats 1000000 in
theorem remainder_any (a b : Int) (w : World) : Calls Tryd.prog 63 #[.int .i32 a, .int .i32 b] w (IntO .i32 (remZ a b) w) := by
  obtain ⟨r, hr⟩ : ∃ r, remZ a b = r := ⟨_, rfl⟩
  have HR := wall hr
  rw [hr]
  clear hr
  by_cases h0 : b = 0
  · have HE := wall (show r = a by rw [← HR.out]; unfold remZ; rw [if_pos h0])
    have hb0 : (b == 0) = true := by simpa using h0
    clear h0
    go_enter Tryd.func63, Tryd.ntmps63
    go_wp2_with fail
    go_light
    go_ret
    exact ⟨ret1i HE.out.symm, rfl⟩
  · by_cases h1 : b = -1
    · have HE := wall (show r = 0 by rw [← HR.out]; unfold remZ; rw [if_neg h0, if_pos h1])
      have hb0 : (b == 0) = false := by simpa using h0
      have hb1 : (b == -1) = true := by simpa using h1
      clear h0 h1
      go_enter Tryd.func63, Tryd.ntmps63
      go_wp2_with fail
      go_light
      go_ret
      exact ⟨ret1i HE.out.symm, rfl⟩
    · have HE := wall (show r = a.tmod b by rw [← HR.out]; unfold remZ; rw [if_neg h0, if_neg h1])
      have hb0 : (b == 0) = false := by simpa using h0
      have hb1 : (b == -1) = false := by simpa using h1
      clear h1
      go_enter Tryd.func63, Tryd.ntmps63
      go_wp2_with fail
      go_light
      go_ret
      exact ⟨ret1i HE.out.symm, rfl⟩
theorem low_int (z : Int) : ((low z : Nat) : Int) = z % 4294967296 := by unfold low; omega
theorem s32_bounds (a : Nat) : -2147483648 ≤ s32 a ∧ s32 a < 2147483648 := by unfold s32 wrap32; omega
theorem s32_mod (a : Nat) (h : a < 4294967296) : s32 a % 4294967296 = (a : Int) := by unfold s32 wrap32; omega
theorem w64_in {z : Int} (h1 : -9223372036854775808 ≤ z) (h2 : z < 9223372036854775808) : wrap64 z = z := by unfold wrap64; omega
theorem u64_mod (z : Int) : IntKind.u64.wrap z = z % 18446744073709551616 := by simp [IntKind.wrap, IntKind.signed, IntKind.bits]
theorem abs_mul {x y : Int} {m n : Nat} (hx : x.natAbs ≤ m) (hy : y.natAbs ≤ n) : (x * y).natAbs ≤ m * n := by
  rw [Int.natAbs_mul]
  exact Nat.mul_le_mul hx hy
theorem hi_word (z : Int) : z % 18446744073709551616 / 4294967296 % 4294967296 = z / 4294967296 % 4294967296 := by omega
theorem tN49 (a b : Nat) : timesN 49 a b = a * b % 4294967296 := by unfold timesN; rw [if_pos rfl]
theorem tN50 (a b : Nat) : timesN 50 a b = low (s32 a * s32 b / 4294967296) := by unfold timesN; rw [if_neg (by decide), if_pos rfl]
theorem tN51 (a b : Nat) : timesN 51 a b = low (s32 a * (b : Int) / 4294967296) := by unfold timesN; rw [if_neg (by decide), if_neg (by decide), if_pos rfl]
theorem tN52 (a b : Nat) : timesN 52 a b = a * b / 4294967296 % 4294967296 := by unfold timesN; rw [if_neg (by decide), if_neg (by decide), if_neg (by decide), if_pos rfl]
theorem tN53 (a b : Nat) : timesN 53 a b = low (quoZ (s32 a) (s32 b)) := by unfold timesN; rw [if_neg (by decide), if_neg (by decide), if_neg (by decide), if_neg (by decide), if_pos rfl]
theorem tN55 (a b : Nat) : timesN 55 a b = low (remZ (s32 a) (s32 b)) := by unfold timesN; rw [if_neg (by decide), if_neg (by decide), if_neg (by decide), if_neg (by decide), if_neg (by decide), if_pos rfl]
theorem e50 (a b : Nat) : IntKind.u64.wrap (wrap64 (wrap64 (wrap32 a) * wrap64 (wrap32 b))) / 4294967296 % 4294967296 = ((timesN 50 a b : Nat) : Int) := by
  have ha := s32_bounds a
  have hb := s32_bounds b
  have h := abs_mul (x := s32 a) (y := s32 b) (m := 2147483648) (n := 2147483648) (by omega) (by omega)
  rw [tN50, low_int, u64_mod, show wrap32 (a : Int) = s32 a from rfl, show wrap32 (b : Int) = s32 b from rfl, w64_in (z := s32 a) (by omega) (by omega), w64_in (z := s32 b) (by omega) (by omega), w64_in (z := s32 a * s32 b) (by omega) (by omega), hi_word]
theorem e51 (a b : Nat) (hb : b < 4294967296) : IntKind.u64.wrap (wrap64 (wrap64 (wrap32 a) * wrap64 b)) / 4294967296 % 4294967296 = ((timesN 51 a b : Nat) : Int) := by
  have ha := s32_bounds a
  have h := abs_mul (x := s32 a) (y := (b : Int)) (m := 2147483648) (n := 4294967295) (by omega) (by omega)
  rw [tN51, low_int, u64_mod, show wrap32 (a : Int) = s32 a from rfl, w64_in (z := s32 a) (by omega) (by omega), w64_in (z := (b : Int)) (by omega) (by omega), w64_in (z := s32 a * (b : Int)) (by omega) (by omega), hi_word]
theorem e52 (a b : Nat) (ha : a < 4294967296) (hb : b < 4294967296) : IntKind.u64.wrap (IntKind.u64.wrap a * IntKind.u64.wrap b) / 4294967296 % 4294967296 = ((timesN 52 a b : Nat) : Int) := by
  have h := abs_mul (x := (a : Int)) (y := (b : Int)) (m := 4294967295) (n := 4294967295) (by omega) (by omega)
  rw [tN52, u64_mod, u64_mod, u64_mod, show (a : Int) % 18446744073709551616 = a by omega, show (b : Int) % 18446744073709551616 = b by omega, hi_word]
  simp
set_option maxHeartbeats 1000000 in
theorem t49 (a b : Nat) (w : World) (ha : a < 4294967296) (hb : b < 4294967296) : Calls Tryd.prog 44 #[.int .u8 49, .int .u32 (a : Int), .int .u32 (b : Int)] w (IntO .u32 (timesN 49 a b : Nat) w) := by
  have HE := wall (show (a : Int) * (b : Int) % 4294967296 = ((timesN 49 a b : Nat) : Int) by rw [tN49]; simp)
  obtain ⟨r, hr⟩ : ∃ r, ((timesN 49 a b : Nat) : Int) = r := ⟨_, rfl⟩
  rw [hr] at HE ⊢
  clear hr ha hb
  go_enter Tryd.func44, Tryd.ntmps44
  go_wp2_with fail
  go_light
  go_ret
  exact ⟨ret1i HE.out, rfl⟩
set_option maxHeartbeats 1000000 in
theorem t50 (a b : Nat) (w : World) (ha : a < 4294967296) (hb : b < 4294967296) : Calls Tryd.prog 44 #[.int .u8 50, .int .u32 (a : Int), .int .u32 (b : Int)] w (IntO .u32 (timesN 50 a b : Nat) w) := by
  have HE := wall (e50 a b)
  obtain ⟨r, hr⟩ : ∃ r, ((timesN 50 a b : Nat) : Int) = r := ⟨_, rfl⟩
  rw [hr] at HE ⊢
  clear hr ha hb
  go_enter Tryd.func44, Tryd.ntmps44
  go_wp2_with fail
  go_light
  go_ret
  exact ⟨ret1i HE.out, rfl⟩
set_option maxHeartbeats 1000000 in
theorem t51 (a b : Nat) (w : World) (ha : a < 4294967296) (hb : b < 4294967296) : Calls Tryd.prog 44 #[.int .u8 51, .int .u32 (a : Int), .int .u32 (b : Int)] w (IntO .u32 (timesN 51 a b : Nat) w) := by
  have HE := wall (e51 a b hb)
  obtain ⟨r, hr⟩ : ∃ r, ((timesN 51 a b : Nat) : Int) = r := ⟨_, rfl⟩
  rw [hr] at HE ⊢
  clear hr ha hb
  go_enter Tryd.func44, Tryd.ntmps44
  go_wp2_with fail
  go_light
  go_ret
  exact ⟨ret1i HE.out, rfl⟩
set_option maxHeartbeats 1000000 in
theorem t52 (a b : Nat) (w : World) (ha : a < 4294967296) (hb : b < 4294967296) : Calls Tryd.prog 44 #[.int .u8 52, .int .u32 (a : Int), .int .u32 (b : Int)] w (IntO .u32 (timesN 52 a b : Nat) w) := by
  have HE := wall (e52 a b ha hb)
  obtain ⟨r, hr⟩ : ∃ r, ((timesN 52 a b : Nat) : Int) = r := ⟨_, rfl⟩
  rw [hr] at HE ⊢
  clear hr ha hb
  go_enter Tryd.func44, Tryd.ntmps44
  go_wp2_with fail
  go_light
  go_ret
  exact ⟨ret1i HE.out, rfl⟩
set_option maxHeartbeats 1000000 in
theorem t53 (a b : Nat) (w : World) (ha : a < 4294967296) (hb : b < 4294967296) : Calls Tryd.prog 44 #[.int .u8 53, .int .u32 (a : Int), .int .u32 (b : Int)] w (IntO .u32 (timesN 53 a b : Nat) w) := by
  have HE := wall (show quoZ (wrap32 a) (wrap32 b) % 4294967296 = ((timesN 53 a b : Nat) : Int) by rw [tN53, low_int]; rfl)
  obtain ⟨r, hr⟩ : ∃ r, ((timesN 53 a b : Nat) : Int) = r := ⟨_, rfl⟩
  rw [hr] at HE ⊢
  clear hr ha hb
  go_enter Tryd.func44, Tryd.ntmps44
  go_wp2_with fail
  (with_reducible refine (quotient_any _ _ _).mono ?_); rintro e w1 ⟨rfl, rfl⟩
  go_wp2_with fail
  go_light
  go_ret
  exact ⟨ret1i HE.out, rfl⟩
set_option maxHeartbeats 1000000 in
theorem t55 (a b : Nat) (w : World) (ha : a < 4294967296) (hb : b < 4294967296) : Calls Tryd.prog 44 #[.int .u8 55, .int .u32 (a : Int), .int .u32 (b : Int)] w (IntO .u32 (timesN 55 a b : Nat) w) := by
  have HE := wall (show remZ (wrap32 a) (wrap32 b) % 4294967296 = ((timesN 55 a b : Nat) : Int) by rw [tN55, low_int]; rfl)
  obtain ⟨r, hr⟩ : ∃ r, ((timesN 55 a b : Nat) : Int) = r := ⟨_, rfl⟩
  rw [hr] at HE ⊢
  clear hr ha hb
  go_enter Tryd.func44, Tryd.ntmps44
  go_wp2_with fail
  (with_reducible refine (remainder_any _ _ _).mono ?_); rintro e w1 ⟨rfl, rfl⟩
  go_wp2_with fail
  go_light
  go_ret
  exact ⟨ret1i HE.out, rfl⟩
set_option maxHeartbeats 1000000 in
theorem t54 (a b : Nat) (w : World) (ha : a < 4294967296) : Calls Tryd.prog 44 #[.int .u8 54, .int .u32 (a : Int), .int .u32 (b : Int)] w (IntO .u32 (timesN 54 a b : Nat) w) := by
  by_cases h0 : (b : Int) = 0
  · have HE := wall (show ((timesN 54 a b : Nat) : Int) = 4294967295 by (have : b = 0 := by omega); subst this; rfl)
    obtain ⟨r, hr⟩ : ∃ r, ((timesN 54 a b : Nat) : Int) = r := ⟨_, rfl⟩
    rw [hr] at HE ⊢
    have hb0 : ((b : Int) == 0) = true := by simpa using h0
    clear hr ha h0
    go_enter Tryd.func44, Tryd.ntmps44
    go_wp2_with fail
    go_light
    go_ret
    exact ⟨ret1i HE.out.symm, rfl⟩
  · have HE := wall (show ((timesN 54 a b : Nat) : Int) = ((a / b : Nat) : Int) by
      unfold timesN
      simp only [Nat.reduceEqDiff, if_false, and_false, and_true, if_true]
      have hb1 : ¬ b = 0 := by omega
      simp [hb1])
    obtain ⟨r, hr⟩ : ∃ r, ((timesN 54 a b : Nat) : Int) = r := ⟨_, rfl⟩
    rw [hr] at HE ⊢
    have hb0 : ((b : Int) == 0) = false := by simpa using h0
    have hm : (a : Int) / (b : Int) % 4294967296 = (a : Int) / (b : Int) := by
      have h1 : a / b ≤ a := Nat.div_le_self a b
      have h2 : (a : Int) / (b : Int) = ((a / b : Nat) : Int) := by simp
      rw [h2]
      exact Int.emod_eq_of_lt (Int.natCast_nonneg _) (Int.ofNat_lt.2 (Nat.lt_of_le_of_lt h1 ha))
    clear hr ha
    go_enter Tryd.func44, Tryd.ntmps44
    go_wp2_with fail
    go_light
    go_ret
    exact ⟨ret1i (by rw [HE.out]; simp), rfl⟩
set_option maxHeartbeats 1000000 in
theorem t56 (a b : Nat) (w : World) (ha : a < 4294967296) : Calls Tryd.prog 44 #[.int .u8 56, .int .u32 (a : Int), .int .u32 (b : Int)] w (IntO .u32 (timesN 56 a b : Nat) w) := by
  by_cases h0 : (b : Int) = 0
  · have HE := wall (show ((timesN 56 a b : Nat) : Int) = (a : Int) by (have : b = 0 := by omega); subst this; rfl)
    obtain ⟨r, hr⟩ : ∃ r, ((timesN 56 a b : Nat) : Int) = r := ⟨_, rfl⟩
    rw [hr] at HE ⊢
    have hb0 : ((b : Int) == 0) = true := by simpa using h0
    clear hr ha h0
    go_enter Tryd.func44, Tryd.ntmps44
    go_wp2_with fail
    go_light
    go_ret
    exact ⟨ret1i HE.out.symm, rfl⟩
  · have HE := wall (show ((timesN 56 a b : Nat) : Int) = ((a % b : Nat) : Int) by
      unfold timesN
      simp only [Nat.reduceEqDiff, if_false, and_false, and_true, if_true]
      have hb1 : ¬ b = 0 := by omega
      simp [hb1])
    obtain ⟨r, hr⟩ : ∃ r, ((timesN 56 a b : Nat) : Int) = r := ⟨_, rfl⟩
    rw [hr] at HE ⊢
    have hb0 : ((b : Int) == 0) = false := by simpa using h0
    have hm : (a : Int) / (b : Int) % 4294967296 = (a : Int) / (b : Int) := by
      have h1 : a / b ≤ a := Nat.div_le_self a b
      have h2 : (a : Int) / (b : Int) = ((a / b : Nat) : Int) := by simp
      rw [h2]
      exact Int.emod_eq_of_lt (Int.natCast_nonneg _) (Int.ofNat_lt.2 (Nat.lt_of_le_of_lt h1 ha))
    clear hr ha
    go_enter Tryd.func44, Tryd.ntmps44
    go_wp2_with fail
    go_light
    go_ret
    exact ⟨ret1i (by rw [HE.out]; simp), rfl⟩
theorem times_any (op a b : Nat) (w : World) (h1 : 49 ≤ op) (h2 : op ≤ 56) (ha : a < 4294967296) (hb : b < 4294967296) : Calls Tryd.prog 44 #[.int .u8 (op : Int), .int .u32 (a : Int), .int .u32 (b : Int)] w (IntO .u32 (timesN op a b : Nat) w) := by
  obtain rfl | rfl | rfl | rfl | rfl | rfl | rfl | rfl : op = 49 ∨ op = 50 ∨ op = 51 ∨ op = 52 ∨ op = 53 ∨ op = 54 ∨ op = 55 ∨ op = 56 := by omega
  · exact t49 a b w ha hb
  · exact t50 a b w ha hb
  · exact t51 a b w ha hb
  · exact t52 a b w ha hb
  · exact t53 a b w ha hb
  · exact t54 a b w ha
  · exact t55 a b w ha hb
  · exact t56 a b w ha
def AluO (v : Nat) (ok : Bool) (w : World) (e : Ending) (w' : World) : Prop := e = .returned (.tuple #[.int .u32 (v : Int), .bool ok]) ∧ w = w'
set_option maxHeartbeats 1000000 in
theorem alu_hi (op a b : Nat) (w : World) (h1 : 49 ≤ op) (h2 : op ≤ 56) (ha : a < 4294967296) (hb : b < 4294967296) : Calls Tryd.prog 19 #[.int .u8 (op : Int), .int .u32 (a : Int), .int .u32 (b : Int)] w (AluO (timesN op a b) true w) := by
  have HT := wall (fun W => times_any op a b W h1 h2 ha hb)
  have d1 : decide (49 ≤ (op : Int)) = true := decide_eq_true (by omega)
  have d2 : decide ((op : Int) ≤ 56) = true := decide_eq_true (by omega)
  obtain ⟨r, hr⟩ : ∃ r, timesN op a b = r := ⟨_, rfl⟩
  rw [hr] at HT ⊢
  clear hr ha hb
  go_enter Tryd.func19, Tryd.ntmps19
  go_wp2_with fail
  (with_reducible refine (HT.out _).mono ?_); rintro e w1 ⟨rfl, rfl⟩
  go_wp2_with fail
  exact bodyPost_ret (v := .tuple #[.int .u32 (r : Int), .bool true]) (results_tt Tryd.results19 _ _) rfl ⟨rfl, rfl⟩
end Rv
end Go.Proofs.YtenfdhfhfjaipaaDoor
