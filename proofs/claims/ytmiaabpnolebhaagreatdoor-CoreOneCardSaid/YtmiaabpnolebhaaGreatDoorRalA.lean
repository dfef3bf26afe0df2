import Derived.Test.YtmiaabpnolebhaaGreatDoorJ5efe542d
set_option maxRecDepth 100000
set_option maxHeartbeats 4000000
set_option linter.unusedSimpArgs false
set_option linter.unusedVariables false
namespace Go.Proofs.YtmiaabpnolebhaaGreatDoor
open Go.RowKit

namespace Rv
open Otp Sha Core
theorem s32_cases (a : Nat) (h : a < 4294967296) : (a < 2147483648 ∧ s32 a = (a : Int)) ∨ (2147483648 ≤ a ∧ s32 a = (a : Int) - 4294967296) := by
 unfold s32 wrap32
 omega
theorem s32_range (a : Nat) (h : a < 4294967296) : -2147483648 ≤ s32 a ∧ s32 a ≤ 2147483647 := by
 rcases s32_cases a h with ⟨h1, h2⟩ | ⟨h1, h2⟩ <;> omega
theorem low_s32 (a : Nat) (h : a < 4294967296) : low (s32 a) = a := by
 unfold low
 rcases s32_cases a h with ⟨h1, h2⟩ | ⟨h1, h2⟩ <;> omega
theorem low_wrap (z : Int) : low (wrap32 z) = low z := by
 unfold low wrap32
 omega
theorem sign_any (a : Nat) (w : World) (ha : a < 4294967296) : Calls Tryz.prog 241 #[.int .u32 (a : Int)] w (IntO .i64 (s32 a) w) := by
 rcases s32_cases a ha with ⟨h1, h2⟩ | ⟨h1, h2⟩
 ·rw [h2]
  have i1 : ¬ (2147483648 : Int) ≤ (a : Int) := by omega
  clear h1 h2
  go_enter Tryz.func241, Tryz.ntmps241
  go_wp2_with fail
  go_light
  go_ret
  exact ⟨rfl, rfl⟩
 ·rw [h2]
  have i1 : (2147483648 : Int) ≤ (a : Int) := by omega
  have i2 : (a : Int) < 4294967296 := by omega
  clear h1 h2
  go_enter Tryz.func241, Tryz.ntmps241
  go_wp2_with fail
  go_light
  go_ret
  exact ⟨rfl, rfl⟩
theorem low_any (z : Int) (w : World) : Calls Tryz.prog 242 #[.int .i64 z] w (IntO .u32 ((low z : Nat) : Int) w) := by
 have hl : ((low z : Nat) : Int) = z % 4294967296 := by unfold low; omega
 rw [hl]
 obtain ⟨t, ht⟩ : ∃ t, z.tmod 4294967296 = t := ⟨_, rfl⟩
 have h1 : -4294967296 < t ∧ t < 4294967296 ∧ ((t + 4294967296) % 4294967296 = z % 4294967296) := by
  subst ht
  rcases Int.lt_or_le z 0 with h | h
  ·rw [show z = -(-z) by omega, Int.neg_tmod, Int.tmod_eq_emod_of_nonneg (by omega)]
   omega
  ·rw [Int.tmod_eq_emod_of_nonneg h]
   omega
 obtain ⟨h2, h3, h4⟩ := h1
 obtain ⟨u, hu⟩ : ∃ u, t + 4294967296 = u := ⟨_, rfl⟩
 have h5 : u.tmod 4294967296 = z % 4294967296 := by rw [Int.tmod_eq_emod_of_nonneg (by omega), ← hu, h4]
 have h6 : 0 ≤ z % 4294967296 ∧ z % 4294967296 < 4294967296 := by omega
 have h7 : -9223372036854775808 ≤ t + 4294967296 ∧ t + 4294967296 < 9223372036854775808 := by omega
 obtain ⟨r, hr⟩ : ∃ r, z % 4294967296 = r := ⟨_, rfl⟩
 rw [hr] at h5 h6
 rw [hr]
 obtain ⟨h61, h62⟩ := h6
 clear h4 hr h7 hl
 have hu' := wall hu
 go_enter Tryz.func242, Tryz.ntmps242
 go_wp2_with fail
 go_light
 go_ret
 exact ⟨rfl, rfl⟩
theorem floor_any (z nz : Int) (n : Nat) (w : World) (hn : nz = n) (h62 : n ≤ 32) (h1 : -9223372036854775808 ≤ z - z % 2 ^ n) (h2 : z < 9223372036854775808) : Calls Tryz.prog 244 #[.int .i64 z, .int .i64 nz] w (IntO .i64 (z / 2 ^ n) w) := by
 subst hn
 obtain ⟨d, hd⟩ : ∃ d : Int, (2 : Int) ^ n = d := ⟨_, rfl⟩
 have hdp : 0 < d ∧ d ≤ 4294967296 := by
  have h3 : ((2 ^ n : Nat) : Int) = d := by rw [← hd]; simp
  have h4 : 2 ^ n ≤ 2 ^ 32 := Nat.pow_le_pow_right (by decide) h62
  have h5 : 0 < 2 ^ n := Nat.two_pow_pos n
  omega
 rw [hd] at h1
 obtain ⟨t, ht⟩ : ∃ t, z.tmod d = t := ⟨_, rfl⟩
 obtain ⟨q, hq⟩ : ∃ q, z / d = q := ⟨_, rfl⟩
 obtain ⟨m, hm⟩ : ∃ m, z % d = m := ⟨_, rfl⟩
 have hdm : d * q + m = z := by rw [← hq, ← hm]; exact Int.mul_ediv_add_emod z d
 have hm1 : 0 ≤ m ∧ m < d := by rw [← hm]; exact ⟨Int.emod_nonneg _ (by omega), Int.emod_lt_of_pos _ hdp.1⟩
 have ht1 : (t = m ∨ t = m - d) := by
  rcases Int.lt_or_le z 0 with h | h
  ·have e : t = -((-z) % d) := by rw [← ht, show z = -(-z) by omega, Int.neg_tmod, Int.tmod_eq_emod_of_nonneg (by omega), Int.neg_neg]
   by_cases h0 : m = 0
   ·left
    rw [e, Int.neg_emod, if_pos (Int.dvd_of_emod_eq_zero (by rw [hm, h0]))]
    omega
   ·right
    rw [e, Int.neg_emod, if_neg (fun hh => h0 (by rw [← hm]; exact Int.emod_eq_zero_of_dvd hh)), hm, Int.natAbs_of_nonneg (by omega)]
    omega
  ·left
   rw [← ht, Int.tmod_eq_emod_of_nonneg h, hm]
 obtain ⟨u, hu⟩ : ∃ u, t + d = u := ⟨_, rfl⟩
 have hu2 : u.tmod d = m := by
  have hu0 : 0 ≤ u := by omega
  rw [Int.tmod_eq_emod_of_nonneg hu0]
  rcases ht1 with e | e
  ·rw [← hu, e, Int.add_emod_right, Int.emod_eq_of_lt hm1.1 hm1.2]
  ·rw [← hu, e, show m - d + d = m by omega, Int.emod_eq_of_lt hm1.1 hm1.2]
 obtain ⟨x, hx⟩ : ∃ x, z - m = x := ⟨_, rfl⟩
 have hx2 : x.tdiv d = q := by
  have : x = d * q := by omega
  rw [this, Int.mul_tdiv_cancel_left _ (by omega)]
 rw [hd, hq]
 have hut : -9223372036854775808 ≤ t + d ∧ t + d < 9223372036854775808 := by omega
 have hxt : -9223372036854775808 ≤ z - m ∧ z - m < 9223372036854775808 := by omega
 have hqt : -9223372036854775808 ≤ q ∧ q < 9223372036854775808 := by
  have h5 := Int.mul_ediv_add_emod z d
  constructor
  ·rcases Int.lt_or_le q 0 with h | h
   ·have : d * q ≤ 1 * q := Int.mul_le_mul_of_nonpos_right (by omega) (by omega)
    omega
   ·omega
  ·rcases Int.lt_or_le q 0 with h | h
   ·omega
   ·have : 1 * q ≤ d * q := Int.mul_le_mul_of_nonneg_right (by omega) h
    omega
 have hd0 : d ≠ 0 := by omega
 have HH := wall (And.intro hd hu)
 clear hdm ht1 hm1 hm hq h1
 go_enter Tryz.func244, Tryz.ntmps244
 go_wp2_with fail
 go_light
 go_ret
 exact ⟨rfl, rfl⟩
theorem truth_any (b : Bool) (w : World) : Calls Tryz.prog 243 #[.bool b] w fun e w' => e = .returned (.int .u32 ((b01 b : Nat) : Int)) ∧ w = w' := by
 cases b with
 | true =>
  go_enter Tryz.func243, Tryz.ntmps243
  go_wp2_with fail
  go_light
  go_ret
  exact ⟨rfl, rfl⟩
 | false =>
  go_enter Tryz.func243, Tryz.ntmps243
  go_wp2_with fail
  go_light
  go_ret
  exact ⟨rfl, rfl⟩
theorem high_eq (a b : Nat) : (a / 65536 * (b / 65536) + (a / 65536 * (b % 65536) + a % 65536 * (b / 65536) + a % 65536 * (b % 65536) / 65536) / 65536) % 4294967296 = a * b / 4294967296 % 4294967296 := by
 have e : a * b = a / 65536 * (b / 65536) * 4294967296 + (a / 65536 * (b % 65536) + a % 65536 * (b / 65536)) * 65536 + a % 65536 * (b % 65536) := by
  have ha : a = 65536 * (a / 65536) + a % 65536 := (Nat.div_add_mod a 65536).symm
  have hb : b = 65536 * (b / 65536) + b % 65536 := (Nat.div_add_mod b 65536).symm
  generalize a / 65536 = a1 at *
  generalize a % 65536 = a0 at *
  generalize b / 65536 = b1 at *
  generalize b % 65536 = b0 at *
  subst ha hb
  simp only [Nat.add_mul, Nat.mul_add]
  have q1 : 65536 * a1 * (65536 * b1) = a1 * b1 * 4294967296 := by
   rw [show 65536 * a1 * (65536 * b1) = (a1 * b1) * (65536 * 65536) by rw [Nat.mul_comm 65536 a1, Nat.mul_comm 65536 b1, Nat.mul_mul_mul_comm]]
  have q2 : 65536 * a1 * b0 = a1 * b0 * 65536 := by rw [Nat.mul_assoc, Nat.mul_comm]
  have q3 : a0 * (65536 * b1) = a0 * b1 * 65536 := by rw [Nat.mul_comm 65536 b1, Nat.mul_assoc]
  rw [q1, q2, q3]
  omega
 rw [e]
 generalize a / 65536 * (b / 65536) = p11
 generalize a / 65536 * (b % 65536) = p10
 generalize a % 65536 * (b / 65536) = p01
 generalize a % 65536 * (b % 65536) = p00
 omega
theorem high_any (a b : Nat) (w : World) (ha : a < 4294967296) (hb : b < 4294967296) : Calls Tryz.prog 245 #[.int .u32 (a : Int), .int .u32 (b : Int)] w (IntO .u32 ((a * b / 4294967296 % 4294967296 : Nat) : Int) w) := by
 have HE := wall (high_eq a b)
 have ha' : (a : Int) < 4294967296 := by omega
 have hb' : (b : Int) < 4294967296 := by omega
 have p1 : a / 65536 * (b / 65536) ≤ 65535 * 65535 := Nat.mul_le_mul (by omega) (by omega)
 have p2 : a / 65536 * (b % 65536) ≤ 65535 * 65535 := Nat.mul_le_mul (by omega) (by omega)
 have p3 : a % 65536 * (b / 65536) ≤ 65535 * 65535 := Nat.mul_le_mul (by omega) (by omega)
 have p4 : a % 65536 * (b % 65536) ≤ 65535 * 65535 := Nat.mul_le_mul (by omega) (by omega)
 have HP := wall (And.intro p1 (And.intro p2 (And.intro p3 p4)))
 clear p1 p2 p3 p4
 go_enter Tryz.func245, Tryz.ntmps245
 go_wp2_with fail
 go_light
 go_ret
 refine ⟨congrArg Ending.returned (congrArg (Value.int .u32) ?_), rfl⟩
 obtain ⟨p1, p2, p3, p4⟩ := HP.out
 rw [← HE.out]
 rw [show (a : Int) / 65536 * ((b : Int) / 65536) = ((a / 65536 * (b / 65536) : Nat) : Int) by simp, show (a : Int) / 65536 * ((b : Int) % 65536) = ((a / 65536 * (b % 65536) : Nat) : Int) by simp, show (a : Int) % 65536 * ((b : Int) / 65536) = ((a % 65536 * (b / 65536) : Nat) : Int) by simp, show (a : Int) % 65536 * ((b : Int) % 65536) = ((a % 65536 * (b % 65536) : Nat) : Int) by simp]
 generalize a / 65536 * (b / 65536) = p11 at *
 generalize a / 65536 * (b % 65536) = p10 at *
 generalize a % 65536 * (b / 65536) = p01 at *
 generalize a % 65536 * (b % 65536) = p00 at *
 simp only [IntKind.wrap_u64]
 rw [Int.tmod_eq_emod_of_nonneg (by omega)]
 omega
theorem rtk5 (a b : Nat) (w : World) (ha : a < 4294967296) (hb : b < 4294967296) : Calls Tryz.prog 185 #[.int .u8 5, .int .u32 (a : Int), .int .u32 (b : Int)] w fun e w' => e = .returned (.bool (takesN 5 a b)) ∧ w = w' := by
 have HT := wall (tk5 a b)
 obtain ⟨r, hr⟩ : ∃ r, takesN 5 a b = r := ⟨_, rfl⟩
 rw [hr] at HT
 rw [hr]
 clear hr
 go_enter Tryz.func185, Tryz.ntmps185
 go_wp2_with fail
 (with_reducible refine (sign_any a w ha).mono ?_); rintro e w1 ⟨rfl, rfl⟩
 try simp only [Act.put, rpA, rpB, rpC]
 go_wp2_with fail
 (with_reducible refine (sign_any b w hb).mono ?_); rintro e w1 ⟨rfl, rfl⟩
 try simp only [Act.put, rpA, rpB, rpC]
 go_wp2_with fail
 go_light
 go_ret
 have ht := HT.out
 refine ⟨?_, rfl⟩
 first
  | (rw [← ht]; rfl)
  | (rw [← ht]; congr 2; simp [GE.ge, s32])
theorem rtk6 (a b : Nat) (w : World) (ha : a < 4294967296) (hb : b < 4294967296) : Calls Tryz.prog 185 #[.int .u8 6, .int .u32 (a : Int), .int .u32 (b : Int)] w fun e w' => e = .returned (.bool (takesN 6 a b)) ∧ w = w' := by
 have HT := wall (tk6 a b)
 obtain ⟨r, hr⟩ : ∃ r, takesN 6 a b = r := ⟨_, rfl⟩
 rw [hr] at HT
 rw [hr]
 clear hr
 go_enter Tryz.func185, Tryz.ntmps185
 go_wp2_with fail
 (with_reducible refine (sign_any a w ha).mono ?_); rintro e w1 ⟨rfl, rfl⟩
 try simp only [Act.put, rpA, rpB, rpC]
 go_wp2_with fail
 (with_reducible refine (sign_any b w hb).mono ?_); rintro e w1 ⟨rfl, rfl⟩
 try simp only [Act.put, rpA, rpB, rpC]
 go_wp2_with fail
 go_light
 go_ret
 have ht := HT.out
 refine ⟨?_, rfl⟩
 first
  | (rw [← ht]; rfl)
  | (rw [← ht]; congr 2; simp [GE.ge, s32])
theorem rtk7 (a b : Nat) (w : World) (ha : a < 4294967296) (hb : b < 4294967296) : Calls Tryz.prog 185 #[.int .u8 7, .int .u32 (a : Int), .int .u32 (b : Int)] w fun e w' => e = .returned (.bool (takesN 7 a b)) ∧ w = w' := by
 have HT := wall (tk7 a b)
 obtain ⟨r, hr⟩ : ∃ r, takesN 7 a b = r := ⟨_, rfl⟩
 rw [hr] at HT
 rw [hr]
 clear hr
 go_enter Tryz.func185, Tryz.ntmps185
 go_wp2_with fail
 (with_reducible refine (sign_any a w ha).mono ?_); rintro e w1 ⟨rfl, rfl⟩
 try simp only [Act.put, rpA, rpB, rpC]
 go_wp2_with fail
 (with_reducible refine (sign_any b w hb).mono ?_); rintro e w1 ⟨rfl, rfl⟩
 try simp only [Act.put, rpA, rpB, rpC]
 go_wp2_with fail
 go_light
 go_ret
 have ht := HT.out
 refine ⟨?_, rfl⟩
 first
  | (rw [← ht]; rfl)
  | (rw [← ht]; congr 2; simp [GE.ge, s32])
theorem rtk8 (a b : Nat) (w : World) (ha : a < 4294967296) (hb : b < 4294967296) : Calls Tryz.prog 185 #[.int .u8 8, .int .u32 (a : Int), .int .u32 (b : Int)] w fun e w' => e = .returned (.bool (takesN 8 a b)) ∧ w = w' := by
 have HT := wall (tk8 a b)
 obtain ⟨r, hr⟩ : ∃ r, takesN 8 a b = r := ⟨_, rfl⟩
 rw [hr] at HT
 rw [hr]
 clear hr
 go_enter Tryz.func185, Tryz.ntmps185
 go_wp2_with fail
 (with_reducible refine (sign_any a w ha).mono ?_); rintro e w1 ⟨rfl, rfl⟩
 try simp only [Act.put, rpA, rpB, rpC]
 go_wp2_with fail
 (with_reducible refine (sign_any b w hb).mono ?_); rintro e w1 ⟨rfl, rfl⟩
 try simp only [Act.put, rpA, rpB, rpC]
 go_wp2_with fail
 go_light
 go_ret
 have ht := HT.out
 refine ⟨?_, rfl⟩
 first
  | (rw [← ht]; rfl)
  | (rw [← ht]; congr 2; simp [GE.ge, s32])
theorem rtk9 (a b : Nat) (w : World) (ha : a < 4294967296) (hb : b < 4294967296) : Calls Tryz.prog 185 #[.int .u8 9, .int .u32 (a : Int), .int .u32 (b : Int)] w fun e w' => e = .returned (.bool (takesN 9 a b)) ∧ w = w' := by
 have HT := wall (tk9 a b)
 obtain ⟨r, hr⟩ : ∃ r, takesN 9 a b = r := ⟨_, rfl⟩
 rw [hr] at HT
 rw [hr]
 clear hr
 go_enter Tryz.func185, Tryz.ntmps185
 go_wp2_with fail
 (with_reducible refine (sign_any a w ha).mono ?_); rintro e w1 ⟨rfl, rfl⟩
 try simp only [Act.put, rpA, rpB, rpC]
 go_wp2_with fail
 (with_reducible refine (sign_any b w hb).mono ?_); rintro e w1 ⟨rfl, rfl⟩
 try simp only [Act.put, rpA, rpB, rpC]
 go_wp2_with fail
 go_light
 go_ret
 have ht := HT.out
 refine ⟨?_, rfl⟩
 first
  | (rw [← ht]; rfl)
  | (rw [← ht]; congr 2; simp [GE.ge, s32])
theorem rtk10 (a b : Nat) (w : World) (ha : a < 4294967296) (hb : b < 4294967296) : Calls Tryz.prog 185 #[.int .u8 10, .int .u32 (a : Int), .int .u32 (b : Int)] w fun e w' => e = .returned (.bool (takesN 10 a b)) ∧ w = w' := by
 have HT := wall (tk10 a b)
 obtain ⟨r, hr⟩ : ∃ r, takesN 10 a b = r := ⟨_, rfl⟩
 rw [hr] at HT
 rw [hr]
 clear hr
 go_enter Tryz.func185, Tryz.ntmps185
 go_wp2_with fail
 (with_reducible refine (sign_any a w ha).mono ?_); rintro e w1 ⟨rfl, rfl⟩
 try simp only [Act.put, rpA, rpB, rpC]
 go_wp2_with fail
 (with_reducible refine (sign_any b w hb).mono ?_); rintro e w1 ⟨rfl, rfl⟩
 try simp only [Act.put, rpA, rpB, rpC]
 go_wp2_with fail
 go_light
 go_ret
 have ht := HT.out
 refine ⟨?_, rfl⟩
 first
  | (rw [← ht]; rfl)
  | (rw [← ht]; congr 2; simp [GE.ge, s32])
theorem rtakes_any (op a b : Nat) (h1 : 5 ≤ op) (h2 : op ≤ 10) (w : World) (ha : a < 4294967296) (hb : b < 4294967296) : Calls Tryz.prog 185 #[.int .u8 (op : Int), .int .u32 (a : Int), .int .u32 (b : Int)] w fun e w' => e = .returned (.bool (takesN op a b)) ∧ w = w' := by
 have hc : op = 5 ∨ op = 6 ∨ op = 7 ∨ op = 8 ∨ op = 9 ∨ op = 10 := by omega
 rcases hc with rfl | rfl | rfl | rfl | rfl | rfl
 ·exact rtk5 a b w ha hb
 ·exact rtk6 a b w ha hb
 ·exact rtk7 a b w ha hb
 ·exact rtk8 a b w ha hb
 ·exact rtk9 a b w ha hb
 ·exact rtk10 a b w ha hb
theorem add_xor_and : ∀ (n a b : Nat), a < 2 ^ n → b < 2 ^ n → a + b = (a ^^^ b) + 2 * (a &&& b)
 | 0, a, b, ha, hb => by
  have h1 : a = 0 := by omega
  have h2 : b = 0 := by omega
  subst h1 h2
  rfl
 | n + 1, a, b, ha, hb => by
  have ih := add_xor_and n (a / 2) (b / 2) (by rw [Nat.pow_succ] at ha; omega) (by rw [Nat.pow_succ] at hb; omega)
  have e1 : (a ^^^ b) / 2 = a / 2 ^^^ b / 2 := by have := Nat.shiftRight_xor_distrib (a := a) (b := b) (i := 1); simpa [Nat.shiftRight_succ] using this
  have e2 : (a &&& b) / 2 = a / 2 &&& b / 2 := by have := Nat.shiftRight_and_distrib (a := a) (b := b) (i := 1); simpa [Nat.shiftRight_succ] using this
  have e3 : (a ^^^ b) % 2 = (a % 2 + b % 2) % 2 := by
   have h := Nat.xor_mod_two_pow (a := a) (b := b) (n := 1)
   simp only [Nat.pow_one] at h
   rw [h]
   rcases Nat.mod_two_eq_zero_or_one a with h1 | h1 <;> rcases Nat.mod_two_eq_zero_or_one b with h2 | h2 <;> rw [h1, h2] <;> rfl
  have e4 : (a &&& b) % 2 = a % 2 * (b % 2) := by
   have h := Nat.and_mod_two_pow (a := a) (b := b) (n := 1)
   simp only [Nat.pow_one] at h
   rw [h]
   rcases Nat.mod_two_eq_zero_or_one a with h1 | h1 <;> rcases Nat.mod_two_eq_zero_or_one b with h2 | h2 <;> rw [h1, h2] <;> rfl
  have h5 : a % 2 * (b % 2) = 0 ∨ (a % 2 = 1 ∧ b % 2 = 1 ∧ a % 2 * (b % 2) = 1) := by
   rcases Nat.mod_two_eq_zero_or_one a with h1 | h1 <;> rcases Nat.mod_two_eq_zero_or_one b with h2 | h2 <;> rw [h1, h2] <;> simp
  rw [← e1, ← e2] at ih
  rcases h5 with h | ⟨h, h', h''⟩
  ·have h6 : a % 2 = 0 ∨ b % 2 = 0 := Nat.mul_eq_zero.1 h
   omega
  ·omega
theorem and_or : ∀ (n a b : Nat), a < 2 ^ n → b < 2 ^ n → a + b = (a ||| b) + (a &&& b)
 | 0, a, b, ha, hb => by
  have h1 : a = 0 := by omega
  have h2 : b = 0 := by omega
  subst h1 h2
  rfl
 | n + 1, a, b, ha, hb => by
  have ih := and_or n (a / 2) (b / 2) (by rw [Nat.pow_succ] at ha; omega) (by rw [Nat.pow_succ] at hb; omega)
  have e1 : (a ||| b) / 2 = a / 2 ||| b / 2 := by have := Nat.shiftRight_or_distrib (a := a) (b := b) (i := 1); simpa [Nat.shiftRight_succ] using this
  have e2 : (a &&& b) / 2 = a / 2 &&& b / 2 := by have := Nat.shiftRight_and_distrib (a := a) (b := b) (i := 1); simpa [Nat.shiftRight_succ] using this
  have e34 : (a ||| b) % 2 + (a &&& b) % 2 = a % 2 + b % 2 := by
   have h := Nat.and_mod_two_pow (a := a) (b := b) (n := 1)
   have h' := Nat.or_mod_two_pow (a := a) (b := b) (n := 1)
   simp only [Nat.pow_one] at h h'
   rw [h, h']
   rcases Nat.mod_two_eq_zero_or_one a with h1 | h1 <;> rcases Nat.mod_two_eq_zero_or_one b with h2 | h2 <;> rw [h1, h2] <;> rfl
  rw [← e1, ← e2] at ih
  omega
theorem or_sub (a b : Nat) (ha : a < 4294967296) (hb : b < 4294967296) : a + b - (a &&& b) = a ||| b ∧ (a &&& b) ≤ a + b ∧ a ||| b < 4294967296 := by
 have h := and_or 32 a b ha hb
 have := Nat.or_lt_two_pow (n := 32) (x := a) (y := b) ha hb
 omega
theorem emod_mul_s32 (a b : Nat) (ha : a < 4294967296) (hb : b < 4294967296) : low (s32 a * s32 b) = a * b % 4294967296 := by
 have h : (s32 a * s32 b) % 4294967296 = ((a : Int) * (b : Int)) % 4294967296 := by
  have e1 : s32 a % 4294967296 = (a : Int) := by rcases s32_cases a ha with ⟨h1, h2⟩ | ⟨h1, h2⟩ <;> rw [h2] <;> omega
  have e2 : s32 b % 4294967296 = (b : Int) := by rcases s32_cases b hb with ⟨h1, h2⟩ | ⟨h1, h2⟩ <;> rw [h2] <;> omega
  rw [Int.mul_emod, e1, e2]
 unfold low
 rw [h, ← Int.natCast_mul]
 omega
theorem mul_range (x y : Int) (hx : -2147483648 ≤ x ∧ x ≤ 2147483647) (hy : -2147483648 ≤ y ∧ y ≤ 4294967295) : -9223372034707292160 ≤ x * y ∧ x * y ≤ 9223372030412324865 := by
 rcases Int.lt_or_le x 0 with h | h <;> rcases Int.lt_or_le y 0 with h' | h'
 ·have h1 : 0 ≤ x * y := Int.mul_nonneg_of_nonpos_of_nonpos (by omega) (by omega)
  have h2 : (-x) * (-y) ≤ 2147483648 * 2147483648 := Int.mul_le_mul (by omega) (by omega) (by omega) (by omega)
  rw [Int.neg_mul_neg] at h2
  omega
 ·have h2 : (-x) * y ≤ 2147483648 * 4294967295 := Int.mul_le_mul (by omega) (by omega) (by omega) (by omega)
  have h1 : 0 ≤ (-x) * y := Int.mul_nonneg (by omega) (by omega)
  rw [Int.neg_mul] at h1 h2
  omega
 ·have h2 : x * (-y) ≤ 2147483647 * 2147483648 := Int.mul_le_mul (by omega) (by omega) (by omega) (by omega)
  have h1 : 0 ≤ x * (-y) := Int.mul_nonneg (by omega) (by omega)
  rw [Int.mul_neg] at h1 h2
  omega
 ·have h1 : 0 ≤ x * y := Int.mul_nonneg (by omega) (by omega)
  have h2 : x * y ≤ 2147483647 * 4294967295 := Int.mul_le_mul (by omega) (by omega) (by omega) (by omega)
  omega
theorem fl_range (z : Int) (h : -9223372034707292160 ≤ z ∧ z ≤ 9223372030412324865) : -9223372036854775808 ≤ z - z % 2 ^ 32 ∧ z < 9223372036854775808 := by
 have e : (2 : Int) ^ 32 = 4294967296 := rfl
 rw [e]
 omega
theorem quo_low (x y : Int) (h : y ≠ 0) : low (quoZ x y) = low (x.tdiv y) := by
 unfold quoZ
 rw [if_neg h]
 split
 ·rename_i h1
  rw [h1, low_wrap, Int.tdiv_neg, Int.tdiv_one]
 ·exact low_wrap _
theorem rem_low (x y : Int) (h : y ≠ 0) : low (remZ x y) = low (x.tmod y) := by
 unfold remZ
 rw [if_neg h]
 split
 ·rename_i h1
  rw [h1, Int.tmod_neg, Int.tmod_one]
 ·rfl
theorem tdiv_range (x y : Int) (hx : -2147483648 ≤ x ∧ x ≤ 2147483647) : -9223372036854775808 ≤ x.tdiv y ∧ x.tdiv y < 9223372036854775808 := by
 have h := Int.natAbs_tdiv_le_natAbs x y
 omega
theorem s32_zero (b : Nat) (hb : b < 4294967296) : s32 b = 0 ↔ b = 0 := by
 rcases s32_cases b hb with ⟨h1, h2⟩ | ⟨h1, h2⟩ <;> omega
theorem ralu_any (op a b : Nat) (h : (19 ≤ op ∧ op ≤ 38) ∨ op = 42 ∨ (49 ≤ op ∧ op ≤ 56)) (w : World) (ha : a < 4294967296) (hb : b < 4294967296) : Calls Tryz.prog 190 #[.int .u8 (op : Int), .int .u32 (a : Int), .int .u32 (b : Int)] w (AluR (aluN op a b) w) := by
 have ha' : (a : Int) < 4294967296 := by omega
 have hb' : (b : Int) < 4294967296 := by omega
 have hc := wall (show op = 19 ∨ op = 20 ∨ op = 21 ∨ op = 22 ∨ op = 23 ∨ op = 24 ∨ op = 25 ∨ op = 26 ∨ op = 27 ∨ op = 28 ∨ op = 29 ∨ op = 30 ∨ op = 31 ∨ op = 32 ∨ op = 33 ∨ op = 34 ∨ op = 35 ∨ op = 36 ∨ op = 37 ∨ op = 38 ∨ op = 42 ∨ op = 49 ∨ op = 50 ∨ op = 51 ∨ op = 52 ∨ op = 53 ∨ op = 54 ∨ op = 55 ∨ op = 56 by omega)
 obtain ⟨r, hr⟩ : ∃ r, aluN op a b = r := ⟨_, rfl⟩
 have HRR := wall hr
 rw [hr]
 clear hr h
 go_enter Tryz.func190, Tryz.ntmps190
 go_wp2_with fail
 (with_reducible refine (sign_any a w ha).mono ?_); rintro e w1 ⟨rfl, rfl⟩
 try simp only [Act.put, rpA, rpB, rpC]
 go_wp2_with fail
 (with_reducible refine (sign_any b w hb).mono ?_); rintro e w1 ⟨rfl, rfl⟩
 try simp only [Act.put, rpA, rpB, rpC]
 rcases hc.out with rfl | rfl | rfl | rfl | rfl | rfl | rfl | rfl | rfl | rfl | rfl | rfl | rfl | rfl | rfl | rfl | rfl | rfl | rfl | rfl | rfl | rfl | rfl | rfl | rfl | rfl | rfl | rfl | rfl
 ·have HL := wall (show low ((a : Int) + (b : Int)) = (a + b) % 4294967296 by unfold low; omega)
  have HR := wall (show r = ((a + b) % 4294967296, true) from by rw [← HRR.out]; simp [aluN, baseN, sumN, timesN])
  go_wp2_with fail
  (with_reducible refine (low_any _ _).mono ?_); rintro e w1 ⟨rfl, rfl⟩
  try simp only [Act.put, rpA, rpB, rpC]
  go_wp2_with fail
  go_light
  go_ret2
  exact ⟨by rw [HR.out, ← HL.out]; rfl, rfl⟩
 ·have HR := wall (show r = (b01 (decide (s32 a < s32 b)), true) from by rw [← HRR.out]; simp [aluN, baseN, sumN, timesN])
  go_wp2_with fail
  (with_reducible refine (truth_any _ _).mono ?_); rintro e w1 ⟨rfl, rfl⟩
  try simp only [Act.put, rpA, rpB, rpC]
  go_wp2_with fail
  go_light
  go_ret2
  exact ⟨by rw [HR.out]; rfl, rfl⟩
 ·have HD := wall (show decide ((a : Int) < (b : Int)) = decide (a < b) by simp)
  have HR := wall (show r = (b01 (decide (a < b)), true) from by rw [← HRR.out]; simp [aluN, baseN, sumN, timesN])
  go_wp2_with fail
  (with_reducible refine (truth_any _ _).mono ?_); rintro e w1 ⟨rfl, rfl⟩
  try simp only [Act.put, rpA, rpB, rpC]
  go_wp2_with fail
  go_light
  go_ret2
  exact ⟨by rw [HR.out, ← HD.out]; rfl, rfl⟩
 ·have hbx := Core.bits_and_u32 a b ha hb
  have HL := wall (show low ((a : Int) + (b : Int) - 2 * ((a &&& b : Nat) : Int)) = a ^^^ b by
   have h1 := add_xor_and 32 a b ha hb
   have h2 := Nat.xor_lt_two_pow (n := 32) (x := a) (y := b) ha hb
   unfold low
   omega)
  have hle : ((a &&& b : Nat) : Int) ≤ 4294967295 := by have : a &&& b ≤ a := Nat.and_le_left; omega
  obtain ⟨x, hx⟩ : ∃ x, a &&& b = x := ⟨_, rfl⟩
  rw [hx] at hbx HL hle
  clear hx
  have HR := wall (show r = (a ^^^ b, true) from by rw [← HRR.out]; simp [aluN, baseN, sumN, timesN])
  go_wp2_with fail
  (with_reducible refine (low_any _ _).mono ?_); rintro e w1 ⟨rfl, rfl⟩
  try simp only [Act.put, rpA, rpB, rpC]
  go_wp2_with fail
  go_light
  go_ret2
  exact ⟨by rw [HR.out, ← HL.out]; rfl, rfl⟩
 ·have hbx := Core.bits_and_u32 a b ha hb
  have HL := wall (show low ((a : Int) + (b : Int) - ((a &&& b : Nat) : Int)) = a ||| b by
   obtain ⟨h1, h2, h3⟩ := or_sub a b ha hb
   unfold low
   omega)
  have hle : ((a &&& b : Nat) : Int) ≤ 4294967295 := by have : a &&& b ≤ a := Nat.and_le_left; omega
  obtain ⟨x, hx⟩ : ∃ x, a &&& b = x := ⟨_, rfl⟩
  rw [hx] at hbx HL hle
  clear hx
  have HR := wall (show r = (a ||| b, true) from by rw [← HRR.out]; simp [aluN, baseN, sumN, timesN])
  go_wp2_with fail
  (with_reducible refine (low_any _ _).mono ?_); rintro e w1 ⟨rfl, rfl⟩
  try simp only [Act.put, rpA, rpB, rpC]
  go_wp2_with fail
  go_light
  go_ret2
  exact ⟨by rw [HR.out, ← HL.out]; rfl, rfl⟩
 ·have hbx := Core.bits_and_u32 a b ha hb
  have HR := wall (show r = (a &&& b, true) from by rw [← HRR.out]; simp [aluN, baseN, sumN, timesN])
  go_wp2_with fail
  go_light
  go_ret2
  exact ⟨by rw [HR.out]; rfl, rfl⟩
 ·obtain ⟨s, hs⟩ : ∃ s, b % 32 = s := ⟨_, rfl⟩
  have hs' : (b : Int) % 32 = (s : Int) := by omega
  have hs32 : (s : Int) < 32 := by omega
  have HR := wall (show r = (a * 2 ^ s % 4294967296, true) from by rw [← HRR.out]; simp [aluN, baseN, sumN, timesN, hs])
  clear hs
  go_wp2_with fail
  go_loopg [1, 11] s (fun gg s1 s11 wr => ∃ i : Nat, i + gg = s ∧ s1 = .int .u32 ((a * 2 ^ i % 4294967296 : Nat) : Int) ∧ s11 = .int .i64 (i : Int) ∧ w = wr)
  case atStart => exact ⟨0, by omega, by simp [Nat.mod_eq_of_lt ha], rfl, rfl⟩
  case round =>
   obtain ⟨i, hg, rfl, rfl, rfl⟩ := hrel
   by_cases hlt : i < s
   ·have hlt' : (i : Int) < (s : Int) := by omega
    have hi : (i : Int) < 32 := by omega
    have HG := wall hg
    have HS := wall (show low (2 * ((a * 2 ^ i % 4294967296 : Nat) : Int)) = a * 2 ^ (i + 1) % 4294967296 by
     rw [Nat.pow_succ, ← Nat.mul_assoc]
     unfold low
     generalize a * 2 ^ i = x
     omega)
    have hx : a * 2 ^ i % 4294967296 < 4294967296 := Nat.mod_lt _ (by decide)
    obtain ⟨x, hxe⟩ : ∃ x, a * 2 ^ i % 4294967296 = x := ⟨_, rfl⟩
    rw [hxe] at HS hx ⊢
    clear hxe hg hlt
    go_wp2_with fail
    (with_reducible refine (low_any _ _).mono ?_); rintro e w1 ⟨rfl, rfl⟩
    try simp only [Act.put, rpA, rpB, rpC]
    go_wp2_with fail
    go_light
    go_roundg (s - (i + 1))
    case measure => have := HG.out; omega
    case rel => exact ⟨i + 1, by have := HG.out; omega, by first | (rw [HS.out]; done) | (rw [← HS.out]; rfl), by go_num, rfl⟩
   ·obtain rfl : i = s := by omega
    have hlt' : ¬ (i : Int) < (i : Int) := by omega
    clear hlt hg
    go_wp2_with fail
    go_light
    go_ret2
    exact ⟨by rw [HR.out]; rfl, rfl⟩
 ·have HF := wall (show -9223372036854775808 ≤ (a : Int) - (a : Int) % 2 ^ (b % 32) ∧ (a : Int) < 9223372036854775808 from by
   have h3 : (a : Int) % 2 ^ (b % 32) ≤ (a : Int) := by
    have : a % 2 ^ (b % 32) ≤ a := Nat.mod_le _ _
    have e : (a : Int) % 2 ^ (b % 32) = ((a % 2 ^ (b % 32) : Nat) : Int) := by simp
    omega
   omega)
  have HL := wall (show low ((a : Int) / 2 ^ (b % 32)) = a / 2 ^ (b % 32) by
   have e : (a : Int) / 2 ^ (b % 32) = ((a / 2 ^ (b % 32) : Nat) : Int) := by simp
   have h2 : a / 2 ^ (b % 32) ≤ a := Nat.div_le_self _ _
   rw [e]
   unfold low
   generalize a / 2 ^ (b % 32) = q at *
   omega)
  have HR := wall (show r = (a / 2 ^ (b % 32), true) from by rw [← HRR.out]; simp [aluN, baseN, sumN, timesN])
  go_wp2_with fail
  (with_reducible refine (floor_any _ _ (b % 32) _ (by omega) (by omega) HF.out.1 HF.out.2).mono ?_); rintro e w1 ⟨rfl, rfl⟩
  try simp only [Act.put, rpA, rpB, rpC]
  go_wp2_with fail
  (with_reducible refine (low_any _ _).mono ?_); rintro e w1 ⟨rfl, rfl⟩
  try simp only [Act.put, rpA, rpB, rpC]
  go_wp2_with fail
  go_light
  go_ret2
  exact ⟨by rw [HR.out, ← HL.out]; rfl, rfl⟩
 ·have HX := wall (s32_range a ha)
  have HY := wall (s32_range b hb)
  have HF := wall (show -9223372036854775808 ≤ s32 a - s32 a % 2 ^ (b % 32) ∧ s32 a < 9223372036854775808 from by
   have h3 : s32 a % 2 ^ (b % 32) < 2 ^ (b % 32) := Int.emod_lt_of_pos _ (by
    have h5 : 0 < 2 ^ (b % 32) := Nat.two_pow_pos _
    have e : ((2 ^ (b % 32) : Nat) : Int) = (2 : Int) ^ (b % 32) := by simp
    omega)
   have h4 : 2 ^ (b % 32) ≤ 2 ^ 32 := Nat.pow_le_pow_right (by decide) (by omega)
   have e : ((2 ^ (b % 32) : Nat) : Int) = (2 : Int) ^ (b % 32) := by simp
   have := HX.out
   omega)
  have HR := wall (show r = (low (s32 a / 2 ^ (b % 32)), true) from by rw [← HRR.out]; simp [aluN, baseN, sumN, timesN])
  go_wp2_with fail
  (with_reducible refine (floor_any _ _ (b % 32) _ (by omega) (by omega) HF.out.1 HF.out.2).mono ?_); rintro e w1 ⟨rfl, rfl⟩
  try simp only [Act.put, rpA, rpB, rpC]
  go_wp2_with fail
  (with_reducible refine (low_any _ _).mono ?_); rintro e w1 ⟨rfl, rfl⟩
  try simp only [Act.put, rpA, rpB, rpC]
  go_wp2_with fail
  go_light
  go_ret2
  exact ⟨by rw [HR.out]; rfl, rfl⟩
 ·have HL := wall (show low ((a : Int) + (b : Int)) = (a + b) % 4294967296 by unfold low; omega)
  have HR := wall (show r = ((a + b) % 4294967296, true) from by rw [← HRR.out]; simp [aluN, baseN, sumN, timesN])
  go_wp2_with fail
  (with_reducible refine (low_any _ _).mono ?_); rintro e w1 ⟨rfl, rfl⟩
  try simp only [Act.put, rpA, rpB, rpC]
  go_wp2_with fail
  go_light
  go_ret2
  exact ⟨by rw [HR.out, ← HL.out]; rfl, rfl⟩
 ·have HL := wall (show low ((a : Int) - (b : Int)) = (a + 4294967296 - b) % 4294967296 by unfold low; omega)
  have HR := wall (show r = ((a + 4294967296 - b) % 4294967296, true) from by rw [← HRR.out]; simp [aluN, baseN, sumN, timesN])
  go_wp2_with fail
  (with_reducible refine (low_any _ _).mono ?_); rintro e w1 ⟨rfl, rfl⟩
  try simp only [Act.put, rpA, rpB, rpC]
  go_wp2_with fail
  go_light
  go_ret2
  exact ⟨by rw [HR.out, ← HL.out]; rfl, rfl⟩
 ·obtain ⟨s, hs⟩ : ∃ s, b % 32 = s := ⟨_, rfl⟩
  have hs' : (b : Int) % 32 = (s : Int) := by omega
  have hs32 : (s : Int) < 32 := by omega
  have HR := wall (show r = (a * 2 ^ s % 4294967296, true) from by rw [← HRR.out]; simp [aluN, baseN, sumN, timesN, hs])
  clear hs
  go_wp2_with fail
  go_loopg [1, 11] s (fun gg s1 s11 wr => ∃ i : Nat, i + gg = s ∧ s1 = .int .u32 ((a * 2 ^ i % 4294967296 : Nat) : Int) ∧ s11 = .int .i64 (i : Int) ∧ w = wr)
  case atStart => exact ⟨0, by omega, by simp [Nat.mod_eq_of_lt ha], rfl, rfl⟩
  case round =>
   obtain ⟨i, hg, rfl, rfl, rfl⟩ := hrel
   by_cases hlt : i < s
   ·have hlt' : (i : Int) < (s : Int) := by omega
    have hi : (i : Int) < 32 := by omega
    have HG := wall hg
    have HS := wall (show low (2 * ((a * 2 ^ i % 4294967296 : Nat) : Int)) = a * 2 ^ (i + 1) % 4294967296 by
     rw [Nat.pow_succ, ← Nat.mul_assoc]
     unfold low
     generalize a * 2 ^ i = x
     omega)
    have hx : a * 2 ^ i % 4294967296 < 4294967296 := Nat.mod_lt _ (by decide)
    obtain ⟨x, hxe⟩ : ∃ x, a * 2 ^ i % 4294967296 = x := ⟨_, rfl⟩
    rw [hxe] at HS hx ⊢
    clear hxe hg hlt
    go_wp2_with fail
    (with_reducible refine (low_any _ _).mono ?_); rintro e w1 ⟨rfl, rfl⟩
    try simp only [Act.put, rpA, rpB, rpC]
    go_wp2_with fail
    go_light
    go_roundg (s - (i + 1))
    case measure => have := HG.out; omega
    case rel => exact ⟨i + 1, by have := HG.out; omega, by first | (rw [HS.out]; done) | (rw [← HS.out]; rfl), by go_num, rfl⟩
   ·obtain rfl : i = s := by omega
    have hlt' : ¬ (i : Int) < (i : Int) := by omega
    clear hlt hg
    go_wp2_with fail
    go_light
    go_ret2
    exact ⟨by rw [HR.out]; rfl, rfl⟩
 ·have HR := wall (show r = (b01 (decide (s32 a < s32 b)), true) from by rw [← HRR.out]; simp [aluN, baseN, sumN, timesN])
  go_wp2_with fail
  (with_reducible refine (truth_any _ _).mono ?_); rintro e w1 ⟨rfl, rfl⟩
  try simp only [Act.put, rpA, rpB, rpC]
  go_wp2_with fail
  go_light
  go_ret2
  exact ⟨by rw [HR.out]; rfl, rfl⟩
 ·have HD := wall (show decide ((a : Int) < (b : Int)) = decide (a < b) by simp)
  have HR := wall (show r = (b01 (decide (a < b)), true) from by rw [← HRR.out]; simp [aluN, baseN, sumN, timesN])
  go_wp2_with fail
  (with_reducible refine (truth_any _ _).mono ?_); rintro e w1 ⟨rfl, rfl⟩
  try simp only [Act.put, rpA, rpB, rpC]
  go_wp2_with fail
  go_light
  go_ret2
  exact ⟨by rw [HR.out, ← HD.out]; rfl, rfl⟩
 ·have hbx := Core.bits_and_u32 a b ha hb
  have HL := wall (show low ((a : Int) + (b : Int) - 2 * ((a &&& b : Nat) : Int)) = a ^^^ b by
   have h1 := add_xor_and 32 a b ha hb
   have h2 := Nat.xor_lt_two_pow (n := 32) (x := a) (y := b) ha hb
   unfold low
   omega)
  have hle : ((a &&& b : Nat) : Int) ≤ 4294967295 := by have : a &&& b ≤ a := Nat.and_le_left; omega
  obtain ⟨x, hx⟩ : ∃ x, a &&& b = x := ⟨_, rfl⟩
  rw [hx] at hbx HL hle
  clear hx
  have HR := wall (show r = (a ^^^ b, true) from by rw [← HRR.out]; simp [aluN, baseN, sumN, timesN])
  go_wp2_with fail
  (with_reducible refine (low_any _ _).mono ?_); rintro e w1 ⟨rfl, rfl⟩
  try simp only [Act.put, rpA, rpB, rpC]
  go_wp2_with fail
  go_light
  go_ret2
  exact ⟨by rw [HR.out, ← HL.out]; rfl, rfl⟩
 ·have HF := wall (show -9223372036854775808 ≤ (a : Int) - (a : Int) % 2 ^ (b % 32) ∧ (a : Int) < 9223372036854775808 from by
   have h3 : (a : Int) % 2 ^ (b % 32) ≤ (a : Int) := by
    have : a % 2 ^ (b % 32) ≤ a := Nat.mod_le _ _
    have e : (a : Int) % 2 ^ (b % 32) = ((a % 2 ^ (b % 32) : Nat) : Int) := by simp
    omega
   omega)
  have HL := wall (show low ((a : Int) / 2 ^ (b % 32)) = a / 2 ^ (b % 32) by
   have e : (a : Int) / 2 ^ (b % 32) = ((a / 2 ^ (b % 32) : Nat) : Int) := by simp
   have h2 : a / 2 ^ (b % 32) ≤ a := Nat.div_le_self _ _
   rw [e]
   unfold low
   generalize a / 2 ^ (b % 32) = q at *
   omega)
  have HR := wall (show r = (a / 2 ^ (b % 32), true) from by rw [← HRR.out]; simp [aluN, baseN, sumN, timesN])
  go_wp2_with fail
  (with_reducible refine (floor_any _ _ (b % 32) _ (by omega) (by omega) HF.out.1 HF.out.2).mono ?_); rintro e w1 ⟨rfl, rfl⟩
  try simp only [Act.put, rpA, rpB, rpC]
  go_wp2_with fail
  (with_reducible refine (low_any _ _).mono ?_); rintro e w1 ⟨rfl, rfl⟩
  try simp only [Act.put, rpA, rpB, rpC]
  go_wp2_with fail
  go_light
  go_ret2
  exact ⟨by rw [HR.out, ← HL.out]; rfl, rfl⟩
 ·have HX := wall (s32_range a ha)
  have HY := wall (s32_range b hb)
  have HF := wall (show -9223372036854775808 ≤ s32 a - s32 a % 2 ^ (b % 32) ∧ s32 a < 9223372036854775808 from by
   have h3 : s32 a % 2 ^ (b % 32) < 2 ^ (b % 32) := Int.emod_lt_of_pos _ (by
    have h5 : 0 < 2 ^ (b % 32) := Nat.two_pow_pos _
    have e : ((2 ^ (b % 32) : Nat) : Int) = (2 : Int) ^ (b % 32) := by simp
    omega)
   have h4 : 2 ^ (b % 32) ≤ 2 ^ 32 := Nat.pow_le_pow_right (by decide) (by omega)
   have e : ((2 ^ (b % 32) : Nat) : Int) = (2 : Int) ^ (b % 32) := by simp
   have := HX.out
   omega)
  have HR := wall (show r = (low (s32 a / 2 ^ (b % 32)), true) from by rw [← HRR.out]; simp [aluN, baseN, sumN, timesN])
  go_wp2_with fail
  (with_reducible refine (floor_any _ _ (b % 32) _ (by omega) (by omega) HF.out.1 HF.out.2).mono ?_); rintro e w1 ⟨rfl, rfl⟩
  try simp only [Act.put, rpA, rpB, rpC]
  go_wp2_with fail
  (with_reducible refine (low_any _ _).mono ?_); rintro e w1 ⟨rfl, rfl⟩
  try simp only [Act.put, rpA, rpB, rpC]
  go_wp2_with fail
  go_light
  go_ret2
  exact ⟨by rw [HR.out]; rfl, rfl⟩
 ·have hbx := Core.bits_and_u32 a b ha hb
  have HL := wall (show low ((a : Int) + (b : Int) - ((a &&& b : Nat) : Int)) = a ||| b by
   obtain ⟨h1, h2, h3⟩ := or_sub a b ha hb
   unfold low
   omega)
  have hle : ((a &&& b : Nat) : Int) ≤ 4294967295 := by have : a &&& b ≤ a := Nat.and_le_left; omega
  obtain ⟨x, hx⟩ : ∃ x, a &&& b = x := ⟨_, rfl⟩
  rw [hx] at hbx HL hle
  clear hx
  have HR := wall (show r = (a ||| b, true) from by rw [← HRR.out]; simp [aluN, baseN, sumN, timesN])
  go_wp2_with fail
  (with_reducible refine (low_any _ _).mono ?_); rintro e w1 ⟨rfl, rfl⟩
  try simp only [Act.put, rpA, rpB, rpC]
  go_wp2_with fail
  go_light
  go_ret2
  exact ⟨by rw [HR.out, ← HL.out]; rfl, rfl⟩
 ·have hbx := Core.bits_and_u32 a b ha hb
  have HR := wall (show r = (a &&& b, true) from by rw [← HRR.out]; simp [aluN, baseN, sumN, timesN])
  go_wp2_with fail
  go_light
  go_ret2
  exact ⟨by rw [HR.out]; rfl, rfl⟩
 ·have HR := wall (show r = (0, false) from by rw [← HRR.out]; simp [aluN, baseN, sumN, timesN])
  go_wp2_with fail
  go_light
  go_ret2
  exact ⟨by rw [HR.out]; rfl, rfl⟩
 ·have HR := wall (show r = (0, false) from by rw [← HRR.out]; simp [aluN, baseN, sumN, timesN])
  go_wp2_with fail
  go_light
  go_ret2
  exact ⟨by rw [HR.out]; rfl, rfl⟩
 ·have HX := wall (s32_range a ha)
  have HY := wall (s32_range b hb)
  have HM := wall (mul_range (s32 a) (s32 b) HX.out (by have := HY.out; omega))
  have hm1 := HM.out.1
  have hm2 := HM.out.2
  have hm3 : -9223372036854775808 ≤ s32 a * s32 b ∧ s32 a * s32 b < 9223372036854775808 := by omega
  have HL := wall (emod_mul_s32 a b ha hb)
  have HR := wall (show r = (a * b % 4294967296, true) from by rw [← HRR.out]; simp [aluN, baseN, sumN, timesN])
  go_wp2_with fail
  (with_reducible refine (low_any _ _).mono ?_); rintro e w1 ⟨rfl, rfl⟩
  try simp only [Act.put, rpA, rpB, rpC]
  go_wp2_with fail
  go_light
  go_ret2
  exact ⟨by rw [HR.out, ← HL.out]; rfl, rfl⟩
 ·have HX := wall (s32_range a ha)
  have HY := wall (s32_range b hb)
  have HM := wall (mul_range (s32 a) (s32 b) HX.out (by have := HY.out; omega))
  have hm1 := HM.out.1
  have hm2 := HM.out.2
  have hm3 : -9223372036854775808 ≤ s32 a * s32 b ∧ s32 a * s32 b < 9223372036854775808 := by omega
  have HR := wall (show r = (low (s32 a * s32 b / 4294967296), true) from by rw [← HRR.out]; simp [aluN, baseN, sumN, timesN])
  go_wp2_with fail
  (with_reducible refine (floor_any _ 32 32 _ rfl (by decide) (fl_range _ HM.out).1 (fl_range _ HM.out).2).mono ?_); rintro e w1 ⟨rfl, rfl⟩
  try simp only [Act.put, rpA, rpB, rpC]
  go_wp2_with fail
  (with_reducible refine (low_any _ _).mono ?_); rintro e w1 ⟨rfl, rfl⟩
  try simp only [Act.put, rpA, rpB, rpC]
  go_wp2_with fail
  go_light
  go_ret2
  exact ⟨by rw [HR.out]; rfl, rfl⟩
 ·have HX := wall (s32_range a ha)
  have HY := wall (s32_range b hb)
  have HM := wall (mul_range (s32 a) (b : Int) HX.out (by have := HY.out; omega))
  have hm1 := HM.out.1
  have hm2 := HM.out.2
  have hm3 : -9223372036854775808 ≤ s32 a * (b : Int) ∧ s32 a * (b : Int) < 9223372036854775808 := by omega
  have HR := wall (show r = (low (s32 a * (b : Int) / 4294967296), true) from by rw [← HRR.out]; simp [aluN, baseN, sumN, timesN])
  go_wp2_with fail
  (with_reducible refine (floor_any _ 32 32 _ rfl (by decide) (fl_range _ HM.out).1 (fl_range _ HM.out).2).mono ?_); rintro e w1 ⟨rfl, rfl⟩
  try simp only [Act.put, rpA, rpB, rpC]
  go_wp2_with fail
  (with_reducible refine (low_any _ _).mono ?_); rintro e w1 ⟨rfl, rfl⟩
  try simp only [Act.put, rpA, rpB, rpC]
  go_wp2_with fail
  go_light
  go_ret2
  exact ⟨by rw [HR.out]; rfl, rfl⟩
 ·have HR := wall (show r = (a * b / 4294967296 % 4294967296, true) from by rw [← HRR.out]; simp [aluN, baseN, sumN, timesN])
  go_wp2_with fail
  (with_reducible refine (high_any a b _ ha hb).mono ?_); rintro e w1 ⟨rfl, rfl⟩
  try simp only [Act.put, rpA, rpB, rpC]
  go_wp2_with fail
  go_light
  go_ret2
  exact ⟨by rw [HR.out]; rfl, rfl⟩
 ·by_cases h0 : b = 0
  ·have HS := wall (show low (quoZ (s32 a) (s32 b)) = 4294967295 by rw [(s32_zero b hb).2 h0]; unfold quoZ; rw [if_pos rfl]; unfold low; omega)
   have hz : (s32 b == 0) = true := by rw [(s32_zero b hb).2 h0]; rfl
   have HC := wall (show (4294967295 : Int) = ((low (quoZ (s32 a) (s32 b)) : Nat) : Int) by rw [HS.out]; omega)
   clear h0
   have HR := wall (show r = (low (quoZ (s32 a) (s32 b)), true) from by rw [← HRR.out]; simp [aluN, baseN, sumN, timesN])
   go_wp2_with fail
   go_light
   go_ret2
   exact ⟨by rw [HR.out]; exact congrArg Ending.returned (congrArg Value.tuple (congrArg (fun x => #[Value.int .u32 x, .bool true]) HC.out)), rfl⟩
  ·have hn0 : s32 b ≠ 0 := fun h => h0 ((s32_zero b hb).1 h)
   have HS := wall (quo_low (s32 a) (s32 b) hn0)
   have hz : (s32 b == 0) = false := by rw [beq_eq_false_iff_ne]; exact hn0
   have hrg := tdiv_range (s32 a) (s32 b) (s32_range a ha)
   obtain ⟨t, ht⟩ : ∃ t, (s32 a).tdiv (s32 b) = t := ⟨_, rfl⟩
   rw [ht] at hrg HS
   clear h0
   have HR := wall (show r = (low (quoZ (s32 a) (s32 b)), true) from by rw [← HRR.out]; simp [aluN, baseN, sumN, timesN])
   go_wp2_with fail
   (with_reducible refine (low_any _ _).mono ?_); rintro e w1 ⟨rfl, rfl⟩
   try simp only [Act.put, rpA, rpB, rpC]
   go_wp2_with fail
   go_light
   go_ret2
   exact ⟨by rw [HR.out, HS.out]; rfl, rfl⟩
 ·by_cases h0 : b = 0
  ·have hz : ((b : Int) == 0) = true := by rw [h0]; rfl
   have h0' := wall h0
   clear h0
   have HR := wall (show r = (4294967295, true) from by rw [← HRR.out]; simp [aluN, baseN, sumN, timesN, h0'.out])
   go_wp2_with fail
   go_light
   go_ret2
   exact ⟨by rw [HR.out]; rfl, rfl⟩
  ·have hz : ((b : Int) == 0) = false := by rw [beq_eq_false_iff_ne]; omega
   have hn0 : (b : Int) ≠ 0 := by omega
   have HS := wall (show (a : Int) / (b : Int) % 4294967296 = ((a / b : Nat) : Int) by
    have e : (a : Int) / (b : Int) = ((a / b : Nat) : Int) := by simp
    have hql : a / b ≤ a := Nat.div_le_self _ _
    rw [e]
    generalize a / b = q at *
    omega)
   have HR := wall (show r = (a / b, true) from by rw [← HRR.out]; simp [aluN, baseN, sumN, timesN, h0])
   go_wp2_with fail
   go_light
   go_ret2
   exact ⟨by rw [HR.out]; exact congrArg Ending.returned (congrArg Value.tuple (congrArg (fun x => #[Value.int .u32 x, .bool true]) HS.out)), rfl⟩
 ·by_cases h0 : b = 0
  ·have HS := wall (show low (remZ (s32 a) (s32 b)) = a by rw [(s32_zero b hb).2 h0]; unfold remZ; rw [if_pos rfl]; exact low_s32 a ha)
   have hz : (s32 b == 0) = true := by rw [(s32_zero b hb).2 h0]; rfl
   clear h0
   have HR := wall (show r = (low (remZ (s32 a) (s32 b)), true) from by rw [← HRR.out]; simp [aluN, baseN, sumN, timesN])
   go_wp2_with fail
   go_light
   go_ret2
   exact ⟨by rw [HR.out, HS.out]; rfl, rfl⟩
  ·have hn0 : s32 b ≠ 0 := fun h => h0 ((s32_zero b hb).1 h)
   have HS := wall (rem_low (s32 a) (s32 b) hn0)
   have hz : (s32 b == 0) = false := by rw [beq_eq_false_iff_ne]; exact hn0
   obtain ⟨t, ht⟩ : ∃ t, (s32 a).tmod (s32 b) = t := ⟨_, rfl⟩
   rw [ht] at HS
   clear h0
   have HR := wall (show r = (low (remZ (s32 a) (s32 b)), true) from by rw [← HRR.out]; simp [aluN, baseN, sumN, timesN])
   go_wp2_with fail
   (with_reducible refine (low_any _ _).mono ?_); rintro e w1 ⟨rfl, rfl⟩
   try simp only [Act.put, rpA, rpB, rpC]
   go_wp2_with fail
   go_light
   go_ret2
   exact ⟨by rw [HR.out, HS.out]; rfl, rfl⟩
 ·by_cases h0 : b = 0
  ·have hz : ((b : Int) == 0) = true := by rw [h0]; rfl
   have h0' := wall h0
   clear h0
   have HR := wall (show r = (a, true) from by rw [← HRR.out]; simp [aluN, baseN, sumN, timesN, h0'.out])
   go_wp2_with fail
   go_light
   go_ret2
   exact ⟨by rw [HR.out]; rfl, rfl⟩
  ·have hz : ((b : Int) == 0) = false := by rw [beq_eq_false_iff_ne]; omega
   have hn0 : (b : Int) ≠ 0 := by omega
   have HS := wall (show (a : Int) % (b : Int) = ((a % b : Nat) : Int) by simp)
   have HR := wall (show r = (a % b, true) from by rw [← HRR.out]; simp [aluN, baseN, sumN, timesN, h0])
   go_wp2_with fail
   go_light
   go_ret2
   exact ⟨by rw [HR.out]; exact congrArg Ending.returned (congrArg Value.tuple (congrArg (fun x => #[Value.int .u32 x, .bool true]) HS.out)), rfl⟩
end Rv
end Go.Proofs.YtmiaabpnolebhaaGreatDoor
