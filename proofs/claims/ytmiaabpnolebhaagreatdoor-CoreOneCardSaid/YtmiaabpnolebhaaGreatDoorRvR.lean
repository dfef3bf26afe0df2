import Derived.Test.YtmiaabpnolebhaaGreatDoorJ7e99c1b8
set_option maxHeartbeats 2000000
set_option linter.unusedSimpArgs false
set_option linter.unusedVariables false
namespace Go.Proofs.YtmiaabpnolebhaaGreatDoor
open Go.RowKit

namespace Rv
open Otp Sha
theorem cut_step (v i k : Nat) : cut v i (k + 1) = 2 * cut v (i + 1) k + v / 2 ^ i % 2 := by
 have h : v / 2 ^ (i + 1) = v / 2 ^ i / 2 := by rw [Nat.pow_succ, Nat.div_div_eq_div_mul]
 unfold cut
 rw [h, Nat.pow_succ, Nat.mul_comm (2 ^ k) 2, Nat.mod_mul]
 omega
theorem cutR_any (v hi lo n : Nat) (vz hz lz : Int) (w : World) (e1 : vz = v) (e2 : hz = hi) (e3 : lz = lo) (hn : hi + 1 = lo + n) (h32 : hi < 32) (hv : v < 4294967296) :
  Calls Tryz.prog 180 #[.int .u32 vz, .int .i64 hz, .int .i64 lz] w fun e w' => e = .returned (.int .u32 ((cut v lo n : Nat) : Int)) ∧ w = w' := by
 subst e1 e2 e3
 go_enter Tryz.func180, Tryz.ntmps180
 go_wp2_with fail
 go_loopg [7, 8] n (fun g s7 s8 wr => ∃ k : Nat, k + g = n ∧ s8 = .int .i64 ((hi : Int) - k) ∧ Wall (s7 = .int .u32 ((cut v (hi + 1 - k) k : Nat) : Int)) ∧ w = wr)
 case atStart => exact ⟨0, by omega, by simp, wall (by unfold cut; simp [Nat.mod_one]), rfl⟩
 case round =>
  obtain ⟨k, hg, rfl, HS, rfl⟩ := hrel
  obtain rfl := HS.out
  have HG := wall hg
  have hk : k ≤ n := by omega
  clear hg HS
  by_cases hlt : k < n
  ·have hge : (lo : Int) ≤ (hi : Int) - k := by omega
   have hsh : ((hi : Int) - k) = ((hi - k : Nat) : Int) := by omega
   have hb : cut v (hi + 1 - k) k < 2147483648 := Nat.lt_of_lt_of_le (cut_lt _ _ _) (Nat.pow_le_pow_right (n := 2) (by decide) (show k ≤ 31 by omega))
   have hst := cut_step v (hi - k) k
   rw [show hi - k + 1 = hi + 1 - k by omega] at hst
   obtain ⟨i, hi'⟩ : ∃ i, hi - k = i := ⟨_, rfl⟩
   rw [hi'] at hsh hst
   obtain ⟨c, hc⟩ : ∃ c, cut v (hi + 1 - k) k = c := ⟨_, rfl⟩
   rw [hc] at hb hst ⊢
   have hge2 : (lo : Int) ≤ (i : Int) := by omega
   rw [hsh]
   have hi32 : i < 32 := by omega
   have hbt : v / 2 ^ i % 2 < 2 := Nat.mod_lt _ (by decide)
   obtain ⟨t, ht⟩ : ∃ t, v / 2 ^ i % 2 = t := ⟨_, rfl⟩
   have htm : ((v : Int) / 2 ^ i).tmod 2 = (t : Int) := by
    rw [show ((v : Int) / 2 ^ i) = ((v / 2 ^ i : Nat) : Int) by simp, Int.tmod_eq_emod_of_nonneg (Int.natCast_nonneg _), ← ht]
    rfl
   rw [ht] at hst hbt
   have HBT := wall hbt
   have HST := wall hst
   clear ht hbt
   have HSI := wall hi'
   have HBC := wall hb
   clear hst hi' hb hc hge hsh
   go_wp2_with fail
   go_light
   go_roundg (n - (k + 1))
   case measure => have := HG.out; omega
   case rel =>
    refine ⟨k + 1, by have := HG.out; omega, ?_, wall ?_, rfl⟩
    ·congr 1
     have := HSI.out
     omega
    ·congr 1
     have h1 := HBC.out
     have h2 := HBT.out
     rw [show hi + 1 - (k + 1) = i by have := HSI.out; omega, HST.out]
     omega
  ·obtain rfl : k = n := by omega
   have hge : ¬ (lo : Int) ≤ (hi : Int) - k := by omega
   have he : hi + 1 - k = lo := by omega
   rw [he]
   clear he
   go_wp2_with fail
   go_light
   go_ret
   exact ⟨rfl, rfl⟩
theorem pow_int (i : Nat) (h : i < 32) : ((2 : Int) ^ i % 4294967296) = ((2 ^ i : Nat) : Int) := by
 have h1 : 2 ^ i ≤ 2 ^ 31 := Nat.pow_le_pow_right (n := 2) (by decide) (by omega)
 rw [show ((2 : Int) ^ i) = ((2 ^ i : Nat) : Int) by simp]
 exact Int.emod_eq_of_lt (Int.natCast_nonneg _) (Int.ofNat_lt.2 (Nat.lt_of_le_of_lt h1 (by decide)))
theorem sum_step {x p v m : Nat} (hx : v + p - m = x) (h : m ≤ p) (h5 : p ≤ 2147483648) (hv : v < m) : ((x : Int) + (p : Int)) % 4294967296 = ((v + 2 * p - m : Nat) : Int) := by omega
theorem extR12 (v : Nat) (vz : Int) (w : World) (e1 : vz = v) (hv : v < 4096) :
  Calls Tryz.prog 181 #[.int .u32 vz, .int .i64 12] w fun e w' => e = .returned (.int .u32 ((ext v 12 : Nat) : Int)) ∧ w = w' := by
 subst e1
 have HE := wall (show ext v 12 = if v / 2048 % 2 = 1 then v % 4096 + (4294967296 - 4096) else v % 4096 from rfl)
 obtain ⟨r, hr⟩ : ∃ r, ext v 12 = r := ⟨_, rfl⟩
 rw [hr] at HE ⊢
 have HV := wall hv
 obtain ⟨t, ht⟩ : ∃ t, v / 2048 % 2 = t := ⟨_, rfl⟩
 have htm : ((v : Int) / 2048).tmod 2 = (t : Int) := by
  rw [Int.tmod_eq_emod_of_nonneg (by omega)]
  omega
 rw [ht] at HE
 clear hr ht hv
 by_cases h1 : (t : Int) = 1
 ·have HR := wall (show r = v + (4294967296 - 4096) by rw [HE.out, if_pos (by omega), Nat.mod_eq_of_lt HV.out])
  have hb1 : ((t : Int) == 1) = true := by rw [h1]; rfl
  clear h1
  go_enter Tryz.func181, Tryz.ntmps181
  go_wp2_with fail
  go_loopg [0, 5] 20 (fun g s0 s5 wr => ∃ i : Nat, i + g = 32 ∧ 12 ≤ i ∧ s5 = .int .i64 (i : Int) ∧ Wall (s0 = .int .u32 ((v + 2 ^ i - 4096 : Nat) : Int)) ∧ w = wr)
  case atStart => exact ⟨12, rfl, Nat.le_refl _, rfl, wall (by rw [show v + 2 ^ 12 - 4096 = v from Nat.add_sub_cancel v _]), rfl⟩
  case round =>
   obtain ⟨i, hg, h12, rfl, HS, rfl⟩ := hrel
   obtain rfl := HS.out
   have HG := wall hg
   have HI := wall h12
   have hi : i ≤ 32 := by omega
   clear hg HS h12
   by_cases hlt : i < 32
   ·have hlt' : (i : Int) < 32 := by omega
    have hp := pow_int i hlt
    have h3 : 2 ^ (i + 1) = 2 * 2 ^ i := by rw [Nat.pow_succ, Nat.mul_comm]
    have h4 : 4096 ≤ 2 ^ i := Nat.le_trans (show 4096 ≤ 2 ^ 12 by decide) (Nat.pow_le_pow_right (n := 2) (by decide) HI.out)
    have h5 : 2 ^ i ≤ 2147483648 := Nat.le_trans (Nat.pow_le_pow_right (n := 2) (by decide) (show i ≤ 31 by omega)) (show 2 ^ 31 ≤ 2147483648 by decide)
    obtain ⟨p, hpp⟩ : ∃ p, 2 ^ i = p := ⟨_, rfl⟩
    have HP := wall h3
    rw [hpp] at hp h4 h5 HP ⊢
    obtain ⟨x, hx⟩ : ∃ x, v + p - 4096 = x := ⟨_, rfl⟩
    rw [hx]
    have HX := wall hx
    have H45 := wall (And.intro h4 h5)
    clear h3 h4 h5 hpp hx
    go_wp2_with fail
    go_light
    go_roundg (32 - (i + 1))
    case measure => have := HG.out; have := HI.out; omega
    case rel =>
     refine ⟨i + 1, by have := HG.out; have := HI.out; omega, by have := HI.out; omega, by go_num, wall ?_, rfl⟩
     refine congrArg (Value.int .u32) ?_
     rw [HP.out]
     refine Eq.trans ?_ (sum_step HX.out H45.out.1 H45.out.2 HV.out)
     rfl
   ·obtain rfl : i = 32 := by omega
    have HF := wall (show v + 2 ^ 32 - 4096 = r by rw [HR.out]; omega)
    obtain ⟨x, hx⟩ : ∃ x, v + 2 ^ 32 - 4096 = x := ⟨_, rfl⟩
    rw [hx] at HF ⊢
    clear hx
    go_wp2_with fail
    go_light
    go_ret
    exact ⟨by rw [HF.out]; rfl, rfl⟩
 ·have HR := wall (show r = v by rw [HE.out, if_neg (by omega), Nat.mod_eq_of_lt HV.out])
  have hb1 : ((t : Int) == 1) = false := by simpa using h1
  clear h1
  go_enter Tryz.func181, Tryz.ntmps181
  go_wp2_with fail
  go_light
  go_ret
  exact ⟨by rw [HR.out]; rfl, rfl⟩
theorem extR13 (v : Nat) (vz : Int) (w : World) (e1 : vz = v) (hv : v < 8192) :
  Calls Tryz.prog 181 #[.int .u32 vz, .int .i64 13] w fun e w' => e = .returned (.int .u32 ((ext v 13 : Nat) : Int)) ∧ w = w' := by
 subst e1
 have HE := wall (show ext v 13 = if v / 4096 % 2 = 1 then v % 8192 + (4294967296 - 8192) else v % 8192 from rfl)
 obtain ⟨r, hr⟩ : ∃ r, ext v 13 = r := ⟨_, rfl⟩
 rw [hr] at HE ⊢
 have HV := wall hv
 obtain ⟨t, ht⟩ : ∃ t, v / 4096 % 2 = t := ⟨_, rfl⟩
 have htm : ((v : Int) / 4096).tmod 2 = (t : Int) := by
  rw [Int.tmod_eq_emod_of_nonneg (by omega)]
  omega
 rw [ht] at HE
 clear hr ht hv
 by_cases h1 : (t : Int) = 1
 ·have HR := wall (show r = v + (4294967296 - 8192) by rw [HE.out, if_pos (by omega), Nat.mod_eq_of_lt HV.out])
  have hb1 : ((t : Int) == 1) = true := by rw [h1]; rfl
  clear h1
  go_enter Tryz.func181, Tryz.ntmps181
  go_wp2_with fail
  go_loopg [0, 5] 19 (fun g s0 s5 wr => ∃ i : Nat, i + g = 32 ∧ 13 ≤ i ∧ s5 = .int .i64 (i : Int) ∧ Wall (s0 = .int .u32 ((v + 2 ^ i - 8192 : Nat) : Int)) ∧ w = wr)
  case atStart => exact ⟨13, rfl, Nat.le_refl _, rfl, wall (by rw [show v + 2 ^ 13 - 8192 = v from Nat.add_sub_cancel v _]), rfl⟩
  case round =>
   obtain ⟨i, hg, h12, rfl, HS, rfl⟩ := hrel
   obtain rfl := HS.out
   have HG := wall hg
   have HI := wall h12
   have hi : i ≤ 32 := by omega
   clear hg HS h12
   by_cases hlt : i < 32
   ·have hlt' : (i : Int) < 32 := by omega
    have hp := pow_int i hlt
    have h3 : 2 ^ (i + 1) = 2 * 2 ^ i := by rw [Nat.pow_succ, Nat.mul_comm]
    have h4 : 8192 ≤ 2 ^ i := Nat.le_trans (show 8192 ≤ 2 ^ 13 by decide) (Nat.pow_le_pow_right (n := 2) (by decide) HI.out)
    have h5 : 2 ^ i ≤ 2147483648 := Nat.le_trans (Nat.pow_le_pow_right (n := 2) (by decide) (show i ≤ 31 by omega)) (show 2 ^ 31 ≤ 2147483648 by decide)
    obtain ⟨p, hpp⟩ : ∃ p, 2 ^ i = p := ⟨_, rfl⟩
    have HP := wall h3
    rw [hpp] at hp h4 h5 HP ⊢
    obtain ⟨x, hx⟩ : ∃ x, v + p - 8192 = x := ⟨_, rfl⟩
    rw [hx]
    have HX := wall hx
    have H45 := wall (And.intro h4 h5)
    clear h3 h4 h5 hpp hx
    go_wp2_with fail
    go_light
    go_roundg (32 - (i + 1))
    case measure => have := HG.out; have := HI.out; omega
    case rel =>
     refine ⟨i + 1, by have := HG.out; have := HI.out; omega, by have := HI.out; omega, by go_num, wall ?_, rfl⟩
     refine congrArg (Value.int .u32) ?_
     rw [HP.out]
     refine Eq.trans ?_ (sum_step HX.out H45.out.1 H45.out.2 HV.out)
     rfl
   ·obtain rfl : i = 32 := by omega
    have HF := wall (show v + 2 ^ 32 - 8192 = r by rw [HR.out]; omega)
    obtain ⟨x, hx⟩ : ∃ x, v + 2 ^ 32 - 8192 = x := ⟨_, rfl⟩
    rw [hx] at HF ⊢
    clear hx
    go_wp2_with fail
    go_light
    go_ret
    exact ⟨by rw [HF.out]; rfl, rfl⟩
 ·have HR := wall (show r = v by rw [HE.out, if_neg (by omega), Nat.mod_eq_of_lt HV.out])
  have hb1 : ((t : Int) == 1) = false := by simpa using h1
  clear h1
  go_enter Tryz.func181, Tryz.ntmps181
  go_wp2_with fail
  go_light
  go_ret
  exact ⟨by rw [HR.out]; rfl, rfl⟩
theorem extR21 (v : Nat) (vz : Int) (w : World) (e1 : vz = v) (hv : v < 2097152) :
  Calls Tryz.prog 181 #[.int .u32 vz, .int .i64 21] w fun e w' => e = .returned (.int .u32 ((ext v 21 : Nat) : Int)) ∧ w = w' := by
 subst e1
 have HE := wall (show ext v 21 = if v / 1048576 % 2 = 1 then v % 2097152 + (4294967296 - 2097152) else v % 2097152 from rfl)
 obtain ⟨r, hr⟩ : ∃ r, ext v 21 = r := ⟨_, rfl⟩
 rw [hr] at HE ⊢
 have HV := wall hv
 obtain ⟨t, ht⟩ : ∃ t, v / 1048576 % 2 = t := ⟨_, rfl⟩
 have htm : ((v : Int) / 1048576).tmod 2 = (t : Int) := by
  rw [Int.tmod_eq_emod_of_nonneg (by omega)]
  omega
 rw [ht] at HE
 clear hr ht hv
 by_cases h1 : (t : Int) = 1
 ·have HR := wall (show r = v + (4294967296 - 2097152) by rw [HE.out, if_pos (by omega), Nat.mod_eq_of_lt HV.out])
  have hb1 : ((t : Int) == 1) = true := by rw [h1]; rfl
  clear h1
  go_enter Tryz.func181, Tryz.ntmps181
  go_wp2_with fail
  go_loopg [0, 5] 11 (fun g s0 s5 wr => ∃ i : Nat, i + g = 32 ∧ 21 ≤ i ∧ s5 = .int .i64 (i : Int) ∧ Wall (s0 = .int .u32 ((v + 2 ^ i - 2097152 : Nat) : Int)) ∧ w = wr)
  case atStart => exact ⟨21, rfl, Nat.le_refl _, rfl, wall (by rw [show v + 2 ^ 21 - 2097152 = v from Nat.add_sub_cancel v _]), rfl⟩
  case round =>
   obtain ⟨i, hg, h12, rfl, HS, rfl⟩ := hrel
   obtain rfl := HS.out
   have HG := wall hg
   have HI := wall h12
   have hi : i ≤ 32 := by omega
   clear hg HS h12
   by_cases hlt : i < 32
   ·have hlt' : (i : Int) < 32 := by omega
    have hp := pow_int i hlt
    have h3 : 2 ^ (i + 1) = 2 * 2 ^ i := by rw [Nat.pow_succ, Nat.mul_comm]
    have h4 : 2097152 ≤ 2 ^ i := Nat.le_trans (show 2097152 ≤ 2 ^ 21 by decide) (Nat.pow_le_pow_right (n := 2) (by decide) HI.out)
    have h5 : 2 ^ i ≤ 2147483648 := Nat.le_trans (Nat.pow_le_pow_right (n := 2) (by decide) (show i ≤ 31 by omega)) (show 2 ^ 31 ≤ 2147483648 by decide)
    obtain ⟨p, hpp⟩ : ∃ p, 2 ^ i = p := ⟨_, rfl⟩
    have HP := wall h3
    rw [hpp] at hp h4 h5 HP ⊢
    obtain ⟨x, hx⟩ : ∃ x, v + p - 2097152 = x := ⟨_, rfl⟩
    rw [hx]
    have HX := wall hx
    have H45 := wall (And.intro h4 h5)
    clear h3 h4 h5 hpp hx
    go_wp2_with fail
    go_light
    go_roundg (32 - (i + 1))
    case measure => have := HG.out; have := HI.out; omega
    case rel =>
     refine ⟨i + 1, by have := HG.out; have := HI.out; omega, by have := HI.out; omega, by go_num, wall ?_, rfl⟩
     refine congrArg (Value.int .u32) ?_
     rw [HP.out]
     refine Eq.trans ?_ (sum_step HX.out H45.out.1 H45.out.2 HV.out)
     rfl
   ·obtain rfl : i = 32 := by omega
    have HF := wall (show v + 2 ^ 32 - 2097152 = r by rw [HR.out]; omega)
    obtain ⟨x, hx⟩ : ∃ x, v + 2 ^ 32 - 2097152 = x := ⟨_, rfl⟩
    rw [hx] at HF ⊢
    clear hx
    go_wp2_with fail
    go_light
    go_ret
    exact ⟨by rw [HF.out]; rfl, rfl⟩
 ·have HR := wall (show r = v by rw [HE.out, if_neg (by omega), Nat.mod_eq_of_lt HV.out])
  have hb1 : ((t : Int) == 1) = false := by simpa using h1
  clear h1
  go_enter Tryz.func181, Tryz.ntmps181
  go_wp2_with fail
  go_light
  go_ret
  exact ⟨by rw [HR.out]; rfl, rfl⟩
theorem at_any (f3 g : Nat) (z : Int) (l : List Nat) (w : World) (e1 : z = f3) (hf : f3 < 8) (hl : l.length ≤ 8) (hK : Blk w g 5 (b8 l)) :
  Calls Tryz.prog 182 #[.int .u32 z, .slice (some ⟨g, 0, none⟩) l.length l.length] w fun e w' => e = .returned (.int .u8 ((rAt f3 l : Nat) : Int)) ∧ w = w' := by
 subst e1
 obtain ⟨r, hr⟩ : ∃ r, rAt f3 l = r := ⟨_, rfl⟩
 have HR := wall hr
 rw [hr]
 clear hr
 by_cases h : f3 < l.length
 ·have hlt : ¬ (l.length : Int) ≤ (f3 : Int) := by omega
  have hc : w.cell? ⟨g, f3, none⟩ = some (.int .u8 (r : Int)) := by rw [hK.cell, b8_getD h]; rw [← HR.out]; rfl
  have hlt2 : (f3 : Int) < (l.length : Int) := by omega
  clear hK
  go_enter Tryz.func182, Tryz.ntmps182
  go_wp2_with fail
  go_light
  go_ret
  exact ⟨rfl, rfl⟩
 ·have hlt : (l.length : Int) ≤ (f3 : Int) := by omega
  have HZ := wall (show r = 0 by rw [← HR.out]; unfold rAt; rw [List.getD_eq_getElem?_getD, List.getElem?_eq_none (by omega)]; rfl)
  clear hK
  go_enter Tryz.func182, Tryz.ntmps182
  go_wp2_with fail
  go_light
  go_ret
  exact ⟨by rw [HZ.out]; rfl, rfl⟩
theorem alone_any (v : Nat) (vz : Int) (w : World) (e1 : vz = v) :
  Calls Tryz.prog 183 #[.int .u32 vz] w fun e w' => e = .returned (.int .u8 ((plainN v : Nat) : Int)) ∧ w = w' := by
 obtain ⟨x, hx⟩ : ∃ x, ((plainN v : Nat) : Int) = x := ⟨_, rfl⟩
 rw [hx]
 have HX := wall hx
 clear hx
 subst e1
 go_enter Tryz.func183, Tryz.ntmps183
 go_wp2_with fail
 all_goals (go_light; go_ret; refine ⟨ret1i ?_, rfl⟩; rw [← HX.out]; unfold plainN)
 ·rename_i h1
  rw [if_pos (beq_nat (c := 115) h1)]; rfl
 ·rename_i h1 h2
  rw [if_neg (bne_nat (c := 115) h1), if_pos (beq_nat (c := 1048691) h2)]; rfl
 ·rename_i h1 h2 h3
  rw [if_neg (bne_nat (c := 115) h1), if_neg (bne_nat (c := 1048691) h2), if_pos (beq_nat (c := 807403635) h3)]; rfl
 ·rename_i h1 h2 h3 h4
  rw [if_neg (bne_nat (c := 115) h1), if_neg (bne_nat (c := 1048691) h2), if_neg (bne_nat (c := 807403635) h3), if_pos (beq_nat (c := 273678451) h4)]; rfl
 ·rename_i h1 h2 h3 h4
  rw [if_neg (bne_nat (c := 115) h1), if_neg (bne_nat (c := 1048691) h2), if_neg (bne_nat (c := 807403635) h3), if_neg (bne_nat (c := 273678451) h4)]; rfl
end Rv
end Go.Proofs.YtmiaabpnolebhaaGreatDoor
