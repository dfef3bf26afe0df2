/-
  RvDivides.
-/
import Derived.Test.YtenfdhfhfjaipaaDoorRvQ
import Derived.Test.YtenfdhfhfjaipaaDoorRvAw
import Derived.OpenShut
set_option linter.unusedSimpArgs false
set_option linter.unusedVariables false
namespace Go.Proofs.YtenfdhfhfjaipaaDoor
open Go.RowKit

namespace Rv
open Otp Sha R1
set_option maxRecDepth 100000 in
set_option maxHeartbeats 4000000 in
theorem divides_any (a b : Nat) (w : World) (hT : STb w) (ha : a < 4294967296) (hb : b < 4294967296) :
    Calls Tryd.prog 6 #[.int .u32 (a : Int), .int .u32 (b : Int)] w (TrueBelow w) := by
  have HA := wall (fun (op : Nat) W (h1 : 49 ≤ op) (h2 : op ≤ 56) => alu_hi op a b W h1 h2 ha hb)
  have H4 := wall (show ∀ W, Calls Tryd.prog 19 #[.int .u8 54, .int .u32 (a : Int), .int .u32 (b : Int)] W (AluO (timesN 54 a b) true W) from fun W => HA.out 54 W (by decide) (by decide))
  have H6 := wall (show ∀ W, Calls Tryd.prog 19 #[.int .u8 56, .int .u32 (a : Int), .int .u32 (b : Int)] W (AluO (timesN 56 a b) true W) from fun W => HA.out 56 W (by decide) (by decide))
  have H3 := wall (show ∀ W, Calls Tryd.prog 19 #[.int .u8 53, .int .u32 (a : Int), .int .u32 (b : Int)] W (AluO (timesN 53 a b) true W) from fun W => HA.out 53 W (by decide) (by decide))
  have H5 := wall (show ∀ W, Calls Tryd.prog 19 #[.int .u8 55, .int .u32 (a : Int), .int .u32 (b : Int)] W (AluO (timesN 55 a b) true W) from fun W => HA.out 55 W (by decide) (by decide))
  have H9 := wall (show ∀ W, Calls Tryd.prog 19 #[.int .u8 49, .int .u32 (a : Int), .int .u32 (b : Int)] W (AluO (timesN 49 a b) true W) from fun W => HA.out 49 W (by decide) (by decide))
  have H2 := wall (show ∀ W, Calls Tryd.prog 19 #[.int .u8 52, .int .u32 (a : Int), .int .u32 (b : Int)] W (AluO (timesN 52 a b) true W) from fun W => HA.out 52 W (by decide) (by decide))
  have HH := wall (halves ha hb)
  have HZ := wall (fun (h : b = 0) => show timesN 54 a b = 4294967295 ∧ timesN 56 a b = a ∧ timesN 53 a b = 4294967295 ∧ timesN 55 a b = a by rw [h]; exact at_zero ha)
  have HP := wall (fun h : b ≠ 0 => plain_again (b := b) ha h)
  have HS := wall (fun h : b ≠ 0 => signed_again ha hb h)
  have HAW := wall (awake_any w hT)
  have HL := wall (And.intro ha hb)
  obtain ⟨q, hq⟩ : ∃ y, timesN 54 a b = y := ⟨_, rfl⟩
  obtain ⟨m, hm⟩ : ∃ y, timesN 56 a b = y := ⟨_, rfl⟩
  obtain ⟨s, hs⟩ : ∃ y, timesN 53 a b = y := ⟨_, rfl⟩
  obtain ⟨t, ht⟩ : ∃ y, timesN 55 a b = y := ⟨_, rfl⟩
  obtain ⟨lo, hlo⟩ : ∃ y, timesN 49 a b = y := ⟨_, rfl⟩
  obtain ⟨hi, hhi⟩ : ∃ y, timesN 52 a b = y := ⟨_, rfl⟩
  rw [hq] at H4 HZ HP
  rw [hm] at H6 HZ HP
  rw [hs] at H3 HZ HS
  rw [ht] at H5 HZ HS
  rw [hlo] at H9 HH
  rw [hhi] at H2 HH
  clear hq hm hs ht hlo hhi ha hb hT HA
  go_enter Tryd.func6, Tryd.ntmps6
  go_wp2_with fail
  (with_reducible refine (HAW.out).mono ?_); rintro e w1 ⟨rfl, hB1⟩
  have HB1 := wall hB1
  clear hB1
  go_wp2_with fail
  (with_reducible refine (H4.out _).mono ?_); rintro e w2 ⟨rfl, rfl⟩
  go_wp2_with fail
  (with_reducible refine (H6.out _).mono ?_); rintro e w2 ⟨rfl, rfl⟩
  go_wp2_with fail
  (with_reducible refine (H3.out _).mono ?_); rintro e w2 ⟨rfl, rfl⟩
  go_wp2_with fail
  (with_reducible refine (H5.out _).mono ?_); rintro e w2 ⟨rfl, rfl⟩
  go_wp2_with fail
  (with_reducible refine (H9.out _).mono ?_); rintro e w2 ⟨rfl, rfl⟩
  go_wp2_with fail
  (with_reducible refine (H2.out _).mono ?_); rintro e w2 ⟨rfl, rfl⟩
  obtain ⟨P, hP⟩ : ∃ y : Nat, a * b = y := ⟨_, rfl⟩
  have k1 : IntKind.u64.wrap (hi : Int) = (hi : Int) := by rw [u64_mod]; have := HH.out; omega
  have k2 : IntKind.u64.wrap (lo : Int) = (lo : Int) := by rw [u64_mod]; have := HH.out; omega
  have k3 : IntKind.u64.wrap (a : Int) = (a : Int) := by rw [u64_mod]; have := HL.out; omega
  have k4 : IntKind.u64.wrap (b : Int) = (b : Int) := by rw [u64_mod]; have := HL.out; omega
  have hPb : P < 18446744073709551616 ∧ hi * 4294967296 + lo = P := by have := HH.out; rw [hP] at this; omega
  have k5 : IntKind.u64.wrap ((a : Int) * (b : Int)) = (P : Int) := by
    rw [u64_mod, show (a : Int) * (b : Int) = (P : Int) by rw [← hP]; simp]
    omega
  have k6 : IntKind.u64.wrap ((hi : Int) * 4294967296) = (hi : Int) * 4294967296 := by rw [u64_mod]; have := HH.out; omega
  have k7 : IntKind.u64.wrap ((hi : Int) * 4294967296 + (lo : Int)) = (P : Int) := by rw [u64_mod]; omega
  clear hP hPb
  by_cases h0 : b = 0
  · obtain ⟨z1, z2, z3, z4⟩ := HZ.out h0
    have hb0 : ((b : Int) == 0) = true := by rw [h0]; rfl
    have f1 : (q : Int) = 4294967295 := by omega
    have f2 : (m : Int) = (a : Int) := by omega
    have f3 : (s : Int) = 4294967295 := by omega
    have f4 : (t : Int) = (a : Int) := by omega
    clear z1 z2 z3 z4 h0
    go_wp2_with fail
    go_light
    go_ret
    exact ⟨by simp, HB1.out⟩
  · have hb0 : ((b : Int) == 0) = false := by simpa using h0
    obtain ⟨p1, p2⟩ := HP.out h0
    have f1 : ((q : Int) * (b : Int) + (m : Int)) % 4294967296 = (a : Int) := by
      have e : (q : Int) * (b : Int) + (m : Int) = (a : Int) := by rw [← p1]; simp
      rw [e]
      have := HL.out
      omega
    have f3 := HS.out h0
    clear h0 p1
    go_wp2_with fail
    go_light
    go_ret
    exact ⟨by simp, HB1.out⟩
theorem divides_frame (a b : Int) (w : World) (hT : STb w) (ha : (Lit.int .u32 a).wf = true) (hb : (Lit.int .u32 b).wf = true) :
    Calls Tryd.prog 6 #[.int .u32 a, .int .u32 b] w (TrueBelow w) := by
  have h1 := bounds_u32 ha
  have h2 := bounds_u32 hb
  have e1 : a = ((a.toNat : Nat) : Int) := by omega
  have e2 : b = ((b.toNat : Nat) : Int) := by omega
  rw [e1, e2]
  exact divides_any _ _ w hT (by omega) (by omega)
end Rv
end Go.Proofs.YtenfdhfhfjaipaaDoor
