/-
  CoreAdds.
-/
import Derived.Test.YtfiojpdkbckopaaDoorJ045cfdcf
import Derived.Test.YtfiojpdkbckopaaDoorCorLz
import Derived.Test.YtfiojpdkbckopaaDoorJf3268d21
import Derived.Test.YtfiojpdkbckopaaDoorJ4b618aa8
import Derived.Test.YtfiojpdkbckopaaDoorRvJ
import Derived.Test.YtfiojpdkbckopaaDoorJc6ca3112
import Derived.Test.YtfiojpdkbckopaaDoorFrame
import Derived.Test.YtfiojpdkbckopaaDoorJa7d4135a
set_option linter.unusedSimpArgs false
set_option linter.unusedVariables false
namespace Go.Proofs.YtfiojpdkbckopaaDoor
open Go.RowKit

namespace Core
open Otp Sha R1 Spc Grant Rv Fla
set_option maxRecDepth 100000 in
set_option maxHeartbeats 4000000 in
theorem adds_any (n s : Nat) (w : World) (hS : Spans w) (hn : n < 256) (hs : s < 256) :
    Calls Tryd.prog 7 #[.int .u8 (n : Int), .int .u8 (s : Int)] w (TrueB w) := by
  have HS := wall hS
  obtain ⟨k, hk⟩ : ∃ k, n % 40 + 1 = k := ⟨_, rfl⟩
  have hkk : (1 : Int) + (n : Int) % 40 = (k : Int) := by omega
  have HN := wall (show 1 ≤ k ∧ k ≤ 40 ∧ s < 256 from ⟨by omega, by omega, hs⟩)
  have hsm : (s : Int) % 4294967296 = (s : Int) := by omega
  have hk40 : (k : Int) ≤ 40 := by have := HN.out.2.1; omega
  have hn256 : (n : Int) < 256 := by omega
  have hs256 : (s : Int) < 256 := by omega
  clear hS hk hn hs
  go_enter Tryd.func7, Tryd.ntmps7
  go_wp2_with fail
  (with_reducible refine (awake_any _ HS.out).mono ?_); rintro e w1 ⟨rfl, hB1⟩
  have HB1 := wall hB1
  clear hB1
  try simp only [Act.put, List.setIfInBounds_toArray, List.set_cons_zero, List.set_cons_succ]
  go_wp2_with fail
  have HQK := wall (show ∀ W, W = w1.alloc (.cells #[.int .u8 19, .int .u8 1, .int .u8 0, .int .u8 0, .int .u32 (k : Int), .int .u16 0, .int .u8 19, .int .u8 2, .int .u8 2, .int .u8 0, .int .u32 (s : Int), .int .u16 0, .int .u8 19, .int .u8 1, .int .u8 1, .int .u8 0, .int .u32 4294967295, .int .u16 0, .int .u8 6, .int .u8 0, .int .u8 1, .int .u8 0, .int .u32 4294967288, .int .u16 0, .int .u8 40, .int .u8 0, .int .u8 0, .int .u8 0, .int .u32 0, .int .u16 0] 42) → Blk W w1.heap.size 42 ((Ad.qs k s).flatMap fun q => (inC q).toList).toArray ∧ Below w1.heap.size w1 W from fun W h => by
    subst h
    exact ⟨Blk.new _ _ _, (Below.refl _ w1).alloc (Nat.le_refl _) _⟩)
  obtain ⟨w2, hw2⟩ : ∃ W, W = w1.alloc (.cells #[.int .u8 19, .int .u8 1, .int .u8 0, .int .u8 0, .int .u32 (k : Int), .int .u16 0, .int .u8 19, .int .u8 2, .int .u8 2, .int .u8 0, .int .u32 (s : Int), .int .u16 0, .int .u8 19, .int .u8 1, .int .u8 1, .int .u8 0, .int .u32 4294967295, .int .u16 0, .int .u8 6, .int .u8 0, .int .u8 1, .int .u8 0, .int .u32 4294967288, .int .u16 0, .int .u8 40, .int .u8 0, .int .u8 0, .int .u8 0, .int .u32 0, .int .u16 0] 42) := ⟨_, rfl⟩
  obtain ⟨hK2, hB2⟩ := HQK.out w2 hw2
  have HB2 := wall (below_then HB1.out hB2 (Nat.le_refl _))
  have HCO := wall (code_any (some ⟨w1.heap.size, 0, none⟩) 5 5 (Ad.qs k s) w2 rfl (by decide) (ins_blk hK2 (Ad.qs_ok (by have := HN.out; omega) HN.out.2.2) hK2.lt))
  rw [← hw2]
  clear HQK hK2 hB2 HB1 hw2
  have HTL := wall (codeL_lt (Ad.qs k s))
  have HLL := wall (codeL_length (Ad.qs k s))
  obtain ⟨L, hL⟩ : ∃ y, codeL (Ad.qs k s) = y := ⟨_, rfl⟩
  have HLE := wall hL
  rw [hL] at HCO HTL HLL
  clear hL
  (with_reducible refine (HCO.out).mono ?_); rintro e w3 ⟨v0, rfl, hO, hB3⟩
  obtain ⟨A, cA, rfl, -, hPN, -⟩ := own_nats hO HTL.out
  have hLN : L.length = 20 := HLL.out
  rw [hLN]
  have HPN := wall hPN
  have HB3 := wall (below_then HB2.out hB3 (Nat.le_refl _))
  clear hO hB3 hPN HB2 HCO
  try simp only [Act.put, List.setIfInBounds_toArray, List.set_cons_zero, List.set_cons_succ]
  go_wp2_with fail
  have HLY := wall (show Calls Tryd.prog 9 #[.int .u8 1, .slice A 20 cA] w3 (LayOut2 1 (L.take 1024) w3) from lay2_any 1 (by decide) A 20 cA L w3 (HS.out.old HB3.out) HLL.out (by decide) HPN.out)
  rw [show L.take 1024 = L from List.take_of_length_le (by rw [hLN]; decide)] at HLY
  (with_reducible refine (HLY.out).mono ?_); rintro e w4 ⟨g, m, b1, b2, b4, v, rfl, hLy, hB4, f, pf, cc, pp, bb, hSw⟩
  have HSW := wall hSw
  have HB4 := wall (below_then HB3.out hB4 (Nat.le_refl _))
  have HS4 := wall (HS.out.old HB4.out)
  have HLD := wall (show Ad.Laid v k s from ⟨hLy.vs, by rw [hLy.vr, HLE.out], by have := HN.out; omega, HN.out.2.2⟩)
  have HGW := wall (show w.heap.size ≤ g from Nat.le_trans HB3.out.size hLy.hg)
  clear hLy hB4 hSw HLY HB3 HPN hLN HLL HTL HLE HS
  try simp only [Act.put, List.setIfInBounds_toArray, List.set_cons_zero, List.set_cons_succ]
  go_wp2_with fail
  have HNW := wall (fun W => show Calls Tryd.prog 18 #[.int .u32 536870912] W (CrOut (newC 536870912) W) from new_any 536870912 (by decide) W)
  unfold CrOut at HNW
  (with_reducible refine (HNW.out _).mono ?_); rintro e w5 ⟨rfl, hB5⟩
  have HSW5 := wall (HSW.out.old hB5)
  have HS5 := wall (HS4.out.old hB5)
  have HB5 := wall (below_then HB4.out hB5 (Nat.le_refl _))
  clear hB5 HSW HS4 HB4 HNW
  try simp only [Act.put, List.setIfInBounds_toArray, List.set_cons_zero, List.set_cons_succ]
  have HRN := wall (run_any (newC 536870912) (newC_ok (by decide)) 1000 1000 w5 g f pf cc pp bb v erased z64 f64 false HSW5.out HS5.out (.inl HLD.out.st) rfl (by decide))
  obtain ⟨cF, hrun, hEnd⟩ := Ad.adds (F := erased) (vs := z64) (ls := f64) HLD.out HN.out.1 HN.out.2.1
  rw [hrun] at HRN
  unfold RunO at HRN
  simp only at HRN
  have HEN := wall hEnd
  obtain ⟨mm, hmm⟩ : ∃ y, 2 + 3 * k = y := ⟨_, rfl⟩
  rw [hmm] at HRN HEN
  have hmi : (2 : Int) + 3 * (k : Int) = (mm : Int) := by omega
  have hm2 : (mm : Int) ≤ 200 := by omega
  obtain ⟨D0, hD0⟩ : ∃ y, crC (newC 536870912) = y := ⟨_, rfl⟩
  rw [hD0] at HRN
  rw [hD0]
  clear hrun hEnd hD0 hmm
  go_wp2_with fail
  (with_reducible refine (HRN.out).mono ?_); rintro e w6 ⟨rfl, hcF, hSw6, hF6⟩
  have HB6 := wall (Below.frm HB5.out hF6 (Nat.le_refl _) (by simp; exact HGW.out))
  clear hcF hSw6 hF6 HRN HB5 HSW5 HS5 HLD
  have HZ := wall cr_zero
  have HRW := wall (res_row HEN.out.ok)
  have HG1 := wall (fun W => show Calls Tryd.prog 15 #[.agg (crC cF), .int .u16 834] W (GetO (cF.g 38, true) W) from get_834 cF HEN.out.ok W)
  have HG2 := wall (fun W => show Calls Tryd.prog 15 #[.agg (crC cF), .int .u16 2816] W (GetO (cF.g 40, true) W) from get_2816 cF HEN.out.ok W)
  unfold GetO at HG1 HG2
  rw [HEN.out.h38] at HG1
  rw [HEN.out.h40] at HG2
  have HKC := wall (fun W b (h : Blk W b 34 (crC cF)) => And.intro (Cb.cell h HEN.out.ok (show 1 < 41 by decide)) (Cb.cell h HEN.out.ok (show 2 < 41 by decide)))
  rw [HEN.out.h1, HEN.out.h2] at HKC
  obtain ⟨D, hD⟩ : ∃ y, crC cF = y := ⟨_, rfl⟩
  obtain ⟨Z, hZ⟩ : ∃ y, crC crZ = y := ⟨_, rfl⟩
  rw [hD] at HRW HG1 HG2 HKC
  rw [hD]
  rw [hZ] at HZ HRW
  clear hD hZ HEN
  have HNB := wall (show Blk (w6.alloc (.cells Z 34)) w6.heap.size 34 Z ∧ Below w6.heap.size w6 (w6.alloc (.cells Z 34)) from ⟨Blk.new _ _ _, (Below.refl _ _).alloc (Nat.le_refl _) _⟩)
  try simp only [Act.put, List.setIfInBounds_toArray, List.set_cons_zero, List.set_cons_succ]
  go_upto_region 6 with (first | refine Big.wpList_alloc_at rfl 34 rfl Z HZ.out w6.heap.size rfl ?_ | (refine wpList_set_row rfl 34 (.tmp 8) (.tmp 39) rfl w6.heap.size D rfl rfl 34 Z HNB.out.1 HRW.out.1 HRW.out.2.1 HRW.out.2.2 ?_; intro w7 K7 F7))
  have HB7 := wall (Below.frm (below_then HB6.out HNB.out.2 (Nat.le_refl _)) F7.out (Nat.le_refl _) (by simp; exact HB6.out.size))
  replace K7 := wall K7.out
  clear F7 HNB HB6 HZ
  obtain ⟨gc, hgc⟩ : ∃ y, w6.heap.size = y := ⟨_, rfl⟩
  rw [hgc] at K7 ⊢
  clear hgc
  try simp only [Act.put, List.setIfInBounds_toArray, List.set_cons_zero, List.set_cons_succ]
  go_wp2_with (refine wpList_load_row rfl 34 _ rfl gc rfl 34 D (0, 0) _ K7.out Tryd.underlying34 rfl HRW.out.1 ?_)
  (with_reducible refine (HG1.out _).mono ?_); rintro e w8 ⟨rfl, hB8⟩
  have K8 := wall (K7.out.next hB8 rfl)
  have HB8 := wall (below_then HB7.out hB8 (Nat.le_refl _))
  clear hB8 K7 HB7 HG1
  try simp only [Act.put, List.setIfInBounds_toArray, List.set_cons_zero, List.set_cons_succ]
  go_wp2_with (refine wpList_load_row rfl 34 _ rfl gc rfl 34 D (0, 0) _ K8.out Tryd.underlying34 rfl HRW.out.1 ?_)
  (with_reducible refine (HG2.out _).mono ?_); rintro e w9 ⟨rfl, hB9⟩
  have K9 := wall (K8.out.next hB9 rfl)
  have HB9 := wall (below_then HB8.out hB9 (Nat.le_refl _))
  clear hB9 K8 HB8 HG2
  try simp only [Act.put, List.setIfInBounds_toArray, List.set_cons_zero, List.set_cons_succ]
  obtain ⟨k1, k2⟩ := HKC.out _ _ K9.out
  obtain ⟨pr, hpr⟩ : ∃ y, k * s % 4294967296 = y := ⟨_, rfl⟩
  have hmu : (k : Int) * (s : Int) % 4294967296 = (pr : Int) := by rw [← hpr]; simp
  rw [hpr] at k2
  have hmx : (mm : Int) % 4294967296 = (mm : Int) := by omega
  clear HKC HRW K9 hpr
  go_wp2_with fail
  go_light
  go_ret
  exact ⟨rfl, HB9.out⟩
theorem adds_frame (n s : Int) (w : World) (hS : Spans w) (h1 : (Lit.int .u8 n).wf = true) (h2 : (Lit.int .u8 s).wf = true) : Calls Tryd.prog 7 #[.int .u8 n, .int .u8 s] w (TrueB w) := by
  have b1 := bounds_u8 h1
  have b2 := bounds_u8 h2
  have e1 : n = ((n.toNat : Nat) : Int) := by omega
  have e2 : s = ((s.toNat : Nat) : Int) := by omega
  rw [e1, e2]
  exact adds_any n.toNat s.toNat w hS (by omega) (by omega)
end Core
end Go.Proofs.YtfiojpdkbckopaaDoor
