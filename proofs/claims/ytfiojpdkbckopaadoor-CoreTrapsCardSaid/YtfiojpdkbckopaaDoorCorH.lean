/-
  The law CoreHeld.
-/
import Derived.Test.YtfiojpdkbckopaaDoorJ82af92fd
import Derived.Test.YtfiojpdkbckopaaDoorCorE
import Derived.Test.YtfiojpdkbckopaaDoorEq32
set_option linter.unusedSimpArgs false
set_option linter.unusedVariables false
namespace Go.Proofs.YtfiojpdkbckopaaDoor
open Go.RowKit

namespace Core
open Otp Sha R1 Spc Grant Rv
theorem trap_regs (c : Cr) (a b : Nat) : (trapC (c.time false) a b).l.take 32 = c.l.take 32 := by
  unfold trapC
  rw [take_high (by decide), take_high (by decide), take_high (by decide), take_high (by decide), take_high (by decide), take_high (by decide)]
  rfl
theorem Ly.frm {w w' : World} {B g m b1 b2 b4 x : Nat} {v : SpV} {st : Int} {p l1 : List Nat} (h : Ly w B g m b1 b2 b4 v st p l1) (hf : Frm [x] w w') (h0 : g < x ∧ m < x ∧ b1 < x ∧ b2 < x ∧ b4 < x) : Ly w' B g m b1 b2 b4 v st p l1 :=
  ⟨Blk.frm h.sp hf (by simp; omega), h.ok, h.vs, h.vr, h.vp, ⟨h.ms.mm.frm hf (by simp; omega) (by simp; omega) (by simp; omega) (by simp; omega), h.ms.hm, h.ms.h1, h.ms.h2, h.ms.h4, h.ms.n12, h.ms.n14, h.ms.n1m⟩, h.hg, h.ng⟩
theorem Ly.lts {w : World} {B g m b1 b2 b4 : Nat} {v : SpV} {st : Int} {p l1 : List Nat} (h : Ly w B g m b1 b2 b4 v st p l1) : g < w.heap.size ∧ m < w.heap.size ∧ b1 < w.heap.size ∧ b2 < w.heap.size ∧ b4 < w.heap.size := ⟨Blk.lt h.sp, h.ms.mm.lt, h.ms.mm.k1.lt, h.ms.mm.k2.lt, h.ms.mm.k4.lt⟩
theorem ram_take {q : List Nat} (h : q.length ≤ 1024) : (splice (List.replicate 8192 0) 0 q).take 4096 = splice z4k 0 q := by
  unfold splice z4k
  rw [List.take_zero, List.take_zero, List.nil_append, List.nil_append, Nat.zero_add, List.drop_replicate, List.drop_replicate, List.take_append, List.take_of_length_le (by omega), List.take_replicate]
  congr 2
  omega
theorem ram_drop {q : List Nat} (h : q.length ≤ 1024) : (splice (List.replicate 8192 0) 0 q).drop 4096 = z4k := by
  unfold splice z4k
  rw [List.take_zero, List.nil_append, Nat.zero_add, List.drop_replicate, List.drop_append, List.drop_of_length_le (by omega), List.nil_append, List.drop_replicate]
  congr 1
  omega
set_option maxRecDepth 100000 in
set_option maxHeartbeats 4000000 in
theorem held_any (A : Option Addr) (lenA capA : Nat) (p : List Nat) (pc : Nat) (B : Option Addr) (lenB capB : Nat) (xs : List Nat) (w : World) (hS : Spans w) (hpc : pc < 4294967296)
    (hl : p.length = lenA) (hm : lenA ≤ maxLen) (hp : Nats .u8 256 w w.heap.size A p) (hl2 : xs.length = lenB) (hm2 : lenB ≤ maxLen) (hx : Nats .u32 4294967296 w w.heap.size B xs) :
    Calls Tryd.prog 3 #[.slice A lenA capA, .int .u32 (pc : Int), .slice B lenB capB] w (TrueB w) := by
  have HS := wall hS
  have HP := wall hp
  have HX := wall hx
  have HLY := wall (fun W (h1 : Spans W) (h2 : Nats .u8 256 W W.heap.size A p) => show Calls Tryd.prog 9 #[.int .u8 0, .slice A lenA capA] W (LayOut 0 (p.take 1024) W) from lay_any 0 (by decide) A lenA capA p W h1 hl hm h2)
  have HSA := wall (fun W (h2 : Nats .u32 4294967296 W W.heap.size B xs) => start_any pc hpc B lenB capB xs W hl2 hm2 h2)
  have HOK := wall (regs_ok (newC_ok hpc) (fun j y hy => (hx j y hy).1) lenB)
  have HPL := wall (show (p.take 1024).length ≤ 1024 ∧ ∀ y ∈ p.take 1024, y < 256 from ⟨List.length_take_le _ _, fun y hy => by
    obtain ⟨j, hj⟩ := List.mem_iff_getElem?.1 (List.mem_of_mem_take hy)
    exact (hp j y hj).1⟩)
  obtain ⟨q, hq⟩ : ∃ y, p.take 1024 = y := ⟨_, rfl⟩
  obtain ⟨c0, hc0⟩ : ∃ y, regs (newC pc) xs lenB = y := ⟨_, rfl⟩
  rw [hq] at HLY HPL
  rw [hc0] at HSA HOK
  clear hS hp hx hpc hl hm hl2 hm2 hq hc0
  go_enter Tryd.func3, Tryd.ntmps3
  go_wp2_with fail
  (with_reducible refine (awake_any _ HS.out).mono ?_); rintro e w1 ⟨rfl, hB1⟩
  have HB1 := wall hB1
  clear hB1
  try simp only [Act.put, List.setIfInBounds_toArray, List.set_cons_zero, List.set_cons_succ]
  go_wp2_with fail
  (with_reducible refine (HLY.out _ (HS.out.old HB1.out) (nats_step HP.out HB1.out)).mono ?_); rintro e w2 ⟨g, m, b1, b2, b4, v, rfl, hL, hB2⟩
  have HL := wall hL
  have HB2 := wall (below_then HB1.out hB2 (Nat.le_refl _))
  have HW1 := wall HB1.out.size
  clear hL hB2 HLY HB1 HP
  try simp only [Act.put, List.setIfInBounds_toArray, List.set_cons_zero, List.set_cons_succ]
  go_wp2_with fail
  (with_reducible refine (HSA.out _ (nats_step HX.out HB2.out)).mono ?_); rintro e w3 ⟨rfl, hB3⟩
  have HL3 := wall (HL.out.old hB3)
  have HB3 := wall (below_then HB2.out hB3 (Nat.le_refl _))
  clear hB3 HL HB2 HX HSA
  have HZ := wall cr_zero
  have HZR := wall ref_zero
  have HE := wall ev_zero
  have HIN := wall (show (Tryd.prog.info? 34).map (·.size) = some (crC c0).size ∧ (crC crZ).size = (crC c0).size ∧ (crC c0).all (·.oneCell') = true ∧ (Tryd.prog.info? 37).map (·.size) = some (crC c0).size from ⟨by rw [crC_size HOK.out]; exact cr_info, by rw [crC_size HOK.out, crC_size crZ_ok], crC_one _, by rw [crC_size HOK.out]; exact ref_info⟩)
  obtain ⟨N, hN⟩ : ∃ y, crC c0 = y := ⟨_, rfl⟩
  obtain ⟨Z, hZ⟩ : ∃ y, crC crZ = y := ⟨_, rfl⟩
  obtain ⟨E, hE⟩ : ∃ y, evZ = y := ⟨_, rfl⟩
  rw [hN]
  rw [hN, hZ] at HIN
  rw [hZ] at HZ HZR
  rw [hE] at HE
  try simp only [Act.put, List.setIfInBounds_toArray, List.set_cons_zero, List.set_cons_succ]
  have HA := wall (show Blk ((w3.alloc (.cells Z 34)).alloc (.cells Z 37)) w3.heap.size 34 Z ∧ Blk ((w3.alloc (.cells Z 34)).alloc (.cells Z 37)) (w3.heap.size + 1) 37 Z ∧ Below w3.heap.size w3 ((w3.alloc (.cells Z 34)).alloc (.cells Z 37)) from ⟨(Blk.new _ _ _).alloc _, blk_new' (by simp), ((Below.refl _ w3).alloc (Nat.le_refl _) _).alloc (by simp) _⟩)
  go_upto_region 5 with (first | refine Big.wpList_alloc_at rfl 34 rfl Z HZ.out w3.heap.size rfl ?_ | refine Big.wpList_alloc_at rfl 37 rfl Z HZR.out (w3.heap.size + 1) (by simp) ?_ | (refine wpList_set_row rfl 34 (.tmp 9) (.tmp 25) rfl w3.heap.size N rfl rfl 34 Z HA.out.1 HIN.out.1 HIN.out.2.1 HIN.out.2.2.1 ?_; intro w4 K4 F4; have H4e := wall (HA.out.2.1.frm F4.out (by simp)); have H4b := wall (Below.frm HA.out.2.2 F4.out (Nat.le_refl _) (by simp))) | (refine wpList_set_row rfl 37 (.tmp 10) (.tmp 26) rfl (w3.heap.size + 1) N rfl rfl 37 Z H4e.out HIN.out.2.2.2 HIN.out.2.1 HIN.out.2.2.1 ?_; intro w5 K5 F5))
  have hb5 := Below.frm H4b.out F5.out (Nat.le_refl _) (by simp)
  have HK5 := wall (show Blk w5 w3.heap.size 34 (crC c0) by rw [hN]; exact K4.out.frm F5.out (by simp))
  have HL5 := wall (HL3.out.old hb5)
  have HLT := wall HL3.out.lts
  have HB5 := wall (below_then HB3.out hb5 (Nat.le_refl _))
  obtain ⟨g9, hg9⟩ : ∃ y, w3.heap.size = y := ⟨_, rfl⟩
  have HG9 := wall (show w.heap.size ≤ g9 ∧ w1.heap.size ≤ g9 from by
    rw [← hg9]
    exact ⟨HB3.out.size, by have := HL3.out.ms.mm.lt; have := HL3.out.ms.hm; omega⟩)
  rw [hg9] at HK5 HLT ⊢
  clear K4 F4 H4e H4b K5 F5 HA hb5 HIN HZR HL3 HB3 hg9 hN
  try simp only [Act.put, List.setIfInBounds_toArray, List.set_cons_zero, List.set_cons_succ]
  go_wp2_with fail
  go_loopg [11] 5 (fun gg s11 wr => ∃ i : Nat, i + gg = 5 ∧ s11 = .int .i64 (i : Int) ∧ ∃ c : Cr, Wall c.Ok ∧ Wall (Blk wr g9 34 (crC c)) ∧ Wall (Ly wr w1.heap.size g m b1 b2 b4 v 0 q (splice z4k 0 q)) ∧ Wall (Below w.heap.size w wr))
  case atStart => exact ⟨0, by omega, rfl, c0, HOK, HK5, HL5, HB5⟩
  case round =>
    obtain ⟨i, hg, rfl, c, HCO, HK, HL, HB⟩ := hrel
    clear HK5 HL5 HB5 HOK
    have HGK := wall hg
    have hi : i ≤ 5 := by omega
    clear hg
    by_cases hlt : i < 5
    · have hlt' : (i : Int) < 5 := by omega
      have HST := wall (step_held c HCO.out g wr (HS.out.old HB.out) HL.out.lts.1 (by have := HL.out.sp.st; rw [HL.out.vs] at this; exact this))
      unfold StepOut at HST
      have HC' := wall (show (trapC (c.time false) (heldC c) (c.g 32)).Ok from Cr.Ok.trap (HCO.out.time false) (by unfold heldC; split <;> decide) (HCO.out.g 32))
      have HTR := wall (trap_regs c (heldC c) (c.g 32))
      obtain ⟨c', hc'⟩ : ∃ y, trapC (c.time false) (heldC c) (c.g 32) = y := ⟨_, rfl⟩
      rw [hc'] at HST HC' HTR
      have HVV := wall (show (Tryd.prog.info? 44).map (·.size) = some (evC true (heldC c) zIn 0 none 0 0).size ∧ E.size = (evC true (heldC c) zIn 0 none 0 0).size ∧ (evC true (heldC c) zIn 0 none 0 0).all (·.oneCell') = true ∧ (evC true (heldC c) zIn 0 none 0 0)[0]? = some (.bool true) from ⟨ev_info, by rw [← hE]; rfl, evC_one _ _ _ _ _ _ _, rfl⟩)
      have HSZ := wall (show (Tryd.prog.info? 34).map (·.size) = some (crC c).size ∧ (Tryd.prog.info? 34).map (·.size) = some (crC c').size ∧ Z.size = (crC c').size ∧ (crC c').all (·.oneCell') = true ∧ (crC c).size = (crC c').size from ⟨by rw [crC_size HCO.out]; exact cr_info, by rw [crC_size HC'.out]; exact cr_info, by rw [← hZ, crC_size HC'.out, crC_size crZ_ok], crC_one _, by rw [crC_size HCO.out, crC_size HC'.out]⟩)
      have HRG := wall (fun (W : World) (b : Nat) (h : Blk W b 34 (crC c)) => regs_range h HCO.out)
      have HRG' := wall (fun (W : World) (b : Nat) (h : Blk W b 34 (crC c')) => regs_range h HC'.out)
      have HXI := wall (show (Tryd.prog.info? 30).map (·.size) = some (x32 (c.l.take 32)).length by
        rw [show (x32 (c.l.take 32)).length = 32 by simp only [x32, List.length_map]; exact regs_len HCO.out]
        kernel_rfl)
      have heq := fun W => eq_same W 30 (c.l.take 32) (regs_len HCO.out) Tryd.underlying30
      rw [HTR.out] at HRG'
      obtain ⟨XL, hXL⟩ : ∃ y, x32 (c.l.take 32) = y := ⟨_, rfl⟩
      rw [hXL] at HRG HRG' HXI
      simp only [hXL] at heq
      obtain ⟨D, hD⟩ : ∃ y, crC c = y := ⟨_, rfl⟩
      obtain ⟨D', hD'⟩ : ∃ y, crC c' = y := ⟨_, rfl⟩
      obtain ⟨V, hV⟩ : ∃ y, evC true (heldC c) zIn 0 none 0 0 = y := ⟨_, rfl⟩
      have HD' := wall hD'
      rw [hD] at HST HSZ HRG HK
      rw [hD'] at HST HSZ HRG'
      rw [hV] at HST HVV
      have HEQ := wall heq
      clear hc' hXL hD hD' hV heq HTR
      go_wp2_with (refine wpList_load_row rfl 34 _ rfl g9 rfl 34 D (0, 0) _ HK.out Tryd.underlying34 rfl HSZ.out.1 ?_)
      (with_reducible refine (HST.out).mono ?_); rintro e w6 ⟨rfl, hB6⟩
      have HK6 := wall (HK.out.next hB6 rfl)
      have HL6 := wall (HL.out.old hB6)
      have HB6 := wall (below_then HB.out hB6 (Nat.le_refl _))
      have H96 := wall (show g9 < w6.heap.size from HK6.out.lt)
      clear hB6 HST HK HL HB
      try simp only [Act.put, List.setIfInBounds_toArray, List.set_cons_zero, List.set_cons_succ]
      have HA := wall (show Blk ((w6.alloc (.cells Z 34)).alloc (.cells E 44)) w6.heap.size 34 Z ∧ Blk ((w6.alloc (.cells Z 34)).alloc (.cells E 44)) (w6.heap.size + 1) 44 E ∧ Below w6.heap.size w6 ((w6.alloc (.cells Z 34)).alloc (.cells E 44)) from ⟨(Blk.new _ _ _).alloc _, blk_new' (by simp), ((Below.refl _ w6).alloc (Nat.le_refl _) _).alloc (by simp) _⟩)
      go_upto_region 9 with (first | refine Big.wpList_alloc_at rfl 34 rfl Z HZ.out w6.heap.size rfl ?_ | refine Big.wpList_alloc_at rfl 44 rfl E HE.out (w6.heap.size + 1) (by simp) ?_ | (refine wpList_set_row rfl 34 (.tmp 12) (.tmp 35) rfl w6.heap.size D' rfl rfl 34 Z HA.out.1 HSZ.out.2.1 HSZ.out.2.2.1 HSZ.out.2.2.2.1 ?_; intro w7 K7 F7; have H7e := wall (HA.out.2.1.frm F7.out (by simp)); have H7b := wall (Below.frm HA.out.2.2 F7.out (Nat.le_refl _) (by simp))) | (refine wpList_set_row rfl 44 (.tmp 13) (.tmp 36) rfl (w6.heap.size + 1) V rfl rfl 44 E H7e.out HVV.out.1 HVV.out.2.1 HVV.out.2.2.1 ?_; intro w8 K8 F8))
      have hb8 := Below.frm H7b.out F8.out (Nat.le_refl _) (by simp)
      have HK8 := wall (HK6.out.next hb8 rfl)
      have HL8 := wall (HL6.out.old hb8)
      have HB8 := wall (below_then HB6.out hb8 (Nat.le_refl _))
      have HN8 := wall (K7.out.frm F8.out (by simp))
      have kv0 : w8.cell? ⟨w6.heap.size + 1, 0, none⟩ = some (.bool true) := by rw [K8.out.cell]; exact HVV.out.2.2.2
      have hr1 := wall (HRG.out w8 g9 HK8.out)
      have hr2 := wall (HRG'.out w8 w6.heap.size HN8.out)
      have heq := HEQ.out
      clear K7 F7 H7e H7b K8 F8 HA hb8 HK6 HL6 HB6 HRG HRG' HEQ
      try simp only [Act.put, List.setIfInBounds_toArray, List.set_cons_zero, List.set_cons_succ]
      go_upto_region 11 with (first | refine load_mid_g (by rfl) 30 _ rfl w6.heap.size 0 rfl XL _ hr2.out Tryd.underlying30 rfl HXI.out ?_ | refine load_mid_g (by rfl) 30 _ rfl g9 0 rfl XL _ hr1.out Tryd.underlying30 rfl HXI.out ?_)
      clear heq kv0
      go_wp2_with (first | refine wpList_load_row rfl 34 _ rfl w6.heap.size rfl 34 D' (0, 0) _ HN8.out Tryd.underlying34 rfl HSZ.out.2.1 ?_ | (refine wpList_set_row rfl 34 (.tmp 9) (.tmp 47) rfl g9 D' rfl rfl 34 D HK8.out HSZ.out.2.1 HSZ.out.2.2.2.2 HSZ.out.2.2.2.1 ?_; intro w9 K9 F9))
      have HK9 := wall (show Blk w9 g9 34 (crC c') by rw [HD'.out]; exact K9.out)
      have HL9 := wall (HL8.out.frm F9.out HLT.out)
      have HB9 := wall (Below.frm HB8.out F9.out (Nat.le_refl _) (by simp; exact HG9.out.1))
      clear K9 F9 HK8 HL8 HB8 HN8
      go_light
      go_roundg (5 - (i + 1))
      case measure => have := HGK.out; omega
      case rel => exact ⟨i + 1, by have := HGK.out; omega, by go_num, c', HC', HK9, HL9, HB9⟩
    · obtain rfl : i = 5 := by omega
      have HME := wall (memory_any g m b1 b2 b4 v (splice z4k 0 q) z4k z64 wr HL.out.ok HL.out.sp HL.out.ms.mm (by rw [HL.out.vr]; exact ram_take HPL.out.1) (by rw [HL.out.vr]; exact ram_drop HPL.out.1) HL.out.vp)
      unfold TrueB at HME
      clear HK HL HCO
      go_wp2_with fail
      (with_reducible refine (HME.out).mono ?_); rintro e w6 ⟨rfl, hB6⟩
      have HB6 := wall (below_then HB.out hB6 (Nat.le_refl _))
      clear hB6 HME
      try simp only [Act.put, List.setIfInBounds_toArray, List.set_cons_zero, List.set_cons_succ]
      go_wp2_with fail
      go_light
      go_ret
      exact ⟨rfl, HB6.out⟩
end Core
end Go.Proofs.YtfiojpdkbckopaaDoor
