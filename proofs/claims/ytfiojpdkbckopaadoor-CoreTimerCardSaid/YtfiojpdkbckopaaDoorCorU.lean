/-
  A core does single instructions (written by wip/gendo.py).
-/
import Derived.Test.YtfiojpdkbckopaaDoorCorF
import Derived.Test.YtfiojpdkbckopaaDoorCorR
import Derived.Test.YtfiojpdkbckopaaDoorJ45a3a83e
import Derived.Test.YtfiojpdkbckopaaDoorJc6ca3112
import Derived.Deep.CutBlock
set_option linter.unusedSimpArgs false
set_option linter.unusedVariables false
namespace Go.Proofs.YtfiojpdkbckopaaDoor
open Go.RowKit

namespace Core
open Otp Sha Rv Grant Spc
set_option maxRecDepth 100000 in
set_option maxHeartbeats 4000000 in
theorem do_mret (c : Cr) (hc : c.Ok) (s : Value) (rd a b imm csr : Nat) (v : Int) (w : World) (ha : a < 32) (hb : b < 32) :
    Calls Tryd.prog 30 #[.agg (crC c), s, .agg (inC ⟨41, rd, a, b, imm, csr⟩), .int .u32 v] w (StepOut (retC c) (evC false 0 ⟨41, rd, a, b, imm, csr⟩ 0 none 0 0) w) := by
  have HC := wall hc
  have HR := wall (And.intro ha hb)
  have HZ := wall cr_zero
  have HE := wall ev_zero
  have HF := wall (Fn.new w c (inC ⟨41, rd, a, b, imm, csr⟩))
  obtain ⟨C, hC⟩ : ∃ y, crC c = y := ⟨_, rfl⟩
  obtain ⟨Z, hZ⟩ : ∃ y, crC crZ = y := ⟨_, rfl⟩
  obtain ⟨E, hE⟩ : ∃ y, evZ = y := ⟨_, rfl⟩
  obtain ⟨I, hI⟩ : ∃ y, inC ⟨41, rd, a, b, imm, csr⟩ = y := ⟨_, rfl⟩
  have HI := wall hI
  rw [hC, hZ, hE, hI] at HF
  rw [hZ] at HZ
  rw [hE] at HE
  rw [hC, hI]
  clear hc ha hb hC
  go_enter Tryd.func30, Tryd.ntmps30
  go_upto_region 1 with (first | refine Big.wpList_alloc_at rfl 34 rfl Z HZ.out (w.heap.size + 2) (by simp) ?_ | refine Big.wpList_alloc_at rfl 44 rfl E HE.out (w.heap.size + 3) (by simp) ?_)
  try simp only [Act.put, List.setIfInBounds_toArray, List.set_cons_zero, List.set_cons_succ]
  refine wp_fn w c I HF.out ?_
  intro w1 h1
  have H1 := wall h1
  have ka : w1.cell? ⟨w.heap.size + 1, 2, none⟩ = some (.int .u8 (a : Int)) := by rw [h1.i.cell, ← hI]; rfl
  have kb : w1.cell? ⟨w.heap.size + 1, 3, none⟩ = some (.int .u8 (b : Int)) := by rw [h1.i.cell, ← hI]; rfl
  have ha32 : a < 32 := HR.out.1
  have hb32 : b < 32 := HR.out.2
  have kxa := h1.cell HC.out (show a < 41 by omega)
  have kxb := h1.cell HC.out (show b < 41 by omega)
  have hl1 : w.heap.size + 1 < w1.heap.size := h1.i.lt
  have hl0 : w.heap.size < w1.heap.size := by omega
  clear h1 HF
  go_wp2_with fail
  refine RelG.wp_region_rel 12 [] (by kernel_rfl) (by kernel_rfl) ?_
  simp only [List.take_succ_cons, List.take_zero, List.drop_succ_cons, List.drop_zero, Act.put, List.setIfInBounds_toArray, List.set_cons_zero, List.set_cons_succ]
  repeat (first | (refine RelG.tree_quiet rfl rfl rfl (fun K hK => ?_); go_big_quiet_op; refine hK _ ?_; clear hK K) | (refine RelG.tree_pure rfl rfl rfl (.int .u8 (a : Int)) (fun W hW _ => Rel.exec_load1 _ _ rfl (w.heap.size + 1) (2) rfl _ (fun _ => by kernel_rfl) ((hW.undrew.cell (p := ⟨w.heap.size + 1, 2, none⟩) hl1).trans ka)) ?_; simp only [Act.put, List.setIfInBounds_toArray, List.set_cons_zero, List.set_cons_succ]) | (refine RelG.tree_pure rfl rfl rfl (.int .u32 ((c.g a : Nat) : Int)) (fun W hW _ => Rel.exec_load1 _ _ rfl (w.heap.size) (a) rfl _ (fun _ => by kernel_rfl) ((hW.undrew.cell (p := ⟨w.heap.size, a, none⟩) hl0).trans kxa)) ?_; simp only [Act.put, List.setIfInBounds_toArray, List.set_cons_zero, List.set_cons_succ]) | (refine RelG.tree_pure rfl rfl rfl (.int .u8 (b : Int)) (fun W hW _ => Rel.exec_load1 _ _ rfl (w.heap.size + 1) (3) rfl _ (fun _ => by kernel_rfl) ((hW.undrew.cell (p := ⟨w.heap.size + 1, 3, none⟩) hl1).trans kb)) ?_; simp only [Act.put, List.setIfInBounds_toArray, List.set_cons_zero, List.set_cons_succ]) | (refine RelG.tree_pure rfl rfl rfl (.int .u32 ((c.g b : Nat) : Int)) (fun W hW _ => Rel.exec_load1 _ _ rfl (w.heap.size) (b) rfl _ (fun _ => by kernel_rfl) ((hW.undrew.cell (p := ⟨w.heap.size, b, none⟩) hl0).trans kxb)) ?_; simp only [Act.put, List.setIfInBounds_toArray, List.set_cons_zero, List.set_cons_succ]))
  intro W hW _
  have HW := wall (H1.out.next hW.undrew)
  have kop : W.cell? ⟨w.heap.size + 1, 0, none⟩ = some (.int .u8 41) := by rw [HW.out.i.cell, ← hI]; rfl
  clear hW ka kb kxa kxb H1 hl0 hl1 ha32 hb32
  obtain ⟨xa, hxa⟩ : ∃ y, c.g a = y := ⟨_, rfl⟩
  obtain ⟨xb, hxb⟩ : ∃ y, c.g b = y := ⟨_, rfl⟩
  rw [hxa, hxb]
  have HXA := wall hxa
  have HXB := wall hxb
  clear hxa hxb
  have HNX := wall (fun W => ret_any c HC.out ⟨41, rd, a, b, imm, csr⟩ W)
  unfold StepOut at HNX
  have HCN := wall (show (retC c).Ok from HC.out.ret)
  have HSI := wall (show (Tryd.prog.info? 34).map (·.size) = some (crC c).size ∧ (Tryd.prog.info? 42).map (·.size) = some I.size from ⟨by rw [crC_size HC.out]; exact cr_info, by rw [← HI.out]; exact in_info⟩)
  have HS7 := wall (show (Tryd.prog.info? 34).map (·.size) = some (crC (retC c)).size ∧ Z.size = (crC (retC c)).size ∧ (crC (retC c)).all (·.oneCell') = true from
    ⟨by rw [crC_size HCN.out]; exact cr_info, by rw [← hZ, crC_size HCN.out, crC_size crZ_ok], crC_one _⟩)
  have HEI := wall (show (Tryd.prog.info? 44).map (·.size) = some (evC false 0 ⟨41, rd, a, b, imm, csr⟩ 0 none 0 0).size ∧ E.size = (evC false 0 ⟨41, rd, a, b, imm, csr⟩ 0 none 0 0).size ∧ (evC false 0 ⟨41, rd, a, b, imm, csr⟩ 0 none 0 0).all (·.oneCell') = true from ⟨ev_info, by rw [← hE]; rfl, evC_one _ _ _ _ _ _ _⟩)
  rw [HI.out] at HNX
  obtain ⟨D, hD⟩ : ∃ z, crC c = z := ⟨_, rfl⟩
  obtain ⟨D2, hD2⟩ : ∃ z, crC (retC c) = z := ⟨_, rfl⟩
  obtain ⟨V, hV⟩ : ∃ z, (evC false 0 ⟨41, rd, a, b, imm, csr⟩ 0 none 0 0) = z := ⟨_, rfl⟩
  have HD2 := wall hD2
  have HVV := wall hV
  rw [hD] at HSI HNX
  rw [hD2] at HNX HS7
  rw [hV] at HNX HEI
  have HWB := wall (show Blk W w.heap.size 34 D ∧ Blk W (w.heap.size + 1) 42 I from ⟨by rw [← hD]; exact HW.out.c, HW.out.i⟩)
  clear hD2 hV
  go_wp2_with (first | refine wpList_load_row rfl 34 _ rfl w.heap.size rfl 34 D (0, 0) _ HWB.out.1 Tryd.underlying34 rfl HSI.out.1 ?_ | refine wpList_load_row rfl 42 _ rfl (w.heap.size + 1) rfl 42 I (0, 0) _ HWB.out.2 Tryd.underlying42 rfl HSI.out.2 ?_)
  (with_reducible refine (HNX.out _).mono ?_); rintro e w5 ⟨rfl, hB5⟩
  have H5 := wall (HW.out.next hB5)
  have H5o := wall (show Blk w5 (w.heap.size + 2) 34 Z by rw [← hZ]; exact H5.out.o)
  have H5e := wall (show Blk w5 (w.heap.size + 3) 44 E by rw [← hE]; exact H5.out.e)
  have H5b := wall H5.out.bel
  clear hB5 HW HWB HNX H5
  try simp only [Act.put, List.setIfInBounds_toArray, List.set_cons_zero, List.set_cons_succ]
  go_wp2_with (first | (refine wpList_set_row rfl 34 (.tmp 8) (.tmp 169) rfl (w.heap.size + 2) D2 rfl rfl 34 Z H5o.out HS7.out.1 HS7.out.2.1 HS7.out.2.2 ?_; intro w6 K6 F6; have H6e := wall (H5e.out.frm F6.out (by simp)); have H6b := wall (Below.frm H5b.out F6.out (Nat.le_refl _) (by simp))) | (refine wpList_set_row rfl 44 (.tmp 9) (.tmp 170) rfl (w.heap.size + 3) V rfl rfl 44 E H6e.out HEI.out.1 HEI.out.2.1 HEI.out.2.2 ?_; intro w7 K7 F7))
  have K7o := wall (K6.out.frm F7.out (by simp))
  have HB7 := wall (Below.frm H6b.out F7.out (Nat.le_refl _) (by simp))
  go_light
  exact bodyPost_ret (v := .tuple #[.agg D2, .agg V]) (results_two Tryd.results30 _ _ (w.heap.size + 2) (w.heap.size + 3) 34 44 D2 V _ _ rfl rfl K7o.out K7.out Tryd.underlying34 rfl HS7.out.1 Tryd.underlying44 rfl HEI.out.1) rfl ⟨by rw [HD2.out, HVV.out], HB7.out⟩
set_option maxRecDepth 100000 in
set_option maxHeartbeats 4000000 in
theorem do_ebreak (c : Cr) (hc : c.Ok) (s : Value) (rd a b imm csr : Nat) (v : Int) (w : World) (ha : a < 32) (hb : b < 32) :
    Calls Tryd.prog 30 #[.agg (crC c), s, .agg (inC ⟨40, rd, a, b, imm, csr⟩), .int .u32 v] w (StepOut (trapC c 3 (c.g 32)) (evC true 3 zIn 0 none 0 0) w) := by
  have HC := wall hc
  have HR := wall (And.intro ha hb)
  have HZ := wall cr_zero
  have HE := wall ev_zero
  have HF := wall (Fn.new w c (inC ⟨40, rd, a, b, imm, csr⟩))
  obtain ⟨C, hC⟩ : ∃ y, crC c = y := ⟨_, rfl⟩
  obtain ⟨Z, hZ⟩ : ∃ y, crC crZ = y := ⟨_, rfl⟩
  obtain ⟨E, hE⟩ : ∃ y, evZ = y := ⟨_, rfl⟩
  obtain ⟨I, hI⟩ : ∃ y, inC ⟨40, rd, a, b, imm, csr⟩ = y := ⟨_, rfl⟩
  have HI := wall hI
  rw [hC, hZ, hE, hI] at HF
  rw [hZ] at HZ
  rw [hE] at HE
  rw [hC, hI]
  clear hc ha hb hC
  go_enter Tryd.func30, Tryd.ntmps30
  go_upto_region 1 with (first | refine Big.wpList_alloc_at rfl 34 rfl Z HZ.out (w.heap.size + 2) (by simp) ?_ | refine Big.wpList_alloc_at rfl 44 rfl E HE.out (w.heap.size + 3) (by simp) ?_)
  try simp only [Act.put, List.setIfInBounds_toArray, List.set_cons_zero, List.set_cons_succ]
  refine wp_fn w c I HF.out ?_
  intro w1 h1
  have H1 := wall h1
  have ka : w1.cell? ⟨w.heap.size + 1, 2, none⟩ = some (.int .u8 (a : Int)) := by rw [h1.i.cell, ← hI]; rfl
  have kb : w1.cell? ⟨w.heap.size + 1, 3, none⟩ = some (.int .u8 (b : Int)) := by rw [h1.i.cell, ← hI]; rfl
  have ha32 : a < 32 := HR.out.1
  have hb32 : b < 32 := HR.out.2
  have kxa := h1.cell HC.out (show a < 41 by omega)
  have kxb := h1.cell HC.out (show b < 41 by omega)
  have hl1 : w.heap.size + 1 < w1.heap.size := h1.i.lt
  have hl0 : w.heap.size < w1.heap.size := by omega
  clear h1 HF
  go_wp2_with fail
  refine RelG.wp_region_rel 12 [] (by kernel_rfl) (by kernel_rfl) ?_
  simp only [List.take_succ_cons, List.take_zero, List.drop_succ_cons, List.drop_zero, Act.put, List.setIfInBounds_toArray, List.set_cons_zero, List.set_cons_succ]
  repeat (first | (refine RelG.tree_quiet rfl rfl rfl (fun K hK => ?_); go_big_quiet_op; refine hK _ ?_; clear hK K) | (refine RelG.tree_pure rfl rfl rfl (.int .u8 (a : Int)) (fun W hW _ => Rel.exec_load1 _ _ rfl (w.heap.size + 1) (2) rfl _ (fun _ => by kernel_rfl) ((hW.undrew.cell (p := ⟨w.heap.size + 1, 2, none⟩) hl1).trans ka)) ?_; simp only [Act.put, List.setIfInBounds_toArray, List.set_cons_zero, List.set_cons_succ]) | (refine RelG.tree_pure rfl rfl rfl (.int .u32 ((c.g a : Nat) : Int)) (fun W hW _ => Rel.exec_load1 _ _ rfl (w.heap.size) (a) rfl _ (fun _ => by kernel_rfl) ((hW.undrew.cell (p := ⟨w.heap.size, a, none⟩) hl0).trans kxa)) ?_; simp only [Act.put, List.setIfInBounds_toArray, List.set_cons_zero, List.set_cons_succ]) | (refine RelG.tree_pure rfl rfl rfl (.int .u8 (b : Int)) (fun W hW _ => Rel.exec_load1 _ _ rfl (w.heap.size + 1) (3) rfl _ (fun _ => by kernel_rfl) ((hW.undrew.cell (p := ⟨w.heap.size + 1, 3, none⟩) hl1).trans kb)) ?_; simp only [Act.put, List.setIfInBounds_toArray, List.set_cons_zero, List.set_cons_succ]) | (refine RelG.tree_pure rfl rfl rfl (.int .u32 ((c.g b : Nat) : Int)) (fun W hW _ => Rel.exec_load1 _ _ rfl (w.heap.size) (b) rfl _ (fun _ => by kernel_rfl) ((hW.undrew.cell (p := ⟨w.heap.size, b, none⟩) hl0).trans kxb)) ?_; simp only [Act.put, List.setIfInBounds_toArray, List.set_cons_zero, List.set_cons_succ]))
  intro W hW _
  have HW := wall (H1.out.next hW.undrew)
  have kop : W.cell? ⟨w.heap.size + 1, 0, none⟩ = some (.int .u8 40) := by rw [HW.out.i.cell, ← hI]; rfl
  clear hW ka kb kxa kxb H1 hl0 hl1 ha32 hb32
  obtain ⟨xa, hxa⟩ : ∃ y, c.g a = y := ⟨_, rfl⟩
  obtain ⟨xb, hxb⟩ : ∃ y, c.g b = y := ⟨_, rfl⟩
  rw [hxa, hxb]
  have HXA := wall hxa
  have HXB := wall hxb
  clear hxa hxb
  have HNX := wall (fun W => show Calls Tryd.prog 27 #[.agg (crC c), .int .u32 3, .int .u32 ((c.g 32 : Nat) : Int)] W (StepOut (trapC c 3 (c.g 32)) (evC true 3 zIn 0 none 0 0) W) from trap_any c HC.out 3 (c.g 32) W (by decide) (HC.out.g 32))
  unfold StepOut at HNX
  have HCN := wall (show (trapC c 3 (c.g 32)).Ok from Cr.Ok.trap HC.out (by decide) (HC.out.g 32))
  have HSI := wall (show (Tryd.prog.info? 34).map (·.size) = some (crC c).size ∧ (Tryd.prog.info? 42).map (·.size) = some I.size from ⟨by rw [crC_size HC.out]; exact cr_info, by rw [← HI.out]; exact in_info⟩)
  have HS7 := wall (show (Tryd.prog.info? 34).map (·.size) = some (crC (trapC c 3 (c.g 32))).size ∧ Z.size = (crC (trapC c 3 (c.g 32))).size ∧ (crC (trapC c 3 (c.g 32))).all (·.oneCell') = true from
    ⟨by rw [crC_size HCN.out]; exact cr_info, by rw [← hZ, crC_size HCN.out, crC_size crZ_ok], crC_one _⟩)
  have HEI := wall (show (Tryd.prog.info? 44).map (·.size) = some (evC true 3 zIn 0 none 0 0).size ∧ E.size = (evC true 3 zIn 0 none 0 0).size ∧ (evC true 3 zIn 0 none 0 0).all (·.oneCell') = true from ⟨ev_info, by rw [← hE]; rfl, evC_one _ _ _ _ _ _ _⟩)
  obtain ⟨D, hD⟩ : ∃ z, crC c = z := ⟨_, rfl⟩
  obtain ⟨D2, hD2⟩ : ∃ z, crC (trapC c 3 (c.g 32)) = z := ⟨_, rfl⟩
  obtain ⟨V, hV⟩ : ∃ z, (evC true 3 zIn 0 none 0 0) = z := ⟨_, rfl⟩
  have HD2 := wall hD2
  have HVV := wall hV
  rw [hD] at HSI HNX
  rw [hD2] at HNX HS7
  rw [hV] at HNX HEI
  have HWB := wall (show Blk W w.heap.size 34 D ∧ Blk W (w.heap.size + 1) 42 I from ⟨by rw [← hD]; exact HW.out.c, HW.out.i⟩)
  have k32 := HW.out.cell HC.out (show 32 < 41 by decide)
  clear hD2 hV
  go_wp2_with (first | refine wpList_load_row rfl 34 _ rfl w.heap.size rfl 34 D (0, 0) _ HWB.out.1 Tryd.underlying34 rfl HSI.out.1 ?_ | refine wpList_load_row rfl 42 _ rfl (w.heap.size + 1) rfl 42 I (0, 0) _ HWB.out.2 Tryd.underlying42 rfl HSI.out.2 ?_)
  (with_reducible refine (HNX.out _).mono ?_); rintro e w5 ⟨rfl, hB5⟩
  have H5 := wall (HW.out.next hB5)
  have H5o := wall (show Blk w5 (w.heap.size + 2) 34 Z by rw [← hZ]; exact H5.out.o)
  have H5e := wall (show Blk w5 (w.heap.size + 3) 44 E by rw [← hE]; exact H5.out.e)
  have H5b := wall H5.out.bel
  clear hB5 HW HWB HNX H5
  try simp only [Act.put, List.setIfInBounds_toArray, List.set_cons_zero, List.set_cons_succ]
  go_wp2_with (first | (refine wpList_set_row rfl 34 (.tmp 8) (.tmp 160) rfl (w.heap.size + 2) D2 rfl rfl 34 Z H5o.out HS7.out.1 HS7.out.2.1 HS7.out.2.2 ?_; intro w6 K6 F6; have H6e := wall (H5e.out.frm F6.out (by simp)); have H6b := wall (Below.frm H5b.out F6.out (Nat.le_refl _) (by simp))) | (refine wpList_set_row rfl 44 (.tmp 9) (.tmp 161) rfl (w.heap.size + 3) V rfl rfl 44 E H6e.out HEI.out.1 HEI.out.2.1 HEI.out.2.2 ?_; intro w7 K7 F7))
  have K7o := wall (K6.out.frm F7.out (by simp))
  have HB7 := wall (Below.frm H6b.out F7.out (Nat.le_refl _) (by simp))
  go_light
  exact bodyPost_ret (v := .tuple #[.agg D2, .agg V]) (results_two Tryd.results30 _ _ (w.heap.size + 2) (w.heap.size + 3) 34 44 D2 V _ _ rfl rfl K7o.out K7.out Tryd.underlying34 rfl HS7.out.1 Tryd.underlying44 rfl HEI.out.1) rfl ⟨by rw [HD2.out, HVV.out], HB7.out⟩
set_option maxRecDepth 100000 in
set_option maxHeartbeats 4000000 in
theorem do_ecall (c : Cr) (hc : c.Ok) (s : Value) (rd a b imm csr : Nat) (v : Int) (w : World) (ha : a < 32) (hb : b < 32) :
    Calls Tryd.prog 30 #[.agg (crC c), s, .agg (inC ⟨39, rd, a, b, imm, csr⟩), .int .u32 v] w (StepOut (trapC c 11 0) (evC true 11 zIn 0 none 0 0) w) := by
  have HC := wall hc
  have HR := wall (And.intro ha hb)
  have HZ := wall cr_zero
  have HE := wall ev_zero
  have HF := wall (Fn.new w c (inC ⟨39, rd, a, b, imm, csr⟩))
  obtain ⟨C, hC⟩ : ∃ y, crC c = y := ⟨_, rfl⟩
  obtain ⟨Z, hZ⟩ : ∃ y, crC crZ = y := ⟨_, rfl⟩
  obtain ⟨E, hE⟩ : ∃ y, evZ = y := ⟨_, rfl⟩
  obtain ⟨I, hI⟩ : ∃ y, inC ⟨39, rd, a, b, imm, csr⟩ = y := ⟨_, rfl⟩
  have HI := wall hI
  rw [hC, hZ, hE, hI] at HF
  rw [hZ] at HZ
  rw [hE] at HE
  rw [hC, hI]
  clear hc ha hb hC
  go_enter Tryd.func30, Tryd.ntmps30
  go_upto_region 1 with (first | refine Big.wpList_alloc_at rfl 34 rfl Z HZ.out (w.heap.size + 2) (by simp) ?_ | refine Big.wpList_alloc_at rfl 44 rfl E HE.out (w.heap.size + 3) (by simp) ?_)
  try simp only [Act.put, List.setIfInBounds_toArray, List.set_cons_zero, List.set_cons_succ]
  refine wp_fn w c I HF.out ?_
  intro w1 h1
  have H1 := wall h1
  have ka : w1.cell? ⟨w.heap.size + 1, 2, none⟩ = some (.int .u8 (a : Int)) := by rw [h1.i.cell, ← hI]; rfl
  have kb : w1.cell? ⟨w.heap.size + 1, 3, none⟩ = some (.int .u8 (b : Int)) := by rw [h1.i.cell, ← hI]; rfl
  have ha32 : a < 32 := HR.out.1
  have hb32 : b < 32 := HR.out.2
  have kxa := h1.cell HC.out (show a < 41 by omega)
  have kxb := h1.cell HC.out (show b < 41 by omega)
  have hl1 : w.heap.size + 1 < w1.heap.size := h1.i.lt
  have hl0 : w.heap.size < w1.heap.size := by omega
  clear h1 HF
  go_wp2_with fail
  refine RelG.wp_region_rel 12 [] (by kernel_rfl) (by kernel_rfl) ?_
  simp only [List.take_succ_cons, List.take_zero, List.drop_succ_cons, List.drop_zero, Act.put, List.setIfInBounds_toArray, List.set_cons_zero, List.set_cons_succ]
  repeat (first | (refine RelG.tree_quiet rfl rfl rfl (fun K hK => ?_); go_big_quiet_op; refine hK _ ?_; clear hK K) | (refine RelG.tree_pure rfl rfl rfl (.int .u8 (a : Int)) (fun W hW _ => Rel.exec_load1 _ _ rfl (w.heap.size + 1) (2) rfl _ (fun _ => by kernel_rfl) ((hW.undrew.cell (p := ⟨w.heap.size + 1, 2, none⟩) hl1).trans ka)) ?_; simp only [Act.put, List.setIfInBounds_toArray, List.set_cons_zero, List.set_cons_succ]) | (refine RelG.tree_pure rfl rfl rfl (.int .u32 ((c.g a : Nat) : Int)) (fun W hW _ => Rel.exec_load1 _ _ rfl (w.heap.size) (a) rfl _ (fun _ => by kernel_rfl) ((hW.undrew.cell (p := ⟨w.heap.size, a, none⟩) hl0).trans kxa)) ?_; simp only [Act.put, List.setIfInBounds_toArray, List.set_cons_zero, List.set_cons_succ]) | (refine RelG.tree_pure rfl rfl rfl (.int .u8 (b : Int)) (fun W hW _ => Rel.exec_load1 _ _ rfl (w.heap.size + 1) (3) rfl _ (fun _ => by kernel_rfl) ((hW.undrew.cell (p := ⟨w.heap.size + 1, 3, none⟩) hl1).trans kb)) ?_; simp only [Act.put, List.setIfInBounds_toArray, List.set_cons_zero, List.set_cons_succ]) | (refine RelG.tree_pure rfl rfl rfl (.int .u32 ((c.g b : Nat) : Int)) (fun W hW _ => Rel.exec_load1 _ _ rfl (w.heap.size) (b) rfl _ (fun _ => by kernel_rfl) ((hW.undrew.cell (p := ⟨w.heap.size, b, none⟩) hl0).trans kxb)) ?_; simp only [Act.put, List.setIfInBounds_toArray, List.set_cons_zero, List.set_cons_succ]))
  intro W hW _
  have HW := wall (H1.out.next hW.undrew)
  have kop : W.cell? ⟨w.heap.size + 1, 0, none⟩ = some (.int .u8 39) := by rw [HW.out.i.cell, ← hI]; rfl
  clear hW ka kb kxa kxb H1 hl0 hl1 ha32 hb32
  obtain ⟨xa, hxa⟩ : ∃ y, c.g a = y := ⟨_, rfl⟩
  obtain ⟨xb, hxb⟩ : ∃ y, c.g b = y := ⟨_, rfl⟩
  rw [hxa, hxb]
  have HXA := wall hxa
  have HXB := wall hxb
  clear hxa hxb
  have HNX := wall (fun W => show Calls Tryd.prog 27 #[.agg (crC c), .int .u32 11, .int .u32 0] W (StepOut (trapC c 11 0) (evC true 11 zIn 0 none 0 0) W) from trap_any c HC.out 11 0 W (by decide) (by decide))
  unfold StepOut at HNX
  have HCN := wall (show (trapC c 11 0).Ok from Cr.Ok.trap HC.out (by decide) (by decide))
  have HSI := wall (show (Tryd.prog.info? 34).map (·.size) = some (crC c).size ∧ (Tryd.prog.info? 42).map (·.size) = some I.size from ⟨by rw [crC_size HC.out]; exact cr_info, by rw [← HI.out]; exact in_info⟩)
  have HS7 := wall (show (Tryd.prog.info? 34).map (·.size) = some (crC (trapC c 11 0)).size ∧ Z.size = (crC (trapC c 11 0)).size ∧ (crC (trapC c 11 0)).all (·.oneCell') = true from
    ⟨by rw [crC_size HCN.out]; exact cr_info, by rw [← hZ, crC_size HCN.out, crC_size crZ_ok], crC_one _⟩)
  have HEI := wall (show (Tryd.prog.info? 44).map (·.size) = some (evC true 11 zIn 0 none 0 0).size ∧ E.size = (evC true 11 zIn 0 none 0 0).size ∧ (evC true 11 zIn 0 none 0 0).all (·.oneCell') = true from ⟨ev_info, by rw [← hE]; rfl, evC_one _ _ _ _ _ _ _⟩)
  obtain ⟨D, hD⟩ : ∃ z, crC c = z := ⟨_, rfl⟩
  obtain ⟨D2, hD2⟩ : ∃ z, crC (trapC c 11 0) = z := ⟨_, rfl⟩
  obtain ⟨V, hV⟩ : ∃ z, (evC true 11 zIn 0 none 0 0) = z := ⟨_, rfl⟩
  have HD2 := wall hD2
  have HVV := wall hV
  rw [hD] at HSI HNX
  rw [hD2] at HNX HS7
  rw [hV] at HNX HEI
  have HWB := wall (show Blk W w.heap.size 34 D ∧ Blk W (w.heap.size + 1) 42 I from ⟨by rw [← hD]; exact HW.out.c, HW.out.i⟩)
  clear hD2 hV
  go_wp2_with (first | refine wpList_load_row rfl 34 _ rfl w.heap.size rfl 34 D (0, 0) _ HWB.out.1 Tryd.underlying34 rfl HSI.out.1 ?_ | refine wpList_load_row rfl 42 _ rfl (w.heap.size + 1) rfl 42 I (0, 0) _ HWB.out.2 Tryd.underlying42 rfl HSI.out.2 ?_)
  (with_reducible refine (HNX.out _).mono ?_); rintro e w5 ⟨rfl, hB5⟩
  have H5 := wall (HW.out.next hB5)
  have H5o := wall (show Blk w5 (w.heap.size + 2) 34 Z by rw [← hZ]; exact H5.out.o)
  have H5e := wall (show Blk w5 (w.heap.size + 3) 44 E by rw [← hE]; exact H5.out.e)
  have H5b := wall H5.out.bel
  clear hB5 HW HWB HNX H5
  try simp only [Act.put, List.setIfInBounds_toArray, List.set_cons_zero, List.set_cons_succ]
  go_wp2_with (first | (refine wpList_set_row rfl 34 (.tmp 8) (.tmp 150) rfl (w.heap.size + 2) D2 rfl rfl 34 Z H5o.out HS7.out.1 HS7.out.2.1 HS7.out.2.2 ?_; intro w6 K6 F6; have H6e := wall (H5e.out.frm F6.out (by simp)); have H6b := wall (Below.frm H5b.out F6.out (Nat.le_refl _) (by simp))) | (refine wpList_set_row rfl 44 (.tmp 9) (.tmp 151) rfl (w.heap.size + 3) V rfl rfl 44 E H6e.out HEI.out.1 HEI.out.2.1 HEI.out.2.2 ?_; intro w7 K7 F7))
  have K7o := wall (K6.out.frm F7.out (by simp))
  have HB7 := wall (Below.frm H6b.out F7.out (Nat.le_refl _) (by simp))
  go_light
  exact bodyPost_ret (v := .tuple #[.agg D2, .agg V]) (results_two Tryd.results30 _ _ (w.heap.size + 2) (w.heap.size + 3) 34 44 D2 V _ _ rfl rfl K7o.out K7.out Tryd.underlying34 rfl HS7.out.1 Tryd.underlying44 rfl HEI.out.1) rfl ⟨by rw [HD2.out, HVV.out], HB7.out⟩
end Core
end Go.Proofs.YtfiojpdkbckopaaDoor
