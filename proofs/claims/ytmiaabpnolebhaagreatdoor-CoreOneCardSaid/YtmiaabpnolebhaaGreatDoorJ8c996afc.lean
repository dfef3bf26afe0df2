/-
  Texts of this claim, joined: CorS, CorI, CorR.
-/
import Derived.Test.YtmiaabpnolebhaaGreatDoorJc26eda1a
set_option maxHeartbeats 4000000
set_option maxRecDepth 100000
set_option linter.unusedSimpArgs false
set_option linter.unusedVariables false
namespace Go.Proofs.YtmiaabpnolebhaaGreatDoor
open Go.RowKit

namespace Core
open Otp Sha Rv
theorem ref_zero : (Tryz.prog.info? 74).bind (·.zero) = some (.agg (crC crZ)) := by kernel_rfl
theorem ref_built (pc : Nat) : Tryz.prog.built 74 [(1, .int .u32 (pc : Int))] = some (crC (newC pc)) := by kernel_rfl
theorem ref_info : (Tryz.prog.info? 74).map (·.size) = some 42 := by kernel_rfl
def regs (c : Cr) (xs : List Nat) : Nat → Cr
 | 0 => c
 | k + 1 => match xs[k]? with
  | some x => if k < 31 then (regs c xs k).set (k + 1) x else regs c xs k
  | none => regs c xs k
theorem regs_ok {c : Cr} (h : c.Ok) {xs : List Nat} (hx : ∀ (i x : Nat), xs[i]? = some x → x < 4294967296) : ∀ k, (regs c xs k).Ok
 | 0 => h
 | k + 1 => by
  unfold regs
  split
  ·rename_i x e
   split
   ·exact (regs_ok h hx k).set _ _ (hx _ _ e)
   ·exact regs_ok h hx k
  ·exact regs_ok h hx k
structure Fs (w w' : World) (g8 g9 : Nat) (c : Cr) : Prop where
 o : Blk w' w.heap.size 71 (crC crZ)
 p : Blk w' (w.heap.size + 1) 74 (crC crZ)
 kc : Blk w' g8 71 (crC c)
 kd : Blk w' g9 74 (crC c)
 bel : Below w.heap.size w w'
 h8 : w.heap.size + 1 < g8
 h9 : g8 < g9
theorem Fs.old {w w1 w2 : World} {g8 g9 : Nat} {c : Cr} (h : Fs w w1 g8 g9 c) (hb : Below w1.heap.size w1 w2) : Fs w w2 g8 g9 c :=
 ⟨h.o.next hb rfl, h.p.next hb rfl, h.kc.next hb rfl, h.kd.next hb rfl, below_then h.bel hb (Nat.le_refl _), h.h8, h.h9⟩
theorem wp_any {P : Program} {k : Code} {Q : Exit → Act → World → Prop} {a : Act} {w' : World} (R : World → Prop) (h1 : R w') (h : ∀ w8, R w8 → Code.wp P k Q a w8) : Code.wp P k Q a w' := h w' h1
def StartOut (c : Cr) (w : World) (e : Ending) (w' : World) : Prop := e = .returned (.tuple #[.agg (crC c), .agg (crC c)]) ∧ Below w.heap.size w w'
structure InD (i : In) : Prop where
 op : i.op < 57
 rd : i.rd < 32
 a : i.a < 32
 b : i.b < 32
 imm : i.imm < 4294967296
 csr : i.csr < 65536
def evO (t : Option Nat) (i : In) : Array Value := match t with
 | some k => evC true k zIn 0 none 0 0
 | none => evC false 0 i 0 none 0 0
theorem evo_row (t : Option Nat) (i : In) : (Tryz.prog.info? 78).map (·.size) = some (evO t i).size ∧ evZ.size = (evO t i).size ∧ (evO t i).all (·.oneCell') = true := by
 cases t with
 | none => exact ⟨ev_info, rfl, evC_one _ _ _ _ _ _ _⟩
 | some k => exact ⟨ev_info, rfl, evC_one _ _ _ _ _ _ _⟩
theorem res_row {c : Cr} (h : c.Ok) : (Tryz.prog.info? 71).map (·.size) = some (crC c).size ∧ (crC crZ).size = (crC c).size ∧ (crC c).all (·.oneCell') = true := ⟨by rw [crC_size h]; exact cr_info, by rw [crC_size h, crC_size crZ_ok], crC_one _⟩
def trR (c : Cr) (k v : Nat) : Cr × Option Nat := (trapC c k v, some k)
def landC (c : Cr) (rd tgt : Nat) : Cr := ((withC c rd ((c.g 32 + 4) % 4294967296)).set 32 tgt).set 40 (((withC c rd ((c.g 32 + 4) % 4294967296)).g 40 + 1) % 4294967296)
def jumpR (c : Cr) (rd tgt : Nat) : Cr × Option Nat := if tgt % 4 ≠ 0 then trR c 0 tgt else (landC c rd tgt, none)
theorem Cr.Ok.land {c : Cr} (h : c.Ok) (rd : Nat) {tgt : Nat} (ht : tgt < 4294967296) : (landC c rd tgt).Ok := ((h.with rd _ (by omega)).set 32 _ ht).set 40 _ (by omega)
theorem Cr.Ok.jump {c : Cr} (h : c.Ok) (rd : Nat) {tgt : Nat} (ht : tgt < 4294967296) : (jumpR c rd tgt).1.Ok := by
 unfold jumpR
 split
 ·exact Cr.Ok.trap h (by decide) ht
 ·exact h.land rd ht
theorem jump_any (c : Cr) (hc : c.Ok) (i : In) (tgt : Nat) (w : World) (hto : tgt < 4294967296) (hid : InD i) : Calls Tryz.prog 170 #[.agg (crC c), .agg (inC i), .int .u32 (tgt : Int)] w (StepOut (jumpR c i.rd tgt).1 (evO (jumpR c i.rd tgt).2 i) w) := by
 have HTO := wall hto
 have HID := wall hid
 clear hid
 have HJ := wall (show jumpR c i.rd tgt = if tgt % 4 ≠ 0 then trR c 0 tgt else (landC c i.rd tgt, none) from rfl)
 obtain ⟨J, hJ⟩ : ∃ J, jumpR c i.rd tgt = J := ⟨_, rfl⟩
 rw [hJ] at HJ ⊢
 clear hto hJ
 have HC := wall hc
 have HZ := wall cr_zero
 have HE := wall ev_zero
 have HF := wall (Fn.new w c (inC i))
 obtain ⟨C, hC⟩ : ∃ y, crC c = y := ⟨_, rfl⟩
 obtain ⟨Z, hZ⟩ : ∃ y, crC crZ = y := ⟨_, rfl⟩
 obtain ⟨E, hE⟩ : ∃ y, evZ = y := ⟨_, rfl⟩
 obtain ⟨I, hI⟩ : ∃ y, inC i = y := ⟨_, rfl⟩
 have HI := wall hI
 have HZE := wall (And.intro hZ hE)
 rw [hC, hZ, hE, hI] at HF
 rw [hZ] at HZ
 rw [hE] at HE
 rw [hC, hI]
 clear hc hC
 go_enter Tryz.func170, Tryz.ntmps170
 go_upto_region 1 with (first | refine Big.wpList_alloc_at rfl 71 rfl Z HZ.out (w.heap.size + 2) (by simp) ?_ | refine Big.wpList_alloc_at rfl 78 rfl E HE.out (w.heap.size + 3) (by simp) ?_)
 try simp only [Act.put, rpA, rpB, rpC]
 refine wp_fn w c I HF.out ?_
 intro w1 h1
 have H1 := wall h1
 clear h1 HF
 have HSI := wall (show (Tryz.prog.info? 71).map (·.size) = some (crC c).size ∧ (Tryz.prog.info? 54).map (·.size) = some I.size from ⟨(res_row HC.out).1, by rw [← HI.out]; exact in_info⟩)
 have HCB := wall (show Blk w1 w.heap.size 71 (crC c) from H1.out.c)
 have HIB := wall (show Blk w1 (w.heap.size + 1) 54 I from H1.out.i)
 obtain ⟨D, hD⟩ : ∃ z, crC c = z := ⟨_, rfl⟩
 have HDD := wall hD
 rw [hD] at HSI HCB
 by_cases hm : tgt % 4 = 0
 ·have hm1 : ((tgt : Int) % 4 != 0) = false := by rw [bne_eq_false_iff_eq]; omega
  have HJE := wall (show J.1 = landC c i.rd tgt ∧ J.2 = none by rw [HJ.out, if_neg (by simpa using hm)]; exact ⟨rfl, rfl⟩)
  clear hm HJ
  have HPC := wall (HC.out.g 32)
  have k32 := H1.out.cell HC.out (show 32 < 41 by decide)
  have kr : w1.cell? ⟨w.heap.size + 1, 1, none⟩ = some (.int .u8 (i.rd : Int)) := by rw [H1.out.i.cell, ← hI]; rfl
  have hrd : i.rd < 32 := HID.out.rd
  have hv : ((c.g 32 : Nat) : Int) + 4 = ((c.g 32 + 4 : Nat) : Int) := by simp
  obtain ⟨v, hvv⟩ : ∃ v, (c.g 32 + 4) % 4294967296 = v := ⟨_, rfl⟩
  have hvi : (((c.g 32 : Nat) : Int) + 4) % 4294967296 = (v : Int) := by omega
  have HWI := wall (fun W => with_any c HC.out (i.rd : Int) i.rd v W rfl (by omega))
  unfold CrOut at HWI
  have HL := wall (show landC c i.rd tgt = ((withC c i.rd v).set 32 tgt).set 40 (((withC c i.rd v).g 40 + 1) % 4294967296) by unfold landC; rw [hvv])
  have HC1 := wall (HC.out.with i.rd v (by omega))
  obtain ⟨c1, hc1⟩ : ∃ y, withC c i.rd v = y := ⟨_, rfl⟩
  rw [hc1] at HWI HL HC1
  have HRW := wall (res_row HC1.out)
  have HDZ := wall (show D.size = (crC c1).size by rw [← HDD.out, crC_size HC.out, crC_size HC1.out])
  obtain ⟨D1, hD1⟩ : ∃ z, crC c1 = z := ⟨_, rfl⟩
  have HD1 := wall hD1
  rw [hD1] at HWI HRW HDZ
  rw [HDD.out] at HWI
  clear hv hvv hc1 hD1
  go_wp2_with (first | refine wpList_load_row rfl 71 _ rfl w.heap.size rfl 71 D (0, 0) _ HCB.out Tryz.underlying71 rfl HSI.out.1 ?_)
  (with_reducible refine (HWI.out _).mono ?_); rintro e w2 ⟨rfl, hB2⟩
  have HCB2 := wall (HCB.out.next hB2 rfl)
  have H2 := wall (H1.out.next hB2)
  clear hB2
  try simp only [Act.put, rpA, rpB, rpC]
  go_upto_region 4 with (refine wpList_set_row rfl 71 (.tmp 3) (.tmp 23) rfl w.heap.size D1 rfl rfl 71 D HCB2.out HRW.out.1 HDZ.out HRW.out.2.2 ?_; intro w3 K3 F3)
  have H3 := wall (show Fn w w3 c1 I from ⟨by rw [← HD1.out] at K3; exact K3.out, H2.out.i.frm F3.out (by simp), H2.out.o.frm F3.out (by simp), H2.out.e.frm F3.out (by simp), Below.frm H2.out.bel F3.out (Nat.le_refl _) (by simp)⟩)
  clear k32 kr hvi hrd K3 F3 H2 HCB2 H1 HCB HIB HWI HRW HDZ
  try simp only [Act.put, rpA, rpB, rpC]
  refine wp_fn w c1 I H3.out ?_
  intro w4 h4
  have H4 := wall h4
  have k40 := h4.cell HC1.out (show 40 < 41 by decide)
  have k32 := h4.cell HC1.out (show 32 < 41 by decide)
  have hfz := h4.frozen
  obtain ⟨s40, hs40⟩ : ∃ y, c1.g 40 = y := ⟨_, rfl⟩
  rw [hs40] at k40 HL
  clear h4 H3 hs40
  go_upto_region 6 with fail
  have h5 := (H4.out.put HC1.out (i := 32) (by decide) tgt).put (HC1.out.set 32 _ HTO.out) (i := 40) (by decide) ((s40 + 1) % 4294967296)
  have e2 : (((s40 + 1) % 4294967296 : Nat) : Int) = ((s40 : Int) + 1) % 4294967296 := by omega
  rw [e2, ← HL.out] at h5
  refine wp_fn w (landC c i.rd tgt) I h5 ?_
  clear H4 k40 k32 hfz h5 e2 HL HD1
  have HCT := wall (HC.out.land i.rd HTO.out)
  obtain ⟨c6, hc6⟩ : ∃ y, landC c i.rd tgt = y := ⟨_, rfl⟩
  have HC6 := wall hc6
  rw [hc6] at HCT ⊢
  clear hc6
  intro w6 h6
  have H6 := wall (show Blk w6 w.heap.size 71 (crC c6) from h6.c)
  have H6i := wall h6.i
  have H6o := wall h6.o
  have H6e := wall h6.e
  have H6b := wall h6.bel
  have HRW := wall (res_row HCT.out)
  have HEW := wall (evo_row none i)
  have HBE := wall (show Tryz.prog.built 78 [(2, .agg I)] = some (evO none i) by rw [← HI.out]; exact next_built i)
  clear h6
  obtain ⟨D6, hD6⟩ : ∃ y, crC c6 = y := ⟨_, rfl⟩
  obtain ⟨V, hV⟩ : ∃ y, evO none i = y := ⟨_, rfl⟩
  have HD6 := wall hD6
  have HVV := wall hV
  rw [hD6] at H6 HRW
  rw [hZ] at H6o HRW
  rw [hE] at H6e HEW
  rw [hV] at HEW HBE
  clear hD6 hZ hE hV HZ HE
  refine wp_two_rows_b (by kernel_rfl) (by kernel_rfl) rfl rfl rfl rfl rfl rfl rfl 71 54 78 _ _ _ _ 32 33 34 (by decide) (by decide) rfl rfl rfl rfl rfl rfl rfl w.heap.size (w.heap.size + 1) (w.heap.size + 2) (w.heap.size + 3) D6 I V 71 54 71 78 Z E _ _ rfl rfl rfl rfl rfl (fun W => Rel.exec_build _ [(2, .tmp 33)] rfl _ HBE.out) (fun W => Rel.exec_build _ [(2, .tmp 33)] rfl _ HBE.out) rfl rfl rfl rfl rfl rfl rfl rfl H6.out H6i.out H6o.out H6e.out (by omega) (by omega) Tryz.underlying71 rfl HRW.out.1 HRW.out.2.1 HRW.out.2.2 Tryz.underlying54 rfl HSI.out.2 HEW.out.1 HEW.out.2.1 HEW.out.2.2 ?_
  intro w7 K7 K8 F7
  have K7o := wall K7
  have K8o := wall K8
  have HB7 := wall (Below.frm H6b.out F7 (Nat.le_refl _) (by intro x hx; simp at hx; omega))
  clear K7 K8 F7
  try simp only [Act.put, rpA, rpB, rpC]
  go_wp2_with fail
  go_light
  exact bodyPost_ret (v := .tuple #[.agg D6, .agg V]) (results_two Tryz.results170 _ _ (w.heap.size + 2) (w.heap.size + 3) 71 78 D6 V _ _ rfl rfl K7o.out K8o.out Tryz.underlying71 rfl HRW.out.1 Tryz.underlying78 rfl HEW.out.1) rfl ⟨by rw [HJE.out.1, HJE.out.2, HC6.out, HD6.out, HVV.out], HB7.out⟩
 ·have hm1 : ((tgt : Int) % 4 != 0) = true := by rw [bne_iff_ne]; omega
  have HJE := wall (show J.1 = trapC c 0 tgt ∧ J.2 = some 0 by rw [HJ.out, if_pos hm]; exact ⟨rfl, rfl⟩)
  clear hm HJ
  have HNX := wall (fun W => show Calls Tryz.prog 97 #[.agg (crC c), .int .u32 0, .int .u32 (tgt : Int)] W (StepOut (trapC c 0 tgt) (evO (some 0) i) W) from trap_any c HC.out 0 tgt W (by decide) HTO.out)
  unfold StepOut at HNX
  rw [HDD.out] at HNX
  have HOK1 := wall (show (trapC c 0 tgt).Ok from Cr.Ok.trap HC.out (by decide) HTO.out)
  have HRW := wall (res_row HOK1.out)
  have HEW := wall (evo_row (some 0) i)
  rw [HZE.out.1] at HRW
  rw [HZE.out.2] at HEW
  obtain ⟨D2, hD2⟩ : ∃ q9, crC (trapC c 0 tgt) = q9 := ⟨_, rfl⟩
  obtain ⟨V, hV⟩ : ∃ q9, evO (some 0) i = q9 := ⟨_, rfl⟩
  have HD2 := wall hD2
  have HVV := wall hV
  rw [hD2] at HNX HRW
  rw [hV] at HNX HEW
  clear hD2 hV
  go_wp2_with (first | refine wpList_load_row rfl 71 _ rfl w.heap.size rfl 71 D (0, 0) _ HCB.out Tryz.underlying71 rfl HSI.out.1 ?_)
  (with_reducible refine (HNX.out _).mono ?_); rintro e w8 ⟨rfl, hB8⟩
  have H8 := wall (H1.out.next hB8)
  have H8o := wall (show Blk w8 (w.heap.size + 2) 71 Z by rw [← hZ]; exact H8.out.o)
  have H8e := wall (show Blk w8 (w.heap.size + 3) 78 E by rw [← hE]; exact H8.out.e)
  have H8b := wall H8.out.bel
  clear hB8 H8 HNX
  try simp only [Act.put, rpA, rpB, rpC]
  go_wp2_with (first | (refine wpList_set_row rfl 71 (.tmp 6) (.tmp 14) rfl (w.heap.size + 2) D2 rfl rfl 71 Z H8o.out HRW.out.1 HRW.out.2.1 HRW.out.2.2 ?_; intro w9 K9 F9; have H9e := wall (H8e.out.frm F9.out (by simp)); have H9b := wall (Below.frm H8b.out F9.out (Nat.le_refl _) (by simp))) | (refine wpList_set_row rfl 78 (.tmp 7) (.tmp 15) rfl (w.heap.size + 3) V rfl rfl 78 E H9e.out HEW.out.1 HEW.out.2.1 HEW.out.2.2 ?_; intro w10 K10 F10))
  have K10o := wall (K9.out.frm F10.out (by simp))
  have HB10 := wall (Below.frm H9b.out F10.out (Nat.le_refl _) (by simp))
  go_light
  exact bodyPost_ret (v := .tuple #[.agg D2, .agg V]) (results_two Tryz.results170 _ _ (w.heap.size + 2) (w.heap.size + 3) 71 78 D2 V _ _ rfl rfl K10o.out K10.out Tryz.underlying71 rfl HRW.out.1 Tryz.underlying78 rfl HEW.out.1) rfl ⟨by rw [HJE.out.1, HJE.out.2, HD2.out, HVV.out], HB10.out⟩
def retC (c : Cr) : Cr := ((c.set 33 (c.g 33 / 128 % 2 * 8 + 128)).set 32 (c.g 37)).set 40 ((c.g 40 + 1) % 4294967296)
theorem Cr.Ok.ret {c : Cr} (h : c.Ok) : (retC c).Ok := ((h.set 33 _ (by omega)).set 32 _ (h.g 37)).set 40 _ (by omega)
theorem ret_any (c : Cr) (hc : c.Ok) (i : In) (w : World) : Calls Tryz.prog 174 #[.agg (crC c), .agg (inC i)] w (StepOut (retC c) (evC false 0 i 0 none 0 0) w) := by
 have HC := wall hc
 have HF := wall (Fn.new w c (inC i))
 have HZ := wall cr_zero
 have HE := wall ev_zero
 have HBE := wall (next_built i)
 have HEI := wall (show (Tryz.prog.info? 78).map (·.size) = some (evC false 0 i 0 none 0 0).size from ev_info)
 have HEZ := wall (show evZ.size = (evC false 0 i 0 none 0 0).size from rfl)
 have HEO := wall (evC_one false 0 i 0 none 0 0)
 have HIZ := wall (show (Tryz.prog.info? 54).map (·.size) = some (inC i).size from in_info)
 obtain ⟨C, hC⟩ : ∃ y, crC c = y := ⟨_, rfl⟩
 obtain ⟨Z, hZ⟩ : ∃ y, crC crZ = y := ⟨_, rfl⟩
 obtain ⟨E, hE⟩ : ∃ y, evZ = y := ⟨_, rfl⟩
 obtain ⟨I, hI⟩ : ∃ y, inC i = y := ⟨_, rfl⟩
 obtain ⟨V, hV⟩ : ∃ y, evC false 0 i 0 none 0 0 = y := ⟨_, rfl⟩
 have HFW := wall (fun w8 (h : Fn w w8 c I) => show Fn w w8 c (inC i) by rw [hI]; exact h)
 rw [hC, hZ, hE, hI] at HF
 rw [hZ] at HZ
 rw [hE] at HE HEZ
 rw [hI] at HBE HIZ
 rw [hV] at HBE HEI HEZ HEO
 rw [hC, hI, hV]
 clear hc hC hI hV HFW
 go_enter Tryz.func174, Tryz.ntmps174
 go_upto_region 1 with (first | refine Big.wpList_alloc_at rfl 71 rfl Z HZ.out (w.heap.size + 2) (by simp) ?_ | refine Big.wpList_alloc_at rfl 78 rfl E HE.out (w.heap.size + 3) (by simp) ?_)
 try simp only [Act.put, rpA, rpB, rpC]
 refine wp_fn w c I HF.out ?_
 intro w1 h1
 have H1 := wall h1
 have k32 := h1.cell HC.out (show 32 < 41 by decide)
 have k33 := h1.cell HC.out (show 33 < 41 by decide)
 have k37 := h1.cell HC.out (show 37 < 41 by decide)
 have k40 := h1.cell HC.out (show 40 < 41 by decide)
 have hfz := h1.frozen
 have hb := and128 (c.g 33) (HC.out.g 33)
 have hs7 : c.g 33 / 128 % 2 ≤ 1 := by omega
 obtain ⟨s7, hs7e⟩ : ∃ y, c.g 33 / 128 % 2 = y := ⟨_, rfl⟩
 obtain ⟨s33, hs33⟩ : ∃ y, c.g 33 = y := ⟨_, rfl⟩
 obtain ⟨s37, hs37⟩ : ∃ y, c.g 37 = y := ⟨_, rfl⟩
 obtain ⟨s40, hs40⟩ : ∃ y, c.g 40 = y := ⟨_, rfl⟩
 have HN := wall (show retC c = ((c.set 33 (s7 * 8 + 128)).set 32 s37).set 40 ((s40 + 1) % 4294967296) by rw [← hs7e, ← hs37, ← hs40]; rfl)
 have HSL := wall (show s37 < 4294967296 by rw [← hs37]; exact HC.out.g 37)
 rw [hs7e, hs33] at hb
 rw [hs7e] at hs7
 rw [hs33] at k33
 rw [hs37] at k37
 rw [hs40] at k40
 have ho : bits .or .u32 ((s7 : Int) * 128 / 16) 128 = (s7 : Int) * 8 + 128 := by
  have h01 : s7 = 0 ∨ s7 = 1 := by omega
  rcases h01 with rfl | rfl <;> decide +kernel
 clear h1 HF hs7e hs33 hs37 hs40
 go_upto_region 4 with fail
 have h3 := ((H1.out.put HC.out (i := 33) (by decide) (s7 * 8 + 128)).put (HC.out.set 33 _ (by omega)) (i := 32) (by decide) s37).put ((HC.out.set 33 _ (by omega)).set 32 _ HSL.out) (i := 40) (by decide) ((s40 + 1) % 4294967296)
 have e1 : ((s7 * 8 + 128 : Nat) : Int) = (s7 : Int) * 8 + 128 := by omega
 have e2 : (((s40 + 1) % 4294967296 : Nat) : Int) = ((s40 : Int) + 1) % 4294967296 := by omega
 rw [e1, e2] at h3
 refine wp_fn w (retC c) I (by rw [HN.out]; exact h3) ?_
 have HCT := wall (Cr.Ok.ret HC.out)
 clear H1 k32 k33 k37 k40 hfz hb hs7 ho h3 e1 e2 HN HC HSL
 obtain ⟨c6, hc6⟩ : ∃ y, retC c = y := ⟨_, rfl⟩
 have HC6 := wall hc6
 rw [hc6] at HCT
 rw [hc6]
 clear hc6
 intro w3 h3
 have H3 := wall (show Blk w3 w.heap.size 71 (crC c6) from h3.c)
 have H3i := wall h3.i
 have H3o := wall h3.o
 have H3e := wall h3.e
 have H3b := wall h3.bel
 have HS6 := wall (show (Tryz.prog.info? 71).map (·.size) = some (crC c6).size by rw [crC_size HCT.out]; exact cr_info)
 have HSZ := wall (show (crC crZ).size = (crC c6).size by rw [crC_size HCT.out, crC_size crZ_ok])
 have HO6 := wall (crC_one c6)
 clear h3
 obtain ⟨D, hD⟩ : ∃ y, crC c6 = y := ⟨_, rfl⟩
 have HD := wall hD
 rw [hD] at H3 HS6 HSZ HO6
 rw [hZ] at H3o HSZ
 rw [hE] at H3e
 clear hD hZ hE HZ HE
 refine wp_two_rows_b (by kernel_rfl) (by kernel_rfl) rfl rfl rfl rfl rfl rfl rfl 71 54 78 _ _ _ _ 24 25 26 (by decide) (by decide) rfl rfl rfl rfl rfl rfl rfl w.heap.size (w.heap.size + 1) (w.heap.size + 2) (w.heap.size + 3) D I V 71 54 71 78 Z E _ _ rfl rfl rfl rfl rfl (fun W => Rel.exec_build _ [(2, .tmp 25)] rfl _ HBE.out) (fun W => Rel.exec_build _ [(2, .tmp 25)] rfl _ HBE.out) rfl rfl rfl rfl rfl rfl rfl rfl H3.out H3i.out H3o.out H3e.out (by omega) (by omega) Tryz.underlying71 rfl HS6.out HSZ.out HO6.out Tryz.underlying54 rfl HIZ.out HEI.out HEZ.out HEO.out ?_
 intro w5 K5 K6 F5
 have K5o := wall K5
 have K6o := wall K6
 have HB5 := wall (Below.frm H3b.out F5 (Nat.le_refl _) (by intro x hx; simp at hx; omega))
 clear K5 K6 F5
 try simp only [Act.put, rpA, rpB, rpC]
 go_wp2_with fail
 go_light
 exact bodyPost_ret (v := .tuple #[.agg D, .agg V]) (results_two Tryz.results174 _ _ (w.heap.size + 2) (w.heap.size + 3) 71 78 D V _ _ rfl rfl K5o.out K6o.out Tryz.underlying71 rfl HS6.out Tryz.underlying78 rfl HEI.out) rfl ⟨by rw [HC6.out, HD.out], HB5.out⟩
end Core
end Go.Proofs.YtmiaabpnolebhaaGreatDoor
