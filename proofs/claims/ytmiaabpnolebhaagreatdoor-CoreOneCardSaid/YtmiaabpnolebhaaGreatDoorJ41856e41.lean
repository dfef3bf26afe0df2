/-
  Texts of this claim, joined: RcA, RmA, RmB.
-/
import Derived.Test.YtmiaabpnolebhaaGreatDoorJec95faeb
import Derived.Test.YtmiaabpnolebhaaGreatDoorJ8546efe5
import Derived.Test.YtmiaabpnolebhaaGreatDoorJacf7b0ba
import Derived.Test.YtmiaabpnolebhaaGreatDoorJebda13d8
import Derived.StillTailTactics
set_option maxHeartbeats 4000000
set_option maxRecDepth 100000
set_option linter.unusedSimpArgs false
set_option linter.unusedVariables false
namespace Go.Proofs.YtmiaabpnolebhaaGreatDoor
open Go.RowKit

namespace Core
open Otp Sha Rv
structure Rf (w w' : World) (c : Cr) : Prop where
 c : Blk w' w.heap.size 74 (crC c)
 o : Blk w' (w.heap.size + 1) 74 (crC crZ)
 bel : Below w.heap.size w w'
theorem Rf.new (w : World) (c : Cr) : Rf w ((w.alloc (.cells (crC c) 74)).alloc (.cells (crC crZ) 74)) c :=
 ⟨(Blk.new _ _ _).alloc _, blk_new' (by simp), ((Below.refl _ w).alloc (Nat.le_refl _) _).alloc (by simp) _⟩
theorem Rf.put {w w' : World} {c : Cr} (h : Rf w w' c) (ho : c.Ok) {i : Nat} (hi : i < 41) (v : Nat) : Rf w (w'.setCell ⟨w.heap.size, i, none⟩ (.int .u32 (v : Int))) (c.set i v) := by
 have hk := Blk.set h.c i (.int .u32 (v : Int))
 rw [crC_set ho hi] at hk
 exact ⟨hk, h.o.far' _ _ (by simp) _, h.bel.setCell (p := ⟨w.heap.size, i, none⟩) (Nat.le_refl _) _⟩
theorem Rf.tm {w w' : World} {c : Cr} (h : Rf w w' c) (ho : c.Ok) (t : Bool) : Rf w (w'.setCell ⟨w.heap.size, 41, none⟩ (.bool t)) (c.time t) := by
 have hk := Blk.set h.c 41 (.bool t)
 rw [crC_time ho] at hk
 exact ⟨hk, h.o.far' _ _ (by simp) _, h.bel.setCell (p := ⟨w.heap.size, 41, none⟩) (Nat.le_refl _) _⟩
theorem Rf.next {w w' w'' : World} {c : Cr} (h : Rf w w' c) (hb : Below w'.heap.size w' w'') : Rf w w'' c := ⟨h.c.next hb rfl, h.o.next hb rfl, below_then h.bel hb (Nat.le_refl _)⟩
theorem Rf.frozen {w w' : World} {c : Cr} (h : Rf w w' c) (i : Nat) : w'.frozen? ⟨w.heap.size, i, none⟩ = false := Blk.frozen h.c i
theorem Rf.cell {w w' : World} {c : Cr} (h : Rf w w' c) (ho : c.Ok) {i : Nat} (hi : i < 41) : w'.cell? ⟨w.heap.size, i, none⟩ = some (.int .u32 ((c.g i : Nat) : Int)) := rblk_cell h.c ho hi
theorem Rf.row {w w' w9 : World} {c c2 : Cr} (h : Rf w w' c) (hk : Blk w9 w.heap.size 74 (crC c2)) (hf : Frm [w.heap.size] w' w9) : Rf w w9 c2 := ⟨hk, h.o.frm hf (by simp), Below.frm h.bel hf (Nat.le_refl _) (by simp)⟩
theorem wp_rf {P : Program} {k : Code} {Q : Exit → Act → World → Prop} {a : Act} {w' : World} (w : World) (c : Cr) (h1 : Rf w w' c) (h : ∀ w8, Rf w w8 c → Code.wp P k Q a w8) : Code.wp P k Q a w' := h w' h1
theorem rtrap_any (c : Cr) (hc : c.Ok) (cause v : Nat) (w : World) (h1 : cause < 4294967296) (h2 : v < 4294967296) : Calls Tryz.prog 100 #[.agg (crC c), .int .u32 (cause : Int), .int .u32 (v : Int)] w (CrOut (trapC c cause v) w) := by
 have HCV := wall (And.intro h1 h2)
 clear h1 h2
 have HC := wall hc
 have HF := wall (Rf.new w c)
 have HZ := wall ref_zero
 obtain ⟨C, hC⟩ : ∃ y, crC c = y := ⟨_, rfl⟩
 obtain ⟨Z, hZ⟩ : ∃ y, crC crZ = y := ⟨_, rfl⟩
 rw [hC, hZ] at HF
 rw [hZ] at HZ
 rw [hC]
 clear hc hC hZ
 go_enter Tryz.func100, Tryz.ntmps100
 go_upto_region 1 with (first | refine Big.wpList_alloc_at rfl 74 rfl Z HZ.out (w.heap.size + 1) (by simp) ?_)
 try simp only [Act.put, rpA, rpB, rpC]
 refine wp_rf w c HF.out ?_
 intro w1 h1
 have H1 := wall h1
 clear h1 HF
 have k32 := H1.out.cell HC.out (show 32 < 41 by decide)
 have k37 := H1.out.cell HC.out (show 37 < 41 by decide)
 have k38 := H1.out.cell HC.out (show 38 < 41 by decide)
 have k39 := H1.out.cell HC.out (show 39 < 41 by decide)
 have hfz := H1.out.frozen
 have HT := wall (show trapC c cause v = (((((c.set 37 (c.g 32 - c.g 32 % 4)).set 38 cause).set 39 v).set 33 (c.g 33 / 8 % 2 * 128)).set 32 (c.g 35)).set 40 ((c.g 40 + 1) % 4294967296) from rfl)
 have HB := wall (And.intro (HC.out.g 32) (And.intro (HC.out.g 33) (And.intro (HC.out.g 35) (HC.out.g 40))))
 have HP := wall ((H1.out.put HC.out (i := 37) (by decide) (c.g 32 - c.g 32 % 4)).put (HC.out.set 37 _ (by have := HC.out.g 32; omega)) (i := 38) (by decide) cause |>.put ((HC.out.set 37 _ (by have := HC.out.g 32; omega)).set 38 _ HCV.out.1) (i := 39) (by decide) v)
 have HC1 := wall (((HC.out.set 37 (c.g 32 - c.g 32 % 4) (by have := HC.out.g 32; omega)).set 38 _ HCV.out.1).set 39 _ HCV.out.2)
 have e33 : (((c.set 37 (c.g 32 - c.g 32 % 4)).set 38 cause).set 39 v).g 33 = c.g 33 := by rw [Cr.g_set_ne (by decide), Cr.g_set_ne (by decide), Cr.g_set_ne (by decide)]
 have e35 : (((c.set 37 (c.g 32 - c.g 32 % 4)).set 38 cause).set 39 v).g 35 = c.g 35 := by rw [Cr.g_set_ne (by decide), Cr.g_set_ne (by decide), Cr.g_set_ne (by decide)]
 have e40 : (((c.set 37 (c.g 32 - c.g 32 % 4)).set 38 cause).set 39 v).g 40 = c.g 40 := by rw [Cr.g_set_ne (by decide), Cr.g_set_ne (by decide), Cr.g_set_ne (by decide)]
 obtain ⟨c1, hc1⟩ : ∃ y, ((c.set 37 (c.g 32 - c.g 32 % 4)).set 38 cause).set 39 v = y := ⟨_, rfl⟩
 rw [hc1] at HP HC1 HT e33 e35 e40
 have E3 := wall (And.intro e33 (And.intro e35 e40))
 clear hc1 e33 e35 e40
 obtain ⟨s32, hs32⟩ : ∃ y, c.g 32 = y := ⟨_, rfl⟩
 rw [hs32] at k32 HP HB
 clear hs32
 have hv4 : (s32 : Int) % 4 ≤ (s32 : Int) := by omega
 have hvl : (s32 : Int) - (s32 : Int) % 4 = ((s32 - s32 % 4 : Nat) : Int) := by omega
 have hvn : ((s32 : Int) - (s32 : Int) % 4) % 4294967296 = ((s32 - s32 % 4 : Nat) : Int) := by have := HB.out.1; omega
 go_upto_region 2 with fail
 refine wp_rf w c1 (by first | exact HP.out | (have h := HP.out; simp at h ⊢; exact h)) ?_
 clear k32 k37 k38 k39 hfz hv4 hvl hvn HP H1
 intro w2 h2
 have H2 := wall h2
 have k32 := h2.cell HC1.out (show 32 < 41 by decide)
 have k33 := h2.cell HC1.out (show 33 < 41 by decide)
 have k35 := h2.cell HC1.out (show 35 < 41 by decide)
 have k40 := h2.cell HC1.out (show 40 < 41 by decide)
 rw [E3.out.1] at k33
 rw [E3.out.2.1] at k35
 rw [E3.out.2.2] at k40
 have hfz := h2.frozen
 obtain ⟨s33, hs33⟩ : ∃ y, c.g 33 = y := ⟨_, rfl⟩
 obtain ⟨s35, hs35⟩ : ∃ y, c.g 35 = y := ⟨_, rfl⟩
 obtain ⟨s40, hs40⟩ : ∃ y, c.g 40 = y := ⟨_, rfl⟩
 rw [hs33] at k33 HT HB
 rw [hs35] at k35 HT HB
 rw [hs40] at k40 HT HB
 clear hs33 hs35 hs40 E3 h2
 have q8 : (s33 : Int) / 8 % 2 ≤ 1 := by omega
 have p8 : 0 ≤ (s33 : Int) / 8 % 2 := by omega
 go_upto_region 5 with fail
 clear q8 p8
 have HC2 := wall ((((HC1.out.set 33 (s33 / 8 % 2 * 128) (by omega)).set 32 s35 HB.out.2.2.1)).set 40 ((s40 + 1) % 4294967296) (by omega))
 have HP := wall (((H2.out.put HC1.out (i := 33) (by decide) (s33 / 8 % 2 * 128)).put (HC1.out.set 33 _ (by omega)) (i := 32) (by decide) s35).put ((HC1.out.set 33 _ (by omega)).set 32 _ HB.out.2.2.1) (i := 40) (by decide) ((s40 + 1) % 4294967296))
 refine wp_rf w (trapC c cause v) (by rw [HT.out]; first | exact HP.out | (have h := HP.out; simp at h ⊢; exact h)) ?_
 clear k32 k33 k35 k40 hfz HP
 rw [← HT.out] at HC2
 obtain ⟨c6, hc6⟩ : ∃ y, trapC c cause v = y := ⟨_, rfl⟩
 rw [hc6] at HC2
 rw [hc6]
 intro w3 h3
 have H3 := wall h3
 have HC6 := wall hc6
 clear h3 hc6
 have HS6 := wall (show (Tryz.prog.info? 74).map (·.size) = some (crC c6).size ∧ (crC crZ).size = (crC c6).size ∧ (crC c6).all (·.oneCell') = true from ⟨by rw [crC_size (HC2.out)]; exact ref_info, by rw [crC_size (HC2.out), crC_size crZ_ok], crC_one _⟩)
 have HKC := wall (show Blk _ w.heap.size 74 (crC c6) from H3.out.c)
 have HKO := wall (show Blk _ (w.heap.size + 1) 74 (crC crZ) from H3.out.o)
 have HKB := wall H3.out.bel
 obtain ⟨D, hD⟩ : ∃ y, crC c6 = y := ⟨_, rfl⟩
 obtain ⟨Z9, hZ9⟩ : ∃ y, crC crZ = y := ⟨_, rfl⟩
 have HD := wall hD
 rw [hD] at HKC HS6
 rw [hZ9] at HKO HS6
 clear hD hZ9
 go_wp2_with (first | refine wpList_load_row rfl 74 _ rfl w.heap.size rfl 74 D (0, 0) _ HKC.out Tryz.underlying74 rfl HS6.out.1 ?_ | (refine wpList_set_row rfl 74 (.tmp 6) (.tmp 39) rfl (w.heap.size + 1) D rfl rfl 74 Z9 HKO.out HS6.out.1 HS6.out.2.1 HS6.out.2.2 ?_; intro w99 K99 F99))
 have H99 := wall (Below.frm HKB.out F99.out (Nat.le_refl _) (by simp))
 go_light
 exact bodyPost_ret (v := .agg D) (results_cell_row Tryz.results100 _ _ (w.heap.size + 1) 74 D (0, 0) _ rfl K99.out Tryz.underlying74 rfl HS6.out.1) rfl ⟨by rw [HC6.out, HD.out], H99.out⟩
theorem withC_g {c : Cr} {k v i : Nat} (h : 32 ≤ i) : (withC c k v).g i = c.g i := by
 unfold withC
 split
 ·rename_i h1
  exact Cr.g_set_ne (by omega)
 ·rfl
theorem rseti_any (c : Cr) (hc : c.Ok) (k v : Nat) (w : World) (hk : k < 32) (hv : v < 4294967296) : Calls Tryz.prog 184 #[.agg (crC c), .int .u8 (k : Int), .int .u32 (v : Int)] w (CrOut (nextC (withC c k v)) w) := by
 have HV := wall (And.intro hk hv)
 have HX := wall (show nextC (withC c k v) = ((withC c k v).set 32 ((c.g 32 + 4) % 4294967296)).set 40 ((c.g 40 + 1) % 4294967296) by unfold nextC; rw [withC_g (by decide), withC_g (by decide)])
 have HCX := wall (hc.with k v hv).next
 obtain ⟨r, hr⟩ : ∃ r, nextC (withC c k v) = r := ⟨_, rfl⟩
 rw [hr] at HX HCX
 rw [hr]
 clear hk hv hr
 have HC := wall hc
 have HF := wall (Rf.new w c)
 have HZ := wall ref_zero
 obtain ⟨C, hC⟩ : ∃ y, crC c = y := ⟨_, rfl⟩
 obtain ⟨Z, hZ⟩ : ∃ y, crC crZ = y := ⟨_, rfl⟩
 rw [hC, hZ] at HF
 rw [hZ] at HZ
 rw [hC]
 clear hc hC hZ
 go_enter Tryz.func184, Tryz.ntmps184
 go_upto_region 1 with (first | refine Big.wpList_alloc_at rfl 74 rfl Z HZ.out (w.heap.size + 1) (by simp) ?_)
 try simp only [Act.put, rpA, rpB, rpC]
 refine wp_rf w c HF.out ?_
 intro w1 h1
 have H1 := wall h1
 clear h1 HF
 go_upto_if 8 with fail
 go_cut [] (fun w' => Wall (Rf w w' (withC c k v)))
 case first =>
  by_cases h0 : k = 0
  ·have hb : ((k : Int) != 0) = false := by rw [h0]; rfl
   have HW := wall (show withC c k v = c by unfold withC; rw [if_neg (by omega)])
   clear h0
   go_wp2_with fail
   go_meet
   exact wall (by rw [HW.out]; exact H1.out)
  ·have hb : ((k : Int) != 0) = true := by simp; omega
   have HW := wall (show withC c k v = c.set k v by unfold withC; rw [if_pos ⟨by omega, HV.out.1⟩])
   have kk := H1.out.cell HC.out (show k < 41 by have := HV.out.1; omega)
   have hfz := H1.out.frozen
   have hk32 : (k : Int) < 32 := by have := HV.out.1; omega
   clear h0
   go_wp2_with fail
   go_meet
   exact wall (by rw [HW.out]; exact H1.out.put HC.out (by have := HV.out.1; omega) v)
 case rest =>
  obtain ⟨w2, rfl⟩ : ∃ wo : World, wo = wc := ⟨_, rfl⟩
  have HCW := wall (HC.out.with k v HV.out.2)
  obtain ⟨s32, hs32⟩ : ∃ y, c.g 32 = y := ⟨_, rfl⟩
  obtain ⟨s40, hs40⟩ : ∃ y, c.g 40 = y := ⟨_, rfl⟩
  have k32 := hcut.out.cell HCW.out (show 32 < 41 by decide)
  have k40 := hcut.out.cell HCW.out (show 40 < 41 by decide)
  rw [withC_g (by decide), hs32] at k32
  rw [withC_g (by decide), hs40] at k40
  rw [hs32, hs40] at HX
  have hfz := hcut.out.frozen
  clear hs32 hs40
  obtain ⟨cw, hcw⟩ : ∃ y, withC c k v = y := ⟨_, rfl⟩
  rw [hcw] at HCW hcut HX
  clear hcw H1
  go_upto_region 5 with fail
  have HP := wall ((hcut.out.put HCW.out (i := 32) (by decide) ((s32 + 4) % 4294967296)).put (HCW.out.set 32 _ (by omega)) (i := 40) (by decide) ((s40 + 1) % 4294967296))
  refine wp_rf w r (by rw [HX.out]; first | exact HP.out | (have h := HP.out; simp at h ⊢; exact h)) ?_
  clear k32 k40 hfz HP hcut
  intro w3 h3
  have H3 := wall h3
  clear h3
  have HS6 := wall (show (Tryz.prog.info? 74).map (·.size) = some (crC r).size ∧ (crC crZ).size = (crC r).size ∧ (crC r).all (·.oneCell') = true from ⟨by rw [crC_size (HCX.out)]; exact ref_info, by rw [crC_size (HCX.out), crC_size crZ_ok], crC_one _⟩)
  have HKC := wall (show Blk _ w.heap.size 74 (crC r) from H3.out.c)
  have HKO := wall (show Blk _ (w.heap.size + 1) 74 (crC crZ) from H3.out.o)
  have HKB := wall H3.out.bel
  obtain ⟨D, hD⟩ : ∃ y, crC r = y := ⟨_, rfl⟩
  obtain ⟨Z9, hZ9⟩ : ∃ y, crC crZ = y := ⟨_, rfl⟩
  have HD := wall hD
  rw [hD] at HKC HS6
  rw [hZ9] at HKO HS6
  clear hD hZ9
  go_wp2_with (first | refine wpList_load_row rfl 74 _ rfl w.heap.size rfl 74 D (0, 0) _ HKC.out Tryz.underlying74 rfl HS6.out.1 ?_ | (refine wpList_set_row rfl 74 (.tmp 6) (.tmp 23) rfl (w.heap.size + 1) D rfl rfl 74 Z9 HKO.out HS6.out.1 HS6.out.2.1 HS6.out.2.2 ?_; intro w99 K99 F99))
  have H99 := wall (Below.frm HKB.out F99.out (Nat.le_refl _) (by simp))
  go_light
  exact bodyPost_ret (v := .agg D) (results_cell_row Tryz.results184 _ _ (w.heap.size + 1) 74 D (0, 0) _ rfl K99.out Tryz.underlying74 rfl HS6.out.1) rfl ⟨by rw [HD.out], H99.out⟩
theorem landC_eq (c : Cr) (rd tgt : Nat) : (nextC (withC c rd ((c.g 32 + 4) % 4294967296))).set 32 tgt = landC c rd tgt := by
 unfold landC nextC Cr.set
 simp only [Cr.mk.injEq, and_true]
 rw [List.set_comm _ _ (show (40 : Nat) ≠ 32 by decide), List.set_set]
theorem rjump_any (c : Cr) (hc : c.Ok) (rd tgt : Nat) (w : World) (hrd : rd < 32) (ht : tgt < 4294967296) (h4 : tgt % 4 = 0) : Calls Tryz.prog 186 #[.agg (crC c), .int .u8 (rd : Int), .int .u32 (tgt : Int)] w (CrOut (landC c rd tgt) w) := by
 have HPC := wall (hc.g 32)
 have HB := wall (And.intro hrd ht)
 have HST := wall (fun W => rseti_any c hc rd ((c.g 32 + 4) % 4294967296) W hrd (Nat.mod_lt _ (by decide)))
 have HCN := wall (hc.with rd ((c.g 32 + 4) % 4294967296) (Nat.mod_lt _ (by decide))).next
 have HLE := wall (landC_eq c rd tgt)
 have ht4 : ((tgt : Int) % 4 != 0) = false := by
  have : (tgt : Int) % 4 = 0 := by omega
  rw [this]; rfl
 obtain ⟨cn, hcn⟩ : ∃ y, nextC (withC c rd ((c.g 32 + 4) % 4294967296)) = y := ⟨_, rfl⟩
 rw [hcn] at HST HCN HLE
 clear hcn h4 ht hrd
 have HC := wall hc
 have HF := wall (Rf.new w c)
 have HZ := wall ref_zero
 obtain ⟨C, hC⟩ : ∃ y, crC c = y := ⟨_, rfl⟩
 obtain ⟨Z, hZ⟩ : ∃ y, crC crZ = y := ⟨_, rfl⟩
 rw [hC, hZ] at HF
 rw [hZ] at HZ
 rw [hC]
 clear hc hC hZ
 go_enter Tryz.func186, Tryz.ntmps186
 go_upto_region 1 with (first | refine Big.wpList_alloc_at rfl 74 rfl Z HZ.out (w.heap.size + 1) (by simp) ?_)
 try simp only [Act.put, rpA, rpB, rpC]
 refine wp_rf w c HF.out ?_
 intro w1 h1
 have H1 := wall h1
 clear h1 HF
 have HCE := wall (show crC c = crC c from rfl)
 have k32 := H1.out.cell HC.out (show 32 < 41 by decide)
 obtain ⟨s32, hs32⟩ : ∃ y, c.g 32 = y := ⟨_, rfl⟩
 rw [hs32] at k32 HST
 clear hs32
 have e4 : ((s32 : Int) + 4) % 4294967296 = (((s32 + 4) % 4294967296 : Nat) : Int) := by omega
 have HN := wall e4
 have HSR := wall (show (Tryz.prog.info? 74).map (·.size) = some (crC cn).size ∧ (crC c).size = (crC cn).size ∧ (crC cn).all (·.oneCell') = true from ⟨by rw [crC_size (HCN.out)]; exact ref_info, by rw [crC_size (HCN.out), crC_size (HC.out)], crC_one _⟩)
 have HS0 := wall (show (Tryz.prog.info? 74).map (·.size) = some (crC c).size by rw [crC_size HC.out]; exact ref_info)
 have HKC := wall (show Blk w1 w.heap.size 74 (crC c) from H1.out.c)
 obtain ⟨D, hD⟩ : ∃ y, crC c = y := ⟨_, rfl⟩
 obtain ⟨D2, hD2⟩ : ∃ y, crC cn = y := ⟨_, rfl⟩
 have HD2 := wall hD2
 rw [hD] at HKC HST HSR HS0
 unfold CrOut at HST
 rw [hD2] at HST HSR
 have HDD := wall hD
 clear hD hD2
 clear e4
 go_wp2_with (refine wpList_load_row rfl 74 _ rfl w.heap.size rfl 74 D (0, 0) _ HKC.out Tryz.underlying74 rfl HS0.out ?_)
 try rw [HN.out]
 (with_reducible refine (HST.out _).mono ?_); rintro e w2 ⟨rfl, hB2⟩
 have H2 := wall (H1.out.next hB2)
 have HK2 := wall (HKC.out.next hB2 rfl)
 clear hB2 HST HKC H1 k32 HN
 try simp only [Act.put, rpA, rpB, rpC]
 go_upto_region 4 with (refine wpList_set_row rfl 74 (.tmp 3) (.tmp 18) rfl w.heap.size D2 rfl rfl 74 D HK2.out HSR.out.1 HSR.out.2.1 HSR.out.2.2 ?_; intro w3 K3 F3)
 have H3 := wall (H2.out.row (c2 := cn) (by rw [HD2.out]; exact K3.out) F3.out)
 clear K3 F3 H2 HK2
 have k32 := H3.out.cell HCN.out (show 32 < 41 by decide)
 have hfz := H3.out.frozen
 go_upto_region 5 with fail
 have HP := wall (H3.out.put HCN.out (i := 32) (by decide) tgt)
 have HCL := wall (HCN.out.set 32 tgt HB.out.2)
 rw [HLE.out] at HP HCL
 refine wp_rf w (landC c rd tgt) HP.out ?_
 clear k32 hfz HP H3
 obtain ⟨r, hr⟩ : ∃ y, landC c rd tgt = y := ⟨_, rfl⟩
 rw [hr] at HCL
 rw [hr]
 intro w4 h4
 have H4 := wall h4
 have HRR := wall hr
 clear h4 hr
 have HS6 := wall (show (Tryz.prog.info? 74).map (·.size) = some (crC r).size ∧ (crC crZ).size = (crC r).size ∧ (crC r).all (·.oneCell') = true from ⟨by rw [crC_size (HCL.out)]; exact ref_info, by rw [crC_size (HCL.out), crC_size crZ_ok], crC_one _⟩)
 have HKC := wall (show Blk _ w.heap.size 74 (crC r) from H4.out.c)
 have HKO := wall (show Blk _ (w.heap.size + 1) 74 (crC crZ) from H4.out.o)
 have HKB := wall H4.out.bel
 obtain ⟨D9, hD⟩ : ∃ y, crC r = y := ⟨_, rfl⟩
 obtain ⟨Z9, hZ9⟩ : ∃ y, crC crZ = y := ⟨_, rfl⟩
 have HD := wall hD
 rw [hD] at HKC HS6
 rw [hZ9] at HKO HS6
 clear hD hZ9
 go_wp2_with (first | refine wpList_load_row rfl 74 _ rfl w.heap.size rfl 74 D9 (0, 0) _ HKC.out Tryz.underlying74 rfl HS6.out.1 ?_ | (refine wpList_set_row rfl 74 (.tmp 6) (.tmp 21) rfl (w.heap.size + 1) D9 rfl rfl 74 Z9 HKO.out HS6.out.1 HS6.out.2.1 HS6.out.2.2 ?_; intro w99 K99 F99))
 have H99 := wall (Below.frm HKB.out F99.out (Nat.le_refl _) (by simp))
 go_light
 exact bodyPost_ret (v := .agg D9) (results_cell_row Tryz.results186 _ _ (w.heap.size + 1) 74 D9 (0, 0) _ rfl K99.out Tryz.underlying74 rfl HS6.out.1) rfl ⟨by rw [HRR.out, HD.out], H99.out⟩
theorem csrI_cases (n : Nat) : csrI n = 0 ∨ ∃ j, j < 8 ∧ csrI n = 33 + j := by
 unfold csrI
 by_cases h1 : n = 768
 ·exact .inr ⟨0, by decide, by rw [if_pos h1]⟩
 by_cases h2 : n = 772
 ·exact .inr ⟨1, by decide, by rw [if_neg h1, if_pos h2]⟩
 by_cases h3 : n = 773
 ·exact .inr ⟨2, by decide, by rw [if_neg h1, if_neg h2, if_pos h3]⟩
 by_cases h4 : n = 832
 ·exact .inr ⟨3, by decide, by rw [if_neg h1, if_neg h2, if_neg h3, if_pos h4]⟩
 by_cases h5 : n = 833
 ·exact .inr ⟨4, by decide, by rw [if_neg h1, if_neg h2, if_neg h3, if_neg h4, if_pos h5]⟩
 by_cases h6 : n = 834
 ·exact .inr ⟨5, by decide, by rw [if_neg h1, if_neg h2, if_neg h3, if_neg h4, if_neg h5, if_pos h6]⟩
 by_cases h7 : n = 835
 ·exact .inr ⟨6, by decide, by rw [if_neg h1, if_neg h2, if_neg h3, if_neg h4, if_neg h5, if_neg h6, if_pos h7]⟩
 by_cases h8 : n = 2816
 ·exact .inr ⟨7, by decide, by rw [if_neg h1, if_neg h2, if_neg h3, if_neg h4, if_neg h5, if_neg h6, if_neg h7, if_pos h8]⟩
 exact .inl (by rw [if_neg h1, if_neg h2, if_neg h3, if_neg h4, if_neg h5, if_neg h6, if_neg h7, if_neg h8])
theorem rget_any (c : Cr) (hc : c.Ok) (n : Nat) (w : World) : Calls Tryz.prog 105 #[.agg (crC c), .int .u16 (n : Int)] w (GetO (csrG c n) w) := by
 have HC := wall hc
 have HPL := wall (fun W => place_any n W)
 have HK := wall (Blk.new w 74 (crC c))
 have HBL := wall ((Below.refl _ w).alloc (Nat.le_refl _) (.cells (crC c) 74))
 obtain ⟨r, hr⟩ : ∃ r, csrG c n = r := ⟨_, rfl⟩
 have HR := wall hr
 rw [hr]
 obtain ⟨C, hC⟩ : ∃ y, crC c = y := ⟨_, rfl⟩
 have HCE := wall hC
 rw [hC] at HK HBL ⊢
 clear hc hC hr
 go_enter Tryz.func105, Tryz.ntmps105
 go_wp2_with fail
 generalize w.alloc (.cells C 74) = w1 at *
 (with_reducible refine (HPL.out _).mono ?_); rintro e w2 ⟨rfl, hB2⟩
 have HK2 := wall (HK.out.next hB2 rfl)
 have HB2 := wall (below_then HBL.out hB2 (Nat.le_refl _))
 clear hB2 HK HBL HPL
 rcases csrI_cases n with h0 | ⟨j, hj, h0⟩
 ·have hpl : plN n = -1 := by unfold plN; rw [if_pos h0]
  rw [hpl]
  have HG := wall (show r = if n = 836 then ((if c.tm then 128 else 0), true) else (0, n == 3860) by rw [← HR.out]; unfold csrG; rw [if_neg (by rw [h0]; decide)])
  clear hpl h0 HR
  try simp only [Act.put, rpA, rpB, rpC]
  by_cases h1 : n = 836
  ·have hb : ((n : Int) == 836) = true := by rw [h1]; rfl
   have kt : w2.cell? ⟨w.heap.size, 41, none⟩ = some (.bool c.tm) := by
    rw [HK2.out.cell, ← HCE.out]
    show (crL c).toArray[41]? = _
    rw [List.getElem?_toArray]
    exact crL_tm HC.out
   rw [if_pos h1] at HG
   clear h1
   cases ht : c.tm with
   | true =>
    rw [ht] at kt HG
    have HG2 := wall (show r = (128, true) from HG.out)
    clear ht HG
    go_wp2_with fail
    go_light
    go_ret2
    exact ⟨by rw [HG2.out]; rfl, HB2.out⟩
   | false =>
    rw [ht] at kt HG
    have HG2 := wall (show r = (0, true) from HG.out)
    clear ht HG
    go_wp2_with fail
    go_light
    go_ret2
    exact ⟨by rw [HG2.out]; rfl, HB2.out⟩
  ·have hb : ((n : Int) == 836) = false := by rw [beq_eq_false_iff_ne]; omega
   rw [if_neg h1] at HG
   have HQ := wall (show ((n : Int) == 3860) = (n == 3860) by rw [Bool.eq_iff_iff]; simp; omega)
   clear h1
   go_wp2_with fail
   go_light
   go_ret2
   exact ⟨by rw [HG.out]; first | rfl | (rw [HQ.out]; rfl) | (simp; omega), HB2.out⟩
 ·have hpl : plN n = (j : Int) := by unfold plN; rw [if_neg (by omega), h0]; omega
  rw [hpl]
  have HG := wall (show r = (c.g (33 + j), true) by rw [← HR.out]; unfold csrG; rw [if_pos (by rw [h0]; omega), h0])
  have kk : w2.cell? ⟨w.heap.size, 33 + j, none⟩ = some (.int .u32 ((c.g (33 + j) : Nat) : Int)) := rblk_cell (by rw [HCE.out]; exact HK2.out) HC.out (by omega)
  have hj8 : (j : Int) < 8 := by omega
  clear hpl h0 HR hj
  try simp only [Act.put, rpA, rpB, rpC]
  go_wp2_with fail
  go_light
  go_ret2
  exact ⟨by rw [HG.out]; rfl, HB2.out⟩
end Core
end Go.Proofs.YtmiaabpnolebhaaGreatDoor
namespace Go.Proofs.YtmiaabpnolebhaaGreatDoor
open Go.RowKit

namespace Core
open Otp Sha Grant Spc R1 Fla
def rg {α : Type} (x1 x2 x3 x4 x5 : α) (r : Nat) : α := if r = 1 then x1 else if r = 2 then x2 else if r = 3 then x3 else if r = 4 then x4 else x5
theorem Mf.at_ {w : World} {m b1 b2 b3 b4 b5 : Nat} {st : Int} {l1 l2 l3 l4 l5 : List Nat} (h : Mf w m b1 b2 b3 b4 b5 st l1 l2 l3 l4 l5) {r : Nat} (hr : r = 1 ∨ r = 2 ∨ r = 3 ∨ r = 4 ∨ r = 5) :
  w.cell? ⟨m, 1 + r, none⟩ = some (.slice (some ⟨rg b1 b2 b3 b4 b5 r, 0, none⟩) (regS r) (regS r)) ∧ Blk w (rg b1 b2 b3 b4 b5 r) 5 (b8 (rg l1 l2 l3 l4 l5 r)) ∧ (rg l1 l2 l3 l4 l5 r).length = regS r ∧ ∀ x ∈ rg l1 l2 l3 l4 l5 r, x < 256 := by
 rcases hr with rfl | rfl | rfl | rfl | rfl
 ·exact ⟨by rw [h.k.cell]; rfl, h.k1, h.n1.1, h.n1.2⟩
 ·exact ⟨by rw [h.k.cell]; rfl, h.k2, h.n2.1, h.n2.2⟩
 ·exact ⟨by rw [h.k.cell]; rfl, h.k3, h.n3.1, h.n3.2⟩
 ·exact ⟨by rw [h.k.cell]; rfl, h.k4, h.n4.1, h.n4.2⟩
 ·exact ⟨by rw [h.k.cell]; rfl, h.k5, h.n5.1, h.n5.2⟩
theorem chk_err {who st size : Int} {a : Nat} {wr fe : Bool} (h : (chk who st a size wr fe).2.2 ≠ 0) : chk who st a size wr fe = (0, 0, (chk who st a size wr fe).2.2) := by
 unfold chk at h ⊢
 split
 ·rfl
 ·split
  ·rfl
  ·split
   ·rfl
   ·split
    ·rfl
    ·rename_i h1 h2 h3 h4
     rw [if_neg h1, if_neg h2, if_neg h3, if_neg h4] at h
     exact absurd rfl h
theorem chk_reg {who st size : Int} {a : Nat} {wr fe : Bool} (h : (chk who st a size wr fe).2.2 = 0) : ((chk who st a size wr fe).1 = 1 ∨ (chk who st a size wr fe).1 = 2 ∨ (chk who st a size wr fe).1 = 3 ∨ (chk who st a size wr fe).1 = 4 ∨ (chk who st a size wr fe).1 = 5) ∧ (chk who st a size wr fe).2.1 < regS (chk who st a size wr fe).1 ∧ (sp.getD (chk who st a size wr fe).1 (0, 0)).2 = regS (chk who st a size wr fe).1 := by
 obtain ⟨f, s, h1, h2, h3, -⟩ := chk_good h
 generalize (chk who st a size wr fe).1 = r at *
 generalize (chk who st a size wr fe).2.1 = o at *
 have hr6 : r < 6 := by
  have := (List.getElem?_eq_some_iff.1 h2).1
  simpa [sp] using this
 have hc : r = 1 ∨ r = 2 ∨ r = 3 ∨ r = 4 ∨ r = 5 := by omega
 have hs : s = regS r := by
  rcases hc with rfl | rfl | rfl | rfl | rfl <;> (simp [sp] at h2; rw [← h2.2]; rfl)
 exact ⟨hc, by rw [← hs]; exact h3, by rw [List.getD_eq_getElem?_getD, h2]; exact hs⟩
theorem regS_le (r : Nat) : regS r ≤ 10240 := by
 unfold regS
 (repeat' split) <;> decide
theorem span_any {m b1 b2 b3 b4 b5 : Nat} {l1 l2 l3 l4 l5 : List Nat} (st who at_ : Int) (a n : Nat) (wr : Bool) (w : World) (hM : Mf w m b1 b2 b3 b4 b5 st l1 l2 l3 l4 l5) (ha : at_ = a) (hm : at_ < 4294967296) (hn : n ≤ 1000000) :
  Calls Tryz.prog 93 #[.pointer (some ⟨m, 0, none⟩), .int .i64 who, .int .u32 at_, .int .i64 (n : Int), .bool wr] w (W3 (wth who st a n wr) w) := by
 have HM := wall hM
 have HCK := wall (fun W => ref_check who st at_ 1 a wr false W ha hm)
 have HG := wall (fun h => chk_reg (who := who) (st := st) (a := a) (size := 1) (wr := wr) (fe := false) h)
 have HGE := wall (fun h => chk_err (who := who) (st := st) (a := a) (size := 1) (wr := wr) (fe := false) h)
 have HW := wall (show wth who st a n wr = (if (chk who st a 1 wr false).2.2 ≠ 0 then (0, 0, (chk who st a 1 wr false).2.2) else if (sp.getD (chk who st a 1 wr false).1 (0, 0)).2 < n + (chk who st a 1 wr false).2.1 then (0, 0, 9) else ((chk who st a 1 wr false).1, (chk who st a 1 wr false).2.1, 0)) from rfl)
 obtain ⟨R, hR⟩ : ∃ y, wth who st a n wr = y := ⟨_, rfl⟩
 rw [hR] at HW ⊢
 clear hR
 obtain ⟨⟨r, o, e⟩, hr⟩ : ∃ y, chk who st a 1 wr false = y := ⟨_, rfl⟩
 rw [hr] at HCK HG HW HGE
 unfold ChkOut at HCK
 simp only at HCK HG HW HGE
 have kst : w.cell? ⟨m, 0, none⟩ = some (.int .i64 st) := by rw [hM.k.cell]; rfl
 clear hr ha hm hM
 go_enter Tryz.func93, Tryz.ntmps93
 go_wp2_with fail
 (with_reducible refine (HCK.out _).mono ?_); rintro ee w1 ⟨rfl, hB1⟩
 have HB1 := wall hB1
 have HM1 := wall (HM.out.old hB1)
 clear hB1 HCK HM kst
 try simp only [Act.put, rpA, rpB, rpC]
 by_cases he : e = 0
 ·obtain ⟨hrc, hlo, hsp⟩ := HG.out he
  have HW2 := wall (show R = if regS r < n + o then (0, 0, 9) else (r, o, 0) by rw [HW.out, if_neg (by simpa using he), hsp])
  have kr := (HM1.out.at_ hrc).1
  have hs := regS_le r
  have he' : (((e : Nat) : Int) == 0) = true := by rw [he]; rfl
  have HEZ := wall he
  generalize rg b1 b2 b3 b4 b5 r = br at kr
  generalize regS r = s at *
  have i1 : (r : Int) < 6 := by omega
  have i0 : (o : Int) < (s : Int) := by omega
  have is : (s : Int) ≤ 10240 := by omega
  have hn1 : (n : Int) ≤ 1000000 := by omega
  clear HG HW HGE hsp hrc hs he
  by_cases hlt : s < n + o
  ·have HR := wall (show R = (0, 0, 9) by rw [HW2.out, if_pos hlt])
   have i2 : (s : Int) - (o : Int) < (n : Int) := by omega
   clear HW2 hlt hlo
   go_wp2_with fail
   go_light
   go_ret3
   exact ⟨by rw [HR.out]; rfl, HB1.out⟩
  ·have HR := wall (show R = (r, o, 0) by rw [HW2.out, if_neg hlt])
   have i2 : ¬ (s : Int) - (o : Int) < (n : Int) := by omega
   clear HW2 hlt hlo
   go_wp2_with fail
   go_light
   go_ret3
   exact ⟨by rw [HR.out, HEZ.out]; rfl, HB1.out⟩
 ·have HR := wall (show R = (0, 0, e) by rw [HW.out, if_pos (by simpa using he)])
  have HZ := wall (HGE.out he)
  have he' : (((e : Nat) : Int) == 0) = false := by rw [beq_eq_false_iff_ne]; omega
  clear HG HW HGE he
  go_wp2_with fail
  go_light
  go_ret3
  refine ⟨?_, HB1.out⟩
  have hz := HZ.out
  simp only [Prod.mk.injEq, and_true] at hz
  rw [HR.out, hz.1, hz.2]
  rfl
def fuL (vs : List Nat) : List Nat := (List.range 256).map (fuB vs)
structure Sm (w : World) (m b1 b2 b3 b4 b5 : Nat) (v : SpV) (F vs : List Nat) (ls : List Bool) : Prop where
 mf : Mf w m b1 b2 b3 b4 b5 v.st (v.ram.take 4096) (v.ram.drop 4096) F v.prt (fuL vs)
 open_ : ∀ i : Nat, ls[i]? ≠ some true
theorem Sm.old {w w' : World} {m b1 b2 b3 b4 b5 : Nat} {v : SpV} {F vs : List Nat} {ls : List Bool} (h : Sm w m b1 b2 b3 b4 b5 v F vs ls) (hb : Below w.heap.size w w') : Sm w' m b1 b2 b3 b4 b5 v F vs ls := ⟨h.mf.old hb, h.open_⟩
theorem ld_rg {v : SpV} {F vs : List Nat} {ls : List Bool} (hls : ∀ i : Nat, ls[i]? ≠ some true) {who : Int} {a n : Nat} (h0 : n ≠ 0) (h : (wth who v.st a n false).2.2 = 0) :
  ldR v F vs ls who a n = (0, ((rg (v.ram.take 4096) (v.ram.drop 4096) F v.prt (fuL vs) (wth who v.st a n false).1).drop (wth who v.st a n false).2.1).take n) := by
 obtain ⟨hrc, hro⟩ := wth_in h
 unfold ldR
 rw [if_neg h0, if_neg (by simpa using h)]
 generalize (wth who v.st a n false).1 = r at *
 generalize (wth who v.st a n false).2.1 = o at *
 rcases hrc with rfl | rfl | rfl | rfl | rfl
 ·rfl
 ·rfl
 ·rfl
 ·rfl
 ·rw [if_neg (by decide), if_pos rfl, fu_open (fun j _ => hls _)]
  congr 1
  have hro' : o + n ≤ 256 := hro
  show _ = ((fuL vs).drop o).take n
  apply List.ext_getElem?
  intro i
  unfold fuL
  by_cases hi : i < n
  ·rw [List.getElem?_map, List.getElem?_range hi, List.getElem?_take_of_lt hi, List.getElem?_drop, List.getElem?_map, List.getElem?_range (by omega)]
   rfl
  ·rw [List.getElem?_eq_none (by simp; omega), List.getElem?_eq_none (by simp; omega)]
theorem rg_nats {w : World} {b : Nat} {l : List Nat} (h : Blk w b 5 (b8 l)) (hb : ∀ x ∈ l, x < 256) (o : Nat) : Nats .u8 256 w w.heap.size (some ⟨b, o, none⟩) (l.drop o) := fun i x hx => by
 rw [List.getElem?_drop] at hx
 exact ⟨hb x (List.mem_of_getElem? hx), b, o, rfl, h.lt, by rw [h.cell, b8_at hx]⟩
theorem rload_any {m b1 b2 b3 b4 b5 : Nat} (v : SpV) (F vs : List Nat) (ls : List Bool) (who at_ z : Int) (a n : Nat) (w : World) (hM : Sm w m b1 b2 b3 b4 b5 v F vs ls) (ha : at_ = a) (hm : at_ < 4294967296) (hz : z = n) (hn : n ≤ 1000000) :
  Calls Tryz.prog 124 #[.pointer (some ⟨m, 0, none⟩), .int .i64 who, .int .u32 at_, .int .i64 z] w (LdOut (ldR v F vs ls who a n) w) := by
 subst hz
 have HM := wall hM
 have HWI := wall (span_any v.st who at_ a n false w hM.mf ha hm hn)
 unfold W3 at HWI
 have HIN := wall (fun h => wth_in (who := who) (st := v.st) (a := a) (n := n) (wr := false) h)
 have HLD := wall (fun h0 h => ld_rg (v := v) (F := F) (vs := vs) hM.open_ (who := who) (a := a) (n := n) h0 h)
 obtain ⟨R, hR⟩ : ∃ R, ldR v F vs ls who a n = R := ⟨_, rfl⟩
 rw [hR] at HLD
 rw [hR]
 have HR := wall hR
 unfold ldR at HR
 obtain ⟨⟨r, o, e⟩, hre⟩ : ∃ y, wth who v.st a n false = y := ⟨_, rfl⟩
 rw [hre] at HWI HR HIN HLD
 simp only at HWI HR HIN HLD
 have hnn : (n : Int) ≤ 1000000 := by omega
 have HNN := wall hn
 clear hM ha hm hR hre hn
 by_cases h0 : n = 0
 ·have HE := wall (show R = (0, []) by rw [← HR.out, if_pos h0])
  subst h0
  clear HWI HIN HR HLD
  go_enter Tryz.func124, Tryz.ntmps124
  go_wp2_with fail
  go_light
  go_ret2
  refine ⟨_, by rw [HE.out]; rfl, ?_, Below.refl _ _⟩
  rw [HE.out]
  exact World.ownsRow_nil _ _ _ _
 ·have hz0 : ¬ (n : Int) ≤ 0 := by omega
  by_cases he : e = 0
  ·obtain ⟨hrc, hro⟩ := HIN.out he
   have he' : (((e : Nat) : Int) != 0) = false := by rw [he]; rfl
   have HE := wall (HLD.out h0 he)
   have k7 : w.cell? ⟨m, 7, none⟩ = some (.bool false) := by rw [HM.out.mf.k.cell]; rfl
   clear HR HIN HLD h0 he
   go_enter Tryz.func124, Tryz.ntmps124
   go_wp2_with fail
   (with_reducible refine (HWI.out).mono ?_); rintro ee w1 ⟨rfl, hB1⟩
   have HB1 := wall hB1
   have HM1 := wall (HM.out.old hB1)
   clear hB1 HWI HM k7
   have k7 : w1.cell? ⟨m, 7, none⟩ = some (.bool false) := by rw [HM1.out.mf.k.cell]; rfl
   have HAT := wall (HM1.out.mf.at_ hrc)
   have kr := HAT.out.1
   have hs := regS_le r
   obtain ⟨L, hL⟩ : ∃ y, rg (v.ram.take 4096) (v.ram.drop 4096) F v.prt (fuL vs) r = y := ⟨_, rfl⟩
   rw [hL] at HE HAT
   clear hL HM1
   by_cases h5 : r = 5
   ·subst h5
    generalize rg b1 b2 b3 b4 b5 5 = br at *
    generalize regS 5 = s at *
    have i0 : (o : Int) ≤ (s : Int) := by omega
    have is : (s : Int) ≤ 10240 := by omega
    have hso : ¬ s = o := by omega
    have HRO := wall hro
    clear hrc hro hs
    replace kr : w1.cell? ⟨m, 6, none⟩ = some (.slice (some ⟨br, 0, none⟩) s s) := kr
    try simp only [Act.put, rpA, rpB, rpC]
    go_wp2_with fail
    have HCU := wall (cut_any (some ⟨br, o, none⟩) (s - o) (s - o) (L.drop o) (n : Int) n w1 (by rw [List.length_drop, HAT.out.2.2.1]) (Nat.le_trans (Nat.le_trans (Nat.sub_le _ _) (by omega : s ≤ 10240)) (by decide)) rfl HNN.out (rg_nats HAT.out.2.1 HAT.out.2.2.2 o))
    (with_reducible refine (HCU.out).mono ?_); rintro ee w2 ⟨v2, rfl, hO, hB2⟩
    have HO := wall (show OwnB w2 w.heap.size v2 _ from Cln.own_less hO HB1.out.size)
    have HB2 := wall (below_then HB1.out hB2 (Nat.le_refl _))
    clear hO hB2 HCU
    try simp only [Act.put, rpA, rpB, rpC]
    go_wp2_with fail
    go_light
    go_ret2
    refine ⟨_, by rw [HE.out]; rfl, ?_, HB2.out⟩
    rw [HE.out]
    exact HO.out
   ·have h5' : ((r : Int) == 5) = false := by rw [beq_eq_false_iff_ne]; omega
    generalize rg b1 b2 b3 b4 b5 r = br at *
    generalize regS r = s at *
    have i1 : (r : Int) < 6 := by omega
    have i0 : (o : Int) ≤ (s : Int) := by omega
    have is : (s : Int) ≤ 10240 := by omega
    have hso : ¬ s = o := by omega
    have HRO := wall hro
    clear hrc hro hs h5
    try simp only [Act.put, rpA, rpB, rpC]
    go_wp2_with fail
    have HCU := wall (cut_any (some ⟨br, o, none⟩) (s - o) (s - o) (L.drop o) (n : Int) n w1 (by rw [List.length_drop, HAT.out.2.2.1]) (Nat.le_trans (Nat.le_trans (Nat.sub_le _ _) (by omega : s ≤ 10240)) (by decide)) rfl HNN.out (rg_nats HAT.out.2.1 HAT.out.2.2.2 o))
    (with_reducible refine (HCU.out).mono ?_); rintro ee w2 ⟨v2, rfl, hO, hB2⟩
    have HO := wall (show OwnB w2 w.heap.size v2 _ from Cln.own_less hO HB1.out.size)
    have HB2 := wall (below_then HB1.out hB2 (Nat.le_refl _))
    clear hO hB2 HCU
    try simp only [Act.put, rpA, rpB, rpC]
    go_wp2_with fail
    go_light
    go_ret2
    refine ⟨_, by rw [HE.out]; rfl, ?_, HB2.out⟩
    rw [HE.out]
    exact HO.out
  ·have HE := wall (show R = (e, []) by rw [← HR.out, if_neg h0, if_pos (by simpa using he)])
   have he' : (((e : Nat) : Int) != 0) = true := by rw [bne_iff_ne]; omega
   clear HR HIN HLD h0 he
   go_enter Tryz.func124, Tryz.ntmps124
   go_wp2_with fail
   (with_reducible refine (HWI.out).mono ?_); rintro ee w1 ⟨rfl, hB1⟩
   have HB1 := wall hB1
   clear hB1 HWI
   try simp only [Act.put, rpA, rpB, rpC]
   go_wp2_with fail
   go_light
   go_ret2
   refine ⟨_, by rw [HE.out]; rfl, ?_, HB1.out⟩
   rw [HE.out]
   exact World.ownsRow_nil _ _ _ _
theorem splice_snoc_at {l p : List Nat} {o i x : Nat} (h : p[i]? = some x) (hl : o + p.length ≤ l.length) : (splice l o (p.take i)).set (o + i) x = splice l o (p.take (i + 1)) := by
 have hi : i < p.length := (List.getElem?_eq_some_iff.1 h).1
 have e1 : (p.take i).length = i := by rw [List.length_take]; omega
 have e2 : (p.take (i + 1)).length = i + 1 := by rw [List.length_take]; omega
 have e3 : (l.take o).length = o := by rw [List.length_take]; omega
 unfold splice
 rw [e1, e2, take_snoc h, List.set_append_right _ _ (by rw [e3]; omega), e3, List.set_append_right _ _ (by rw [e1]; omega), e1, show o + i - o - i = 0 by omega, List.append_assoc]
 congr 2
 rw [List.drop_eq_getElem_cons (by omega), List.set_cons_zero, show o + i + 1 = o + (i + 1) by omega]
 rfl
theorem splice_nil (l : List Nat) (o : Nat) : splice l o [] = l := by
 unfold splice
 simp
theorem Mf.put {w : World} {m b1 b2 b3 b4 b5 : Nat} {l3 l5 : List Nat} {v : SpV} (hv : v.Ok) {r o : Nat} {p : List Nat} (hr : r = 1 ∨ r = 2 ∨ r = 4) (hp : o + p.length ≤ regS r) {i x : Nat} (hx : p[i]? = some x) (hx8 : x < 256)
  (h : Mf w m b1 b2 b3 b4 b5 v.st ((putB v r o (p.take i)).ram.take 4096) ((putB v r o (p.take i)).ram.drop 4096) l3 (putB v r o (p.take i)).prt l5) :
  Mf (w.setCell ⟨rg b1 b2 b3 b4 b5 r, o + i, none⟩ (.int .u8 (x : Int))) m b1 b2 b3 b4 b5 v.st ((putB v r o (p.take (i + 1))).ram.take 4096) ((putB v r o (p.take (i + 1))).ram.drop 4096) l3 (putB v r o (p.take (i + 1))).prt l5 := by
 have hi : i < p.length := (List.getElem?_eq_some_iff.1 hx).1
 have hrl := hv.rl
 have hpl := hv.pl
 rcases hr with rfl | rfl | rfl
 ·have hp' : o + p.length ≤ 4096 := hp
  have hs := splice_snoc_at (l := v.ram) (o := o) hx (by omega)
  have h2 := h.put1 (o + i) x hx8
  have e1 : (putB v 1 o (p.take (i + 1))).ram = splice v.ram o (p.take (i + 1)) := rfl
  have e2 : (putB v 1 o (p.take i)).ram = splice v.ram o (p.take i) := rfl
  have e3 : (putB v 1 o (p.take (i + 1))).prt = (putB v 1 o (p.take i)).prt := rfl
  rw [e1, e3, ← hs]
  rw [e2] at h2
  rw [List.take_set, List.drop_set_of_lt (by omega)]
  exact h2
 ·have hp' : o + p.length ≤ 4096 := hp
  have hs := splice_snoc_at (l := v.ram) (o := 4096 + o) hx (by omega)
  have h2 := h.put2 (o + i) x hx8
  have e1 : (putB v 2 o (p.take (i + 1))).ram = splice v.ram (4096 + o) (p.take (i + 1)) := rfl
  have e2 : (putB v 2 o (p.take i)).ram = splice v.ram (4096 + o) (p.take i) := rfl
  have e3 : (putB v 2 o (p.take (i + 1))).prt = (putB v 2 o (p.take i)).prt := rfl
  rw [e1, e3, ← hs]
  rw [e2] at h2
  rw [List.take_set_of_le (by omega), List.drop_set, if_neg (by omega), show 4096 + o + i - 4096 = o + i by omega]
  exact h2
 ·have hp' : o + p.length ≤ 64 := hp
  have hs := splice_snoc_at (l := v.prt) (o := o) hx (by omega)
  have h2 := h.put4 (o + i) x hx8
  have e1 : (putB v 4 o (p.take (i + 1))).prt = splice v.prt o (p.take (i + 1)) := rfl
  have e2 : (putB v 4 o (p.take i)).prt = splice v.prt o (p.take i) := rfl
  have e3 : (putB v 4 o (p.take (i + 1))).ram = (putB v 4 o (p.take i)).ram := rfl
  rw [e1, e3, ← hs]
  rw [e2] at h2
  exact h2
theorem putB_nil (v : SpV) (r o : Nat) : putB v r o [] = v := by
 unfold putB
 split
 ·rw [splice_nil]
 ·split
  ·rw [splice_nil]
  ·rw [splice_nil]
def RstOut (m b1 b2 b3 b4 b5 : Nat) (st : Int) (F l5 : List Nat) (R : Nat × SpV) (w : World) (e : Ending) (w' : World) : Prop :=
 e = .returned (.int .i64 (R.1 : Int)) ∧ Mf w' m b1 b2 b3 b4 b5 st (R.2.ram.take 4096) (R.2.ram.drop 4096) F R.2.prt l5 ∧ Frm [b1, b2, b4] w w'
theorem rstore_any {m b1 b2 b3 b4 b5 : Nat} (v : SpV) (hv : v.Ok) (F l5 : List Nat) (who at_ : Int) (a : Nat) (A : Option Addr) (n c : Nat) (p : List Nat) (w : World) (hM : Mf w m b1 b2 b3 b4 b5 v.st (v.ram.take 4096) (v.ram.drop 4096) F v.prt l5) (ha : at_ = a) (hm : at_ < 4294967296) (hl : p.length = n) (hn : n ≤ 1000000) (hp : Nats .u8 256 w w.heap.size A p)
  (hA : ∀ ad : Addr, A = some ad → ad.block ∉ [b1, b2, b4])
  (hreg : (wth who v.st a n true).2.2 = 0 → (wth who v.st a n true).1 = 1 ∨ (wth who v.st a n true).1 = 2 ∨ (wth who v.st a n true).1 = 4) :
  Calls Tryz.prog 26 #[.pointer (some ⟨m, 0, none⟩), .int .i64 who, .int .u32 at_, .slice A n c] w (RstOut m b1 b2 b3 b4 b5 v.st F l5 (stR v who a p) w) := by
 subst hl
 have HV := wall hv
 have HM := wall hM
 have HP := wall hp
 have HA := wall hA
 have HWI := wall (span_any v.st who at_ a p.length true w hM ha hm hn)
 unfold W3 at HWI
 obtain ⟨R, hR⟩ : ∃ R, stR v who a p = R := ⟨_, rfl⟩
 rw [hR]
 have HR := wall hR
 have HIN := wall (fun h => And.intro (hreg h) (wth_in (who := who) (st := v.st) (a := a) (n := p.length) (wr := true) h).2)
 unfold stR at HR
 obtain ⟨⟨r, o, e⟩, hre⟩ : ∃ y, wth who v.st a p.length true = y := ⟨_, rfl⟩
 rw [hre] at HWI HR HIN
 simp only at HWI HR HIN
 obtain ⟨n, hpn⟩ : ∃ n, p.length = n := ⟨_, rfl⟩
 have HL := wall hpn
 rw [hpn] at HWI HR HIN hn ⊢
 have hnn : (n : Int) ≤ 1000000 := by omega
 clear hv hM hp hA ha hm hR hre hn hreg hpn
 by_cases h0 : n = 0
 ·have HE := wall (show R = (0, v) by rw [← HR.out, if_pos h0])
  subst h0
  clear HWI HIN HR
  go_enter Tryz.func26, Tryz.ntmps26
  go_wp2_with fail
  go_light
  go_ret
  rw [HE.out]
  exact ⟨rfl, HM.out, Frm.refl _ _⟩
 ·have hz0 : ((n : Int) == 0) = false := by rw [beq_eq_false_iff_ne]; omega
  by_cases he : e = 0
  ·obtain ⟨hrc, hro⟩ := HIN.out he
   have he' : (((e : Nat) : Int) != 0) = false := by rw [he]; rfl
   have HE := wall (show R = (0, putB v r o p) by rw [← HR.out, if_neg h0, if_neg (by simpa using he)])
   have h3' : ((r : Int) == 3) = false := by rw [beq_eq_false_iff_ne]; omega
   have h5' : ((r : Int) == 5) = false := by rw [beq_eq_false_iff_ne]; omega
   have HRC := wall (And.intro hrc (show o + p.length ≤ regS r by rw [HL.out]; exact hro))
   have hs := regS_le r
   have hr6 : (r : Int) < 6 := by omega
   have hoi : (o : Int) + (n : Int) ≤ 10240 := by omega
   have HRO := wall hro
   clear HR HIN h0 he hro hrc hs
   go_enter Tryz.func26, Tryz.ntmps26
   go_wp2_with fail
   (with_reducible refine (HWI.out).mono ?_); rintro ee w1 ⟨rfl, hB1⟩
   have HB1 := wall hB1
   have HM1 := wall (HM.out.old hB1)
   have HP1 := wall (nats_step HP.out hB1)
   clear hB1 HWI HM HP
   try simp only [Act.put, rpA, rpB, rpC]
   go_wp2_with fail
   go_loopg [48] n (fun gg s48 wr => ∃ i : Nat, i + gg = n ∧ s48 = .int .i64 (i : Int) ∧ w1 = wr)
   case atStart => exact ⟨0, by omega, rfl, rfl⟩
   case round =>
    obtain ⟨i, hg, rfl, rfl⟩ := hrel
    have HG := wall hg
    have hi : i ≤ n := by omega
    clear hg
    by_cases hlt : i < n
    ·have hlt' : (i : Int) < (n : Int) := by omega
     obtain ⟨x, hx⟩ : ∃ x, p[i]? = some x := ⟨_, List.getElem?_eq_getElem (by rw [HL.out]; exact hlt)⟩
     obtain ⟨hx8, gb, ob, hAe, hgl, hc⟩ := HP1.out i x hx
     subst hAe
     have HAT := wall (HM1.out.at_ (r := r) (by have := HRC.out.1; omega))
     have kr := HAT.out.1
     obtain ⟨y, hy⟩ : ∃ y, (rg (v.ram.take 4096) (v.ram.drop 4096) F v.prt l5 r)[o + i]? = some y := ⟨_, List.getElem?_eq_getElem (by rw [HAT.out.2.2.1]; have := HRO.out; omega)⟩
     have kc : w1.cell? ⟨rg b1 b2 b3 b4 b5 r, o + i, none⟩ = some (.int .u8 (y : Int)) := by rw [HAT.out.2.1.cell, b8_at hy]
     generalize rg b1 b2 b3 b4 b5 r = br at *
     have hos : (o : Int) + (i : Int) < (regS r : Int) := by have := HRO.out; omega
     generalize regS r = s at *
     clear hy hx hlt hgl
     go_wp2_with fail
     go_light
     go_roundg (n - (i + 1))
     case measure => have := HG.out; omega
     case rel => exact ⟨i + 1, by have := HG.out; omega, by go_num, rfl⟩
    ·obtain rfl : i = n := by omega
     have hlt' : ¬ (i : Int) < (i : Int) := by omega
     clear hlt hi HG
     go_wp2_with fail
     have hmem : rg b1 b2 b3 b4 b5 r ∈ [b1, b2, b4] := by
      rcases HRC.out.1 with rfl | rfl | rfl <;> simp [rg]
     have HMEM := wall hmem
     clear hmem hlt'
     go_loopg [15] i (fun gg s15 wr => ∃ j : Nat, j + gg = i ∧ s15 = .int .i64 (j : Int) ∧ Wall (Mf wr m b1 b2 b3 b4 b5 v.st ((putB v r o (p.take j)).ram.take 4096) ((putB v r o (p.take j)).ram.drop 4096) F (putB v r o (p.take j)).prt l5 ∧ Nats .u8 256 wr wr.heap.size A p ∧ Frm [b1, b2, b4] w wr))
     case atStart => exact ⟨0, by omega, rfl, wall ⟨by rw [List.take_zero, putB_nil]; exact HM1.out, HP1.out, Frm.of_below HB1.out⟩⟩
     case round =>
      obtain ⟨j, hg, rfl, HQ⟩ := hrel
      have HG := wall hg
      have hj : j ≤ i := by omega
      clear hg
      by_cases hlt : j < i
      ·have hlt' : (j : Int) < (i : Int) := by omega
       obtain ⟨x, hx⟩ : ∃ x, p[j]? = some x := ⟨_, List.getElem?_eq_getElem (by rw [HL.out]; exact hlt)⟩
       obtain ⟨hx8, gb, ob, hAe, hgl, hc⟩ := HQ.out.2.1 j x hx
       subst hAe
       have HAT := wall (HQ.out.1.at_ (r := r) (by have := HRC.out.1; omega))
       have kr := HAT.out.1
       obtain ⟨y, hy⟩ : ∃ y, (rg ((putB v r o (p.take j)).ram.take 4096) ((putB v r o (p.take j)).ram.drop 4096) F (putB v r o (p.take j)).prt l5 r)[o + j]? = some y := ⟨_, List.getElem?_eq_getElem (by rw [HAT.out.2.2.1]; have := HRO.out; omega)⟩
       have kc : wr.cell? ⟨rg b1 b2 b3 b4 b5 r, o + j, none⟩ = some (.int .u8 (y : Int)) := by rw [HAT.out.2.1.cell, b8_at hy]
       have hfz := HAT.out.2.1.frozen
       have hos : (o : Int) + (j : Int) < (regS r : Int) := by have := HRO.out; omega
       have HQD := wall (show Below wr.heap.size wr wr.drew from Below.drew (Below.refl _ _))
       have HND := wall (nats_step HQ.out.2.1 HQD.out)
       have HPX := wall ((HQ.out.1.old HQD.out).put HV.out HRC.out.1 HRC.out.2 hx hx8)
       have hne : gb ≠ rg b1 b2 b3 b4 b5 r := fun h => HA.out _ rfl (by rw [h]; exact HMEM.out)
       obtain ⟨br, hbr⟩ : ∃ y, rg b1 b2 b3 b4 b5 r = y := ⟨_, rfl⟩
       have HNX := wall (show Frm [br] wr.drew (wr.drew.setCell ⟨br, o + j, none⟩ (.int .u8 (x : Int))) from (Frm.refl _ _).setCell (p := ⟨br, o + j, none⟩) (.inl (by simp)) _)
       have HMB := wall (show br ∈ [b1, b2, b4] by rw [← hbr]; exact HMEM.out)
       have HNE := wall (show gb ≠ br by rw [← hbr]; exact hne)
       rw [hbr] at kr kc hfz HPX
       generalize regS r = s at *
       have hw1 : IntKind.i64.wrap ((o : Int) + (j : Int)) = (o : Int) + (j : Int) := by rw [IntKind.wrap_i64]; omega
       have hw2 : 0 ≤ (o : Int) + (j : Int) := by omega
       have hw3 : ((o : Int) + (j : Int)).toNat = o + j := by omega
       clear hy hx hlt hne hbr HAT
       go_wp2_with fail
       go_still_tail 14, (by kernel_rfl)
       change wpList _ _ _ _ _ wr.drew
       go_wp2_with fail
       go_light
       go_roundg (i - (j + 1))
       case measure => have := HG.out; omega
       case rel => exact ⟨j + 1, by have := HG.out; omega, by go_num, wall ⟨HPX.out, nats_frm' HND.out HNX.out (by rintro ad had; cases had; simp; exact HNE.out), (HQ.out.2.2.trans (Frm.of_below HQD.out)).setCell (p := ⟨br, o + j, none⟩) (.inl HMB.out) _⟩⟩
      ·obtain rfl : j = i := by omega
       have hlt' : ¬ (j : Int) < (j : Int) := by omega
       clear hlt hj HG
       go_wp2_with fail
       go_light
       go_ret
       rw [HE.out]
       have hq := HQ.out.1
       have htk : p.take j = p := List.take_of_length_le (by rw [HL.out]; exact Nat.le_refl _)
       rw [htk] at hq
       exact ⟨rfl, hq, HQ.out.2.2⟩
  ·have HE := wall (show R = (e, v) by rw [← HR.out, if_neg h0, if_pos (by simpa using he)])
   have he' : (((e : Nat) : Int) != 0) = true := by rw [bne_iff_ne]; omega
   clear HR HIN h0 he
   go_enter Tryz.func26, Tryz.ntmps26
   go_wp2_with fail
   (with_reducible refine (HWI.out).mono ?_); rintro ee w1 ⟨rfl, hB1⟩
   have HB1 := wall hB1
   clear hB1 HWI
   try simp only [Act.put, rpA, rpB, rpC]
   go_wp2_with fail
   go_light
   go_ret
   rw [HE.out]
   exact ⟨rfl, HM.out.old HB1.out, Frm.of_below HB1.out⟩
end Core
end Go.Proofs.YtmiaabpnolebhaaGreatDoor
