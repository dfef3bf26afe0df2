/-
  Texts of this claim, joined: RcE, RcG.
-/
import Derived.Test.YtmiaabpnolebhaaGreatDoorJ02fb81d0
import Derived.Test.YtmiaabpnolebhaaGreatDoorJdd68b7ba
import Derived.Test.YtmiaabpnolebhaaGreatDoorRvS
set_option maxHeartbeats 4000000
set_option maxRecDepth 100000
set_option linter.unusedSimpArgs false
set_option linter.unusedVariables false
namespace Go.Proofs.YtmiaabpnolebhaaGreatDoor
open Go.RowKit

namespace Core
open Otp Sha Rv Grant Spc R1 Fla
theorem retC_eq (c : Cr) : (nextC ((c.set 33 (c.g 33 / 128 % 2 * 8 + 128)))).set 32 (c.g 37) = retC c := by
 unfold retC nextC
 have e : (c.set 33 (c.g 33 / 128 % 2 * 8 + 128)).g 40 = c.g 40 := Cr.g_set_ne (by decide)
 rw [e]
 unfold Cr.set
 simp only [Cr.mk.injEq, and_true]
 rw [List.set_comm _ _ (show (40 : Nat) ≠ 32 by decide), List.set_set]
theorem landC_ok {c : Cr} (h : c.Ok) (rd z : Nat) (hz : z < 4294967296) : (landC c rd z).Ok := by
 unfold landC
 have h1 := h.with rd ((c.g 32 + 4) % 4294967296) (Nat.mod_lt _ (by decide))
 exact (h1.set 32 z hz).set 40 _ (Nat.mod_lt _ (by decide))
theorem rdo_st (c : Cr) (hc : c.Ok) (i : In) {m b1 b2 b3 b4 b5 : Nat} (u : SpV) (hu : u.Ok) (F l5 : List Nat) (v : Nat) (w : World) (hid : InD i) (hv : v < 4294967296) (hop : 16 ≤ i.op ∧ i.op ≤ 18) (hst : u.st = 1 ∨ u.st = 2) (hM : Mf w m b1 b2 b3 b4 b5 u.st (u.ram.take 4096) (u.ram.drop 4096) F u.prt l5) :
  Calls Tryz.prog 103 #[.agg (crC c), .pointer (some ⟨m, 0, none⟩), .agg (inC i), .int .u32 (v : Int)] w (RresO m b1 b2 b3 b4 b5 u.st F l5 (storeR u c i) w) := by
 have HV := wall hv
 have HOP := wall (And.intro hid.op hop)
 have HM := wall hM
 have HU := wall hu
 have HST := wall hst
 have HLS := wall hM.lts
 clear hM hu hst
 obtain ⟨J, hJ⟩ : ∃ J, storeR u c i = J := ⟨_, rfl⟩
 rw [hJ]
 have HJ := wall hJ.symm
 clear hJ
 clear hv hop
 have HC := wall hc
 have HID := wall hid
 have HF := wall (Ri.new w c i)
 have HZ := wall ref_zero
 obtain ⟨C, hC⟩ : ∃ y, crC c = y := ⟨_, rfl⟩
 obtain ⟨I, hI⟩ : ∃ y, inC i = y := ⟨_, rfl⟩
 obtain ⟨Z, hZ⟩ : ∃ y, crC crZ = y := ⟨_, rfl⟩
 rw [hC, hI, hZ] at HF
 rw [hZ] at HZ
 rw [hC, hI]
 clear hc hid hC hI hZ
 go_enter Tryz.func103, Tryz.ntmps103
 go_upto_region 1 with (first | refine Big.wpList_alloc_at rfl 74 rfl Z HZ.out (w.heap.size + 2) (by simp) ?_)
 try simp only [Act.put, rpA, rpB, rpC]
 refine wp_ri w c i HF.out ?_
 intro w1 h1
 have H1 := wall h1
 clear h1 HF
 have ka := H1.out.a
 have kb := H1.out.b
 have kxa := H1.out.cell HC.out (show i.a < 41 by have := HID.out.a; omega)
 have kxb := H1.out.cell HC.out (show i.b < 41 by have := HID.out.b; omega)
 have ha32 : i.a < 32 := HID.out.a
 have hb32 : i.b < 32 := HID.out.b
 have hl0 : w.heap.size < w1.heap.size := H1.out.c.lt
 have hl1 : w.heap.size + 1 < w1.heap.size := H1.out.i.lt
 obtain ⟨xa, hxa⟩ : ∃ y, c.g i.a = y := ⟨_, rfl⟩
 obtain ⟨xb, hxb⟩ : ∃ y, c.g i.b = y := ⟨_, rfl⟩
 have HXA := wall (And.intro hxa (show xa < 4294967296 by rw [← hxa]; exact HC.out.g _))
 have HXB := wall (And.intro hxb (show xb < 4294967296 by rw [← hxb]; exact HC.out.g _))
 rw [hxa] at kxa
 rw [hxb] at kxb
 clear hxa hxb
 go_wp2_with fail
 refine RelG.wp_region_rel 12 [] (by kernel_rfl) (by kernel_rfl) ?_
 simp only [List.take_succ_cons, List.take_zero, List.drop_succ_cons, List.drop_zero, Act.put, rpA, rpB, rpC]
 repeat (first | (refine RelG.tree_quiet rfl rfl rfl (fun K hK => ?_); go_big_quiet_op; refine hK _ ?_; clear hK K) | ((first | refine RelG.tree_pure rfl rfl rfl (.int .u8 (i.a : Int)) (fun W hW _ => Rel.exec_load1 _ _ rfl (w.heap.size + 1) (2) rfl _ (fun _ => by kernel_rfl) ((hW.undrew.cell (p := ⟨w.heap.size + 1, 2, none⟩) hl1).trans ka)) ?_ | refine RelG.tree_pure rfl rfl rfl (.int .u32 ((xa : Nat) : Int)) (fun W hW _ => Rel.exec_load1 _ _ rfl (w.heap.size) (i.a) rfl _ (fun _ => by kernel_rfl) ((hW.undrew.cell (p := ⟨w.heap.size, i.a, none⟩) hl0).trans kxa)) ?_ | refine RelG.tree_pure rfl rfl rfl (.int .u8 (i.b : Int)) (fun W hW _ => Rel.exec_load1 _ _ rfl (w.heap.size + 1) (3) rfl _ (fun _ => by kernel_rfl) ((hW.undrew.cell (p := ⟨w.heap.size + 1, 3, none⟩) hl1).trans kb)) ?_ | refine RelG.tree_pure rfl rfl rfl (.int .u32 ((xb : Nat) : Int)) (fun W hW _ => Rel.exec_load1 _ _ rfl (w.heap.size) (i.b) rfl _ (fun _ => by kernel_rfl) ((hW.undrew.cell (p := ⟨w.heap.size, i.b, none⟩) hl0).trans kxb)) ?_); simp only [Act.put, rpA, rpB, rpC]))
 intro W2 hW2 _
 have H4 := wall (H1.out.next hW2.undrew)
 have HBW := wall hW2.undrew
 obtain ⟨w2, rfl⟩ : ∃ y : World, y = W2 := ⟨_, rfl⟩
 clear hW2 ka kb kxa kxb ha32 hb32 hl0 hl1 H1
 have kop := H4.out.op
 have hop57 := HOP.out.1
 have hop := HOP.out.2
 have HM4 := wall (HM.out.old (below_then (Below.refl _ w) H4.out.bel (Nat.le_refl _)))
 have HOQ := wall hop
 have HJO := wall (show J.c.Ok by rw [HJ.out]; exact storeR_ok HC.out)
 have HCL := wall (show Calls Tryz.prog 188 #[.agg (crC c), .pointer (some ⟨m, 0, none⟩), .agg (inC i)] w2 (RresO m b1 b2 b3 b4 b5 u.st F l5 J w2) by rw [HJ.out]; exact rstorec_any c HC.out i u HU.out F l5 w2 HID.out HOQ.out HST.out HM4.out)
 have n1 : ((i.op : Int) == 1) = false := by rw [beq_eq_false_iff_ne]; omega
 have n2 : ((i.op : Int) == 2) = false := by rw [beq_eq_false_iff_ne]; omega
 have n3 : ((i.op : Int) == 3) = false := by rw [beq_eq_false_iff_ne]; omega
 have n4 : ((i.op : Int) == 4) = false := by rw [beq_eq_false_iff_ne]; omega
 have l11 : decide ((i.op : Int) < 11) = false := by simp; omega
 have l16 : decide ((i.op : Int) < 16) = false := by simp; omega
 have l19 : decide ((i.op : Int) < 19) = true := by simp; omega
 clear hop hop57
 have HR1 := wall (rrow HC.out)
 have HKC := wall (show Blk w2 w.heap.size 74 (crC c) from H4.out.c)
 have HKI := wall (show Blk w2 (w.heap.size + 1) 212 (inC i) from H4.out.i)
 have HII := wall (show (Tryz.prog.info? 212).map (·.size) = some (inC i).size from inst_info)
 have HR2 := wall (rrow (c := J.c) HJO.out)
 obtain ⟨D, hD⟩ : ∃ y, crC c = y := ⟨_, rfl⟩
 obtain ⟨IJ, hIJ⟩ : ∃ y, inC i = y := ⟨_, rfl⟩
 obtain ⟨D2, hD2⟩ : ∃ y9, crC J.c = y9 := ⟨_, rfl⟩
 obtain ⟨Z9, hZ9⟩ : ∃ y, crC crZ = y := ⟨_, rfl⟩
 have HD2 := wall hD2
 have HZ9 := wall hZ9
 unfold RresO at HCL
 rw [hD, hIJ, hD2] at HCL
 rw [hD] at HKC HR1
 rw [hIJ] at HKI HII
 rw [hD2, hZ9] at HR2
 clear hD hD2 hZ9 hIJ
 go_wp2_with (first | refine wpList_load_row rfl 74 _ rfl w.heap.size rfl 74 D (0, 0) _ HKC.out Tryz.underlying74 rfl HR1.out.1 ?_ | refine wpList_load_row rfl 212 _ rfl (w.heap.size + 1) rfl 212 IJ (0, 0) _ HKI.out Tryz.underlying212 rfl HII.out ?_)
 (with_reducible refine (HCL.out).mono ?_); rintro ee w97 ⟨rfl, hM97, hF97⟩
 have H97 := wall (H4.out.rj.frm hF97 (by have := HLS.out; intro x hx; simp at hx; omega))
 have H97o := wall (show Blk w97 (w.heap.size + 2) 74 Z9 by rw [← HZ9.out]; exact H97.out.o)
 have HM97 := wall hM97
 have HF97 := wall ((Frm.of_below (S := [b1, b2, b4]) H4.out.bel).trans hF97)
 clear hM97 hF97 HCL HKC HKI
 try simp only [Act.put, rpA, rpB, rpC]
 go_wp2_with (refine wpList_set_row rfl 74 (.tmp 8) (.tmp 114) rfl (w.heap.size + 2) D2 rfl rfl 74 Z9 H97o.out HR2.out.1 HR2.out.2.1 HR2.out.2.2 ?_; intro w99 K99 F99)
 have HM99 := wall (by
  have h := HLS.out
  exact HM97.out.frm F99.out (by simp; omega) (by simp; omega) (by simp; omega) (by simp; omega) (by simp; omega) (by simp; omega))
 have HF99 := wall (HF97.out.trans' F99.out (by intro x hx; simp at hx; omega))
 go_light
 exact bodyPost_ret (v := .tuple #[.agg D2, .int .i64 (cz J.t)]) (results_one_slot Tryz.results103 _ _ (w.heap.size + 2) 74 D2 _ (.int .i64 (cz J.t)) rfl rfl K99.out Tryz.underlying74 rfl HR2.out.1) rfl ⟨by rw [HD2.out], HM99.out, HF99.out⟩
theorem pair_res {m b1 b2 b3 b4 b5 : Nat} {u : SpV} {F l5 : List Nat} {R : Cr × Option Nat} {w : World} (hM : Mf w m b1 b2 b3 b4 b5 u.st (u.ram.take 4096) (u.ram.drop 4096) F u.prt l5) (e : Ending) (w' : World) (h : PairO R w e w') : RresO m b1 b2 b3 b4 b5 u.st F l5 (pairR u R) w e w' :=
 ⟨h.1, hM.old h.2, Frm.of_below h.2⟩
theorem rdo_pair (c : Cr) (hc : c.Ok) (i : In) {m b1 b2 b3 b4 b5 : Nat} (u : SpV) (hu : u.Ok) (F vs : List Nat) (ls : List Bool) (v : Nat) (w : World) (hid : InD i) (hv : v < 4294967296) (hop : i.op ≠ 0 ∧ ¬ (16 ≤ i.op ∧ i.op ≤ 18)) (hF : F.length = 10240 ∧ ∀ x ∈ F, x < 256) (hM : Sm w m b1 b2 b3 b4 b5 u F vs ls) :
  Calls Tryz.prog 103 #[.agg (crC c), .pointer (some ⟨m, 0, none⟩), .agg (inC i), .int .u32 (v : Int)] w (PairO (doP u F vs ls c i v) w) := by
 have HV := wall hv
 have HOP := wall (And.intro hid.op hop)
 have HM := wall hM
 have HU := wall hu
 have HFF := wall hF
 clear hM hu hF
 obtain ⟨J, hJ⟩ : ∃ J, doP u F vs ls c i v = J := ⟨_, rfl⟩
 rw [hJ]
 have HJ := wall hJ.symm
 clear hJ
 have HJ0 := wall HJ.out
 unfold doP at HJ0
 clear HJ
 clear hv hop
 have HC := wall hc
 have HID := wall hid
 have HF := wall (Ri.new w c i)
 have HZ := wall ref_zero
 obtain ⟨C, hC⟩ : ∃ y, crC c = y := ⟨_, rfl⟩
 obtain ⟨I, hI⟩ : ∃ y, inC i = y := ⟨_, rfl⟩
 obtain ⟨Z, hZ⟩ : ∃ y, crC crZ = y := ⟨_, rfl⟩
 rw [hC, hI, hZ] at HF
 rw [hZ] at HZ
 rw [hC, hI]
 clear hc hid hC hI hZ
 go_enter Tryz.func103, Tryz.ntmps103
 go_upto_region 1 with (first | refine Big.wpList_alloc_at rfl 74 rfl Z HZ.out (w.heap.size + 2) (by simp) ?_)
 try simp only [Act.put, rpA, rpB, rpC]
 refine wp_ri w c i HF.out ?_
 intro w1 h1
 have H1 := wall h1
 clear h1 HF
 have ka := H1.out.a
 have kb := H1.out.b
 have kxa := H1.out.cell HC.out (show i.a < 41 by have := HID.out.a; omega)
 have kxb := H1.out.cell HC.out (show i.b < 41 by have := HID.out.b; omega)
 have ha32 : i.a < 32 := HID.out.a
 have hb32 : i.b < 32 := HID.out.b
 have hl0 : w.heap.size < w1.heap.size := H1.out.c.lt
 have hl1 : w.heap.size + 1 < w1.heap.size := H1.out.i.lt
 obtain ⟨xa, hxa⟩ : ∃ y, c.g i.a = y := ⟨_, rfl⟩
 obtain ⟨xb, hxb⟩ : ∃ y, c.g i.b = y := ⟨_, rfl⟩
 have HXA := wall (And.intro hxa (show xa < 4294967296 by rw [← hxa]; exact HC.out.g _))
 have HXB := wall (And.intro hxb (show xb < 4294967296 by rw [← hxb]; exact HC.out.g _))
 rw [hxa] at kxa
 rw [hxb] at kxb
 clear hxa hxb
 go_wp2_with fail
 refine RelG.wp_region_rel 12 [] (by kernel_rfl) (by kernel_rfl) ?_
 simp only [List.take_succ_cons, List.take_zero, List.drop_succ_cons, List.drop_zero, Act.put, rpA, rpB, rpC]
 repeat (first | (refine RelG.tree_quiet rfl rfl rfl (fun K hK => ?_); go_big_quiet_op; refine hK _ ?_; clear hK K) | ((first | refine RelG.tree_pure rfl rfl rfl (.int .u8 (i.a : Int)) (fun W hW _ => Rel.exec_load1 _ _ rfl (w.heap.size + 1) (2) rfl _ (fun _ => by kernel_rfl) ((hW.undrew.cell (p := ⟨w.heap.size + 1, 2, none⟩) hl1).trans ka)) ?_ | refine RelG.tree_pure rfl rfl rfl (.int .u32 ((xa : Nat) : Int)) (fun W hW _ => Rel.exec_load1 _ _ rfl (w.heap.size) (i.a) rfl _ (fun _ => by kernel_rfl) ((hW.undrew.cell (p := ⟨w.heap.size, i.a, none⟩) hl0).trans kxa)) ?_ | refine RelG.tree_pure rfl rfl rfl (.int .u8 (i.b : Int)) (fun W hW _ => Rel.exec_load1 _ _ rfl (w.heap.size + 1) (3) rfl _ (fun _ => by kernel_rfl) ((hW.undrew.cell (p := ⟨w.heap.size + 1, 3, none⟩) hl1).trans kb)) ?_ | refine RelG.tree_pure rfl rfl rfl (.int .u32 ((xb : Nat) : Int)) (fun W hW _ => Rel.exec_load1 _ _ rfl (w.heap.size) (i.b) rfl _ (fun _ => by kernel_rfl) ((hW.undrew.cell (p := ⟨w.heap.size, i.b, none⟩) hl0).trans kxb)) ?_); simp only [Act.put, rpA, rpB, rpC]))
 intro W2 hW2 _
 have H4 := wall (H1.out.next hW2.undrew)
 have HBW := wall hW2.undrew
 obtain ⟨w2, rfl⟩ : ∃ y : World, y = W2 := ⟨_, rfl⟩
 clear hW2 ka kb kxa kxb ha32 hb32 hl0 hl1 H1
 have kop := H4.out.op
 have hop57 := HOP.out.1
 have hop := HOP.out.2
 have hop9 := hop
 clear hop
 by_cases h1 : i.op = 1
 ·have HJ := wall (HJ0.out.trans (if_pos h1))
  have hop : i.op = 1 := by omega
  clear HJ0
  have n1 : ((i.op : Int) == 1) = true := by rw [beq_iff_eq]; omega
  clear hop hop57
  have krd := H4.out.rd
  have km := H4.out.imm
  have HCL := wall (fun W => show Calls Tryz.prog 184 #[.agg (crC c), .int .u8 (i.rd : Int), .int .u32 (i.imm : Int)] W (CrOut (nextC (withC c i.rd i.imm)) W) from rseti_any c HC.out i.rd i.imm W HID.out.rd HID.out.imm)
  obtain ⟨D, D2, Z9, hD, HD2, HZ9, HR1, HR2⟩ := prep (c2 := nextC (withC c i.rd i.imm)) HC.out ((HC.out.with i.rd i.imm HID.out.imm).next)
  unfold CrOut at HCL
  rw [hD, HD2.out] at HCL
  have HKC := wall (show Blk _ w.heap.size 74 D by rw [← hD]; exact H4.out.c)
  clear hD
  go_wp2_with (refine wpList_load_row rfl 74 _ rfl w.heap.size rfl 74 D (0, 0) _ HKC.out Tryz.underlying74 rfl HR1.out ?_)
  (with_reducible refine (HCL.out _).mono ?_); rintro ee w97 ⟨rfl, hB97⟩
  have H97 := wall (H4.out.next hB97)
  have H97o := wall (show Blk w97 (w.heap.size + 2) 74 Z9 by rw [← HZ9.out]; exact H97.out.o)
  clear hB97 HCL HKC
  try simp only [Act.put, rpA, rpB, rpC]
  go_wp2_with (refine wpList_set_row rfl 74 (.tmp 8) (.tmp 37) rfl (w.heap.size + 2) D2 rfl rfl 74 Z9 H97o.out HR2.out.1 HR2.out.2.1 HR2.out.2.2 ?_; intro w99 K99 F99)
  have H99 := wall (Below.frm H97.out.bel F99.out (Nat.le_refl _) (by simp))
  go_light
  exact bodyPost_ret (v := .tuple #[.agg D2, .int .i64 (-1)]) (results_one_slot Tryz.results103 _ _ (w.heap.size + 2) 74 D2 _ (.int .i64 (-1)) rfl rfl K99.out Tryz.underlying74 rfl HR2.out.1) rfl ⟨by rw [show J.1 = nextC (withC c i.rd i.imm) from by rw [HJ.out], show J.2 = none from by rw [HJ.out], HD2.out]; rfl, H99.out⟩
 replace HJ0 := wall (HJ0.out.trans (if_neg h1))
 by_cases h2 : i.op = 2
 ·have HJ := wall (HJ0.out.trans (if_pos h2))
  have hop : i.op = 2 := by omega
  clear HJ0
  have n1 : ((i.op : Int) == 1) = false := by rw [beq_eq_false_iff_ne]; omega
  have n2 : ((i.op : Int) == 2) = true := by rw [beq_iff_eq]; omega
  clear hop hop57
  have krd := H4.out.rd
  have km := H4.out.imm
  have k32 := H4.out.cell HC.out (show 32 < 41 by decide)
  obtain ⟨s32, hs32⟩ : ∃ y, c.g 32 = y := ⟨_, rfl⟩
  obtain ⟨z, hze⟩ : ∃ z, (c.g 32 + i.imm) % 4294967296 = z := ⟨_, rfl⟩
  have hz : ((s32 : Int) + (i.imm : Int)) % 4294967296 = (z : Int) := by rw [← hze, ← hs32]; omega
  have HZL := wall (show z < 4294967296 by rw [← hze]; exact Nat.mod_lt _ (by decide))
  rw [hs32] at k32
  rw [hze] at HJ
  clear hze hs32
  have HCL := wall (fun W => show Calls Tryz.prog 184 #[.agg (crC c), .int .u8 (i.rd : Int), .int .u32 (z : Int)] W (CrOut (nextC (withC c i.rd z)) W) from rseti_any c HC.out i.rd z W HID.out.rd HZL.out)
  obtain ⟨D, D2, Z9, hD, HD2, HZ9, HR1, HR2⟩ := prep (c2 := nextC (withC c i.rd z)) HC.out ((HC.out.with i.rd z HZL.out).next)
  unfold CrOut at HCL
  rw [hD, HD2.out] at HCL
  have HKC := wall (show Blk _ w.heap.size 74 D by rw [← hD]; exact H4.out.c)
  clear hD
  go_wp2_with (refine wpList_load_row rfl 74 _ rfl w.heap.size rfl 74 D (0, 0) _ HKC.out Tryz.underlying74 rfl HR1.out ?_)
  (with_reducible refine (HCL.out _).mono ?_); rintro ee w97 ⟨rfl, hB97⟩
  have H97 := wall (H4.out.next hB97)
  have H97o := wall (show Blk w97 (w.heap.size + 2) 74 Z9 by rw [← HZ9.out]; exact H97.out.o)
  clear hB97 HCL HKC
  try simp only [Act.put, rpA, rpB, rpC]
  go_wp2_with (refine wpList_set_row rfl 74 (.tmp 8) (.tmp 49) rfl (w.heap.size + 2) D2 rfl rfl 74 Z9 H97o.out HR2.out.1 HR2.out.2.1 HR2.out.2.2 ?_; intro w99 K99 F99)
  have H99 := wall (Below.frm H97.out.bel F99.out (Nat.le_refl _) (by simp))
  go_light
  exact bodyPost_ret (v := .tuple #[.agg D2, .int .i64 (-1)]) (results_one_slot Tryz.results103 _ _ (w.heap.size + 2) 74 D2 _ (.int .i64 (-1)) rfl rfl K99.out Tryz.underlying74 rfl HR2.out.1) rfl ⟨by rw [show J.1 = nextC (withC c i.rd z) from by rw [HJ.out], show J.2 = none from by rw [HJ.out], HD2.out]; rfl, H99.out⟩
 replace HJ0 := wall (HJ0.out.trans (if_neg h2))
 by_cases h3 : i.op = 3
 ·have HJ := wall (HJ0.out.trans (if_pos h3))
  have hop : i.op = 3 := by omega
  clear HJ0
  have n1 : ((i.op : Int) == 1) = false := by rw [beq_eq_false_iff_ne]; omega
  have n2 : ((i.op : Int) == 2) = false := by rw [beq_eq_false_iff_ne]; omega
  have n4 : ((i.op : Int) == 4) = false := by rw [beq_eq_false_iff_ne]; omega
  have n3 : ((i.op : Int) == 3) = true := by rw [beq_iff_eq]; omega
  have km := H4.out.imm
  have krd := H4.out.rd
  have k32 := H4.out.cell HC.out (show 32 < 41 by decide)
  obtain ⟨s32, hs32⟩ : ∃ y, c.g 32 = y := ⟨_, rfl⟩
  rw [hs32] at k32
  obtain ⟨z, hze⟩ : ∃ z, (c.g 32 + i.imm) % 4294967296 = z := ⟨_, rfl⟩
  have hz : ((s32 : Int) + (i.imm : Int)) % 4294967296 = (z : Int) := by rw [← hze, ← hs32]; omega
  have HZL := wall (show z < 4294967296 by rw [← hze]; exact Nat.mod_lt _ (by decide))
  have HLO := wall (landC_ok HC.out i.rd z HZL.out)
  rw [hze] at HJ
  clear hze hs32
  clear hop hop57
  go_upto_region 12 with fail
  by_cases h4 : z % 4 = 0
  ·have hm : ((z : Int) % 4 != 0) = false := by
    have : (z : Int) % 4 = 0 := by omega
    rw [this]; rfl
   have HJ2 := wall (show J = (landC c i.rd z, none) from by rw [HJ.out]; unfold jumpR; rw [if_neg (by omega)])
   have H4Z := wall h4
   clear h4 HJ
   have HCL := wall (fun W => show Calls Tryz.prog 186 #[.agg (crC c), .int .u8 (i.rd : Int), .int .u32 (z : Int)] W (CrOut (landC c i.rd z) W) from rjump_any c HC.out i.rd z W HID.out.rd HZL.out H4Z.out)
   obtain ⟨D, D2, Z9, hD, HD2, HZ9, HR1, HR2⟩ := prep (c2 := landC c i.rd z) HC.out (HLO.out)
   unfold CrOut at HCL
   rw [hD, HD2.out] at HCL
   have HKC := wall (show Blk _ w.heap.size 74 D by rw [← hD]; exact H4.out.c)
   clear hD
   go_wp2_with (refine wpList_load_row rfl 74 _ rfl w.heap.size rfl 74 D (0, 0) _ HKC.out Tryz.underlying74 rfl HR1.out ?_)
   (with_reducible refine (HCL.out _).mono ?_); rintro ee w97 ⟨rfl, hB97⟩
   have H97 := wall (H4.out.next hB97)
   have H97o := wall (show Blk w97 (w.heap.size + 2) 74 Z9 by rw [← HZ9.out]; exact H97.out.o)
   clear hB97 HCL HKC
   try simp only [Act.put, rpA, rpB, rpC]
   go_wp2_with (refine wpList_set_row rfl 74 (.tmp 8) (.tmp 92) rfl (w.heap.size + 2) D2 rfl rfl 74 Z9 H97o.out HR2.out.1 HR2.out.2.1 HR2.out.2.2 ?_; intro w99 K99 F99)
   have H99 := wall (Below.frm H97.out.bel F99.out (Nat.le_refl _) (by simp))
   go_light
   exact bodyPost_ret (v := .tuple #[.agg D2, .int .i64 (-1)]) (results_one_slot Tryz.results103 _ _ (w.heap.size + 2) 74 D2 _ (.int .i64 (-1)) rfl rfl K99.out Tryz.underlying74 rfl HR2.out.1) rfl ⟨by rw [show J.1 = landC c i.rd z from by rw [HJ2.out], show J.2 = none from by rw [HJ2.out], HD2.out]; rfl, H99.out⟩
  ·have hm : ((z : Int) % 4 != 0) = true := by rw [bne_iff_ne]; omega
   have HJ2 := wall (show J = trR c 0 z from by rw [HJ.out]; unfold jumpR; rw [if_pos h4])
   clear h4 HJ
   have HCL := wall (fun W => show Calls Tryz.prog 100 #[.agg (crC c), .int .u32 0, .int .u32 (z : Int)] W (CrOut (trapC c 0 z) W) from rtrap_any c HC.out 0 z W (by decide) HZL.out)
   obtain ⟨D, D2, Z9, hD, HD2, HZ9, HR1, HR2⟩ := prep (c2 := trapC c 0 z) HC.out (Cr.Ok.trap HC.out (by decide) HZL.out)
   unfold CrOut at HCL
   rw [hD, HD2.out] at HCL
   have HKC := wall (show Blk _ w.heap.size 74 D by rw [← hD]; exact H4.out.c)
   clear hD
   go_wp2_with (refine wpList_load_row rfl 74 _ rfl w.heap.size rfl 74 D (0, 0) _ HKC.out Tryz.underlying74 rfl HR1.out ?_)
   (with_reducible refine (HCL.out _).mono ?_); rintro ee w97 ⟨rfl, hB97⟩
   have H97 := wall (H4.out.next hB97)
   have H97o := wall (show Blk w97 (w.heap.size + 2) 74 Z9 by rw [← HZ9.out]; exact H97.out.o)
   clear hB97 HCL HKC
   try simp only [Act.put, rpA, rpB, rpC]
   go_wp2_with (refine wpList_set_row rfl 74 (.tmp 8) (.tmp 87) rfl (w.heap.size + 2) D2 rfl rfl 74 Z9 H97o.out HR2.out.1 HR2.out.2.1 HR2.out.2.2 ?_; intro w99 K99 F99)
   have H99 := wall (Below.frm H97.out.bel F99.out (Nat.le_refl _) (by simp))
   go_light
   exact bodyPost_ret (v := .tuple #[.agg D2, .int .i64 0]) (results_one_slot Tryz.results103 _ _ (w.heap.size + 2) 74 D2 _ (.int .i64 0) rfl rfl K99.out Tryz.underlying74 rfl HR2.out.1) rfl ⟨by rw [show J.1 = trapC c 0 z from by rw [HJ2.out]; rfl, show J.2 = some 0 from by rw [HJ2.out]; rfl, HD2.out]; rfl, H99.out⟩
 replace HJ0 := wall (HJ0.out.trans (if_neg h3))
 by_cases h4 : i.op = 4
 ·have HJ := wall (HJ0.out.trans (if_pos h4))
  have hop : i.op = 4 := by omega
  clear HJ0
  have n1 : ((i.op : Int) == 1) = false := by rw [beq_eq_false_iff_ne]; omega
  have n2 : ((i.op : Int) == 2) = false := by rw [beq_eq_false_iff_ne]; omega
  have n3 : ((i.op : Int) == 3) = false := by rw [beq_eq_false_iff_ne]; omega
  have n4 : ((i.op : Int) == 4) = true := by rw [beq_iff_eq]; omega
  have km := H4.out.imm
  have krd := H4.out.rd
  have k32 := H4.out.cell HC.out (show 32 < 41 by decide)
  obtain ⟨s32, hs32⟩ : ∃ y, c.g 32 = y := ⟨_, rfl⟩
  rw [hs32] at k32
  obtain ⟨y, hye⟩ : ∃ y, (c.g i.a + i.imm) % 4294967296 = y := ⟨_, rfl⟩
  have hy : ((xa : Int) + (i.imm : Int)) % 4294967296 = (y : Int) := by rw [← hye, ← HXA.out.1]; omega
  have hyl : y < 4294967296 := by rw [← hye]; exact Nat.mod_lt _ (by decide)
  rw [hye] at HJ
  clear hye hs32
  obtain ⟨z, hze⟩ : ∃ z, y - y % 2 = z := ⟨_, rfl⟩
  have hz1 : (y : Int) % 2 ≤ (y : Int) := by omega
  have hz : (y : Int) - (y : Int) % 2 = (z : Int) := by omega
  have hz2 : ((y : Int) - (y : Int) % 2) % 4294967296 = (z : Int) := by omega
  have HZL := wall (show z < 4294967296 by omega)
  have HLO := wall (landC_ok HC.out i.rd z HZL.out)
  rw [hze] at HJ
  clear hze hyl
  clear hop hop57
  go_upto_region 12 with fail
  by_cases h4 : z % 4 = 0
  ·have hm : ((z : Int) % 4 != 0) = false := by
    have : (z : Int) % 4 = 0 := by omega
    rw [this]; rfl
   have HJ2 := wall (show J = (landC c i.rd z, none) from by rw [HJ.out]; unfold jumpR; rw [if_neg (by omega)])
   have H4Z := wall h4
   clear h4 HJ
   have HCL := wall (fun W => show Calls Tryz.prog 186 #[.agg (crC c), .int .u8 (i.rd : Int), .int .u32 (z : Int)] W (CrOut (landC c i.rd z) W) from rjump_any c HC.out i.rd z W HID.out.rd HZL.out H4Z.out)
   obtain ⟨D, D2, Z9, hD, HD2, HZ9, HR1, HR2⟩ := prep (c2 := landC c i.rd z) HC.out (HLO.out)
   unfold CrOut at HCL
   rw [hD, HD2.out] at HCL
   have HKC := wall (show Blk _ w.heap.size 74 D by rw [← hD]; exact H4.out.c)
   clear hD
   go_wp2_with (refine wpList_load_row rfl 74 _ rfl w.heap.size rfl 74 D (0, 0) _ HKC.out Tryz.underlying74 rfl HR1.out ?_)
   (with_reducible refine (HCL.out _).mono ?_); rintro ee w97 ⟨rfl, hB97⟩
   have H97 := wall (H4.out.next hB97)
   have H97o := wall (show Blk w97 (w.heap.size + 2) 74 Z9 by rw [← HZ9.out]; exact H97.out.o)
   clear hB97 HCL HKC
   try simp only [Act.put, rpA, rpB, rpC]
   go_wp2_with (refine wpList_set_row rfl 74 (.tmp 8) (.tmp 92) rfl (w.heap.size + 2) D2 rfl rfl 74 Z9 H97o.out HR2.out.1 HR2.out.2.1 HR2.out.2.2 ?_; intro w99 K99 F99)
   have H99 := wall (Below.frm H97.out.bel F99.out (Nat.le_refl _) (by simp))
   go_light
   exact bodyPost_ret (v := .tuple #[.agg D2, .int .i64 (-1)]) (results_one_slot Tryz.results103 _ _ (w.heap.size + 2) 74 D2 _ (.int .i64 (-1)) rfl rfl K99.out Tryz.underlying74 rfl HR2.out.1) rfl ⟨by rw [show J.1 = landC c i.rd z from by rw [HJ2.out], show J.2 = none from by rw [HJ2.out], HD2.out]; rfl, H99.out⟩
  ·have hm : ((z : Int) % 4 != 0) = true := by rw [bne_iff_ne]; omega
   have HJ2 := wall (show J = trR c 0 z from by rw [HJ.out]; unfold jumpR; rw [if_pos h4])
   clear h4 HJ
   have HCL := wall (fun W => show Calls Tryz.prog 100 #[.agg (crC c), .int .u32 0, .int .u32 (z : Int)] W (CrOut (trapC c 0 z) W) from rtrap_any c HC.out 0 z W (by decide) HZL.out)
   obtain ⟨D, D2, Z9, hD, HD2, HZ9, HR1, HR2⟩ := prep (c2 := trapC c 0 z) HC.out (Cr.Ok.trap HC.out (by decide) HZL.out)
   unfold CrOut at HCL
   rw [hD, HD2.out] at HCL
   have HKC := wall (show Blk _ w.heap.size 74 D by rw [← hD]; exact H4.out.c)
   clear hD
   go_wp2_with (refine wpList_load_row rfl 74 _ rfl w.heap.size rfl 74 D (0, 0) _ HKC.out Tryz.underlying74 rfl HR1.out ?_)
   (with_reducible refine (HCL.out _).mono ?_); rintro ee w97 ⟨rfl, hB97⟩
   have H97 := wall (H4.out.next hB97)
   have H97o := wall (show Blk w97 (w.heap.size + 2) 74 Z9 by rw [← HZ9.out]; exact H97.out.o)
   clear hB97 HCL HKC
   try simp only [Act.put, rpA, rpB, rpC]
   go_wp2_with (refine wpList_set_row rfl 74 (.tmp 8) (.tmp 87) rfl (w.heap.size + 2) D2 rfl rfl 74 Z9 H97o.out HR2.out.1 HR2.out.2.1 HR2.out.2.2 ?_; intro w99 K99 F99)
   have H99 := wall (Below.frm H97.out.bel F99.out (Nat.le_refl _) (by simp))
   go_light
   exact bodyPost_ret (v := .tuple #[.agg D2, .int .i64 0]) (results_one_slot Tryz.results103 _ _ (w.heap.size + 2) 74 D2 _ (.int .i64 0) rfl rfl K99.out Tryz.underlying74 rfl HR2.out.1) rfl ⟨by rw [show J.1 = trapC c 0 z from by rw [HJ2.out]; rfl, show J.2 = some 0 from by rw [HJ2.out]; rfl, HD2.out]; rfl, H99.out⟩
 replace HJ0 := wall (HJ0.out.trans (if_neg h4))
 by_cases h10 : i.op ≤ 10
 ·have HJB := wall (HJ0.out.trans (if_pos h10))
  unfold branchR at HJB
  clear HJ0
  cases ht : takesN i.op (c.g i.a) (c.g i.b) with
  | true =>
   have hop : (5 ≤ i.op ∧ i.op ≤ 10) ∧ takesN i.op (c.g i.a) (c.g i.b) = true := ⟨by omega, ht⟩
   have HJ := wall (HJB.out.trans (if_pos ht))
   clear HJB ht
   have HTK := wall (rtakes_any i.op xa xb (by omega) (by omega) w2 HXA.out.2 HXB.out.2)
   rw [show takesN i.op xa xb = true from by rw [← HXA.out.1, ← HXB.out.1]; exact hop.2] at HTK
   have n1 : ((i.op : Int) == 1) = false := by rw [beq_eq_false_iff_ne]; omega
   have n2 : ((i.op : Int) == 2) = false := by rw [beq_eq_false_iff_ne]; omega
   have n3 : ((i.op : Int) == 3) = false := by rw [beq_eq_false_iff_ne]; omega
   have n4 : ((i.op : Int) == 4) = false := by rw [beq_eq_false_iff_ne]; omega
   have l11 : decide ((i.op : Int) < 11) = true := by simp; omega
   have km := H4.out.imm
   have krd := H4.out.rd
   have k32 := H4.out.cell HC.out (show 32 < 41 by decide)
   obtain ⟨s32, hs32⟩ : ∃ y, c.g 32 = y := ⟨_, rfl⟩
   rw [hs32] at k32
   obtain ⟨z, hze⟩ : ∃ z, (c.g 32 + i.imm) % 4294967296 = z := ⟨_, rfl⟩
   have hz : ((s32 : Int) + (i.imm : Int)) % 4294967296 = (z : Int) := by rw [← hze, ← hs32]; omega
   have HZL := wall (show z < 4294967296 by rw [← hze]; exact Nat.mod_lt _ (by decide))
   have HLO := wall (landC_ok HC.out i.rd z HZL.out)
   rw [hze] at HJ
   clear hze hs32
   clear hop hop57
   go_wp2_with fail
   (with_reducible refine (HTK.out).mono ?_); rintro ee w3 ⟨rfl, rfl⟩
   clear HTK
   try simp only [Act.put, rpA, rpB, rpC]
   go_upto_region 12 with fail
   by_cases h4 : z % 4 = 0
   ·have hm : ((z : Int) % 4 != 0) = false := by
     have : (z : Int) % 4 = 0 := by omega
     rw [this]; rfl
    have HJ2 := wall (show J = (landC c i.rd z, none) from by rw [HJ.out]; unfold jumpR; rw [if_neg (by omega)])
    have H4Z := wall h4
    clear h4 HJ
    have HCL := wall (fun W => show Calls Tryz.prog 186 #[.agg (crC c), .int .u8 (i.rd : Int), .int .u32 (z : Int)] W (CrOut (landC c i.rd z) W) from rjump_any c HC.out i.rd z W HID.out.rd HZL.out H4Z.out)
    obtain ⟨D, D2, Z9, hD, HD2, HZ9, HR1, HR2⟩ := prep (c2 := landC c i.rd z) HC.out (HLO.out)
    unfold CrOut at HCL
    rw [hD, HD2.out] at HCL
    have HKC := wall (show Blk _ w.heap.size 74 D by rw [← hD]; exact H4.out.c)
    clear hD
    go_wp2_with (refine wpList_load_row rfl 74 _ rfl w.heap.size rfl 74 D (0, 0) _ HKC.out Tryz.underlying74 rfl HR1.out ?_)
    (with_reducible refine (HCL.out _).mono ?_); rintro ee w97 ⟨rfl, hB97⟩
    have H97 := wall (H4.out.next hB97)
    have H97o := wall (show Blk w97 (w.heap.size + 2) 74 Z9 by rw [← HZ9.out]; exact H97.out.o)
    clear hB97 HCL HKC
    try simp only [Act.put, rpA, rpB, rpC]
    go_wp2_with (refine wpList_set_row rfl 74 (.tmp 8) (.tmp 92) rfl (w.heap.size + 2) D2 rfl rfl 74 Z9 H97o.out HR2.out.1 HR2.out.2.1 HR2.out.2.2 ?_; intro w99 K99 F99)
    have H99 := wall (Below.frm H97.out.bel F99.out (Nat.le_refl _) (by simp))
    go_light
    exact bodyPost_ret (v := .tuple #[.agg D2, .int .i64 (-1)]) (results_one_slot Tryz.results103 _ _ (w.heap.size + 2) 74 D2 _ (.int .i64 (-1)) rfl rfl K99.out Tryz.underlying74 rfl HR2.out.1) rfl ⟨by rw [show J.1 = landC c i.rd z from by rw [HJ2.out], show J.2 = none from by rw [HJ2.out], HD2.out]; rfl, H99.out⟩
   ·have hm : ((z : Int) % 4 != 0) = true := by rw [bne_iff_ne]; omega
    have HJ2 := wall (show J = trR c 0 z from by rw [HJ.out]; unfold jumpR; rw [if_pos h4])
    clear h4 HJ
    have HCL := wall (fun W => show Calls Tryz.prog 100 #[.agg (crC c), .int .u32 0, .int .u32 (z : Int)] W (CrOut (trapC c 0 z) W) from rtrap_any c HC.out 0 z W (by decide) HZL.out)
    obtain ⟨D, D2, Z9, hD, HD2, HZ9, HR1, HR2⟩ := prep (c2 := trapC c 0 z) HC.out (Cr.Ok.trap HC.out (by decide) HZL.out)
    unfold CrOut at HCL
    rw [hD, HD2.out] at HCL
    have HKC := wall (show Blk _ w.heap.size 74 D by rw [← hD]; exact H4.out.c)
    clear hD
    go_wp2_with (refine wpList_load_row rfl 74 _ rfl w.heap.size rfl 74 D (0, 0) _ HKC.out Tryz.underlying74 rfl HR1.out ?_)
    (with_reducible refine (HCL.out _).mono ?_); rintro ee w97 ⟨rfl, hB97⟩
    have H97 := wall (H4.out.next hB97)
    have H97o := wall (show Blk w97 (w.heap.size + 2) 74 Z9 by rw [← HZ9.out]; exact H97.out.o)
    clear hB97 HCL HKC
    try simp only [Act.put, rpA, rpB, rpC]
    go_wp2_with (refine wpList_set_row rfl 74 (.tmp 8) (.tmp 87) rfl (w.heap.size + 2) D2 rfl rfl 74 Z9 H97o.out HR2.out.1 HR2.out.2.1 HR2.out.2.2 ?_; intro w99 K99 F99)
    have H99 := wall (Below.frm H97.out.bel F99.out (Nat.le_refl _) (by simp))
    go_light
    exact bodyPost_ret (v := .tuple #[.agg D2, .int .i64 0]) (results_one_slot Tryz.results103 _ _ (w.heap.size + 2) 74 D2 _ (.int .i64 0) rfl rfl K99.out Tryz.underlying74 rfl HR2.out.1) rfl ⟨by rw [show J.1 = trapC c 0 z from by rw [HJ2.out]; rfl, show J.2 = some 0 from by rw [HJ2.out]; rfl, HD2.out]; rfl, H99.out⟩
  | false =>
   have hop : (5 ≤ i.op ∧ i.op ≤ 10) ∧ takesN i.op (c.g i.a) (c.g i.b) = false := ⟨by omega, ht⟩
   have HJ := wall (HJB.out.trans (if_neg (by rw [ht]; decide)))
   clear HJB ht
   have HTK := wall (rtakes_any i.op xa xb (by omega) (by omega) w2 HXA.out.2 HXB.out.2)
   rw [show takesN i.op xa xb = false from by rw [← HXA.out.1, ← HXB.out.1]; exact hop.2] at HTK
   have n1 : ((i.op : Int) == 1) = false := by rw [beq_eq_false_iff_ne]; omega
   have n2 : ((i.op : Int) == 2) = false := by rw [beq_eq_false_iff_ne]; omega
   have n3 : ((i.op : Int) == 3) = false := by rw [beq_eq_false_iff_ne]; omega
   have n4 : ((i.op : Int) == 4) = false := by rw [beq_eq_false_iff_ne]; omega
   have l11 : decide ((i.op : Int) < 11) = true := by simp; omega
   clear hop hop57
   go_wp2_with fail
   (with_reducible refine (HTK.out).mono ?_); rintro ee w3 ⟨rfl, rfl⟩
   clear HTK
   try simp only [Act.put, rpA, rpB, rpC]
   have HCL := wall (fun W => show Calls Tryz.prog 184 #[.agg (crC c), .int .u8 0, .int .u32 0] W (CrOut (nextC (withC c 0 0)) W) from rseti_any c HC.out 0 0 W (by decide) (by decide))
   obtain ⟨D, D2, Z9, hD, HD2, HZ9, HR1, HR2⟩ := prep (c2 := nextC (withC c 0 0)) HC.out ((HC.out.with 0 0 (by decide)).next)
   unfold CrOut at HCL
   rw [hD, HD2.out] at HCL
   have HKC := wall (show Blk _ w.heap.size 74 D by rw [← hD]; exact H4.out.c)
   clear hD
   go_wp2_with (refine wpList_load_row rfl 74 _ rfl w.heap.size rfl 74 D (0, 0) _ HKC.out Tryz.underlying74 rfl HR1.out ?_)
   (with_reducible refine (HCL.out _).mono ?_); rintro ee w97 ⟨rfl, hB97⟩
   have H97 := wall (H4.out.next hB97)
   have H97o := wall (show Blk w97 (w.heap.size + 2) 74 Z9 by rw [← HZ9.out]; exact H97.out.o)
   clear hB97 HCL HKC
   try simp only [Act.put, rpA, rpB, rpC]
   go_wp2_with (refine wpList_set_row rfl 74 (.tmp 8) (.tmp 97) rfl (w.heap.size + 2) D2 rfl rfl 74 Z9 H97o.out HR2.out.1 HR2.out.2.1 HR2.out.2.2 ?_; intro w99 K99 F99)
   have H99 := wall (Below.frm H97.out.bel F99.out (Nat.le_refl _) (by simp))
   go_light
   exact bodyPost_ret (v := .tuple #[.agg D2, .int .i64 (-1)]) (results_one_slot Tryz.results103 _ _ (w.heap.size + 2) 74 D2 _ (.int .i64 (-1)) rfl rfl K99.out Tryz.underlying74 rfl HR2.out.1) rfl ⟨by rw [show J.1 = nextC (withC c 0 0) from by rw [HJ.out]; rfl, show J.2 = none from by rw [HJ.out], HD2.out]; rfl, H99.out⟩
 replace HJ0 := wall (HJ0.out.trans (if_neg h10))
 by_cases h15 : i.op ≤ 15
 ·have HJ := wall (HJ0.out.trans (if_pos h15))
  have hop : 11 ≤ i.op ∧ i.op ≤ 15 := by omega
  clear HJ0
  have HM4 := wall (HM.out.old (below_then (Below.refl _ w) H4.out.bel (Nat.le_refl _)))
  have HOQ := wall hop
  have HJO := wall (show J.1.Ok by rw [HJ.out]; exact loadR_ok HC.out HU.out HFF.out.1 HFF.out.2)
  have HCQ := wall (show Calls Tryz.prog 187 #[.agg (crC c), .pointer (some ⟨m, 0, none⟩), .agg (inC i)] w2 (PairO J w2) by rw [HJ.out]; exact rloadc_any c HC.out i u HU.out F vs ls w2 HID.out HOQ.out HFF.out HM4.out)
  have n1 : ((i.op : Int) == 1) = false := by rw [beq_eq_false_iff_ne]; omega
  have n2 : ((i.op : Int) == 2) = false := by rw [beq_eq_false_iff_ne]; omega
  have n3 : ((i.op : Int) == 3) = false := by rw [beq_eq_false_iff_ne]; omega
  have n4 : ((i.op : Int) == 4) = false := by rw [beq_eq_false_iff_ne]; omega
  have l11 : decide ((i.op : Int) < 11) = false := by simp; omega
  have l16 : decide ((i.op : Int) < 16) = true := by simp; omega
  clear hop hop57
  have HR1 := wall (rrow HC.out)
  have HKC := wall (show Blk w2 w.heap.size 74 (crC c) from H4.out.c)
  have HKI := wall (show Blk w2 (w.heap.size + 1) 212 (inC i) from H4.out.i)
  have HII := wall (show (Tryz.prog.info? 212).map (·.size) = some (inC i).size from inst_info)
  have HCL := HCQ
  have HR2 := wall (rrow (c := J.1) HJO.out)
  obtain ⟨D, hD⟩ : ∃ y, crC c = y := ⟨_, rfl⟩
  obtain ⟨IJ, hIJ⟩ : ∃ y, inC i = y := ⟨_, rfl⟩
  obtain ⟨D2, hD2⟩ : ∃ y9, crC J.1 = y9 := ⟨_, rfl⟩
  obtain ⟨Z9, hZ9⟩ : ∃ y, crC crZ = y := ⟨_, rfl⟩
  have HD2 := wall hD2
  have HZ9 := wall hZ9
  unfold PairO at HCL
  rw [hD, hIJ, hD2] at HCL
  rw [hD] at HKC HR1
  rw [hIJ] at HKI HII
  rw [hD2, hZ9] at HR2
  clear hD hD2 hZ9 hIJ
  go_wp2_with (first | refine wpList_load_row rfl 74 _ rfl w.heap.size rfl 74 D (0, 0) _ HKC.out Tryz.underlying74 rfl HR1.out.1 ?_ | refine wpList_load_row rfl 212 _ rfl (w.heap.size + 1) rfl 212 IJ (0, 0) _ HKI.out Tryz.underlying212 rfl HII.out ?_)
  (with_reducible refine (HCL.out).mono ?_); rintro ee w97 ⟨rfl, hB97⟩
  have H97 := wall (H4.out.next hB97)
  have H97o := wall (show Blk w97 (w.heap.size + 2) 74 Z9 by rw [← HZ9.out]; exact H97.out.o)
  clear hB97 HCL HKC HKI
  try simp only [Act.put, rpA, rpB, rpC]
  go_wp2_with (refine wpList_set_row rfl 74 (.tmp 8) (.tmp 105) rfl (w.heap.size + 2) D2 rfl rfl 74 Z9 H97o.out HR2.out.1 HR2.out.2.1 HR2.out.2.2 ?_; intro w99 K99 F99)
  have H99 := wall (Below.frm H97.out.bel F99.out (Nat.le_refl _) (by simp))
  go_light
  exact bodyPost_ret (v := .tuple #[.agg D2, .int .i64 (cz J.2)]) (results_one_slot Tryz.results103 _ _ (w.heap.size + 2) 74 D2 _ (.int .i64 (cz J.2)) rfl rfl K99.out Tryz.underlying74 rfl HR2.out.1) rfl ⟨by rw [HD2.out], H99.out⟩
 replace HJ0 := wall (HJ0.out.trans (if_neg h15))
 by_cases h39 : i.op = 39
 ·have HJ := wall (HJ0.out.trans (if_pos h39))
  have hop : i.op = 39 := by omega
  clear HJ0
  have n1 : ((i.op : Int) == 1) = false := by rw [beq_eq_false_iff_ne]; omega
  have n2 : ((i.op : Int) == 2) = false := by rw [beq_eq_false_iff_ne]; omega
  have n3 : ((i.op : Int) == 3) = false := by rw [beq_eq_false_iff_ne]; omega
  have n4 : ((i.op : Int) == 4) = false := by rw [beq_eq_false_iff_ne]; omega
  have n39 : ((i.op : Int) == 39) = true := by rw [beq_iff_eq]; omega
  have l11 : decide ((i.op : Int) < 11) = false := by simp; omega
  have l16 : decide ((i.op : Int) < 16) = false := by simp; omega
  have l19 : decide ((i.op : Int) < 19) = false := by simp; omega
  clear hop hop57
  have HCL := wall (fun W => show Calls Tryz.prog 100 #[.agg (crC c), .int .u32 11, .int .u32 0] W (CrOut (trapC c 11 0) W) from rtrap_any c HC.out 11 0 W (by decide) (by decide))
  obtain ⟨D, D2, Z9, hD, HD2, HZ9, HR1, HR2⟩ := prep (c2 := trapC c 11 0) HC.out (Cr.Ok.trap HC.out (by decide) (by decide))
  unfold CrOut at HCL
  rw [hD, HD2.out] at HCL
  have HKC := wall (show Blk _ w.heap.size 74 D by rw [← hD]; exact H4.out.c)
  clear hD
  go_wp2_with (refine wpList_load_row rfl 74 _ rfl w.heap.size rfl 74 D (0, 0) _ HKC.out Tryz.underlying74 rfl HR1.out ?_)
  (with_reducible refine (HCL.out _).mono ?_); rintro ee w97 ⟨rfl, hB97⟩
  have H97 := wall (H4.out.next hB97)
  have H97o := wall (show Blk w97 (w.heap.size + 2) 74 Z9 by rw [← HZ9.out]; exact H97.out.o)
  clear hB97 HCL HKC
  try simp only [Act.put, rpA, rpB, rpC]
  go_wp2_with (refine wpList_set_row rfl 74 (.tmp 8) (.tmp 120) rfl (w.heap.size + 2) D2 rfl rfl 74 Z9 H97o.out HR2.out.1 HR2.out.2.1 HR2.out.2.2 ?_; intro w99 K99 F99)
  have H99 := wall (Below.frm H97.out.bel F99.out (Nat.le_refl _) (by simp))
  go_light
  exact bodyPost_ret (v := .tuple #[.agg D2, .int .i64 11]) (results_one_slot Tryz.results103 _ _ (w.heap.size + 2) 74 D2 _ (.int .i64 11) rfl rfl K99.out Tryz.underlying74 rfl HR2.out.1) rfl ⟨by rw [show J.1 = trapC c 11 0 from by rw [HJ.out]; rfl, show J.2 = some 11 from by rw [HJ.out]; rfl, HD2.out]; rfl, H99.out⟩
 replace HJ0 := wall (HJ0.out.trans (if_neg h39))
 by_cases h40 : i.op = 40
 ·have HJ := wall (HJ0.out.trans (if_pos h40))
  have hop : i.op = 40 := by omega
  clear HJ0
  have n1 : ((i.op : Int) == 1) = false := by rw [beq_eq_false_iff_ne]; omega
  have n2 : ((i.op : Int) == 2) = false := by rw [beq_eq_false_iff_ne]; omega
  have n3 : ((i.op : Int) == 3) = false := by rw [beq_eq_false_iff_ne]; omega
  have n4 : ((i.op : Int) == 4) = false := by rw [beq_eq_false_iff_ne]; omega
  have n39 : ((i.op : Int) == 39) = false := by rw [beq_eq_false_iff_ne]; omega
  have n40 : ((i.op : Int) == 40) = true := by rw [beq_iff_eq]; omega
  have l11 : decide ((i.op : Int) < 11) = false := by simp; omega
  have l16 : decide ((i.op : Int) < 16) = false := by simp; omega
  have l19 : decide ((i.op : Int) < 19) = false := by simp; omega
  clear hop hop57
  have k32 := H4.out.cell HC.out (show 32 < 41 by decide)
  have HPL := wall (HC.out.g 32)
  obtain ⟨s32, hs32⟩ : ∃ y, c.g 32 = y := ⟨_, rfl⟩
  rw [hs32] at k32 HPL HJ
  clear hs32
  have HCL := wall (fun W => show Calls Tryz.prog 100 #[.agg (crC c), .int .u32 3, .int .u32 (s32 : Int)] W (CrOut (trapC c 3 s32) W) from rtrap_any c HC.out 3 s32 W (by decide) HPL.out)
  obtain ⟨D, D2, Z9, hD, HD2, HZ9, HR1, HR2⟩ := prep (c2 := trapC c 3 s32) HC.out (Cr.Ok.trap HC.out (by decide) HPL.out)
  unfold CrOut at HCL
  rw [hD, HD2.out] at HCL
  have HKC := wall (show Blk _ w.heap.size 74 D by rw [← hD]; exact H4.out.c)
  clear hD
  go_wp2_with (refine wpList_load_row rfl 74 _ rfl w.heap.size rfl 74 D (0, 0) _ HKC.out Tryz.underlying74 rfl HR1.out ?_)
  (with_reducible refine (HCL.out _).mono ?_); rintro ee w97 ⟨rfl, hB97⟩
  have H97 := wall (H4.out.next hB97)
  have H97o := wall (show Blk w97 (w.heap.size + 2) 74 Z9 by rw [← HZ9.out]; exact H97.out.o)
  clear hB97 HCL HKC
  try simp only [Act.put, rpA, rpB, rpC]
  go_wp2_with (refine wpList_set_row rfl 74 (.tmp 8) (.tmp 127) rfl (w.heap.size + 2) D2 rfl rfl 74 Z9 H97o.out HR2.out.1 HR2.out.2.1 HR2.out.2.2 ?_; intro w99 K99 F99)
  have H99 := wall (Below.frm H97.out.bel F99.out (Nat.le_refl _) (by simp))
  go_light
  exact bodyPost_ret (v := .tuple #[.agg D2, .int .i64 3]) (results_one_slot Tryz.results103 _ _ (w.heap.size + 2) 74 D2 _ (.int .i64 3) rfl rfl K99.out Tryz.underlying74 rfl HR2.out.1) rfl ⟨by rw [show J.1 = trapC c 3 s32 from by rw [HJ.out]; rfl, show J.2 = some 3 from by rw [HJ.out]; rfl, HD2.out]; rfl, H99.out⟩
 replace HJ0 := wall (HJ0.out.trans (if_neg h40))
 by_cases h41 : i.op = 41
 ·have HJ := wall (HJ0.out.trans (if_pos h41))
  have hop : i.op = 41 := by omega
  clear HJ0
  have n1 : ((i.op : Int) == 1) = false := by rw [beq_eq_false_iff_ne]; omega
  have n2 : ((i.op : Int) == 2) = false := by rw [beq_eq_false_iff_ne]; omega
  have n3 : ((i.op : Int) == 3) = false := by rw [beq_eq_false_iff_ne]; omega
  have n4 : ((i.op : Int) == 4) = false := by rw [beq_eq_false_iff_ne]; omega
  have n39 : ((i.op : Int) == 39) = false := by rw [beq_eq_false_iff_ne]; omega
  have n40 : ((i.op : Int) == 40) = false := by rw [beq_eq_false_iff_ne]; omega
  have n41 : ((i.op : Int) == 41) = true := by rw [beq_iff_eq]; omega
  have l11 : decide ((i.op : Int) < 11) = false := by simp; omega
  have l16 : decide ((i.op : Int) < 16) = false := by simp; omega
  have l19 : decide ((i.op : Int) < 19) = false := by simp; omega
  clear hop hop57
  have k37 := H4.out.cell HC.out (show 37 < 41 by decide)
  have k33 := H4.out.cell HC.out (show 33 < 41 by decide)
  have HEQ := wall (retC_eq c)
  obtain ⟨s37, hs37⟩ : ∃ y, c.g 37 = y := ⟨_, rfl⟩
  obtain ⟨s33, hs33⟩ : ∃ y, c.g 33 = y := ⟨_, rfl⟩
  rw [hs37] at k37 HEQ
  rw [hs33] at k33 HEQ
  have HSB := wall (And.intro (show s37 < 4294967296 by rw [← hs37]; exact HC.out.g 37) (show s33 < 4294967296 by rw [← hs33]; exact HC.out.g 33))
  have hfz := H4.out.c.frozen
  have q1 : (s33 : Int) / 128 % 2 ≤ 1 := by omega
  have q0 : 0 ≤ (s33 : Int) / 128 % 2 := by omega
  clear hs37 hs33
  go_upto_region 28 with fail
  have HC3 := wall (HC.out.set 33 (s33 / 128 % 2 * 8 + 128) (by omega))
  refine wp_any (fun w' => Ri w w' (c.set 33 (s33 / 128 % 2 * 8 + 128)) i) ?_ ?_
  ·have h := H4.out.c.set 33 (.int .u32 ((s33 / 128 % 2 * 8 + 128 : Nat) : Int))
   rw [crC_set HC.out (by decide)] at h
   refine ⟨?_, H4.out.i.far' _ _ (by simp) _, H4.out.o.far' _ _ (by simp) _, H4.out.bel.setCell (p := ⟨w.heap.size, 33, none⟩) (Nat.le_refl _) _⟩
   first
    | exact h
    | (simp at h ⊢; exact h)
  intro w3 h3
  have H3 := wall h3
  obtain ⟨c3, hc3⟩ : ∃ y, c.set 33 (s33 / 128 % 2 * 8 + 128) = y := ⟨_, rfl⟩
  rw [hc3] at HC3 HEQ H3
  clear h3 hc3 k37 k33 hfz q1 q0 H4
  have HST := wall (fun W => show Calls Tryz.prog 184 #[.agg (crC c3), .int .u8 0, .int .u32 0] W (CrOut (nextC c3) W) from rseti_any c3 HC3.out 0 0 W (by decide) (by decide))
  have HC4 := wall HC3.out.next
  have HR1 := wall (rrow HC3.out)
  have HR4 := wall (rrow HC4.out)
  have HKC := wall (show Blk w3 w.heap.size 74 (crC c3) from H3.out.c)
  obtain ⟨c4, hc4⟩ : ∃ y, nextC c3 = y := ⟨_, rfl⟩
  rw [hc4] at HST HC4 HR4 HEQ
  obtain ⟨D, hD⟩ : ∃ y, crC c3 = y := ⟨_, rfl⟩
  obtain ⟨D4, hD4⟩ : ∃ y, crC c4 = y := ⟨_, rfl⟩
  have HD4 := wall hD4
  have HSS := wall (show D.size = D4.size by rw [← hD, ← hD4, crC_size HC3.out, crC_size HC4.out])
  unfold CrOut at HST
  rw [hD, hD4] at HST
  rw [hD] at HR1 HKC
  rw [hD4] at HR4
  clear hD hD4 hc4
  go_wp2_with (refine wpList_load_row rfl 74 _ rfl w.heap.size rfl 74 D (0, 0) _ HKC.out Tryz.underlying74 rfl HR1.out.1 ?_)
  (with_reducible refine (HST.out _).mono ?_); rintro ee w4 ⟨rfl, hB4⟩
  have H4 := wall (H3.out.next hB4)
  have HK4 := wall (HKC.out.next hB4 rfl)
  clear hB4 HST H3 HKC
  try simp only [Act.put, rpA, rpB, rpC]
  go_upto_region 29 with (refine wpList_set_row rfl 74 (.tmp 4) (.tmp 144) rfl w.heap.size D4 rfl rfl 74 D HK4.out HR4.out.1 HSS.out HR4.out.2.2 ?_; intro w5 K5 F5)
  have H5 := wall (show Ri w w5 c4 i from ⟨by rw [HD4.out]; exact K5.out, H4.out.i.frm F5.out (by simp), H4.out.o.frm F5.out (by simp), Below.frm H4.out.bel F5.out (Nat.le_refl _) (by simp)⟩)
  clear K5 F5 H4 HK4
  try simp only [Act.put, rpA, rpB, rpC]
  have k32 := H5.out.cell HC4.out (show 32 < 41 by decide)
  have hfz := H5.out.c.frozen
  go_upto_region 30 with fail
  have HC5 := wall (HC4.out.set 32 s37 HSB.out.1)
  refine wp_any (fun w' => Ri w w' (c4.set 32 s37) i) ?_ ?_
  ·have h := H5.out.c.set 32 (.int .u32 ((s37 : Nat) : Int))
   rw [crC_set HC4.out (by decide)] at h
   exact ⟨h, H5.out.i.far' _ _ (by simp) _, H5.out.o.far' _ _ (by simp) _, H5.out.bel.setCell (p := ⟨w.heap.size, 32, none⟩) (Nat.le_refl _) _⟩
  intro w6 h6
  have H6 := wall h6
  rw [HEQ.out] at H6 HC5
  clear h6 k32 hfz H5
  have HR6 := wall (rrow HC5.out)
  obtain ⟨c6, hc6⟩ : ∃ y, retC c = y := ⟨_, rfl⟩
  have HC6E := wall hc6
  rw [hc6] at H6 HR6
  clear hc6
  have HKC := wall (show Blk w6 w.heap.size 74 (crC c6) from H6.out.c)
  have HKO := wall (show Blk w6 (w.heap.size + 2) 74 (crC crZ) from H6.out.o)
  obtain ⟨D6, hD6⟩ : ∃ y, crC c6 = y := ⟨_, rfl⟩
  obtain ⟨Z9, hZ9⟩ : ∃ y, crC crZ = y := ⟨_, rfl⟩
  have HD6 := wall hD6
  rw [hD6] at HKC HR6
  rw [hZ9] at HKO HR6
  clear hD6 hZ9
  go_wp2_with (first | refine wpList_load_row rfl 74 _ rfl w.heap.size rfl 74 D6 (0, 0) _ HKC.out Tryz.underlying74 rfl HR6.out.1 ?_ | (refine wpList_set_row rfl 74 (.tmp 8) (.tmp 147) rfl (w.heap.size + 2) D6 rfl rfl 74 Z9 HKO.out HR6.out.1 HR6.out.2.1 HR6.out.2.2 ?_; intro w99 K99 F99))
  have H99 := wall (Below.frm H6.out.bel F99.out (Nat.le_refl _) (by simp))
  go_light
  exact bodyPost_ret (v := .tuple #[.agg D6, .int .i64 (-1)]) (results_one_slot Tryz.results103 _ _ (w.heap.size + 2) 74 D6 _ (.int .i64 (-1)) rfl rfl K99.out Tryz.underlying74 rfl HR6.out.1) rfl ⟨by rw [HJ.out, HC6E.out, HD6.out]; rfl, H99.out⟩
 replace HJ0 := wall (HJ0.out.trans (if_neg h41))
 by_cases h43 : 43 ≤ i.op ∧ i.op ≤ 48
 ·have HJ := wall (HJ0.out.trans (if_pos h43))
  have hop : 43 ≤ i.op ∧ i.op ≤ 48 := by omega
  clear HJ0
  have HOQ := wall hop
  have HJO := wall (show J.1.Ok by rw [HJ.out]; exact csrR_ok HC.out HID.out HV.out)
  have HCQ := wall (show Calls Tryz.prog 189 #[.agg (crC c), .agg (inC i), .int .u32 (v : Int)] w2 (PairO J w2) by rw [HJ.out]; exact rcsr_any c HC.out i v w2 HID.out HV.out HOQ.out.1 HOQ.out.2)
  have n1 : ((i.op : Int) == 1) = false := by rw [beq_eq_false_iff_ne]; omega
  have n2 : ((i.op : Int) == 2) = false := by rw [beq_eq_false_iff_ne]; omega
  have n3 : ((i.op : Int) == 3) = false := by rw [beq_eq_false_iff_ne]; omega
  have n4 : ((i.op : Int) == 4) = false := by rw [beq_eq_false_iff_ne]; omega
  have n39 : ((i.op : Int) == 39) = false := by rw [beq_eq_false_iff_ne]; omega
  have n40 : ((i.op : Int) == 40) = false := by rw [beq_eq_false_iff_ne]; omega
  have n41 : ((i.op : Int) == 41) = false := by rw [beq_eq_false_iff_ne]; omega
  have l11 : decide ((i.op : Int) < 11) = false := by simp; omega
  have l16 : decide ((i.op : Int) < 16) = false := by simp; omega
  have l19 : decide ((i.op : Int) < 19) = false := by simp; omega
  have l49 : decide ((i.op : Int) < 49) = true := by simp; omega
  have g43 : decide ((43 : Int) ≤ (i.op : Int)) = true := by simp; omega
  clear hop hop57
  have HR1 := wall (rrow HC.out)
  have HKC := wall (show Blk w2 w.heap.size 74 (crC c) from H4.out.c)
  have HKI := wall (show Blk w2 (w.heap.size + 1) 212 (inC i) from H4.out.i)
  have HII := wall (show (Tryz.prog.info? 212).map (·.size) = some (inC i).size from inst_info)
  have HCL := HCQ
  have HR2 := wall (rrow (c := J.1) HJO.out)
  obtain ⟨D, hD⟩ : ∃ y, crC c = y := ⟨_, rfl⟩
  obtain ⟨IJ, hIJ⟩ : ∃ y, inC i = y := ⟨_, rfl⟩
  obtain ⟨D2, hD2⟩ : ∃ y9, crC J.1 = y9 := ⟨_, rfl⟩
  obtain ⟨Z9, hZ9⟩ : ∃ y, crC crZ = y := ⟨_, rfl⟩
  have HD2 := wall hD2
  have HZ9 := wall hZ9
  unfold PairO at HCL
  rw [hD, hIJ, hD2] at HCL
  rw [hD] at HKC HR1
  rw [hIJ] at HKI HII
  rw [hD2, hZ9] at HR2
  clear hD hD2 hZ9 hIJ
  go_wp2_with (first | refine wpList_load_row rfl 74 _ rfl w.heap.size rfl 74 D (0, 0) _ HKC.out Tryz.underlying74 rfl HR1.out.1 ?_ | refine wpList_load_row rfl 212 _ rfl (w.heap.size + 1) rfl 212 IJ (0, 0) _ HKI.out Tryz.underlying212 rfl HII.out ?_)
  (with_reducible refine (HCL.out).mono ?_); rintro ee w97 ⟨rfl, hB97⟩
  have H97 := wall (H4.out.next hB97)
  have H97o := wall (show Blk w97 (w.heap.size + 2) 74 Z9 by rw [← HZ9.out]; exact H97.out.o)
  clear hB97 HCL HKC HKI
  try simp only [Act.put, rpA, rpB, rpC]
  go_wp2_with (refine wpList_set_row rfl 74 (.tmp 8) (.tmp 159) rfl (w.heap.size + 2) D2 rfl rfl 74 Z9 H97o.out HR2.out.1 HR2.out.2.1 HR2.out.2.2 ?_; intro w99 K99 F99)
  have H99 := wall (Below.frm H97.out.bel F99.out (Nat.le_refl _) (by simp))
  go_light
  exact bodyPost_ret (v := .tuple #[.agg D2, .int .i64 (cz J.2)]) (results_one_slot Tryz.results103 _ _ (w.heap.size + 2) 74 D2 _ (.int .i64 (cz J.2)) rfl rfl K99.out Tryz.underlying74 rfl HR2.out.1) rfl ⟨by rw [HD2.out], H99.out⟩
 replace HJ0 := wall (HJ0.out.trans (if_neg h43))
 by_cases h27 : i.op ≤ 27
 ·have HJ := wall (HJ0.out.trans (if_pos h27))
  have hop : 19 ≤ i.op ∧ i.op ≤ 27 := by omega
  clear HJ0
  have n1 : ((i.op : Int) == 1) = false := by rw [beq_eq_false_iff_ne]; omega
  have n2 : ((i.op : Int) == 2) = false := by rw [beq_eq_false_iff_ne]; omega
  have n3 : ((i.op : Int) == 3) = false := by rw [beq_eq_false_iff_ne]; omega
  have n4 : ((i.op : Int) == 4) = false := by rw [beq_eq_false_iff_ne]; omega
  have n39 : ((i.op : Int) == 39) = false := by rw [beq_eq_false_iff_ne]; omega
  have n40 : ((i.op : Int) == 40) = false := by rw [beq_eq_false_iff_ne]; omega
  have n41 : ((i.op : Int) == 41) = false := by rw [beq_eq_false_iff_ne]; omega
  have l11 : decide ((i.op : Int) < 11) = false := by simp; omega
  have l16 : decide ((i.op : Int) < 16) = false := by simp; omega
  have l19 : decide ((i.op : Int) < 19) = false := by simp; omega
  have l28 : decide ((i.op : Int) < 28) = true := by simp; omega
  have g43 : decide ((43 : Int) ≤ (i.op : Int)) = false := by simp; omega
  have HLT := wall (aluN_lt i.op xa i.imm HXA.out.2 HID.out.imm)
  have HAL := wall (ralu_any i.op xa i.imm (by omega) w2 HXA.out.2 HID.out.imm)
  have HJR := wall (show J = (nextC (if (aluN i.op xa i.imm).2 = true then withC c i.rd (aluN i.op xa i.imm).1 else c), none) by rw [HJ.out]; unfold aluR; rw [HXA.out.1])
  obtain ⟨⟨x, ok⟩, hxo⟩ : ∃ R, aluN i.op xa i.imm = R := ⟨_, rfl⟩
  rw [hxo] at HAL HJR HLT
  unfold AluR at HAL
  simp only at HAL HJR HLT
  clear hxo hop hop57 HJ
  have km := H4.out.imm
  go_wp2_with fail
  (with_reducible refine (HAL.out).mono ?_); rintro ee w3 ⟨rfl, rfl⟩
  clear HAL
  try simp only [Act.put, rpA, rpB, rpC]
  have krd := H4.out.rd
  cases hok : ok with
  | true =>
   rw [hok] at HJR
   have HJ := wall (show J = (nextC (withC c i.rd x), none) from HJR.out)
   clear hok HJR
   have HCL := wall (fun W => show Calls Tryz.prog 184 #[.agg (crC c), .int .u8 (i.rd : Int), .int .u32 (x : Int)] W (CrOut (nextC (withC c i.rd x)) W) from rseti_any c HC.out i.rd x W HID.out.rd HLT.out)
   obtain ⟨D, D2, Z9, hD, HD2, HZ9, HR1, HR2⟩ := prep (c2 := nextC (withC c i.rd x)) HC.out ((HC.out.with i.rd x HLT.out).next)
   unfold CrOut at HCL
   rw [hD, HD2.out] at HCL
   have HKC := wall (show Blk _ w.heap.size 74 D by rw [← hD]; exact H4.out.c)
   clear hD
   go_wp2_with (refine wpList_load_row rfl 74 _ rfl w.heap.size rfl 74 D (0, 0) _ HKC.out Tryz.underlying74 rfl HR1.out ?_)
   (with_reducible refine (HCL.out _).mono ?_); rintro ee w97 ⟨rfl, hB97⟩
   have H97 := wall (H4.out.next hB97)
   have H97o := wall (show Blk w97 (w.heap.size + 2) 74 Z9 by rw [← HZ9.out]; exact H97.out.o)
   clear hB97 HCL HKC
   try simp only [Act.put, rpA, rpB, rpC]
   go_wp2_with (refine wpList_set_row rfl 74 (.tmp 8) (.tmp 182) rfl (w.heap.size + 2) D2 rfl rfl 74 Z9 H97o.out HR2.out.1 HR2.out.2.1 HR2.out.2.2 ?_; intro w99 K99 F99)
   have H99 := wall (Below.frm H97.out.bel F99.out (Nat.le_refl _) (by simp))
   go_light
   exact bodyPost_ret (v := .tuple #[.agg D2, .int .i64 (-1)]) (results_one_slot Tryz.results103 _ _ (w.heap.size + 2) 74 D2 _ (.int .i64 (-1)) rfl rfl K99.out Tryz.underlying74 rfl HR2.out.1) rfl ⟨by rw [show J.1 = nextC (withC c i.rd x) from by rw [HJ.out], show J.2 = none from by rw [HJ.out], HD2.out]; rfl, H99.out⟩
  | false =>
   rw [hok] at HJR
   have HJ := wall (show J = (nextC c, none) from HJR.out)
   clear hok HJR
   have HCL := wall (fun W => show Calls Tryz.prog 184 #[.agg (crC c), .int .u8 0, .int .u32 0] W (CrOut (nextC (withC c 0 0)) W) from rseti_any c HC.out 0 0 W (by decide) (by decide))
   obtain ⟨D, D2, Z9, hD, HD2, HZ9, HR1, HR2⟩ := prep (c2 := nextC (withC c 0 0)) HC.out ((HC.out.with 0 0 (by decide)).next)
   unfold CrOut at HCL
   rw [hD, HD2.out] at HCL
   have HKC := wall (show Blk _ w.heap.size 74 D by rw [← hD]; exact H4.out.c)
   clear hD
   go_wp2_with (refine wpList_load_row rfl 74 _ rfl w.heap.size rfl 74 D (0, 0) _ HKC.out Tryz.underlying74 rfl HR1.out ?_)
   (with_reducible refine (HCL.out _).mono ?_); rintro ee w97 ⟨rfl, hB97⟩
   have H97 := wall (H4.out.next hB97)
   have H97o := wall (show Blk w97 (w.heap.size + 2) 74 Z9 by rw [← HZ9.out]; exact H97.out.o)
   clear hB97 HCL HKC
   try simp only [Act.put, rpA, rpB, rpC]
   go_wp2_with (refine wpList_set_row rfl 74 (.tmp 8) (.tmp 177) rfl (w.heap.size + 2) D2 rfl rfl 74 Z9 H97o.out HR2.out.1 HR2.out.2.1 HR2.out.2.2 ?_; intro w99 K99 F99)
   have H99 := wall (Below.frm H97.out.bel F99.out (Nat.le_refl _) (by simp))
   go_light
   exact bodyPost_ret (v := .tuple #[.agg D2, .int .i64 (-1)]) (results_one_slot Tryz.results103 _ _ (w.heap.size + 2) 74 D2 _ (.int .i64 (-1)) rfl rfl K99.out Tryz.underlying74 rfl HR2.out.1) rfl ⟨by rw [show J.1 = nextC (withC c 0 0) from by rw [HJ.out]; rfl, show J.2 = none from by rw [HJ.out], HD2.out]; rfl, H99.out⟩
 replace HJ0 := wall (HJ0.out.trans (if_neg h27))
 have HJ := HJ0
 clear HJ0
 by_cases h49 : 49 ≤ i.op
 ·have hop := h49
  have n1 : ((i.op : Int) == 1) = false := by rw [beq_eq_false_iff_ne]; omega
  have n2 : ((i.op : Int) == 2) = false := by rw [beq_eq_false_iff_ne]; omega
  have n3 : ((i.op : Int) == 3) = false := by rw [beq_eq_false_iff_ne]; omega
  have n4 : ((i.op : Int) == 4) = false := by rw [beq_eq_false_iff_ne]; omega
  have n39 : ((i.op : Int) == 39) = false := by rw [beq_eq_false_iff_ne]; omega
  have n40 : ((i.op : Int) == 40) = false := by rw [beq_eq_false_iff_ne]; omega
  have n41 : ((i.op : Int) == 41) = false := by rw [beq_eq_false_iff_ne]; omega
  have l11 : decide ((i.op : Int) < 11) = false := by simp; omega
  have l16 : decide ((i.op : Int) < 16) = false := by simp; omega
  have l19 : decide ((i.op : Int) < 19) = false := by simp; omega
  have l49 : decide ((i.op : Int) < 49) = false := by simp; omega
  have l28 : decide ((i.op : Int) < 28) = false := by simp; omega
  have g43 : decide ((43 : Int) ≤ (i.op : Int)) = true := by simp; omega
  have HLT := wall (aluN_lt i.op xa xb HXA.out.2 HXB.out.2)
  have HAL := wall (ralu_any i.op xa xb (by omega) w2 HXA.out.2 HXB.out.2)
  have HJR := wall (show J = (nextC (if (aluN i.op xa xb).2 = true then withC c i.rd (aluN i.op xa xb).1 else c), none) by rw [HJ.out]; unfold aluR; rw [HXA.out.1, HXB.out.1])
  obtain ⟨⟨x, ok⟩, hxo⟩ : ∃ R, aluN i.op xa xb = R := ⟨_, rfl⟩
  rw [hxo] at HAL HJR HLT
  unfold AluR at HAL
  simp only at HAL HJR HLT
  clear hxo hop hop57 HJ
  go_wp2_with fail
  (with_reducible refine (HAL.out).mono ?_); rintro ee w3 ⟨rfl, rfl⟩
  clear HAL
  try simp only [Act.put, rpA, rpB, rpC]
  have krd := H4.out.rd
  cases hok : ok with
  | true =>
   rw [hok] at HJR
   have HJ := wall (show J = (nextC (withC c i.rd x), none) from HJR.out)
   clear hok HJR
   have HCL := wall (fun W => show Calls Tryz.prog 184 #[.agg (crC c), .int .u8 (i.rd : Int), .int .u32 (x : Int)] W (CrOut (nextC (withC c i.rd x)) W) from rseti_any c HC.out i.rd x W HID.out.rd HLT.out)
   obtain ⟨D, D2, Z9, hD, HD2, HZ9, HR1, HR2⟩ := prep (c2 := nextC (withC c i.rd x)) HC.out ((HC.out.with i.rd x HLT.out).next)
   unfold CrOut at HCL
   rw [hD, HD2.out] at HCL
   have HKC := wall (show Blk _ w.heap.size 74 D by rw [← hD]; exact H4.out.c)
   clear hD
   go_wp2_with (refine wpList_load_row rfl 74 _ rfl w.heap.size rfl 74 D (0, 0) _ HKC.out Tryz.underlying74 rfl HR1.out ?_)
   (with_reducible refine (HCL.out _).mono ?_); rintro ee w97 ⟨rfl, hB97⟩
   have H97 := wall (H4.out.next hB97)
   have H97o := wall (show Blk w97 (w.heap.size + 2) 74 Z9 by rw [← HZ9.out]; exact H97.out.o)
   clear hB97 HCL HKC
   try simp only [Act.put, rpA, rpB, rpC]
   go_wp2_with (refine wpList_set_row rfl 74 (.tmp 8) (.tmp 182) rfl (w.heap.size + 2) D2 rfl rfl 74 Z9 H97o.out HR2.out.1 HR2.out.2.1 HR2.out.2.2 ?_; intro w99 K99 F99)
   have H99 := wall (Below.frm H97.out.bel F99.out (Nat.le_refl _) (by simp))
   go_light
   exact bodyPost_ret (v := .tuple #[.agg D2, .int .i64 (-1)]) (results_one_slot Tryz.results103 _ _ (w.heap.size + 2) 74 D2 _ (.int .i64 (-1)) rfl rfl K99.out Tryz.underlying74 rfl HR2.out.1) rfl ⟨by rw [show J.1 = nextC (withC c i.rd x) from by rw [HJ.out], show J.2 = none from by rw [HJ.out], HD2.out]; rfl, H99.out⟩
  | false =>
   rw [hok] at HJR
   have HJ := wall (show J = (nextC c, none) from HJR.out)
   clear hok HJR
   have HCL := wall (fun W => show Calls Tryz.prog 184 #[.agg (crC c), .int .u8 0, .int .u32 0] W (CrOut (nextC (withC c 0 0)) W) from rseti_any c HC.out 0 0 W (by decide) (by decide))
   obtain ⟨D, D2, Z9, hD, HD2, HZ9, HR1, HR2⟩ := prep (c2 := nextC (withC c 0 0)) HC.out ((HC.out.with 0 0 (by decide)).next)
   unfold CrOut at HCL
   rw [hD, HD2.out] at HCL
   have HKC := wall (show Blk _ w.heap.size 74 D by rw [← hD]; exact H4.out.c)
   clear hD
   go_wp2_with (refine wpList_load_row rfl 74 _ rfl w.heap.size rfl 74 D (0, 0) _ HKC.out Tryz.underlying74 rfl HR1.out ?_)
   (with_reducible refine (HCL.out _).mono ?_); rintro ee w97 ⟨rfl, hB97⟩
   have H97 := wall (H4.out.next hB97)
   have H97o := wall (show Blk w97 (w.heap.size + 2) 74 Z9 by rw [← HZ9.out]; exact H97.out.o)
   clear hB97 HCL HKC
   try simp only [Act.put, rpA, rpB, rpC]
   go_wp2_with (refine wpList_set_row rfl 74 (.tmp 8) (.tmp 177) rfl (w.heap.size + 2) D2 rfl rfl 74 Z9 H97o.out HR2.out.1 HR2.out.2.1 HR2.out.2.2 ?_; intro w99 K99 F99)
   have H99 := wall (Below.frm H97.out.bel F99.out (Nat.le_refl _) (by simp))
   go_light
   exact bodyPost_ret (v := .tuple #[.agg D2, .int .i64 (-1)]) (results_one_slot Tryz.results103 _ _ (w.heap.size + 2) 74 D2 _ (.int .i64 (-1)) rfl rfl K99.out Tryz.underlying74 rfl HR2.out.1) rfl ⟨by rw [show J.1 = nextC (withC c 0 0) from by rw [HJ.out]; rfl, show J.2 = none from by rw [HJ.out], HD2.out]; rfl, H99.out⟩
 have hop : (28 ≤ i.op ∧ i.op ≤ 38) ∨ i.op = 42 := by omega
 have n1 : ((i.op : Int) == 1) = false := by rw [beq_eq_false_iff_ne]; omega
 have n2 : ((i.op : Int) == 2) = false := by rw [beq_eq_false_iff_ne]; omega
 have n3 : ((i.op : Int) == 3) = false := by rw [beq_eq_false_iff_ne]; omega
 have n4 : ((i.op : Int) == 4) = false := by rw [beq_eq_false_iff_ne]; omega
 have n39 : ((i.op : Int) == 39) = false := by rw [beq_eq_false_iff_ne]; omega
 have n40 : ((i.op : Int) == 40) = false := by rw [beq_eq_false_iff_ne]; omega
 have n41 : ((i.op : Int) == 41) = false := by rw [beq_eq_false_iff_ne]; omega
 have l11 : decide ((i.op : Int) < 11) = false := by simp; omega
 have l16 : decide ((i.op : Int) < 16) = false := by simp; omega
 have l19 : decide ((i.op : Int) < 19) = false := by simp; omega
 have l28 : decide ((i.op : Int) < 28) = false := by simp; omega
 have g43 : decide ((43 : Int) ≤ (i.op : Int)) = false := by simp; omega
 have HLT := wall (aluN_lt i.op xa xb HXA.out.2 HXB.out.2)
 have HAL := wall (ralu_any i.op xa xb (by omega) w2 HXA.out.2 HXB.out.2)
 have HJR := wall (show J = (nextC (if (aluN i.op xa xb).2 = true then withC c i.rd (aluN i.op xa xb).1 else c), none) by rw [HJ.out]; unfold aluR; rw [HXA.out.1, HXB.out.1])
 obtain ⟨⟨x, ok⟩, hxo⟩ : ∃ R, aluN i.op xa xb = R := ⟨_, rfl⟩
 rw [hxo] at HAL HJR HLT
 unfold AluR at HAL
 simp only at HAL HJR HLT
 clear hxo hop hop57 HJ
 go_wp2_with fail
 (with_reducible refine (HAL.out).mono ?_); rintro ee w3 ⟨rfl, rfl⟩
 clear HAL
 try simp only [Act.put, rpA, rpB, rpC]
 have krd := H4.out.rd
 cases hok : ok with
 | true =>
  rw [hok] at HJR
  have HJ := wall (show J = (nextC (withC c i.rd x), none) from HJR.out)
  clear hok HJR
  have HCL := wall (fun W => show Calls Tryz.prog 184 #[.agg (crC c), .int .u8 (i.rd : Int), .int .u32 (x : Int)] W (CrOut (nextC (withC c i.rd x)) W) from rseti_any c HC.out i.rd x W HID.out.rd HLT.out)
  obtain ⟨D, D2, Z9, hD, HD2, HZ9, HR1, HR2⟩ := prep (c2 := nextC (withC c i.rd x)) HC.out ((HC.out.with i.rd x HLT.out).next)
  unfold CrOut at HCL
  rw [hD, HD2.out] at HCL
  have HKC := wall (show Blk _ w.heap.size 74 D by rw [← hD]; exact H4.out.c)
  clear hD
  go_wp2_with (refine wpList_load_row rfl 74 _ rfl w.heap.size rfl 74 D (0, 0) _ HKC.out Tryz.underlying74 rfl HR1.out ?_)
  (with_reducible refine (HCL.out _).mono ?_); rintro ee w97 ⟨rfl, hB97⟩
  have H97 := wall (H4.out.next hB97)
  have H97o := wall (show Blk w97 (w.heap.size + 2) 74 Z9 by rw [← HZ9.out]; exact H97.out.o)
  clear hB97 HCL HKC
  try simp only [Act.put, rpA, rpB, rpC]
  go_wp2_with (refine wpList_set_row rfl 74 (.tmp 8) (.tmp 182) rfl (w.heap.size + 2) D2 rfl rfl 74 Z9 H97o.out HR2.out.1 HR2.out.2.1 HR2.out.2.2 ?_; intro w99 K99 F99)
  have H99 := wall (Below.frm H97.out.bel F99.out (Nat.le_refl _) (by simp))
  go_light
  exact bodyPost_ret (v := .tuple #[.agg D2, .int .i64 (-1)]) (results_one_slot Tryz.results103 _ _ (w.heap.size + 2) 74 D2 _ (.int .i64 (-1)) rfl rfl K99.out Tryz.underlying74 rfl HR2.out.1) rfl ⟨by rw [show J.1 = nextC (withC c i.rd x) from by rw [HJ.out], show J.2 = none from by rw [HJ.out], HD2.out]; rfl, H99.out⟩
 | false =>
  rw [hok] at HJR
  have HJ := wall (show J = (nextC c, none) from HJR.out)
  clear hok HJR
  have HCL := wall (fun W => show Calls Tryz.prog 184 #[.agg (crC c), .int .u8 0, .int .u32 0] W (CrOut (nextC (withC c 0 0)) W) from rseti_any c HC.out 0 0 W (by decide) (by decide))
  obtain ⟨D, D2, Z9, hD, HD2, HZ9, HR1, HR2⟩ := prep (c2 := nextC (withC c 0 0)) HC.out ((HC.out.with 0 0 (by decide)).next)
  unfold CrOut at HCL
  rw [hD, HD2.out] at HCL
  have HKC := wall (show Blk _ w.heap.size 74 D by rw [← hD]; exact H4.out.c)
  clear hD
  go_wp2_with (refine wpList_load_row rfl 74 _ rfl w.heap.size rfl 74 D (0, 0) _ HKC.out Tryz.underlying74 rfl HR1.out ?_)
  (with_reducible refine (HCL.out _).mono ?_); rintro ee w97 ⟨rfl, hB97⟩
  have H97 := wall (H4.out.next hB97)
  have H97o := wall (show Blk w97 (w.heap.size + 2) 74 Z9 by rw [← HZ9.out]; exact H97.out.o)
  clear hB97 HCL HKC
  try simp only [Act.put, rpA, rpB, rpC]
  go_wp2_with (refine wpList_set_row rfl 74 (.tmp 8) (.tmp 177) rfl (w.heap.size + 2) D2 rfl rfl 74 Z9 H97o.out HR2.out.1 HR2.out.2.1 HR2.out.2.2 ?_; intro w99 K99 F99)
  have H99 := wall (Below.frm H97.out.bel F99.out (Nat.le_refl _) (by simp))
  go_light
  exact bodyPost_ret (v := .tuple #[.agg D2, .int .i64 (-1)]) (results_one_slot Tryz.results103 _ _ (w.heap.size + 2) 74 D2 _ (.int .i64 (-1)) rfl rfl K99.out Tryz.underlying74 rfl HR2.out.1) rfl ⟨by rw [show J.1 = nextC (withC c 0 0) from by rw [HJ.out]; rfl, show J.2 = none from by rw [HJ.out], HD2.out]; rfl, H99.out⟩
theorem rdo_any (c : Cr) (hc : c.Ok) (i : In) {m b1 b2 b3 b4 b5 : Nat} (u : SpV) (hu : u.Ok) (F vs : List Nat) (ls : List Bool) (v : Nat) (w : World) (hid : InD i) (hv : v < 4294967296) (h0 : i.op ≠ 0) (hst : u.st = 1 ∨ u.st = 2) (hF : F.length = 10240 ∧ ∀ x ∈ F, x < 256) (hM : Sm w m b1 b2 b3 b4 b5 u F vs ls) :
  Calls Tryz.prog 103 #[.agg (crC c), .pointer (some ⟨m, 0, none⟩), .agg (inC i), .int .u32 (v : Int)] w (RresO m b1 b2 b3 b4 b5 u.st F (fuL vs) (doR u F vs ls c i v) w) := by
 unfold doR
 by_cases hs : 16 ≤ i.op ∧ i.op ≤ 18
 ·rw [if_pos hs]
  exact rdo_st c hc i u hu F (fuL vs) v w hid hv hs hst hM.mf
 rw [if_neg hs]
 exact (rdo_pair c hc i u hu F vs ls v w hid hv ⟨h0, hs⟩ hF hM).mono (fun e w' h => pair_res hM.mf e w' h)
def cn (t : Option Nat) : Nat := match t with
 | some k => k
 | none => 0
def RstepO (m b1 b2 b3 b4 b5 : Nat) (st : Int) (F l5 : List Nat) (R : Res) (w : World) (e : Ending) (w' : World) : Prop :=
 e = .returned (.tuple #[.agg (crC R.c), .int .u32 ((cn R.t : Nat) : Int), .bool R.t.isSome]) ∧ Mf w' m b1 b2 b3 b4 b5 st (R.v.ram.take 4096) (R.v.ram.drop 4096) F R.v.prt l5 ∧ Frm [b1, b2, b4] w w'
theorem inst_zero : (Tryz.prog.info? 212).bind (·.zero) = some (.agg (inC zIn)) := by kernel_rfl
theorem four_nats (W : World) {B a b c d : Nat} (hB : B = W.heap.size) (ha : a < 256) (hb : b < 256) (hc : c < 256) (hd : d < 256) :
  Nats .u8 256 (W.alloc (.cells #[.int .u8 (a : Int), .int .u8 (b : Int), .int .u8 (c : Int), .int .u8 (d : Int)] 5)) (W.alloc (.cells #[.int .u8 (a : Int), .int .u8 (b : Int), .int .u8 (c : Int), .int .u8 (d : Int)] 5)).heap.size (some ⟨B, 0, none⟩) [a, b, c, d] := by
 subst hB
 have hk : Blk (W.alloc (.cells #[.int .u8 (a : Int), .int .u8 (b : Int), .int .u8 (c : Int), .int .u8 (d : Int)] 5)) W.heap.size 5 #[.int .u8 (a : Int), .int .u8 (b : Int), .int .u8 (c : Int), .int .u8 (d : Int)] := Blk.new _ _ _
 intro i z hz
 refine ⟨?_, W.heap.size, 0, rfl, hk.lt, ?_⟩
 ·rcases i with _ | _ | _ | _ | i <;> simp at hz <;> omega
 ·rw [Nat.zero_add, hk.cell]
  rcases i with _ | _ | _ | _ | i <;> simp at hz <;> subst hz <;> rfl
theorem beVal_le32 (a b c d : Nat) : beVal [d, c, b, a] = le32 a b c d := by
 simp only [beVal, List.foldl_cons, List.foldl_nil, le32]
 omega
theorem Rf.frm {w w' w'' : World} {c : Cr} {S : List Nat} (h : Rf w w' c) (hf : Frm S w' w'') (hS : ∀ x ∈ S, w.heap.size + 1 < x) : Rf w w'' c :=
 ⟨h.c.frm hf (fun hx => by have := hS _ hx; omega), h.o.frm hf (fun hx => by have := hS _ hx; omega), Below.frm h.bel hf (Nat.le_refl _) (fun x hx => by have := hS _ hx; omega)⟩
theorem stepD_ref (u : SpV) (F vs : List Nat) (ls : List Bool) (c : Cr) (w : Nat) : stepD u F vs ls c w (dec w) = if (ref w).op = 0 then pairR u (trR c 2 w) else doR u F vs ls c (ref w) w := by
 obtain ⟨h1, h2⟩ := dec_ref w
 generalize dec w = d at *
 obtain ⟨d1, d2⟩ := d
 simp only at h1 h2
 subst h1
 unfold stepD
 cases d2 with
 | false =>
  have h0 : (ref w).op = 0 := Classical.byContradiction fun h => by have := h2.2 h; cases this
  rw [if_pos h0, if_pos rfl]
 | true => rw [if_neg (fun h => by cases h), if_neg (h2.1 rfl)]
theorem ref_ind {v : Nat} (h : v < 4294967296) (h0 : (ref v).op ≠ 0) : InD (ref v) := by
 obtain ⟨h1, h2⟩ := dec_ref v
 have h3 := (dec_ind h (h2.2 h0)).1
 rw [h1] at h3
 exact h3
theorem tr_cause {c : Cr} {k v x : Nat} (h : (trR c k v).2 = some x) : x = k := by cases h; rfl
theorem jump_cause {c : Cr} {rd t x : Nat} (h : (jumpR c rd t).2 = some x) : x = 0 := by
 unfold jumpR at h
 split at h
 ·exact tr_cause h
 ·cases h
theorem doP_cause {u : SpV} {F vs : List Nat} {ls : List Bool} {c : Cr} {i : In} {w x : Nat} (h : (doP u F vs ls c i w).2 = some x) : x ≤ 11 := by
 unfold doP at h
 split at h
 ·cases h
 split at h
 ·cases h
 split at h
 ·rw [jump_cause h]; decide
 split at h
 ·rw [jump_cause h]; decide
 split at h
 ·unfold branchR at h
  split at h
  ·rw [jump_cause h]; decide
  ·cases h
 split at h
 ·unfold loadR at h
  split at h
  ·rw [tr_cause h]; decide
  split at h
  ·rw [tr_cause h]; decide
  ·cases h
 split at h
 ·rw [tr_cause h]; decide
 split at h
 ·rw [tr_cause h]; decide
 split at h
 ·cases h
 split at h
 ·unfold csrR at h
  split at h
  ·rw [tr_cause h]; decide
  split at h
  ·cases h
  split at h
  ·rw [tr_cause h]; decide
  ·cases h
 split at h
 ·cases h
 ·cases h
theorem doR_cause {u : SpV} {F vs : List Nat} {ls : List Bool} {c : Cr} {i : In} {w x : Nat} (h : (doR u F vs ls c i w).t = some x) : x ≤ 11 := by
 unfold doR at h
 split at h
 ·unfold storeR at h
  split at h
  ·cases h; decide
  split at h
  ·cases h; decide
  ·cases h
 ·exact doP_cause h
theorem rstep_f (c : Cr) (hc : c.Ok) {m b1 b2 b3 b4 b5 : Nat} (u : SpV) (hu : u.Ok) (F vs : List Nat) (ls : List Bool) (w : World) (hst : u.st = 1 ∨ u.st = 2) (hF : F.length = 10240 ∧ ∀ x ∈ F, x < 256) (hM : Sm w m b1 b2 b3 b4 b5 u F vs ls) :
  Calls Tryz.prog 29 #[.agg (crC c), .pointer (some ⟨m, 0, none⟩), .bool false] w (RstepO m b1 b2 b3 b4 b5 u.st F (fuL vs) (stepR u F vs ls c false) w) := by
 have HM := wall hM
 have HU := wall hu
 have HFF := wall hF
 have HST := wall hst
 have HLS := wall hM.mf.lts
 have HC := wall hc
 obtain ⟨J, hJ⟩ : ∃ J, stepR u F vs ls c false = J := ⟨_, rfl⟩
 rw [hJ]
 have HJ := wall hJ.symm
 unfold stepR at HJ
 have HF := wall (Rf.new w c)
 have HZ := wall ref_zero
 obtain ⟨C, hC⟩ : ∃ y, crC c = y := ⟨_, rfl⟩
 obtain ⟨Z, hZ⟩ : ∃ y, crC crZ = y := ⟨_, rfl⟩
 have HCE := wall hC
 rw [hC, hZ] at HF
 rw [hZ] at HZ
 rw [hC]
 clear hM hu hF hst hJ hc hC hZ
 go_enter Tryz.func29, Tryz.ntmps29
 go_upto_region 1 with (first | refine Big.wpList_alloc_at rfl 74 rfl Z HZ.out (w.heap.size + 1) (by simp) ?_)
 try simp only [Act.put, rpA, rpB, rpC]
 refine wp_rf w c HF.out ?_
 intro w1 h1
 have H1 := wall h1
 have k32 := h1.cell HC.out (show 32 < 41 by decide)
 have kt : w1.cell? ⟨w.heap.size, 41, none⟩ = some (.bool c.tm) := by
  rw [h1.c.cell]
  show (crL c).toArray[41]? = _
  rw [List.getElem?_toArray]
  exact crL_tm HC.out
 have hfz := h1.frozen
 obtain ⟨pc, hpc⟩ : ∃ y, c.g 32 = y := ⟨_, rfl⟩
 have HPC := wall (show pc < 4294967296 by rw [← hpc]; exact HC.out.g 32)
 rw [hpc] at k32 HJ
 clear h1 HF
 go_upto_region 3 with fail
 have HT := wall (H1.out.tm HC.out false)
 have HC2 := wall (HC.out.time false)
 have HG2 := wall (show (c.time false).g 32 = pc ∧ (c.time false).g 33 = c.g 33 ∧ (c.time false).g 34 = c.g 34 from ⟨hpc, rfl, rfl⟩)
 clear hpc
 refine wp_rf w (c.time false) HT.out ?_
 clear k32 kt hfz HT H1
 obtain ⟨c2, hc2⟩ : ∃ y, c.time false = y := ⟨_, rfl⟩
 have HCT := wall hc2
 rw [hc2] at HC2 HJ HG2
 rw [hc2]
 clear hc2
 intro w2 h2
 have H5 := wall h2
 have k32 := h2.cell HC2.out (show 32 < 41 by decide)
 have k33 := h2.cell HC2.out (show 33 < 41 by decide)
 have k34 := h2.cell HC2.out (show 34 < 41 by decide)
 rw [HG2.out.1] at k32
 rw [HG2.out.2.1] at k33
 rw [HG2.out.2.2] at k34
 clear h2
 replace HJ := wall (show J = _ from HJ.out.trans (if_neg (by simp [letT])))
 have HJ3 := wall HJ.out
 have HM5 := wall (HM.out.old (below_then (Below.refl _ w) H5.out.bel (Nat.le_refl _)))
 by_cases h4 : pc % 4 = 0
 ·have hm : ((pc : Int) % 4 != 0) = false := by
   have : (pc : Int) % 4 = 0 := by omega
   rw [this]; rfl
  have HJ4 := wall (HJ3.out.trans (if_neg (by omega)))
  have kst : w2.cell? ⟨m, 0, none⟩ = some (.int .i64 u.st) := by rw [HM5.out.mf.k.cell]; rfl
  have HCK := wall (fun W => ref_check 1 u.st (pc : Int) 4 pc false true W rfl (by have := HPC.out; omega))
  have HCF := wall (show (chk 1 u.st pc 4 false true).2.2 = 0 → ∃ o, chk 1 u.st pc 4 false true = (1, o, 0) ∧ o + 4 ≤ 4096 from by
   rcases HST.out with h | h
   ·rw [h]; exact core_fetch pc 1 (.inl rfl)
   ·rw [h]; exact core_fetch pc 2 (.inr rfl))
  unfold fetchAt at HJ4
  obtain ⟨⟨r, off, e⟩, hre⟩ : ∃ y, chk 1 u.st pc 4 false true = y := ⟨_, rfl⟩
  rw [hre] at HCK HJ4 HCF
  unfold ChkOut at HCK
  simp only at HCK HJ4 HCF
  clear HJ3 HJ h4 hre k33 k34
  go_wp2_with fail
  (with_reducible refine (HCK.out _).mono ?_); rintro ee w3 ⟨rfl, hB3⟩
  have HB3 := wall hB3
  clear hB3 HCK kst k32
  try simp only [Act.put, rpA, rpB, rpC]
  by_cases he : e = 0
  ·have he' : (((e : Nat) : Int) != 0) = false := by rw [he]; rfl
   have HJ5 := wall (HJ4.out.trans (if_neg (by simpa using he)))
   obtain ⟨o9, ho1, ho2⟩ := HCF.out he
   simp only [Prod.mk.injEq] at ho1
   obtain ⟨rfl, rfl, -⟩ := ho1
   clear HJ4 HCF he
   have H6 := wall (H5.out.next HB3.out)
   have HM6 := wall (HM5.out.old HB3.out)
   clear H5 HM5 HB3
   have kb1 : w3.cell? ⟨m, 2, none⟩ = some (.slice (some ⟨b1, 0, none⟩) 4096 4096) := by rw [HM6.out.mf.k.cell]; rfl
   have hr := fun (j : Nat) (hj : off + j < 4096) => (show w3.cell? ⟨b1, off + j, none⟩ = some (.int .u8 ((u.ram.getD (off + j) 0 : Nat) : Int)) from by
    have h := getD_ram HU.out (j := off + j) (by omega)
    rw [HM6.out.mf.k1.cell, b8_at (show (u.ram.take 4096)[off + j]? = some (u.ram.getD (off + j) 0) by rw [List.getElem?_take_of_lt hj]; exact h)])
   have hx := fun (j : Nat) (hj : off + j < 4096) => (show u.ram.getD (off + j) 0 < 256 from HU.out.rb _ (List.mem_of_getElem? (getD_ram HU.out (by omega))))
   have k0 := hr 0 (by omega)
   have k1 := hr 1 (by omega)
   have k2 := hr 2 (by omega)
   have k3 := hr 3 (by omega)
   have HXS := wall (And.intro (hx 0 (by omega)) (And.intro (hx 1 (by omega)) (And.intro (hx 2 (by omega)) (hx 3 (by omega)))))
   have HWA := wall (show wordAt u off = le32 (u.ram.getD off 0) (u.ram.getD (off + 1) 0) (u.ram.getD (off + 2) 0) (u.ram.getD (off + 3) 0) from rfl)
   have HWL := wall (wordAt_lt HU.out off)
   rw [Nat.add_zero] at k0 HXS
   obtain ⟨x0, hx0⟩ : ∃ x, u.ram.getD off 0 = x := ⟨_, rfl⟩
   obtain ⟨x1, hx1⟩ : ∃ x, u.ram.getD (off + 1) 0 = x := ⟨_, rfl⟩
   obtain ⟨x2, hx2⟩ : ∃ x, u.ram.getD (off + 2) 0 = x := ⟨_, rfl⟩
   obtain ⟨x3, hx3⟩ : ∃ x, u.ram.getD (off + 3) 0 = x := ⟨_, rfl⟩
   rw [hx0, hx1, hx2, hx3] at HXS HWA
   rw [hx0] at k0
   rw [hx1] at k1
   rw [hx2] at k2
   rw [hx3] at k3
   clear hr hx hx0 hx1 hx2 hx3
   obtain ⟨wv, hwv⟩ : ∃ y, wordAt u off = y := ⟨_, rfl⟩
   rw [hwv] at HJ5 HWA HWL
   clear hwv
   have ho : (off : Int) + 4 ≤ 4096 := by omega
   have ho5 : off < 4096 := by omega
   go_wp2_with fail
   go_still_tail 12, (by kernel_rfl)
   change wpList _ _ _ _ _ w3.drew
   go_wp2_with fail
   have Hcurtilageref20.Step := wall (nats_step (four_nats w3 (B := w3.heap.size) (a := x3) (b := x2) (c := x1) (d := x0) rfl HXS.out.2.2.2 HXS.out.2.2.1 HXS.out.2.1 HXS.out.1) (Below.drew (Below.refl _ _)))
   have HB4 := wall (show Below w3.heap.size w3 (w3.alloc (.cells #[.int .u8 (x3 : Int), .int .u8 (x2 : Int), .int .u8 (x1 : Int), .int .u8 (x0 : Int)] 5)).drew from Below.drew ((Below.refl _ _).alloc (Nat.le_refl _) _))
   generalize (w3.alloc (.cells #[.int .u8 (x3 : Int), .int .u8 (x2 : Int), .int .u8 (x1 : Int), .int .u8 (x0 : Int)] 5)).drew = w4 at *
   have HVC := wall (fun n (h : n = w3.heap.size) => show Calls Tryz.prog 80 #[.slice (some ⟨n, 0, none⟩) 4 4] w4 (fun e w' => e = .returned (.int .u64 (wv : Int)) ∧ w4 = w') from by
    have h1 := value_any (some ⟨n, 0, none⟩) 4 4 [x3, x2, x1, x0] w4 w4.heap.size rfl (by decide) (by rw [h]; exact Hcurtilageref20.Step.out)
    rw [beVal_le32, ← HWA.out] at h1
    exact h1)
   (with_reducible refine (HVC.out _ rfl).mono ?_); rintro ee w5 ⟨rfl, rfl⟩
   have H7 := wall (H6.out.next HB4.out)
   have HM7 := wall (HM6.out.old HB4.out)
   have hwl : (wv : Int) < 4294967296 := by have := HWL.out; omega
   clear HVC Hcurtilageref20.Step HB4 H6 HM6 kb1 k0 k1 k2 k3 HXS ho ho5 HWA
   try simp only [Act.put, rpA, rpB, rpC]
   go_wp2_with fail
   (with_reducible refine (refDecode_any wv (wv : Int) _ rfl HWL.out).mono ?_); rintro ee w6 ⟨rfl, hB6⟩
   have H8 := wall (H7.out.next hB6)
   have HM8 := wall (HM7.out.old hB6)
   have HJ6 := wall (HJ5.out.trans (stepD_ref u F vs ls c2 wv))
   have HID := wall (fun h => ref_ind (v := wv) HWL.out h)
   obtain ⟨i, hi⟩ : ∃ i, ref wv = i := ⟨_, rfl⟩
   rw [hi] at HJ6 HID
   rw [hi]
   clear hi hB6 H7 HM7 HJ5
   have HZI := wall inst_zero
   have HIR := wall (show (Tryz.prog.info? 212).map (·.size) = some (inC i).size ∧ (inC zIn).size = (inC i).size ∧ (inC i).all (·.oneCell') = true from ⟨inst_info, rfl, in_one i⟩)
   obtain ⟨IJ, hIJ⟩ : ∃ y, inC i = y := ⟨_, rfl⟩
   obtain ⟨ZI, hZI⟩ : ∃ y, inC zIn = y := ⟨_, rfl⟩
   have HIJ := wall hIJ
   rw [hIJ] at HIR
   rw [hZI] at HZI HIR
   rw [hIJ]
   clear hIJ hZI
   try simp only [Act.put, rpA, rpB, rpC]
   go_upto_region 13 with (first | refine Big.wpList_alloc_at rfl 212 rfl ZI HZI.out w6.heap.size rfl ?_ | (refine wpList_set_row rfl 212 (.tmp 15) (.tmp 86) rfl w6.heap.size IJ rfl rfl 212 ZI (Blk.new _ _ _) HIR.out.1 HIR.out.2.1 HIR.out.2.2 ?_; intro w7 K7 F7))
   have HB7 := wall (Below.frm ((Below.refl _ w6).alloc (Nat.le_refl _) _) F7.out (Nat.le_refl _) (by simp))
   have H5 := wall (H8.out.next HB7.out)
   have HM5 := wall (HM8.out.old HB7.out)
   have kop : w7.cell? ⟨w6.heap.size, 0, none⟩ = some (.int .u8 (i.op : Int)) := by rw [K7.out.cell, ← HIJ.out]; rfl
   obtain ⟨g6, hg6⟩ : ∃ y, w6.heap.size = y := ⟨_, rfl⟩
   rw [hg6] at K7 kop
   try rw [hg6]
   clear F7 H8 HM8 HB7 hg6
   try simp only [Act.put, rpA, rpB, rpC]
   by_cases h0 : i.op = 0
   ·have hb : ((i.op : Int) == 0) = true := by rw [h0]; rfl
    have HJ2 := wall (HJ6.out.trans (if_pos h0))
    clear HJ6 h0 HID
    have HCL := wall (fun W => show Calls Tryz.prog 100 #[.agg (crC c2), .int .u32 2, .int .u32 (wv : Int)] W (CrOut (trapC c2 2 wv) W) from rtrap_any c2 HC2.out 2 wv W (by decide) HWL.out)
    unfold CrOut at HCL
    have HR1 := wall (rrow HC2.out)
    have HR2 := wall (rrow (Cr.Ok.trap (cause := 2) (v := wv) HC2.out (by decide) HWL.out))
    have HKC := wall (show Blk _ w.heap.size 74 (crC c2) from H5.out.c)
    obtain ⟨D, hD⟩ : ∃ y, crC c2 = y := ⟨_, rfl⟩
    obtain ⟨D2, hD2⟩ : ∃ y9, crC (trapC c2 2 wv) = y9 := ⟨_, rfl⟩
    obtain ⟨Z9, hZ9⟩ : ∃ y, crC crZ = y := ⟨_, rfl⟩
    have HD2 := wall hD2
    have HZ9 := wall hZ9
    rw [hD] at HCL HKC HR1
    rw [hD2] at HCL HR2
    rw [hZ9] at HR2
    clear hD hD2 hZ9
    go_wp2_with (refine wpList_load_row rfl 74 _ rfl w.heap.size rfl 74 D (0, 0) _ HKC.out Tryz.underlying74 rfl HR1.out.1 ?_)
    (with_reducible refine (HCL.out _).mono ?_); rintro ee w97 ⟨rfl, hB97⟩
    have H97 := wall (H5.out.next hB97)
    have H97o := wall (show Blk w97 (w.heap.size + 1) 74 Z9 by rw [← HZ9.out]; exact H97.out.o)
    have HM97 := wall (HM5.out.old hB97)
    clear hB97 HCL HKC
    try simp only [Act.put, rpA, rpB, rpC]
    go_wp2_with (refine wpList_set_row rfl 74 (.tmp 6) (.tmp 92) rfl (w.heap.size + 1) D2 rfl rfl 74 Z9 H97o.out HR2.out.1 HR2.out.2.1 HR2.out.2.2 ?_; intro w99 K99 F99)
    have H99 := wall (Below.frm H97.out.bel F99.out (Nat.le_refl _) (by simp))
    have HM99 := wall (HM.out.old (below_then (Below.refl _ w) H99.out (Nat.le_refl _)))
    go_light
    exact bodyPost_ret (v := .tuple #[.agg D2, .int .u32 2, .bool true]) (results_two_slots Tryz.results29 _ _ (w.heap.size + 1) 74 D2 _ (.int .u32 2) (.bool true) rfl rfl rfl K99.out Tryz.underlying74 rfl HR2.out.1) rfl (by rw [HJ2.out]; exact ⟨by rw [← HD2.out]; rfl, HM99.out.mf, Frm.of_below H99.out⟩)
   ·have hb : ((i.op : Int) == 0) = false := by rw [beq_eq_false_iff_ne]; omega
    have HJ7 := wall (HJ6.out.trans (if_neg h0))
    have HDO := wall (rdo_any c2 HC2.out i u HU.out F vs ls wv w7 (HID.out h0) HWL.out h0 HST.out HFF.out HM5.out)
    have HJO := wall (doR_ok (v := u) (F := F) (vs := vs) (ls := ls) (i := i) (w := wv) HC2.out (HID.out h0) HWL.out HU.out HFF.out.1 HFF.out.2)
    have HJC := wall (fun x h => doR_cause (u := u) (F := F) (vs := vs) (ls := ls) (c := c2) (i := i) (w := wv) (x := x) h)
    rw [← HJ7.out] at HDO HJO HJC
    clear HJ6 HID h0 HJ7
    have HR1 := wall (rrow HC2.out)
    have HR2 := wall (rrow HJO.out)
    have HKC := wall (show Blk w7 w.heap.size 74 (crC c2) from H5.out.c)
    obtain ⟨D, hD⟩ : ∃ y, crC c2 = y := ⟨_, rfl⟩
    obtain ⟨D2, hD2⟩ : ∃ y9, crC J.c = y9 := ⟨_, rfl⟩
    obtain ⟨Z9, hZ9⟩ : ∃ y, crC crZ = y := ⟨_, rfl⟩
    have HD2 := wall hD2
    have HZ9 := wall hZ9
    unfold RresO at HDO
    rw [hD, hD2, HIJ.out] at HDO
    rw [hD] at HKC HR1
    rw [hD2, hZ9] at HR2
    have HZC := wall (show (Tryz.prog.info? 74).bind (·.zero) = some (.agg Z9) by rw [← hZ9]; exact ref_zero)
    clear hD hD2 hZ9
    obtain ⟨z, hz⟩ : ∃ z, cz J.t = z := ⟨_, rfl⟩
    have HZE := wall hz
    rw [hz] at HDO
    clear hz
    go_wp2_with (first | refine wpList_load_row rfl 74 _ rfl w.heap.size rfl 74 D (0, 0) _ HKC.out Tryz.underlying74 rfl HR1.out.1 ?_ | refine wpList_load_row rfl 212 _ rfl g6 rfl 212 IJ (0, 0) _ K7.out Tryz.underlying212 rfl HIR.out.1 ?_)
    (with_reducible refine (HDO.out).mono ?_); rintro ee w8 ⟨rfl, hM8, hF8⟩
    have HM8 := wall hM8
    have HF8 := wall ((Frm.of_below (S := [b1, b2, b4]) H5.out.bel).trans hF8)
    have H8o := wall (show Blk w8 (w.heap.size + 1) 74 Z9 by rw [← HZ9.out]; exact H5.out.o.frm hF8 (by have := HLS.out; simp; omega))
    have HWO := wall (show w.heap.size + 1 < w8.heap.size from H8o.out.lt)
    clear hM8 hF8 HDO HKC H5 HM5 kop hb K7
    try simp only [Act.put, rpA, rpB, rpC]
    go_upto_region 16 with (first | refine Big.wpList_alloc_at rfl 74 rfl Z9 HZC.out w8.heap.size rfl ?_ | (refine wpList_set_row rfl 74 (.tmp 16) (.tmp 99) rfl w8.heap.size D2 rfl rfl 74 Z9 (Blk.new _ _ _) HR2.out.1 HR2.out.2.1 HR2.out.2.2 ?_; intro w9 K9 F9))
    have HB9 := wall (Below.frm ((Below.refl _ w8).alloc (Nat.le_refl _) _) F9.out (Nat.le_refl _) (by simp))
    have HM9 := wall (HM8.out.old HB9.out)
    have HF9 := wall (HF8.out.trans (Frm.of_below HB9.out))
    have H9o := wall (H8o.out.next HB9.out rfl)
    clear F9 HM8 HF8 H8o HB9
    obtain ⟨g8, hg8⟩ : ∃ y, w8.heap.size = y := ⟨_, rfl⟩
    rw [hg8] at K9 HWO
    try rw [hg8]
    clear hg8
    try simp only [Act.put, rpA, rpB, rpC]
    cases ht : J.t with
    | some k =>
     have hzk : z = (k : Int) := by rw [← HZE.out, ht]; rfl
     have hk11 := HJC.out k ht
     subst hzk
     have i0 : (0 : Int) ≤ (k : Int) := by omega
     have i1 : (k : Int) ≤ 11 := by omega
     have HT := wall ht
     clear ht hk11 HZE
     go_wp2_with (first | refine wpList_load_row rfl 74 _ rfl g8 rfl 74 D2 (0, 0) _ K9.out Tryz.underlying74 rfl HR2.out.1 ?_ | (refine wpList_set_row rfl 74 (.tmp 6) (.tmp 103) rfl (w.heap.size + 1) D2 rfl rfl 74 Z9 H9o.out HR2.out.1 HR2.out.2.1 HR2.out.2.2 ?_; intro w99 K99 F99))
     have HM99 := wall (by
      have h := HLS.out
      exact HM9.out.frm F99.out (by simp; omega) (by simp; omega) (by simp; omega) (by simp; omega) (by simp; omega) (by simp; omega))
     have HF99 := wall (HF9.out.trans' F99.out (by intro x hx; simp at hx; omega))
     go_light
     exact bodyPost_ret (v := .tuple #[.agg D2, .int .u32 (k : Int), .bool true]) (results_two_slots Tryz.results29 _ _ (w.heap.size + 1) 74 D2 _ (.int .u32 (k : Int)) (.bool true) rfl rfl rfl K99.out Tryz.underlying74 rfl HR2.out.1) rfl ⟨by rw [HD2.out, HT.out]; rfl, HM99.out, HF99.out⟩
    | none =>
     have hzk : z = -1 := by rw [← HZE.out, ht]; rfl
     subst hzk
     have HT := wall ht
     clear ht HZE
     go_wp2_with (first | refine wpList_load_row rfl 74 _ rfl g8 rfl 74 D2 (0, 0) _ K9.out Tryz.underlying74 rfl HR2.out.1 ?_ | (refine wpList_set_row rfl 74 (.tmp 6) (.tmp 106) rfl (w.heap.size + 1) D2 rfl rfl 74 Z9 H9o.out HR2.out.1 HR2.out.2.1 HR2.out.2.2 ?_; intro w99 K99 F99))
     have HM99 := wall (by
      have h := HLS.out
      exact HM9.out.frm F99.out (by simp; omega) (by simp; omega) (by simp; omega) (by simp; omega) (by simp; omega) (by simp; omega))
     have HF99 := wall (HF9.out.trans' F99.out (by intro x hx; simp at hx; omega))
     go_light
     exact bodyPost_ret (v := .tuple #[.agg D2, .int .u32 0, .bool false]) (results_two_slots Tryz.results29 _ _ (w.heap.size + 1) 74 D2 _ (.int .u32 0) (.bool false) rfl rfl rfl K99.out Tryz.underlying74 rfl HR2.out.1) rfl ⟨by rw [HD2.out, HT.out]; rfl, HM99.out, HF99.out⟩
  ·have he' : (((e : Nat) : Int) != 0) = true := by rw [bne_iff_ne]; omega
   have HJ2 := wall (HJ4.out.trans (if_pos (by simpa using he)))
   replace H5 := wall (H5.out.next HB3.out)
   replace HM5 := wall (HM5.out.old HB3.out)
   have k32 := H5.out.cell HC2.out (show 32 < 41 by decide)
   clear HJ4 HCF he
   have HCL := wall (fun W => show Calls Tryz.prog 100 #[.agg (crC c2), .int .u32 1, .int .u32 (pc : Int)] W (CrOut (trapC c2 1 pc) W) from rtrap_any c2 HC2.out 1 pc W (by decide) HPC.out)
   unfold CrOut at HCL
   have HR1 := wall (rrow HC2.out)
   have HR2 := wall (rrow (Cr.Ok.trap (cause := 1) (v := pc) HC2.out (by decide) HPC.out))
   have HKC := wall (show Blk _ w.heap.size 74 (crC c2) from H5.out.c)
   obtain ⟨D, hD⟩ : ∃ y, crC c2 = y := ⟨_, rfl⟩
   obtain ⟨D2, hD2⟩ : ∃ y9, crC (trapC c2 1 pc) = y9 := ⟨_, rfl⟩
   obtain ⟨Z9, hZ9⟩ : ∃ y, crC crZ = y := ⟨_, rfl⟩
   have HD2 := wall hD2
   have HZ9 := wall hZ9
   rw [hD] at HCL HKC HR1
   rw [hD2] at HCL HR2
   rw [hZ9] at HR2
   clear hD hD2 hZ9
   go_wp2_with (refine wpList_load_row rfl 74 _ rfl w.heap.size rfl 74 D (0, 0) _ HKC.out Tryz.underlying74 rfl HR1.out.1 ?_)
   (with_reducible refine (HCL.out _).mono ?_); rintro ee w97 ⟨rfl, hB97⟩
   have H97 := wall (H5.out.next hB97)
   have H97o := wall (show Blk w97 (w.heap.size + 1) 74 Z9 by rw [← HZ9.out]; exact H97.out.o)
   have HM97 := wall (HM5.out.old hB97)
   clear hB97 HCL HKC
   try simp only [Act.put, rpA, rpB, rpC]
   go_wp2_with (refine wpList_set_row rfl 74 (.tmp 6) (.tmp 60) rfl (w.heap.size + 1) D2 rfl rfl 74 Z9 H97o.out HR2.out.1 HR2.out.2.1 HR2.out.2.2 ?_; intro w99 K99 F99)
   have H99 := wall (Below.frm H97.out.bel F99.out (Nat.le_refl _) (by simp))
   have HM99 := wall (HM.out.old (below_then (Below.refl _ w) H99.out (Nat.le_refl _)))
   go_light
   exact bodyPost_ret (v := .tuple #[.agg D2, .int .u32 1, .bool true]) (results_two_slots Tryz.results29 _ _ (w.heap.size + 1) 74 D2 _ (.int .u32 1) (.bool true) rfl rfl rfl K99.out Tryz.underlying74 rfl HR2.out.1) rfl (by rw [HJ2.out]; exact ⟨by rw [← HD2.out]; rfl, HM99.out.mf, Frm.of_below H99.out⟩)
 ·have hm : ((pc : Int) % 4 != 0) = true := by rw [bne_iff_ne]; omega
  have HJ2 := wall (HJ3.out.trans (if_pos (by omega)))
  clear HJ3 HJ h4
  have HCL := wall (fun W => show Calls Tryz.prog 100 #[.agg (crC c2), .int .u32 0, .int .u32 (pc : Int)] W (CrOut (trapC c2 0 pc) W) from rtrap_any c2 HC2.out 0 pc W (by decide) HPC.out)
  unfold CrOut at HCL
  have HR1 := wall (rrow HC2.out)
  have HR2 := wall (rrow (Cr.Ok.trap (cause := 0) (v := pc) HC2.out (by decide) HPC.out))
  have HKC := wall (show Blk _ w.heap.size 74 (crC c2) from H5.out.c)
  obtain ⟨D, hD⟩ : ∃ y, crC c2 = y := ⟨_, rfl⟩
  obtain ⟨D2, hD2⟩ : ∃ y9, crC (trapC c2 0 pc) = y9 := ⟨_, rfl⟩
  obtain ⟨Z9, hZ9⟩ : ∃ y, crC crZ = y := ⟨_, rfl⟩
  have HD2 := wall hD2
  have HZ9 := wall hZ9
  rw [hD] at HCL HKC HR1
  rw [hD2] at HCL HR2
  rw [hZ9] at HR2
  clear hD hD2 hZ9
  go_wp2_with (refine wpList_load_row rfl 74 _ rfl w.heap.size rfl 74 D (0, 0) _ HKC.out Tryz.underlying74 rfl HR1.out.1 ?_)
  (with_reducible refine (HCL.out _).mono ?_); rintro ee w97 ⟨rfl, hB97⟩
  have H97 := wall (H5.out.next hB97)
  have H97o := wall (show Blk w97 (w.heap.size + 1) 74 Z9 by rw [← HZ9.out]; exact H97.out.o)
  have HM97 := wall (HM5.out.old hB97)
  clear hB97 HCL HKC
  try simp only [Act.put, rpA, rpB, rpC]
  go_wp2_with (refine wpList_set_row rfl 74 (.tmp 6) (.tmp 45) rfl (w.heap.size + 1) D2 rfl rfl 74 Z9 H97o.out HR2.out.1 HR2.out.2.1 HR2.out.2.2 ?_; intro w99 K99 F99)
  have H99 := wall (Below.frm H97.out.bel F99.out (Nat.le_refl _) (by simp))
  have HM99 := wall (HM.out.old (below_then (Below.refl _ w) H99.out (Nat.le_refl _)))
  go_light
  exact bodyPost_ret (v := .tuple #[.agg D2, .int .u32 0, .bool true]) (results_two_slots Tryz.results29 _ _ (w.heap.size + 1) 74 D2 _ (.int .u32 0) (.bool true) rfl rfl rfl K99.out Tryz.underlying74 rfl HR2.out.1) rfl (by rw [HJ2.out]; exact ⟨by rw [← HD2.out]; rfl, HM99.out.mf, Frm.of_below H99.out⟩)
end Core
end Go.Proofs.YtmiaabpnolebhaaGreatDoor
