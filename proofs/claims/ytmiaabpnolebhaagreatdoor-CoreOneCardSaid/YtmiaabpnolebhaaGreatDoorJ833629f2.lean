/-
  Texts of this claim, joined: CorO, CorQ.
-/
import Derived.Test.YtmiaabpnolebhaaGreatDoorJ8c996afc
import Derived.Test.YtmiaabpnolebhaaGreatDoorJ5efe542d
set_option maxHeartbeats 4000000
set_option maxRecDepth 100000
set_option linter.unusedSimpArgs false
set_option linter.unusedVariables false
namespace Go.Proofs.YtmiaabpnolebhaaGreatDoor
open Go.RowKit

namespace Core
open Otp Sha Rv Grant Spc
theorem andNot1 (a : Nat) (ha : a < 4294967296) : bits .andNot .u32 (a : Int) 1 = ((a - a % 2 : Nat) : Int) := by
 have h1 : (BitVec.ofInt 32 (a : Int)).toNat = a := by
  rw [BitVec.ofInt_natCast, BitVec.toNat_ofNat]; exact Nat.mod_eq_of_lt (by omega)
 have one_bits : ∀ i : Fin 32, (1#32).getLsbD i.val = decide (i.val < 1) := by decide
 have hb : ∀ X : BitVec 32, X &&& ~~~(1#32) = (X >>> 1) <<< 1 := fun X => by
  apply BitVec.eq_of_getLsbD_eq
  intro i hi
  have h3 := one_bits ⟨i, hi⟩
  simp only at h3
  simp only [BitVec.getLsbD_and, BitVec.getLsbD_not, hi, decide_true, Bool.true_and, h3, BitVec.getLsbD_shiftLeft, BitVec.getLsbD_ushiftRight]
  by_cases h2 : i < 1
  ·simp [h2]
  ·simp only [h2, decide_false, Bool.not_false, Bool.and_true, Bool.true_and]
   rw [show 1 + (i - 1) = i by omega]
 show IntKind.u32.wrap ((BitVec.ofInt 32 (a : Int) &&& ~~~(BitVec.ofInt 32 1)).toNat : Int) = _
 rw [show BitVec.ofInt 32 1 = 1#32 from rfl, hb, BitVec.toNat_shiftLeft, BitVec.toNat_ushiftRight, h1, IntKind.wrap_u32, Nat.shiftRight_eq_div_pow, Nat.shiftLeft_eq]
 omega
theorem do_jal (c : Cr) (hc : c.Ok) (s : Value) (i : In) (v : Int) (w : World) (hid : InD i) (hop : i.op = 3) :
  Calls Tryz.prog 99 #[.agg (crC c), s, .agg (inC i), .int .u32 v] w (StepOut (jumpR c i.rd ((c.g 32 + i.imm) % 4294967296)).1 (evO (jumpR c i.rd ((c.g 32 + i.imm) % 4294967296)).2 i) w) := by
 have HID := wall hid
 have HOP := wall (And.intro hid.op (hop))
 clear hid
 obtain ⟨J, hJ⟩ : ∃ J, jumpR c i.rd ((c.g 32 + i.imm) % 4294967296) = J := ⟨_, rfl⟩
 rw [hJ]
 have HJ := wall hJ.symm
 clear hJ
 have HC := wall hc
 have HZ := wall cr_zero
 have HE := wall ev_zero
 have HF := wall (Fn.new w c (inC i))
 obtain ⟨C, hC⟩ : ∃ y, crC c = y := ⟨_, rfl⟩
 obtain ⟨Z, hZ⟩ : ∃ y, crC crZ = y := ⟨_, rfl⟩
 obtain ⟨E, hE⟩ : ∃ y, evZ = y := ⟨_, rfl⟩
 obtain ⟨I, hI⟩ : ∃ y, inC i = y := ⟨_, rfl⟩
 have HI := wall hI
 have HZE := wall (And.intro hZ hE)
 rw [hC, hZ, hE, hI] at HF
 rw [hZ] at HZ
 rw [hE] at HE
 rw [hC, hI]
 clear hc hC
 go_enter Tryz.func99, Tryz.ntmps99
 go_upto_region 1 with (first | refine Big.wpList_alloc_at rfl 71 rfl Z HZ.out (w.heap.size + 2) (by simp) ?_ | refine Big.wpList_alloc_at rfl 78 rfl E HE.out (w.heap.size + 3) (by simp) ?_)
 try simp only [Act.put, rpA, rpB, rpC]
 refine wp_fn w c I HF.out ?_
 intro w1 h1
 have H1 := wall h1
 clear h1 HF
 have ka : w1.cell? ⟨w.heap.size + 1, 2, none⟩ = some (.int .u8 (i.a : Int)) := by rw [H1.out.i.cell, ← hI]; rfl
 have kb : w1.cell? ⟨w.heap.size + 1, 3, none⟩ = some (.int .u8 (i.b : Int)) := by rw [H1.out.i.cell, ← hI]; rfl
 have ha32 : i.a < 32 := HID.out.a
 have hb32 : i.b < 32 := HID.out.b
 have kxa := H1.out.cell HC.out (show i.a < 41 by omega)
 have kxb := H1.out.cell HC.out (show i.b < 41 by omega)
 have hl1 : w.heap.size + 1 < w1.heap.size := H1.out.i.lt
 have hl0 : w.heap.size < w1.heap.size := by omega
 clear hop
 go_wp2_with fail
 refine RelG.wp_region_rel 12 [] (by kernel_rfl) (by kernel_rfl) ?_
 simp only [List.take_succ_cons, List.take_zero, List.drop_succ_cons, List.drop_zero, Act.put, rpA, rpB, rpC]
 repeat (first | (refine RelG.tree_quiet rfl rfl rfl (fun K hK => ?_); go_big_quiet_op; refine hK _ ?_; clear hK K) | ((first | refine RelG.tree_pure rfl rfl rfl (.int .u8 (i.a : Int)) (fun W hW _ => Rel.exec_load1 _ _ rfl (w.heap.size + 1) (2) rfl _ (fun _ => by kernel_rfl) ((hW.undrew.cell (p := ⟨w.heap.size + 1, 2, none⟩) hl1).trans ka)) ?_ | refine RelG.tree_pure rfl rfl rfl (.int .u32 ((c.g i.a : Nat) : Int)) (fun W hW _ => Rel.exec_load1 _ _ rfl (w.heap.size) (i.a) rfl _ (fun _ => by kernel_rfl) ((hW.undrew.cell (p := ⟨w.heap.size, i.a, none⟩) hl0).trans kxa)) ?_ | refine RelG.tree_pure rfl rfl rfl (.int .u8 (i.b : Int)) (fun W hW _ => Rel.exec_load1 _ _ rfl (w.heap.size + 1) (3) rfl _ (fun _ => by kernel_rfl) ((hW.undrew.cell (p := ⟨w.heap.size + 1, 3, none⟩) hl1).trans kb)) ?_ | refine RelG.tree_pure rfl rfl rfl (.int .u32 ((c.g i.b : Nat) : Int)) (fun W hW _ => Rel.exec_load1 _ _ rfl (w.heap.size) (i.b) rfl _ (fun _ => by kernel_rfl) ((hW.undrew.cell (p := ⟨w.heap.size, i.b, none⟩) hl0).trans kxb)) ?_); simp only [Act.put, rpA, rpB, rpC]))
 intro W hW _
 have HW := wall (H1.out.next hW.undrew)
 have kop : W.cell? ⟨w.heap.size + 1, 0, none⟩ = some (.int .u8 (i.op : Int)) := by rw [HW.out.i.cell, ← hI]; rfl
 clear hW ka kb kxa kxb H1 hl0 hl1 ha32 hb32
 obtain ⟨xa, hxa⟩ : ∃ y, c.g i.a = y := ⟨_, rfl⟩
 obtain ⟨xb, hxb⟩ : ∃ y, c.g i.b = y := ⟨_, rfl⟩
 rw [hxa, hxb]
 have HXA := wall hxa
 have HXB := wall hxb
 have hop := HOP.out.2
 have hop57 := HOP.out.1
 clear hxa hxb
 have n1 : ((i.op : Int) == 1) = false := by rw [beq_eq_false_iff_ne]; omega
 have n2 : ((i.op : Int) == 2) = false := by rw [beq_eq_false_iff_ne]; omega
 have n3 : ((i.op : Int) == 3) = true := by rw [beq_iff_eq]; omega
 clear hop hop57
 have HSI := wall (show (Tryz.prog.info? 71).map (·.size) = some (crC c).size ∧ (Tryz.prog.info? 54).map (·.size) = some I.size from ⟨(res_row HC.out).1, by rw [← HI.out]; exact in_info⟩)
 have HCB := wall (show Blk W w.heap.size 71 (crC c) from HW.out.c)
 have HIB := wall (show Blk W (w.heap.size + 1) 54 I from HW.out.i)
 obtain ⟨D, hD⟩ : ∃ z, crC c = z := ⟨_, rfl⟩
 have HDD := wall hD
 rw [hD] at HSI HCB
 have k32 := HW.out.cell HC.out (show 32 < 41 by decide)
 have ki : W.cell? ⟨w.heap.size + 1, 4, none⟩ = some (.int .u32 (i.imm : Int)) := by rw [HW.out.i.cell, ← hI]; rfl
 obtain ⟨z, hz⟩ : ∃ z, (c.g 32 + i.imm) % 4294967296 = z := ⟨_, rfl⟩
 have hzi : (((c.g 32 : Nat) : Int) + (i.imm : Int)) % 4294967296 = (z : Int) := by omega
 have HZL := wall (show z < 4294967296 by omega)
 have HZZ := wall hz
 clear hz
 have HJE := wall (show J.1 = (jumpR c i.rd z).1 ∧ J.2 = (jumpR c i.rd z).2 by rw [HJ.out, HZZ.out]; exact ⟨rfl, rfl⟩)
 have HNX := wall (fun W => jump_any c HC.out i z W HZL.out HID.out)
 unfold StepOut at HNX
 rw [HDD.out] at HNX
 try rw [HI.out] at HNX
 have HOK1 := wall (show ((jumpR c i.rd z).1).Ok from HC.out.jump i.rd HZL.out)
 have HRW := wall (res_row HOK1.out)
 have HEW := wall (evo_row ((jumpR c i.rd z).2) i)
 rw [HZE.out.1] at HRW
 rw [HZE.out.2] at HEW
 obtain ⟨D2, hD2⟩ : ∃ q9, crC ((jumpR c i.rd z).1) = q9 := ⟨_, rfl⟩
 obtain ⟨V, hV⟩ : ∃ q9, evO ((jumpR c i.rd z).2) i = q9 := ⟨_, rfl⟩
 have HD2 := wall hD2
 have HVV := wall hV
 rw [hD2] at HNX HRW
 rw [hV] at HNX HEW
 clear hD2 hV
 go_wp2_with (first | refine wpList_load_row rfl 71 _ rfl w.heap.size rfl 71 D (0, 0) _ HCB.out Tryz.underlying71 rfl HSI.out.1 ?_ | refine wpList_load_row rfl 54 _ rfl (w.heap.size + 1) rfl 54 I (0, 0) _ HIB.out Tryz.underlying54 rfl HSI.out.2 ?_)
 clear n1 n2 n3
 (with_reducible refine (HNX.out _).mono ?_); rintro e w8 ⟨rfl, hB8⟩
 have H8 := wall (HW.out.next hB8)
 have H8o := wall (show Blk w8 (w.heap.size + 2) 71 Z by rw [← hZ]; exact H8.out.o)
 have H8e := wall (show Blk w8 (w.heap.size + 3) 78 E by rw [← hE]; exact H8.out.e)
 have H8b := wall H8.out.bel
 clear hB8 H8 HNX
 try simp only [Act.put, rpA, rpB, rpC]
 go_wp2_with (first | (refine wpList_set_row rfl 71 (.tmp 8) (.tmp 69) rfl (w.heap.size + 2) D2 rfl rfl 71 Z H8o.out HRW.out.1 HRW.out.2.1 HRW.out.2.2 ?_; intro w9 K9 F9; have H9e := wall (H8e.out.frm F9.out (by simp)); have H9b := wall (Below.frm H8b.out F9.out (Nat.le_refl _) (by simp))) | (refine wpList_set_row rfl 78 (.tmp 9) (.tmp 70) rfl (w.heap.size + 3) V rfl rfl 78 E H9e.out HEW.out.1 HEW.out.2.1 HEW.out.2.2 ?_; intro w10 K10 F10))
 have K10o := wall (K9.out.frm F10.out (by simp))
 have HB10 := wall (Below.frm H9b.out F10.out (Nat.le_refl _) (by simp))
 go_light
 exact bodyPost_ret (v := .tuple #[.agg D2, .agg V]) (results_two Tryz.results99 _ _ (w.heap.size + 2) (w.heap.size + 3) 71 78 D2 V _ _ rfl rfl K10o.out K10.out Tryz.underlying71 rfl HRW.out.1 Tryz.underlying78 rfl HEW.out.1) rfl ⟨by rw [HJE.out.1, HJE.out.2, HD2.out, HVV.out], HB10.out⟩
theorem do_jalr (c : Cr) (hc : c.Ok) (s : Value) (i : In) (v : Int) (w : World) (hid : InD i) (hop : i.op = 4) :
  Calls Tryz.prog 99 #[.agg (crC c), s, .agg (inC i), .int .u32 v] w (StepOut (jumpR c i.rd ((c.g i.a + i.imm) % 4294967296 - (c.g i.a + i.imm) % 4294967296 % 2)).1 (evO (jumpR c i.rd ((c.g i.a + i.imm) % 4294967296 - (c.g i.a + i.imm) % 4294967296 % 2)).2 i) w) := by
 have HID := wall hid
 have HOP := wall (And.intro hid.op (hop))
 clear hid
 obtain ⟨J, hJ⟩ : ∃ J, jumpR c i.rd ((c.g i.a + i.imm) % 4294967296 - (c.g i.a + i.imm) % 4294967296 % 2) = J := ⟨_, rfl⟩
 rw [hJ]
 have HJ := wall hJ.symm
 clear hJ
 have HC := wall hc
 have HZ := wall cr_zero
 have HE := wall ev_zero
 have HF := wall (Fn.new w c (inC i))
 obtain ⟨C, hC⟩ : ∃ y, crC c = y := ⟨_, rfl⟩
 obtain ⟨Z, hZ⟩ : ∃ y, crC crZ = y := ⟨_, rfl⟩
 obtain ⟨E, hE⟩ : ∃ y, evZ = y := ⟨_, rfl⟩
 obtain ⟨I, hI⟩ : ∃ y, inC i = y := ⟨_, rfl⟩
 have HI := wall hI
 have HZE := wall (And.intro hZ hE)
 rw [hC, hZ, hE, hI] at HF
 rw [hZ] at HZ
 rw [hE] at HE
 rw [hC, hI]
 clear hc hC
 go_enter Tryz.func99, Tryz.ntmps99
 go_upto_region 1 with (first | refine Big.wpList_alloc_at rfl 71 rfl Z HZ.out (w.heap.size + 2) (by simp) ?_ | refine Big.wpList_alloc_at rfl 78 rfl E HE.out (w.heap.size + 3) (by simp) ?_)
 try simp only [Act.put, rpA, rpB, rpC]
 refine wp_fn w c I HF.out ?_
 intro w1 h1
 have H1 := wall h1
 clear h1 HF
 have ka : w1.cell? ⟨w.heap.size + 1, 2, none⟩ = some (.int .u8 (i.a : Int)) := by rw [H1.out.i.cell, ← hI]; rfl
 have kb : w1.cell? ⟨w.heap.size + 1, 3, none⟩ = some (.int .u8 (i.b : Int)) := by rw [H1.out.i.cell, ← hI]; rfl
 have ha32 : i.a < 32 := HID.out.a
 have hb32 : i.b < 32 := HID.out.b
 have kxa := H1.out.cell HC.out (show i.a < 41 by omega)
 have kxb := H1.out.cell HC.out (show i.b < 41 by omega)
 have hl1 : w.heap.size + 1 < w1.heap.size := H1.out.i.lt
 have hl0 : w.heap.size < w1.heap.size := by omega
 clear hop
 go_wp2_with fail
 refine RelG.wp_region_rel 12 [] (by kernel_rfl) (by kernel_rfl) ?_
 simp only [List.take_succ_cons, List.take_zero, List.drop_succ_cons, List.drop_zero, Act.put, rpA, rpB, rpC]
 repeat (first | (refine RelG.tree_quiet rfl rfl rfl (fun K hK => ?_); go_big_quiet_op; refine hK _ ?_; clear hK K) | ((first | refine RelG.tree_pure rfl rfl rfl (.int .u8 (i.a : Int)) (fun W hW _ => Rel.exec_load1 _ _ rfl (w.heap.size + 1) (2) rfl _ (fun _ => by kernel_rfl) ((hW.undrew.cell (p := ⟨w.heap.size + 1, 2, none⟩) hl1).trans ka)) ?_ | refine RelG.tree_pure rfl rfl rfl (.int .u32 ((c.g i.a : Nat) : Int)) (fun W hW _ => Rel.exec_load1 _ _ rfl (w.heap.size) (i.a) rfl _ (fun _ => by kernel_rfl) ((hW.undrew.cell (p := ⟨w.heap.size, i.a, none⟩) hl0).trans kxa)) ?_ | refine RelG.tree_pure rfl rfl rfl (.int .u8 (i.b : Int)) (fun W hW _ => Rel.exec_load1 _ _ rfl (w.heap.size + 1) (3) rfl _ (fun _ => by kernel_rfl) ((hW.undrew.cell (p := ⟨w.heap.size + 1, 3, none⟩) hl1).trans kb)) ?_ | refine RelG.tree_pure rfl rfl rfl (.int .u32 ((c.g i.b : Nat) : Int)) (fun W hW _ => Rel.exec_load1 _ _ rfl (w.heap.size) (i.b) rfl _ (fun _ => by kernel_rfl) ((hW.undrew.cell (p := ⟨w.heap.size, i.b, none⟩) hl0).trans kxb)) ?_); simp only [Act.put, rpA, rpB, rpC]))
 intro W hW _
 have HW := wall (H1.out.next hW.undrew)
 have kop : W.cell? ⟨w.heap.size + 1, 0, none⟩ = some (.int .u8 (i.op : Int)) := by rw [HW.out.i.cell, ← hI]; rfl
 clear hW ka kb kxa kxb H1 hl0 hl1 ha32 hb32
 obtain ⟨xa, hxa⟩ : ∃ y, c.g i.a = y := ⟨_, rfl⟩
 obtain ⟨xb, hxb⟩ : ∃ y, c.g i.b = y := ⟨_, rfl⟩
 rw [hxa, hxb]
 have HXA := wall hxa
 have HXB := wall hxb
 have hop := HOP.out.2
 have hop57 := HOP.out.1
 clear hxa hxb
 have n1 : ((i.op : Int) == 1) = false := by rw [beq_eq_false_iff_ne]; omega
 have n2 : ((i.op : Int) == 2) = false := by rw [beq_eq_false_iff_ne]; omega
 have n3 : ((i.op : Int) == 3) = false := by rw [beq_eq_false_iff_ne]; omega
 have n4 : ((i.op : Int) == 4) = true := by rw [beq_iff_eq]; omega
 clear hop hop57
 have HSI := wall (show (Tryz.prog.info? 71).map (·.size) = some (crC c).size ∧ (Tryz.prog.info? 54).map (·.size) = some I.size from ⟨(res_row HC.out).1, by rw [← HI.out]; exact in_info⟩)
 have HCB := wall (show Blk W w.heap.size 71 (crC c) from HW.out.c)
 have HIB := wall (show Blk W (w.heap.size + 1) 54 I from HW.out.i)
 obtain ⟨D, hD⟩ : ∃ z, crC c = z := ⟨_, rfl⟩
 have HDD := wall hD
 rw [hD] at HSI HCB
 have ki : W.cell? ⟨w.heap.size + 1, 4, none⟩ = some (.int .u32 (i.imm : Int)) := by rw [HW.out.i.cell, ← hI]; rfl
 obtain ⟨y, hy⟩ : ∃ y, (xa + i.imm) % 4294967296 = y := ⟨_, rfl⟩
 have hyi : ((xa : Int) + (i.imm : Int)) % 4294967296 = (y : Int) := by omega
 have hyl : y < 4294967296 := by omega
 have hb := andNot1 y hyl
 have HYY := wall hy
 obtain ⟨z, hz⟩ : ∃ z, y - y % 2 = z := ⟨_, rfl⟩
 rw [hz] at hb
 have HZL := wall (show z < 4294967296 by omega)
 have HZZ := wall (show (((c.g i.a + i.imm) % 4294967296) - ((c.g i.a + i.imm) % 4294967296) % 2) = z by rw [HXA.out, hy]; exact hz)
 clear hz hy
 have HJE := wall (show J.1 = (jumpR c i.rd z).1 ∧ J.2 = (jumpR c i.rd z).2 by rw [HJ.out, HZZ.out]; exact ⟨rfl, rfl⟩)
 have HNX := wall (fun W => jump_any c HC.out i z W HZL.out HID.out)
 unfold StepOut at HNX
 rw [HDD.out] at HNX
 try rw [HI.out] at HNX
 have HOK1 := wall (show ((jumpR c i.rd z).1).Ok from HC.out.jump i.rd HZL.out)
 have HRW := wall (res_row HOK1.out)
 have HEW := wall (evo_row ((jumpR c i.rd z).2) i)
 rw [HZE.out.1] at HRW
 rw [HZE.out.2] at HEW
 obtain ⟨D2, hD2⟩ : ∃ q9, crC ((jumpR c i.rd z).1) = q9 := ⟨_, rfl⟩
 obtain ⟨V, hV⟩ : ∃ q9, evO ((jumpR c i.rd z).2) i = q9 := ⟨_, rfl⟩
 have HD2 := wall hD2
 have HVV := wall hV
 rw [hD2] at HNX HRW
 rw [hV] at HNX HEW
 clear hD2 hV
 go_wp2_with (first | refine wpList_load_row rfl 71 _ rfl w.heap.size rfl 71 D (0, 0) _ HCB.out Tryz.underlying71 rfl HSI.out.1 ?_ | refine wpList_load_row rfl 54 _ rfl (w.heap.size + 1) rfl 54 I (0, 0) _ HIB.out Tryz.underlying54 rfl HSI.out.2 ?_)
 clear n1 n2 n3 n4
 (with_reducible refine (HNX.out _).mono ?_); rintro e w8 ⟨rfl, hB8⟩
 have H8 := wall (HW.out.next hB8)
 have H8o := wall (show Blk w8 (w.heap.size + 2) 71 Z by rw [← hZ]; exact H8.out.o)
 have H8e := wall (show Blk w8 (w.heap.size + 3) 78 E by rw [← hE]; exact H8.out.e)
 have H8b := wall H8.out.bel
 clear hB8 H8 HNX
 try simp only [Act.put, rpA, rpB, rpC]
 go_wp2_with (first | (refine wpList_set_row rfl 71 (.tmp 8) (.tmp 83) rfl (w.heap.size + 2) D2 rfl rfl 71 Z H8o.out HRW.out.1 HRW.out.2.1 HRW.out.2.2 ?_; intro w9 K9 F9; have H9e := wall (H8e.out.frm F9.out (by simp)); have H9b := wall (Below.frm H8b.out F9.out (Nat.le_refl _) (by simp))) | (refine wpList_set_row rfl 78 (.tmp 9) (.tmp 84) rfl (w.heap.size + 3) V rfl rfl 78 E H9e.out HEW.out.1 HEW.out.2.1 HEW.out.2.2 ?_; intro w10 K10 F10))
 have K10o := wall (K9.out.frm F10.out (by simp))
 have HB10 := wall (Below.frm H9b.out F10.out (Nat.le_refl _) (by simp))
 go_light
 exact bodyPost_ret (v := .tuple #[.agg D2, .agg V]) (results_two Tryz.results99 _ _ (w.heap.size + 2) (w.heap.size + 3) 71 78 D2 V _ _ rfl rfl K10o.out K10.out Tryz.underlying71 rfl HRW.out.1 Tryz.underlying78 rfl HEW.out.1) rfl ⟨by rw [HJE.out.1, HJE.out.2, HD2.out, HVV.out], HB10.out⟩
theorem do_call (c : Cr) (hc : c.Ok) (s : Value) (i : In) (v : Int) (w : World) (hid : InD i) (hop : i.op = 39) :
  Calls Tryz.prog 99 #[.agg (crC c), s, .agg (inC i), .int .u32 v] w (StepOut (trR c 11 0).1 (evO (trR c 11 0).2 i) w) := by
 have HID := wall hid
 have HOP := wall (And.intro hid.op (hop))
 clear hid
 obtain ⟨J, hJ⟩ : ∃ J, trR c 11 0 = J := ⟨_, rfl⟩
 rw [hJ]
 have HJ := wall hJ.symm
 clear hJ
 have HC := wall hc
 have HZ := wall cr_zero
 have HE := wall ev_zero
 have HF := wall (Fn.new w c (inC i))
 obtain ⟨C, hC⟩ : ∃ y, crC c = y := ⟨_, rfl⟩
 obtain ⟨Z, hZ⟩ : ∃ y, crC crZ = y := ⟨_, rfl⟩
 obtain ⟨E, hE⟩ : ∃ y, evZ = y := ⟨_, rfl⟩
 obtain ⟨I, hI⟩ : ∃ y, inC i = y := ⟨_, rfl⟩
 have HI := wall hI
 have HZE := wall (And.intro hZ hE)
 rw [hC, hZ, hE, hI] at HF
 rw [hZ] at HZ
 rw [hE] at HE
 rw [hC, hI]
 clear hc hC
 go_enter Tryz.func99, Tryz.ntmps99
 go_upto_region 1 with (first | refine Big.wpList_alloc_at rfl 71 rfl Z HZ.out (w.heap.size + 2) (by simp) ?_ | refine Big.wpList_alloc_at rfl 78 rfl E HE.out (w.heap.size + 3) (by simp) ?_)
 try simp only [Act.put, rpA, rpB, rpC]
 refine wp_fn w c I HF.out ?_
 intro w1 h1
 have H1 := wall h1
 clear h1 HF
 have ka : w1.cell? ⟨w.heap.size + 1, 2, none⟩ = some (.int .u8 (i.a : Int)) := by rw [H1.out.i.cell, ← hI]; rfl
 have kb : w1.cell? ⟨w.heap.size + 1, 3, none⟩ = some (.int .u8 (i.b : Int)) := by rw [H1.out.i.cell, ← hI]; rfl
 have ha32 : i.a < 32 := HID.out.a
 have hb32 : i.b < 32 := HID.out.b
 have kxa := H1.out.cell HC.out (show i.a < 41 by omega)
 have kxb := H1.out.cell HC.out (show i.b < 41 by omega)
 have hl1 : w.heap.size + 1 < w1.heap.size := H1.out.i.lt
 have hl0 : w.heap.size < w1.heap.size := by omega
 clear hop
 go_wp2_with fail
 refine RelG.wp_region_rel 12 [] (by kernel_rfl) (by kernel_rfl) ?_
 simp only [List.take_succ_cons, List.take_zero, List.drop_succ_cons, List.drop_zero, Act.put, rpA, rpB, rpC]
 repeat (first | (refine RelG.tree_quiet rfl rfl rfl (fun K hK => ?_); go_big_quiet_op; refine hK _ ?_; clear hK K) | ((first | refine RelG.tree_pure rfl rfl rfl (.int .u8 (i.a : Int)) (fun W hW _ => Rel.exec_load1 _ _ rfl (w.heap.size + 1) (2) rfl _ (fun _ => by kernel_rfl) ((hW.undrew.cell (p := ⟨w.heap.size + 1, 2, none⟩) hl1).trans ka)) ?_ | refine RelG.tree_pure rfl rfl rfl (.int .u32 ((c.g i.a : Nat) : Int)) (fun W hW _ => Rel.exec_load1 _ _ rfl (w.heap.size) (i.a) rfl _ (fun _ => by kernel_rfl) ((hW.undrew.cell (p := ⟨w.heap.size, i.a, none⟩) hl0).trans kxa)) ?_ | refine RelG.tree_pure rfl rfl rfl (.int .u8 (i.b : Int)) (fun W hW _ => Rel.exec_load1 _ _ rfl (w.heap.size + 1) (3) rfl _ (fun _ => by kernel_rfl) ((hW.undrew.cell (p := ⟨w.heap.size + 1, 3, none⟩) hl1).trans kb)) ?_ | refine RelG.tree_pure rfl rfl rfl (.int .u32 ((c.g i.b : Nat) : Int)) (fun W hW _ => Rel.exec_load1 _ _ rfl (w.heap.size) (i.b) rfl _ (fun _ => by kernel_rfl) ((hW.undrew.cell (p := ⟨w.heap.size, i.b, none⟩) hl0).trans kxb)) ?_); simp only [Act.put, rpA, rpB, rpC]))
 intro W hW _
 have HW := wall (H1.out.next hW.undrew)
 have kop : W.cell? ⟨w.heap.size + 1, 0, none⟩ = some (.int .u8 (i.op : Int)) := by rw [HW.out.i.cell, ← hI]; rfl
 clear hW ka kb kxa kxb H1 hl0 hl1 ha32 hb32
 obtain ⟨xa, hxa⟩ : ∃ y, c.g i.a = y := ⟨_, rfl⟩
 obtain ⟨xb, hxb⟩ : ∃ y, c.g i.b = y := ⟨_, rfl⟩
 rw [hxa, hxb]
 have HXA := wall hxa
 have HXB := wall hxb
 have hop := HOP.out.2
 have hop57 := HOP.out.1
 clear hxa hxb
 have n1 : ((i.op : Int) == 1) = false := by rw [beq_eq_false_iff_ne]; omega
 have n2 : ((i.op : Int) == 2) = false := by rw [beq_eq_false_iff_ne]; omega
 have n3 : ((i.op : Int) == 3) = false := by rw [beq_eq_false_iff_ne]; omega
 have n4 : ((i.op : Int) == 4) = false := by rw [beq_eq_false_iff_ne]; omega
 have n39 : ((i.op : Int) == 39) = true := by rw [beq_iff_eq]; omega
 have g5 : decide ((5 : Int) ≤ (i.op : Int)) = true := by simp; omega
 have g11 : decide ((11 : Int) ≤ (i.op : Int)) = true := by simp; omega
 have g16 : decide ((16 : Int) ≤ (i.op : Int)) = true := by simp; omega
 have l10 : decide ((i.op : Int) ≤ 10) = false := by simp; omega
 have l15 : decide ((i.op : Int) ≤ 15) = false := by simp; omega
 have l18 : decide ((i.op : Int) ≤ 18) = false := by simp; omega
 clear hop hop57
 have HSI := wall (show (Tryz.prog.info? 71).map (·.size) = some (crC c).size ∧ (Tryz.prog.info? 54).map (·.size) = some I.size from ⟨(res_row HC.out).1, by rw [← HI.out]; exact in_info⟩)
 have HCB := wall (show Blk W w.heap.size 71 (crC c) from HW.out.c)
 have HIB := wall (show Blk W (w.heap.size + 1) 54 I from HW.out.i)
 obtain ⟨D, hD⟩ : ∃ z, crC c = z := ⟨_, rfl⟩
 have HDD := wall hD
 rw [hD] at HSI HCB
 have HJE := wall (show J.1 = trapC c 11 0 ∧ J.2 = some 11 by rw [HJ.out]; exact ⟨rfl, rfl⟩)
 have HNX := wall (fun W => show Calls Tryz.prog 97 #[.agg (crC c), .int .u32 11, .int .u32 0] W (StepOut (trapC c 11 0) (evO (some 11) i) W) from trap_any c HC.out 11 0 W (by decide) (by decide))
 unfold StepOut at HNX
 rw [HDD.out] at HNX
 try rw [HI.out] at HNX
 have HOK1 := wall (show (trapC c 11 0).Ok from Cr.Ok.trap HC.out (by decide) (by decide))
 have HRW := wall (res_row HOK1.out)
 have HEW := wall (evo_row (some 11) i)
 rw [HZE.out.1] at HRW
 rw [HZE.out.2] at HEW
 obtain ⟨D2, hD2⟩ : ∃ q9, crC (trapC c 11 0) = q9 := ⟨_, rfl⟩
 obtain ⟨V, hV⟩ : ∃ q9, evO (some 11) i = q9 := ⟨_, rfl⟩
 have HD2 := wall hD2
 have HVV := wall hV
 rw [hD2] at HNX HRW
 rw [hV] at HNX HEW
 clear hD2 hV
 go_wp2_with (first | refine wpList_load_row rfl 71 _ rfl w.heap.size rfl 71 D (0, 0) _ HCB.out Tryz.underlying71 rfl HSI.out.1 ?_ | refine wpList_load_row rfl 54 _ rfl (w.heap.size + 1) rfl 54 I (0, 0) _ HIB.out Tryz.underlying54 rfl HSI.out.2 ?_)
 clear n1 n2 n3 n4 n39 g5 g11 g16 l10 l15 l18
 (with_reducible refine (HNX.out _).mono ?_); rintro e w8 ⟨rfl, hB8⟩
 have H8 := wall (HW.out.next hB8)
 have H8o := wall (show Blk w8 (w.heap.size + 2) 71 Z by rw [← hZ]; exact H8.out.o)
 have H8e := wall (show Blk w8 (w.heap.size + 3) 78 E by rw [← hE]; exact H8.out.e)
 have H8b := wall H8.out.bel
 clear hB8 H8 HNX
 try simp only [Act.put, rpA, rpB, rpC]
 go_wp2_with (first | (refine wpList_set_row rfl 71 (.tmp 8) (.tmp 150) rfl (w.heap.size + 2) D2 rfl rfl 71 Z H8o.out HRW.out.1 HRW.out.2.1 HRW.out.2.2 ?_; intro w9 K9 F9; have H9e := wall (H8e.out.frm F9.out (by simp)); have H9b := wall (Below.frm H8b.out F9.out (Nat.le_refl _) (by simp))) | (refine wpList_set_row rfl 78 (.tmp 9) (.tmp 151) rfl (w.heap.size + 3) V rfl rfl 78 E H9e.out HEW.out.1 HEW.out.2.1 HEW.out.2.2 ?_; intro w10 K10 F10))
 have K10o := wall (K9.out.frm F10.out (by simp))
 have HB10 := wall (Below.frm H9b.out F10.out (Nat.le_refl _) (by simp))
 go_light
 exact bodyPost_ret (v := .tuple #[.agg D2, .agg V]) (results_two Tryz.results99 _ _ (w.heap.size + 2) (w.heap.size + 3) 71 78 D2 V _ _ rfl rfl K10o.out K10.out Tryz.underlying71 rfl HRW.out.1 Tryz.underlying78 rfl HEW.out.1) rfl ⟨by rw [HJE.out.1, HJE.out.2, HD2.out, HVV.out], HB10.out⟩
theorem do_stop (c : Cr) (hc : c.Ok) (s : Value) (i : In) (v : Int) (w : World) (hid : InD i) (hop : i.op = 40) :
  Calls Tryz.prog 99 #[.agg (crC c), s, .agg (inC i), .int .u32 v] w (StepOut (trR c 3 (c.g 32)).1 (evO (trR c 3 (c.g 32)).2 i) w) := by
 have HID := wall hid
 have HOP := wall (And.intro hid.op (hop))
 clear hid
 obtain ⟨J, hJ⟩ : ∃ J, trR c 3 (c.g 32) = J := ⟨_, rfl⟩
 rw [hJ]
 have HJ := wall hJ.symm
 clear hJ
 have HC := wall hc
 have HZ := wall cr_zero
 have HE := wall ev_zero
 have HF := wall (Fn.new w c (inC i))
 obtain ⟨C, hC⟩ : ∃ y, crC c = y := ⟨_, rfl⟩
 obtain ⟨Z, hZ⟩ : ∃ y, crC crZ = y := ⟨_, rfl⟩
 obtain ⟨E, hE⟩ : ∃ y, evZ = y := ⟨_, rfl⟩
 obtain ⟨I, hI⟩ : ∃ y, inC i = y := ⟨_, rfl⟩
 have HI := wall hI
 have HZE := wall (And.intro hZ hE)
 rw [hC, hZ, hE, hI] at HF
 rw [hZ] at HZ
 rw [hE] at HE
 rw [hC, hI]
 clear hc hC
 go_enter Tryz.func99, Tryz.ntmps99
 go_upto_region 1 with (first | refine Big.wpList_alloc_at rfl 71 rfl Z HZ.out (w.heap.size + 2) (by simp) ?_ | refine Big.wpList_alloc_at rfl 78 rfl E HE.out (w.heap.size + 3) (by simp) ?_)
 try simp only [Act.put, rpA, rpB, rpC]
 refine wp_fn w c I HF.out ?_
 intro w1 h1
 have H1 := wall h1
 clear h1 HF
 have ka : w1.cell? ⟨w.heap.size + 1, 2, none⟩ = some (.int .u8 (i.a : Int)) := by rw [H1.out.i.cell, ← hI]; rfl
 have kb : w1.cell? ⟨w.heap.size + 1, 3, none⟩ = some (.int .u8 (i.b : Int)) := by rw [H1.out.i.cell, ← hI]; rfl
 have ha32 : i.a < 32 := HID.out.a
 have hb32 : i.b < 32 := HID.out.b
 have kxa := H1.out.cell HC.out (show i.a < 41 by omega)
 have kxb := H1.out.cell HC.out (show i.b < 41 by omega)
 have hl1 : w.heap.size + 1 < w1.heap.size := H1.out.i.lt
 have hl0 : w.heap.size < w1.heap.size := by omega
 clear hop
 go_wp2_with fail
 refine RelG.wp_region_rel 12 [] (by kernel_rfl) (by kernel_rfl) ?_
 simp only [List.take_succ_cons, List.take_zero, List.drop_succ_cons, List.drop_zero, Act.put, rpA, rpB, rpC]
 repeat (first | (refine RelG.tree_quiet rfl rfl rfl (fun K hK => ?_); go_big_quiet_op; refine hK _ ?_; clear hK K) | ((first | refine RelG.tree_pure rfl rfl rfl (.int .u8 (i.a : Int)) (fun W hW _ => Rel.exec_load1 _ _ rfl (w.heap.size + 1) (2) rfl _ (fun _ => by kernel_rfl) ((hW.undrew.cell (p := ⟨w.heap.size + 1, 2, none⟩) hl1).trans ka)) ?_ | refine RelG.tree_pure rfl rfl rfl (.int .u32 ((c.g i.a : Nat) : Int)) (fun W hW _ => Rel.exec_load1 _ _ rfl (w.heap.size) (i.a) rfl _ (fun _ => by kernel_rfl) ((hW.undrew.cell (p := ⟨w.heap.size, i.a, none⟩) hl0).trans kxa)) ?_ | refine RelG.tree_pure rfl rfl rfl (.int .u8 (i.b : Int)) (fun W hW _ => Rel.exec_load1 _ _ rfl (w.heap.size + 1) (3) rfl _ (fun _ => by kernel_rfl) ((hW.undrew.cell (p := ⟨w.heap.size + 1, 3, none⟩) hl1).trans kb)) ?_ | refine RelG.tree_pure rfl rfl rfl (.int .u32 ((c.g i.b : Nat) : Int)) (fun W hW _ => Rel.exec_load1 _ _ rfl (w.heap.size) (i.b) rfl _ (fun _ => by kernel_rfl) ((hW.undrew.cell (p := ⟨w.heap.size, i.b, none⟩) hl0).trans kxb)) ?_); simp only [Act.put, rpA, rpB, rpC]))
 intro W hW _
 have HW := wall (H1.out.next hW.undrew)
 have kop : W.cell? ⟨w.heap.size + 1, 0, none⟩ = some (.int .u8 (i.op : Int)) := by rw [HW.out.i.cell, ← hI]; rfl
 clear hW ka kb kxa kxb H1 hl0 hl1 ha32 hb32
 obtain ⟨xa, hxa⟩ : ∃ y, c.g i.a = y := ⟨_, rfl⟩
 obtain ⟨xb, hxb⟩ : ∃ y, c.g i.b = y := ⟨_, rfl⟩
 rw [hxa, hxb]
 have HXA := wall hxa
 have HXB := wall hxb
 have hop := HOP.out.2
 have hop57 := HOP.out.1
 clear hxa hxb
 have n1 : ((i.op : Int) == 1) = false := by rw [beq_eq_false_iff_ne]; omega
 have n2 : ((i.op : Int) == 2) = false := by rw [beq_eq_false_iff_ne]; omega
 have n3 : ((i.op : Int) == 3) = false := by rw [beq_eq_false_iff_ne]; omega
 have n4 : ((i.op : Int) == 4) = false := by rw [beq_eq_false_iff_ne]; omega
 have n39 : ((i.op : Int) == 39) = false := by rw [beq_eq_false_iff_ne]; omega
 have n40 : ((i.op : Int) == 40) = true := by rw [beq_iff_eq]; omega
 have g5 : decide ((5 : Int) ≤ (i.op : Int)) = true := by simp; omega
 have g11 : decide ((11 : Int) ≤ (i.op : Int)) = true := by simp; omega
 have g16 : decide ((16 : Int) ≤ (i.op : Int)) = true := by simp; omega
 have l10 : decide ((i.op : Int) ≤ 10) = false := by simp; omega
 have l15 : decide ((i.op : Int) ≤ 15) = false := by simp; omega
 have l18 : decide ((i.op : Int) ≤ 18) = false := by simp; omega
 clear hop hop57
 have HSI := wall (show (Tryz.prog.info? 71).map (·.size) = some (crC c).size ∧ (Tryz.prog.info? 54).map (·.size) = some I.size from ⟨(res_row HC.out).1, by rw [← HI.out]; exact in_info⟩)
 have HCB := wall (show Blk W w.heap.size 71 (crC c) from HW.out.c)
 have HIB := wall (show Blk W (w.heap.size + 1) 54 I from HW.out.i)
 obtain ⟨D, hD⟩ : ∃ z, crC c = z := ⟨_, rfl⟩
 have HDD := wall hD
 rw [hD] at HSI HCB
 have k32 := HW.out.cell HC.out (show 32 < 41 by decide)
 have HJE := wall (show J.1 = trapC c 3 (c.g 32) ∧ J.2 = some 3 by rw [HJ.out]; exact ⟨rfl, rfl⟩)
 have HNX := wall (fun W => show Calls Tryz.prog 97 #[.agg (crC c), .int .u32 3, .int .u32 ((c.g 32 : Nat) : Int)] W (StepOut (trapC c 3 (c.g 32)) (evO (some 3) i) W) from trap_any c HC.out 3 (c.g 32) W (by decide) (HC.out.g 32))
 unfold StepOut at HNX
 rw [HDD.out] at HNX
 try rw [HI.out] at HNX
 have HOK1 := wall (show (trapC c 3 (c.g 32)).Ok from Cr.Ok.trap HC.out (by decide) (HC.out.g 32))
 have HRW := wall (res_row HOK1.out)
 have HEW := wall (evo_row (some 3) i)
 rw [HZE.out.1] at HRW
 rw [HZE.out.2] at HEW
 obtain ⟨D2, hD2⟩ : ∃ q9, crC (trapC c 3 (c.g 32)) = q9 := ⟨_, rfl⟩
 obtain ⟨V, hV⟩ : ∃ q9, evO (some 3) i = q9 := ⟨_, rfl⟩
 have HD2 := wall hD2
 have HVV := wall hV
 rw [hD2] at HNX HRW
 rw [hV] at HNX HEW
 clear hD2 hV
 go_wp2_with (first | refine wpList_load_row rfl 71 _ rfl w.heap.size rfl 71 D (0, 0) _ HCB.out Tryz.underlying71 rfl HSI.out.1 ?_ | refine wpList_load_row rfl 54 _ rfl (w.heap.size + 1) rfl 54 I (0, 0) _ HIB.out Tryz.underlying54 rfl HSI.out.2 ?_)
 clear n1 n2 n3 n4 n39 n40 g5 g11 g16 l10 l15 l18
 (with_reducible refine (HNX.out _).mono ?_); rintro e w8 ⟨rfl, hB8⟩
 have H8 := wall (HW.out.next hB8)
 have H8o := wall (show Blk w8 (w.heap.size + 2) 71 Z by rw [← hZ]; exact H8.out.o)
 have H8e := wall (show Blk w8 (w.heap.size + 3) 78 E by rw [← hE]; exact H8.out.e)
 have H8b := wall H8.out.bel
 clear hB8 H8 HNX
 try simp only [Act.put, rpA, rpB, rpC]
 go_wp2_with (first | (refine wpList_set_row rfl 71 (.tmp 8) (.tmp 160) rfl (w.heap.size + 2) D2 rfl rfl 71 Z H8o.out HRW.out.1 HRW.out.2.1 HRW.out.2.2 ?_; intro w9 K9 F9; have H9e := wall (H8e.out.frm F9.out (by simp)); have H9b := wall (Below.frm H8b.out F9.out (Nat.le_refl _) (by simp))) | (refine wpList_set_row rfl 78 (.tmp 9) (.tmp 161) rfl (w.heap.size + 3) V rfl rfl 78 E H9e.out HEW.out.1 HEW.out.2.1 HEW.out.2.2 ?_; intro w10 K10 F10))
 have K10o := wall (K9.out.frm F10.out (by simp))
 have HB10 := wall (Below.frm H9b.out F10.out (Nat.le_refl _) (by simp))
 go_light
 exact bodyPost_ret (v := .tuple #[.agg D2, .agg V]) (results_two Tryz.results99 _ _ (w.heap.size + 2) (w.heap.size + 3) 71 78 D2 V _ _ rfl rfl K10o.out K10.out Tryz.underlying71 rfl HRW.out.1 Tryz.underlying78 rfl HEW.out.1) rfl ⟨by rw [HJE.out.1, HJE.out.2, HD2.out, HVV.out], HB10.out⟩
theorem do_back (c : Cr) (hc : c.Ok) (s : Value) (i : In) (v : Int) (w : World) (hid : InD i) (hop : i.op = 41) :
  Calls Tryz.prog 99 #[.agg (crC c), s, .agg (inC i), .int .u32 v] w (StepOut ((retC c, (none : Option Nat))).1 (evO ((retC c, (none : Option Nat))).2 i) w) := by
 have HID := wall hid
 have HOP := wall (And.intro hid.op (hop))
 clear hid
 obtain ⟨J, hJ⟩ : ∃ J, (retC c, (none : Option Nat)) = J := ⟨_, rfl⟩
 rw [hJ]
 have HJ := wall hJ.symm
 clear hJ
 have HC := wall hc
 have HZ := wall cr_zero
 have HE := wall ev_zero
 have HF := wall (Fn.new w c (inC i))
 obtain ⟨C, hC⟩ : ∃ y, crC c = y := ⟨_, rfl⟩
 obtain ⟨Z, hZ⟩ : ∃ y, crC crZ = y := ⟨_, rfl⟩
 obtain ⟨E, hE⟩ : ∃ y, evZ = y := ⟨_, rfl⟩
 obtain ⟨I, hI⟩ : ∃ y, inC i = y := ⟨_, rfl⟩
 have HI := wall hI
 have HZE := wall (And.intro hZ hE)
 rw [hC, hZ, hE, hI] at HF
 rw [hZ] at HZ
 rw [hE] at HE
 rw [hC, hI]
 clear hc hC
 go_enter Tryz.func99, Tryz.ntmps99
 go_upto_region 1 with (first | refine Big.wpList_alloc_at rfl 71 rfl Z HZ.out (w.heap.size + 2) (by simp) ?_ | refine Big.wpList_alloc_at rfl 78 rfl E HE.out (w.heap.size + 3) (by simp) ?_)
 try simp only [Act.put, rpA, rpB, rpC]
 refine wp_fn w c I HF.out ?_
 intro w1 h1
 have H1 := wall h1
 clear h1 HF
 have ka : w1.cell? ⟨w.heap.size + 1, 2, none⟩ = some (.int .u8 (i.a : Int)) := by rw [H1.out.i.cell, ← hI]; rfl
 have kb : w1.cell? ⟨w.heap.size + 1, 3, none⟩ = some (.int .u8 (i.b : Int)) := by rw [H1.out.i.cell, ← hI]; rfl
 have ha32 : i.a < 32 := HID.out.a
 have hb32 : i.b < 32 := HID.out.b
 have kxa := H1.out.cell HC.out (show i.a < 41 by omega)
 have kxb := H1.out.cell HC.out (show i.b < 41 by omega)
 have hl1 : w.heap.size + 1 < w1.heap.size := H1.out.i.lt
 have hl0 : w.heap.size < w1.heap.size := by omega
 clear hop
 go_wp2_with fail
 refine RelG.wp_region_rel 12 [] (by kernel_rfl) (by kernel_rfl) ?_
 simp only [List.take_succ_cons, List.take_zero, List.drop_succ_cons, List.drop_zero, Act.put, rpA, rpB, rpC]
 repeat (first | (refine RelG.tree_quiet rfl rfl rfl (fun K hK => ?_); go_big_quiet_op; refine hK _ ?_; clear hK K) | ((first | refine RelG.tree_pure rfl rfl rfl (.int .u8 (i.a : Int)) (fun W hW _ => Rel.exec_load1 _ _ rfl (w.heap.size + 1) (2) rfl _ (fun _ => by kernel_rfl) ((hW.undrew.cell (p := ⟨w.heap.size + 1, 2, none⟩) hl1).trans ka)) ?_ | refine RelG.tree_pure rfl rfl rfl (.int .u32 ((c.g i.a : Nat) : Int)) (fun W hW _ => Rel.exec_load1 _ _ rfl (w.heap.size) (i.a) rfl _ (fun _ => by kernel_rfl) ((hW.undrew.cell (p := ⟨w.heap.size, i.a, none⟩) hl0).trans kxa)) ?_ | refine RelG.tree_pure rfl rfl rfl (.int .u8 (i.b : Int)) (fun W hW _ => Rel.exec_load1 _ _ rfl (w.heap.size + 1) (3) rfl _ (fun _ => by kernel_rfl) ((hW.undrew.cell (p := ⟨w.heap.size + 1, 3, none⟩) hl1).trans kb)) ?_ | refine RelG.tree_pure rfl rfl rfl (.int .u32 ((c.g i.b : Nat) : Int)) (fun W hW _ => Rel.exec_load1 _ _ rfl (w.heap.size) (i.b) rfl _ (fun _ => by kernel_rfl) ((hW.undrew.cell (p := ⟨w.heap.size, i.b, none⟩) hl0).trans kxb)) ?_); simp only [Act.put, rpA, rpB, rpC]))
 intro W hW _
 have HW := wall (H1.out.next hW.undrew)
 have kop : W.cell? ⟨w.heap.size + 1, 0, none⟩ = some (.int .u8 (i.op : Int)) := by rw [HW.out.i.cell, ← hI]; rfl
 clear hW ka kb kxa kxb H1 hl0 hl1 ha32 hb32
 obtain ⟨xa, hxa⟩ : ∃ y, c.g i.a = y := ⟨_, rfl⟩
 obtain ⟨xb, hxb⟩ : ∃ y, c.g i.b = y := ⟨_, rfl⟩
 rw [hxa, hxb]
 have HXA := wall hxa
 have HXB := wall hxb
 have hop := HOP.out.2
 have hop57 := HOP.out.1
 clear hxa hxb
 have n1 : ((i.op : Int) == 1) = false := by rw [beq_eq_false_iff_ne]; omega
 have n2 : ((i.op : Int) == 2) = false := by rw [beq_eq_false_iff_ne]; omega
 have n3 : ((i.op : Int) == 3) = false := by rw [beq_eq_false_iff_ne]; omega
 have n4 : ((i.op : Int) == 4) = false := by rw [beq_eq_false_iff_ne]; omega
 have n39 : ((i.op : Int) == 39) = false := by rw [beq_eq_false_iff_ne]; omega
 have n40 : ((i.op : Int) == 40) = false := by rw [beq_eq_false_iff_ne]; omega
 have n41 : ((i.op : Int) == 41) = true := by rw [beq_iff_eq]; omega
 have g5 : decide ((5 : Int) ≤ (i.op : Int)) = true := by simp; omega
 have g11 : decide ((11 : Int) ≤ (i.op : Int)) = true := by simp; omega
 have g16 : decide ((16 : Int) ≤ (i.op : Int)) = true := by simp; omega
 have l10 : decide ((i.op : Int) ≤ 10) = false := by simp; omega
 have l15 : decide ((i.op : Int) ≤ 15) = false := by simp; omega
 have l18 : decide ((i.op : Int) ≤ 18) = false := by simp; omega
 clear hop hop57
 have HSI := wall (show (Tryz.prog.info? 71).map (·.size) = some (crC c).size ∧ (Tryz.prog.info? 54).map (·.size) = some I.size from ⟨(res_row HC.out).1, by rw [← HI.out]; exact in_info⟩)
 have HCB := wall (show Blk W w.heap.size 71 (crC c) from HW.out.c)
 have HIB := wall (show Blk W (w.heap.size + 1) 54 I from HW.out.i)
 obtain ⟨D, hD⟩ : ∃ z, crC c = z := ⟨_, rfl⟩
 have HDD := wall hD
 rw [hD] at HSI HCB
 have HJE := wall (show J.1 = retC c ∧ J.2 = none by rw [HJ.out]; exact ⟨rfl, rfl⟩)
 have HNX := wall (fun W => show Calls _ _ #[.agg (crC c), .agg (inC i)] W (StepOut (retC c) (evO none i) W) from ret_any c HC.out i W)
 unfold StepOut at HNX
 rw [HDD.out] at HNX
 try rw [HI.out] at HNX
 have HOK1 := wall (show (retC c).Ok from HC.out.ret)
 have HRW := wall (res_row HOK1.out)
 have HEW := wall (evo_row (none) i)
 rw [HZE.out.1] at HRW
 rw [HZE.out.2] at HEW
 obtain ⟨D2, hD2⟩ : ∃ q9, crC (retC c) = q9 := ⟨_, rfl⟩
 obtain ⟨V, hV⟩ : ∃ q9, evO (none) i = q9 := ⟨_, rfl⟩
 have HD2 := wall hD2
 have HVV := wall hV
 rw [hD2] at HNX HRW
 rw [hV] at HNX HEW
 clear hD2 hV
 go_wp2_with (first | refine wpList_load_row rfl 71 _ rfl w.heap.size rfl 71 D (0, 0) _ HCB.out Tryz.underlying71 rfl HSI.out.1 ?_ | refine wpList_load_row rfl 54 _ rfl (w.heap.size + 1) rfl 54 I (0, 0) _ HIB.out Tryz.underlying54 rfl HSI.out.2 ?_)
 clear n1 n2 n3 n4 n39 n40 n41 g5 g11 g16 l10 l15 l18
 (with_reducible refine (HNX.out _).mono ?_); rintro e w8 ⟨rfl, hB8⟩
 have H8 := wall (HW.out.next hB8)
 have H8o := wall (show Blk w8 (w.heap.size + 2) 71 Z by rw [← hZ]; exact H8.out.o)
 have H8e := wall (show Blk w8 (w.heap.size + 3) 78 E by rw [← hE]; exact H8.out.e)
 have H8b := wall H8.out.bel
 clear hB8 H8 HNX
 try simp only [Act.put, rpA, rpB, rpC]
 go_wp2_with (first | (refine wpList_set_row rfl 71 (.tmp 8) (.tmp 169) rfl (w.heap.size + 2) D2 rfl rfl 71 Z H8o.out HRW.out.1 HRW.out.2.1 HRW.out.2.2 ?_; intro w9 K9 F9; have H9e := wall (H8e.out.frm F9.out (by simp)); have H9b := wall (Below.frm H8b.out F9.out (Nat.le_refl _) (by simp))) | (refine wpList_set_row rfl 78 (.tmp 9) (.tmp 170) rfl (w.heap.size + 3) V rfl rfl 78 E H9e.out HEW.out.1 HEW.out.2.1 HEW.out.2.2 ?_; intro w10 K10 F10))
 have K10o := wall (K9.out.frm F10.out (by simp))
 have HB10 := wall (Below.frm H9b.out F10.out (Nat.le_refl _) (by simp))
 go_light
 exact bodyPost_ret (v := .tuple #[.agg D2, .agg V]) (results_two Tryz.results99 _ _ (w.heap.size + 2) (w.heap.size + 3) 71 78 D2 V _ _ rfl rfl K10o.out K10.out Tryz.underlying71 rfl HRW.out.1 Tryz.underlying78 rfl HEW.out.1) rfl ⟨by rw [HJE.out.1, HJE.out.2, HD2.out, HVV.out], HB10.out⟩
theorem do_lui (c : Cr) (hc : c.Ok) (s : Value) (i : In) (v : Int) (w : World) (hid : InD i) (hop : i.op = 1) :
  Calls Tryz.prog 99 #[.agg (crC c), s, .agg (inC i), .int .u32 v] w (StepOut ((nextC (withC c i.rd i.imm), (none : Option Nat))).1 (evO ((nextC (withC c i.rd i.imm), (none : Option Nat))).2 i) w) := by
 have HID := wall hid
 have HOP := wall (And.intro hid.op (hop))
 clear hid
 obtain ⟨J, hJ⟩ : ∃ J, (nextC (withC c i.rd i.imm), (none : Option Nat)) = J := ⟨_, rfl⟩
 rw [hJ]
 have HJ := wall hJ.symm
 clear hJ
 have HC := wall hc
 have HZ := wall cr_zero
 have HE := wall ev_zero
 have HF := wall (Fn.new w c (inC i))
 obtain ⟨C, hC⟩ : ∃ y, crC c = y := ⟨_, rfl⟩
 obtain ⟨Z, hZ⟩ : ∃ y, crC crZ = y := ⟨_, rfl⟩
 obtain ⟨E, hE⟩ : ∃ y, evZ = y := ⟨_, rfl⟩
 obtain ⟨I, hI⟩ : ∃ y, inC i = y := ⟨_, rfl⟩
 have HI := wall hI
 have HZE := wall (And.intro hZ hE)
 rw [hC, hZ, hE, hI] at HF
 rw [hZ] at HZ
 rw [hE] at HE
 rw [hC, hI]
 clear hc hC
 go_enter Tryz.func99, Tryz.ntmps99
 go_upto_region 1 with (first | refine Big.wpList_alloc_at rfl 71 rfl Z HZ.out (w.heap.size + 2) (by simp) ?_ | refine Big.wpList_alloc_at rfl 78 rfl E HE.out (w.heap.size + 3) (by simp) ?_)
 try simp only [Act.put, rpA, rpB, rpC]
 refine wp_fn w c I HF.out ?_
 intro w1 h1
 have H1 := wall h1
 clear h1 HF
 have ka : w1.cell? ⟨w.heap.size + 1, 2, none⟩ = some (.int .u8 (i.a : Int)) := by rw [H1.out.i.cell, ← hI]; rfl
 have kb : w1.cell? ⟨w.heap.size + 1, 3, none⟩ = some (.int .u8 (i.b : Int)) := by rw [H1.out.i.cell, ← hI]; rfl
 have ha32 : i.a < 32 := HID.out.a
 have hb32 : i.b < 32 := HID.out.b
 have kxa := H1.out.cell HC.out (show i.a < 41 by omega)
 have kxb := H1.out.cell HC.out (show i.b < 41 by omega)
 have hl1 : w.heap.size + 1 < w1.heap.size := H1.out.i.lt
 have hl0 : w.heap.size < w1.heap.size := by omega
 clear hop
 go_wp2_with fail
 refine RelG.wp_region_rel 12 [] (by kernel_rfl) (by kernel_rfl) ?_
 simp only [List.take_succ_cons, List.take_zero, List.drop_succ_cons, List.drop_zero, Act.put, rpA, rpB, rpC]
 repeat (first | (refine RelG.tree_quiet rfl rfl rfl (fun K hK => ?_); go_big_quiet_op; refine hK _ ?_; clear hK K) | ((first | refine RelG.tree_pure rfl rfl rfl (.int .u8 (i.a : Int)) (fun W hW _ => Rel.exec_load1 _ _ rfl (w.heap.size + 1) (2) rfl _ (fun _ => by kernel_rfl) ((hW.undrew.cell (p := ⟨w.heap.size + 1, 2, none⟩) hl1).trans ka)) ?_ | refine RelG.tree_pure rfl rfl rfl (.int .u32 ((c.g i.a : Nat) : Int)) (fun W hW _ => Rel.exec_load1 _ _ rfl (w.heap.size) (i.a) rfl _ (fun _ => by kernel_rfl) ((hW.undrew.cell (p := ⟨w.heap.size, i.a, none⟩) hl0).trans kxa)) ?_ | refine RelG.tree_pure rfl rfl rfl (.int .u8 (i.b : Int)) (fun W hW _ => Rel.exec_load1 _ _ rfl (w.heap.size + 1) (3) rfl _ (fun _ => by kernel_rfl) ((hW.undrew.cell (p := ⟨w.heap.size + 1, 3, none⟩) hl1).trans kb)) ?_ | refine RelG.tree_pure rfl rfl rfl (.int .u32 ((c.g i.b : Nat) : Int)) (fun W hW _ => Rel.exec_load1 _ _ rfl (w.heap.size) (i.b) rfl _ (fun _ => by kernel_rfl) ((hW.undrew.cell (p := ⟨w.heap.size, i.b, none⟩) hl0).trans kxb)) ?_); simp only [Act.put, rpA, rpB, rpC]))
 intro W hW _
 have HW := wall (H1.out.next hW.undrew)
 have kop : W.cell? ⟨w.heap.size + 1, 0, none⟩ = some (.int .u8 (i.op : Int)) := by rw [HW.out.i.cell, ← hI]; rfl
 clear hW ka kb kxa kxb H1 hl0 hl1 ha32 hb32
 obtain ⟨xa, hxa⟩ : ∃ y, c.g i.a = y := ⟨_, rfl⟩
 obtain ⟨xb, hxb⟩ : ∃ y, c.g i.b = y := ⟨_, rfl⟩
 rw [hxa, hxb]
 have HXA := wall hxa
 have HXB := wall hxb
 have hop := HOP.out.2
 have hop57 := HOP.out.1
 clear hxa hxb
 have n1 : ((i.op : Int) == 1) = true := by rw [beq_iff_eq]; omega
 clear hop hop57
 have HSI := wall (show (Tryz.prog.info? 71).map (·.size) = some (crC c).size ∧ (Tryz.prog.info? 54).map (·.size) = some I.size from ⟨(res_row HC.out).1, by rw [← HI.out]; exact in_info⟩)
 have HCB := wall (show Blk W w.heap.size 71 (crC c) from HW.out.c)
 have HIB := wall (show Blk W (w.heap.size + 1) 54 I from HW.out.i)
 obtain ⟨D, hD⟩ : ∃ z, crC c = z := ⟨_, rfl⟩
 have HDD := wall hD
 rw [hD] at HSI HCB
 have ki : W.cell? ⟨w.heap.size + 1, 4, none⟩ = some (.int .u32 (i.imm : Int)) := by rw [HW.out.i.cell, ← hI]; rfl
 have HWI := wall (fun W => with_any c HC.out (i.rd : Int) i.rd i.imm W rfl HID.out.imm)
 unfold CrOut at HWI
 have HJE := wall (show J.1 = nextC (withC c i.rd i.imm) ∧ J.2 = none by rw [HJ.out]; exact ⟨rfl, rfl⟩)
 have HC1 := wall (HC.out.with i.rd i.imm HID.out.imm)
 obtain ⟨c1, hc1⟩ : ∃ y, withC c i.rd i.imm = y := ⟨_, rfl⟩
 rw [hc1] at HWI HC1 HJE
 have HNX := wall (fun W => show Calls Tryz.prog 169 #[.agg (crC c1), .agg (inC i)] W (StepOut (nextC c1) (evO none i) W) from next_any c1 HC1.out i W)
 unfold StepOut at HNX
 obtain ⟨D1, hD1⟩ : ∃ z, crC c1 = z := ⟨_, rfl⟩
 rw [hD1] at HWI HNX
 rw [HDD.out] at HWI
 rw [HI.out] at HNX
 clear hc1 hD1
 have kr : W.cell? ⟨w.heap.size + 1, 1, none⟩ = some (.int .u8 (i.rd : Int)) := by rw [HW.out.i.cell, ← hI]; rfl
 have hrd : i.rd < 32 := HID.out.rd
 have hl1 : w.heap.size + 1 < W.heap.size := HW.out.i.lt
 have hl0 : w.heap.size < W.heap.size := by omega
 have HOK1 := wall (show (nextC c1).Ok from HC1.out.next)
 have HRW := wall (res_row HOK1.out)
 have HEW := wall (evo_row (none) i)
 rw [HZE.out.1] at HRW
 rw [HZE.out.2] at HEW
 obtain ⟨D2, hD2⟩ : ∃ q9, crC (nextC c1) = q9 := ⟨_, rfl⟩
 obtain ⟨V, hV⟩ : ∃ q9, evO (none) i = q9 := ⟨_, rfl⟩
 have HD2 := wall hD2
 have HVV := wall hV
 rw [hD2] at HNX HRW
 rw [hV] at HNX HEW
 clear hD2 hV
 go_wp2_with fail
 refine RelG.wp_region_fl 11 [10] [(34, .const (.agg D1)), (36, .const (.tuple #[.agg D2, .agg V]))] (by kernel_rfl) (by kernel_rfl) rfl (fun _ _ _ _ _ h => h) ?_
 simp only [List.take_succ_cons, List.take_zero, List.drop_succ_cons, List.drop_zero, Act.put, rpA, rpB, rpC]
 repeat (first | (refine RelG.tree_quiet rfl rfl rfl (fun K hK => ?_); go_big_quiet_op; refine hK _ ?_; clear hK K) | ((first | refine RelG.tree_pure rfl rfl rfl (.agg D) (fun W2 hW2 _ => Rel.exec_load _ _ rfl (w.heap.size) 0 rfl _ _ (Blk.range (HCB.out.next hW2.undrew rfl)) Tryz.underlying71 rfl HSI.out.1) ?_ | refine RelG.tree_pure rfl rfl rfl (.agg I) (fun W2 hW2 _ => Rel.exec_load _ _ rfl (w.heap.size + 1) 0 rfl _ _ (Blk.range (HIB.out.next hW2.undrew rfl)) Tryz.underlying54 rfl HSI.out.2) ?_ | refine RelG.tree_pure rfl rfl rfl (.int .u8 (i.rd : Int)) (fun W2 hW2 _ => Rel.exec_load1 _ _ rfl (w.heap.size + 1) (1) rfl _ (fun _ => by kernel_rfl) ((hW2.undrew.cell (p := ⟨w.heap.size + 1, 1, none⟩) hl1).trans kr)) ?_ | refine RelG.tree_pure rfl rfl rfl (.int .u32 (i.imm : Int)) (fun W2 hW2 _ => Rel.exec_load1 _ _ rfl (w.heap.size + 1) (4) rfl _ (fun _ => by kernel_rfl) ((hW2.undrew.cell (p := ⟨w.heap.size + 1, 4, none⟩) hl1).trans ki)) ?_); simp only [Act.put, rpA, rpB, rpC]) | (refine RelG.tree_const rfl (.agg D1) rfl (fun W2 hW2 _ => by (unfold RelG.relAt; go_simp; show Calls _ _ _ _ _; exact (HWI.out _).mono fun e w2 h => ⟨_, h.1, h.2, rfl⟩)) ?_; simp only [Act.put, rpA, rpB, rpC]) | (refine RelG.tree_const rfl (.tuple #[.agg D2, .agg V]) rfl (fun W2 hW2 _ => by (unfold RelG.relAt; go_simp; show Calls _ _ _ _ _; exact (HNX.out _).mono fun e w2 h => ⟨_, h.1, h.2, rfl⟩)) ?_; simp only [Act.put, rpA, rpB, rpC]))
 intro w8 hB8 _
 have H8 := wall (HW.out.next hB8.undrew)
 clear hB8 kr ki kop hrd hl0 hl1 n1
 have H8o := wall (show Blk w8 (w.heap.size + 2) 71 Z by rw [← hZ]; exact H8.out.o)
 have H8e := wall (show Blk w8 (w.heap.size + 3) 78 E by rw [← hE]; exact H8.out.e)
 have H8b := wall H8.out.bel
 clear H8 HNX
 try simp only [Act.put, rpA, rpB, rpC]
 go_wp2_with (first | (refine wpList_set_row rfl 71 (.tmp 8) (.tmp 37) rfl (w.heap.size + 2) D2 rfl rfl 71 Z H8o.out HRW.out.1 HRW.out.2.1 HRW.out.2.2 ?_; intro w9 K9 F9; have H9e := wall (H8e.out.frm F9.out (by simp)); have H9b := wall (Below.frm H8b.out F9.out (Nat.le_refl _) (by simp))) | (refine wpList_set_row rfl 78 (.tmp 9) (.tmp 38) rfl (w.heap.size + 3) V rfl rfl 78 E H9e.out HEW.out.1 HEW.out.2.1 HEW.out.2.2 ?_; intro w10 K10 F10))
 have K10o := wall (K9.out.frm F10.out (by simp))
 have HB10 := wall (Below.frm H9b.out F10.out (Nat.le_refl _) (by simp))
 go_light
 exact bodyPost_ret (v := .tuple #[.agg D2, .agg V]) (results_two Tryz.results99 _ _ (w.heap.size + 2) (w.heap.size + 3) 71 78 D2 V _ _ rfl rfl K10o.out K10.out Tryz.underlying71 rfl HRW.out.1 Tryz.underlying78 rfl HEW.out.1) rfl ⟨by rw [HJE.out.1, HJE.out.2, HD2.out, HVV.out], HB10.out⟩
theorem do_auipc (c : Cr) (hc : c.Ok) (s : Value) (i : In) (v : Int) (w : World) (hid : InD i) (hop : i.op = 2) :
  Calls Tryz.prog 99 #[.agg (crC c), s, .agg (inC i), .int .u32 v] w (StepOut ((nextC (withC c i.rd ((c.g 32 + i.imm) % 4294967296)), (none : Option Nat))).1 (evO ((nextC (withC c i.rd ((c.g 32 + i.imm) % 4294967296)), (none : Option Nat))).2 i) w) := by
 have HID := wall hid
 have HOP := wall (And.intro hid.op (hop))
 clear hid
 obtain ⟨J, hJ⟩ : ∃ J, (nextC (withC c i.rd ((c.g 32 + i.imm) % 4294967296)), (none : Option Nat)) = J := ⟨_, rfl⟩
 rw [hJ]
 have HJ := wall hJ.symm
 clear hJ
 have HC := wall hc
 have HZ := wall cr_zero
 have HE := wall ev_zero
 have HF := wall (Fn.new w c (inC i))
 obtain ⟨C, hC⟩ : ∃ y, crC c = y := ⟨_, rfl⟩
 obtain ⟨Z, hZ⟩ : ∃ y, crC crZ = y := ⟨_, rfl⟩
 obtain ⟨E, hE⟩ : ∃ y, evZ = y := ⟨_, rfl⟩
 obtain ⟨I, hI⟩ : ∃ y, inC i = y := ⟨_, rfl⟩
 have HI := wall hI
 have HZE := wall (And.intro hZ hE)
 rw [hC, hZ, hE, hI] at HF
 rw [hZ] at HZ
 rw [hE] at HE
 rw [hC, hI]
 clear hc hC
 go_enter Tryz.func99, Tryz.ntmps99
 go_upto_region 1 with (first | refine Big.wpList_alloc_at rfl 71 rfl Z HZ.out (w.heap.size + 2) (by simp) ?_ | refine Big.wpList_alloc_at rfl 78 rfl E HE.out (w.heap.size + 3) (by simp) ?_)
 try simp only [Act.put, rpA, rpB, rpC]
 refine wp_fn w c I HF.out ?_
 intro w1 h1
 have H1 := wall h1
 clear h1 HF
 have ka : w1.cell? ⟨w.heap.size + 1, 2, none⟩ = some (.int .u8 (i.a : Int)) := by rw [H1.out.i.cell, ← hI]; rfl
 have kb : w1.cell? ⟨w.heap.size + 1, 3, none⟩ = some (.int .u8 (i.b : Int)) := by rw [H1.out.i.cell, ← hI]; rfl
 have ha32 : i.a < 32 := HID.out.a
 have hb32 : i.b < 32 := HID.out.b
 have kxa := H1.out.cell HC.out (show i.a < 41 by omega)
 have kxb := H1.out.cell HC.out (show i.b < 41 by omega)
 have hl1 : w.heap.size + 1 < w1.heap.size := H1.out.i.lt
 have hl0 : w.heap.size < w1.heap.size := by omega
 clear hop
 go_wp2_with fail
 refine RelG.wp_region_rel 12 [] (by kernel_rfl) (by kernel_rfl) ?_
 simp only [List.take_succ_cons, List.take_zero, List.drop_succ_cons, List.drop_zero, Act.put, rpA, rpB, rpC]
 repeat (first | (refine RelG.tree_quiet rfl rfl rfl (fun K hK => ?_); go_big_quiet_op; refine hK _ ?_; clear hK K) | ((first | refine RelG.tree_pure rfl rfl rfl (.int .u8 (i.a : Int)) (fun W hW _ => Rel.exec_load1 _ _ rfl (w.heap.size + 1) (2) rfl _ (fun _ => by kernel_rfl) ((hW.undrew.cell (p := ⟨w.heap.size + 1, 2, none⟩) hl1).trans ka)) ?_ | refine RelG.tree_pure rfl rfl rfl (.int .u32 ((c.g i.a : Nat) : Int)) (fun W hW _ => Rel.exec_load1 _ _ rfl (w.heap.size) (i.a) rfl _ (fun _ => by kernel_rfl) ((hW.undrew.cell (p := ⟨w.heap.size, i.a, none⟩) hl0).trans kxa)) ?_ | refine RelG.tree_pure rfl rfl rfl (.int .u8 (i.b : Int)) (fun W hW _ => Rel.exec_load1 _ _ rfl (w.heap.size + 1) (3) rfl _ (fun _ => by kernel_rfl) ((hW.undrew.cell (p := ⟨w.heap.size + 1, 3, none⟩) hl1).trans kb)) ?_ | refine RelG.tree_pure rfl rfl rfl (.int .u32 ((c.g i.b : Nat) : Int)) (fun W hW _ => Rel.exec_load1 _ _ rfl (w.heap.size) (i.b) rfl _ (fun _ => by kernel_rfl) ((hW.undrew.cell (p := ⟨w.heap.size, i.b, none⟩) hl0).trans kxb)) ?_); simp only [Act.put, rpA, rpB, rpC]))
 intro W hW _
 have HW := wall (H1.out.next hW.undrew)
 have kop : W.cell? ⟨w.heap.size + 1, 0, none⟩ = some (.int .u8 (i.op : Int)) := by rw [HW.out.i.cell, ← hI]; rfl
 clear hW ka kb kxa kxb H1 hl0 hl1 ha32 hb32
 obtain ⟨xa, hxa⟩ : ∃ y, c.g i.a = y := ⟨_, rfl⟩
 obtain ⟨xb, hxb⟩ : ∃ y, c.g i.b = y := ⟨_, rfl⟩
 rw [hxa, hxb]
 have HXA := wall hxa
 have HXB := wall hxb
 have hop := HOP.out.2
 have hop57 := HOP.out.1
 clear hxa hxb
 have n1 : ((i.op : Int) == 1) = false := by rw [beq_eq_false_iff_ne]; omega
 have n2 : ((i.op : Int) == 2) = true := by rw [beq_iff_eq]; omega
 clear hop hop57
 have HSI := wall (show (Tryz.prog.info? 71).map (·.size) = some (crC c).size ∧ (Tryz.prog.info? 54).map (·.size) = some I.size from ⟨(res_row HC.out).1, by rw [← HI.out]; exact in_info⟩)
 have HCB := wall (show Blk W w.heap.size 71 (crC c) from HW.out.c)
 have HIB := wall (show Blk W (w.heap.size + 1) 54 I from HW.out.i)
 obtain ⟨D, hD⟩ : ∃ z, crC c = z := ⟨_, rfl⟩
 have HDD := wall hD
 rw [hD] at HSI HCB
 have k32 := HW.out.cell HC.out (show 32 < 41 by decide)
 have ki : W.cell? ⟨w.heap.size + 1, 4, none⟩ = some (.int .u32 (i.imm : Int)) := by rw [HW.out.i.cell, ← hI]; rfl
 obtain ⟨z, hz⟩ : ∃ z, (c.g 32 + i.imm) % 4294967296 = z := ⟨_, rfl⟩
 have hzi : (((c.g 32 : Nat) : Int) + (i.imm : Int)) % 4294967296 = (z : Int) := by omega
 have HZL := wall (show z < 4294967296 by omega)
 have HZZ := wall hz
 clear hz
 have HWI := wall (fun W => with_any c HC.out (i.rd : Int) i.rd z W rfl HZL.out)
 unfold CrOut at HWI
 have HJE := wall (show J.1 = nextC (withC c i.rd z) ∧ J.2 = none by rw [HJ.out, HZZ.out]; exact ⟨rfl, rfl⟩)
 have HC1 := wall (HC.out.with i.rd z HZL.out)
 obtain ⟨c1, hc1⟩ : ∃ y, withC c i.rd z = y := ⟨_, rfl⟩
 rw [hc1] at HWI HC1 HJE
 have HNX := wall (fun W => show Calls Tryz.prog 169 #[.agg (crC c1), .agg (inC i)] W (StepOut (nextC c1) (evO none i) W) from next_any c1 HC1.out i W)
 unfold StepOut at HNX
 obtain ⟨D1, hD1⟩ : ∃ z, crC c1 = z := ⟨_, rfl⟩
 rw [hD1] at HWI HNX
 rw [HDD.out] at HWI
 rw [HI.out] at HNX
 clear hc1 hD1
 have kr : W.cell? ⟨w.heap.size + 1, 1, none⟩ = some (.int .u8 (i.rd : Int)) := by rw [HW.out.i.cell, ← hI]; rfl
 have hrd : i.rd < 32 := HID.out.rd
 have hl1 : w.heap.size + 1 < W.heap.size := HW.out.i.lt
 have hl0 : w.heap.size < W.heap.size := by omega
 have HOK1 := wall (show (nextC c1).Ok from HC1.out.next)
 have HRW := wall (res_row HOK1.out)
 have HEW := wall (evo_row (none) i)
 rw [HZE.out.1] at HRW
 rw [HZE.out.2] at HEW
 obtain ⟨D2, hD2⟩ : ∃ q9, crC (nextC c1) = q9 := ⟨_, rfl⟩
 obtain ⟨V, hV⟩ : ∃ q9, evO (none) i = q9 := ⟨_, rfl⟩
 have HD2 := wall hD2
 have HVV := wall hV
 rw [hD2] at HNX HRW
 rw [hV] at HNX HEW
 clear hD2 hV
 go_wp2_with fail
 refine RelG.wp_region_fl 14 [13] [(52, .const (.agg D1)), (54, .const (.tuple #[.agg D2, .agg V]))] (by kernel_rfl) (by kernel_rfl) rfl (fun _ _ _ _ _ h => h) ?_
 simp only [List.take_succ_cons, List.take_zero, List.drop_succ_cons, List.drop_zero, Act.put, rpA, rpB, rpC]
 repeat (first | (refine RelG.tree_quiet rfl rfl rfl (fun K hK => ?_); go_big_quiet_op; refine hK _ ?_; clear hK K) | ((first | refine RelG.tree_pure rfl rfl rfl (.agg D) (fun W2 hW2 _ => Rel.exec_load _ _ rfl (w.heap.size) 0 rfl _ _ (Blk.range (HCB.out.next hW2.undrew rfl)) Tryz.underlying71 rfl HSI.out.1) ?_ | refine RelG.tree_pure rfl rfl rfl (.agg I) (fun W2 hW2 _ => Rel.exec_load _ _ rfl (w.heap.size + 1) 0 rfl _ _ (Blk.range (HIB.out.next hW2.undrew rfl)) Tryz.underlying54 rfl HSI.out.2) ?_ | refine RelG.tree_pure rfl rfl rfl (.int .u8 (i.rd : Int)) (fun W2 hW2 _ => Rel.exec_load1 _ _ rfl (w.heap.size + 1) (1) rfl _ (fun _ => by kernel_rfl) ((hW2.undrew.cell (p := ⟨w.heap.size + 1, 1, none⟩) hl1).trans kr)) ?_ | refine RelG.tree_pure rfl rfl rfl (.int .u32 (i.imm : Int)) (fun W2 hW2 _ => Rel.exec_load1 _ _ rfl (w.heap.size + 1) (4) rfl _ (fun _ => by kernel_rfl) ((hW2.undrew.cell (p := ⟨w.heap.size + 1, 4, none⟩) hl1).trans ki)) ?_ | refine RelG.tree_pure rfl rfl rfl (.int .u32 ((c.g 32 : Nat) : Int)) (fun W2 hW2 _ => Rel.exec_load1 _ _ rfl (w.heap.size) (32) rfl _ (fun _ => by kernel_rfl) ((hW2.undrew.cell (p := ⟨w.heap.size, 32, none⟩) hl0).trans k32)) ?_); simp only [Act.put, rpA, rpB, rpC]) | (refine RelG.tree_const rfl (.agg D1) rfl (fun W2 hW2 _ => by (unfold RelG.relAt; go_simp; show Calls _ _ _ _ _; exact (HWI.out _).mono fun e w2 h => ⟨_, h.1, h.2, rfl⟩)) ?_; simp only [Act.put, rpA, rpB, rpC]) | (refine RelG.tree_const rfl (.tuple #[.agg D2, .agg V]) rfl (fun W2 hW2 _ => by (unfold RelG.relAt; go_simp; show Calls _ _ _ _ _; exact (HNX.out _).mono fun e w2 h => ⟨_, h.1, h.2, rfl⟩)) ?_; simp only [Act.put, rpA, rpB, rpC]))
 intro w8 hB8 _
 have H8 := wall (HW.out.next hB8.undrew)
 clear hB8 kr ki kop hrd hl0 hl1 n1 n2 k32 hzi
 have H8o := wall (show Blk w8 (w.heap.size + 2) 71 Z by rw [← hZ]; exact H8.out.o)
 have H8e := wall (show Blk w8 (w.heap.size + 3) 78 E by rw [← hE]; exact H8.out.e)
 have H8b := wall H8.out.bel
 clear H8 HNX
 try simp only [Act.put, rpA, rpB, rpC]
 go_wp2_with (first | (refine wpList_set_row rfl 71 (.tmp 8) (.tmp 55) rfl (w.heap.size + 2) D2 rfl rfl 71 Z H8o.out HRW.out.1 HRW.out.2.1 HRW.out.2.2 ?_; intro w9 K9 F9; have H9e := wall (H8e.out.frm F9.out (by simp)); have H9b := wall (Below.frm H8b.out F9.out (Nat.le_refl _) (by simp))) | (refine wpList_set_row rfl 78 (.tmp 9) (.tmp 56) rfl (w.heap.size + 3) V rfl rfl 78 E H9e.out HEW.out.1 HEW.out.2.1 HEW.out.2.2 ?_; intro w10 K10 F10))
 have K10o := wall (K9.out.frm F10.out (by simp))
 have HB10 := wall (Below.frm H9b.out F10.out (Nat.le_refl _) (by simp))
 go_light
 exact bodyPost_ret (v := .tuple #[.agg D2, .agg V]) (results_two Tryz.results99 _ _ (w.heap.size + 2) (w.heap.size + 3) 71 78 D2 V _ _ rfl rfl K10o.out K10.out Tryz.underlying71 rfl HRW.out.1 Tryz.underlying78 rfl HEW.out.1) rfl ⟨by rw [HJE.out.1, HJE.out.2, HD2.out, HVV.out], HB10.out⟩
end Core
end Go.Proofs.YtmiaabpnolebhaaGreatDoor
