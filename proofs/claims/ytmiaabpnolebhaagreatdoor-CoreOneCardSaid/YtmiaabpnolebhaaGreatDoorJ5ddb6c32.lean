/-
  Texts of this claim, joined: CorP, CorDo.
-/
import Derived.Test.YtmiaabpnolebhaaGreatDoorJ21b23d70
import Derived.Test.YtmiaabpnolebhaaGreatDoorJb75f9da9
set_option maxHeartbeats 4000000
set_option maxRecDepth 100000
set_option linter.unusedSimpArgs false
set_option linter.unusedVariables false
namespace Go.Proofs.YtmiaabpnolebhaaGreatDoor
open Go.RowKit

namespace Core
open Otp Sha Rv Grant Spc
def branchR (c : Cr) (i : In) : Cr × Option Nat := if takesN i.op (c.g i.a) (c.g i.b) = true then jumpR c i.rd ((c.g 32 + i.imm) % 4294967296) else (nextC c, none)
theorem do_branch (c : Cr) (hc : c.Ok) (s : Value) (i : In) (v : Int) (w : World) (hid : InD i) (hop : 5 ≤ i.op ∧ i.op ≤ 10) :
  Calls Tryz.prog 99 #[.agg (crC c), s, .agg (inC i), .int .u32 v] w (StepOut (branchR c i).1 (evO (branchR c i).2 i) w) := by
 have HID := wall hid
 have HOP := wall (And.intro hid.op (hop))
 clear hid
 obtain ⟨J, hJ⟩ : ∃ J, branchR c i = J := ⟨_, rfl⟩
 rw [hJ]
 have HJ := wall hJ.symm
 clear hJ
 have HC := wall hc
 have HZ := wall cr_zero
 have HE := wall ev_zero
 have HF := wall (Fn.new w c (inC i))
 obtain ⟨C, hC⟩ : ∃ y, crC c = y := ⟨_, rfl⟩
 obtain ⟨Z, hZ⟩ : ∃ y, crC crZ = y := ⟨_, rfl⟩
 obtain ⟨E, hE⟩ : ∃ y, evZ = y := ⟨_, rfl⟩
 obtain ⟨I, hI⟩ : ∃ y, inC i = y := ⟨_, rfl⟩
 have HI := wall hI
 have HZE := wall (And.intro hZ hE)
 rw [hC, hZ, hE, hI] at HF
 rw [hZ] at HZ
 rw [hE] at HE
 rw [hC, hI]
 clear hc hC
 go_enter Tryz.func99, Tryz.ntmps99
 go_upto_region 1 with (first | refine Big.wpList_alloc_at rfl 71 rfl Z HZ.out (w.heap.size + 2) (by simp) ?_ | refine Big.wpList_alloc_at rfl 78 rfl E HE.out (w.heap.size + 3) (by simp) ?_)
 try simp only [Act.put, rpA, rpB, rpC]
 refine wp_fn w c I HF.out ?_
 intro w1 h1
 have H1 := wall h1
 clear h1 HF
 have ka : w1.cell? ⟨w.heap.size + 1, 2, none⟩ = some (.int .u8 (i.a : Int)) := by rw [H1.out.i.cell, ← hI]; rfl
 have kb : w1.cell? ⟨w.heap.size + 1, 3, none⟩ = some (.int .u8 (i.b : Int)) := by rw [H1.out.i.cell, ← hI]; rfl
 have ha32 : i.a < 32 := HID.out.a
 have hb32 : i.b < 32 := HID.out.b
 have kxa := H1.out.cell HC.out (show i.a < 41 by omega)
 have kxb := H1.out.cell HC.out (show i.b < 41 by omega)
 have hl1 : w.heap.size + 1 < w1.heap.size := H1.out.i.lt
 have hl0 : w.heap.size < w1.heap.size := by omega
 clear hop
 go_wp2_with fail
 refine RelG.wp_region_rel 12 [] (by kernel_rfl) (by kernel_rfl) ?_
 simp only [List.take_succ_cons, List.take_zero, List.drop_succ_cons, List.drop_zero, Act.put, rpA, rpB, rpC]
 repeat (first | (refine RelG.tree_quiet rfl rfl rfl (fun K hK => ?_); go_big_quiet_op; refine hK _ ?_; clear hK K) | ((first | refine RelG.tree_pure rfl rfl rfl (.int .u8 (i.a : Int)) (fun W hW _ => Rel.exec_load1 _ _ rfl (w.heap.size + 1) (2) rfl _ (fun _ => by kernel_rfl) ((hW.undrew.cell (p := ⟨w.heap.size + 1, 2, none⟩) hl1).trans ka)) ?_ | refine RelG.tree_pure rfl rfl rfl (.int .u32 ((c.g i.a : Nat) : Int)) (fun W hW _ => Rel.exec_load1 _ _ rfl (w.heap.size) (i.a) rfl _ (fun _ => by kernel_rfl) ((hW.undrew.cell (p := ⟨w.heap.size, i.a, none⟩) hl0).trans kxa)) ?_ | refine RelG.tree_pure rfl rfl rfl (.int .u8 (i.b : Int)) (fun W hW _ => Rel.exec_load1 _ _ rfl (w.heap.size + 1) (3) rfl _ (fun _ => by kernel_rfl) ((hW.undrew.cell (p := ⟨w.heap.size + 1, 3, none⟩) hl1).trans kb)) ?_ | refine RelG.tree_pure rfl rfl rfl (.int .u32 ((c.g i.b : Nat) : Int)) (fun W hW _ => Rel.exec_load1 _ _ rfl (w.heap.size) (i.b) rfl _ (fun _ => by kernel_rfl) ((hW.undrew.cell (p := ⟨w.heap.size, i.b, none⟩) hl0).trans kxb)) ?_); simp only [Act.put, rpA, rpB, rpC]))
 intro W hW _
 have HW := wall (H1.out.next hW.undrew)
 have kop : W.cell? ⟨w.heap.size + 1, 0, none⟩ = some (.int .u8 (i.op : Int)) := by rw [HW.out.i.cell, ← hI]; rfl
 clear hW ka kb kxa kxb H1 hl0 hl1 ha32 hb32
 obtain ⟨xa, hxa⟩ : ∃ y, c.g i.a = y := ⟨_, rfl⟩
 obtain ⟨xb, hxb⟩ : ∃ y, c.g i.b = y := ⟨_, rfl⟩
 rw [hxa, hxb]
 have HXA := wall hxa
 have HXB := wall hxb
 have hop := HOP.out.2
 have hop57 := HOP.out.1
 clear hxa hxb
 have n1 : ((i.op : Int) == 1) = false := by rw [beq_eq_false_iff_ne]; omega
 have n2 : ((i.op : Int) == 2) = false := by rw [beq_eq_false_iff_ne]; omega
 have n3 : ((i.op : Int) == 3) = false := by rw [beq_eq_false_iff_ne]; omega
 have n4 : ((i.op : Int) == 4) = false := by rw [beq_eq_false_iff_ne]; omega
 have g5 : decide ((5 : Int) ≤ (i.op : Int)) = true := by simp; omega
 have l10 : decide ((i.op : Int) ≤ 10) = true := by simp; omega
 have HTK := wall (fun W => takes_any i.op xa xb hop.1 hop.2 W)
 have HJ2 := wall (show J = if takesN i.op xa xb = true then jumpR c i.rd ((c.g 32 + i.imm) % 4294967296) else (nextC c, none) by rw [HJ.out]; unfold branchR; rw [HXA.out, HXB.out])
 obtain ⟨tb, htb⟩ : ∃ y, takesN i.op xa xb = y := ⟨_, rfl⟩
 rw [htb] at HTK HJ2
 clear hop hop57 htb
 have HSI := wall (show (Tryz.prog.info? 71).map (·.size) = some (crC c).size ∧ (Tryz.prog.info? 54).map (·.size) = some I.size from ⟨(res_row HC.out).1, by rw [← HI.out]; exact in_info⟩)
 have HCB := wall (show Blk W w.heap.size 71 (crC c) from HW.out.c)
 have HIB := wall (show Blk W (w.heap.size + 1) 54 I from HW.out.i)
 obtain ⟨D, hD⟩ : ∃ z, crC c = z := ⟨_, rfl⟩
 have HDD := wall hD
 rw [hD] at HSI HCB
 cases tb with
 | true =>
  have k32 := HW.out.cell HC.out (show 32 < 41 by decide)
  have ki : W.cell? ⟨w.heap.size + 1, 4, none⟩ = some (.int .u32 (i.imm : Int)) := by rw [HW.out.i.cell, ← hI]; rfl
  obtain ⟨z, hz⟩ : ∃ z, (c.g 32 + i.imm) % 4294967296 = z := ⟨_, rfl⟩
  have hzi : (((c.g 32 : Nat) : Int) + (i.imm : Int)) % 4294967296 = (z : Int) := by omega
  have HZL := wall (show z < 4294967296 by omega)
  have HZZ := wall hz
  clear hz
  have HJE := wall (show J.1 = (jumpR c i.rd z).1 ∧ J.2 = (jumpR c i.rd z).2 by rw [HJ2.out, if_pos rfl, HZZ.out]; exact ⟨rfl, rfl⟩)
  have HNX := wall (fun W => jump_any c HC.out i z W HZL.out HID.out)
  unfold StepOut at HNX
  rw [HDD.out, HI.out] at HNX
  go_wp2_with fail
  (with_reducible refine (HTK.out _).mono ?_); rintro e w2 ⟨rfl, rfl⟩
  try simp only [Act.put, rpA, rpB, rpC]
  have HOK1 := wall (show ((jumpR c i.rd z).1).Ok from HC.out.jump i.rd HZL.out)
  have HRW := wall (res_row HOK1.out)
  have HEW := wall (evo_row ((jumpR c i.rd z).2) i)
  rw [HZE.out.1] at HRW
  rw [HZE.out.2] at HEW
  obtain ⟨D2, hD2⟩ : ∃ q9, crC ((jumpR c i.rd z).1) = q9 := ⟨_, rfl⟩
  obtain ⟨V, hV⟩ : ∃ q9, evO ((jumpR c i.rd z).2) i = q9 := ⟨_, rfl⟩
  have HD2 := wall hD2
  have HVV := wall hV
  rw [hD2] at HNX HRW
  rw [hV] at HNX HEW
  clear hD2 hV
  go_wp2_with (first | refine wpList_load_row rfl 71 _ rfl w.heap.size rfl 71 D (0, 0) _ HCB.out Tryz.underlying71 rfl HSI.out.1 ?_ | refine wpList_load_row rfl 54 _ rfl (w.heap.size + 1) rfl 54 I (0, 0) _ HIB.out Tryz.underlying54 rfl HSI.out.2 ?_)
  clear n1 n2 n3 n4 g5 l10
  (with_reducible refine (HNX.out _).mono ?_); rintro e w8 ⟨rfl, hB8⟩
  have H8 := wall (HW.out.next hB8)
  have H8o := wall (show Blk w8 (w.heap.size + 2) 71 Z by rw [← hZ]; exact H8.out.o)
  have H8e := wall (show Blk w8 (w.heap.size + 3) 78 E by rw [← hE]; exact H8.out.e)
  have H8b := wall H8.out.bel
  clear hB8 H8 HNX
  try simp only [Act.put, rpA, rpB, rpC]
  go_wp2_with (first | (refine wpList_set_row rfl 71 (.tmp 8) (.tmp 107) rfl (w.heap.size + 2) D2 rfl rfl 71 Z H8o.out HRW.out.1 HRW.out.2.1 HRW.out.2.2 ?_; intro w9 K9 F9; have H9e := wall (H8e.out.frm F9.out (by simp)); have H9b := wall (Below.frm H8b.out F9.out (Nat.le_refl _) (by simp))) | (refine wpList_set_row rfl 78 (.tmp 9) (.tmp 108) rfl (w.heap.size + 3) V rfl rfl 78 E H9e.out HEW.out.1 HEW.out.2.1 HEW.out.2.2 ?_; intro w10 K10 F10))
  have K10o := wall (K9.out.frm F10.out (by simp))
  have HB10 := wall (Below.frm H9b.out F10.out (Nat.le_refl _) (by simp))
  go_light
  exact bodyPost_ret (v := .tuple #[.agg D2, .agg V]) (results_two Tryz.results99 _ _ (w.heap.size + 2) (w.heap.size + 3) 71 78 D2 V _ _ rfl rfl K10o.out K10.out Tryz.underlying71 rfl HRW.out.1 Tryz.underlying78 rfl HEW.out.1) rfl ⟨by rw [HJE.out.1, HJE.out.2, HD2.out, HVV.out], HB10.out⟩
 | false =>
  have HJE := wall (show J.1 = nextC c ∧ J.2 = none by rw [HJ2.out, if_neg (by decide)]; exact ⟨rfl, rfl⟩)
  have HNX := wall (fun W => show Calls Tryz.prog 169 #[.agg (crC c), .agg (inC i)] W (StepOut (nextC c) (evO none i) W) from next_any c HC.out i W)
  unfold StepOut at HNX
  rw [HDD.out, HI.out] at HNX
  go_wp2_with fail
  (with_reducible refine (HTK.out _).mono ?_); rintro e w2 ⟨rfl, rfl⟩
  try simp only [Act.put, rpA, rpB, rpC]
  have HOK1 := wall (show (nextC c).Ok from HC.out.next)
  have HRW := wall (res_row HOK1.out)
  have HEW := wall (evo_row (none) i)
  rw [HZE.out.1] at HRW
  rw [HZE.out.2] at HEW
  obtain ⟨D2, hD2⟩ : ∃ q9, crC (nextC c) = q9 := ⟨_, rfl⟩
  obtain ⟨V, hV⟩ : ∃ q9, evO (none) i = q9 := ⟨_, rfl⟩
  have HD2 := wall hD2
  have HVV := wall hV
  rw [hD2] at HNX HRW
  rw [hV] at HNX HEW
  clear hD2 hV
  go_wp2_with (first | refine wpList_load_row rfl 71 _ rfl w.heap.size rfl 71 D (0, 0) _ HCB.out Tryz.underlying71 rfl HSI.out.1 ?_ | refine wpList_load_row rfl 54 _ rfl (w.heap.size + 1) rfl 54 I (0, 0) _ HIB.out Tryz.underlying54 rfl HSI.out.2 ?_)
  clear n1 n2 n3 n4 g5 l10
  (with_reducible refine (HNX.out _).mono ?_); rintro e w8 ⟨rfl, hB8⟩
  have H8 := wall (HW.out.next hB8)
  have H8o := wall (show Blk w8 (w.heap.size + 2) 71 Z by rw [← hZ]; exact H8.out.o)
  have H8e := wall (show Blk w8 (w.heap.size + 3) 78 E by rw [← hE]; exact H8.out.e)
  have H8b := wall H8.out.bel
  clear hB8 H8 HNX
  try simp only [Act.put, rpA, rpB, rpC]
  go_wp2_with (first | (refine wpList_set_row rfl 71 (.tmp 8) (.tmp 112) rfl (w.heap.size + 2) D2 rfl rfl 71 Z H8o.out HRW.out.1 HRW.out.2.1 HRW.out.2.2 ?_; intro w9 K9 F9; have H9e := wall (H8e.out.frm F9.out (by simp)); have H9b := wall (Below.frm H8b.out F9.out (Nat.le_refl _) (by simp))) | (refine wpList_set_row rfl 78 (.tmp 9) (.tmp 113) rfl (w.heap.size + 3) V rfl rfl 78 E H9e.out HEW.out.1 HEW.out.2.1 HEW.out.2.2 ?_; intro w10 K10 F10))
  have K10o := wall (K9.out.frm F10.out (by simp))
  have HB10 := wall (Below.frm H9b.out F10.out (Nat.le_refl _) (by simp))
  go_light
  exact bodyPost_ret (v := .tuple #[.agg D2, .agg V]) (results_two Tryz.results99 _ _ (w.heap.size + 2) (w.heap.size + 3) 71 78 D2 V _ _ rfl rfl K10o.out K10.out Tryz.underlying71 rfl HRW.out.1 Tryz.underlying78 rfl HEW.out.1) rfl ⟨by rw [HJE.out.1, HJE.out.2, HD2.out, HVV.out], HB10.out⟩
def aluR (c : Cr) (i : In) (y : Nat) : Cr × Option Nat := (nextC (if (aluN i.op (c.g i.a) y).2 = true then withC c i.rd (aluN i.op (c.g i.a) y).1 else c), none)
theorem timesN_lt (op a b : Nat) (h1 : 49 ≤ op) (h2 : op ≤ 56) (ha : a < 4294967296) (hb : b < 4294967296) : timesN op a b < 4294967296 := by
 have hl : ∀ z : Int, low z < 4294967296 := fun z => by unfold low; omega
 have hc : op = 49 ∨ op = 50 ∨ op = 51 ∨ op = 52 ∨ op = 53 ∨ op = 54 ∨ op = 55 ∨ op = 56 := by omega
 unfold timesN
 have hd : a / b ≤ a := Nat.div_le_self a b
 have hm : a % b ≤ a := Nat.mod_le a b
 split
 ·omega
 ·split
  ·exact hl _
  ·split
   ·exact hl _
   ·split
    ·omega
    ·split
     ·exact hl _
     ·split
      ·exact hl _
      ·split
       ·omega
       ·split
        ·omega
        ·split <;> omega
theorem sumN_lt (op a b : Nat) (ha : a < 4294967296) (hb : b < 4294967296) : sumN op a b < 4294967296 := by
 have hl : ∀ z : Int, low z < 4294967296 := fun z => by unfold low; omega
 have hd : a / 2 ^ (b % 32) ≤ a := Nat.div_le_self _ _
 have h1 : a ^^^ b < 2 ^ 32 := Nat.xor_lt_two_pow (by omega) (by omega)
 have h2 : a ||| b < 2 ^ 32 := Nat.or_lt_two_pow (by omega) (by omega)
 have h3 : a &&& b < 2 ^ 32 := Nat.and_lt_two_pow _ (by omega)
 have h4 : ∀ x, b01 x < 4294967296 := fun x => by cases x <;> decide
 unfold sumN
 split
 ·omega
 ·split
  ·omega
  ·split
   ·omega
   ·split
    ·exact h4 _
    ·split
     ·exact h4 _
     ·split
      ·omega
      ·split
       ·omega
       ·split
        ·exact hl _
        ·split <;> omega
theorem aluN_lt (op a b : Nat) (ha : a < 4294967296) (hb : b < 4294967296) : (aluN op a b).1 < 4294967296 := by
 unfold aluN
 split
 ·rename_i h
  exact timesN_lt op a b h.1 h.2 ha hb
 ·split
  ·exact sumN_lt _ a b ha hb
  ·decide
theorem do_alui (c : Cr) (hc : c.Ok) (s : Value) (i : In) (v : Int) (w : World) (hid : InD i) (hop : 19 ≤ i.op ∧ i.op ≤ 27) :
  Calls Tryz.prog 99 #[.agg (crC c), s, .agg (inC i), .int .u32 v] w (StepOut (aluR c i (i.imm)).1 (evO (aluR c i (i.imm)).2 i) w) := by
 have HID := wall hid
 have HOP := wall (And.intro hid.op (hop))
 clear hid
 obtain ⟨J, hJ⟩ : ∃ J, aluR c i (i.imm) = J := ⟨_, rfl⟩
 rw [hJ]
 have HJ := wall hJ.symm
 clear hJ
 have HC := wall hc
 have HZ := wall cr_zero
 have HE := wall ev_zero
 have HF := wall (Fn.new w c (inC i))
 obtain ⟨C, hC⟩ : ∃ y, crC c = y := ⟨_, rfl⟩
 obtain ⟨Z, hZ⟩ : ∃ y, crC crZ = y := ⟨_, rfl⟩
 obtain ⟨E, hE⟩ : ∃ y, evZ = y := ⟨_, rfl⟩
 obtain ⟨I, hI⟩ : ∃ y, inC i = y := ⟨_, rfl⟩
 have HI := wall hI
 have HZE := wall (And.intro hZ hE)
 rw [hC, hZ, hE, hI] at HF
 rw [hZ] at HZ
 rw [hE] at HE
 rw [hC, hI]
 clear hc hC
 go_enter Tryz.func99, Tryz.ntmps99
 go_upto_region 1 with (first | refine Big.wpList_alloc_at rfl 71 rfl Z HZ.out (w.heap.size + 2) (by simp) ?_ | refine Big.wpList_alloc_at rfl 78 rfl E HE.out (w.heap.size + 3) (by simp) ?_)
 try simp only [Act.put, rpA, rpB, rpC]
 refine wp_fn w c I HF.out ?_
 intro w1 h1
 have H1 := wall h1
 clear h1 HF
 have ka : w1.cell? ⟨w.heap.size + 1, 2, none⟩ = some (.int .u8 (i.a : Int)) := by rw [H1.out.i.cell, ← hI]; rfl
 have kb : w1.cell? ⟨w.heap.size + 1, 3, none⟩ = some (.int .u8 (i.b : Int)) := by rw [H1.out.i.cell, ← hI]; rfl
 have ha32 : i.a < 32 := HID.out.a
 have hb32 : i.b < 32 := HID.out.b
 have kxa := H1.out.cell HC.out (show i.a < 41 by omega)
 have kxb := H1.out.cell HC.out (show i.b < 41 by omega)
 have hl1 : w.heap.size + 1 < w1.heap.size := H1.out.i.lt
 have hl0 : w.heap.size < w1.heap.size := by omega
 clear hop
 go_wp2_with fail
 refine RelG.wp_region_rel 12 [] (by kernel_rfl) (by kernel_rfl) ?_
 simp only [List.take_succ_cons, List.take_zero, List.drop_succ_cons, List.drop_zero, Act.put, rpA, rpB, rpC]
 repeat (first | (refine RelG.tree_quiet rfl rfl rfl (fun K hK => ?_); go_big_quiet_op; refine hK _ ?_; clear hK K) | ((first | refine RelG.tree_pure rfl rfl rfl (.int .u8 (i.a : Int)) (fun W hW _ => Rel.exec_load1 _ _ rfl (w.heap.size + 1) (2) rfl _ (fun _ => by kernel_rfl) ((hW.undrew.cell (p := ⟨w.heap.size + 1, 2, none⟩) hl1).trans ka)) ?_ | refine RelG.tree_pure rfl rfl rfl (.int .u32 ((c.g i.a : Nat) : Int)) (fun W hW _ => Rel.exec_load1 _ _ rfl (w.heap.size) (i.a) rfl _ (fun _ => by kernel_rfl) ((hW.undrew.cell (p := ⟨w.heap.size, i.a, none⟩) hl0).trans kxa)) ?_ | refine RelG.tree_pure rfl rfl rfl (.int .u8 (i.b : Int)) (fun W hW _ => Rel.exec_load1 _ _ rfl (w.heap.size + 1) (3) rfl _ (fun _ => by kernel_rfl) ((hW.undrew.cell (p := ⟨w.heap.size + 1, 3, none⟩) hl1).trans kb)) ?_ | refine RelG.tree_pure rfl rfl rfl (.int .u32 ((c.g i.b : Nat) : Int)) (fun W hW _ => Rel.exec_load1 _ _ rfl (w.heap.size) (i.b) rfl _ (fun _ => by kernel_rfl) ((hW.undrew.cell (p := ⟨w.heap.size, i.b, none⟩) hl0).trans kxb)) ?_); simp only [Act.put, rpA, rpB, rpC]))
 intro W hW _
 have HW := wall (H1.out.next hW.undrew)
 have kop : W.cell? ⟨w.heap.size + 1, 0, none⟩ = some (.int .u8 (i.op : Int)) := by rw [HW.out.i.cell, ← hI]; rfl
 clear hW ka kb kxa kxb H1 hl0 hl1 ha32 hb32
 obtain ⟨xa, hxa⟩ : ∃ y, c.g i.a = y := ⟨_, rfl⟩
 obtain ⟨xb, hxb⟩ : ∃ y, c.g i.b = y := ⟨_, rfl⟩
 rw [hxa, hxb]
 have HXA := wall hxa
 have HXB := wall hxb
 have hop := HOP.out.2
 have hop57 := HOP.out.1
 clear hxa hxb
 have n1 : ((i.op : Int) == 1) = false := by rw [beq_eq_false_iff_ne]; omega
 have n2 : ((i.op : Int) == 2) = false := by rw [beq_eq_false_iff_ne]; omega
 have n3 : ((i.op : Int) == 3) = false := by rw [beq_eq_false_iff_ne]; omega
 have n4 : ((i.op : Int) == 4) = false := by rw [beq_eq_false_iff_ne]; omega
 have n39 : ((i.op : Int) == 39) = false := by rw [beq_eq_false_iff_ne]; omega
 have n40 : ((i.op : Int) == 40) = false := by rw [beq_eq_false_iff_ne]; omega
 have n41 : ((i.op : Int) == 41) = false := by rw [beq_eq_false_iff_ne]; omega
 have g5 : decide ((5 : Int) ≤ (i.op : Int)) = true := by simp; omega
 have g11 : decide ((11 : Int) ≤ (i.op : Int)) = true := by simp; omega
 have g16 : decide ((16 : Int) ≤ (i.op : Int)) = true := by simp; omega
 have g43 : decide ((43 : Int) ≤ (i.op : Int)) = false := by simp; omega
 have g19 : decide ((19 : Int) ≤ (i.op : Int)) = true := by simp; omega
 have l10 : decide ((i.op : Int) ≤ 10) = false := by simp; omega
 have l15 : decide ((i.op : Int) ≤ 15) = false := by simp; omega
 have l18 : decide ((i.op : Int) ≤ 18) = false := by simp; omega
 have l27 : decide ((i.op : Int) ≤ 27) = true := by simp; omega
 have ki : W.cell? ⟨w.heap.size + 1, 4, none⟩ = some (.int .u32 (i.imm : Int)) := by rw [HW.out.i.cell, ← hI]; rfl
 have HAL := wall (fun W => alu_any i.op xa i.imm hop57 W (by rw [← HXA.out]; exact HC.out.g _) HID.out.imm)
 have HVL := wall (aluN_lt i.op xa i.imm (by rw [← HXA.out]; exact HC.out.g _) HID.out.imm)
 unfold AluR at HAL
 have HJ2 := wall (show J = (nextC (if (aluN i.op xa i.imm).2 = true then withC c i.rd (aluN i.op xa i.imm).1 else c), none) by rw [HJ.out]; unfold aluR; rw [HXA.out])
 obtain ⟨⟨v1, ok⟩, hvo⟩ : ∃ y, aluN i.op xa i.imm = y := ⟨_, rfl⟩
 rw [hvo] at HAL HJ2 HVL
 simp only at HAL HJ2 HVL
 clear hop hop57 hvo
 have HSI := wall (show (Tryz.prog.info? 71).map (·.size) = some (crC c).size ∧ (Tryz.prog.info? 54).map (·.size) = some I.size from ⟨(res_row HC.out).1, by rw [← HI.out]; exact in_info⟩)
 have HCB := wall (show Blk W w.heap.size 71 (crC c) from HW.out.c)
 have HIB := wall (show Blk W (w.heap.size + 1) 54 I from HW.out.i)
 obtain ⟨D, hD⟩ : ∃ z, crC c = z := ⟨_, rfl⟩
 have HDD := wall hD
 rw [hD] at HSI HCB
 go_wp2_with fail
 (with_reducible refine (HAL.out _).mono ?_); rintro e w2 ⟨rfl, rfl⟩
 clear HAL n1 n2 n3 n4 n39 n40 n41 g5 g11 g16 g43 g19 l10 l15 l18 l27 ki
 try simp only [Act.put, rpA, rpB, rpC]
 cases ok with
 | true =>
  have HWI := wall (fun W => with_any c HC.out (i.rd : Int) i.rd v1 W rfl HVL.out)
  unfold CrOut at HWI
  have HJE := wall (show J.1 = nextC (withC c i.rd v1) ∧ J.2 = none by rw [HJ2.out, if_pos rfl]; exact ⟨rfl, rfl⟩)
  have HC1 := wall (HC.out.with i.rd v1 HVL.out)
  obtain ⟨c1, hc1⟩ : ∃ y, withC c i.rd v1 = y := ⟨_, rfl⟩
  rw [hc1] at HWI HC1 HJE
  have HRX := wall (res_row HC1.out)
  have HDZ := wall (show D.size = (crC c1).size by rw [← HDD.out, crC_size HC.out, crC_size HC1.out])
  have HNX := wall (fun W => show Calls Tryz.prog 169 #[.agg (crC c1), .agg (inC i)] W (StepOut (nextC c1) (evO none i) W) from next_any c1 HC1.out i W)
  unfold StepOut at HNX
  obtain ⟨D1, hD1⟩ : ∃ z, crC c1 = z := ⟨_, rfl⟩
  have HD1 := wall hD1
  rw [hD1] at HWI HRX HDZ HNX
  rw [HDD.out] at HWI
  rw [HI.out] at HNX
  clear hc1 hD1
  have kr : W.cell? ⟨w.heap.size + 1, 1, none⟩ = some (.int .u8 (i.rd : Int)) := by rw [HW.out.i.cell, ← hI]; rfl
  have hrd : i.rd < 32 := HID.out.rd
  go_wp2_with (first | refine wpList_load_row rfl 71 _ rfl w.heap.size rfl 71 D (0, 0) _ HCB.out Tryz.underlying71 rfl HSI.out.1 ?_)
  (with_reducible refine (HWI.out _).mono ?_); rintro e w2 ⟨rfl, hB2⟩
  have HCB2 := wall (HCB.out.next hB2 rfl)
  have H2 := wall (HW.out.next hB2)
  clear hB2 kr kop hrd
  try simp only [Act.put, rpA, rpB, rpC]
  go_upto_region 31 with (refine wpList_set_row rfl 71 (.tmp 4) (.tmp 211) rfl w.heap.size D1 rfl rfl 71 D HCB2.out HRX.out.1 HDZ.out HRX.out.2.2 ?_; intro w3 K3 F3)
  have H3 := wall (show Fn w w3 c1 I from ⟨by rw [← HD1.out] at K3; exact K3.out, H2.out.i.frm F3.out (by simp), H2.out.o.frm F3.out (by simp), H2.out.e.frm F3.out (by simp), Below.frm H2.out.bel F3.out (Nat.le_refl _) (by simp)⟩)
  have HCB3 := wall (show Blk w3 w.heap.size 71 D1 by rw [← HD1.out]; exact H3.out.c)
  have HIB3 := wall H3.out.i
  clear K3 F3 H2 HCB2 HCB HIB HWI HDZ HW
  try simp only [Act.put, rpA, rpB, rpC]
  have HOK2 := wall (show (nextC c1).Ok from HC1.out.next)
  have HRW := wall (res_row HOK2.out)
  have HEW := wall (evo_row (none) i)
  rw [HZE.out.1] at HRW
  rw [HZE.out.2] at HEW
  obtain ⟨D2, hD2⟩ : ∃ q9, crC (nextC c1) = q9 := ⟨_, rfl⟩
  obtain ⟨V, hV⟩ : ∃ q9, evO (none) i = q9 := ⟨_, rfl⟩
  have HD2 := wall hD2
  have HVV := wall hV
  rw [hD2] at HNX HRW
  rw [hV] at HNX HEW
  clear hD2 hV
  go_wp2_with (first | refine wpList_load_row rfl 71 _ rfl w.heap.size rfl 71 D1 (0, 0) _ HCB3.out Tryz.underlying71 rfl HRX.out.1 ?_ | refine wpList_load_row rfl 54 _ rfl (w.heap.size + 1) rfl 54 I (0, 0) _ HIB3.out Tryz.underlying54 rfl HSI.out.2 ?_)
  (with_reducible refine (HNX.out _).mono ?_); rintro e w8 ⟨rfl, hB8⟩
  have H8 := wall (H3.out.next hB8)
  have H8o := wall (show Blk w8 (w.heap.size + 2) 71 Z by rw [← hZ]; exact H8.out.o)
  have H8e := wall (show Blk w8 (w.heap.size + 3) 78 E by rw [← hE]; exact H8.out.e)
  have H8b := wall H8.out.bel
  clear hB8 H8 HNX
  try simp only [Act.put, rpA, rpB, rpC]
  go_wp2_with (first | (refine wpList_set_row rfl 71 (.tmp 8) (.tmp 215) rfl (w.heap.size + 2) D2 rfl rfl 71 Z H8o.out HRW.out.1 HRW.out.2.1 HRW.out.2.2 ?_; intro w9 K9 F9; have H9e := wall (H8e.out.frm F9.out (by simp)); have H9b := wall (Below.frm H8b.out F9.out (Nat.le_refl _) (by simp))) | (refine wpList_set_row rfl 78 (.tmp 9) (.tmp 216) rfl (w.heap.size + 3) V rfl rfl 78 E H9e.out HEW.out.1 HEW.out.2.1 HEW.out.2.2 ?_; intro w10 K10 F10))
  have K10o := wall (K9.out.frm F10.out (by simp))
  have HB10 := wall (Below.frm H9b.out F10.out (Nat.le_refl _) (by simp))
  go_light
  exact bodyPost_ret (v := .tuple #[.agg D2, .agg V]) (results_two Tryz.results99 _ _ (w.heap.size + 2) (w.heap.size + 3) 71 78 D2 V _ _ rfl rfl K10o.out K10.out Tryz.underlying71 rfl HRW.out.1 Tryz.underlying78 rfl HEW.out.1) rfl ⟨by rw [HJE.out.1, HJE.out.2, HD2.out, HVV.out], HB10.out⟩
 | false =>
  have HJE := wall (show J.1 = nextC c ∧ J.2 = none by rw [HJ2.out, if_neg (by decide)]; exact ⟨rfl, rfl⟩)
  have HNX := wall (fun W => show Calls Tryz.prog 169 #[.agg (crC c), .agg (inC i)] W (StepOut (nextC c) (evO none i) W) from next_any c HC.out i W)
  unfold StepOut at HNX
  rw [HDD.out, HI.out] at HNX
  clear kop
  have HOK1 := wall (show (nextC c).Ok from HC.out.next)
  have HRW := wall (res_row HOK1.out)
  have HEW := wall (evo_row (none) i)
  rw [HZE.out.1] at HRW
  rw [HZE.out.2] at HEW
  obtain ⟨D2, hD2⟩ : ∃ q9, crC (nextC c) = q9 := ⟨_, rfl⟩
  obtain ⟨V, hV⟩ : ∃ q9, evO (none) i = q9 := ⟨_, rfl⟩
  have HD2 := wall hD2
  have HVV := wall hV
  rw [hD2] at HNX HRW
  rw [hV] at HNX HEW
  clear hD2 hV
  go_wp2_with (first | refine wpList_load_row rfl 71 _ rfl w.heap.size rfl 71 D (0, 0) _ HCB.out Tryz.underlying71 rfl HSI.out.1 ?_ | refine wpList_load_row rfl 54 _ rfl (w.heap.size + 1) rfl 54 I (0, 0) _ HIB.out Tryz.underlying54 rfl HSI.out.2 ?_)
  (with_reducible refine (HNX.out _).mono ?_); rintro e w8 ⟨rfl, hB8⟩
  have H8 := wall (HW.out.next hB8)
  have H8o := wall (show Blk w8 (w.heap.size + 2) 71 Z by rw [← hZ]; exact H8.out.o)
  have H8e := wall (show Blk w8 (w.heap.size + 3) 78 E by rw [← hE]; exact H8.out.e)
  have H8b := wall H8.out.bel
  clear hB8 H8 HNX
  try simp only [Act.put, rpA, rpB, rpC]
  go_wp2_with (first | (refine wpList_set_row rfl 71 (.tmp 8) (.tmp 215) rfl (w.heap.size + 2) D2 rfl rfl 71 Z H8o.out HRW.out.1 HRW.out.2.1 HRW.out.2.2 ?_; intro w9 K9 F9; have H9e := wall (H8e.out.frm F9.out (by simp)); have H9b := wall (Below.frm H8b.out F9.out (Nat.le_refl _) (by simp))) | (refine wpList_set_row rfl 78 (.tmp 9) (.tmp 216) rfl (w.heap.size + 3) V rfl rfl 78 E H9e.out HEW.out.1 HEW.out.2.1 HEW.out.2.2 ?_; intro w10 K10 F10))
  have K10o := wall (K9.out.frm F10.out (by simp))
  have HB10 := wall (Below.frm H9b.out F10.out (Nat.le_refl _) (by simp))
  go_light
  exact bodyPost_ret (v := .tuple #[.agg D2, .agg V]) (results_two Tryz.results99 _ _ (w.heap.size + 2) (w.heap.size + 3) 71 78 D2 V _ _ rfl rfl K10o.out K10.out Tryz.underlying71 rfl HRW.out.1 Tryz.underlying78 rfl HEW.out.1) rfl ⟨by rw [HJE.out.1, HJE.out.2, HD2.out, HVV.out], HB10.out⟩
theorem do_alur (c : Cr) (hc : c.Ok) (s : Value) (i : In) (v : Int) (w : World) (hid : InD i) (hop : 28 ≤ i.op ∧ i.op ≠ 39 ∧ i.op ≠ 40 ∧ i.op ≠ 41 ∧ i.op < 43) :
  Calls Tryz.prog 99 #[.agg (crC c), s, .agg (inC i), .int .u32 v] w (StepOut (aluR c i (c.g i.b)).1 (evO (aluR c i (c.g i.b)).2 i) w) := by
 have HID := wall hid
 have HOP := wall (And.intro hid.op (hop))
 clear hid
 obtain ⟨J, hJ⟩ : ∃ J, aluR c i (c.g i.b) = J := ⟨_, rfl⟩
 rw [hJ]
 have HJ := wall hJ.symm
 clear hJ
 have HC := wall hc
 have HZ := wall cr_zero
 have HE := wall ev_zero
 have HF := wall (Fn.new w c (inC i))
 obtain ⟨C, hC⟩ : ∃ y, crC c = y := ⟨_, rfl⟩
 obtain ⟨Z, hZ⟩ : ∃ y, crC crZ = y := ⟨_, rfl⟩
 obtain ⟨E, hE⟩ : ∃ y, evZ = y := ⟨_, rfl⟩
 obtain ⟨I, hI⟩ : ∃ y, inC i = y := ⟨_, rfl⟩
 have HI := wall hI
 have HZE := wall (And.intro hZ hE)
 rw [hC, hZ, hE, hI] at HF
 rw [hZ] at HZ
 rw [hE] at HE
 rw [hC, hI]
 clear hc hC
 go_enter Tryz.func99, Tryz.ntmps99
 go_upto_region 1 with (first | refine Big.wpList_alloc_at rfl 71 rfl Z HZ.out (w.heap.size + 2) (by simp) ?_ | refine Big.wpList_alloc_at rfl 78 rfl E HE.out (w.heap.size + 3) (by simp) ?_)
 try simp only [Act.put, rpA, rpB, rpC]
 refine wp_fn w c I HF.out ?_
 intro w1 h1
 have H1 := wall h1
 clear h1 HF
 have ka : w1.cell? ⟨w.heap.size + 1, 2, none⟩ = some (.int .u8 (i.a : Int)) := by rw [H1.out.i.cell, ← hI]; rfl
 have kb : w1.cell? ⟨w.heap.size + 1, 3, none⟩ = some (.int .u8 (i.b : Int)) := by rw [H1.out.i.cell, ← hI]; rfl
 have ha32 : i.a < 32 := HID.out.a
 have hb32 : i.b < 32 := HID.out.b
 have kxa := H1.out.cell HC.out (show i.a < 41 by omega)
 have kxb := H1.out.cell HC.out (show i.b < 41 by omega)
 have hl1 : w.heap.size + 1 < w1.heap.size := H1.out.i.lt
 have hl0 : w.heap.size < w1.heap.size := by omega
 clear hop
 go_wp2_with fail
 refine RelG.wp_region_rel 12 [] (by kernel_rfl) (by kernel_rfl) ?_
 simp only [List.take_succ_cons, List.take_zero, List.drop_succ_cons, List.drop_zero, Act.put, rpA, rpB, rpC]
 repeat (first | (refine RelG.tree_quiet rfl rfl rfl (fun K hK => ?_); go_big_quiet_op; refine hK _ ?_; clear hK K) | ((first | refine RelG.tree_pure rfl rfl rfl (.int .u8 (i.a : Int)) (fun W hW _ => Rel.exec_load1 _ _ rfl (w.heap.size + 1) (2) rfl _ (fun _ => by kernel_rfl) ((hW.undrew.cell (p := ⟨w.heap.size + 1, 2, none⟩) hl1).trans ka)) ?_ | refine RelG.tree_pure rfl rfl rfl (.int .u32 ((c.g i.a : Nat) : Int)) (fun W hW _ => Rel.exec_load1 _ _ rfl (w.heap.size) (i.a) rfl _ (fun _ => by kernel_rfl) ((hW.undrew.cell (p := ⟨w.heap.size, i.a, none⟩) hl0).trans kxa)) ?_ | refine RelG.tree_pure rfl rfl rfl (.int .u8 (i.b : Int)) (fun W hW _ => Rel.exec_load1 _ _ rfl (w.heap.size + 1) (3) rfl _ (fun _ => by kernel_rfl) ((hW.undrew.cell (p := ⟨w.heap.size + 1, 3, none⟩) hl1).trans kb)) ?_ | refine RelG.tree_pure rfl rfl rfl (.int .u32 ((c.g i.b : Nat) : Int)) (fun W hW _ => Rel.exec_load1 _ _ rfl (w.heap.size) (i.b) rfl _ (fun _ => by kernel_rfl) ((hW.undrew.cell (p := ⟨w.heap.size, i.b, none⟩) hl0).trans kxb)) ?_); simp only [Act.put, rpA, rpB, rpC]))
 intro W hW _
 have HW := wall (H1.out.next hW.undrew)
 have kop : W.cell? ⟨w.heap.size + 1, 0, none⟩ = some (.int .u8 (i.op : Int)) := by rw [HW.out.i.cell, ← hI]; rfl
 clear hW ka kb kxa kxb H1 hl0 hl1 ha32 hb32
 obtain ⟨xa, hxa⟩ : ∃ y, c.g i.a = y := ⟨_, rfl⟩
 obtain ⟨xb, hxb⟩ : ∃ y, c.g i.b = y := ⟨_, rfl⟩
 rw [hxa, hxb]
 have HXA := wall hxa
 have HXB := wall hxb
 have hop := HOP.out.2
 have hop57 := HOP.out.1
 clear hxa hxb
 have n1 : ((i.op : Int) == 1) = false := by rw [beq_eq_false_iff_ne]; omega
 have n2 : ((i.op : Int) == 2) = false := by rw [beq_eq_false_iff_ne]; omega
 have n3 : ((i.op : Int) == 3) = false := by rw [beq_eq_false_iff_ne]; omega
 have n4 : ((i.op : Int) == 4) = false := by rw [beq_eq_false_iff_ne]; omega
 have n39 : ((i.op : Int) == 39) = false := by rw [beq_eq_false_iff_ne]; omega
 have n40 : ((i.op : Int) == 40) = false := by rw [beq_eq_false_iff_ne]; omega
 have n41 : ((i.op : Int) == 41) = false := by rw [beq_eq_false_iff_ne]; omega
 have g5 : decide ((5 : Int) ≤ (i.op : Int)) = true := by simp; omega
 have g11 : decide ((11 : Int) ≤ (i.op : Int)) = true := by simp; omega
 have g16 : decide ((16 : Int) ≤ (i.op : Int)) = true := by simp; omega
 have g43 : decide ((43 : Int) ≤ (i.op : Int)) = false := by simp; omega
 have g19 : decide ((19 : Int) ≤ (i.op : Int)) = true := by simp; omega
 have l10 : decide ((i.op : Int) ≤ 10) = false := by simp; omega
 have l15 : decide ((i.op : Int) ≤ 15) = false := by simp; omega
 have l18 : decide ((i.op : Int) ≤ 18) = false := by simp; omega
 have l27 : decide ((i.op : Int) ≤ 27) = false := by simp; omega
 have HAL := wall (fun W => alu_any i.op xa xb hop57 W (by rw [← HXA.out]; exact HC.out.g _) (by rw [← HXB.out]; exact HC.out.g _))
 have HVL := wall (aluN_lt i.op xa xb (by rw [← HXA.out]; exact HC.out.g _) (by rw [← HXB.out]; exact HC.out.g _))
 unfold AluR at HAL
 have HJ2 := wall (show J = (nextC (if (aluN i.op xa xb).2 = true then withC c i.rd (aluN i.op xa xb).1 else c), none) by rw [HJ.out]; unfold aluR; rw [HXA.out]; rw [HXB.out])
 obtain ⟨⟨v1, ok⟩, hvo⟩ : ∃ y, aluN i.op xa xb = y := ⟨_, rfl⟩
 rw [hvo] at HAL HJ2 HVL
 simp only at HAL HJ2 HVL
 clear hop hop57 hvo
 have HSI := wall (show (Tryz.prog.info? 71).map (·.size) = some (crC c).size ∧ (Tryz.prog.info? 54).map (·.size) = some I.size from ⟨(res_row HC.out).1, by rw [← HI.out]; exact in_info⟩)
 have HCB := wall (show Blk W w.heap.size 71 (crC c) from HW.out.c)
 have HIB := wall (show Blk W (w.heap.size + 1) 54 I from HW.out.i)
 obtain ⟨D, hD⟩ : ∃ z, crC c = z := ⟨_, rfl⟩
 have HDD := wall hD
 rw [hD] at HSI HCB
 go_wp2_with fail
 (with_reducible refine (HAL.out _).mono ?_); rintro e w2 ⟨rfl, rfl⟩
 clear HAL n1 n2 n3 n4 n39 n40 n41 g5 g11 g16 g43 g19 l10 l15 l18 l27
 try simp only [Act.put, rpA, rpB, rpC]
 cases ok with
 | true =>
  have HWI := wall (fun W => with_any c HC.out (i.rd : Int) i.rd v1 W rfl HVL.out)
  unfold CrOut at HWI
  have HJE := wall (show J.1 = nextC (withC c i.rd v1) ∧ J.2 = none by rw [HJ2.out, if_pos rfl]; exact ⟨rfl, rfl⟩)
  have HC1 := wall (HC.out.with i.rd v1 HVL.out)
  obtain ⟨c1, hc1⟩ : ∃ y, withC c i.rd v1 = y := ⟨_, rfl⟩
  rw [hc1] at HWI HC1 HJE
  have HRX := wall (res_row HC1.out)
  have HDZ := wall (show D.size = (crC c1).size by rw [← HDD.out, crC_size HC.out, crC_size HC1.out])
  have HNX := wall (fun W => show Calls Tryz.prog 169 #[.agg (crC c1), .agg (inC i)] W (StepOut (nextC c1) (evO none i) W) from next_any c1 HC1.out i W)
  unfold StepOut at HNX
  obtain ⟨D1, hD1⟩ : ∃ z, crC c1 = z := ⟨_, rfl⟩
  have HD1 := wall hD1
  rw [hD1] at HWI HRX HDZ HNX
  rw [HDD.out] at HWI
  rw [HI.out] at HNX
  clear hc1 hD1
  have kr : W.cell? ⟨w.heap.size + 1, 1, none⟩ = some (.int .u8 (i.rd : Int)) := by rw [HW.out.i.cell, ← hI]; rfl
  have hrd : i.rd < 32 := HID.out.rd
  go_wp2_with (first | refine wpList_load_row rfl 71 _ rfl w.heap.size rfl 71 D (0, 0) _ HCB.out Tryz.underlying71 rfl HSI.out.1 ?_)
  (with_reducible refine (HWI.out _).mono ?_); rintro e w2 ⟨rfl, hB2⟩
  have HCB2 := wall (HCB.out.next hB2 rfl)
  have H2 := wall (HW.out.next hB2)
  clear hB2 kr kop hrd
  try simp only [Act.put, rpA, rpB, rpC]
  go_upto_region 31 with (refine wpList_set_row rfl 71 (.tmp 4) (.tmp 211) rfl w.heap.size D1 rfl rfl 71 D HCB2.out HRX.out.1 HDZ.out HRX.out.2.2 ?_; intro w3 K3 F3)
  have H3 := wall (show Fn w w3 c1 I from ⟨by rw [← HD1.out] at K3; exact K3.out, H2.out.i.frm F3.out (by simp), H2.out.o.frm F3.out (by simp), H2.out.e.frm F3.out (by simp), Below.frm H2.out.bel F3.out (Nat.le_refl _) (by simp)⟩)
  have HCB3 := wall (show Blk w3 w.heap.size 71 D1 by rw [← HD1.out]; exact H3.out.c)
  have HIB3 := wall H3.out.i
  clear K3 F3 H2 HCB2 HCB HIB HWI HDZ HW
  try simp only [Act.put, rpA, rpB, rpC]
  have HOK2 := wall (show (nextC c1).Ok from HC1.out.next)
  have HRW := wall (res_row HOK2.out)
  have HEW := wall (evo_row (none) i)
  rw [HZE.out.1] at HRW
  rw [HZE.out.2] at HEW
  obtain ⟨D2, hD2⟩ : ∃ q9, crC (nextC c1) = q9 := ⟨_, rfl⟩
  obtain ⟨V, hV⟩ : ∃ q9, evO (none) i = q9 := ⟨_, rfl⟩
  have HD2 := wall hD2
  have HVV := wall hV
  rw [hD2] at HNX HRW
  rw [hV] at HNX HEW
  clear hD2 hV
  go_wp2_with (first | refine wpList_load_row rfl 71 _ rfl w.heap.size rfl 71 D1 (0, 0) _ HCB3.out Tryz.underlying71 rfl HRX.out.1 ?_ | refine wpList_load_row rfl 54 _ rfl (w.heap.size + 1) rfl 54 I (0, 0) _ HIB3.out Tryz.underlying54 rfl HSI.out.2 ?_)
  (with_reducible refine (HNX.out _).mono ?_); rintro e w8 ⟨rfl, hB8⟩
  have H8 := wall (H3.out.next hB8)
  have H8o := wall (show Blk w8 (w.heap.size + 2) 71 Z by rw [← hZ]; exact H8.out.o)
  have H8e := wall (show Blk w8 (w.heap.size + 3) 78 E by rw [← hE]; exact H8.out.e)
  have H8b := wall H8.out.bel
  clear hB8 H8 HNX
  try simp only [Act.put, rpA, rpB, rpC]
  go_wp2_with (first | (refine wpList_set_row rfl 71 (.tmp 8) (.tmp 215) rfl (w.heap.size + 2) D2 rfl rfl 71 Z H8o.out HRW.out.1 HRW.out.2.1 HRW.out.2.2 ?_; intro w9 K9 F9; have H9e := wall (H8e.out.frm F9.out (by simp)); have H9b := wall (Below.frm H8b.out F9.out (Nat.le_refl _) (by simp))) | (refine wpList_set_row rfl 78 (.tmp 9) (.tmp 216) rfl (w.heap.size + 3) V rfl rfl 78 E H9e.out HEW.out.1 HEW.out.2.1 HEW.out.2.2 ?_; intro w10 K10 F10))
  have K10o := wall (K9.out.frm F10.out (by simp))
  have HB10 := wall (Below.frm H9b.out F10.out (Nat.le_refl _) (by simp))
  go_light
  exact bodyPost_ret (v := .tuple #[.agg D2, .agg V]) (results_two Tryz.results99 _ _ (w.heap.size + 2) (w.heap.size + 3) 71 78 D2 V _ _ rfl rfl K10o.out K10.out Tryz.underlying71 rfl HRW.out.1 Tryz.underlying78 rfl HEW.out.1) rfl ⟨by rw [HJE.out.1, HJE.out.2, HD2.out, HVV.out], HB10.out⟩
 | false =>
  have HJE := wall (show J.1 = nextC c ∧ J.2 = none by rw [HJ2.out, if_neg (by decide)]; exact ⟨rfl, rfl⟩)
  have HNX := wall (fun W => show Calls Tryz.prog 169 #[.agg (crC c), .agg (inC i)] W (StepOut (nextC c) (evO none i) W) from next_any c HC.out i W)
  unfold StepOut at HNX
  rw [HDD.out, HI.out] at HNX
  clear kop
  have HOK1 := wall (show (nextC c).Ok from HC.out.next)
  have HRW := wall (res_row HOK1.out)
  have HEW := wall (evo_row (none) i)
  rw [HZE.out.1] at HRW
  rw [HZE.out.2] at HEW
  obtain ⟨D2, hD2⟩ : ∃ q9, crC (nextC c) = q9 := ⟨_, rfl⟩
  obtain ⟨V, hV⟩ : ∃ q9, evO (none) i = q9 := ⟨_, rfl⟩
  have HD2 := wall hD2
  have HVV := wall hV
  rw [hD2] at HNX HRW
  rw [hV] at HNX HEW
  clear hD2 hV
  go_wp2_with (first | refine wpList_load_row rfl 71 _ rfl w.heap.size rfl 71 D (0, 0) _ HCB.out Tryz.underlying71 rfl HSI.out.1 ?_ | refine wpList_load_row rfl 54 _ rfl (w.heap.size + 1) rfl 54 I (0, 0) _ HIB.out Tryz.underlying54 rfl HSI.out.2 ?_)
  (with_reducible refine (HNX.out _).mono ?_); rintro e w8 ⟨rfl, hB8⟩
  have H8 := wall (HW.out.next hB8)
  have H8o := wall (show Blk w8 (w.heap.size + 2) 71 Z by rw [← hZ]; exact H8.out.o)
  have H8e := wall (show Blk w8 (w.heap.size + 3) 78 E by rw [← hE]; exact H8.out.e)
  have H8b := wall H8.out.bel
  clear hB8 H8 HNX
  try simp only [Act.put, rpA, rpB, rpC]
  go_wp2_with (first | (refine wpList_set_row rfl 71 (.tmp 8) (.tmp 215) rfl (w.heap.size + 2) D2 rfl rfl 71 Z H8o.out HRW.out.1 HRW.out.2.1 HRW.out.2.2 ?_; intro w9 K9 F9; have H9e := wall (H8e.out.frm F9.out (by simp)); have H9b := wall (Below.frm H8b.out F9.out (Nat.le_refl _) (by simp))) | (refine wpList_set_row rfl 78 (.tmp 9) (.tmp 216) rfl (w.heap.size + 3) V rfl rfl 78 E H9e.out HEW.out.1 HEW.out.2.1 HEW.out.2.2 ?_; intro w10 K10 F10))
  have K10o := wall (K9.out.frm F10.out (by simp))
  have HB10 := wall (Below.frm H9b.out F10.out (Nat.le_refl _) (by simp))
  go_light
  exact bodyPost_ret (v := .tuple #[.agg D2, .agg V]) (results_two Tryz.results99 _ _ (w.heap.size + 2) (w.heap.size + 3) 71 78 D2 V _ _ rfl rfl K10o.out K10.out Tryz.underlying71 rfl HRW.out.1 Tryz.underlying78 rfl HEW.out.1) rfl ⟨by rw [HJE.out.1, HJE.out.2, HD2.out, HVV.out], HB10.out⟩
theorem do_alum (c : Cr) (hc : c.Ok) (s : Value) (i : In) (v : Int) (w : World) (hid : InD i) (hop : 49 ≤ i.op) :
  Calls Tryz.prog 99 #[.agg (crC c), s, .agg (inC i), .int .u32 v] w (StepOut (aluR c i (c.g i.b)).1 (evO (aluR c i (c.g i.b)).2 i) w) := by
 have HID := wall hid
 have HOP := wall (And.intro hid.op (hop))
 clear hid
 obtain ⟨J, hJ⟩ : ∃ J, aluR c i (c.g i.b) = J := ⟨_, rfl⟩
 rw [hJ]
 have HJ := wall hJ.symm
 clear hJ
 have HC := wall hc
 have HZ := wall cr_zero
 have HE := wall ev_zero
 have HF := wall (Fn.new w c (inC i))
 obtain ⟨C, hC⟩ : ∃ y, crC c = y := ⟨_, rfl⟩
 obtain ⟨Z, hZ⟩ : ∃ y, crC crZ = y := ⟨_, rfl⟩
 obtain ⟨E, hE⟩ : ∃ y, evZ = y := ⟨_, rfl⟩
 obtain ⟨I, hI⟩ : ∃ y, inC i = y := ⟨_, rfl⟩
 have HI := wall hI
 have HZE := wall (And.intro hZ hE)
 rw [hC, hZ, hE, hI] at HF
 rw [hZ] at HZ
 rw [hE] at HE
 rw [hC, hI]
 clear hc hC
 go_enter Tryz.func99, Tryz.ntmps99
 go_upto_region 1 with (first | refine Big.wpList_alloc_at rfl 71 rfl Z HZ.out (w.heap.size + 2) (by simp) ?_ | refine Big.wpList_alloc_at rfl 78 rfl E HE.out (w.heap.size + 3) (by simp) ?_)
 try simp only [Act.put, rpA, rpB, rpC]
 refine wp_fn w c I HF.out ?_
 intro w1 h1
 have H1 := wall h1
 clear h1 HF
 have ka : w1.cell? ⟨w.heap.size + 1, 2, none⟩ = some (.int .u8 (i.a : Int)) := by rw [H1.out.i.cell, ← hI]; rfl
 have kb : w1.cell? ⟨w.heap.size + 1, 3, none⟩ = some (.int .u8 (i.b : Int)) := by rw [H1.out.i.cell, ← hI]; rfl
 have ha32 : i.a < 32 := HID.out.a
 have hb32 : i.b < 32 := HID.out.b
 have kxa := H1.out.cell HC.out (show i.a < 41 by omega)
 have kxb := H1.out.cell HC.out (show i.b < 41 by omega)
 have hl1 : w.heap.size + 1 < w1.heap.size := H1.out.i.lt
 have hl0 : w.heap.size < w1.heap.size := by omega
 clear hop
 go_wp2_with fail
 refine RelG.wp_region_rel 12 [] (by kernel_rfl) (by kernel_rfl) ?_
 simp only [List.take_succ_cons, List.take_zero, List.drop_succ_cons, List.drop_zero, Act.put, rpA, rpB, rpC]
 repeat (first | (refine RelG.tree_quiet rfl rfl rfl (fun K hK => ?_); go_big_quiet_op; refine hK _ ?_; clear hK K) | ((first | refine RelG.tree_pure rfl rfl rfl (.int .u8 (i.a : Int)) (fun W hW _ => Rel.exec_load1 _ _ rfl (w.heap.size + 1) (2) rfl _ (fun _ => by kernel_rfl) ((hW.undrew.cell (p := ⟨w.heap.size + 1, 2, none⟩) hl1).trans ka)) ?_ | refine RelG.tree_pure rfl rfl rfl (.int .u32 ((c.g i.a : Nat) : Int)) (fun W hW _ => Rel.exec_load1 _ _ rfl (w.heap.size) (i.a) rfl _ (fun _ => by kernel_rfl) ((hW.undrew.cell (p := ⟨w.heap.size, i.a, none⟩) hl0).trans kxa)) ?_ | refine RelG.tree_pure rfl rfl rfl (.int .u8 (i.b : Int)) (fun W hW _ => Rel.exec_load1 _ _ rfl (w.heap.size + 1) (3) rfl _ (fun _ => by kernel_rfl) ((hW.undrew.cell (p := ⟨w.heap.size + 1, 3, none⟩) hl1).trans kb)) ?_ | refine RelG.tree_pure rfl rfl rfl (.int .u32 ((c.g i.b : Nat) : Int)) (fun W hW _ => Rel.exec_load1 _ _ rfl (w.heap.size) (i.b) rfl _ (fun _ => by kernel_rfl) ((hW.undrew.cell (p := ⟨w.heap.size, i.b, none⟩) hl0).trans kxb)) ?_); simp only [Act.put, rpA, rpB, rpC]))
 intro W hW _
 have HW := wall (H1.out.next hW.undrew)
 have kop : W.cell? ⟨w.heap.size + 1, 0, none⟩ = some (.int .u8 (i.op : Int)) := by rw [HW.out.i.cell, ← hI]; rfl
 clear hW ka kb kxa kxb H1 hl0 hl1 ha32 hb32
 obtain ⟨xa, hxa⟩ : ∃ y, c.g i.a = y := ⟨_, rfl⟩
 obtain ⟨xb, hxb⟩ : ∃ y, c.g i.b = y := ⟨_, rfl⟩
 rw [hxa, hxb]
 have HXA := wall hxa
 have HXB := wall hxb
 have hop := HOP.out.2
 have hop57 := HOP.out.1
 clear hxa hxb
 have n1 : ((i.op : Int) == 1) = false := by rw [beq_eq_false_iff_ne]; omega
 have n2 : ((i.op : Int) == 2) = false := by rw [beq_eq_false_iff_ne]; omega
 have n3 : ((i.op : Int) == 3) = false := by rw [beq_eq_false_iff_ne]; omega
 have n4 : ((i.op : Int) == 4) = false := by rw [beq_eq_false_iff_ne]; omega
 have n39 : ((i.op : Int) == 39) = false := by rw [beq_eq_false_iff_ne]; omega
 have n40 : ((i.op : Int) == 40) = false := by rw [beq_eq_false_iff_ne]; omega
 have n41 : ((i.op : Int) == 41) = false := by rw [beq_eq_false_iff_ne]; omega
 have g5 : decide ((5 : Int) ≤ (i.op : Int)) = true := by simp; omega
 have g11 : decide ((11 : Int) ≤ (i.op : Int)) = true := by simp; omega
 have g16 : decide ((16 : Int) ≤ (i.op : Int)) = true := by simp; omega
 have g43 : decide ((43 : Int) ≤ (i.op : Int)) = true := by simp; omega
 have g19 : decide ((19 : Int) ≤ (i.op : Int)) = true := by simp; omega
 have l10 : decide ((i.op : Int) ≤ 10) = false := by simp; omega
 have l15 : decide ((i.op : Int) ≤ 15) = false := by simp; omega
 have l18 : decide ((i.op : Int) ≤ 18) = false := by simp; omega
 have l27 : decide ((i.op : Int) ≤ 27) = false := by simp; omega
 have l48 : decide ((i.op : Int) ≤ 48) = false := by simp; omega
 have HAL := wall (fun W => alu_any i.op xa xb hop57 W (by rw [← HXA.out]; exact HC.out.g _) (by rw [← HXB.out]; exact HC.out.g _))
 have HVL := wall (aluN_lt i.op xa xb (by rw [← HXA.out]; exact HC.out.g _) (by rw [← HXB.out]; exact HC.out.g _))
 unfold AluR at HAL
 have HJ2 := wall (show J = (nextC (if (aluN i.op xa xb).2 = true then withC c i.rd (aluN i.op xa xb).1 else c), none) by rw [HJ.out]; unfold aluR; rw [HXA.out]; rw [HXB.out])
 obtain ⟨⟨v1, ok⟩, hvo⟩ : ∃ y, aluN i.op xa xb = y := ⟨_, rfl⟩
 rw [hvo] at HAL HJ2 HVL
 simp only at HAL HJ2 HVL
 clear hop hop57 hvo
 have HSI := wall (show (Tryz.prog.info? 71).map (·.size) = some (crC c).size ∧ (Tryz.prog.info? 54).map (·.size) = some I.size from ⟨(res_row HC.out).1, by rw [← HI.out]; exact in_info⟩)
 have HCB := wall (show Blk W w.heap.size 71 (crC c) from HW.out.c)
 have HIB := wall (show Blk W (w.heap.size + 1) 54 I from HW.out.i)
 obtain ⟨D, hD⟩ : ∃ z, crC c = z := ⟨_, rfl⟩
 have HDD := wall hD
 rw [hD] at HSI HCB
 go_wp2_with fail
 (with_reducible refine (HAL.out _).mono ?_); rintro e w2 ⟨rfl, rfl⟩
 clear HAL n1 n2 n3 n4 n39 n40 n41 g5 g11 g16 g43 g19 l10 l15 l18 l27 l48
 try simp only [Act.put, rpA, rpB, rpC]
 cases ok with
 | true =>
  have HWI := wall (fun W => with_any c HC.out (i.rd : Int) i.rd v1 W rfl HVL.out)
  unfold CrOut at HWI
  have HJE := wall (show J.1 = nextC (withC c i.rd v1) ∧ J.2 = none by rw [HJ2.out, if_pos rfl]; exact ⟨rfl, rfl⟩)
  have HC1 := wall (HC.out.with i.rd v1 HVL.out)
  obtain ⟨c1, hc1⟩ : ∃ y, withC c i.rd v1 = y := ⟨_, rfl⟩
  rw [hc1] at HWI HC1 HJE
  have HRX := wall (res_row HC1.out)
  have HDZ := wall (show D.size = (crC c1).size by rw [← HDD.out, crC_size HC.out, crC_size HC1.out])
  have HNX := wall (fun W => show Calls Tryz.prog 169 #[.agg (crC c1), .agg (inC i)] W (StepOut (nextC c1) (evO none i) W) from next_any c1 HC1.out i W)
  unfold StepOut at HNX
  obtain ⟨D1, hD1⟩ : ∃ z, crC c1 = z := ⟨_, rfl⟩
  have HD1 := wall hD1
  rw [hD1] at HWI HRX HDZ HNX
  rw [HDD.out] at HWI
  rw [HI.out] at HNX
  clear hc1 hD1
  have kr : W.cell? ⟨w.heap.size + 1, 1, none⟩ = some (.int .u8 (i.rd : Int)) := by rw [HW.out.i.cell, ← hI]; rfl
  have hrd : i.rd < 32 := HID.out.rd
  go_wp2_with (first | refine wpList_load_row rfl 71 _ rfl w.heap.size rfl 71 D (0, 0) _ HCB.out Tryz.underlying71 rfl HSI.out.1 ?_)
  (with_reducible refine (HWI.out _).mono ?_); rintro e w2 ⟨rfl, hB2⟩
  have HCB2 := wall (HCB.out.next hB2 rfl)
  have H2 := wall (HW.out.next hB2)
  clear hB2 kr kop hrd
  try simp only [Act.put, rpA, rpB, rpC]
  go_upto_region 31 with (refine wpList_set_row rfl 71 (.tmp 4) (.tmp 211) rfl w.heap.size D1 rfl rfl 71 D HCB2.out HRX.out.1 HDZ.out HRX.out.2.2 ?_; intro w3 K3 F3)
  have H3 := wall (show Fn w w3 c1 I from ⟨by rw [← HD1.out] at K3; exact K3.out, H2.out.i.frm F3.out (by simp), H2.out.o.frm F3.out (by simp), H2.out.e.frm F3.out (by simp), Below.frm H2.out.bel F3.out (Nat.le_refl _) (by simp)⟩)
  have HCB3 := wall (show Blk w3 w.heap.size 71 D1 by rw [← HD1.out]; exact H3.out.c)
  have HIB3 := wall H3.out.i
  clear K3 F3 H2 HCB2 HCB HIB HWI HDZ HW
  try simp only [Act.put, rpA, rpB, rpC]
  have HOK2 := wall (show (nextC c1).Ok from HC1.out.next)
  have HRW := wall (res_row HOK2.out)
  have HEW := wall (evo_row (none) i)
  rw [HZE.out.1] at HRW
  rw [HZE.out.2] at HEW
  obtain ⟨D2, hD2⟩ : ∃ q9, crC (nextC c1) = q9 := ⟨_, rfl⟩
  obtain ⟨V, hV⟩ : ∃ q9, evO (none) i = q9 := ⟨_, rfl⟩
  have HD2 := wall hD2
  have HVV := wall hV
  rw [hD2] at HNX HRW
  rw [hV] at HNX HEW
  clear hD2 hV
  go_wp2_with (first | refine wpList_load_row rfl 71 _ rfl w.heap.size rfl 71 D1 (0, 0) _ HCB3.out Tryz.underlying71 rfl HRX.out.1 ?_ | refine wpList_load_row rfl 54 _ rfl (w.heap.size + 1) rfl 54 I (0, 0) _ HIB3.out Tryz.underlying54 rfl HSI.out.2 ?_)
  (with_reducible refine (HNX.out _).mono ?_); rintro e w8 ⟨rfl, hB8⟩
  have H8 := wall (H3.out.next hB8)
  have H8o := wall (show Blk w8 (w.heap.size + 2) 71 Z by rw [← hZ]; exact H8.out.o)
  have H8e := wall (show Blk w8 (w.heap.size + 3) 78 E by rw [← hE]; exact H8.out.e)
  have H8b := wall H8.out.bel
  clear hB8 H8 HNX
  try simp only [Act.put, rpA, rpB, rpC]
  go_wp2_with (first | (refine wpList_set_row rfl 71 (.tmp 8) (.tmp 215) rfl (w.heap.size + 2) D2 rfl rfl 71 Z H8o.out HRW.out.1 HRW.out.2.1 HRW.out.2.2 ?_; intro w9 K9 F9; have H9e := wall (H8e.out.frm F9.out (by simp)); have H9b := wall (Below.frm H8b.out F9.out (Nat.le_refl _) (by simp))) | (refine wpList_set_row rfl 78 (.tmp 9) (.tmp 216) rfl (w.heap.size + 3) V rfl rfl 78 E H9e.out HEW.out.1 HEW.out.2.1 HEW.out.2.2 ?_; intro w10 K10 F10))
  have K10o := wall (K9.out.frm F10.out (by simp))
  have HB10 := wall (Below.frm H9b.out F10.out (Nat.le_refl _) (by simp))
  go_light
  exact bodyPost_ret (v := .tuple #[.agg D2, .agg V]) (results_two Tryz.results99 _ _ (w.heap.size + 2) (w.heap.size + 3) 71 78 D2 V _ _ rfl rfl K10o.out K10.out Tryz.underlying71 rfl HRW.out.1 Tryz.underlying78 rfl HEW.out.1) rfl ⟨by rw [HJE.out.1, HJE.out.2, HD2.out, HVV.out], HB10.out⟩
 | false =>
  have HJE := wall (show J.1 = nextC c ∧ J.2 = none by rw [HJ2.out, if_neg (by decide)]; exact ⟨rfl, rfl⟩)
  have HNX := wall (fun W => show Calls Tryz.prog 169 #[.agg (crC c), .agg (inC i)] W (StepOut (nextC c) (evO none i) W) from next_any c HC.out i W)
  unfold StepOut at HNX
  rw [HDD.out, HI.out] at HNX
  clear kop
  have HOK1 := wall (show (nextC c).Ok from HC.out.next)
  have HRW := wall (res_row HOK1.out)
  have HEW := wall (evo_row (none) i)
  rw [HZE.out.1] at HRW
  rw [HZE.out.2] at HEW
  obtain ⟨D2, hD2⟩ : ∃ q9, crC (nextC c) = q9 := ⟨_, rfl⟩
  obtain ⟨V, hV⟩ : ∃ q9, evO (none) i = q9 := ⟨_, rfl⟩
  have HD2 := wall hD2
  have HVV := wall hV
  rw [hD2] at HNX HRW
  rw [hV] at HNX HEW
  clear hD2 hV
  go_wp2_with (first | refine wpList_load_row rfl 71 _ rfl w.heap.size rfl 71 D (0, 0) _ HCB.out Tryz.underlying71 rfl HSI.out.1 ?_ | refine wpList_load_row rfl 54 _ rfl (w.heap.size + 1) rfl 54 I (0, 0) _ HIB.out Tryz.underlying54 rfl HSI.out.2 ?_)
  (with_reducible refine (HNX.out _).mono ?_); rintro e w8 ⟨rfl, hB8⟩
  have H8 := wall (HW.out.next hB8)
  have H8o := wall (show Blk w8 (w.heap.size + 2) 71 Z by rw [← hZ]; exact H8.out.o)
  have H8e := wall (show Blk w8 (w.heap.size + 3) 78 E by rw [← hE]; exact H8.out.e)
  have H8b := wall H8.out.bel
  clear hB8 H8 HNX
  try simp only [Act.put, rpA, rpB, rpC]
  go_wp2_with (first | (refine wpList_set_row rfl 71 (.tmp 8) (.tmp 215) rfl (w.heap.size + 2) D2 rfl rfl 71 Z H8o.out HRW.out.1 HRW.out.2.1 HRW.out.2.2 ?_; intro w9 K9 F9; have H9e := wall (H8e.out.frm F9.out (by simp)); have H9b := wall (Below.frm H8b.out F9.out (Nat.le_refl _) (by simp))) | (refine wpList_set_row rfl 78 (.tmp 9) (.tmp 216) rfl (w.heap.size + 3) V rfl rfl 78 E H9e.out HEW.out.1 HEW.out.2.1 HEW.out.2.2 ?_; intro w10 K10 F10))
  have K10o := wall (K9.out.frm F10.out (by simp))
  have HB10 := wall (Below.frm H9b.out F10.out (Nat.le_refl _) (by simp))
  go_light
  exact bodyPost_ret (v := .tuple #[.agg D2, .agg V]) (results_two Tryz.results99 _ _ (w.heap.size + 2) (w.heap.size + 3) 71 78 D2 V _ _ rfl rfl K10o.out K10.out Tryz.underlying71 rfl HRW.out.1 Tryz.underlying78 rfl HEW.out.1) rfl ⟨by rw [HJE.out.1, HJE.out.2, HD2.out, HVV.out], HB10.out⟩
end Core
end Go.Proofs.YtmiaabpnolebhaaGreatDoor
namespace Go.Proofs.YtmiaabpnolebhaaGreatDoor
open Go.RowKit

namespace Core
open Otp Sha Rv Grant Spc R1 Fla
theorem csrEnd_ok {c : Cr} (h : c.Ok) (i : In) (old : Nat) (ho : old < 4294967296) (cy : Bool) : (csrEnd c i old cy).Ok := by
 unfold csrEnd
 split
 ·exact (h.with i.rd old ho).next.set 40 _ (by omega)
 ·exact (h.with i.rd old ho).next
theorem csrIn_lt {c : Cr} (h : c.Ok) {i : In} (hid : InD i) : csrIn c i < 4294967296 := by
 unfold csrIn
 split
 ·exact hid.imm
 ·exact h.g _
theorem csrR_ok {c : Cr} (h : c.Ok) {i : In} (hid : InD i) {w : Nat} (hw : w < 4294967296) : (csrR c i w).1.Ok := by
 unfold csrR
 have hg := csrG_lt h i.csr
 split
 ·exact Cr.Ok.trap h (by decide) hw
 ·split
  ·exact csrEnd_ok h i _ hg false
  ·split
   ·exact Cr.Ok.trap h (by decide) hw
   ·exact csrEnd_ok (csrS_ok h _ _ (csrW_lt _ _ _ (csrIn_lt h hid) hg)) i _ hg (i.csr == 2816)
theorem atN_lt (c : Cr) (i : In) : atN c i < 4294967296 := Nat.mod_lt _ (by decide)
theorem loadR_ok {v : SpV} {F vs : List Nat} {ls : List Bool} {c : Cr} {i : In} (h : c.Ok) (hv : v.Ok) (hF : F.length = 10240) (hb : ∀ x ∈ F, x < 256) : (loadR v F vs ls c i).1.Ok := by
 unfold loadR
 split
 ·exact Cr.Ok.trap h (by decide) (atN_lt c i)
 ·split
  ·exact Cr.Ok.trap h (by decide) (atN_lt c i)
  ·rename_i h1 h2
   obtain ⟨h3, h4⟩ := ld_len (v := v) (F := F) (vs := vs) (ls := ls) (who := 1) (a := atN c i) (n := szN i.op) hv hF hb (by omega)
   have h5 := leN_lt _ h4
   have h6 : 256 ^ (ldR v F vs ls 1 (atN c i) (szN i.op)).2.length ≤ 256 ^ 4 := Nat.pow_le_pow_right (by decide) (by rw [h3]; rcases szN_cases i.op with h | h | h <;> omega)
   exact (h.with i.rd _ (ldV_lt _ _ (by omega))).next
theorem storeR_ok {v : SpV} {c : Cr} {i : In} (h : c.Ok) : (storeR v c i).c.Ok := by
 unfold storeR
 split
 ·exact Cr.Ok.trap h (by decide) (atN_lt c i)
 ·split
  ·exact Cr.Ok.trap h (by decide) (atN_lt c i)
  ·exact h.next
theorem do_load (c : Cr) (hc : c.Ok) (i : In) (v : Nat) (w : World) (hid : InD i) (hop : 11 ≤ i.op ∧ i.op ≤ 15) (g f pf cc p b : Nat) (u : SpV) (F vs : List Nat) (ls : List Bool) (sd : Bool) (hsw : Sw w g f pf cc p b u F vs ls sd) (hS : Spans w) (hst : (Lit.int .i64 u.st).wf = true) :
  Calls Tryz.prog 99 #[.agg (crC c), .pointer (some ⟨g, 0, none⟩), .agg (inC i), .int .u32 (v : Int)] w (StepOut (loadR u F vs ls c i).1 (evO (loadR u F vs ls c i).2 i) w) := by
 have HID := wall hid
 have HOP := wall (And.intro hid.op (hop))
 clear hid
 obtain ⟨J, hJ⟩ : ∃ J, loadR u F vs ls c i = J := ⟨_, rfl⟩
 rw [hJ]
 have HJ := wall hJ.symm
 clear hJ
 have HSW := wall hsw
 have HS := wall hS
 clear hsw hS
 have HST := wall hst
 clear hst
 have HC := wall hc
 have HZ := wall cr_zero
 have HE := wall ev_zero
 have HF := wall (Fn.new w c (inC i))
 obtain ⟨C, hC⟩ : ∃ y, crC c = y := ⟨_, rfl⟩
 obtain ⟨Z, hZ⟩ : ∃ y, crC crZ = y := ⟨_, rfl⟩
 obtain ⟨E, hE⟩ : ∃ y, evZ = y := ⟨_, rfl⟩
 obtain ⟨I, hI⟩ : ∃ y, inC i = y := ⟨_, rfl⟩
 have HI := wall hI
 have HZE := wall (And.intro hZ hE)
 rw [hC, hZ, hE, hI] at HF
 rw [hZ] at HZ
 rw [hE] at HE
 rw [hC, hI]
 clear hc hC
 go_enter Tryz.func99, Tryz.ntmps99
 go_upto_region 1 with (first | refine Big.wpList_alloc_at rfl 71 rfl Z HZ.out (w.heap.size + 2) (by simp) ?_ | refine Big.wpList_alloc_at rfl 78 rfl E HE.out (w.heap.size + 3) (by simp) ?_)
 try simp only [Act.put, rpA, rpB, rpC]
 refine wp_fn w c I HF.out ?_
 intro w1 h1
 have H1 := wall h1
 clear h1 HF
 have ka : w1.cell? ⟨w.heap.size + 1, 2, none⟩ = some (.int .u8 (i.a : Int)) := by rw [H1.out.i.cell, ← hI]; rfl
 have kb : w1.cell? ⟨w.heap.size + 1, 3, none⟩ = some (.int .u8 (i.b : Int)) := by rw [H1.out.i.cell, ← hI]; rfl
 have ha32 : i.a < 32 := HID.out.a
 have hb32 : i.b < 32 := HID.out.b
 have kxa := H1.out.cell HC.out (show i.a < 41 by omega)
 have kxb := H1.out.cell HC.out (show i.b < 41 by omega)
 have hl1 : w.heap.size + 1 < w1.heap.size := H1.out.i.lt
 have hl0 : w.heap.size < w1.heap.size := by omega
 clear hop
 go_wp2_with fail
 refine RelG.wp_region_rel 12 [] (by kernel_rfl) (by kernel_rfl) ?_
 simp only [List.take_succ_cons, List.take_zero, List.drop_succ_cons, List.drop_zero, Act.put, rpA, rpB, rpC]
 repeat (first | (refine RelG.tree_quiet rfl rfl rfl (fun K hK => ?_); go_big_quiet_op; refine hK _ ?_; clear hK K) | ((first | refine RelG.tree_pure rfl rfl rfl (.int .u8 (i.a : Int)) (fun W hW _ => Rel.exec_load1 _ _ rfl (w.heap.size + 1) (2) rfl _ (fun _ => by kernel_rfl) ((hW.undrew.cell (p := ⟨w.heap.size + 1, 2, none⟩) hl1).trans ka)) ?_ | refine RelG.tree_pure rfl rfl rfl (.int .u32 ((c.g i.a : Nat) : Int)) (fun W hW _ => Rel.exec_load1 _ _ rfl (w.heap.size) (i.a) rfl _ (fun _ => by kernel_rfl) ((hW.undrew.cell (p := ⟨w.heap.size, i.a, none⟩) hl0).trans kxa)) ?_ | refine RelG.tree_pure rfl rfl rfl (.int .u8 (i.b : Int)) (fun W hW _ => Rel.exec_load1 _ _ rfl (w.heap.size + 1) (3) rfl _ (fun _ => by kernel_rfl) ((hW.undrew.cell (p := ⟨w.heap.size + 1, 3, none⟩) hl1).trans kb)) ?_ | refine RelG.tree_pure rfl rfl rfl (.int .u32 ((c.g i.b : Nat) : Int)) (fun W hW _ => Rel.exec_load1 _ _ rfl (w.heap.size) (i.b) rfl _ (fun _ => by kernel_rfl) ((hW.undrew.cell (p := ⟨w.heap.size, i.b, none⟩) hl0).trans kxb)) ?_); simp only [Act.put, rpA, rpB, rpC]))
 intro W hW _
 have HW := wall (H1.out.next hW.undrew)
 have kop : W.cell? ⟨w.heap.size + 1, 0, none⟩ = some (.int .u8 (i.op : Int)) := by rw [HW.out.i.cell, ← hI]; rfl
 clear hW ka kb kxa kxb H1 hl0 hl1 ha32 hb32
 obtain ⟨xa, hxa⟩ : ∃ y, c.g i.a = y := ⟨_, rfl⟩
 obtain ⟨xb, hxb⟩ : ∃ y, c.g i.b = y := ⟨_, rfl⟩
 rw [hxa, hxb]
 have HXA := wall hxa
 have HXB := wall hxb
 have hop := HOP.out.2
 have hop57 := HOP.out.1
 clear hxa hxb
 have n1 : ((i.op : Int) == 1) = false := by rw [beq_eq_false_iff_ne]; omega
 have n2 : ((i.op : Int) == 2) = false := by rw [beq_eq_false_iff_ne]; omega
 have n3 : ((i.op : Int) == 3) = false := by rw [beq_eq_false_iff_ne]; omega
 have n4 : ((i.op : Int) == 4) = false := by rw [beq_eq_false_iff_ne]; omega
 have g5 : decide ((5 : Int) ≤ (i.op : Int)) = true := by simp; omega
 have g11 : decide ((11 : Int) ≤ (i.op : Int)) = true := by simp; omega
 have l10 : decide ((i.op : Int) ≤ 10) = false := by simp; omega
 have l15 : decide ((i.op : Int) ≤ 15) = true := by simp; omega
 clear hop hop57
 have HSI := wall (show (Tryz.prog.info? 71).map (·.size) = some (crC c).size ∧ (Tryz.prog.info? 54).map (·.size) = some I.size from ⟨(res_row HC.out).1, by rw [← HI.out]; exact in_info⟩)
 have HCB := wall (show Blk W w.heap.size 71 (crC c) from HW.out.c)
 have HIB := wall (show Blk W (w.heap.size + 1) 54 I from HW.out.i)
 obtain ⟨D, hD⟩ : ∃ z, crC c = z := ⟨_, rfl⟩
 have HDD := wall hD
 rw [hD] at HSI HCB
 have HJE := wall (show J.1 = (loadR u F vs ls c i).1 ∧ J.2 = (loadR u F vs ls c i).2 by rw [HJ.out]; exact ⟨rfl, rfl⟩)
 have HNX := wall (fun W (hb : Below w.heap.size w W) => cload_any c HC.out i g f pf cc p b u F vs ls sd W HID.out HOP.out.2.1 (by have := HOP.out.2.2; omega) (HSW.out.old hb) (HS.out.old hb) HST.out)
 unfold StepOut at HNX
 rw [HDD.out, HI.out] at HNX
 have HOK1 := wall (show ((loadR u F vs ls c i).1).Ok from loadR_ok HC.out HSW.out.ok HSW.out.fn HSW.out.fb)
 have HRW := wall (res_row HOK1.out)
 have HEW := wall (evo_row ((loadR u F vs ls c i).2) i)
 rw [HZE.out.1] at HRW
 rw [HZE.out.2] at HEW
 obtain ⟨D2, hD2⟩ : ∃ q9, crC ((loadR u F vs ls c i).1) = q9 := ⟨_, rfl⟩
 obtain ⟨V, hV⟩ : ∃ q9, evO ((loadR u F vs ls c i).2) i = q9 := ⟨_, rfl⟩
 have HD2 := wall hD2
 have HVV := wall hV
 rw [hD2] at HNX HRW
 rw [hV] at HNX HEW
 clear hD2 hV
 go_wp2_with (first | refine wpList_load_row rfl 71 _ rfl w.heap.size rfl 71 D (0, 0) _ HCB.out Tryz.underlying71 rfl HSI.out.1 ?_ | refine wpList_load_row rfl 54 _ rfl (w.heap.size + 1) rfl 54 I (0, 0) _ HIB.out Tryz.underlying54 rfl HSI.out.2 ?_)
 clear n1 n2 n3 n4 g5 g11 l10 l15
 (with_reducible refine (HNX.out _ HW.out.bel).mono ?_); rintro e w8 ⟨rfl, hB8⟩
 have H8 := wall (HW.out.next hB8)
 have H8o := wall (show Blk w8 (w.heap.size + 2) 71 Z by rw [← hZ]; exact H8.out.o)
 have H8e := wall (show Blk w8 (w.heap.size + 3) 78 E by rw [← hE]; exact H8.out.e)
 have H8b := wall H8.out.bel
 clear hB8 H8 HNX
 try simp only [Act.put, rpA, rpB, rpC]
 go_wp2_with (first | (refine wpList_set_row rfl 71 (.tmp 8) (.tmp 127) rfl (w.heap.size + 2) D2 rfl rfl 71 Z H8o.out HRW.out.1 HRW.out.2.1 HRW.out.2.2 ?_; intro w9 K9 F9; have H9e := wall (H8e.out.frm F9.out (by simp)); have H9b := wall (Below.frm H8b.out F9.out (Nat.le_refl _) (by simp))) | (refine wpList_set_row rfl 78 (.tmp 9) (.tmp 128) rfl (w.heap.size + 3) V rfl rfl 78 E H9e.out HEW.out.1 HEW.out.2.1 HEW.out.2.2 ?_; intro w10 K10 F10))
 have K10o := wall (K9.out.frm F10.out (by simp))
 have HB10 := wall (Below.frm H9b.out F10.out (Nat.le_refl _) (by simp))
 go_light
 exact bodyPost_ret (v := .tuple #[.agg D2, .agg V]) (results_two Tryz.results99 _ _ (w.heap.size + 2) (w.heap.size + 3) 71 78 D2 V _ _ rfl rfl K10o.out K10.out Tryz.underlying71 rfl HRW.out.1 Tryz.underlying78 rfl HEW.out.1) rfl ⟨by rw [HJE.out.1, HJE.out.2, HD2.out, HVV.out], HB10.out⟩
theorem do_csr (c : Cr) (hc : c.Ok) (i : In) (v : Nat) (w : World) (hid : InD i) (hop : 43 ≤ i.op ∧ i.op ≤ 48) (g : Nat) (hv : v < 4294967296) :
  Calls Tryz.prog 99 #[.agg (crC c), .pointer (some ⟨g, 0, none⟩), .agg (inC i), .int .u32 (v : Int)] w (StepOut (csrR c i v).1 (evO (csrR c i v).2 i) w) := by
 have HID := wall hid
 have HOP := wall (And.intro hid.op (hop))
 clear hid
 obtain ⟨J, hJ⟩ : ∃ J, csrR c i v = J := ⟨_, rfl⟩
 rw [hJ]
 have HJ := wall hJ.symm
 clear hJ
 have HV := wall hv
 clear hv
 have HC := wall hc
 have HZ := wall cr_zero
 have HE := wall ev_zero
 have HF := wall (Fn.new w c (inC i))
 obtain ⟨C, hC⟩ : ∃ y, crC c = y := ⟨_, rfl⟩
 obtain ⟨Z, hZ⟩ : ∃ y, crC crZ = y := ⟨_, rfl⟩
 obtain ⟨E, hE⟩ : ∃ y, evZ = y := ⟨_, rfl⟩
 obtain ⟨I, hI⟩ : ∃ y, inC i = y := ⟨_, rfl⟩
 have HI := wall hI
 have HZE := wall (And.intro hZ hE)
 rw [hC, hZ, hE, hI] at HF
 rw [hZ] at HZ
 rw [hE] at HE
 rw [hC, hI]
 clear hc hC
 go_enter Tryz.func99, Tryz.ntmps99
 go_upto_region 1 with (first | refine Big.wpList_alloc_at rfl 71 rfl Z HZ.out (w.heap.size + 2) (by simp) ?_ | refine Big.wpList_alloc_at rfl 78 rfl E HE.out (w.heap.size + 3) (by simp) ?_)
 try simp only [Act.put, rpA, rpB, rpC]
 refine wp_fn w c I HF.out ?_
 intro w1 h1
 have H1 := wall h1
 clear h1 HF
 have ka : w1.cell? ⟨w.heap.size + 1, 2, none⟩ = some (.int .u8 (i.a : Int)) := by rw [H1.out.i.cell, ← hI]; rfl
 have kb : w1.cell? ⟨w.heap.size + 1, 3, none⟩ = some (.int .u8 (i.b : Int)) := by rw [H1.out.i.cell, ← hI]; rfl
 have ha32 : i.a < 32 := HID.out.a
 have hb32 : i.b < 32 := HID.out.b
 have kxa := H1.out.cell HC.out (show i.a < 41 by omega)
 have kxb := H1.out.cell HC.out (show i.b < 41 by omega)
 have hl1 : w.heap.size + 1 < w1.heap.size := H1.out.i.lt
 have hl0 : w.heap.size < w1.heap.size := by omega
 clear hop
 go_wp2_with fail
 refine RelG.wp_region_rel 12 [] (by kernel_rfl) (by kernel_rfl) ?_
 simp only [List.take_succ_cons, List.take_zero, List.drop_succ_cons, List.drop_zero, Act.put, rpA, rpB, rpC]
 repeat (first | (refine RelG.tree_quiet rfl rfl rfl (fun K hK => ?_); go_big_quiet_op; refine hK _ ?_; clear hK K) | ((first | refine RelG.tree_pure rfl rfl rfl (.int .u8 (i.a : Int)) (fun W hW _ => Rel.exec_load1 _ _ rfl (w.heap.size + 1) (2) rfl _ (fun _ => by kernel_rfl) ((hW.undrew.cell (p := ⟨w.heap.size + 1, 2, none⟩) hl1).trans ka)) ?_ | refine RelG.tree_pure rfl rfl rfl (.int .u32 ((c.g i.a : Nat) : Int)) (fun W hW _ => Rel.exec_load1 _ _ rfl (w.heap.size) (i.a) rfl _ (fun _ => by kernel_rfl) ((hW.undrew.cell (p := ⟨w.heap.size, i.a, none⟩) hl0).trans kxa)) ?_ | refine RelG.tree_pure rfl rfl rfl (.int .u8 (i.b : Int)) (fun W hW _ => Rel.exec_load1 _ _ rfl (w.heap.size + 1) (3) rfl _ (fun _ => by kernel_rfl) ((hW.undrew.cell (p := ⟨w.heap.size + 1, 3, none⟩) hl1).trans kb)) ?_ | refine RelG.tree_pure rfl rfl rfl (.int .u32 ((c.g i.b : Nat) : Int)) (fun W hW _ => Rel.exec_load1 _ _ rfl (w.heap.size) (i.b) rfl _ (fun _ => by kernel_rfl) ((hW.undrew.cell (p := ⟨w.heap.size, i.b, none⟩) hl0).trans kxb)) ?_); simp only [Act.put, rpA, rpB, rpC]))
 intro W hW _
 have HW := wall (H1.out.next hW.undrew)
 have kop : W.cell? ⟨w.heap.size + 1, 0, none⟩ = some (.int .u8 (i.op : Int)) := by rw [HW.out.i.cell, ← hI]; rfl
 clear hW ka kb kxa kxb H1 hl0 hl1 ha32 hb32
 obtain ⟨xa, hxa⟩ : ∃ y, c.g i.a = y := ⟨_, rfl⟩
 obtain ⟨xb, hxb⟩ : ∃ y, c.g i.b = y := ⟨_, rfl⟩
 rw [hxa, hxb]
 have HXA := wall hxa
 have HXB := wall hxb
 have hop := HOP.out.2
 have hop57 := HOP.out.1
 clear hxa hxb
 have n1 : ((i.op : Int) == 1) = false := by rw [beq_eq_false_iff_ne]; omega
 have n2 : ((i.op : Int) == 2) = false := by rw [beq_eq_false_iff_ne]; omega
 have n3 : ((i.op : Int) == 3) = false := by rw [beq_eq_false_iff_ne]; omega
 have n4 : ((i.op : Int) == 4) = false := by rw [beq_eq_false_iff_ne]; omega
 have n39 : ((i.op : Int) == 39) = false := by rw [beq_eq_false_iff_ne]; omega
 have n40 : ((i.op : Int) == 40) = false := by rw [beq_eq_false_iff_ne]; omega
 have n41 : ((i.op : Int) == 41) = false := by rw [beq_eq_false_iff_ne]; omega
 have g5 : decide ((5 : Int) ≤ (i.op : Int)) = true := by simp; omega
 have g11 : decide ((11 : Int) ≤ (i.op : Int)) = true := by simp; omega
 have g16 : decide ((16 : Int) ≤ (i.op : Int)) = true := by simp; omega
 have g43 : decide ((43 : Int) ≤ (i.op : Int)) = true := by simp; omega
 have l10 : decide ((i.op : Int) ≤ 10) = false := by simp; omega
 have l15 : decide ((i.op : Int) ≤ 15) = false := by simp; omega
 have l18 : decide ((i.op : Int) ≤ 18) = false := by simp; omega
 have l48 : decide ((i.op : Int) ≤ 48) = true := by simp; omega
 clear hop hop57
 have HSI := wall (show (Tryz.prog.info? 71).map (·.size) = some (crC c).size ∧ (Tryz.prog.info? 54).map (·.size) = some I.size from ⟨(res_row HC.out).1, by rw [← HI.out]; exact in_info⟩)
 have HCB := wall (show Blk W w.heap.size 71 (crC c) from HW.out.c)
 have HIB := wall (show Blk W (w.heap.size + 1) 54 I from HW.out.i)
 obtain ⟨D, hD⟩ : ∃ z, crC c = z := ⟨_, rfl⟩
 have HDD := wall hD
 rw [hD] at HSI HCB
 have HJE := wall (show J.1 = (csrR c i v).1 ∧ J.2 = (csrR c i v).2 by rw [HJ.out]; exact ⟨rfl, rfl⟩)
 have HNX := wall (fun W => csr_any c HC.out i v W HID.out HOP.out.2.1 HOP.out.2.2 HV.out)
 unfold StepOut at HNX
 rw [HDD.out, HI.out] at HNX
 have HOK1 := wall (show ((csrR c i v).1).Ok from csrR_ok HC.out HID.out HV.out)
 have HRW := wall (res_row HOK1.out)
 have HEW := wall (evo_row ((csrR c i v).2) i)
 rw [HZE.out.1] at HRW
 rw [HZE.out.2] at HEW
 obtain ⟨D2, hD2⟩ : ∃ q9, crC ((csrR c i v).1) = q9 := ⟨_, rfl⟩
 obtain ⟨V, hV⟩ : ∃ q9, evO ((csrR c i v).2) i = q9 := ⟨_, rfl⟩
 have HD2 := wall hD2
 have HVV := wall hV
 rw [hD2] at HNX HRW
 rw [hV] at HNX HEW
 clear hD2 hV
 go_wp2_with (first | refine wpList_load_row rfl 71 _ rfl w.heap.size rfl 71 D (0, 0) _ HCB.out Tryz.underlying71 rfl HSI.out.1 ?_ | refine wpList_load_row rfl 54 _ rfl (w.heap.size + 1) rfl 54 I (0, 0) _ HIB.out Tryz.underlying54 rfl HSI.out.2 ?_)
 clear n1 n2 n3 n4 n39 n40 n41 g5 g11 g16 g43 l10 l15 l18 l48
 (with_reducible refine (HNX.out _).mono ?_); rintro e w8 ⟨rfl, hB8⟩
 have H8 := wall (HW.out.next hB8)
 have H8o := wall (show Blk w8 (w.heap.size + 2) 71 Z by rw [← hZ]; exact H8.out.o)
 have H8e := wall (show Blk w8 (w.heap.size + 3) 78 E by rw [← hE]; exact H8.out.e)
 have H8b := wall H8.out.bel
 clear hB8 H8 HNX
 try simp only [Act.put, rpA, rpB, rpC]
 go_wp2_with (first | (refine wpList_set_row rfl 71 (.tmp 8) (.tmp 184) rfl (w.heap.size + 2) D2 rfl rfl 71 Z H8o.out HRW.out.1 HRW.out.2.1 HRW.out.2.2 ?_; intro w9 K9 F9; have H9e := wall (H8e.out.frm F9.out (by simp)); have H9b := wall (Below.frm H8b.out F9.out (Nat.le_refl _) (by simp))) | (refine wpList_set_row rfl 78 (.tmp 9) (.tmp 185) rfl (w.heap.size + 3) V rfl rfl 78 E H9e.out HEW.out.1 HEW.out.2.1 HEW.out.2.2 ?_; intro w10 K10 F10))
 have K10o := wall (K9.out.frm F10.out (by simp))
 have HB10 := wall (Below.frm H9b.out F10.out (Nat.le_refl _) (by simp))
 go_light
 exact bodyPost_ret (v := .tuple #[.agg D2, .agg V]) (results_two Tryz.results99 _ _ (w.heap.size + 2) (w.heap.size + 3) 71 78 D2 V _ _ rfl rfl K10o.out K10.out Tryz.underlying71 rfl HRW.out.1 Tryz.underlying78 rfl HEW.out.1) rfl ⟨by rw [HJE.out.1, HJE.out.2, HD2.out, HVV.out], HB10.out⟩
theorem evw_row (t : Option Nat) (i : In) (a : Nat) (A : Option Addr) (n cap : Nat) : (Tryz.prog.info? 78).map (·.size) = some (evW t i a A n cap).size ∧ evZ.size = (evW t i a A n cap).size ∧ (evW t i a A n cap).all (·.oneCell') = true := by
 cases t with
 | none => exact ⟨ev_info, rfl, evC_one _ _ _ _ _ _ _⟩
 | some k => exact ⟨ev_info, rfl, evC_one _ _ _ _ _ _ _⟩
theorem do_store (c : Cr) (hc : c.Ok) (i : In) (v : Nat) (w : World) (hid : InD i) (hop : 16 ≤ i.op ∧ i.op ≤ 18) (g f pf cc p b : Nat) (u : SpV) (F vs : List Nat) (ls : List Bool) (sd : Bool) (hsw : Sw w g f pf cc p b u F vs ls sd) (hS : Spans w) (hst : u.st = 1 ∨ u.st = 2) :
  Calls Tryz.prog 99 #[.agg (crC c), .pointer (some ⟨g, 0, none⟩), .agg (inC i), .int .u32 (v : Int)] w (DoOut g i (storeR u c i) w) := by
 have HID := wall hid
 have HOP := wall (And.intro hid.op (hop))
 clear hid
 obtain ⟨J, hJ⟩ : ∃ J, storeR u c i = J := ⟨_, rfl⟩
 rw [hJ]
 have HJ := wall hJ.symm
 clear hJ
 have HSW := wall hsw
 have HS := wall hS
 clear hsw hS
 have HST := wall hst
 clear hst
 have HC := wall hc
 have HZ := wall cr_zero
 have HE := wall ev_zero
 have HF := wall (Fn.new w c (inC i))
 obtain ⟨C, hC⟩ : ∃ y, crC c = y := ⟨_, rfl⟩
 obtain ⟨Z, hZ⟩ : ∃ y, crC crZ = y := ⟨_, rfl⟩
 obtain ⟨E, hE⟩ : ∃ y, evZ = y := ⟨_, rfl⟩
 obtain ⟨I, hI⟩ : ∃ y, inC i = y := ⟨_, rfl⟩
 have HI := wall hI
 have HZE := wall (And.intro hZ hE)
 rw [hC, hZ, hE, hI] at HF
 rw [hZ] at HZ
 rw [hE] at HE
 rw [hC, hI]
 clear hc hC
 go_enter Tryz.func99, Tryz.ntmps99
 go_upto_region 1 with (first | refine Big.wpList_alloc_at rfl 71 rfl Z HZ.out (w.heap.size + 2) (by simp) ?_ | refine Big.wpList_alloc_at rfl 78 rfl E HE.out (w.heap.size + 3) (by simp) ?_)
 try simp only [Act.put, rpA, rpB, rpC]
 refine wp_fn w c I HF.out ?_
 intro w1 h1
 have H1 := wall h1
 clear h1 HF
 have ka : w1.cell? ⟨w.heap.size + 1, 2, none⟩ = some (.int .u8 (i.a : Int)) := by rw [H1.out.i.cell, ← hI]; rfl
 have kb : w1.cell? ⟨w.heap.size + 1, 3, none⟩ = some (.int .u8 (i.b : Int)) := by rw [H1.out.i.cell, ← hI]; rfl
 have ha32 : i.a < 32 := HID.out.a
 have hb32 : i.b < 32 := HID.out.b
 have kxa := H1.out.cell HC.out (show i.a < 41 by omega)
 have kxb := H1.out.cell HC.out (show i.b < 41 by omega)
 have hl1 : w.heap.size + 1 < w1.heap.size := H1.out.i.lt
 have hl0 : w.heap.size < w1.heap.size := by omega
 clear hop
 go_wp2_with fail
 refine RelG.wp_region_rel 12 [] (by kernel_rfl) (by kernel_rfl) ?_
 simp only [List.take_succ_cons, List.take_zero, List.drop_succ_cons, List.drop_zero, Act.put, rpA, rpB, rpC]
 repeat (first | (refine RelG.tree_quiet rfl rfl rfl (fun K hK => ?_); go_big_quiet_op; refine hK _ ?_; clear hK K) | ((first | refine RelG.tree_pure rfl rfl rfl (.int .u8 (i.a : Int)) (fun W hW _ => Rel.exec_load1 _ _ rfl (w.heap.size + 1) (2) rfl _ (fun _ => by kernel_rfl) ((hW.undrew.cell (p := ⟨w.heap.size + 1, 2, none⟩) hl1).trans ka)) ?_ | refine RelG.tree_pure rfl rfl rfl (.int .u32 ((c.g i.a : Nat) : Int)) (fun W hW _ => Rel.exec_load1 _ _ rfl (w.heap.size) (i.a) rfl _ (fun _ => by kernel_rfl) ((hW.undrew.cell (p := ⟨w.heap.size, i.a, none⟩) hl0).trans kxa)) ?_ | refine RelG.tree_pure rfl rfl rfl (.int .u8 (i.b : Int)) (fun W hW _ => Rel.exec_load1 _ _ rfl (w.heap.size + 1) (3) rfl _ (fun _ => by kernel_rfl) ((hW.undrew.cell (p := ⟨w.heap.size + 1, 3, none⟩) hl1).trans kb)) ?_ | refine RelG.tree_pure rfl rfl rfl (.int .u32 ((c.g i.b : Nat) : Int)) (fun W hW _ => Rel.exec_load1 _ _ rfl (w.heap.size) (i.b) rfl _ (fun _ => by kernel_rfl) ((hW.undrew.cell (p := ⟨w.heap.size, i.b, none⟩) hl0).trans kxb)) ?_); simp only [Act.put, rpA, rpB, rpC]))
 intro W hW _
 have HW := wall (H1.out.next hW.undrew)
 have kop : W.cell? ⟨w.heap.size + 1, 0, none⟩ = some (.int .u8 (i.op : Int)) := by rw [HW.out.i.cell, ← hI]; rfl
 clear hW ka kb kxa kxb H1 hl0 hl1 ha32 hb32
 obtain ⟨xa, hxa⟩ : ∃ y, c.g i.a = y := ⟨_, rfl⟩
 obtain ⟨xb, hxb⟩ : ∃ y, c.g i.b = y := ⟨_, rfl⟩
 rw [hxa, hxb]
 have HXA := wall hxa
 have HXB := wall hxb
 have hop := HOP.out.2
 have hop57 := HOP.out.1
 clear hxa hxb
 have n1 : ((i.op : Int) == 1) = false := by rw [beq_eq_false_iff_ne]; omega
 have n2 : ((i.op : Int) == 2) = false := by rw [beq_eq_false_iff_ne]; omega
 have n3 : ((i.op : Int) == 3) = false := by rw [beq_eq_false_iff_ne]; omega
 have n4 : ((i.op : Int) == 4) = false := by rw [beq_eq_false_iff_ne]; omega
 have g5 : decide ((5 : Int) ≤ (i.op : Int)) = true := by simp; omega
 have g11 : decide ((11 : Int) ≤ (i.op : Int)) = true := by simp; omega
 have g16 : decide ((16 : Int) ≤ (i.op : Int)) = true := by simp; omega
 have l10 : decide ((i.op : Int) ≤ 10) = false := by simp; omega
 have l15 : decide ((i.op : Int) ≤ 15) = false := by simp; omega
 have l18 : decide ((i.op : Int) ≤ 18) = true := by simp; omega
 clear hop hop57
 have HSI := wall (show (Tryz.prog.info? 71).map (·.size) = some (crC c).size ∧ (Tryz.prog.info? 54).map (·.size) = some I.size from ⟨(res_row HC.out).1, by rw [← HI.out]; exact in_info⟩)
 have HCB := wall (show Blk W w.heap.size 71 (crC c) from HW.out.c)
 have HIB := wall (show Blk W (w.heap.size + 1) 54 I from HW.out.i)
 obtain ⟨D, hD⟩ : ∃ z, crC c = z := ⟨_, rfl⟩
 have HDD := wall hD
 rw [hD] at HSI HCB
 have HGL := wall (show g < w.heap.size from Blk.lt HSW.out.sp)
 have HNX := wall (fun W (hb : Below w.heap.size w W) => cstore_any c HC.out i g f pf cc p b u F vs ls sd W HID.out (by have := HOP.out.2.1; omega) HOP.out.2.2 (HSW.out.old hb) (HS.out.old hb) HST.out)
 unfold DoOut at HNX
 rw [HDD.out, HI.out] at HNX
 have HOK := wall (storeR_ok (v := u) (i := i) HC.out)
 rw [← HJ.out] at HNX HOK
 have HRW := wall (res_row HOK.out)
 rw [HZE.out.1] at HRW
 obtain ⟨D2, hD2⟩ : ∃ q9, crC J.c = q9 := ⟨_, rfl⟩
 have HD2 := wall hD2
 rw [hD2] at HNX HRW
 clear hD2
 go_wp2_with (first | refine wpList_load_row rfl 71 _ rfl w.heap.size rfl 71 D (0, 0) _ HCB.out Tryz.underlying71 rfl HSI.out.1 ?_ | refine wpList_load_row rfl 54 _ rfl (w.heap.size + 1) rfl 54 I (0, 0) _ HIB.out Tryz.underlying54 rfl HSI.out.2 ?_)
 clear n1 n2 n3 n4 g5 g11 g16 l10 l15 l18 kop
 (with_reducible refine (HNX.out _ HW.out.bel).mono ?_); rintro e w8 ⟨A, n, cap, rfl, hSp, hF, hN⟩
 have HEW := wall (evw_row J.t i J.a A n cap)
 rw [HZE.out.2] at HEW
 obtain ⟨V, hV⟩ : ∃ q9, evW J.t i J.a A n cap = q9 := ⟨_, rfl⟩
 have HVV := wall hV
 rw [hV] at HEW ⊢
 have hgl := HGL.out
 have H8o := wall (show Blk w8 (w.heap.size + 2) 71 Z by rw [← hZ]; exact HW.out.o.frm hF (by simp; omega))
 have H8e := wall (show Blk w8 (w.heap.size + 3) 78 E by rw [← hE]; exact HW.out.e.frm hF (by simp; omega))
 have H8f := wall ((Frm.of_below (S := [g]) HW.out.bel).trans hF)
 have H8s := wall hSp
 have H8n := wall hN
 have H8w := wall (show w.heap.size + 3 < W.heap.size from HW.out.e.lt)
 clear hSp hF hN HNX hV HCB HIB HW
 try simp only [Act.put, rpA, rpB, rpC]
 go_wp2_with (first | (refine wpList_set_row rfl 71 (.tmp 8) (.tmp 142) rfl (w.heap.size + 2) D2 rfl rfl 71 Z H8o.out HRW.out.1 HRW.out.2.1 HRW.out.2.2 ?_; intro w9 K9 F9; have H9e := wall (H8e.out.frm F9.out (by simp))) | (refine wpList_set_row rfl 78 (.tmp 9) (.tmp 143) rfl (w.heap.size + 3) V rfl rfl 78 E H9e.out HEW.out.1 HEW.out.2.1 HEW.out.2.2 ?_; intro w10 K10 F10))
 have K10o := wall (K9.out.frm F10.out (by simp))
 have HS10 := wall (show Sp w10 g J.v from Blk.frm (Blk.frm H8s.out F9.out (by simp; omega)) F10.out (by simp; omega))
 have HF10 := wall ((H8f.out.trans' F9.out (by simp; omega)).trans' F10.out (by simp; omega))
 have HN10 := wall (show J.t = none → n = J.p.length ∧ Nats .u8 256 w10 w10.heap.size A J.p ∧ (∀ ad : Addr, A = some ad → w.heap.size ≤ ad.block) ∧ (J.p = [] → A = none ∧ cap = 0) from fun ht => by
  obtain ⟨q1, q2, q3, q4⟩ := H8n.out ht
  refine ⟨q1, fun j x hx => ?_, fun ad ha => by have := q3 ad ha; have := H8w.out; omega, q4⟩
  obtain ⟨r1, gb, ob, r2, r3, r4⟩ := q2 j x hx
  have r5 := q3 _ r2
  simp only at r5
  have h8 := H8w.out
  refine ⟨r1, gb, ob, r2, Nat.lt_of_lt_of_le r3 (Nat.le_trans F9.out.size F10.out.size), ?_⟩
  rw [← r4]
  exact (World.cell?_of_block (F10.out.block _ (Nat.lt_of_lt_of_le r3 F9.out.size) (by simp; omega))).trans (World.cell?_of_block (F9.out.block _ r3 (by simp; omega))))
 clear hgl
 go_light
 exact bodyPost_ret (v := .tuple #[.agg D2, .agg V]) (results_two Tryz.results99 _ _ (w.heap.size + 2) (w.heap.size + 3) 71 78 D2 V _ _ rfl rfl K10o.out K10.out Tryz.underlying71 rfl HRW.out.1 Tryz.underlying78 rfl HEW.out.1) rfl ⟨A, n, cap, by rw [HD2.out, HVV.out], HS10.out, HF10.out, HN10.out⟩
def doP (v : SpV) (F vs : List Nat) (ls : List Bool) (c : Cr) (i : In) (w : Nat) : Cr × Option Nat :=
 if i.op = 1 then (nextC (withC c i.rd i.imm), none)
 else if i.op = 2 then (nextC (withC c i.rd ((c.g 32 + i.imm) % 4294967296)), none)
 else if i.op = 3 then jumpR c i.rd ((c.g 32 + i.imm) % 4294967296)
 else if i.op = 4 then jumpR c i.rd ((c.g i.a + i.imm) % 4294967296 - (c.g i.a + i.imm) % 4294967296 % 2)
 else if i.op ≤ 10 then branchR c i
 else if i.op ≤ 15 then loadR v F vs ls c i
 else if i.op = 39 then trR c 11 0
 else if i.op = 40 then trR c 3 (c.g 32)
 else if i.op = 41 then (retC c, none)
 else if 43 ≤ i.op ∧ i.op ≤ 48 then csrR c i w
 else if i.op ≤ 27 then aluR c i i.imm
 else aluR c i (c.g i.b)
def pairR (v : SpV) (r : Cr × Option Nat) : Res := ⟨r.1, r.2, 0, [], v⟩
def doR (v : SpV) (F vs : List Nat) (ls : List Bool) (c : Cr) (i : In) (w : Nat) : Res := if 16 ≤ i.op ∧ i.op ≤ 18 then storeR v c i else pairR v (doP v F vs ls c i w)
theorem do_pair {g : Nat} {i : In} {v : SpV} {R : Cr × Option Nat} {w : World} (hg : Sp w g v) (e : Ending) (w' : World) (h : StepOut R.1 (evO R.2 i) w e w') : DoOut g i (pairR v R) w e w' :=
 ⟨none, 0, 0, by rw [h.1]; cases hr : R.2 <;> simp [pairR, evO, evW, hr], hg.old h.2, Frm.of_below h.2, fun _ => ⟨rfl, (fun j x hx => by simp [pairR] at hx), (fun _ h => nomatch h), fun _ => ⟨rfl, rfl⟩⟩⟩
theorem do_any (c : Cr) (hc : c.Ok) (i : In) (v : Nat) (w : World) (hid : InD i) (h0 : i.op ≠ 0) (g f pf cc p b : Nat) (u : SpV) (F vs : List Nat) (ls : List Bool) (sd : Bool) (hsw : Sw w g f pf cc p b u F vs ls sd) (hS : Spans w) (hst : u.st = 1 ∨ u.st = 2) (hv : v < 4294967296) :
  Calls Tryz.prog 99 #[.agg (crC c), .pointer (some ⟨g, 0, none⟩), .agg (inC i), .int .u32 (v : Int)] w (DoOut g i (doR u F vs ls c i v) w) := by
 have hw : (Lit.int .i64 u.st).wf = true := by rcases hst with h | h <;> rw [h] <;> decide
 unfold doR
 by_cases hs : 16 ≤ i.op ∧ i.op ≤ 18
 ·rw [if_pos hs]
  exact do_store c hc i v w hid hs g f pf cc p b u F vs ls sd hsw hS hst
 ·rw [if_neg hs]
  refine Calls.mono ?_ (do_pair (R := doP u F vs ls c i v) hsw.sp)
  have hop := hid.op
  unfold doP
  by_cases h1 : i.op = 1
  ·rw [if_pos h1]; exact do_lui c hc _ i v w hid h1
  rw [if_neg h1]
  by_cases h2 : i.op = 2
  ·rw [if_pos h2]; exact do_auipc c hc _ i v w hid h2
  rw [if_neg h2]
  by_cases h3 : i.op = 3
  ·rw [if_pos h3]; exact do_jal c hc _ i v w hid h3
  rw [if_neg h3]
  by_cases h4 : i.op = 4
  ·rw [if_pos h4]; exact do_jalr c hc _ i v w hid h4
  rw [if_neg h4]
  by_cases h10 : i.op ≤ 10
  ·rw [if_pos h10]; exact do_branch c hc _ i v w hid ⟨by omega, h10⟩
  rw [if_neg h10]
  by_cases h15 : i.op ≤ 15
  ·rw [if_pos h15]; exact do_load c hc i v w hid ⟨by omega, h15⟩ g f pf cc p b u F vs ls sd hsw hS hw
  rw [if_neg h15]
  by_cases h39 : i.op = 39
  ·rw [if_pos h39]; exact do_call c hc _ i v w hid h39
  rw [if_neg h39]
  by_cases h40 : i.op = 40
  ·rw [if_pos h40]; exact do_stop c hc _ i v w hid h40
  rw [if_neg h40]
  by_cases h41 : i.op = 41
  ·rw [if_pos h41]; exact do_back c hc _ i v w hid h41
  rw [if_neg h41]
  by_cases h43 : 43 ≤ i.op ∧ i.op ≤ 48
  ·rw [if_pos h43]; exact do_csr c hc i v w hid h43 g hv
  rw [if_neg h43]
  by_cases h27 : i.op ≤ 27
  ·rw [if_pos h27]; exact do_alui c hc _ i v w hid ⟨by omega, h27⟩
  rw [if_neg h27]
  by_cases h49 : 49 ≤ i.op
  ·exact do_alum c hc _ i v w hid h49
  ·exact do_alur c hc _ i v w hid ⟨by omega, h39, h40, h41, by omega⟩
end Core
end Go.Proofs.YtmiaabpnolebhaaGreatDoor
