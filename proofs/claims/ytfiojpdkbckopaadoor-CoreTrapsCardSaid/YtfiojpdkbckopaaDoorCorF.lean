/-
  rv.Alu of addi; a core does addi.
-/
import Derived.Test.YtfiojpdkbckopaaDoorCorE
import Derived.Deep.CutBlock
import Derived.Test.YtfiojpdkbckopaaDoorJ45a3a83e
import Derived.Test.YtfiojpdkbckopaaDoorJc6ca3112
set_option linter.unusedSimpArgs false
set_option linter.unusedVariables false
namespace Go.Proofs.YtfiojpdkbckopaaDoor
open Go.RowKit

namespace Core
open Otp Sha Rv Grant Spc
set_option maxRecDepth 100000 in
set_option maxHeartbeats 2000000 in
theorem base_addi (w : World) : Calls Tryd.prog 73 #[.int .u8 19] w fun e w' => e = .returned (.int .u8 28) ∧ w = w' := by
  go_enter Tryd.func73, Tryd.ntmps73
  go_wp2_with fail
  go_light
  go_ret
  exact ⟨rfl, rfl⟩
set_option maxRecDepth 100000 in
set_option maxHeartbeats 2000000 in
theorem alu_addi (a b : Nat) (w : World) : Calls Tryd.prog 56 #[.int .u8 19, .int .u32 (a : Int), .int .u32 (b : Int)] w fun e w' => e = .returned (.tuple #[.int .u32 (((a + b) % 4294967296 : Nat) : Int), .bool true]) ∧ w = w' := by
  go_enter Tryd.func56, Tryd.ntmps56
  go_wp2_with fail
  (with_reducible refine (base_addi _).mono ?_); rintro e w1 ⟨rfl, rfl⟩
  go_wp2_with fail
  go_light
  go_ret2
  exact ⟨by simp, rfl⟩
def addiI (rd a imm : Nat) : In := ⟨19, rd, a, 0, imm, 0⟩
/-- What addi leaves. -/
def addiC (c : Cr) (rd a imm : Nat) : Cr := nextC (withC c rd ((c.g a + imm) % 4294967296))
theorem Fn.next {w w1 w2 : World} {c : Cr} {I : Array Value} (h : Fn w w1 c I) (hb : Below w1.heap.size w1 w2) : Fn w w2 c I :=
  ⟨Blk.next h.c hb rfl, Blk.next h.i hb rfl, Blk.next h.o hb rfl, Blk.next h.e hb rfl, below_then h.bel hb (Nat.le_refl _)⟩
set_option maxRecDepth 100000 in
set_option maxHeartbeats 4000000 in
theorem do_addi (c : Cr) (hc : c.Ok) (s : Value) (rd a imm : Nat) (v : Int) (w : World) (hr : rd < 32) (ha : a < 32) (hi : imm < 4294967296) :
    Calls Tryd.prog 30 #[.agg (crC c), s, .agg (inC (addiI rd a imm)), .int .u32 v] w (StepOut (addiC c rd a imm) (evC false 0 (addiI rd a imm) 0 none 0 0) w) := by
  have HC := wall hc
  have HR := wall (And.intro hr (And.intro ha hi))
  have HZ := wall cr_zero
  have HE := wall ev_zero
  have HF := wall (Fn.new w c (inC (addiI rd a imm)))
  obtain ⟨C, hC⟩ : ∃ y, crC c = y := ⟨_, rfl⟩
  obtain ⟨Z, hZ⟩ : ∃ y, crC crZ = y := ⟨_, rfl⟩
  obtain ⟨E, hE⟩ : ∃ y, evZ = y := ⟨_, rfl⟩
  obtain ⟨I, hI⟩ : ∃ y, inC (addiI rd a imm) = y := ⟨_, rfl⟩
  rw [hC, hZ, hE, hI] at HF
  rw [hZ] at HZ
  rw [hE] at HE
  rw [hC, hI]
  clear hc hr ha hi hC
  go_enter Tryd.func30, Tryd.ntmps30
  go_upto_region 1 with (first | refine Big.wpList_alloc_at rfl 34 rfl Z HZ.out (w.heap.size + 2) (by simp) ?_ | refine Big.wpList_alloc_at rfl 44 rfl E HE.out (w.heap.size + 3) (by simp) ?_)
  try simp only [Act.put, List.setIfInBounds_toArray, List.set_cons_zero, List.set_cons_succ]
  refine wp_fn w c I HF.out ?_
  intro w1 h1
  have H1 := wall h1
  have kop : w1.cell? ⟨w.heap.size + 1, 0, none⟩ = some (.int .u8 19) := by rw [h1.i.cell, ← hI]; rfl
  have kr : w1.cell? ⟨w.heap.size + 1, 1, none⟩ = some (.int .u8 (rd : Int)) := by rw [h1.i.cell, ← hI]; rfl
  have ka : w1.cell? ⟨w.heap.size + 1, 2, none⟩ = some (.int .u8 (a : Int)) := by rw [h1.i.cell, ← hI]; rfl
  have kb : w1.cell? ⟨w.heap.size + 1, 3, none⟩ = some (.int .u8 0) := by rw [h1.i.cell, ← hI]; rfl
  have ki : w1.cell? ⟨w.heap.size + 1, 4, none⟩ = some (.int .u32 (imm : Int)) := by rw [h1.i.cell, ← hI]; rfl
  have kxa := h1.cell HC.out (show a < 41 by have := HR.out.2.1; omega)
  have kx0 := h1.cell HC.out (show 0 < 41 by decide)
  have ha32 : a < 32 := HR.out.2.1
  have hl1 : w.heap.size + 1 < w1.heap.size := h1.i.lt
  have hl0 : w.heap.size < w1.heap.size := by omega
  clear h1 HF
  go_wp2_with fail
  refine RelG.wp_region_rel 12 [] (by kernel_rfl) (by kernel_rfl) ?_
  simp only [List.take_succ_cons, List.take_zero, List.drop_succ_cons, List.drop_zero, Act.put, List.setIfInBounds_toArray, List.set_cons_zero, List.set_cons_succ]
  repeat (first | (refine RelG.tree_quiet rfl rfl rfl (fun K hK => ?_); go_big_quiet_op; refine hK _ ?_; clear hK K) | (refine RelG.tree_pure rfl rfl rfl (.int .u8 (a : Int)) (fun W hW _ => Rel.exec_load1 _ _ rfl (w.heap.size + 1) (2) rfl _ (fun _ => by kernel_rfl) ((hW.undrew.cell (p := ⟨w.heap.size + 1, 2, none⟩) hl1).trans ka)) ?_; simp only [Act.put, List.setIfInBounds_toArray, List.set_cons_zero, List.set_cons_succ]) | (refine RelG.tree_pure rfl rfl rfl (.int .u32 ((c.g a : Nat) : Int)) (fun W hW _ => Rel.exec_load1 _ _ rfl (w.heap.size) (a) rfl _ (fun _ => by kernel_rfl) ((hW.undrew.cell (p := ⟨w.heap.size, a, none⟩) hl0).trans kxa)) ?_; simp only [Act.put, List.setIfInBounds_toArray, List.set_cons_zero, List.set_cons_succ]) | (refine RelG.tree_pure rfl rfl rfl (.int .u8 0) (fun W hW _ => Rel.exec_load1 _ _ rfl (w.heap.size + 1) (3) rfl _ (fun _ => by kernel_rfl) ((hW.undrew.cell (p := ⟨w.heap.size + 1, 3, none⟩) hl1).trans kb)) ?_; simp only [Act.put, List.setIfInBounds_toArray, List.set_cons_zero, List.set_cons_succ]) | (refine RelG.tree_pure rfl rfl rfl (.int .u32 ((c.g 0 : Nat) : Int)) (fun W hW _ => Rel.exec_load1 _ _ rfl (w.heap.size) (0) rfl _ (fun _ => by kernel_rfl) ((hW.undrew.cell (p := ⟨w.heap.size, 0, none⟩) hl0).trans kx0)) ?_; simp only [Act.put, List.setIfInBounds_toArray, List.set_cons_zero, List.set_cons_succ]))
  intro W hW _
  have HW := wall (H1.out.next hW.undrew)
  have kop : W.cell? ⟨w.heap.size + 1, 0, none⟩ = some (.int .u8 19) := by rw [HW.out.i.cell, ← hI]; rfl
  have kr : W.cell? ⟨w.heap.size + 1, 1, none⟩ = some (.int .u8 (rd : Int)) := by rw [HW.out.i.cell, ← hI]; rfl
  have ki : W.cell? ⟨w.heap.size + 1, 4, none⟩ = some (.int .u32 (imm : Int)) := by rw [HW.out.i.cell, ← hI]; rfl
  clear hW ka kb kxa kx0 H1 hl0 hl1 ha32
  obtain ⟨xa, hxa⟩ : ∃ y, c.g a = y := ⟨_, rfl⟩
  obtain ⟨x0, hx0⟩ : ∃ y, c.g 0 = y := ⟨_, rfl⟩
  rw [hxa, hx0]
  have HXA := wall hxa
  clear hxa hx0
  have HAL := wall (fun W => alu_addi xa imm W)
  obtain ⟨y, hy⟩ : ∃ z, (xa + imm) % 4294967296 = z := ⟨_, rfl⟩
  rw [hy] at HAL
  have HYL := wall (show y < 4294967296 by omega)
  have HAC := wall (show addiC c rd a imm = nextC (withC c rd y) by unfold addiC; rw [HXA.out, hy])
  have HW1 := wall (fun W => with_any c HC.out (rd : Int) rd y W rfl HYL.out)
  obtain ⟨c', hc'⟩ : ∃ z, withC c rd y = z := ⟨_, rfl⟩
  have HCO := wall (show c'.Ok by rw [← hc']; exact HC.out.with rd y HYL.out)
  rw [hc'] at HAC HW1
  unfold CrOut at HW1
  have HNX := wall (fun W => next_any c' HCO.out (addiI rd a imm) W)
  unfold StepOut at HNX
  have HCN := wall HCO.out.next
  have HS6 := wall (show (Tryd.prog.info? 34).map (·.size) = some (crC c).size ∧ (Tryd.prog.info? 34).map (·.size) = some (crC c').size ∧ (crC c).size = (crC c').size ∧ (crC c').all (·.oneCell') = true from
    ⟨by rw [crC_size HC.out]; exact cr_info, by rw [crC_size HCO.out]; exact cr_info, by rw [crC_size HC.out, crC_size HCO.out], crC_one _⟩)
  have HS7 := wall (show (Tryd.prog.info? 34).map (·.size) = some (crC (nextC c')).size ∧ Z.size = (crC (nextC c')).size ∧ (crC (nextC c')).all (·.oneCell') = true from
    ⟨by rw [crC_size HCN.out]; exact cr_info, by rw [← hZ, crC_size HCN.out, crC_size crZ_ok], crC_one _⟩)
  have HEI := wall (show (Tryd.prog.info? 44).map (·.size) = some (evC false 0 (addiI rd a imm) 0 none 0 0).size ∧ E.size = (evC false 0 (addiI rd a imm) 0 none 0 0).size ∧ (evC false 0 (addiI rd a imm) 0 none 0 0).all (·.oneCell') = true from ⟨ev_info, by rw [← hE]; rfl, evC_one _ _ _ _ _ _ _⟩)
  have HIZ := wall (show (Tryd.prog.info? 42).map (·.size) = some I.size by rw [← hI]; exact in_info)
  rw [hI] at HNX
  obtain ⟨D, hD⟩ : ∃ z, crC c = z := ⟨_, rfl⟩
  obtain ⟨D', hD'⟩ : ∃ z, crC c' = z := ⟨_, rfl⟩
  obtain ⟨D2, hD2⟩ : ∃ z, crC (nextC c') = z := ⟨_, rfl⟩
  obtain ⟨V, hV⟩ : ∃ z, evC false 0 (addiI rd a imm) 0 none 0 0 = z := ⟨_, rfl⟩
  have HD2 := wall hD2
  have HVV := wall hV
  rw [hD] at HS6 HW1
  rw [hD'] at HS6 HW1 HNX
  rw [hD2] at HNX HS7
  rw [hV] at HNX HEI
  have HWB := wall (show Blk W w.heap.size 34 D by rw [← hD]; exact HW.out.c)
  have hrd : (rd : Int) < 32 := by have := HR.out.1; omega
  clear hy hc' hD2 hV
  go_wp2_with fail
  (with_reducible refine (HAL.out _).mono ?_); rintro e w2 ⟨rfl, rfl⟩
  clear HAL
  try simp only [Act.put, List.setIfInBounds_toArray, List.set_cons_zero, List.set_cons_succ]
  go_wp2_with (refine wpList_load_row rfl 34 _ rfl w.heap.size rfl 34 D (0, 0) _ HWB.out Tryd.underlying34 rfl HS6.out.1 ?_)
  (with_reducible refine (HW1.out _).mono ?_); rintro e w3 ⟨rfl, hB3⟩
  have H3 := wall (HW.out.next hB3)
  have H3c := wall (show Blk w3 w.heap.size 34 D by rw [← hD]; exact H3.out.c)
  clear hB3 HW HWB HW1 kop kr ki
  try simp only [Act.put, List.setIfInBounds_toArray, List.set_cons_zero, List.set_cons_succ]
  go_upto_region 31 with (refine wpList_set_row rfl 34 (.tmp 4) (.tmp 211) rfl w.heap.size D' rfl rfl 34 D H3c.out HS6.out.2.1 HS6.out.2.2.1 HS6.out.2.2.2 ?_; intro w4 K4 F4)
  have H4 := wall (show Fn w w4 c' I from ⟨by show Blk _ _ _ (crC c'); rw [hD']; exact K4.out, H3.out.i.frm F4.out (by simp), H3.out.o.frm F4.out (by simp), H3.out.e.frm F4.out (by simp), Below.frm H3.out.bel F4.out (Nat.le_refl _) (by simp)⟩)
  have H4c := wall (show Blk w4 w.heap.size 34 D' from K4.out)
  have H4i := wall H4.out.i
  clear K4 F4 H3 H3c
  go_wp2_with (first | refine wpList_load_row rfl 34 _ rfl w.heap.size rfl 34 D' (0, 0) _ H4c.out Tryd.underlying34 rfl HS6.out.2.1 ?_ | refine wpList_load_row rfl 42 _ rfl (w.heap.size + 1) rfl 42 I (0, 0) _ H4i.out Tryd.underlying42 rfl HIZ.out ?_)
  (with_reducible refine (HNX.out _).mono ?_); rintro e w5 ⟨rfl, hB5⟩
  have H5 := wall (H4.out.next hB5)
  have H5o := wall (show Blk w5 (w.heap.size + 2) 34 Z by rw [← hZ]; exact H5.out.o)
  have H5e := wall (show Blk w5 (w.heap.size + 3) 44 E by rw [← hE]; exact H5.out.e)
  have H5b := wall H5.out.bel
  clear hB5 H4 H4c H4i HNX H5
  try simp only [Act.put, List.setIfInBounds_toArray, List.set_cons_zero, List.set_cons_succ]
  go_wp2_with (first | (refine wpList_set_row rfl 34 (.tmp 8) (.tmp 215) rfl (w.heap.size + 2) D2 rfl rfl 34 Z H5o.out HS7.out.1 HS7.out.2.1 HS7.out.2.2 ?_; intro w6 K6 F6; have H6e := wall (H5e.out.frm F6.out (by simp)); have H6b := wall (Below.frm H5b.out F6.out (Nat.le_refl _) (by simp))) | (refine wpList_set_row rfl 44 (.tmp 9) (.tmp 216) rfl (w.heap.size + 3) V rfl rfl 44 E H6e.out HEI.out.1 HEI.out.2.1 HEI.out.2.2 ?_; intro w7 K7 F7))
  have K7o := wall (K6.out.frm F7.out (by simp))
  have HB7 := wall (Below.frm H6b.out F7.out (Nat.le_refl _) (by simp))
  go_light
  exact bodyPost_ret (v := .tuple #[.agg D2, .agg V]) (results_two Tryd.results30 _ _ (w.heap.size + 2) (w.heap.size + 3) 34 44 D2 V _ _ rfl rfl K7o.out K7.out Tryd.underlying34 rfl HS7.out.1 Tryd.underlying44 rfl HEI.out.1) rfl ⟨by rw [HAC.out, HD2.out, HVV.out], HB7.out⟩
end Core
end Go.Proofs.YtfiojpdkbckopaaDoor
