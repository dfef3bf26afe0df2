/-
  Texts of this claim, joined: CorE, CorF, CorM.
-/
import Derived.Test.YtmiaabpnolebhaaGreatDoorJ4afcd9a5
import Derived.Test.YtmiaabpnolebhaaGreatDoorJafadc0c9
import Derived.Test.YtmiaabpnolebhaaGreatDoorJd7a428f7
set_option maxHeartbeats 4000000
set_option maxRecDepth 100000
set_option linter.unusedSimpArgs false
set_option linter.unusedVariables false
namespace Go.Proofs.YtmiaabpnolebhaaGreatDoor
open Go.RowKit

namespace Core
open Otp Sha Rv Grant Spc
theorem Cb.time {w : World} {b : Nat} {c : Cr} (h : Cb w b c) (ho : c.Ok) (t : Bool) : Cb (w.setCell ⟨b, 41, none⟩ (.bool t)) b (c.time t) := by
 have := Blk.set h 41 (.bool t)
 rw [crC_time ho] at this
 exact this
theorem Fr.time {w w' : World} {c : Cr} (h : Fr w w' c) (ho : c.Ok) (t : Bool) : Fr w (w'.setCell ⟨w.heap.size, 41, none⟩ (.bool t)) (c.time t) :=
 ⟨h.c.time ho t, h.o.far' _ _ (by simp) _, h.e.far' _ _ (by simp) _, h.bel.setCell (p := ⟨w.heap.size, 41, none⟩) (Nat.le_refl _) _⟩
theorem Cb.tm {w : World} {b : Nat} {c : Cr} (h : Cb w b c) (ho : c.Ok) : w.cell? ⟨b, 41, none⟩ = some (.bool c.tm) := by
 rw [Blk.cell h]
 show (crL c).toArray[41]? = _
 rw [List.getElem?_toArray]
 exact crL_tm ho
theorem Fr.next {w w1 w2 : World} {c : Cr} (h : Fr w w1 c) (hb : Below w1.heap.size w1 w2) : Fr w w2 c :=
 ⟨Blk.next h.c hb rfl, Blk.next h.o hb rfl, Blk.next h.e hb rfl, below_then h.bel hb (Nat.le_refl _)⟩
theorem base_addi (w : World) : Calls Tryz.prog 239 #[.int .u8 19] w fun e w' => e = .returned (.int .u8 28) ∧ w = w' := by
 go_enter Tryz.func239, Tryz.ntmps239
 go_wp2_with fail
 go_light
 go_ret
 exact ⟨rfl, rfl⟩
theorem alu_addi (a b : Nat) (w : World) : Calls Tryz.prog 176 #[.int .u8 19, .int .u32 (a : Int), .int .u32 (b : Int)] w fun e w' => e = .returned (.tuple #[.int .u32 (((a + b) % 4294967296 : Nat) : Int), .bool true]) ∧ w = w' := by
 go_enter Tryz.func176, Tryz.ntmps176
 go_wp2_with fail
 (with_reducible refine (base_addi _).mono ?_); rintro e w1 ⟨rfl, rfl⟩
 go_wp2_with fail
 go_light
 go_ret2
 exact ⟨by simp, rfl⟩
def addiI (rd a imm : Nat) : In := ⟨19, rd, a, 0, imm, 0⟩
def addiC (c : Cr) (rd a imm : Nat) : Cr := nextC (withC c rd ((c.g a + imm) % 4294967296))
theorem Fn.next {w w1 w2 : World} {c : Cr} {I : Array Value} (h : Fn w w1 c I) (hb : Below w1.heap.size w1 w2) : Fn w w2 c I :=
 ⟨Blk.next h.c hb rfl, Blk.next h.i hb rfl, Blk.next h.o hb rfl, Blk.next h.e hb rfl, below_then h.bel hb (Nat.le_refl _)⟩
theorem do_addi (c : Cr) (hc : c.Ok) (s : Value) (rd a imm : Nat) (v : Int) (w : World) (hr : rd < 32) (ha : a < 32) (hi : imm < 4294967296) :
  Calls Tryz.prog 99 #[.agg (crC c), s, .agg (inC (addiI rd a imm)), .int .u32 v] w (StepOut (addiC c rd a imm) (evC false 0 (addiI rd a imm) 0 none 0 0) w) := by
 have HC := wall hc
 have HR := wall (And.intro hr (And.intro ha hi))
 have HZ := wall cr_zero
 have HE := wall ev_zero
 have HF := wall (Fn.new w c (inC (addiI rd a imm)))
 obtain ⟨C, hC⟩ : ∃ y, crC c = y := ⟨_, rfl⟩
 obtain ⟨Z, hZ⟩ : ∃ y, crC crZ = y := ⟨_, rfl⟩
 obtain ⟨E, hE⟩ : ∃ y, evZ = y := ⟨_, rfl⟩
 obtain ⟨I, hI⟩ : ∃ y, inC (addiI rd a imm) = y := ⟨_, rfl⟩
 rw [hC, hZ, hE, hI] at HF
 rw [hZ] at HZ
 rw [hE] at HE
 rw [hC, hI]
 clear hc hr ha hi hC
 go_enter Tryz.func99, Tryz.ntmps99
 go_upto_region 1 with (first | refine Big.wpList_alloc_at rfl 71 rfl Z HZ.out (w.heap.size + 2) (by simp) ?_ | refine Big.wpList_alloc_at rfl 78 rfl E HE.out (w.heap.size + 3) (by simp) ?_)
 try simp only [Act.put, rpA, rpB, rpC]
 refine wp_fn w c I HF.out ?_
 intro w1 h1
 have H1 := wall h1
 have kop : w1.cell? ⟨w.heap.size + 1, 0, none⟩ = some (.int .u8 19) := by rw [h1.i.cell, ← hI]; rfl
 have kr : w1.cell? ⟨w.heap.size + 1, 1, none⟩ = some (.int .u8 (rd : Int)) := by rw [h1.i.cell, ← hI]; rfl
 have ka : w1.cell? ⟨w.heap.size + 1, 2, none⟩ = some (.int .u8 (a : Int)) := by rw [h1.i.cell, ← hI]; rfl
 have kb : w1.cell? ⟨w.heap.size + 1, 3, none⟩ = some (.int .u8 0) := by rw [h1.i.cell, ← hI]; rfl
 have ki : w1.cell? ⟨w.heap.size + 1, 4, none⟩ = some (.int .u32 (imm : Int)) := by rw [h1.i.cell, ← hI]; rfl
 have kxa := h1.cell HC.out (show a < 41 by have := HR.out.2.1; omega)
 have kx0 := h1.cell HC.out (show 0 < 41 by decide)
 have ha32 : a < 32 := HR.out.2.1
 have hl1 : w.heap.size + 1 < w1.heap.size := h1.i.lt
 have hl0 : w.heap.size < w1.heap.size := by omega
 clear h1 HF
 go_wp2_with fail
 refine RelG.wp_region_rel 12 [] (by kernel_rfl) (by kernel_rfl) ?_
 simp only [List.take_succ_cons, List.take_zero, List.drop_succ_cons, List.drop_zero, Act.put, rpA, rpB, rpC]
 repeat (first | (refine RelG.tree_quiet rfl rfl rfl (fun K hK => ?_); go_big_quiet_op; refine hK _ ?_; clear hK K) | ((first | refine RelG.tree_pure rfl rfl rfl (.int .u8 (a : Int)) (fun W hW _ => Rel.exec_load1 _ _ rfl (w.heap.size + 1) (2) rfl _ (fun _ => by kernel_rfl) ((hW.undrew.cell (p := ⟨w.heap.size + 1, 2, none⟩) hl1).trans ka)) ?_ | refine RelG.tree_pure rfl rfl rfl (.int .u32 ((c.g a : Nat) : Int)) (fun W hW _ => Rel.exec_load1 _ _ rfl (w.heap.size) (a) rfl _ (fun _ => by kernel_rfl) ((hW.undrew.cell (p := ⟨w.heap.size, a, none⟩) hl0).trans kxa)) ?_ | refine RelG.tree_pure rfl rfl rfl (.int .u8 0) (fun W hW _ => Rel.exec_load1 _ _ rfl (w.heap.size + 1) (3) rfl _ (fun _ => by kernel_rfl) ((hW.undrew.cell (p := ⟨w.heap.size + 1, 3, none⟩) hl1).trans kb)) ?_ | refine RelG.tree_pure rfl rfl rfl (.int .u32 ((c.g 0 : Nat) : Int)) (fun W hW _ => Rel.exec_load1 _ _ rfl (w.heap.size) (0) rfl _ (fun _ => by kernel_rfl) ((hW.undrew.cell (p := ⟨w.heap.size, 0, none⟩) hl0).trans kx0)) ?_); simp only [Act.put, rpA, rpB, rpC]))
 intro W hW _
 have HW := wall (H1.out.next hW.undrew)
 have kop : W.cell? ⟨w.heap.size + 1, 0, none⟩ = some (.int .u8 19) := by rw [HW.out.i.cell, ← hI]; rfl
 have kr : W.cell? ⟨w.heap.size + 1, 1, none⟩ = some (.int .u8 (rd : Int)) := by rw [HW.out.i.cell, ← hI]; rfl
 have ki : W.cell? ⟨w.heap.size + 1, 4, none⟩ = some (.int .u32 (imm : Int)) := by rw [HW.out.i.cell, ← hI]; rfl
 clear hW ka kb kxa kx0 H1 hl0 hl1 ha32
 obtain ⟨xa, hxa⟩ : ∃ y, c.g a = y := ⟨_, rfl⟩
 obtain ⟨x0, hx0⟩ : ∃ y, c.g 0 = y := ⟨_, rfl⟩
 rw [hxa, hx0]
 have HXA := wall hxa
 clear hxa hx0
 have HAL := wall (fun W => alu_addi xa imm W)
 obtain ⟨y, hy⟩ : ∃ z, (xa + imm) % 4294967296 = z := ⟨_, rfl⟩
 rw [hy] at HAL
 have HYL := wall (show y < 4294967296 by omega)
 have HAC := wall (show addiC c rd a imm = nextC (withC c rd y) by unfold addiC; rw [HXA.out, hy])
 have HW1 := wall (fun W => with_any c HC.out (rd : Int) rd y W rfl HYL.out)
 obtain ⟨c', hc'⟩ : ∃ z, withC c rd y = z := ⟨_, rfl⟩
 have HCO := wall (show c'.Ok by rw [← hc']; exact HC.out.with rd y HYL.out)
 rw [hc'] at HAC HW1
 unfold CrOut at HW1
 have HNX := wall (fun W => next_any c' HCO.out (addiI rd a imm) W)
 unfold StepOut at HNX
 have HCN := wall HCO.out.next
 have HS6 := wall (show (Tryz.prog.info? 71).map (·.size) = some (crC c).size ∧ (Tryz.prog.info? 71).map (·.size) = some (crC c').size ∧ (crC c).size = (crC c').size ∧ (crC c').all (·.oneCell') = true from
  ⟨by rw [crC_size HC.out]; exact cr_info, by rw [crC_size HCO.out]; exact cr_info, by rw [crC_size HC.out, crC_size HCO.out], crC_one _⟩)
 have HS7 := wall (show (Tryz.prog.info? 71).map (·.size) = some (crC (nextC c')).size ∧ Z.size = (crC (nextC c')).size ∧ (crC (nextC c')).all (·.oneCell') = true from
  ⟨by rw [crC_size HCN.out]; exact cr_info, by rw [← hZ, crC_size HCN.out, crC_size crZ_ok], crC_one _⟩)
 have HEI := wall (show (Tryz.prog.info? 78).map (·.size) = some (evC false 0 (addiI rd a imm) 0 none 0 0).size ∧ E.size = (evC false 0 (addiI rd a imm) 0 none 0 0).size ∧ (evC false 0 (addiI rd a imm) 0 none 0 0).all (·.oneCell') = true from ⟨ev_info, by rw [← hE]; rfl, evC_one _ _ _ _ _ _ _⟩)
 have HIZ := wall (show (Tryz.prog.info? 54).map (·.size) = some I.size by rw [← hI]; exact in_info)
 rw [hI] at HNX
 obtain ⟨D, hD⟩ : ∃ z, crC c = z := ⟨_, rfl⟩
 obtain ⟨D', hD'⟩ : ∃ z, crC c' = z := ⟨_, rfl⟩
 obtain ⟨D2, hD2⟩ : ∃ z, crC (nextC c') = z := ⟨_, rfl⟩
 obtain ⟨V, hV⟩ : ∃ z, evC false 0 (addiI rd a imm) 0 none 0 0 = z := ⟨_, rfl⟩
 have HD2 := wall hD2
 have HVV := wall hV
 rw [hD] at HS6 HW1
 rw [hD'] at HS6 HW1 HNX
 rw [hD2] at HNX HS7
 rw [hV] at HNX HEI
 have HWB := wall (show Blk W w.heap.size 71 D by rw [← hD]; exact HW.out.c)
 have hrd : (rd : Int) < 32 := by have := HR.out.1; omega
 clear hy hc' hD2 hV
 go_wp2_with fail
 (with_reducible refine (HAL.out _).mono ?_); rintro e w2 ⟨rfl, rfl⟩
 clear HAL
 try simp only [Act.put, rpA, rpB, rpC]
 go_wp2_with (refine wpList_load_row rfl 71 _ rfl w.heap.size rfl 71 D (0, 0) _ HWB.out Tryz.underlying71 rfl HS6.out.1 ?_)
 (with_reducible refine (HW1.out _).mono ?_); rintro e w3 ⟨rfl, hB3⟩
 have H3 := wall (HW.out.next hB3)
 have H3c := wall (show Blk w3 w.heap.size 71 D by rw [← hD]; exact H3.out.c)
 clear hB3 HW HWB HW1 kop kr ki
 try simp only [Act.put, rpA, rpB, rpC]
 go_upto_region 31 with (refine wpList_set_row rfl 71 (.tmp 4) (.tmp 211) rfl w.heap.size D' rfl rfl 71 D H3c.out HS6.out.2.1 HS6.out.2.2.1 HS6.out.2.2.2 ?_; intro w4 K4 F4)
 have H4 := wall (show Fn w w4 c' I from ⟨by show Blk _ _ _ (crC c'); rw [hD']; exact K4.out, H3.out.i.frm F4.out (by simp), H3.out.o.frm F4.out (by simp), H3.out.e.frm F4.out (by simp), Below.frm H3.out.bel F4.out (Nat.le_refl _) (by simp)⟩)
 have H4c := wall (show Blk w4 w.heap.size 71 D' from K4.out)
 have H4i := wall H4.out.i
 clear K4 F4 H3 H3c
 go_wp2_with (first | refine wpList_load_row rfl 71 _ rfl w.heap.size rfl 71 D' (0, 0) _ H4c.out Tryz.underlying71 rfl HS6.out.2.1 ?_ | refine wpList_load_row rfl 54 _ rfl (w.heap.size + 1) rfl 54 I (0, 0) _ H4i.out Tryz.underlying54 rfl HIZ.out ?_)
 (with_reducible refine (HNX.out _).mono ?_); rintro e w5 ⟨rfl, hB5⟩
 have H5 := wall (H4.out.next hB5)
 have H5o := wall (show Blk w5 (w.heap.size + 2) 71 Z by rw [← hZ]; exact H5.out.o)
 have H5e := wall (show Blk w5 (w.heap.size + 3) 78 E by rw [← hE]; exact H5.out.e)
 have H5b := wall H5.out.bel
 clear hB5 H4 H4c H4i HNX H5
 try simp only [Act.put, rpA, rpB, rpC]
 go_wp2_with (first | (refine wpList_set_row rfl 71 (.tmp 8) (.tmp 215) rfl (w.heap.size + 2) D2 rfl rfl 71 Z H5o.out HS7.out.1 HS7.out.2.1 HS7.out.2.2 ?_; intro w6 K6 F6; have H6e := wall (H5e.out.frm F6.out (by simp)); have H6b := wall (Below.frm H5b.out F6.out (Nat.le_refl _) (by simp))) | (refine wpList_set_row rfl 78 (.tmp 9) (.tmp 216) rfl (w.heap.size + 3) V rfl rfl 78 E H6e.out HEI.out.1 HEI.out.2.1 HEI.out.2.2 ?_; intro w7 K7 F7))
 have K7o := wall (K6.out.frm F7.out (by simp))
 have HB7 := wall (Below.frm H6b.out F7.out (Nat.le_refl _) (by simp))
 go_light
 exact bodyPost_ret (v := .tuple #[.agg D2, .agg V]) (results_two Tryz.results99 _ _ (w.heap.size + 2) (w.heap.size + 3) 71 78 D2 V _ _ rfl rfl K7o.out K7.out Tryz.underlying71 rfl HS7.out.1 Tryz.underlying78 rfl HEI.out.1) rfl ⟨by rw [HAC.out, HD2.out, HVV.out], HB7.out⟩
end Core
end Go.Proofs.YtmiaabpnolebhaaGreatDoor
namespace Go.Proofs.YtmiaabpnolebhaaGreatDoor
open Go.RowKit

namespace Core
open Otp Sha R1 Spc
structure Mm (w : World) (m b1 b2 b4 : Nat) (l1 l2 l4 : List Nat) : Prop where
 c1 : w.cell? ⟨m, 2, none⟩ = some (.slice (some ⟨b1, 0, none⟩) 4096 4096)
 c2 : w.cell? ⟨m, 3, none⟩ = some (.slice (some ⟨b2, 0, none⟩) 4096 4096)
 c4 : w.cell? ⟨m, 5, none⟩ = some (.slice (some ⟨b4, 0, none⟩) 64 64)
 k1 : Blk w b1 5 (b8 l1)
 k2 : Blk w b2 5 (b8 l2)
 k4 : Blk w b4 5 (b8 l4)
 n1 : l1.length = 4096 ∧ ∀ x ∈ l1, x < 256
 n2 : l2.length = 4096 ∧ ∀ x ∈ l2, x < 256
 n4 : l4.length = 64 ∧ ∀ x ∈ l4, x < 256
 lt : m < w.heap.size
theorem Mm.old {w w' : World} {m b1 b2 b4 : Nat} {l1 l2 l4 : List Nat} (h : Mm w m b1 b2 b4 l1 l2 l4) (hb : Below w.heap.size w w') : Mm w' m b1 b2 b4 l1 l2 l4 :=
 ⟨(hb.cell (p := ⟨m, 2, none⟩) h.lt).trans h.c1, (hb.cell (p := ⟨m, 3, none⟩) h.lt).trans h.c2, (hb.cell (p := ⟨m, 5, none⟩) h.lt).trans h.c4, h.k1.next hb rfl, h.k2.next hb rfl, h.k4.next hb rfl, h.n1, h.n2, h.n4, Nat.lt_of_lt_of_le h.lt hb.size⟩
theorem nats_dropAt {w : World} {B g o : Nat} {l : List Nat} (h : Nats .u8 256 w B (some ⟨g, o, none⟩) l) (n : Nat) : Nats .u8 256 w B (some ⟨g, o + n, none⟩) (l.drop n) := fun j z hz => by
 rw [List.getElem?_drop] at hz
 obtain ⟨h1, b, off, h2, h3, h4⟩ := h (n + j) z hz
 cases h2
 exact ⟨h1, g, o + n, rfl, h3, by rw [Nat.add_assoc]; exact h4⟩
def TrueB (w : World) (e : Ending) (w' : World) : Prop := e = .returned (.bool true) ∧ Below w.heap.size w w'
theorem same_call (A B : Option Addr) (n ca cb : Nat) (x y : List Nat) (W : World) (hx : x.length = n) (hn : n ≤ 10000) (hA : Nats .u8 256 W W.heap.size A x) (hB : Nats .u8 256 W W.heap.size B y) (hxy : x = y) :
  Calls Tryz.prog 17 #[.slice A n ca, .slice B n cb] W fun e w'' => ∃ v, e = .returned v ∧ Rel.Grow W w'' ∧ v = .bool true := by
 subst hxy
 refine (same_any A B n n ca cb x x true W W.heap.size W.heap.size hx hx (by simp only [maxLen]; omega) (by simp only [maxLen]; omega) hA hB (by simp)).mono ?_
 rintro e w' ⟨rfl, n', rfl⟩
 exact ⟨_, rfl, Below.drewN (Below.refl _ _) n', rfl⟩
theorem memory_any (g m b1 b2 b4 : Nat) (v : SpV) (l1 l2 l4 : List Nat) (w : World) (hv : v.Ok) (hg : Sp w g v) (hm : Mm w m b1 b2 b4 l1 l2 l4) (e1 : v.ram.take 4096 = l1) (e2 : v.ram.drop 4096 = l2) (e4 : v.prt = l4) :
  Calls Tryz.prog 31 #[.pointer (some ⟨g, 0, none⟩), .pointer (some ⟨m, 0, none⟩)] w (TrueB w) := by
 have HG := wall hg
 have HM := wall hm
 have HV := wall hv
 have HE := wall (And.intro e1 (And.intro e2 e4))
 have s1 := wall (Big.run_arr_h (P := Tryz.prog) 192 5 8192 Tryz.underlying192 (fun _ => by kernel_rfl) g 1 4096 .i64 4096 rfl (by decide) (by decide))
 have s2 := wall (run_slice_arr_lo (P := Tryz.prog) 192 5 8192 Tryz.underlying192 (fun _ => by kernel_rfl) g 1 4096 .i64 4096 rfl (by decide))
 have s4 := wall (Big.run_arr_all (P := Tryz.prog) 193 5 64 Tryz.underlying193 (fun _ => by kernel_rfl) g 8193 (by decide))
 clear hg hm hv e1 e2 e4
 have hn1 := HM.out.n1
 go_enter Tryz.func31, Tryz.ntmps31
 go_wp2_with fail
 refine RelG.wp_region_rel 34 [(6, .const (.pointer (some ⟨g, 0, none⟩))), (10, .const (.pointer (some ⟨m, 0, none⟩))), (17, .const (.pointer (some ⟨g, 0, none⟩))), (21, .const (.pointer (some ⟨m, 0, none⟩))), (29, .const (.pointer (some ⟨g, 0, none⟩))), (33, .const (.pointer (some ⟨m, 0, none⟩))), (14, .const (.bool true)), (25, .const (.bool true)), (37, .const (.bool true))] (by kernel_rfl) (by kernel_rfl) ?_
 simp only [List.take_succ_cons, List.take_zero, List.drop_succ_cons, List.drop_zero, Act.put, rpA, rpB, rpC]
 repeat (first | (refine RelG.tree_quiet rfl rfl rfl (fun K hK => ?_); go_big_quiet_op; refine hK _ ?_; clear hK K) | (refine RelG.tree_const rfl (.pointer (some ⟨g, 0, none⟩)) rfl (fun W hW _ => by (unfold RelG.relAt; go_simp; exact ⟨Rel.Grow.refl _, rfl⟩)) ?_; simp only [Act.put, rpA, rpB, rpC]) | (refine RelG.tree_const rfl (.pointer (some ⟨m, 0, none⟩)) rfl (fun W hW _ => by (unfold RelG.relAt; go_simp; exact ⟨Rel.Grow.refl _, rfl⟩)) ?_; simp only [Act.put, rpA, rpB, rpC]) | ((first | refine RelG.tree_pure rfl rfl rfl (.slice (some ⟨g, 1, none⟩) 4096 8192) (fun W hW _ => Rel.exec_slice _ _ _ _ rfl _ (s1.out W)) ?_ | refine RelG.tree_pure rfl rfl rfl (.slice (some ⟨g, 4097, none⟩) 4096 4096) (fun W hW _ => Rel.exec_slice _ _ _ _ rfl _ (s2.out W)) ?_ | refine RelG.tree_pure rfl rfl rfl (.slice (some ⟨g, 8193, none⟩) 64 64) (fun W hW _ => Rel.exec_slice _ _ _ _ rfl _ (s4.out W)) ?_ | refine RelG.tree_pure rfl rfl rfl (.slice (some ⟨b1, 0, none⟩) 4096 4096) (fun W hW _ => Rel.exec_load1 _ _ rfl m 2 rfl _ (fun _ => by kernel_rfl) (HM.out.old hW.undrew).c1) ?_ | refine RelG.tree_pure rfl rfl rfl (.slice (some ⟨b2, 0, none⟩) 4096 4096) (fun W hW _ => Rel.exec_load1 _ _ rfl m 3 rfl _ (fun _ => by kernel_rfl) (HM.out.old hW.undrew).c2) ?_ | refine RelG.tree_pure rfl rfl rfl (.slice (some ⟨b4, 0, none⟩) 64 64) (fun W hW _ => Rel.exec_load1 _ _ rfl m 5 rfl _ (fun _ => by kernel_rfl) (HM.out.old hW.undrew).c4) ?_); simp only [Act.put, rpA, rpB, rpC]))
 refine RelG.tree_const rfl (.bool true) rfl (fun W hW _ => ?_) ?_
 ·have hb := hW.undrew
  have hs := HG.out.old hb
  have hm := HM.out.old hb
  unfold RelG.relAt; go_simp; show Calls _ _ _ _ _
  exact same_call _ _ 4096 8192 4096 (v.ram.take 4096) l1 W (by rw [HE.out.1]; exact hm.n1.1) (by decide) (nats_take (hs.ramN HV.out) 4096) (nats_b8 hm.k1 hm.n1.2) HE.out.1
 simp only [Act.put, rpA, rpB, rpC]
 repeat (first | (refine RelG.tree_quiet rfl rfl rfl (fun K hK => ?_); go_big_quiet_op; refine hK _ ?_; clear hK K) | (refine RelG.tree_const rfl (.pointer (some ⟨g, 0, none⟩)) rfl (fun W hW _ => by (unfold RelG.relAt; go_simp; exact ⟨Rel.Grow.refl _, rfl⟩)) ?_; simp only [Act.put, rpA, rpB, rpC]) | (refine RelG.tree_const rfl (.pointer (some ⟨m, 0, none⟩)) rfl (fun W hW _ => by (unfold RelG.relAt; go_simp; exact ⟨Rel.Grow.refl _, rfl⟩)) ?_; simp only [Act.put, rpA, rpB, rpC]) | ((first | refine RelG.tree_pure rfl rfl rfl (.slice (some ⟨g, 1, none⟩) 4096 8192) (fun W hW _ => Rel.exec_slice _ _ _ _ rfl _ (s1.out W)) ?_ | refine RelG.tree_pure rfl rfl rfl (.slice (some ⟨g, 4097, none⟩) 4096 4096) (fun W hW _ => Rel.exec_slice _ _ _ _ rfl _ (s2.out W)) ?_ | refine RelG.tree_pure rfl rfl rfl (.slice (some ⟨g, 8193, none⟩) 64 64) (fun W hW _ => Rel.exec_slice _ _ _ _ rfl _ (s4.out W)) ?_ | refine RelG.tree_pure rfl rfl rfl (.slice (some ⟨b1, 0, none⟩) 4096 4096) (fun W hW _ => Rel.exec_load1 _ _ rfl m 2 rfl _ (fun _ => by kernel_rfl) (HM.out.old hW.undrew).c1) ?_ | refine RelG.tree_pure rfl rfl rfl (.slice (some ⟨b2, 0, none⟩) 4096 4096) (fun W hW _ => Rel.exec_load1 _ _ rfl m 3 rfl _ (fun _ => by kernel_rfl) (HM.out.old hW.undrew).c2) ?_ | refine RelG.tree_pure rfl rfl rfl (.slice (some ⟨b4, 0, none⟩) 64 64) (fun W hW _ => Rel.exec_load1 _ _ rfl m 5 rfl _ (fun _ => by kernel_rfl) (HM.out.old hW.undrew).c4) ?_); simp only [Act.put, rpA, rpB, rpC]))
 refine RelG.tree_const rfl (.bool true) rfl (fun W hW _ => ?_) ?_
 ·have hb := hW.undrew
  have hs := HG.out.old hb
  have hm := HM.out.old hb
  unfold RelG.relAt; go_simp; show Calls _ _ _ _ _
  exact same_call _ _ 4096 4096 4096 (v.ram.drop 4096) l2 W (by rw [HE.out.2.1]; exact hm.n2.1) (by decide) (nats_dropAt (hs.ramN HV.out) 4096) (nats_b8 hm.k2 hm.n2.2) HE.out.2.1
 simp only [Act.put, rpA, rpB, rpC]
 repeat (first | (refine RelG.tree_quiet rfl rfl rfl (fun K hK => ?_); go_big_quiet_op; refine hK _ ?_; clear hK K) | (refine RelG.tree_const rfl (.pointer (some ⟨g, 0, none⟩)) rfl (fun W hW _ => by (unfold RelG.relAt; go_simp; exact ⟨Rel.Grow.refl _, rfl⟩)) ?_; simp only [Act.put, rpA, rpB, rpC]) | (refine RelG.tree_const rfl (.pointer (some ⟨m, 0, none⟩)) rfl (fun W hW _ => by (unfold RelG.relAt; go_simp; exact ⟨Rel.Grow.refl _, rfl⟩)) ?_; simp only [Act.put, rpA, rpB, rpC]) | ((first | refine RelG.tree_pure rfl rfl rfl (.slice (some ⟨g, 1, none⟩) 4096 8192) (fun W hW _ => Rel.exec_slice _ _ _ _ rfl _ (s1.out W)) ?_ | refine RelG.tree_pure rfl rfl rfl (.slice (some ⟨g, 4097, none⟩) 4096 4096) (fun W hW _ => Rel.exec_slice _ _ _ _ rfl _ (s2.out W)) ?_ | refine RelG.tree_pure rfl rfl rfl (.slice (some ⟨g, 8193, none⟩) 64 64) (fun W hW _ => Rel.exec_slice _ _ _ _ rfl _ (s4.out W)) ?_ | refine RelG.tree_pure rfl rfl rfl (.slice (some ⟨b1, 0, none⟩) 4096 4096) (fun W hW _ => Rel.exec_load1 _ _ rfl m 2 rfl _ (fun _ => by kernel_rfl) (HM.out.old hW.undrew).c1) ?_ | refine RelG.tree_pure rfl rfl rfl (.slice (some ⟨b2, 0, none⟩) 4096 4096) (fun W hW _ => Rel.exec_load1 _ _ rfl m 3 rfl _ (fun _ => by kernel_rfl) (HM.out.old hW.undrew).c2) ?_ | refine RelG.tree_pure rfl rfl rfl (.slice (some ⟨b4, 0, none⟩) 64 64) (fun W hW _ => Rel.exec_load1 _ _ rfl m 5 rfl _ (fun _ => by kernel_rfl) (HM.out.old hW.undrew).c4) ?_); simp only [Act.put, rpA, rpB, rpC]))
 refine RelG.tree_const rfl (.bool true) rfl (fun W hW _ => ?_) ?_
 ·have hb := hW.undrew
  have hs := HG.out.old hb
  have hm := HM.out.old hb
  unfold RelG.relAt; go_simp; show Calls _ _ _ _ _
  exact same_call _ _ 64 64 64 v.prt l4 W (by rw [HE.out.2.2]; exact hm.n4.1) (by decide) (hs.prtN HV.out) (nats_b8 hm.k4 hm.n4.2) HE.out.2.2
 simp only [Act.put, rpA, rpB, rpC]
 repeat (first | (refine RelG.tree_quiet rfl rfl rfl (fun K hK => ?_); go_big_quiet_op; refine hK _ ?_; clear hK K) | (refine RelG.tree_const rfl (.pointer (some ⟨g, 0, none⟩)) rfl (fun W hW _ => by (unfold RelG.relAt; go_simp; exact ⟨Rel.Grow.refl _, rfl⟩)) ?_; simp only [Act.put, rpA, rpB, rpC]) | (refine RelG.tree_const rfl (.pointer (some ⟨m, 0, none⟩)) rfl (fun W hW _ => by (unfold RelG.relAt; go_simp; exact ⟨Rel.Grow.refl _, rfl⟩)) ?_; simp only [Act.put, rpA, rpB, rpC]) | ((first | refine RelG.tree_pure rfl rfl rfl (.slice (some ⟨g, 1, none⟩) 4096 8192) (fun W hW _ => Rel.exec_slice _ _ _ _ rfl _ (s1.out W)) ?_ | refine RelG.tree_pure rfl rfl rfl (.slice (some ⟨g, 4097, none⟩) 4096 4096) (fun W hW _ => Rel.exec_slice _ _ _ _ rfl _ (s2.out W)) ?_ | refine RelG.tree_pure rfl rfl rfl (.slice (some ⟨g, 8193, none⟩) 64 64) (fun W hW _ => Rel.exec_slice _ _ _ _ rfl _ (s4.out W)) ?_ | refine RelG.tree_pure rfl rfl rfl (.slice (some ⟨b1, 0, none⟩) 4096 4096) (fun W hW _ => Rel.exec_load1 _ _ rfl m 2 rfl _ (fun _ => by kernel_rfl) (HM.out.old hW.undrew).c1) ?_ | refine RelG.tree_pure rfl rfl rfl (.slice (some ⟨b2, 0, none⟩) 4096 4096) (fun W hW _ => Rel.exec_load1 _ _ rfl m 3 rfl _ (fun _ => by kernel_rfl) (HM.out.old hW.undrew).c2) ?_ | refine RelG.tree_pure rfl rfl rfl (.slice (some ⟨b4, 0, none⟩) 64 64) (fun W hW _ => Rel.exec_load1 _ _ rfl m 5 rfl _ (fun _ => by kernel_rfl) (HM.out.old hW.undrew).c4) ?_); simp only [Act.put, rpA, rpB, rpC]))
 intro W hW _
 have HBW := wall hW.undrew
 clear hW
 go_wp2_with fail
 go_light
 go_ret
 exact ⟨rfl, HBW.out⟩
end Core
end Go.Proofs.YtmiaabpnolebhaaGreatDoor
