/-
  Texts of this claim, joined: CorG, CorW.
-/
import Derived.Test.YtmiaabpnolebhaaGreatDoorJd1da5132
set_option maxHeartbeats 4000000
set_option maxRecDepth 100000
set_option linter.unusedSimpArgs false
set_option linter.unusedVariables false
namespace Go.Proofs.YtmiaabpnolebhaaGreatDoor
open Go.RowKit

namespace Core
open Otp Sha Rv Grant Spc
theorem inC_one' (i : In) : (inC i).all (·.oneCell') = true := by simp [inC, Value.oneCell']
theorem step_pure (c : Cr) (hc : c.Ok) (g : Nat) (v : SpV) (o x0 x1 x2 x3 : Nat) (i : In) (cN : Cr) (V : Array Value) (w : World) (hS : Spans w) (hv : v.Ok) (hg : Sp w g v) (hst : (Lit.int .i64 v.st).wf = true) (hm : c.g 32 % 4 = 0)
  (hk : chk 1 v.st (c.g 32) 4 false true = (1, o, 0)) (ho : o + 4 ≤ 4096) (h0 : v.ram[o]? = some x0) (h1 : v.ram[o + 1]? = some x1) (h2 : v.ram[o + 2]? = some x2) (h3 : v.ram[o + 3]? = some x3)
  (hd : dec (le32 x0 x1 x2 x3) = (i, true)) (hcn : cN.Ok) (hV1 : (Tryz.prog.info? 78).map (·.size) = some V.size) (hV2 : evZ.size = V.size) (hV3 : V.all (·.oneCell') = true)
  (hdo : ∀ W, Calls Tryz.prog 99 #[.agg (crC (c.time false)), .pointer (some ⟨g, 0, none⟩), .agg (inC i), .int .u32 ((le32 x0 x1 x2 x3 : Nat) : Int)] W (StepOut cN V W)) :
  Calls Tryz.prog 28 #[.agg (crC c), .pointer (some ⟨g, 0, none⟩), .bool false] w (StepOut cN V w) := by
 have hx0 := hv.rb _ (List.mem_of_getElem? h0)
 have hx1 := hv.rb _ (List.mem_of_getElem? h1)
 have hx2 := hv.rb _ (List.mem_of_getElem? h2)
 have hx3 := hv.rb _ (List.mem_of_getElem? h3)
 have hwd : le32 x0 x1 x2 x3 < 4294967296 := by unfold le32; omega
 have HK := wall (fun (W : World) (h : Spans W) (h' : Sp W g v) => fetch_ok g v (c.g 32) o ((c.g 32 : Nat) : Int) x0 x1 x2 x3 W hv h' rfl (by have := hc.g 32; omega) hst h hk ho h0 h1 h2 h3)
 have HDC := wall (fun W => decode_any (le32 x0 x1 x2 x3) ((le32 x0 x1 x2 x3 : Nat) : Int) W rfl hwd)
 rw [hd] at HDC
 unfold InOut at HDC
 simp only at HDC
 have HDO := wall hdo
 have HVV := wall (And.intro hV1 (And.intro hV2 hV3))
 have HCN := wall hcn
 have HM := wall hm
 obtain ⟨wd, hwd'⟩ : ∃ y, le32 x0 x1 x2 x3 = y := ⟨_, rfl⟩
 rw [hwd'] at HK HDC HDO
 clear hx0 hx1 hx2 hx3 hwd hv hst hm hk ho h0 h1 h2 h3 hd hcn hV1 hV2 hV3 hdo hwd'
 have HC := wall hc
 have HCT := wall (hc.time false)
 have HF := wall (Fr.new w c)
 have HZ := wall cr_zero
 have HE := wall ev_zero
 have HS := wall hS
 have HG := wall hg
 obtain ⟨C, hC⟩ : ∃ y, crC c = y := ⟨_, rfl⟩
 obtain ⟨Z, hZ⟩ : ∃ y, crC crZ = y := ⟨_, rfl⟩
 obtain ⟨E, hE⟩ : ∃ y, evZ = y := ⟨_, rfl⟩
 rw [hC, hZ, hE] at HF
 rw [hZ] at HZ
 rw [hE] at HE
 rw [hC]
 clear hc hC hS hg
 go_enter Tryz.func28, Tryz.ntmps28
 go_upto_region 1 with (first | refine Big.wpList_alloc_at rfl 71 rfl Z HZ.out (w.heap.size + 1) (by simp) ?_ | refine Big.wpList_alloc_at rfl 78 rfl E HE.out (w.heap.size + 2) (by simp) ?_)
 try simp only [Act.put, rpA, rpB, rpC]
 refine wp_fr w c HF.out ?_
 intro w1 h1
 have H1 := wall h1
 have k41 := h1.c.tm HC.out
 have hfz := h1.frozen
 clear h1 HF
 go_upto_region 4 with fail
 refine wp_fr w (c.time false) (H1.out.time HC.out false) ?_
 clear H1 k41 hfz
 intro w2 h2
 have H2 := wall h2
 have k32 := h2.cell HCT.out (show 32 < 41 by decide)
 have e32 : (c.time false).g 32 = c.g 32 := rfl
 rw [e32] at k32
 have hpl := HC.out.g 32
 obtain ⟨pc, hpc⟩ : ∃ y, c.g 32 = y := ⟨_, rfl⟩
 rw [hpc] at k32 hpl HK
 obtain ⟨c2, hc2⟩ : ∃ y, c.time false = y := ⟨_, rfl⟩
 have HC2 := wall (show c2.Ok by rw [← hc2]; exact HCT.out)
 rw [hc2] at H2 HDO
 have HC20 := wall hc2
 have HPC2 := wall (show c2.g 32 = pc by rw [← hc2]; exact hpc)
 have HPC := wall hpc
 clear h2 e32 hpc hc2 HCT HC
 have HPL := wall hpl
 obtain ⟨D, hD⟩ : ∃ y, crC c2 = y := ⟨_, rfl⟩
 have HDE := wall hD
 have HS6 := wall (show (Tryz.prog.info? 71).map (·.size) = some D.size by rw [← hD, crC_size HC2.out]; exact cr_info)
 have HD2 := wall (show Blk w2 w.heap.size 71 D by rw [← hD]; exact H2.out.c)
 have hm1 : ((pc : Int) % 4 != 0) = false := by rw [bne_eq_false_iff_eq]; have := HM.out; rw [HPC.out] at this; omega
 clear HPC HC20 HM hpl
 unfold StepOut at HDO
 rw [hD] at HDO
 have HIN := wall (show (Tryz.prog.info? 54).map (·.size) = some (inC i).size ∧ (inC zIn).size = (inC i).size ∧ (inC i).all (·.oneCell') = true from ⟨in_info, rfl, inC_one' i⟩)
 have HNN := wall (show (Tryz.prog.info? 71).map (·.size) = some (crC cN).size ∧ Z.size = (crC cN).size ∧ (crC cN).all (·.oneCell') = true from ⟨by rw [crC_size HCN.out]; exact cr_info, by rw [← hZ, crC_size HCN.out, crC_size crZ_ok], crC_one _⟩)
 obtain ⟨I, hI⟩ : ∃ y, inC i = y := ⟨_, rfl⟩
 obtain ⟨D2, hDN⟩ : ∃ y, crC cN = y := ⟨_, rfl⟩
 have HDN := wall hDN
 rw [hI] at HDC HDO HIN
 rw [hDN] at HDO HNN
 clear hI hDN
 go_wp2_with fail
 (with_reducible refine (HK.out _ (HS.out.old H2.out.bel) (HG.out.old H2.out.bel)).mono ?_); rintro e w3 ⟨rfl, hB3⟩
 have H3 := wall (H2.out.next hB3)
 clear hB3 HK H2 HD2 k32 hm1 HS HG
 try simp only [Act.put, rpA, rpB, rpC]
 go_wp2_with fail
 (with_reducible refine (HDC.out _).mono ?_); rintro e w4 ⟨rfl, hB4⟩
 have H4 := wall (H3.out.next hB4)
 clear hB4 HDC H3
 try simp only [Act.put, rpA, rpB, rpC]
 go_upto_region 12 with (refine wpList_new_row rfl 54 (.tmp 10) (.tmp 67) rfl w4.heap.size I rfl rfl 54 (inC zIn) (Blk.new _ _ _) HIN.out.1 HIN.out.2.1 HIN.out.2.2 w4.heap.size w4 ((Below.refl _ w4).alloc (Nat.le_refl _) _) (Nat.le_refl _) ?_; intro w5 K5 B5)
 have H5 := wall (H4.out.next B5.out)
 have H5i := wall K5.out
 have H5c := wall (show Blk w5 w.heap.size 71 D by rw [← hD]; exact H5.out.c)
 clear K5 B5 H4
 try simp only [Act.put, rpA, rpB, rpC]
 go_wp2_with (first | refine wpList_load_row rfl 71 _ rfl w.heap.size rfl 71 D (0, 0) _ H5c.out Tryz.underlying71 rfl HS6.out ?_ | refine wpList_load_row rfl 54 _ rfl w4.heap.size rfl 54 I (0, 0) _ H5i.out Tryz.underlying54 rfl HIN.out.1 ?_)
 (with_reducible refine (HDO.out _).mono ?_); rintro e w6 ⟨rfl, hB6⟩
 have H6 := wall (H5.out.next hB6)
 have H6o := wall (show Blk w6 (w.heap.size + 1) 71 Z by rw [← hZ]; exact H6.out.o)
 have H6e := wall (show Blk w6 (w.heap.size + 2) 78 E by rw [← hE]; exact H6.out.e)
 have H6b := wall H6.out.bel
 rw [hE] at HVV
 clear hB6 H5 H5i H5c HDO H6
 try simp only [Act.put, rpA, rpB, rpC]
 go_wp2_with (first | (refine wpList_set_row rfl 71 (.tmp 6) (.tmp 81) rfl (w.heap.size + 1) D2 rfl rfl 71 Z H6o.out HNN.out.1 HNN.out.2.1 HNN.out.2.2 ?_; intro w7 K7 F7; have H7e := wall (H6e.out.frm F7.out (by simp)); have H7b := wall (Below.frm H6b.out F7.out (Nat.le_refl _) (by simp))) | (refine wpList_set_row rfl 78 (.tmp 7) (.tmp 82) rfl (w.heap.size + 2) V rfl rfl 78 E H7e.out HVV.out.1 HVV.out.2.1 HVV.out.2.2 ?_; intro w8 K8 F8))
 have K8o := wall (K7.out.frm F8.out (by simp))
 have HB8 := wall (Below.frm H7b.out F8.out (Nat.le_refl _) (by simp))
 go_light
 exact bodyPost_ret (v := .tuple #[.agg D2, .agg V]) (results_two Tryz.results28 _ _ (w.heap.size + 1) (w.heap.size + 2) 71 78 D2 V _ _ rfl rfl K8o.out K8.out Tryz.underlying71 rfl HNN.out.1 Tryz.underlying78 rfl HVV.out.1) rfl ⟨by rw [HDN.out], HB8.out⟩
end Core
end Go.Proofs.YtmiaabpnolebhaaGreatDoor
namespace Go.Proofs.YtmiaabpnolebhaaGreatDoor
open Go.RowKit

namespace Core
open Otp Sha R1 Spc Grant Rv
def awP : List Nat := [147, 0, 80, 0]
def awC : Cr := addiC ((newC 536870912).time false) 1 0 5
theorem aw_dec : dec (le32 147 0 80 0) = (addiI 1 0 5, true) := by decide +kernel
theorem aw_chk : chk 1 1 536870912 4 false true = (1, 0, 0) := by decide +kernel
theorem aw_ok : awC.Ok := by
 have h := (newC_ok (pc := 536870912) (by decide)).time false
 exact (h.with 1 _ (by omega)).next
theorem aw1 : awC.g 1 = 5 := by decide +kernel
theorem aw32 : awC.g 32 = 536870916 := by decide +kernel
theorem awP_ram (i x : Nat) (hi : i < 4) (h : awP[i]? = some x) : (splice (List.replicate 8192 0) 0 awP)[i]? = some x := by
 unfold splice
 rw [List.take_zero, List.nil_append, List.getElem?_append_left (by show i < 4; exact hi)]
 exact h
theorem awake_any (w : World) (hS : Spans w) : Calls Tryz.prog 21 #[] w (TrueB w) := by
 have HS := wall hS
 have HLY := wall (fun W (h1 : Spans W) A c (h2 : Nats .u8 256 W W.heap.size A awP) => show Calls Tryz.prog 23 #[.int .u8 1, .slice A 4 c] W (LayOut 1 awP W) from lay_any 1 (by decide) A 4 c awP W h1 rfl (by decide) h2)
 have HNW := wall (fun W => show Calls Tryz.prog 84 #[.int .u32 536870912] W (CrOut (newC 536870912) W) from new_any 536870912 (by decide) W)
 have HNL := wall (show Nats .u8 256 (w.alloc (.cells #[.int .u8 147, .int .u8 0, .int .u8 80, .int .u8 0] 5)) (w.alloc (.cells #[.int .u8 147, .int .u8 0, .int .u8 80, .int .u8 0] 5)).heap.size (some ⟨w.heap.size, 0, none⟩) awP from nats_b8 (l := awP) (show Blk _ _ _ (b8 awP) from Blk.new w 5 (b8 awP)) (by decide))
 have HBL := wall ((Below.refl _ w).alloc (Nat.le_refl _) (.cells #[.int .u8 147, .int .u8 0, .int .u8 80, .int .u8 0] 5))
 have HSP := wall (fun W (h1 : Spans W) g v (h2 : Sp W g v) (h3 : v.Ok) (h4 : v.st = 1) (h5 : v.ram = splice (List.replicate 8192 0) 0 awP) => step_pure (newC 536870912) (newC_ok (by decide)) g v 0 147 0 80 0 (addiI 1 0 5) awC (evC false 0 (addiI 1 0 5) 0 none 0 0) W h1 h3 h2 (by rw [h4]; decide) (by decide +kernel) (by rw [h4]; exact aw_chk) (by decide) (by rw [h5]; exact awP_ram 0 _ (by decide) rfl) (by rw [h5]; exact awP_ram 1 _ (by decide) rfl) (by rw [h5]; exact awP_ram 2 _ (by decide) rfl) (by rw [h5]; exact awP_ram 3 _ (by decide) rfl) aw_dec aw_ok ev_info rfl (evC_one _ _ _ _ _ _ _) (fun W' => do_addi ((newC 536870912).time false) ((newC_ok (by decide)).time false) (.pointer (some ⟨g, 0, none⟩)) 1 0 5 _ W' (by decide) (by decide) (by decide)))
 clear hS
 go_enter Tryz.func21, Tryz.ntmps21
 go_wp2_with fail
 generalize w.alloc (.cells #[.int .u8 147, .int .u8 0, .int .u8 80, .int .u8 0] 5) = w1 at *
 (with_reducible refine (HLY.out _ (HS.out.old HBL.out) _ _ HNL.out).mono ?_); rintro e w2 ⟨g, m, b1, b2, b4, v, rfl, hL, hB2⟩
 have HL := wall hL
 have HB2 := wall (below_then HBL.out hB2 (Nat.le_refl _))
 clear hL hB2 HLY HNL HBL
 try simp only [Act.put, rpA, rpB, rpC]
 go_wp2_with fail
 (with_reducible refine (HNW.out _).mono ?_); rintro e w3 ⟨rfl, hB3⟩
 have HL3 := wall (HL.out.old hB3)
 have HB3 := wall (below_then HB2.out hB3 (Nat.le_refl _))
 have HST := wall (HSP.out w3 (HS.out.old HB3.out) g v HL3.out.sp HL3.out.ok HL3.out.vs HL3.out.vr)
 clear hB3 HL HB2 HNW HSP HL3 HS
 unfold StepOut at HST
 have HZ := wall cr_zero
 have HE := wall ev_zero
 have HSZ := wall (show (Tryz.prog.info? 71).map (·.size) = some (crC awC).size ∧ (crC crZ).size = (crC awC).size ∧ (crC awC).all (·.oneCell') = true from ⟨by rw [crC_size aw_ok]; exact cr_info, by rw [crC_size aw_ok, crC_size crZ_ok], crC_one _⟩)
 have HEI := wall (show (Tryz.prog.info? 78).map (·.size) = some (evC false 0 (addiI 1 0 5) 0 none 0 0).size ∧ evZ.size = (evC false 0 (addiI 1 0 5) 0 none 0 0).size ∧ (evC false 0 (addiI 1 0 5) 0 none 0 0).all (·.oneCell') = true from ⟨ev_info, rfl, evC_one _ _ _ _ _ _ _⟩)
 have HD1 := wall (show (crC awC)[1]? = some (.int .u32 5) ∧ (crC awC)[32]? = some (.int .u32 536870916) from by
  have h1 := crL_get aw_ok (show 1 < 41 by decide)
  have h2 := crL_get aw_ok (show 32 < 41 by decide)
  rw [aw1] at h1
  rw [aw32] at h2
  exact ⟨by show (crL awC).toArray[1]? = _; rw [List.getElem?_toArray]; exact h1, by show (crL awC).toArray[32]? = _; rw [List.getElem?_toArray]; exact h2⟩)
 have HV1 := wall (show (evC false 0 (addiI 1 0 5) 0 none 0 0)[0]? = some (.bool false) ∧ (evC false 0 (addiI 1 0 5) 0 none 0 0)[2]? = some (.int .u8 19) from ⟨rfl, rfl⟩)
 obtain ⟨D, hD⟩ : ∃ y, crC awC = y := ⟨_, rfl⟩
 obtain ⟨V, hV⟩ : ∃ y, evC false 0 (addiI 1 0 5) 0 none 0 0 = y := ⟨_, rfl⟩
 obtain ⟨Z, hZ⟩ : ∃ y, crC crZ = y := ⟨_, rfl⟩
 obtain ⟨E, hE⟩ : ∃ y, evZ = y := ⟨_, rfl⟩
 rw [hD] at HST HSZ HD1
 rw [hV] at HST HEI HV1
 rw [hZ] at HZ HSZ
 rw [hE] at HE HEI
 clear hD hV hZ hE
 try simp only [Act.put, rpA, rpB, rpC]
 go_wp2_with fail
 (with_reducible refine (HST.out).mono ?_); rintro e w4 ⟨rfl, hB4⟩
 have HB4 := wall (below_then HB3.out hB4 (Nat.le_refl _))
 clear hB4 HB3 HST
 try simp only [Act.put, rpA, rpB, rpC]
 have HA := wall (show Blk ((w4.alloc (.cells Z 71)).alloc (.cells E 78)) w4.heap.size 71 Z ∧ Blk ((w4.alloc (.cells Z 71)).alloc (.cells E 78)) (w4.heap.size + 1) 78 E ∧ Below w4.heap.size w4 ((w4.alloc (.cells Z 71)).alloc (.cells E 78)) from ⟨(Blk.new _ _ _).alloc _, blk_new' (by simp), ((Below.refl _ w4).alloc (Nat.le_refl _) _).alloc (by simp) _⟩)
 go_upto_region 3 with (first | refine Big.wpList_alloc_at rfl 71 rfl Z HZ.out w4.heap.size rfl ?_ | refine Big.wpList_alloc_at rfl 78 rfl E HE.out (w4.heap.size + 1) (by simp) ?_ | (refine wpList_set_row rfl 71 (.tmp 3) (.tmp 14) rfl w4.heap.size D rfl rfl 71 Z HA.out.1 HSZ.out.1 HSZ.out.2.1 HSZ.out.2.2 ?_; intro w5 K5 F5; have H5e := wall (HA.out.2.1.frm F5.out (by simp)); have H5b := wall (Below.frm HA.out.2.2 F5.out (Nat.le_refl _) (by simp))) | (refine wpList_set_row rfl 78 (.tmp 4) (.tmp 15) rfl (w4.heap.size + 1) V rfl rfl 78 E H5e.out HEI.out.1 HEI.out.2.1 HEI.out.2.2 ?_; intro w6 K6 F6))
 have k1 : w6.cell? ⟨w4.heap.size, 1, none⟩ = some (.int .u32 5) := by rw [(K5.out.frm F6.out (by simp)).cell]; exact HD1.out.1
 have k32 : w6.cell? ⟨w4.heap.size, 32, none⟩ = some (.int .u32 536870916) := by rw [(K5.out.frm F6.out (by simp)).cell]; exact HD1.out.2
 have v0 : w6.cell? ⟨w4.heap.size + 1, 0, none⟩ = some (.bool false) := by rw [K6.out.cell]; exact HV1.out.1
 have v2 : w6.cell? ⟨w4.heap.size + 1, 2, none⟩ = some (.int .u8 19) := by rw [K6.out.cell]; exact HV1.out.2
 have HB6 := wall (below_then HB4.out (Below.frm H5b.out F6.out (Nat.le_refl _) (by simp)) (Nat.le_refl _))
 clear K5 F5 H5e H5b K6 F6 HA HB4 HSZ HEI HD1 HV1 HZ HE
 go_wp2_with fail
 go_light
 go_ret
 exact ⟨rfl, HB6.out⟩
end Core
end Go.Proofs.YtmiaabpnolebhaaGreatDoor
