/-
  Texts of this claim, joined: CorG, CorV, CorX.
-/
import Derived.Test.YtfiojpdkbckopaaDoorCorF
import Derived.Test.YtfiojpdkbckopaaDoorJ4517c364
import Derived.Deep.DeepCutAuto
import Derived.Test.YtfiojpdkbckopaaDoorCorE
set_option linter.unusedVariables false
/-
  A core: Step of an instruction that doesn't touch the space.
-/
set_option linter.unusedSimpArgs false
set_option linter.unusedVariables false
namespace Go.Proofs.YtfiojpdkbckopaaDoor
open Go.RowKit

namespace Core
open Otp Sha Rv Grant Spc
theorem inC_one' (i : In) : (inC i).all (·.oneCell') = true := by simp [inC, Value.oneCell']
set_option maxRecDepth 100000 in
set_option maxHeartbeats 4000000 in
theorem step_pure (c : Cr) (hc : c.Ok) (g : Nat) (v : SpV) (o x0 x1 x2 x3 : Nat) (i : In) (cN : Cr) (V : Array Value) (w : World) (hS : Spans w) (hv : v.Ok) (hg : Sp w g v) (hst : (Lit.int .i64 v.st).wf = true) (hm : c.g 32 % 4 = 0)
    (hk : chk 1 v.st (c.g 32) 4 false true = (1, o, 0)) (ho : o + 4 ≤ 4096) (h0 : v.ram[o]? = some x0) (h1 : v.ram[o + 1]? = some x1) (h2 : v.ram[o + 2]? = some x2) (h3 : v.ram[o + 3]? = some x3)
    (hd : dec (le32 x0 x1 x2 x3) = (i, true)) (hcn : cN.Ok) (hV1 : (Tryd.prog.info? 44).map (·.size) = some V.size) (hV2 : evZ.size = V.size) (hV3 : V.all (·.oneCell') = true)
    (hdo : ∀ W, Calls Tryd.prog 30 #[.agg (crC (c.time false)), .pointer (some ⟨g, 0, none⟩), .agg (inC i), .int .u32 ((le32 x0 x1 x2 x3 : Nat) : Int)] W (StepOut cN V W)) :
    Calls Tryd.prog 11 #[.agg (crC c), .pointer (some ⟨g, 0, none⟩), .bool false] w (StepOut cN V w) := by
  have hx0 := hv.rb _ (List.mem_of_getElem? h0)
  have hx1 := hv.rb _ (List.mem_of_getElem? h1)
  have hx2 := hv.rb _ (List.mem_of_getElem? h2)
  have hx3 := hv.rb _ (List.mem_of_getElem? h3)
  have hwd : le32 x0 x1 x2 x3 < 4294967296 := by unfold le32; omega
  have HK := wall (fun (W : World) (h : Spans W) (h' : Sp W g v) => fetch_ok g v (c.g 32) o ((c.g 32 : Nat) : Int) x0 x1 x2 x3 W hv h' rfl (by have := hc.g 32; omega) hst h hk ho h0 h1 h2 h3)
  have HDC := wall (fun W => decode_any (le32 x0 x1 x2 x3) ((le32 x0 x1 x2 x3 : Nat) : Int) W rfl hwd)
  rw [hd] at HDC
  unfold InOut at HDC
  simp only at HDC
  have HDO := wall hdo
  have HVV := wall (And.intro hV1 (And.intro hV2 hV3))
  have HCN := wall hcn
  have HM := wall hm
  obtain ⟨wd, hwd'⟩ : ∃ y, le32 x0 x1 x2 x3 = y := ⟨_, rfl⟩
  rw [hwd'] at HK HDC HDO
  clear hx0 hx1 hx2 hx3 hwd hv hst hm hk ho h0 h1 h2 h3 hd hcn hV1 hV2 hV3 hdo hwd'
  have HC := wall hc
  have HCT := wall (hc.time false)
  have HF := wall (Fr.new w c)
  have HZ := wall cr_zero
  have HE := wall ev_zero
  have HS := wall hS
  have HG := wall hg
  obtain ⟨C, hC⟩ : ∃ y, crC c = y := ⟨_, rfl⟩
  obtain ⟨Z, hZ⟩ : ∃ y, crC crZ = y := ⟨_, rfl⟩
  obtain ⟨E, hE⟩ : ∃ y, evZ = y := ⟨_, rfl⟩
  rw [hC, hZ, hE] at HF
  rw [hZ] at HZ
  rw [hE] at HE
  rw [hC]
  clear hc hC hS hg
  go_enter Tryd.func11, Tryd.ntmps11
  go_upto_region 1 with (first | refine Big.wpList_alloc_at rfl 34 rfl Z HZ.out (w.heap.size + 1) (by simp) ?_ | refine Big.wpList_alloc_at rfl 44 rfl E HE.out (w.heap.size + 2) (by simp) ?_)
  try simp only [Act.put, List.setIfInBounds_toArray, List.set_cons_zero, List.set_cons_succ]
  refine wp_fr w c HF.out ?_
  intro w1 h1
  have H1 := wall h1
  have k41 := h1.c.tm HC.out
  have hfz := h1.frozen
  clear h1 HF
  go_upto_region 4 with fail
  refine wp_fr w (c.time false) (H1.out.time HC.out false) ?_
  clear H1 k41 hfz
  intro w2 h2
  have H2 := wall h2
  have k32 := h2.cell HCT.out (show 32 < 41 by decide)
  have e32 : (c.time false).g 32 = c.g 32 := rfl
  rw [e32] at k32
  have hpl := HC.out.g 32
  obtain ⟨pc, hpc⟩ : ∃ y, c.g 32 = y := ⟨_, rfl⟩
  rw [hpc] at k32 hpl HK
  obtain ⟨c2, hc2⟩ : ∃ y, c.time false = y := ⟨_, rfl⟩
  have HC2 := wall (show c2.Ok by rw [← hc2]; exact HCT.out)
  rw [hc2] at H2 HDO
  have HC20 := wall hc2
  have HPC2 := wall (show c2.g 32 = pc by rw [← hc2]; exact hpc)
  have HPC := wall hpc
  clear h2 e32 hpc hc2 HCT HC
  have HPL := wall hpl
  obtain ⟨D, hD⟩ : ∃ y, crC c2 = y := ⟨_, rfl⟩
  have HDE := wall hD
  have HS6 := wall (show (Tryd.prog.info? 34).map (·.size) = some D.size by rw [← hD, crC_size HC2.out]; exact cr_info)
  have HD2 := wall (show Blk w2 w.heap.size 34 D by rw [← hD]; exact H2.out.c)
  have hm1 : ((pc : Int) % 4 != 0) = false := by rw [bne_eq_false_iff_eq]; have := HM.out; rw [HPC.out] at this; omega
  clear HPC HC20 HM hpl
  unfold StepOut at HDO
  rw [hD] at HDO
  have HIN := wall (show (Tryd.prog.info? 42).map (·.size) = some (inC i).size ∧ (inC zIn).size = (inC i).size ∧ (inC i).all (·.oneCell') = true from ⟨in_info, rfl, inC_one' i⟩)
  have HNN := wall (show (Tryd.prog.info? 34).map (·.size) = some (crC cN).size ∧ Z.size = (crC cN).size ∧ (crC cN).all (·.oneCell') = true from ⟨by rw [crC_size HCN.out]; exact cr_info, by rw [← hZ, crC_size HCN.out, crC_size crZ_ok], crC_one _⟩)
  obtain ⟨I, hI⟩ : ∃ y, inC i = y := ⟨_, rfl⟩
  obtain ⟨D2, hDN⟩ : ∃ y, crC cN = y := ⟨_, rfl⟩
  have HDN := wall hDN
  rw [hI] at HDC HDO HIN
  rw [hDN] at HDO HNN
  clear hI hDN
  go_wp2_with fail
  (with_reducible refine (HK.out _ (HS.out.old H2.out.bel) (HG.out.old H2.out.bel)).mono ?_); rintro e w3 ⟨rfl, hB3⟩
  have H3 := wall (H2.out.next hB3)
  clear hB3 HK H2 HD2 k32 hm1 HS HG
  try simp only [Act.put, List.setIfInBounds_toArray, List.set_cons_zero, List.set_cons_succ]
  go_wp2_with fail
  (with_reducible refine (HDC.out _).mono ?_); rintro e w4 ⟨rfl, hB4⟩
  have H4 := wall (H3.out.next hB4)
  clear hB4 HDC H3
  try simp only [Act.put, List.setIfInBounds_toArray, List.set_cons_zero, List.set_cons_succ]
  go_upto_region 12 with (refine wpList_new_row rfl 42 (.tmp 10) (.tmp 67) rfl w4.heap.size I rfl rfl 42 (inC zIn) (Blk.new _ _ _) HIN.out.1 HIN.out.2.1 HIN.out.2.2 w4.heap.size w4 ((Below.refl _ w4).alloc (Nat.le_refl _) _) (Nat.le_refl _) ?_; intro w5 K5 B5)
  have H5 := wall (H4.out.next B5.out)
  have H5i := wall K5.out
  have H5c := wall (show Blk w5 w.heap.size 34 D by rw [← hD]; exact H5.out.c)
  clear K5 B5 H4
  try simp only [Act.put, List.setIfInBounds_toArray, List.set_cons_zero, List.set_cons_succ]
  go_wp2_with (first | refine wpList_load_row rfl 34 _ rfl w.heap.size rfl 34 D (0, 0) _ H5c.out Tryd.underlying34 rfl HS6.out ?_ | refine wpList_load_row rfl 42 _ rfl w4.heap.size rfl 42 I (0, 0) _ H5i.out Tryd.underlying42 rfl HIN.out.1 ?_)
  (with_reducible refine (HDO.out _).mono ?_); rintro e w6 ⟨rfl, hB6⟩
  have H6 := wall (H5.out.next hB6)
  have H6o := wall (show Blk w6 (w.heap.size + 1) 34 Z by rw [← hZ]; exact H6.out.o)
  have H6e := wall (show Blk w6 (w.heap.size + 2) 44 E by rw [← hE]; exact H6.out.e)
  have H6b := wall H6.out.bel
  rw [hE] at HVV
  clear hB6 H5 H5i H5c HDO H6
  try simp only [Act.put, List.setIfInBounds_toArray, List.set_cons_zero, List.set_cons_succ]
  go_wp2_with (first | (refine wpList_set_row rfl 34 (.tmp 6) (.tmp 81) rfl (w.heap.size + 1) D2 rfl rfl 34 Z H6o.out HNN.out.1 HNN.out.2.1 HNN.out.2.2 ?_; intro w7 K7 F7; have H7e := wall (H6e.out.frm F7.out (by simp)); have H7b := wall (Below.frm H6b.out F7.out (Nat.le_refl _) (by simp))) | (refine wpList_set_row rfl 44 (.tmp 7) (.tmp 82) rfl (w.heap.size + 2) V rfl rfl 44 E H7e.out HVV.out.1 HVV.out.2.1 HVV.out.2.2 ?_; intro w8 K8 F8))
  have K8o := wall (K7.out.frm F8.out (by simp))
  have HB8 := wall (Below.frm H7b.out F8.out (Nat.le_refl _) (by simp))
  go_light
  exact bodyPost_ret (v := .tuple #[.agg D2, .agg V]) (results_two Tryd.results11 _ _ (w.heap.size + 1) (w.heap.size + 2) 34 44 D2 V _ _ rfl rfl K8o.out K8.out Tryd.underlying34 rfl HNN.out.1 Tryd.underlying44 rfl HVV.out.1) rfl ⟨by rw [HDN.out], HB8.out⟩
end Core
end Go.Proofs.YtfiojpdkbckopaaDoor

/-
  A core: Step with the timer there.
-/
set_option linter.unusedSimpArgs false
set_option linter.unusedVariables false
namespace Go.Proofs.YtfiojpdkbckopaaDoor
open Go.RowKit

namespace Core
open Otp Sha Rv Grant Spc
set_option maxRecDepth 100000 in
set_option maxHeartbeats 4000000 in
theorem step_late (c : Cr) (hc : c.Ok) (g : Nat) (v : SpV) (o x0 x1 x2 x3 : Nat) (i : In) (cN : Cr) (V : Array Value) (w : World) (hS : Spans w) (hv : v.Ok) (hg : Sp w g v) (hst : (Lit.int .i64 v.st).wf = true) (hm : c.g 32 % 4 = 0) (hnl : c.g 34 / 128 % 2 = 0 ∨ c.g 33 / 8 % 2 = 0)
    (hk : chk 1 v.st (c.g 32) 4 false true = (1, o, 0)) (ho : o + 4 ≤ 4096) (h0 : v.ram[o]? = some x0) (h1 : v.ram[o + 1]? = some x1) (h2 : v.ram[o + 2]? = some x2) (h3 : v.ram[o + 3]? = some x3)
    (hd : dec (le32 x0 x1 x2 x3) = (i, true)) (hcn : cN.Ok) (hV1 : (Tryd.prog.info? 44).map (·.size) = some V.size) (hV2 : evZ.size = V.size) (hV3 : V.all (·.oneCell') = true)
    (hdo : ∀ W, Calls Tryd.prog 30 #[.agg (crC (c.time true)), .pointer (some ⟨g, 0, none⟩), .agg (inC i), .int .u32 ((le32 x0 x1 x2 x3 : Nat) : Int)] W (StepOut cN V W)) :
    Calls Tryd.prog 11 #[.agg (crC c), .pointer (some ⟨g, 0, none⟩), .bool true] w (StepOut cN V w) := by
  have hx0 := hv.rb _ (List.mem_of_getElem? h0)
  have hx1 := hv.rb _ (List.mem_of_getElem? h1)
  have hx2 := hv.rb _ (List.mem_of_getElem? h2)
  have hx3 := hv.rb _ (List.mem_of_getElem? h3)
  have hwd : le32 x0 x1 x2 x3 < 4294967296 := by unfold le32; omega
  have HK := wall (fun (W : World) (h : Spans W) (h' : Sp W g v) => fetch_ok g v (c.g 32) o ((c.g 32 : Nat) : Int) x0 x1 x2 x3 W hv h' rfl (by have := hc.g 32; omega) hst h hk ho h0 h1 h2 h3)
  have HDC := wall (fun W => decode_any (le32 x0 x1 x2 x3) ((le32 x0 x1 x2 x3 : Nat) : Int) W rfl hwd)
  rw [hd] at HDC
  unfold InOut at HDC
  simp only at HDC
  have HDO := wall hdo
  have HVV := wall (And.intro hV1 (And.intro hV2 hV3))
  have HCN := wall hcn
  have HM := wall hm
  obtain ⟨wd, hwd'⟩ : ∃ y, le32 x0 x1 x2 x3 = y := ⟨_, rfl⟩
  rw [hwd'] at HK HDC HDO
  have HNL := wall hnl
  clear hnl hx0 hx1 hx2 hx3 hwd hv hst hm hk ho h0 h1 h2 h3 hd hcn hV1 hV2 hV3 hdo hwd'
  have HC := wall hc
  have HCT := wall (hc.time true)
  have HF := wall (Fr.new w c)
  have HZ := wall cr_zero
  have HE := wall ev_zero
  have HS := wall hS
  have HG := wall hg
  obtain ⟨C, hC⟩ : ∃ y, crC c = y := ⟨_, rfl⟩
  obtain ⟨Z, hZ⟩ : ∃ y, crC crZ = y := ⟨_, rfl⟩
  obtain ⟨E, hE⟩ : ∃ y, evZ = y := ⟨_, rfl⟩
  rw [hC, hZ, hE] at HF
  rw [hZ] at HZ
  rw [hE] at HE
  rw [hC]
  clear hc hC hS hg
  go_enter Tryd.func11, Tryd.ntmps11
  go_upto_region 1 with (first | refine Big.wpList_alloc_at rfl 34 rfl Z HZ.out (w.heap.size + 1) (by simp) ?_ | refine Big.wpList_alloc_at rfl 44 rfl E HE.out (w.heap.size + 2) (by simp) ?_)
  try simp only [Act.put, List.setIfInBounds_toArray, List.set_cons_zero, List.set_cons_succ]
  refine wp_fr w c HF.out ?_
  intro w1 h1
  have H1 := wall h1
  have k41 := h1.c.tm HC.out
  have hfz := h1.frozen
  clear h1 HF
  go_upto_region 4 with fail
  refine wp_fr w (c.time true) (H1.out.time HC.out true) ?_
  clear H1 k41 hfz
  intro w2 h2
  have H2 := wall h2
  have k32 := h2.cell HCT.out (show 32 < 41 by decide)
  have e32 : (c.time true).g 32 = c.g 32 := rfl
  rw [e32] at k32
  have hpl := HC.out.g 32
  have k33 := h2.cell HCT.out (show 33 < 41 by decide)
  have k34 := h2.cell HCT.out (show 34 < 41 by decide)
  have e33 : (c.time true).g 33 = c.g 33 := rfl
  have e34 : (c.time true).g 34 = c.g 34 := rfl
  rw [e33] at k33
  rw [e34] at k34
  have hb8 := and8 (c.g 33) (HC.out.g 33)
  have hb128 := and128 (c.g 34) (HC.out.g 34)
  clear e33 e34
  obtain ⟨s8, hs8⟩ : ∃ y, c.g 33 / 8 % 2 = y := ⟨_, rfl⟩
  obtain ⟨s128, hs128⟩ : ∃ y, c.g 34 / 128 % 2 = y := ⟨_, rfl⟩
  rw [hs8, hs128] at HNL
  rw [hs8] at hb8
  rw [hs128] at hb128
  obtain ⟨s33, hs33⟩ : ∃ y, c.g 33 = y := ⟨_, rfl⟩
  obtain ⟨s34, hs34⟩ : ∃ y, c.g 34 = y := ⟨_, rfl⟩
  rw [hs33] at k33 hb8
  rw [hs34] at k34 hb128
  clear hs8 hs128 hs33 hs34
  go_cut [32] (fun v w' => v = .bool false ∧ w2 = w')
  case first =>
    clear HK HDC HDO HVV HCN HM HZ HE HS HG
    by_cases z1 : s128 = 0
    · have f1 : ((s128 : Int) * 128 != 0) = false := by rw [z1]; rfl
      clear z1 HNL
      go_wp2_with fail
      go_meet
      exact ⟨rfl, rfl⟩
    · have f1 : ((s128 : Int) * 128 != 0) = true := by rw [bne_iff_ne]; omega
      have f2 : ((s8 : Int) * 8 != 0) = false := by
        have z2 : s8 = 0 := by have := HNL.out; omega
        rw [z2]; rfl
      clear z1 HNL
      go_wp2_with fail
      go_meet
      exact ⟨rfl, rfl⟩
  case rest =>
  clear k33 k34 hb8 hb128 HNL
  obtain ⟨rfl, rfl⟩ := hcut
  obtain ⟨pc, hpc⟩ : ∃ y, c.g 32 = y := ⟨_, rfl⟩
  rw [hpc] at k32 hpl HK
  obtain ⟨c2, hc2⟩ : ∃ y, c.time true = y := ⟨_, rfl⟩
  have HC2 := wall (show c2.Ok by rw [← hc2]; exact HCT.out)
  rw [hc2] at H2 HDO
  have HC20 := wall hc2
  have HPC2 := wall (show c2.g 32 = pc by rw [← hc2]; exact hpc)
  have HPC := wall hpc
  clear h2 e32 hpc hc2 HCT HC
  have HPL := wall hpl
  obtain ⟨D, hD⟩ : ∃ y, crC c2 = y := ⟨_, rfl⟩
  have HDE := wall hD
  have HS6 := wall (show (Tryd.prog.info? 34).map (·.size) = some D.size by rw [← hD, crC_size HC2.out]; exact cr_info)
  have HD2 := wall (show Blk w2 w.heap.size 34 D by rw [← hD]; exact H2.out.c)
  have hm1 : ((pc : Int) % 4 != 0) = false := by rw [bne_eq_false_iff_eq]; have := HM.out; rw [HPC.out] at this; omega
  clear HPC HC20 HM hpl
  unfold StepOut at HDO
  rw [hD] at HDO
  have HIN := wall (show (Tryd.prog.info? 42).map (·.size) = some (inC i).size ∧ (inC zIn).size = (inC i).size ∧ (inC i).all (·.oneCell') = true from ⟨in_info, rfl, inC_one' i⟩)
  have HNN := wall (show (Tryd.prog.info? 34).map (·.size) = some (crC cN).size ∧ Z.size = (crC cN).size ∧ (crC cN).all (·.oneCell') = true from ⟨by rw [crC_size HCN.out]; exact cr_info, by rw [← hZ, crC_size HCN.out, crC_size crZ_ok], crC_one _⟩)
  obtain ⟨I, hI⟩ : ∃ y, inC i = y := ⟨_, rfl⟩
  obtain ⟨D2, hDN⟩ : ∃ y, crC cN = y := ⟨_, rfl⟩
  have HDN := wall hDN
  rw [hI] at HDC HDO HIN
  rw [hDN] at HDO HNN
  clear hI hDN
  go_wp2_with fail
  (with_reducible refine (HK.out _ (HS.out.old H2.out.bel) (HG.out.old H2.out.bel)).mono ?_); rintro e w3 ⟨rfl, hB3⟩
  have H3 := wall (H2.out.next hB3)
  clear hB3 HK H2 HD2 k32 hm1 HS HG
  try simp only [Act.put, List.setIfInBounds_toArray, List.set_cons_zero, List.set_cons_succ]
  go_wp2_with fail
  (with_reducible refine (HDC.out _).mono ?_); rintro e w4 ⟨rfl, hB4⟩
  have H4 := wall (H3.out.next hB4)
  clear hB4 HDC H3
  try simp only [Act.put, List.setIfInBounds_toArray, List.set_cons_zero, List.set_cons_succ]
  go_upto_region 12 with (refine wpList_new_row rfl 42 (.tmp 10) (.tmp 67) rfl w4.heap.size I rfl rfl 42 (inC zIn) (Blk.new _ _ _) HIN.out.1 HIN.out.2.1 HIN.out.2.2 w4.heap.size w4 ((Below.refl _ w4).alloc (Nat.le_refl _) _) (Nat.le_refl _) ?_; intro w5 K5 B5)
  have H5 := wall (H4.out.next B5.out)
  have H5i := wall K5.out
  have H5c := wall (show Blk w5 w.heap.size 34 D by rw [← hD]; exact H5.out.c)
  clear K5 B5 H4
  try simp only [Act.put, List.setIfInBounds_toArray, List.set_cons_zero, List.set_cons_succ]
  go_wp2_with (first | refine wpList_load_row rfl 34 _ rfl w.heap.size rfl 34 D (0, 0) _ H5c.out Tryd.underlying34 rfl HS6.out ?_ | refine wpList_load_row rfl 42 _ rfl w4.heap.size rfl 42 I (0, 0) _ H5i.out Tryd.underlying42 rfl HIN.out.1 ?_)
  (with_reducible refine (HDO.out _).mono ?_); rintro e w6 ⟨rfl, hB6⟩
  have H6 := wall (H5.out.next hB6)
  have H6o := wall (show Blk w6 (w.heap.size + 1) 34 Z by rw [← hZ]; exact H6.out.o)
  have H6e := wall (show Blk w6 (w.heap.size + 2) 44 E by rw [← hE]; exact H6.out.e)
  have H6b := wall H6.out.bel
  rw [hE] at HVV
  clear hB6 H5 H5i H5c HDO H6
  try simp only [Act.put, List.setIfInBounds_toArray, List.set_cons_zero, List.set_cons_succ]
  go_wp2_with (first | (refine wpList_set_row rfl 34 (.tmp 6) (.tmp 81) rfl (w.heap.size + 1) D2 rfl rfl 34 Z H6o.out HNN.out.1 HNN.out.2.1 HNN.out.2.2 ?_; intro w7 K7 F7; have H7e := wall (H6e.out.frm F7.out (by simp)); have H7b := wall (Below.frm H6b.out F7.out (Nat.le_refl _) (by simp))) | (refine wpList_set_row rfl 44 (.tmp 7) (.tmp 82) rfl (w.heap.size + 2) V rfl rfl 44 E H7e.out HVV.out.1 HVV.out.2.1 HVV.out.2.2 ?_; intro w8 K8 F8))
  have K8o := wall (K7.out.frm F8.out (by simp))
  have HB8 := wall (Below.frm H7b.out F8.out (Nat.le_refl _) (by simp))
  go_light
  exact bodyPost_ret (v := .tuple #[.agg D2, .agg V]) (results_two Tryd.results11 _ _ (w.heap.size + 1) (w.heap.size + 2) 34 44 D2 V _ _ rfl rfl K8o.out K8.out Tryd.underlying34 rfl HNN.out.1 Tryd.underlying44 rfl HVV.out.1) rfl ⟨by rw [HDN.out], HB8.out⟩
end Core
end Go.Proofs.YtfiojpdkbckopaaDoor

/-
  A core: Step with the timer there, where it is let.
-/
set_option linter.unusedSimpArgs false
set_option linter.unusedVariables false
namespace Go.Proofs.YtfiojpdkbckopaaDoor
open Go.RowKit

namespace Core
open Otp Sha Rv Grant Spc
set_option maxRecDepth 100000 in
set_option maxHeartbeats 4000000 in
theorem step_timed (c : Cr) (hc : c.Ok) (g : Nat) (w : World) (h1 : c.g 34 / 128 % 2 = 1) (h2 : c.g 33 / 8 % 2 = 1) :
    Calls Tryd.prog 11 #[.agg (crC c), .pointer (some ⟨g, 0, none⟩), .bool true] w (StepOut (trapC (c.time true) 2147483655 (c.g 32)) (evC true 2147483655 zIn 0 none 0 0) w) := by
  have HC := wall hc
  have HCT := wall (hc.time true)
  have HF := wall (Fr.new w c)
  have HZ := wall cr_zero
  have HE := wall ev_zero
  have HBI := wall (And.intro h1 h2)
  obtain ⟨C, hC⟩ : ∃ y, crC c = y := ⟨_, rfl⟩
  obtain ⟨Z, hZ⟩ : ∃ y, crC crZ = y := ⟨_, rfl⟩
  obtain ⟨E, hE⟩ : ∃ y, evZ = y := ⟨_, rfl⟩
  rw [hC, hZ, hE] at HF
  rw [hZ] at HZ
  rw [hE] at HE
  rw [hC]
  clear hc hC h1 h2
  go_enter Tryd.func11, Tryd.ntmps11
  go_upto_region 1 with (first | refine Big.wpList_alloc_at rfl 34 rfl Z HZ.out (w.heap.size + 1) (by simp) ?_ | refine Big.wpList_alloc_at rfl 44 rfl E HE.out (w.heap.size + 2) (by simp) ?_)
  try simp only [Act.put, List.setIfInBounds_toArray, List.set_cons_zero, List.set_cons_succ]
  refine wp_fr w c HF.out ?_
  intro w1 h1
  have H1 := wall h1
  have k41 := h1.c.tm HC.out
  have hfz := h1.frozen
  clear h1 HF
  go_upto_region 4 with fail
  refine wp_fr w (c.time true) (H1.out.time HC.out true) ?_
  clear H1 k41 hfz
  intro w2 h2
  have H2 := wall h2
  have k32 := h2.cell HCT.out (show 32 < 41 by decide)
  have e32 : (c.time true).g 32 = c.g 32 := rfl
  rw [e32] at k32
  have hpl := HC.out.g 32
  have k33 := h2.cell HCT.out (show 33 < 41 by decide)
  have k34 := h2.cell HCT.out (show 34 < 41 by decide)
  have e33 : (c.time true).g 33 = c.g 33 := rfl
  have e34 : (c.time true).g 34 = c.g 34 := rfl
  rw [e33] at k33
  rw [e34] at k34
  have hb8 := and8 (c.g 33) (HC.out.g 33)
  have hb128 := and128 (c.g 34) (HC.out.g 34)
  rw [HBI.out.2] at hb8
  rw [HBI.out.1] at hb128
  obtain ⟨s33, hs33⟩ : ∃ y, c.g 33 = y := ⟨_, rfl⟩
  obtain ⟨s34, hs34⟩ : ∃ y, c.g 34 = y := ⟨_, rfl⟩
  rw [hs33] at k33 hb8
  rw [hs34] at k34 hb128
  have f1 : (((1 * 128 : Nat) : Int) != 0) = true := by decide
  have f2 : (((1 * 8 : Nat) : Int) != 0) = true := by decide
  clear e33 e34 hs33 hs34 HBI
  obtain ⟨pc, hpc⟩ : ∃ y, c.g 32 = y := ⟨_, rfl⟩
  rw [hpc] at k32 hpl ⊢
  obtain ⟨c2, hc2⟩ : ∃ y, c.time true = y := ⟨_, rfl⟩
  have HC2 := wall (show c2.Ok by rw [← hc2]; exact HCT.out)
  rw [hc2] at H2 ⊢
  have HC20 := wall hc2
  have HPC := wall hpc
  clear h2 e32 hpc hc2 HCT HC
  have HPL := wall hpl
  obtain ⟨D, hD⟩ : ∃ y, crC c2 = y := ⟨_, rfl⟩
  have HS6 := wall (show (Tryd.prog.info? 34).map (·.size) = some D.size by rw [← hD, crC_size HC2.out]; exact cr_info)
  have HD2 := wall (show Blk w2 w.heap.size 34 D by rw [← hD]; exact H2.out.c)
  have HTR := wall (fun W => show Calls Tryd.prog 27 #[.agg (crC c2), .int .u32 2147483655, .int .u32 (pc : Int)] W (StepOut (trapC c2 2147483655 pc) (evC true 2147483655 zIn 0 none 0 0) W) from trap_any c2 HC2.out 2147483655 pc W (by decide) HPL.out)
  unfold StepOut at HTR
  rw [hD] at HTR
  clear hpl
  go_wp2_with (refine wpList_load_row rfl 34 _ rfl w.heap.size rfl 34 D (0, 0) _ HD2.out Tryd.underlying34 rfl HS6.out ?_)
  (with_reducible refine (HTR.out _).mono ?_); rintro e w3 ⟨rfl, hB3⟩
  have H3 := H2.out.next hB3
  have H3o := wall (show Blk w3 (w.heap.size + 1) 34 Z by rw [← hZ]; exact H3.o)
  have H3e := wall (show Blk w3 (w.heap.size + 2) 44 E by rw [← hE]; exact H3.e)
  have H3b := wall H3.bel
  have HCN := wall (Cr.Ok.trap HC2.out (show 2147483655 < 4294967296 by decide) HPL.out)
  have HS7 := wall (show (Tryd.prog.info? 34).map (·.size) = some (crC (trapC c2 2147483655 pc)).size by rw [crC_size HCN.out]; exact cr_info)
  have HSZ := wall (show Z.size = (crC (trapC c2 2147483655 pc)).size by rw [← hZ, crC_size HCN.out, crC_size crZ_ok])
  have HO7 := wall (crC_one (trapC c2 2147483655 pc))
  have HEI := wall (show (Tryd.prog.info? 44).map (·.size) = some (evC true 2147483655 zIn 0 none 0 0).size from ev_info)
  have HEZ := wall (show E.size = (evC true 2147483655 zIn 0 none 0 0).size by rw [← hE]; rfl)
  have HEO := wall (evC_one true 2147483655 zIn 0 none 0 0)
  obtain ⟨D3, hD3⟩ : ∃ y, crC (trapC c2 2147483655 pc) = y := ⟨_, rfl⟩
  obtain ⟨V, hV⟩ : ∃ y, evC true 2147483655 zIn 0 none 0 0 = y := ⟨_, rfl⟩
  have HD3 := wall hD3
  have HV := wall hV
  rw [hD3] at HS7 HSZ HO7
  rw [hV] at HEI HEZ HEO
  rw [hD3, hV]
  clear H3 hB3 hD3 hV hZ hE hD HTR H2 HD2 k32 k33 k34 hb8 hb128 f1 f2
  try simp only [Act.put, List.setIfInBounds_toArray, List.set_cons_zero, List.set_cons_succ]
  go_wp2_with (first | (refine wpList_set_row rfl 34 (.tmp 6) (.tmp 37) rfl (w.heap.size + 1) D3 rfl rfl 34 Z H3o.out HS7.out HSZ.out HO7.out ?_; intro w4 K4 F4; have H4e := wall (H3e.out.frm F4.out (by simp)); have H4b := wall (Below.frm H3b.out F4.out (Nat.le_refl _) (by simp))) | (refine wpList_set_row rfl 44 (.tmp 7) (.tmp 38) rfl (w.heap.size + 2) V rfl rfl 44 E H4e.out HEI.out HEZ.out HEO.out ?_; intro w5 K5 F5))
  have K5o := wall (K4.out.frm F5.out (by simp))
  have HB5 := wall (Below.frm H4b.out F5.out (Nat.le_refl _) (by simp))
  go_light
  exact bodyPost_ret (v := .tuple #[.agg D3, .agg V]) (results_two Tryd.results11 _ _ (w.heap.size + 1) (w.heap.size + 2) 34 44 D3 V _ _ rfl rfl K5o.out K5.out Tryd.underlying34 rfl HS7.out Tryd.underlying44 rfl HEI.out) rfl ⟨by rw [HC20.out, HPC.out, HD3.out, HV.out], HB5.out⟩
end Core
end Go.Proofs.YtfiojpdkbckopaaDoor
