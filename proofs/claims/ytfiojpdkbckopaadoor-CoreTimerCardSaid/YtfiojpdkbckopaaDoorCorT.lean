/-
  A core: Set of some CSRs.
-/
import Derived.Test.YtfiojpdkbckopaaDoorJ8329983b
set_option linter.unusedSimpArgs false
set_option linter.unusedVariables false
namespace Go.Proofs.YtfiojpdkbckopaaDoor
open Go.RowKit

namespace Core
open Otp Sha Rv
theorem and136_table : ∀ x : Fin 256, x.val &&& 136 = x.val / 8 % 2 * 8 + x.val / 128 % 2 * 128 := by decide +kernel
theorem and136 (v : Nat) (hv : v < 4294967296) : bits .and .u32 (v : Int) 136 = ((v / 8 % 2 * 8 + v / 128 % 2 * 128 : Nat) : Int) := by
  have h1 : bits .and .u32 (v : Int) ((136 : Nat) : Int) = ((v &&& 136 : Nat) : Int) := bits_and_u32 v 136 hv (by decide)
  have h2 : v &&& 136 = (v % 256) &&& 136 := by
    rw [show (136 : Nat) = (2 ^ 8 - 1) &&& 136 from rfl, ← Nat.and_assoc, Nat.and_two_pow_sub_one_eq_mod]
    rfl
  have h3 := and136_table ⟨v % 256, Nat.mod_lt _ (by decide)⟩
  simp only at h3
  refine h1.trans ?_
  rw [h2, h3]
  omega
def SetOut (c : Cr) (w : World) (e : Ending) (w' : World) : Prop := e = .returned (.tuple #[.agg (crC c), .bool true]) ∧ Below w.heap.size w w'
set_option maxRecDepth 100000 in
set_option maxHeartbeats 4000000 in
theorem set_772 (c : Cr) (hc : c.Ok) (v : Nat) (w : World) (hv : v < 4294967296) : Calls Tryd.prog 17 #[.agg (crC c), .int .u16 772, .int .u32 (v : Int)] w (SetOut (c.set 34 (v / 128 % 2 * 128)) w) := by
  have HC := wall hc
  have HF := wall (Fq.new w c)
  have HZ := wall cr_zero
  have hb := and128 v hv
  obtain ⟨nv, hnv⟩ : ∃ y, v / 128 % 2 * 128 = y := ⟨_, rfl⟩
  have HNV := wall (show nv < 4294967296 by rw [← hnv]; omega)
  rw [hnv] at hb ⊢
  obtain ⟨C, hC⟩ : ∃ y, crC c = y := ⟨_, rfl⟩
  obtain ⟨Z, hZ⟩ : ∃ y, crC crZ = y := ⟨_, rfl⟩
  rw [hC, hZ] at HF
  rw [hZ] at HZ
  rw [hC]
  have HCT := wall (hc.set 34 nv HNV.out)
  clear hc hv hC hnv
  go_enter Tryd.func17, Tryd.ntmps17
  go_upto_region 1 with (first | refine Big.wpList_alloc_at rfl 34 rfl Z HZ.out (w.heap.size + 1) (by simp) ?_)
  try simp only [Act.put, List.setIfInBounds_toArray, List.set_cons_zero, List.set_cons_succ]
  refine wp_fq w c HF.out ?_
  intro w1 h1
  have H1 := wall h1
  have hkk := h1.cell HC.out (show 34 < 41 by decide)
  have hfz := h1.frozen
  clear h1 HF
  go_upto_region 19 with fail
  refine wp_fq w (c.set 34 nv) (H1.out.put HC.out (by decide) nv) ?_
  clear hkk hfz H1 hb
  intro w3 h3
  obtain ⟨c6, hc6⟩ : ∃ y, c.set 34 nv = y := ⟨_, rfl⟩
  have HC6 := wall hc6
  rw [hc6] at HCT h3
  clear hc6
  have HS6 := wall (show (Tryd.prog.info? 34).map (·.size) = some (crC c6).size by rw [crC_size HCT.out]; exact cr_info)
  have HSZ := wall (show (crC crZ).size = (crC c6).size by rw [crC_size HCT.out, crC_size crZ_ok])
  have HO6 := wall (crC_one c6)
  have H3 := wall (show Blk w3 w.heap.size 34 (crC c6) from h3.c)
  have H3o := wall h3.o
  have H3b := wall h3.bel
  clear h3
  obtain ⟨D, hD⟩ : ∃ y, crC c6 = y := ⟨_, rfl⟩
  have HD := wall hD
  rw [hD] at H3 HS6 HSZ HO6
  rw [hZ] at H3o HSZ
  clear hD hZ HZ
  go_wp2_with (first | refine wpList_load_row rfl 34 _ rfl w.heap.size rfl 34 D (0, 0) _ H3.out Tryd.underlying34 rfl HS6.out ?_ | (refine wpList_set_row rfl 34 (.tmp 6) (.tmp 54) rfl (w.heap.size + 1) D rfl rfl 34 Z H3o.out HS6.out HSZ.out HO6.out ?_; intro w4 K4 F4))
  have H4b := wall (Below.frm H3b.out F4.out (Nat.le_refl _) (by simp))
  go_light
  exact bodyPost_ret (v := .tuple #[.agg D, .bool true]) (results_one_slot Tryd.results17 _ _ (w.heap.size + 1) 34 D _ (.bool true) rfl rfl K4.out Tryd.underlying34 rfl HS6.out) rfl ⟨by rw [HC6.out, HD.out], H4b.out⟩
set_option maxRecDepth 100000 in
set_option maxHeartbeats 4000000 in
theorem set_768 (c : Cr) (hc : c.Ok) (v : Nat) (w : World) (hv : v < 4294967296) : Calls Tryd.prog 17 #[.agg (crC c), .int .u16 768, .int .u32 (v : Int)] w (SetOut (c.set 33 (v / 8 % 2 * 8 + v / 128 % 2 * 128)) w) := by
  have HC := wall hc
  have HF := wall (Fq.new w c)
  have HZ := wall cr_zero
  have hb := and136 v hv
  obtain ⟨nv, hnv⟩ : ∃ y, v / 8 % 2 * 8 + v / 128 % 2 * 128 = y := ⟨_, rfl⟩
  have HNV := wall (show nv < 4294967296 by rw [← hnv]; omega)
  rw [hnv] at hb ⊢
  obtain ⟨C, hC⟩ : ∃ y, crC c = y := ⟨_, rfl⟩
  obtain ⟨Z, hZ⟩ : ∃ y, crC crZ = y := ⟨_, rfl⟩
  rw [hC, hZ] at HF
  rw [hZ] at HZ
  rw [hC]
  have HCT := wall (hc.set 33 nv HNV.out)
  clear hc hv hC hnv
  go_enter Tryd.func17, Tryd.ntmps17
  go_upto_region 1 with (first | refine Big.wpList_alloc_at rfl 34 rfl Z HZ.out (w.heap.size + 1) (by simp) ?_)
  try simp only [Act.put, List.setIfInBounds_toArray, List.set_cons_zero, List.set_cons_succ]
  refine wp_fq w c HF.out ?_
  intro w1 h1
  have H1 := wall h1
  have hkk := h1.cell HC.out (show 33 < 41 by decide)
  have hfz := h1.frozen
  clear h1 HF
  go_upto_region 19 with fail
  refine wp_fq w (c.set 33 nv) (H1.out.put HC.out (by decide) nv) ?_
  clear hkk hfz H1 hb
  intro w3 h3
  obtain ⟨c6, hc6⟩ : ∃ y, c.set 33 nv = y := ⟨_, rfl⟩
  have HC6 := wall hc6
  rw [hc6] at HCT h3
  clear hc6
  have HS6 := wall (show (Tryd.prog.info? 34).map (·.size) = some (crC c6).size by rw [crC_size HCT.out]; exact cr_info)
  have HSZ := wall (show (crC crZ).size = (crC c6).size by rw [crC_size HCT.out, crC_size crZ_ok])
  have HO6 := wall (crC_one c6)
  have H3 := wall (show Blk w3 w.heap.size 34 (crC c6) from h3.c)
  have H3o := wall h3.o
  have H3b := wall h3.bel
  clear h3
  obtain ⟨D, hD⟩ : ∃ y, crC c6 = y := ⟨_, rfl⟩
  have HD := wall hD
  rw [hD] at H3 HS6 HSZ HO6
  rw [hZ] at H3o HSZ
  clear hD hZ HZ
  go_wp2_with (first | refine wpList_load_row rfl 34 _ rfl w.heap.size rfl 34 D (0, 0) _ H3.out Tryd.underlying34 rfl HS6.out ?_ | (refine wpList_set_row rfl 34 (.tmp 6) (.tmp 54) rfl (w.heap.size + 1) D rfl rfl 34 Z H3o.out HS6.out HSZ.out HO6.out ?_; intro w4 K4 F4))
  have H4b := wall (Below.frm H3b.out F4.out (Nat.le_refl _) (by simp))
  go_light
  exact bodyPost_ret (v := .tuple #[.agg D, .bool true]) (results_one_slot Tryd.results17 _ _ (w.heap.size + 1) 34 D _ (.bool true) rfl rfl K4.out Tryd.underlying34 rfl HS6.out) rfl ⟨by rw [HC6.out, HD.out], H4b.out⟩
set_option maxRecDepth 100000 in
set_option maxHeartbeats 4000000 in
theorem set_773 (c : Cr) (hc : c.Ok) (v : Nat) (w : World) (hv : v < 4294967296) : Calls Tryd.prog 17 #[.agg (crC c), .int .u16 773, .int .u32 (v : Int)] w (SetOut (c.set 35 (v - v % 4)) w) := by
  have HC := wall hc
  have HF := wall (Fq.new w c)
  have HZ := wall cr_zero
  have hb := andNot3 v hv
  obtain ⟨nv, hnv⟩ : ∃ y, v - v % 4 = y := ⟨_, rfl⟩
  have HNV := wall (show nv < 4294967296 by rw [← hnv]; omega)
  rw [hnv] at hb ⊢
  obtain ⟨C, hC⟩ : ∃ y, crC c = y := ⟨_, rfl⟩
  obtain ⟨Z, hZ⟩ : ∃ y, crC crZ = y := ⟨_, rfl⟩
  rw [hC, hZ] at HF
  rw [hZ] at HZ
  rw [hC]
  have HCT := wall (hc.set 35 nv HNV.out)
  clear hc hv hC hnv
  go_enter Tryd.func17, Tryd.ntmps17
  go_upto_region 1 with (first | refine Big.wpList_alloc_at rfl 34 rfl Z HZ.out (w.heap.size + 1) (by simp) ?_)
  try simp only [Act.put, List.setIfInBounds_toArray, List.set_cons_zero, List.set_cons_succ]
  refine wp_fq w c HF.out ?_
  intro w1 h1
  have H1 := wall h1
  have hkk := h1.cell HC.out (show 35 < 41 by decide)
  have hfz := h1.frozen
  clear h1 HF
  go_upto_region 19 with fail
  refine wp_fq w (c.set 35 nv) (H1.out.put HC.out (by decide) nv) ?_
  clear hkk hfz H1 hb
  intro w3 h3
  obtain ⟨c6, hc6⟩ : ∃ y, c.set 35 nv = y := ⟨_, rfl⟩
  have HC6 := wall hc6
  rw [hc6] at HCT h3
  clear hc6
  have HS6 := wall (show (Tryd.prog.info? 34).map (·.size) = some (crC c6).size by rw [crC_size HCT.out]; exact cr_info)
  have HSZ := wall (show (crC crZ).size = (crC c6).size by rw [crC_size HCT.out, crC_size crZ_ok])
  have HO6 := wall (crC_one c6)
  have H3 := wall (show Blk w3 w.heap.size 34 (crC c6) from h3.c)
  have H3o := wall h3.o
  have H3b := wall h3.bel
  clear h3
  obtain ⟨D, hD⟩ : ∃ y, crC c6 = y := ⟨_, rfl⟩
  have HD := wall hD
  rw [hD] at H3 HS6 HSZ HO6
  rw [hZ] at H3o HSZ
  clear hD hZ HZ
  go_wp2_with (first | refine wpList_load_row rfl 34 _ rfl w.heap.size rfl 34 D (0, 0) _ H3.out Tryd.underlying34 rfl HS6.out ?_ | (refine wpList_set_row rfl 34 (.tmp 6) (.tmp 54) rfl (w.heap.size + 1) D rfl rfl 34 Z H3o.out HS6.out HSZ.out HO6.out ?_; intro w4 K4 F4))
  have H4b := wall (Below.frm H3b.out F4.out (Nat.le_refl _) (by simp))
  go_light
  exact bodyPost_ret (v := .tuple #[.agg D, .bool true]) (results_one_slot Tryd.results17 _ _ (w.heap.size + 1) 34 D _ (.bool true) rfl rfl K4.out Tryd.underlying34 rfl HS6.out) rfl ⟨by rw [HC6.out, HD.out], H4b.out⟩
end Core
end Go.Proofs.YtfiojpdkbckopaaDoor
