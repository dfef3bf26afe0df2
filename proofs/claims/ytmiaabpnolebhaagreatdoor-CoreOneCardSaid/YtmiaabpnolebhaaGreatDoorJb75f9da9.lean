/-
  Texts of this claim, joined: CorT, CorCs, LateRow, CorCr.
-/
import Derived.Test.YtmiaabpnolebhaaGreatDoorJ833629f2
set_option maxHeartbeats 4000000
set_option maxRecDepth 100000
set_option linter.unusedSimpArgs false
set_option linter.unusedVariables false
namespace Go.Proofs.YtmiaabpnolebhaaGreatDoor
open Go.RowKit

namespace Core
open Otp Sha Rv
theorem and136_table : ∀ x : Fin 256, x.val &&& 136 = x.val / 8 % 2 * 8 + x.val / 128 % 2 * 128 := by decide +kernel
theorem and136 (v : Nat) (hv : v < 4294967296) : bits .and .u32 (v : Int) 136 = ((v / 8 % 2 * 8 + v / 128 % 2 * 128 : Nat) : Int) := by
 have h1 : bits .and .u32 (v : Int) ((136 : Nat) : Int) = ((v &&& 136 : Nat) : Int) := bits_and_u32 v 136 hv (by decide)
 have h2 : v &&& 136 = (v % 256) &&& 136 := by
  rw [show (136 : Nat) = (2 ^ 8 - 1) &&& 136 from rfl, ← Nat.and_assoc, Nat.and_two_pow_sub_one_eq_mod]
  rfl
 have h3 := and136_table ⟨v % 256, Nat.mod_lt _ (by decide)⟩
 simp only at h3
 refine h1.trans ?_
 rw [h2, h3]
 omega
def SetOut (c : Cr) (w : World) (e : Ending) (w' : World) : Prop := e = .returned (.tuple #[.agg (crC c), .bool true]) ∧ Below w.heap.size w w'
theorem set_772 (c : Cr) (hc : c.Ok) (v : Nat) (w : World) (hv : v < 4294967296) : Calls Tryz.prog 95 #[.agg (crC c), .int .u16 772, .int .u32 (v : Int)] w (SetOut (c.set 34 (v / 128 % 2 * 128)) w) := by
 have HC := wall hc
 have HF := wall (Fq.new w c)
 have HZ := wall cr_zero
 have hb := and128 v hv
 obtain ⟨nv, hnv⟩ : ∃ y, v / 128 % 2 * 128 = y := ⟨_, rfl⟩
 have HNV := wall (show nv < 4294967296 by rw [← hnv]; omega)
 rw [hnv] at hb ⊢
 obtain ⟨C, hC⟩ : ∃ y, crC c = y := ⟨_, rfl⟩
 obtain ⟨Z, hZ⟩ : ∃ y, crC crZ = y := ⟨_, rfl⟩
 rw [hC, hZ] at HF
 rw [hZ] at HZ
 rw [hC]
 have HCT := wall (hc.set 34 nv HNV.out)
 clear hc hv hC hnv
 go_enter Tryz.func95, Tryz.ntmps95
 go_upto_region 1 with (first | refine Big.wpList_alloc_at rfl 71 rfl Z HZ.out (w.heap.size + 1) (by simp) ?_)
 try simp only [Act.put, rpA, rpB, rpC]
 refine wp_fq w c HF.out ?_
 intro w1 h1
 have H1 := wall h1
 have hkk := h1.cell HC.out (show 34 < 41 by decide)
 have hfz := h1.frozen
 clear h1 HF
 go_upto_region 19 with fail
 refine wp_fq w (c.set 34 nv) (H1.out.put HC.out (by decide) nv) ?_
 clear hkk hfz H1 hb
 intro w3 h3
 obtain ⟨c6, hc6⟩ : ∃ y, c.set 34 nv = y := ⟨_, rfl⟩
 have HC6 := wall hc6
 rw [hc6] at HCT h3
 clear hc6
 have HS6 := wall (show (Tryz.prog.info? 71).map (·.size) = some (crC c6).size by rw [crC_size HCT.out]; exact cr_info)
 have HSZ := wall (show (crC crZ).size = (crC c6).size by rw [crC_size HCT.out, crC_size crZ_ok])
 have HO6 := wall (crC_one c6)
 have H3 := wall (show Blk w3 w.heap.size 71 (crC c6) from h3.c)
 have H3o := wall h3.o
 have H3b := wall h3.bel
 clear h3
 obtain ⟨D, hD⟩ : ∃ y, crC c6 = y := ⟨_, rfl⟩
 have HD := wall hD
 rw [hD] at H3 HS6 HSZ HO6
 rw [hZ] at H3o HSZ
 clear hD hZ HZ
 go_wp2_with (first | refine wpList_load_row rfl 71 _ rfl w.heap.size rfl 71 D (0, 0) _ H3.out Tryz.underlying71 rfl HS6.out ?_ | (refine wpList_set_row rfl 71 (.tmp 6) (.tmp 54) rfl (w.heap.size + 1) D rfl rfl 71 Z H3o.out HS6.out HSZ.out HO6.out ?_; intro w4 K4 F4))
 have H4b := wall (Below.frm H3b.out F4.out (Nat.le_refl _) (by simp))
 go_light
 exact bodyPost_ret (v := .tuple #[.agg D, .bool true]) (results_one_slot Tryz.results95 _ _ (w.heap.size + 1) 71 D _ (.bool true) rfl rfl K4.out Tryz.underlying71 rfl HS6.out) rfl ⟨by rw [HC6.out, HD.out], H4b.out⟩
theorem set_768 (c : Cr) (hc : c.Ok) (v : Nat) (w : World) (hv : v < 4294967296) : Calls Tryz.prog 95 #[.agg (crC c), .int .u16 768, .int .u32 (v : Int)] w (SetOut (c.set 33 (v / 8 % 2 * 8 + v / 128 % 2 * 128)) w) := by
 have HC := wall hc
 have HF := wall (Fq.new w c)
 have HZ := wall cr_zero
 have hb := and136 v hv
 obtain ⟨nv, hnv⟩ : ∃ y, v / 8 % 2 * 8 + v / 128 % 2 * 128 = y := ⟨_, rfl⟩
 have HNV := wall (show nv < 4294967296 by rw [← hnv]; omega)
 rw [hnv] at hb ⊢
 obtain ⟨C, hC⟩ : ∃ y, crC c = y := ⟨_, rfl⟩
 obtain ⟨Z, hZ⟩ : ∃ y, crC crZ = y := ⟨_, rfl⟩
 rw [hC, hZ] at HF
 rw [hZ] at HZ
 rw [hC]
 have HCT := wall (hc.set 33 nv HNV.out)
 clear hc hv hC hnv
 go_enter Tryz.func95, Tryz.ntmps95
 go_upto_region 1 with (first | refine Big.wpList_alloc_at rfl 71 rfl Z HZ.out (w.heap.size + 1) (by simp) ?_)
 try simp only [Act.put, rpA, rpB, rpC]
 refine wp_fq w c HF.out ?_
 intro w1 h1
 have H1 := wall h1
 have hkk := h1.cell HC.out (show 33 < 41 by decide)
 have hfz := h1.frozen
 clear h1 HF
 go_upto_region 19 with fail
 refine wp_fq w (c.set 33 nv) (H1.out.put HC.out (by decide) nv) ?_
 clear hkk hfz H1 hb
 intro w3 h3
 obtain ⟨c6, hc6⟩ : ∃ y, c.set 33 nv = y := ⟨_, rfl⟩
 have HC6 := wall hc6
 rw [hc6] at HCT h3
 clear hc6
 have HS6 := wall (show (Tryz.prog.info? 71).map (·.size) = some (crC c6).size by rw [crC_size HCT.out]; exact cr_info)
 have HSZ := wall (show (crC crZ).size = (crC c6).size by rw [crC_size HCT.out, crC_size crZ_ok])
 have HO6 := wall (crC_one c6)
 have H3 := wall (show Blk w3 w.heap.size 71 (crC c6) from h3.c)
 have H3o := wall h3.o
 have H3b := wall h3.bel
 clear h3
 obtain ⟨D, hD⟩ : ∃ y, crC c6 = y := ⟨_, rfl⟩
 have HD := wall hD
 rw [hD] at H3 HS6 HSZ HO6
 rw [hZ] at H3o HSZ
 clear hD hZ HZ
 go_wp2_with (first | refine wpList_load_row rfl 71 _ rfl w.heap.size rfl 71 D (0, 0) _ H3.out Tryz.underlying71 rfl HS6.out ?_ | (refine wpList_set_row rfl 71 (.tmp 6) (.tmp 54) rfl (w.heap.size + 1) D rfl rfl 71 Z H3o.out HS6.out HSZ.out HO6.out ?_; intro w4 K4 F4))
 have H4b := wall (Below.frm H3b.out F4.out (Nat.le_refl _) (by simp))
 go_light
 exact bodyPost_ret (v := .tuple #[.agg D, .bool true]) (results_one_slot Tryz.results95 _ _ (w.heap.size + 1) 71 D _ (.bool true) rfl rfl K4.out Tryz.underlying71 rfl HS6.out) rfl ⟨by rw [HC6.out, HD.out], H4b.out⟩
theorem set_773 (c : Cr) (hc : c.Ok) (v : Nat) (w : World) (hv : v < 4294967296) : Calls Tryz.prog 95 #[.agg (crC c), .int .u16 773, .int .u32 (v : Int)] w (SetOut (c.set 35 (v - v % 4)) w) := by
 have HC := wall hc
 have HF := wall (Fq.new w c)
 have HZ := wall cr_zero
 have hb := andNot3 v hv
 obtain ⟨nv, hnv⟩ : ∃ y, v - v % 4 = y := ⟨_, rfl⟩
 have HNV := wall (show nv < 4294967296 by rw [← hnv]; omega)
 rw [hnv] at hb ⊢
 obtain ⟨C, hC⟩ : ∃ y, crC c = y := ⟨_, rfl⟩
 obtain ⟨Z, hZ⟩ : ∃ y, crC crZ = y := ⟨_, rfl⟩
 rw [hC, hZ] at HF
 rw [hZ] at HZ
 rw [hC]
 have HCT := wall (hc.set 35 nv HNV.out)
 clear hc hv hC hnv
 go_enter Tryz.func95, Tryz.ntmps95
 go_upto_region 1 with (first | refine Big.wpList_alloc_at rfl 71 rfl Z HZ.out (w.heap.size + 1) (by simp) ?_)
 try simp only [Act.put, rpA, rpB, rpC]
 refine wp_fq w c HF.out ?_
 intro w1 h1
 have H1 := wall h1
 have hkk := h1.cell HC.out (show 35 < 41 by decide)
 have hfz := h1.frozen
 clear h1 HF
 go_upto_region 19 with fail
 refine wp_fq w (c.set 35 nv) (H1.out.put HC.out (by decide) nv) ?_
 clear hkk hfz H1 hb
 intro w3 h3
 obtain ⟨c6, hc6⟩ : ∃ y, c.set 35 nv = y := ⟨_, rfl⟩
 have HC6 := wall hc6
 rw [hc6] at HCT h3
 clear hc6
 have HS6 := wall (show (Tryz.prog.info? 71).map (·.size) = some (crC c6).size by rw [crC_size HCT.out]; exact cr_info)
 have HSZ := wall (show (crC crZ).size = (crC c6).size by rw [crC_size HCT.out, crC_size crZ_ok])
 have HO6 := wall (crC_one c6)
 have H3 := wall (show Blk w3 w.heap.size 71 (crC c6) from h3.c)
 have H3o := wall h3.o
 have H3b := wall h3.bel
 clear h3
 obtain ⟨D, hD⟩ : ∃ y, crC c6 = y := ⟨_, rfl⟩
 have HD := wall hD
 rw [hD] at H3 HS6 HSZ HO6
 rw [hZ] at H3o HSZ
 clear hD hZ HZ
 go_wp2_with (first | refine wpList_load_row rfl 71 _ rfl w.heap.size rfl 71 D (0, 0) _ H3.out Tryz.underlying71 rfl HS6.out ?_ | (refine wpList_set_row rfl 71 (.tmp 6) (.tmp 54) rfl (w.heap.size + 1) D rfl rfl 71 Z H3o.out HS6.out HSZ.out HO6.out ?_; intro w4 K4 F4))
 have H4b := wall (Below.frm H3b.out F4.out (Nat.le_refl _) (by simp))
 go_light
 exact bodyPost_ret (v := .tuple #[.agg D, .bool true]) (results_one_slot Tryz.results95 _ _ (w.heap.size + 1) 71 D _ (.bool true) rfl rfl K4.out Tryz.underlying71 rfl HS6.out) rfl ⟨by rw [HC6.out, HD.out], H4b.out⟩
def csrI (n : Nat) : Nat := if n = 768 then 33 else if n = 772 then 34 else if n = 773 then 35 else if n = 832 then 36 else if n = 833 then 37 else if n = 834 then 38 else if n = 835 then 39 else if n = 2816 then 40 else 0
def csrG (c : Cr) (n : Nat) : Nat × Bool := if csrI n ≠ 0 then (c.g (csrI n), true) else if n = 836 then ((if c.tm then 128 else 0), true) else (0, n == 3860)
def csrV (n v : Nat) : Nat := if n = 768 then v / 8 % 2 * 8 + v / 128 % 2 * 128 else if n = 772 then v / 128 % 2 * 128 else if n = 773 ∨ n = 833 then v - v % 4 else v
def csrS (c : Cr) (n v : Nat) : Cr × Bool := if csrI n ≠ 0 then (c.set (csrI n) (csrV n v), true) else (c, false)
theorem csrV_lt (n v : Nat) (hv : v < 4294967296) : csrV n v < 4294967296 := by
 unfold csrV
 split
 ·omega
 ·split
  ·omega
  ·split <;> omega
theorem csrS_ok {c : Cr} (h : c.Ok) (n v : Nat) (hv : v < 4294967296) : (csrS c n v).1.Ok := by
 unfold csrS
 split
 ·exact h.set _ _ (csrV_lt n v hv)
 ·exact h
theorem csrG_lt {c : Cr} (h : c.Ok) (n : Nat) : (csrG c n).1 < 4294967296 := by
 unfold csrG
 split
 ·exact h.g _
 ·split
  ·split <;> decide
  ·show (0 : Nat) < 4294967296
   decide
theorem csrI_none {n : Nat} (h : n ≠ 768 ∧ n ≠ 772 ∧ n ≠ 773 ∧ n ≠ 832 ∧ n ≠ 833 ∧ n ≠ 834 ∧ n ≠ 835 ∧ n ≠ 2816) : csrI n = 0 := by
 unfold csrI
 rw [if_neg (by omega), if_neg (by omega), if_neg (by omega), if_neg (by omega), if_neg (by omega), if_neg (by omega), if_neg (by omega), if_neg (by omega)]
def GetO (r : Nat × Bool) (w : World) (e : Ending) (w' : World) : Prop := e = .returned (.tuple #[.int .u32 (r.1 : Int), .bool r.2]) ∧ Below w.heap.size w w'
theorem get_768 (c : Cr) (hc : c.Ok) (w : World) : Calls Tryz.prog 104 #[.agg (crC c), .int .u16 768] w (GetO (c.g 33, true) w) := by
 have HB := wall ((Below.refl _ w).alloc (Nat.le_refl _) (.cells (crC c) 71))
 have HK := wall (show Cb (w.alloc (.cells (crC c) 71)) w.heap.size c from Blk.new w _ _)
 have kk := HK.out.cell hc (show 33 < 41 by decide)
 obtain ⟨C, hC⟩ : ∃ y, crC c = y := ⟨_, rfl⟩
 rw [hC] at HB HK kk
 rw [hC]
 clear hc hC
 go_enter Tryz.func104, Tryz.ntmps104
 go_wp2_with fail
 go_light
 go_ret2
 exact ⟨rfl, HB.out⟩
theorem get_772 (c : Cr) (hc : c.Ok) (w : World) : Calls Tryz.prog 104 #[.agg (crC c), .int .u16 772] w (GetO (c.g 34, true) w) := by
 have HB := wall ((Below.refl _ w).alloc (Nat.le_refl _) (.cells (crC c) 71))
 have HK := wall (show Cb (w.alloc (.cells (crC c) 71)) w.heap.size c from Blk.new w _ _)
 have kk := HK.out.cell hc (show 34 < 41 by decide)
 obtain ⟨C, hC⟩ : ∃ y, crC c = y := ⟨_, rfl⟩
 rw [hC] at HB HK kk
 rw [hC]
 clear hc hC
 go_enter Tryz.func104, Tryz.ntmps104
 go_wp2_with fail
 go_light
 go_ret2
 exact ⟨rfl, HB.out⟩
theorem get_773 (c : Cr) (hc : c.Ok) (w : World) : Calls Tryz.prog 104 #[.agg (crC c), .int .u16 773] w (GetO (c.g 35, true) w) := by
 have HB := wall ((Below.refl _ w).alloc (Nat.le_refl _) (.cells (crC c) 71))
 have HK := wall (show Cb (w.alloc (.cells (crC c) 71)) w.heap.size c from Blk.new w _ _)
 have kk := HK.out.cell hc (show 35 < 41 by decide)
 obtain ⟨C, hC⟩ : ∃ y, crC c = y := ⟨_, rfl⟩
 rw [hC] at HB HK kk
 rw [hC]
 clear hc hC
 go_enter Tryz.func104, Tryz.ntmps104
 go_wp2_with fail
 go_light
 go_ret2
 exact ⟨rfl, HB.out⟩
theorem get_832 (c : Cr) (hc : c.Ok) (w : World) : Calls Tryz.prog 104 #[.agg (crC c), .int .u16 832] w (GetO (c.g 36, true) w) := by
 have HB := wall ((Below.refl _ w).alloc (Nat.le_refl _) (.cells (crC c) 71))
 have HK := wall (show Cb (w.alloc (.cells (crC c) 71)) w.heap.size c from Blk.new w _ _)
 have kk := HK.out.cell hc (show 36 < 41 by decide)
 obtain ⟨C, hC⟩ : ∃ y, crC c = y := ⟨_, rfl⟩
 rw [hC] at HB HK kk
 rw [hC]
 clear hc hC
 go_enter Tryz.func104, Tryz.ntmps104
 go_wp2_with fail
 go_light
 go_ret2
 exact ⟨rfl, HB.out⟩
theorem get_833 (c : Cr) (hc : c.Ok) (w : World) : Calls Tryz.prog 104 #[.agg (crC c), .int .u16 833] w (GetO (c.g 37, true) w) := by
 have HB := wall ((Below.refl _ w).alloc (Nat.le_refl _) (.cells (crC c) 71))
 have HK := wall (show Cb (w.alloc (.cells (crC c) 71)) w.heap.size c from Blk.new w _ _)
 have kk := HK.out.cell hc (show 37 < 41 by decide)
 obtain ⟨C, hC⟩ : ∃ y, crC c = y := ⟨_, rfl⟩
 rw [hC] at HB HK kk
 rw [hC]
 clear hc hC
 go_enter Tryz.func104, Tryz.ntmps104
 go_wp2_with fail
 go_light
 go_ret2
 exact ⟨rfl, HB.out⟩
theorem get_834 (c : Cr) (hc : c.Ok) (w : World) : Calls Tryz.prog 104 #[.agg (crC c), .int .u16 834] w (GetO (c.g 38, true) w) := by
 have HB := wall ((Below.refl _ w).alloc (Nat.le_refl _) (.cells (crC c) 71))
 have HK := wall (show Cb (w.alloc (.cells (crC c) 71)) w.heap.size c from Blk.new w _ _)
 have kk := HK.out.cell hc (show 38 < 41 by decide)
 obtain ⟨C, hC⟩ : ∃ y, crC c = y := ⟨_, rfl⟩
 rw [hC] at HB HK kk
 rw [hC]
 clear hc hC
 go_enter Tryz.func104, Tryz.ntmps104
 go_wp2_with fail
 go_light
 go_ret2
 exact ⟨rfl, HB.out⟩
theorem get_835 (c : Cr) (hc : c.Ok) (w : World) : Calls Tryz.prog 104 #[.agg (crC c), .int .u16 835] w (GetO (c.g 39, true) w) := by
 have HB := wall ((Below.refl _ w).alloc (Nat.le_refl _) (.cells (crC c) 71))
 have HK := wall (show Cb (w.alloc (.cells (crC c) 71)) w.heap.size c from Blk.new w _ _)
 have kk := HK.out.cell hc (show 39 < 41 by decide)
 obtain ⟨C, hC⟩ : ∃ y, crC c = y := ⟨_, rfl⟩
 rw [hC] at HB HK kk
 rw [hC]
 clear hc hC
 go_enter Tryz.func104, Tryz.ntmps104
 go_wp2_with fail
 go_light
 go_ret2
 exact ⟨rfl, HB.out⟩
theorem get_2816 (c : Cr) (hc : c.Ok) (w : World) : Calls Tryz.prog 104 #[.agg (crC c), .int .u16 2816] w (GetO (c.g 40, true) w) := by
 have HB := wall ((Below.refl _ w).alloc (Nat.le_refl _) (.cells (crC c) 71))
 have HK := wall (show Cb (w.alloc (.cells (crC c) 71)) w.heap.size c from Blk.new w _ _)
 have kk := HK.out.cell hc (show 40 < 41 by decide)
 obtain ⟨C, hC⟩ : ∃ y, crC c = y := ⟨_, rfl⟩
 rw [hC] at HB HK kk
 rw [hC]
 clear hc hC
 go_enter Tryz.func104, Tryz.ntmps104
 go_wp2_with fail
 go_light
 go_ret2
 exact ⟨rfl, HB.out⟩
theorem get_836 (c : Cr) (hc : c.Ok) (w : World) : Calls Tryz.prog 104 #[.agg (crC c), .int .u16 836] w (GetO ((if c.tm then 128 else 0), true) w) := by
 have HB := wall ((Below.refl _ w).alloc (Nat.le_refl _) (.cells (crC c) 71))
 have HK := wall (show Cb (w.alloc (.cells (crC c) 71)) w.heap.size c from Blk.new w _ _)
 have kk := HK.out.tm hc
 obtain ⟨tm, htm⟩ : ∃ y, c.tm = y := ⟨_, rfl⟩
 rw [htm] at kk ⊢
 clear htm
 obtain ⟨C, hC⟩ : ∃ y, crC c = y := ⟨_, rfl⟩
 rw [hC] at HB HK kk
 rw [hC]
 clear hc hC
 cases tm with
 | true =>
  go_enter Tryz.func104, Tryz.ntmps104
  go_wp2_with fail
  go_light
  go_ret2
  exact ⟨rfl, HB.out⟩
 | false =>
  go_enter Tryz.func104, Tryz.ntmps104
  go_wp2_with fail
  go_light
  go_ret2
  exact ⟨rfl, HB.out⟩
theorem get_3860 (c : Cr) (hc : c.Ok) (w : World) : Calls Tryz.prog 104 #[.agg (crC c), .int .u16 3860] w (GetO (0, true) w) := by
 have HB := wall ((Below.refl _ w).alloc (Nat.le_refl _) (.cells (crC c) 71))
 have HK := wall (show Cb (w.alloc (.cells (crC c) 71)) w.heap.size c from Blk.new w _ _)
 obtain ⟨C, hC⟩ : ∃ y, crC c = y := ⟨_, rfl⟩
 rw [hC] at HB HK
 rw [hC]
 clear hc hC
 go_enter Tryz.func104, Tryz.ntmps104
 go_wp2_with fail
 go_light
 go_ret2
 exact ⟨rfl, HB.out⟩
theorem get_none (c : Cr) (hc : c.Ok) (n : Nat) (hn : n ≠ 768 ∧ n ≠ 772 ∧ n ≠ 773 ∧ n ≠ 832 ∧ n ≠ 833 ∧ n ≠ 834 ∧ n ≠ 835 ∧ n ≠ 2816 ∧ n ≠ 836 ∧ n ≠ 3860) (w : World) : Calls Tryz.prog 104 #[.agg (crC c), .int .u16 (n : Int)] w (GetO (0, false) w) := by
 have HB := wall ((Below.refl _ w).alloc (Nat.le_refl _) (.cells (crC c) 71))
 have HK := wall (show Cb (w.alloc (.cells (crC c) 71)) w.heap.size c from Blk.new w _ _)
 have n768 : ((n : Int) == 768) = false := by rw [beq_eq_false_iff_ne]; omega
 have n772 : ((n : Int) == 772) = false := by rw [beq_eq_false_iff_ne]; omega
 have n773 : ((n : Int) == 773) = false := by rw [beq_eq_false_iff_ne]; omega
 have n832 : ((n : Int) == 832) = false := by rw [beq_eq_false_iff_ne]; omega
 have n833 : ((n : Int) == 833) = false := by rw [beq_eq_false_iff_ne]; omega
 have n834 : ((n : Int) == 834) = false := by rw [beq_eq_false_iff_ne]; omega
 have n835 : ((n : Int) == 835) = false := by rw [beq_eq_false_iff_ne]; omega
 have n2816 : ((n : Int) == 2816) = false := by rw [beq_eq_false_iff_ne]; omega
 have n836 : ((n : Int) == 836) = false := by rw [beq_eq_false_iff_ne]; omega
 have n3860 : ((n : Int) == 3860) = false := by rw [beq_eq_false_iff_ne]; omega
 clear hn
 obtain ⟨C, hC⟩ : ∃ y, crC c = y := ⟨_, rfl⟩
 rw [hC] at HB HK
 rw [hC]
 clear hc hC
 go_enter Tryz.func104, Tryz.ntmps104
 go_wp2_with fail
 go_light
 go_ret2
 exact ⟨rfl, HB.out⟩
theorem get_any (c : Cr) (hc : c.Ok) (n : Nat) (w : World) : Calls Tryz.prog 104 #[.agg (crC c), .int .u16 (n : Int)] w (GetO (csrG c n) w) := by
 by_cases h768 : n = 768
 ·subst h768; exact get_768 c hc w
 by_cases h772 : n = 772
 ·subst h772; exact get_772 c hc w
 by_cases h773 : n = 773
 ·subst h773; exact get_773 c hc w
 by_cases h832 : n = 832
 ·subst h832; exact get_832 c hc w
 by_cases h833 : n = 833
 ·subst h833; exact get_833 c hc w
 by_cases h834 : n = 834
 ·subst h834; exact get_834 c hc w
 by_cases h835 : n = 835
 ·subst h835; exact get_835 c hc w
 by_cases h2816 : n = 2816
 ·subst h2816; exact get_2816 c hc w
 have h0 : csrI n = 0 := csrI_none ⟨h768, h772, h773, h832, h833, h834, h835, h2816⟩
 by_cases h836 : n = 836
 ·subst h836
  rw [show csrG c 836 = ((if c.tm then 128 else 0), true) from rfl]
  exact get_836 c hc w
 ·by_cases h3860 : n = 3860
  ·subst h3860
   exact get_3860 c hc w
  ·rw [show csrG c n = (0, false) by unfold csrG; rw [if_neg (by simpa using h0), if_neg h836, beq_eq_false_iff_ne.2 h3860]]
   exact get_none c hc n ⟨h768, h772, h773, h832, h833, h834, h835, h2816, h836, h3860⟩ w
def SetO (r : Cr × Bool) (w : World) (e : Ending) (w' : World) : Prop := e = .returned (.tuple #[.agg (crC r.1), .bool r.2]) ∧ Below w.heap.size w w'
theorem sets_832 (c : Cr) (hc : c.Ok) (v : Nat) (w : World) (hv : v < 4294967296) : Calls Tryz.prog 95 #[.agg (crC c), .int .u16 832, .int .u32 (v : Int)] w (SetOut (c.set 36 (v)) w) := by
 have HC := wall hc
 have HF := wall (Fq.new w c)
 have HZ := wall cr_zero
 obtain ⟨nv, hnv⟩ : ∃ y, y = v := ⟨_, rfl⟩
 subst hnv
 have HNV := wall hv
 obtain ⟨C, hC⟩ : ∃ y, crC c = y := ⟨_, rfl⟩
 obtain ⟨Z, hZ⟩ : ∃ y, crC crZ = y := ⟨_, rfl⟩
 rw [hC, hZ] at HF
 rw [hZ] at HZ
 rw [hC]
 have HCT := wall (hc.set 36 nv HNV.out)
 clear hc hv hC
 go_enter Tryz.func95, Tryz.ntmps95
 go_upto_region 1 with (first | refine Big.wpList_alloc_at rfl 71 rfl Z HZ.out (w.heap.size + 1) (by simp) ?_)
 try simp only [Act.put, rpA, rpB, rpC]
 refine wp_fq w c HF.out ?_
 intro w1 h1
 have H1 := wall h1
 have hkk := h1.cell HC.out (show 36 < 41 by decide)
 have hfz := h1.frozen
 clear h1 HF
 go_upto_region 19 with fail
 refine wp_fq w (c.set 36 nv) (H1.out.put HC.out (by decide) nv) ?_
 clear hkk hfz H1
 intro w3 h3
 obtain ⟨c6, hc6⟩ : ∃ y, c.set 36 nv = y := ⟨_, rfl⟩
 have HC6 := wall hc6
 rw [hc6] at HCT h3
 clear hc6
 have HS6 := wall (show (Tryz.prog.info? 71).map (·.size) = some (crC c6).size by rw [crC_size HCT.out]; exact cr_info)
 have HSZ := wall (show (crC crZ).size = (crC c6).size by rw [crC_size HCT.out, crC_size crZ_ok])
 have HO6 := wall (crC_one c6)
 have H3 := wall (show Blk w3 w.heap.size 71 (crC c6) from h3.c)
 have H3o := wall h3.o
 have H3b := wall h3.bel
 clear h3
 obtain ⟨D, hD⟩ : ∃ y, crC c6 = y := ⟨_, rfl⟩
 have HD := wall hD
 rw [hD] at H3 HS6 HSZ HO6
 rw [hZ] at H3o HSZ
 clear hD hZ HZ
 go_wp2_with (first | refine wpList_load_row rfl 71 _ rfl w.heap.size rfl 71 D (0, 0) _ H3.out Tryz.underlying71 rfl HS6.out ?_ | (refine wpList_set_row rfl 71 (.tmp 6) (.tmp 54) rfl (w.heap.size + 1) D rfl rfl 71 Z H3o.out HS6.out HSZ.out HO6.out ?_; intro w4 K4 F4))
 have H4b := wall (Below.frm H3b.out F4.out (Nat.le_refl _) (by simp))
 go_light
 exact bodyPost_ret (v := .tuple #[.agg D, .bool true]) (results_one_slot Tryz.results95 _ _ (w.heap.size + 1) 71 D _ (.bool true) rfl rfl K4.out Tryz.underlying71 rfl HS6.out) rfl ⟨by rw [HC6.out, HD.out], H4b.out⟩
theorem sets_833 (c : Cr) (hc : c.Ok) (v : Nat) (w : World) (hv : v < 4294967296) : Calls Tryz.prog 95 #[.agg (crC c), .int .u16 833, .int .u32 (v : Int)] w (SetOut (c.set 37 (v - v % 4)) w) := by
 have HC := wall hc
 have HF := wall (Fq.new w c)
 have HZ := wall cr_zero
 have hb := andNot3 v hv
 obtain ⟨nv, hnv⟩ : ∃ y, v - v % 4 = y := ⟨_, rfl⟩
 have HNV := wall (show nv < 4294967296 by rw [← hnv]; omega)
 rw [hnv] at hb ⊢
 obtain ⟨C, hC⟩ : ∃ y, crC c = y := ⟨_, rfl⟩
 obtain ⟨Z, hZ⟩ : ∃ y, crC crZ = y := ⟨_, rfl⟩
 rw [hC, hZ] at HF
 rw [hZ] at HZ
 rw [hC]
 have HCT := wall (hc.set 37 nv HNV.out)
 clear hc hv hC hnv
 go_enter Tryz.func95, Tryz.ntmps95
 go_upto_region 1 with (first | refine Big.wpList_alloc_at rfl 71 rfl Z HZ.out (w.heap.size + 1) (by simp) ?_)
 try simp only [Act.put, rpA, rpB, rpC]
 refine wp_fq w c HF.out ?_
 intro w1 h1
 have H1 := wall h1
 have hkk := h1.cell HC.out (show 37 < 41 by decide)
 have hfz := h1.frozen
 clear h1 HF
 go_upto_region 19 with fail
 refine wp_fq w (c.set 37 nv) (H1.out.put HC.out (by decide) nv) ?_
 clear hkk hfz H1 hb
 intro w3 h3
 obtain ⟨c6, hc6⟩ : ∃ y, c.set 37 nv = y := ⟨_, rfl⟩
 have HC6 := wall hc6
 rw [hc6] at HCT h3
 clear hc6
 have HS6 := wall (show (Tryz.prog.info? 71).map (·.size) = some (crC c6).size by rw [crC_size HCT.out]; exact cr_info)
 have HSZ := wall (show (crC crZ).size = (crC c6).size by rw [crC_size HCT.out, crC_size crZ_ok])
 have HO6 := wall (crC_one c6)
 have H3 := wall (show Blk w3 w.heap.size 71 (crC c6) from h3.c)
 have H3o := wall h3.o
 have H3b := wall h3.bel
 clear h3
 obtain ⟨D, hD⟩ : ∃ y, crC c6 = y := ⟨_, rfl⟩
 have HD := wall hD
 rw [hD] at H3 HS6 HSZ HO6
 rw [hZ] at H3o HSZ
 clear hD hZ HZ
 go_wp2_with (first | refine wpList_load_row rfl 71 _ rfl w.heap.size rfl 71 D (0, 0) _ H3.out Tryz.underlying71 rfl HS6.out ?_ | (refine wpList_set_row rfl 71 (.tmp 6) (.tmp 54) rfl (w.heap.size + 1) D rfl rfl 71 Z H3o.out HS6.out HSZ.out HO6.out ?_; intro w4 K4 F4))
 have H4b := wall (Below.frm H3b.out F4.out (Nat.le_refl _) (by simp))
 go_light
 exact bodyPost_ret (v := .tuple #[.agg D, .bool true]) (results_one_slot Tryz.results95 _ _ (w.heap.size + 1) 71 D _ (.bool true) rfl rfl K4.out Tryz.underlying71 rfl HS6.out) rfl ⟨by rw [HC6.out, HD.out], H4b.out⟩
theorem sets_834 (c : Cr) (hc : c.Ok) (v : Nat) (w : World) (hv : v < 4294967296) : Calls Tryz.prog 95 #[.agg (crC c), .int .u16 834, .int .u32 (v : Int)] w (SetOut (c.set 38 (v)) w) := by
 have HC := wall hc
 have HF := wall (Fq.new w c)
 have HZ := wall cr_zero
 obtain ⟨nv, hnv⟩ : ∃ y, y = v := ⟨_, rfl⟩
 subst hnv
 have HNV := wall hv
 obtain ⟨C, hC⟩ : ∃ y, crC c = y := ⟨_, rfl⟩
 obtain ⟨Z, hZ⟩ : ∃ y, crC crZ = y := ⟨_, rfl⟩
 rw [hC, hZ] at HF
 rw [hZ] at HZ
 rw [hC]
 have HCT := wall (hc.set 38 nv HNV.out)
 clear hc hv hC
 go_enter Tryz.func95, Tryz.ntmps95
 go_upto_region 1 with (first | refine Big.wpList_alloc_at rfl 71 rfl Z HZ.out (w.heap.size + 1) (by simp) ?_)
 try simp only [Act.put, rpA, rpB, rpC]
 refine wp_fq w c HF.out ?_
 intro w1 h1
 have H1 := wall h1
 have hkk := h1.cell HC.out (show 38 < 41 by decide)
 have hfz := h1.frozen
 clear h1 HF
 go_upto_region 19 with fail
 refine wp_fq w (c.set 38 nv) (H1.out.put HC.out (by decide) nv) ?_
 clear hkk hfz H1
 intro w3 h3
 obtain ⟨c6, hc6⟩ : ∃ y, c.set 38 nv = y := ⟨_, rfl⟩
 have HC6 := wall hc6
 rw [hc6] at HCT h3
 clear hc6
 have HS6 := wall (show (Tryz.prog.info? 71).map (·.size) = some (crC c6).size by rw [crC_size HCT.out]; exact cr_info)
 have HSZ := wall (show (crC crZ).size = (crC c6).size by rw [crC_size HCT.out, crC_size crZ_ok])
 have HO6 := wall (crC_one c6)
 have H3 := wall (show Blk w3 w.heap.size 71 (crC c6) from h3.c)
 have H3o := wall h3.o
 have H3b := wall h3.bel
 clear h3
 obtain ⟨D, hD⟩ : ∃ y, crC c6 = y := ⟨_, rfl⟩
 have HD := wall hD
 rw [hD] at H3 HS6 HSZ HO6
 rw [hZ] at H3o HSZ
 clear hD hZ HZ
 go_wp2_with (first | refine wpList_load_row rfl 71 _ rfl w.heap.size rfl 71 D (0, 0) _ H3.out Tryz.underlying71 rfl HS6.out ?_ | (refine wpList_set_row rfl 71 (.tmp 6) (.tmp 54) rfl (w.heap.size + 1) D rfl rfl 71 Z H3o.out HS6.out HSZ.out HO6.out ?_; intro w4 K4 F4))
 have H4b := wall (Below.frm H3b.out F4.out (Nat.le_refl _) (by simp))
 go_light
 exact bodyPost_ret (v := .tuple #[.agg D, .bool true]) (results_one_slot Tryz.results95 _ _ (w.heap.size + 1) 71 D _ (.bool true) rfl rfl K4.out Tryz.underlying71 rfl HS6.out) rfl ⟨by rw [HC6.out, HD.out], H4b.out⟩
theorem sets_835 (c : Cr) (hc : c.Ok) (v : Nat) (w : World) (hv : v < 4294967296) : Calls Tryz.prog 95 #[.agg (crC c), .int .u16 835, .int .u32 (v : Int)] w (SetOut (c.set 39 (v)) w) := by
 have HC := wall hc
 have HF := wall (Fq.new w c)
 have HZ := wall cr_zero
 obtain ⟨nv, hnv⟩ : ∃ y, y = v := ⟨_, rfl⟩
 subst hnv
 have HNV := wall hv
 obtain ⟨C, hC⟩ : ∃ y, crC c = y := ⟨_, rfl⟩
 obtain ⟨Z, hZ⟩ : ∃ y, crC crZ = y := ⟨_, rfl⟩
 rw [hC, hZ] at HF
 rw [hZ] at HZ
 rw [hC]
 have HCT := wall (hc.set 39 nv HNV.out)
 clear hc hv hC
 go_enter Tryz.func95, Tryz.ntmps95
 go_upto_region 1 with (first | refine Big.wpList_alloc_at rfl 71 rfl Z HZ.out (w.heap.size + 1) (by simp) ?_)
 try simp only [Act.put, rpA, rpB, rpC]
 refine wp_fq w c HF.out ?_
 intro w1 h1
 have H1 := wall h1
 have hkk := h1.cell HC.out (show 39 < 41 by decide)
 have hfz := h1.frozen
 clear h1 HF
 go_upto_region 19 with fail
 refine wp_fq w (c.set 39 nv) (H1.out.put HC.out (by decide) nv) ?_
 clear hkk hfz H1
 intro w3 h3
 obtain ⟨c6, hc6⟩ : ∃ y, c.set 39 nv = y := ⟨_, rfl⟩
 have HC6 := wall hc6
 rw [hc6] at HCT h3
 clear hc6
 have HS6 := wall (show (Tryz.prog.info? 71).map (·.size) = some (crC c6).size by rw [crC_size HCT.out]; exact cr_info)
 have HSZ := wall (show (crC crZ).size = (crC c6).size by rw [crC_size HCT.out, crC_size crZ_ok])
 have HO6 := wall (crC_one c6)
 have H3 := wall (show Blk w3 w.heap.size 71 (crC c6) from h3.c)
 have H3o := wall h3.o
 have H3b := wall h3.bel
 clear h3
 obtain ⟨D, hD⟩ : ∃ y, crC c6 = y := ⟨_, rfl⟩
 have HD := wall hD
 rw [hD] at H3 HS6 HSZ HO6
 rw [hZ] at H3o HSZ
 clear hD hZ HZ
 go_wp2_with (first | refine wpList_load_row rfl 71 _ rfl w.heap.size rfl 71 D (0, 0) _ H3.out Tryz.underlying71 rfl HS6.out ?_ | (refine wpList_set_row rfl 71 (.tmp 6) (.tmp 54) rfl (w.heap.size + 1) D rfl rfl 71 Z H3o.out HS6.out HSZ.out HO6.out ?_; intro w4 K4 F4))
 have H4b := wall (Below.frm H3b.out F4.out (Nat.le_refl _) (by simp))
 go_light
 exact bodyPost_ret (v := .tuple #[.agg D, .bool true]) (results_one_slot Tryz.results95 _ _ (w.heap.size + 1) 71 D _ (.bool true) rfl rfl K4.out Tryz.underlying71 rfl HS6.out) rfl ⟨by rw [HC6.out, HD.out], H4b.out⟩
theorem sets_2816 (c : Cr) (hc : c.Ok) (v : Nat) (w : World) (hv : v < 4294967296) : Calls Tryz.prog 95 #[.agg (crC c), .int .u16 2816, .int .u32 (v : Int)] w (SetOut (c.set 40 (v)) w) := by
 have HC := wall hc
 have HF := wall (Fq.new w c)
 have HZ := wall cr_zero
 obtain ⟨nv, hnv⟩ : ∃ y, y = v := ⟨_, rfl⟩
 subst hnv
 have HNV := wall hv
 obtain ⟨C, hC⟩ : ∃ y, crC c = y := ⟨_, rfl⟩
 obtain ⟨Z, hZ⟩ : ∃ y, crC crZ = y := ⟨_, rfl⟩
 rw [hC, hZ] at HF
 rw [hZ] at HZ
 rw [hC]
 have HCT := wall (hc.set 40 nv HNV.out)
 clear hc hv hC
 go_enter Tryz.func95, Tryz.ntmps95
 go_upto_region 1 with (first | refine Big.wpList_alloc_at rfl 71 rfl Z HZ.out (w.heap.size + 1) (by simp) ?_)
 try simp only [Act.put, rpA, rpB, rpC]
 refine wp_fq w c HF.out ?_
 intro w1 h1
 have H1 := wall h1
 have hkk := h1.cell HC.out (show 40 < 41 by decide)
 have hfz := h1.frozen
 clear h1 HF
 go_upto_region 19 with fail
 refine wp_fq w (c.set 40 nv) (H1.out.put HC.out (by decide) nv) ?_
 clear hkk hfz H1
 intro w3 h3
 obtain ⟨c6, hc6⟩ : ∃ y, c.set 40 nv = y := ⟨_, rfl⟩
 have HC6 := wall hc6
 rw [hc6] at HCT h3
 clear hc6
 have HS6 := wall (show (Tryz.prog.info? 71).map (·.size) = some (crC c6).size by rw [crC_size HCT.out]; exact cr_info)
 have HSZ := wall (show (crC crZ).size = (crC c6).size by rw [crC_size HCT.out, crC_size crZ_ok])
 have HO6 := wall (crC_one c6)
 have H3 := wall (show Blk w3 w.heap.size 71 (crC c6) from h3.c)
 have H3o := wall h3.o
 have H3b := wall h3.bel
 clear h3
 obtain ⟨D, hD⟩ : ∃ y, crC c6 = y := ⟨_, rfl⟩
 have HD := wall hD
 rw [hD] at H3 HS6 HSZ HO6
 rw [hZ] at H3o HSZ
 clear hD hZ HZ
 go_wp2_with (first | refine wpList_load_row rfl 71 _ rfl w.heap.size rfl 71 D (0, 0) _ H3.out Tryz.underlying71 rfl HS6.out ?_ | (refine wpList_set_row rfl 71 (.tmp 6) (.tmp 54) rfl (w.heap.size + 1) D rfl rfl 71 Z H3o.out HS6.out HSZ.out HO6.out ?_; intro w4 K4 F4))
 have H4b := wall (Below.frm H3b.out F4.out (Nat.le_refl _) (by simp))
 go_light
 exact bodyPost_ret (v := .tuple #[.agg D, .bool true]) (results_one_slot Tryz.results95 _ _ (w.heap.size + 1) 71 D _ (.bool true) rfl rfl K4.out Tryz.underlying71 rfl HS6.out) rfl ⟨by rw [HC6.out, HD.out], H4b.out⟩
theorem sets_none (c : Cr) (hc : c.Ok) (n v : Nat) (w : World) (hn : n ≠ 768 ∧ n ≠ 772 ∧ n ≠ 773 ∧ n ≠ 832 ∧ n ≠ 833 ∧ n ≠ 834 ∧ n ≠ 835 ∧ n ≠ 2816) : Calls Tryz.prog 95 #[.agg (crC c), .int .u16 (n : Int), .int .u32 (v : Int)] w (SetO (c, false) w) := by
 have HCT := wall hc
 have HF := wall (Fq.new w c)
 have HZ := wall cr_zero
 have n768 : ((n : Int) == 768) = false := by rw [beq_eq_false_iff_ne]; omega
 have n772 : ((n : Int) == 772) = false := by rw [beq_eq_false_iff_ne]; omega
 have n773 : ((n : Int) == 773) = false := by rw [beq_eq_false_iff_ne]; omega
 have n832 : ((n : Int) == 832) = false := by rw [beq_eq_false_iff_ne]; omega
 have n833 : ((n : Int) == 833) = false := by rw [beq_eq_false_iff_ne]; omega
 have n834 : ((n : Int) == 834) = false := by rw [beq_eq_false_iff_ne]; omega
 have n835 : ((n : Int) == 835) = false := by rw [beq_eq_false_iff_ne]; omega
 have n2816 : ((n : Int) == 2816) = false := by rw [beq_eq_false_iff_ne]; omega
 obtain ⟨C, hC⟩ : ∃ y, crC c = y := ⟨_, rfl⟩
 obtain ⟨Z, hZ⟩ : ∃ y, crC crZ = y := ⟨_, rfl⟩
 rw [hC, hZ] at HF
 rw [hZ] at HZ
 rw [hC]
 clear hc hn hC
 go_enter Tryz.func95, Tryz.ntmps95
 go_upto_region 1 with (first | refine Big.wpList_alloc_at rfl 71 rfl Z HZ.out (w.heap.size + 1) (by simp) ?_)
 try simp only [Act.put, rpA, rpB, rpC]
 refine wp_fq w c HF.out ?_
 intro w3 h3
 clear HF
 obtain ⟨c6, hc6⟩ : ∃ y, y = c := ⟨_, rfl⟩
 have HC6 := wall hc6.symm
 rw [← hc6] at HCT h3
 clear hc6
 have HS6 := wall (show (Tryz.prog.info? 71).map (·.size) = some (crC c6).size by rw [crC_size HCT.out]; exact cr_info)
 have HSZ := wall (show (crC crZ).size = (crC c6).size by rw [crC_size HCT.out, crC_size crZ_ok])
 have HO6 := wall (crC_one c6)
 have H3 := wall (show Blk w3 w.heap.size 71 (crC c6) from h3.c)
 have H3o := wall h3.o
 have H3b := wall h3.bel
 clear h3
 obtain ⟨D, hD⟩ : ∃ y, crC c6 = y := ⟨_, rfl⟩
 have HD := wall hD
 rw [hD] at H3 HS6 HSZ HO6
 rw [hZ] at H3o HSZ
 clear hD hZ HZ
 go_wp2_with (first | refine wpList_load_row rfl 71 _ rfl w.heap.size rfl 71 D (0, 0) _ H3.out Tryz.underlying71 rfl HS6.out ?_ | (refine wpList_set_row rfl 71 (.tmp 6) (.tmp 9) rfl (w.heap.size + 1) D rfl rfl 71 Z H3o.out HS6.out HSZ.out HO6.out ?_; intro w4 K4 F4))
 have H4b := wall (Below.frm H3b.out F4.out (Nat.le_refl _) (by simp))
 go_light
 exact bodyPost_ret (v := .tuple #[.agg D, .bool false]) (results_one_slot Tryz.results95 _ _ (w.heap.size + 1) 71 D _ (.bool false) rfl rfl K4.out Tryz.underlying71 rfl HS6.out) rfl ⟨by rw [HC6.out, HD.out], H4b.out⟩
theorem set_any (c : Cr) (hc : c.Ok) (n v : Nat) (w : World) (hv : v < 4294967296) : Calls Tryz.prog 95 #[.agg (crC c), .int .u16 (n : Int), .int .u32 (v : Int)] w (SetO (csrS c n v) w) := by
 by_cases h768 : n = 768
 ·subst h768; exact set_768 c hc v w hv
 by_cases h772 : n = 772
 ·subst h772; exact set_772 c hc v w hv
 by_cases h773 : n = 773
 ·subst h773; exact set_773 c hc v w hv
 by_cases h832 : n = 832
 ·subst h832; exact sets_832 c hc v w hv
 by_cases h833 : n = 833
 ·subst h833; exact sets_833 c hc v w hv
 by_cases h834 : n = 834
 ·subst h834; exact sets_834 c hc v w hv
 by_cases h835 : n = 835
 ·subst h835; exact sets_835 c hc v w hv
 by_cases h2816 : n = 2816
 ·subst h2816; exact sets_2816 c hc v w hv
 have h0 : csrI n = 0 := csrI_none ⟨h768, h772, h773, h832, h833, h834, h835, h2816⟩
 rw [show csrS c n v = (c, false) by unfold csrS; rw [if_neg (by simpa using h0)]]
 exact sets_none c hc n v w ⟨h768, h772, h773, h832, h833, h834, h835, h2816⟩
end Core
end Go.Proofs.YtmiaabpnolebhaaGreatDoor
namespace Go.Proofs.YtmiaabpnolebhaaGreatDoor
open Go Go.RowKit

section
variable {P : Program}
theorem wp_late_row {id : Nat} {Q : Exit → Act → World → Prop} {a : Act} {w : World} {o0 o1 o2 o3 o4 o5 : Oper} (hm : P.follows .mixedOrders = true)
  (hr : readyB [o0, o1, o2, o3, o4, o5].toArray [([false, false, false, false, false, false], [0, 1]), ([false, true, false, false, false, false], [0, 2]), ([false, true, true, false, false, false], [0, 3]), ([false, true, true, true, false, false], [0]),
   ([true, false, false, false, false, false], [1, 4]), ([true, true, false, false, false, false], [2, 4]), ([true, true, true, false, false, false], [3, 4]), ([true, true, true, true, false, false], [4]),
   ([true, false, false, false, true, false], [1]), ([true, true, false, false, true, false], [2]), ([true, true, true, false, true, false], [3]), ([true, true, true, true, true, false], [5]), ([true, true, true, true, true, true], [])] = true)
  (g0 : o0.guard = none) (g1 : o1.guard = none) (g2 : o2.guard = none) (g3 : o3.guard = none) (g4 : o4.guard = none) (g5 : o5.guard = none) (n4 : o4.dst = none)
  (t0 : TypeId) (x p : Operand) (i j1 j2 j3 k : Tmp) (h1 : i ≠ j1) (h2 : i ≠ j2) (h3 : i ≠ j3) (p0 : o0.op = .load t0 x) (p4 : o4.op = .store t0 p (.tmp i)) (d0 : o0.dst = some i) (d1 : o1.dst = some j1) (d2 : o2.dst = some j2) (d3 : o3.dst = some j3) (d5 : o5.dst = some k)
  (gx gp : Nat) (R : Array Value) (kx kp : TypeId) (cp : Array Value) (e0 : TypeDesc) (v1 v2 v3 v5 : Value)
  (ex : a.eval x = .pointer (some ⟨gx, 0, none⟩)) (ex1 : (a.put (some j1) v1).eval x = .pointer (some ⟨gx, 0, none⟩)) (ex2 : ((a.put (some j1) v1).put (some j2) v2).eval x = .pointer (some ⟨gx, 0, none⟩)) (ex3 : (((a.put (some j1) v1).put (some j2) v2).put (some j3) v3).eval x = .pointer (some ⟨gx, 0, none⟩))
  (ep : (a.put (some i) (.agg R)).eval p = .pointer (some ⟨gp, 0, none⟩) ∧ (a.put (some i) (.agg R)).eval (.tmp i) = .agg R)
  (ep1 : ((a.put (some i) (.agg R)).put (some j1) v1).eval p = .pointer (some ⟨gp, 0, none⟩) ∧ ((a.put (some i) (.agg R)).put (some j1) v1).eval (.tmp i) = .agg R)
  (ep2 : (((a.put (some i) (.agg R)).put (some j1) v1).put (some j2) v2).eval p = .pointer (some ⟨gp, 0, none⟩) ∧ (((a.put (some i) (.agg R)).put (some j1) v1).put (some j2) v2).eval (.tmp i) = .agg R)
  (ep3 : ((((a.put (some i) (.agg R)).put (some j1) v1).put (some j2) v2).put (some j3) v3).eval p = .pointer (some ⟨gp, 0, none⟩) ∧ ((((a.put (some i) (.agg R)).put (some j1) v1).put (some j2) v2).put (some j3) v3).eval (.tmp i) = .agg R)
  (r1 : ∀ W, Frm [gp] w W → (execOp a.eval o1).run P W = .ok (.value v1) W ∧ (execOp (a.put (some i) (.agg R)).eval o1).run P W = .ok (.value v1) W)
  (r2 : ∀ W, Frm [gp] w W → (execOp (a.put (some j1) v1).eval o2).run P W = .ok (.value v2) W ∧ (execOp ((a.put (some i) (.agg R)).put (some j1) v1).eval o2).run P W = .ok (.value v2) W)
  (r3 : ∀ W, Frm [gp] w W → (execOp ((a.put (some j1) v1).put (some j2) v2).eval o3).run P W = .ok (.value v3) W ∧ (execOp (((a.put (some i) (.agg R)).put (some j1) v1).put (some j2) v2).eval o3).run P W = .ok (.value v3) W)
  (r5 : ∀ W, Frm [gp] w W → (execOp ((((a.put (some i) (.agg R)).put (some j1) v1).put (some j2) v2).put (some j3) v3).eval o5).run P W = .ok (.value v5) W)
  (bx : Blk w gx kx R) (bp : Blk w gp kp cp) (u0 : P.underlying t0 = some e0) (q0 : rowB e0 = true) (z0 : (P.info? t0).map (·.size) = some R.size) (s0 : cp.size = R.size) (c0 : R.all (·.oneCell') = true)
  (h : ∀ w', Blk w' gp kp R → Frm [gp] w w' → Q .normal (((((a.put (some i) (.agg R)).put (some j1) v1).put (some j2) v2).put (some j3) v3).put (some k) v5) w') :
  (Code.region id [o0, o1, o2, o3, o4, o5].toArray true).wp P Q a w := by
 have RR : ∀ s r, (s, r) ∈ _ → _ := fun s r hm => readyB_at hr (s := s) (r := r) hm
 have hfd : Frm [gp] w w.drew := (Frm.refl _ _).drew
 have S3 : ∀ w', Blk w' gp kp R → Frm [gp] w w' → wpAny P .any [o0, o1, o2, o3, o4, o5].toArray Q 1 #[true, true, true, true, true, false] ((((a.put (some i) (.agg R)).put (some j1) v1).put (some j2) v2).put (some j3) v3) w' := fun w' k1 k2 => by
  refine wpAny_ready (rs := [5]) (RR [true, true, true, true, true, false] [5] (by simp)) (by simp) (AllReady.cons (o := o5) rfl (fun K hK => ?_) AllReady.nil)
  refine wp_val_in g5 _ (r5 w' k2) (hK _ _ ?_)
  rw [d5]
  exact wpAny_done (RR [true, true, true, true, true, true] [] (by simp)) (h w' k1 k2) 0
 have S2 : ∀ w', Blk w' gp kp R → Frm [gp] w w' → wpAny P .any [o0, o1, o2, o3, o4, o5].toArray Q 2 #[true, true, true, false, true, false] (((a.put (some i) (.agg R)).put (some j1) v1).put (some j2) v2) w' := fun w' k1 k2 => by
  refine wpAny_ready (rs := [3]) (RR [true, true, true, false, true, false] [3] (by simp)) (by simp) (AllReady.cons (o := o3) rfl (fun K hK => ?_) AllReady.nil)
  refine wp_val_in g3 _ (r3 w' k2).2 (hK _ _ ?_)
  rw [d3]
  exact S3 w' k1 k2
 have S1 : ∀ w', Blk w' gp kp R → Frm [gp] w w' → wpAny P .any [o0, o1, o2, o3, o4, o5].toArray Q 3 #[true, true, false, false, true, false] ((a.put (some i) (.agg R)).put (some j1) v1) w' := fun w' k1 k2 => by
  refine wpAny_ready (rs := [2]) (RR [true, true, false, false, true, false] [2] (by simp)) (by simp) (AllReady.cons (o := o2) rfl (fun K hK => ?_) AllReady.nil)
  refine wp_val_in g2 _ (r2 w' k2).2 (hK _ _ ?_)
  rw [d2]
  exact S2 w' k1 k2
 have S0 : ∀ w', Blk w' gp kp R → Frm [gp] w w' → wpAny P .any [o0, o1, o2, o3, o4, o5].toArray Q 4 #[true, false, false, false, true, false] (a.put (some i) (.agg R)) w' := fun w' k1 k2 => by
  refine wpAny_ready (rs := [1]) (RR [true, false, false, false, true, false] [1] (by simp)) (by simp) (AllReady.cons (o := o1) rfl (fun K hK => ?_) AllReady.nil)
  refine wp_val_in g1 _ (r1 w' k2).2 (hK _ _ ?_)
  rw [d1]
  exact S1 w' k1 k2
 have L3 : wpAny P .any [o0, o1, o2, o3, o4, o5].toArray Q 2 #[true, true, true, true, false, false] ((((a.put (some i) (.agg R)).put (some j1) v1).put (some j2) v2).put (some j3) v3) w.drew := by
  refine wpAny_ready (rs := [4]) (RR [true, true, true, true, false, false] [4] (by simp)) (by simp) (AllReady.cons (o := o4) rfl (fun K hK => ?_) AllReady.nil)
  exact wp_store_in g4 t0 p (.tmp i) p4 n4 gp R ep3.1 ep3.2 kp cp bp.drew z0 s0 c0 (fun w2 k4 k5 => hK _ _ (S3 w2 k4 (hfd.trans k5)))
 have L2 : wpAny P .any [o0, o1, o2, o3, o4, o5].toArray Q 3 #[true, true, true, false, false, false] (((a.put (some i) (.agg R)).put (some j1) v1).put (some j2) v2) w.drew := by
  refine wpAny_ready (rs := [3, 4]) (RR [true, true, true, false, false, false] [3, 4] (by simp)) (by simp) (AllReady.cons (o := o3) rfl (fun K hK => ?_) (AllReady.cons (o := o4) rfl (fun K hK => ?_) AllReady.nil))
  ·refine wp_val_in g3 _ (r3 w.drew hfd).2 (hK _ _ ?_)
   rw [d3]
   exact L3
  ·exact wp_store_in g4 t0 p (.tmp i) p4 n4 gp R ep2.1 ep2.2 kp cp bp.drew z0 s0 c0 (fun w2 k4 k5 => hK _ _ (S2 w2 k4 (hfd.trans k5)))
 have L1 : wpAny P .any [o0, o1, o2, o3, o4, o5].toArray Q 4 #[true, true, false, false, false, false] ((a.put (some i) (.agg R)).put (some j1) v1) w.drew := by
  refine wpAny_ready (rs := [2, 4]) (RR [true, true, false, false, false, false] [2, 4] (by simp)) (by simp) (AllReady.cons (o := o2) rfl (fun K hK => ?_) (AllReady.cons (o := o4) rfl (fun K hK => ?_) AllReady.nil))
  ·refine wp_val_in g2 _ (r2 w.drew hfd).2 (hK _ _ ?_)
   rw [d2]
   exact L2
  ·exact wp_store_in g4 t0 p (.tmp i) p4 n4 gp R ep1.1 ep1.2 kp cp bp.drew z0 s0 c0 (fun w2 k4 k5 => hK _ _ (S1 w2 k4 (hfd.trans k5)))
 have L0 : wpAny P .any [o0, o1, o2, o3, o4, o5].toArray Q 5 #[true, false, false, false, false, false] (a.put (some i) (.agg R)) w.drew := by
  refine wpAny_ready (rs := [1, 4]) (RR [true, false, false, false, false, false] [1, 4] (by simp)) (by simp) (AllReady.cons (o := o1) rfl (fun K hK => ?_) (AllReady.cons (o := o4) rfl (fun K hK => ?_) AllReady.nil))
  ·refine wp_val_in g1 _ (r1 w.drew hfd).2 (hK _ _ ?_)
   rw [d1]
   exact L1
  ·exact wp_store_in g4 t0 p (.tmp i) p4 n4 gp R ep.1 ep.2 kp cp bp.drew z0 s0 c0 (fun w2 k4 k5 => hK _ _ (S0 w2 k4 (hfd.trans k5)))
 have Z3 : wpAny P .any [o0, o1, o2, o3, o4, o5].toArray Q 3 #[false, true, true, true, false, false] (((a.put (some j1) v1).put (some j2) v2).put (some j3) v3) w.drew := by
  refine wpAny_ready (rs := [0]) (RR [false, true, true, true, false, false] [0] (by simp)) (by simp) (AllReady.cons (o := o0) rfl (fun K hK => ?_) AllReady.nil)
  refine wp_load_in g0 t0 x p0 gx ex3 kx R e0 bx.drew u0 q0 z0 (hK _ _ ?_)
  rw [d0, ← put_comm h3, ← put_comm h2, ← put_comm h1]
  exact L3
 have Z2 : wpAny P .any [o0, o1, o2, o3, o4, o5].toArray Q 4 #[false, true, true, false, false, false] ((a.put (some j1) v1).put (some j2) v2) w.drew := by
  refine wpAny_ready (rs := [0, 3]) (RR [false, true, true, false, false, false] [0, 3] (by simp)) (by simp) (AllReady.cons (o := o0) rfl (fun K hK => ?_) (AllReady.cons (o := o3) rfl (fun K hK => ?_) AllReady.nil))
  ·refine wp_load_in g0 t0 x p0 gx ex2 kx R e0 bx.drew u0 q0 z0 (hK _ _ ?_)
   rw [d0, ← put_comm h2, ← put_comm h1]
   exact L2
  ·refine wp_val_in g3 _ (r3 w.drew hfd).1 (hK _ _ ?_)
   rw [d3]
   exact Z3
 have Z1 : wpAny P .any [o0, o1, o2, o3, o4, o5].toArray Q 5 #[false, true, false, false, false, false] (a.put (some j1) v1) w.drew := by
  refine wpAny_ready (rs := [0, 2]) (RR [false, true, false, false, false, false] [0, 2] (by simp)) (by simp) (AllReady.cons (o := o0) rfl (fun K hK => ?_) (AllReady.cons (o := o2) rfl (fun K hK => ?_) AllReady.nil))
  ·refine wp_load_in g0 t0 x p0 gx ex1 kx R e0 bx.drew u0 q0 z0 (hK _ _ ?_)
   rw [d0, ← put_comm h1]
   exact L1
  ·refine wp_val_in g2 _ (r2 w.drew hfd).1 (hK _ _ ?_)
   rw [d2]
   exact Z2
 refine wp_region_any hm ?_
 change wpAny P .any [o0, o1, o2, o3, o4, o5].toArray Q 6 #[false, false, false, false, false, false] a w.drew
 refine wpAny_ready (rs := [0, 1]) (RR [false, false, false, false, false, false] [0, 1] (by simp)) (by simp) (AllReady.cons (o := o0) rfl (fun K hK => ?_) (AllReady.cons (o := o1) rfl (fun K hK => ?_) AllReady.nil))
 ·refine wp_load_in g0 t0 x p0 gx ex kx R e0 bx.drew u0 q0 z0 (hK _ _ ?_)
  rw [d0]
  exact L0
 ·refine wp_val_in g1 _ (r1 w.drew hfd).1 (hK _ _ ?_)
  rw [d1]
  exact Z1
end
end Go.Proofs.YtmiaabpnolebhaaGreatDoor
namespace Go.Proofs.YtmiaabpnolebhaaGreatDoor
open Go.RowKit

namespace Core
open Otp Sha Rv Grant Spc
def NewE (B : Nat) (v : Value) (W : World) : Prop := ∃ g, v = .pointer (some ⟨g, 0, none⟩) ∧ B ≤ g ∧ Blk W g 78 evZ
theorem NewE.grow {B : Nat} : ∀ v W W', Rel.Grow W W' → NewE B v W → NewE B v W' := fun _ _ _ h ⟨g, h1, h2, h3⟩ => ⟨g, h1, h2, h3.next h rfl⟩
theorem rel_newE {o : Oper} {a : Act} {B : Nat} {W : World} (ho : o.op = .alloc 78) (hB : B ≤ W.heap.size) : RelG.relAt Tryz.prog o a W (NewE B) := by
 have hz := Big.run_alloc_z (w := W) 78 _ ev_zero
 unfold RelG.relAt execOp
 simp only [ho]
 rw [Sem.run_bind, hz]
 simp only [Result.andThen]
 exact ⟨Rel.Grow.alloc _ _, W.heap.size, rfl, hB, Blk.new _ _ _⟩
def csrW (op v old : Nat) : Nat := if op = 43 ∨ op = 46 then v else if op = 44 ∨ op = 47 then v ||| old else old - (old &&& v)
def csrIn (c : Cr) (i : In) : Nat := if 46 ≤ i.op then i.imm else c.g i.a
def csrHas (i : In) : Bool := decide (i.op = 43 ∨ i.op = 46) || (if 46 ≤ i.op then decide (i.imm ≠ 0) else decide (i.a ≠ 0))
def csrEnd (c : Cr) (i : In) (old : Nat) (cy : Bool) : Cr := if cy then (nextC (withC c i.rd old)).set 40 (((nextC (withC c i.rd old)).g 40 + 4294967295) % 4294967296) else nextC (withC c i.rd old)
def csrR (c : Cr) (i : In) (w : Nat) : Cr × Option Nat :=
 if (csrG c i.csr).2 = false then trR c 2 w
 else if csrHas i = false then (csrEnd c i (csrG c i.csr).1 false, none)
 else if (csrS c i.csr (csrW i.op (csrIn c i) (csrG c i.csr).1)).2 = false then trR c 2 w
 else (csrEnd (csrS c i.csr (csrW i.op (csrIn c i) (csrG c i.csr).1)).1 i (csrG c i.csr).1 (i.csr == 2816), none)
theorem bits_andNot_u32 (a b : Nat) (ha : a < 4294967296) (hb : b < 4294967296) : bits .andNot .u32 (a : Int) (b : Int) = ((a - (a &&& b) : Nat) : Int) := by
 have h1 : (BitVec.ofInt 32 (a : Int)).toNat = a := by
  rw [BitVec.ofInt_natCast, BitVec.toNat_ofNat]; exact Nat.mod_eq_of_lt (by omega)
 have h2 : (BitVec.ofInt 32 (b : Int)).toNat = b := by
  rw [BitVec.ofInt_natCast, BitVec.toNat_ofNat]; exact Nat.mod_eq_of_lt (by omega)
 have hk : ∀ X Y : BitVec 32, X &&& ~~~Y = X - (X &&& Y) := fun X Y => by
  have h3 : X = (X &&& Y) + (X &&& ~~~Y) := by
   rw [BitVec.add_eq_or_of_and_eq_zero]
   ·apply BitVec.eq_of_getLsbD_eq
    intro i hi
    simp only [BitVec.getLsbD_or, BitVec.getLsbD_and, BitVec.getLsbD_not, hi, decide_true, Bool.true_and]
    cases X.getLsbD i <;> cases Y.getLsbD i <;> rfl
   ·apply BitVec.eq_of_getLsbD_eq
    intro i hi
    simp only [BitVec.getLsbD_and, BitVec.getLsbD_not, hi, decide_true, Bool.true_and, BitVec.getLsbD_zero]
    cases X.getLsbD i <;> cases Y.getLsbD i <;> rfl
  have h4 : X - (X &&& Y) = ((X &&& Y) + (X &&& ~~~Y)) - (X &&& Y) := by rw [← h3]
  rw [h4, BitVec.add_comm, BitVec.add_sub_cancel]
 have hle : a &&& b ≤ a := Nat.and_le_left
 show IntKind.u32.wrap ((BitVec.ofInt 32 (a : Int) &&& ~~~(BitVec.ofInt 32 (b : Int))).toNat : Int) = _
 rw [hk, BitVec.toNat_sub, BitVec.toNat_and, h1, h2, IntKind.wrap_u32]
 omega
theorem csrW_lt (op v old : Nat) (hv : v < 4294967296) (ho : old < 4294967296) : csrW op v old < 4294967296 := by
 have h2 : v ||| old < 2 ^ 32 := Nat.or_lt_two_pow (by omega) (by omega)
 unfold csrW
 split
 ·exact hv
 ·split <;> omega
theorem csr_any (c : Cr) (hc : c.Ok) (i : In) (v : Nat) (w : World) (hid : InD i) (h43 : 43 ≤ i.op) (h48 : i.op ≤ 48) (hv : v < 4294967296) :
  Calls Tryz.prog 175 #[.agg (crC c), .agg (inC i), .int .u32 (v : Int)] w (StepOut (csrR c i v).1 (evO (csrR c i v).2 i) w) := by
 have HID := wall hid
 have HOP := wall (And.intro h43 h48)
 have HV := wall hv
 obtain ⟨J, hJ⟩ : ∃ J, csrR c i v = J := ⟨_, rfl⟩
 rw [hJ]
 have HJ := wall hJ.symm
 have HGE := wall (fun W => get_any c hc i.csr W)
 unfold GetO at HGE
 have HGL := wall (csrG_lt hc i.csr)
 clear hid hJ hv
 have HC := wall hc
 have HZ := wall cr_zero
 have HE := wall ev_zero
 have HF := wall (Fn.new w c (inC i))
 obtain ⟨C, hC⟩ : ∃ y, crC c = y := ⟨_, rfl⟩
 obtain ⟨Z, hZ⟩ : ∃ y, crC crZ = y := ⟨_, rfl⟩
 obtain ⟨E, hE⟩ : ∃ y, evZ = y := ⟨_, rfl⟩
 obtain ⟨I, hI⟩ : ∃ y, inC i = y := ⟨_, rfl⟩
 have HI := wall hI
 have HZE := wall (And.intro hZ hE)
 rw [hC, hZ, hE, hI] at HF
 rw [hZ] at HZ
 rw [hE] at HE
 rw [hC, hI]
 clear hc hC
 go_enter Tryz.func175, Tryz.ntmps175
 go_upto_region 1 with (first | refine Big.wpList_alloc_at rfl 71 rfl Z HZ.out (w.heap.size + 2) (by simp) ?_ | refine Big.wpList_alloc_at rfl 78 rfl E HE.out (w.heap.size + 3) (by simp) ?_)
 try simp only [Act.put, rpA, rpB, rpC]
 refine wp_fn w c I HF.out ?_
 intro w1 h1
 have H1 := wall h1
 clear h1 HF
 have HSI := wall (show (Tryz.prog.info? 71).map (·.size) = some (crC c).size ∧ (Tryz.prog.info? 54).map (·.size) = some I.size from ⟨(res_row HC.out).1, by rw [← HI.out]; exact in_info⟩)
 have HCB := wall (show Blk w1 w.heap.size 71 (crC c) from H1.out.c)
 have HIB := wall (show Blk w1 (w.heap.size + 1) 54 I from H1.out.i)
 obtain ⟨D, hD⟩ : ∃ z, crC c = z := ⟨_, rfl⟩
 have HDD := wall hD
 rw [hD] at HSI HCB
 rw [HDD.out] at HGE
 unfold csrR at HJ
 obtain ⟨⟨old, is⟩, hol⟩ : ∃ y, csrG c i.csr = y := ⟨_, rfl⟩
 rw [hol] at HGE HGL HJ
 simp only at HGE HGL HJ
 have kc : w1.cell? ⟨w.heap.size + 1, 5, none⟩ = some (.int .u16 (i.csr : Int)) := by rw [H1.out.i.cell, ← hI]; rfl
 clear hol h43 h48
 go_wp2_with (first | refine wpList_load_row rfl 71 _ rfl w.heap.size rfl 71 D (0, 0) _ HCB.out Tryz.underlying71 rfl HSI.out.1 ?_)
 (with_reducible refine (HGE.out _).mono ?_); rintro e w2 ⟨rfl, hB2⟩
 have H2 := wall (H1.out.next hB2)
 clear hB2 H1 HCB HIB kc HGE
 try simp only [Act.put, rpA, rpB, rpC]
 cases is with
 | false =>
  have HJE := wall (show J.1 = trapC c 2 v ∧ J.2 = some 2 by rw [HJ.out, if_pos rfl]; exact ⟨rfl, rfl⟩)
  have HNX := wall (fun W => show Calls Tryz.prog 97 #[.agg (crC c), .int .u32 2, .int .u32 (v : Int)] W (StepOut (trapC c 2 v) (evO (some 2) i) W) from trap_any c HC.out 2 v W (by decide) HV.out)
  unfold StepOut at HNX
  rw [HDD.out] at HNX
  have HCB := wall (show Blk w2 w.heap.size 71 D by rw [← HDD.out]; exact H2.out.c)
  have HOK1 := wall (show (trapC c 2 v).Ok from Cr.Ok.trap HC.out (by decide) HV.out)
  have HRW := wall (res_row HOK1.out)
  have HEW := wall (evo_row (some 2) i)
  rw [HZE.out.1] at HRW
  rw [HZE.out.2] at HEW
  obtain ⟨D2, hD2⟩ : ∃ q9, crC (trapC c 2 v) = q9 := ⟨_, rfl⟩
  obtain ⟨V, hV⟩ : ∃ q9, evO (some 2) i = q9 := ⟨_, rfl⟩
  have HD2 := wall hD2
  have HVV := wall hV
  rw [hD2] at HNX HRW
  rw [hV] at HNX HEW
  clear hD2 hV
  go_wp2_with (first | refine wpList_load_row rfl 71 _ rfl w.heap.size rfl 71 D (0, 0) _ HCB.out Tryz.underlying71 rfl HSI.out.1 ?_)
  (with_reducible refine (HNX.out _).mono ?_); rintro e w8 ⟨rfl, hB8⟩
  have H8 := wall (H2.out.next hB8)
  have H8o := wall (show Blk w8 (w.heap.size + 2) 71 Z by rw [← hZ]; exact H8.out.o)
  have H8e := wall (show Blk w8 (w.heap.size + 3) 78 E by rw [← hE]; exact H8.out.e)
  have H8b := wall H8.out.bel
  clear hB8 H8 HNX
  try simp only [Act.put, rpA, rpB, rpC]
  go_wp2_with (first | (refine wpList_set_row rfl 71 (.tmp 6) (.tmp 28) rfl (w.heap.size + 2) D2 rfl rfl 71 Z H8o.out HRW.out.1 HRW.out.2.1 HRW.out.2.2 ?_; intro w9 K9 F9; have H9e := wall (H8e.out.frm F9.out (by simp)); have H9b := wall (Below.frm H8b.out F9.out (Nat.le_refl _) (by simp))) | (refine wpList_set_row rfl 78 (.tmp 7) (.tmp 29) rfl (w.heap.size + 3) V rfl rfl 78 E H9e.out HEW.out.1 HEW.out.2.1 HEW.out.2.2 ?_; intro w10 K10 F10))
  have K10o := wall (K9.out.frm F10.out (by simp))
  have HB10 := wall (Below.frm H9b.out F10.out (Nat.le_refl _) (by simp))
  go_light
  exact bodyPost_ret (v := .tuple #[.agg D2, .agg V]) (results_two Tryz.results175 _ _ (w.heap.size + 2) (w.heap.size + 3) 71 78 D2 V _ _ rfl rfl K10o.out K10.out Tryz.underlying71 rfl HRW.out.1 Tryz.underlying78 rfl HEW.out.1) rfl ⟨by rw [HJE.out.1, HJE.out.2, HD2.out, HVV.out], HB10.out⟩
 | true =>
  have HJ2 := wall (show J = if csrHas i = false then (csrEnd c i old false, none) else if (csrS c i.csr (csrW i.op (csrIn c i) old)).2 = false then trR c 2 v else (csrEnd (csrS c i.csr (csrW i.op (csrIn c i) old)).1 i old (i.csr == 2816), none) by rw [HJ.out, if_neg (by decide)])
  clear HJ
  have ka : w2.cell? ⟨w.heap.size + 1, 2, none⟩ = some (.int .u8 (i.a : Int)) := by rw [H2.out.i.cell, ← hI]; rfl
  have ha32 : i.a < 32 := HID.out.a
  have kxa := H2.out.cell HC.out (show i.a < 41 by omega)
  have hl1 : w.heap.size + 1 < w2.heap.size := H2.out.i.lt
  have hl0 : w.heap.size < w2.heap.size := by omega
  obtain ⟨xa, hxa⟩ : ∃ y, c.g i.a = y := ⟨_, rfl⟩
  rw [hxa] at kxa
  have HXA := wall hxa
  have ha0 : ((i.a : Int) != 0) = decide (i.a ≠ 0) := by rw [Bool.eq_iff_iff]; simp
  obtain ⟨a0, ha0e⟩ : ∃ y, decide (i.a ≠ 0) = y := ⟨_, rfl⟩
  rw [ha0e] at ha0
  have HA0 := wall ha0e
  clear hxa ha0e
  go_wp2_with fail
  refine RelG.wp_region_rel 10 [] (by kernel_rfl) (by kernel_rfl) ?_
  simp only [List.take_succ_cons, List.take_zero, List.drop_succ_cons, List.drop_zero, Act.put, rpA, rpB, rpC]
  repeat (first | (refine RelG.tree_quiet rfl rfl rfl (fun K hK => ?_); go_big_quiet_op; refine hK _ ?_; clear hK K) | ((first | refine RelG.tree_pure rfl rfl rfl (.int .u8 (i.a : Int)) (fun W hW _ => Rel.exec_load1 _ _ rfl (w.heap.size + 1) 2 rfl _ (fun _ => by kernel_rfl) ((hW.undrew.cell (p := ⟨w.heap.size + 1, 2, none⟩) hl1).trans ka)) ?_ | refine RelG.tree_pure rfl rfl rfl (.int .u32 (xa : Int)) (fun W hW _ => Rel.exec_load1 _ _ rfl w.heap.size i.a rfl _ (fun _ => by kernel_rfl) ((hW.undrew.cell (p := ⟨w.heap.size, i.a, none⟩) hl0).trans kxa)) ?_); simp only [Act.put, rpA, rpB, rpC]))
  intro W hW _
  have H3 := wall (H2.out.next hW.undrew)
  clear hW ka kxa hl1 hl0 ha32 ha0 H2
  try simp only [Act.put, rpA, rpB, rpC]
  obtain ⟨v0, hv0⟩ : ∃ y, csrIn c i = y := ⟨_, rfl⟩
  obtain ⟨b0, hb0⟩ : ∃ y, (if 46 ≤ i.op then decide (i.imm ≠ 0) else decide (i.a ≠ 0)) = y := ⟨_, rfl⟩
  have HV0 := wall hv0
  have HB0 := wall hb0
  have HVL := wall (show v0 < 4294967296 by
   rw [← hv0]; unfold csrIn
   split
   ·exact HID.out.imm
   ·exact HC.out.g _)
  rw [hv0] at HJ2
  clear hv0 hb0
  have kop : W.cell? ⟨w.heap.size + 1, 0, none⟩ = some (.int .u8 (i.op : Int)) := by rw [H3.out.i.cell, ← hI]; rfl
  obtain ⟨hi, hhi⟩ : ∃ y, decide ((46 : Int) ≤ (i.op : Int)) = y := ⟨_, rfl⟩
  have HHI := wall (show hi = decide (46 ≤ i.op) by rw [← hhi, Bool.eq_iff_iff]; simp; omega)
  go_upto_if 40 with fail
  go_cut [10, 11] (fun s10 s11 w' => s10 = .int .u32 (v0 : Int) ∧ s11 = .bool b0 ∧ Below W.heap.size W w')
  case first =>
   clear HZ HE HSI HV HJ2 kop hhi
   cases hi with
   | true =>
    have h46 : 46 ≤ i.op := of_decide_eq_true HHI.out.symm
    have ki : W.cell? ⟨w.heap.size + 1, 4, none⟩ = some (.int .u32 (i.imm : Int)) := by rw [H3.out.i.cell, ← hI]; rfl
    have hl1 : w.heap.size + 1 < W.heap.size := H3.out.i.lt
    have e1 : i.imm = v0 := by have := HV0.out; unfold csrIn at this; rw [if_pos h46] at this; exact this
    have e2 : ((i.imm : Int) != 0) = b0 := by
     have := HB0.out; rw [if_pos h46] at this; rw [← this, Bool.eq_iff_iff]; simp
    rw [e1] at ki e2
    clear h46 e1
    go_wp2_with fail
    refine RelG.wp_region_rel 7 [] (by kernel_rfl) (by kernel_rfl) ?_
    simp only [List.take_succ_cons, List.take_zero, List.drop_succ_cons, List.drop_zero, Act.put, rpA, rpB, rpC]
    repeat (first | (refine RelG.tree_quiet rfl rfl rfl (fun K hK => ?_); go_big_quiet_op; refine hK _ ?_; clear hK K) | (refine RelG.tree_pure rfl rfl rfl (.int .u32 (v0 : Int)) (fun W2 hW2 _ => Rel.exec_load1 _ _ rfl (w.heap.size + 1) 4 rfl _ (fun _ => by kernel_rfl) ((hW2.undrew.cell (p := ⟨w.heap.size + 1, 4, none⟩) hl1).trans ki)) ?_; simp only [Act.put, rpA, rpB, rpC]))
    intro W2 hW2 _
    try simp only [Act.put, rpA, rpB, rpC]
    go_wp2_with fail
    go_meet
    exact ⟨rfl, rfl, hW2.undrew⟩
   | false =>
    have h46 : ¬ 46 ≤ i.op := of_decide_eq_false HHI.out.symm
    have e1 : xa = v0 := by have := HV0.out; unfold csrIn at this; rw [if_neg h46] at this; rw [← this]; exact HXA.out.symm
    have e2 : a0 = b0 := by have := HB0.out; rw [if_neg h46] at this; rw [← this]; exact HA0.out.symm
    clear h46
    go_wp2_with fail
    go_meet
    exact ⟨by rw [e1], by rw [e2], Below.refl _ _⟩
  case rest =>
   obtain ⟨rfl, rfl, hBc⟩ := hcut
   obtain ⟨W3, rfl⟩ : ∃ wo : World, wo = wc := ⟨_, rfl⟩
   have H4 := wall (H3.out.next hBc)
   clear hBc H3
   obtain ⟨v1, hv1⟩ : ∃ y, csrW i.op v0 old = y := ⟨_, rfl⟩
   have HV1 := wall hv1
   have HVL1 := wall (show v1 < 4294967296 by rw [← hv1]; exact csrW_lt _ _ _ HVL.out HGL.out)
   obtain ⟨b1, hb1⟩ : ∃ y, csrHas i = y := ⟨_, rfl⟩
   have HB1 := wall hb1
   rw [hv1, hb1] at HJ2
   clear hv1 hb1
   clear kop hhi
   have kop : W3.cell? ⟨w.heap.size + 1, 0, none⟩ = some (.int .u8 (i.op : Int)) := by rw [H4.out.i.cell, ← hI]; rfl
   have H48 := wall (show i.op = 43 ∨ i.op = 44 ∨ i.op = 45 ∨ i.op = 46 ∨ i.op = 47 ∨ i.op = 48 by have := HOP.out; omega)
   have HBC := wall (show b1 = (decide (i.op = 43 ∨ i.op = 46) || b0) by rw [← HB1.out, ← HB0.out]; rfl)
   have hor := bits_or_u32 v0 old HVL.out HGL.out
   have han := bits_andNot_u32 old v0 HGL.out HVL.out
   go_upto_block 0 with fail
   go_cut [10, 11] (fun s10 s11 w' => s10 = .int .u32 (v1 : Int) ∧ s11 = .bool b1 ∧ W3 = w')
   case first =>
    clear HZ HE HSI HV HJ2 kop HHI
    have HVB := wall (And.intro HV1.out HBC.out)
    have h48 := H48.out
    clear HV1 HBC HB1 HB0 HV0 HOP H48 HVL HGL HVL1 H4
    rcases h48 with h | h | h | h | h | h
    ·have hv1 := HVB.out.1
     have hb1 := HVB.out.2
     rw [h] at hv1 hb1
     unfold csrW at hv1
     simp at hv1 hb1
     subst hv1
     subst hb1
     have q43 : ((i.op : Int) == 43) = true := by rw [h]; rfl
     have q46 : ((i.op : Int) == 46) = false := by rw [h]; rfl
     have q44 : ((i.op : Int) == 44) = false := by rw [h]; rfl
     have q47 : ((i.op : Int) == 47) = false := by rw [h]; rfl
     clear h HVB han
     go_wp2_with fail
     go_meet
     exact ⟨rfl, rfl, rfl⟩
    ·have hv1 := HVB.out.1
     have hb1 := HVB.out.2
     rw [h] at hv1 hb1
     unfold csrW at hv1
     simp at hv1 hb1
     subst hv1
     subst hb1
     have q43 : ((i.op : Int) == 43) = false := by rw [h]; rfl
     have q46 : ((i.op : Int) == 46) = false := by rw [h]; rfl
     have q44 : ((i.op : Int) == 44) = true := by rw [h]; rfl
     have q47 : ((i.op : Int) == 47) = false := by rw [h]; rfl
     clear h HVB han
     go_wp2_with fail
     go_meet
     exact ⟨rfl, rfl, rfl⟩
    ·have hv1 := HVB.out.1
     have hb1 := HVB.out.2
     rw [h] at hv1 hb1
     unfold csrW at hv1
     simp at hv1 hb1
     subst hv1
     subst hb1
     have q43 : ((i.op : Int) == 43) = false := by rw [h]; rfl
     have q46 : ((i.op : Int) == 46) = false := by rw [h]; rfl
     have q44 : ((i.op : Int) == 44) = false := by rw [h]; rfl
     have q47 : ((i.op : Int) == 47) = false := by rw [h]; rfl
     clear h HVB hor
     go_wp2_with fail
     go_meet
     exact ⟨rfl, rfl, rfl⟩
    ·have hv1 := HVB.out.1
     have hb1 := HVB.out.2
     rw [h] at hv1 hb1
     unfold csrW at hv1
     simp at hv1 hb1
     subst hv1
     subst hb1
     have q43 : ((i.op : Int) == 43) = false := by rw [h]; rfl
     have q46 : ((i.op : Int) == 46) = true := by rw [h]; rfl
     have q44 : ((i.op : Int) == 44) = false := by rw [h]; rfl
     have q47 : ((i.op : Int) == 47) = false := by rw [h]; rfl
     clear h HVB han
     go_wp2_with fail
     go_meet
     exact ⟨rfl, rfl, rfl⟩
    ·have hv1 := HVB.out.1
     have hb1 := HVB.out.2
     rw [h] at hv1 hb1
     unfold csrW at hv1
     simp at hv1 hb1
     subst hv1
     subst hb1
     have q43 : ((i.op : Int) == 43) = false := by rw [h]; rfl
     have q46 : ((i.op : Int) == 46) = false := by rw [h]; rfl
     have q44 : ((i.op : Int) == 44) = false := by rw [h]; rfl
     have q47 : ((i.op : Int) == 47) = true := by rw [h]; rfl
     clear h HVB han
     go_wp2_with fail
     go_meet
     exact ⟨rfl, rfl, rfl⟩
    ·have hv1 := HVB.out.1
     have hb1 := HVB.out.2
     rw [h] at hv1 hb1
     unfold csrW at hv1
     simp at hv1 hb1
     subst hv1
     subst hb1
     have q43 : ((i.op : Int) == 43) = false := by rw [h]; rfl
     have q46 : ((i.op : Int) == 46) = false := by rw [h]; rfl
     have q44 : ((i.op : Int) == 44) = false := by rw [h]; rfl
     have q47 : ((i.op : Int) == 47) = false := by rw [h]; rfl
     clear h HVB hor
     go_wp2_with fail
     go_meet
     exact ⟨rfl, rfl, rfl⟩
   case rest =>
    obtain ⟨rfl, rfl, rfl⟩ := hcut
    clear kop hor han HBC H48 HV0 HB0 HB1 HV1 HHI HXA HA0
    have kx : W3.cell? ⟨w.heap.size + 1, 5, none⟩ = some (.int .u16 (i.csr : Int)) := by rw [H4.out.i.cell, ← hI]; rfl
    go_upto_if 60 with fail
    go_cut [12] (fun s12 w' => ∃ (cX : Cr) (cy : Bool), s12 = .bool cy ∧ Wall cX.Ok ∧ Wall (Fn w w' cX I) ∧ Wall (J = (csrEnd cX i old cy, none)))
    case first =>
     cases b1 with
     | false =>
      go_wp2_with fail
      go_meet
      exact ⟨c, false, rfl, HC, H4, wall (by rw [HJ2.out]; simp)⟩
     | true =>
      have HSE := wall (fun W => set_any c HC.out i.csr v1 W HVL1.out)
      unfold SetO at HSE
      have HSO := wall (csrS_ok HC.out i.csr v1 HVL1.out)
      have HJ3 := wall (show J = if (csrS c i.csr v1).2 = false then trR c 2 v else (csrEnd (csrS c i.csr v1).1 i old (i.csr == 2816), none) by rw [HJ2.out, if_neg (by decide)])
      obtain ⟨⟨cS, is2⟩, hcs⟩ : ∃ y, csrS c i.csr v1 = y := ⟨_, rfl⟩
      rw [hcs] at HSE HSO HJ3
      simp only at HSE HSO HJ3
      have HRS := wall (res_row HSO.out)
      have HDS := wall (show D.size = (crC cS).size by rw [← HDD.out, crC_size HC.out, crC_size HSO.out])
      rw [HDD.out] at HSE
      rw [hZ] at HRS
      obtain ⟨DSL, hDS⟩ : ∃ z : List Value, crC cS = z.toArray := ⟨_, rfl⟩
      have HDL := wall (show DSL.length = 42 by have := crC_size HSO.out; rw [hDS] at this; simpa using this)
      have HDSE := wall hDS
      rw [hDS] at HSE HRS HDS
      have HCB := wall (show Blk W3 w.heap.size 71 D by rw [← HDD.out]; exact H4.out.c)
      clear hcs hDS HJ2
      go_wp2_with (first | refine wpList_load_row rfl 71 _ rfl w.heap.size rfl 71 D (0, 0) _ HCB.out Tryz.underlying71 rfl HSI.out.1 ?_)
      (with_reducible refine (HSE.out _).mono ?_); rintro e w5 ⟨rfl, hB5⟩
      have H5 := wall (H4.out.next hB5)
      clear hB5 HSE H4 HCB kx
      try simp only [Act.put, rpA, rpB, rpC]
      have HNB := wall (show Blk (w5.alloc (.cells Z 71)) w5.heap.size 71 Z from Blk.new _ _ _)
      have HFA := wall (show Fn w (w5.alloc (.cells Z 71)) c I from H5.out.next ((Below.refl _ w5).alloc (Nat.le_refl _) _))
      have H95 := wall (show w.heap.size + 3 < w5.heap.size from H5.out.e.lt)
      clear H5
      go_upto_region 18 with (first | refine Big.wpList_alloc_at rfl 71 rfl Z HZ.out w5.heap.size rfl ?_ | (refine wpList_set_row rfl 71 (.tmp 13) (.tmp 67) rfl w5.heap.size DSL.toArray rfl rfl 71 Z HNB.out HRS.out.1 HRS.out.2.1 HRS.out.2.2 ?_; intro w6 K6 F6))
      have h95 := H95.out
      have H6 := wall (show Fn w w6 c I from ⟨Blk.frm HFA.out.c F6.out (by simp; omega), HFA.out.i.frm F6.out (by simp; omega), HFA.out.o.frm F6.out (by simp; omega), HFA.out.e.frm F6.out (by simp; omega), Below.frm HFA.out.bel F6.out (Nat.le_refl _) (by simp; omega)⟩)
      have K6' := wall K6.out
      clear K6 F6 HFA HNB h95
      obtain ⟨gn, hgn⟩ : ∃ y, w5.heap.size = y := ⟨_, rfl⟩
      rw [hgn] at K6' H95 ⊢
      clear hgn
      have HCB := wall (show Blk w6 w.heap.size 71 D by rw [← HDD.out]; exact H6.out.c)
      cases is2 with
      | false =>
       have HJE := wall (show J.1 = trapC c 2 v ∧ J.2 = some 2 by rw [HJ3.out, if_pos rfl]; exact ⟨rfl, rfl⟩)
       have HNX := wall (fun W => show Calls Tryz.prog 97 #[.agg (crC c), .int .u32 2, .int .u32 (v : Int)] W (StepOut (trapC c 2 v) (evO (some 2) i) W) from trap_any c HC.out 2 v W (by decide) HV.out)
       unfold StepOut at HNX
       rw [HDD.out] at HNX
       have HOK1 := wall (show (trapC c 2 v).Ok from Cr.Ok.trap HC.out (by decide) HV.out)
       have HRW := wall (res_row HOK1.out)
       have HEW := wall (evo_row (some 2) i)
       rw [HZE.out.1] at HRW
       rw [HZE.out.2] at HEW
       obtain ⟨D2, hD2⟩ : ∃ q9, crC (trapC c 2 v) = q9 := ⟨_, rfl⟩
       obtain ⟨V, hV⟩ : ∃ q9, evO (some 2) i = q9 := ⟨_, rfl⟩
       have HD2 := wall hD2
       have HVV := wall hV
       rw [hD2] at HNX HRW
       rw [hV] at HNX HEW
       clear hD2 hV
       go_wp2_with (first | refine wpList_load_row rfl 71 _ rfl w.heap.size rfl 71 D (0, 0) _ HCB.out Tryz.underlying71 rfl HSI.out.1 ?_)
       (with_reducible refine (HNX.out _).mono ?_); rintro e w8 ⟨rfl, hB8⟩
       have H8 := wall (H6.out.next hB8)
       have H8o := wall (show Blk w8 (w.heap.size + 2) 71 Z by rw [← hZ]; exact H8.out.o)
       have H8e := wall (show Blk w8 (w.heap.size + 3) 78 E by rw [← hE]; exact H8.out.e)
       have H8b := wall H8.out.bel
       clear hB8 H8 HNX
       try simp only [Act.put, rpA, rpB, rpC]
       go_wp2_with (first | (refine wpList_set_row rfl 71 (.tmp 6) (.tmp 74) rfl (w.heap.size + 2) D2 rfl rfl 71 Z H8o.out HRW.out.1 HRW.out.2.1 HRW.out.2.2 ?_; intro w9 K9 F9; have H9e := wall (H8e.out.frm F9.out (by simp)); have H9b := wall (Below.frm H8b.out F9.out (Nat.le_refl _) (by simp))) | (refine wpList_set_row rfl 78 (.tmp 7) (.tmp 75) rfl (w.heap.size + 3) V rfl rfl 78 E H9e.out HEW.out.1 HEW.out.2.1 HEW.out.2.2 ?_; intro w10 K10 F10))
       have K10o := wall (K9.out.frm F10.out (by simp))
       have HB10 := wall (Below.frm H9b.out F10.out (Nat.le_refl _) (by simp))
       go_light
       exact bodyPost_ret (v := .tuple #[.agg D2, .agg V]) (results_two Tryz.results175 _ _ (w.heap.size + 2) (w.heap.size + 3) 71 78 D2 V _ _ rfl rfl K10o.out K10.out Tryz.underlying71 rfl HRW.out.1 Tryz.underlying78 rfl HEW.out.1) rfl ⟨by rw [HJE.out.1, HJE.out.2, HD2.out, HVV.out], HB10.out⟩
      | true =>
       have HJE := wall (show J = (csrEnd cS i old (i.csr == 2816), none) by rw [HJ3.out, if_neg (by decide)])
       have hcy : ((i.csr : Int) == 2816) = (i.csr == 2816) := by rw [Bool.eq_iff_iff]; simp; omega
       obtain ⟨cy, hcye⟩ : ∃ y, (i.csr == 2816) = y := ⟨_, rfl⟩
       rw [hcye] at hcy HJE
       clear hcye HJ3 HCB HSI
       have kx : w6.cell? ⟨w.heap.size + 1, 5, none⟩ = some (.int .u16 (i.csr : Int)) := by rw [H6.out.i.cell, ← hI]; rfl
       go_upto_region 20 with fail
       have HI6 := wall (show ∀ W, Frm [w.heap.size] w6 W → W.cell? ⟨w.heap.size + 1, 5, none⟩ = some (.int .u16 (i.csr : Int)) from fun W hW => (World.cell?_of_block (hW.block (w.heap.size + 1) H6.out.i.lt (by simp))).trans kx)
       have HBD := wall (show Blk w6 w.heap.size 71 D by rw [← HDD.out]; exact H6.out.c)
       clear kx
       refine wp_late_row (by kernel_rfl) (by kernel_rfl) rfl rfl rfl rfl rfl rfl rfl 71 _ _ 76 77 78 79 12 (by decide) (by decide) (by decide) rfl rfl rfl rfl rfl rfl rfl gn w.heap.size DSL.toArray 71 71 D _ (.pointer (some ⟨w.heap.size + 1, 5, none⟩)) (.int .u16 (i.csr : Int)) (.bool cy) (.bool cy) rfl rfl rfl rfl ⟨rfl, rfl⟩ ⟨rfl, rfl⟩ ⟨rfl, rfl⟩ ⟨rfl, rfl⟩ (fun W hW => ⟨by go_simp, by go_simp⟩) (fun W hW => ⟨Rel.exec_load1 _ _ rfl (w.heap.size + 1) 5 rfl _ (fun _ => by kernel_rfl) (HI6.out W hW), Rel.exec_load1 _ _ rfl (w.heap.size + 1) 5 rfl _ (fun _ => by kernel_rfl) (HI6.out W hW)⟩) (fun W hW => ⟨by go_simp, by go_simp⟩) (fun W hW => by go_simp) K6'.out HBD.out Tryz.underlying71 rfl HRS.out.1 HDS.out HRS.out.2.2 ?_
       intro w7 K7 F7
       have H7 := wall (show Fn w w7 cS I from ⟨by rw [← HDSE.out] at K7; exact K7, H6.out.i.frm F7 (by simp), H6.out.o.frm F7 (by simp), H6.out.e.frm F7 (by simp), Below.frm H6.out.bel F7 (Nat.le_refl _) (by simp)⟩)
       clear K7 F7 hcy
       try simp only [Act.put, rpA, rpB, rpC]
       go_wp2_with fail
       go_meet
       exact ⟨cS, cy, rfl, HSO, H7, HJE⟩
    case rest =>
     obtain ⟨cX, cy, rfl, HCX, HFX, HJX⟩ := hcut
     obtain ⟨W4, rfl⟩ : ∃ wo : World, wo = wc := ⟨_, rfl⟩
     clear kx HJ2 H4 HDD HC HSI
     have HWI := wall (fun W => with_any cX HCX.out (i.rd : Int) i.rd old W rfl HGL.out)
     unfold CrOut at HWI
     have HC1 := wall (HCX.out.with i.rd old HGL.out)
     have HCE := wall (show ∀ cy, csrEnd cX i old cy = if cy then (nextC (withC cX i.rd old)).set 40 (((nextC (withC cX i.rd old)).g 40 + 4294967295) % 4294967296) else nextC (withC cX i.rd old) from fun _ => rfl)
     obtain ⟨c1, hc1⟩ : ∃ y, withC cX i.rd old = y := ⟨_, rfl⟩
     rw [hc1] at HWI HC1 HCE
     have HNX := wall (fun W => show Calls Tryz.prog 169 #[.agg (crC c1), .agg (inC i)] W (StepOut (nextC c1) (evO none i) W) from next_any c1 HC1.out i W)
     unfold StepOut at HNX
     have HC2 := wall HC1.out.next
     obtain ⟨c2, hc2⟩ : ∃ y, nextC c1 = y := ⟨_, rfl⟩
     rw [hc2] at HNX HC2 HCE
     have HSI := wall (show (Tryz.prog.info? 71).map (·.size) = some (crC cX).size ∧ (Tryz.prog.info? 54).map (·.size) = some I.size from ⟨(res_row HCX.out).1, by rw [← HI.out]; exact in_info⟩)
     have HRW := wall (res_row HC2.out)
     have HEW := wall (evo_row none i)
     have HDX := wall (show (crC cX).size = (crC c2).size by rw [crC_size HCX.out, crC_size HC2.out])
     have HCB := wall (show Blk W4 w.heap.size 71 (crC cX) from HFX.out.c)
     have HIB := wall (show Blk W4 (w.heap.size + 1) 54 I from HFX.out.i)
     obtain ⟨D1, hD1⟩ : ∃ z, crC c1 = z := ⟨_, rfl⟩
     obtain ⟨D2, hD2⟩ : ∃ z, crC c2 = z := ⟨_, rfl⟩
     obtain ⟨DX, hDX⟩ : ∃ z, crC cX = z := ⟨_, rfl⟩
     obtain ⟨V, hV⟩ : ∃ z, evO none i = z := ⟨_, rfl⟩
     have HD2 := wall hD2
     have HVV := wall hV
     rw [hD1, hDX] at HWI
     rw [hD1, hD2, hV, HI.out] at HNX
     rw [hDX] at HSI HCB HDX
     rw [hD2] at HRW HDX
     rw [hV] at HEW
     rw [HZE.out.1] at HRW
     rw [HZE.out.2] at HEW
     have hz0 := HZE.out.2
     clear hc1 hc2 hD1 hD2 hDX hV
     have kr : W4.cell? ⟨w.heap.size + 1, 1, none⟩ = some (.int .u8 (i.rd : Int)) := by rw [HFX.out.i.cell, ← hI]; rfl
     have hrd : i.rd < 32 := HID.out.rd
     have hl1 : w.heap.size + 1 < W4.heap.size := HFX.out.i.lt
     go_wp2_with fail
     refine RelG.wp_region_fl 12 [10] [(86, .const (.agg D1)), (88, .const (.tuple #[.agg D2, .agg V])), (15, .any (NewE W4.drew.heap.size) NewE.grow)] (by kernel_rfl) (by kernel_rfl) rfl (fun _ _ _ _ _ h => h) ?_
     simp only [List.take_succ_cons, List.take_zero, List.drop_succ_cons, List.drop_zero, Act.put, rpA, rpB, rpC]
     repeat (first | (refine RelG.tree_quiet rfl rfl rfl (fun K hK => ?_); go_big_quiet_op; refine hK _ ?_; clear hK K) | ((first | refine RelG.tree_pure rfl rfl rfl (.agg DX) (fun W2 hW2 _ => Rel.exec_load _ _ rfl (w.heap.size) 0 rfl _ _ (Blk.range (HCB.out.next hW2.undrew rfl)) Tryz.underlying71 rfl HSI.out.1) ?_ | refine RelG.tree_pure rfl rfl rfl (.agg I) (fun W2 hW2 _ => Rel.exec_load _ _ rfl (w.heap.size + 1) 0 rfl _ _ (Blk.range (HIB.out.next hW2.undrew rfl)) Tryz.underlying54 rfl HSI.out.2) ?_ | refine RelG.tree_pure rfl rfl rfl (.int .u8 (i.rd : Int)) (fun W2 hW2 _ => Rel.exec_load1 _ _ rfl (w.heap.size + 1) (1) rfl _ (fun _ => by kernel_rfl) ((hW2.undrew.cell (p := ⟨w.heap.size + 1, 1, none⟩) hl1).trans kr)) ?_); simp only [Act.put, rpA, rpB, rpC]) | (refine RelG.tree_const rfl (.agg D1) rfl (fun W2 hW2 _ => by (unfold RelG.relAt; go_simp; show Calls _ _ _ _ _; exact (HWI.out _).mono fun e w2 h => ⟨_, h.1, h.2, rfl⟩)) ?_; simp only [Act.put, rpA, rpB, rpC]) | (refine RelG.tree_const rfl (.tuple #[.agg D2, .agg V]) rfl (fun W2 hW2 _ => by (unfold RelG.relAt; go_simp; show Calls _ _ _ _ _; exact (HNX.out _).mono fun e w2 h => ⟨_, h.1, h.2, rfl⟩)) ?_; simp only [Act.put, rpA, rpB, rpC]))
     refine RelG.tree_rel rfl (NewE W4.drew.heap.size) NewE.grow rfl (fun W hW _ => rel_newE rfl (Below.size hW)) (fun v15 => ?_)
     simp only [Act.put, rpA, rpB, rpC]
     intro W5 hW5 hF
     obtain ⟨g15, rfl, hg15, KE⟩ : NewE W4.drew.heap.size v15 W5 := hF 15
     have H5 := wall (HFX.out.next hW5.undrew)
     have HG15 := wall (show w.heap.size + 3 < g15 by have := HFX.out.e.lt; have h2 : W4.heap.size ≤ g15 := hg15; omega)
     have HKE := wall (show Blk W5 g15 78 E by rw [← hz0]; exact KE)
     have HCB5 := wall (HCB.out.next hW5.undrew rfl)
     clear hW5 hF hg15 KE kr hrd hl1 HNX HWI HCB HIB HFX
     go_upto_region 22 with (first | (refine wpList_set_row rfl 71 (.tmp 3) (.tmp 89) rfl w.heap.size D2 rfl rfl 71 DX HCB5.out HRW.out.1 HDX.out HRW.out.2.2 ?_; intro w6 K6 F6; have HKE6 := wall (HKE.out.frm F6.out (by have := HG15.out; simp; omega))) | (refine wpList_set_row rfl 78 (.tmp 15) (.tmp 90) rfl g15 V rfl rfl 78 E HKE6.out HEW.out.1 HEW.out.2.1 HEW.out.2.2 ?_; intro w7 K7 F7))
     have h15 := HG15.out
     have H7 := wall (show Fn w w7 c2 I from ⟨by rw [← HD2.out] at K6; exact Blk.frm K6.out F7.out (by simp; omega), (H5.out.i.frm F6.out (by simp)).frm F7.out (by simp; omega), (H5.out.o.frm F6.out (by simp)).frm F7.out (by simp; omega), (H5.out.e.frm F6.out (by simp)).frm F7.out (by simp; omega), Below.frm (Below.frm H5.out.bel F6.out (Nat.le_refl _) (by simp)) F7.out (Nat.le_refl _) (by simp; omega)⟩)
     have HKV := wall K7.out
     clear K6 F6 K7 F7 H5 HKE HKE6 HCB5 h15
     try simp only [Act.put, rpA, rpB, rpC]
     cases cy with
     | true =>
      have HJ9 := wall (show J.1 = c2.set 40 ((c2.g 40 + 4294967295) % 4294967296) ∧ J.2 = none by rw [HJX.out, HCE.out]; exact ⟨rfl, rfl⟩)
      have HC3 := wall (HC2.out.set 40 ((c2.g 40 + 4294967295) % 4294967296) (by omega))
      have k40 := H7.out.cell HC2.out (show 40 < 41 by decide)
      have hfz := H7.out.frozen
      obtain ⟨s40, hs40⟩ : ∃ y, c2.g 40 = y := ⟨_, rfl⟩
      rw [hs40] at k40 HJ9 HC3
      clear hs40 HJX HCE
      have h15 := HG15.out
      have h8 := H7.out.put HC2.out (i := 40) (by decide) ((s40 + 4294967295) % 4294967296)
      have h9 := HKV.out.far' w.heap.size 40 (by omega) (.int .u32 (((s40 + 4294967295) % 4294967296 : Nat) : Int))
      have e2 : (((s40 + 4294967295) % 4294967296 : Nat) : Int) = ((s40 : Int) - 1) % 4294967296 := by omega
      have HRX := wall (res_row HC3.out)
      obtain ⟨c3, hc3⟩ : ∃ y, c2.set 40 ((s40 + 4294967295) % 4294967296) = y := ⟨_, rfl⟩
      rw [hc3] at HJ9 HC3 h8 HRX
      rw [e2] at h8 h9
      have H8 := wall h8
      have H9 := wall h9
      rw [HZE.out.1] at HRX
      clear e2 h8 h9 hc3
      go_upto_region 24 with fail
      generalize w7.setCell ⟨w.heap.size, 40, none⟩ (.int .u32 (((s40 : Int) - 1) % 4294967296)) = w8 at *
      clear k40 hfz
      have HO7 := wall H8.out.o
      have HE7 := wall H8.out.e
      have HB7 := wall H8.out.bel
      obtain ⟨D3, hD3⟩ : ∃ z, crC c3 = z := ⟨_, rfl⟩
      have HD3 := wall hD3
      have HC7 := wall (show Blk w8 w.heap.size 71 D3 by rw [← hD3]; exact H8.out.c)
      rw [hD3] at HRX
      rw [HZE.out.1] at HO7
      rw [HZE.out.2] at HE7
      clear H7 H8 hD3
      refine wp_two_rows (by kernel_rfl) (by kernel_rfl) rfl rfl rfl rfl rfl rfl 71 78 _ _ _ _ 98 99 (by decide) rfl rfl rfl rfl rfl rfl w.heap.size g15 (w.heap.size + 2) (w.heap.size + 3) D3 V 71 78 71 78 Z E _ _ rfl rfl rfl rfl rfl rfl rfl rfl rfl rfl HC7.out H9.out HO7.out HE7.out (by omega) (by omega) Tryz.underlying71 rfl HRX.out.1 HRX.out.2.1 HRX.out.2.2 Tryz.underlying78 rfl HEW.out.1 HEW.out.2.1 HEW.out.2.2 ?_
      intro w9 K8 K9 F9
      have K8o := wall K8
      have K9o := wall K9
      have HB9 := wall (Below.frm HB7.out F9 (Nat.le_refl _) (by intro x hx; simp at hx; omega))
      clear K8 K9 F9 h15
      try simp only [Act.put, rpA, rpB, rpC]
      go_wp2_with fail
      go_light
      exact bodyPost_ret (v := .tuple #[.agg D3, .agg V]) (results_two Tryz.results175 _ _ (w.heap.size + 2) (w.heap.size + 3) 71 78 D3 V _ _ rfl rfl K8o.out K9o.out Tryz.underlying71 rfl HRX.out.1 Tryz.underlying78 rfl HEW.out.1) rfl ⟨by rw [HJ9.out.1, HJ9.out.2, HD3.out, HVV.out], HB9.out⟩
     | false =>
      have HJ9 := wall (show J.1 = c2 ∧ J.2 = none by rw [HJX.out, HCE.out]; exact ⟨rfl, rfl⟩)
      have HO7 := wall H7.out.o
      have HE7 := wall H7.out.e
      have HB7 := wall H7.out.bel
      have HC7 := wall (show Blk w7 w.heap.size 71 D2 by rw [← HD2.out]; exact H7.out.c)
      have h15 := HG15.out
      rw [HZE.out.1] at HO7
      rw [HZE.out.2] at HE7
      clear H7 HJX HCE
      go_upto_region 24 with fail
      refine wp_two_rows (by kernel_rfl) (by kernel_rfl) rfl rfl rfl rfl rfl rfl 71 78 _ _ _ _ 98 99 (by decide) rfl rfl rfl rfl rfl rfl w.heap.size g15 (w.heap.size + 2) (w.heap.size + 3) D2 V 71 78 71 78 Z E _ _ rfl rfl rfl rfl rfl rfl rfl rfl rfl rfl HC7.out HKV.out HO7.out HE7.out (by omega) (by omega) Tryz.underlying71 rfl HRW.out.1 HRW.out.2.1 HRW.out.2.2 Tryz.underlying78 rfl HEW.out.1 HEW.out.2.1 HEW.out.2.2 ?_
      intro w9 K8 K9 F9
      have K8o := wall K8
      have K9o := wall K9
      have HB9 := wall (Below.frm HB7.out F9 (Nat.le_refl _) (by intro x hx; simp at hx; omega))
      clear K8 K9 F9 h15
      try simp only [Act.put, rpA, rpB, rpC]
      go_wp2_with fail
      go_light
      exact bodyPost_ret (v := .tuple #[.agg D2, .agg V]) (results_two Tryz.results175 _ _ (w.heap.size + 2) (w.heap.size + 3) 71 78 D2 V _ _ rfl rfl K8o.out K9o.out Tryz.underlying71 rfl HRW.out.1 Tryz.underlying78 rfl HEW.out.1) rfl ⟨by rw [HJ9.out.1, HJ9.out.2, HD2.out, HVV.out], HB9.out⟩
end Core
end Go.Proofs.YtmiaabpnolebhaaGreatDoor
