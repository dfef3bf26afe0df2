/-
  Law 20: awake.
-/
import Derived.Test.YtfiojpdkbckopaaDoorCorL
import Derived.Test.YtfiojpdkbckopaaDoorJbd03a24f
set_option linter.unusedSimpArgs false
set_option linter.unusedVariables false
namespace Go.Proofs.YtfiojpdkbckopaaDoor
open Go.RowKit

namespace Core
open Otp Sha R1 Spc Grant Rv
def awP : List Nat := [147, 0, 80, 0]
def awC : Cr := addiC ((newC 536870912).time false) 1 0 5
theorem aw_dec : dec (le32 147 0 80 0) = (addiI 1 0 5, true) := by decide +kernel
theorem aw_chk : chk 1 1 536870912 4 false true = (1, 0, 0) := by decide +kernel
theorem aw_ok : awC.Ok := by
  have h := (newC_ok (pc := 536870912) (by decide)).time false
  exact (h.with 1 _ (by omega)).next
theorem aw1 : awC.g 1 = 5 := by decide +kernel
theorem aw32 : awC.g 32 = 536870916 := by decide +kernel
theorem awP_ram (i x : Nat) (hi : i < 4) (h : awP[i]? = some x) : (splice (List.replicate 8192 0) 0 awP)[i]? = some x := by
  unfold splice
  rw [List.take_zero, List.nil_append, List.getElem?_append_left (by show i < 4; exact hi)]
  exact h
set_option maxRecDepth 100000 in
set_option maxHeartbeats 4000000 in
theorem awake_any (w : World) (hS : Spans w) : Calls Tryd.prog 8 #[] w (TrueB w) := by
  have HS := wall hS
  have HLY := wall (fun W (h1 : Spans W) A c (h2 : Nats .u8 256 W W.heap.size A awP) => show Calls Tryd.prog 9 #[.int .u8 1, .slice A 4 c] W (LayOut 1 awP W) from lay_any 1 (by decide) A 4 c awP W h1 rfl (by decide) h2)
  have HNW := wall (fun W => show Calls Tryd.prog 18 #[.int .u32 536870912] W (CrOut (newC 536870912) W) from new_any 536870912 (by decide) W)
  have HNL := wall (show Nats .u8 256 (w.alloc (.cells #[.int .u8 147, .int .u8 0, .int .u8 80, .int .u8 0] 5)) (w.alloc (.cells #[.int .u8 147, .int .u8 0, .int .u8 80, .int .u8 0] 5)).heap.size (some ⟨w.heap.size, 0, none⟩) awP from nats_b8 (l := awP) (show Blk _ _ _ (b8 awP) from Blk.new w 5 (b8 awP)) (by decide))
  have HBL := wall ((Below.refl _ w).alloc (Nat.le_refl _) (.cells #[.int .u8 147, .int .u8 0, .int .u8 80, .int .u8 0] 5))
  have HSP := wall (fun W (h1 : Spans W) g v (h2 : Sp W g v) (h3 : v.Ok) (h4 : v.st = 1) (h5 : v.ram = splice (List.replicate 8192 0) 0 awP) => step_pure (newC 536870912) (newC_ok (by decide)) g v 0 147 0 80 0 (addiI 1 0 5) awC (evC false 0 (addiI 1 0 5) 0 none 0 0) W h1 h3 h2 (by rw [h4]; decide) (by decide +kernel) (by rw [h4]; exact aw_chk) (by decide) (by rw [h5]; exact awP_ram 0 _ (by decide) rfl) (by rw [h5]; exact awP_ram 1 _ (by decide) rfl) (by rw [h5]; exact awP_ram 2 _ (by decide) rfl) (by rw [h5]; exact awP_ram 3 _ (by decide) rfl) aw_dec aw_ok ev_info rfl (evC_one _ _ _ _ _ _ _) (fun W' => do_addi ((newC 536870912).time false) ((newC_ok (by decide)).time false) (.pointer (some ⟨g, 0, none⟩)) 1 0 5 _ W' (by decide) (by decide) (by decide)))
  clear hS
  go_enter Tryd.func8, Tryd.ntmps8
  go_wp2_with fail
  generalize w.alloc (.cells #[.int .u8 147, .int .u8 0, .int .u8 80, .int .u8 0] 5) = w1 at *
  (with_reducible refine (HLY.out _ (HS.out.old HBL.out) _ _ HNL.out).mono ?_); rintro e w2 ⟨g, m, b1, b2, b4, v, rfl, hL, hB2⟩
  have HL := wall hL
  have HB2 := wall (below_then HBL.out hB2 (Nat.le_refl _))
  clear hL hB2 HLY HNL HBL
  try simp only [Act.put, List.setIfInBounds_toArray, List.set_cons_zero, List.set_cons_succ]
  go_wp2_with fail
  (with_reducible refine (HNW.out _).mono ?_); rintro e w3 ⟨rfl, hB3⟩
  have HL3 := wall (HL.out.old hB3)
  have HB3 := wall (below_then HB2.out hB3 (Nat.le_refl _))
  have HST := wall (HSP.out w3 (HS.out.old HB3.out) g v HL3.out.sp HL3.out.ok HL3.out.vs HL3.out.vr)
  clear hB3 HL HB2 HNW HSP HL3 HS
  unfold StepOut at HST
  have HZ := wall cr_zero
  have HE := wall ev_zero
  have HSZ := wall (show (Tryd.prog.info? 34).map (·.size) = some (crC awC).size ∧ (crC crZ).size = (crC awC).size ∧ (crC awC).all (·.oneCell') = true from ⟨by rw [crC_size aw_ok]; exact cr_info, by rw [crC_size aw_ok, crC_size crZ_ok], crC_one _⟩)
  have HEI := wall (show (Tryd.prog.info? 44).map (·.size) = some (evC false 0 (addiI 1 0 5) 0 none 0 0).size ∧ evZ.size = (evC false 0 (addiI 1 0 5) 0 none 0 0).size ∧ (evC false 0 (addiI 1 0 5) 0 none 0 0).all (·.oneCell') = true from ⟨ev_info, rfl, evC_one _ _ _ _ _ _ _⟩)
  have HD1 := wall (show (crC awC)[1]? = some (.int .u32 5) ∧ (crC awC)[32]? = some (.int .u32 536870916) from by
    have h1 := crL_get aw_ok (show 1 < 41 by decide)
    have h2 := crL_get aw_ok (show 32 < 41 by decide)
    rw [aw1] at h1
    rw [aw32] at h2
    exact ⟨by show (crL awC).toArray[1]? = _; rw [List.getElem?_toArray]; exact h1, by show (crL awC).toArray[32]? = _; rw [List.getElem?_toArray]; exact h2⟩)
  have HV1 := wall (show (evC false 0 (addiI 1 0 5) 0 none 0 0)[0]? = some (.bool false) ∧ (evC false 0 (addiI 1 0 5) 0 none 0 0)[2]? = some (.int .u8 19) from ⟨rfl, rfl⟩)
  obtain ⟨D, hD⟩ : ∃ y, crC awC = y := ⟨_, rfl⟩
  obtain ⟨V, hV⟩ : ∃ y, evC false 0 (addiI 1 0 5) 0 none 0 0 = y := ⟨_, rfl⟩
  obtain ⟨Z, hZ⟩ : ∃ y, crC crZ = y := ⟨_, rfl⟩
  obtain ⟨E, hE⟩ : ∃ y, evZ = y := ⟨_, rfl⟩
  rw [hD] at HST HSZ HD1
  rw [hV] at HST HEI HV1
  rw [hZ] at HZ HSZ
  rw [hE] at HE HEI
  clear hD hV hZ hE
  try simp only [Act.put, List.setIfInBounds_toArray, List.set_cons_zero, List.set_cons_succ]
  go_wp2_with fail
  (with_reducible refine (HST.out).mono ?_); rintro e w4 ⟨rfl, hB4⟩
  have HB4 := wall (below_then HB3.out hB4 (Nat.le_refl _))
  clear hB4 HB3 HST
  try simp only [Act.put, List.setIfInBounds_toArray, List.set_cons_zero, List.set_cons_succ]
  have HA := wall (show Blk ((w4.alloc (.cells Z 34)).alloc (.cells E 44)) w4.heap.size 34 Z ∧ Blk ((w4.alloc (.cells Z 34)).alloc (.cells E 44)) (w4.heap.size + 1) 44 E ∧ Below w4.heap.size w4 ((w4.alloc (.cells Z 34)).alloc (.cells E 44)) from ⟨(Blk.new _ _ _).alloc _, blk_new' (by simp), ((Below.refl _ w4).alloc (Nat.le_refl _) _).alloc (by simp) _⟩)
  go_upto_region 3 with (first | refine Big.wpList_alloc_at rfl 34 rfl Z HZ.out w4.heap.size rfl ?_ | refine Big.wpList_alloc_at rfl 44 rfl E HE.out (w4.heap.size + 1) (by simp) ?_ | (refine wpList_set_row rfl 34 (.tmp 3) (.tmp 14) rfl w4.heap.size D rfl rfl 34 Z HA.out.1 HSZ.out.1 HSZ.out.2.1 HSZ.out.2.2 ?_; intro w5 K5 F5; have H5e := wall (HA.out.2.1.frm F5.out (by simp)); have H5b := wall (Below.frm HA.out.2.2 F5.out (Nat.le_refl _) (by simp))) | (refine wpList_set_row rfl 44 (.tmp 4) (.tmp 15) rfl (w4.heap.size + 1) V rfl rfl 44 E H5e.out HEI.out.1 HEI.out.2.1 HEI.out.2.2 ?_; intro w6 K6 F6))
  have k1 : w6.cell? ⟨w4.heap.size, 1, none⟩ = some (.int .u32 5) := by rw [(K5.out.frm F6.out (by simp)).cell]; exact HD1.out.1
  have k32 : w6.cell? ⟨w4.heap.size, 32, none⟩ = some (.int .u32 536870916) := by rw [(K5.out.frm F6.out (by simp)).cell]; exact HD1.out.2
  have v0 : w6.cell? ⟨w4.heap.size + 1, 0, none⟩ = some (.bool false) := by rw [K6.out.cell]; exact HV1.out.1
  have v2 : w6.cell? ⟨w4.heap.size + 1, 2, none⟩ = some (.int .u8 19) := by rw [K6.out.cell]; exact HV1.out.2
  have HB6 := wall (below_then HB4.out (Below.frm H5b.out F6.out (Nat.le_refl _) (by simp)) (Nat.le_refl _))
  clear K5 F5 H5e H5b K6 F6 HA HB4 HSZ HEI HD1 HV1 HZ HE
  go_wp2_with fail
  go_light
  go_ret
  exact ⟨rfl, HB6.out⟩
end Core
end Go.Proofs.YtfiojpdkbckopaaDoor
