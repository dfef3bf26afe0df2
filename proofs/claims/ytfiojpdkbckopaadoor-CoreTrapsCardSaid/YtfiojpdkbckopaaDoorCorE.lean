/-
  A core: Step, ahead of the hand-off.
-/
import Derived.Test.YtfiojpdkbckopaaDoorJ8329983b
import Derived.Test.YtfiojpdkbckopaaDoorJa4d94a7c
set_option linter.unusedSimpArgs false
set_option linter.unusedVariables false
namespace Go.Proofs.YtfiojpdkbckopaaDoor
open Go.RowKit

namespace Core
open Otp Sha Rv Grant Spc
theorem Cb.time {w : World} {b : Nat} {c : Cr} (h : Cb w b c) (ho : c.Ok) (t : Bool) : Cb (w.setCell ⟨b, 41, none⟩ (.bool t)) b (c.time t) := by
  have := Blk.set h 41 (.bool t)
  rw [crC_time ho] at this
  exact this
theorem Fr.time {w w' : World} {c : Cr} (h : Fr w w' c) (ho : c.Ok) (t : Bool) : Fr w (w'.setCell ⟨w.heap.size, 41, none⟩ (.bool t)) (c.time t) :=
  ⟨h.c.time ho t, h.o.far' _ _ (by simp) _, h.e.far' _ _ (by simp) _, h.bel.setCell (p := ⟨w.heap.size, 41, none⟩) (Nat.le_refl _) _⟩
theorem Cb.tm {w : World} {b : Nat} {c : Cr} (h : Cb w b c) (ho : c.Ok) : w.cell? ⟨b, 41, none⟩ = some (.bool c.tm) := by
  rw [Blk.cell h]
  show (crL c).toArray[41]? = _
  rw [List.getElem?_toArray]
  exact crL_tm ho
theorem Fr.next {w w1 w2 : World} {c : Cr} (h : Fr w w1 c) (hb : Below w1.heap.size w1 w2) : Fr w w2 c :=
  ⟨Blk.next h.c hb rfl, Blk.next h.o hb rfl, Blk.next h.e hb rfl, below_then h.bel hb (Nat.le_refl _)⟩
/-- What a step does that is a trap. -/
def heldC (c : Cr) : Nat := if c.g 32 % 4 ≠ 0 then 0 else 1
set_option maxRecDepth 100000 in
set_option maxHeartbeats 4000000 in
theorem step_held (c : Cr) (hc : c.Ok) (g : Nat) (w : World) (hS : Spans w) (hg : g < w.heap.size) (hst : w.cell? ⟨g, 0, none⟩ = some (.int .i64 0)) :
    Calls Tryd.prog 11 #[.agg (crC c), .pointer (some ⟨g, 0, none⟩), .bool false] w (StepOut (trapC (c.time false) (heldC c) (c.g 32)) (evC true (heldC c) zIn 0 none 0 0) w) := by
  have HC := wall hc
  have HCT := wall (hc.time false)
  have HF := wall (Fr.new w c)
  have HZ := wall cr_zero
  have HE := wall ev_zero
  have HS := wall hS
  have HST := wall (And.intro hg hst)
  obtain ⟨C, hC⟩ : ∃ y, crC c = y := ⟨_, rfl⟩
  obtain ⟨Z, hZ⟩ : ∃ y, crC crZ = y := ⟨_, rfl⟩
  obtain ⟨E, hE⟩ : ∃ y, evZ = y := ⟨_, rfl⟩
  rw [hC, hZ, hE] at HF
  rw [hZ] at HZ
  rw [hE] at HE
  rw [hC]
  clear hc hC hS hg hst
  go_enter Tryd.func11, Tryd.ntmps11
  go_upto_region 1 with (first | refine Big.wpList_alloc_at rfl 34 rfl Z HZ.out (w.heap.size + 1) (by simp) ?_ | refine Big.wpList_alloc_at rfl 44 rfl E HE.out (w.heap.size + 2) (by simp) ?_)
  try simp only [Act.put, List.setIfInBounds_toArray, List.set_cons_zero, List.set_cons_succ]
  refine wp_fr w c HF.out ?_
  intro w1 h1
  have H1 := wall h1
  have k41 := h1.c.tm HC.out
  have hfz := h1.frozen
  clear h1 HF
  go_upto_region 4 with fail
  refine wp_fr w (c.time false) (H1.out.time HC.out false) ?_
  clear H1 k41 hfz
  intro w2 h2
  have H2 := wall h2
  have k32 := h2.cell HCT.out (show 32 < 41 by decide)
  have e32 : (c.time false).g 32 = c.g 32 := rfl
  rw [e32] at k32
  have hpl := HC.out.g 32
  have HHC := wall (show heldC c = if c.g 32 % 4 ≠ 0 then 0 else 1 from rfl)
  obtain ⟨hc0, hhc⟩ : ∃ y, heldC c = y := ⟨_, rfl⟩
  rw [hhc] at HHC ⊢
  obtain ⟨pc, hpc⟩ : ∃ y, c.g 32 = y := ⟨_, rfl⟩
  rw [hpc] at k32 hpl HHC ⊢
  obtain ⟨c2, hc2⟩ : ∃ y, c.time false = y := ⟨_, rfl⟩
  have HC2 := wall (show c2.Ok by rw [← hc2]; exact HCT.out)
  rw [hc2] at H2 ⊢
  have HC20 := wall hc2
  have HPC2 := wall (show c2.g 32 = pc by rw [← hc2]; exact hpc)
  have HPC := wall hpc
  have HHH := wall hhc
  clear h2 e32 hhc hpc hc2 HCT HC
  have HPL := wall hpl
  obtain ⟨D, hD⟩ : ∃ y, crC c2 = y := ⟨_, rfl⟩
  have HDE := wall hD
  have HS6 := wall (show (Tryd.prog.info? 34).map (·.size) = some D.size by rw [← hD, crC_size HC2.out]; exact cr_info)
  have HD2 := wall (show Blk w2 w.heap.size 34 D by rw [← hD]; exact H2.out.c)
  by_cases hm : pc % 4 = 0
  · have hm1 : ((pc : Int) % 4 != 0) = false := by rw [bne_eq_false_iff_eq]; omega
    have HH0 := wall (show heldC c = 1 by rw [HHH.out, HHC.out, if_neg (by simpa using hm)])
    have HTR := wall (fun W => trap_any c2 HC2.out 1 pc W (by decide) HPL.out)
    rw [hD, show ((1 : Nat) : Int) = 1 from rfl] at HTR
    have hcg : w2.cell? ⟨g, 0, none⟩ = some (.int .i64 0) := (H2.out.bel.cell (p := ⟨g, 0, none⟩) HST.out.1).trans HST.out.2
    have HFE := wall (fetch_bad g 0 pc (pc : Int) w2 rfl (by have := HPL.out; omega) (by decide) (HS.out.old H2.out.bel) hcg (held pc))
    have HNE := wall (held pc)
    obtain ⟨er, her⟩ : ∃ y, (chk 1 0 pc 4 false true).2.2 = y := ⟨_, rfl⟩
    rw [her] at HFE HNE
    have hne : (((er : Nat) : Int) != 0) = true := by have := HNE.out; rw [bne_iff_ne]; omega
    clear hm her hcg hpl HHC
    go_wp2_with fail
    (with_reducible refine (HFE.out).mono ?_); rintro e w6 ⟨rfl, hB6⟩
    replace H2 := wall (H2.out.next hB6)
    replace HD2 := wall (show Blk w6 w.heap.size 34 D by rw [← hD]; exact H2.out.c)
    have k32 := H2.out.cell HC2.out (show 32 < 41 by decide)
    rw [show c2.g 32 = pc from HPC2.out] at k32
    clear HFE hB6
    try simp only [Act.put, List.setIfInBounds_toArray, List.set_cons_zero, List.set_cons_succ]
    go_wp2_with (refine wpList_load_row rfl 34 _ rfl w.heap.size rfl 34 D (0, 0) _ HD2.out Tryd.underlying34 rfl HS6.out ?_)
    (with_reducible refine (HTR.out _).mono ?_); rintro e w3 ⟨rfl, hB3⟩
    have H3 := H2.out.next hB3
    have H3o := wall (show Blk w3 (w.heap.size + 1) 34 Z by rw [← hZ]; exact H3.o)
    have H3e := wall (show Blk w3 (w.heap.size + 2) 44 E by rw [← hE]; exact H3.e)
    have H3b := wall H3.bel
    have HCN := wall (Cr.Ok.trap HC2.out (show 1 < 4294967296 by decide) HPL.out)
    have HS7 := wall (show (Tryd.prog.info? 34).map (·.size) = some (crC (trapC c2 1 pc)).size by rw [crC_size HCN.out]; exact cr_info)
    have HSZ := wall (show Z.size = (crC (trapC c2 1 pc)).size by rw [← hZ, crC_size HCN.out, crC_size crZ_ok])
    have HO7 := wall (crC_one (trapC c2 1 pc))
    have HEI := wall (show (Tryd.prog.info? 44).map (·.size) = some (evC true 1 zIn 0 none 0 0).size from ev_info)
    have HEZ := wall (show E.size = (evC true 1 zIn 0 none 0 0).size by rw [← hE]; rfl)
    have HEO := wall (evC_one true 1 zIn 0 none 0 0)
    obtain ⟨D3, hD3⟩ : ∃ y, crC (trapC c2 1 pc) = y := ⟨_, rfl⟩
    obtain ⟨V, hV⟩ : ∃ y, evC true 1 zIn 0 none 0 0 = y := ⟨_, rfl⟩
    have HD3 := wall hD3
    have HV := wall hV
    rw [hD3] at HS7 HSZ HO7
    rw [hV] at HEI HEZ HEO
    rw [hD3, hV]
    clear H3 hB3 hD3 hV hZ hE hD HTR H2 HD2 hm1 k32
    try simp only [Act.put, List.setIfInBounds_toArray, List.set_cons_zero, List.set_cons_succ]
    go_wp2_with (first | (refine wpList_set_row rfl 34 (.tmp 6) (.tmp 62) rfl (w.heap.size + 1) D3 rfl rfl 34 Z H3o.out HS7.out HSZ.out HO7.out ?_; intro w4 K4 F4; have H4e := wall (H3e.out.frm F4.out (by simp)); have H4b := wall (Below.frm H3b.out F4.out (Nat.le_refl _) (by simp))) | (refine wpList_set_row rfl 44 (.tmp 7) (.tmp 63) rfl (w.heap.size + 2) V rfl rfl 44 E H4e.out HEI.out HEZ.out HEO.out ?_; intro w5 K5 F5))
    have K5o := wall (K4.out.frm F5.out (by simp))
    have HB5 := wall (Below.frm H4b.out F5.out (Nat.le_refl _) (by simp))
    go_light
    exact bodyPost_ret (v := .tuple #[.agg D3, .agg V]) (results_two Tryd.results11 _ _ (w.heap.size + 1) (w.heap.size + 2) 34 44 D3 V _ _ rfl rfl K5o.out K5.out Tryd.underlying34 rfl HS7.out Tryd.underlying44 rfl HEI.out) rfl ⟨by rw [HC20.out, HPC.out, HH0.out, HD3.out, HV.out], HB5.out⟩
  · have hm1 : ((pc : Int) % 4 != 0) = true := by rw [bne_iff_ne]; omega
    have HH0 := wall (show heldC c = 0 by rw [HHH.out, HHC.out, if_pos hm])
    have HTR := wall (fun W => trap_any c2 HC2.out 0 pc W (by decide) HPL.out)
    rw [hD, show ((0 : Nat) : Int) = 0 from rfl] at HTR
    clear hm hpl HHC
    go_wp2_with (refine wpList_load_row rfl 34 _ rfl w.heap.size rfl 34 D (0, 0) _ HD2.out Tryd.underlying34 rfl HS6.out ?_)
    (with_reducible refine (HTR.out _).mono ?_); rintro e w3 ⟨rfl, hB3⟩
    have H3 := H2.out.next hB3
    have H3o := wall (show Blk w3 (w.heap.size + 1) 34 Z by rw [← hZ]; exact H3.o)
    have H3e := wall (show Blk w3 (w.heap.size + 2) 44 E by rw [← hE]; exact H3.e)
    have H3b := wall H3.bel
    have HCN := wall (Cr.Ok.trap HC2.out (show 0 < 4294967296 by decide) HPL.out)
    have HS7 := wall (show (Tryd.prog.info? 34).map (·.size) = some (crC (trapC c2 0 pc)).size by rw [crC_size HCN.out]; exact cr_info)
    have HSZ := wall (show Z.size = (crC (trapC c2 0 pc)).size by rw [← hZ, crC_size HCN.out, crC_size crZ_ok])
    have HO7 := wall (crC_one (trapC c2 0 pc))
    have HEI := wall (show (Tryd.prog.info? 44).map (·.size) = some (evC true 0 zIn 0 none 0 0).size from ev_info)
    have HEZ := wall (show E.size = (evC true 0 zIn 0 none 0 0).size by rw [← hE]; rfl)
    have HEO := wall (evC_one true 0 zIn 0 none 0 0)
    obtain ⟨D3, hD3⟩ : ∃ y, crC (trapC c2 0 pc) = y := ⟨_, rfl⟩
    obtain ⟨V, hV⟩ : ∃ y, evC true 0 zIn 0 none 0 0 = y := ⟨_, rfl⟩
    have HD3 := wall hD3
    have HV := wall hV
    rw [hD3] at HS7 HSZ HO7
    rw [hV] at HEI HEZ HEO
    rw [hD3, hV]
    clear H3 hB3 hD3 hV hZ hE hD HTR H2 HD2 hm1 k32
    try simp only [Act.put, List.setIfInBounds_toArray, List.set_cons_zero, List.set_cons_succ]
    go_wp2_with (first | (refine wpList_set_row rfl 34 (.tmp 6) (.tmp 47) rfl (w.heap.size + 1) D3 rfl rfl 34 Z H3o.out HS7.out HSZ.out HO7.out ?_; intro w4 K4 F4; have H4e := wall (H3e.out.frm F4.out (by simp)); have H4b := wall (Below.frm H3b.out F4.out (Nat.le_refl _) (by simp))) | (refine wpList_set_row rfl 44 (.tmp 7) (.tmp 48) rfl (w.heap.size + 2) V rfl rfl 44 E H4e.out HEI.out HEZ.out HEO.out ?_; intro w5 K5 F5))
    have K5o := wall (K4.out.frm F5.out (by simp))
    have HB5 := wall (Below.frm H4b.out F5.out (Nat.le_refl _) (by simp))
    go_light
    exact bodyPost_ret (v := .tuple #[.agg D3, .agg V]) (results_two Tryd.results11 _ _ (w.heap.size + 1) (w.heap.size + 2) 34 44 D3 V _ _ rfl rfl K5o.out K5.out Tryd.underlying34 rfl HS7.out Tryd.underlying44 rfl HEI.out) rfl ⟨by rw [HC20.out, HPC.out, HH0.out, HD3.out, HV.out], HB5.out⟩
end Core
end Go.Proofs.YtfiojpdkbckopaaDoor
