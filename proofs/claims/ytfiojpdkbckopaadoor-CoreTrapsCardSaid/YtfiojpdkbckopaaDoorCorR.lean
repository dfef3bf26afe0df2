/-
  A core: back from a trap.
-/
import Derived.Test.YtfiojpdkbckopaaDoorJ8329983b
set_option linter.unusedSimpArgs false
set_option linter.unusedVariables false
namespace Go.Proofs.YtfiojpdkbckopaaDoor
open Go.RowKit

namespace Core
open Otp Sha Rv
def retC (c : Cr) : Cr := ((c.set 33 (c.g 33 / 128 % 2 * 8 + 128)).set 32 (c.g 37)).set 40 ((c.g 40 + 1) % 4294967296)
theorem Cr.Ok.ret {c : Cr} (h : c.Ok) : (retC c).Ok := ((h.set 33 _ (by omega)).set 32 _ (h.g 37)).set 40 _ (by omega)
set_option maxRecDepth 100000 in
set_option maxHeartbeats 4000000 in
theorem ret_any (c : Cr) (hc : c.Ok) (i : In) (w : World) : Calls Tryd.prog 54 #[.agg (crC c), .agg (inC i)] w (StepOut (retC c) (evC false 0 i 0 none 0 0) w) := by
  have HC := wall hc
  have HF := wall (Fn.new w c (inC i))
  have HZ := wall cr_zero
  have HE := wall ev_zero
  have HBE := wall (next_built i)
  have HEI := wall (show (Tryd.prog.info? 44).map (·.size) = some (evC false 0 i 0 none 0 0).size from ev_info)
  have HEZ := wall (show evZ.size = (evC false 0 i 0 none 0 0).size from rfl)
  have HEO := wall (evC_one false 0 i 0 none 0 0)
  have HIZ := wall (show (Tryd.prog.info? 42).map (·.size) = some (inC i).size from in_info)
  obtain ⟨C, hC⟩ : ∃ y, crC c = y := ⟨_, rfl⟩
  obtain ⟨Z, hZ⟩ : ∃ y, crC crZ = y := ⟨_, rfl⟩
  obtain ⟨E, hE⟩ : ∃ y, evZ = y := ⟨_, rfl⟩
  obtain ⟨I, hI⟩ : ∃ y, inC i = y := ⟨_, rfl⟩
  obtain ⟨V, hV⟩ : ∃ y, evC false 0 i 0 none 0 0 = y := ⟨_, rfl⟩
  have HFW := wall (fun w8 (h : Fn w w8 c I) => show Fn w w8 c (inC i) by rw [hI]; exact h)
  rw [hC, hZ, hE, hI] at HF
  rw [hZ] at HZ
  rw [hE] at HE HEZ
  rw [hI] at HBE HIZ
  rw [hV] at HBE HEI HEZ HEO
  rw [hC, hI, hV]
  clear hc hC hI hV HFW
  go_enter Tryd.func54, Tryd.ntmps54
  go_upto_region 1 with (first | refine Big.wpList_alloc_at rfl 34 rfl Z HZ.out (w.heap.size + 2) (by simp) ?_ | refine Big.wpList_alloc_at rfl 44 rfl E HE.out (w.heap.size + 3) (by simp) ?_)
  try simp only [Act.put, List.setIfInBounds_toArray, List.set_cons_zero, List.set_cons_succ]
  refine wp_fn w c I HF.out ?_
  intro w1 h1
  have H1 := wall h1
  have k32 := h1.cell HC.out (show 32 < 41 by decide)
  have k33 := h1.cell HC.out (show 33 < 41 by decide)
  have k37 := h1.cell HC.out (show 37 < 41 by decide)
  have k40 := h1.cell HC.out (show 40 < 41 by decide)
  have hfz := h1.frozen
  have hb := and128 (c.g 33) (HC.out.g 33)
  have hs7 : c.g 33 / 128 % 2 ≤ 1 := by omega
  obtain ⟨s7, hs7e⟩ : ∃ y, c.g 33 / 128 % 2 = y := ⟨_, rfl⟩
  obtain ⟨s33, hs33⟩ : ∃ y, c.g 33 = y := ⟨_, rfl⟩
  obtain ⟨s37, hs37⟩ : ∃ y, c.g 37 = y := ⟨_, rfl⟩
  obtain ⟨s40, hs40⟩ : ∃ y, c.g 40 = y := ⟨_, rfl⟩
  have HN := wall (show retC c = ((c.set 33 (s7 * 8 + 128)).set 32 s37).set 40 ((s40 + 1) % 4294967296) by rw [← hs7e, ← hs37, ← hs40]; rfl)
  have HSL := wall (show s37 < 4294967296 by rw [← hs37]; exact HC.out.g 37)
  rw [hs7e, hs33] at hb
  rw [hs7e] at hs7
  rw [hs33] at k33
  rw [hs37] at k37
  rw [hs40] at k40
  have ho : bits .or .u32 ((s7 : Int) * 128 / 16) 128 = (s7 : Int) * 8 + 128 := by
    have h01 : s7 = 0 ∨ s7 = 1 := by omega
    rcases h01 with rfl | rfl <;> decide +kernel
  clear h1 HF hs7e hs33 hs37 hs40
  go_upto_region 4 with fail
  have h3 := ((H1.out.put HC.out (i := 33) (by decide) (s7 * 8 + 128)).put (HC.out.set 33 _ (by omega)) (i := 32) (by decide) s37).put ((HC.out.set 33 _ (by omega)).set 32 _ HSL.out) (i := 40) (by decide) ((s40 + 1) % 4294967296)
  have e1 : ((s7 * 8 + 128 : Nat) : Int) = (s7 : Int) * 8 + 128 := by omega
  have e2 : (((s40 + 1) % 4294967296 : Nat) : Int) = ((s40 : Int) + 1) % 4294967296 := by omega
  rw [e1, e2] at h3
  refine wp_fn w (retC c) I (by rw [HN.out]; exact h3) ?_
  have HCT := wall (Cr.Ok.ret HC.out)
  clear H1 k32 k33 k37 k40 hfz hb hs7 ho h3 e1 e2 HN HC HSL
  obtain ⟨c6, hc6⟩ : ∃ y, retC c = y := ⟨_, rfl⟩
  have HC6 := wall hc6
  rw [hc6] at HCT
  rw [hc6]
  clear hc6
  intro w3 h3
  have H3 := wall (show Blk w3 w.heap.size 34 (crC c6) from h3.c)
  have H3i := wall h3.i
  have H3o := wall h3.o
  have H3e := wall h3.e
  have H3b := wall h3.bel
  have HS6 := wall (show (Tryd.prog.info? 34).map (·.size) = some (crC c6).size by rw [crC_size HCT.out]; exact cr_info)
  have HSZ := wall (show (crC crZ).size = (crC c6).size by rw [crC_size HCT.out, crC_size crZ_ok])
  have HO6 := wall (crC_one c6)
  clear h3
  obtain ⟨D, hD⟩ : ∃ y, crC c6 = y := ⟨_, rfl⟩
  have HD := wall hD
  rw [hD] at H3 HS6 HSZ HO6
  rw [hZ] at H3o HSZ
  rw [hE] at H3e
  clear hD hZ hE HZ HE
  refine wp_two_rows_b (by kernel_rfl) (by kernel_rfl) rfl rfl rfl rfl rfl rfl rfl 34 42 44 _ _ _ _ 24 25 26 (by decide) (by decide) rfl rfl rfl rfl rfl rfl rfl w.heap.size (w.heap.size + 1) (w.heap.size + 2) (w.heap.size + 3) D I V 34 42 34 44 Z E _ _ rfl rfl rfl rfl rfl (fun W => Rel.exec_build _ [(2, .tmp 25)] rfl _ HBE.out) (fun W => Rel.exec_build _ [(2, .tmp 25)] rfl _ HBE.out) rfl rfl rfl rfl rfl rfl rfl rfl H3.out H3i.out H3o.out H3e.out (by omega) (by omega) Tryd.underlying34 rfl HS6.out HSZ.out HO6.out Tryd.underlying42 rfl HIZ.out HEI.out HEZ.out HEO.out ?_
  intro w5 K5 K6 F5
  have K5o := wall K5
  have K6o := wall K6
  have HB5 := wall (Below.frm H3b.out F5 (Nat.le_refl _) (by intro x hx; simp at hx; omega))
  clear K5 K6 F5
  try simp only [Act.put, List.setIfInBounds_toArray, List.set_cons_zero, List.set_cons_succ]
  go_wp2_with fail
  go_light
  exact bodyPost_ret (v := .tuple #[.agg D, .agg V]) (results_two Tryd.results54 _ _ (w.heap.size + 2) (w.heap.size + 3) 34 44 D V _ _ rfl rfl K5o.out K6o.out Tryd.underlying34 rfl HS6.out Tryd.underlying44 rfl HEI.out) rfl ⟨by rw [HC6.out, HD.out], HB5.out⟩
end Core
end Go.Proofs.YtfiojpdkbckopaaDoor
