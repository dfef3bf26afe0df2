/-
  Law 20: start, of registers alone.
-/
import Derived.Test.YtfiojpdkbckopaaDoorJ8329983b
import Derived.Deep.LoopGhost
import Derived.Test.YtfiojpdkbckopaaDoorJ4bf00603
set_option linter.unusedSimpArgs false
set_option linter.unusedVariables false
namespace Go.Proofs.YtfiojpdkbckopaaDoor
open Go.RowKit

namespace Core
open Otp Sha Rv
theorem ref_zero : (Tryd.prog.info? 37).bind (·.zero) = some (.agg (crC crZ)) := by kernel_rfl
theorem ref_built (pc : Nat) : Tryd.prog.built 37 [(1, .int .u32 (pc : Int))] = some (crC (newC pc)) := by kernel_rfl
theorem ref_info : (Tryd.prog.info? 37).map (·.size) = some 42 := by kernel_rfl
/-- Registers as they are told. -/
def regs (c : Cr) (xs : List Nat) : Nat → Cr
  | 0 => c
  | k + 1 => match xs[k]? with
    | some x => if k < 31 then (regs c xs k).set (k + 1) x else regs c xs k
    | none => regs c xs k
theorem regs_ok {c : Cr} (h : c.Ok) {xs : List Nat} (hx : ∀ (i x : Nat), xs[i]? = some x → x < 4294967296) : ∀ k, (regs c xs k).Ok
  | 0 => h
  | k + 1 => by
    unfold regs
    split
    · rename_i x e
      split
      · exact (regs_ok h hx k).set _ _ (hx _ _ e)
      · exact regs_ok h hx k
    · exact regs_ok h hx k
/-- start's blocks: its results, and the cores. -/
structure Fs (w w' : World) (g8 g9 : Nat) (c : Cr) : Prop where
  o : Blk w' w.heap.size 34 (crC crZ)
  p : Blk w' (w.heap.size + 1) 37 (crC crZ)
  kc : Blk w' g8 34 (crC c)
  kd : Blk w' g9 37 (crC c)
  bel : Below w.heap.size w w'
  h8 : w.heap.size + 1 < g8
  h9 : g8 < g9
theorem Fs.old {w w1 w2 : World} {g8 g9 : Nat} {c : Cr} (h : Fs w w1 g8 g9 c) (hb : Below w1.heap.size w1 w2) : Fs w w2 g8 g9 c :=
  ⟨h.o.next hb rfl, h.p.next hb rfl, h.kc.next hb rfl, h.kd.next hb rfl, below_then h.bel hb (Nat.le_refl _), h.h8, h.h9⟩
theorem wp_any {P : Program} {k : Code} {Q : Exit → Act → World → Prop} {a : Act} {w' : World} (R : World → Prop) (h1 : R w') (h : ∀ w8, R w8 → Code.wp P k Q a w8) : Code.wp P k Q a w' := h w' h1
def StartOut (c : Cr) (w : World) (e : Ending) (w' : World) : Prop := e = .returned (.tuple #[.agg (crC c), .agg (crC c)]) ∧ Below w.heap.size w w'
set_option maxRecDepth 100000 in
set_option maxHeartbeats 4000000 in
theorem start_any (pc : Nat) (hpc : pc < 4294967296) (A : Option Addr) (len cap : Nat) (xs : List Nat) (w : World) (hl : xs.length = len) (hm : len ≤ maxLen) (hx : Nats .u32 4294967296 w w.heap.size A xs) :
    Calls Tryd.prog 10 #[.int .u32 (pc : Int), .slice A len cap, .slice none 0 0] w (StartOut (regs (newC pc) xs len) w) := by
  have HX := wall hx
  have HL := wall (And.intro hl hm)
  have HPC := wall hpc
  have HZ := wall cr_zero
  have HZR := wall ref_zero
  have HBR := wall (ref_built pc)
  have HNE := wall (fun W => new_any pc hpc W)
  have HN := wall (newC_ok hpc)
  obtain ⟨Z, hZ⟩ : ∃ y, crC crZ = y := ⟨_, rfl⟩
  obtain ⟨N, hN⟩ : ∃ y, crC (newC pc) = y := ⟨_, rfl⟩
  unfold CrOut at HNE
  rw [hN] at HNE HBR
  rw [hZ] at HZ HZR
  clear hl hm hpc hx
  go_enter Tryd.func10, Tryd.ntmps10
  go_upto_region 1 with (first | refine Big.wpList_alloc_at rfl 34 rfl Z HZ.out w.heap.size rfl ?_ | refine Big.wpList_alloc_at rfl 37 rfl Z HZR.out (w.heap.size + 1) (by simp) ?_)
  try simp only [Act.put, List.setIfInBounds_toArray, List.set_cons_zero, List.set_cons_succ]
  refine wp_any (fun w' => Blk w' w.heap.size 34 Z ∧ Blk w' (w.heap.size + 1) 37 Z ∧ Below w.heap.size w w' ∧ w'.heap.size = w.heap.size + 2) ⟨(Blk.new _ _ _).alloc _, blk_new' (by simp), ((Below.refl _ w).alloc (Nat.le_refl _) _).alloc (by simp) _, by simp⟩ ?_
  intro w1 h1
  have H1 := wall h1
  clear h1
  go_wp2_with fail
  (with_reducible refine (HNE.out _).mono ?_); rintro e w2 ⟨rfl, hB2⟩
  have HS2 := wall (show w.heap.size + 1 < w2.heap.size by have := hB2.size; have := H1.out.2.2.2; omega)
  have HO2 := wall (show Blk w2 w.heap.size 34 Z ∧ Blk w2 (w.heap.size + 1) 37 Z ∧ Below w.heap.size w w2 from ⟨H1.out.1.next hB2 rfl, H1.out.2.1.next hB2 rfl, below_then H1.out.2.2.1 hB2 (Nat.le_refl _)⟩)
  have HIN := wall (show (Tryd.prog.info? 34).map (·.size) = some N.size ∧ Z.size = N.size ∧ N.all (·.oneCell') = true ∧ (Tryd.prog.info? 37).map (·.size) = some N.size by
    rw [← hN, ← hZ, crC_size HN.out, crC_size crZ_ok]
    exact ⟨cr_info, rfl, crC_one _, ref_info⟩)
  clear hB2 H1 HNE
  try simp only [Act.put, List.setIfInBounds_toArray, List.set_cons_zero, List.set_cons_succ]
  have HA8 := wall (show Blk ((w2.alloc (.cells Z 34)).alloc (.cells Z 37)) w2.heap.size 34 Z ∧ Blk ((w2.alloc (.cells Z 34)).alloc (.cells Z 37)) (w2.heap.size + 1) 37 Z ∧ Below w2.heap.size w2 ((w2.alloc (.cells Z 34)).alloc (.cells Z 37)) from ⟨(Blk.new _ _ _).alloc _, blk_new' (by simp), ((Below.refl _ w2).alloc (Nat.le_refl _) _).alloc (by simp) _⟩)
  go_wp2_with (first | refine wpList_build_row rfl 37 [(1, .tmp 17)] rfl N HBR.out ?_ | refine Big.wpList_alloc_at rfl 34 rfl Z HZ.out w2.heap.size rfl ?_ | refine Big.wpList_alloc_at rfl 37 rfl Z HZR.out (w2.heap.size + 1) (by simp) ?_ | (refine wpList_set_row rfl 34 (.tmp 8) (.tmp 16) rfl w2.heap.size N rfl rfl 34 Z HA8.out.1 HIN.out.1 HIN.out.2.1 HIN.out.2.2.1 ?_; intro w4 K4 F4; have H4d := wall (HA8.out.2.1.frm F4.out (by simp)); have H4b := wall (Below.frm HA8.out.2.2 F4.out (Nat.le_refl _) (by simp))) | (refine wpList_set_row rfl 37 (.tmp 9) (.tmp 18) rfl (w2.heap.size + 1) N rfl rfl 37 Z H4d.out HIN.out.2.2.2 HIN.out.2.1 HIN.out.2.2.1 ?_; intro w5 K5 F5))
  have HFS := wall (show Fs w w5 w2.heap.size (w2.heap.size + 1) (newC pc) from by
    have h4 := K4.out.frm F5.out (by simp)
    have hb := Below.frm H4b.out F5.out (Nat.le_refl _) (by simp)
    refine ⟨?_, ?_, ?_, ?_, ?_, HS2.out, by omega⟩
    · rw [hZ]; exact HO2.out.1.next hb rfl
    · rw [hZ]; exact HO2.out.2.1.next hb rfl
    · rw [hN]; exact h4
    · rw [hN]; exact K5.out
    · exact below_then HO2.out.2.2 hb (Nat.le_refl _))
  clear K4 F4 H4d H4b K5 F5 HA8 HIN HO2 HS2 HBR
  obtain ⟨g8, hg8⟩ : ∃ y, w2.heap.size = y := ⟨_, rfl⟩
  obtain ⟨g9, hg9⟩ : ∃ y, g8 + 1 = y := ⟨_, rfl⟩
  rw [hg8, hg9] at HFS
  rw [hg8, hg9]
  clear hg8 hg9
  go_loopg [21] len (fun g s21 wr => ∃ i : Nat, i + g = len ∧ s21 = .int .i64 (i : Int) ∧ Wall (Fs w wr g8 g9 (regs (newC pc) xs i)))
  case atStart => exact ⟨0, by omega, rfl, HFS⟩
  case round =>
    obtain ⟨i, hg, rfl, HF⟩ := hrel
    clear HFS
    have HGK := wall hg
    have hi : i ≤ len := by omega
    clear hg
    by_cases hlt : i < len
    · have hlt' : (i : Int) < (len : Int) := by omega
      obtain ⟨x, hx⟩ : ∃ x, xs[i]? = some x := ⟨_, List.getElem?_eq_getElem (by rw [HL.out.1]; exact hlt)⟩
      obtain ⟨hxl, xb, xo, rfl, hxb, hxc⟩ := (HX.out.below HF.out.bel) i x hx
      have HCI := wall (regs_ok HN.out (fun j y hy => (HX.out j y hy).1) i)
      have HR := wall (show regs (newC pc) xs (i + 1) = if i < 31 then (regs (newC pc) xs i).set (i + 1) x else regs (newC pc) xs i by rw [regs, hx])
      have HXL := wall hxl
      obtain ⟨c', hc'⟩ : ∃ y, regs (newC pc) xs (i + 1) = y := ⟨_, rfl⟩
      have HC' := wall hc'
      rw [hc'] at HR
      obtain ⟨c, hc⟩ : ∃ y, regs (newC pc) xs i = y := ⟨_, rfl⟩
      rw [hc] at HF HCI HR
      clear hx hc hc'
      by_cases h31 : i < 31
      · have HR1 := wall (show withC c (i + 1) x = c' by rw [HR.out, if_pos h31]; unfold withC; rw [if_pos (by omega)])
        have HRS := wall (show c' = c.set (i + 1) x by rw [HR.out, if_pos h31])
        have HCO := wall (show c'.Ok by rw [HRS.out]; exact HCI.out.set _ _ HXL.out)
        have HW := wall (fun W => with_any c HCI.out ((i : Int) + 1) (i + 1) x W (by simp) HXL.out)
        rw [HR1.out] at HW
        unfold CrOut at HW
        have i31 : (i : Int) < 31 := by omega
        have hi1 : i + 1 < 32 := by omega
        have HS6 := wall (show (Tryd.prog.info? 34).map (·.size) = some (crC c).size ∧ (Tryd.prog.info? 34).map (·.size) = some (crC c').size ∧ (crC c).size = (crC c').size ∧ (crC c').all (·.oneCell') = true from
          ⟨by rw [crC_size HCI.out]; exact cr_info, by rw [crC_size HCO.out]; exact cr_info, by rw [crC_size HCI.out, crC_size HCO.out], crC_one _⟩)
        have HD1 := wall HF.out.kc
        obtain ⟨D, hD⟩ : ∃ y, crC c = y := ⟨_, rfl⟩
        obtain ⟨D', hD'⟩ : ∃ y, crC c' = y := ⟨_, rfl⟩
        rw [hD] at HS6 HW HD1
        rw [hD'] at HS6 HW
        clear h31 HR HR1
        go_wp2_with (refine wpList_load_row rfl 34 _ rfl g8 rfl 34 D (0, 0) _ HD1.out Tryd.underlying34 rfl HS6.out.1 ?_)
        (with_reducible refine (HW.out _).mono ?_); rintro e w6 ⟨rfl, hB6⟩
        have HF6 := wall (HF.out.old hB6)
        have HD6 := wall (show Blk w6 g8 34 D by rw [← hD]; exact HF6.out.kc)
        clear hB6 HF HW HD1
        try simp only [Act.put, List.setIfInBounds_toArray, List.set_cons_zero, List.set_cons_succ]
        go_upto_region 7 with (refine wpList_set_row rfl 34 (.tmp 8) (.tmp 32) rfl g8 D' rfl rfl 34 D HD6.out HS6.out.2.1 HS6.out.2.2.1 HS6.out.2.2.2 ?_; intro w7 K7 F7)
        have h89 : g8 < g9 := HF6.out.h9
        have H7o := wall (HF6.out.o.frm F7.out (by have := HF6.out.h8; simp; omega))
        have H7p := wall (HF6.out.p.frm F7.out (by have := HF6.out.h8; simp; omega))
        have H7d := wall (show Blk w7 g9 37 (crC c) from HF6.out.kd.frm F7.out (by simp; omega))
        have H7b := wall (Below.frm HF6.out.bel F7.out (Nat.le_refl _) (by have := HF6.out.h8; simp; omega))
        have hkk : w7.cell? ⟨g9, i + 1, none⟩ = some (.int .u32 ((c.g (i + 1) : Nat) : Int)) := by
          rw [H7d.out.cell]
          show (crL c).toArray[i + 1]? = _
          rw [List.getElem?_toArray]
          exact crL_get HCI.out (by omega)
        have hfz : ∀ j, w7.frozen? ⟨g9, j, none⟩ = false := fun j => H7d.out.frozen j
        have H7h := wall (And.intro HF6.out.h8 HF6.out.h9)
        have K7' := wall (show Blk w7 g8 34 (crC c') by rw [hD']; exact K7.out)
        clear K7 F7 HF6 HD6
        go_wp2_with fail
        go_light
        have HFN := wall (show Fs w (w7.setCell ⟨g9, i + 1, none⟩ (.int .u32 (x : Int))) g8 g9 c' from by
          have hg8 := H7h.out.1
          refine ⟨H7o.out.far' _ _ (by simp; omega) _, H7p.out.far' _ _ (by simp; omega) _, K7'.out.far' _ _ (by simp; omega) _, ?_, H7b.out.setCell (p := ⟨g9, i + 1, none⟩) (by show w.heap.size ≤ g9; omega) _, H7h.out.1, H7h.out.2⟩
          have h := H7d.out.set (i + 1) (.int .u32 (x : Int))
          rw [crC_set HCI.out (by omega), ← HRS.out] at h
          exact h)
        go_roundg (len - (i + 1))
        case measure => have := HGK.out; omega
        case rel => exact ⟨i + 1, by have := HGK.out; omega, congrArg (Value.int .i64) (by have := HL.out.2; simp only [maxLen] at this; first | (unfold wrap64; omega) | omega), by rw [HC'.out]; exact HFN⟩
      · have i31 : ¬ (i : Int) < 31 := by omega
        have HRS := wall (show c' = c by rw [HR.out, if_neg h31])
        go_wp2_with fail
        go_light
        go_roundg (len - (i + 1))
        case measure => have := HGK.out; omega
        case rel => exact ⟨i + 1, by have := HGK.out; omega, congrArg (Value.int .i64) (by have := HL.out.2; simp only [maxLen] at this; first | (unfold wrap64; omega) | omega), by rw [HC'.out, HRS.out]; exact HF⟩
    · obtain rfl : i = len := by omega
      have HSZ := wall (show (Tryd.prog.info? 34).map (·.size) = some (crC (regs (newC pc) xs i)).size ∧ (Tryd.prog.info? 37).map (·.size) = some (crC (regs (newC pc) xs i)).size ∧ Z.size = (crC (regs (newC pc) xs i)).size ∧ (crC (regs (newC pc) xs i)).all (·.oneCell') = true from by
        have hok := regs_ok HN.out (fun j y hy => (HX.out j y hy).1) i
        exact ⟨by rw [crC_size hok]; exact cr_info, by rw [crC_size hok]; exact ref_info, by rw [← hZ, crC_size hok, crC_size crZ_ok], crC_one _⟩)
      have HFA := wall (show Blk wr w.heap.size 34 Z ∧ Blk wr (w.heap.size + 1) 37 Z from ⟨by rw [← hZ]; exact HF.out.o, by rw [← hZ]; exact HF.out.p⟩)
      obtain ⟨D, hD⟩ : ∃ y, crC (regs (newC pc) xs i) = y := ⟨_, rfl⟩
      have HD := wall hD
      have HKC := wall (show Blk wr g8 34 D ∧ Blk wr g9 37 D from ⟨by rw [← hD]; exact HF.out.kc, by rw [← hD]; exact HF.out.kd⟩)
      have HB := wall HF.out.bel
      have HH := wall (And.intro HF.out.h8 HF.out.h9)
      rw [hD] at HSZ
      clear hD HF
      go_wp2_with fail
      go_loopg [41] 0 (fun gg s41 wq => s41 = .int .i64 0 ∧ wq = wr)
      case atStart => exact ⟨rfl, rfl⟩
      case round =>
        obtain ⟨rfl, rfl⟩ := hrel
        go_wp2_with fail
        have hh1 := HH.out.1
        have hh2 := HH.out.2
        refine wp_two_rows (by kernel_rfl) (by kernel_rfl) rfl rfl rfl rfl rfl rfl 34 37 _ _ _ _ 67 68 (by decide) rfl rfl rfl rfl rfl rfl g8 g9 w.heap.size (w.heap.size + 1) D D 34 37 34 37 Z Z _ _ rfl rfl rfl rfl rfl rfl rfl rfl rfl rfl HKC.out.1 HKC.out.2 HFA.out.1 HFA.out.2 (by omega) (by omega) Tryd.underlying34 rfl HSZ.out.1 HSZ.out.2.2.1 HSZ.out.2.2.2 Tryd.underlying37 rfl HSZ.out.2.1 HSZ.out.2.2.1 HSZ.out.2.2.2 ?_
        intro w9 K8 K9 F9
        have K8' := wall K8
        have K9' := wall K9
        have HB9 := wall (Below.frm HB.out F9 (Nat.le_refl _) (by intro y hy; simp at hy; omega))
        clear K8 K9 F9
        try simp only [Act.put, List.setIfInBounds_toArray, List.set_cons_zero, List.set_cons_succ]
        go_wp2_with fail
        go_light
        exact bodyPost_ret (v := .tuple #[.agg D, .agg D]) (results_two Tryd.results10 _ _ w.heap.size (w.heap.size + 1) 34 37 D D _ _ rfl rfl K8'.out K9'.out Tryd.underlying34 rfl HSZ.out.1 Tryd.underlying37 rfl HSZ.out.2.1) rfl ⟨by rw [HD.out], HB9.out⟩
end Core
end Go.Proofs.YtfiojpdkbckopaaDoor
