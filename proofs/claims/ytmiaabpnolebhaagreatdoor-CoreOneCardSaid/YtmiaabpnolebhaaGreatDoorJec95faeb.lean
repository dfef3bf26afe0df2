/-
  Texts of this claim, joined: CorPl, CorS2.
-/
import Derived.Test.YtmiaabpnolebhaaGreatDoorJb75f9da9
set_option maxHeartbeats 4000000
set_option maxRecDepth 100000
set_option linter.unusedSimpArgs false
set_option linter.unusedVariables false
namespace Go.Proofs.YtmiaabpnolebhaaGreatDoor
open Go.RowKit

namespace Core
open Otp Sha Rv
def csrT : List Nat := [768, 772, 773, 832, 833, 834, 835, 2816]
def plN (n : Nat) : Int := if csrI n = 0 then -1 else (csrI n : Int) - 33
theorem csrT_at {n i : Nat} (hi : i < 8) (h : csrT.getD i 0 = n) : csrI n = 33 + i := by
 subst h
 have : ∀ j : Fin 8, csrI (csrT.getD j.val 0) = 33 + j.val := by decide
 exact this ⟨i, hi⟩
theorem csrT_no {n : Nat} (h : ∀ j, j < 8 → csrT.getD j 0 ≠ n) : csrI n = 0 :=
 csrI_none ⟨fun e => h 0 (by decide) e.symm, fun e => h 1 (by decide) e.symm, fun e => h 2 (by decide) e.symm, fun e => h 3 (by decide) e.symm, fun e => h 4 (by decide) e.symm, fun e => h 5 (by decide) e.symm, fun e => h 6 (by decide) e.symm, fun e => h 7 (by decide) e.symm⟩
theorem place_any (n : Nat) (w : World) : Calls Tryz.prog 168 #[.int .u16 (n : Int)] w fun e w' => e = .returned (.int .i64 (plN n)) ∧ Below w.heap.size w w' := by
 have HB := wall (show Blk (w.alloc (.cells #[.int .u16 768, .int .u16 772, .int .u16 773, .int .u16 832, .int .u16 833, .int .u16 834, .int .u16 835, .int .u16 2816] 25)) w.heap.size 25 (csrT.map fun x => Value.int .u16 ((x : Nat) : Int)).toArray ∧ Below w.heap.size w (w.alloc (.cells #[.int .u16 768, .int .u16 772, .int .u16 773, .int .u16 832, .int .u16 833, .int .u16 834, .int .u16 835, .int .u16 2816] 25)) from ⟨Blk.new _ _ _, (Below.refl _ _).alloc (Nat.le_refl _) _⟩)
 go_enter Tryz.func168, Tryz.ntmps168
 go_wp2_with fail
 generalize w.alloc (.cells #[.int .u16 768, .int .u16 772, .int .u16 773, .int .u16 832, .int .u16 833, .int .u16 834, .int .u16 835, .int .u16 2816] 25) = w1 at *
 go_loopg [7] 8 (fun gg s7 wr => ∃ i : Nat, i + gg = 8 ∧ s7 = .int .i64 (i : Int) ∧ Wall (∀ j, j < i → csrT.getD j 0 ≠ n) ∧ w1 = wr)
 case atStart => exact ⟨0, by omega, rfl, wall (fun j hj => absurd hj (by omega)), rfl⟩
 case round =>
  obtain ⟨i, hg, rfl, HN, rfl⟩ := hrel
  have HG := wall hg
  have hi : i ≤ 8 := by omega
  by_cases hlt : i < 8
  ·have hlt' : (i : Int) < 8 := by omega
   have kc : w1.cell? ⟨w.heap.size, i, none⟩ = some (.int .u16 ((csrT.getD i 0 : Nat) : Int)) := by
    rw [HB.out.1.cell, List.getElem?_toArray, List.getElem?_map, List.getD_eq_getElem?_getD, List.getElem?_eq_getElem (show i < csrT.length from hlt)]
    rfl
   obtain ⟨x, hx⟩ : ∃ x, csrT.getD i 0 = x := ⟨_, rfl⟩
   rw [hx] at kc
   have HX := wall hx
   by_cases he : x = n
   ·have he' : ((x : Int) == (n : Int)) = true := by rw [beq_iff_eq, he]
    have HR := wall (show plN n = (i : Int) by
     have := csrT_at hlt (hx.trans he)
     unfold plN
     rw [if_neg (by omega), this]
     omega)
    clear hg hlt hx he
    go_wp2_with fail
    go_light
    go_ret
    exact ⟨by rw [HR.out]; rfl, HB.out.2⟩
   ·have he' : ((x : Int) == (n : Int)) = false := by rw [beq_eq_false_iff_ne]; omega
    have HN2 := wall (show ∀ j, j < i + 1 → csrT.getD j 0 ≠ n from fun j hj => by
     rcases Nat.lt_or_ge j i with h | h
     ·exact HN.out j h
     ·obtain rfl : j = i := by omega
      rw [hx]; exact he)
    clear hg hlt hx he
    go_wp2_with fail
    go_light
    go_roundg (8 - (i + 1))
    case measure => have := HG.out; omega
    case rel => exact ⟨i + 1, by have := HG.out; omega, by go_num, HN2, rfl⟩
  ·obtain rfl : i = 8 := by omega
   have HR := wall (show plN n = -1 by unfold plN; rw [if_pos (csrT_no HN.out)])
   clear hg hlt hi
   go_wp2_with fail
   go_light
   go_ret
   exact ⟨by rw [HR.out]; rfl, HB.out.2⟩
def RSetO (r : Cr × Bool) (w : World) (e : Ending) (w' : World) : Prop := e = .returned (.tuple #[.agg (crC r.1), .bool r.2]) ∧ Below w.heap.size w w'
theorem rblk_cell {w : World} {b : Nat} {c : Cr} (h : Blk w b 74 (crC c)) (ho : c.Ok) {i : Nat} (hi : i < 41) : w.cell? ⟨b, i, none⟩ = some (.int .u32 ((c.g i : Nat) : Int)) := by
 rw [h.cell]
 show (crL c).toArray[i]? = _
 rw [List.getElem?_toArray]
 exact crL_get ho hi
theorem rset_768 (c : Cr) (hc : c.Ok) (v : Nat) (w : World) (hv : v < 4294967296) : Calls Tryz.prog 96 #[.agg (crC c), .int .u16 768, .int .u32 (v : Int)] w (RSetO (c.set 33 (v / 8 % 2 * 8 + v / 128 % 2 * 128), true) w) := by
 have HC := wall hc
 have HZ := wall ref_zero
 have HPL := wall (fun W => show Calls Tryz.prog 168 #[.int .u16 768] W (fun e w' => e = .returned (.int .i64 0) ∧ Below W.heap.size W w') from place_any 768 W)
 obtain ⟨C, hC⟩ : ∃ y, crC c = y := ⟨_, rfl⟩
 obtain ⟨Z, hZ⟩ : ∃ y, crC crZ = y := ⟨_, rfl⟩
 rw [hZ] at HZ
 rw [hC]
 have HB := wall (show Blk ((w.alloc (.cells C 74)).alloc (.cells Z 74)) w.heap.size 74 C ∧ Blk ((w.alloc (.cells C 74)).alloc (.cells Z 74)) (w.heap.size + 1) 74 Z ∧ Below w.heap.size w ((w.alloc (.cells C 74)).alloc (.cells Z 74)) from ⟨(Blk.new _ _ _).alloc _, blk_new' (by simp), ((Below.refl _ w).alloc (Nat.le_refl _) _).alloc (by simp) _⟩)
 clear hc
 go_enter Tryz.func96, Tryz.ntmps96
 go_upto_region 1 with (first | refine Big.wpList_alloc_at rfl 74 rfl Z HZ.out (w.heap.size + 1) (by simp) ?_)
 try simp only [Act.put, rpA, rpB, rpC]
 generalize (w.alloc (.cells C 74)).alloc (.cells Z 74) = w1 at *
 go_wp2_with fail
 (with_reducible refine (HPL.out _).mono ?_); rintro e w2 ⟨rfl, hB2⟩
 have HB2 := wall (show Blk w2 w.heap.size 74 C ∧ Blk w2 (w.heap.size + 1) 74 Z ∧ Below w.heap.size w w2 from ⟨HB.out.1.next hB2 rfl, HB.out.2.1.next hB2 rfl, below_then HB.out.2.2 hB2 (Nat.le_refl _)⟩)
 clear hB2 HB HPL
 try simp only [Act.put, rpA, rpB, rpC]
 have kk : w2.cell? ⟨w.heap.size, 33, none⟩ = some (.int .u32 ((c.g 33 : Nat) : Int)) := rblk_cell (by rw [hC]; exact HB2.out.1) HC.out (by decide)
 have hfz := HB2.out.1.frozen
 have q8 : (v : Int) / 8 % 2 ≤ 1 := by omega
 have q128 : (v : Int) / 128 % 2 ≤ 1 := by omega
 have p8 : 0 ≤ (v : Int) / 8 % 2 := by omega
 have p128 : 0 ≤ (v : Int) / 128 % 2 := by omega
 have HE6 := wall (show (c.set 33 (v / 8 % 2 * 8 + v / 128 % 2 * 128)) = c.set 33 (v / 8 % 2 * 8 + v / 128 % 2 * 128) from rfl)
 have HC6 := wall (HC.out.set 33 (v / 8 % 2 * 8 + v / 128 % 2 * 128) (by omega))
 go_upto_region 13 with fail
 clear kk hfz
 obtain ⟨c6, hc6⟩ : ∃ y, c.set 33 (v / 8 % 2 * 8 + v / 128 % 2 * 128) = y := ⟨_, rfl⟩
 rw [hc6] at HC6 HE6
 refine wp_any (fun w' => Blk w' w.heap.size 74 (crC c6) ∧ Blk w' (w.heap.size + 1) 74 Z ∧ Below w.heap.size w w') ?_ ?_
 ·refine ⟨?_, HB2.out.2.1.far' _ _ (by simp) _, HB2.out.2.2.setCell (p := ⟨w.heap.size, 33, none⟩) (Nat.le_refl _) _⟩
  have h := HB2.out.1.set 33 (.int .u32 ((v / 8 % 2 * 8 + v / 128 % 2 * 128 : Nat) : Int))
  rw [← hC, crC_set HC.out (by decide), hc6] at h
  first
   | exact h
   | (simp at h ⊢; exact h)
 intro w3 h3
 have HK6 := wall h3
 replace HE6 := wall hc6
 clear h3 HB2 hc6
 have HS6 := wall (show (Tryz.prog.info? 74).map (·.size) = some (crC c6).size ∧ Z.size = (crC c6).size ∧ (crC c6).all (·.oneCell') = true from ⟨by rw [crC_size HC6.out]; exact ref_info, by rw [← hZ, crC_size HC6.out, crC_size crZ_ok], crC_one _⟩)
 obtain ⟨D, hD⟩ : ∃ y, crC c6 = y := ⟨_, rfl⟩
 have HD := wall hD
 rw [hD] at HK6 HS6
 clear hD hZ HZ
 go_wp2_with (first | refine wpList_load_row rfl 74 _ rfl w.heap.size rfl 74 D (0, 0) _ HK6.out.1 Tryz.underlying74 rfl HS6.out.1 ?_ | (refine wpList_set_row rfl 74 (.tmp 6) (.tmp 43) rfl (w.heap.size + 1) D rfl rfl 74 Z HK6.out.2.1 HS6.out.1 HS6.out.2.1 HS6.out.2.2 ?_; intro w4 K4 F4))
 have H4b := wall (Below.frm HK6.out.2.2 F4.out (Nat.le_refl _) (by simp))
 go_light
 exact bodyPost_ret (v := .tuple #[.agg D, .bool true]) (results_one_slot Tryz.results96 _ _ (w.heap.size + 1) 74 D _ (.bool true) rfl rfl K4.out Tryz.underlying74 rfl HS6.out.1) rfl ⟨by rw [HE6.out, HD.out], H4b.out⟩
theorem rset_772 (c : Cr) (hc : c.Ok) (v : Nat) (w : World) (hv : v < 4294967296) : Calls Tryz.prog 96 #[.agg (crC c), .int .u16 772, .int .u32 (v : Int)] w (RSetO (c.set 34 (v / 128 % 2 * 128), true) w) := by
 have HC := wall hc
 have HZ := wall ref_zero
 have HPL := wall (fun W => show Calls Tryz.prog 168 #[.int .u16 772] W (fun e w' => e = .returned (.int .i64 1) ∧ Below W.heap.size W w') from place_any 772 W)
 obtain ⟨C, hC⟩ : ∃ y, crC c = y := ⟨_, rfl⟩
 obtain ⟨Z, hZ⟩ : ∃ y, crC crZ = y := ⟨_, rfl⟩
 rw [hZ] at HZ
 rw [hC]
 have HB := wall (show Blk ((w.alloc (.cells C 74)).alloc (.cells Z 74)) w.heap.size 74 C ∧ Blk ((w.alloc (.cells C 74)).alloc (.cells Z 74)) (w.heap.size + 1) 74 Z ∧ Below w.heap.size w ((w.alloc (.cells C 74)).alloc (.cells Z 74)) from ⟨(Blk.new _ _ _).alloc _, blk_new' (by simp), ((Below.refl _ w).alloc (Nat.le_refl _) _).alloc (by simp) _⟩)
 clear hc
 go_enter Tryz.func96, Tryz.ntmps96
 go_upto_region 1 with (first | refine Big.wpList_alloc_at rfl 74 rfl Z HZ.out (w.heap.size + 1) (by simp) ?_)
 try simp only [Act.put, rpA, rpB, rpC]
 generalize (w.alloc (.cells C 74)).alloc (.cells Z 74) = w1 at *
 go_wp2_with fail
 (with_reducible refine (HPL.out _).mono ?_); rintro e w2 ⟨rfl, hB2⟩
 have HB2 := wall (show Blk w2 w.heap.size 74 C ∧ Blk w2 (w.heap.size + 1) 74 Z ∧ Below w.heap.size w w2 from ⟨HB.out.1.next hB2 rfl, HB.out.2.1.next hB2 rfl, below_then HB.out.2.2 hB2 (Nat.le_refl _)⟩)
 clear hB2 HB HPL
 try simp only [Act.put, rpA, rpB, rpC]
 have kk : w2.cell? ⟨w.heap.size, 34, none⟩ = some (.int .u32 ((c.g 34 : Nat) : Int)) := rblk_cell (by rw [hC]; exact HB2.out.1) HC.out (by decide)
 have hfz := HB2.out.1.frozen
 have q8 : (v : Int) / 8 % 2 ≤ 1 := by omega
 have q128 : (v : Int) / 128 % 2 ≤ 1 := by omega
 have p8 : 0 ≤ (v : Int) / 8 % 2 := by omega
 have p128 : 0 ≤ (v : Int) / 128 % 2 := by omega
 have HE6 := wall (show (c.set 34 (v / 128 % 2 * 128)) = c.set 34 (v / 128 % 2 * 128) from rfl)
 have HC6 := wall (HC.out.set 34 (v / 128 % 2 * 128) (by omega))
 go_upto_region 13 with fail
 clear kk hfz
 obtain ⟨c6, hc6⟩ : ∃ y, c.set 34 (v / 128 % 2 * 128) = y := ⟨_, rfl⟩
 rw [hc6] at HC6 HE6
 refine wp_any (fun w' => Blk w' w.heap.size 74 (crC c6) ∧ Blk w' (w.heap.size + 1) 74 Z ∧ Below w.heap.size w w') ?_ ?_
 ·refine ⟨?_, HB2.out.2.1.far' _ _ (by simp) _, HB2.out.2.2.setCell (p := ⟨w.heap.size, 34, none⟩) (Nat.le_refl _) _⟩
  have h := HB2.out.1.set 34 (.int .u32 ((v / 128 % 2 * 128 : Nat) : Int))
  rw [← hC, crC_set HC.out (by decide), hc6] at h
  first
   | exact h
   | (simp at h ⊢; exact h)
 intro w3 h3
 have HK6 := wall h3
 replace HE6 := wall hc6
 clear h3 HB2 hc6
 have HS6 := wall (show (Tryz.prog.info? 74).map (·.size) = some (crC c6).size ∧ Z.size = (crC c6).size ∧ (crC c6).all (·.oneCell') = true from ⟨by rw [crC_size HC6.out]; exact ref_info, by rw [← hZ, crC_size HC6.out, crC_size crZ_ok], crC_one _⟩)
 obtain ⟨D, hD⟩ : ∃ y, crC c6 = y := ⟨_, rfl⟩
 have HD := wall hD
 rw [hD] at HK6 HS6
 clear hD hZ HZ
 go_wp2_with (first | refine wpList_load_row rfl 74 _ rfl w.heap.size rfl 74 D (0, 0) _ HK6.out.1 Tryz.underlying74 rfl HS6.out.1 ?_ | (refine wpList_set_row rfl 74 (.tmp 6) (.tmp 43) rfl (w.heap.size + 1) D rfl rfl 74 Z HK6.out.2.1 HS6.out.1 HS6.out.2.1 HS6.out.2.2 ?_; intro w4 K4 F4))
 have H4b := wall (Below.frm HK6.out.2.2 F4.out (Nat.le_refl _) (by simp))
 go_light
 exact bodyPost_ret (v := .tuple #[.agg D, .bool true]) (results_one_slot Tryz.results96 _ _ (w.heap.size + 1) 74 D _ (.bool true) rfl rfl K4.out Tryz.underlying74 rfl HS6.out.1) rfl ⟨by rw [HE6.out, HD.out], H4b.out⟩
theorem rset_773 (c : Cr) (hc : c.Ok) (v : Nat) (w : World) (hv : v < 4294967296) : Calls Tryz.prog 96 #[.agg (crC c), .int .u16 773, .int .u32 (v : Int)] w (RSetO (c.set 35 (v - v % 4), true) w) := by
 have HC := wall hc
 have HZ := wall ref_zero
 have HPL := wall (fun W => show Calls Tryz.prog 168 #[.int .u16 773] W (fun e w' => e = .returned (.int .i64 2) ∧ Below W.heap.size W w') from place_any 773 W)
 obtain ⟨C, hC⟩ : ∃ y, crC c = y := ⟨_, rfl⟩
 obtain ⟨Z, hZ⟩ : ∃ y, crC crZ = y := ⟨_, rfl⟩
 rw [hZ] at HZ
 rw [hC]
 have HB := wall (show Blk ((w.alloc (.cells C 74)).alloc (.cells Z 74)) w.heap.size 74 C ∧ Blk ((w.alloc (.cells C 74)).alloc (.cells Z 74)) (w.heap.size + 1) 74 Z ∧ Below w.heap.size w ((w.alloc (.cells C 74)).alloc (.cells Z 74)) from ⟨(Blk.new _ _ _).alloc _, blk_new' (by simp), ((Below.refl _ w).alloc (Nat.le_refl _) _).alloc (by simp) _⟩)
 clear hc
 go_enter Tryz.func96, Tryz.ntmps96
 go_upto_region 1 with (first | refine Big.wpList_alloc_at rfl 74 rfl Z HZ.out (w.heap.size + 1) (by simp) ?_)
 try simp only [Act.put, rpA, rpB, rpC]
 generalize (w.alloc (.cells C 74)).alloc (.cells Z 74) = w1 at *
 go_wp2_with fail
 (with_reducible refine (HPL.out _).mono ?_); rintro e w2 ⟨rfl, hB2⟩
 have HB2 := wall (show Blk w2 w.heap.size 74 C ∧ Blk w2 (w.heap.size + 1) 74 Z ∧ Below w.heap.size w w2 from ⟨HB.out.1.next hB2 rfl, HB.out.2.1.next hB2 rfl, below_then HB.out.2.2 hB2 (Nat.le_refl _)⟩)
 clear hB2 HB HPL
 try simp only [Act.put, rpA, rpB, rpC]
 have kk : w2.cell? ⟨w.heap.size, 35, none⟩ = some (.int .u32 ((c.g 35 : Nat) : Int)) := rblk_cell (by rw [hC]; exact HB2.out.1) HC.out (by decide)
 have hfz := HB2.out.1.frozen
 have hv4 : (v : Int) % 4 ≤ (v : Int) := by omega
 have hvl : (v : Int) - (v : Int) % 4 = ((v - v % 4 : Nat) : Int) := by omega
 have hvn : ((v : Int) - (v : Int) % 4) % 4294967296 = ((v - v % 4 : Nat) : Int) := by omega
 have HE6 := wall (show (c.set 35 (v - v % 4)) = c.set 35 (v - v % 4) from rfl)
 have HC6 := wall (HC.out.set 35 (v - v % 4) (by omega))
 go_upto_region 13 with fail
 clear kk hfz
 obtain ⟨c6, hc6⟩ : ∃ y, c.set 35 (v - v % 4) = y := ⟨_, rfl⟩
 rw [hc6] at HC6 HE6
 refine wp_any (fun w' => Blk w' w.heap.size 74 (crC c6) ∧ Blk w' (w.heap.size + 1) 74 Z ∧ Below w.heap.size w w') ?_ ?_
 ·refine ⟨?_, HB2.out.2.1.far' _ _ (by simp) _, HB2.out.2.2.setCell (p := ⟨w.heap.size, 35, none⟩) (Nat.le_refl _) _⟩
  have h := HB2.out.1.set 35 (.int .u32 ((v - v % 4 : Nat) : Int))
  rw [← hC, crC_set HC.out (by decide), hc6] at h
  first
   | exact h
   | (simp at h ⊢; exact h)
 intro w3 h3
 have HK6 := wall h3
 replace HE6 := wall hc6
 clear h3 HB2 hc6
 have HS6 := wall (show (Tryz.prog.info? 74).map (·.size) = some (crC c6).size ∧ Z.size = (crC c6).size ∧ (crC c6).all (·.oneCell') = true from ⟨by rw [crC_size HC6.out]; exact ref_info, by rw [← hZ, crC_size HC6.out, crC_size crZ_ok], crC_one _⟩)
 obtain ⟨D, hD⟩ : ∃ y, crC c6 = y := ⟨_, rfl⟩
 have HD := wall hD
 rw [hD] at HK6 HS6
 clear hD hZ HZ
 go_wp2_with (first | refine wpList_load_row rfl 74 _ rfl w.heap.size rfl 74 D (0, 0) _ HK6.out.1 Tryz.underlying74 rfl HS6.out.1 ?_ | (refine wpList_set_row rfl 74 (.tmp 6) (.tmp 43) rfl (w.heap.size + 1) D rfl rfl 74 Z HK6.out.2.1 HS6.out.1 HS6.out.2.1 HS6.out.2.2 ?_; intro w4 K4 F4))
 have H4b := wall (Below.frm HK6.out.2.2 F4.out (Nat.le_refl _) (by simp))
 go_light
 exact bodyPost_ret (v := .tuple #[.agg D, .bool true]) (results_one_slot Tryz.results96 _ _ (w.heap.size + 1) 74 D _ (.bool true) rfl rfl K4.out Tryz.underlying74 rfl HS6.out.1) rfl ⟨by rw [HE6.out, HD.out], H4b.out⟩
theorem rset_832 (c : Cr) (hc : c.Ok) (v : Nat) (w : World) (hv : v < 4294967296) : Calls Tryz.prog 96 #[.agg (crC c), .int .u16 832, .int .u32 (v : Int)] w (RSetO (c.set 36 (v), true) w) := by
 have HC := wall hc
 have HZ := wall ref_zero
 have HPL := wall (fun W => show Calls Tryz.prog 168 #[.int .u16 832] W (fun e w' => e = .returned (.int .i64 3) ∧ Below W.heap.size W w') from place_any 832 W)
 obtain ⟨C, hC⟩ : ∃ y, crC c = y := ⟨_, rfl⟩
 obtain ⟨Z, hZ⟩ : ∃ y, crC crZ = y := ⟨_, rfl⟩
 rw [hZ] at HZ
 rw [hC]
 have HB := wall (show Blk ((w.alloc (.cells C 74)).alloc (.cells Z 74)) w.heap.size 74 C ∧ Blk ((w.alloc (.cells C 74)).alloc (.cells Z 74)) (w.heap.size + 1) 74 Z ∧ Below w.heap.size w ((w.alloc (.cells C 74)).alloc (.cells Z 74)) from ⟨(Blk.new _ _ _).alloc _, blk_new' (by simp), ((Below.refl _ w).alloc (Nat.le_refl _) _).alloc (by simp) _⟩)
 clear hc
 go_enter Tryz.func96, Tryz.ntmps96
 go_upto_region 1 with (first | refine Big.wpList_alloc_at rfl 74 rfl Z HZ.out (w.heap.size + 1) (by simp) ?_)
 try simp only [Act.put, rpA, rpB, rpC]
 generalize (w.alloc (.cells C 74)).alloc (.cells Z 74) = w1 at *
 go_wp2_with fail
 (with_reducible refine (HPL.out _).mono ?_); rintro e w2 ⟨rfl, hB2⟩
 have HB2 := wall (show Blk w2 w.heap.size 74 C ∧ Blk w2 (w.heap.size + 1) 74 Z ∧ Below w.heap.size w w2 from ⟨HB.out.1.next hB2 rfl, HB.out.2.1.next hB2 rfl, below_then HB.out.2.2 hB2 (Nat.le_refl _)⟩)
 clear hB2 HB HPL
 try simp only [Act.put, rpA, rpB, rpC]
 have kk : w2.cell? ⟨w.heap.size, 36, none⟩ = some (.int .u32 ((c.g 36 : Nat) : Int)) := rblk_cell (by rw [hC]; exact HB2.out.1) HC.out (by decide)
 have hfz := HB2.out.1.frozen
 have HE6 := wall (show (c.set 36 (v)) = c.set 36 (v) from rfl)
 have HC6 := wall (HC.out.set 36 (v) (by omega))
 go_upto_region 13 with fail
 clear kk hfz
 obtain ⟨c6, hc6⟩ : ∃ y, c.set 36 (v) = y := ⟨_, rfl⟩
 rw [hc6] at HC6 HE6
 refine wp_any (fun w' => Blk w' w.heap.size 74 (crC c6) ∧ Blk w' (w.heap.size + 1) 74 Z ∧ Below w.heap.size w w') ?_ ?_
 ·refine ⟨?_, HB2.out.2.1.far' _ _ (by simp) _, HB2.out.2.2.setCell (p := ⟨w.heap.size, 36, none⟩) (Nat.le_refl _) _⟩
  have h := HB2.out.1.set 36 (.int .u32 ((v : Nat) : Int))
  rw [← hC, crC_set HC.out (by decide), hc6] at h
  first
   | exact h
   | (simp at h ⊢; exact h)
 intro w3 h3
 have HK6 := wall h3
 replace HE6 := wall hc6
 clear h3 HB2 hc6
 have HS6 := wall (show (Tryz.prog.info? 74).map (·.size) = some (crC c6).size ∧ Z.size = (crC c6).size ∧ (crC c6).all (·.oneCell') = true from ⟨by rw [crC_size HC6.out]; exact ref_info, by rw [← hZ, crC_size HC6.out, crC_size crZ_ok], crC_one _⟩)
 obtain ⟨D, hD⟩ : ∃ y, crC c6 = y := ⟨_, rfl⟩
 have HD := wall hD
 rw [hD] at HK6 HS6
 clear hD hZ HZ
 go_wp2_with (first | refine wpList_load_row rfl 74 _ rfl w.heap.size rfl 74 D (0, 0) _ HK6.out.1 Tryz.underlying74 rfl HS6.out.1 ?_ | (refine wpList_set_row rfl 74 (.tmp 6) (.tmp 43) rfl (w.heap.size + 1) D rfl rfl 74 Z HK6.out.2.1 HS6.out.1 HS6.out.2.1 HS6.out.2.2 ?_; intro w4 K4 F4))
 have H4b := wall (Below.frm HK6.out.2.2 F4.out (Nat.le_refl _) (by simp))
 go_light
 exact bodyPost_ret (v := .tuple #[.agg D, .bool true]) (results_one_slot Tryz.results96 _ _ (w.heap.size + 1) 74 D _ (.bool true) rfl rfl K4.out Tryz.underlying74 rfl HS6.out.1) rfl ⟨by rw [HE6.out, HD.out], H4b.out⟩
theorem rset_833 (c : Cr) (hc : c.Ok) (v : Nat) (w : World) (hv : v < 4294967296) : Calls Tryz.prog 96 #[.agg (crC c), .int .u16 833, .int .u32 (v : Int)] w (RSetO (c.set 37 (v - v % 4), true) w) := by
 have HC := wall hc
 have HZ := wall ref_zero
 have HPL := wall (fun W => show Calls Tryz.prog 168 #[.int .u16 833] W (fun e w' => e = .returned (.int .i64 4) ∧ Below W.heap.size W w') from place_any 833 W)
 obtain ⟨C, hC⟩ : ∃ y, crC c = y := ⟨_, rfl⟩
 obtain ⟨Z, hZ⟩ : ∃ y, crC crZ = y := ⟨_, rfl⟩
 rw [hZ] at HZ
 rw [hC]
 have HB := wall (show Blk ((w.alloc (.cells C 74)).alloc (.cells Z 74)) w.heap.size 74 C ∧ Blk ((w.alloc (.cells C 74)).alloc (.cells Z 74)) (w.heap.size + 1) 74 Z ∧ Below w.heap.size w ((w.alloc (.cells C 74)).alloc (.cells Z 74)) from ⟨(Blk.new _ _ _).alloc _, blk_new' (by simp), ((Below.refl _ w).alloc (Nat.le_refl _) _).alloc (by simp) _⟩)
 clear hc
 go_enter Tryz.func96, Tryz.ntmps96
 go_upto_region 1 with (first | refine Big.wpList_alloc_at rfl 74 rfl Z HZ.out (w.heap.size + 1) (by simp) ?_)
 try simp only [Act.put, rpA, rpB, rpC]
 generalize (w.alloc (.cells C 74)).alloc (.cells Z 74) = w1 at *
 go_wp2_with fail
 (with_reducible refine (HPL.out _).mono ?_); rintro e w2 ⟨rfl, hB2⟩
 have HB2 := wall (show Blk w2 w.heap.size 74 C ∧ Blk w2 (w.heap.size + 1) 74 Z ∧ Below w.heap.size w w2 from ⟨HB.out.1.next hB2 rfl, HB.out.2.1.next hB2 rfl, below_then HB.out.2.2 hB2 (Nat.le_refl _)⟩)
 clear hB2 HB HPL
 try simp only [Act.put, rpA, rpB, rpC]
 have kk : w2.cell? ⟨w.heap.size, 37, none⟩ = some (.int .u32 ((c.g 37 : Nat) : Int)) := rblk_cell (by rw [hC]; exact HB2.out.1) HC.out (by decide)
 have hfz := HB2.out.1.frozen
 have hv4 : (v : Int) % 4 ≤ (v : Int) := by omega
 have hvl : (v : Int) - (v : Int) % 4 = ((v - v % 4 : Nat) : Int) := by omega
 have hvn : ((v : Int) - (v : Int) % 4) % 4294967296 = ((v - v % 4 : Nat) : Int) := by omega
 have HE6 := wall (show (c.set 37 (v - v % 4)) = c.set 37 (v - v % 4) from rfl)
 have HC6 := wall (HC.out.set 37 (v - v % 4) (by omega))
 go_upto_region 13 with fail
 clear kk hfz
 obtain ⟨c6, hc6⟩ : ∃ y, c.set 37 (v - v % 4) = y := ⟨_, rfl⟩
 rw [hc6] at HC6 HE6
 refine wp_any (fun w' => Blk w' w.heap.size 74 (crC c6) ∧ Blk w' (w.heap.size + 1) 74 Z ∧ Below w.heap.size w w') ?_ ?_
 ·refine ⟨?_, HB2.out.2.1.far' _ _ (by simp) _, HB2.out.2.2.setCell (p := ⟨w.heap.size, 37, none⟩) (Nat.le_refl _) _⟩
  have h := HB2.out.1.set 37 (.int .u32 ((v - v % 4 : Nat) : Int))
  rw [← hC, crC_set HC.out (by decide), hc6] at h
  first
   | exact h
   | (simp at h ⊢; exact h)
 intro w3 h3
 have HK6 := wall h3
 replace HE6 := wall hc6
 clear h3 HB2 hc6
 have HS6 := wall (show (Tryz.prog.info? 74).map (·.size) = some (crC c6).size ∧ Z.size = (crC c6).size ∧ (crC c6).all (·.oneCell') = true from ⟨by rw [crC_size HC6.out]; exact ref_info, by rw [← hZ, crC_size HC6.out, crC_size crZ_ok], crC_one _⟩)
 obtain ⟨D, hD⟩ : ∃ y, crC c6 = y := ⟨_, rfl⟩
 have HD := wall hD
 rw [hD] at HK6 HS6
 clear hD hZ HZ
 go_wp2_with (first | refine wpList_load_row rfl 74 _ rfl w.heap.size rfl 74 D (0, 0) _ HK6.out.1 Tryz.underlying74 rfl HS6.out.1 ?_ | (refine wpList_set_row rfl 74 (.tmp 6) (.tmp 43) rfl (w.heap.size + 1) D rfl rfl 74 Z HK6.out.2.1 HS6.out.1 HS6.out.2.1 HS6.out.2.2 ?_; intro w4 K4 F4))
 have H4b := wall (Below.frm HK6.out.2.2 F4.out (Nat.le_refl _) (by simp))
 go_light
 exact bodyPost_ret (v := .tuple #[.agg D, .bool true]) (results_one_slot Tryz.results96 _ _ (w.heap.size + 1) 74 D _ (.bool true) rfl rfl K4.out Tryz.underlying74 rfl HS6.out.1) rfl ⟨by rw [HE6.out, HD.out], H4b.out⟩
theorem rset_834 (c : Cr) (hc : c.Ok) (v : Nat) (w : World) (hv : v < 4294967296) : Calls Tryz.prog 96 #[.agg (crC c), .int .u16 834, .int .u32 (v : Int)] w (RSetO (c.set 38 (v), true) w) := by
 have HC := wall hc
 have HZ := wall ref_zero
 have HPL := wall (fun W => show Calls Tryz.prog 168 #[.int .u16 834] W (fun e w' => e = .returned (.int .i64 5) ∧ Below W.heap.size W w') from place_any 834 W)
 obtain ⟨C, hC⟩ : ∃ y, crC c = y := ⟨_, rfl⟩
 obtain ⟨Z, hZ⟩ : ∃ y, crC crZ = y := ⟨_, rfl⟩
 rw [hZ] at HZ
 rw [hC]
 have HB := wall (show Blk ((w.alloc (.cells C 74)).alloc (.cells Z 74)) w.heap.size 74 C ∧ Blk ((w.alloc (.cells C 74)).alloc (.cells Z 74)) (w.heap.size + 1) 74 Z ∧ Below w.heap.size w ((w.alloc (.cells C 74)).alloc (.cells Z 74)) from ⟨(Blk.new _ _ _).alloc _, blk_new' (by simp), ((Below.refl _ w).alloc (Nat.le_refl _) _).alloc (by simp) _⟩)
 clear hc
 go_enter Tryz.func96, Tryz.ntmps96
 go_upto_region 1 with (first | refine Big.wpList_alloc_at rfl 74 rfl Z HZ.out (w.heap.size + 1) (by simp) ?_)
 try simp only [Act.put, rpA, rpB, rpC]
 generalize (w.alloc (.cells C 74)).alloc (.cells Z 74) = w1 at *
 go_wp2_with fail
 (with_reducible refine (HPL.out _).mono ?_); rintro e w2 ⟨rfl, hB2⟩
 have HB2 := wall (show Blk w2 w.heap.size 74 C ∧ Blk w2 (w.heap.size + 1) 74 Z ∧ Below w.heap.size w w2 from ⟨HB.out.1.next hB2 rfl, HB.out.2.1.next hB2 rfl, below_then HB.out.2.2 hB2 (Nat.le_refl _)⟩)
 clear hB2 HB HPL
 try simp only [Act.put, rpA, rpB, rpC]
 have kk : w2.cell? ⟨w.heap.size, 38, none⟩ = some (.int .u32 ((c.g 38 : Nat) : Int)) := rblk_cell (by rw [hC]; exact HB2.out.1) HC.out (by decide)
 have hfz := HB2.out.1.frozen
 have HE6 := wall (show (c.set 38 (v)) = c.set 38 (v) from rfl)
 have HC6 := wall (HC.out.set 38 (v) (by omega))
 go_upto_region 13 with fail
 clear kk hfz
 obtain ⟨c6, hc6⟩ : ∃ y, c.set 38 (v) = y := ⟨_, rfl⟩
 rw [hc6] at HC6 HE6
 refine wp_any (fun w' => Blk w' w.heap.size 74 (crC c6) ∧ Blk w' (w.heap.size + 1) 74 Z ∧ Below w.heap.size w w') ?_ ?_
 ·refine ⟨?_, HB2.out.2.1.far' _ _ (by simp) _, HB2.out.2.2.setCell (p := ⟨w.heap.size, 38, none⟩) (Nat.le_refl _) _⟩
  have h := HB2.out.1.set 38 (.int .u32 ((v : Nat) : Int))
  rw [← hC, crC_set HC.out (by decide), hc6] at h
  first
   | exact h
   | (simp at h ⊢; exact h)
 intro w3 h3
 have HK6 := wall h3
 replace HE6 := wall hc6
 clear h3 HB2 hc6
 have HS6 := wall (show (Tryz.prog.info? 74).map (·.size) = some (crC c6).size ∧ Z.size = (crC c6).size ∧ (crC c6).all (·.oneCell') = true from ⟨by rw [crC_size HC6.out]; exact ref_info, by rw [← hZ, crC_size HC6.out, crC_size crZ_ok], crC_one _⟩)
 obtain ⟨D, hD⟩ : ∃ y, crC c6 = y := ⟨_, rfl⟩
 have HD := wall hD
 rw [hD] at HK6 HS6
 clear hD hZ HZ
 go_wp2_with (first | refine wpList_load_row rfl 74 _ rfl w.heap.size rfl 74 D (0, 0) _ HK6.out.1 Tryz.underlying74 rfl HS6.out.1 ?_ | (refine wpList_set_row rfl 74 (.tmp 6) (.tmp 43) rfl (w.heap.size + 1) D rfl rfl 74 Z HK6.out.2.1 HS6.out.1 HS6.out.2.1 HS6.out.2.2 ?_; intro w4 K4 F4))
 have H4b := wall (Below.frm HK6.out.2.2 F4.out (Nat.le_refl _) (by simp))
 go_light
 exact bodyPost_ret (v := .tuple #[.agg D, .bool true]) (results_one_slot Tryz.results96 _ _ (w.heap.size + 1) 74 D _ (.bool true) rfl rfl K4.out Tryz.underlying74 rfl HS6.out.1) rfl ⟨by rw [HE6.out, HD.out], H4b.out⟩
theorem rset_835 (c : Cr) (hc : c.Ok) (v : Nat) (w : World) (hv : v < 4294967296) : Calls Tryz.prog 96 #[.agg (crC c), .int .u16 835, .int .u32 (v : Int)] w (RSetO (c.set 39 (v), true) w) := by
 have HC := wall hc
 have HZ := wall ref_zero
 have HPL := wall (fun W => show Calls Tryz.prog 168 #[.int .u16 835] W (fun e w' => e = .returned (.int .i64 6) ∧ Below W.heap.size W w') from place_any 835 W)
 obtain ⟨C, hC⟩ : ∃ y, crC c = y := ⟨_, rfl⟩
 obtain ⟨Z, hZ⟩ : ∃ y, crC crZ = y := ⟨_, rfl⟩
 rw [hZ] at HZ
 rw [hC]
 have HB := wall (show Blk ((w.alloc (.cells C 74)).alloc (.cells Z 74)) w.heap.size 74 C ∧ Blk ((w.alloc (.cells C 74)).alloc (.cells Z 74)) (w.heap.size + 1) 74 Z ∧ Below w.heap.size w ((w.alloc (.cells C 74)).alloc (.cells Z 74)) from ⟨(Blk.new _ _ _).alloc _, blk_new' (by simp), ((Below.refl _ w).alloc (Nat.le_refl _) _).alloc (by simp) _⟩)
 clear hc
 go_enter Tryz.func96, Tryz.ntmps96
 go_upto_region 1 with (first | refine Big.wpList_alloc_at rfl 74 rfl Z HZ.out (w.heap.size + 1) (by simp) ?_)
 try simp only [Act.put, rpA, rpB, rpC]
 generalize (w.alloc (.cells C 74)).alloc (.cells Z 74) = w1 at *
 go_wp2_with fail
 (with_reducible refine (HPL.out _).mono ?_); rintro e w2 ⟨rfl, hB2⟩
 have HB2 := wall (show Blk w2 w.heap.size 74 C ∧ Blk w2 (w.heap.size + 1) 74 Z ∧ Below w.heap.size w w2 from ⟨HB.out.1.next hB2 rfl, HB.out.2.1.next hB2 rfl, below_then HB.out.2.2 hB2 (Nat.le_refl _)⟩)
 clear hB2 HB HPL
 try simp only [Act.put, rpA, rpB, rpC]
 have kk : w2.cell? ⟨w.heap.size, 39, none⟩ = some (.int .u32 ((c.g 39 : Nat) : Int)) := rblk_cell (by rw [hC]; exact HB2.out.1) HC.out (by decide)
 have hfz := HB2.out.1.frozen
 have HE6 := wall (show (c.set 39 (v)) = c.set 39 (v) from rfl)
 have HC6 := wall (HC.out.set 39 (v) (by omega))
 go_upto_region 13 with fail
 clear kk hfz
 obtain ⟨c6, hc6⟩ : ∃ y, c.set 39 (v) = y := ⟨_, rfl⟩
 rw [hc6] at HC6 HE6
 refine wp_any (fun w' => Blk w' w.heap.size 74 (crC c6) ∧ Blk w' (w.heap.size + 1) 74 Z ∧ Below w.heap.size w w') ?_ ?_
 ·refine ⟨?_, HB2.out.2.1.far' _ _ (by simp) _, HB2.out.2.2.setCell (p := ⟨w.heap.size, 39, none⟩) (Nat.le_refl _) _⟩
  have h := HB2.out.1.set 39 (.int .u32 ((v : Nat) : Int))
  rw [← hC, crC_set HC.out (by decide), hc6] at h
  first
   | exact h
   | (simp at h ⊢; exact h)
 intro w3 h3
 have HK6 := wall h3
 replace HE6 := wall hc6
 clear h3 HB2 hc6
 have HS6 := wall (show (Tryz.prog.info? 74).map (·.size) = some (crC c6).size ∧ Z.size = (crC c6).size ∧ (crC c6).all (·.oneCell') = true from ⟨by rw [crC_size HC6.out]; exact ref_info, by rw [← hZ, crC_size HC6.out, crC_size crZ_ok], crC_one _⟩)
 obtain ⟨D, hD⟩ : ∃ y, crC c6 = y := ⟨_, rfl⟩
 have HD := wall hD
 rw [hD] at HK6 HS6
 clear hD hZ HZ
 go_wp2_with (first | refine wpList_load_row rfl 74 _ rfl w.heap.size rfl 74 D (0, 0) _ HK6.out.1 Tryz.underlying74 rfl HS6.out.1 ?_ | (refine wpList_set_row rfl 74 (.tmp 6) (.tmp 43) rfl (w.heap.size + 1) D rfl rfl 74 Z HK6.out.2.1 HS6.out.1 HS6.out.2.1 HS6.out.2.2 ?_; intro w4 K4 F4))
 have H4b := wall (Below.frm HK6.out.2.2 F4.out (Nat.le_refl _) (by simp))
 go_light
 exact bodyPost_ret (v := .tuple #[.agg D, .bool true]) (results_one_slot Tryz.results96 _ _ (w.heap.size + 1) 74 D _ (.bool true) rfl rfl K4.out Tryz.underlying74 rfl HS6.out.1) rfl ⟨by rw [HE6.out, HD.out], H4b.out⟩
theorem rset_2816 (c : Cr) (hc : c.Ok) (v : Nat) (w : World) (hv : v < 4294967296) : Calls Tryz.prog 96 #[.agg (crC c), .int .u16 2816, .int .u32 (v : Int)] w (RSetO (c.set 40 (v), true) w) := by
 have HC := wall hc
 have HZ := wall ref_zero
 have HPL := wall (fun W => show Calls Tryz.prog 168 #[.int .u16 2816] W (fun e w' => e = .returned (.int .i64 7) ∧ Below W.heap.size W w') from place_any 2816 W)
 obtain ⟨C, hC⟩ : ∃ y, crC c = y := ⟨_, rfl⟩
 obtain ⟨Z, hZ⟩ : ∃ y, crC crZ = y := ⟨_, rfl⟩
 rw [hZ] at HZ
 rw [hC]
 have HB := wall (show Blk ((w.alloc (.cells C 74)).alloc (.cells Z 74)) w.heap.size 74 C ∧ Blk ((w.alloc (.cells C 74)).alloc (.cells Z 74)) (w.heap.size + 1) 74 Z ∧ Below w.heap.size w ((w.alloc (.cells C 74)).alloc (.cells Z 74)) from ⟨(Blk.new _ _ _).alloc _, blk_new' (by simp), ((Below.refl _ w).alloc (Nat.le_refl _) _).alloc (by simp) _⟩)
 clear hc
 go_enter Tryz.func96, Tryz.ntmps96
 go_upto_region 1 with (first | refine Big.wpList_alloc_at rfl 74 rfl Z HZ.out (w.heap.size + 1) (by simp) ?_)
 try simp only [Act.put, rpA, rpB, rpC]
 generalize (w.alloc (.cells C 74)).alloc (.cells Z 74) = w1 at *
 go_wp2_with fail
 (with_reducible refine (HPL.out _).mono ?_); rintro e w2 ⟨rfl, hB2⟩
 have HB2 := wall (show Blk w2 w.heap.size 74 C ∧ Blk w2 (w.heap.size + 1) 74 Z ∧ Below w.heap.size w w2 from ⟨HB.out.1.next hB2 rfl, HB.out.2.1.next hB2 rfl, below_then HB.out.2.2 hB2 (Nat.le_refl _)⟩)
 clear hB2 HB HPL
 try simp only [Act.put, rpA, rpB, rpC]
 have kk : w2.cell? ⟨w.heap.size, 40, none⟩ = some (.int .u32 ((c.g 40 : Nat) : Int)) := rblk_cell (by rw [hC]; exact HB2.out.1) HC.out (by decide)
 have hfz := HB2.out.1.frozen
 have HE6 := wall (show (c.set 40 (v)) = c.set 40 (v) from rfl)
 have HC6 := wall (HC.out.set 40 (v) (by omega))
 go_upto_region 13 with fail
 clear kk hfz
 obtain ⟨c6, hc6⟩ : ∃ y, c.set 40 (v) = y := ⟨_, rfl⟩
 rw [hc6] at HC6 HE6
 refine wp_any (fun w' => Blk w' w.heap.size 74 (crC c6) ∧ Blk w' (w.heap.size + 1) 74 Z ∧ Below w.heap.size w w') ?_ ?_
 ·refine ⟨?_, HB2.out.2.1.far' _ _ (by simp) _, HB2.out.2.2.setCell (p := ⟨w.heap.size, 40, none⟩) (Nat.le_refl _) _⟩
  have h := HB2.out.1.set 40 (.int .u32 ((v : Nat) : Int))
  rw [← hC, crC_set HC.out (by decide), hc6] at h
  first
   | exact h
   | (simp at h ⊢; exact h)
 intro w3 h3
 have HK6 := wall h3
 replace HE6 := wall hc6
 clear h3 HB2 hc6
 have HS6 := wall (show (Tryz.prog.info? 74).map (·.size) = some (crC c6).size ∧ Z.size = (crC c6).size ∧ (crC c6).all (·.oneCell') = true from ⟨by rw [crC_size HC6.out]; exact ref_info, by rw [← hZ, crC_size HC6.out, crC_size crZ_ok], crC_one _⟩)
 obtain ⟨D, hD⟩ : ∃ y, crC c6 = y := ⟨_, rfl⟩
 have HD := wall hD
 rw [hD] at HK6 HS6
 clear hD hZ HZ
 go_wp2_with (first | refine wpList_load_row rfl 74 _ rfl w.heap.size rfl 74 D (0, 0) _ HK6.out.1 Tryz.underlying74 rfl HS6.out.1 ?_ | (refine wpList_set_row rfl 74 (.tmp 6) (.tmp 43) rfl (w.heap.size + 1) D rfl rfl 74 Z HK6.out.2.1 HS6.out.1 HS6.out.2.1 HS6.out.2.2 ?_; intro w4 K4 F4))
 have H4b := wall (Below.frm HK6.out.2.2 F4.out (Nat.le_refl _) (by simp))
 go_light
 exact bodyPost_ret (v := .tuple #[.agg D, .bool true]) (results_one_slot Tryz.results96 _ _ (w.heap.size + 1) 74 D _ (.bool true) rfl rfl K4.out Tryz.underlying74 rfl HS6.out.1) rfl ⟨by rw [HE6.out, HD.out], H4b.out⟩
theorem rset_none (c : Cr) (hc : c.Ok) (n : Nat) (v : Nat) (w : World) (hv : v < 4294967296) (hn : csrI n = 0) : Calls Tryz.prog 96 #[.agg (crC c), .int .u16 (n : Int), .int .u32 (v : Int)] w (RSetO (c, false) w) := by
 have HC := wall hc
 have HZ := wall ref_zero
 have HPL := wall (fun W => show Calls Tryz.prog 168 #[.int .u16 (n : Int)] W (fun e w' => e = .returned (.int .i64 (-1)) ∧ Below W.heap.size W w') from by
  have h := place_any n W
  unfold plN at h
  rw [if_pos hn] at h
  exact h)
 obtain ⟨C, hC⟩ : ∃ y, crC c = y := ⟨_, rfl⟩
 obtain ⟨Z, hZ⟩ : ∃ y, crC crZ = y := ⟨_, rfl⟩
 rw [hZ] at HZ
 rw [hC]
 have HB := wall (show Blk ((w.alloc (.cells C 74)).alloc (.cells Z 74)) w.heap.size 74 C ∧ Blk ((w.alloc (.cells C 74)).alloc (.cells Z 74)) (w.heap.size + 1) 74 Z ∧ Below w.heap.size w ((w.alloc (.cells C 74)).alloc (.cells Z 74)) from ⟨(Blk.new _ _ _).alloc _, blk_new' (by simp), ((Below.refl _ w).alloc (Nat.le_refl _) _).alloc (by simp) _⟩)
 clear hc
 go_enter Tryz.func96, Tryz.ntmps96
 go_upto_region 1 with (first | refine Big.wpList_alloc_at rfl 74 rfl Z HZ.out (w.heap.size + 1) (by simp) ?_)
 try simp only [Act.put, rpA, rpB, rpC]
 generalize (w.alloc (.cells C 74)).alloc (.cells Z 74) = w1 at *
 go_wp2_with fail
 (with_reducible refine (HPL.out _).mono ?_); rintro e w2 ⟨rfl, hB2⟩
 have HB2 := wall (show Blk w2 w.heap.size 74 C ∧ Blk w2 (w.heap.size + 1) 74 Z ∧ Below w.heap.size w w2 from ⟨HB.out.1.next hB2 rfl, HB.out.2.1.next hB2 rfl, below_then HB.out.2.2 hB2 (Nat.le_refl _)⟩)
 clear hB2 HB HPL
 try simp only [Act.put, rpA, rpB, rpC]
 obtain ⟨c6, hc6⟩ : ∃ y, y = c := ⟨_, rfl⟩
 have HE6 := wall hc6.symm
 have HC6 := wall (show c6.Ok by rw [hc6]; exact HC.out)
 have HK6 := wall (show Blk w2 w.heap.size 74 (crC c6) ∧ Blk w2 (w.heap.size + 1) 74 Z ∧ Below w.heap.size w w2 from by rw [hc6, hC]; exact HB2.out)
 clear HB2 hc6
 have HS6 := wall (show (Tryz.prog.info? 74).map (·.size) = some (crC c6).size ∧ Z.size = (crC c6).size ∧ (crC c6).all (·.oneCell') = true from ⟨by rw [crC_size HC6.out]; exact ref_info, by rw [← hZ, crC_size HC6.out, crC_size crZ_ok], crC_one _⟩)
 obtain ⟨D, hD⟩ : ∃ y, crC c6 = y := ⟨_, rfl⟩
 have HD := wall hD
 rw [hD] at HK6 HS6
 clear hD hZ HZ
 go_wp2_with (first | refine wpList_load_row rfl 74 _ rfl w.heap.size rfl 74 D (0, 0) _ HK6.out.1 Tryz.underlying74 rfl HS6.out.1 ?_ | (refine wpList_set_row rfl 74 (.tmp 6) (.tmp 14) rfl (w.heap.size + 1) D rfl rfl 74 Z HK6.out.2.1 HS6.out.1 HS6.out.2.1 HS6.out.2.2 ?_; intro w4 K4 F4))
 have H4b := wall (Below.frm HK6.out.2.2 F4.out (Nat.le_refl _) (by simp))
 go_light
 exact bodyPost_ret (v := .tuple #[.agg D, .bool false]) (results_one_slot Tryz.results96 _ _ (w.heap.size + 1) 74 D _ (.bool false) rfl rfl K4.out Tryz.underlying74 rfl HS6.out.1) rfl ⟨by rw [HE6.out, HD.out], H4b.out⟩
theorem rset_any (c : Cr) (hc : c.Ok) (n v : Nat) (w : World) (hv : v < 4294967296) : Calls Tryz.prog 96 #[.agg (crC c), .int .u16 (n : Int), .int .u32 (v : Int)] w (RSetO (csrS c n v) w) := by
 by_cases h768 : n = 768
 ·subst h768; exact rset_768 c hc v w hv
 by_cases h772 : n = 772
 ·subst h772; exact rset_772 c hc v w hv
 by_cases h773 : n = 773
 ·subst h773; exact rset_773 c hc v w hv
 by_cases h832 : n = 832
 ·subst h832; exact rset_832 c hc v w hv
 by_cases h833 : n = 833
 ·subst h833; exact rset_833 c hc v w hv
 by_cases h834 : n = 834
 ·subst h834; exact rset_834 c hc v w hv
 by_cases h835 : n = 835
 ·subst h835; exact rset_835 c hc v w hv
 by_cases h2816 : n = 2816
 ·subst h2816; exact rset_2816 c hc v w hv
 have h0 : csrI n = 0 := csrI_none ⟨h768, h772, h773, h832, h833, h834, h835, h2816⟩
 rw [show csrS c n v = (c, false) by unfold csrS; rw [if_neg (by simpa using h0)]]
 exact rset_none c hc n v w hv h0
def csrs (c : Cr) (ys : List Nat) : Nat → Cr
 | 0 => c
 | k + 1 => match ys[k]? with
  | some y => if k < 8 then (csrS (csrs c ys k) (csrT.getD k 0) y).1 else csrs c ys k
  | none => csrs c ys k
theorem csrs_ok {c : Cr} (h : c.Ok) {ys : List Nat} (hy : ∀ (i x : Nat), ys[i]? = some x → x < 4294967296) : ∀ k, (csrs c ys k).Ok
 | 0 => h
 | k + 1 => by
  unfold csrs
  split
  ·rename_i x e
   split
   ·exact csrS_ok (csrs_ok h hy k) _ _ (hy _ _ e)
   ·exact csrs_ok h hy k
  ·exact csrs_ok h hy k
theorem start2_any (pc : Nat) (hpc : pc < 4294967296) (A : Option Addr) (len cap : Nat) (xs : List Nat) (w : World) (hl : xs.length = len) (hm : len ≤ maxLen) (hx : Nats .u32 4294967296 w w.heap.size A xs) (B : Option Addr) (len2 cap2 : Nat) (ys : List Nat) (hl2 : ys.length = len2) (hm2 : len2 ≤ maxLen) (hy : Nats .u32 4294967296 w w.heap.size B ys) :
  Calls Tryz.prog 27 #[.int .u32 (pc : Int), .slice A len cap, .slice B len2 cap2] w (StartOut (csrs (regs (newC pc) xs len) ys len2) w) := by
 have HX := wall hx
 have HY := wall hy
 have HL2 := wall (And.intro hl2 hm2)
 have HL := wall (And.intro hl hm)
 have HPC := wall hpc
 have HZ := wall cr_zero
 have HZR := wall ref_zero
 have HBR := wall (ref_built pc)
 have HNE := wall (fun W => new_any pc hpc W)
 have HN := wall (newC_ok hpc)
 obtain ⟨Z, hZ⟩ : ∃ y, crC crZ = y := ⟨_, rfl⟩
 obtain ⟨N, hN⟩ : ∃ y, crC (newC pc) = y := ⟨_, rfl⟩
 unfold CrOut at HNE
 rw [hN] at HNE HBR
 rw [hZ] at HZ HZR
 clear hl hm hpc hx hl2 hm2 hy
 go_enter Tryz.func27, Tryz.ntmps27
 go_upto_region 1 with (first | refine Big.wpList_alloc_at rfl 71 rfl Z HZ.out w.heap.size rfl ?_ | refine Big.wpList_alloc_at rfl 74 rfl Z HZR.out (w.heap.size + 1) (by simp) ?_)
 try simp only [Act.put, rpA, rpB, rpC]
 refine wp_any (fun w' => Blk w' w.heap.size 71 Z ∧ Blk w' (w.heap.size + 1) 74 Z ∧ Below w.heap.size w w' ∧ w'.heap.size = w.heap.size + 2) ⟨(Blk.new _ _ _).alloc _, blk_new' (by simp), ((Below.refl _ w).alloc (Nat.le_refl _) _).alloc (by simp) _, by simp⟩ ?_
 intro w1 h1
 have H1 := wall h1
 clear h1
 go_wp2_with fail
 (with_reducible refine (HNE.out _).mono ?_); rintro e w2 ⟨rfl, hB2⟩
 have HS2 := wall (show w.heap.size + 1 < w2.heap.size by have := hB2.size; have := H1.out.2.2.2; omega)
 have HO2 := wall (show Blk w2 w.heap.size 71 Z ∧ Blk w2 (w.heap.size + 1) 74 Z ∧ Below w.heap.size w w2 from ⟨H1.out.1.next hB2 rfl, H1.out.2.1.next hB2 rfl, below_then H1.out.2.2.1 hB2 (Nat.le_refl _)⟩)
 have HIN := wall (show (Tryz.prog.info? 71).map (·.size) = some N.size ∧ Z.size = N.size ∧ N.all (·.oneCell') = true ∧ (Tryz.prog.info? 74).map (·.size) = some N.size by
  rw [← hN, ← hZ, crC_size HN.out, crC_size crZ_ok]
  exact ⟨cr_info, rfl, crC_one _, ref_info⟩)
 clear hB2 H1 HNE
 try simp only [Act.put, rpA, rpB, rpC]
 have HA8 := wall (show Blk ((w2.alloc (.cells Z 71)).alloc (.cells Z 74)) w2.heap.size 71 Z ∧ Blk ((w2.alloc (.cells Z 71)).alloc (.cells Z 74)) (w2.heap.size + 1) 74 Z ∧ Below w2.heap.size w2 ((w2.alloc (.cells Z 71)).alloc (.cells Z 74)) from ⟨(Blk.new _ _ _).alloc _, blk_new' (by simp), ((Below.refl _ w2).alloc (Nat.le_refl _) _).alloc (by simp) _⟩)
 go_wp2_with (first | refine wpList_build_row rfl 74 [(1, .tmp 17)] rfl N HBR.out ?_ | refine Big.wpList_alloc_at rfl 71 rfl Z HZ.out w2.heap.size rfl ?_ | refine Big.wpList_alloc_at rfl 74 rfl Z HZR.out (w2.heap.size + 1) (by simp) ?_ | (refine wpList_set_row rfl 71 (.tmp 8) (.tmp 16) rfl w2.heap.size N rfl rfl 71 Z HA8.out.1 HIN.out.1 HIN.out.2.1 HIN.out.2.2.1 ?_; intro w4 K4 F4; have H4d := wall (HA8.out.2.1.frm F4.out (by simp)); have H4b := wall (Below.frm HA8.out.2.2 F4.out (Nat.le_refl _) (by simp))) | (refine wpList_set_row rfl 74 (.tmp 9) (.tmp 18) rfl (w2.heap.size + 1) N rfl rfl 74 Z H4d.out HIN.out.2.2.2 HIN.out.2.1 HIN.out.2.2.1 ?_; intro w5 K5 F5))
 have HFS := wall (show Fs w w5 w2.heap.size (w2.heap.size + 1) (newC pc) from by
  have h4 := K4.out.frm F5.out (by simp)
  have hb := Below.frm H4b.out F5.out (Nat.le_refl _) (by simp)
  refine ⟨?_, ?_, ?_, ?_, ?_, HS2.out, by omega⟩
  ·rw [hZ]; exact HO2.out.1.next hb rfl
  ·rw [hZ]; exact HO2.out.2.1.next hb rfl
  ·rw [hN]; exact h4
  ·rw [hN]; exact K5.out
  ·exact below_then HO2.out.2.2 hb (Nat.le_refl _))
 clear K4 F4 H4d H4b K5 F5 HA8 HIN HO2 HS2 HBR
 obtain ⟨g8, hg8⟩ : ∃ y, w2.heap.size = y := ⟨_, rfl⟩
 obtain ⟨g9, hg9⟩ : ∃ y, g8 + 1 = y := ⟨_, rfl⟩
 rw [hg8, hg9] at HFS
 rw [hg8, hg9]
 clear hg8 hg9
 go_loopg [21] len (fun g s21 wr => ∃ i : Nat, i + g = len ∧ s21 = .int .i64 (i : Int) ∧ Wall (Fs w wr g8 g9 (regs (newC pc) xs i)))
 case atStart => exact ⟨0, by omega, rfl, HFS⟩
 case round =>
  obtain ⟨i, hg, rfl, HF⟩ := hrel
  clear HFS
  have HGK := wall hg
  have hi : i ≤ len := by omega
  clear hg
  by_cases hlt : i < len
  ·have hlt' : (i : Int) < (len : Int) := by omega
   obtain ⟨x, hx⟩ : ∃ x, xs[i]? = some x := ⟨_, List.getElem?_eq_getElem (by rw [HL.out.1]; exact hlt)⟩
   obtain ⟨hxl, xb, xo, rfl, hxb, hxc⟩ := (HX.out.below HF.out.bel) i x hx
   have HCI := wall (regs_ok HN.out (fun j y hy => (HX.out j y hy).1) i)
   have HR := wall (show regs (newC pc) xs (i + 1) = if i < 31 then (regs (newC pc) xs i).set (i + 1) x else regs (newC pc) xs i by rw [regs, hx])
   have HXL := wall hxl
   obtain ⟨c', hc'⟩ : ∃ y, regs (newC pc) xs (i + 1) = y := ⟨_, rfl⟩
   have HC' := wall hc'
   rw [hc'] at HR
   obtain ⟨c, hc⟩ : ∃ y, regs (newC pc) xs i = y := ⟨_, rfl⟩
   rw [hc] at HF HCI HR
   clear hx hc hc'
   by_cases h31 : i < 31
   ·have HR1 := wall (show withC c (i + 1) x = c' by rw [HR.out, if_pos h31]; unfold withC; rw [if_pos (by omega)])
    have HRS := wall (show c' = c.set (i + 1) x by rw [HR.out, if_pos h31])
    have HCO := wall (show c'.Ok by rw [HRS.out]; exact HCI.out.set _ _ HXL.out)
    have HW := wall (fun W => with_any c HCI.out ((i : Int) + 1) (i + 1) x W (by simp) HXL.out)
    rw [HR1.out] at HW
    unfold CrOut at HW
    have i31 : (i : Int) < 31 := by omega
    have hi1 : i + 1 < 32 := by omega
    have HS6 := wall (show (Tryz.prog.info? 71).map (·.size) = some (crC c).size ∧ (Tryz.prog.info? 71).map (·.size) = some (crC c').size ∧ (crC c).size = (crC c').size ∧ (crC c').all (·.oneCell') = true from
     ⟨by rw [crC_size HCI.out]; exact cr_info, by rw [crC_size HCO.out]; exact cr_info, by rw [crC_size HCI.out, crC_size HCO.out], crC_one _⟩)
    have HD1 := wall HF.out.kc
    obtain ⟨D, hD⟩ : ∃ y, crC c = y := ⟨_, rfl⟩
    obtain ⟨D', hD'⟩ : ∃ y, crC c' = y := ⟨_, rfl⟩
    rw [hD] at HS6 HW HD1
    rw [hD'] at HS6 HW
    clear h31 HR HR1
    go_wp2_with (refine wpList_load_row rfl 71 _ rfl g8 rfl 71 D (0, 0) _ HD1.out Tryz.underlying71 rfl HS6.out.1 ?_)
    (with_reducible refine (HW.out _).mono ?_); rintro e w6 ⟨rfl, hB6⟩
    have HF6 := wall (HF.out.old hB6)
    have HD6 := wall (show Blk w6 g8 71 D by rw [← hD]; exact HF6.out.kc)
    clear hB6 HF HW HD1
    try simp only [Act.put, rpA, rpB, rpC]
    go_upto_region 7 with (refine wpList_set_row rfl 71 (.tmp 8) (.tmp 32) rfl g8 D' rfl rfl 71 D HD6.out HS6.out.2.1 HS6.out.2.2.1 HS6.out.2.2.2 ?_; intro w7 K7 F7)
    have h89 : g8 < g9 := HF6.out.h9
    have H7o := wall (HF6.out.o.frm F7.out (by have := HF6.out.h8; simp; omega))
    have H7p := wall (HF6.out.p.frm F7.out (by have := HF6.out.h8; simp; omega))
    have H7d := wall (show Blk w7 g9 74 (crC c) from HF6.out.kd.frm F7.out (by simp; omega))
    have H7b := wall (Below.frm HF6.out.bel F7.out (Nat.le_refl _) (by have := HF6.out.h8; simp; omega))
    have hkk : w7.cell? ⟨g9, i + 1, none⟩ = some (.int .u32 ((c.g (i + 1) : Nat) : Int)) := by
     rw [H7d.out.cell]
     show (crL c).toArray[i + 1]? = _
     rw [List.getElem?_toArray]
     exact crL_get HCI.out (by omega)
    have hfz : ∀ j, w7.frozen? ⟨g9, j, none⟩ = false := fun j => H7d.out.frozen j
    have H7h := wall (And.intro HF6.out.h8 HF6.out.h9)
    have K7' := wall (show Blk w7 g8 71 (crC c') by rw [hD']; exact K7.out)
    clear K7 F7 HF6 HD6
    go_wp2_with fail
    go_light
    have HFN := wall (show Fs w (w7.setCell ⟨g9, i + 1, none⟩ (.int .u32 (x : Int))) g8 g9 c' from by
     have hg8 := H7h.out.1
     refine ⟨H7o.out.far' _ _ (by simp; omega) _, H7p.out.far' _ _ (by simp; omega) _, K7'.out.far' _ _ (by simp; omega) _, ?_, H7b.out.setCell (p := ⟨g9, i + 1, none⟩) (by show w.heap.size ≤ g9; omega) _, H7h.out.1, H7h.out.2⟩
     have h := H7d.out.set (i + 1) (.int .u32 (x : Int))
     rw [crC_set HCI.out (by omega), ← HRS.out] at h
     exact h)
    go_roundg (len - (i + 1))
    case measure => have := HGK.out; omega
    case rel => exact ⟨i + 1, by have := HGK.out; omega, congrArg (Value.int .i64) (by have := HL.out.2; simp only [maxLen] at this; first | (unfold wrap64; omega) | omega), by rw [HC'.out]; exact HFN⟩
   ·have i31 : ¬ (i : Int) < 31 := by omega
    have HRS := wall (show c' = c by rw [HR.out, if_neg h31])
    go_wp2_with fail
    go_light
    go_roundg (len - (i + 1))
    case measure => have := HGK.out; omega
    case rel => exact ⟨i + 1, by have := HGK.out; omega, congrArg (Value.int .i64) (by have := HL.out.2; simp only [maxLen] at this; first | (unfold wrap64; omega) | omega), by rw [HC'.out, HRS.out]; exact HF⟩
  ·obtain rfl : i = len := by omega
   have HOK0 := wall (regs_ok HN.out (fun j y hy => (HX.out j y hy).1) i)
   obtain ⟨c0, hc0⟩ : ∃ y, regs (newC pc) xs i = y := ⟨_, rfl⟩
   have HC0 := wall hc0
   rw [hc0] at HF HOK0
   clear hc0
   have HF0 := HF
   clear HF
   obtain ⟨gO, rfl⟩ : ∃ q, q = gk := ⟨_, rfl⟩
   obtain ⟨w6, hw6⟩ : ∃ q, wr = q := ⟨_, rfl⟩
   rw [hw6] at HF0
   subst hw6
   go_wp2_with fail
   go_loopg [41] len2 (fun gg s41 wq => ∃ j : Nat, j + gg = len2 ∧ s41 = .int .i64 (j : Int) ∧ Wall (Fs w wq g8 g9 (csrs c0 ys j)))
   case atStart => exact ⟨0, by omega, rfl, HF0⟩
   case round =>
    obtain ⟨j, hg, rfl, HF⟩ := hrel
    clear HF0
    have HGK := wall hg
    have hj : j ≤ len2 := by omega
    clear hg
    by_cases hlt2 : j < len2
    ·have hlt2' : (j : Int) < (len2 : Int) := by omega
     obtain ⟨y, hy⟩ : ∃ y, ys[j]? = some y := ⟨_, List.getElem?_eq_getElem (by rw [HL2.out.1]; exact hlt2)⟩
     obtain ⟨hyl, yb, yo, rfl, hyb, hyc⟩ := (HY.out.below HF.out.bel) j y hy
     have HCI := wall (csrs_ok HOK0.out (fun k y hy => (HY.out k y hy).1) j)
     have HR := wall (show csrs c0 ys (j + 1) = if j < 8 then (csrS (csrs c0 ys j) (csrT.getD j 0) y).1 else csrs c0 ys j by rw [csrs, hy])
     have HYL := wall hyl
     obtain ⟨c', hc'⟩ : ∃ y, csrs c0 ys (j + 1) = y := ⟨_, rfl⟩
     have HC' := wall hc'
     rw [hc'] at HR
     obtain ⟨c, hc⟩ : ∃ y, csrs c0 ys j = y := ⟨_, rfl⟩
     rw [hc] at HF HCI HR
     clear hy hc hc'
     by_cases h8 : j < 8
     ·have h8' : (j : Int) < 8 := by omega
      obtain ⟨tt, htt⟩ : ∃ x, csrT.getD j 0 = x := ⟨_, rfl⟩
      have HR1 := wall (show c' = (csrS c tt y).1 by rw [HR.out, if_pos h8, htt])
      have HCO := wall (show c'.Ok by rw [HR1.out]; exact csrS_ok HCI.out _ _ HYL.out)
      have HW := wall (fun W => set_any c HCI.out tt y W HYL.out)
      have HV := wall (fun W => rset_any c HCI.out tt y W HYL.out)
      obtain ⟨pr, hpr⟩ : ∃ p, csrS c tt y = p := ⟨_, rfl⟩
      rw [hpr] at HW HV HR1
      obtain ⟨cx, bb⟩ := pr
      obtain rfl : c' = cx := HR1.out
      unfold SetO at HW
      unfold RSetO at HV
      have HS6 := wall (show (Tryz.prog.info? 71).map (·.size) = some (crC c).size ∧ (Tryz.prog.info? 74).map (·.size) = some (crC c).size ∧ (crC c).size = (crC c').size ∧ (crC c').all (·.oneCell') = true from
       ⟨by rw [crC_size HCI.out]; exact cr_info, by rw [crC_size HCI.out]; exact ref_info, by rw [crC_size HCI.out, crC_size HCO.out], crC_one _⟩)
      have HS7 := wall (show (Tryz.prog.info? 71).map (·.size) = some (crC c').size ∧ (Tryz.prog.info? 74).map (·.size) = some (crC c').size from
       ⟨by rw [crC_size HCO.out]; exact cr_info, by rw [crC_size HCO.out]; exact ref_info⟩)
      have HFW := wall (show Fs w (wr.alloc (.cells #[.int .u16 768, .int .u16 772, .int .u16 773, .int .u16 832, .int .u16 833, .int .u16 834, .int .u16 835, .int .u16 2816] 25)) g8 g9 c from HF.out.old ((Below.refl _ _).alloc (Nat.le_refl _) _))
      have kc : (wr.alloc (.cells #[.int .u16 768, .int .u16 772, .int .u16 773, .int .u16 832, .int .u16 833, .int .u16 834, .int .u16 835, .int .u16 2816] 25)).cell? ⟨wr.heap.size, j, none⟩ = some (.int .u16 ((tt : Nat) : Int)) := by
       have hbk : Blk (wr.alloc (.cells #[.int .u16 768, .int .u16 772, .int .u16 773, .int .u16 832, .int .u16 833, .int .u16 834, .int .u16 835, .int .u16 2816] 25)) wr.heap.size 25 (csrT.map fun x => Value.int .u16 ((x : Nat) : Int)).toArray := Blk.new _ _ _
       rw [hbk.cell, List.getElem?_toArray, List.getElem?_map, ← htt, List.getD_eq_getElem?_getD, List.getElem?_eq_getElem (show j < csrT.length from h8)]
       rfl
      clear htt hpr HR HF HR1
      go_upto_region 14 with fail
      clear kc hyc
      generalize (wr.alloc (.cells #[.int .u16 768, .int .u16 772, .int .u16 773, .int .u16 832, .int .u16 833, .int .u16 834, .int .u16 835, .int .u16 2816] 25)) = w6 at *
      have HK := wall (And.intro HFW.out.kc HFW.out.kd)
      have HH := wall (And.intro HFW.out.h8 HFW.out.h9)
      obtain ⟨D, hD⟩ : ∃ y, crC c = y := ⟨_, rfl⟩
      obtain ⟨D', hD'⟩ : ∃ y, crC c' = y := ⟨_, rfl⟩
      have HDD := wall (And.intro hD hD')
      rw [hD] at HS6 HW HV HK
      rw [hD'] at HS6 HS7 HW HV
      clear hD hD'
      go_wp2_with (refine wpList_load_row rfl 71 _ rfl g8 rfl 71 D (0, 0) _ HK.out.1 Tryz.underlying71 rfl HS6.out.1 ?_)
      (with_reducible refine (HW.out _).mono ?_); rintro e w7 ⟨rfl, hB7⟩
      have HF7 := wall (show Fs w w7 g8 g9 c ∧ Blk w7 g8 71 D ∧ Blk w7 g9 74 D from ⟨HFW.out.old hB7, by rw [← HDD.out.1]; exact (HFW.out.old hB7).kc, by rw [← HDD.out.1]; exact (HFW.out.old hB7).kd⟩)
      clear hB7 HFW HW HK
      try simp only [Act.put, rpA, rpB, rpC]
      go_upto_region 15 with (refine wpList_set_row rfl 71 (.tmp 8) (.tmp 57) rfl g8 D' rfl rfl 71 D HF7.out.2.1 HS7.out.1 HS6.out.2.2.1 HS6.out.2.2.2 ?_; intro w8 K8 F8)
      have h89 : g8 < g9 := HH.out.2
      have H8 := wall (show Blk w8 w.heap.size 71 (crC crZ) ∧ Blk w8 (w.heap.size + 1) 74 (crC crZ) ∧ Blk w8 g8 71 D' ∧ Blk w8 g9 74 D ∧ Below w.heap.size w w8 from
       ⟨HF7.out.1.o.frm F8.out (by have := HH.out.1; simp; omega), HF7.out.1.p.frm F8.out (by have := HH.out.1; simp; omega), K8.out, HF7.out.2.2.frm F8.out (by simp; omega), Below.frm HF7.out.1.bel F8.out (Nat.le_refl _) (by have := HH.out.1; simp; omega)⟩)
      clear K8 F8 HF7
      try simp only [Act.put, rpA, rpB, rpC]
      go_wp2_with (refine wpList_load_row rfl 74 _ rfl g9 rfl 74 D (0, 0) _ H8.out.2.2.2.1 Tryz.underlying74 rfl HS6.out.2.1 ?_)
      (with_reducible refine (HV.out _).mono ?_); rintro e w9 ⟨rfl, hB9⟩
      have H9 := wall (show Blk w9 w.heap.size 71 (crC crZ) ∧ Blk w9 (w.heap.size + 1) 74 (crC crZ) ∧ Blk w9 g8 71 D' ∧ Blk w9 g9 74 D ∧ Below w.heap.size w w9 from
       ⟨H8.out.1.next hB9 rfl, H8.out.2.1.next hB9 rfl, H8.out.2.2.1.next hB9 rfl, H8.out.2.2.2.1.next hB9 rfl, below_then H8.out.2.2.2.2 hB9 (Nat.le_refl _)⟩)
      clear hB9 H8 HV
      try simp only [Act.put, rpA, rpB, rpC]
      go_wp2_with (refine wpList_set_row rfl 74 (.tmp 9) (.tmp 64) rfl g9 D' rfl rfl 74 D H9.out.2.2.2.1 HS7.out.2 HS6.out.2.2.1 HS6.out.2.2.2 ?_; intro w5 K5 F5)
      have HFN := wall (show Fs w w5 g8 g9 c' from
       ⟨H9.out.1.frm F5.out (by have := HH.out.1; simp; omega), H9.out.2.1.frm F5.out (by have := HH.out.1; simp; omega), by rw [HDD.out.2]; exact H9.out.2.2.1.frm F5.out (by simp; omega), by rw [HDD.out.2]; exact K5.out, Below.frm H9.out.2.2.2.2 F5.out (Nat.le_refl _) (by have := HH.out.1; simp; omega), HH.out.1, HH.out.2⟩)
      clear K5 F5 H9
      go_light
      go_roundg (len2 - (j + 1))
      case measure => have := HGK.out; omega
      case rel => exact ⟨j + 1, by have := HGK.out; omega, congrArg (Value.int .i64) (by have := HL2.out.2; simp only [maxLen] at this; first | (unfold wrap64; omega) | omega), by rw [HC'.out]; exact HFN⟩
     ·have h8' : ¬ (j : Int) < 8 := by omega
      have HRS := wall (show c' = c by rw [HR.out, if_neg h8])
      go_wp2_with fail
      go_light
      go_roundg (len2 - (j + 1))
      case measure => have := HGK.out; omega
      case rel => exact ⟨j + 1, by have := HGK.out; omega, congrArg (Value.int .i64) (by have := HL2.out.2; simp only [maxLen] at this; first | (unfold wrap64; omega) | omega), by rw [HC'.out, HRS.out]; exact HF⟩
    ·obtain rfl : j = len2 := by omega
     have HOK := wall (csrs_ok HOK0.out (fun k y hy => (HY.out k y hy).1) j)
     have HED := wall (show csrs (regs (newC pc) xs i) ys j = csrs c0 ys j by rw [HC0.out])
     have HSZ := wall (show (Tryz.prog.info? 71).map (·.size) = some (crC (csrs c0 ys j)).size ∧ (Tryz.prog.info? 74).map (·.size) = some (crC (csrs c0 ys j)).size ∧ Z.size = (crC (csrs c0 ys j)).size ∧ (crC (csrs c0 ys j)).all (·.oneCell') = true from
      ⟨by rw [crC_size HOK.out]; exact cr_info, by rw [crC_size HOK.out]; exact ref_info, by rw [← hZ, crC_size HOK.out, crC_size crZ_ok], crC_one _⟩)
     have HFA := wall (show Blk wr w.heap.size 71 Z ∧ Blk wr (w.heap.size + 1) 74 Z from ⟨by rw [← hZ]; exact HF.out.o, by rw [← hZ]; exact HF.out.p⟩)
     obtain ⟨D, hD⟩ : ∃ y, crC (csrs c0 ys j) = y := ⟨_, rfl⟩
     have HD := wall hD
     have HKC := wall (show Blk wr g8 71 D ∧ Blk wr g9 74 D from ⟨by rw [← hD]; exact HF.out.kc, by rw [← hD]; exact HF.out.kd⟩)
     have HB := wall HF.out.bel
     have HH := wall (And.intro HF.out.h8 HF.out.h9)
     rw [hD] at HSZ
     clear hD HF
     go_wp2_with fail
     have hh1 := HH.out.1
     have hh2 := HH.out.2
     refine wp_two_rows (by kernel_rfl) (by kernel_rfl) rfl rfl rfl rfl rfl rfl 71 74 _ _ _ _ 67 68 (by decide) rfl rfl rfl rfl rfl rfl g8 g9 w.heap.size (w.heap.size + 1) D D 71 74 71 74 Z Z _ _ rfl rfl rfl rfl rfl rfl rfl rfl rfl rfl HKC.out.1 HKC.out.2 HFA.out.1 HFA.out.2 (by omega) (by omega) Tryz.underlying71 rfl HSZ.out.1 HSZ.out.2.2.1 HSZ.out.2.2.2 Tryz.underlying74 rfl HSZ.out.2.1 HSZ.out.2.2.1 HSZ.out.2.2.2 ?_
     intro w9 K8 K9 F9
     have K8' := wall K8
     have K9' := wall K9
     have HB9 := wall (Below.frm HB.out F9 (Nat.le_refl _) (by intro y hy; simp at hy; omega))
     clear K8 K9 F9
     try simp only [Act.put, rpA, rpB, rpC]
     go_wp2_with fail
     go_light
     exact bodyPost_ret (v := .tuple #[.agg D, .agg D]) (results_two Tryz.results27 _ _ w.heap.size (w.heap.size + 1) 71 74 D D _ _ rfl rfl K8'.out K9'.out Tryz.underlying71 rfl HSZ.out.1 Tryz.underlying74 rfl HSZ.out.2.1) rfl ⟨by rw [HED.out, HD.out], HB9.out⟩
end Core
end Go.Proofs.YtmiaabpnolebhaaGreatDoor
