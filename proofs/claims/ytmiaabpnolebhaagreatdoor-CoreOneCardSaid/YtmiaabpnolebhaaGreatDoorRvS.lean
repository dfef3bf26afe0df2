import Derived.Test.YtmiaabpnolebhaaGreatDoorRvR
import Derived.Test.YtmiaabpnolebhaaGreatDoorJ72f59b75
set_option maxRecDepth 100000
set_option maxHeartbeats 8000000
set_option linter.unusedSimpArgs false
set_option linter.unusedVariables false
namespace Go.Proofs.YtmiaabpnolebhaaGreatDoor
open Go.RowKit Go.Maps

namespace Rv
open Otp Sha R1
def refC (p c f3 f7 rd a b u ii is ib ij cs : Nat) : In :=
 if c = 55 then ⟨1, rd, 0, 0, u, 0⟩
 else if c = 23 then ⟨2, rd, 0, 0, u, 0⟩
 else if c = 111 then ⟨3, rd, 0, 0, ij, 0⟩
 else if c = 103 then (if f3 = 0 then ⟨4, rd, a, 0, ii, 0⟩ else zIn)
 else if c = 99 then nz ⟨rAt f3 [5, 6, 0, 0, 7, 8, 9, 10], 0, a, b, ib, 0⟩
 else if c = 3 then nz ⟨rAt f3 [11, 12, 13, 0, 14, 15], rd, a, 0, ii, 0⟩
 else if c = 35 then nz ⟨rAt f3 [16, 17, 18], 0, a, b, is, 0⟩
 else if c = 19 then
  (if f3 = 1 ∨ f3 = 5 then nz ⟨if f3 = 5 ∧ f7 = 32 then 27 else if f7 ≠ 0 then 0 else rAt f3 [19, 25, 20, 21, 22, 26, 23, 24], rd, a, 0, b, 0⟩
   else nz ⟨rAt f3 [19, 25, 20, 21, 22, 26, 23, 24], rd, a, 0, ii, 0⟩)
 else if c = 51 then nz ⟨if f7 = 0 then rAt f3 [28, 30, 31, 32, 33, 34, 36, 37] else if f7 = 1 then 49 + f3 else if f7 = 32 ∧ f3 = 0 then 29 else if f7 = 32 ∧ f3 = 5 then 35 else 0, rd, a, b, 0, 0⟩
 else if c = 15 then (if f3 = 0 then opIn 38 else zIn)
 else if c = 115 then
  (if f3 = 0 then opIn p
   else nz (if 4 < f3 then ⟨rAt f3 [0, 43, 44, 45, 0, 46, 47, 48], rd, 0, 0, a, cs⟩ else ⟨rAt f3 [0, 43, 44, 45, 0, 46, 47, 48], rd, a, 0, 0, cs⟩))
 else zIn
theorem ref_eq (v : Nat) : ref v = refC (plainN v) (cut v 0 7) (cut v 12 3) (cut v 25 7) (cut v 7 5) (cut v 15 5) (cut v 20 5) (v - v % 4096) (immI v) (immS v) (immB v) (immJ v) (cut v 20 12) := rfl
theorem inR_info : (Tryz.prog.info? 212).map (·.size) = some 6 := by kernel_rfl
def RefOut (i : In) (w : World) (e : Ending) (w' : World) : Prop := e = .returned (.agg (inC i)) ∧ Below w.heap.size w w'
theorem ref_leaf {R : In} {w w' : World} {tmps : Array Value} {i : In} (hR : R = i) (h1 : tmps.getD 2 undef = .pointer (some ⟨w.heap.size, 0, none⟩)) (hb : Blk w' w.heap.size 212 (inC i)) (hB : Below w.heap.size w w') :
  bodyPost Tryz.prog Tryz.f102 (RefOut R w) .ret ⟨tmps, []⟩ w' := by
 rw [hR]
 exact bodyPost_ret (v := .agg (inC i)) (results_cell_row Tryz.results102 tmps w' w.heap.size 212 (inC i) (0, 0) _ h1 hb Tryz.underlying212 rfl inR_info) rfl ⟨rfl, hB⟩
theorem blk_new_at (W : World) (n : Nat) (cs : Array Value) {t : TypeId} (h : n = W.heap.size) : Blk (W.alloc (.cells cs t)) n t cs := h ▸ Blk.new _ _ _
theorem wp_abs {P : Program} {c : Code} {Q : Exit → Act → World → Prop} {a : Act} {w' : World} (w : World) (g : Nat) (t : TypeId) (i : In) (C : Array Value) (h1 : Blk w' g t (inC i)) (h2 : Blk w' w.heap.size t C) (h3 : Below w.heap.size w w')
  (h : ∀ w8, Blk w8 g t (inC i) → Blk w8 w.heap.size t C → Below w.heap.size w w8 → Code.wp P c Q a w8) : Code.wp P c Q a w' := h w' h1 h2 h3
theorem refDecode_any (v : Nat) (vz : Int) (w : World) (e1 : vz = v) (hv : v < 4294967296) :
  Calls Tryz.prog 102 #[.int .u32 vz] w (RefOut (ref v) w) := by
 subst e1
 have HV := wall hv
 have HR := wall (ref_eq v)
 obtain ⟨R, hR⟩ : ∃ y, ref v = y := ⟨_, rfl⟩
 rw [hR] at HR ⊢
 have H3 := wall (fun W => cutR_any v 14 12 3 v 14 12 W rfl rfl rfl rfl (by decide) hv)
 have H7 := wall (fun W => cutR_any v 31 25 7 v 31 25 W rfl rfl rfl rfl (by decide) hv)
 have HD := wall (fun W => cutR_any v 11 7 5 v 11 7 W rfl rfl rfl rfl (by decide) hv)
 have HA := wall (fun W => cutR_any v 19 15 5 v 19 15 W rfl rfl rfl rfl (by decide) hv)
 have HB := wall (fun W => cutR_any v 24 20 5 v 24 20 W rfl rfl rfl rfl (by decide) hv)
 have HI := wall (fun W => cutR_any v 31 20 12 v 31 20 W rfl rfl rfl rfl (by decide) hv)
 have HC := wall (fun W => cutR_any v 6 0 7 v 6 0 W rfl rfl rfl rfl (by decide) hv)
 have HX := wall (fun W => extR12 (cut v 20 12) (cut v 20 12 : Nat) W rfl (cut_lt v 20 12))
 have HIM := wall (show immI v = ext (cut v 20 12) 12 by unfold immI; rw [show cut v 20 12 = v / 2 ^ 20 by unfold cut; omega])
 rw [← HIM.out] at HX
 have l1 := cut_lt v 7 5
 have l2 := cut_lt v 15 5
 have l3 := cut_lt v 20 5
 have l4 := cut_lt v 12 3
 have l5 := cut_lt v 25 7
 have l6 := cut_lt v 20 12
 have m1 : ((cut v 7 5 : Nat) : Int) % 256 = (cut v 7 5 : Nat) := by omega
 have m2 : ((cut v 15 5 : Nat) : Int) % 256 = (cut v 15 5 : Nat) := by omega
 have m3 : ((cut v 20 5 : Nat) : Int) % 256 = (cut v 20 5 : Nat) := by omega
 obtain ⟨c, h0⟩ : ∃ y, cut v 0 7 = y := ⟨_, rfl⟩
 obtain ⟨rd, h1⟩ : ∃ y, cut v 7 5 = y := ⟨_, rfl⟩
 obtain ⟨ra, h2⟩ : ∃ y, cut v 15 5 = y := ⟨_, rfl⟩
 obtain ⟨rb, h3⟩ : ∃ y, cut v 20 5 = y := ⟨_, rfl⟩
 obtain ⟨f3, h4⟩ : ∃ y, cut v 12 3 = y := ⟨_, rfl⟩
 obtain ⟨f7, h5⟩ : ∃ y, cut v 25 7 = y := ⟨_, rfl⟩
 obtain ⟨cs, h6⟩ : ∃ y, cut v 20 12 = y := ⟨_, rfl⟩
 obtain ⟨ii, h7⟩ : ∃ y, immI v = y := ⟨_, rfl⟩
 rw [h0] at HC
 rw [h1] at HD m1 l1
 rw [h2] at HA m2 l2
 rw [h3] at HB m3 l3
 rw [h4] at H3 l4
 rw [h5] at H7 l5
 rw [h6] at HI HX l6
 rw [h7] at HX
 rw [h0, h1, h2, h3, h4, h5, h6, h7] at HR
 clear hv hR HIM
 have HN := wall (And.intro h0 (And.intro h1 (And.intro h2 (And.intro h3 (And.intro h4 (And.intro h5 (And.intro h6 h7)))))))
 clear h0 h1 h2 h3 h4 h5 h6 h7
 have HL := wall (And.intro l1 (And.intro l2 (And.intro l3 (And.intro l4 (And.intro l5 l6)))))
 clear l1 l2 l3 l4 l5 l6
 go_enter Tryz.func102, Tryz.ntmps102
 go_upto_region 1 with fail
 obtain ⟨w1, hw1⟩ : ∃ W, W = w.alloc (.cells (inC zIn) 212) := ⟨_, rfl⟩
 have HK1 := wall (show Blk w1 w.heap.size 212 (inC zIn) by rw [hw1]; exact Blk.new _ _ _)
 have HB1 := wall (show Below w.heap.size w w1 by rw [hw1]; exact (Below.refl _ w).alloc (Nat.le_refl _) _)
 change Code.wp _ _ _ _ (w.alloc (.cells (inC zIn) 212))
 rw [← hw1]
 clear hw1
 go_wp2_with fail
 (with_reducible refine (H3.out _).mono ?_); rintro e W1 ⟨rfl, rfl⟩
 go_wp2_with fail
 (with_reducible refine (H7.out _).mono ?_); rintro e W1 ⟨rfl, rfl⟩
 go_wp2_with fail
 (with_reducible refine (HD.out _).mono ?_); rintro e W1 ⟨rfl, rfl⟩
 go_wp2_with fail
 (with_reducible refine (HA.out _).mono ?_); rintro e W1 ⟨rfl, rfl⟩
 go_wp2_with fail
 (with_reducible refine (HB.out _).mono ?_); rintro e W1 ⟨rfl, rfl⟩
 go_wp2_with fail
 (with_reducible refine (HI.out _).mono ?_); rintro e W1 ⟨rfl, rfl⟩
 go_wp2_with fail
 (with_reducible refine (HX.out _).mono ?_); rintro e W1 ⟨rfl, rfl⟩
 go_upto_region 5 with fail
 obtain ⟨w2, hw2⟩ : ∃ W, W = w1.alloc (.cells (inC zIn) 212) := ⟨_, rfl⟩
 have HK9 := wall (show Blk w2 w1.heap.size 212 (inC zIn) by rw [hw2]; exact Blk.new _ _ _)
 have HKZ := wall (show Blk w2 w.heap.size 212 (inC zIn) by rw [hw2]; exact HK1.out.alloc _)
 have HBB := wall (show Below w.heap.size w w2 by rw [hw2]; exact HB1.out.alloc (Nat.le_of_lt HK1.out.lt) _)
 have hne := HK1.out.lt
 obtain ⟨g, hg⟩ : ∃ g, w1.heap.size = g := ⟨_, rfl⟩
 change Code.wp _ _ _ _ (w1.alloc (.cells (inC zIn) 212))
 rw [← hw2]
 rw [hg] at HK9 hne ⊢
 have HKB := HK9
 clear hw2 hg HK1 HB1
 have hz0 : w2.cell? ⟨w.heap.size, 0, none⟩ = some (.int .u8 0) := HKZ.out.cell 0
 have hz1 : w2.cell? ⟨w.heap.size, 1, none⟩ = some (.int .u8 0) := HKZ.out.cell 1
 have hz2 : w2.cell? ⟨w.heap.size, 2, none⟩ = some (.int .u8 0) := HKZ.out.cell 2
 have hz3 : w2.cell? ⟨w.heap.size, 3, none⟩ = some (.int .u8 0) := HKZ.out.cell 3
 have hz4 : w2.cell? ⟨w.heap.size, 4, none⟩ = some (.int .u32 0) := HKZ.out.cell 4
 have hz5 : w2.cell? ⟨w.heap.size, 5, none⟩ = some (.int .u16 0) := HKZ.out.cell 5
 have hk0 : w2.cell? ⟨g, 0, none⟩ = some (.int .u8 0) := HK9.out.cell 0
 have hk1 : w2.cell? ⟨g, 1, none⟩ = some (.int .u8 0) := HK9.out.cell 1
 have hk2 : w2.cell? ⟨g, 2, none⟩ = some (.int .u8 0) := HK9.out.cell 2
 have hk3 : w2.cell? ⟨g, 3, none⟩ = some (.int .u8 0) := HK9.out.cell 3
 have hk4 : w2.cell? ⟨g, 4, none⟩ = some (.int .u32 0) := HK9.out.cell 4
 have hk5 : w2.cell? ⟨g, 5, none⟩ = some (.int .u16 0) := HK9.out.cell 5
 have hzf := HKZ.out.frozen
 have hkf := HK9.out.frozen
 have hzl := HKZ.out.lt
 have hkl := HK9.out.lt
 have hng : g ≠ w.heap.size := by omega
 have hgn : w.heap.size ≠ g := by omega
 go_wp2_with fail
 (with_reducible refine (HC.out _).mono ?_); rintro e W1 ⟨rfl, rfl⟩
 by_cases h55 : (c : Int) = 55
 ·skip
  have HQ := wall (show R = ⟨1, rd, 0, 0, v - v % 4096, 0⟩ by rw [HR.out]; unfold refC; (repeat (first | rw [if_pos (by omega)] | rw [if_neg (by omega)])); all_goals rfl)
  go_wp2_with fail
  have hvv := HV.out
  exact ref_leaf HQ.out rfl (Blk.to (by (repeat (first | with_reducible (first | exact HKB.out | exact HKZ.out | exact Blk.new _ _ _ | apply Blk.alloc | apply Blk.drewN | apply Blk.drew | apply Blk.set) | (with_reducible apply Blk.far'; rotate_left 1; (first | omega | (simp; done) | (simp; omega)); rotate_left 1)))) (by simp [inC, zIn]; omega)) (by (repeat' (first | with_reducible (first | exact HBB.out | refine Below.setCell ?_ ?_ _ | refine Below.alloc ?_ ?_ _ | refine Below.drew ?_ | refine below_drewN ?_ _ | exact Nat.le_refl _) | (simp; done) | (simp; omega) | omega)))
 ·skip
  by_cases h23 : (c : Int) = 23
  ·skip
   have HQ := wall (show R = ⟨2, rd, 0, 0, v - v % 4096, 0⟩ by rw [HR.out]; unfold refC; (repeat (first | rw [if_pos (by omega)] | rw [if_neg (by omega)])); all_goals rfl)
   go_wp2_with fail
   have hvv := HV.out
   exact ref_leaf HQ.out rfl (Blk.to (by (repeat (first | with_reducible (first | exact HKB.out | exact HKZ.out | exact Blk.new _ _ _ | apply Blk.alloc | apply Blk.drewN | apply Blk.drew | apply Blk.set) | (with_reducible apply Blk.far'; rotate_left 1; (first | omega | (simp; done) | (simp; omega)); rotate_left 1)))) (by simp [inC, zIn]; omega)) (by (repeat' (first | with_reducible (first | exact HBB.out | refine Below.setCell ?_ ?_ _ | refine Below.alloc ?_ ?_ _ | refine Below.drew ?_ | refine below_drewN ?_ _ | exact Nat.le_refl _) | (simp; done) | (simp; omega) | omega)))
  ·skip
   by_cases h111 : (c : Int) = 111
   ·skip
    have HUn1 := wall (fun W => cutR_any v 31 31 1 v 31 31 W rfl rfl rfl rfl (by decide) HV.out)
    have lun1 := cut_lt v 31 1
    obtain ⟨n1, hun1⟩ : ∃ y, cut v 31 1 = y := ⟨_, rfl⟩
    rw [hun1] at HUn1 lun1
    have HUn2 := wall (fun W => cutR_any v 19 12 8 v 19 12 W rfl rfl rfl rfl (by decide) HV.out)
    have lun2 := cut_lt v 12 8
    obtain ⟨n2, hun2⟩ : ∃ y, cut v 12 8 = y := ⟨_, rfl⟩
    rw [hun2] at HUn2 lun2
    have HUn3 := wall (fun W => cutR_any v 20 20 1 v 20 20 W rfl rfl rfl rfl (by decide) HV.out)
    have lun3 := cut_lt v 20 1
    obtain ⟨n3, hun3⟩ : ∃ y, cut v 20 1 = y := ⟨_, rfl⟩
    rw [hun3] at HUn3 lun3
    have HUn4 := wall (fun W => cutR_any v 30 21 10 v 30 21 W rfl rfl rfl rfl (by decide) HV.out)
    have lun4 := cut_lt v 21 10
    obtain ⟨n4, hun4⟩ : ∃ y, cut v 21 10 = y := ⟨_, rfl⟩
    rw [hun4] at HUn4 lun4
    have hij : immJ v = ext (n1 * 1048576 + n2 * 4096 + n3 * 2048 + n4 * 2) 21 := by rw [← hun1, ← hun2, ← hun3, ← hun4]; rfl
    have HXJ := wall (fun (z : Int) (W : World) (e : z = ((n1 * 1048576 + n2 * 4096 + n3 * 2048 + n4 * 2 : Nat) : Int)) => extR21 _ z W e (by omega))
    rw [← hij] at HXJ
    obtain ⟨ij, hj⟩ : ∃ y, immJ v = y := ⟨_, rfl⟩
    rw [hj] at HXJ HR
    have HQ := wall (show R = ⟨3, rd, 0, 0, ij, 0⟩ by rw [HR.out]; unfold refC; (repeat (first | rw [if_pos (by omega)] | rw [if_neg (by omega)])); all_goals rfl)
    clear hij hj hun1 hun2 hun3 hun4
    have HLU := wall (And.intro lun1 (And.intro lun2 (And.intro lun3 lun4)))
    clear lun1 lun2 lun3 lun4
    go_wp2_with fail
    (with_reducible refine (HUn1.out _).mono ?_); rintro e W1 ⟨rfl, rfl⟩
    go_wp2_with fail
    (with_reducible refine (HUn2.out _).mono ?_); rintro e W1 ⟨rfl, rfl⟩
    go_wp2_with fail
    (with_reducible refine (HUn3.out _).mono ?_); rintro e W1 ⟨rfl, rfl⟩
    go_wp2_with fail
    (with_reducible refine (HUn4.out _).mono ?_); rintro e W1 ⟨rfl, rfl⟩
    go_wp2_with fail
    (with_reducible refine (HXJ.out _ _ (by have := HLU.out; omega)).mono ?_); rintro e W1 ⟨rfl, rfl⟩
    go_wp2_with fail
    exact ref_leaf HQ.out rfl (Blk.to (by (repeat (first | with_reducible (first | exact HKB.out | exact HKZ.out | exact Blk.new _ _ _ | apply Blk.alloc | apply Blk.drewN | apply Blk.drew | apply Blk.set) | (with_reducible apply Blk.far'; rotate_left 1; (first | omega | (simp; done) | (simp; omega)); rotate_left 1)))) (by simp [inC, zIn])) (by (repeat' (first | with_reducible (first | exact HBB.out | refine Below.setCell ?_ ?_ _ | refine Below.alloc ?_ ?_ _ | refine Below.drew ?_ | refine below_drewN ?_ _ | exact Nat.le_refl _) | (simp; done) | (simp; omega) | omega)))
   ·skip
    by_cases h103 : (c : Int) = 103
    ·skip
     by_cases f0 : (f3 : Int) = 0
     ·skip
      have HQ := wall (show R = nz ⟨4, rd, ra, 0, ii, 0⟩ by rw [HR.out]; unfold refC; (repeat (first | rw [if_pos (by omega)] | rw [if_neg (by omega)])); all_goals rfl)
      go_upto_region 48 with fail
      refine wp_abs w g 212 ⟨4, rd, ra, 0, ii, 0⟩ (inC zIn) (Blk.to (by (repeat (first | with_reducible (first | exact HKB.out | exact HKZ.out | exact Blk.new _ _ _ | apply Blk.alloc | apply Blk.drewN | apply Blk.drew | apply Blk.set) | (with_reducible apply Blk.far'; rotate_left 1; (first | omega | (simp; done) | (simp; omega)); rotate_left 1)))) (by simp [inC, zIn, opIn] <;> omega)) (by (repeat (first | with_reducible (first | exact HKB.out | exact HKZ.out | exact Blk.new _ _ _ | apply Blk.alloc | apply Blk.drewN | apply Blk.drew | apply Blk.set) | (with_reducible apply Blk.far'; rotate_left 1; (first | omega | (simp; done) | (simp; omega)); rotate_left 1)))) (by (repeat' (first | with_reducible (first | exact HBB.out | refine Below.setCell ?_ ?_ _ | refine Below.alloc ?_ ?_ _ | refine Below.drew ?_ | refine below_drewN ?_ _ | exact Nat.le_refl _) | (simp; done) | (simp; omega) | omega))) ?_
      intro w8 hb8 hz8 hB8
      obtain ⟨I, hI⟩ : ∃ y, (⟨4, rd, ra, 0, ii, 0⟩ : In) = y := ⟨_, rfl⟩
      rw [hI] at hb8 HQ
      have HK8 := wall hb8
      have HZ8 := wall hz8
      have hbb8 := wall hB8
      have yz0 : w8.cell? ⟨w.heap.size, 0, none⟩ = some (.int .u8 0) := hz8.cell 0
      have yz1 : w8.cell? ⟨w.heap.size, 1, none⟩ = some (.int .u8 0) := hz8.cell 1
      have yz2 : w8.cell? ⟨w.heap.size, 2, none⟩ = some (.int .u8 0) := hz8.cell 2
      have yz3 : w8.cell? ⟨w.heap.size, 3, none⟩ = some (.int .u8 0) := hz8.cell 3
      have yz4 : w8.cell? ⟨w.heap.size, 4, none⟩ = some (.int .u32 0) := hz8.cell 4
      have yz5 : w8.cell? ⟨w.heap.size, 5, none⟩ = some (.int .u16 0) := hz8.cell 5
      have yk0 : w8.cell? ⟨g, 0, none⟩ = some (.int .u8 (I.op : Int)) := hb8.cell 0
      have yzf := hz8.frozen
      have yzl := hz8.lt
      clear hb8 hz8 hB8 hI HKB HKZ HBB
      have HKB := HZ8
      have HKZ := HZ8
      have HBB := hbb8
      by_cases h0 : (I.op : Int) = 0
      ·have HQ2 := wall (show R = zIn by rw [HQ.out]; unfold nz; rw [if_pos (by omega)])
       go_wp2_with fail
       exact ref_leaf HQ2.out rfl (Blk.to (by repeat with_reducible (first | exact HKB.out | apply Blk.set)) (by simp [inC, zIn])) (by repeat' (first | with_reducible (first | exact HBB.out | refine Below.setCell ?_ ?_ _ | exact Nat.le_refl _) | (simp; done)))
      ·have HQ2 := wall (show R = I by rw [HQ.out]; unfold nz; rw [if_neg (by omega)])
       go_wp2_with (refine wpList_load_row rfl 212 _ rfl g rfl 212 #[.int .u8 (I.op : Int), .int .u8 (I.rd : Int), .int .u8 (I.a : Int), .int .u8 (I.b : Int), .int .u32 (I.imm : Int), .int .u16 (I.csr : Int)] (0, 0) _ HK8.out Tryz.underlying212 rfl inR_info ?_)
       exact ref_leaf HQ2.out rfl (Blk.to (by repeat with_reducible (first | exact HKB.out | apply Blk.set)) (by simp [inC, zIn])) (by repeat' (first | with_reducible (first | exact HBB.out | refine Below.setCell ?_ ?_ _ | exact Nat.le_refl _) | (simp; done)))
     ·skip
      have HQ := wall (show R = nz zIn by rw [HR.out]; unfold refC; (repeat (first | rw [if_pos (by omega)] | rw [if_neg (by omega)])); all_goals rfl)
      go_upto_region 48 with fail
      refine wp_abs w g 212 zIn (inC zIn) (Blk.to (by (repeat (first | with_reducible (first | exact HKB.out | exact HKZ.out | exact Blk.new _ _ _ | apply Blk.alloc | apply Blk.drewN | apply Blk.drew | apply Blk.set) | (with_reducible apply Blk.far'; rotate_left 1; (first | omega | (simp; done) | (simp; omega)); rotate_left 1)))) (by simp [inC, zIn, opIn] <;> omega)) (by (repeat (first | with_reducible (first | exact HKB.out | exact HKZ.out | exact Blk.new _ _ _ | apply Blk.alloc | apply Blk.drewN | apply Blk.drew | apply Blk.set) | (with_reducible apply Blk.far'; rotate_left 1; (first | omega | (simp; done) | (simp; omega)); rotate_left 1)))) (by (repeat' (first | with_reducible (first | exact HBB.out | refine Below.setCell ?_ ?_ _ | refine Below.alloc ?_ ?_ _ | refine Below.drew ?_ | refine below_drewN ?_ _ | exact Nat.le_refl _) | (simp; done) | (simp; omega) | omega))) ?_
      intro w8 hb8 hz8 hB8
      obtain ⟨I, hI⟩ : ∃ y, (zIn : In) = y := ⟨_, rfl⟩
      rw [hI] at hb8 HQ
      have HK8 := wall hb8
      have HZ8 := wall hz8
      have hbb8 := wall hB8
      have yz0 : w8.cell? ⟨w.heap.size, 0, none⟩ = some (.int .u8 0) := hz8.cell 0
      have yz1 : w8.cell? ⟨w.heap.size, 1, none⟩ = some (.int .u8 0) := hz8.cell 1
      have yz2 : w8.cell? ⟨w.heap.size, 2, none⟩ = some (.int .u8 0) := hz8.cell 2
      have yz3 : w8.cell? ⟨w.heap.size, 3, none⟩ = some (.int .u8 0) := hz8.cell 3
      have yz4 : w8.cell? ⟨w.heap.size, 4, none⟩ = some (.int .u32 0) := hz8.cell 4
      have yz5 : w8.cell? ⟨w.heap.size, 5, none⟩ = some (.int .u16 0) := hz8.cell 5
      have yk0 : w8.cell? ⟨g, 0, none⟩ = some (.int .u8 (I.op : Int)) := hb8.cell 0
      have yzf := hz8.frozen
      have yzl := hz8.lt
      clear hb8 hz8 hB8 hI HKB HKZ HBB
      have HKB := HZ8
      have HKZ := HZ8
      have HBB := hbb8
      by_cases h0 : (I.op : Int) = 0
      ·have HQ2 := wall (show R = zIn by rw [HQ.out]; unfold nz; rw [if_pos (by omega)])
       go_wp2_with fail
       exact ref_leaf HQ2.out rfl (Blk.to (by repeat with_reducible (first | exact HKB.out | apply Blk.set)) (by simp [inC, zIn])) (by repeat' (first | with_reducible (first | exact HBB.out | refine Below.setCell ?_ ?_ _ | exact Nat.le_refl _) | (simp; done)))
      ·have HQ2 := wall (show R = I by rw [HQ.out]; unfold nz; rw [if_neg (by omega)])
       go_wp2_with (refine wpList_load_row rfl 212 _ rfl g rfl 212 #[.int .u8 (I.op : Int), .int .u8 (I.rd : Int), .int .u8 (I.a : Int), .int .u8 (I.b : Int), .int .u32 (I.imm : Int), .int .u16 (I.csr : Int)] (0, 0) _ HK8.out Tryz.underlying212 rfl inR_info ?_)
       exact ref_leaf HQ2.out rfl (Blk.to (by repeat with_reducible (first | exact HKB.out | apply Blk.set)) (by simp [inC, zIn])) (by repeat' (first | with_reducible (first | exact HBB.out | refine Below.setCell ?_ ?_ _ | exact Nat.le_refl _) | (simp; done)))
    ·skip
     by_cases h99 : (c : Int) = 99
     ·skip
      obtain ⟨o, ho⟩ : ∃ y, rAt f3 [5, 6, 0, 0, 7, 8, 9, 10] = y := ⟨_, rfl⟩
      have HAT := wall (fun (b : Nat) (W : World) (h : Blk W b 5 #[.int .u8 5, .int .u8 6, .int .u8 0, .int .u8 0, .int .u8 7, .int .u8 8, .int .u8 9, .int .u8 10]) => (show Calls Tryz.prog 182 #[.int .u32 (f3 : Int), .slice (some ⟨b, 0, none⟩) 8 8] W (fun e w' => e = .returned (.int .u8 (o : Int)) ∧ W = w') from ho ▸ at_any f3 b f3 [5, 6, 0, 0, 7, 8, 9, 10] W rfl HL.out.2.2.2.1 (by decide) h))
      have HUn1 := wall (fun W => cutR_any v 31 31 1 v 31 31 W rfl rfl rfl rfl (by decide) HV.out)
      have lun1 := cut_lt v 31 1
      obtain ⟨n1, hun1⟩ : ∃ y, cut v 31 1 = y := ⟨_, rfl⟩
      rw [hun1] at HUn1 lun1
      have HUn2 := wall (fun W => cutR_any v 7 7 1 v 7 7 W rfl rfl rfl rfl (by decide) HV.out)
      have lun2 := cut_lt v 7 1
      obtain ⟨n2, hun2⟩ : ∃ y, cut v 7 1 = y := ⟨_, rfl⟩
      rw [hun2] at HUn2 lun2
      have HUn3 := wall (fun W => cutR_any v 30 25 6 v 30 25 W rfl rfl rfl rfl (by decide) HV.out)
      have lun3 := cut_lt v 25 6
      obtain ⟨n3, hun3⟩ : ∃ y, cut v 25 6 = y := ⟨_, rfl⟩
      rw [hun3] at HUn3 lun3
      have HUn4 := wall (fun W => cutR_any v 11 8 4 v 11 8 W rfl rfl rfl rfl (by decide) HV.out)
      have lun4 := cut_lt v 8 4
      obtain ⟨n4, hun4⟩ : ∃ y, cut v 8 4 = y := ⟨_, rfl⟩
      rw [hun4] at HUn4 lun4
      have hij : immB v = ext (n1 * 4096 + n2 * 2048 + n3 * 32 + n4 * 2) 13 := by rw [← hun1, ← hun2, ← hun3, ← hun4]; rfl
      have HXJ := wall (fun (z : Int) (W : World) (e : z = ((n1 * 4096 + n2 * 2048 + n3 * 32 + n4 * 2 : Nat) : Int)) => extR13 _ z W e (by omega))
      rw [← hij] at HXJ
      obtain ⟨ib, hj⟩ : ∃ y, immB v = y := ⟨_, rfl⟩
      rw [hj] at HXJ HR
      have HR2 := HR.out
      unfold refC at HR2
      rw [ho] at HR2
      have HR := wall HR2
      clear HR2
      have HQ := wall (show R = nz ⟨o, 0, ra, rb, ib, 0⟩ by rw [HR.out]; (repeat (first | rw [if_pos (by omega)] | rw [if_neg (by omega)])))
      clear hij hj hun1 hun2 hun3 hun4 ho
      have HLU := wall (And.intro lun1 (And.intro lun2 (And.intro lun3 lun4)))
      clear lun1 lun2 lun3 lun4
      go_wp2_with fail
      (with_reducible refine (HAT.out w2.heap.size _ (blk_new_at _ _ _ (by simp))).mono ?_); rintro e W1 ⟨rfl, rfl⟩
      go_wp2_with fail
      (with_reducible refine (HUn1.out _).mono ?_); rintro e W1 ⟨rfl, rfl⟩
      go_wp2_with fail
      (with_reducible refine (HUn2.out _).mono ?_); rintro e W1 ⟨rfl, rfl⟩
      go_wp2_with fail
      (with_reducible refine (HUn3.out _).mono ?_); rintro e W1 ⟨rfl, rfl⟩
      go_wp2_with fail
      (with_reducible refine (HUn4.out _).mono ?_); rintro e W1 ⟨rfl, rfl⟩
      go_wp2_with fail
      (with_reducible refine (HXJ.out _ _ (by have := HLU.out; omega)).mono ?_); rintro e W1 ⟨rfl, rfl⟩
      go_upto_region 48 with fail
      refine wp_abs w g 212 ⟨o, 0, ra, rb, ib, 0⟩ (inC zIn) (Blk.to (by (repeat (first | with_reducible (first | exact HKB.out | exact HKZ.out | exact Blk.new _ _ _ | apply Blk.alloc | apply Blk.drewN | apply Blk.drew | apply Blk.set) | (with_reducible apply Blk.far'; rotate_left 1; (first | omega | (simp; done) | (simp; omega)); rotate_left 1)))) (by simp [inC, zIn, opIn] <;> omega)) (by (repeat (first | with_reducible (first | exact HKB.out | exact HKZ.out | exact Blk.new _ _ _ | apply Blk.alloc | apply Blk.drewN | apply Blk.drew | apply Blk.set) | (with_reducible apply Blk.far'; rotate_left 1; (first | omega | (simp; done) | (simp; omega)); rotate_left 1)))) (by (repeat' (first | with_reducible (first | exact HBB.out | refine Below.setCell ?_ ?_ _ | refine Below.alloc ?_ ?_ _ | refine Below.drew ?_ | refine below_drewN ?_ _ | exact Nat.le_refl _) | (simp; done) | (simp; omega) | omega))) ?_
      intro w8 hb8 hz8 hB8
      obtain ⟨I, hI⟩ : ∃ y, (⟨o, 0, ra, rb, ib, 0⟩ : In) = y := ⟨_, rfl⟩
      rw [hI] at hb8 HQ
      have HK8 := wall hb8
      have HZ8 := wall hz8
      have hbb8 := wall hB8
      have yz0 : w8.cell? ⟨w.heap.size, 0, none⟩ = some (.int .u8 0) := hz8.cell 0
      have yz1 : w8.cell? ⟨w.heap.size, 1, none⟩ = some (.int .u8 0) := hz8.cell 1
      have yz2 : w8.cell? ⟨w.heap.size, 2, none⟩ = some (.int .u8 0) := hz8.cell 2
      have yz3 : w8.cell? ⟨w.heap.size, 3, none⟩ = some (.int .u8 0) := hz8.cell 3
      have yz4 : w8.cell? ⟨w.heap.size, 4, none⟩ = some (.int .u32 0) := hz8.cell 4
      have yz5 : w8.cell? ⟨w.heap.size, 5, none⟩ = some (.int .u16 0) := hz8.cell 5
      have yk0 : w8.cell? ⟨g, 0, none⟩ = some (.int .u8 (I.op : Int)) := hb8.cell 0
      have yzf := hz8.frozen
      have yzl := hz8.lt
      clear hb8 hz8 hB8 hI HKB HKZ HBB
      have HKB := HZ8
      have HKZ := HZ8
      have HBB := hbb8
      by_cases h0 : (I.op : Int) = 0
      ·have HQ2 := wall (show R = zIn by rw [HQ.out]; unfold nz; rw [if_pos (by omega)])
       go_wp2_with fail
       exact ref_leaf HQ2.out rfl (Blk.to (by repeat with_reducible (first | exact HKB.out | apply Blk.set)) (by simp [inC, zIn])) (by repeat' (first | with_reducible (first | exact HBB.out | refine Below.setCell ?_ ?_ _ | exact Nat.le_refl _) | (simp; done)))
      ·have HQ2 := wall (show R = I by rw [HQ.out]; unfold nz; rw [if_neg (by omega)])
       go_wp2_with (refine wpList_load_row rfl 212 _ rfl g rfl 212 #[.int .u8 (I.op : Int), .int .u8 (I.rd : Int), .int .u8 (I.a : Int), .int .u8 (I.b : Int), .int .u32 (I.imm : Int), .int .u16 (I.csr : Int)] (0, 0) _ HK8.out Tryz.underlying212 rfl inR_info ?_)
       exact ref_leaf HQ2.out rfl (Blk.to (by repeat with_reducible (first | exact HKB.out | apply Blk.set)) (by simp [inC, zIn])) (by repeat' (first | with_reducible (first | exact HBB.out | refine Below.setCell ?_ ?_ _ | exact Nat.le_refl _) | (simp; done)))
     ·skip
      by_cases h3 : (c : Int) = 3
      ·skip
       obtain ⟨o, ho⟩ : ∃ y, rAt f3 [11, 12, 13, 0, 14, 15] = y := ⟨_, rfl⟩
       have HAT := wall (fun (b : Nat) (W : World) (h : Blk W b 5 #[.int .u8 11, .int .u8 12, .int .u8 13, .int .u8 0, .int .u8 14, .int .u8 15]) => (show Calls Tryz.prog 182 #[.int .u32 (f3 : Int), .slice (some ⟨b, 0, none⟩) 6 6] W (fun e w' => e = .returned (.int .u8 (o : Int)) ∧ W = w') from ho ▸ at_any f3 b f3 [11, 12, 13, 0, 14, 15] W rfl HL.out.2.2.2.1 (by decide) h))
       have HQ := wall (show R = nz ⟨o, rd, ra, 0, ii, 0⟩ by rw [HR.out]; unfold refC; (repeat (first | rw [if_pos (by omega)] | rw [if_neg (by omega)])); all_goals rw [ho])
       clear ho
       go_wp2_with fail
       (with_reducible refine (HAT.out w2.heap.size _ (blk_new_at _ _ _ (by simp))).mono ?_); rintro e W1 ⟨rfl, rfl⟩
       go_upto_region 48 with fail
       refine wp_abs w g 212 ⟨o, rd, ra, 0, ii, 0⟩ (inC zIn) (Blk.to (by (repeat (first | with_reducible (first | exact HKB.out | exact HKZ.out | exact Blk.new _ _ _ | apply Blk.alloc | apply Blk.drewN | apply Blk.drew | apply Blk.set) | (with_reducible apply Blk.far'; rotate_left 1; (first | omega | (simp; done) | (simp; omega)); rotate_left 1)))) (by simp [inC, zIn, opIn] <;> omega)) (by (repeat (first | with_reducible (first | exact HKB.out | exact HKZ.out | exact Blk.new _ _ _ | apply Blk.alloc | apply Blk.drewN | apply Blk.drew | apply Blk.set) | (with_reducible apply Blk.far'; rotate_left 1; (first | omega | (simp; done) | (simp; omega)); rotate_left 1)))) (by (repeat' (first | with_reducible (first | exact HBB.out | refine Below.setCell ?_ ?_ _ | refine Below.alloc ?_ ?_ _ | refine Below.drew ?_ | refine below_drewN ?_ _ | exact Nat.le_refl _) | (simp; done) | (simp; omega) | omega))) ?_
       intro w8 hb8 hz8 hB8
       obtain ⟨I, hI⟩ : ∃ y, (⟨o, rd, ra, 0, ii, 0⟩ : In) = y := ⟨_, rfl⟩
       rw [hI] at hb8 HQ
       have HK8 := wall hb8
       have HZ8 := wall hz8
       have hbb8 := wall hB8
       have yz0 : w8.cell? ⟨w.heap.size, 0, none⟩ = some (.int .u8 0) := hz8.cell 0
       have yz1 : w8.cell? ⟨w.heap.size, 1, none⟩ = some (.int .u8 0) := hz8.cell 1
       have yz2 : w8.cell? ⟨w.heap.size, 2, none⟩ = some (.int .u8 0) := hz8.cell 2
       have yz3 : w8.cell? ⟨w.heap.size, 3, none⟩ = some (.int .u8 0) := hz8.cell 3
       have yz4 : w8.cell? ⟨w.heap.size, 4, none⟩ = some (.int .u32 0) := hz8.cell 4
       have yz5 : w8.cell? ⟨w.heap.size, 5, none⟩ = some (.int .u16 0) := hz8.cell 5
       have yk0 : w8.cell? ⟨g, 0, none⟩ = some (.int .u8 (I.op : Int)) := hb8.cell 0
       have yzf := hz8.frozen
       have yzl := hz8.lt
       clear hb8 hz8 hB8 hI HKB HKZ HBB
       have HKB := HZ8
       have HKZ := HZ8
       have HBB := hbb8
       by_cases h0 : (I.op : Int) = 0
       ·have HQ2 := wall (show R = zIn by rw [HQ.out]; unfold nz; rw [if_pos (by omega)])
        go_wp2_with fail
        exact ref_leaf HQ2.out rfl (Blk.to (by repeat with_reducible (first | exact HKB.out | apply Blk.set)) (by simp [inC, zIn])) (by repeat' (first | with_reducible (first | exact HBB.out | refine Below.setCell ?_ ?_ _ | exact Nat.le_refl _) | (simp; done)))
       ·have HQ2 := wall (show R = I by rw [HQ.out]; unfold nz; rw [if_neg (by omega)])
        go_wp2_with (refine wpList_load_row rfl 212 _ rfl g rfl 212 #[.int .u8 (I.op : Int), .int .u8 (I.rd : Int), .int .u8 (I.a : Int), .int .u8 (I.b : Int), .int .u32 (I.imm : Int), .int .u16 (I.csr : Int)] (0, 0) _ HK8.out Tryz.underlying212 rfl inR_info ?_)
        exact ref_leaf HQ2.out rfl (Blk.to (by repeat with_reducible (first | exact HKB.out | apply Blk.set)) (by simp [inC, zIn])) (by repeat' (first | with_reducible (first | exact HBB.out | refine Below.setCell ?_ ?_ _ | exact Nat.le_refl _) | (simp; done)))
      ·skip
       by_cases h35 : (c : Int) = 35
       ·skip
        obtain ⟨o, ho⟩ : ∃ y, rAt f3 [16, 17, 18] = y := ⟨_, rfl⟩
        have HAT := wall (fun (b : Nat) (W : World) (h : Blk W b 5 #[.int .u8 16, .int .u8 17, .int .u8 18]) => (show Calls Tryz.prog 182 #[.int .u32 (f3 : Int), .slice (some ⟨b, 0, none⟩) 3 3] W (fun e w' => e = .returned (.int .u8 (o : Int)) ∧ W = w') from ho ▸ at_any f3 b f3 [16, 17, 18] W rfl HL.out.2.2.2.1 (by decide) h))
        have hij : immS v = ext (f7 * 32 + rd) 12 := by rw [← HN.out.2.1, ← HN.out.2.2.2.2.2.1]; rfl
        have HXJ := wall (fun (z : Int) (W : World) (e : z = ((f7 * 32 + rd : Nat) : Int)) => extR12 _ z W e (by have := HL.out; omega))
        rw [← hij] at HXJ
        obtain ⟨is, hj⟩ : ∃ y, immS v = y := ⟨_, rfl⟩
        rw [hj] at HXJ HR
        have HQ := wall (show R = nz ⟨o, 0, ra, rb, is, 0⟩ by rw [HR.out]; unfold refC; (repeat (first | rw [if_pos (by omega)] | rw [if_neg (by omega)])); all_goals rw [ho])
        clear hij hj ho
        go_wp2_with fail
        (with_reducible refine (HAT.out w2.heap.size _ (blk_new_at _ _ _ (by simp))).mono ?_); rintro e W1 ⟨rfl, rfl⟩
        go_wp2_with fail
        (with_reducible refine (HXJ.out _ _ (by have := HL.out; omega)).mono ?_); rintro e W1 ⟨rfl, rfl⟩
        go_upto_region 48 with fail
        refine wp_abs w g 212 ⟨o, 0, ra, rb, is, 0⟩ (inC zIn) (Blk.to (by (repeat (first | with_reducible (first | exact HKB.out | exact HKZ.out | exact Blk.new _ _ _ | apply Blk.alloc | apply Blk.drewN | apply Blk.drew | apply Blk.set) | (with_reducible apply Blk.far'; rotate_left 1; (first | omega | (simp; done) | (simp; omega)); rotate_left 1)))) (by simp [inC, zIn, opIn] <;> omega)) (by (repeat (first | with_reducible (first | exact HKB.out | exact HKZ.out | exact Blk.new _ _ _ | apply Blk.alloc | apply Blk.drewN | apply Blk.drew | apply Blk.set) | (with_reducible apply Blk.far'; rotate_left 1; (first | omega | (simp; done) | (simp; omega)); rotate_left 1)))) (by (repeat' (first | with_reducible (first | exact HBB.out | refine Below.setCell ?_ ?_ _ | refine Below.alloc ?_ ?_ _ | refine Below.drew ?_ | refine below_drewN ?_ _ | exact Nat.le_refl _) | (simp; done) | (simp; omega) | omega))) ?_
        intro w8 hb8 hz8 hB8
        obtain ⟨I, hI⟩ : ∃ y, (⟨o, 0, ra, rb, is, 0⟩ : In) = y := ⟨_, rfl⟩
        rw [hI] at hb8 HQ
        have HK8 := wall hb8
        have HZ8 := wall hz8
        have hbb8 := wall hB8
        have yz0 : w8.cell? ⟨w.heap.size, 0, none⟩ = some (.int .u8 0) := hz8.cell 0
        have yz1 : w8.cell? ⟨w.heap.size, 1, none⟩ = some (.int .u8 0) := hz8.cell 1
        have yz2 : w8.cell? ⟨w.heap.size, 2, none⟩ = some (.int .u8 0) := hz8.cell 2
        have yz3 : w8.cell? ⟨w.heap.size, 3, none⟩ = some (.int .u8 0) := hz8.cell 3
        have yz4 : w8.cell? ⟨w.heap.size, 4, none⟩ = some (.int .u32 0) := hz8.cell 4
        have yz5 : w8.cell? ⟨w.heap.size, 5, none⟩ = some (.int .u16 0) := hz8.cell 5
        have yk0 : w8.cell? ⟨g, 0, none⟩ = some (.int .u8 (I.op : Int)) := hb8.cell 0
        have yzf := hz8.frozen
        have yzl := hz8.lt
        clear hb8 hz8 hB8 hI HKB HKZ HBB
        have HKB := HZ8
        have HKZ := HZ8
        have HBB := hbb8
        by_cases h0 : (I.op : Int) = 0
        ·have HQ2 := wall (show R = zIn by rw [HQ.out]; unfold nz; rw [if_pos (by omega)])
         go_wp2_with fail
         exact ref_leaf HQ2.out rfl (Blk.to (by repeat with_reducible (first | exact HKB.out | apply Blk.set)) (by simp [inC, zIn])) (by repeat' (first | with_reducible (first | exact HBB.out | refine Below.setCell ?_ ?_ _ | exact Nat.le_refl _) | (simp; done)))
        ·have HQ2 := wall (show R = I by rw [HQ.out]; unfold nz; rw [if_neg (by omega)])
         go_wp2_with (refine wpList_load_row rfl 212 _ rfl g rfl 212 #[.int .u8 (I.op : Int), .int .u8 (I.rd : Int), .int .u8 (I.a : Int), .int .u8 (I.b : Int), .int .u32 (I.imm : Int), .int .u16 (I.csr : Int)] (0, 0) _ HK8.out Tryz.underlying212 rfl inR_info ?_)
         exact ref_leaf HQ2.out rfl (Blk.to (by repeat with_reducible (first | exact HKB.out | apply Blk.set)) (by simp [inC, zIn])) (by repeat' (first | with_reducible (first | exact HBB.out | refine Below.setCell ?_ ?_ _ | exact Nat.le_refl _) | (simp; done)))
       ·skip
        by_cases h19 : (c : Int) = 19
        ·skip
         obtain ⟨o, ho⟩ : ∃ y, rAt f3 [19, 25, 20, 21, 22, 26, 23, 24] = y := ⟨_, rfl⟩
         have HAT := wall (fun (b : Nat) (W : World) (h : Blk W b 5 #[.int .u8 19, .int .u8 25, .int .u8 20, .int .u8 21, .int .u8 22, .int .u8 26, .int .u8 23, .int .u8 24]) => (show Calls Tryz.prog 182 #[.int .u32 (f3 : Int), .slice (some ⟨b, 0, none⟩) 8 8] W (fun e w' => e = .returned (.int .u8 (o : Int)) ∧ W = w') from ho ▸ at_any f3 b f3 [19, 25, 20, 21, 22, 26, 23, 24] W rfl HL.out.2.2.2.1 (by decide) h))
         go_wp2_with fail
         (with_reducible refine (HAT.out w2.heap.size _ (blk_new_at _ _ _ (by simp))).mono ?_); rintro e W1 ⟨rfl, rfl⟩
         by_cases f1 : (f3 : Int) = 1
         ·have f5 : ¬ (f3 : Int) = 5 := by omega
          by_cases s0 : (f7 : Int) = 0
          ·skip
           have HQ := wall (show R = nz ⟨o, rd, ra, 0, rb, 0⟩ by rw [HR.out]; unfold refC; (repeat (first | rw [if_pos (by omega)] | rw [if_neg (by omega)])); all_goals rw [ho])
           clear ho
           go_upto_region 48 with fail
           refine wp_abs w g 212 ⟨o, rd, ra, 0, rb, 0⟩ (inC zIn) (Blk.to (by (repeat (first | with_reducible (first | exact HKB.out | exact HKZ.out | exact Blk.new _ _ _ | apply Blk.alloc | apply Blk.drewN | apply Blk.drew | apply Blk.set) | (with_reducible apply Blk.far'; rotate_left 1; (first | omega | (simp; done) | (simp; omega)); rotate_left 1)))) (by simp [inC, zIn, opIn] <;> omega)) (by (repeat (first | with_reducible (first | exact HKB.out | exact HKZ.out | exact Blk.new _ _ _ | apply Blk.alloc | apply Blk.drewN | apply Blk.drew | apply Blk.set) | (with_reducible apply Blk.far'; rotate_left 1; (first | omega | (simp; done) | (simp; omega)); rotate_left 1)))) (by (repeat' (first | with_reducible (first | exact HBB.out | refine Below.setCell ?_ ?_ _ | refine Below.alloc ?_ ?_ _ | refine Below.drew ?_ | refine below_drewN ?_ _ | exact Nat.le_refl _) | (simp; done) | (simp; omega) | omega))) ?_
           intro w8 hb8 hz8 hB8
           obtain ⟨I, hI⟩ : ∃ y, (⟨o, rd, ra, 0, rb, 0⟩ : In) = y := ⟨_, rfl⟩
           rw [hI] at hb8 HQ
           have HK8 := wall hb8
           have HZ8 := wall hz8
           have hbb8 := wall hB8
           have yz0 : w8.cell? ⟨w.heap.size, 0, none⟩ = some (.int .u8 0) := hz8.cell 0
           have yz1 : w8.cell? ⟨w.heap.size, 1, none⟩ = some (.int .u8 0) := hz8.cell 1
           have yz2 : w8.cell? ⟨w.heap.size, 2, none⟩ = some (.int .u8 0) := hz8.cell 2
           have yz3 : w8.cell? ⟨w.heap.size, 3, none⟩ = some (.int .u8 0) := hz8.cell 3
           have yz4 : w8.cell? ⟨w.heap.size, 4, none⟩ = some (.int .u32 0) := hz8.cell 4
           have yz5 : w8.cell? ⟨w.heap.size, 5, none⟩ = some (.int .u16 0) := hz8.cell 5
           have yk0 : w8.cell? ⟨g, 0, none⟩ = some (.int .u8 (I.op : Int)) := hb8.cell 0
           have yzf := hz8.frozen
           have yzl := hz8.lt
           clear hb8 hz8 hB8 hI HKB HKZ HBB
           have HKB := HZ8
           have HKZ := HZ8
           have HBB := hbb8
           by_cases h0 : (I.op : Int) = 0
           ·have HQ2 := wall (show R = zIn by rw [HQ.out]; unfold nz; rw [if_pos (by omega)])
            go_wp2_with fail
            exact ref_leaf HQ2.out rfl (Blk.to (by repeat with_reducible (first | exact HKB.out | apply Blk.set)) (by simp [inC, zIn])) (by repeat' (first | with_reducible (first | exact HBB.out | refine Below.setCell ?_ ?_ _ | exact Nat.le_refl _) | (simp; done)))
           ·have HQ2 := wall (show R = I by rw [HQ.out]; unfold nz; rw [if_neg (by omega)])
            go_wp2_with (refine wpList_load_row rfl 212 _ rfl g rfl 212 #[.int .u8 (I.op : Int), .int .u8 (I.rd : Int), .int .u8 (I.a : Int), .int .u8 (I.b : Int), .int .u32 (I.imm : Int), .int .u16 (I.csr : Int)] (0, 0) _ HK8.out Tryz.underlying212 rfl inR_info ?_)
            exact ref_leaf HQ2.out rfl (Blk.to (by repeat with_reducible (first | exact HKB.out | apply Blk.set)) (by simp [inC, zIn])) (by repeat' (first | with_reducible (first | exact HBB.out | refine Below.setCell ?_ ?_ _ | exact Nat.le_refl _) | (simp; done)))
          ·skip
           have HQ := wall (show R = nz ⟨0, rd, ra, 0, rb, 0⟩ by rw [HR.out]; unfold refC; (repeat (first | rw [if_pos (by omega)] | rw [if_neg (by omega)])); all_goals rfl)
           clear ho
           go_upto_region 48 with fail
           refine wp_abs w g 212 ⟨0, rd, ra, 0, rb, 0⟩ (inC zIn) (Blk.to (by (repeat (first | with_reducible (first | exact HKB.out | exact HKZ.out | exact Blk.new _ _ _ | apply Blk.alloc | apply Blk.drewN | apply Blk.drew | apply Blk.set) | (with_reducible apply Blk.far'; rotate_left 1; (first | omega | (simp; done) | (simp; omega)); rotate_left 1)))) (by simp [inC, zIn, opIn] <;> omega)) (by (repeat (first | with_reducible (first | exact HKB.out | exact HKZ.out | exact Blk.new _ _ _ | apply Blk.alloc | apply Blk.drewN | apply Blk.drew | apply Blk.set) | (with_reducible apply Blk.far'; rotate_left 1; (first | omega | (simp; done) | (simp; omega)); rotate_left 1)))) (by (repeat' (first | with_reducible (first | exact HBB.out | refine Below.setCell ?_ ?_ _ | refine Below.alloc ?_ ?_ _ | refine Below.drew ?_ | refine below_drewN ?_ _ | exact Nat.le_refl _) | (simp; done) | (simp; omega) | omega))) ?_
           intro w8 hb8 hz8 hB8
           obtain ⟨I, hI⟩ : ∃ y, (⟨0, rd, ra, 0, rb, 0⟩ : In) = y := ⟨_, rfl⟩
           rw [hI] at hb8 HQ
           have HK8 := wall hb8
           have HZ8 := wall hz8
           have hbb8 := wall hB8
           have yz0 : w8.cell? ⟨w.heap.size, 0, none⟩ = some (.int .u8 0) := hz8.cell 0
           have yz1 : w8.cell? ⟨w.heap.size, 1, none⟩ = some (.int .u8 0) := hz8.cell 1
           have yz2 : w8.cell? ⟨w.heap.size, 2, none⟩ = some (.int .u8 0) := hz8.cell 2
           have yz3 : w8.cell? ⟨w.heap.size, 3, none⟩ = some (.int .u8 0) := hz8.cell 3
           have yz4 : w8.cell? ⟨w.heap.size, 4, none⟩ = some (.int .u32 0) := hz8.cell 4
           have yz5 : w8.cell? ⟨w.heap.size, 5, none⟩ = some (.int .u16 0) := hz8.cell 5
           have yk0 : w8.cell? ⟨g, 0, none⟩ = some (.int .u8 (I.op : Int)) := hb8.cell 0
           have yzf := hz8.frozen
           have yzl := hz8.lt
           clear hb8 hz8 hB8 hI HKB HKZ HBB
           have HKB := HZ8
           have HKZ := HZ8
           have HBB := hbb8
           by_cases h0 : (I.op : Int) = 0
           ·have HQ2 := wall (show R = zIn by rw [HQ.out]; unfold nz; rw [if_pos (by omega)])
            go_wp2_with fail
            exact ref_leaf HQ2.out rfl (Blk.to (by repeat with_reducible (first | exact HKB.out | apply Blk.set)) (by simp [inC, zIn])) (by repeat' (first | with_reducible (first | exact HBB.out | refine Below.setCell ?_ ?_ _ | exact Nat.le_refl _) | (simp; done)))
           ·have HQ2 := wall (show R = I by rw [HQ.out]; unfold nz; rw [if_neg (by omega)])
            go_wp2_with (refine wpList_load_row rfl 212 _ rfl g rfl 212 #[.int .u8 (I.op : Int), .int .u8 (I.rd : Int), .int .u8 (I.a : Int), .int .u8 (I.b : Int), .int .u32 (I.imm : Int), .int .u16 (I.csr : Int)] (0, 0) _ HK8.out Tryz.underlying212 rfl inR_info ?_)
            exact ref_leaf HQ2.out rfl (Blk.to (by repeat with_reducible (first | exact HKB.out | apply Blk.set)) (by simp [inC, zIn])) (by repeat' (first | with_reducible (first | exact HBB.out | refine Below.setCell ?_ ?_ _ | exact Nat.le_refl _) | (simp; done)))
         ·by_cases f5 : (f3 : Int) = 5
          ·by_cases s2 : (f7 : Int) = 32
           ·skip
            have HQ := wall (show R = nz ⟨27, rd, ra, 0, rb, 0⟩ by rw [HR.out]; unfold refC; (repeat (first | rw [if_pos (by omega)] | rw [if_neg (by omega)])); all_goals rfl)
            clear ho
            go_upto_region 48 with fail
            refine wp_abs w g 212 ⟨27, rd, ra, 0, rb, 0⟩ (inC zIn) (Blk.to (by (repeat (first | with_reducible (first | exact HKB.out | exact HKZ.out | exact Blk.new _ _ _ | apply Blk.alloc | apply Blk.drewN | apply Blk.drew | apply Blk.set) | (with_reducible apply Blk.far'; rotate_left 1; (first | omega | (simp; done) | (simp; omega)); rotate_left 1)))) (by simp [inC, zIn, opIn] <;> omega)) (by (repeat (first | with_reducible (first | exact HKB.out | exact HKZ.out | exact Blk.new _ _ _ | apply Blk.alloc | apply Blk.drewN | apply Blk.drew | apply Blk.set) | (with_reducible apply Blk.far'; rotate_left 1; (first | omega | (simp; done) | (simp; omega)); rotate_left 1)))) (by (repeat' (first | with_reducible (first | exact HBB.out | refine Below.setCell ?_ ?_ _ | refine Below.alloc ?_ ?_ _ | refine Below.drew ?_ | refine below_drewN ?_ _ | exact Nat.le_refl _) | (simp; done) | (simp; omega) | omega))) ?_
            intro w8 hb8 hz8 hB8
            obtain ⟨I, hI⟩ : ∃ y, (⟨27, rd, ra, 0, rb, 0⟩ : In) = y := ⟨_, rfl⟩
            rw [hI] at hb8 HQ
            have HK8 := wall hb8
            have HZ8 := wall hz8
            have hbb8 := wall hB8
            have yz0 : w8.cell? ⟨w.heap.size, 0, none⟩ = some (.int .u8 0) := hz8.cell 0
            have yz1 : w8.cell? ⟨w.heap.size, 1, none⟩ = some (.int .u8 0) := hz8.cell 1
            have yz2 : w8.cell? ⟨w.heap.size, 2, none⟩ = some (.int .u8 0) := hz8.cell 2
            have yz3 : w8.cell? ⟨w.heap.size, 3, none⟩ = some (.int .u8 0) := hz8.cell 3
            have yz4 : w8.cell? ⟨w.heap.size, 4, none⟩ = some (.int .u32 0) := hz8.cell 4
            have yz5 : w8.cell? ⟨w.heap.size, 5, none⟩ = some (.int .u16 0) := hz8.cell 5
            have yk0 : w8.cell? ⟨g, 0, none⟩ = some (.int .u8 (I.op : Int)) := hb8.cell 0
            have yzf := hz8.frozen
            have yzl := hz8.lt
            clear hb8 hz8 hB8 hI HKB HKZ HBB
            have HKB := HZ8
            have HKZ := HZ8
            have HBB := hbb8
            by_cases h0 : (I.op : Int) = 0
            ·have HQ2 := wall (show R = zIn by rw [HQ.out]; unfold nz; rw [if_pos (by omega)])
             go_wp2_with fail
             exact ref_leaf HQ2.out rfl (Blk.to (by repeat with_reducible (first | exact HKB.out | apply Blk.set)) (by simp [inC, zIn])) (by repeat' (first | with_reducible (first | exact HBB.out | refine Below.setCell ?_ ?_ _ | exact Nat.le_refl _) | (simp; done)))
            ·have HQ2 := wall (show R = I by rw [HQ.out]; unfold nz; rw [if_neg (by omega)])
             go_wp2_with (refine wpList_load_row rfl 212 _ rfl g rfl 212 #[.int .u8 (I.op : Int), .int .u8 (I.rd : Int), .int .u8 (I.a : Int), .int .u8 (I.b : Int), .int .u32 (I.imm : Int), .int .u16 (I.csr : Int)] (0, 0) _ HK8.out Tryz.underlying212 rfl inR_info ?_)
             exact ref_leaf HQ2.out rfl (Blk.to (by repeat with_reducible (first | exact HKB.out | apply Blk.set)) (by simp [inC, zIn])) (by repeat' (first | with_reducible (first | exact HBB.out | refine Below.setCell ?_ ?_ _ | exact Nat.le_refl _) | (simp; done)))
           ·by_cases s0 : (f7 : Int) = 0
            ·skip
             have HQ := wall (show R = nz ⟨o, rd, ra, 0, rb, 0⟩ by rw [HR.out]; unfold refC; (repeat (first | rw [if_pos (by omega)] | rw [if_neg (by omega)])); all_goals rw [ho])
             clear ho
             go_upto_region 48 with fail
             refine wp_abs w g 212 ⟨o, rd, ra, 0, rb, 0⟩ (inC zIn) (Blk.to (by (repeat (first | with_reducible (first | exact HKB.out | exact HKZ.out | exact Blk.new _ _ _ | apply Blk.alloc | apply Blk.drewN | apply Blk.drew | apply Blk.set) | (with_reducible apply Blk.far'; rotate_left 1; (first | omega | (simp; done) | (simp; omega)); rotate_left 1)))) (by simp [inC, zIn, opIn] <;> omega)) (by (repeat (first | with_reducible (first | exact HKB.out | exact HKZ.out | exact Blk.new _ _ _ | apply Blk.alloc | apply Blk.drewN | apply Blk.drew | apply Blk.set) | (with_reducible apply Blk.far'; rotate_left 1; (first | omega | (simp; done) | (simp; omega)); rotate_left 1)))) (by (repeat' (first | with_reducible (first | exact HBB.out | refine Below.setCell ?_ ?_ _ | refine Below.alloc ?_ ?_ _ | refine Below.drew ?_ | refine below_drewN ?_ _ | exact Nat.le_refl _) | (simp; done) | (simp; omega) | omega))) ?_
             intro w8 hb8 hz8 hB8
             obtain ⟨I, hI⟩ : ∃ y, (⟨o, rd, ra, 0, rb, 0⟩ : In) = y := ⟨_, rfl⟩
             rw [hI] at hb8 HQ
             have HK8 := wall hb8
             have HZ8 := wall hz8
             have hbb8 := wall hB8
             have yz0 : w8.cell? ⟨w.heap.size, 0, none⟩ = some (.int .u8 0) := hz8.cell 0
             have yz1 : w8.cell? ⟨w.heap.size, 1, none⟩ = some (.int .u8 0) := hz8.cell 1
             have yz2 : w8.cell? ⟨w.heap.size, 2, none⟩ = some (.int .u8 0) := hz8.cell 2
             have yz3 : w8.cell? ⟨w.heap.size, 3, none⟩ = some (.int .u8 0) := hz8.cell 3
             have yz4 : w8.cell? ⟨w.heap.size, 4, none⟩ = some (.int .u32 0) := hz8.cell 4
             have yz5 : w8.cell? ⟨w.heap.size, 5, none⟩ = some (.int .u16 0) := hz8.cell 5
             have yk0 : w8.cell? ⟨g, 0, none⟩ = some (.int .u8 (I.op : Int)) := hb8.cell 0
             have yzf := hz8.frozen
             have yzl := hz8.lt
             clear hb8 hz8 hB8 hI HKB HKZ HBB
             have HKB := HZ8
             have HKZ := HZ8
             have HBB := hbb8
             by_cases h0 : (I.op : Int) = 0
             ·have HQ2 := wall (show R = zIn by rw [HQ.out]; unfold nz; rw [if_pos (by omega)])
              go_wp2_with fail
              exact ref_leaf HQ2.out rfl (Blk.to (by repeat with_reducible (first | exact HKB.out | apply Blk.set)) (by simp [inC, zIn])) (by repeat' (first | with_reducible (first | exact HBB.out | refine Below.setCell ?_ ?_ _ | exact Nat.le_refl _) | (simp; done)))
             ·have HQ2 := wall (show R = I by rw [HQ.out]; unfold nz; rw [if_neg (by omega)])
              go_wp2_with (refine wpList_load_row rfl 212 _ rfl g rfl 212 #[.int .u8 (I.op : Int), .int .u8 (I.rd : Int), .int .u8 (I.a : Int), .int .u8 (I.b : Int), .int .u32 (I.imm : Int), .int .u16 (I.csr : Int)] (0, 0) _ HK8.out Tryz.underlying212 rfl inR_info ?_)
              exact ref_leaf HQ2.out rfl (Blk.to (by repeat with_reducible (first | exact HKB.out | apply Blk.set)) (by simp [inC, zIn])) (by repeat' (first | with_reducible (first | exact HBB.out | refine Below.setCell ?_ ?_ _ | exact Nat.le_refl _) | (simp; done)))
            ·skip
             have HQ := wall (show R = nz ⟨0, rd, ra, 0, rb, 0⟩ by rw [HR.out]; unfold refC; (repeat (first | rw [if_pos (by omega)] | rw [if_neg (by omega)])); all_goals rfl)
             clear ho
             go_upto_region 48 with fail
             refine wp_abs w g 212 ⟨0, rd, ra, 0, rb, 0⟩ (inC zIn) (Blk.to (by (repeat (first | with_reducible (first | exact HKB.out | exact HKZ.out | exact Blk.new _ _ _ | apply Blk.alloc | apply Blk.drewN | apply Blk.drew | apply Blk.set) | (with_reducible apply Blk.far'; rotate_left 1; (first | omega | (simp; done) | (simp; omega)); rotate_left 1)))) (by simp [inC, zIn, opIn] <;> omega)) (by (repeat (first | with_reducible (first | exact HKB.out | exact HKZ.out | exact Blk.new _ _ _ | apply Blk.alloc | apply Blk.drewN | apply Blk.drew | apply Blk.set) | (with_reducible apply Blk.far'; rotate_left 1; (first | omega | (simp; done) | (simp; omega)); rotate_left 1)))) (by (repeat' (first | with_reducible (first | exact HBB.out | refine Below.setCell ?_ ?_ _ | refine Below.alloc ?_ ?_ _ | refine Below.drew ?_ | refine below_drewN ?_ _ | exact Nat.le_refl _) | (simp; done) | (simp; omega) | omega))) ?_
             intro w8 hb8 hz8 hB8
             obtain ⟨I, hI⟩ : ∃ y, (⟨0, rd, ra, 0, rb, 0⟩ : In) = y := ⟨_, rfl⟩
             rw [hI] at hb8 HQ
             have HK8 := wall hb8
             have HZ8 := wall hz8
             have hbb8 := wall hB8
             have yz0 : w8.cell? ⟨w.heap.size, 0, none⟩ = some (.int .u8 0) := hz8.cell 0
             have yz1 : w8.cell? ⟨w.heap.size, 1, none⟩ = some (.int .u8 0) := hz8.cell 1
             have yz2 : w8.cell? ⟨w.heap.size, 2, none⟩ = some (.int .u8 0) := hz8.cell 2
             have yz3 : w8.cell? ⟨w.heap.size, 3, none⟩ = some (.int .u8 0) := hz8.cell 3
             have yz4 : w8.cell? ⟨w.heap.size, 4, none⟩ = some (.int .u32 0) := hz8.cell 4
             have yz5 : w8.cell? ⟨w.heap.size, 5, none⟩ = some (.int .u16 0) := hz8.cell 5
             have yk0 : w8.cell? ⟨g, 0, none⟩ = some (.int .u8 (I.op : Int)) := hb8.cell 0
             have yzf := hz8.frozen
             have yzl := hz8.lt
             clear hb8 hz8 hB8 hI HKB HKZ HBB
             have HKB := HZ8
             have HKZ := HZ8
             have HBB := hbb8
             by_cases h0 : (I.op : Int) = 0
             ·have HQ2 := wall (show R = zIn by rw [HQ.out]; unfold nz; rw [if_pos (by omega)])
              go_wp2_with fail
              exact ref_leaf HQ2.out rfl (Blk.to (by repeat with_reducible (first | exact HKB.out | apply Blk.set)) (by simp [inC, zIn])) (by repeat' (first | with_reducible (first | exact HBB.out | refine Below.setCell ?_ ?_ _ | exact Nat.le_refl _) | (simp; done)))
             ·have HQ2 := wall (show R = I by rw [HQ.out]; unfold nz; rw [if_neg (by omega)])
              go_wp2_with (refine wpList_load_row rfl 212 _ rfl g rfl 212 #[.int .u8 (I.op : Int), .int .u8 (I.rd : Int), .int .u8 (I.a : Int), .int .u8 (I.b : Int), .int .u32 (I.imm : Int), .int .u16 (I.csr : Int)] (0, 0) _ HK8.out Tryz.underlying212 rfl inR_info ?_)
              exact ref_leaf HQ2.out rfl (Blk.to (by repeat with_reducible (first | exact HKB.out | apply Blk.set)) (by simp [inC, zIn])) (by repeat' (first | with_reducible (first | exact HBB.out | refine Below.setCell ?_ ?_ _ | exact Nat.le_refl _) | (simp; done)))
          ·have b1 : ((f3 : Int) == 1) = false := by simpa using f1
           have b5 : ((f3 : Int) == 5) = false := by simpa using f5
           have b15 : ¬ (((f3 : Int) == 1) = true ∨ ((f3 : Int) == 5) = true) := by rw [b1, b5]; decide
           have HQ := wall (show R = nz ⟨o, rd, ra, 0, ii, 0⟩ by rw [HR.out]; unfold refC; (repeat (first | rw [if_pos (by omega)] | rw [if_neg (by omega)])); all_goals rw [ho])
           clear ho
           go_upto_region 48 with fail
           refine wp_abs w g 212 ⟨o, rd, ra, 0, ii, 0⟩ (inC zIn) (Blk.to (by (repeat (first | with_reducible (first | exact HKB.out | exact HKZ.out | exact Blk.new _ _ _ | apply Blk.alloc | apply Blk.drewN | apply Blk.drew | apply Blk.set) | (with_reducible apply Blk.far'; rotate_left 1; (first | omega | (simp; done) | (simp; omega)); rotate_left 1)))) (by simp [inC, zIn, opIn] <;> omega)) (by (repeat (first | with_reducible (first | exact HKB.out | exact HKZ.out | exact Blk.new _ _ _ | apply Blk.alloc | apply Blk.drewN | apply Blk.drew | apply Blk.set) | (with_reducible apply Blk.far'; rotate_left 1; (first | omega | (simp; done) | (simp; omega)); rotate_left 1)))) (by (repeat' (first | with_reducible (first | exact HBB.out | refine Below.setCell ?_ ?_ _ | refine Below.alloc ?_ ?_ _ | refine Below.drew ?_ | refine below_drewN ?_ _ | exact Nat.le_refl _) | (simp; done) | (simp; omega) | omega))) ?_
           intro w8 hb8 hz8 hB8
           obtain ⟨I, hI⟩ : ∃ y, (⟨o, rd, ra, 0, ii, 0⟩ : In) = y := ⟨_, rfl⟩
           rw [hI] at hb8 HQ
           have HK8 := wall hb8
           have HZ8 := wall hz8
           have hbb8 := wall hB8
           have yz0 : w8.cell? ⟨w.heap.size, 0, none⟩ = some (.int .u8 0) := hz8.cell 0
           have yz1 : w8.cell? ⟨w.heap.size, 1, none⟩ = some (.int .u8 0) := hz8.cell 1
           have yz2 : w8.cell? ⟨w.heap.size, 2, none⟩ = some (.int .u8 0) := hz8.cell 2
           have yz3 : w8.cell? ⟨w.heap.size, 3, none⟩ = some (.int .u8 0) := hz8.cell 3
           have yz4 : w8.cell? ⟨w.heap.size, 4, none⟩ = some (.int .u32 0) := hz8.cell 4
           have yz5 : w8.cell? ⟨w.heap.size, 5, none⟩ = some (.int .u16 0) := hz8.cell 5
           have yk0 : w8.cell? ⟨g, 0, none⟩ = some (.int .u8 (I.op : Int)) := hb8.cell 0
           have yzf := hz8.frozen
           have yzl := hz8.lt
           clear hb8 hz8 hB8 hI HKB HKZ HBB
           have HKB := HZ8
           have HKZ := HZ8
           have HBB := hbb8
           by_cases h0 : (I.op : Int) = 0
           ·have HQ2 := wall (show R = zIn by rw [HQ.out]; unfold nz; rw [if_pos (by omega)])
            go_wp2_with fail
            exact ref_leaf HQ2.out rfl (Blk.to (by repeat with_reducible (first | exact HKB.out | apply Blk.set)) (by simp [inC, zIn])) (by repeat' (first | with_reducible (first | exact HBB.out | refine Below.setCell ?_ ?_ _ | exact Nat.le_refl _) | (simp; done)))
           ·have HQ2 := wall (show R = I by rw [HQ.out]; unfold nz; rw [if_neg (by omega)])
            go_wp2_with (refine wpList_load_row rfl 212 _ rfl g rfl 212 #[.int .u8 (I.op : Int), .int .u8 (I.rd : Int), .int .u8 (I.a : Int), .int .u8 (I.b : Int), .int .u32 (I.imm : Int), .int .u16 (I.csr : Int)] (0, 0) _ HK8.out Tryz.underlying212 rfl inR_info ?_)
            exact ref_leaf HQ2.out rfl (Blk.to (by repeat with_reducible (first | exact HKB.out | apply Blk.set)) (by simp [inC, zIn])) (by repeat' (first | with_reducible (first | exact HBB.out | refine Below.setCell ?_ ?_ _ | exact Nat.le_refl _) | (simp; done)))
        ·skip
         by_cases h51 : (c : Int) = 51
         ·skip
          by_cases s0 : (f7 : Int) = 0
          ·skip
           obtain ⟨o, ho⟩ : ∃ y, rAt f3 [28, 30, 31, 32, 33, 34, 36, 37] = y := ⟨_, rfl⟩
           have HAT := wall (fun (b : Nat) (W : World) (h : Blk W b 5 #[.int .u8 28, .int .u8 30, .int .u8 31, .int .u8 32, .int .u8 33, .int .u8 34, .int .u8 36, .int .u8 37]) => (show Calls Tryz.prog 182 #[.int .u32 (f3 : Int), .slice (some ⟨b, 0, none⟩) 8 8] W (fun e w' => e = .returned (.int .u8 (o : Int)) ∧ W = w') from ho ▸ at_any f3 b f3 [28, 30, 31, 32, 33, 34, 36, 37] W rfl HL.out.2.2.2.1 (by decide) h))
           have HQ := wall (show R = nz ⟨o, rd, ra, rb, 0, 0⟩ by rw [HR.out]; unfold refC; (repeat (first | rw [if_pos (by omega)] | rw [if_neg (by omega)])); all_goals rw [ho])
           clear ho
           go_wp2_with fail
           (with_reducible refine (HAT.out w2.heap.size _ (blk_new_at _ _ _ (by simp))).mono ?_); rintro e W1 ⟨rfl, rfl⟩
           go_upto_region 48 with fail
           refine wp_abs w g 212 ⟨o, rd, ra, rb, 0, 0⟩ (inC zIn) (Blk.to (by (repeat (first | with_reducible (first | exact HKB.out | exact HKZ.out | exact Blk.new _ _ _ | apply Blk.alloc | apply Blk.drewN | apply Blk.drew | apply Blk.set) | (with_reducible apply Blk.far'; rotate_left 1; (first | omega | (simp; done) | (simp; omega)); rotate_left 1)))) (by simp [inC, zIn, opIn] <;> omega)) (by (repeat (first | with_reducible (first | exact HKB.out | exact HKZ.out | exact Blk.new _ _ _ | apply Blk.alloc | apply Blk.drewN | apply Blk.drew | apply Blk.set) | (with_reducible apply Blk.far'; rotate_left 1; (first | omega | (simp; done) | (simp; omega)); rotate_left 1)))) (by (repeat' (first | with_reducible (first | exact HBB.out | refine Below.setCell ?_ ?_ _ | refine Below.alloc ?_ ?_ _ | refine Below.drew ?_ | refine below_drewN ?_ _ | exact Nat.le_refl _) | (simp; done) | (simp; omega) | omega))) ?_
           intro w8 hb8 hz8 hB8
           obtain ⟨I, hI⟩ : ∃ y, (⟨o, rd, ra, rb, 0, 0⟩ : In) = y := ⟨_, rfl⟩
           rw [hI] at hb8 HQ
           have HK8 := wall hb8
           have HZ8 := wall hz8
           have hbb8 := wall hB8
           have yz0 : w8.cell? ⟨w.heap.size, 0, none⟩ = some (.int .u8 0) := hz8.cell 0
           have yz1 : w8.cell? ⟨w.heap.size, 1, none⟩ = some (.int .u8 0) := hz8.cell 1
           have yz2 : w8.cell? ⟨w.heap.size, 2, none⟩ = some (.int .u8 0) := hz8.cell 2
           have yz3 : w8.cell? ⟨w.heap.size, 3, none⟩ = some (.int .u8 0) := hz8.cell 3
           have yz4 : w8.cell? ⟨w.heap.size, 4, none⟩ = some (.int .u32 0) := hz8.cell 4
           have yz5 : w8.cell? ⟨w.heap.size, 5, none⟩ = some (.int .u16 0) := hz8.cell 5
           have yk0 : w8.cell? ⟨g, 0, none⟩ = some (.int .u8 (I.op : Int)) := hb8.cell 0
           have yzf := hz8.frozen
           have yzl := hz8.lt
           clear hb8 hz8 hB8 hI HKB HKZ HBB
           have HKB := HZ8
           have HKZ := HZ8
           have HBB := hbb8
           by_cases h0 : (I.op : Int) = 0
           ·have HQ2 := wall (show R = zIn by rw [HQ.out]; unfold nz; rw [if_pos (by omega)])
            go_wp2_with fail
            exact ref_leaf HQ2.out rfl (Blk.to (by repeat with_reducible (first | exact HKB.out | apply Blk.set)) (by simp [inC, zIn])) (by repeat' (first | with_reducible (first | exact HBB.out | refine Below.setCell ?_ ?_ _ | exact Nat.le_refl _) | (simp; done)))
           ·have HQ2 := wall (show R = I by rw [HQ.out]; unfold nz; rw [if_neg (by omega)])
            go_wp2_with (refine wpList_load_row rfl 212 _ rfl g rfl 212 #[.int .u8 (I.op : Int), .int .u8 (I.rd : Int), .int .u8 (I.a : Int), .int .u8 (I.b : Int), .int .u32 (I.imm : Int), .int .u16 (I.csr : Int)] (0, 0) _ HK8.out Tryz.underlying212 rfl inR_info ?_)
            exact ref_leaf HQ2.out rfl (Blk.to (by repeat with_reducible (first | exact HKB.out | apply Blk.set)) (by simp [inC, zIn])) (by repeat' (first | with_reducible (first | exact HBB.out | refine Below.setCell ?_ ?_ _ | exact Nat.le_refl _) | (simp; done)))
          ·by_cases s1 : (f7 : Int) = 1
           ·have hf3 := HL.out.2.2.2.1
            have HQ := wall (show R = nz ⟨49 + f3, rd, ra, rb, 0, 0⟩ by rw [HR.out]; unfold refC; (repeat (first | rw [if_pos (by omega)] | rw [if_neg (by omega)])); all_goals rfl)
            go_upto_region 48 with fail
            refine wp_abs w g 212 ⟨49 + f3, rd, ra, rb, 0, 0⟩ (inC zIn) (Blk.to (by (repeat (first | with_reducible (first | exact HKB.out | exact HKZ.out | exact Blk.new _ _ _ | apply Blk.alloc | apply Blk.drewN | apply Blk.drew | apply Blk.set) | (with_reducible apply Blk.far'; rotate_left 1; (first | omega | (simp; done) | (simp; omega)); rotate_left 1)))) (by simp [inC, zIn, opIn] <;> omega)) (by (repeat (first | with_reducible (first | exact HKB.out | exact HKZ.out | exact Blk.new _ _ _ | apply Blk.alloc | apply Blk.drewN | apply Blk.drew | apply Blk.set) | (with_reducible apply Blk.far'; rotate_left 1; (first | omega | (simp; done) | (simp; omega)); rotate_left 1)))) (by (repeat' (first | with_reducible (first | exact HBB.out | refine Below.setCell ?_ ?_ _ | refine Below.alloc ?_ ?_ _ | refine Below.drew ?_ | refine below_drewN ?_ _ | exact Nat.le_refl _) | (simp; done) | (simp; omega) | omega))) ?_
            intro w8 hb8 hz8 hB8
            obtain ⟨I, hI⟩ : ∃ y, (⟨49 + f3, rd, ra, rb, 0, 0⟩ : In) = y := ⟨_, rfl⟩
            rw [hI] at hb8 HQ
            have HK8 := wall hb8
            have HZ8 := wall hz8
            have hbb8 := wall hB8
            have yz0 : w8.cell? ⟨w.heap.size, 0, none⟩ = some (.int .u8 0) := hz8.cell 0
            have yz1 : w8.cell? ⟨w.heap.size, 1, none⟩ = some (.int .u8 0) := hz8.cell 1
            have yz2 : w8.cell? ⟨w.heap.size, 2, none⟩ = some (.int .u8 0) := hz8.cell 2
            have yz3 : w8.cell? ⟨w.heap.size, 3, none⟩ = some (.int .u8 0) := hz8.cell 3
            have yz4 : w8.cell? ⟨w.heap.size, 4, none⟩ = some (.int .u32 0) := hz8.cell 4
            have yz5 : w8.cell? ⟨w.heap.size, 5, none⟩ = some (.int .u16 0) := hz8.cell 5
            have yk0 : w8.cell? ⟨g, 0, none⟩ = some (.int .u8 (I.op : Int)) := hb8.cell 0
            have yzf := hz8.frozen
            have yzl := hz8.lt
            clear hb8 hz8 hB8 hI HKB HKZ HBB
            have HKB := HZ8
            have HKZ := HZ8
            have HBB := hbb8
            by_cases h0 : (I.op : Int) = 0
            ·have HQ2 := wall (show R = zIn by rw [HQ.out]; unfold nz; rw [if_pos (by omega)])
             go_wp2_with fail
             exact ref_leaf HQ2.out rfl (Blk.to (by repeat with_reducible (first | exact HKB.out | apply Blk.set)) (by simp [inC, zIn])) (by repeat' (first | with_reducible (first | exact HBB.out | refine Below.setCell ?_ ?_ _ | exact Nat.le_refl _) | (simp; done)))
            ·have HQ2 := wall (show R = I by rw [HQ.out]; unfold nz; rw [if_neg (by omega)])
             go_wp2_with (refine wpList_load_row rfl 212 _ rfl g rfl 212 #[.int .u8 (I.op : Int), .int .u8 (I.rd : Int), .int .u8 (I.a : Int), .int .u8 (I.b : Int), .int .u32 (I.imm : Int), .int .u16 (I.csr : Int)] (0, 0) _ HK8.out Tryz.underlying212 rfl inR_info ?_)
             exact ref_leaf HQ2.out rfl (Blk.to (by repeat with_reducible (first | exact HKB.out | apply Blk.set)) (by simp [inC, zIn])) (by repeat' (first | with_reducible (first | exact HBB.out | refine Below.setCell ?_ ?_ _ | exact Nat.le_refl _) | (simp; done)))
           ·by_cases s2 : (f7 : Int) = 32
            ·by_cases f0 : (f3 : Int) = 0
             ·skip
              have HQ := wall (show R = nz ⟨29, rd, ra, rb, 0, 0⟩ by rw [HR.out]; unfold refC; (repeat (first | rw [if_pos (by omega)] | rw [if_neg (by omega)])); all_goals rfl)
              go_upto_region 48 with fail
              refine wp_abs w g 212 ⟨29, rd, ra, rb, 0, 0⟩ (inC zIn) (Blk.to (by (repeat (first | with_reducible (first | exact HKB.out | exact HKZ.out | exact Blk.new _ _ _ | apply Blk.alloc | apply Blk.drewN | apply Blk.drew | apply Blk.set) | (with_reducible apply Blk.far'; rotate_left 1; (first | omega | (simp; done) | (simp; omega)); rotate_left 1)))) (by simp [inC, zIn, opIn] <;> omega)) (by (repeat (first | with_reducible (first | exact HKB.out | exact HKZ.out | exact Blk.new _ _ _ | apply Blk.alloc | apply Blk.drewN | apply Blk.drew | apply Blk.set) | (with_reducible apply Blk.far'; rotate_left 1; (first | omega | (simp; done) | (simp; omega)); rotate_left 1)))) (by (repeat' (first | with_reducible (first | exact HBB.out | refine Below.setCell ?_ ?_ _ | refine Below.alloc ?_ ?_ _ | refine Below.drew ?_ | refine below_drewN ?_ _ | exact Nat.le_refl _) | (simp; done) | (simp; omega) | omega))) ?_
              intro w8 hb8 hz8 hB8
              obtain ⟨I, hI⟩ : ∃ y, (⟨29, rd, ra, rb, 0, 0⟩ : In) = y := ⟨_, rfl⟩
              rw [hI] at hb8 HQ
              have HK8 := wall hb8
              have HZ8 := wall hz8
              have hbb8 := wall hB8
              have yz0 : w8.cell? ⟨w.heap.size, 0, none⟩ = some (.int .u8 0) := hz8.cell 0
              have yz1 : w8.cell? ⟨w.heap.size, 1, none⟩ = some (.int .u8 0) := hz8.cell 1
              have yz2 : w8.cell? ⟨w.heap.size, 2, none⟩ = some (.int .u8 0) := hz8.cell 2
              have yz3 : w8.cell? ⟨w.heap.size, 3, none⟩ = some (.int .u8 0) := hz8.cell 3
              have yz4 : w8.cell? ⟨w.heap.size, 4, none⟩ = some (.int .u32 0) := hz8.cell 4
              have yz5 : w8.cell? ⟨w.heap.size, 5, none⟩ = some (.int .u16 0) := hz8.cell 5
              have yk0 : w8.cell? ⟨g, 0, none⟩ = some (.int .u8 (I.op : Int)) := hb8.cell 0
              have yzf := hz8.frozen
              have yzl := hz8.lt
              clear hb8 hz8 hB8 hI HKB HKZ HBB
              have HKB := HZ8
              have HKZ := HZ8
              have HBB := hbb8
              by_cases h0 : (I.op : Int) = 0
              ·have HQ2 := wall (show R = zIn by rw [HQ.out]; unfold nz; rw [if_pos (by omega)])
               go_wp2_with fail
               exact ref_leaf HQ2.out rfl (Blk.to (by repeat with_reducible (first | exact HKB.out | apply Blk.set)) (by simp [inC, zIn])) (by repeat' (first | with_reducible (first | exact HBB.out | refine Below.setCell ?_ ?_ _ | exact Nat.le_refl _) | (simp; done)))
              ·have HQ2 := wall (show R = I by rw [HQ.out]; unfold nz; rw [if_neg (by omega)])
               go_wp2_with (refine wpList_load_row rfl 212 _ rfl g rfl 212 #[.int .u8 (I.op : Int), .int .u8 (I.rd : Int), .int .u8 (I.a : Int), .int .u8 (I.b : Int), .int .u32 (I.imm : Int), .int .u16 (I.csr : Int)] (0, 0) _ HK8.out Tryz.underlying212 rfl inR_info ?_)
               exact ref_leaf HQ2.out rfl (Blk.to (by repeat with_reducible (first | exact HKB.out | apply Blk.set)) (by simp [inC, zIn])) (by repeat' (first | with_reducible (first | exact HBB.out | refine Below.setCell ?_ ?_ _ | exact Nat.le_refl _) | (simp; done)))
             ·by_cases f5 : (f3 : Int) = 5
              ·skip
               have HQ := wall (show R = nz ⟨35, rd, ra, rb, 0, 0⟩ by rw [HR.out]; unfold refC; (repeat (first | rw [if_pos (by omega)] | rw [if_neg (by omega)])); all_goals rfl)
               go_upto_region 48 with fail
               refine wp_abs w g 212 ⟨35, rd, ra, rb, 0, 0⟩ (inC zIn) (Blk.to (by (repeat (first | with_reducible (first | exact HKB.out | exact HKZ.out | exact Blk.new _ _ _ | apply Blk.alloc | apply Blk.drewN | apply Blk.drew | apply Blk.set) | (with_reducible apply Blk.far'; rotate_left 1; (first | omega | (simp; done) | (simp; omega)); rotate_left 1)))) (by simp [inC, zIn, opIn] <;> omega)) (by (repeat (first | with_reducible (first | exact HKB.out | exact HKZ.out | exact Blk.new _ _ _ | apply Blk.alloc | apply Blk.drewN | apply Blk.drew | apply Blk.set) | (with_reducible apply Blk.far'; rotate_left 1; (first | omega | (simp; done) | (simp; omega)); rotate_left 1)))) (by (repeat' (first | with_reducible (first | exact HBB.out | refine Below.setCell ?_ ?_ _ | refine Below.alloc ?_ ?_ _ | refine Below.drew ?_ | refine below_drewN ?_ _ | exact Nat.le_refl _) | (simp; done) | (simp; omega) | omega))) ?_
               intro w8 hb8 hz8 hB8
               obtain ⟨I, hI⟩ : ∃ y, (⟨35, rd, ra, rb, 0, 0⟩ : In) = y := ⟨_, rfl⟩
               rw [hI] at hb8 HQ
               have HK8 := wall hb8
               have HZ8 := wall hz8
               have hbb8 := wall hB8
               have yz0 : w8.cell? ⟨w.heap.size, 0, none⟩ = some (.int .u8 0) := hz8.cell 0
               have yz1 : w8.cell? ⟨w.heap.size, 1, none⟩ = some (.int .u8 0) := hz8.cell 1
               have yz2 : w8.cell? ⟨w.heap.size, 2, none⟩ = some (.int .u8 0) := hz8.cell 2
               have yz3 : w8.cell? ⟨w.heap.size, 3, none⟩ = some (.int .u8 0) := hz8.cell 3
               have yz4 : w8.cell? ⟨w.heap.size, 4, none⟩ = some (.int .u32 0) := hz8.cell 4
               have yz5 : w8.cell? ⟨w.heap.size, 5, none⟩ = some (.int .u16 0) := hz8.cell 5
               have yk0 : w8.cell? ⟨g, 0, none⟩ = some (.int .u8 (I.op : Int)) := hb8.cell 0
               have yzf := hz8.frozen
               have yzl := hz8.lt
               clear hb8 hz8 hB8 hI HKB HKZ HBB
               have HKB := HZ8
               have HKZ := HZ8
               have HBB := hbb8
               by_cases h0 : (I.op : Int) = 0
               ·have HQ2 := wall (show R = zIn by rw [HQ.out]; unfold nz; rw [if_pos (by omega)])
                go_wp2_with fail
                exact ref_leaf HQ2.out rfl (Blk.to (by repeat with_reducible (first | exact HKB.out | apply Blk.set)) (by simp [inC, zIn])) (by repeat' (first | with_reducible (first | exact HBB.out | refine Below.setCell ?_ ?_ _ | exact Nat.le_refl _) | (simp; done)))
               ·have HQ2 := wall (show R = I by rw [HQ.out]; unfold nz; rw [if_neg (by omega)])
                go_wp2_with (refine wpList_load_row rfl 212 _ rfl g rfl 212 #[.int .u8 (I.op : Int), .int .u8 (I.rd : Int), .int .u8 (I.a : Int), .int .u8 (I.b : Int), .int .u32 (I.imm : Int), .int .u16 (I.csr : Int)] (0, 0) _ HK8.out Tryz.underlying212 rfl inR_info ?_)
                exact ref_leaf HQ2.out rfl (Blk.to (by repeat with_reducible (first | exact HKB.out | apply Blk.set)) (by simp [inC, zIn])) (by repeat' (first | with_reducible (first | exact HBB.out | refine Below.setCell ?_ ?_ _ | exact Nat.le_refl _) | (simp; done)))
              ·skip
               have HQ := wall (show R = nz ⟨0, rd, ra, rb, 0, 0⟩ by rw [HR.out]; unfold refC; (repeat (first | rw [if_pos (by omega)] | rw [if_neg (by omega)])); all_goals rfl)
               go_upto_region 48 with fail
               refine wp_abs w g 212 ⟨0, rd, ra, rb, 0, 0⟩ (inC zIn) (Blk.to (by (repeat (first | with_reducible (first | exact HKB.out | exact HKZ.out | exact Blk.new _ _ _ | apply Blk.alloc | apply Blk.drewN | apply Blk.drew | apply Blk.set) | (with_reducible apply Blk.far'; rotate_left 1; (first | omega | (simp; done) | (simp; omega)); rotate_left 1)))) (by simp [inC, zIn, opIn] <;> omega)) (by (repeat (first | with_reducible (first | exact HKB.out | exact HKZ.out | exact Blk.new _ _ _ | apply Blk.alloc | apply Blk.drewN | apply Blk.drew | apply Blk.set) | (with_reducible apply Blk.far'; rotate_left 1; (first | omega | (simp; done) | (simp; omega)); rotate_left 1)))) (by (repeat' (first | with_reducible (first | exact HBB.out | refine Below.setCell ?_ ?_ _ | refine Below.alloc ?_ ?_ _ | refine Below.drew ?_ | refine below_drewN ?_ _ | exact Nat.le_refl _) | (simp; done) | (simp; omega) | omega))) ?_
               intro w8 hb8 hz8 hB8
               obtain ⟨I, hI⟩ : ∃ y, (⟨0, rd, ra, rb, 0, 0⟩ : In) = y := ⟨_, rfl⟩
               rw [hI] at hb8 HQ
               have HK8 := wall hb8
               have HZ8 := wall hz8
               have hbb8 := wall hB8
               have yz0 : w8.cell? ⟨w.heap.size, 0, none⟩ = some (.int .u8 0) := hz8.cell 0
               have yz1 : w8.cell? ⟨w.heap.size, 1, none⟩ = some (.int .u8 0) := hz8.cell 1
               have yz2 : w8.cell? ⟨w.heap.size, 2, none⟩ = some (.int .u8 0) := hz8.cell 2
               have yz3 : w8.cell? ⟨w.heap.size, 3, none⟩ = some (.int .u8 0) := hz8.cell 3
               have yz4 : w8.cell? ⟨w.heap.size, 4, none⟩ = some (.int .u32 0) := hz8.cell 4
               have yz5 : w8.cell? ⟨w.heap.size, 5, none⟩ = some (.int .u16 0) := hz8.cell 5
               have yk0 : w8.cell? ⟨g, 0, none⟩ = some (.int .u8 (I.op : Int)) := hb8.cell 0
               have yzf := hz8.frozen
               have yzl := hz8.lt
               clear hb8 hz8 hB8 hI HKB HKZ HBB
               have HKB := HZ8
               have HKZ := HZ8
               have HBB := hbb8
               by_cases h0 : (I.op : Int) = 0
               ·have HQ2 := wall (show R = zIn by rw [HQ.out]; unfold nz; rw [if_pos (by omega)])
                go_wp2_with fail
                exact ref_leaf HQ2.out rfl (Blk.to (by repeat with_reducible (first | exact HKB.out | apply Blk.set)) (by simp [inC, zIn])) (by repeat' (first | with_reducible (first | exact HBB.out | refine Below.setCell ?_ ?_ _ | exact Nat.le_refl _) | (simp; done)))
               ·have HQ2 := wall (show R = I by rw [HQ.out]; unfold nz; rw [if_neg (by omega)])
                go_wp2_with (refine wpList_load_row rfl 212 _ rfl g rfl 212 #[.int .u8 (I.op : Int), .int .u8 (I.rd : Int), .int .u8 (I.a : Int), .int .u8 (I.b : Int), .int .u32 (I.imm : Int), .int .u16 (I.csr : Int)] (0, 0) _ HK8.out Tryz.underlying212 rfl inR_info ?_)
                exact ref_leaf HQ2.out rfl (Blk.to (by repeat with_reducible (first | exact HKB.out | apply Blk.set)) (by simp [inC, zIn])) (by repeat' (first | with_reducible (first | exact HBB.out | refine Below.setCell ?_ ?_ _ | exact Nat.le_refl _) | (simp; done)))
            ·skip
             have HQ := wall (show R = nz ⟨0, rd, ra, rb, 0, 0⟩ by rw [HR.out]; unfold refC; (repeat (first | rw [if_pos (by omega)] | rw [if_neg (by omega)])); all_goals rfl)
             go_upto_region 48 with fail
             refine wp_abs w g 212 ⟨0, rd, ra, rb, 0, 0⟩ (inC zIn) (Blk.to (by (repeat (first | with_reducible (first | exact HKB.out | exact HKZ.out | exact Blk.new _ _ _ | apply Blk.alloc | apply Blk.drewN | apply Blk.drew | apply Blk.set) | (with_reducible apply Blk.far'; rotate_left 1; (first | omega | (simp; done) | (simp; omega)); rotate_left 1)))) (by simp [inC, zIn, opIn] <;> omega)) (by (repeat (first | with_reducible (first | exact HKB.out | exact HKZ.out | exact Blk.new _ _ _ | apply Blk.alloc | apply Blk.drewN | apply Blk.drew | apply Blk.set) | (with_reducible apply Blk.far'; rotate_left 1; (first | omega | (simp; done) | (simp; omega)); rotate_left 1)))) (by (repeat' (first | with_reducible (first | exact HBB.out | refine Below.setCell ?_ ?_ _ | refine Below.alloc ?_ ?_ _ | refine Below.drew ?_ | refine below_drewN ?_ _ | exact Nat.le_refl _) | (simp; done) | (simp; omega) | omega))) ?_
             intro w8 hb8 hz8 hB8
             obtain ⟨I, hI⟩ : ∃ y, (⟨0, rd, ra, rb, 0, 0⟩ : In) = y := ⟨_, rfl⟩
             rw [hI] at hb8 HQ
             have HK8 := wall hb8
             have HZ8 := wall hz8
             have hbb8 := wall hB8
             have yz0 : w8.cell? ⟨w.heap.size, 0, none⟩ = some (.int .u8 0) := hz8.cell 0
             have yz1 : w8.cell? ⟨w.heap.size, 1, none⟩ = some (.int .u8 0) := hz8.cell 1
             have yz2 : w8.cell? ⟨w.heap.size, 2, none⟩ = some (.int .u8 0) := hz8.cell 2
             have yz3 : w8.cell? ⟨w.heap.size, 3, none⟩ = some (.int .u8 0) := hz8.cell 3
             have yz4 : w8.cell? ⟨w.heap.size, 4, none⟩ = some (.int .u32 0) := hz8.cell 4
             have yz5 : w8.cell? ⟨w.heap.size, 5, none⟩ = some (.int .u16 0) := hz8.cell 5
             have yk0 : w8.cell? ⟨g, 0, none⟩ = some (.int .u8 (I.op : Int)) := hb8.cell 0
             have yzf := hz8.frozen
             have yzl := hz8.lt
             clear hb8 hz8 hB8 hI HKB HKZ HBB
             have HKB := HZ8
             have HKZ := HZ8
             have HBB := hbb8
             by_cases h0 : (I.op : Int) = 0
             ·have HQ2 := wall (show R = zIn by rw [HQ.out]; unfold nz; rw [if_pos (by omega)])
              go_wp2_with fail
              exact ref_leaf HQ2.out rfl (Blk.to (by repeat with_reducible (first | exact HKB.out | apply Blk.set)) (by simp [inC, zIn])) (by repeat' (first | with_reducible (first | exact HBB.out | refine Below.setCell ?_ ?_ _ | exact Nat.le_refl _) | (simp; done)))
             ·have HQ2 := wall (show R = I by rw [HQ.out]; unfold nz; rw [if_neg (by omega)])
              go_wp2_with (refine wpList_load_row rfl 212 _ rfl g rfl 212 #[.int .u8 (I.op : Int), .int .u8 (I.rd : Int), .int .u8 (I.a : Int), .int .u8 (I.b : Int), .int .u32 (I.imm : Int), .int .u16 (I.csr : Int)] (0, 0) _ HK8.out Tryz.underlying212 rfl inR_info ?_)
              exact ref_leaf HQ2.out rfl (Blk.to (by repeat with_reducible (first | exact HKB.out | apply Blk.set)) (by simp [inC, zIn])) (by repeat' (first | with_reducible (first | exact HBB.out | refine Below.setCell ?_ ?_ _ | exact Nat.le_refl _) | (simp; done)))
         ·skip
          by_cases h15 : (c : Int) = 15
          ·skip
           by_cases f0 : (f3 : Int) = 0
           ·skip
            have HQ := wall (show R = nz (opIn 38) by rw [HR.out]; unfold refC; (repeat (first | rw [if_pos (by omega)] | rw [if_neg (by omega)])); all_goals rfl)
            go_upto_region 48 with fail
            refine wp_abs w g 212 (opIn 38) (inC zIn) (Blk.to (by (repeat (first | with_reducible (first | exact HKB.out | exact HKZ.out | exact Blk.new _ _ _ | apply Blk.alloc | apply Blk.drewN | apply Blk.drew | apply Blk.set) | (with_reducible apply Blk.far'; rotate_left 1; (first | omega | (simp; done) | (simp; omega)); rotate_left 1)))) (by simp [inC, zIn, opIn] <;> omega)) (by (repeat (first | with_reducible (first | exact HKB.out | exact HKZ.out | exact Blk.new _ _ _ | apply Blk.alloc | apply Blk.drewN | apply Blk.drew | apply Blk.set) | (with_reducible apply Blk.far'; rotate_left 1; (first | omega | (simp; done) | (simp; omega)); rotate_left 1)))) (by (repeat' (first | with_reducible (first | exact HBB.out | refine Below.setCell ?_ ?_ _ | refine Below.alloc ?_ ?_ _ | refine Below.drew ?_ | refine below_drewN ?_ _ | exact Nat.le_refl _) | (simp; done) | (simp; omega) | omega))) ?_
            intro w8 hb8 hz8 hB8
            obtain ⟨I, hI⟩ : ∃ y, ((opIn 38) : In) = y := ⟨_, rfl⟩
            rw [hI] at hb8 HQ
            have HK8 := wall hb8
            have HZ8 := wall hz8
            have hbb8 := wall hB8
            have yz0 : w8.cell? ⟨w.heap.size, 0, none⟩ = some (.int .u8 0) := hz8.cell 0
            have yz1 : w8.cell? ⟨w.heap.size, 1, none⟩ = some (.int .u8 0) := hz8.cell 1
            have yz2 : w8.cell? ⟨w.heap.size, 2, none⟩ = some (.int .u8 0) := hz8.cell 2
            have yz3 : w8.cell? ⟨w.heap.size, 3, none⟩ = some (.int .u8 0) := hz8.cell 3
            have yz4 : w8.cell? ⟨w.heap.size, 4, none⟩ = some (.int .u32 0) := hz8.cell 4
            have yz5 : w8.cell? ⟨w.heap.size, 5, none⟩ = some (.int .u16 0) := hz8.cell 5
            have yk0 : w8.cell? ⟨g, 0, none⟩ = some (.int .u8 (I.op : Int)) := hb8.cell 0
            have yzf := hz8.frozen
            have yzl := hz8.lt
            clear hb8 hz8 hB8 hI HKB HKZ HBB
            have HKB := HZ8
            have HKZ := HZ8
            have HBB := hbb8
            by_cases h0 : (I.op : Int) = 0
            ·have HQ2 := wall (show R = zIn by rw [HQ.out]; unfold nz; rw [if_pos (by omega)])
             go_wp2_with fail
             exact ref_leaf HQ2.out rfl (Blk.to (by repeat with_reducible (first | exact HKB.out | apply Blk.set)) (by simp [inC, zIn])) (by repeat' (first | with_reducible (first | exact HBB.out | refine Below.setCell ?_ ?_ _ | exact Nat.le_refl _) | (simp; done)))
            ·have HQ2 := wall (show R = I by rw [HQ.out]; unfold nz; rw [if_neg (by omega)])
             go_wp2_with (refine wpList_load_row rfl 212 _ rfl g rfl 212 #[.int .u8 (I.op : Int), .int .u8 (I.rd : Int), .int .u8 (I.a : Int), .int .u8 (I.b : Int), .int .u32 (I.imm : Int), .int .u16 (I.csr : Int)] (0, 0) _ HK8.out Tryz.underlying212 rfl inR_info ?_)
             exact ref_leaf HQ2.out rfl (Blk.to (by repeat with_reducible (first | exact HKB.out | apply Blk.set)) (by simp [inC, zIn])) (by repeat' (first | with_reducible (first | exact HBB.out | refine Below.setCell ?_ ?_ _ | exact Nat.le_refl _) | (simp; done)))
           ·skip
            have HQ := wall (show R = nz zIn by rw [HR.out]; unfold refC; (repeat (first | rw [if_pos (by omega)] | rw [if_neg (by omega)])); all_goals rfl)
            go_upto_region 48 with fail
            refine wp_abs w g 212 zIn (inC zIn) (Blk.to (by (repeat (first | with_reducible (first | exact HKB.out | exact HKZ.out | exact Blk.new _ _ _ | apply Blk.alloc | apply Blk.drewN | apply Blk.drew | apply Blk.set) | (with_reducible apply Blk.far'; rotate_left 1; (first | omega | (simp; done) | (simp; omega)); rotate_left 1)))) (by simp [inC, zIn, opIn] <;> omega)) (by (repeat (first | with_reducible (first | exact HKB.out | exact HKZ.out | exact Blk.new _ _ _ | apply Blk.alloc | apply Blk.drewN | apply Blk.drew | apply Blk.set) | (with_reducible apply Blk.far'; rotate_left 1; (first | omega | (simp; done) | (simp; omega)); rotate_left 1)))) (by (repeat' (first | with_reducible (first | exact HBB.out | refine Below.setCell ?_ ?_ _ | refine Below.alloc ?_ ?_ _ | refine Below.drew ?_ | refine below_drewN ?_ _ | exact Nat.le_refl _) | (simp; done) | (simp; omega) | omega))) ?_
            intro w8 hb8 hz8 hB8
            obtain ⟨I, hI⟩ : ∃ y, (zIn : In) = y := ⟨_, rfl⟩
            rw [hI] at hb8 HQ
            have HK8 := wall hb8
            have HZ8 := wall hz8
            have hbb8 := wall hB8
            have yz0 : w8.cell? ⟨w.heap.size, 0, none⟩ = some (.int .u8 0) := hz8.cell 0
            have yz1 : w8.cell? ⟨w.heap.size, 1, none⟩ = some (.int .u8 0) := hz8.cell 1
            have yz2 : w8.cell? ⟨w.heap.size, 2, none⟩ = some (.int .u8 0) := hz8.cell 2
            have yz3 : w8.cell? ⟨w.heap.size, 3, none⟩ = some (.int .u8 0) := hz8.cell 3
            have yz4 : w8.cell? ⟨w.heap.size, 4, none⟩ = some (.int .u32 0) := hz8.cell 4
            have yz5 : w8.cell? ⟨w.heap.size, 5, none⟩ = some (.int .u16 0) := hz8.cell 5
            have yk0 : w8.cell? ⟨g, 0, none⟩ = some (.int .u8 (I.op : Int)) := hb8.cell 0
            have yzf := hz8.frozen
            have yzl := hz8.lt
            clear hb8 hz8 hB8 hI HKB HKZ HBB
            have HKB := HZ8
            have HKZ := HZ8
            have HBB := hbb8
            by_cases h0 : (I.op : Int) = 0
            ·have HQ2 := wall (show R = zIn by rw [HQ.out]; unfold nz; rw [if_pos (by omega)])
             go_wp2_with fail
             exact ref_leaf HQ2.out rfl (Blk.to (by repeat with_reducible (first | exact HKB.out | apply Blk.set)) (by simp [inC, zIn])) (by repeat' (first | with_reducible (first | exact HBB.out | refine Below.setCell ?_ ?_ _ | exact Nat.le_refl _) | (simp; done)))
            ·have HQ2 := wall (show R = I by rw [HQ.out]; unfold nz; rw [if_neg (by omega)])
             go_wp2_with (refine wpList_load_row rfl 212 _ rfl g rfl 212 #[.int .u8 (I.op : Int), .int .u8 (I.rd : Int), .int .u8 (I.a : Int), .int .u8 (I.b : Int), .int .u32 (I.imm : Int), .int .u16 (I.csr : Int)] (0, 0) _ HK8.out Tryz.underlying212 rfl inR_info ?_)
             exact ref_leaf HQ2.out rfl (Blk.to (by repeat with_reducible (first | exact HKB.out | apply Blk.set)) (by simp [inC, zIn])) (by repeat' (first | with_reducible (first | exact HBB.out | refine Below.setCell ?_ ?_ _ | exact Nat.le_refl _) | (simp; done)))
          ·skip
           by_cases h115 : (c : Int) = 115
           ·skip
            obtain ⟨o, ho⟩ : ∃ y, rAt f3 [0, 43, 44, 45, 0, 46, 47, 48] = y := ⟨_, rfl⟩
            have HAT := wall (fun (b : Nat) (W : World) (h : Blk W b 5 #[.int .u8 0, .int .u8 43, .int .u8 44, .int .u8 45, .int .u8 0, .int .u8 46, .int .u8 47, .int .u8 48]) => (show Calls Tryz.prog 182 #[.int .u32 (f3 : Int), .slice (some ⟨b, 0, none⟩) 8 8] W (fun e w' => e = .returned (.int .u8 (o : Int)) ∧ W = w') from ho ▸ at_any f3 b f3 [0, 43, 44, 45, 0, 46, 47, 48] W rfl HL.out.2.2.2.1 (by decide) h))
            go_wp2_with fail
            (with_reducible refine (HAT.out w2.heap.size _ (blk_new_at _ _ _ (by simp))).mono ?_); rintro e W1 ⟨rfl, rfl⟩
            go_wp2_with fail
            (with_reducible refine (HI.out _).mono ?_); rintro e W1 ⟨rfl, rfl⟩
            have hcs : (cs : Int) % 65536 = (cs : Int) := by have := HL.out.2.2.2.2.2; omega
            have hra : (ra : Int) % 4294967296 = (ra : Int) := by have := HL.out.2.1; omega
            by_cases f0 : (f3 : Int) = 0
            ·have f4 : ¬ (4 : Int) < (f3 : Int) := by omega
             have HAL := wall (fun W => alone_any v v W rfl)
             obtain ⟨q, hq⟩ : ∃ y, plainN v = y := ⟨_, rfl⟩
             rw [hq] at HAL HR
             have HQ := wall (show R = opIn q by rw [HR.out]; unfold refC; (repeat (first | rw [if_pos (by omega)] | rw [if_neg (by omega)])); all_goals rfl)
             go_wp2_with fail
             (with_reducible refine (HAL.out _).mono ?_); rintro e W1 ⟨rfl, rfl⟩
             go_wp2_with fail
             exact ref_leaf HQ.out rfl (Blk.to (by (repeat (first | with_reducible (first | exact HKB.out | exact HKZ.out | exact Blk.new _ _ _ | apply Blk.alloc | apply Blk.drewN | apply Blk.drew | apply Blk.set) | (with_reducible apply Blk.far'; rotate_left 1; (first | omega | (simp; done) | (simp; omega)); rotate_left 1)))) (by simp [inC, zIn, opIn])) (by (repeat' (first | with_reducible (first | exact HBB.out | refine Below.setCell ?_ ?_ _ | refine Below.alloc ?_ ?_ _ | refine Below.drew ?_ | refine below_drewN ?_ _ | exact Nat.le_refl _) | (simp; done) | (simp; omega) | omega)))
            ·by_cases f4 : (4 : Int) < (f3 : Int)
             ·skip
              have HQ := wall (show R = nz ⟨o, rd, 0, 0, ra, cs⟩ by rw [HR.out]; unfold refC; (repeat (first | rw [if_pos (by omega)] | rw [if_neg (by omega)])); all_goals rw [ho])
              clear ho
              go_upto_region 48 with fail
              refine wp_abs w g 212 ⟨o, rd, 0, 0, ra, cs⟩ (inC zIn) (Blk.to (by (repeat (first | with_reducible (first | exact HKB.out | exact HKZ.out | exact Blk.new _ _ _ | apply Blk.alloc | apply Blk.drewN | apply Blk.drew | apply Blk.set) | (with_reducible apply Blk.far'; rotate_left 1; (first | omega | (simp; done) | (simp; omega)); rotate_left 1)))) (by simp [inC, zIn, opIn] <;> omega)) (by (repeat (first | with_reducible (first | exact HKB.out | exact HKZ.out | exact Blk.new _ _ _ | apply Blk.alloc | apply Blk.drewN | apply Blk.drew | apply Blk.set) | (with_reducible apply Blk.far'; rotate_left 1; (first | omega | (simp; done) | (simp; omega)); rotate_left 1)))) (by (repeat' (first | with_reducible (first | exact HBB.out | refine Below.setCell ?_ ?_ _ | refine Below.alloc ?_ ?_ _ | refine Below.drew ?_ | refine below_drewN ?_ _ | exact Nat.le_refl _) | (simp; done) | (simp; omega) | omega))) ?_
              intro w8 hb8 hz8 hB8
              obtain ⟨I, hI⟩ : ∃ y, (⟨o, rd, 0, 0, ra, cs⟩ : In) = y := ⟨_, rfl⟩
              rw [hI] at hb8 HQ
              have HK8 := wall hb8
              have HZ8 := wall hz8
              have hbb8 := wall hB8
              have yz0 : w8.cell? ⟨w.heap.size, 0, none⟩ = some (.int .u8 0) := hz8.cell 0
              have yz1 : w8.cell? ⟨w.heap.size, 1, none⟩ = some (.int .u8 0) := hz8.cell 1
              have yz2 : w8.cell? ⟨w.heap.size, 2, none⟩ = some (.int .u8 0) := hz8.cell 2
              have yz3 : w8.cell? ⟨w.heap.size, 3, none⟩ = some (.int .u8 0) := hz8.cell 3
              have yz4 : w8.cell? ⟨w.heap.size, 4, none⟩ = some (.int .u32 0) := hz8.cell 4
              have yz5 : w8.cell? ⟨w.heap.size, 5, none⟩ = some (.int .u16 0) := hz8.cell 5
              have yk0 : w8.cell? ⟨g, 0, none⟩ = some (.int .u8 (I.op : Int)) := hb8.cell 0
              have yzf := hz8.frozen
              have yzl := hz8.lt
              clear hb8 hz8 hB8 hI HKB HKZ HBB
              have HKB := HZ8
              have HKZ := HZ8
              have HBB := hbb8
              by_cases h0 : (I.op : Int) = 0
              ·have HQ2 := wall (show R = zIn by rw [HQ.out]; unfold nz; rw [if_pos (by omega)])
               go_wp2_with fail
               exact ref_leaf HQ2.out rfl (Blk.to (by repeat with_reducible (first | exact HKB.out | apply Blk.set)) (by simp [inC, zIn])) (by repeat' (first | with_reducible (first | exact HBB.out | refine Below.setCell ?_ ?_ _ | exact Nat.le_refl _) | (simp; done)))
              ·have HQ2 := wall (show R = I by rw [HQ.out]; unfold nz; rw [if_neg (by omega)])
               go_wp2_with (refine wpList_load_row rfl 212 _ rfl g rfl 212 #[.int .u8 (I.op : Int), .int .u8 (I.rd : Int), .int .u8 (I.a : Int), .int .u8 (I.b : Int), .int .u32 (I.imm : Int), .int .u16 (I.csr : Int)] (0, 0) _ HK8.out Tryz.underlying212 rfl inR_info ?_)
               exact ref_leaf HQ2.out rfl (Blk.to (by repeat with_reducible (first | exact HKB.out | apply Blk.set)) (by simp [inC, zIn])) (by repeat' (first | with_reducible (first | exact HBB.out | refine Below.setCell ?_ ?_ _ | exact Nat.le_refl _) | (simp; done)))
             ·skip
              have HQ := wall (show R = nz ⟨o, rd, ra, 0, 0, cs⟩ by rw [HR.out]; unfold refC; (repeat (first | rw [if_pos (by omega)] | rw [if_neg (by omega)])); all_goals rw [ho])
              clear ho
              go_upto_region 48 with fail
              refine wp_abs w g 212 ⟨o, rd, ra, 0, 0, cs⟩ (inC zIn) (Blk.to (by (repeat (first | with_reducible (first | exact HKB.out | exact HKZ.out | exact Blk.new _ _ _ | apply Blk.alloc | apply Blk.drewN | apply Blk.drew | apply Blk.set) | (with_reducible apply Blk.far'; rotate_left 1; (first | omega | (simp; done) | (simp; omega)); rotate_left 1)))) (by simp [inC, zIn, opIn] <;> omega)) (by (repeat (first | with_reducible (first | exact HKB.out | exact HKZ.out | exact Blk.new _ _ _ | apply Blk.alloc | apply Blk.drewN | apply Blk.drew | apply Blk.set) | (with_reducible apply Blk.far'; rotate_left 1; (first | omega | (simp; done) | (simp; omega)); rotate_left 1)))) (by (repeat' (first | with_reducible (first | exact HBB.out | refine Below.setCell ?_ ?_ _ | refine Below.alloc ?_ ?_ _ | refine Below.drew ?_ | refine below_drewN ?_ _ | exact Nat.le_refl _) | (simp; done) | (simp; omega) | omega))) ?_
              intro w8 hb8 hz8 hB8
              obtain ⟨I, hI⟩ : ∃ y, (⟨o, rd, ra, 0, 0, cs⟩ : In) = y := ⟨_, rfl⟩
              rw [hI] at hb8 HQ
              have HK8 := wall hb8
              have HZ8 := wall hz8
              have hbb8 := wall hB8
              have yz0 : w8.cell? ⟨w.heap.size, 0, none⟩ = some (.int .u8 0) := hz8.cell 0
              have yz1 : w8.cell? ⟨w.heap.size, 1, none⟩ = some (.int .u8 0) := hz8.cell 1
              have yz2 : w8.cell? ⟨w.heap.size, 2, none⟩ = some (.int .u8 0) := hz8.cell 2
              have yz3 : w8.cell? ⟨w.heap.size, 3, none⟩ = some (.int .u8 0) := hz8.cell 3
              have yz4 : w8.cell? ⟨w.heap.size, 4, none⟩ = some (.int .u32 0) := hz8.cell 4
              have yz5 : w8.cell? ⟨w.heap.size, 5, none⟩ = some (.int .u16 0) := hz8.cell 5
              have yk0 : w8.cell? ⟨g, 0, none⟩ = some (.int .u8 (I.op : Int)) := hb8.cell 0
              have yzf := hz8.frozen
              have yzl := hz8.lt
              clear hb8 hz8 hB8 hI HKB HKZ HBB
              have HKB := HZ8
              have HKZ := HZ8
              have HBB := hbb8
              by_cases h0 : (I.op : Int) = 0
              ·have HQ2 := wall (show R = zIn by rw [HQ.out]; unfold nz; rw [if_pos (by omega)])
               go_wp2_with fail
               exact ref_leaf HQ2.out rfl (Blk.to (by repeat with_reducible (first | exact HKB.out | apply Blk.set)) (by simp [inC, zIn])) (by repeat' (first | with_reducible (first | exact HBB.out | refine Below.setCell ?_ ?_ _ | exact Nat.le_refl _) | (simp; done)))
              ·have HQ2 := wall (show R = I by rw [HQ.out]; unfold nz; rw [if_neg (by omega)])
               go_wp2_with (refine wpList_load_row rfl 212 _ rfl g rfl 212 #[.int .u8 (I.op : Int), .int .u8 (I.rd : Int), .int .u8 (I.a : Int), .int .u8 (I.b : Int), .int .u32 (I.imm : Int), .int .u16 (I.csr : Int)] (0, 0) _ HK8.out Tryz.underlying212 rfl inR_info ?_)
               exact ref_leaf HQ2.out rfl (Blk.to (by repeat with_reducible (first | exact HKB.out | apply Blk.set)) (by simp [inC, zIn])) (by repeat' (first | with_reducible (first | exact HBB.out | refine Below.setCell ?_ ?_ _ | exact Nat.le_refl _) | (simp; done)))
           ·skip
            have HQ := wall (show R = nz zIn by rw [HR.out]; unfold refC; (repeat (first | rw [if_pos (by omega)] | rw [if_neg (by omega)])); all_goals rfl)
            go_upto_region 48 with fail
            refine wp_abs w g 212 zIn (inC zIn) (Blk.to (by (repeat (first | with_reducible (first | exact HKB.out | exact HKZ.out | exact Blk.new _ _ _ | apply Blk.alloc | apply Blk.drewN | apply Blk.drew | apply Blk.set) | (with_reducible apply Blk.far'; rotate_left 1; (first | omega | (simp; done) | (simp; omega)); rotate_left 1)))) (by simp [inC, zIn, opIn] <;> omega)) (by (repeat (first | with_reducible (first | exact HKB.out | exact HKZ.out | exact Blk.new _ _ _ | apply Blk.alloc | apply Blk.drewN | apply Blk.drew | apply Blk.set) | (with_reducible apply Blk.far'; rotate_left 1; (first | omega | (simp; done) | (simp; omega)); rotate_left 1)))) (by (repeat' (first | with_reducible (first | exact HBB.out | refine Below.setCell ?_ ?_ _ | refine Below.alloc ?_ ?_ _ | refine Below.drew ?_ | refine below_drewN ?_ _ | exact Nat.le_refl _) | (simp; done) | (simp; omega) | omega))) ?_
            intro w8 hb8 hz8 hB8
            obtain ⟨I, hI⟩ : ∃ y, (zIn : In) = y := ⟨_, rfl⟩
            rw [hI] at hb8 HQ
            have HK8 := wall hb8
            have HZ8 := wall hz8
            have hbb8 := wall hB8
            have yz0 : w8.cell? ⟨w.heap.size, 0, none⟩ = some (.int .u8 0) := hz8.cell 0
            have yz1 : w8.cell? ⟨w.heap.size, 1, none⟩ = some (.int .u8 0) := hz8.cell 1
            have yz2 : w8.cell? ⟨w.heap.size, 2, none⟩ = some (.int .u8 0) := hz8.cell 2
            have yz3 : w8.cell? ⟨w.heap.size, 3, none⟩ = some (.int .u8 0) := hz8.cell 3
            have yz4 : w8.cell? ⟨w.heap.size, 4, none⟩ = some (.int .u32 0) := hz8.cell 4
            have yz5 : w8.cell? ⟨w.heap.size, 5, none⟩ = some (.int .u16 0) := hz8.cell 5
            have yk0 : w8.cell? ⟨g, 0, none⟩ = some (.int .u8 (I.op : Int)) := hb8.cell 0
            have yzf := hz8.frozen
            have yzl := hz8.lt
            clear hb8 hz8 hB8 hI HKB HKZ HBB
            have HKB := HZ8
            have HKZ := HZ8
            have HBB := hbb8
            by_cases h0 : (I.op : Int) = 0
            ·have HQ2 := wall (show R = zIn by rw [HQ.out]; unfold nz; rw [if_pos (by omega)])
             go_wp2_with fail
             exact ref_leaf HQ2.out rfl (Blk.to (by repeat with_reducible (first | exact HKB.out | apply Blk.set)) (by simp [inC, zIn])) (by repeat' (first | with_reducible (first | exact HBB.out | refine Below.setCell ?_ ?_ _ | exact Nat.le_refl _) | (simp; done)))
            ·have HQ2 := wall (show R = I by rw [HQ.out]; unfold nz; rw [if_neg (by omega)])
             go_wp2_with (refine wpList_load_row rfl 212 _ rfl g rfl 212 #[.int .u8 (I.op : Int), .int .u8 (I.rd : Int), .int .u8 (I.a : Int), .int .u8 (I.b : Int), .int .u32 (I.imm : Int), .int .u16 (I.csr : Int)] (0, 0) _ HK8.out Tryz.underlying212 rfl inR_info ?_)
             exact ref_leaf HQ2.out rfl (Blk.to (by repeat with_reducible (first | exact HKB.out | apply Blk.set)) (by simp [inC, zIn])) (by repeat' (first | with_reducible (first | exact HBB.out | refine Below.setCell ?_ ?_ _ | exact Nat.le_refl _) | (simp; done)))
end Rv
end Go.Proofs.YtmiaabpnolebhaaGreatDoor
