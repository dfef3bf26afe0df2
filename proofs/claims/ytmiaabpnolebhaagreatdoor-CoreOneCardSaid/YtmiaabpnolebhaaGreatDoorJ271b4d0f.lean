/-
  Texts of this claim, joined: RvI, RvU, RvJ.
-/
import Derived.Test.YtmiaabpnolebhaaGreatDoorJ72f59b75
import Derived.Deep.CutBlock
import Derived.Test.YtmiaabpnolebhaaGreatDoorJ2188f6d0
import Derived.Deep.DeepCutAuto
set_option maxHeartbeats 8000000
set_option maxRecDepth 100000
set_option linter.unusedSimpArgs false
set_option linter.unusedVariables false
namespace Go.Proofs.YtmiaabpnolebhaaGreatDoor
open Go.RowKit Go.Maps

namespace Rv
open Otp Sha R1
structure Ew (w0 : World) (I : Array Value) (w : World) : Prop where
 box : Blk w w0.heap.size 54 I
 bel : Below w0.heap.size w0 w
theorem Ew.old {w0 w w' : World} {I : Array Value} (h : Ew w0 I w) (hb : Below w.heap.size w w') : Ew w0 I w' := ⟨h.box.next hb rfl, below_then h.bel hb (Nat.le_refl _)⟩
theorem enc_leaf {w w' : World} {tmps : Array Value} {p : Nat × Bool} {z : Nat} {ok : Bool} (hp : p = (z, ok)) (h1 : tmps.getD 2 undef = .int .u32 (z : Int)) (h2 : tmps.getD 3 undef = .bool ok) (hB : Below w.heap.size w w') :
  bodyPost Tryz.prog Tryz.f22 (EncOut p w) .ret ⟨tmps, []⟩ w' := by
 subst hp
 exact bodyPost_ret (v := .tuple #[.int .u32 (z : Int), .bool ok]) ((results_tt Tryz.results22 tmps w').trans (by rw [h1, h2])) rfl ⟨rfl, hB⟩
theorem encode_any (i : In) (hi : i.Ok) (w : World) :
  Calls Tryz.prog 22 #[.agg (inC i)] w (EncOut (enc i) w) := by
 have HI := wall hi
 have HIE := wall (show ∀ x : In, ∀ W, (Op.equalIn 10000 54 (.agg (inC x)) (.agg (inC i))).run Tryz.prog W = .ok (decide (x = i)) W from fun x W => in_eq x i W)
 have HNF := wall (show (Tryz.prog.info? 54).map (·.size) = some (inC i).size from in_info)
 have HB0 := wall (show Ew w (inC i) (w.alloc (.cells (inC i) 54)) from ⟨Blk.new _ _ _, (Below.refl _ w).alloc (Nat.le_refl _) _⟩)
 obtain ⟨p, hp⟩ : ∃ y, enc i = y := ⟨_, rfl⟩
 obtain ⟨I, hI⟩ : ∃ y, inC i = y := ⟨_, rfl⟩
 have HP := wall hp
 have HII := wall hI
 rw [hI] at HIE HNF HB0 ⊢
 rw [hp]
 clear hp hI hi
 go_enter Tryz.func22, Tryz.ntmps22
 go_upto_region 1 with fail
 obtain ⟨w1, hw1⟩ : ∃ W, W = w.alloc (.cells I 54) := ⟨_, rfl⟩
 rw [← hw1] at HB0 ⊢
 clear hw1
 go_wp2_with fail
 change Code.wp _ _ _ _ (w1.alloc (.cells (v32 W4).toArray 52))
 obtain ⟨w2, hw2⟩ : ∃ W, W = w1.alloc (.cells (v32 W4).toArray 52) := ⟨_, rfl⟩
 have HE2 := wall (show Ew w I w2 from HB0.out.old (by rw [hw2]; exact (Below.refl _ _).alloc (Nat.le_refl _) _))
 have HW2 := wall (show Blk w2 w1.heap.size 52 (v32 W4).toArray by rw [hw2]; exact Blk.new _ _ _)
 obtain ⟨gL, hgL⟩ : ∃ y, w1.heap.size = y := ⟨_, rfl⟩
 rw [← hw2]
 rw [hgL] at HW2 ⊢
 clear hw2 hgL HB0
 go_loopg [16] 4 (fun g sC wr => ∃ j : Nat, j + g = 4 ∧ sC = .int .i64 (j : Int) ∧ Wall (∀ k, k < j → i ≠ opIn (39 + k)) ∧ Wall (Ew w I wr) ∧ Wall (Blk wr gL 52 (v32 W4).toArray))
 case atStart => exact ⟨0, by omega, rfl, wall (fun k hk => absurd hk (Nat.not_lt_zero _)), HE2, HW2⟩
 case round =>
  clear HE2 HW2
  obtain ⟨j, hg, rfl, HN, HE, HW⟩ := hrel
  have HG := wall hg
  have hj4 : j ≤ 4 := by omega
  clear hg
  by_cases hlt : j < 4
  ·have hlt' : (j : Int) < 4 := by omega
   obtain ⟨hd1, hd2, hd3⟩ := w4_dec ⟨j, hlt⟩
   simp only at hd1 hd2 hd3
   have hc : wr.cell? ⟨gL, j, none⟩ = some (.int .u32 ((W4.getD j 0 : Nat) : Int)) := by rw [HW.out.cell]; exact v32_at hlt
   obtain ⟨z, hz⟩ : ∃ y, W4.getD j 0 = y := ⟨_, rfl⟩
   rw [hz] at hc hd1 hd2 hd3
   have HD3 := wall hd3
   have HDC0 := wall (fun W => decode_any z z W rfl hd2)
   rw [hd1] at HDC0
   have HDC := wall (show ∀ W, Calls Tryz.prog 85 #[.int .u32 (z : Int)] W (fun e w' => e = .returned (.tuple #[.agg (inC (opIn (39 + j))), .bool true]) ∧ Below W.heap.size W w') from HDC0.out)
   clear HDC0
   have HDX := wall (HIE.out (opIn (39 + j)))
   have HX1 := wall (inC_one (opIn (39 + j)))
   have HX2 := wall (show (Tryz.prog.info? 54).map (·.size) = some (inC (opIn (39 + j))).size from in_info)
   have HX3 := wall (show (inC zIn).size = (inC (opIn (39 + j))).size from rfl)
   obtain ⟨X, hX⟩ : ∃ y, inC (opIn (39 + j)) = y := ⟨_, rfl⟩
   obtain ⟨q, hq⟩ : ∃ y, decide (opIn (39 + j) = i) = y := ⟨_, rfl⟩
   have HQ := wall hq
   rw [hX, hq] at HDX
   rw [hX] at HX1 HX2 HX3
   rw [hX] at HDC
   clear hz hd1 hd2 hd3 hX hq
   go_wp2_with fail
   (with_reducible refine (HDC.out _).mono ?_); rintro e w4 ⟨rfl, hB4⟩
   have HE4 := wall (HE.out.old hB4)
   have HW4 := wall (HW.out.next hB4 rfl)
   clear HE HW hB4 HDC
   try simp only [Act.put, rpA, rpB, rpC]
   go_upto_region 5 with (refine wpList_new_row rfl 54 (.tmp 6) (.tmp 23) rfl w4.heap.size X rfl rfl 54 (inC zIn) (Blk.new _ _ _) HX2.out HX3.out HX1.out w4.heap.size w4 ((Below.refl _ w4).alloc (Nat.le_refl _) _) (Nat.le_refl _) ?_; intro w5 K5 B5)
   have HK5 := wall K5.out
   have HE5 := wall (HE4.out.old B5.out)
   have HW5 := wall (HW4.out.next B5.out rfl)
   have heq := HDX.out
   clear K5 B5 HE4 HW4 hc
   try simp only [Act.put, rpA, rpB, rpC]
   cases q with
   | true =>
    have HR := wall (show p = (z, true) by
     have e := of_decide_eq_true HQ.out
     rw [← HP.out, ← e]
     exact HD3.out)
    go_wp2_with (first | refine wpList_load_row rfl 54 _ rfl w4.heap.size rfl 54 X (0, 0) _ HK5.out Tryz.underlying54 rfl HX2.out ?_ | refine wpList_load_row rfl 54 _ rfl w.heap.size rfl 54 I (0, 0) _ HE5.out.box Tryz.underlying54 rfl HNF.out ?_)
    exact enc_leaf HR.out rfl rfl HE5.out.bel
   | false =>
    go_wp2_with (first | refine wpList_load_row rfl 54 _ rfl w4.heap.size rfl 54 X (0, 0) _ HK5.out Tryz.underlying54 rfl HX2.out ?_ | refine wpList_load_row rfl 54 _ rfl w.heap.size rfl 54 I (0, 0) _ HE5.out.box Tryz.underlying54 rfl HNF.out ?_)
    go_light
    go_roundg (4 - (j + 1))
    case measure => have := HG.out; omega
    case rel => exact ⟨j + 1, by have := HG.out; omega, by go_num, wall (fun k hk => by
     rcases Nat.lt_or_ge k j with h | h
     ·exact HN.out k h
     ·have : k = j := by omega
      subst this
      exact fun e => of_decide_eq_false HQ.out e.symm), HE5, HW5⟩
  ·obtain rfl : j = 4 := by omega
   have HEE0 := wall (show p = encS i (sOf i.op) by rw [← HP.out]; exact enc_else HN.out)
   have hcop : wr.cell? ⟨w.heap.size, 0, none⟩ = some (.int .u8 (i.op : Int)) := by rw [HE.out.box.cell, ← HII.out]; rfl
   have HSM := wall (fun s (h : sOf i.op = some s) => tab_bounds _ (sOf_mem h).1)
   have HSO0 := wall (fun W => shapeOf_any i.op i.op W rfl HI.out.op)
   obtain ⟨so, hso⟩ : ∃ y, sOf i.op = y := ⟨_, rfl⟩
   have HSO := wall (show ∀ W, Calls Tryz.prog 86 #[.int .u8 (i.op : Int)] W (fun e w' => e = .returned (shV so) ∧ Below W.heap.size W w') by rw [← hso]; exact HSO0.out)
   rw [hso] at HEE0 HSM
   clear HSO0 hso HN HW HG HP
   cases so with
   | none =>
    go_wp2_with fail
    (with_reducible refine (HSO.out _).mono ?_); rintro e w4 ⟨rfl, hB4⟩
    have HBB := wall (HE.out.old hB4).bel
    have hle := HBB.out.size
    simp only [shV, ky, Option.getD_none, Option.isSome_none]
    go_wp2_with fail
    exact enc_leaf HEE0.out rfl rfl (by (repeat' (first | with_reducible (first | exact HBB.out | refine Below.setCell ?_ ?_ _ | refine Below.alloc ?_ ?_ _ | refine Below.drew ?_ | refine below_drewN ?_ _ | exact Nat.le_refl _) | (simp; done) | (simp; omega) | omega)))
   | some s =>
    obtain ⟨c, f3, f7⟩ := s
    have HEE := HEE0
    obtain ⟨b1, b2, b3⟩ := HSM.out (c, f3, f7) rfl
    have HSB := wall (And.intro b1 (And.intro b2 b3))
    clear HEE0 HSM b1 b2 b3
    go_wp2_with fail
    (with_reducible refine (HSO.out _).mono ?_); rintro e w4 ⟨rfl, hB4⟩
    have HE4 := wall (HE.out.old hB4)
    clear hB4 HE hcop HSO
    simp only [shV, ky, Option.getD_some, Option.isSome_some]
    go_upto_region 11 with fail
    obtain ⟨w5, hw5⟩ : ∃ W, W = w4.alloc (.cells #[.int .u32 (c : Int), .int .u32 (f3 : Int), .int .u32 (f7 : Int)] 186) := ⟨_, rfl⟩
    have HE5 := wall (show Ew w I w5 from HE4.out.old (by rw [hw5]; exact (Below.refl _ _).alloc (Nat.le_refl _) _))
    have HS5 := wall (show Blk w5 w4.heap.size 186 #[.int .u32 (c : Int), .int .u32 (f3 : Int), .int .u32 (f7 : Int)] by rw [hw5]; exact Blk.new _ _ _)
    obtain ⟨g8, hg8⟩ : ∃ y, w4.heap.size = y := ⟨_, rfl⟩
    rw [← hw5]
    rw [hg8] at HS5 ⊢
    clear hw5 hg8 HE4
    have hs0 : w5.cell? ⟨g8, 0, none⟩ = some (.int .u32 (c : Int)) := HS5.out.cell 0
    have hs1 : w5.cell? ⟨g8, 1, none⟩ = some (.int .u32 (f3 : Int)) := HS5.out.cell 1
    have hs2 : w5.cell? ⟨g8, 2, none⟩ = some (.int .u32 (f7 : Int)) := HS5.out.cell 2
    have hb := HE5.out.box
    rw [← HII.out] at hb
    have hi0 : w5.cell? ⟨w.heap.size, 0, none⟩ = some (.int .u8 (i.op : Int)) := hb.cell 0
    have hi1 : w5.cell? ⟨w.heap.size, 1, none⟩ = some (.int .u8 (i.rd : Int)) := hb.cell 1
    have hi2 : w5.cell? ⟨w.heap.size, 2, none⟩ = some (.int .u8 (i.a : Int)) := hb.cell 2
    have hi3 : w5.cell? ⟨w.heap.size, 3, none⟩ = some (.int .u8 (i.b : Int)) := hb.cell 3
    have hi4 : w5.cell? ⟨w.heap.size, 4, none⟩ = some (.int .u32 (i.imm : Int)) := hb.cell 4
    have hi5 : w5.cell? ⟨w.heap.size, 5, none⟩ = some (.int .u16 (i.csr : Int)) := hb.cell 5
    clear hb
    have l1 := HI.out.rd
    have l2 := HI.out.a
    have l3 := HI.out.b
    have l4 := HI.out.imm
    have l5 := HI.out.csr
    obtain ⟨b1, b2, b3⟩ := HSB.out
    have HWL := wall (word_lt (c, f3, f7) i HI.out b1 b2 b3)
    have HW0 := wall (show word0 (c, f3, f7) i = ((c ||| i.rd * 128) ||| i.a * 32768) ||| i.b * 1048576 from rfl)
    obtain ⟨y1, hy1⟩ : ∃ y, c ||| i.rd * 128 = y := ⟨_, rfl⟩
    obtain ⟨y2, hy2⟩ : ∃ y, y1 ||| i.a * 32768 = y := ⟨_, rfl⟩
    obtain ⟨y3, hy3⟩ : ∃ y, y2 ||| i.b * 1048576 = y := ⟨_, rfl⟩
    obtain ⟨o1, n1⟩ := or_z c (i.rd * 128) y1 (az := (c : Int)) (bz := (i.rd : Int) * 128) rfl (by omega) hy1 (by omega) (by omega)
    obtain ⟨o2, n2⟩ := or_z y1 (i.a * 32768) y2 (az := (y1 : Int)) (bz := (i.a : Int) * 32768) rfl (by omega) hy2 n1 (by omega)
    obtain ⟨o3, n3⟩ := or_z y2 (i.b * 1048576) y3 (az := (y2 : Int)) (bz := (i.b : Int) * 1048576) rfl (by omega) hy3 n2 (by omega)
    rw [hy1, hy2, hy3] at HW0
    have m1 : (i.rd : Int) * 128 % 4294967296 = (i.rd : Int) * 128 := by omega
    have m2 : (i.a : Int) * 32768 % 4294967296 = (i.a : Int) * 32768 := by omega
    have m3 : (i.b : Int) * 1048576 % 4294967296 = (i.b : Int) * 1048576 := by omega
    have k1 : (i.rd : Int) % 4294967296 = (i.rd : Int) := by omega
    have k2 : (i.a : Int) % 4294967296 = (i.a : Int) := by omega
    have k3 : (i.b : Int) % 4294967296 = (i.b : Int) := by omega
    clear hy1 hy2 hy3 n1 n2
    go_upto_region 13 with fail
    have HYL := wall n3
    have HIM := wall l4
    by_cases A : c = 55 ∨ c = 23 ∨ c = 111
    ·have HW1 := wall (show word1 (c, f3, f7) i = y3 by rw [← HW0.out]; unfold word1; rw [if_pos A])
     clear HW0 m1 m2 m3 k1 k2 k3 o1 o2 o3
     by_cases h111 : (c : Int) = 111
     ·have HWZ := wall (show word (c, f3, f7) i = y3 ||| (((cut i.imm 20 1 * 2147483648 ||| cut i.imm 1 10 * 2097152) ||| cut i.imm 11 1 * 1048576) ||| cut i.imm 12 8 * 4096) by
       rw [← HW1.out]
       unfold word
       simp only
       rw [if_neg (by omega), if_pos (by omega)])
      have HC1 := wall (fun W => bits_any i.imm 20 1 i.imm 20 1 W rfl rfl rfl HIM.out (by decide) (by decide))
      have hx1 := cut_lt i.imm 20 1
      obtain ⟨x1, h1⟩ : ∃ y, cut i.imm 20 1 = y := ⟨_, rfl⟩
      rw [h1] at hx1 HC1 HWZ
      have HC2 := wall (fun W => bits_any i.imm 1 10 i.imm 1 10 W rfl rfl rfl HIM.out (by decide) (by decide))
      have hx2 := cut_lt i.imm 1 10
      obtain ⟨x2, h2⟩ : ∃ y, cut i.imm 1 10 = y := ⟨_, rfl⟩
      rw [h2] at hx2 HC2 HWZ
      have HC3 := wall (fun W => bits_any i.imm 11 1 i.imm 11 1 W rfl rfl rfl HIM.out (by decide) (by decide))
      have hx3 := cut_lt i.imm 11 1
      obtain ⟨x3, h3⟩ : ∃ y, cut i.imm 11 1 = y := ⟨_, rfl⟩
      rw [h3] at hx3 HC3 HWZ
      have HC4 := wall (fun W => bits_any i.imm 12 8 i.imm 12 8 W rfl rfl rfl HIM.out (by decide) (by decide))
      have hx4 := cut_lt i.imm 12 8
      obtain ⟨x4, h4⟩ : ∃ y, cut i.imm 12 8 = y := ⟨_, rfl⟩
      rw [h4] at hx4 HC4 HWZ
      clear h1 h2 h3 h4
      obtain ⟨v2, hv2⟩ : ∃ y, x1 * 2147483648 ||| x2 * 2097152 = y := ⟨_, rfl⟩
      obtain ⟨q2, r2⟩ := or_z (x1 * 2147483648) (x2 * 2097152) v2 (az := (x1 : Int) * 2147483648) (bz := (x2 : Int) * 2097152) (by first | rfl | omega) (by omega) hv2 (by omega) (by omega)
      obtain ⟨v3, hv3⟩ : ∃ y, v2 ||| x3 * 1048576 = y := ⟨_, rfl⟩
      obtain ⟨q3, r3⟩ := or_z (v2) (x3 * 1048576) v3 (az := (v2 : Int)) (bz := (x3 : Int) * 1048576) (by first | rfl | omega) (by omega) hv3 r2 (by omega)
      obtain ⟨v4, hv4⟩ : ∃ y, v3 ||| x4 * 4096 = y := ⟨_, rfl⟩
      obtain ⟨q4, r4⟩ := or_z (v3) (x4 * 4096) v4 (az := (v3 : Int)) (bz := (x4 : Int) * 4096) (by first | rfl | omega) (by omega) hv4 r3 (by omega)
      obtain ⟨z, hz⟩ : ∃ y, y3 ||| v4 = y := ⟨_, rfl⟩
      obtain ⟨o5, n5⟩ := or_z y3 v4 z (az := (y3 : Int)) (bz := (v4 : Int)) rfl rfl hz HYL.out r4
      have HZW := wall (show word (c, f3, f7) i = z by rw [HWZ.out, hv2, hv3, hv4, hz])
      have HZL := wall n5
      have m1 : (x1 : Int) * 2147483648 % 4294967296 = (x1 : Int) * 2147483648 := by omega
      have m2 : (x2 : Int) * 2097152 % 4294967296 = (x2 : Int) * 2097152 := by omega
      have m3 : (x3 : Int) * 1048576 % 4294967296 = (x3 : Int) * 1048576 := by omega
      have m4 : (x4 : Int) * 4096 % 4294967296 = (x4 : Int) * 4096 := by omega
      clear HWZ hz n5 hv2 r2 hv3 r3 hv4 r4 hx1 hx2 hx3 hx4
      go_wp2_with fail
      (with_reducible refine (HC1.out _).mono ?_); rintro e W1 ⟨rfl, d1, rfl⟩
      go_wp2_with fail
      (with_reducible refine (HC2.out _).mono ?_); rintro e W1 ⟨rfl, d2, rfl⟩
      go_wp2_with fail
      (with_reducible refine (HC3.out _).mono ?_); rintro e W1 ⟨rfl, d3, rfl⟩
      go_wp2_with fail
      (with_reducible refine (HC4.out _).mono ?_); rintro e W1 ⟨rfl, d4, rfl⟩
      go_upto_region 33 with fail
      obtain ⟨⟨x, ok⟩, hx⟩ : ∃ y, dec z = y := ⟨_, rfl⟩
      have HPX := wall (show p = if (x, ok) = (i, true) then (z, true) else (0, false) by rw [HEE.out, encS_some, HZW.out, hx])
      have HDC0 := wall (fun W => decode_any z z W rfl HZL.out)
      rw [hx] at HDC0
      have HDC := wall (show ∀ W, Calls Tryz.prog 85 #[.int .u32 (z : Int)] W (fun e w' => e = .returned (.tuple #[.agg (inC x), .bool ok]) ∧ Below W.heap.size W w') from HDC0.out)
      have HDX := wall (HIE.out x)
      have HX1 := wall (inC_one x)
      have HX2 := wall (show (Tryz.prog.info? 54).map (·.size) = some (inC x).size from in_info)
      have HX3 := wall (show (inC zIn).size = (inC x).size from rfl)
      obtain ⟨X, hX⟩ : ∃ y, inC x = y := ⟨_, rfl⟩
      obtain ⟨q, hq⟩ : ∃ y, decide (x = i) = y := ⟨_, rfl⟩
      have HQ := wall hq
      rw [hX, hq] at HDX
      rw [hX] at HX1 HX2 HX3 HDC
      clear hx hX hq HDC0 HZW
      go_wp2_with fail
      (with_reducible refine (HDC.out _).mono ?_); rintro e w6 ⟨rfl, hB6⟩
      have HE6 := wall (show Ew w I w6 from HE5.out.old (by first | exact hB6 | exact below_then (below_drewN (Below.refl _ _) _) hB6 (Nat.le_refl _)))
      clear hB6 HDC HE5
      try simp only [Act.put, rpA, rpB, rpC]
      go_upto_region 34 with (refine wpList_new_row rfl 54 (.tmp 12) (.tmp 163) rfl w6.heap.size X rfl rfl 54 (inC zIn) (Blk.new _ _ _) HX2.out HX3.out HX1.out w6.heap.size w6 ((Below.refl _ w6).alloc (Nat.le_refl _) _) (Nat.le_refl _) ?_; intro w7 K7 B7)
      have HK7 := wall K7.out
      have HE7 := wall (HE6.out.old B7.out)
      have heq := HDX.out
      clear K7 B7 HE6
      try simp only [Act.put, rpA, rpB, rpC]
      cases ok with
      | false =>
       have HR := wall (show p = (0, false) by rw [HPX.out, if_neg (fun e => by cases e)])
       go_wp2_with fail
       exact enc_leaf HR.out rfl rfl HE7.out.bel
      | true =>
       cases q with
       | true =>
        have HR := wall (show p = (z, true) by rw [HPX.out, of_decide_eq_true HQ.out, if_pos rfl])
        go_wp2_with (first | refine load_row_g (by rfl) 54 _ rfl w6.heap.size rfl 54 X _ HK7.out Tryz.underlying54 rfl HX2.out ?_ | refine load_row_g (by rfl) 54 _ rfl w.heap.size rfl 54 I _ HE7.out.box Tryz.underlying54 rfl HNF.out ?_)
        exact enc_leaf HR.out rfl rfl HE7.out.bel
       | false =>
        have HR := wall (show p = (0, false) by rw [HPX.out, if_neg (fun e => of_decide_eq_false HQ.out (Prod.mk.inj e).1)])
        go_wp2_with (first | refine load_row_g (by rfl) 54 _ rfl w6.heap.size rfl 54 X _ HK7.out Tryz.underlying54 rfl HX2.out ?_ | refine load_row_g (by rfl) 54 _ rfl w.heap.size rfl 54 I _ HE7.out.box Tryz.underlying54 rfl HNF.out ?_)
        exact enc_leaf HR.out rfl rfl HE7.out.bel
     ·have HWZ := wall (show word (c, f3, f7) i = y3 ||| (i.imm - i.imm % 4096) by
       rw [← HW1.out]
       unfold word
       simp only
       rw [if_pos (by omega)])
      obtain ⟨u, hu⟩ : ∃ y, i.imm - i.imm % 4096 = y := ⟨_, rfl⟩
      obtain ⟨z, hz⟩ : ∃ y, y3 ||| u = y := ⟨_, rfl⟩
      have hnl := not_low l4
      rw [hu] at hnl
      obtain ⟨o5, n5⟩ := or_z y3 u z (az := (y3 : Int)) (bz := (u : Int)) rfl rfl hz n3 (by omega)
      have HZW := wall (show word (c, f3, f7) i = z by rw [HWZ.out, hu, hz])
      have HZL := wall n5
      clear HWZ hu hz n5 HW1 l1 l2 l3 l4 l5 b1 b2 b3 n3
      by_cases h55 : (c : Int) = 55
      ·skip
       obtain ⟨⟨x, ok⟩, hx⟩ : ∃ y, dec z = y := ⟨_, rfl⟩
       have HPX := wall (show p = if (x, ok) = (i, true) then (z, true) else (0, false) by rw [HEE.out, encS_some, HZW.out, hx])
       have HDC0 := wall (fun W => decode_any z z W rfl HZL.out)
       rw [hx] at HDC0
       have HDC := wall (show ∀ W, Calls Tryz.prog 85 #[.int .u32 (z : Int)] W (fun e w' => e = .returned (.tuple #[.agg (inC x), .bool ok]) ∧ Below W.heap.size W w') from HDC0.out)
       have HDX := wall (HIE.out x)
       have HX1 := wall (inC_one x)
       have HX2 := wall (show (Tryz.prog.info? 54).map (·.size) = some (inC x).size from in_info)
       have HX3 := wall (show (inC zIn).size = (inC x).size from rfl)
       obtain ⟨X, hX⟩ : ∃ y, inC x = y := ⟨_, rfl⟩
       obtain ⟨q, hq⟩ : ∃ y, decide (x = i) = y := ⟨_, rfl⟩
       have HQ := wall hq
       rw [hX, hq] at HDX
       rw [hX] at HX1 HX2 HX3 HDC
       clear hx hX hq HDC0 HZW
       go_wp2_with fail
       (with_reducible refine (HDC.out _).mono ?_); rintro e w6 ⟨rfl, hB6⟩
       have HE6 := wall (show Ew w I w6 from HE5.out.old (by first | exact hB6 | exact below_then (below_drewN (Below.refl _ _) _) hB6 (Nat.le_refl _)))
       clear hB6 HDC HE5
       try simp only [Act.put, rpA, rpB, rpC]
       go_upto_region 34 with (refine wpList_new_row rfl 54 (.tmp 12) (.tmp 163) rfl w6.heap.size X rfl rfl 54 (inC zIn) (Blk.new _ _ _) HX2.out HX3.out HX1.out w6.heap.size w6 ((Below.refl _ w6).alloc (Nat.le_refl _) _) (Nat.le_refl _) ?_; intro w7 K7 B7)
       have HK7 := wall K7.out
       have HE7 := wall (HE6.out.old B7.out)
       have heq := HDX.out
       clear K7 B7 HE6
       try simp only [Act.put, rpA, rpB, rpC]
       cases ok with
       | false =>
        have HR := wall (show p = (0, false) by rw [HPX.out, if_neg (fun e => by cases e)])
        go_wp2_with fail
        exact enc_leaf HR.out rfl rfl HE7.out.bel
       | true =>
        cases q with
        | true =>
         have HR := wall (show p = (z, true) by rw [HPX.out, of_decide_eq_true HQ.out, if_pos rfl])
         go_wp2_with (first | refine load_row_g (by rfl) 54 _ rfl w6.heap.size rfl 54 X _ HK7.out Tryz.underlying54 rfl HX2.out ?_ | refine load_row_g (by rfl) 54 _ rfl w.heap.size rfl 54 I _ HE7.out.box Tryz.underlying54 rfl HNF.out ?_)
         exact enc_leaf HR.out rfl rfl HE7.out.bel
        | false =>
         have HR := wall (show p = (0, false) by rw [HPX.out, if_neg (fun e => of_decide_eq_false HQ.out (Prod.mk.inj e).1)])
         go_wp2_with (first | refine load_row_g (by rfl) 54 _ rfl w6.heap.size rfl 54 X _ HK7.out Tryz.underlying54 rfl HX2.out ?_ | refine load_row_g (by rfl) 54 _ rfl w.heap.size rfl 54 I _ HE7.out.box Tryz.underlying54 rfl HNF.out ?_)
         exact enc_leaf HR.out rfl rfl HE7.out.bel
      ·have h23 : (c : Int) = 23 := by omega
       obtain ⟨⟨x, ok⟩, hx⟩ : ∃ y, dec z = y := ⟨_, rfl⟩
       have HPX := wall (show p = if (x, ok) = (i, true) then (z, true) else (0, false) by rw [HEE.out, encS_some, HZW.out, hx])
       have HDC0 := wall (fun W => decode_any z z W rfl HZL.out)
       rw [hx] at HDC0
       have HDC := wall (show ∀ W, Calls Tryz.prog 85 #[.int .u32 (z : Int)] W (fun e w' => e = .returned (.tuple #[.agg (inC x), .bool ok]) ∧ Below W.heap.size W w') from HDC0.out)
       have HDX := wall (HIE.out x)
       have HX1 := wall (inC_one x)
       have HX2 := wall (show (Tryz.prog.info? 54).map (·.size) = some (inC x).size from in_info)
       have HX3 := wall (show (inC zIn).size = (inC x).size from rfl)
       obtain ⟨X, hX⟩ : ∃ y, inC x = y := ⟨_, rfl⟩
       obtain ⟨q, hq⟩ : ∃ y, decide (x = i) = y := ⟨_, rfl⟩
       have HQ := wall hq
       rw [hX, hq] at HDX
       rw [hX] at HX1 HX2 HX3 HDC
       clear hx hX hq HDC0 HZW
       go_wp2_with fail
       (with_reducible refine (HDC.out _).mono ?_); rintro e w6 ⟨rfl, hB6⟩
       have HE6 := wall (show Ew w I w6 from HE5.out.old (by first | exact hB6 | exact below_then (below_drewN (Below.refl _ _) _) hB6 (Nat.le_refl _)))
       clear hB6 HDC HE5
       try simp only [Act.put, rpA, rpB, rpC]
       go_upto_region 34 with (refine wpList_new_row rfl 54 (.tmp 12) (.tmp 163) rfl w6.heap.size X rfl rfl 54 (inC zIn) (Blk.new _ _ _) HX2.out HX3.out HX1.out w6.heap.size w6 ((Below.refl _ w6).alloc (Nat.le_refl _) _) (Nat.le_refl _) ?_; intro w7 K7 B7)
       have HK7 := wall K7.out
       have HE7 := wall (HE6.out.old B7.out)
       have heq := HDX.out
       clear K7 B7 HE6
       try simp only [Act.put, rpA, rpB, rpC]
       cases ok with
       | false =>
        have HR := wall (show p = (0, false) by rw [HPX.out, if_neg (fun e => by cases e)])
        go_wp2_with fail
        exact enc_leaf HR.out rfl rfl HE7.out.bel
       | true =>
        cases q with
        | true =>
         have HR := wall (show p = (z, true) by rw [HPX.out, of_decide_eq_true HQ.out, if_pos rfl])
         go_wp2_with (first | refine load_row_g (by rfl) 54 _ rfl w6.heap.size rfl 54 X _ HK7.out Tryz.underlying54 rfl HX2.out ?_ | refine load_row_g (by rfl) 54 _ rfl w.heap.size rfl 54 I _ HE7.out.box Tryz.underlying54 rfl HNF.out ?_)
         exact enc_leaf HR.out rfl rfl HE7.out.bel
        | false =>
         have HR := wall (show p = (0, false) by rw [HPX.out, if_neg (fun e => of_decide_eq_false HQ.out (Prod.mk.inj e).1)])
         go_wp2_with (first | refine load_row_g (by rfl) 54 _ rfl w6.heap.size rfl 54 X _ HK7.out Tryz.underlying54 rfl HX2.out ?_ | refine load_row_g (by rfl) 54 _ rfl w.heap.size rfl 54 I _ HE7.out.box Tryz.underlying54 rfl HNF.out ?_)
         exact enc_leaf HR.out rfl rfl HE7.out.bel
    ·have h55 : ¬ (c : Int) = 55 := by omega
     have hb55 : ((c : Int) == 55) = false := by simpa using h55
     have hn55 : ((c : Int) != 55) = true := by simpa using h55
     have h23 : ¬ (c : Int) = 23 := by omega
     have hb23 : ((c : Int) == 23) = false := by simpa using h23
     have hn23 : ((c : Int) != 23) = true := by simpa using h23
     have h111 : ¬ (c : Int) = 111 := by omega
     have hb111 : ((c : Int) == 111) = false := by simpa using h111
     have hn111 : ((c : Int) != 111) = true := by simpa using h111
     obtain ⟨y4, hy4⟩ : ∃ y, f3 * 4096 ||| f7 * 33554432 = y := ⟨_, rfl⟩
     obtain ⟨y5, hy5⟩ : ∃ y, y3 ||| y4 = y := ⟨_, rfl⟩
     have HW1 := wall (show word1 (c, f3, f7) i = y5 by
      unfold word1
      rw [if_neg A, HW0.out]
      simp only
      rw [hy4, hy5])
     obtain ⟨o4, n4⟩ := or_z (f3 * 4096) (f7 * 33554432) y4 (az := (f3 : Int) * 4096) (bz := (f7 : Int) * 33554432) (by omega) (by omega) hy4 (by omega) (by omega)
     obtain ⟨o5, n5⟩ := or_z y3 y4 y5 (az := (y3 : Int)) (bz := (y4 : Int)) rfl rfl hy5 n3 n4
     have m4 : (f3 : Int) * 4096 % 4294967296 = (f3 : Int) * 4096 := by omega
     have m5 : (f7 : Int) * 33554432 % 4294967296 = (f7 : Int) * 33554432 := by omega
     have HYL5 := wall n5
     obtain ⟨Z, hZ⟩ : ∃ y, word (c, f3, f7) i = y := ⟨_, rfl⟩
     have HZW := wall hZ
     rw [hZ] at HWL
     clear HW0 m1 m2 m3 k1 k2 k3 o1 o2 o3 hy4 hy5 n4 hZ
     go_upto_block 2 with fail
     clear o4 o5 m4 m5
     go_cut [11] from 81 to 159 (fun v w' => v = .int .u32 (Z : Int) ∧ ∃ d, w' = w5.drewN d)
     case first =>
      by_cases h99 : (c : Int) = 99
      ·skip
       have HWZ := wall (show word (c, f3, f7) i = y5 ||| (((cut i.imm 12 1 * 2147483648 ||| cut i.imm 5 6 * 33554432) ||| cut i.imm 1 4 * 256) ||| cut i.imm 11 1 * 128) by
        rw [← HW1.out]
        unfold word
        simp only
        repeat (first | rw [if_pos (by omega)] | rw [if_neg (by omega)]))
       have hb99 : ((c : Int) == 99) = true := by simpa using h99
       clear h99
       have HC1 := wall (fun W => bits_any i.imm 12 1 i.imm 12 1 W rfl rfl rfl HIM.out (by decide) (by decide))
       have hx1 := cut_lt i.imm 12 1
       obtain ⟨x1, h1⟩ : ∃ y, cut i.imm 12 1 = y := ⟨_, rfl⟩
       rw [h1] at hx1 HC1 HWZ
       have HC2 := wall (fun W => bits_any i.imm 5 6 i.imm 5 6 W rfl rfl rfl HIM.out (by decide) (by decide))
       have hx2 := cut_lt i.imm 5 6
       obtain ⟨x2, h2⟩ : ∃ y, cut i.imm 5 6 = y := ⟨_, rfl⟩
       rw [h2] at hx2 HC2 HWZ
       have HC3 := wall (fun W => bits_any i.imm 1 4 i.imm 1 4 W rfl rfl rfl HIM.out (by decide) (by decide))
       have hx3 := cut_lt i.imm 1 4
       obtain ⟨x3, h3⟩ : ∃ y, cut i.imm 1 4 = y := ⟨_, rfl⟩
       rw [h3] at hx3 HC3 HWZ
       have HC4 := wall (fun W => bits_any i.imm 11 1 i.imm 11 1 W rfl rfl rfl HIM.out (by decide) (by decide))
       have hx4 := cut_lt i.imm 11 1
       obtain ⟨x4, h4⟩ : ∃ y, cut i.imm 11 1 = y := ⟨_, rfl⟩
       rw [h4] at hx4 HC4 HWZ
       clear h1 h2 h3 h4
       obtain ⟨v2, hv2⟩ : ∃ y, x1 * 2147483648 ||| x2 * 33554432 = y := ⟨_, rfl⟩
       obtain ⟨q2, r2⟩ := or_z (x1 * 2147483648) (x2 * 33554432) v2 (az := (x1 : Int) * 2147483648) (bz := (x2 : Int) * 33554432) (by first | rfl | omega) (by omega) hv2 (by omega) (by omega)
       obtain ⟨v3, hv3⟩ : ∃ y, v2 ||| x3 * 256 = y := ⟨_, rfl⟩
       obtain ⟨q3, r3⟩ := or_z (v2) (x3 * 256) v3 (az := (v2 : Int)) (bz := (x3 : Int) * 256) (by first | rfl | omega) (by omega) hv3 r2 (by omega)
       obtain ⟨v4, hv4⟩ : ∃ y, v3 ||| x4 * 128 = y := ⟨_, rfl⟩
       obtain ⟨q4, r4⟩ := or_z (v3) (x4 * 128) v4 (az := (v3 : Int)) (bz := (x4 : Int) * 128) (by first | rfl | omega) (by omega) hv4 r3 (by omega)
       obtain ⟨z, hz⟩ : ∃ y, y5 ||| v4 = y := ⟨_, rfl⟩
       obtain ⟨o5, n5⟩ := or_z y5 v4 z (az := (y5 : Int)) (bz := (v4 : Int)) rfl rfl hz HYL5.out r4
       have HZE := wall (show z = Z by rw [← HZW.out, HWZ.out, hv2, hv3, hv4, hz])
       have m1 : (x1 : Int) * 2147483648 % 4294967296 = (x1 : Int) * 2147483648 := by omega
       have m2 : (x2 : Int) * 33554432 % 4294967296 = (x2 : Int) * 33554432 := by omega
       have m3 : (x3 : Int) * 256 % 4294967296 = (x3 : Int) * 256 := by omega
       have m4 : (x4 : Int) * 128 % 4294967296 = (x4 : Int) * 128 := by omega
       clear HWZ hz n5 hv2 r2 hv3 r3 hv4 r4 hx1 hx2 hx3 hx4
       go_wp2_with fail
       (with_reducible refine (HC1.out _).mono ?_); rintro e W1 ⟨rfl, d1, rfl⟩
       go_wp2_with fail
       (with_reducible refine (HC2.out _).mono ?_); rintro e W1 ⟨rfl, d2, rfl⟩
       go_wp2_with fail
       (with_reducible refine (HC3.out _).mono ?_); rintro e W1 ⟨rfl, d3, rfl⟩
       go_wp2_with fail
       (with_reducible refine (HC4.out _).mono ?_); rintro e W1 ⟨rfl, d4, rfl⟩
       go_wp2_with fail
       go_meet
       exact ⟨by rw [HZE.out], _, rfl⟩
      ·skip
       by_cases h35 : (c : Int) = 35
       ·skip
        have HWZ := wall (show word (c, f3, f7) i = y5 ||| (cut i.imm 5 7 * 33554432 ||| cut i.imm 0 5 * 128) by
         rw [← HW1.out]
         unfold word
         simp only
         repeat (first | rw [if_pos (by omega)] | rw [if_neg (by omega)]))
        have hb35 : ((c : Int) == 35) = true := by simpa using h35
        clear h35
        have HC1 := wall (fun W => bits_any i.imm 5 7 i.imm 5 7 W rfl rfl rfl HIM.out (by decide) (by decide))
        have hx1 := cut_lt i.imm 5 7
        obtain ⟨x1, h1⟩ : ∃ y, cut i.imm 5 7 = y := ⟨_, rfl⟩
        rw [h1] at hx1 HC1 HWZ
        have HC2 := wall (fun W => bits_any i.imm 0 5 i.imm 0 5 W rfl rfl rfl HIM.out (by decide) (by decide))
        have hx2 := cut_lt i.imm 0 5
        obtain ⟨x2, h2⟩ : ∃ y, cut i.imm 0 5 = y := ⟨_, rfl⟩
        rw [h2] at hx2 HC2 HWZ
        clear h1 h2
        obtain ⟨v2, hv2⟩ : ∃ y, x1 * 33554432 ||| x2 * 128 = y := ⟨_, rfl⟩
        obtain ⟨q2, r2⟩ := or_z (x1 * 33554432) (x2 * 128) v2 (az := (x1 : Int) * 33554432) (bz := (x2 : Int) * 128) (by first | rfl | omega) (by omega) hv2 (by omega) (by omega)
        obtain ⟨z, hz⟩ : ∃ y, y5 ||| v2 = y := ⟨_, rfl⟩
        obtain ⟨o5, n5⟩ := or_z y5 v2 z (az := (y5 : Int)) (bz := (v2 : Int)) rfl rfl hz HYL5.out r2
        have HZE := wall (show z = Z by rw [← HZW.out, HWZ.out, hv2, hz])
        have m1 : (x1 : Int) * 33554432 % 4294967296 = (x1 : Int) * 33554432 := by omega
        have m2 : (x2 : Int) * 128 % 4294967296 = (x2 : Int) * 128 := by omega
        clear HWZ hz n5 hv2 r2 hx1 hx2
        go_wp2_with fail
        (with_reducible refine (HC1.out _).mono ?_); rintro e W1 ⟨rfl, d1, rfl⟩
        go_wp2_with fail
        (with_reducible refine (HC2.out _).mono ?_); rintro e W1 ⟨rfl, d2, rfl⟩
        go_wp2_with fail
        go_meet
        exact ⟨by rw [HZE.out], _, rfl⟩
       ·skip
        by_cases h115 : (c : Int) = 115
        ·skip
         obtain ⟨u, hu⟩ : ∃ y, i.csr * 1048576 % 4294967296 = y := ⟨_, rfl⟩
         obtain ⟨z, hz⟩ : ∃ y, y5 ||| u = y := ⟨_, rfl⟩
         have mu : (i.csr : Int) * 1048576 % 4294967296 = (u : Int) := by omega
         have kc : (i.csr : Int) % 4294967296 = (i.csr : Int) := by omega
         obtain ⟨o6, n6⟩ := or_z y5 u z (az := (y5 : Int)) (bz := (u : Int)) rfl rfl hz HYL5.out (by omega)
         by_cases h46 : 46 ≤ (i.op : Int)
         ·obtain ⟨v, hv⟩ : ∃ y, i.imm * 32768 % 4294967296 = y := ⟨_, rfl⟩
          obtain ⟨z2, hz2⟩ : ∃ y, z ||| v = y := ⟨_, rfl⟩
          have mv : (i.imm : Int) * 32768 % 4294967296 = (v : Int) := by omega
          obtain ⟨o7, n7⟩ := or_z z v z2 (az := (z : Int)) (bz := (v : Int)) rfl rfl hz2 n6 (by omega)
          have HWZ := wall (show word (c, f3, f7) i = (y5 ||| i.csr * 1048576 % 4294967296) ||| i.imm * 32768 % 4294967296 by
           rw [← HW1.out]
           unfold word
           simp only
           repeat (first | rw [if_pos (by omega)] | rw [if_neg (by omega)]))
          have hb115 : ((c : Int) == 115) = true := by simpa using h115
          clear h115
          have HZE := wall (show z2 = Z by rw [← HZW.out, HWZ.out, hu, hz, hv, hz2])
          clear HWZ hu hz hv hz2 n6 n7 l5
          go_wp2_with fail
          go_meet
          exact ⟨by rw [HZE.out], 0, rfl⟩
         ·skip
          have HWZ := wall (show word (c, f3, f7) i = y5 ||| i.csr * 1048576 % 4294967296 by
           rw [← HW1.out]
           unfold word
           simp only
           repeat (first | rw [if_pos (by omega)] | rw [if_neg (by omega)]))
          have hb115 : ((c : Int) == 115) = true := by simpa using h115
          clear h115
          have HZE := wall (show z = Z by rw [← HZW.out, HWZ.out, hu, hz])
          clear HWZ hu hz n6 l5
          go_wp2_with fail
          go_meet
          exact ⟨by rw [HZE.out], 0, rfl⟩
        ·skip
         by_cases h19 : (c : Int) = 19
         ·skip
          obtain ⟨u, hu⟩ : ∃ y, i.imm * 1048576 % 4294967296 = y := ⟨_, rfl⟩
          obtain ⟨z, hz⟩ : ∃ y, y5 ||| u = y := ⟨_, rfl⟩
          have mu : (i.imm : Int) * 1048576 % 4294967296 = (u : Int) := by omega
          obtain ⟨o6, n6⟩ := or_z y5 u z (az := (y5 : Int)) (bz := (u : Int)) rfl rfl hz HYL5.out (by omega)
          have HWZ := wall (show word (c, f3, f7) i = y5 ||| i.imm * 1048576 % 4294967296 by
           rw [← HW1.out]
           unfold word
           simp only
           repeat (first | rw [if_pos (by omega)] | rw [if_neg (by omega)]))
          have hb19 : ((c : Int) == 19) = true := by simpa using h19
          clear h19
          have HZE := wall (show z = Z by rw [← HZW.out, HWZ.out, hu, hz])
          clear HWZ hu hz n6
          go_wp2_with fail
          go_meet
          exact ⟨by rw [HZE.out], 0, rfl⟩
         ·skip
          by_cases h3 : (c : Int) = 3
          ·skip
           obtain ⟨u, hu⟩ : ∃ y, i.imm * 1048576 % 4294967296 = y := ⟨_, rfl⟩
           obtain ⟨z, hz⟩ : ∃ y, y5 ||| u = y := ⟨_, rfl⟩
           have mu : (i.imm : Int) * 1048576 % 4294967296 = (u : Int) := by omega
           obtain ⟨o6, n6⟩ := or_z y5 u z (az := (y5 : Int)) (bz := (u : Int)) rfl rfl hz HYL5.out (by omega)
           have HWZ := wall (show word (c, f3, f7) i = y5 ||| i.imm * 1048576 % 4294967296 by
            rw [← HW1.out]
            unfold word
            simp only
            repeat (first | rw [if_pos (by omega)] | rw [if_neg (by omega)]))
           have hb3 : ((c : Int) == 3) = true := by simpa using h3
           clear h3
           have HZE := wall (show z = Z by rw [← HZW.out, HWZ.out, hu, hz])
           clear HWZ hu hz n6
           go_wp2_with fail
           go_meet
           exact ⟨by rw [HZE.out], 0, rfl⟩
          ·skip
           by_cases h103 : (c : Int) = 103
           ·skip
            obtain ⟨u, hu⟩ : ∃ y, i.imm * 1048576 % 4294967296 = y := ⟨_, rfl⟩
            obtain ⟨z, hz⟩ : ∃ y, y5 ||| u = y := ⟨_, rfl⟩
            have mu : (i.imm : Int) * 1048576 % 4294967296 = (u : Int) := by omega
            obtain ⟨o6, n6⟩ := or_z y5 u z (az := (y5 : Int)) (bz := (u : Int)) rfl rfl hz HYL5.out (by omega)
            have HWZ := wall (show word (c, f3, f7) i = y5 ||| i.imm * 1048576 % 4294967296 by
             rw [← HW1.out]
             unfold word
             simp only
             repeat (first | rw [if_pos (by omega)] | rw [if_neg (by omega)]))
            have hb103 : ((c : Int) == 103) = true := by simpa using h103
            clear h103
            have HZE := wall (show z = Z by rw [← HZW.out, HWZ.out, hu, hz])
            clear HWZ hu hz n6
            go_wp2_with fail
            go_meet
            exact ⟨by rw [HZE.out], 0, rfl⟩
           ·skip
            have HWZ := wall (show word (c, f3, f7) i = y5 by
             rw [← HW1.out]
             unfold word
             simp only
             repeat (first | rw [if_pos (by omega)] | rw [if_neg (by omega)]))
            have HZE := wall (show y5 = Z by rw [← HZW.out, HWZ.out])
            clear HWZ
            go_wp2_with fail
            go_meet
            exact ⟨by rw [HZE.out], 0, rfl⟩
     case rest =>
      obtain ⟨rfl, dd, rfl⟩ := hcut
      obtain ⟨z, hz⟩ : ∃ y : Nat, y = Z := ⟨_, rfl⟩
      rw [← hz] at HZW HWL ⊢
      have HZL := HWL
      clear hz
      obtain ⟨⟨x, ok⟩, hx⟩ : ∃ y, dec z = y := ⟨_, rfl⟩
      have HPX := wall (show p = if (x, ok) = (i, true) then (z, true) else (0, false) by rw [HEE.out, encS_some, HZW.out, hx])
      have HDC0 := wall (fun W => decode_any z z W rfl HZL.out)
      rw [hx] at HDC0
      have HDC := wall (show ∀ W, Calls Tryz.prog 85 #[.int .u32 (z : Int)] W (fun e w' => e = .returned (.tuple #[.agg (inC x), .bool ok]) ∧ Below W.heap.size W w') from HDC0.out)
      have HDX := wall (HIE.out x)
      have HX1 := wall (inC_one x)
      have HX2 := wall (show (Tryz.prog.info? 54).map (·.size) = some (inC x).size from in_info)
      have HX3 := wall (show (inC zIn).size = (inC x).size from rfl)
      obtain ⟨X, hX⟩ : ∃ y, inC x = y := ⟨_, rfl⟩
      obtain ⟨q, hq⟩ : ∃ y, decide (x = i) = y := ⟨_, rfl⟩
      have HQ := wall hq
      rw [hX, hq] at HDX
      rw [hX] at HX1 HX2 HX3 HDC
      clear hx hX hq HDC0 HZW
      go_wp2_with fail
      (with_reducible refine (HDC.out _).mono ?_); rintro e w6 ⟨rfl, hB6⟩
      have HE6 := wall (show Ew w I w6 from HE5.out.old (by first | exact hB6 | exact below_then (below_drewN (Below.refl _ _) _) hB6 (Nat.le_refl _)))
      clear hB6 HDC HE5
      try simp only [Act.put, rpA, rpB, rpC]
      go_upto_region 34 with (refine wpList_new_row rfl 54 (.tmp 12) (.tmp 163) rfl w6.heap.size X rfl rfl 54 (inC zIn) (Blk.new _ _ _) HX2.out HX3.out HX1.out w6.heap.size w6 ((Below.refl _ w6).alloc (Nat.le_refl _) _) (Nat.le_refl _) ?_; intro w7 K7 B7)
      have HK7 := wall K7.out
      have HE7 := wall (HE6.out.old B7.out)
      have heq := HDX.out
      clear K7 B7 HE6
      try simp only [Act.put, rpA, rpB, rpC]
      cases ok with
      | false =>
       have HR := wall (show p = (0, false) by rw [HPX.out, if_neg (fun e => by cases e)])
       go_wp2_with fail
       exact enc_leaf HR.out rfl rfl HE7.out.bel
      | true =>
       cases q with
       | true =>
        have HR := wall (show p = (z, true) by rw [HPX.out, of_decide_eq_true HQ.out, if_pos rfl])
        go_wp2_with (first | refine load_row_g (by rfl) 54 _ rfl w6.heap.size rfl 54 X _ HK7.out Tryz.underlying54 rfl HX2.out ?_ | refine load_row_g (by rfl) 54 _ rfl w.heap.size rfl 54 I _ HE7.out.box Tryz.underlying54 rfl HNF.out ?_)
        exact enc_leaf HR.out rfl rfl HE7.out.bel
       | false =>
        have HR := wall (show p = (0, false) by rw [HPX.out, if_neg (fun e => of_decide_eq_false HQ.out (Prod.mk.inj e).1)])
        go_wp2_with (first | refine load_row_g (by rfl) 54 _ rfl w6.heap.size rfl 54 X _ HK7.out Tryz.underlying54 rfl HX2.out ?_ | refine load_row_g (by rfl) 54 _ rfl w.heap.size rfl 54 I _ HE7.out.box Tryz.underlying54 rfl HNF.out ?_)
        exact enc_leaf HR.out rfl rfl HE7.out.bel
theorem enc_lt {i : In} (hi : i.Ok) : (enc i).1 < 4294967296 := by
 unfold enc
 split
 ·decide
 ·split
  ·decide
  ·split
   ·decide
   ·split
    ·decide
    ·generalize hs : sOf i.op = s
     cases s with
     | none => exact (by decide : (0 : Nat) < 4294967296)
     | some s =>
      rw [encS_some]
      split
      ·have := tab_bounds _ (sOf_mem hs).1
       exact word_lt s i hi this.1 this.2.1 this.2.2
      ·decide
end Rv
end Go.Proofs.YtmiaabpnolebhaaGreatDoor
