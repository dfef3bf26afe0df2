/-
  Texts of this claim, joined: CorOc, CorOf.
-/
import Derived.Test.YtmiaabpnolebhaaGreatDoorJ908eff8f
import Derived.Test.YtmiaabpnolebhaaGreatDoorJ75950aa2
import Derived.Test.YtmiaabpnolebhaaGreatDoorJ02ff5914
import Derived.Test.YtmiaabpnolebhaaGreatDoorFrame
import Derived.Test.YtmiaabpnolebhaaGreatDoorJeacb6e65
set_option maxHeartbeats 4000000
set_option maxRecDepth 100000
set_option linter.unusedSimpArgs false
set_option linter.unusedVariables false
namespace Go.Proofs.YtmiaabpnolebhaaGreatDoor
open Go.RowKit

namespace Core
open Otp Sha R1 Spc Grant Rv Fla
theorem ram_take {q : List Nat} (h : q.length ≤ 1024) : (splice (List.replicate 8192 0) 0 q).take 4096 = splice z4k 0 q := by
 unfold splice z4k
 rw [List.take_zero, List.take_zero, List.nil_append, List.nil_append, Nat.zero_add, List.drop_replicate, List.drop_replicate, List.take_append, List.take_of_length_le (by omega), List.take_replicate]
 congr 2
 omega
theorem ram_drop {q : List Nat} (h : q.length ≤ 1024) : (splice (List.replicate 8192 0) 0 q).drop 4096 = z4k := by
 unfold splice z4k
 rw [List.take_zero, List.nil_append, Nat.zero_add, List.drop_replicate, List.drop_append, List.drop_of_length_le (by omega), List.nil_append, List.drop_replicate]
 congr 1
 omega
theorem numB_lt (n : Nat) : ∀ k, ∀ x ∈ numB n k, x < 256
 | 0, x, h => by cases h
 | k + 1, x, h => by
  rcases List.mem_cons.1 h with rfl | h
  ·exact Nat.mod_lt _ (by decide)
  ·exact numB_lt n k x h
structure Tw (w : World) (g f pf cc pp bb m b1 b2 b3 b4 b5 : Nat) (u : SpV) : Prop where
 sw : Sw w g f pf cc pp bb u erased z64 f64 false
 sm : Sm w m b1 b2 b3 b4 b5 u erased z64 f64
 st : u.st = 1
theorem Tw.old {w w' : World} {g f pf cc pp bb m b1 b2 b3 b4 b5 : Nat} {u : SpV} (h : Tw w g f pf cc pp bb m b1 b2 b3 b4 b5 u) (hb : Below w.heap.size w w') : Tw w' g f pf cc pp bb m b1 b2 b3 b4 b5 u := ⟨h.sw.old hb, h.sm.old hb, h.st⟩
theorem Tw.lay {w' : World} {B g m b1 b2 b4 f pf cc pp bb : Nat} {v : SpV} {q : List Nat} (h : Ly w' B g m b1 b2 b4 v 1 q (splice z4k 0 q)) (hs : Sw w' g f pf cc pp bb v erased z64 f64 false) (hq : q.length ≤ 1024) : ∃ b3 b5, Tw w' g f pf cc pp bb m b1 b2 b3 b4 b5 v ∧ B ≤ g ∧ B ≤ b1 ∧ B ≤ b2 ∧ B ≤ b4 := by
 obtain ⟨b3, b5, hF, -, -⟩ := h.ms.full
 refine ⟨b3, b5, ⟨hs, ⟨?_, f64_open⟩, h.vs⟩, h.hg, h.ms.h1, h.ms.h2, h.ms.h4⟩
 rw [h.vs, h.vr, h.vp, ram_take hq, ram_drop hq, fuL_zero]
 exact hF
theorem one_any (i : In) (hi : i.Ok) (z0 : Nat) (cd : Bool) (B : Option Addr) (lenB capB : Nat) (xs : List Nat) (C : Option Addr) (lenC capC : Nat) (ys : List Nat) (E : Option Addr) (lenE capE : Nat) (ws : List Nat) (w : World) (hS : Spans w) (hz : z0 < 4294967296)
  (hl2 : xs.length = lenB) (hm2 : lenB ≤ maxLen) (hx : Nats .u32 4294967296 w w.heap.size B xs) (hl3 : ys.length = lenC) (hm3 : lenC ≤ maxLen) (hy : Nats .u32 4294967296 w w.heap.size C ys) (hl4 : ws.length = lenE) (hm4 : lenE ≤ maxLen) (hw : Nats .u32 4294967296 w w.heap.size E ws) :
  Calls Tryz.prog 4 #[.agg (inC i), .int .u32 (z0 : Int), .bool cd, .slice B lenB capB, .slice C lenC capC, .slice E lenE capE] w (TrueB w) := by
 have HS := wall hS
 have HX := wall hx
 have HY := wall hy
 have HWS := wall hw
 have HZB := wall hz
 have HLE := wall hl4
 simp only [maxLen] at hm4
 have hmE : (lenE : Int) ≤ 9223372036854775807 := by omega
 have HEN := wall (fun W => encode_any i hi W)
 have HEL := wall (enc_lt hi)
 have HSA := wall (fun W (h2 : Nats .u32 4294967296 W W.heap.size B xs) (h3 : Nats .u32 4294967296 W W.heap.size C ys) => show Calls Tryz.prog 27 #[.int .u32 536870912, .slice B lenB capB, .slice C lenC capC] W (StartOut (csrs (regs (newC 536870912) xs lenB) ys lenC) W) from start2_any 536870912 (by decide) B lenB capB xs W hl2 hm2 h2 C lenC capC ys hl3 hm3 h3)
 have HOK := wall (csrs_ok (regs_ok (newC_ok (show 536870912 < 4294967296 by decide)) (fun j y hy => (hx j y hy).1) lenB) (fun j y h => (hy j y h).1) lenC)
 have HKI := wall (show Blk (w.alloc (.cells (inC i) 54)) w.heap.size 54 (inC i) ∧ Below w.heap.size w (w.alloc (.cells (inC i) 54)) from ⟨Blk.new _ _ _, (Below.refl _ _).alloc (Nat.le_refl _) _⟩)
 have HNI := wall (show (Tryz.prog.info? 54).map (·.size) = some (inC i).size from in_info)
 clear hS hx hy hw hl2 hl3 hm2 hm3 hz hi hl4 hm4
 obtain ⟨c, hc⟩ : ∃ y, csrs (regs (newC 536870912) xs lenB) ys lenC = y := ⟨_, rfl⟩
 rw [hc] at HSA HOK
 obtain ⟨⟨en, eb⟩, hen⟩ : ∃ y, enc i = y := ⟨_, rfl⟩
 rw [hen] at HEN HEL
 unfold EncOut at HEN
 simp only at HEN HEL
 obtain ⟨I, hI⟩ : ∃ y, inC i = y := ⟨_, rfl⟩
 rw [hI] at HEN HKI HNI
 rw [hI]
 clear hc hen hI
 go_enter Tryz.func4, Tryz.ntmps4
 go_wp2_with fail
 generalize w.alloc (.cells I 54) = wa at *
 (with_reducible refine (awake_any _ (HS.out.old HKI.out.2)).mono ?_); rintro e w1 ⟨rfl, hB1⟩
 have HB1 := wall (below_then HKI.out.2 hB1 (Nat.le_refl _))
 have HK1 := wall (HKI.out.1.next hB1 rfl)
 clear hB1 HKI
 try simp only [Act.put, rpA, rpB, rpC]
 go_upto_if 31 with fail
 go_cut [1] (fun s1 w' => ∃ z : Nat, s1 = .int .u32 (z : Int) ∧ Wall (z < 4294967296 ∧ Below w.heap.size w w'))
 case first =>
  cases cd with
  | false =>
   go_wp2_with fail
   go_meet
   exact ⟨z0, rfl, wall ⟨HZB.out, HB1.out⟩⟩
  | true =>
   go_wp2_with (refine wpList_load_row rfl 54 _ rfl w.heap.size rfl 54 I (0, 0) _ HK1.out Tryz.underlying54 rfl HNI.out ?_)
   (with_reducible refine (HEN.out _).mono ?_); rintro e w2 ⟨rfl, hB2⟩
   have HB2 := wall (below_then HB1.out hB2 (Nat.le_refl _))
   clear hB2
   try simp only [Act.put, rpA, rpB, rpC]
   cases eb with
   | false =>
    go_wp2_with fail
    go_meet
    exact ⟨z0, rfl, wall ⟨HZB.out, HB2.out⟩⟩
   | true =>
    go_wp2_with fail
    go_meet
    exact ⟨en, rfl, wall ⟨HEL.out, HB2.out⟩⟩
 case rest =>
  obtain ⟨z, rfl, hzb⟩ := hcut
  obtain ⟨w2, rfl⟩ : ∃ wo : World, wo = wc := ⟨_, rfl⟩
  have HZ2 := wall hzb.out.1
  have HB2 := wall hzb.out.2
  have hz' : (z : Int) < 4294967296 := by have := hzb.out.1; omega
  clear hzb HB1 HK1 HEN HEL HNI HZB
  obtain ⟨y1, hy1⟩ : ∃ y, z % 256 = y := ⟨_, rfl⟩
  obtain ⟨y2, hy2⟩ : ∃ y, z / 256 % 256 = y := ⟨_, rfl⟩
  obtain ⟨y3, hy3⟩ : ∃ y, z / 65536 % 256 = y := ⟨_, rfl⟩
  obtain ⟨y4, hy4⟩ : ∃ y, z / 16777216 = y := ⟨_, rfl⟩
  have E1 := wall (show (z : Int) % 256 = (y1 : Int) by omega)
  have E2 := wall (show (z : Int) / 256 % 256 = (y2 : Int) by omega)
  have E3 := wall (show (z : Int) / 65536 % 256 = (y3 : Int) by omega)
  have E4 := wall (show (z : Int) / 16777216 = (y4 : Int) by omega)
  have HY4 := wall (show y1 < 256 ∧ y2 < 256 ∧ y3 < 256 ∧ y4 < 256 from ⟨by omega, by omega, by omega, by have := HZ2.out; omega⟩)
  clear hy1 hy2 hy3 hy4
  go_wp2_with fail
  rw [E1.out, E2.out, E3.out, E4.out]
  have HPN := wall (four_nats w2 (B := w2.heap.size) (a := y1) (b := y2) (c := y3) (d := y4) rfl HY4.out.1 HY4.out.2.1 HY4.out.2.2.1 HY4.out.2.2.2)
  have HB3 := wall (below_then HB2.out ((Below.refl _ w2).alloc (Nat.le_refl _) (.cells #[.int .u8 (y1 : Int), .int .u8 (y2 : Int), .int .u8 (y3 : Int), .int .u8 (y4 : Int)] 5)) (Nat.le_refl _))
  generalize w2.alloc (.cells #[.int .u8 (y1 : Int), .int .u8 (y2 : Int), .int .u8 (y3 : Int), .int .u8 (y4 : Int)] 5) = w3 at *
  obtain ⟨q, hq⟩ : ∃ q, [y1, y2, y3, y4] = q := ⟨_, rfl⟩
  have HQL := wall (show q.length = 4 by rw [← hq]; rfl)
  rw [hq] at HPN
  clear hq E1 E2 E3 E4
  have HLY := wall (show Calls Tryz.prog 23 #[.int .u8 1, .slice (some ⟨w2.heap.size, 0, none⟩) 4 4] w3 (LayOut2 1 (q.take 1024) w3) from lay2_any 1 (by decide) (some ⟨w2.heap.size, 0, none⟩) 4 4 q w3 (HS.out.old HB3.out) HQL.out (by decide) HPN.out)
  rw [show q.take 1024 = q from List.take_of_length_le (by rw [HQL.out]; decide)] at HLY
  (with_reducible refine (HLY.out).mono ?_); rintro e w4 ⟨g, m, b1, b2, b4, v, rfl, hLy, hB4, f, pf, cc, pp, bb, hSw⟩
  obtain ⟨b3, b5, hTw, hgB, h1B, h2B, h4B⟩ := Tw.lay hLy hSw (by rw [HQL.out]; decide)
  have HB4 := wall (below_then HB3.out hB4 (Nat.le_refl _))
  have HGE := wall (show w.heap.size ≤ g ∧ w.heap.size ≤ b1 ∧ w.heap.size ≤ b2 ∧ w.heap.size ≤ b4 from ⟨Nat.le_trans HB3.out.size hgB, Nat.le_trans HB3.out.size h1B, Nat.le_trans HB3.out.size h2B, Nat.le_trans HB3.out.size h4B⟩)
  have HTW := wall hTw
  clear hLy hSw hB4 HLY HPN hTw hgB h1B h2B h4B HB2 HB3 HQL
  try simp only [Act.put, rpA, rpB, rpC]
  go_wp2_with fail
  go_loopg [57] lenE (fun gg s57 wr => ∃ k : Nat, k + gg = lenE ∧ s57 = .int .i64 (k : Int) ∧ ∃ u : SpV, Wall (Tw wr g f pf cc pp bb m b1 b2 b3 b4 b5 u ∧ Below w.heap.size w wr))
  case atStart => exact ⟨0, by omega, rfl, v, wall ⟨HTW.out, HB4.out⟩⟩
  case round =>
   obtain ⟨k, hg, rfl, u, HQ⟩ := hrel
   have HG := wall hg
   have hk : k ≤ lenE := by omega
   clear hg
   by_cases hlt : k < lenE
   ·have hlt' : (k : Int) < (lenE : Int) := by omega
    obtain ⟨x, hx⟩ : ∃ x, ws[k]? = some x := ⟨_, List.getElem?_eq_getElem (by rw [HLE.out]; exact hlt)⟩
    obtain ⟨hx8, gb, ob, hAe, hgl, hc⟩ := (nats_step HWS.out HQ.out.2) k x hx
    subst hAe
    have hxi : (x : Int) < 4294967296 := by omega
    clear hx hlt hgl
    by_cases h16 : k < 16
    ·have h16' : (k : Int) < 16 := by omega
     go_wp2_with fail
     (with_reducible refine (num_any (x : Int) 4 x 4 _ rfl rfl (by omega) (by decide)).mono ?_); rintro e w5 ⟨v5, rfl, hO5, hB5⟩
     obtain ⟨A, cA, rfl, hlc, hPN, hAB⟩ := own_nats hO5 (numB_lt x 4)
     have hl4 : (numB x 4).length = 4 := numB_length x 4
     rw [hl4]
     have HTW5 := wall (HQ.out.1.old hB5)
     have HB5 := wall (below_then HQ.out.2 hB5 (Nat.le_refl _))
     have HPN := wall hPN
     have HAB := wall (show ∀ ad : Addr, A = some ad → ad.block ∉ [b1, b2, b4] ∧ ad.block ≠ g from fun ad h => by
      have h1 := hAB ad h
      have h2 := HQ.out.1.sm.mf.lts
      have h3 := HQ.out.1.sw.lts.1
      simp
      omega)
     have HST := wall (fun (zz : Int) (h : zz = ((536875008 + 4 * k : Nat) : Int)) => show Calls Tryz.prog 25 #[.pointer (some ⟨g, 0, none⟩), .int .i64 1, .int .u32 zz, .slice A 4 cA] w5 (StOut g (stR u 1 (536875008 + 4 * k) (numB x 4)) w5) from
      store_any g u 1 zz (536875008 + 4 * k) A 4 cA (numB x 4) w5 HTW5.out.sw.ok HTW5.out.sw.sp h (by rw [h]; omega) hl4 (by decide) HPN.out (by decide) (by rw [HTW5.out.st]; decide) (HS.out.old HB5.out) (by rw [HTW5.out.st]; exact core_reg _ _ 1 (.inl rfl)))
     have HRT := wall (fun (zz : Int) (h : zz = ((536875008 + 4 * k : Nat) : Int)) (W : World) (hM : Mf W m b1 b2 b3 b4 b5 u.st (u.ram.take 4096) (u.ram.drop 4096) erased u.prt (fuL z64)) (hp : Nats .u8 256 W W.heap.size A (numB x 4)) => show Calls Tryz.prog 26 #[.pointer (some ⟨m, 0, none⟩), .int .i64 1, .int .u32 zz, .slice A 4 cA] W (RstOut m b1 b2 b3 b4 b5 u.st erased (fuL z64) (stR u 1 (536875008 + 4 * k) (numB x 4)) W) from
      rstore_any u HTW5.out.sw.ok erased (fuL z64) 1 zz (536875008 + 4 * k) A 4 cA (numB x 4) W hM h (by rw [h]; omega) hl4 (by decide) hp (fun ad h => (HAB.out ad h).1) (by rw [HTW5.out.st]; exact core_reg _ _ 1 (.inl rfl)))
     have HSO := wall (st_ok HTW5.out.sw.ok 1 (536875008 + 4 * k) (numB x 4) (numB_lt x 4) (by rw [HTW5.out.st]; exact core_reg _ _ 1 (.inl rfl)))
     have HSS := wall (st_same u 1 (536875008 + 4 * k) (numB x 4))
     unfold StOut at HST
     unfold RstOut at HRT
     obtain ⟨⟨S1, u'⟩, hS⟩ : ∃ S, stR u 1 (536875008 + 4 * k) (numB x 4) = S := ⟨_, rfl⟩
     rw [hS] at HST HRT HSO HSS
     simp only at HST HRT HSO HSS
     have HK16 := wall (show k < 16 from h16)
     clear hS hO5 hB5 hlc hPN hAB hl4 h16
     try simp only [Act.put, rpA, rpB, rpC]
     go_wp2_with fail
     (with_reducible refine (HST.out _ ?hz).mono ?_)
     case hz => have := HK16.out; omega
     rintro e w6 ⟨rfl, hS6, hF6⟩
     have HSW6 := wall (HTW5.out.sw.wrote hS6 HSO.out HSS.out.2.1 HSS.out.2.2 hF6)
     have HMF6 := wall (HTW5.out.sm.mf.offg HTW5.out.sw.sp hF6)
     have HPN6 := wall (nats_frm' HPN.out hF6 (fun ad h => by simp; exact (HAB.out ad h).2))
     have HB6 := wall (Below.frm HB5.out hF6 (Nat.le_refl _) (by have := HGE.out; simp; omega))
     clear hS6 hF6 HST HPN
     try simp only [Act.put, rpA, rpB, rpC]
     go_wp2_with fail
     (with_reducible refine (HRT.out _ ?hz _ HMF6.out HPN6.out).mono ?_)
     case hz => have := HK16.out; omega
     rintro e w7 ⟨rfl, hM7, hF7⟩
     have HTW7 := wall (show Tw w7 g f pf cc pp bb m b1 b2 b3 b4 b5 u' from ⟨HSW6.out.offm HMF6.out hF7, ⟨by rw [HSS.out.1]; exact hM7, f64_open⟩, HSS.out.1.trans HTW5.out.st⟩)
     have HB7 := wall (Below.frm HB6.out hF7 (Nat.le_refl _) (by have := HGE.out; simp; omega))
     clear hM7 hF7 HRT HPN6 HSW6 HMF6 HB6 HB5 HTW5 HQ
     try simp only [Act.put, rpA, rpB, rpC]
     go_wp2_with fail
     go_light
     go_roundg (lenE - (k + 1))
     case measure => have := HG.out; omega
     case rel => exact ⟨k + 1, by have := HG.out; omega, by go_num, u', wall ⟨HTW7.out, HB7.out⟩⟩
    ·have h16' : ¬ (k : Int) < 16 := by omega
     clear h16
     go_wp2_with fail
     go_light
     go_roundg (lenE - (k + 1))
     case measure => have := HG.out; omega
     case rel => exact ⟨k + 1, by have := HG.out; omega, by go_num, u, HQ⟩
   ·obtain rfl : k = lenE := by omega
    have hlt' : ¬ (k : Int) < (k : Int) := by omega
    clear hlt hk
    have HX4 := wall (nats_step HX.out HQ.out.2)
    have HY4 := wall (nats_step HY.out HQ.out.2)
    have HTW4 := wall HQ.out.1
    have HBQ := wall HQ.out.2
    clear HTW HQ HG HX HY HWS
    go_wp2_with fail
    (with_reducible refine (HSA.out _ HX4.out HY4.out).mono ?_); rintro e w5 ⟨rfl, hB5⟩
    have HTW5 := wall (HTW4.out.old hB5)
    have HB5 := wall (below_then HBQ.out hB5 (Nat.le_refl _))
    clear hB5 HSA HX4 HY4 HTW4 HBQ
    have HZ := wall cr_zero
    have HZR := wall ref_zero
    have HE := wall ev_zero
    have HRZ := wall (show Rc (crC crZ) crZ from ⟨crZ_ok, rfl⟩)
    have HRC := wall (show Rc (crC c) c from ⟨HOK.out, rfl⟩)
    have HRR := wall (show (Tryz.prog.info? 74).map (·.size) = some (crC c).size from by rw [crC_size HOK.out]; exact ref_info)
    have HSTA := wall (fun W (h : Sw W g f pf cc pp bb u erased z64 f64 false) (hs : Spans W) => step_any c HOK.out false W g f pf cc pp bb u erased z64 f64 false h hs (.inl HTW5.out.st))
    have HRS := wall (fun W (h : Sm W m b1 b2 b3 b4 b5 u erased z64 f64) => rstep_f c HOK.out u HTW5.out.sw.ok erased z64 f64 W (.inl HTW5.out.st) ⟨HTW5.out.sw.fn, HTW5.out.sw.fb⟩ h)
    have HRO := wall (step_ok (v := u) (F := erased) (vs := z64) (ls := f64) (c := c) (tm := false) HOK.out HTW5.out.sw.ok HTW5.out.sw.fn HTW5.out.sw.fb)
    have HKP := wall (step_kept (v := u) (F := erased) (vs := z64) (ls := f64) (c := c) (tm := false) HTW5.out.sw.ok (.inl HTW5.out.st))
    have HWR := wall (fun h => step_wrote (F := erased) (vs := z64) (ls := f64) (c := c) HTW5.out.sw.ok HTW5.out.st h)
    obtain ⟨R, hR⟩ : ∃ R, stepR u erased z64 f64 c false = R := ⟨_, rfl⟩
    obtain ⟨II, hII⟩ : ∃ y, stepI u c = y := ⟨_, rfl⟩
    rw [hR] at HSTA HRS HRO HKP HWR
    rw [hII] at HSTA HWR
    have HST1 := wall HTW5.out.st
    clear hR hII
    have HSAM := wall (fun W => same20_any R.c HRO.out W)
    unfold DoOut at HSTA
    unfold RstepO at HRS
    obtain ⟨D, hD⟩ : ∃ y, crC c = y := ⟨_, rfl⟩
    obtain ⟨Z, hZ⟩ : ∃ y, crC crZ = y := ⟨_, rfl⟩
    obtain ⟨EZ, hE⟩ : ∃ y, evZ = y := ⟨_, rfl⟩
    have HEQ := wall hE
    rw [hD]
    rw [hD] at HRC HRR HSTA HRS
    rw [hZ] at HZ HZR HRZ
    rw [hE] at HE
    clear hD hZ hE
    try simp only [Act.put, rpA, rpB, rpC]
    go_wp2_with (first | (refine wpList_two_new 71 74 20 21 (.tmp 86) (.tmp 87) rfl rfl rfl rfl rfl rfl rfl rfl rfl rfl rfl rfl Z Z D D HZ.out HZR.out w5.heap.size rfl rfl rfl rfl rfl (HRC.out.row HRZ.out) ⟨HRR.out, HRC.out.sz HRZ.out, HRC.out.one⟩ ?_; intro w6 K6 K6r F6; simp only [Act.put, rpA, rpB, rpC]) | (refine wpList_load_row rfl 71 _ rfl w5.heap.size rfl 71 D (0, 0) _ K6.out Tryz.underlying71 rfl HRC.out.info ?_))
    have HTW6 := wall (HTW5.out.old F6.out)
    have HB6 := wall (below_then HB5.out F6.out (Nat.le_refl _))
    have HG5 := wall (show g < w5.heap.size ∧ b1 < w5.heap.size ∧ b2 < w5.heap.size ∧ b4 < w5.heap.size from ⟨HTW5.out.sw.lts.1, HTW5.out.sm.mf.lts.2.1, HTW5.out.sm.mf.lts.2.2.1, HTW5.out.sm.mf.lts.2.2.2.2.1⟩)
    clear F6 HTW5 HB5
    (with_reducible refine (HSTA.out _ HTW6.out.sw (HS.out.old HB6.out)).mono ?_); rintro e w7 ⟨A7, n7, c7, rfl, hSp7, hF7, hN7⟩
    have HSW7 := wall (HTW6.out.sw.wrote hSp7 HKP.out.ok HKP.out.fl HKP.out.ch hF7)
    have HSM7 := wall (show Sm w7 m b1 b2 b3 b4 b5 u erased z64 f64 from ⟨HTW6.out.sm.mf.offg HTW6.out.sw.sp hF7, f64_open⟩)
    obtain ⟨g5, hg5⟩ : ∃ y, w5.heap.size = y := ⟨_, rfl⟩
    rw [hg5] at K6 K6r HG5
    try rw [hg5]
    have h5 := HG5.out
    have K7r := wall (K6r.out.frm hF7 (by simp; omega))
    have HB7 := wall (Below.frm HB6.out hF7 (Nat.le_refl _) (by have := HGE.out; simp; omega))
    have HN7 := wall hN7
    have HA7 := wall (show ∀ ad : Addr, A7 = some ad → R.t = none → ad.block ∉ [b1, b2, b4] from fun ad h ht => by
     have h1 := (hN7 ht).2.2.1 ad h
     have h2 := HTW6.out.sm.mf.lts
     simp
     omega)
    clear hF7 hSp7 hg5 h5 K6 K6r HSTA HTW6 hN7 HB6
    have HRE := wall (show Re (evW R.t II R.a A7 n7 c7) R.t.isSome (cn R.t) from by
     unfold evW
     cases R.t with
     | none => exact Re.of _ _ _ _ _ _ _
     | some k => exact Re.of _ _ _ _ _ _ _)
    have HVC := wall (show R.t = none → (evW R.t II R.a A7 n7 c7)[2]? = some (.int .u8 (II.op : Int)) ∧ (evW R.t II R.a A7 n7 c7)[8]? = some (.int .u32 (R.a : Int)) ∧ (evW R.t II R.a A7 n7 c7)[9]? = some (.slice A7 n7 c7) from fun h => by rw [h]; exact ⟨rfl, rfl, rfl⟩)
    have HVT := wall (show R.t ≠ none → (evW R.t II R.a A7 n7 c7)[8]? = some (.int .u32 0) ∧ (evW R.t II R.a A7 n7 c7)[9]? = some (.slice none 0 0) from fun h => by
     cases ht : R.t with
     | none => exact absurd ht h
     | some k => exact ⟨rfl, rfl⟩)
    have HRR2 := wall (show Rc (crC R.c) R.c from ⟨HRO.out, rfl⟩)
    have HRI1 := wall (show (Tryz.prog.info? 74).map (·.size) = some (crC R.c).size from by rw [crC_size HRO.out]; exact ref_info)
    obtain ⟨V, hV⟩ : ∃ y, evW R.t II R.a A7 n7 c7 = y := ⟨_, rfl⟩
    obtain ⟨D1, hD1⟩ : ∃ y, crC R.c = y := ⟨_, rfl⟩
    rw [hV] at HRE HVC HVT ⊢
    rw [hD1] at HRR2 HRI1 HRS HSAM ⊢
    clear hV hD1
    try simp only [Act.put, rpA, rpB, rpC]
    go_upto_region 18 with (refine wpList_two_new 71 78 22 23 (.tmp 92) (.tmp 93) rfl rfl rfl rfl rfl rfl rfl rfl rfl rfl rfl rfl Z EZ D1 V HZ.out HE.out w7.heap.size rfl rfl rfl rfl rfl (HRR2.out.row HRZ.out) (HRE.out.row HEQ.out.symm) ?_; intro w8 K8 V8 F8; simp only [Act.put, rpA, rpB, rpC])
    have HSW8 := wall (HSW7.out.old F8.out)
    have HSM8 := wall (HSM7.out.old F8.out)
    have K8r := wall (K7r.out.next F8.out rfl)
    have HB8 := wall (below_then HB7.out F8.out (Nat.le_refl _))
    have HN8 := wall (show R.t = none → n7 = R.p.length ∧ Nats .u8 256 w8 w8.heap.size A7 R.p ∧ (R.p = [] → A7 = none ∧ c7 = 0) from fun h => ⟨(HN7.out h).1, nats_step (HN7.out h).2.1 F8.out, (HN7.out h).2.2.2⟩)
    obtain ⟨g7, hg7⟩ : ∃ y, w7.heap.size = y := ⟨_, rfl⟩
    have HG7 := wall (show b1 < g7 ∧ b2 < g7 ∧ b4 < g7 from by rw [← hg7]; exact ⟨HSM7.out.mf.lts.2.1, HSM7.out.mf.lts.2.2.1, HSM7.out.mf.lts.2.2.2.2.1⟩)
    rw [hg7] at K8 V8
    try rw [hg7]
    clear F8 HSW7 HSM7 K7r HB7 HN7 hg7
    go_wp2_with (refine wpList_load_row rfl 74 _ rfl (g5 + 1) rfl 74 D (0, 0) _ K8r.out Tryz.underlying74 rfl HRR.out ?_)
    (with_reducible refine (HRS.out _ HSM8.out).mono ?_); rintro e w9 ⟨rfl, hM9, hF9⟩
    have h7 := HG7.out
    have HU9 := wall (HSW8.out.offm HSM8.out.mf hF9)
    have HM9 := wall hM9
    have K9 := wall (K8.out.frm hF9 (by simp; omega))
    have V9 := wall (V8.out.frm hF9 (by simp; omega))
    have HB9 := wall (Below.frm HB8.out hF9 (Nat.le_refl _) (by have := HGE.out; simp; omega))
    have HN9 := wall (show R.t = none → n7 = R.p.length ∧ Nats .u8 256 w9 w9.heap.size A7 R.p ∧ (R.p = [] → A7 = none ∧ c7 = 0) from fun h => ⟨(HN8.out h).1, nats_frm' (HN8.out h).2.1 hF9 (fun ad ha => HA7.out ad ha h), (HN8.out h).2.2⟩)
    clear hM9 hF9 h7 HSW8 HSM8 K8 V8 K8r HB8 HN8 HRS HA7
    try simp only [Act.put, rpA, rpB, rpC]
    go_upto_region 19 with (first | refine Big.wpList_alloc_at rfl 74 rfl Z HZR.out w9.heap.size rfl ?_ | (refine wpList_set_row rfl 74 (.tmp 24) (.tmp 98) rfl w9.heap.size D1 rfl rfl 74 Z (Blk.new _ _ _) HRI1.out (HRR2.out.sz HRZ.out) HRR2.out.one ?_; intro w10 G10 F10))
    have HBX := wall (Below.frm ((Below.refl _ w9).alloc (Nat.le_refl _) _) F10.out (Nat.le_refl _) (by simp))
    have HU10 := wall (HU9.out.old HBX.out)
    have HM10 := wall (HM9.out.old HBX.out)
    have K10 := wall (K9.out.next HBX.out rfl)
    have V10 := wall (V9.out.next HBX.out rfl)
    have HB10 := wall (below_then HB9.out HBX.out (Nat.le_refl _))
    have HN10 := wall (show R.t = none → n7 = R.p.length ∧ Nats .u8 256 w10 w10.heap.size A7 R.p ∧ (R.p = [] → A7 = none ∧ c7 = 0) from fun h => ⟨(HN9.out h).1, nats_step (HN9.out h).2.1 HBX.out, (HN9.out h).2.2⟩)
    obtain ⟨g9, hg9⟩ : ∃ y, w9.heap.size = y := ⟨_, rfl⟩
    rw [hg9] at G10
    try rw [hg9]
    clear F10 HBX HU9 HM9 K9 V9 HB9 HN9 hg9
    try simp only [Act.put, rpA, rpB, rpC]
    have kv0 : w10.cell? ⟨g7 + 1, 0, none⟩ = some (.bool R.t.isSome) := by rw [V10.out.cell]; exact HRE.out.v0
    cases hrt : R.t with
    | some k =>
     rw [hrt] at kv0
     have kv0' : w10.cell? ⟨g7 + 1, 0, none⟩ = some (.bool true) := kv0
     have kv1 : w10.cell? ⟨g7 + 1, 1, none⟩ = some (.int .u32 (k : Int)) := by rw [V10.out.cell]; have h := HRE.out.v1; rw [hrt] at h; exact h
     have HV2 := wall (HVT.out (by rw [hrt]; exact fun h => by cases h))
     have HV0 := wall (show V[0]? = some (.bool true) by have h := HRE.out.v0; rw [hrt] at h; exact h)
     have hcn : (Value.int .u32 ((cn (some k) : Nat) : Int)) = .int .u32 (k : Int) := rfl
     have hib : (Value.bool (some k).isSome) = .bool true := rfl
     rw [hcn, hib]
     clear kv0 hrt hcn hib HN10 HVC HVT HWR
     go_wp2_with (first | refine load_row_g (by rfl) 71 _ rfl g7 rfl 71 D1 _ K10.out Tryz.underlying71 rfl HRR2.out.info ?_ | refine load_row_g (by rfl) 74 _ rfl g9 rfl 74 D1 _ G10.out Tryz.underlying74 rfl HRI1.out ?_)
     (with_reducible refine (HSAM.out _).mono ?_); rintro e w11 ⟨rfl, hB11⟩
     have HU11 := wall (HU10.out.old hB11)
     have HM11 := wall (HM10.out.old hB11)
     have HB11 := wall (below_then HB10.out hB11 (Nat.le_refl _))
     have V11 := wall (V10.out.next hB11 rfl)
     clear hB11 HU10 HM10 HB10 V10 HSAM
     try simp only [Act.put, rpA, rpB, rpC]
     have HMEM := wall (memory_any g m b1 b2 b4 R.v (R.v.ram.take 4096) (R.v.ram.drop 4096) R.v.prt w11 HU11.out.ok HU11.out.sp HM11.out.mm rfl rfl rfl)
     go_wp2_with fail
     (with_reducible refine (HMEM.out).mono ?_); rintro e w12 ⟨rfl, hB12⟩
     have HU12 := wall (HU11.out.old hB12)
     have HB12 := wall (below_then HB11.out hB12 (Nat.le_refl _))
     have V12 := wall (V11.out.next hB12 rfl)
     clear hB12 HU11 HM11 HB11 V11 HMEM
     try simp only [Act.put, rpA, rpB, rpC]
     have kv0 : w12.cell? ⟨g7 + 1, 0, none⟩ = some (.bool true) := by rw [V12.out.cell]; exact HV0.out
     have kv8 : w12.cell? ⟨g7 + 1, 8, none⟩ = some (.int .u32 0) := by rw [V12.out.cell]; exact HV2.out.1
     have kv9 : w12.cell? ⟨g7 + 1, 9, none⟩ = some (.slice none 0 0) := by rw [V12.out.cell]; exact HV2.out.2
     go_wp2_with fail
     go_light
     go_ret
     exact ⟨rfl, HB12.out⟩
    | none =>
     rw [hrt] at kv0
     have kv0' : w10.cell? ⟨g7 + 1, 0, none⟩ = some (.bool false) := kv0
     have HV2 := wall (HVC.out hrt)
     have HNN := wall (HN10.out hrt)
     have HWW := wall (HWR.out hrt)
     have HV0 := wall (show V[0]? = some (.bool false) by have h := HRE.out.v0; rw [hrt] at h; exact h)
     have hcn : (Value.int .u32 ((cn (none : Option Nat) : Nat) : Int)) = .int .u32 0 := rfl
     have hib : (Value.bool (none : Option Nat).isSome) = .bool false := rfl
     rw [hcn, hib]
     clear kv0 hrt hcn hib HN10 HVC HVT HWR
     go_wp2_with (first | refine load_row_g (by rfl) 71 _ rfl g7 rfl 71 D1 _ K10.out Tryz.underlying71 rfl HRR2.out.info ?_ | refine load_row_g (by rfl) 74 _ rfl g9 rfl 74 D1 _ G10.out Tryz.underlying74 rfl HRI1.out ?_)
     (with_reducible refine (HSAM.out _).mono ?_); rintro e w11 ⟨rfl, hB11⟩
     have HU11 := wall (HU10.out.old hB11)
     have HM11 := wall (HM10.out.old hB11)
     have HB11 := wall (below_then HB10.out hB11 (Nat.le_refl _))
     have V11 := wall (V10.out.next hB11 rfl)
     have HN11 := wall (show n7 = R.p.length ∧ Nats .u8 256 w11 w11.heap.size A7 R.p ∧ (R.p = [] → A7 = none ∧ c7 = 0) from ⟨HNN.out.1, nats_step HNN.out.2.1 hB11, HNN.out.2.2⟩)
     clear hB11 HU10 HM10 HB10 V10 HSAM
     try simp only [Act.put, rpA, rpB, rpC]
     have HMEM := wall (memory_any g m b1 b2 b4 R.v (R.v.ram.take 4096) (R.v.ram.drop 4096) R.v.prt w11 HU11.out.ok HU11.out.sp HM11.out.mm rfl rfl rfl)
     go_wp2_with fail
     (with_reducible refine (HMEM.out).mono ?_); rintro e w12 ⟨rfl, hB12⟩
     have HU12 := wall (HU11.out.old hB12)
     have HB12 := wall (below_then HB11.out hB12 (Nat.le_refl _))
     have V12 := wall (V11.out.next hB12 rfl)
     have HN12 := wall (show n7 = R.p.length ∧ Nats .u8 256 w12 w12.heap.size A7 R.p ∧ (R.p = [] → A7 = none ∧ c7 = 0) from ⟨HN11.out.1, nats_step HN11.out.2.1 hB12, HN11.out.2.2⟩)
     clear hB12 HU11 HM11 HB11 V11 HMEM
     try simp only [Act.put, rpA, rpB, rpC]
     have kv0 : w12.cell? ⟨g7 + 1, 0, none⟩ = some (.bool false) := by rw [V12.out.cell]; exact HV0.out
     have kv2 : w12.cell? ⟨g7 + 1, 2, none⟩ = some (.int .u8 (II.op : Int)) := by rw [V12.out.cell]; exact HV2.out.1
     have kv8 : w12.cell? ⟨g7 + 1, 8, none⟩ = some (.int .u32 (R.a : Int)) := by rw [V12.out.cell]; exact HV2.out.2.1
     have kv9 : w12.cell? ⟨g7 + 1, 9, none⟩ = some (.slice A7 n7 c7) := by rw [V12.out.cell]; exact HV2.out.2.2
     by_cases hs : 16 ≤ II.op ∧ II.op ≤ 18
     ·have i1 : ¬ (II.op : Int) < 16 := by omega
      have i2 : ¬ (18 : Int) < (II.op : Int) := by omega
      have HWS := wall (HWW.out.st hs)
      have hnl : n7 = R.p.length := HN12.out.1
      have HLD := wall (fun (zz : Int) (hz : zz = (n7 : Int)) => show Calls Tryz.prog 32 #[.pointer (some ⟨g, 0, none⟩), .int .i64 1, .int .u32 (R.a : Int), .int .i64 zz] w12 (LdOut (0, R.p) w12) from by
       have h := load_any g f pf cc pp bb R.v erased z64 f64 false 1 (R.a : Int) zz R.a n7 w12 HU12.out rfl (by have := HWS.out.2.2.2.1; omega) hz (by have := HWS.out.2.2.1; omega) (by decide) (by rw [HKP.out.st, HST1.out]; decide) (HS.out.old HB12.out)
       rw [hnl, HWS.out.1] at h
       exact h)
      have hn1 : (0 : Int) < (n7 : Int) := by have := HWS.out.2.1; omega
      have hn1n : 0 < n7 := by have := HWS.out.2.1; omega
      have hd1 : decide (0 < n7) = true := decide_eq_true hn1n
      have HD1 := wall hd1
      have hn4 : (n7 : Int) ≤ 4 := by have := HWS.out.2.2.1; omega
      have HNL := wall hnl
      clear hs hnl
      go_wp2_with fail
      (with_reducible refine (HLD.out _ rfl).mono ?_); rintro e w13 ⟨vq, rfl, hO13, hB13⟩
      obtain ⟨Aq, cq, rfl, hlc, hPq, -⟩ := own_nats hO13 HWS.out.2.2.2.2
      have HPQ := wall hPq
      have HPA := wall (nats_step HN12.out.2.1 hB13)
      have HB13 := wall (below_then HB12.out hB13 (Nat.le_refl _))
      have V13 := wall (V12.out.next hB13 rfl)
      have kv9' : w13.cell? ⟨g7 + 1, 9, none⟩ = some (.slice A7 n7 c7) := by rw [V13.out.cell]; exact HV2.out.2.2
      have HSA := wall (same_any Aq A7 R.p.length n7 cq c7 R.p R.p true w13 _ _ rfl HNL.out.symm (by have := HWS.out.2.2.1; simp only [maxLen]; omega) (by have := HWS.out.2.2.1; have := HNL.out; simp only [maxLen]; omega) HPQ.out HPA.out (by simp))
      have hlp : R.p.length = n7 := HNL.out.symm
      rw [hlp] at HSA ⊢
      clear hO13 hB13 hlc hPq kv0 kv2 kv8 kv9 HLD hlp
      try simp only [Act.put, rpA, rpB, rpC]
      go_wp2_with fail
      (with_reducible refine (HSA.out).mono ?_); rintro e w14 ⟨rfl, k14, rfl⟩
      have HB14 := wall (show Below w.heap.size w (w13.drewN k14) from Below.drewN HB13.out k14)
      clear HSA
      try simp only [Act.put, rpA, rpB, rpC]
      go_wp2_with fail
      go_light
      go_ret
      exact ⟨by first | rfl | (show Ending.returned (.bool (decide (0 < n7))) = _; rw [HD1.out]), HB14.out⟩
     ·have hno := HWW.out.no hs
      have hn0 : n7 = 0 := by rw [HN12.out.1, hno.2]; rfl
      obtain ⟨hA0, hc0⟩ := HN12.out.2.2 hno.2
      rw [hno.1] at kv8
      rw [hn0, hA0, hc0] at kv9
      have kv8' : w12.cell? ⟨g7 + 1, 8, none⟩ = some (.int .u32 0) := kv8
      by_cases h16 : II.op < 16
      ·have i1 : (II.op : Int) < 16 := by omega
       clear hs h16 hno hn0 hA0 hc0 kv8
       go_wp2_with fail
       go_light
       go_ret
       exact ⟨rfl, HB12.out⟩
      ·have i1 : ¬ (II.op : Int) < 16 := by omega
       have i2 : (18 : Int) < (II.op : Int) := by omega
       clear hs h16 hno hn0 hA0 hc0 kv8
       go_wp2_with fail
       go_light
       go_ret
       exact ⟨rfl, HB12.out⟩
end Core
end Go.Proofs.YtmiaabpnolebhaaGreatDoor
namespace Go.Proofs.YtmiaabpnolebhaaGreatDoor
open Go.RowKit

namespace Core
open Otp Sha R1 Spc Grant Rv
theorem one_frame (f0 f1 f2 f3 f4 f5 z : Int) (cd : Bool) (B : Option Addr) (lb cb : Nat) (xs : List Nat) (C : Option Addr) (lc cc : Nat) (ys : List Nat) (E : Option Addr) (le ce : Nat) (ws : List Nat) (w : World) (hS : Spans w)
  (h0 : (Lit.int .u8 f0).wf = true) (h1 : (Lit.int .u8 f1).wf = true) (h2 : (Lit.int .u8 f2).wf = true) (h3 : (Lit.int .u8 f3).wf = true) (h4 : (Lit.int .u32 f4).wf = true) (h5 : (Lit.int .u16 f5).wf = true) (hz : (Lit.int .u32 z).wf = true)
  (hl2 : xs.length = lb) (hm2 : lb ≤ maxLen) (hx : Nats .u32 4294967296 w w.heap.size B xs) (hl3 : ys.length = lc) (hm3 : lc ≤ maxLen) (hy : Nats .u32 4294967296 w w.heap.size C ys) (hl4 : ws.length = le) (hm4 : le ≤ maxLen) (hw : Nats .u32 4294967296 w w.heap.size E ws) :
  Calls Tryz.prog 4 #[.agg #[.int .u8 f0, .int .u8 f1, .int .u8 f2, .int .u8 f3, .int .u32 f4, .int .u16 f5], .int .u32 z, .bool cd, .slice B lb cb, .slice C lc cc, .slice E le ce] w (TrueB w) := by
 have b0 := bounds_u8 h0
 have b1 := bounds_u8 h1
 have b2 := bounds_u8 h2
 have b3 := bounds_u8 h3
 have b4 := bounds_u32 h4
 have b5 : 0 ≤ f5 ∧ f5 < 65536 := by
  simp [Lit.wf, IntKind.min, IntKind.max, IntKind.signed, IntKind.bits] at h5
  omega
 have bz := bounds_u32 hz
 have hq : (⟨f0.toNat, f1.toNat, f2.toNat, f3.toNat, f4.toNat, f5.toNat⟩ : In).Ok := ⟨by show f0.toNat < 256; omega, by show f1.toNat < 256; omega, by show f2.toNat < 256; omega, by show f3.toNat < 256; omega, by show f4.toNat < 4294967296; omega, by show f5.toNat < 65536; omega⟩
 have h := one_any ⟨f0.toNat, f1.toNat, f2.toNat, f3.toNat, f4.toNat, f5.toNat⟩ hq z.toNat cd B lb cb xs C lc cc ys E le ce ws w hS (by omega) hl2 hm2 hx hl3 hm3 hy hl4 hm4 hw
 unfold inC at h
 simp only [Int.toNat_of_nonneg b0.1, Int.toNat_of_nonneg b1.1, Int.toNat_of_nonneg b2.1, Int.toNat_of_nonneg b3.1, Int.toNat_of_nonneg b4.1, Int.toNat_of_nonneg b5.1, Int.toNat_of_nonneg bz.1] at h
 exact h
end Core
end Go.Proofs.YtmiaabpnolebhaaGreatDoor
