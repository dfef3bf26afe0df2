/-
  The walk of OtpRises: the law.
-/
import Derived.Test.YtmcpppgnfmopoaaDoorProg
import Derived.Test.YtmcpppgnfmopoaaDoorMem
import Derived.Test.YtmcpppgnfmopoaaDoorOtpRisesW
import Derived.Deep.LoopGhost
import Derived.Deep.MidRow
import Derived.Deep.RegionWith
import Derived.Deep.CutRange
import Derived.Deep.CutBlock
import Derived.Deep.DeepCutAuto
import Derived.RegionTactic
import Derived.BigRegion
import Derived.Deep.QuietTactic
import Derived.BigQuiet
import Derived.StillTailTactics
namespace Go.Proofs.YtmcpppgnfmopoaaDoor
open Go.RowKit

namespace Otp
open Fuse
set_option maxRecDepth 100000 in
set_option maxHeartbeats 8000000 in
theorem rises_any (zs : List Nat) (blank : Bool) (A : Option Addr) (len cap : Nat) (l : List ActV) (w : World) (hT : Tab w) (hzl : zs.length = 64) (hzw : ∀ (i x : Nat), zs[i]? = some x → x < 4294967296)
    (hl : l.length = len) (hlm : len ≤ maxLen) (hA : ActsR w w.heap.size A l) :
    Calls Tryd.prog 9 #[.agg (c32 zs), .bool blank, .slice A len cap] w (TrueBelow w) := by
  subst hl
  have HT := Lib.hid (show Tab (w.alloc (.cells (c32 zs) 55)) from hT.old ((Below.refl _ w).alloc (Nat.le_refl _) _))
  have HZ0 := Lib.hid (show Blk (w.alloc (.cells (c32 zs) 55)) w.heap.size 55 (c32 zs) from Blk.new w _ _)
  have HB0 := Lib.hid (show Below w.heap.size w (w.alloc (.cells (c32 zs) 55)) from (Below.refl _ w).alloc (Nat.le_refl _) _)
  have HZL := Lib.hid hzl
  have HZW := Lib.hid hzw
  have HAC := Lib.hid hA
  have HTW := Lib.hid hT
  have HSZ := Lib.hid (show (Tryd.prog.info? 55).map (·.size) = some (c32 zs).size by
    rw [show (c32 zs).size = 64 by simp [c32, hzl]]
    kernel_rfl)
  simp only [maxLen] at hlm
  clear hT hzl hzw hA
  go_enter Tryd.func9, Tryd.ntmps9
  go_wp2_with fail
  generalize w.alloc (.cells (c32 zs) 55) = w0 at *
  (with_reducible refine (awake_any _ HT.out).mono ?_); rintro e w1 ⟨rfl, hB⟩
  have HT1 := Lib.hid (HT.out.old hB)
  have HZ1 := Lib.hid (HZ0.out.next hB rfl)
  have HB1 := Lib.hid (below_then HB0.out hB (Nat.le_refl _))
  clear hB HT HZ0 HB0
  go_wp2_with (refine wpList_load_row rfl 55 _ rfl w.heap.size rfl 55 (c32 zs) (0, 0) _ HZ1.out Tryd.underlying55 rfl HSZ.out ?_)
  (with_reducible refine (lay_any zs _ HZL.out HZW.out).mono ?_); rintro e w2 ⟨c, p, b, rfl, hC, hc, hp, hb, hB⟩
  have hwb : w.heap.size ≤ w1.heap.size := HB1.out.size
  have HT2 := Lib.hid (HT1.out.old hB)
  have HB2 := Lib.hid (below_then HB1.out hB (Nat.le_refl _))
  have HC2 := Lib.hid hC
  clear hB hC HT1 HZ1 HB1 HSZ
  go_upto_if 24 with fail
  go_cut [7] (fun v w' => ∃ c p b vs, v = .pointer (some ⟨c, 0, none⟩) ∧ Hid (Cz w' c p b vs f64 false) ∧ w.heap.size ≤ c ∧ w.heap.size ≤ p ∧ w.heap.size ≤ b ∧ Hid (Tab w') ∧ Hid (Below w.heap.size w w'))
  case first =>
    cases blank with
    | false =>
      go_wp2_with fail
      go_meet
      exact ⟨c, p, b, zs, rfl, HC2, by omega, by omega, by omega, HT2, HB2⟩
    | true =>
      go_wp2_with fail
      (with_reducible refine (new_chip _).mono ?_); rintro e w3 ⟨c, p, b, rfl, hC, hc, hp, hb, hB⟩
      have hw2 : w.heap.size ≤ w2.heap.size := HB2.out.size
      go_wp2_with fail
      go_meet
      exact ⟨c, p, b, z64, rfl, Lib.hid hC, by omega, by omega, by omega, Lib.hid (HT2.out.old hB), Lib.hid (below_then HB2.out hB (Nat.le_refl _))⟩
  case rest =>
    clear hc hp hb HC2 HT2 HB2 HZL HZW
    obtain ⟨c, p, b, vs0, rfl, HC, hc, hp, hb, HT, HB⟩ := hcut
    obtain ⟨w2, rfl⟩ : ∃ wo : World, wo = wc := ⟨_, rfl⟩
    clear hwb
    go_wp2_with fail
    go_loopg [30] l.length (fun g s30 wr => ∃ i : Nat, i + g = l.length ∧ s30 = .int .i64 (i : Int) ∧ ∃ vs, Hid (Cz wr c p b vs f64 false) ∧ Hid (Tab wr) ∧ Hid (Below w.heap.size w wr))
    case atStart => exact ⟨0, by omega, rfl, vs0, HC, HT, HB⟩
    case round =>
      clear HC HT HB
      obtain ⟨i, hg, rfl, vs, HC, HT, HB⟩ := hrel
      have HG := Lib.hid hg
      have hig : i ≤ l.length := by omega
      clear hg
      by_cases hlt : i < l.length
      · obtain ⟨t, ht⟩ : ∃ t, l[i]? = some t := ⟨_, List.getElem?_eq_getElem hlt⟩
        obtain ⟨hok, g0, off, rfl, hg0, hR⟩ := (HAC.out.below HB.out) i t ht
        have HOK := Lib.hid hok
        have HSA := Lib.hid (show (Tryd.prog.info? 59).map (·.size) = some t.cells.toList.length by
          rw [Array.length_toList, ActV.size hok]
          kernel_rfl)
        obtain ⟨tl, htl⟩ : ∃ tl, t.cells.toList = tl := ⟨_, rfl⟩
        rw [htl] at HSA hR
        have HTL := Lib.hid (show t.cells = tl.toArray by rw [← htl])
        have HR := Lib.hid hR
        have hzs : (actC 0 0 (List.replicate 32 0) 0 false 0).size = tl.toArray.size := by rw [← HTL.out, ActV.size hok]; rfl
        have HZS := Lib.hid hzs
        have HST := Lib.hid (show (Tryd.prog.info? 59).map (·.size) = some tl.toArray.size by rw [List.size_toArray]; exact HSA.out)
        have HON := Lib.hid (show tl.toArray.all (·.oneCell') = true by rw [← HTL.out]; exact ActV.one t)
        have HKZ := Lib.hid (show Blk (wr.alloc (.cells (actC 0 0 (List.replicate 32 0) 0 false 0) 59)) wr.heap.size 59 (actC 0 0 (List.replicate 32 0) 0 false 0) from Blk.new wr _ _)
        have HBZ := Lib.hid ((Below.refl _ wr).alloc (Nat.le_refl _) (.cells (actC 0 0 (List.replicate 32 0) 0 false 0) 59))
        clear hok hR htl hzs ht
        go_upto_region 11 with (first | refine wpList_load_mid rfl 59 _ rfl g0 (off + i * 37) rfl _ _ HR.out Tryd.underlying59 rfl HSA.out ?_ | refine wpList_store_row rfl 59 _ _ rfl wr.heap.size tl.toArray rfl rfl 59 (actC 0 0 (List.replicate 32 0) 0 false 0) HKZ.out HST.out HZS.out HON.out ?_)
        change Code.wp _ _ _ _ ((wr.alloc (.cells (actC 0 0 (List.replicate 32 0) 0 false 0) 59)).setRow wr.heap.size tl.toArray)
        have HK9 := Lib.hid (show Blk ((wr.alloc (.cells (actC 0 0 (List.replicate 32 0) 0 false 0) 59)).setRow wr.heap.size tl.toArray) wr.heap.size 59 tl.toArray from setRow_heap _ _ _ tl.toArray _ _ HKZ.out)
        have HB9 := Lib.hid (below_setRow HBZ.out (Nat.le_refl _) tl.toArray)
        generalize (wr.alloc (.cells (actC 0 0 (List.replicate 32 0) 0 false 0) 59)).setRow wr.heap.size tl.toArray = w9 at *
        have HBW := Lib.hid (below_then HB.out HB9.out (Nat.le_refl _))
        clear HKZ HBZ HZS HON HR HSA
        by_cases h12 : 12 ≤ i
        · go_wp2_with fail
          go_light
          go_ret
          exact ⟨rfl, HBW.out⟩
        · have HC9 := Lib.hid (HC.out.old HB9.out)
          have HT9 := Lib.hid (HT.out.old HB9.out)
          have hcc := HC9.out.cell.1
          have hb9 : b < wr.heap.size := HC.out.fz.ltb
          have h9s : wr.heap.size < w9.heap.size := HK9.out.lt
          clear HC HT HB
          go_wp2_with fail
          (with_reducible refine (words_any _ HC9.out.fz).mono ?_); rintro e w3 ⟨v, rfl, hO, hB⟩
          have hw64 := HC9.out.len
          obtain ⟨A1, c1, rfl, hc1, hm1, -⟩ := hO.form HC9.out.fz.word
          rw [hw64] at hc1 ⊢
          have HCA1 := Lib.hid hc1
          have HO1 := Lib.hid hO
          have HK3 := Lib.hid (HK9.out.next hB rfl)
          have HC3 := Lib.hid (HC9.out.old hB)
          have HT3 := Lib.hid (HT9.out.old hB)
          have HBW3 := Lib.hid (below_then HBW.out hB (Nat.le_refl _))
          have h3s : w9.heap.size ≤ w3.heap.size := hB.size
          have HWD := Lib.hid HC9.out.fz.word
          have HLN := Lib.hid hw64
          clear hO hB hcc HK9 HC9 HT9 HBW HB9 hw64
          obtain ⟨er, hE⟩ : ∃ e, plE vs t.d t.n t.ks = e := ⟨_, rfl⟩
          obtain ⟨pl, hL⟩ : ∃ e, plL vs t.d t.n t.ks = e := ⟨_, rfl⟩
          have hG := good_plan HLN.out HWD.out t.d t.n t.ks HOK.out.2.1 HOK.out.2.2.1
          rw [hL] at hG
          have HE := Lib.hid hE
          have HL := Lib.hid hL
          have HGD := Lib.hid hG
          clear hE hL hG
          go_wp2_with (refine wpList_load_row rfl 59 _ rfl wr.heap.size rfl 59 tl.toArray (0, 0) _ HK3.out Tryd.underlying59 rfl HST.out ?_)
          (with_reducible refine (plan_to t _ er pl HC3.out HT3.out HOK.out HTL.out HE.out HL.out).mono ?_); rintro e w4 ⟨v, rfl, hO, hB⟩
          obtain ⟨A4, cp4, rfl, hl4, hm4, -⟩ := hO.at_
          have HO4 := Lib.hid hO
          have HK4 := Lib.hid (HK3.out.next hB rfl)
          have HC4 := Lib.hid (HC3.out.old hB)
          have HT4 := Lib.hid (HT3.out.old hB)
          have HBW4 := Lib.hid (below_then HBW3.out hB (Nat.le_refl _))
          have HOO1 := Lib.hid (own32_next HO1.out hB rfl)
          have h4s : w3.heap.size ≤ w4.heap.size := hB.size
          clear hO hB HK3 HC3 HT3 HBW3 HO1 HE HL HST
          have hm34 : w4.cell? ⟨wr.heap.size, 34, none⟩ = some (.int .u8 (t.m : Int)) := by rw [HK4.out.cell, ← HTL.out]; exact (ActV.tail HOK.out).1
          have hmb : t.m < 256 := HOK.out.2.2.2.1
          simp only [maxLen] at hm4
          go_upto_region 14 with fail
          go_cut [13] (fun v w' => v = .int .i64 ((min (t.m % 20) pl.length : Nat) : Int) ∧ w' = w4)
          case first =>
            go_wp2_with fail
            all_goals go_meet
            all_goals exact ⟨by congr 1; omega, rfl⟩
          case rest =>
            obtain ⟨rfl, rfl⟩ := hcut
            obtain ⟨w4, rfl⟩ : ∃ wo : World, wo = wc := ⟨_, rfl⟩
            have hn1 : min (t.m % 20) pl.length ≤ pl.length := Nat.min_le_right _ _
            generalize min (t.m % 20) pl.length = n at *
            have HKX := Lib.hid (keeps_tear HLN.out HGD.out n)
            obtain ⟨hd, hkp⟩ := keeps_take HLN.out HGD.out n
            generalize setAll vs (pl.take n) = vs1 at *
            have HD := Lib.hid hd
            have HKP := Lib.hid hkp
            have HM := Lib.hid HGD.out.2.1
            have hbw : b < w3.heap.size := by omega
            have hncp : (n : Int) ≤ (cp4 : Int) := by omega
            clear hd hkp HGD hm34 hmb
            go_wp2_with fail
            (with_reducible refine (do_take A4 n cp4 pl.length w3.heap.size pl vs1 HC4.out HO4.out hn1 hbw HM.out HD.out).mono ?_); rintro e w5 ⟨rfl, hC, hF⟩
            have HC5 := Lib.hid hC
            have HK5 := Lib.hid (HK4.out.frm hF (by simp; omega))
            have HT5 := Lib.hid (HT4.out.frm hF (by have := HTW.out.lt; simp; omega))
            have HBW5 := Lib.hid (Below.frm HBW4.out hF (by omega) (by simp; omega))
            have HO5 := Lib.hid (show OwnW w5 w3.heap.size (.slice A4 pl.length cp4) pl from own_frm HO4.out hF (by simp; omega))
            have HOO5 := Lib.hid (show Own32 w5 w9.heap.size (.slice A1 vs.length c1) vs from own_frm HOO1.out hF (by simp; omega))
            have h5s : w4.heap.size ≤ w5.heap.size := hF.size
            have hm35 : w5.cell? ⟨wr.heap.size, 35, none⟩ = some (.bool t.tn) := by rw [HK5.out.cell, ← HTL.out]; exact (ActV.tail HOK.out).2.1
            have hm36 : w5.cell? ⟨wr.heap.size, 36, none⟩ = some (.int .u32 (t.g : Int)) := by rw [HK5.out.cell, ← HTL.out]; exact (ActV.tail HOK.out).2.2
            have hgb : t.g < 4294967296 := HOK.out.2.2.2.2
            clear hC hF HC4 HK4 HT4 HBW4 HO4 HOO1 HD
            go_upto_region 17 with fail
            go_cut [79] (fun v w' => v = .bool false ∧ ∃ vs2, Hid (Cz w' c p b vs2 f64 false) ∧ Hid (Keeps vs vs2) ∧ Hid (Frm [b] w5 w'))
            case first =>
              obtain ⟨tb, htb⟩ : ∃ q, t.tn = q := ⟨_, rfl⟩
              rw [htb] at hm35
              clear htb
              cases tb with
              | false =>
                clear hm36 HKX HO5
                go_quiet (fail)
                go_wp2_with fail
                go_meet
                exact ⟨rfl, vs1, Lib.hid (HC5.out.drewN _), HKP, Lib.hid ((Frm.refl [b] w5).drewN _)⟩
              | true =>
                by_cases hnl : n < pl.length
                · obtain ⟨⟨x, y⟩, hx⟩ : ∃ q, pl[n]? = some q := ⟨_, List.getElem?_eq_getElem hnl⟩
                  obtain ⟨A', cp', hv, -, -, hat⟩ := HO5.out.at_
                  simp only [Value.slice.injEq] at hv
                  obtain ⟨rfl, -, -⟩ := hv
                  obtain ⟨g4, rfl, hg4, hg5, hx0, hx1⟩ := hat n x y hx
                  obtain ⟨hcz, hkk⟩ := HKX.out x y hx t.g
                  have hyb := (HM.out _ (List.mem_of_getElem? hx)).2
                  simp only at hyb
                  have HCE := Lib.hid hcz
                  have HKK := Lib.hid hkk
                  clear hat hx hcz hkk HO5 HKX
                  go_still_tail 16, (by kernel_rfl)
                  change wpList _ _ _ _ _ w5.drew
                  go_wp2_with fail
                  (with_reducible refine (tear_any x y t.g _ HC5.out.drew hyb hgb).mono ?_); rintro e w6 ⟨rfl, hC6, hF6⟩
                  rw [HCE.out]
                  have HC6 := Lib.hid hC6
                  have HF6 := Lib.hid hF6
                  clear hC6 hF6 hm35 hm36 hx0 hx1 HCE
                  go_wp2_with fail
                  go_meet
                  exact ⟨rfl, _, HC6, HKK, Lib.hid ((Frm.refl [b] w5).drew.trans HF6.out)⟩
                · clear hm36 HKX HO5
                  go_quiet (fail)
                  go_wp2_with fail
                  go_meet
                  exact ⟨rfl, vs1, Lib.hid (HC5.out.drewN _), HKP, Lib.hid ((Frm.refl [b] w5).drewN _)⟩
            case rest =>
              obtain ⟨rfl, vs2, HC6, HKE, HF6⟩ := hcut
              obtain ⟨w6, rfl⟩ : ∃ wo : World, wo = wc := ⟨_, rfl⟩
              have HT6 := Lib.hid (HT5.out.frm HF6.out (by have := HTW.out.lt; simp; omega))
              have HBW6 := Lib.hid (Below.frm HBW5.out HF6.out (by omega) (by simp; omega))
              have HOO6 := Lib.hid (show Own32 w6 w9.heap.size (.slice A1 vs.length c1) vs from own_frm HOO5.out HF6.out (by simp; omega))
              have hcc := HC6.out.cell.1
              clear HF6 HT5 HBW5 HOO5 HC5 HK5 HO5 HKX HKP hm35 hm36 HM hgb hbw hncp hn1 hl4 hm4 HOK HTL hg0
              go_wp2_with fail
              (with_reducible refine (words_any _ HC6.out.fz).mono ?_); rintro e w7 ⟨v, rfl, hO, hB⟩
              obtain ⟨A2, c2, rfl, hc2, hm2, hN2⟩ := hO.form HC6.out.fz.word
              have hw64 := HC6.out.len
              rw [hw64] at hc2 ⊢
              have HN2 := Lib.hid hN2
              have HN1 := Lib.hid (own32_nats (own32_next HOO6.out hB rfl) HWD.out)
              have HC7 := Lib.hid (HC6.out.old hB)
              have HT7 := Lib.hid (HT6.out.old hB)
              have HBW7 := Lib.hid (below_then HBW6.out hB (Nat.le_refl _))
              have HLN2 := Lib.hid hw64
              have HWD2 := Lib.hid HC6.out.fz.word
              obtain ⟨hlf, hct, hrw⟩ := HKE.out.law HLN.out HWD.out HWD2.out
              have HRW := Lib.hid hrw
              obtain ⟨a2, ha2⟩ : ∃ q, life vs2 = q := ⟨_, rfl⟩
              obtain ⟨a1, ha1⟩ : ∃ q, life vs = q := ⟨_, rfl⟩
              obtain ⟨b2, hb2⟩ : ∃ q, counter vs2 = q := ⟨_, rfl⟩
              obtain ⟨b1, hb1⟩ : ∃ q, counter vs = q := ⟨_, rfl⟩
              rw [ha1, ha2] at hlf
              rw [hb1, hb2] at hct
              have HA2 := Lib.hid ha2
              have HA1 := Lib.hid ha1
              have HB2 := Lib.hid hb2
              have HB1 := Lib.hid hb1
              have hl1 : ¬ ((a2 : Int) < (a1 : Int)) := by omega
              have hl2 : ¬ ((b2 : Int) < (b1 : Int)) := by omega
              have hd1 : decide ((a2 : Int) < (a1 : Int)) = false := decide_eq_false hl1
              have hd2 : decide ((b2 : Int) < (b1 : Int)) = false := decide_eq_false hl2
              have hn1 : ¬ a2 < a1 := by omega
              have hn2 : ¬ b2 < b1 := by omega
              have HCA2 := Lib.hid hc2
              have HC7' := HC7
              have HT7' := HT7
              clear hO hB hN2 HOO6 HC6 HT6 HBW6 hw64 hrw hcc HKE hlf hct hc2 ha2 ha1 hb2 hb1
              go_wp2_with fail
              (with_reducible refine (life_n A2 c2 vs2 a2 _ _ HLN2.out HN2.out HA2.out).mono ?_); rintro e w8 ⟨rfl, rfl⟩
              go_wp2_with fail
              (with_reducible refine (life_n A1 c1 vs a1 _ _ HLN.out HN1.out HA1.out).mono ?_); rintro e w8 ⟨rfl, rfl⟩
              go_wp2_with fail
              (with_reducible refine (count_n A2 c2 vs2 b2 _ _ HLN2.out HWD2.out HN2.out HB2.out).mono ?_); rintro e w8 ⟨rfl, rfl⟩
              go_wp2_with fail
              (with_reducible refine (count_n A1 c1 vs b1 _ _ HLN.out HWD.out HN1.out HB1.out).mono ?_); rintro e w8 ⟨rfl, rfl⟩
              clear HA1 HA2 HB1 HB2 hm1 hm2 HC7 HT7
              go_wp2_with fail
              obtain ⟨gO, rfl⟩ : ∃ q : Nat, q = gk := ⟨_, rfl⟩
              obtain ⟨wO, rfl⟩ : ∃ q : World, q = wr := ⟨_, rfl⟩
              go_loopg [97] 4 (fun g s97 wz => ∃ r : Nat, r + g = 4 ∧ s97 = .int .i64 (r : Int) ∧ Hid (Below w7.heap.size w7 wz))
              case atStart => exact ⟨0, by omega, rfl, Lib.hid (Below.refl _ _)⟩
              case round =>
                obtain ⟨r, hgr, rfl, HBz⟩ := hrel
                have HGR := Lib.hid hgr
                have hr4' : r ≤ 4 := by omega
                clear hgr
                by_cases hr4 : r < 4
                · go_wp2_with fail
                  obtain ⟨D1, hD1⟩ : ∃ q, rowD vs r = q := ⟨_, rfl⟩
                  obtain ⟨E1, hE1⟩ : ∃ q, rowE vs r = q := ⟨_, rfl⟩
                  have HD1 := Lib.hid hD1
                  have HE1 := Lib.hid hE1
                  have hL1 := rowD_length HLN.out hr4
                  rw [hD1] at hL1
                  clear hD1 hE1
                  (with_reducible refine (row_to A1 c1 vs r D1 E1 _ w7.heap.size HCA1.out hr4 HLN.out (by exact HBz.out.size) (by exact HN1.out.below HBz.out) HD1.out HE1.out).mono ?_); rintro e w8 ⟨rfl, hB⟩
                  have HB8 := Lib.hid (below_then HBz.out hB (Nat.le_refl _))
                  have HS1 := Lib.hid (show (Tryd.prog.info? 57).map (·.size) = some (b8 D1).size by rw [b8_size, hL1]; exact dig_info)
                  have HZ1 := Lib.hid (show (b8 (List.replicate 32 0)).size = (b8 D1).size by rw [b8_size, b8_size, hL1]; rfl)
                  have HO1 := Lib.hid (b8_one D1)
                  have HKZ := Lib.hid (show Blk (w8.alloc (.cells (b8 (List.replicate 32 0)) 57)) w8.heap.size 57 (b8 (List.replicate 32 0)) from Blk.new w8 _ _)
                  have HBZ := Lib.hid ((Below.refl _ w8).alloc (Nat.le_refl _) (.cells (b8 (List.replicate 32 0)) 57))
                  clear hB HBz hL1
                  go_upto_region 26 with (refine wpList_store_row rfl 57 _ _ rfl w8.heap.size (b8 D1) rfl rfl 57 (b8 (List.replicate 32 0)) HKZ.out HS1.out HZ1.out HO1.out ?_)
                  change Code.wp _ _ _ _ ((w8.alloc (.cells (b8 (List.replicate 32 0)) 57)).setRow w8.heap.size (b8 D1))
                  have HK16 := Lib.hid (show Blk ((w8.alloc (.cells (b8 (List.replicate 32 0)) 57)).setRow w8.heap.size (b8 D1)) w8.heap.size 57 (b8 D1) from setRow_heap _ _ _ (b8 D1) _ _ HKZ.out)
                  have HB16 := Lib.hid (below_then HB8.out (below_setRow HBZ.out (Nat.le_refl _) (b8 D1)) (Nat.le_refl _))
                  generalize (w8.alloc (.cells (b8 (List.replicate 32 0)) 57)).setRow w8.heap.size (b8 D1) = w10 at *
                  clear HKZ HBZ HB8 HS1 HZ1 HO1
                  go_wp2_with fail
                  obtain ⟨D2, hD2⟩ : ∃ q, rowD vs2 r = q := ⟨_, rfl⟩
                  obtain ⟨E2, hE2⟩ : ∃ q, rowE vs2 r = q := ⟨_, rfl⟩
                  have HD2 := Lib.hid hD2
                  have HE2 := Lib.hid hE2
                  have hL2 := rowD_length HLN2.out hr4
                  rw [hD2] at hL2
                  obtain ⟨hrow0, hrow17⟩ := HRW.out r hr4
                  rw [HD1.out, hD2, HE1.out, hE2] at hrow0
                  rw [HE1.out, hE2] at hrow17
                  have HR0 := Lib.hid hrow0
                  have HR17 := Lib.hid hrow17
                  have HL2 := Lib.hid hL2
                  clear hD2 hE2 hrow0 hrow17 HD1 HE1
                  (with_reducible refine (row_to A2 c2 vs2 r D2 E2 _ w7.heap.size HCA2.out hr4 HLN2.out (by exact HB16.out.size) (by exact HN2.out.below HB16.out) HD2.out HE2.out).mono ?_); rintro e w11 ⟨rfl, hB⟩
                  have HB11 := Lib.hid (below_then HB16.out hB (Nat.le_refl _))
                  have HK16b := Lib.hid (HK16.out.next hB rfl)
                  have HS2 := Lib.hid (show (Tryd.prog.info? 57).map (·.size) = some (b8 D2).size by rw [b8_size, hL2]; exact dig_info)
                  have HZ2 := Lib.hid (show (b8 (List.replicate 32 0)).size = (b8 D2).size by rw [b8_size, b8_size, hL2]; rfl)
                  have HO2 := Lib.hid (b8_one D2)
                  have HKZ := Lib.hid (show Blk (w11.alloc (.cells (b8 (List.replicate 32 0)) 57)) w11.heap.size 57 (b8 (List.replicate 32 0)) from Blk.new w11 _ _)
                  have HBZ := Lib.hid ((Below.refl _ w11).alloc (Nat.le_refl _) (.cells (b8 (List.replicate 32 0)) 57))
                  clear hB HB16 HK16 hL2 HD2 HE2
                  go_upto_region 27 with (refine wpList_store_row rfl 57 _ _ rfl w11.heap.size (b8 D2) rfl rfl 57 (b8 (List.replicate 32 0)) HKZ.out HS2.out HZ2.out HO2.out ?_)
                  change Code.wp _ _ _ _ ((w11.alloc (.cells (b8 (List.replicate 32 0)) 57)).setRow w11.heap.size (b8 D2))
                  have HK18 := Lib.hid (show Blk ((w11.alloc (.cells (b8 (List.replicate 32 0)) 57)).setRow w11.heap.size (b8 D2)) w11.heap.size 57 (b8 D2) from setRow_heap _ _ _ (b8 D2) _ _ HKZ.out)
                  have hB12 := below_setRow HBZ.out (Nat.le_refl _) (b8 D2)
                  have HB12 := Lib.hid (below_then HB11.out hB12 (Nat.le_refl _))
                  have HK16c := Lib.hid (HK16b.out.next hB12 rfl)
                  generalize (w11.alloc (.cells (b8 (List.replicate 32 0)) 57)).setRow w11.heap.size (b8 D2) = w12 at *
                  clear HKZ HBZ HB11 HK16b HS2 HZ2 HO2 hB12
                  by_cases e0 : E1 = 0
                  · subst e0
                    rcases HR0.out rfl with e2 | ⟨e2, hDD⟩
                    · subst e2
                      go_wp2_with fail
                      go_light
                      go_roundg (4 - (r + 1))
                      case measure => have := HGR.out; omega
                      case rel => exact ⟨r + 1, by have := HGR.out; omega, by go_num, HB12⟩
                    · subst e2 hDD
                      have HR18 := Lib.hid (show w12.rangeAt w11.heap.size 0 (b8 D2).toList from fun j v hv => by rw [Nat.zero_add, HK18.out.cell]; simpa using hv)
                      have HR16 := Lib.hid (show w12.rangeAt w8.heap.size 0 (b8 D2).toList from fun j v hv => by rw [Nat.zero_add, HK16c.out.cell]; simpa using hv)
                      have heq : ∀ W : World, (Op.equalIn 10000 57 (.agg (b8 D2)) (.agg (b8 D2))).run Tryd.prog W = .ok true W := fun W => by
                        rw [eq_arr W 32 57 D2 D2 HL2.out HL2.out Tryd.underlying57]
                        simp
                      obtain ⟨dl, hdl⟩ : ∃ dl, (b8 D2).toList = dl := ⟨_, rfl⟩
                      have hbd : b8 D2 = dl.toArray := by rw [← hdl]
                      rw [hdl] at HR18 HR16
                      rw [hbd] at heq
                      have HSL := Lib.hid (show (Tryd.prog.info? 57).map (·.size) = some dl.length by
                        rw [← hdl, Array.length_toList, b8_size, HL2.out]
                        exact dig_info)
                      clear hdl hbd HK18 HK16c
                      go_wp2_with (first | refine load_mid_g (by rfl) 57 _ rfl w11.heap.size 0 rfl _ _ HR18.out Tryd.underlying57 rfl HSL.out ?_ | refine load_mid_g (by rfl) 57 _ rfl w8.heap.size 0 rfl _ _ HR16.out Tryd.underlying57 rfl HSL.out ?_)
                      go_light
                      go_roundg (4 - (r + 1))
                      case measure => have := HGR.out; omega
                      case rel => exact ⟨r + 1, by have := HGR.out; omega, by go_num, HB12⟩
                  · by_cases e17 : E1 = 17
                    · subst e17
                      have e2 := HR17.out rfl
                      subst e2
                      go_wp2_with fail
                      go_light
                      go_roundg (4 - (r + 1))
                      case measure => have := HGR.out; omega
                      case rel => exact ⟨r + 1, by have := HGR.out; omega, by go_num, HB12⟩
                    · have b0 : (E1 == 0) = false := by simpa using e0
                      have b17 : (E1 == 17) = false := by simpa using e17
                      go_wp2_with fail
                      go_light
                      go_roundg (4 - (r + 1))
                      case measure => have := HGR.out; omega
                      case rel => exact ⟨r + 1, by have := HGR.out; omega, by go_num, HB12⟩
                · have : r = 4 := by omega
                  subst this
                  go_wp2_with fail
                  go_light
                  go_roundg (l.length - (i + 1))
                  case measure => have := HG.out; omega
                  case rel => exact ⟨i + 1, by have := HG.out; omega, by go_num, vs2, Lib.hid (HC7'.out.old HBz.out), Lib.hid (HT7'.out.old HBz.out), Lib.hid (below_then HBW7.out HBz.out (Nat.le_refl _))⟩
      · go_wp2_with fail
        go_light
        go_ret
        exact ⟨rfl, HB.out⟩
end Otp
end Go.Proofs.YtmcpppgnfmopoaaDoor
