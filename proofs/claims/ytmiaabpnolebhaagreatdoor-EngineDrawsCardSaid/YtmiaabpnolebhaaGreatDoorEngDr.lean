/-
  EngineDraws.
-/
import Derived.Test.YtmiaabpnolebhaaGreatDoorJa8b28742
import Derived.Test.YtmiaabpnolebhaaGreatDoorJd4bcfd3d
set_option linter.unusedSimpArgs false
set_option linter.unusedVariables false
namespace Go.Proofs.YtmiaabpnolebhaaGreatDoor
open Go.RowKit

namespace Eng
open Otp Sha R1 Slot Spc Grant Fla
/-- An engine, and the document's pool, alike. -/
structure Pq (w : World) (B ge s gp : Nat) (pl : List Nat) : Prop where
  eg : Eg w ge s ⟨newSt, zm, pl, 0⟩
  k : Blk w gp 23 (b8 pl)
  lo : B ≤ ge ∧ B ≤ s ∧ B ≤ gp
  ne : gp ≠ ge ∧ gp ≠ s
theorem Pq.old {w w' : World} {B ge s gp : Nat} {pl : List Nat} (h : Pq w B ge s gp pl) (hb : Below w.heap.size w w') : Pq w' B ge s gp pl := ⟨h.eg.old hb, h.k.next hb rfl, h.lo, h.ne⟩
set_option maxRecDepth 100000 in
set_option maxHeartbeats 8000000 in
theorem draws_any (A : Option Addr) (la ca : Nat) (ps : List (List Nat)) (C : Option Addr) (lc cc : Nat) (zs : List Int) (w : World) (hT : STab w) (hS : Spans w) (hpl : ps.length = la) (hpm : la ≤ maxLen) (hP : Sls w w.heap.size A ps) (hzl : zs.length = lc) (hzm : lc ≤ maxLen) (hZ : Ints .i64 w w.heap.size C zs) :
    Calls Tryz.prog 6 #[.slice A la ca, .slice C lc cc] w (TrueBelow w) := by
  have HT := wall hT
  have HP := wall hP
  have HZ := wall hZ
  have HAW := wall (awake_any w hT hS)
  have HNL := wall (And.intro hpl hzl)
  simp only [maxLen] at hpm hzm
  have hpm' : (la : Int) ≤ 9223372036854775807 := by omega
  have hzm' : (lc : Int) ≤ 9223372036854775807 := by omega
  unfold TrueBelow at HAW
  clear hT hS hpl hP hzl hZ
  go_enter Tryz.func6, Tryz.ntmps6
  go_wp2_with fail
  (with_reducible refine HAW.out.mono ?_); rintro e w1 ⟨rfl, hB1⟩
  have HB1 := wall hB1
  clear hB1 HAW
  try simp only [Act.put, List.setIfInBounds_toArray, List.set_cons_zero, List.set_cons_succ]
  go_wp2_with fail
  (with_reducible refine (enew_any w1).mono ?_); rintro e w2 ⟨ge, s, rfl, hge, hs, hE, hB2⟩
  have HQ2 := wall (show ∀ W, W = w2.alloc (.cells (b8 zp) 23) → Pq W w.heap.size ge s w2.heap.size zp ∧ Below w.heap.size w W from fun W hW => by
    subst hW
    have h1 := hE.lt
    have h2 := HB1.out.size
    have h3 := hB2.size
    exact ⟨⟨hE.old ((Below.refl _ _).alloc (Nat.le_refl _) _), Blk.new _ _ _, ⟨by omega, by omega, by omega⟩, ⟨by omega, by omega⟩⟩, (below_then HB1.out hB2 (Nat.le_refl _)).alloc (by omega) _⟩)
  obtain ⟨gp, hgp⟩ : ∃ y, w2.heap.size = y := ⟨_, rfl⟩
  rw [hgp] at HQ2
  have HGP := wall hgp
  clear hge hs hE hB2 HB1 hgp
  try simp only [Act.put, List.setIfInBounds_toArray, List.set_cons_zero, List.set_cons_succ]
  go_upto_region 5 with fail
  rw [HGP.out]
  change Code.wp _ _ _ _ (w2.alloc (.cells (b8 zp) 23))
  obtain ⟨W3, hW3⟩ : ∃ W, W = w2.alloc (.cells (b8 zp) 23) := ⟨_, rfl⟩
  have HQ3 := wall (HQ2.out W3 hW3)
  rw [← hW3]
  clear hW3 HQ2 HGP
  go_wp2_with fail
  go_loopg [18] la (fun gg s18 wr => ∃ i : Nat, i + gg = la ∧ s18 = .int .i64 (i : Int) ∧ ∃ pl, Wall (Pq wr w.heap.size ge s gp pl ∧ Below w.heap.size w wr))
  case atStart => exact ⟨0, by omega, rfl, zp, HQ3⟩
  case round =>
    obtain ⟨i, hg, rfl, pl, HQ⟩ := hrel
    clear HQ3
    have HG := wall hg
    have hig : i ≤ la := by omega
    clear hg
    by_cases hlt : i < la
    · have hlt' : (i : Int) < (la : Int) := by omega
      obtain ⟨q, hq⟩ : ∃ q, ps[i]? = some q := ⟨_, List.getElem?_eq_getElem (by rw [HNL.out.1]; exact hlt)⟩
      obtain ⟨xb, xo, A1, n1, c1, rfl, hxb, hxc, hqn, hqm, hqz⟩ := (HP.out.next HQ.out.2) i q hq
      have HZQ := wall (And.intro hqn (And.intro hqm hqz))
      clear hqn hqm hqz hq
      by_cases h6 : i < 6
      · have h6' : (i : Int) < 6 := by omega
        have HC := wall (cut_any A1 n1 c1 q 40 40 wr HZQ.out.1 HZQ.out.2.1 rfl (by decide) HZQ.out.2.2)
        have HLB := wall (show (∀ x ∈ q.take 40, x < 256) ∧ (q.take 40).length ≤ 40 from ⟨fun x hx => by
          obtain ⟨j, hj⟩ := List.mem_iff_getElem?.1 (List.mem_of_mem_take hx)
          exact (HZQ.out.2.2 j x hj).1, List.length_take_le _ _⟩)
        obtain ⟨l, hl⟩ : ∃ l, q.take 40 = l := ⟨_, rfl⟩
        rw [hl] at HC HLB
        unfold BytesOut at HC
        clear hl HZQ
        go_wp2_with fail
        (with_reducible refine HC.out.mono ?_); rintro e w4 ⟨u, rfl, hO4, hB4⟩
        have HQ4 := wall (And.intro (HQ.out.1.old hB4) (below_then HQ.out.2 hB4 (Nat.le_refl _)))
        have HNI := wall hO4
        obtain ⟨A4, c4, rfl, hc4, hN4, hA4⟩ := own_nats hO4 HLB.out.1
        obtain ⟨n, hn⟩ : ∃ y, l.length = y := ⟨_, rfl⟩
        have HST := wall (stir_any ge s ⟨newSt, zm, pl, 0⟩ A4 n c4 l w4 (HT.out.old HQ4.out.2) HQ4.out.1.eg hn (by rw [← hn]; exact hc4) (own_nil HNI.out) (by have := HLB.out.2; omega) hN4)
        have HN4 := wall (And.intro hn (And.intro hc4 (And.intro (own_nil HNI.out) (And.intro hN4 hA4))))
        have HWR := wall (show w.heap.size ≤ wr.heap.size from HQ.out.2.size)
        have HGS := wall (show ge < wr.heap.size ∧ gp < wr.heap.size from ⟨HQ.out.1.eg.lt.1, HQ.out.1.k.lt⟩)
        unfold EgOut stirV at HST
        rw [hn]
        clear hO4 hB4 hc4 hN4 hA4 hn HQ HC HNI hxc
        try simp only [Act.put, List.setIfInBounds_toArray, List.set_cons_zero, List.set_cons_succ]
        go_wp2_with fail
        (with_reducible refine HST.out.mono ?_); rintro e w5 ⟨rfl, hE5, hF5⟩
        have hgs := HGS.out
        have HB5 := wall (Below.frm HQ4.out.2 hF5 (Nat.le_refl _) (by have := HQ4.out.1.lo; simp; omega))
        have K5 := wall (HQ4.out.1.k.frm hF5 (by simp; exact HQ4.out.1.ne.1))
        have HLN := wall HQ4.out.1.lo
        have HNE := wall HQ4.out.1.ne
        have HPO := wall HQ4.out.1.eg.ok
        have HE5 := wall hE5
        have HN5 := wall (Eng.nats_far HN4.out.2.2.2.1 hF5 (fun ad e => by have := HN4.out.2.2.2.2 ad e; simp; omega))
        have HRS := wall (rstir_any pl l A4 n c4 w5 HPO.out.lp HPO.out.bp HN4.out.1 (by rw [← HN4.out.1]; exact HN4.out.2.1) HN4.out.2.2.1 (by have := HLB.out.2; have := HN4.out.1; omega) HN5.out)
        have HDL := wall (show (sumB (pl ++ l)).length = 32 ∧ ∀ x ∈ sumB (pl ++ l), x < 256 from ⟨sumB_length _, sumB_byte _⟩)
        have HSP := wall (show (Tryz.prog.info? 23).map (·.size) = some (b8 pl).size by rw [b8_size, HPO.out.lp]; exact dig_info)
        obtain ⟨D, hD⟩ : ∃ y, sumB (pl ++ l) = y := ⟨_, rfl⟩
        try simp only at HE5
        rw [hD] at HRS HDL HE5
        have HSD := wall (show (Tryz.prog.info? 23).map (·.size) = some (b8 D).size by rw [b8_size, HDL.out.1]; exact dig_info)
        have HPZ := wall (show (b8 pl).size = (b8 D).size by rw [b8_size, b8_size, HDL.out.1]; exact HPO.out.lp)
        clear hE5 hF5 HST HQ4 hD hgs HN4
        try simp only [Act.put, List.setIfInBounds_toArray, List.set_cons_zero, List.set_cons_succ]
        go_wp2_with (refine wpList_load_row rfl 23 _ rfl gp rfl 23 (b8 pl) (0, 0) _ K5.out Tryz.underlying23 rfl HSP.out ?_)
        (with_reducible refine HRS.out.mono ?_); rintro e w6 ⟨rfl, hB6⟩
        have HB6 := wall (below_then HB5.out hB6 (Nat.le_refl _))
        have K6 := wall (K5.out.next hB6 rfl)
        have HE6 := wall (HE5.out.old hB6)
        clear hB6 HRS HB5 K5 HE5
        try simp only [Act.put, List.setIfInBounds_toArray, List.set_cons_zero, List.set_cons_succ]
        go_wp2_with (refine wpList_set_row rfl 23 (.tmp 6) (.tmp 32) rfl gp (b8 D) rfl rfl 23 (b8 pl) K6.out HSD.out HPZ.out (b8_one _) ?_; intro w7 K7 F7)
        have HQ7 := wall (show Pq w7 w.heap.size ge s gp D ∧ Below w.heap.size w w7 from ⟨⟨HE6.out.frm F7.out (by have := HNE.out.1; simp; omega) (by have := HNE.out.2; simp; omega), K7.out, HLN.out, HNE.out⟩, Below.frm HB6.out F7.out (Nat.le_refl _) (by have := HLN.out.2.2; simp; omega)⟩)
        clear K7 F7 K6 HE6 HB6
        go_light
        go_roundg (la - (i + 1))
        case measure => have := HG.out; omega
        case rel => exact ⟨i + 1, by have := HG.out; omega, by go_num, D, HQ7⟩
      · have h6' : ¬ (i : Int) < 6 := by omega
        go_wp2_with fail
        go_light
        go_roundg (la - (i + 1))
        case measure => have := HG.out; omega
        case rel => exact ⟨i + 1, by have := HG.out; omega, by go_num, pl, HQ⟩
    · have : i = la := by omega
      subst this
      obtain ⟨gO, rfl⟩ : ∃ q, q = gk := ⟨_, rfl⟩
      obtain ⟨wO, rfl⟩ : ∃ q, q = wr := ⟨_, rfl⟩
      have HQ0 := wall HQ.out
      clear HQ HG
      go_wp2_with fail
      go_loopg [36] lc (fun gg s36 wr => ∃ j : Nat, j + gg = lc ∧ s36 = .int .i64 (j : Int) ∧ ∃ pl, Wall (Pq wr w.heap.size ge s gp pl ∧ Below w.heap.size w wr))
      case atStart => exact ⟨0, by omega, rfl, pl, HQ0⟩
      case round =>
        clear HQ0
        obtain ⟨j, hg, rfl, pl, HQ⟩ := hrel
        have HG := wall hg
        have hjg : j ≤ lc := by omega
        clear hg
        by_cases hlt2 : j < lc
        · have hlt2' : (j : Int) < (lc : Int) := by omega
          obtain ⟨z, hz⟩ : ∃ z, zs[j]? = some z := ⟨_, List.getElem?_eq_getElem (by rw [HNL.out.2]; exact hlt2)⟩
          obtain ⟨hwf, xb, xo, rfl, hxb, hxc⟩ := ((HZ.out.below HQ.out.2).more HQ.out.2.size) j z hz
          clear hz
          by_cases h5 : j < 5
          · have h5' : ¬ (j : Int) ≥ 5 := by omega
            have HDR := wall (draw_any ge s ⟨newSt, zm, pl, 0⟩ z wr (HT.out.old HQ.out.2) HQ.out.1.eg)
            obtain ⟨R, hR⟩ : ∃ y, drawR ⟨newSt, zm, pl, 0⟩ z = y := ⟨_, rfl⟩
            have HR := wall hR
            unfold drawR at HR
            rw [hR] at HDR
            unfold DrawOut at HDR
            have HGS := wall (show ge < wr.heap.size ∧ gp < wr.heap.size ∧ w.heap.size ≤ wr.heap.size from ⟨HQ.out.1.eg.lt.1, HQ.out.1.k.lt, HQ.out.2.size⟩)
            clear hR
            go_wp2_with fail
            (with_reducible refine HDR.out.mono ?_); rintro e w4 ⟨A4, c4, rfl, hc4, -, hA4, hN4, hE4, hF4⟩
            have HLO := wall HQ.out.1.lo
            have HNE := wall HQ.out.1.ne
            have HPO := wall HQ.out.1.eg.ok
            have HB4 := wall (Below.frm HQ.out.2 hF4 (Nat.le_refl _) (by have := HQ.out.1.lo; simp; omega))
            have K4 := wall (HQ.out.1.k.frm hF4 (by simp; exact HQ.out.1.ne.1))
            have HE4 := wall hE4
            have HN4 := wall (And.intro hc4 (And.intro hA4 hN4))
            clear hc4 hA4 hN4 hE4 hF4 HDR HQ hxc
            try simp only [Act.put, List.setIfInBounds_toArray, List.set_cons_zero, List.set_cons_succ]
            by_cases hk : z < 0 ∨ 1024 < z
            · have HRE := wall (show R = ([], ⟨newSt, zm, pl, 0⟩) by have := HR.out; rw [if_pos hk] at this; exact this.symm)
              have hR0 : R.1.length = 0 := by rw [HRE.out]; rfl
              have HQ4 := wall (show Pq w4 w.heap.size ge s gp pl ∧ Below w.heap.size w w4 from ⟨⟨by have := HE4.out; rw [HRE.out] at this; exact this, K4.out, HLO.out, HNE.out⟩, HB4.out⟩)
              rw [hR0]
              clear HR HRE HE4 K4 HN4 HB4 hR0
              rcases hk with hk | hk
              · go_wp2_with fail
                go_light
                go_roundg (lc - (j + 1))
                case measure => have := HG.out; omega
                case rel => exact ⟨j + 1, by have := HG.out; omega, by go_num, pl, HQ4⟩
              · have hk0 : ¬ z < 0 := by omega
                have hk1 : z > 1024 := hk
                go_wp2_with fail
                go_light
                go_roundg (lc - (j + 1))
                case measure => have := HG.out; omega
                case rel => exact ⟨j + 1, by have := HG.out; omega, by go_num, pl, HQ4⟩
            · obtain ⟨n, rfl⟩ : ∃ n : Nat, z = n := ⟨z.toNat, by omega⟩
              have hk0 : ¬ (n : Int) < 0 := by omega
              have hk1 : ¬ (n : Int) > 1024 := by omega
              obtain ⟨Y, hY⟩ : ∃ y, (drawL pl ((n + 31) / 32)).take n = y := ⟨_, rfl⟩
              have HRE := wall (show R = (Y, ⟨newSt, zm, nextB pl, 0⟩) by have := HR.out; rw [if_neg hk, Int.toNat_natCast, hY] at this; exact this.symm)
              have HYB := wall (show (∀ x ∈ Y, x < 256) ∧ Y.length ≤ 1024 from hY ▸ ⟨fun x hx => drawL_byte _ _ x (List.mem_of_mem_take hx), by have := List.length_take_le n (drawL pl ((n + 31) / 32)); omega⟩)
              have HRD := wall (fun W => rdraw_any pl n W HPO.out.lp HPO.out.bp (by omega))
              rw [hY] at HRD
              unfold RDrawOut at HRD
              have HDL := wall (show (nextB pl).length = 32 ∧ ∀ x ∈ nextB pl, x < 256 from ⟨sumB_length _, sumB_byte _⟩)
              have HSP := wall (show (Tryz.prog.info? 23).map (·.size) = some (b8 pl).size by rw [b8_size, HPO.out.lp]; exact dig_info)
              obtain ⟨D, hD⟩ : ∃ y, nextB pl = y := ⟨_, rfl⟩
              rw [hD] at HRD HDL HRE
              have HSD := wall (show (Tryz.prog.info? 23).map (·.size) = some (b8 D).size by rw [b8_size, HDL.out.1]; exact dig_info)
              have HPZ := wall (show (b8 pl).size = (b8 D).size by rw [b8_size, b8_size, HDL.out.1]; exact HPO.out.lp)
              have HE5 := wall (show Eg w4 ge s ⟨newSt, zm, D, 0⟩ by have := HE4.out; rw [HRE.out] at this; exact this)
              have HN5 := wall (show Nats .u8 256 w4 w4.heap.size A4 Y by have := HN4.out.2.2; rw [HRE.out] at this; exact this)
              have HA4 := wall HN4.out.2.1
              rw [show R.1 = Y by rw [HRE.out]]
              obtain ⟨m, hm⟩ : ∃ y, Y.length = y := ⟨_, rfl⟩
              have HYM := wall hm
              rw [hm]
              rw [hm] at HRD
              clear HR HRE HE4 HN4 hk hY hD hm
              go_wp2_with (refine wpList_load_row rfl 23 _ rfl gp rfl 23 (b8 pl) (0, 0) _ K4.out Tryz.underlying23 rfl HSP.out ?_)
              (with_reducible refine (HRD.out w4).mono ?_); rintro e w5 ⟨A5, c5, rfl, hc5, hA5', hN5', hB5⟩
              have HB5 := wall (below_then HB4.out hB5 (Nat.le_refl _))
              have K5 := wall (K4.out.next hB5 rfl)
              have HE6 := wall (HE5.out.old hB5)
              have HM5 := wall (nats_step HN5.out hB5)
              have HR5 := wall (And.intro hN5' hA5')
              have HS45 := wall (show gp < w4.heap.size from K4.out.lt)
              have hgs := HGS.out
              clear hc5 hN5' hA5' hB5 HRD HB4 K4 HE5 HN5
              try simp only [Act.put, List.setIfInBounds_toArray, List.set_cons_zero, List.set_cons_succ]
              go_upto_region 23 with (refine wpList_set_row rfl 23 (.tmp 6) (.tmp 60) rfl gp (b8 D) rfl rfl 23 (b8 pl) K5.out HSD.out HPZ.out (b8_one _) ?_; intro w6 K6 F6)
              have HQ6 := wall (show Pq w6 w.heap.size ge s gp D ∧ Below w.heap.size w w6 from ⟨⟨HE6.out.frm F6.out (by have := HNE.out.1; simp; omega) (by have := HNE.out.2; simp; omega), K6.out, HLO.out, HNE.out⟩, Below.frm HB5.out F6.out (Nat.le_refl _) (by have := HLO.out.2.2; simp; omega)⟩)
              have HM6 := wall (Eng.nats_far HM5.out F6.out (fun ad e => by have := HA4.out ad e; have := HGS.out; simp; omega))
              have HR6 := wall (show Nats .u8 256 w6 w6.heap.size A5 Y from Eng.nats_far HR5.out.1 F6.out (fun ad e => by have := HR5.out.2 ad e; have := HS45.out; simp; omega))
              have HSM := wall (R1.same_any A4 A5 m m c4 c5 Y Y true w6 _ _ HYM.out HYM.out (by have := HYB.out.2; have := HYM.out; simp only [maxLen]; omega) (by have := HYB.out.2; have := HYM.out; simp only [maxLen]; omega) HM6.out HR6.out (by simp))
              unfold SameOut at HSM
              clear K6 F6 HB5 K5 HE6 HM5 HR5 HM6 HR6 hgs
              try simp only [Act.put, List.setIfInBounds_toArray, List.set_cons_zero, List.set_cons_succ]
              go_wp2_with fail
              (with_reducible refine HSM.out.mono ?_); rintro e w7 ⟨rfl, nq, rfl⟩
              have HQ7 := wall (show Pq (w6.drewN nq) w.heap.size ge s gp D ∧ Below w.heap.size w (w6.drewN nq) from ⟨⟨⟨HQ6.out.1.eg.ok, HQ6.out.1.eg.blk.drewN _, ⟨HQ6.out.1.eg.sl.ok, HQ6.out.1.eg.sl.blk.drewN _⟩, HQ6.out.1.eg.ne⟩, HQ6.out.1.k.drewN _, HQ6.out.1.lo, HQ6.out.1.ne⟩, Below.drewN HQ6.out.2 _⟩)
              clear HSM HQ6
              try simp only [Act.put, List.setIfInBounds_toArray, List.set_cons_zero, List.set_cons_succ]
              go_wp2_with fail
              go_light
              go_roundg (lc - (j + 1))
              case measure => have := HG.out; omega
              case rel => exact ⟨j + 1, by have := HG.out; omega, by go_num, D, HQ7⟩
          · have h5' : (j : Int) ≥ 5 := by omega
            go_wp2_with fail
            go_light
            go_ret
            exact ⟨rfl, HQ.out.2⟩
        · have : j = lc := by omega
          subst this
          go_wp2_with fail
          go_light
          go_ret
          exact ⟨rfl, HQ.out.2⟩
end Eng
end Go.Proofs.YtmiaabpnolebhaaGreatDoor
