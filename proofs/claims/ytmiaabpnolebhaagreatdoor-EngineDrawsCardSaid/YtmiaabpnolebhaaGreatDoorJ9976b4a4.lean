/-
  Texts of this claim, joined: ShaFeed, ShaPad, ShaDig, ShaFin.
-/
import Derived.Test.YtmiaabpnolebhaaGreatDoorShaPress
import Derived.Test.YtmiaabpnolebhaaGreatDoorJc950bf80
set_option linter.unusedSimpArgs false
set_option linter.unusedVariables false
/-
  Package sha: Feed.
-/
namespace Go.Proofs.YtmiaabpnolebhaaGreatDoor
open Go.RowKit

namespace Sha
open Otp R1
/-- A state's cells where it is nothing yet. -/
def zS : List Value := List.replicate 8 (.int .u32 0) ++ (List.replicate 64 (.int .u8 0) ++ [.int .u64 0])
theorem st_info : (Tryz.prog.info? 284).map (·.size) = some 73 := by kernel_rfl
theorem u8_size : (Tryz.prog.info? 5).map (·.size) = some 1 := by kernel_rfl
def FeedOut (w : World) (t : List Nat) (e : Ending) (w' : World) : Prop := e = .returned (.agg (cS t).toArray) ∧ Below w.heap.size w w'
set_option maxRecDepth 100000 in
set_option maxHeartbeats 8000000 in
theorem feed_any (T0 p : List Nat) (A : Option Addr) (len cap : Nat) (w : World) (hT : STab w) (hb : ∀ x ∈ T0, x < 256) (hpl : p.length = len) (hm : T0.length + p.length ≤ 1000000) (hc : len ≤ cap) (hz : Nats .u8 256 w w.heap.size A p) :
    Calls Tryz.prog 149 #[.agg (cS T0).toArray, .slice A len cap] w (FeedOut w (T0 ++ p)) := by
  subst hpl
  have HT := wall hT
  have HBT := wall hb
  have HM := wall hm
  have HN := wall hz
  have HPB := wall (show ∀ x ∈ p, x < 256 from fun x hx => by
    obtain ⟨i, hi⟩ := List.mem_iff_getElem?.1 hx
    exact (hz i x hi).1)
  clear hT hb hm hz
  go_enter Tryz.func149, Tryz.ntmps149
  go_wp2_with fail
  go_loopg [1] p.length (fun g s1 wr => ∃ (q r : List Nat) (A' : Option Addr) (C : Nat), Wall (p = q ++ r) ∧ r.length = g ∧ s1 = .slice A' r.length C ∧ r.length ≤ C ∧ Wall (Nats .u8 256 wr w.heap.size A' r) ∧ Wall (Blk wr w.heap.size 284 (cS (T0 ++ q)).toArray) ∧ Wall (Blk wr (w.heap.size + 1) 284 zS.toArray) ∧ Wall (Below w.heap.size w wr))
  case atStart =>
    refine ⟨[], p, A, cap, wall rfl, rfl, rfl, hc, wall ?_, wall ?_, wall ?_, wall ?_⟩
    · exact HN.out.below (((Below.refl _ w).alloc (Nat.le_refl _) _).alloc (by simp) _)
    · rw [List.append_nil]
      exact (Blk.new w _ _).alloc _
    · exact blk_new' (by simp)
    · exact ((Below.refl _ w).alloc (Nat.le_refl _) _).alloc (by simp) _
  case round =>
    obtain ⟨q, r, A', C, HP, hg, rfl, hC, HR, K0, K1, HB⟩ := hrel
    obtain ⟨T, hT⟩ : ∃ T, T0 ++ q = T := ⟨_, rfl⟩
    rw [hT] at K0
    have HG := wall hg
    have hpq := HP.out
    have hlp : p.length = q.length + r.length := by rw [hpq, List.length_append]
    have hlT : T.length = T0.length + q.length := by rw [← hT, List.length_append]
    have hmT : T.length + r.length ≤ 1000000 := by have := HM.out; omega
    have HTB := wall (show ∀ x ∈ T, x < 256 from fun x hx => by
      rw [← hT] at hx
      rcases List.mem_append.1 hx with h | h
      · exact HBT.out x h
      · exact HPB.out x (by rw [hpq]; exact List.mem_append_left _ h))
    have HRB := wall (show ∀ x ∈ r, x < 256 from fun x hx => HPB.out x (by rw [hpq]; exact List.mem_append_right _ hx))
    have HTE := wall hT
    have HT1 := wall (HT.out.old HB.out)
    clear hpq hT hg
    by_cases h0 : 0 < r.length
    · obtain ⟨n, hn⟩ : ∃ n, T.length = n := ⟨_, rfl⟩
      obtain ⟨a0, ha0⟩ : ∃ a, n % 64 = a := ⟨_, rfl⟩
      obtain ⟨k, hk⟩ : ∃ k, Nat.min r.length (64 - a0) = k := ⟨_, rfl⟩
      have ha64 : a0 < 64 := by rw [← ha0]; exact Nat.mod_lt _ (by decide)
      have hkr : k ≤ r.length := by rw [← hk]; exact Nat.min_le_left _ _
      have hka : a0 + k ≤ 64 := by have : k ≤ 64 - a0 := by rw [← hk]; exact Nat.min_le_right _ _
                                   omega
      have hk0 : 0 < k := by rw [← hk]; exact Nat.lt_min.2 ⟨h0, by omega⟩
      obtain ⟨x, hx⟩ : ∃ x, r.take k = x := ⟨_, rfl⟩
      have hxl : x.length = k := by rw [← hx, List.length_take]; omega
      have HXL := wall hxl
      have HA := wall (show T.length % 64 + x.length ≤ 64 by rw [hn, ha0, hxl]; exact hka)
      have hadr : ∃ b off, A' = some ⟨b, off, none⟩ := by
        obtain ⟨z, hz⟩ : ∃ z, r[0]? = some z := ⟨_, List.getElem?_eq_getElem h0⟩
        obtain ⟨_, b, off, h, _⟩ := HR.out 0 z hz
        exact ⟨b, off, h⟩
      obtain ⟨rb, ro, rfl⟩ := hadr
      have hcn : wr.cell? ⟨w.heap.size, 72, none⟩ = some (.int .u64 (n : Int)) := by
        rw [K0.out.cell]
        have := cS_num T
        rw [hn] at this
        simpa using this
      have hrem : (n : Int) % 64 = (a0 : Int) := by rw [← ha0]; simp
      have hsl1 := run_slice_arr_lo (P := Tryz.prog) 193 5 64 Tryz.underlying193 (fun _ => by kernel_rfl) w.heap.size 8 a0 .i64 (a0 : Int) rfl ha64
      have hsl2 := run_slice_l1 (P := Tryz.prog) 24 5 Tryz.underlying24 (fun _ => by kernel_rfl) (some ⟨rb, ro, none⟩) r.length C k .i64 (k : Int) rfl hkr
      have HR2 := wall (show Nats .u8 256 wr w.heap.size (slA (some ⟨rb, ro, none⟩) k C) (r.drop k) from nats_slA HR.out hC)
      generalize slA (some ⟨rb, ro, none⟩) k C = A2 at *
      have HSRC := wall (show ∀ j (v : Value), (v8 x)[j]? = some v → wr.cell? ((⟨rb, ro, none⟩ : Addr).add j) = some v from fun j v hv => by
        rw [← hx, v8, List.map_take, List.getElem?_take] at hv
        split at hv
        · obtain ⟨ad, h, hc⟩ := nats_src HR.out j v hv
          cases h
          exact hc
        · cases hv)
      have HMIN := wall hk.symm
      have HX := wall hx
      have HNL := wall hn
      have hfr : wr.frozen? ⟨w.heap.size, 72, none⟩ = false := K0.out.frozen 72
      have HCP := wall (cS_copy HA.out)
      have HV8 := wall (show (v8 x).length = k by rw [v8_length]; exact hxl)
      have HFIT := wall (show 8 + a0 + k ≤ (cS T).length by rw [cS_length]; omega)
      have HONE := wall (show ∀ v ∈ v8 x, v.oneCell' = true from fun v hv => by
        obtain ⟨_, _, rfl⟩ := List.mem_map.1 hv
        rfl)
      have hnk : n + k ≤ 1000000 := by omega
      clear hk hx hn hxl hlp hlT hmT
      go_upto_region 4 with (refine wpList_copy_frm rfl (.tmp 16) (.tmp 17) 24 24 rfl 5 Tryz.underlying24 u8_size _ _ (64 - a0) (64 - a0) r.length C rfl rfl w.heap.size (8 + a0) 284 (cS T) K0.out (v8 x) k HV8.out HMIN.out (fun _ => ⟨rfl, _, rfl, HSRC.out⟩) HFIT.out HONE.out ?_; intro w4 hK4 hF4)
      have hcn4 : w4.cell? ⟨w.heap.size, 72, none⟩ = some (.int .u64 (n : Int)) := by
        rw [hK4.cell]
        have := cS_keep HA.out
        rw [HNL.out, ha0] at this
        simpa using this
      have hfr4 : w4.frozen? ⟨w.heap.size, 72, none⟩ = false := hK4.frozen 72
      have hsz4 : w.heap.size < w4.heap.size := hK4.lt
      have K5 := wall (show Blk (w4.setCell ⟨w.heap.size, 72, none⟩ (.int .u64 ((n : Int) + (k : Int)))) w.heap.size 284 (cM T x).toArray by
        have h := hK4.set 72 (.int .u64 ((n : Int) + (k : Int)))
        have hc := HCP.out
        rw [HNL.out, ha0, HXL.out, Int.natCast_add] at hc
        simp only [List.setIfInBounds_toArray] at h
        rw [hc] at h
        exact h)
      have F5 := wall (show Frm [w.heap.size] wr (w4.setCell ⟨w.heap.size, 72, none⟩ (.int .u64 ((n : Int) + (k : Int)))) from hF4.setCell (p := ⟨w.heap.size, 72, none⟩) (.inl (by simp)) _)
      clear hK4 hF4 K0 hcn hfr HSRC HR HV8 HFIT HONE HMIN
      go_upto_region 5 with fail
      generalize w4.setCell ⟨w.heap.size, 72, none⟩ (.int .u64 ((n : Int) + (k : Int))) = w5 at *
      clear hcn4 hfr4 hsz4
      replace HR2 := wall (HR2.out.frm F5.out HB.out.size (by simp))
      replace K1 := wall (K1.out.frm F5.out (by simp))
      replace HT1 := wall (HT.out.old (Below.frm HB.out F5.out (Nat.le_refl _) (by simp)))
      replace HB := wall (Below.frm HB.out F5.out (Nat.le_refl _) (by simp))
      clear F5
      have HP2 := wall (show p = (q ++ x) ++ r.drop k by rw [HP.out, ← HX.out, List.append_assoc, List.take_append_drop])
      have HTX := wall (show T0 ++ (q ++ x) = T ++ x by rw [← List.append_assoc, HTE.out])
      by_cases h64 : a0 + k = 64
      · have hq : ((a0 : Int) + (k : Int) == 64) = true := by simp; omega
        have HF := wall (show T.length % 64 + x.length = 64 by rw [HNL.out, ha0, HXL.out]; exact h64)
        obtain ⟨bl, hbl⟩ : ∃ b, stR T ++ x = b := ⟨_, rfl⟩
        obtain ⟨hh, hhh⟩ : ∃ b, stH T = b := ⟨_, rfl⟩
        obtain ⟨ps, hps⟩ : ∃ b, press hh bl = b := ⟨_, rfl⟩
        have HBL := wall (show bl.length = 64 by rw [← hbl, List.length_append, stR_length]; exact HF.out)
        have HHL := wall (show hh.length = 8 by rw [← hhh]; exact stH_length T)
        have HPL := wall (show ps.length = 8 by rw [← hps]; exact press_length _ HHL.out)
        have HBB := wall (show ∀ y ∈ bl, y < 256 from fun y hy => by
          rw [← hbl] at hy
          rcases List.mem_append.1 hy with h | h
          · exact stR_byte HTB.out y h
          · rw [← HX.out] at h
            exact HRB.out y (List.mem_of_mem_take h))
        have HHW := wall (show ∀ y ∈ hh, y < 4294967296 by rw [← hhh]; exact stH_word T)
        have HRW := wall (show w5.rangeAt w.heap.size 0 (c32 hh).toList from K5.out.rangeAt 0 _ (fun j v hv => by
          rw [Nat.zero_add]
          exact cM_words j v (by rw [hhh]; simpa [c32, v32] using hv)))
        have HRBY := wall (show w5.rangeAt w.heap.size 8 (b8 bl).toList from K5.out.rangeAt 8 _ (fun j v hv => cM_bytes HF.out j v (by rw [hbl]; simpa [b8, v8] using hv)))
        have HSW := wall (show (Tryz.prog.info? 72).map (·.size) = some (c32 hh).size by rw [c32_size, HHL.out]; exact h_info)
        have HSW2 := wall (show (Tryz.prog.info? 72).map (·.size) = some (c32 ps).size by rw [c32_size, HPL.out]; exact h_info)
        have HSB := wall (show (Tryz.prog.info? 193).map (·.size) = some (b8 bl).size by rw [b8_size, HBL.out]; exact blk64_info)
        have HSB2 := wall (show (Tryz.prog.info? 193).map (·.size) = some (b8 (List.replicate 64 0)).size by rw [b8_size]; exact blk64_info)
        have HCE := wall (show splice (splice (cM T x) 0 (c32 ps).toList) 8 (b8 (List.replicate 64 0)).toList = cS (T ++ x) by
          have := cM_press HF.out
          rw [hhh, hbl, hps] at this
          exact this)
        have HO1 := wall (c32_one ps)
        have HO2 := wall (b8_one (List.replicate 64 0))
        have HPR := wall (press_any hh bl w5 HT1.out HHL.out HHW.out HBL.out HBB.out)
        rw [hps] at HPR
        have HFT := wall (show 0 + (c32 ps).size ≤ (cM T x).length by rw [cM_length HA.out, c32_size, HPL.out]; decide)
        have HFT2 := wall (show 8 + (b8 (List.replicate 64 0)).size ≤ (splice (cM T x) 0 (c32 ps).toList).length by
          rw [length_splice _ _ _ (by rw [cM_length HA.out, Array.length_toList, c32_size, HPL.out]; decide), cM_length HA.out, b8_size]
          decide)
        clear hbl hhh hps
        go_wp2_with (first | refine wpList_load_arr rfl 72 (.tmp 32) rfl w.heap.size 0 rfl (c32 hh) _ HRW.out Tryz.underlying72 rfl HSW.out ?_ | refine wpList_load_arr rfl 193 (.tmp 34) rfl w.heap.size 8 rfl (b8 bl) _ HRBY.out Tryz.underlying193 rfl HSB.out ?_)
        (with_reducible refine HPR.out.mono ?_); rintro e w6 ⟨rfl, hB6⟩
        have K6 := wall (K5.out.next hB6 rfl)
        have K16 := wall (K1.out.next hB6 rfl)
        have HR6 := wall (HR2.out.below (hB6.mono HB.out.size))
        have HB6 := wall (below_then HB.out hB6 (Nat.le_refl _))
        clear hB6 K5 K1 HR2 HB
        go_wp2_with (first | (refine wpList_store_frm rfl 72 (.tmp 38) (.tmp 36) rfl w.heap.size 0 (c32 ps) rfl rfl 284 (cM T x) K6.out HFT.out HSW2.out HO1.out ?_; intro w7 K7 F7) | (refine wpList_store_frm rfl 193 (.tmp 39) (.tmp 37) rfl w.heap.size 8 (b8 (List.replicate 64 0)) rfl rfl 284 _ K7 HFT2.out HSB2.out HO2.out ?_; intro w8 K8 F8))
        have F := F7.trans F8
        rw [HCE.out] at K8
        go_light
        go_roundg (r.length - k)
        case measure => have := HG.out; omega
        case rel =>
          refine ⟨q ++ x, r.drop k, A2, C - k, HP2, List.length_drop, by rw [List.length_drop], by rw [List.length_drop]; omega, wall ?_, wall ?_, wall ?_, wall ?_⟩
          · exact HR6.out.frm F HB6.out.size (by simp)
          · rw [HTX.out]; exact K8
          · exact K16.out.frm F (by simp)
          · exact Below.frm HB6.out F (Nat.le_refl _) (by simp)
      · have hq : ((a0 : Int) + (k : Int) == 64) = false := by simp; omega
        rw [cM_same (t := T) (x := x) (by rw [HNL.out, ha0, HXL.out]; omega)] at K5
        go_wp2_with fail
        go_light
        go_roundg (r.length - k)
        case measure => have := HG.out; omega
        case rel => exact ⟨q ++ x, r.drop k, A2, C - k, HP2, List.length_drop, by rw [List.length_drop], by rw [List.length_drop]; omega, HR2, by rw [HTX.out]; exact K5, K1, HB⟩
    · have hr0 : r = [] := List.eq_nil_of_length_eq_zero (by omega)
      subst hr0
      have HTP := wall (show T0 ++ p = T by rw [HP.out, List.append_nil]; exact HTE.out)
      have HSS := wall (show (Tryz.prog.info? 284).map (·.size) = some (cS T).toArray.size by rw [List.size_toArray, cS_length]; exact st_info)
      have HZZ := wall (show zS.toArray.size = (cS T).toArray.size by rw [List.size_toArray, List.size_toArray, cS_length]; rfl)
      have HOO := wall (all_oneCell_toArray (cS_one T))
      clear HR HP HG
      go_wp2_with (first | refine wpList_load_row rfl 284 _ rfl w.heap.size rfl 284 (cS T).toArray (0, 0) _ K0.out Tryz.underlying284 rfl HSS.out ?_ | refine wpList_store_row rfl 284 (.tmp 4) _ rfl (w.heap.size + 1) (cS T).toArray rfl rfl 284 zS.toArray K1.out HSS.out HZZ.out HOO.out ?_)
      have hb := setRow_heap _ _ _ (cS T).toArray _ _ K1.out
      have hB := below_setRow HB.out (show w.heap.size ≤ w.heap.size + 1 by omega) (cS T).toArray
      go_light
      exact bodyPost_ret (v := .agg (cS T).toArray) (results_cell_row Tryz.results149 _ _ (w.heap.size + 1) 284 (cS T).toArray (0, 0) _ rfl hb Tryz.underlying284 rfl HSS.out) rfl ⟨by rw [HTP.out], hB⟩
end Sha
end Go.Proofs.YtmiaabpnolebhaaGreatDoor

/-
  Package sha: New, Pad.
-/
namespace Go.Proofs.YtmiaabpnolebhaaGreatDoor
open Go.RowKit

namespace Sha
open Otp R1
set_option maxRecDepth 100000 in
set_option maxHeartbeats 1000000 in
theorem new_any (w : World) (hT : STab w) : Calls Tryz.prog 148 #[] w (FeedOut w []) := by
  have hlt := hT.lth
  have HR := wall (show (w.alloc (.cells zS.toArray 284)).rangeAt 1 0 (c32 rH).toList from (hT.old ((Below.refl _ w).alloc (Nat.le_refl _) _)).h)
  go_enter Tryz.func148, Tryz.ntmps148
  have h8 : (c32 rH).size = 8 := rfl
  have HZ : Blk (w.alloc (.cells Tryz.zeroCells284 284)) w.heap.size 284 Tryz.zeroCells284 := Blk.new _ _ _
  have HZ := wall HZ
  go_wp2_with (first | refine wpList_load_arr rfl 72 (.global 1) rfl 1 0 rfl (c32 rH) _ HR.out Tryz.underlying72 rfl h_info ?_ | refine wpList_store_row rfl 284 (.tmp 0) (.tmp 2) rfl w.heap.size (cS []).toArray rfl (by kernel_rfl) 284 _ HZ.out (by kernel_rfl) (by kernel_rfl) (all_oneCell_toArray (cS_one [])) ?_)
  have hb := setRow_heap _ _ _ (cS []).toArray _ _ HZ.out
  have hB := below_setRow ((Below.refl _ w).alloc (Nat.le_refl _) (.cells Tryz.zeroCells284 284)) (Nat.le_refl _) (cS []).toArray
  go_light
  exact bodyPost_ret (v := .agg (cS []).toArray) (results_cell_row Tryz.results148 _ _ w.heap.size 284 (cS []).toArray (0, 0) _ rfl hb Tryz.underlying284 rfl (by kernel_rfl)) rfl ⟨rfl, hB⟩
theorem own_one (w : World) (x : Nat) : OwnB (w.alloc (.cells #[.int .u8 (x : Int)] 5)) w.heap.size (.slice (some ⟨w.heap.size, 0, none⟩) 1 1) [x] :=
  ⟨by simp, .inr ⟨w.heap.size, 1, _, rfl, Nat.le_refl _, Blk.new _ _ _, Nat.le_refl _, by decide, rfl, rfl⟩⟩
theorem numB_shift (n j : Nat) (h : j < 8) : (numB n 8)[j]? = some (n / 2 ^ (56 - 8 * j) % 256) := by
  rw [numB_at n 8 j h, show 256 = 2 ^ 8 from rfl, ← Nat.pow_mul, show 8 * (8 - 1 - j) = 56 - 8 * j by omega]
set_option maxRecDepth 100000 in
set_option maxHeartbeats 4000000 in
theorem pad_any (n : Nat) (w : World) (hn : n ≤ 1000000) : Calls Tryz.prog 227 #[.int .u64 (n : Int)] w (BytesOut w (padB n)) := by
  obtain ⟨i0, hi0, hz0, hz1, hz2⟩ := info_row u8_info
  have HI := wall hi0
  have HI1 := wall hz0
  have HI2 := wall hz1
  have HI3 := wall hz2
  obtain ⟨m, hm⟩ : ∃ m, (119 - n % 64) % 64 = m := ⟨_, rfl⟩
  have hm64 : m < 64 := by rw [← hm]; exact Nat.mod_lt _ (by decide)
  have HPB := wall (show padB n = ([128] ++ List.replicate m 0) ++ (numB (8 * n) 8) by unfold padB; rw [hm]; rfl)
  have HM := wall hm
  clear hi0 hz0 hz1 hz2 hm
  have HO1 := wall (own_one w 128)
  go_enter Tryz.func227, Tryz.ntmps227
  go_upto_region 2 with fail
  generalize hW : w.alloc (.cells #[.int .u8 128] 5) = W
  have HW : Wall (OwnB W w.heap.size (.slice (some ⟨w.heap.size, 0, none⟩) 1 1) [128]) := wall (by rw [← hW]; exact HO1.out)
  have HB := wall (show Below w.heap.size w W by rw [← hW]; exact (Below.refl _ w).alloc (Nat.le_refl _) _)
  clear hW HO1
  go_upto_region 3 with (at_builtin; refine wpList_append_zeros rfl (.tmp 6) (.tmp 10) 24 64 rfl w.heap.size 5 i0 (.int .u8 0) .u64 .u64 1 Tryz.underlying24 Tryz.underlying64 HI.out HI1.out HI2.out HI3.out rfl rfl _ 1 _ rfl HW.out (by decide) _ m rfl ?c1 (by omega) (by simp only [maxLen]; omega) (by omega) HB.out.size ?_)
  case c1 => have := HM.out; omega
  intro v2 w2 hO2 hg2 _
  have HO := wall (show OwnB w2 w.heap.size v2 ([128] ++ List.replicate m 0) from by
    have e : (([128] ++ List.replicate m 0).map fun x => Value.int .u8 ((x : Nat) : Int)) = Value.int .u8 128 :: List.replicate m (.int .u8 0) := by simp
    unfold OwnB
    have el : (([128] : List Nat) ++ List.replicate m 0).length = 1 + m := by simp; omega
    rw [e, el]
    exact hO2)
  have HB2 := wall (HB.out.grown hg2 HB.out.size (fun k hk => (World.ownsRow.lt HW.out k hk).1))
  clear hO2 hg2 HB HW
  obtain ⟨B0, hB0⟩ : ∃ B, [128] ++ List.replicate m 0 = B := ⟨_, rfl⟩
  rw [hB0] at HO HPB
  have HBL := wall (show B0.length = 1 + m by rw [← hB0]; simp; omega)
  clear hB0 HM
  go_wp2_with fail
  go_loopg [3, 4] 8 (fun g s3 s4 wr => ∃ (j : Nat) (z : Int), j + g = 8 ∧ Wall (z = 56 - 8 * (j : Int)) ∧ -8 ≤ z ∧ z ≤ 56 ∧ s4 = .int .i64 z ∧ Wall (OwnB wr w.heap.size s3 (B0 ++ (numB (8 * n) 8).take j)) ∧ Wall (Below w.heap.size w wr))
  case atStart => exact ⟨0, 56, by omega, wall rfl, by decide, by decide, rfl, wall (by rw [List.take_zero, List.append_nil]; exact HO.out), HB2⟩
  case round =>
    clear HO HB2
    obtain ⟨j, z, hg, HZ, hz1, hz2, rfl, HO, HB⟩ := hrel
    have HG := wall hg
    have hj : j ≤ 8 := by omega
    have hwl : w.heap.size ≤ wr.heap.size := HB.out.size
    clear hg
    by_cases hlt : j < 8
    · have h0z : 0 ≤ z := by have := HZ.out; omega
      obtain ⟨s, hs⟩ : ∃ s, 56 - 8 * j = s := ⟨_, rfl⟩
      have hzs : z.toNat = s := by have := HZ.out; omega
      have hx := numB_shift (8 * n) j hlt
      rw [hs] at hx
      obtain ⟨x, hxe⟩ : ∃ x, 8 * n / 2 ^ s % 256 = x := ⟨_, rfl⟩
      rw [hxe] at hx
      have hxi : ((n : Int) * 8 / 2 ^ s) % 256 = (x : Int) := by rw [← hxe]; simp [Int.mul_comm]
      have HT := wall (take_snoc hx)
      have HLEN := wall (show (B0 ++ (numB (8 * n) 8).take j).length = 1 + m + j by rw [List.length_append, HBL.out, List.length_take, numB_length]; omega)
      clear hs hx hxe
      go_wp2_with (at_builtin; refine wpList_append_own _ rfl (.tmp 16) (.tmp 22) 24 rfl w.heap.size 5 i0 (.int .u8 0) 1 1 Tryz.underlying24 HI.out HI1.out HI2.out HI3.out rfl (by decide) _ _ _ rfl (HO.out.alloc _) ⟨wr.heap.size, 0, none⟩ 1 1 [.int .u8 (x : Int)] rfl rfl ?c1 ?c2 ?c3 ?c4 ?c5 ?_)
      case c1 =>
        have h1 := cell_one_new wr (.int .u8 (x : Int)) 5
        simpa using h1
      case c2 => intro u hu; simp at hu; subst hu; rfl
      case c3 => rw [HLEN.out]; simp only [maxLen]; omega
      case c4 => rw [HLEN.out]; omega
      case c5 => simp; omega
      intro v1 w1 hO1 hg1 _
      have HB1 := wall ((HB.out.alloc hwl (.cells #[.int .u8 (x : Int)] 5)).grown hg1 (by simp; omega) (fun k hk => (World.ownsRow.lt HO.out k hk).1))
      have HO1 := wall hO1
      clear hO1 hg1
      go_wp2_with fail
      go_light
      go_roundg (8 - (j + 1))
      case measure => have := HG.out; omega
      case rel =>
        refine ⟨j + 1, _, by omega, wall ?_, ?_, ?_, rfl, wall ?_, HB1⟩
        · have := HZ.out; omega
        · omega
        · omega
        · have h2 := HO1.out
          unfold OwnB
          rw [HT.out]
          simpa [List.map_take, List.map_append, List.append_assoc, Nat.add_assoc] using h2
    · have hj8 : j = 8 := by omega
      have hz8 : z = -8 := by have := HZ.out; omega
      subst hz8
      have HT := wall (show B0 ++ (numB (8 * n) 8).take j = padB n by rw [HPB.out, List.take_of_length_le (by rw [numB_length]; omega)])
      clear hj8
      go_wp2_with fail
      go_light
      go_ret
      have hOO := HO.out
      rw [HT.out] at hOO
      exact ⟨_, rfl, hOO, HB.out⟩
end Sha
end Go.Proofs.YtmiaabpnolebhaaGreatDoor

/-
  Package sha: Digest.
-/
namespace Go.Proofs.YtmiaabpnolebhaaGreatDoor
open Go.RowKit

namespace Otp
open Fuse R1
set_option maxRecDepth 100000 in
set_option maxHeartbeats 1000000 in
theorem digest_any (ws : List Nat) (w : World) (hl : ws.length = 8) (hw : ∀ x ∈ ws, x < 4294967296) :
    Calls Tryz.prog 226 #[.agg (c32 ws)] w (fun e w' => e = .returned (.agg (b8 (wordsB ws))) ∧ Below w.heap.size w w') := by
  have HL := Lib.hid hl
  have HW := Lib.hid hw
  have HSZ := Lib.hid (show (Tryz.prog.info? 72).map (·.size) = some (c32 ws).size by
    rw [show (c32 ws).size = 8 by simp [c32, hl]]
    kernel_rfl)
  have HK := Lib.hid (Blk.new w 72 (c32 ws))
  clear hl hw
  go_enter Tryz.func226, Tryz.ntmps226
  go_wp2_with (refine wpList_load_row rfl 72 _ rfl w.heap.size rfl 72 (c32 ws) (0, 0) _ ((HK.out.alloc _).alloc _) Tryz.underlying72 rfl HSZ.out ?_)
  obtain ⟨W2, hW2⟩ : ∃ W2, W2 = (w.alloc (.cells (c32 ws) 72)).alloc (.cells (b8 (List.replicate 32 0)) 23) := ⟨_, rfl⟩
  have HW2 := Lib.hid hW2
  clear hW2
  go_loopg [4, 5, 7] 8 (fun g s4 s5 s7 wr => ∃ i : Nat, i + g = 8 ∧ s7 = .int .i64 (i : Int) ∧ Hid (Blk wr (w.heap.size + 1 + 1) 23 (b8 (wordsB (ws.take i) ++ List.replicate (32 - 4 * i) 0))) ∧ Hid (Below (w.heap.size + 1 + 1) W2 wr))
  case atStart =>
    refine ⟨0, by omega, rfl, Lib.hid ?_, Lib.hid ?_⟩
    · exact blk_new' (by simp)
    · rw [HW2.out]
      exact (Below.refl _ _).alloc (by simp) _
  case round =>
    obtain ⟨i, hg, rfl, HD, HB⟩ := hrel
    have HG := Lib.hid hg
    have hi : i ≤ 8 := by omega
    clear hg
    by_cases hlt : i < 8
    · obtain ⟨x, hx⟩ : ∃ x, ws[i]? = some x := ⟨_, List.getElem?_eq_getElem (by have := HL.out; omega)⟩
      have hxM := HW.out x (List.mem_of_getElem? hx)
      have hix := run_index_arr (P := Tryz.prog) 72 52 8 Tryz.underlying72 (fun _ => by kernel_rfl) (fun _ => by kernel_rfl) (c32 ws) .i64 (i : Int) i rfl hlt _ (c32_at hx)
      have HX := Lib.hid hx
      have hsl := run_slice_arr_l (P := Tryz.prog) 23 5 32 Tryz.underlying23 (fun _ => by kernel_rfl) (w.heap.size + 1 + 1) (4 * i) .i64 (4 * (i : Int)) (by omega) (by omega)
      have hbl : w.heap.size + 1 + 1 ≤ wr.heap.size := Nat.le_of_lt HD.out.lt
      have HN := Lib.hid (numB_four x hxM)
      clear hx
      have hwl : (wordsB (ws.take i)).length = 4 * i := by rw [wordsB_length, List.length_take]; have := HL.out; omega
      have HWL := Lib.hid hwl
      have HC1 := Lib.hid (show (numB x 4).length = Nat.min 4 (32 - 4 * i) by rw [numB_length]; exact (Nat.min_eq_left (by omega)).symm)
      have HC3 := Lib.hid (show 4 * i + (numB x 4).length ≤ (wordsB (ws.take i) ++ List.replicate (32 - 4 * i) 0).length by simp only [numB_length, List.length_append, List.length_replicate, hwl]; omega)
      clear hwl
      go_wp2_with (refine wpList_copy_b8 rfl (.tmp 13) (.tmp 25) 24 24 rfl 5 Tryz.underlying24 (by kernel_rfl) _ _ (32 - 4 * i) (32 - 4 * i) 4 4 rfl rfl (w.heap.size + 1 + 1) (4 * i) 23 _ (HD.out.alloc _) (numB x 4) HC1.out (by exact fun _ => ⟨rfl, _, rfl, cells_new _ _ _ (by rw [HN.out]) _⟩) HC3.out (w.heap.size + 1 + 1) W2 (HB.out.alloc hbl _) (Nat.le_refl _) ?_)
      intro w3 HD3 HB3
      have HE := Lib.hid (show splice (wordsB (ws.take i) ++ List.replicate (32 - 4 * i) 0) (4 * i) (numB x 4) = wordsB (ws.take (i + 1)) ++ List.replicate (32 - 4 * (i + 1)) 0 by
        have := splice_next (wordsB (ws.take i)) (numB x 4) (32 - 4 * i) (by rw [numB_length]; omega)
        rw [HWL.out, numB_length] at this
        rw [this, take_snoc HX.out, wordsB_snoc]
        congr 2)
      rw [numB_length]
      clear HD HB HN
      go_wp2_with fail
      go_light
      go_roundg (8 - (i + 1))
      case measure => have := HG.out; omega
      case rel => exact ⟨i + 1, by have := HG.out; omega, by go_num, by rw [← HE.out]; exact HD3, HB3⟩
    · have : i = 8 := by omega
      subst this
      have HD8 : Hid (Blk wr (w.heap.size + 1 + 1) 23 (b8 (wordsB ws))) := by
        have := HD.out
        rw [List.take_of_length_le (by have := HL.out; omega), show 32 - 4 * 8 = 0 from rfl, List.replicate_zero, List.append_nil] at this
        exact Lib.hid this
      have hlw : (wordsB ws).length = 32 := by rw [wordsB_length, HL.out]
      have HS := Lib.hid (show (Tryz.prog.info? 23).map (·.size) = some (b8 (wordsB ws)).size by rw [b8_size, hlw]; exact dig_info)
      have HR : Hid (Blk wr (w.heap.size + 1) 23 (b8 (List.replicate 32 0))) := by
        have h2 := HB.out
        rw [HW2.out] at h2
        exact Lib.hid (Blk.below (blk_new' (by simp)) h2 (by omega))
      have HBB : Hid (Below w.heap.size w wr) := by
        have h2 := HB.out
        rw [HW2.out] at h2
        exact Lib.hid ((((Below.refl _ w).alloc (Nat.le_refl _) _).alloc (by simp) _).trans (h2.mono (by omega)))
      have HZ := Lib.hid (show (b8 (List.replicate 32 0)).size = (b8 (wordsB ws)).size by rw [b8_size, b8_size, hlw]; rfl)
      have HO := Lib.hid (b8_one (wordsB ws))
      clear HD HB hlw
      go_wp2_with (first | refine wpList_load_row rfl 23 _ rfl (w.heap.size + 1 + 1) rfl 23 (b8 (wordsB ws)) (0, 0) _ HD8.out Tryz.underlying23 rfl HS.out ?_ | refine wpList_store_row rfl 23 (.tmp 2) _ rfl (w.heap.size + 1) (b8 (wordsB ws)) rfl rfl 23 (b8 (List.replicate 32 0)) HR.out HS.out HZ.out HO.out ?_)
      have hb := setRow_heap _ _ _ (b8 (wordsB ws)) _ _ HR.out
      have hB := below_setRow HBB.out (show w.heap.size ≤ w.heap.size + 1 by omega) (b8 (wordsB ws))
      go_light
      exact bodyPost_ret (v := .agg (b8 (wordsB ws))) (results_cell_row Tryz.results226 _ _ (w.heap.size + 1) 23 (b8 (wordsB ws)) (0, 0) _ rfl hb Tryz.underlying23 rfl HS.out) rfl ⟨rfl, hB⟩
end Otp
end Go.Proofs.YtmiaabpnolebhaaGreatDoor

/-
  Package sha: a state's Sum.
-/
namespace Go.Proofs.YtmiaabpnolebhaaGreatDoor
open Go.RowKit

namespace Sha
open Otp R1
theorem field_h (cs : Array Value) (w : World) : (Instr.field 284 (.agg cs) 0).run Tryz.prog w = .ok (.agg (cs.extract 0 8)) w := by kernel_rfl
theorem cS_words (t : List Nat) : (cS t).toArray.extract 0 8 = c32 (stH t) := by
  unfold cS c32
  apply Array.ext'
  simp [stH_length]
set_option maxRecDepth 100000 in
set_option maxHeartbeats 2000000 in
theorem sum_any (t : List Nat) (w : World) (hT : STab w) (hb : ∀ x ∈ t, x < 256) (hm : t.length ≤ 900000) :
    Calls Tryz.prog 150 #[.agg (cS t).toArray] w (fun e w' => e = .returned (.agg (b8 (sumB t))) ∧ Below w.heap.size w w') := by
  obtain ⟨n, hn⟩ : ∃ n, t.length = n := ⟨_, rfl⟩
  obtain ⟨pd, hpd⟩ : ∃ p, padB n = p := ⟨_, rfl⟩
  obtain ⟨T, hTT⟩ : ∃ T, t ++ pd = T := ⟨_, rfl⟩
  obtain ⟨hs, hhs⟩ : ∃ h, stH T = h := ⟨_, rfl⟩
  have HSB := wall (show sumB t = wordsB hs by rw [← hhs, ← hTT, ← hpd, ← hn]; rfl)
  have HPL := wall (show pd.length ≤ 72 by rw [← hpd]; exact padB_le n)
  have HPB := wall (show ∀ x ∈ pd, x < 256 by rw [← hpd]; exact padB_byte n)
  have HHL := wall (show hs.length = 8 by rw [← hhs]; exact stH_length T)
  have HHW := wall (show ∀ x ∈ hs, x < 4294967296 by rw [← hhs]; exact stH_word T)
  have HEX := wall (show (cS T).toArray.extract 0 8 = c32 hs by rw [← hhs]; exact cS_words T)
  have HTB := wall hb
  have hn9 : n ≤ 900000 := by omega
  have HN := wall hn
  have HPD := wall hpd
  have HTT := wall hTT
  have HSS := wall (show (Tryz.prog.info? 284).map (·.size) = some (cS t).toArray.size by rw [List.size_toArray, cS_length]; exact st_info)
  obtain ⟨W1, hW1⟩ : ∃ W, W = (w.alloc (.cells (cS t).toArray 284)).alloc (.cells (b8 (List.replicate 32 0)) 23) := ⟨_, rfl⟩
  have K0 := wall (show Blk W1 w.heap.size 284 (cS t).toArray by rw [hW1]; exact (Blk.new w _ _).alloc _)
  have K1 := wall (show Blk W1 (w.heap.size + 1) 23 (b8 (List.replicate 32 0)) by rw [hW1]; exact blk_new' (by simp))
  have HB := wall (show Below w.heap.size w W1 by rw [hW1]; exact ((Below.refl _ w).alloc (Nat.le_refl _) _).alloc (by simp) _)
  have HT1 := wall (hT.old HB.out)
  have hcn : W1.drew.cell? ⟨w.heap.size, 72, none⟩ = some (.int .u64 (n : Int)) := by
    have := K0.out.drew.cell 72
    rw [this]
    have h := cS_num t
    rw [hn] at h
    simpa using h
  have HW1 := wall hW1
  clear hT hb hm hn hpd hTT hhs hW1
  go_enter Tryz.func150, Tryz.ntmps150
  go_upto_region 1 with fail
  change Code.wp _ _ _ _ ((w.alloc (.cells (cS t).toArray 284)).alloc (.cells (b8 (List.replicate 32 0)) 23))
  rw [← HW1.out]
  clear HW1
  have hcr := fun d os => Go.cell_regrown hcn d os
  go_wp2_with fail
  refine Rel.wp_region_rel 7 [(6, .any (Bytes pd) Bytes.grow), (7, .const (.agg (cS T).toArray)), (9, .const (.agg (b8 (wordsB hs))))] (by kernel_rfl) (by kernel_rfl) ?_
  simp only [List.take_succ_cons, List.take_zero, List.drop_succ_cons, List.drop_zero]
  refine Rel.tree_pure rfl rfl rfl (.agg (cS t).toArray) (fun W hW _ => Rel.exec_load _ _ rfl w.heap.size 0 rfl _ _ (Blk.range (hW.blk K0.out.drew)) Tryz.underlying284 rfl HSS.out) ?_
  simp only [Act.put, List.setIfInBounds_toArray, List.set_cons_zero, List.set_cons_succ]
  repeat (refine Rel.tree_quiet rfl rfl rfl (fun K hK => ?_); go_big_quiet_op; refine hK _ ?_; clear hK K)
  refine Rel.tree_rel rfl (Bytes pd) Bytes.grow rfl (fun W hW _ => ?_) (fun v6 => ?_)
  · unfold Rel.relAt; go_simp; show Calls _ _ _ _ _
    have h := pad_any n W (by omega)
    rw [HPD.out] at h
    exact bytes_call h HPB.out
  simp only [Act.put, List.setIfInBounds_toArray, List.set_cons_zero, List.set_cons_succ]
  refine Rel.tree_const rfl (.agg (cS T).toArray) rfl (fun W hW hF => ?_) ?_
  · obtain ⟨A, c, rfl, hc, hN⟩ : Bytes pd v6 W := hF 6 (by decide)
    clear hF
    unfold Rel.relAt; go_simp; show Calls _ _ _ _ _
    have hS : STab W := HT1.out.old hW.undrew
    have h := feed_any t pd A pd.length c W hS HTB.out rfl (by have := HPL.out; have := HN.out; omega) hc hN
    rw [HTT.out] at h
    exact const_call h
  simp only [Act.put, List.setIfInBounds_toArray, List.set_cons_zero, List.set_cons_succ]
  refine Rel.tree_pure rfl rfl rfl (.agg (c32 hs)) (fun W _ _ => Rel.exec_field _ _ _ rfl (.agg (cS T).toArray) _ rfl (by rw [field_h, HEX.out])) ?_
  simp only [Act.put, List.setIfInBounds_toArray, List.set_cons_zero, List.set_cons_succ]
  refine Rel.tree_const rfl (.agg (b8 (wordsB hs))) rfl (fun W hW _ => ?_) ?_
  · unfold Rel.relAt; go_simp; show Calls _ _ _ _ _
    exact const_call (digest_any hs W HHL.out HHW.out)
  simp only [Act.put, List.setIfInBounds_toArray, List.set_cons_zero, List.set_cons_succ]
  intro W hW _
  have KR := wall (hW.blk K1.out.drew)
  have HBW := wall (show Below w.heap.size w W from below_then HB.out hW.undrew (Nat.le_refl _))
  have hwl : (wordsB hs).length = 32 := by rw [wordsB_length, HHL.out]
  have HS := wall (show (Tryz.prog.info? 23).map (·.size) = some (b8 (wordsB hs)).size by rw [b8_size, hwl]; exact dig_info)
  have HZ := wall (show (b8 (List.replicate 32 0)).size = (b8 (wordsB hs)).size by rw [b8_size, b8_size, hwl]; rfl)
  have HO := wall (b8_one (wordsB hs))
  clear hwl hcr hcn hW
  go_wp2_with (refine wpList_store_row rfl 23 (.tmp 2) _ rfl (w.heap.size + 1) (b8 (wordsB hs)) rfl rfl 23 (b8 (List.replicate 32 0)) KR.out HS.out HZ.out HO.out ?_)
  have hb := setRow_heap _ _ _ (b8 (wordsB hs)) _ _ KR.out
  have hB := below_setRow HBW.out (show w.heap.size ≤ w.heap.size + 1 by omega) (b8 (wordsB hs))
  go_light
  exact bodyPost_ret (v := .agg (b8 (wordsB hs))) (results_cell_row Tryz.results150 _ _ (w.heap.size + 1) 23 (b8 (wordsB hs)) (0, 0) _ rfl hb Tryz.underlying23 rfl HS.out) rfl ⟨by rw [HSB.out], hB⟩
end Sha
end Go.Proofs.YtmiaabpnolebhaaGreatDoor
