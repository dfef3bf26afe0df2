/-
  Texts of this claim, joined: SlotCh, ShaTab, SlotChF, R1Same, RelF, ModeV, SlotCip.
-/
import Derived.Test.YtpakdcgcgekcfaaDoorJ444dab01
import Derived.Test.YtpakdcgcgekcfaaDoorProg
import Derived.Test.YtpakdcgcgekcfaaDoorJ6556fe58
import Derived.Lib.LaidTab
import Derived.Test.YtpakdcgcgekcfaaDoorJcd305c91
import Derived.Deep.LoopGhost
import Derived.Test.YtpakdcgcgekcfaaDoorJ9acf91d1
import Derived.Test.YtpakdcgcgekcfaaDoorJ58262b95
set_option linter.unusedVariables false
/-
  SlotChains: keys that are derived of one another.
-/
namespace Go.Proofs.YtpakdcgcgekcfaaDoor
open Go.RowKit

theorem Strs.below {w w' : World} {B : Nat} {a : Option Addr} {ss : List ByteArray} (h : Strs w B a ss) (hb : Below B w w') : Strs w' B a ss := fun i s hs => by
  obtain ⟨h1, b, off, h2, h3, h4⟩ := h i s hs
  exact ⟨h1, b, off, h2, h3, (hb.cell (p := ⟨b, off + i, none⟩) h3).trans h4⟩
namespace Slot
open Otp R1 Sha Mac
theorem ch_count (g n : Nat) (k : List Nat) (w : World) (hC : Chm w g n k) : Calls Tryd.prog 42 #[.pointer (some ⟨g, 0, none⟩)] w (IntBelow w ((n + 1 : Nat) : Int)) := by
  obtain ⟨s, hS, hc⟩ := hC.ex
  have := count_of (.pointer (some ⟨g, 0, none⟩)) (fun i => kindE s (i : Int)) w (fun i W hi hb => kind_any g s i W (hS.old hb) (wfI_small (by omega) (by omega))) (cntE s) rfl (fun _ => rfl) (cntE_le s)
  rw [hc.cnt] at this
  exact this
def WpOut (w : World) (g : Nat) (z : Int) (e : Ending) (w' : World) : Prop := e = .returned (.int .i64 z) ∧ (∃ s, Sl w' g s) ∧ Frm [g] w w'
theorem ch_wipe (g n : Nat) (k : List Nat) (m z : Int) (w W : World) (hC : Chm w g n k) (hm : m = n) (hz : z = ((1 + min n 1 : Nat) : Int)) (hW : W = w.alloc (.cells #[.int .i64 0, .int .i64 0, .int .i64 m] 3)) :
    Calls Tryd.prog 43 #[.pointer (some ⟨g, 0, none⟩), .slice (some ⟨w.heap.size, 0, none⟩) 3 3] W (WpOut W g z) := by
  subst hm hW hz
  obtain ⟨s, hS, hc⟩ := hC.ex
  have hn := hc.le
  have hlt := hS.lt
  have hz := (ints_new w [0, 0, (n : Int)] (t := 3) _ rfl (fun z hz => by
    simp at hz
    rcases hz with rfl | rfl <;> exact wfI_small (by omega) (by omega))).more (B' := (w.alloc (.cells #[.int .i64 0, .int .i64 0, .int .i64 (n : Int)] 3)).heap.size) (by simp)
  have := swipe_any g s (some ⟨w.heap.size, 0, none⟩) [0, 0, (n : Int)] 3 3 _ (hS.old ((Below.refl _ w).alloc (Nat.le_refl _) _)) rfl (by decide) hz (fun ad h => by cases h; simp only; omega)
  rw [hc.wipe] at this
  exact this.mono fun _ _ ⟨h1, h2, h3⟩ => ⟨h1, ⟨_, h2⟩, h3⟩
theorem ch_wipe0 (g : Nat) (w W : World) (hS : ∃ s, Sl w g s) (hW : W = w.alloc (.cells #[.int .i64 (-1), .int .i64 9] 3)) :
    Calls Tryd.prog 43 #[.pointer (some ⟨g, 0, none⟩), .slice (some ⟨w.heap.size, 0, none⟩) 2 2] W (WpOut W g 0) := by
  subst hW
  obtain ⟨s, hS⟩ := hS
  have hlt := hS.lt
  have hz := (ints_new w [-1, 9] (t := 3) _ rfl (fun z hz => by
    simp at hz
    rcases hz with rfl | rfl <;> exact wfI_small (by omega) (by omega))).more (B' := (w.alloc (.cells #[.int .i64 (-1), .int .i64 9] 3)).heap.size) (by simp)
  have := swipe_any g s (some ⟨w.heap.size, 0, none⟩) [-1, 9] 2 2 _ (hS.old ((Below.refl _ w).alloc (Nat.le_refl _) _)) rfl (by decide) hz (fun ad h => by cases h; simp only; omega)
  rw [(wipe_none s).1] at this
  exact this.mono fun _ _ ⟨h1, h2, h3⟩ => ⟨h1, ⟨_, h2⟩, h3⟩
set_option maxRecDepth 100000 in
set_option maxHeartbeats 4000000 in
theorem chains_any (key : List Nat) (A : Option Addr) (n c : Nat) (ss : List ByteArray) (w : World) (hT : STab w) (hkl : key.length = 32) (hkb : ∀ x ∈ key, x < 256) (hss : ss.length = n) (hnm : n ≤ maxLen) (hz : Strs w w.heap.size A ss) :
    Calls Tryd.prog 6 #[.agg (b8 key), .slice A n c] w (TrueBelow w) := by
  have HT := Lib.hid hT
  have HZ := Lib.hid hz
  have HDI := Lib.hid dig_info
  have HSK := Lib.hid (fun k (h : k.length = 32) => show (Tryd.prog.info? 23).map (·.size) = some (b8 k).size by rw [b8_size, h]; exact dig_info)
  have HZK := Lib.hid (fun k (h : k.length = 32) => show (b8 (List.replicate 32 0)).size = (b8 k).size by rw [b8_size, b8_size, h]; rfl)
  obtain ⟨w1, hw1⟩ : ∃ W, W = w.alloc (.cells (b8 key) 23) := ⟨_, rfl⟩
  have HW1 := Lib.hid hw1
  have HB1 := Lib.hid (show Below w.heap.size w w1 by rw [hw1]; exact (Below.refl _ w).alloc (Nat.le_refl _) _)
  have HK1 := Lib.hid (show Blk w1 w.heap.size 23 (b8 key) by rw [hw1]; exact Blk.new _ _ _)
  simp only [maxLen] at hnm
  have HKL := Lib.hid hkl
  have HKB := Lib.hid hkb
  clear hT hz hw1 hkl hkb
  go_enter Tryd.func6, Tryd.ntmps6
  go_upto_region 1 with fail
  change Code.wp _ _ _ _ (w.alloc (.cells (b8 key) 23))
  rw [← HW1.out]
  clear HW1
  go_wp2_with fail
  (with_reducible refine (awake_any _ (HT.out.old HB1.out)).mono ?_); rintro e w2 ⟨rfl, hB2⟩
  have HK2 := Lib.hid (HK1.out.next hB2 rfl)
  have HB2 := Lib.hid (below_then HB1.out hB2 (Nat.le_refl _))
  clear hB2 HK1 HB1
  go_wp2_with fail
  (with_reducible refine (snew_out _).mono ?_); rintro e w3 ⟨rfl, hS3, hB3⟩
  have HK3 := Lib.hid (HK2.out.next hB3 rfl)
  have HB3 := Lib.hid (below_then HB2.out hB3 (Nat.le_refl _))
  have HS3 := Lib.hid hS3
  have hg2 : w.heap.size < w2.heap.size := HK2.out.lt
  clear hB3 HK2 HB2 hS3
  generalize w2.heap.size = g at *
  go_wp2_with (refine wpList_load_row rfl 23 _ rfl w.heap.size rfl 23 (b8 key) (0, 0) _ HK3.out Tryd.underlying23 rfl (HSK.out key HKL.out) ?_)
  (with_reducible refine (ch_lay g key w3 HS3.out HKL.out HKB.out).mono ?_); rintro e w4 ⟨rfl, hC4, hF4⟩
  have HK4 := Lib.hid (HK3.out.frm hF4 (by simp; omega))
  have HB4 := Lib.hid (HB3.out.trans (Frm.below hF4 HB3.out.size (fun x hx => by simp at hx; omega)))
  have HC4 := Lib.hid hC4
  clear hC4 hF4 HS3 HK3 HB3
  go_upto_region 6 with (first | refine wpList_load_row rfl 23 _ rfl w.heap.size rfl 23 (b8 key) (0, 0) _ HK4.out Tryd.underlying23 rfl (HSK.out key HKL.out) ?_ | (refine wpList_new_row rfl 23 (.tmp 6) (.tmp 18) rfl w4.heap.size (b8 key) rfl rfl 23 (b8 (List.replicate 32 0)) (Blk.new _ _ _) (HSK.out key HKL.out) (HZK.out key HKL.out) (b8_one _) w4.heap.size w4 ((Below.refl _ w4).alloc (Nat.le_refl _) _) (Nat.le_refl _) ?_; intro w5 K5 B5))
  have HC5 := Lib.hid (HC4.out.old B5.out)
  have HB5 := Lib.hid (below_then HB4.out B5.out (Nat.le_refl _))
  have hg4 : g < w4.heap.size := HC4.out.lt
  have hw4 : w.heap.size < w4.heap.size := HK4.out.lt
  clear HC4 HK4 B5 HB4
  generalize w4.heap.size = gK at *
  go_wp2_with fail
  go_loopg [21] n (fun gm s21 wr => ∃ (i : Nat) (k : List Nat), i + gm = n ∧ i ≤ 7 ∧ s21 = .int .i64 (i : Int) ∧ Hid (Chm wr g i k) ∧ Hid (Blk wr gK 23 (b8 k)) ∧ Hid (Below w.heap.size w wr))
  case atStart => exact ⟨0, key, by omega, by omega, rfl, HC5, K5, HB5⟩
  case round =>
    obtain ⟨i, k, hg, hi7, rfl, HC, HK, HB⟩ := hrel
    have HG := Lib.hid hg
    have hin : i ≤ n := by omega
    clear hg HC5 HB5 K5
    by_cases hx : i < n ∧ i < 7
    · obtain ⟨hlt, h7⟩ := hx
      obtain ⟨s, hs⟩ : ∃ s, ss[i]? = some s := ⟨_, List.getElem?_eq_getElem (by omega)⟩
      obtain ⟨hsm, b, off, rfl, hb, hcx⟩ := (HZ.out.below HB.out) i s hs
      have hb' : b < wr.heap.size := Nat.lt_of_lt_of_le hb HB.out.size
      have HTX := Lib.hid (text_any s 20 20 wr rfl (by decide) hsm)
      have hw8 : IntKind.u8.wrap (i : Int) = i := IntWalk.u8_in _ (by omega)
      clear hs hsm
      go_wp2_with fail
      (with_reducible refine HTX.out.mono ?_); rintro e w2 ⟨s', rfl, hs', rfl⟩
      clear HTX
      have HKK := Lib.hid HC.out.key
      have HI8 := Lib.hid (show ∀ x ∈ [i], x < 256 from fun x hx => by simp at hx; omega)
      obtain ⟨k', hk'⟩ : ∃ k', deriveB k (sB s') [[i]] = k' := ⟨_, rfl⟩
      obtain ⟨D, hD⟩ : ∃ D, macB k' [120] = D := ⟨_, rfl⟩
      have HK' := Lib.hid hk'
      have HD := Lib.hid hD
      obtain ⟨W5, hW5⟩ : ∃ W, W = (wr.alloc (.cells (b8 [i]) 5 (0, 0))).alloc (.cells #[.slice (some ⟨wr.heap.size, 0, none⟩) 1 1] 53) := ⟨_, rfl⟩
      have HW5 := Lib.hid hW5
      obtain ⟨hP5, hB5⟩ := part_const wr [i] HI8.out (0, 0) W5 hW5
      have HB5 := Lib.hid (below_then HB.out hB5 (Nat.le_refl _))
      have HK5 := Lib.hid (HK.out.next hB5 rfl)
      have HDV := Lib.hid (ch_derive g i k (i : Int) ((i : Int) + 1) s' [[i]] (some ⟨wr.heap.size + 1, 0, none⟩) 1 1 W5 (HT.out.old HB5.out) (HC.out.old hB5) h7 rfl (by omega) (by omega) rfl (by decide) hP5 (by simp))
      rw [HK'.out] at HDV
      clear hk' hD hW5 hP5 hB5 HC HK
      go_wp2_with fail
      change Calls _ _ _ ((wr.alloc (.cells (b8 [i]) 5 (0, 0))).alloc (.cells #[.slice (some ⟨wr.heap.size, 0, none⟩) 1 1] 53)) _
      rw [← HW5.out]
      (with_reducible refine HDV.out.mono ?_); rintro e w6 ⟨rfl, hC6, hF6⟩
      have HC6 := Lib.hid hC6
      have HK6 := Lib.hid (HK5.out.frm hF6 (by simp; omega))
      have HB6 := Lib.hid (HB5.out.trans (Frm.below hF6 HB5.out.size (fun x hx => by simp at hx; omega)))
      clear HDV HW5 hC6 hF6 HB5 HK5 HB
      obtain ⟨W7, hW7⟩ : ∃ W, W = (w6.alloc (.cells (b8 [i]) 5 (0, 0))).alloc (.cells #[.slice (some ⟨w6.heap.size, 0, none⟩) 1 1] 53) := ⟨_, rfl⟩
      have HW7 := Lib.hid hW7
      obtain ⟨hP7, hB7⟩ := part_const w6 [i] HI8.out (0, 0) W7 hW7
      have HB7 := Lib.hid (below_then HB6.out hB7 (Nat.le_refl _))
      have HK7 := Lib.hid (HK6.out.next hB7 rfl)
      have HC7 := Lib.hid (HC6.out.old hB7)
      have HDR := Lib.hid (r2derive_any k (some ⟨gK, 0, none⟩) 32 32 s' [[i]] (some ⟨w6.heap.size + 1, 0, none⟩) 1 1 W7 HKK.out.1 (by decide) (nats_b8 HK7.out HKK.out.2) (by omega) rfl (by decide) hP7 (by simp))
      rw [HK'.out] at HDR
      clear hW7 hP7 hB7 HC6 HK6 HB6
      have hsl := fun b => run_slice_arr_all (P := Tryd.prog) 23 5 32 Tryd.underlying23 (fun _ => by kernel_rfl) b 0 (by decide)
      go_wp2_with fail
      change Calls _ _ _ ((w6.alloc (.cells (b8 [i]) 5 (0, 0))).alloc (.cells #[.slice (some ⟨w6.heap.size, 0, none⟩) 1 1] 53)) _
      rw [← HW7.out]
      (with_reducible refine HDR.out.mono ?_); rintro e w8 ⟨rfl, hB8⟩
      have HC8 := Lib.hid (HC7.out.old hB8)
      have HK8 := Lib.hid (HK7.out.next hB8 rfl)
      have HB8 := Lib.hid (below_then HB7.out hB8 (Nat.le_refl _))
      have HKK' := Lib.hid HC8.out.key
      clear HDR HW7 hB8 HC7 HK7 HB7
      go_upto_region 14 with (refine wpList_set_row rfl 23 (.tmp 6) (.tmp 47) rfl gK (b8 k') rfl rfl 23 (b8 k) HK8.out (HSK.out k' HKK'.out.1) (by rw [b8_size, b8_size, HKK.out.1, HKK'.out.1]) (b8_one _) ?_; intro w9 HK9 F9)
      have HC9 := Lib.hid (HC8.out.frm F9.out (by simp; omega))
      have HB9 := Lib.hid (HB8.out.trans (Frm.below F9.out HB8.out.size (fun x hx => by simp at hx; omega)))
      clear HC8 HK8 HB8 F9
      obtain ⟨W10, hW10⟩ : ∃ W, W = (w9.alloc (.cells (b8 [120]) 5 (1, 2))).alloc (.cells #[.slice (some ⟨w9.heap.size, 0, none⟩) 1 1] 53) := ⟨_, rfl⟩
      have HW10 := Lib.hid hW10
      obtain ⟨hP10, hB10⟩ := part_const w9 [120] (by decide) (1, 2) W10 hW10
      have HB10 := Lib.hid (below_then HB9.out hB10 (Nat.le_refl _))
      have HK10 := Lib.hid (HK9.out.next hB10 rfl)
      have HC10 := Lib.hid (HC9.out.old hB10)
      have HM := Lib.hid (ch_mac g (i + 1) k' ((i : Int) + 1) [[120]] (some ⟨w9.heap.size + 1, 0, none⟩) 1 1 W10 (HT.out.old HB10.out) HC10.out (by omega) rfl (by decide) hP10 (by decide))
      rw [show [[120]].flatten = [120] from rfl, HD.out] at HM
      clear hW10 hP10 hB10 HC9 HK9 HB9
      have kc := fun (w : World) (C : Array Value) (n c : Nat) => Lib.run_convert_bytes_const (P := Tryd.prog) w 53 5 C n c Tryd.underlying53 Tryd.underlying5
      go_wp2_with fail
      change Calls _ _ _ ((w9.alloc (.cells (b8 [120]) 5 (1, 2))).alloc (.cells #[.slice (some ⟨w9.heap.size, 0, none⟩) 1 1] 53)) _
      rw [← HW10.out]
      (with_reducible refine HM.out.mono ?_); rintro e w11 ⟨rfl, hB11⟩
      have HC11 := Lib.hid (HC10.out.old hB11)
      have HK11 := Lib.hid (HK10.out.next hB11 rfl)
      have HB11 := Lib.hid (below_then HB10.out hB11 (Nat.le_refl _))
      have HDL := Lib.hid (show D.length = 32 by rw [← HD.out]; exact macB_length _ _)
      clear kc HM HW10 hB11 HC10 HK10 HB10
      go_upto_region 15 with (refine wpList_new_row rfl 23 (.tmp 9) (.tmp 56) rfl w11.heap.size (b8 D) rfl rfl 23 (b8 (List.replicate 32 0)) (Blk.new _ _ _) (HSK.out D HDL.out) (HZK.out D HDL.out) (b8_one _) w11.heap.size w11 ((Below.refl _ w11).alloc (Nat.le_refl _) _) (Nat.le_refl _) ?_; intro w12 KD12 B12)
      have HC12 := Lib.hid (HC11.out.old B12.out)
      have HK12 := Lib.hid (HK11.out.next B12.out rfl)
      have HB12 := Lib.hid (below_then HB11.out B12.out (Nat.le_refl _))
      clear B12 HC11 HK11 HB11
      generalize w11.heap.size = gD at *
      have heq := fun W => eq_arr W 32 23 D D HDL.out HDL.out Tryd.underlying23
      simp only [decide_true] at heq
      refine Rel.wp_region_rel 17 [(63, .any (Rel.Lit8 w12.drew.heap.size 5 [.int .u8 120]) Rel.Lit8.soft), (64, .any (Rel.Lit8 w12.drew.heap.size 5 [.int .u8 120]) Rel.Lit8.soft), (65, .const (.agg (b8 D))), (72, .const (.int .i64 2))] (by kernel_rfl) (by kernel_rfl) ?_
      simp only [List.take_succ_cons, List.take_zero, List.drop_succ_cons, List.drop_zero, Act.put, List.setIfInBounds_toArray, List.set_cons_zero, List.set_cons_succ]
      repeat (refine Rel.tree_quiet rfl rfl rfl (fun K hK => ?_); go_big_quiet_op; refine hK _ ?_; clear hK K)
      refine Rel.tree_pure rfl rfl rfl (.agg (b8 D)) (fun W hW _ => Rel.exec_load _ _ rfl gD 0 rfl _ _ (Blk.range (hW.blk KD12.out.drew)) Tryd.underlying23 rfl (HSK.out D HDL.out)) ?_
      simp only [Act.put, List.setIfInBounds_toArray, List.set_cons_zero, List.set_cons_succ]
      (refine Rel.tree_quiet rfl rfl rfl (fun K hK => ?_); go_big_quiet_op; refine hK _ ?_; clear hK K)
      refine Rel.tree_rel rfl (Rel.Lit8 w12.drew.heap.size 5 [.int .u8 120]) Rel.Lit8.soft rfl (fun W hW _ => ?_) (fun v63 => ?_)
      · unfold Rel.relAt
        go_simp
        exact ⟨Rel.Grow.alloc _ _, Rel.lit8_new [.int .u8 120] hW.size⟩
      simp only [Act.put, List.setIfInBounds_toArray, List.set_cons_zero, List.set_cons_succ]
      refine Rel.tree_step rfl (Rel.Lit8 w12.drew.heap.size 5 [.int .u8 120]) Rel.Lit8.soft rfl (fun W hW hF => Rel.stepAt_const rfl Tryd.underlying53 Tryd.underlying5 v63 rfl (hF 63 (by decide))) (fun v64 => ?_)
      simp only [Act.put, List.setIfInBounds_toArray, List.set_cons_zero, List.set_cons_succ]
      refine Rel.tree_const rfl (.agg (b8 D)) rfl (fun W hW hF => ?_) ?_
      · have h64 := hF 64 (by decide)
        obtain ⟨g7, rfl, hp7⟩ := bytesN_lit8 [120] (by decide) h64
        have hKn := nats_b8 (hW.blk HK12.out.drew) HKK'.out.2
        have hSm := r2sum_any k' [120] (some ⟨gK, 0, none⟩) 32 32 (some ⟨g7, 0, none⟩) 1 1 W HKK'.out.1 (by decide) hKn hp7 (by decide)
        rw [HD.out] at hSm
        clear hF h64
        unfold Rel.relAt; go_simp; show Calls _ _ _ _ _
        exact const_call hSm
      simp only [Act.put, List.setIfInBounds_toArray, List.set_cons_zero, List.set_cons_succ]
      repeat (refine Rel.tree_quiet rfl rfl rfl (fun K hK => ?_); go_big_quiet_op; refine hK _ ?_; clear hK K)
      refine Rel.tree_const rfl (.int .i64 2) rfl (fun W hW hF => ?_) ?_
      · have hKd := ch_kind g (i + 1) k' ((i : Int) + 1) W (HC12.out.old hW.undrew) (by omega) (by omega)
        clear hF
        unfold Rel.relAt; go_simp; show Calls _ _ _ _ _
        exact const_call hKd
      simp only [Act.put, List.setIfInBounds_toArray, List.set_cons_zero, List.set_cons_succ]
      repeat (refine Rel.tree_quiet rfl rfl rfl (fun K hK => ?_); go_big_quiet_op; refine hK _ ?_; clear hK K)
      intro W hW _
      have HB13 := Lib.hid (below_then HB12.out hW.undrew (Nat.le_refl _))
      have HC13 := Lib.hid (HC12.out.old hW.undrew)
      have HK13 := Lib.hid (HK12.out.next hW.undrew rfl)
      clear hW HB12 HC12 HK12 heq KD12
      go_wp2_with fail
      go_light
      go_roundg (n - (i + 1))
      case measure => have := HG.out; omega
      case rel => exact ⟨i + 1, k', by omega, by omega, by go_num, HC13, HK13, HB13⟩
    · have hex : (i = n ∧ n ≤ 1) ∨ (i = n ∧ 2 ≤ n ∧ n ≤ 7) ∨ (i = 7 ∧ 7 < n) := by omega
      have HCT := Lib.hid (ch_count g i k wr HC.out)
      clear hx
      rcases hex with ⟨h1, h2⟩ | ⟨h1, h2, h3⟩ | ⟨h1, h2⟩
      · obtain rfl := h1
        have hw7 : (i : Int) ≤ 7 := by omega
        have hw1 : (i : Int) ≤ 1 := by omega
        have HWP := fun w W (hC : Chm w g i k) hW => ch_wipe g i k (i : Int) (1 + (i : Int)) w W hC rfl (by omega) hW
        clear HK HG hin hi7 HDI HSK HZK HKL HKB HZ HT
        go_wp2_with fail
        (with_reducible refine HCT.out.mono ?_); rintro e w2 ⟨rfl, hB2⟩
        have hC2 := HC.out.old hB2
        have HB2 := Lib.hid (below_then HB.out hB2 (Nat.le_refl _))
        have HWQ := Lib.hid (HWP w2 _ hC2 rfl)
        have HB3 := Lib.hid (HB2.out.alloc HB2.out.size (.cells #[.int .i64 0, .int .i64 0, .int .i64 (i : Int)] 3))
        clear HWP hC2 hB2 HC HB
        go_wp2_with fail
        (with_reducible refine HWQ.out.mono ?_); rintro e w3 ⟨rfl, hS3, hF3⟩
        have HB4 := Lib.hid (HB3.out.trans (Frm.below hF3 HB3.out.size (fun x hx => by simp at hx; omega)))
        have HWR := Lib.hid (ch_wipe0 g w3 _ hS3 rfl)
        have HB5 := Lib.hid (HB4.out.alloc HB4.out.size (.cells #[.int .i64 (-1), .int .i64 9] 3))
        clear HWQ hF3 hS3 HB2 HB3 HB4
        go_wp2_with fail
        (with_reducible refine HWR.out.mono ?_); rintro e w5 ⟨rfl, _, hF5⟩
        have HB6 := Lib.hid (HB5.out.trans (Frm.below hF5 HB5.out.size (fun x hx => by simp at hx; omega)))
        clear hF5 HWR HB5
        go_wp2_with fail
        go_light
        go_ret
        exact ⟨rfl, HB6.out⟩
      · obtain rfl := h1
        have hw7 : (i : Int) ≤ 7 := by omega
        have hw1 : ¬ (i : Int) ≤ 1 := by omega
        have HWP := fun w W (hC : Chm w g i k) hW => ch_wipe g i k (i : Int) 2 w W hC rfl (by omega) hW
        clear HK HG hin hi7 HDI HSK HZK HKL HKB HZ HT
        go_wp2_with fail
        (with_reducible refine HCT.out.mono ?_); rintro e w2 ⟨rfl, hB2⟩
        have hC2 := HC.out.old hB2
        have HB2 := Lib.hid (below_then HB.out hB2 (Nat.le_refl _))
        have HWQ := Lib.hid (HWP w2 _ hC2 rfl)
        have HB3 := Lib.hid (HB2.out.alloc HB2.out.size (.cells #[.int .i64 0, .int .i64 0, .int .i64 (i : Int)] 3))
        clear HWP hC2 hB2 HC HB
        go_wp2_with fail
        (with_reducible refine HWQ.out.mono ?_); rintro e w3 ⟨rfl, hS3, hF3⟩
        have HB4 := Lib.hid (HB3.out.trans (Frm.below hF3 HB3.out.size (fun x hx => by simp at hx; omega)))
        have HWR := Lib.hid (ch_wipe0 g w3 _ hS3 rfl)
        have HB5 := Lib.hid (HB4.out.alloc HB4.out.size (.cells #[.int .i64 (-1), .int .i64 9] 3))
        clear HWQ hF3 hS3 HB2 HB3 HB4
        go_wp2_with fail
        (with_reducible refine HWR.out.mono ?_); rintro e w5 ⟨rfl, _, hF5⟩
        have HB6 := Lib.hid (HB5.out.trans (Frm.below hF5 HB5.out.size (fun x hx => by simp at hx; omega)))
        clear hF5 HWR HB5
        go_wp2_with fail
        go_light
        go_ret
        exact ⟨rfl, HB6.out⟩
      · subst h1
        have hw7 : ¬ (n : Int) ≤ 7 := by omega
        obtain ⟨s, hs⟩ : ∃ s, ss[7]? = some s := ⟨_, List.getElem?_eq_getElem (by omega)⟩
        obtain ⟨hsm, b, off, rfl, hb, hcx⟩ := (HZ.out.below HB.out) 7 s hs
        have hb' : b < wr.heap.size := Nat.lt_of_lt_of_le hb HB.out.size
        clear hs hsm
        have HWP := fun w W (hC : Chm w g 7 k) hW => ch_wipe g 7 k 7 2 w W hC rfl (by omega) hW
        clear HK HG hin hi7 HDI HSK HZK HKL HKB HZ HT
        go_wp2_with fail
        (with_reducible refine HCT.out.mono ?_); rintro e w2 ⟨rfl, hB2⟩
        have hC2 := HC.out.old hB2
        have HB2 := Lib.hid (below_then HB.out hB2 (Nat.le_refl _))
        have HWQ := Lib.hid (HWP w2 _ hC2 rfl)
        have HB3 := Lib.hid (HB2.out.alloc HB2.out.size (.cells #[.int .i64 0, .int .i64 0, .int .i64 7] 3))
        clear HWP hC2 hB2 HC HB
        go_wp2_with fail
        (with_reducible refine HWQ.out.mono ?_); rintro e w3 ⟨rfl, hS3, hF3⟩
        have HB4 := Lib.hid (HB3.out.trans (Frm.below hF3 HB3.out.size (fun x hx => by simp at hx; omega)))
        have HWR := Lib.hid (ch_wipe0 g w3 _ hS3 rfl)
        have HB5 := Lib.hid (HB4.out.alloc HB4.out.size (.cells #[.int .i64 (-1), .int .i64 9] 3))
        clear HWQ hF3 hS3 HB2 HB3 HB4
        go_wp2_with fail
        (with_reducible refine HWR.out.mono ?_); rintro e w5 ⟨rfl, _, hF5⟩
        have HB6 := Lib.hid (HB5.out.trans (Frm.below hF5 HB5.out.size (fun x hx => by simp at hx; omega)))
        clear hF5 HWR HB5
        go_wp2_with fail
        go_light
        go_ret
        exact ⟨rfl, HB6.out⟩
end Slot
end Go.Proofs.YtpakdcgcgekcfaaDoor

/-
  What a row's list gives: the tables of package sha in their variables.
-/
namespace Go.Proofs.YtpakdcgcgekcfaaDoor
open Go.RowKit

theorem tabIs_of_vars {P : Program} {W : World} {name : String} {k : IntKind} {zs : List Int} {g : Nat} {t e : TypeId} {n : Nat}
    (hg : P.globalNamed name = some g) (hty : (P.globals[g]?).map (·.type) = some t) (ht : P.underlying t = some (.array n e)) (he : P.underlying e = some (.int k)) (hce : P.cellsOf e = 1) (hct : P.cellsOf t = n) :
    ∀ (laid : List (String × DataW Unit)) (ps : List MemPlace), DataW.LaidVars P W laid ps → (name, Lib.tabData k zs) ∈ laid → Lib.TabIs P W name k zs
  | [], _, _, hm => by cases hm
  | x :: rest, ps, h, hm => by
    obtain ⟨g', t', cs, fuel, p, q, hg', ht', hvar, hd, hr, _⟩ := h
    rcases List.mem_cons.1 hm with rfl | hm
    · obtain rfl := Option.some.inj (hg.symm.trans hg')
      obtain rfl := Option.some.inj (hty.symm.trans ht')
      unfold Lib.TabIs
      rw [hvar, ← Lib.cells_of_tab ht he hce hct hd]
    · exact tabIs_of_vars hg hty ht he hce hct rest q hr hm
namespace Sha
open Otp R1
theorem gFirst : Tryd.prog.globalNamed "curtilage/sha.first" = some 2 := by kernel_rfl
theorem gFirstType : (Tryd.prog.globals[2]?).map (·.type) = some 118 := by kernel_rfl
theorem gFirstCells : Tryd.prog.cellsOf 118 = 8 := by kernel_rfl
theorem gRounds : Tryd.prog.globalNamed "curtilage/sha.rounds" = some 3 := by kernel_rfl
theorem gRoundsType : (Tryd.prog.globals[3]?).map (·.type) = some 44 := by kernel_rfl
theorem gRoundsCells : Tryd.prog.cellsOf 44 = 64 := by kernel_rfl
theorem u32Cells : Tryd.prog.cellsOf 43 = 1 := by kernel_rfl
def zI (l : List Nat) : List Int := l.map fun x => ((x : Nat) : Int)
theorem range_of {W : World} {name : String} {l : List Nat} {g : Nat} (h : Lib.TabIs Tryd.prog W name .u32 (zI l)) (hg : Tryd.prog.globalNamed name = some g) : W.rangeAt g 0 (c32 l).toList := fun j v hv => by
  have hv' : (l.map fun x => Value.int .u32 ((x : Nat) : Int))[j]? = some v := by simpa [c32] using hv
  rw [List.getElem?_map] at hv'
  cases hx : l[j]? with
  | none => rw [hx] at hv'; cases hv'
  | some x =>
    rw [hx] at hv'
    obtain rfl := Option.some.inj hv'
    have hj := (List.getElem?_eq_some_iff.1 hx).1
    have := h.cell hg j (by simpa [zI] using hj)
    rw [Nat.zero_add, this]
    simp [zI, List.getD, hx]
theorem stab_of {W : World} {laid : List (String × DataW Unit)} (h : laidMet Tryd.prog laid W) (h1 : ("curtilage/sha.first", Lib.tabData .u32 (zI rH)) ∈ laid) (h2 : ("curtilage/sha.rounds", Lib.tabData .u32 (zI rK)) ∈ laid) : STab W := by
  obtain ⟨ps, hv, _⟩ := h
  exact ⟨range_of (tabIs_of_vars gRounds gRoundsType Tryd.underlying44 Tryd.underlying43 u32Cells gRoundsCells _ _ hv h2) gRounds, range_of (tabIs_of_vars gFirst gFirstType Tryd.underlying118 Tryd.underlying43 u32Cells gFirstCells _ _ hv h1) gFirst⟩
def errLarge : DataW Unit := .iface "*errors.errorString" (.ptr (.agg [.lit (.string [98, 121, 116, 101, 115, 46, 66, 117, 102, 102, 101, 114, 58, 32, 116, 111, 111, 32, 108, 97, 114, 103, 101])]))
theorem stab2 {W : World} (h : laidMetH Tryd.prog [("curtilage/sha.first", Lib.tabData .u32 (zI rH)), ("curtilage/sha.rounds", Lib.tabData .u32 (zI rK))] W) : STab W :=
  stab_of (laid := [("curtilage/sha.first", Lib.tabData .u32 (zI rH)), ("curtilage/sha.rounds", Lib.tabData .u32 (zI rK))]) h (by simp) (by simp)
theorem stab3 {W : World} (h : laidMetH Tryd.prog [("bytes.ErrTooLarge", errLarge), ("curtilage/sha.first", Lib.tabData .u32 (zI rH)), ("curtilage/sha.rounds", Lib.tabData .u32 (zI rK))] W) : STab W :=
  stab_of (laid := [("bytes.ErrTooLarge", errLarge), ("curtilage/sha.first", Lib.tabData .u32 (zI rH)), ("curtilage/sha.rounds", Lib.tabData .u32 (zI rK))]) h (by simp) (by simp)
end Sha
end Go.Proofs.YtpakdcgcgekcfaaDoor

/-
  SlotChains, its arguments as the law's frame gives them.
-/
namespace Go.Proofs.YtpakdcgcgekcfaaDoor
open Go.RowKit

namespace Slot
open Otp R1 Sha Mac
theorem u8_ints (zs : List Int) (h : ∀ z ∈ zs, (Lit.int .u8 z).wf = true) : (zs.map (Value.int .u8)).toArray = b8 (zs.map Int.toNat) ∧ ∀ x ∈ zs.map Int.toNat, x < 256 := by
  refine ⟨?_, fun x hx => ?_⟩
  · unfold b8
    rw [List.map_map]
    congr 1
    exact List.map_congr_left fun z hz => by
      have := bounds_u8 (h z hz)
      simp only [Function.comp_apply, Int.toNat_of_nonneg this.1]
  · obtain ⟨z, hz, rfl⟩ := List.mem_map.1 hx
    have := bounds_u8 (h z hz)
    omega
theorem chains_frame (zs : List Int) (A : Option Addr) (n c : Nat) (ss : List ByteArray) (w : World) (hT : STab w) (hkl : zs.length = 32) (hkb : ∀ z ∈ zs, (Lit.int .u8 z).wf = true) (hss : ss.length = n) (hnm : n ≤ maxLen) (hz : Strs w w.heap.size A ss) :
    Calls Tryd.prog 6 #[.agg (zs.map (Value.int .u8)).toArray, .slice A n c] w (TrueBelow w) := by
  obtain ⟨h1, h2⟩ := u8_ints zs hkb
  rw [h1]
  exact chains_any _ A n c ss w hT (by rw [List.length_map]; exact hkl) h2 hss hnm hz
end Slot
end Go.Proofs.YtpakdcgcgekcfaaDoor

/-
  The references' Same.
-/
namespace Go.Proofs.YtpakdcgcgekcfaaDoor
open Go.RowKit

namespace R1
def SameOut (w : World) (v : Bool) (e : Ending) (w' : World) : Prop := e = .returned (.bool v) ∧ ∃ n, w' = w.drewN n
theorem Nats.drewN {k : IntKind} {M : Nat} {w : World} {B : Nat} {a : Option Addr} {zs : List Nat} (h : Nats k M w B a zs) (n : Nat) : Nats k M (w.drewN n) B a zs := h
theorem drewN_drewN (w : World) (a b : Nat) : (w.drewN a).drewN b = w.drewN (a + b) := by
  simp [World.drewN, Nat.add_assoc]
set_option maxHeartbeats 1000000 in
theorem same_any (A B : Option Addr) (la lb ca cb : Nat) (x y : List Nat) (v : Bool) (w : World) (BA BB : Nat) (hx : x.length = la) (hy : y.length = lb) (hma : la ≤ maxLen) (hmb : lb ≤ maxLen) (hA : Nats .u8 256 w BA A x) (hB : Nats .u8 256 w BB B y) (hv : decide (x = y) = v) :
    Calls Tryd.prog 29 #[.slice A la ca, .slice B lb cb] w (SameOut w v) := by
  have HA := Lib.hid hA
  have HB := Lib.hid hB
  have HV := Lib.hid hv
  simp only [maxLen] at hma hmb
  clear hA hB hv
  subst hx hy
  by_cases hl : x.length = y.length
  · have HL := Lib.hid hl
    have e1 : ((x.length : Int) != (y.length : Int)) = false := by simp [hl]
    clear hl
    go_enter Tryd.func29, Tryd.ntmps29
    go_wp2_with fail
    go_loopg [5, 13] x.length (fun g s5 s13 wr => ∃ i : Nat, i + g = x.length ∧ s13 = .int .i64 (i : Int) ∧ Hid (x.take i = y.take i) ∧ ∃ n, wr = w.drewN n)
    case atStart => exact ⟨0, by omega, rfl, Lib.hid rfl, 0, rfl⟩
    case round =>
      obtain ⟨i, hg, rfl, HT, n, rfl⟩ := hrel
      have HG := Lib.hid hg
      have hi : i ≤ x.length := by omega
      clear hg
      by_cases hlt : i < x.length
      · obtain ⟨a, ha⟩ : ∃ a, x[i]? = some a := ⟨_, List.getElem?_eq_getElem hlt⟩
        obtain ⟨b, hb⟩ : ∃ b, y[i]? = some b := ⟨_, List.getElem?_eq_getElem (by have := HL.out; omega)⟩
        obtain ⟨haM, ga, oa, rfl, hga, hca⟩ := HA.out i a ha
        obtain ⟨hbM, gb, ob, rfl, hgb, hcb⟩ := HB.out i b hb
        have hlt2 : i < y.length := by have := HL.out; omega
        by_cases hab : a = b
        · subst hab
          have HS := Lib.hid (show x.take (i + 1) = y.take (i + 1) by rw [take_snoc ha, take_snoc hb, HT.out])
          clear ha hb
          go_wp2_with fail
          go_quiet (fail)
          go_wp2_with fail
          go_light
          go_roundg (x.length - (i + 1))
          case measure => have := HG.out; omega
          case rel => exact ⟨i + 1, by have := HG.out; omega, by go_num, HS, _, rfl⟩
        · have hne : ((a : Int) != (b : Int)) = true := by rw [bne_iff_ne]; omega
          have HF := Lib.hid (show v = false by
            rw [← HV.out, decide_eq_false_iff_not]
            intro e
            rw [e, hb] at ha
            exact hab (Option.some.inj ha).symm)
          clear ha hb
          go_wp2_with fail
          go_quiet (fail)
          go_wp2_with fail
          go_light
          go_ret
          obtain rfl := HF.out
          exact ⟨rfl, _, drewN_drewN _ _ _⟩
      · have : i = x.length := by omega
        subst this
        have HE := Lib.hid (show v = true by
          rw [← HV.out, decide_eq_true_eq]
          have := HT.out
          rw [List.take_length, HL.out, List.take_length] at this
          exact this)
        go_wp2_with fail
        go_light
        go_ret
        obtain rfl := HE.out
        exact ⟨rfl, n, rfl⟩
  · have e1 : ((x.length : Int) != (y.length : Int)) = true := by rw [bne_iff_ne]; omega
    have HF := Lib.hid (show v = false by
      rw [← HV.out, decide_eq_false_iff_not]
      intro e
      exact hl (by rw [e]))
    clear hl
    go_enter Tryd.func29, Tryd.ntmps29
    go_wp2_with fail
    go_light
    go_ret
    obtain rfl := HF.out
    exact ⟨rfl, 0, rfl⟩
end R1
end Go.Proofs.YtpakdcgcgekcfaaDoor

/-
  RelG, some of whose head's operations are plain values that may be taken late: they are taken as soon as they can be.
-/
namespace Go.Proofs.YtpakdcgcgekcfaaDoor
open Go Go.RowKit

namespace RelG
/-- Values that no memory tells. -/
def plainOp (o : Oper) : Bool := o.dst.isSome && match o.op with
  | .move _ | .assign _ | .extract _ _ => true
  | _ => false
section
variable {P : Program} {ops : Array Oper} {md : Region.Mode} {n : Nat}
theorem plain_run {o : Oper} {ρ : Operand → Value} {w : World} {v : Value} (hp : plainOp o = true) (h : (execOp ρ o).run P w = .ok (.value v) w) : ∀ w', (execOp ρ o).run P w' = .ok (.value v) w' := fun w' => by
  obtain ⟨dst, op, type, pos, after, guard⟩ := o
  cases op <;> simp only [plainOp, Bool.and_false, Bool.false_eq_true] at hp <;> simp only [execOp] at h ⊢
  case move x => simp at h ⊢; exact h
  case assign x => simp at h ⊢; exact h
  case extract x i =>
    rw [Sem.run_bind] at h ⊢
    generalize ρ x = y at *
    cases y <;> simp [Instr.extract, Result.andThen] at h ⊢
    rename_i vs
    cases hx : vs[i]? with
    | none => rw [hx] at h; simp at h
    | some z => rw [hx] at h; simp at h ⊢; exact h
/-- What an operation waits for, through others. -/
def leadsB (md : Region.Mode) (ops : Array Oper) (k : Nat) : Nat → Nat → Bool
  | 0, _ => false
  | f + 1, j => match ops[j]? with
    | none => false
    | some o => o.after.any fun e => Region.binds md e && (e.on == k || leadsB md ops k f e.on)
def behind (md : Region.Mode) (ops : Array Oper) (j : Nat) : Array Bool := ((List.range ops.size).map fun k => leadsB md ops k ops.size j).toArray
theorem leads_listed {s : Array Bool} (inv : HeadInv md ops n s) {k : Nat} : ∀ (f j : Nat) (o : Oper), ops[j]? = some o → (∀ e ∈ o.after, Region.binds md e = true → s.getD e.on false = true) → leadsB md ops k f j = true → s.getD k false = true
  | 0, _, _, _, _, h => by cases h
  | f + 1, j, o, ho, hall, h => by
    rw [leadsB, ho] at h
    simp only [Array.any_eq_true'] at h
    obtain ⟨e, he, hb⟩ := h
    simp only [Bool.and_eq_true, Bool.or_eq_true, beq_iff_eq] at hb
    obtain ⟨hb1, hb2⟩ := hb
    have hl := hall e he hb1
    rcases hb2 with hk | hk
    · rw [← hk]; exact hl
    · cases ho2 : ops[e.on]? with
      | none =>
        cases f with
        | zero => cases hk
        | succ f => rw [leadsB, ho2] at hk; cases hk
      | some o2 => exact leads_listed inv f e.on o2 ho2 (fun e2 he2 hb3 => inv.closed e.on o2 ho2 hl e2 he2 hb3) hk
def floatB (md : Region.Mode) (ops : Array Oper) (n : Nat) (fl : List Nat) : Bool :=
  fl.all fun j => decide (j < n) && Region.free md ops (behind md ops j) j && match ops[j]? with
    | none => false
    | some o => plainOp o && o.after.all fun e => !Region.binds md e || (decide (e.on < n) && !fl.contains e.on)
def kindB (ops : Array Oper) (ks : List (Tmp × Kind)) (fl : List Nat) : Bool := fl.all fun j => match ops[j]? with
  | none => false
  | some o => (kindOf ks o).isNone
def edgesB (md : Region.Mode) (ops : Array Oper) (n : Nat) (fl : List Nat) : Bool :=
  (List.range ops.size).all fun t => decide (t < n) || (List.range n).all fun i => fl.contains i || Region.waitsFor md ops t i
def okF (md : Region.Mode) (ops : Array Oper) (n : Nat) (fl : List Nat) : Bool := Region.noSelect ops && headB md ops n && decide (n ≤ ops.size) && floatB md ops n fl && edgesB md ops n fl && Region.seqB md ops (ops.size - n) n (canon n ops.size)
theorem free_all {j : Nat} {s : Array Bool} (inv : HeadInv md ops n s) (hr : j ∈ Region.ready md ops s) (h : Region.free md ops (behind md ops j) j = true) : Region.free md ops s j = true := by
  obtain ⟨_, oj, hoj, hall⟩ := mem_ready.1 hr
  unfold Region.free at h ⊢
  rw [hoj] at h ⊢
  simp only [List.all_eq_true, List.mem_range] at h ⊢
  intro k hk
  have := h k hk
  simp only [Bool.or_eq_true] at this ⊢
  rcases this with (h1 | h1) | h1
  · exact .inl (.inl h1)
  · refine .inl (.inr ?_)
    have h2 : leadsB md ops k ops.size j = true := by
      simpa [behind, Array.getD_eq_getD_getElem?, hk] using h1
    have h3 := leads_listed inv _ j oj hoj hall h2
    cases hx : s.getD k true with
    | true => rfl
    | false => rw [getD_both hx] at h3; cases h3
  · exact .inr h1
theorem float_turn {fl : List Nat} {s : Array Bool} (hf : floatB md ops n fl = true) (he : edgesB md ops n fl = true) (inv : HeadInv md ops n s) (hn : n ≤ ops.size) {i : Nat} (hi : i < n) (hun : s.getD i true = false) :
    (∀ t, t ∈ Region.ready md ops s → t < n) ∨ (i ∈ fl ∧ i ∈ Region.ready md ops s) := by
  by_cases hx : ∃ k, k < n ∧ k ∉ fl ∧ s.getD k true = false
  · obtain ⟨k, hk, hkf, hku⟩ := hx
    refine .inl (fun t ht => ?_)
    rcases Nat.lt_or_ge t n with h4 | h4
    · exact h4
    · exfalso
      obtain ⟨_, ot, hot, hall⟩ := mem_ready.1 ht
      have htlt : t < ops.size := (Array.getElem?_eq_some_iff.1 hot).1
      have h1 := List.all_eq_true.1 he t (List.mem_range.2 htlt)
      simp only [Bool.or_eq_true, decide_eq_true_eq] at h1
      rcases h1 with h1 | h1
      · omega
      · have h2 := List.all_eq_true.1 h1 k (List.mem_range.2 hk)
        simp only [Bool.or_eq_true, List.contains_iff_mem] at h2
        rcases h2 with h2 | h2
        · exact hkf h2
        · obtain ⟨o', ho', e, hem, hb, hon⟩ := Region.waitsFor_spec h2
          have : o' = ot := Option.some.inj (ho'.symm.trans hot)
          subst this
          have h3 := hall e hem hb
          rw [hon, getD_both hku] at h3
          cases h3
  · have hif : i ∈ fl := by
      by_cases h : i ∈ fl
      · exact h
      · exact absurd ⟨i, hi, h, hun⟩ hx
    refine .inr ⟨hif, ?_⟩
    have h1 := List.all_eq_true.1 hf i hif
    simp only [Bool.and_eq_true, decide_eq_true_eq] at h1
    obtain ⟨⟨_, _⟩, h1⟩ := h1
    cases ho : ops[i]? with
    | none => rw [ho] at h1; simp at h1
    | some o =>
      rw [ho] at h1
      simp only [Bool.and_eq_true] at h1
      refine mem_ready.2 ⟨hun, o, ho, fun e hem hb => ?_⟩
      have h2 := Array.all_eq_true_iff_forall_mem.1 h1.2 e hem
      simp only [hb, Bool.not_true, Bool.false_or, Bool.and_eq_true, decide_eq_true_eq, Bool.not_eq_true'] at h2
      cases hl : s.getD e.on false with
      | true => rfl
      | false =>
        exfalso
        have hs : e.on < s.size := by rw [inv.size]; omega
        have hnf : e.on ∉ fl := fun h => by
          have : fl.contains e.on = true := List.contains_iff_mem.2 h
          rw [h2.2] at this
          cases this
        exact hx ⟨e.on, h2.1, hnf, getD_in hs hl⟩
end
section
variable {P : Program} {ops : Array Oper} {md : Region.Mode} {n : Nat} {ks : List (Tmp × Kind)} {w0 : World} {a0 : Act}
theorem tree_fl {Q : Act → World → Prop} {R : Exit → Act → World → Prop} {g : Nat} {fl : List Nat} (hsel : Region.noSelect ops = true) (hB : headB md ops n = true) (hn : n ≤ ops.size) (hF : floatB md ops n fl = true) (hE : edgesB md ops n fl = true) (hK : kindB ops ks fl = true)
    (hR : ∀ c a w x v, R (.panic c) (a.put (some x) v) w → R (.panic c) a w)
    {L : List Oper} (hL : ∀ j, j < n → L[j]? = ops[j]?) (hLn : L.length = n) (ht : tree P ops ks w0 Q L bare a0) (hQ : ∀ a w, Q a w → wpAny P md ops R g (canon n ops.size) a w) :
    ∀ (m : Nat) (s : Array Bool) (a : Act) (w : World) (u : Nat → Value), Inv P ops md n ks w0 a0 s a w u → cnt s n = m → wpAny P md ops R (m + g) s a w
  | 0, s, a, w, u, inv, hc => by
    have hall := cnt_zero n hc
    obtain ⟨b, F, h, br⟩ := reach hsel hB inv hL hLn ht n (Nat.le_refl _)
    rw [List.drop_of_length_le (by omega)] at h
    have hba : b = a := by
      have e1 : b.tmps = a.tmps := by
        apply Array.ext_getElem?
        intro d
        by_cases hx : ∃ j p, j < n ∧ ops[j]? = some p ∧ p.dst = some d
        · obtain ⟨j, p, hj, hp, hd⟩ := hx
          rw [br.slot j p d hj hp (hall j hj) hd, inv.slot j p d hj hp (hall j hj) hd]
        · rw [br.rest d (fun j p hj hp hd => hx ⟨j, p, hj, hp, hd⟩), inv.rest d (fun j p hj hp _ hd => hx ⟨j, p, hj, hp, hd⟩)]
      have e2 : b.defers = a.defers := br.defers.trans inv.defers.symm
      cases b; cases a
      simp only at e1 e2
      rw [e1, e2]
    rw [hba] at h
    have hq : Q a w := h w inv.grow (fun d => by
      by_cases hx : ∃ j p, j < n ∧ ops[j]? = some p ∧ p.dst = some d
      · obtain ⟨j, p, hj, hp, hd⟩ := hx
        exact br.told j p d hj hp (hall j hj) hd w (told_now inv hj hp (hall j hj))
      · exact br.free d (fun j p hj hp hd => hx ⟨j, p, hj, hp, hd⟩) w)
    rw [Nat.zero_add, canon_eq hn inv.head.size hall (fun j h1 h2 => inv.head.tail j h1 h2)]
    exact hQ a w hq
  | m + 1, s, a, w, u, inv, hc => by
    have e : m + 1 + g = m + g + 1 := by omega
    rw [e]
    obtain ⟨i0, hi0, hf0, hlow⟩ := cnt_pos (s := s) n (by omega)
    have hs0 : i0 < s.size := by rw [inv.head.size]; omega
    obtain ⟨o0, ho0⟩ := head_op hB hi0
    have hr0 : i0 ∈ Region.ready md ops s := mem_ready.2 ⟨getD_in hs0 hf0, o0, ho0, fun e he hb => hlow e.on (head_edges hB hi0 ho0 e he hb)⟩
    -- what each ready operation of the head does
    have one : ∀ i, i ∈ Region.ready md ops s → i < n → ∃ o, ops[i]? = some o ∧ (∀ v w', Step w0.heap.size w w' → Good P ops n ks w0 u o a w' v → wpAny P md ops R (m + g) (s.setIfInBounds i true) (a.put o.dst v) w') ∧
        ∃ b : Act, (execOp b.eval o = execOp a.eval o) ∧ (Region.wanted o (yielded ops b.tmps) = Region.wanted o (yielded ops a.tmps)) ∧ ∃ F : Facts, (∀ d ∈ o.looksAt ops, F d w) ∧ tree P ops ks w0 Q (o :: L.drop (i + 1)) F b ∧
        (∀ d, d ∈ o.looksAt ops → ∀ j p, j < n → ops[j]? = some p → p.dst = some d → Told ops ks p a w (u j)) := fun i hi hin => by
      obtain ⟨hun, o, ho, hall⟩ := mem_ready.1 hi
      have hset : Settled ops n s o := settled_of hB hin ho hall
      obtain ⟨b, F, h, br⟩ := reach hsel hB inv hL hLn ht i (by omega)
      have hd : L.drop i = o :: L.drop (i + 1) := by
        have h1 : L[i]? = some o := by rw [hL i hin]; exact ho
        obtain ⟨hlt, he⟩ := List.getElem?_eq_some_iff.1 h1
        rw [List.drop_eq_getElem_cons hlt, he]
      rw [hd] at h
      obtain ⟨hexec, hwant⟩ := exec_agree o (Region.noSelect_spec hsel i o · · ho) (looks_agree hB inv hin ho hset br)
      have hfw := facts_of hB hin ho hset br (W := w) (fun d hm j p hj hp hpd => told_now inv hj hp (hset j p d hj hp hpd hm))
      have hcs : cnt (s.setIfInBounds i true) n = m := by
        have := cnt_set (s := s) (i := i) (by rw [inv.head.size]; omega) (getD_both hun) n hin
        omega
      exact ⟨o, ho, fun v w' hg hgood => tree_fl hsel hB hn hF hE hK hR hL hLn ht hQ m _ _ _ _ (inv_next hsel hB inv hin ho hi hg hgood) hcs, b, hexec.symm ▸ rfl, hwant.symm ▸ rfl, F, hfw, h, fun d hm j p hj hp hpd => told_now inv hj hp (hset j p d hj hp hpd hm)⟩
    rcases float_turn hF hE inv.head hn hi0 (getD_in hs0 hf0) with hT | ⟨hif, hir⟩
    · refine ⟨fun h => (by rw [h] at hr0; cases hr0), fun i hi => ?_⟩
      have hin : i < n := hT i hi
      obtain ⟨o, ho, next, b, hexec, hwant, F, hfw, h, htold⟩ := one i hi hin
      unfold tree at h
      unfold wpOp
      simp only [ho]
      by_cases hw : Region.wanted o (yielded ops b.tmps) = true
      · rw [if_pos hw] at h
        rw [hwant] at hw
        rw [if_pos hw]
        refine .inl ?_
        have hgd : ∀ v w', (match kindOf ks o with
            | .none => ∃ W, Rel.Grow w0 W ∧ (∀ d, d ∈ o.looksAt ops → ∀ j p, j < n → ops[j]? = some p → p.dst = some d → Told ops ks p a W (u j)) ∧ (execOp a.eval o).run P W = .ok (.value v) W
            | .some (.const c) => v = c
            | .some (.any V _) => V v w') → Good P ops n ks w0 u o a w' v := fun v w' hx => by
          unfold Good
          rw [if_pos hw]
          exact hx
        cases hkd : kindOf ks o with
        | none =>
          rw [hkd] at h
          obtain ⟨_, v, hv, _⟩ := h
          have hrun := hv w inv.grow hfw
          rw [hexec] at hrun
          unfold Oper.wp
          rw [hrun]
          exact next v w (Step.refl _ _) (hgd v w (by
            rw [hkd]
            exact ⟨w, inv.grow, htold, hrun⟩))
        | some kd =>
          rw [hkd] at h
          cases kd with
          | const c =>
            have hr := h.1 w inv.grow hfw
            unfold stepAt at hr
            rw [hexec] at hr
            exact wp_of_rel hr (fun v w' hg hv => next v w' hg (hgd v w' (by rw [hkd]; exact hv)))
          | any V hV =>
            have hr := h.1 w inv.grow hfw
            unfold stepAt at hr
            rw [hexec] at hr
            exact wp_of_rel hr (fun v w' hg hv => next v w' hg (hgd v w' (by rw [hkd]; exact hv)))
      · rw [hwant] at hw
        rw [if_neg hw]
        exact next undef w (Step.refl _ _) (by unfold Good; rw [if_neg hw])
    · obtain ⟨o, ho, next, b, hexec, hwant, F, hfw, h, htold⟩ := one i0 hir hi0
      have hfl := List.all_eq_true.1 hF i0 hif
      rw [ho] at hfl
      simp only [Bool.and_eq_true, decide_eq_true_eq] at hfl
      obtain ⟨⟨_, hfree⟩, hplain, _⟩ := hfl
      obtain ⟨x, hx⟩ : ∃ x, o.dst = some x := Option.isSome_iff_exists.1 (by simp only [plainOp, Bool.and_eq_true] at hplain; exact hplain.1)
      unfold tree at h
      have fin : ∀ v, Yields P ops o v a → wpAny P md ops R (m + g) (s.setIfInBounds i0 true) (a.put o.dst v) w → wpAny P md ops R (m + g + 1) s a w := fun v hy hn' =>
        wpAny_take ho hsel (free_all inv.head hir hfree) (List.contains_iff_mem.2 hir) (by rw [hx]; exact fun c a w => hR c a w x v) hy hn'
      by_cases hw : Region.wanted o (yielded ops b.tmps) = true
      · rw [if_pos hw] at h
        rw [hwant] at hw
        cases hkd : kindOf ks o with
        | none =>
          rw [hkd] at h
          obtain ⟨_, v, hv, _⟩ := h
          have hrun := hv w inv.grow hfw
          rw [hexec] at hrun
          exact fin v (.inl ⟨hw, plain_run hplain hrun⟩) (next v w (Step.refl _ _) (by
            unfold Good
            rw [if_pos hw, hkd]
            exact ⟨w, inv.grow, htold, hrun⟩))
        | some kd =>
          exfalso
          have h1 := List.all_eq_true.1 hK i0 hif
          rw [ho] at h1
          simp only [hkd] at h1
          cases h1
      · rw [hwant] at hw
        exact fin undef (.inr ⟨by simpa using hw, rfl⟩) (next undef w (Step.refl _ _) (by unfold Good; rw [if_neg hw]))
/-- The region's law. -/
theorem wp_region_fl {id : Nat} {Q : Exit → Act → World → Prop} {a : Act} {w : World} {l : List Oper} (n : Nat) (fl : List Nat) (ks : List (Tmp × Kind)) (hm : P.follows .mixedOrders = true) (hB : okF .any l.toArray n fl = true) (hK : kindB l.toArray ks fl = true)
    (hR : ∀ c a w x v, Q (.panic c) (a.put (some x) v) w → Q (.panic c) a w)
    (h : tree P l.toArray ks w.drew (fun a' W => wpList P l.toArray Q (l.drop n) a' W) (l.take n) bare a) : (Code.region id l.toArray true).wp P Q a w := by
  simp only [okF, Bool.and_eq_true, decide_eq_true_eq] at hB
  obtain ⟨⟨⟨⟨⟨hsel, hhead⟩, hn⟩, hF⟩, hE⟩, hseq⟩ := hB
  have hnl : n ≤ l.length := by simpa using hn
  have inv0 : Inv P l.toArray .any n ks w.drew a (Array.replicate l.toArray.size false) a w.drew (fun _ => undef) :=
    ⟨⟨by simp, fun j oj _ hl => (by rw [getD_replicate_false] at hl; cases hl), fun t _ ht => getD_in (by simpa using ht) (getD_replicate_false _ _)⟩, Rel.Grow.refl _, rfl, rfl, fun _ _ => rfl, fun j o d _ _ hl => (by rw [getD_replicate_false] at hl; cases hl), fun j o _ _ hl => (by rw [getD_replicate_false] at hl; cases hl)⟩
  have hc : ∀ m, cnt (Array.replicate l.toArray.size false) m = m := fun m => by
    induction m with
    | zero => rfl
    | succ m ih => rw [cnt, ih, getD_replicate_false]; rfl
  refine wp_region_any hm ?_
  have hdl : (l.drop n).length = l.toArray.size - n := by simp
  have := tree_fl (g := l.toArray.size - n) (R := Q) hsel hhead hn hF hE hK hR (L := l.take n) (fun j hj => by simp [hj]) (by simp; omega) h (fun a' w' hq => by
    have h2 := wpAny_of_seq (md := .any) (Q' := Q) (l.drop n) n (canon n l.toArray.size) a' w' (fun j => by simp [List.getElem?_drop]) (by rw [hdl]; exact hseq) hq
    rwa [hdl] at h2) n _ _ _ _ inv0 (hc n)
  rw [show n + (l.toArray.size - n) = l.toArray.size by omega] at this
  exact this
end
end RelG
end Go.Proofs.YtpakdcgcgekcfaaDoor

/-
  Words for drawn regions that make a mode: a new block, a tuple's parts.
-/
namespace Go.Proofs.YtpakdcgcgekcfaaDoor
open Go.RowKit

/-- A tuple's part. -/
def cV (v : Value) (i : Nat) : Value := match v with
  | .tuple vs => vs.getD i undef
  | _ => undef
theorem exec_extract {P : Program} {o : Oper} {a : Act} {W : World} (x : Operand) (i : Nat) (ho : o.op = .extract x i) (v : Value) (hx : a.eval x = v) (h : ∃ vs y, v = .tuple vs ∧ vs[i]? = some y) : (execOp a.eval o).run P W = .ok (.value (cV v i)) W := by
  obtain ⟨vs, y, rfl, hy⟩ := h
  unfold execOp
  simp only [ho, hx]
  rw [Sem.run_bind]
  simp [Instr.extract, hy, cV, Result.andThen, Array.getD_eq_getD_getElem?]
namespace Aes
open Otp R1 Fuse Sha
/-- A block for a mode that was just made. -/
def NewM (B : Nat) (ZM : Array Value) (v : Value) (W : World) : Prop := ∃ g, v = .pointer (some ⟨g, 0, none⟩) ∧ B ≤ g ∧ Blk W g 96 ZM
theorem NewM.grow {B : Nat} {ZM : Array Value} : ∀ v W W', Rel.Grow W W' → NewM B ZM v W → NewM B ZM v W' := fun _ _ _ h ⟨g, h1, h2, h3⟩ => ⟨g, h1, h2, h3.next h rfl⟩
theorem rel_newM {o : Oper} {a : Act} {B : Nat} {W : World} {ZM : Array Value} (hZ : Tryd.zeroCells96 = ZM) (ho : o.op = .alloc 96) (hB : B ≤ W.heap.size) : RelG.relAt Tryd.prog o a W (NewM B ZM) := by
  subst hZ
  have hz := Tryd.zeroValue96
  have hs := Tryd.sizeOf96
  unfold RelG.relAt execOp
  simp only [ho]
  go_simp
  exact ⟨Rel.Grow.alloc _ _, W.heap.size, rfl, hB, Blk.new _ _ _⟩
/-- A mode, and no error. -/
def MnV (m : Md) (v : Value) (W : World) : Prop := ∃ A L c, v = .tuple #[.agg (mV A L c m).toArray, .int .i64 0] ∧ KeyV W W.heap.size m.key A L c
theorem MnV.grow {m : Md} : ∀ v W W', Rel.Grow W W' → MnV m v W → MnV m v W' := fun _ _ _ h ⟨A, L, c, h1, h2⟩ => ⟨A, L, c, h1, h2.next h⟩
theorem MnV.part {m : Md} {v : Value} {W : World} (h : MnV m v W) : (∃ vs y, v = .tuple vs ∧ vs[0]? = some y) ∧ ∃ vs y, v = .tuple vs ∧ vs[1]? = some y := by
  obtain ⟨A, L, c, rfl, _⟩ := h
  exact ⟨⟨_, _, rfl, rfl⟩, ⟨_, _, rfl, rfl⟩⟩
theorem mnv_call {f : FuncId} {args : Array Value} {W : World} {m : Md} (h : Calls Tryd.prog f args W (MnOut W m)) : Calls Tryd.prog f args W (fun e w'' => ∃ v, e = .returned v ∧ Rel.Grow W w'' ∧ MnV m v w'') :=
  Calls.mono h fun _ _ ⟨A, L, c, he, hk, hB⟩ => ⟨_, he, hB, A, L, c, rfl, hk⟩
theorem u8_no (z : Int) (l : List Nat) : ∀ v, v ∈ (l.map fun x => Value.int .u8 ((x : Nat) : Int)) → v = Value.int .u32 z → False := fun v h e => by
  obtain ⟨_, _, hx⟩ := List.mem_map.1 h
  rw [e] at hx
  cases hx
theorem app_no {v : Value} {z : Int} {a b : List Value} (ha : v ∈ a → v = Value.int .u32 z → False) (hb : v ∈ b → v = Value.int .u32 z → False) : v ∈ a ++ b → v = Value.int .u32 z → False := fun h e => (List.mem_append.1 h).elim (fun h => ha h e) (fun h => hb h e)
theorem cons_no {v x : Value} {z : Int} {a : List Value} (hx : x ≠ Value.int .u32 z) (ha : v ∈ a → v = Value.int .u32 z → False) : v ∈ x :: a → v = Value.int .u32 z → False := fun h e => (List.mem_cons.1 h).elim (fun h => hx (h ▸ e)) (fun h => ha h e)
theorem zM_no (z : Int) : ∀ v, v ∈ zM → v = Value.int .u32 z → False := fun v => by
  rw [zM, mC, zK, mT]
  exact app_no (app_no (cons_no (by simp) (u8_no z _ v)) (u8_no z _ v)) (cons_no (by simp) (cons_no (by simp) (u8_no z _ v)))
theorem KeyV.apart {W : World} {B g : Nat} {key : List Nat} {A : Option Addr} {L c : Nat} {ZM : Array Value} (h : KeyV W B key A L c) (hZ : zM.toArray = ZM) (hb : Blk W g 96 ZM) : ∀ ad : Addr, A = some ad → ad.block ∉ [g] := fun ad had hx => by
  have hl : 0 < ((kWords key).map wd).length := by rw [List.length_map]; have := h.good.count.2; omega
  have hn := h.nats
  generalize (kWords key).map wd = l at *
  obtain ⟨_, b, off, h1, h2, h3⟩ := hn 0 l[0] (List.getElem?_eq_getElem hl)
  rw [had] at h1
  cases h1
  simp only [List.mem_singleton] at hx
  subst hx
  rw [hb.cell, ← hZ, List.getElem?_toArray] at h3
  exact zM_no _ _ (List.mem_of_getElem? h3) rfl
end Aes
end Go.Proofs.YtpakdcgcgekcfaaDoor

/-
  SlotCiphers.
-/
namespace Go.Proofs.YtpakdcgcgekcfaaDoor
open Go.RowKit

namespace Slot
open Otp R1 Sha Aes
def s3 (key : List Nat) : Slt := newSt.put 3 (3, key)
theorem lay_three (key : List Nat) : layE newSt 3 3 = 0 ∧ laySt newSt 3 3 key = s3 key := by
  have h : layE newSt 3 3 = 0 := by
    unfold layE
    have h1 : mayE newSt [3] = 0 := mayE_in (s := newSt) rfl (i := 3) (by decide)
    have h2 : kindE newSt 3 = 0 := newSt_kind 3 (by decide)
    rw [h1, h2, if_neg (by decide), if_neg (by decide), if_neg (by decide), if_neg (by decide)]
  exact ⟨h, by unfold laySt; rw [h]; rfl⟩
theorem s3_keyE (key : List Nat) (h : Int) : keyE (s3 key) h = if h < 0 ∨ 7 < h then 1 else if h = 3 then 0 else 3 := by
  have hk : kindE (s3 key) h = if h = ((3 : Nat) : Int) then 3 else kindE newSt h := kindE_put newSt_ok rfl (by decide) _ _
  have hm : mayE (s3 key) [h] = if 0 ≤ h ∧ h < 8 then 0 else 1 := by
    rw [s3, mayE_put]
    unfold mayE
    rw [if_neg (by decide)]
    by_cases hh : 0 ≤ h ∧ h < 8
    · rw [if_pos hh, if_pos (by simp [inR_t hh.1 hh.2])]
    · rw [if_neg hh, if_neg (by simp [inR_f hh])]
  unfold keyE
  by_cases hh : 0 ≤ h ∧ h < 8
  · have hm' : mayE (s3 key) [h] = 0 := by rw [hm, if_pos hh]
    rw [hm']
    by_cases h3 : h = 3
    · have hk' : kindE (s3 key) h = 3 := by rw [hk, if_pos (by omega)]
      rw [hk']
      subst h3
      decide
    · have hk' : kindE (s3 key) h = 0 := by
        have := newSt_kind h.toNat (by omega)
        rw [Int.toNat_of_nonneg hh.1] at this
        rw [hk, if_neg (by omega), this]
      rw [hk', if_neg (by decide), if_pos rfl, if_neg (by omega), if_neg h3]
  · have hm' : mayE (s3 key) [h] = 1 := by rw [hm, if_neg hh]
    rw [hm', if_pos (by decide), if_pos (by omega)]
theorem s3_keyOf (key : List Nat) : keyOf (s3 key) 3 = key := by
  have := keyOf_put newSt_ok (i := 3) (by decide) (3, key) 3
  rw [if_pos rfl] at this
  exact this
theorem cipher_any (g : Nat) (s : Slt) (h kind : Int) (back : Bool) (st : List Nat) (PA : Option Addr) (n pc : Nat) (p : List Nat) (w : World) (hS : Sl w g s) (hw : wfI h) (hkb : keyE s h = 0 → ∀ x ∈ keyOf s h, x < 256)
    (hs : st.length = 16) (hsb : ∀ x ∈ st, x < 256) (hpl : p.length = n) (hnm : n ≤ 1000000) (hpc : n ≤ pc) (hz : Nats .u8 256 w w.heap.size PA p) :
    Calls Tryd.prog 48 #[.pointer (some ⟨g, 0, none⟩), .int .i64 h, .int .i64 kind, .bool back, .agg (b8 st), .slice PA n pc] w (CipOut w (ciO (keyE s h) (keyOf s h) kind back st p) (ciE (keyE s h) kind p.length)) :=
  cipher_of _ h kind back st PA n pc p _ _ w (fun W hB => key_any g s h W (hS.old hB) hw) hkb hs hsb hpl hnm hpc hz
/-- The law's blocks. -/
structure Cb (W : World) (gK gS g : Nat) (key st : List Nat) (w : World) : Prop where
  kk : Blk w gK 23 (b8 key)
  ks : Blk w gS 90 (b8 st)
  sl : Sl w g (s3 key)
  bel : Below W.heap.size W w
theorem Cb.old {W : World} {gK gS g : Nat} {key st : List Nat} {w w' : World} (h : Cb W gK gS g key st w) (hb : Below w.heap.size w w') : Cb W gK gS g key st w' := ⟨h.kk.next hb rfl, h.ks.next hb rfl, h.sl.old hb, below_then h.bel hb (Nat.le_refl _)⟩
set_option maxRecDepth 100000 in
set_option maxHeartbeats 4000000 in
theorem ciphers_any (key : List Nat) (h kind : Int) (back : Bool) (st : List Nat) (A : Option Addr) (n c : Nat) (p : List Nat) (w : World) (hT : STab w) (hkl : key.length = 32) (hkb : ∀ x ∈ key, x < 256) (hsl : st.length = 16) (hsb : ∀ x ∈ st, x < 256) (hh : wfI h) (hpn : p.length = n) (hnm : n ≤ maxLen) (hz : Nats .u8 256 w w.heap.size A p) :
    Calls Tryd.prog 14 #[.agg (b8 key), .int .i64 h, .int .i64 kind, .bool back, .agg (b8 st), .slice A n c] w (TrueBelow w) := by
  have HT := wall hT
  have HZ := wall hz
  have HPN := wall (And.intro hpn hnm)
  have HSK := wall (show (Tryd.prog.info? 23).map (·.size) = some (b8 key).size by rw [b8_size, hkl]; exact dig_info)
  have HSB := wall (show (Tryd.prog.info? 90).map (·.size) = some (b8 st).size by rw [b8_size, hsl]; exact blk_info16)
  have HKL := wall (And.intro hkl hkb)
  have HSL := wall (And.intro hsl hsb)
  have HH := wall hh
  obtain ⟨w1, hw1⟩ : ∃ W, W = (w.alloc (.cells (b8 key) 23)).alloc (.cells (b8 st) 90) := ⟨_, rfl⟩
  have HW := wall hw1
  have HB1 := wall (show Below w.heap.size w w1 by rw [hw1]; exact ((Below.refl _ w).alloc (Nat.le_refl _) _).alloc (by simp) _)
  have HK1 := wall (show Blk w1 w.heap.size 23 (b8 key) by rw [hw1]; exact (Blk.new _ _ _).alloc _)
  have HS1 := wall (show Blk w1 (w.heap.size + 1) 90 (b8 st) by rw [hw1]; exact blk_new' (by simp))
  clear hw1 hT hz hkl hkb hsl hsb hh hpn hnm
  go_enter Tryd.func14, Tryd.ntmps14
  go_upto_region 1 with fail
  rw [← HW.out]
  clear HW
  go_wp2_with fail
  (with_reducible refine (awake_any _ (HT.out.old HB1.out)).mono ?_); rintro e w2 ⟨rfl, hB2⟩
  have HK2 := wall (HK1.out.next hB2 rfl)
  have HS2 := wall (HS1.out.next hB2 rfl)
  have HB2 := wall (below_then HB1.out hB2 (Nat.le_refl _))
  clear hB2 HK1 HS1 HB1
  go_wp2_with fail
  (with_reducible refine (cut_any A n c p 64 64 w2 HPN.out.1 HPN.out.2 rfl (by decide) ((HZ.out.below HB2.out).more HB2.out.size)).mono ?_); rintro e w3 ⟨v3, rfl, hO3, hB3⟩
  have hpb : ∀ x ∈ p.take 64, x < 256 := fun x hx => by
    obtain ⟨i, hi⟩ := List.mem_iff_getElem?.1 (List.mem_of_mem_take hx)
    exact (HZ.out i x hi).1
  have hpl64 : (p.take 64).length ≤ 64 := by rw [List.length_take]; omega
  obtain ⟨p', hp'⟩ : ∃ x, p.take 64 = x := ⟨_, rfl⟩
  rw [hp'] at hO3 hpb hpl64
  obtain ⟨A3, c3, rfl, hc3, hN3, -⟩ := own_nats hO3 hpb
  obtain ⟨n', hn'⟩ : ∃ x, p'.length = x := ⟨_, rfl⟩
  rw [hn'] at hc3 hpl64 ⊢
  have HN3 := wall hN3
  have HPB := wall hpb
  have HPL := wall hn'
  have HK3 := wall (HK2.out.next hB3 rfl)
  have HS3 := wall (HS2.out.next hB3 rfl)
  have HB3 := wall (below_then HB2.out hB3 (Nat.le_refl _))
  clear hB3 HK2 HS2 HB2 hO3 hN3 hp' hpb hn'
  go_wp2_with fail
  (with_reducible refine (snew_out _).mono ?_); rintro e w4 ⟨rfl, hS4, hB4⟩
  have HK4 := wall (HK3.out.next hB4 rfl)
  have HS4 := wall (HS3.out.next hB4 rfl)
  have HB4 := wall (below_then HB3.out hB4 (Nat.le_refl _))
  have HN4 := wall ((HN3.out.below hB4))
  have HL4 := wall hS4
  have hg3 : w.heap.size + 1 < w3.heap.size := HS3.out.lt
  clear hB4 HK3 HS3 HB3 HN3 hS4
  obtain ⟨g, hg⟩ : ∃ x, w3.heap.size = x := ⟨_, rfl⟩
  rw [hg] at HL4 hg3 HN4 ⊢
  go_wp2_with (refine wpList_load_row rfl 23 _ rfl w.heap.size rfl 23 (b8 key) (0, 0) _ HK4.out Tryd.underlying23 rfl HSK.out ?_)
  (with_reducible refine (lay_any g newSt 3 3 key w4 HL4.out (wfI_small (by decide) (by decide)) HKL.out.1 HKL.out.2).mono ?_); rintro e w5 ⟨rfl, hS5, hF5⟩
  rw [(lay_three key).2] at hS5
  have HC5 := wall (show Cb w w.heap.size (w.heap.size + 1) g key st w5 from ⟨HK4.out.frm hF5 (by simp; omega), HS4.out.frm hF5 (by simp; omega), hS5, Below.frm HB4.out hF5 (Nat.le_refl _) (fun x hx => by simp at hx; omega)⟩)
  have HN5 := wall (show Nats .u8 256 w5 w5.heap.size A3 p' from (show Nats .u8 256 w5 g A3 p' from Nats.frm (B := g) (S := [g]) HN4.out hF5 (Nat.le_of_lt HL4.out.lt) (fun x hx => by simp at hx; omega)).more (by have := HL4.out.lt; have := hF5.size; omega))
  have HCA := wall (fun W (h : Cb w w.heap.size (w.heap.size + 1) g key st W) (q : Nats .u8 256 W W.heap.size A3 p') => show Calls Tryd.prog 48 #[.pointer (some ⟨g, 0, none⟩), .int .i64 3, .int .i64 kind, .bool back, .agg (b8 st), .slice A3 n' c3] W (CipOut W (ciO 0 key kind back st p') (ciE 0 kind p'.length)) by
    have := cipher_any g (s3 key) 3 kind back st A3 n' c3 p' W h.sl (wfI_small (by decide) (by decide)) (fun _ => by rw [s3_keyOf]; exact HKL.out.2) HSL.out.1 HSL.out.2 HPL.out (by omega) hc3 q
    rw [s3_keyOf, show keyE (s3 key) 3 = 0 by rw [s3_keyE]; decide] at this
    exact this)
  have HCH := wall (fun W (q : Cb w w.heap.size (w.heap.size + 1) g key st W) => show Calls Tryd.prog 48 #[.pointer (some ⟨g, 0, none⟩), .int .i64 h, .int .i64 0, .bool back, .agg (b8 st), .slice none 0 0] W (fun e w' => ∃ v, e = .returned (.tuple #[v, .int .i64 (keyE (s3 key) h : Int)]) ∧ Below W.heap.size W w') from
    Calls.mono (cipher_any g (s3 key) h 0 back st none 0 0 [] W q.sl HH.out (fun h0 => by
      have : h = 3 := by
        rw [s3_keyE] at h0
        by_cases a : h < 0 ∨ 7 < h
        · rw [if_pos a] at h0; cases h0
        · rw [if_neg a] at h0
          by_cases b : h = 3
          · exact b
          · rw [if_neg b] at h0; cases h0
      rw [this, s3_keyOf]
      exact HKL.out.2) HSL.out.1 HSL.out.2 rfl (by decide) (Nat.le_refl _) (fun i z hz => by simp at hz)) fun e w' ⟨v, h1, _, h3⟩ => ⟨v, by
        rw [h1]
        congr 3
        unfold ciE
        by_cases a : keyE (s3 key) h = 0
        · rw [if_neg (by simpa using a), if_neg (by simp), a]
        · rw [if_pos a], h3⟩)
  have HKE := wall (s3_keyE key h)
  generalize keyE (s3 key) h = E2 at *
  have HKN := wall (fun W (q : Cb w w.heap.size (w.heap.size + 1) g key st W) => show Nats .u8 256 W W.heap.size (some ⟨w.heap.size, 0, none⟩) key from nats_b8 q.kk HKL.out.2)
  have HEE := wall (show ciE 0 kind p'.length = if kind < 0 ∨ 2 < kind ∨ n' % 16 ≠ 0 then 1 else 0 by rw [ciE, if_neg (by simp), HPL.out])
  have HXX := wall (show ciO 0 key kind back st p' = if kind < 0 ∨ 2 < kind ∨ n' % 16 ≠ 0 then [] else (runM (ciM key kind back st) p' (n' / 16)).2 by
    rw [ciO, HEE.out, HPL.out]
    by_cases a : kind < 0 ∨ 2 < kind ∨ n' % 16 ≠ 0
    · rw [if_pos a, if_pos a]; rfl
    · rw [if_neg a, if_neg a]; rfl)
  generalize ciE 0 kind p'.length = E at *
  generalize ciO 0 key kind back st p' = X at *
  clear hS5 hF5 HK4 HS4 HB4 HN4 HL4 hg
  go_wp2_with (refine wpList_load_row rfl 90 _ rfl (w.heap.size + 1) rfl 90 (b8 st) (0, 0) _ HC5.out.ks Tryd.underlying90 rfl HSB.out ?_)
  (with_reducible refine (HCA.out _ HC5.out HN5.out).mono ?_); rintro e w6 ⟨v14, rfl, hO6, hB6⟩
  have HC6 := wall (HC5.out.old hB6)
  have HN6 := wall ((HN5.out.below hB6).more hB6.size)
  have HO6 := wall hO6
  clear hO6 hB6 HC5 HN5 HCA
  have HMF := wall (fun A L c (m : Md) (h : m.v.length = 16) => m2f A L c h)
  have HZF := wall zM_f
  have HZ0 := wall zM_eq.symm
  obtain ⟨ZM, hZM⟩ : ∃ x, zM.toArray = x := ⟨_, rfl⟩
  obtain ⟨ZL, hZL⟩ : ∃ x, zM = x := ⟨_, rfl⟩
  have HZL := wall (show ZL.toArray = ZM by rw [← hZL]; exact hZM)
  have HZZ := wall hZM
  rw [hZM] at HMF HZ0
  rw [hZM, hZL] at HZF
  have HRZ := wall (fun W (q : Nats .u8 256 W W.heap.size A3 p') (hd : n' % 16 = 0) => show Calls Tryd.prog 56 #[.agg ZM, .slice A3 n' c3] W (fun e w' => ∃ v, e = .returned (.tuple #[.agg ZM, v, .int .i64 0]) ∧ Below W.heap.size W w') by
    have := run_zero A3 n' (n' / 16) c3 p' W HPL.out (by omega) (by omega) hc3 q
    rw [hZM] at this
    exact Calls.mono this fun e w' ⟨v, h1, _, h3⟩ => ⟨v, by rw [h1, hZM], h3⟩)
  have HRY := wall (fun W (hd : n' % 16 ≠ 0) => show Calls Tryd.prog 56 #[.agg ZM, .slice A3 n' c3] W (fun e w' => e = .returned (.tuple #[.agg ZM, .slice none 0 0, .int .i64 1]) ∧ Below W.heap.size W w') by
    have := run_badg zM zM_f A3 n' c3 W hd (by simp only [maxLen]; omega)
    rw [hZM] at this
    exact Calls.mono this fun e w' ⟨h1, h2⟩ => ⟨by rw [h1, hZM], h2⟩)
  have hs44 := run_slice_arr_all' (P := Tryd.prog) 23 5 32 Tryd.underlying23 (fun _ => by kernel_rfl) w.heap.size 0 (by decide)
  have HSLC := wall hs44
  clear hs44 hZM hZL
  have HOL := wall (show ∀ x ∈ X, x < 256 from by
    intro x hx
    rw [HXX.out] at hx
    by_cases a : kind < 0 ∨ 2 < kind ∨ n' % 16 ≠ 0
    · rw [if_pos a] at hx; cases hx
    · rw [if_neg a] at hx
      exact (runM_ok (ciM_ok HKL.out.1 HKL.out.2 (by omega) (by omega) HSL.out.1 HSL.out.2) HPB.out (n' / 16) (by have := HPL.out; omega)).2.2.2.2.2 x hx)
  have HXL := wall (show X.length ≤ maxLen from by
    rw [HXX.out]
    by_cases a : kind < 0 ∨ 2 < kind ∨ n' % 16 ≠ 0
    · rw [if_pos a]; decide
    · rw [if_neg a, (runM_ok (ciM_ok HKL.out.1 HKL.out.2 (by omega) (by omega) HSL.out.1 HSL.out.2) HPB.out (n' / 16) (by have := HPL.out; omega)).2.2.2.2.1]
      simp only [maxLen]
      omega)
  obtain ⟨A14, c14, rfl, hc14, hn14, -⟩ := own_nats HO6.out HOL.out
  have HN14 := wall hn14
  clear hn14 HO6
  by_cases hbad : kind < 0 ∨ 2 < kind
  · have hE := HEE.out
    have hX := HXX.out
    rw [if_pos (by omega)] at hE hX
    subst hE
    have HEQ := wall hX
    have HCN := wall (fun W (q : Cb w w.heap.size (w.heap.size + 1) g key st W) => show Calls Tryd.prog 55 #[.int .i64 kind, .bool back, .slice (some ⟨w.heap.size, 0, none⟩) 32 32, .agg (b8 st)] W (fun e w' => e = .returned (.tuple #[.agg ZM, .int .i64 1]) ∧ Below W.heap.size W w') by
      rw [← HZZ.out]
      exact mnew_badkind _ 32 32 key kind back st W ⟨.inr HKL.out.1, HKL.out.2⟩ HKL.out.1.symm (HKN.out W q) hbad HSL.out.1)
    have HQ := wall (show (Tryd.prog.info? 96).map (·.size) = some ZM.size ∧ ZM.all (·.oneCell') = true by have h := HZF.out; rw [M2F, HZL.out] at h; exact ⟨h.1, h.2.2⟩)
    clear hbad HEE HXX hX
    go_upto_region 7 with fail
    refine RelG.wp_region_fl 9 [7] [(46, .const (.tuple #[.agg ZM, .int .i64 1])), (16, .any (NewM w6.drew.heap.size ZM) NewM.grow)] (by kernel_rfl) (by kernel_rfl) rfl (fun _ _ _ _ _ h => h) ?_
    simp only [List.take_succ_cons, List.take_zero, List.drop_succ_cons, List.drop_zero, Act.put, List.setIfInBounds_toArray, List.set_cons_zero, List.set_cons_succ]
    (refine RelG.tree_quiet rfl rfl rfl (fun K hK => ?_); go_big_quiet_op; refine hK _ ?_; clear hK K)
    (refine RelG.tree_quiet rfl rfl rfl (fun K hK => ?_); go_big_quiet_op; refine hK _ ?_; clear hK K)
    refine RelG.tree_pure rfl rfl rfl (.slice (some ⟨w.heap.size, 0, none⟩) 32 32) (fun W hW _ => Rel.exec_slice _ _ _ _ rfl _ (HSLC.out W)) ?_
    simp only [Act.put, List.setIfInBounds_toArray, List.set_cons_zero, List.set_cons_succ]
    refine RelG.tree_pure rfl rfl rfl (.agg (b8 st)) (fun W hW _ => Rel.exec_load _ _ rfl (w.heap.size + 1) 0 rfl _ _ (Blk.range (hW.blk HC6.out.ks.drew)) Tryd.underlying90 rfl HSB.out) ?_
    simp only [Act.put, List.setIfInBounds_toArray, List.set_cons_zero, List.set_cons_succ]
    refine RelG.tree_const rfl (.tuple #[.agg ZM, .int .i64 1]) rfl (fun W hW _ => ?_) ?_
    · have hq := HC6.out.old hW.undrew
      unfold RelG.relAt; go_simp; show Calls _ _ _ _ _
      exact const_call (HCN.out W hq)
    simp only [Act.put, List.setIfInBounds_toArray, List.set_cons_zero, List.set_cons_succ]
    (refine RelG.tree_quiet rfl rfl rfl (fun K hK => ?_); go_big_quiet_op; refine hK _ ?_; clear hK K)
    (refine RelG.tree_quiet rfl rfl rfl (fun K hK => ?_); go_big_quiet_op; refine hK _ ?_; clear hK K)
    (refine RelG.tree_quiet rfl rfl rfl (fun K hK => ?_); go_big_quiet_op; refine hK _ ?_; clear hK K)
    refine RelG.tree_rel rfl (NewM w6.drew.heap.size ZM) NewM.grow rfl (fun W hW _ => rel_newM HZ0.out rfl (Below.size hW)) (fun v16 => ?_)
    simp only [Act.put, List.setIfInBounds_toArray, List.set_cons_zero, List.set_cons_succ]
    intro W hW hF
    obtain ⟨gz, rfl, hgz, KZ⟩ : NewM w6.drew.heap.size ZM v16 W := hF 16
    have HKZ := wall KZ
    have hgz6 : w6.heap.size ≤ gz := hgz
    have HBW := wall (show Below w6.heap.size w6 W from hW.undrew)
    clear hW hF KZ
    go_upto_region 8 with (refine wpList_set_row rfl 96 (.tmp 16) (.tmp 47) rfl gz ZM rfl rfl 96 ZM HKZ.out HQ.out.1 rfl HQ.out.2 ?_; intro w7 K7 F7)
    have HB7 := wall (show Below w6.heap.size w6 w7 from Below.frm HBW.out F7.out (Nat.le_refl _) (fun x hx => by simp at hx; omega))
    have HK7 := wall K7.out
    clear K7 F7 HBW HKZ
    have hcall : Calls Tryd.prog 56 #[.agg ZM, .slice A3 n' c3] w7 (fun e w' => ∃ (v : Value) (y : Int), e = .returned (.tuple #[.agg ZM, v, .int .i64 y]) ∧ Below w7.heap.size w7 w') := by
      by_cases h16 : n' % 16 = 0
      · exact Calls.mono (HRZ.out w7 ((HN6.out.below HB7.out).more HB7.out.size) h16) fun e w' ⟨v, h1, h2⟩ => ⟨v, 0, h1, h2⟩
      · exact Calls.mono (HRY.out w7 h16) fun e w' ⟨h1, h2⟩ => ⟨_, 1, h1, h2⟩
    have HCALL := wall hcall
    clear hcall HRZ HRY
    go_wp2_with (refine wpList_load_row rfl 96 _ rfl gz rfl 96 ZM (0, 0) _ HK7.out Tryd.underlying96 rfl HQ.out.1 ?_)
    (with_reducible refine (HCALL.out).mono ?_); rintro e wr ⟨vr, yr, rfl, hBr⟩
    have HBr := wall (show Below w6.heap.size w6 wr from HB7.out.trans (hBr.mono HB7.out.size))
    clear hBr HCALL HB7 HK7
    go_upto_region 9 with (refine wpList_new_row rfl 96 (.tmp 18) (.tmp 53) rfl wr.heap.size ZM rfl rfl 96 ZM (by rw [← HZ0.out]; exact Blk.new _ _ _) HQ.out.1 rfl HQ.out.2 wr.heap.size wr ((Below.refl _ wr).alloc (Nat.le_refl _) _) (Nat.le_refl _) ?_; intro w8 K8 B8)
    have HB8 := wall (show Below w6.heap.size w6 w8 from HBr.out.trans (B8.out.mono HBr.out.size))
    have HCC := wall (HC6.out.old HB8.out)
    replace HN14 := wall ((HN14.out.below HB8.out).more HB8.out.size)
    have HNW := wall (show Nats .u8 256 w8 w8.heap.size none [] from fun i z hz => by simp at hz)
    clear K8 B8 HBr HC6 HN6 HB8
    go_wp2_with fail
    (with_reducible refine (same_any A14 none X.length 0 c14 0 X [] true w8 _ _ rfl rfl HXL.out (by decide) HN14.out HNW.out (by simp [HEQ.out])).mono ?_)
    rintro e w9 ⟨rfl, k9, rfl⟩
    have HC9 := wall (HCC.out.old (below_drewN (Below.refl _ _) k9))
    clear HCC HN14 HNW
    go_wp2_with (refine wpList_load_row rfl 90 _ rfl (w.heap.size + 1) rfl 90 (b8 st) (0, 0) _ HC9.out.ks Tryd.underlying90 rfl HSB.out ?_)
    (with_reducible refine (HCH.out _ HC9.out).mono ?_)
    rintro e w10 ⟨v21, rfl, hB10⟩
    have HB10 := wall (below_then HC9.out.bel hB10 (Nat.le_refl _))
    clear hB10 HC9 HCH
    have h2 := HKE.out
    by_cases k1 : h < 0
    · rw [if_pos (.inl k1)] at h2
      subst h2
      go_wp2_with fail
      go_light
      go_ret
      exact ⟨rfl, HB10.out⟩
    by_cases k2 : 7 < h
    · rw [if_pos (.inr k2)] at h2
      subst h2
      go_wp2_with fail
      go_light
      go_ret
      exact ⟨rfl, HB10.out⟩
    rw [if_neg (by omega)] at h2
    by_cases k3 : h = 3
    · rw [if_pos k3] at h2
      subst h2
      subst k3
      go_wp2_with fail
      go_light
      go_ret
      exact ⟨rfl, HB10.out⟩
    rw [if_neg k3] at h2
    subst h2
    have k4 : (h != 3) = true := by rw [bne_iff_ne]; exact k3
    go_wp2_with fail
    go_light
    go_ret
    exact ⟨rfl, HB10.out⟩
  · have hkd : 0 ≤ kind ∧ kind ≤ 2 := by omega
    have hok : (ciM key kind back st).Ok := ciM_ok HKL.out.1 HKL.out.2 (by omega) (by omega) HSL.out.1 HSL.out.2
    have hkk : kind = ((ciM key kind back st).kind : Nat) := by show kind = (kind.toNat : Int); omega
    have HCN := wall (fun W (q : Cb w w.heap.size (w.heap.size + 1) g key st W) => show Calls Tryd.prog 55 #[.int .i64 kind, .bool back, .slice (some ⟨w.heap.size, 0, none⟩) 32 32, .agg (b8 st)] W (MnOut W (ciM key kind back st)) from
      mnew_any _ 32 32 kind (ciM key kind back st) W hok hkk HKL.out.1.symm (HKN.out W q))
    have hX := HXX.out
    have hE := HEE.out
    obtain ⟨m, hm⟩ : ∃ m, ciM key kind back st = m := ⟨_, rfl⟩
    rw [hm] at HCN hok hX
    have HOK := wall hok
    have HIX := wall hX
    have HIE := wall hE
    clear hkk hm hok hkd hX hE HXX HEE HRZ HRY
    go_upto_region 7 with fail
    refine RelG.wp_region_fl 9 [7] [(46, .any (MnV m) MnV.grow), (41, .any (MnV m) MnV.grow), (16, .any (NewM w6.drew.heap.size ZM) NewM.grow)] (by kernel_rfl) (by kernel_rfl) rfl (fun _ _ _ _ _ h => h) ?_
    simp only [List.take_succ_cons, List.take_zero, List.drop_succ_cons, List.drop_zero, Act.put, List.setIfInBounds_toArray, List.set_cons_zero, List.set_cons_succ]
    (refine RelG.tree_quiet rfl rfl rfl (fun K hK => ?_); go_big_quiet_op; refine hK _ ?_; clear hK K)
    (refine RelG.tree_quiet rfl rfl rfl (fun K hK => ?_); go_big_quiet_op; refine hK _ ?_; clear hK K)
    refine RelG.tree_pure rfl rfl rfl (.slice (some ⟨w.heap.size, 0, none⟩) 32 32) (fun W hW _ => Rel.exec_slice _ _ _ _ rfl _ (HSLC.out W)) ?_
    simp only [Act.put, List.setIfInBounds_toArray, List.set_cons_zero, List.set_cons_succ]
    refine RelG.tree_pure rfl rfl rfl (.agg (b8 st)) (fun W hW _ => Rel.exec_load _ _ rfl (w.heap.size + 1) 0 rfl _ _ (Blk.range (hW.blk HC6.out.ks.drew)) Tryd.underlying90 rfl HSB.out) ?_
    simp only [Act.put, List.setIfInBounds_toArray, List.set_cons_zero, List.set_cons_succ]
    refine RelG.tree_rel rfl (MnV m) MnV.grow rfl (fun W hW _ => ?_) (fun v46 => ?_)
    · have hq := HC6.out.old hW.undrew
      unfold RelG.relAt; go_simp; show Calls _ _ _ _ _
      exact mnv_call (HCN.out W hq)
    simp only [Act.put, List.setIfInBounds_toArray, List.set_cons_zero, List.set_cons_succ]
    refine RelG.tree_rel rfl (MnV m) MnV.grow rfl (fun W hW hF => ?_) (fun v41 => ?_)
    · have hf : MnV m v46 W := hF 46 (by decide)
      clear hF
      unfold RelG.relAt
      go_simp
      exact ⟨Rel.Grow.refl _, hf⟩
    simp only [Act.put, List.setIfInBounds_toArray, List.set_cons_zero, List.set_cons_succ]
    refine RelG.tree_pure rfl rfl rfl (cV v41 0) (fun W hW hF => exec_extract _ _ rfl v41 rfl ((show MnV m v41 W from hF 41 (by decide)).part.1)) ?_
    simp only [Act.put, List.setIfInBounds_toArray, List.set_cons_zero, List.set_cons_succ]
    refine RelG.tree_pure rfl rfl rfl (cV v41 1) (fun W hW hF => exec_extract _ _ rfl v41 rfl ((show MnV m v41 W from hF 41 (by decide)).part.2)) ?_
    simp only [Act.put, List.setIfInBounds_toArray, List.set_cons_zero, List.set_cons_succ]
    refine RelG.tree_rel rfl (NewM w6.drew.heap.size ZM) NewM.grow rfl (fun W hW _ => rel_newM HZ0.out rfl (Below.size hW)) (fun v16 => ?_)
    simp only [Act.put, List.setIfInBounds_toArray, List.set_cons_zero, List.set_cons_succ]
    intro W hW hF
    obtain ⟨gz, rfl, hgz, KZ⟩ : NewM w6.drew.heap.size ZM v16 W := hF 16
    obtain ⟨MA, L, Mc, rfl, hkv⟩ : MnV m v41 W := hF 41
    have HM1 := wall (HMF.out MA L Mc m HOK.out.len)
    have hkv6 : KeyV W W.heap.size m.key MA L Mc := hkv
    have HRN := wall (fun W' (q : Nats .u8 256 W' W'.heap.size A3 p') (k : KeyV W' W'.heap.size m.key MA L Mc) (hd : n' % 16 = 0) => run_any MA L Mc m A3 n' (n' / 16) c3 p' W' HOK.out k HPL.out (by omega) (by omega) hc3 q)
    have HRB := wall (fun W' (hd : n' % 16 ≠ 0) => run_bad MA L Mc m A3 n' c3 W' HOK.out.len hd (by simp only [maxLen]; omega))
    have HRO := wall (fun (hd : n' % 16 = 0) => HMF.out MA L Mc (runM m p' (n' / 16)).1 (runM_ok HOK.out HPB.out (n' / 16) (by have := HPL.out; omega)).1.len)
    unfold RunOut at HRN
    unfold RunBad at HRB
    obtain ⟨CL, hCL⟩ : ∃ x, mV MA L Mc m = x := ⟨_, rfl⟩
    rw [hCL] at HM1 HRN HRB ⊢
    have e0 : cV (.tuple #[.agg CL.toArray, .int .i64 0]) 0 = .agg CL.toArray := rfl
    have e1 : cV (.tuple #[.agg CL.toArray, .int .i64 0]) 1 = .int .i64 0 := rfl
    rw [e0, e1]
    have hgz6 : w6.heap.size ≤ gz := hgz
    have HBW := wall (show Below w6.heap.size w6 W from hW.undrew)
    have HKV := wall hkv6
    have HKZ := wall KZ
    have HA := wall (show ∀ ad : Addr, MA = some ad → ad.block ∉ [gz] from hkv6.apart HZZ.out KZ)
    clear hW hF KZ e0 e1 hkv hkv6 hgz HCN
    go_upto_region 8 with (refine wpList_set_row rfl 96 (.tmp 16) (.tmp 47) rfl gz CL.toArray rfl rfl 96 ZM HKZ.out HM1.out.1 HM1.out.2.1 HM1.out.2.2 ?_; intro w7 K7 F7)
    have HB7 := wall (show Below w6.heap.size w6 w7 from Below.frm HBW.out F7.out (Nat.le_refl _) (fun x hx => by simp at hx; omega))
    have HKV7 := wall ((HKV.out.other (Nat.le_refl _) F7.out HA.out).more F7.out.size)
    have HK7 := wall K7.out
    have hn7 : Nats .u8 256 w7 w7.heap.size A3 p' := (HN6.out.below HB7.out).more HB7.out.size
    have hcall : ∃ CQ : List Value, M2F ZM CQ ∧ Calls Tryd.prog 56 #[.agg CL.toArray, .slice A3 n' c3] w7 (fun e w' => ∃ (AW : Option Addr) (cW : Nat), e = .returned (.tuple #[.agg CQ.toArray, .slice AW X.length cW, .int .i64 (E : Int)]) ∧ Nats .u8 256 w' w'.heap.size AW X ∧ Below w7.heap.size w7 w') := by
      have hx := HIX.out
      have he := HIE.out
      by_cases h16 : n' % 16 = 0
      · rw [if_neg (by omega)] at hx he
        refine ⟨_, HRO.out h16, Calls.mono (HRN.out w7 hn7 HKV7.out h16) fun e w' ⟨v, h1, h2, h3⟩ => ?_⟩
        rw [← hx] at h2
        obtain ⟨AW, cW, rfl, _, hN, _⟩ := own_nats h2 HOL.out
        exact ⟨AW, cW, by rw [h1, he]; rfl, hN, h3⟩
      · rw [if_pos (by omega)] at hx he
        refine ⟨CL, HM1.out, Calls.mono (HRB.out w7 h16) fun e w' ⟨h1, h2⟩ => ⟨none, 0, by rw [h1, hx, he]; rfl, by rw [hx]; exact fun i z hz => by simp at hz, h2⟩⟩
    obtain ⟨CQ, hq, hcall⟩ := hcall
    have HCALL := wall hcall
    have HQ := wall hq
    clear hcall hq HRN HRB HRO K7 F7 HBW HKZ HKV HKV7 hn7 HA
    go_wp2_with (refine wpList_load_row rfl 96 _ rfl gz rfl 96 CL.toArray (0, 0) _ HK7.out Tryd.underlying96 rfl HM1.out.1 ?_)
    (with_reducible refine (HCALL.out).mono ?_); rintro e wr ⟨AW, cW, rfl, hNr, hBr⟩
    have HBr := wall (show Below w6.heap.size w6 wr from HB7.out.trans (hBr.mono HB7.out.size))
    have HNr := wall hNr
    clear hBr HCALL HB7 HK7 hNr
    go_upto_region 9 with (refine wpList_new_row rfl 96 (.tmp 18) (.tmp 53) rfl wr.heap.size CQ.toArray rfl rfl 96 ZM (by rw [← HZ0.out]; exact Blk.new _ _ _) HQ.out.1 HQ.out.2.1 HQ.out.2.2 wr.heap.size wr ((Below.refl _ wr).alloc (Nat.le_refl _) _) (Nat.le_refl _) ?_; intro w8 K8 B8)
    have HB8 := wall (show Below w6.heap.size w6 w8 from HBr.out.trans (B8.out.mono HBr.out.size))
    have HCC := wall (HC6.out.old HB8.out)
    replace HN14 := wall ((HN14.out.below HB8.out).more HB8.out.size)
    have HNW := wall ((HNr.out.below B8.out).more B8.out.size)
    have HEQ := wall (show X = X from rfl)
    clear K8 B8 HBr HC6 HN6 HB8 HNr HIX HIE
    go_wp2_with fail
    (with_reducible refine (same_any A14 AW X.length X.length c14 cW X X true w8 _ _ rfl rfl HXL.out HXL.out HN14.out HNW.out (by simp)).mono ?_)
    rintro e w9 ⟨rfl, k9, rfl⟩
    have HC9 := wall (HCC.out.old (below_drewN (Below.refl _ _) k9))
    clear HCC HN14 HNW
    go_wp2_with (refine wpList_load_row rfl 90 _ rfl (w.heap.size + 1) rfl 90 (b8 st) (0, 0) _ HC9.out.ks Tryd.underlying90 rfl HSB.out ?_)
    (with_reducible refine (HCH.out _ HC9.out).mono ?_)
    rintro e w10 ⟨v21, rfl, hB10⟩
    have HB10 := wall (below_then HC9.out.bel hB10 (Nat.le_refl _))
    clear hB10 HC9 HCH
    have h2 := HKE.out
    by_cases k1 : h < 0
    · rw [if_pos (.inl k1)] at h2
      subst h2
      go_wp2_with fail
      go_light
      go_ret
      exact ⟨rfl, HB10.out⟩
    by_cases k2 : 7 < h
    · rw [if_pos (.inr k2)] at h2
      subst h2
      go_wp2_with fail
      go_light
      go_ret
      exact ⟨rfl, HB10.out⟩
    rw [if_neg (by omega)] at h2
    by_cases k3 : h = 3
    · rw [if_pos k3] at h2
      subst h2
      subst k3
      go_wp2_with fail
      go_light
      go_ret
      exact ⟨rfl, HB10.out⟩
    rw [if_neg k3] at h2
    subst h2
    have k4 : (h != 3) = true := by rw [bne_iff_ne]; exact k3
    go_wp2_with fail
    go_light
    go_ret
    exact ⟨rfl, HB10.out⟩
theorem ciphers_frame (zk : List Int) (h kind : Int) (back : Bool) (zs : List Int) (A : Option Addr) (n c : Nat) (p : List Nat) (w : World) (hT : STab w) (hkl : zk.length = 32) (hkb : ∀ z ∈ zk, (Lit.int .u8 z).wf = true) (hsl : zs.length = 16) (hsb : ∀ z ∈ zs, (Lit.int .u8 z).wf = true)
    (hh : (Lit.int .i64 h).wf = true) (hpn : p.length = n) (hnm : n ≤ maxLen) (hz : Nats .u8 256 w w.heap.size A p) :
    Calls Tryd.prog 14 #[.agg (zk.map (Value.int .u8)).toArray, .int .i64 h, .int .i64 kind, .bool back, .agg (zs.map (Value.int .u8)).toArray, .slice A n c] w (TrueBelow w) := by
  obtain ⟨h1, h2⟩ := u8_ints zk hkb
  obtain ⟨h3, h4⟩ := u8_ints zs hsb
  rw [h1, h3]
  exact ciphers_any _ h kind back _ A n c p w hT (by rw [List.length_map]; exact hkl) h2 (by rw [List.length_map]; exact hsl) h4 hh hpn hnm hz
end Slot
end Go.Proofs.YtpakdcgcgekcfaaDoor
