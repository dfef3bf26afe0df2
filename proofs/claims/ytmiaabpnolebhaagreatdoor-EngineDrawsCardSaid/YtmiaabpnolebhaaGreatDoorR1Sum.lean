/-
  The reference's Sum of a text (curtilageref01).
-/
import Derived.Test.YtmiaabpnolebhaaGreatDoorJ003a3f69
import Derived.Test.YtmiaabpnolebhaaGreatDoorJ9976b4a4
set_option linter.unusedSimpArgs false
set_option linter.unusedVariables false
namespace Go.Proofs.YtmiaabpnolebhaaGreatDoor
open Go.RowKit

namespace Sha
open Otp R1
theorem b8_set (l : List Nat) (i y : Nat) : (b8 l).setIfInBounds i (.int .u8 (y : Int)) = b8 (l.set i y) := by
  unfold b8
  rw [List.map_set]
  simp
set_option maxRecDepth 100000 in
set_option maxHeartbeats 8000000 in
theorem rsum_any (A : Option Addr) (len cap : Nat) (l : List Nat) (w : World) (hl : l.length = len) (hm : len ≤ 900000) (hz : Nats .u8 256 w w.heap.size A l) :
    Calls Tryz.prog 20 #[.slice A len cap] w (fun e w' => e = .returned (.agg (b8 (sumB l))) ∧ Below w.heap.size w w') := by
  obtain ⟨i0, hi0, hz0, hz1, hz2⟩ := info_row u8_info
  have HI := wall hi0
  have HI1 := wall hz0
  have HI2 := wall hz1
  have HI3 := wall hz2
  obtain ⟨m, hmm⟩ : ∃ m, (119 - len % 64) % 64 = m := ⟨_, rfl⟩
  have hm64 : m < 64 := by rw [← hmm]; exact Nat.mod_lt _ (by decide)
  obtain ⟨T, hT⟩ : ∃ T, l ++ padB len = T := ⟨_, rfl⟩
  obtain ⟨hs, hhs⟩ : ∃ h, stH T = h := ⟨_, rfl⟩
  have HPB := wall (show (l ++ [128] ++ List.replicate m 0) ++ numB (8 * len) 8 = T by rw [← hT]; unfold padB; rw [hmm]; simp)
  have HTL := wall (show T.length = len + 9 + m by rw [← HPB.out]; simp [numB_length, hl]; omega)
  have HLB := wall (show ∀ x ∈ l, x < 256 from fun x hx => by
    obtain ⟨i, hi⟩ := List.mem_iff_getElem?.1 hx
    exact (hz i x hi).1)
  have HTB := wall (show ∀ x ∈ T, x < 256 by
    rw [← hT]
    intro x hx
    rcases List.mem_append.1 hx with h | h
    · exact HLB.out x h
    · exact padB_byte _ x h)
  have HSB := wall (show sumB l = wordsB hs by rw [← hhs, ← hT, ← hl]; rfl)
  have HHL := wall (show hs.length = 8 by rw [← hhs]; exact stH_length T)
  have HHW := wall (show ∀ x ∈ hs, x < 4294967296 by rw [← hhs]; exact stH_word T)
  have HHS := wall hhs
  have HCUT := wall (fun W (h : Nats .u8 256 W W.heap.size A l) => cut_any A len cap l (len : Int) len W hl (by simp only [maxLen]; omega) rfl (by omega) h)
  rw [List.take_of_length_le (by omega)] at HCUT
  have HL := wall hl
  have HM := wall hmm
  have HN := wall hz
  clear hi0 hz0 hz1 hz2 hmm hT hhs hl hz
  go_enter Tryz.func20, Tryz.ntmps20
  obtain ⟨W1, hW1⟩ : ∃ W, W = w.alloc (.cells (b8 (List.replicate 32 0)) 23) := ⟨_, rfl⟩
  have K0 := wall (show Blk W1 w.heap.size 23 (b8 (List.replicate 32 0)) by rw [hW1]; exact Blk.new _ _ _)
  have HB := wall (show Below w.heap.size w W1 by rw [hW1]; exact (Below.refl _ w).alloc (Nat.le_refl _) _)
  have HW1 := wall hW1
  clear hW1
  go_upto_region 1 with fail
  change Code.wp _ _ _ _ (w.alloc (.cells (b8 (List.replicate 32 0)) 23))
  rw [← HW1.out]
  clear HW1
  go_wp2_with fail
  (with_reducible refine (HCUT.out _ ((HN.out.below HB.out).more HB.out.size)).mono ?_); rintro e w2 ⟨v2, rfl, hO2, hB2⟩
  have K2 := wall (K0.out.next hB2 rfl)
  have HB2 := wall (below_then HB.out hB2 (Nat.le_refl _))
  have hW1s := K0.out.lt
  have HO2 : Wall (OwnB w2 (w.heap.size + 1) v2 l) := wall ⟨hO2.1, hO2.2.imp id (fun ⟨g, c, u, h1, h2, h3⟩ => ⟨g, c, u, h1, by omega, h3⟩)⟩
  have h2s : w.heap.size + 1 ≤ w2.heap.size := K2.out.lt
  clear hO2 hB2 K0 HB HCUT HN
  go_upto_region 3 with (at_builtin; refine wpList_append_byte rfl (.tmp 17) (.tmp 18) rfl (w.heap.size + 1) _ l rfl HO2.out 128 rfl (by have := HL.out; omega) h2s ?_)
  intro v3 w3 hO3 hB3
  have HO3 := wall hO3
  have K3 := wall (K2.out.below hB3 (Nat.lt_succ_self _))
  have HB3 := wall (HB2.out.trans (hB3.mono (Nat.le_succ _)))
  clear hO3 hB3 K2 HB2 HO2
  go_wp2_with fail
  go_loopg [0] m (fun g s0 wr => ∃ j : Nat, j + g = m ∧ Wall (OwnB wr (w.heap.size + 1) s0 (l ++ [128] ++ List.replicate j 0)) ∧ Wall (Blk wr w.heap.size 23 (b8 (List.replicate 32 0))) ∧ Wall (Below w.heap.size w wr))
  case atStart => exact ⟨0, by omega, wall (by rw [List.replicate_zero, List.append_nil]; exact HO3.out), K3, HB3⟩
  case round =>
    clear HO3 K3 HB3
    obtain ⟨j, hg, HO, K, HB⟩ := hrel
    have HG := wall hg
    have hj : j ≤ m := by omega
    clear hg
    obtain ⟨cur, hcur⟩ : ∃ c, l ++ [128] ++ List.replicate j 0 = c := ⟨_, rfl⟩
    have HCL := wall (show cur.length = len + 1 + j by rw [← hcur]; simp [HL.out]; omega)
    have HCB := wall (show ∀ x ∈ cur, x < 256 by
      rw [← hcur]
      intro x hx
      simp only [List.mem_append, List.mem_cons, List.not_mem_nil, or_false, List.mem_replicate] at hx
      rcases hx with (h | h) | h
      · exact HLB.out x h
      · omega
      · omega)
    have HCU := wall hcur
    rw [hcur] at HO
    clear hcur
    obtain ⟨A2, c2, rfl, hc2, HN2, _⟩ := own_nats HO.out HCB.out
    replace HN2 := wall HN2
    have hcl : cur.length = len + 1 + j := HCL.out
    rw [hcl] at HO hc2 ⊢
    have hwl := K.out.lt
    clear hcl
    by_cases hlt : j < m
    · have hne : (((len : Int) + 1 + (j : Int)) % 64 != 56) = true := by
        have := HM.out
        rw [bne_iff_ne]
        omega
      go_wp2_with (at_builtin; refine wpList_append_byte rfl (.tmp 24) (.tmp 25) rfl (w.heap.size + 1) _ cur rfl HO.out 0 rfl (by have := HCL.out; omega) hwl ?_)
      intro v4 w4 hO4 hB4
      have HO4 := wall hO4
      have K4 := wall (K.out.below hB4 (Nat.lt_succ_self _))
      have HB4 := wall (HB.out.trans (hB4.mono (Nat.le_succ _)))
      clear hO4 hB4 K HB HO
      go_wp2_with fail
      go_light
      go_roundg (m - (j + 1))
      case measure => have := HG.out; omega
      case rel =>
        refine ⟨j + 1, by omega, wall ?_, K4, HB4⟩
        rw [List.replicate_succ', ← List.append_assoc, HCU.out]
        exact HO4.out
    · have hjm : j = m := by omega
      subst hjm
      have hne : (((len : Int) + 1 + (j : Int)) % 64 != 56) = false := by
        have := HM.out
        rw [bne_eq_false_iff_eq]
        omega
      have hn8 : (len : Int) ≤ 900000 := by omega
      have HNU := wall (fun W => num_any (8 * (len : Int)) 8 (8 * len) 8 W rfl (by simp) (by omega) (by decide))
      have HNB := wall (numB_byte (8 * len) 8)
      have HNL := wall (numB_length (8 * len) 8)
      obtain ⟨nb, hnb⟩ : ∃ x, numB (8 * len) 8 = x := ⟨_, rfl⟩
      rw [HCU.out] at HPB
      rw [hnb] at HNU HNB HNL HPB
      clear hnb
      obtain ⟨gO, rfl⟩ : ∃ q : Nat, q = gk := ⟨_, rfl⟩
      obtain ⟨wO, rfl⟩ : ∃ q : World, q = wr := ⟨_, rfl⟩
      go_wp2_with fail
      (with_reducible refine (HNU.out _).mono ?_); rintro e w5 ⟨v5, rfl, hO5, hB5⟩
      obtain ⟨A5, c5, rfl, hc5, hN5, _⟩ := own_nats hO5 HNB.out
      have HNI5 := wall (own_nil hO5)
      have HN5 := wall hN5
      rw [HNL.out]
      have K5 := wall (K.out.next hB5 rfl)
      have HB5 := wall (below_then HB.out hB5 (Nat.le_refl _))
      have HO5 := wall (own_frm HO.out (Frm.of_below (S := []) hB5) (by simp))
      have h5s : w.heap.size + 1 ≤ w5.heap.size := K5.out.lt
      clear hO5 hN5 hB5 K HB HO HNU hc5
      go_wp2_with (at_builtin; refine wpList_append_bytes rfl (.tmp 27) (.tmp 30) rfl (w.heap.size + 1) _ cur rfl HO5.out A5 8 c5 nb rfl HNL.out ⟨_, HN5.out⟩ HNI5.out (by have := HCL.out; omega) h5s ?_)
      intro v6 w6 hO6 hB6
      rw [HPB.out] at hO6
      obtain ⟨A6, c6, rfl, hc6, hN6, _⟩ := own_nats hO6 HTB.out
      have HN6 := wall hN6
      have K6 := wall (K5.out.below hB6 (Nat.lt_succ_self _))
      have HB6 := wall (HB5.out.trans (hB6.mono (Nat.le_succ _)))
      have hTl : T.length = len + 9 + j := HTL.out
      rw [hTl] at hc6 hO6 ⊢
      clear hO6 hN6 hB6 K5 HB5 HO5 HN5 HNI5 hTl
      have HSR := wall (show (Tryz.prog.info? 72).map (·.size) = some (c32 rH).size from h_info)
      have h6s : w.heap.size + 1 ≤ w6.heap.size := K6.out.lt
      go_upto_region 7 with (refine wpList_new_row rfl 72 (.tmp 4) (.tmp 32) rfl w6.heap.size (c32 rH) rfl rfl 72 (c32 (List.replicate 8 0)) (Blk.new _ _ _) HSR.out rfl (c32_one rH) w6.heap.size w6 ((Below.refl _ w6).alloc (Nat.le_refl _) _) (Nat.le_refl _) ?_; intro w7 K7 hB7)
      replace K7 := wall K7.out
      have KD := wall (K6.out.next hB7 rfl)
      have HB7 := wall (below_then HB6.out hB7 (Nat.le_refl _))
      have HN7 := wall (nats_step HN6.out hB7)
      have hg6 : ∀ ad, A6 = some ad → ad.block < w6.heap.size := fun ad h => by
        obtain ⟨z, hz⟩ : ∃ z, T[0]? = some z := ⟨_, List.getElem?_eq_getElem (by have := HTL.out; omega)⟩
        obtain ⟨_, b, off, h1, h2, _⟩ := HN6.out 0 z hz
        rw [h] at h1
        cases h1
        exact h2
      have HN7' := wall (show Nats .u8 256 w7 w6.heap.size A6 T from HN6.out.below hB7)
      clear hB7 K6 HB6 HN6 HSR HN7 hg6
      generalize w6.heap.size = g6 at *
      obtain ⟨L, hLe⟩ : ∃ L, len + 9 + j = L := ⟨_, rfl⟩
      have HLL := wall (show T.length = L by rw [HTL.out]; exact hLe)
      have HL64 := wall (show L % 64 = 0 by have := HM.out; omega)
      have hL9 : L ≤ 1000000 := by omega
      rw [hLe] at hc6 ⊢
      clear HTL hLe HM hne HPB HNL HNB HCL HCB HCU HN2
      obtain ⟨gP, rfl⟩ : ∃ q : Nat, q = gO := ⟨_, rfl⟩
      go_wp2_with fail
      go_loopg [5] L (fun g s5 wr => ∃ (k : Nat) (z : Int), 64 * k + g = L ∧ Wall (z = 64 * (k : Int)) ∧ 0 ≤ z ∧ z ≤ (L : Int) ∧ s5 = .int .i64 z ∧ Wall (Blk wr w.heap.size 23 (b8 (List.replicate 32 0))) ∧ Wall (Blk wr g6 72 (c32 (hb T k))) ∧ Wall (Nats .u8 256 wr g6 A6 T) ∧ Wall (Below w.heap.size w wr))
      case atStart => exact ⟨0, 0, by omega, wall rfl, by decide, by omega, rfl, KD, K7, HN7', HB7⟩
      case round =>
        clear KD K7 HN7' HB7
        obtain ⟨k, z, hg, HZ, hz0, hzL, rfl, KD, K7, HN, HB⟩ := hrel
        have HG := wall hg
        have hk : 64 * k ≤ L := by omega
        clear hg
        by_cases hlt : 64 * k < L
        · have hk2 : 64 * k + 64 ≤ L := by have := HL64.out; omega
          have hzl : z < (L : Int) := by have := HZ.out; omega
          have hsl := run_slice_lh1 (P := Tryz.prog) 24 5 Tryz.underlying24 (fun _ => by kernel_rfl) A6 L c6 (64 * k) (64 * k + 64) .i64 .i64 z (z + 64) (by have := HZ.out; omega) (by have := HZ.out; omega) (by omega) (by omega)
          rw [show 64 * k + 64 - 64 * k = 64 by omega] at hsl
          have HNS := wall (show Nats .u8 256 wr g6 (slA A6 (64 * k) c6) ((T.drop (64 * k)).take 64) from nats_take (nats_slA HN.out (by rw [HLL.out]; exact hc6)) 64)
          have HBL := wall (show ((T.drop (64 * k)).take 64).length = 64 by rw [List.length_take, List.length_drop, HLL.out]; omega)
          generalize slA A6 (64 * k) c6 = A8 at *
          obtain ⟨bs, hbs⟩ : ∃ b, (T.drop (64 * k)).take 64 = b := ⟨_, rfl⟩
          obtain ⟨hk1, hhk⟩ : ∃ h, hb T k = h := ⟨_, rfl⟩
          obtain ⟨hk2', hhk2⟩ : ∃ h, hb T (k + 1) = h := ⟨_, rfl⟩
          have HPE := wall (show press hk1 bs = hk2' by rw [← hhk2, hb, hhk, hbs])
          have HKL := wall (show hk1.length = 8 by rw [← hhk]; exact hb_length T k)
          have HKL2 := wall (show hk2'.length = 8 by rw [← hhk2]; exact hb_length T _)
          have HKW := wall (show ∀ x ∈ hk1, x < 4294967296 by rw [← hhk]; exact hb_word T k)
          have HK2 := wall hhk2
          rw [hbs] at HNS HBL
          rw [hhk] at K7
          have HSW := wall (show (Tryz.prog.info? 72).map (·.size) = some (c32 hk1).size by rw [c32_size, HKL.out]; exact h_info)
          have HSW2 := wall (show (Tryz.prog.info? 72).map (·.size) = some (c32 hk2').size by rw [c32_size, HKL2.out]; exact h_info)
          have HZW := wall (show (c32 hk1).size = (c32 hk2').size by rw [c32_size, c32_size, HKL.out, HKL2.out])
          have hwz : IntKind.i64.wrap (z + 64) = z + 64 := IntWalk.i64_in _ (by omega)
          clear hbs hhk hhk2
          go_wp2_with fail
          refine Rel.wp_region_rel 7 [(45, .const (.agg (c32 hk2')))] (by kernel_rfl) (by kernel_rfl) ?_
          simp only [List.take_succ_cons, List.take_zero, List.drop_succ_cons, List.drop_zero]
          refine Rel.tree_pure rfl rfl rfl (.agg (c32 hk1)) (fun W hW _ => Rel.exec_load _ _ rfl g6 0 rfl _ _ (Blk.range (hW.blk K7.out.drew)) Tryz.underlying72 rfl HSW.out) ?_
          simp only [Act.put, List.setIfInBounds_toArray, List.set_cons_zero, List.set_cons_succ]
          repeat (refine Rel.tree_quiet rfl rfl rfl (fun K hK => ?_); go_big_quiet_op; refine hK _ ?_; clear hK K)
          refine Rel.tree_const rfl (.agg (c32 hk2')) rfl (fun W hW _ => ?_) ?_
          · unfold Rel.relAt; go_simp; show Calls _ _ _ _ _
            have h := rpress_any hk1 bs A8 (c6 - 64 * k) W HKL.out HKW.out HBL.out (by omega) ((HNS.out.below (hW.undrew.mono (Nat.le_of_lt K7.out.lt))).more (Nat.le_trans (Nat.le_of_lt K7.out.lt) hW.undrew.size))
            rw [HPE.out] at h
            exact const_call h
          simp only [Act.put, List.setIfInBounds_toArray, List.set_cons_zero, List.set_cons_succ]
          intro W hW _
          have KD2 := wall (hW.blk KD.out.drew)
          have K72 := wall (hW.blk K7.out.drew)
          have HN2 := wall (HN.out.below (hW.undrew.mono (Nat.le_of_lt K7.out.lt)))
          have HB2 := wall (below_then HB.out hW.undrew (Nat.le_refl _))
          clear hW KD K7 HN HB hsl
          go_wp2_with (refine wpList_store_row rfl 72 (.tmp 4) _ rfl g6 (c32 hk2') rfl rfl 72 (c32 hk1) K72.out HSW2.out HZW.out (c32_one _) ?_)
          go_light
          go_roundg (L - 64 * (k + 1))
          case measure => have := HG.out; omega
          case rel =>
            have F := frm_setRow (g := g6) W (c32 hk2')
            refine ⟨k + 1, _, by omega, wall ?_, ?_, ?_, rfl, wall ?_, wall ?_, wall ?_, wall ?_⟩
            · have := HZ.out; omega
            · omega
            · have := HZ.out; omega
            · exact KD2.out.frm F (by simp; omega)
            · rw [HK2.out]; exact setRow_heap _ _ _ _ _ _ K72.out
            · exact HN2.out.frm F (Nat.le_of_lt K72.out.lt) (by simp)
            · exact below_setRow HB2.out (by omega) _
        · have hzL' : ¬ z < (L : Int) := by have := HZ.out; omega
          have HKH := wall (show hb T k = hs by rw [← HHS.out, stH, HLL.out, show L / 64 = k by have := HL64.out; omega])
          rw [HKH.out] at K7
          clear HZ hk hlt HN
          obtain ⟨gQ, rfl⟩ : ∃ q : Nat, q = gk := ⟨_, rfl⟩
          obtain ⟨wQ, rfl⟩ : ∃ q : World, q = wr := ⟨_, rfl⟩
          have HSW := wall (show (Tryz.prog.info? 72).map (·.size) = some (c32 hs).size by rw [c32_size, HHL.out]; exact h_info)
          go_upto_region 12 with fail
          change Code.wp _ _ _ _ (wQ.alloc (.cells (b8 (List.replicate 32 0)) 23))
          have hgs : g6 < wQ.heap.size := K7.out.lt
          have KR := wall (KD.out.alloc (.cells (b8 (List.replicate 32 0)) 23))
          have KH := wall (K7.out.alloc (.cells (b8 (List.replicate 32 0)) 23))
          have KN := wall (Blk.new wQ 23 (b8 (List.replicate 32 0)))
          have HB8 := wall (HB.out.alloc HB.out.size (.cells (b8 (List.replicate 32 0)) 23))
          generalize wQ.alloc (.cells (b8 (List.replicate 32 0)) 23) = w8 at *
          generalize wQ.heap.size = gD at *
          clear KD K7 HB HG
          go_wp2_with (refine wpList_load_row rfl 72 _ rfl g6 rfl 72 (c32 hs) (0, 0) _ KH.out Tryz.underlying72 rfl HSW.out ?_)
          go_loopg [47] 8 (fun g s47 wr => ∃ i : Nat, i + g = 8 ∧ s47 = .int .i64 (i : Int) ∧ Wall (Blk wr w.heap.size 23 (b8 (List.replicate 32 0))) ∧ Wall (Blk wr gD 23 (b8 (wordsB (hs.take i) ++ List.replicate (32 - 4 * i) 0))) ∧ Wall (Below w.heap.size w wr))
          case atStart => exact ⟨0, by omega, rfl, KR, KN, HB8⟩
          case round =>
            clear KR KN HB8 KH
            obtain ⟨i, hg, rfl, KR, KN, HB⟩ := hrel
            have HG := wall hg
            have hi : i ≤ 8 := by omega
            clear hg
            by_cases hlt : i < 8
            · obtain ⟨x, hx⟩ : ∃ x, hs[i]? = some x := ⟨_, List.getElem?_eq_getElem (by have := HHL.out; omega)⟩
              have hxM := HHW.out x (List.mem_of_getElem? hx)
              have hix := run_index_arr (P := Tryz.prog) 72 52 8 Tryz.underlying72 (fun _ => by kernel_rfl) (fun _ => by kernel_rfl) (c32 hs) .i64 (i : Int) i rfl hlt _ (c32_at hx)
              have HNX := wall (show wordsB (hs.take (i + 1)) = wordsB (hs.take i) ++ numB x 4 by rw [take_snoc hx, wordsB_snoc])
              have HNU := wall (fun W => num_any (x : Int) 4 x 4 W rfl rfl (by omega) (by decide))
              obtain ⟨nb4, hnb4⟩ : ∃ n, numB x 4 = n := ⟨_, rfl⟩
              have HN4 := wall (show nb4.length = 4 by rw [← hnb4]; exact numB_length _ _)
              have HN4B := wall (show ∀ y ∈ nb4, y < 256 by rw [← hnb4]; exact numB_byte _ _)
              rw [hnb4] at HNX HNU
              obtain ⟨pf, hpf⟩ : ∃ p, wordsB (hs.take i) = p := ⟨_, rfl⟩
              have HPL := wall (show pf.length = 4 * i by rw [← hpf, wordsB_length, List.length_take, HHL.out]; omega)
              rw [hpf] at KN HNX
              clear hx hnb4 hpf
              obtain ⟨gO, rfl⟩ : ∃ q : Nat, q = gk := ⟨_, rfl⟩
              obtain ⟨wO, rfl⟩ : ∃ q : World, q = wr := ⟨_, rfl⟩
              go_wp2_with fail
              (with_reducible refine (HNU.out _).mono ?_); rintro e w9 ⟨v9, rfl, hO9, hB9⟩
              obtain ⟨A9, c9, rfl, hc9, hN9, hA9⟩ := own_nats hO9 HN4B.out
              have hgd9 : gD < wO.heap.size := KN.out.lt
              have HN9 := wall (show Nats .u8 256 w9 w9.heap.size A9 nb4 from hN9)
              have HA9 := wall hA9
              rw [HN4.out]
              have KR9 := wall (KR.out.next hB9 rfl)
              have KN9 := wall (show Blk w9 gD 23 (b8 (pf ++ (nb4.take 0 ++ List.replicate (32 - 4 * i - 0) 0))) by simpa using KN.out.next hB9 rfl)
              have HB9 := wall (below_then HB.out hB9 (Nat.le_refl _))
              clear hO9 hN9 hB9 hA9 KR KN HB hix hc9 HNU
              go_wp2_with fail
              go_loopg [55] 4 (fun g s55 wr => ∃ j : Nat, j + g = 4 ∧ s55 = .int .i64 (j : Int) ∧ Wall (Nats .u8 256 wr w9.heap.size A9 nb4) ∧ Wall (Blk wr w.heap.size 23 (b8 (List.replicate 32 0))) ∧ Wall (Blk wr gD 23 (b8 (pf ++ (nb4.take j ++ List.replicate (32 - 4 * i - j) 0)))) ∧ Wall (Below w.heap.size w wr))
              case atStart => exact ⟨0, by omega, rfl, HN9, KR9, KN9, HB9⟩
              case round =>
                clear HN9 KR9 KN9 HB9
                obtain ⟨j, hg, rfl, HN, KR, KN, HB⟩ := hrel
                have HGJ := wall hg
                have hj : j ≤ 4 := by omega
                clear hg
                by_cases hjl : j < 4
                · obtain ⟨y, hy⟩ : ∃ y, nb4[j]? = some y := ⟨_, List.getElem?_eq_getElem (by have := HN4.out; omega)⟩
                  obtain ⟨hyM, bb, oo, hAe, hbb, hcy⟩ := HN.out j y hy
                  have hgdb : gD ≠ bb := by have := HA9.out _ hAe; simp at this; omega
                  have HSET := wall (show (pf ++ (nb4.take j ++ List.replicate (32 - 4 * i - j) 0)).set (4 * i + j) y = pf ++ (nb4.take (j + 1) ++ List.replicate (32 - 4 * i - (j + 1)) 0) by
                    have htl : (nb4.take j).length = j := by rw [List.length_take, HN4.out]; omega
                    rw [List.set_append_right _ _ (by rw [HPL.out]; omega), HPL.out, show 4 * i + j - 4 * i = j by omega, List.set_append_right _ _ (by omega), htl, Nat.sub_self, show 32 - 4 * i - j = 32 - 4 * i - (j + 1) + 1 by omega, List.replicate_succ, List.set_cons_zero, take_snoc hy]
                    simp)
                  have hfr : wr.frozen? ⟨gD, 4 * i + j, none⟩ = false := KN.out.frozen _
                  obtain ⟨old, hold⟩ : ∃ v, wr.cell? ⟨gD, 4 * i + j, none⟩ = some v := by
                    rw [KN.out.cell]
                    refine ⟨_, Array.getElem?_eq_getElem (i := 4 * i + j) ?_⟩
                    rw [b8_size, List.length_append, List.length_append, List.length_replicate, List.length_take, HPL.out, HN4.out]
                    omega
                  have hsz := KN.out.lt
                  subst hAe
                  have b32 : 4 * (i : Int) + (j : Int) < 32 := by omega
                  clear hy
                  go_wp2_with fail
                  go_light
                  go_roundg (4 - (j + 1))
                  case measure => have := HGJ.out; omega
                  case rel =>
                    refine ⟨j + 1, by omega, by go_num, wall ?_, wall ?_, wall ?_, wall ?_⟩
                    · exact nats_far HN.out (fun ad h => by have := HA9.out ad h; omega) _ _
                    · exact (KR.out.far' _ _ (by omega) _)
                    · have := KN.out.set (4 * i + j) (.int .u8 (y : Int))
                      rw [b8_set, HSET.out] at this
                      exact this
                    · exact HB.out.setCell (p := ⟨gD, 4 * i + j, none⟩) (by show w.heap.size ≤ gD; omega) _
                · have hj4 : j = 4 := by omega
                  have hnj : ¬ ((j : Int) < 4) := by omega
                  have KN2 := wall (show Blk wr gD 23 (b8 (wordsB (hs.take (i + 1)) ++ List.replicate (32 - 4 * (i + 1)) 0)) by
                    have := KN.out
                    rw [hj4, List.take_of_length_le (by rw [HN4.out]; omega), show 32 - 4 * i - 4 = 32 - 4 * (i + 1) by omega, ← List.append_assoc, ← HNX.out] at this
                    exact this)
                  clear KN HN hj4
                  go_wp2_with fail
                  go_light
                  go_roundg (8 - (i + 1))
                  case measure => have := HG.out; omega
                  case rel => exact ⟨i + 1, by have := HG.out; omega, by go_num, KR, KN2, HB⟩
            · have hi8 : i = 8 := by omega
              have hni : ¬ ((i : Int) < 8) := by omega
              have KN2 := wall (show Blk wr gD 23 (b8 (wordsB hs)) by
                have := KN.out
                rw [hi8, List.take_of_length_le (by rw [HHL.out]; omega), show 32 - 4 * 8 = 0 from rfl, List.replicate_zero, List.append_nil] at this
                exact this)
              have hwl2 : (wordsB hs).length = 32 := by rw [wordsB_length, HHL.out]
              have HS := wall (show (Tryz.prog.info? 23).map (·.size) = some (b8 (wordsB hs)).size by rw [b8_size, hwl2]; exact dig_info)
              have HZ := wall (show (b8 (List.replicate 32 0)).size = (b8 (wordsB hs)).size by rw [b8_size, b8_size, hwl2]; rfl)
              have HO := wall (b8_one (wordsB hs))
              clear KN hi8 hwl2 hlt
              go_wp2_with (first | refine wpList_load_row rfl 23 _ rfl gD rfl 23 (b8 (wordsB hs)) (0, 0) _ KN2.out Tryz.underlying23 rfl HS.out ?_ | refine wpList_store_row rfl 23 (.tmp 2) _ rfl w.heap.size (b8 (wordsB hs)) rfl rfl 23 (b8 (List.replicate 32 0)) KR.out HS.out HZ.out HO.out ?_)
              have hb := setRow_heap _ _ _ (b8 (wordsB hs)) _ _ KR.out
              have hB := below_setRow HB.out (Nat.le_refl _) (b8 (wordsB hs))
              go_light
              exact bodyPost_ret (v := .agg (b8 (wordsB hs))) (results_cell_row Tryz.results20 _ _ w.heap.size 23 (b8 (wordsB hs)) (0, 0) _ rfl hb Tryz.underlying23 rfl HS.out) rfl ⟨by rw [HSB.out], hB⟩
end Sha
end Go.Proofs.YtmiaabpnolebhaaGreatDoor
