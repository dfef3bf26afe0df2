/-
  Texts of this claim, joined: ModeRe, ModePt, Frame, FrameW.
-/
import Derived.Test.YtpakdcgcgekcfaaDoorJc93f929c
import Derived.Test.YtpakdcgcgekcfaaDoorJ155f9c5c
import Derived.Test.YtpakdcgcgekcfaaDoorJ4c623a78
import Derived.Test.YtpakdcgcgekcfaaDoorJ52d9bedf
import Derived.ChangeOld
import Derived.ChangeArms
import Derived.DataReads
import Derived.Deep.Slices
import Derived.ShutString
set_option linter.unusedVariables false
/-
  ModeReach.
-/
set_option linter.unusedSimpArgs false
set_option linter.unusedVariables false
namespace Go.Proofs.YtpakdcgcgekcfaaDoor
open Go.RowKit

namespace Aes
open Otp R1 Fuse Sha
/-- A block of a slice, wherever it lies. -/
theorem blk_sl (A : Option Addr) {n c i : Nat} (hc : n ≤ c) (hi : 16 * i + 16 ≤ n) :
    ∃ A' c', (∀ (z : Int) (hz : z = 16 * i) (W : World), (Instr.sliceAt 53 (.slice A n c) (some (.int .i64 z)) (some (.int .i64 (z + 16))) none).run Tryd.prog W = .ok (.slice A' 16 c') W) ∧ ∀ (W : World) (p : List Nat), p.length = n → Nats .u8 256 W W.heap.size A p → Nats .u8 256 W W.heap.size A' (blkAt p i) := by
  refine ⟨slA A (16 * i) c, c - 16 * i, fun z hz W => ?_, fun W p hp h => (nats_slA h (by omega)).take 16⟩
  have := run_slice_lh1 (P := Tryd.prog) 53 5 Tryd.underlying53 (fun _ => by kernel_rfl) A n c (16 * i) (16 * i + 16) .i64 .i64 z (z + 16) (by omega) (by omega) (by omega) (by omega) W
  rw [show 16 * i + 16 - 16 * i = 16 by omega] at this
  exact this
theorem same_bel (A B : Option Addr) (n ca cb : Nat) (x y : List Nat) (v : Bool) (W : World) (hx : x.length = n) (hy : y.length = n) (hn : n ≤ 1000000) (h1 : Nats .u8 256 W W.heap.size A x) (h2 : Nats .u8 256 W W.heap.size B y) (hv : decide (x = y) = v) :
    Calls Tryd.prog 29 #[.slice A n ca, .slice B n cb] W (fun e w' => e = .returned (.bool v) ∧ Below W.heap.size W w') :=
  (same_any A B n n ca cb x y v W W.heap.size W.heap.size hx hy (by simp only [maxLen]; omega) (by simp only [maxLen]; omega) h1 h2 hv).mono fun _ _ ⟨h, k, hk⟩ => ⟨h, by rw [hk]; exact below_drewN (Below.refl _ _) k⟩
set_option maxRecDepth 100000 in
set_option maxHeartbeats 4000000 in
theorem reach_any (k st : List Nat) (A : Option Addr) (n c : Nat) (p : List Nat) (at' tn kd : Nat) (w : World) (hkl : k.length = 32) (hkb : ∀ x ∈ k, x < 256) (hsl : st.length = 16) (hsb : ∀ x ∈ st, x < 256) (hpn : p.length = n) (hnm : n ≤ maxLen) (hz : Nats .u8 256 w w.heap.size A p) (hat : at' < 256) (htn : tn < 256) (hkd : kd < 256) :
    Calls Tryd.prog 9 #[.agg (b8 k), .agg (b8 st), .slice A n c, .int .u8 (at' : Int), .int .u8 (tn : Int), .int .u8 (kd : Int)] w (TrueBelow w) := by
  have HZ := wall hz
  have HPN := wall (And.intro hpn hnm)
  have HSB := wall (show (Tryd.prog.info? 90).map (·.size) = some (b8 st).size by rw [b8_size, hsl]; exact blk_info16)
  have HSL := wall (And.intro hsl hsb)
  have HKL := wall (And.intro hkl hkb)
  obtain ⟨w1, hw1⟩ : ∃ W, W = (w.alloc (.cells (b8 k) 22)).alloc (.cells (b8 st) 90) := ⟨_, rfl⟩
  have HW := wall hw1
  have HF := wall (show From w1 (fun W => (Below w.heap.size w W ∧ Blk W w.heap.size 22 (b8 k)) ∧ Blk W (w.heap.size + 1) 90 (b8 st)) by
    rw [hw1]
    exact ((From.below (((Below.refl _ w).alloc (Nat.le_refl _) _).alloc (by simp) _) (Nat.le_refl _)).and (From.blk ((Blk.new _ _ _).alloc _))).and (From.blk (blk_new' (by simp))))
  clear hw1 hz hpn hnm hsl hsb hkl hkb
  go_enter Tryd.func9, Tryd.ntmps9
  go_upto_region 1 with fail
  rw [← HW.out]
  clear HW
  go_wp2_with fail
  (with_reducible refine (awake_any _).mono ?_); rintro e w2 ⟨rfl, hB2⟩
  replace HF := wall (HF.out.next hB2)
  clear hB2
  go_wp2_with fail
  (with_reducible refine (whole_any A n c p 6 6 w2 HPN.out.1 HPN.out.2 rfl (by decide) ((HZ.out.below HF.out.now.1.1).more HF.out.now.1.1.size)).mono ?_); rintro e w4 ⟨v4, rfl, hO4, hB4⟩
  have hpb : ∀ x ∈ p.take (16 * min (n / 16) 6), x < 256 := cut_byte HZ.out _
  have hpl : (p.take (16 * min (n / 16) 6)).length = 16 * min (n / 16) 6 := whole_length HPN.out.1 6
  obtain ⟨nb, hnb⟩ : ∃ x, min (n / 16) 6 = x := ⟨_, rfl⟩
  have hnb6 : nb ≤ 6 := by omega
  rw [hnb] at hpb hpl hO4
  obtain ⟨p', hp'⟩ : ∃ x, p.take (16 * nb) = x := ⟨_, rfl⟩
  rw [hp'] at hpb hpl hO4
  obtain ⟨A4, c4, rfl, hc4, hA4, hN4⟩ := own_cut hO4 hpb
  rw [hpl] at hc4 ⊢
  replace HF := wall ((HF.out.next hB4).and (From.nats hN4))
  have HPL := wall (And.intro hpl hpb)
  obtain ⟨n', hn'⟩ : ∃ x, 16 * nb = x := ⟨_, rfl⟩
  have HN := wall hn'.symm
  rw [hn'] at hc4 HPL ⊢
  have HC4 := wall (And.intro hc4 hA4)
  have HNM := wall (show n' ≤ 1000 by omega)
  clear hB4 hnb hp' hO4 hN4 hpb hpl hn' hc4 hA4
  by_cases h0 : n' = 0
  · have e0 : ((n' : Int) == 0) = true := by rw [h0]; rfl
    have f0 : decide ((n' : Int) = 0) = true := by rw [h0]; rfl
    clear h0
    go_wp2_with fail
    go_light
    go_ret
    exact ⟨rfl, HF.out.now.1.1.1⟩
  · have e0 : ((n' : Int) == 0) = false := by rw [beq_eq_false_iff_ne]; omega
    have f0 : decide ((n' : Int) = 0) = false := decide_eq_false (by omega)
    obtain ⟨hw, hh⟩ : ∃ h, kd % 3 = h := ⟨_, rfl⟩
    have hm1 := (hows kd).1
    have hm2 := (hows kd).2
    rw [hh] at hm1 hm2
    have hh2 : hw ≤ 2 := by omega
    have HN0 := wall (show 0 < n' by omega)
    have hok : (⟨k, hw, false, st⟩ : Md).Ok := ⟨⟨.inr HKL.out.1, HKL.out.2⟩, hh2, HSL.out.1, HSL.out.2⟩
    obtain ⟨m, hm⟩ : ∃ m, (⟨k, hw, false, st⟩ : Md) = m := ⟨_, rfl⟩
    have HM := wall hm
    rw [hm] at hok
    have HOK := wall hok
    have HNEW := wall (fun W (q : Nats .u8 256 W W.heap.size (some ⟨w.heap.size, 0, none⟩) k) => show Calls Tryd.prog 55 #[.int .i64 (hw : Int), .bool false, .slice (some ⟨w.heap.size, 0, none⟩) 32 32, .agg (b8 st)] W (MnOut W m) from by
      have := mnew_any (some ⟨w.heap.size, 0, none⟩) 32 32 (hw : Int) m W HOK.out (by rw [← HM.out]) (by rw [← HM.out]; exact HKL.out.1.symm) (by rw [← HM.out]; exact q)
      rw [← HM.out] at this
      rw [← HM.out]
      exact this)
    have hs44 := Slot.run_slice_arr_all' (P := Tryd.prog) 22 5 32 Tryd.underlying22 (fun _ => by kernel_rfl) w.heap.size 0 (by decide)
    have HSLC := wall hs44
    clear hs44 hm hok
    obtain ⟨ZM, hZM⟩ : ∃ x, zM.toArray = x := ⟨_, rfl⟩
    have HZM := wall (show Tryd.zeroCells96 = ZM by rw [← hZM, zM_eq])
    have HMF := wall (fun A L c (m : Md) (h : m.v.length = 16) => show M2F ZM (mV A L c m) by rw [← hZM]; exact m2f A L c h)
    have HZZ := wall hZM
    clear hZM h0
    go_upto_region 7 with fail
    refine RelG.wp_region_fl 8 [6] [(41, .any (MnV m) MnV.grow), (37, .any (MnV m) MnV.grow), (14, .any (NewM w4.drew.heap.size ZM) NewM.grow)] (by kernel_rfl) (by kernel_rfl) rfl (fun _ _ _ _ _ h => h) ?_
    simp only [List.take_succ_cons, List.take_zero, List.drop_succ_cons, List.drop_zero, Act.put, List.setIfInBounds_toArray, List.set_cons_zero, List.set_cons_succ]
    (refine RelG.tree_quiet rfl rfl rfl (fun K hK => ?_); go_big_quiet_op; refine hK _ ?_; clear hK K)
    refine RelG.tree_pure rfl rfl rfl (.slice (some ⟨w.heap.size, 0, none⟩) 32 32) (fun W hW _ => Rel.exec_slice _ _ _ _ rfl _ (HSLC.out W)) ?_
    simp only [Act.put, List.setIfInBounds_toArray, List.set_cons_zero, List.set_cons_succ]
    refine RelG.tree_pure rfl rfl rfl (.agg (b8 st)) (fun W hW _ => Rel.exec_load _ _ rfl (w.heap.size + 1) 0 rfl _ _ (Blk.range (HF.out.at hW.undrew).1.2) Tryd.underlying90 rfl HSB.out) ?_
    simp only [Act.put, List.setIfInBounds_toArray, List.set_cons_zero, List.set_cons_succ]
    refine RelG.tree_rel rfl (MnV m) MnV.grow rfl (fun W hW _ => ?_) (fun v41 => ?_)
    · have hq := nats_b8 (HF.out.at hW.undrew).1.1.2 HKL.out.2
      unfold RelG.relAt; go_simp; show Calls _ _ _ _ _
      exact mnv_call (HNEW.out W hq)
    simp only [Act.put, List.setIfInBounds_toArray, List.set_cons_zero, List.set_cons_succ]
    refine RelG.tree_rel rfl (MnV m) MnV.grow rfl (fun W hW hF => ?_) (fun v37 => ?_)
    · have hf : MnV m v41 W := hF 41 (by decide)
      clear hF
      unfold RelG.relAt
      go_simp
      exact ⟨Rel.Grow.refl _, hf⟩
    simp only [Act.put, List.setIfInBounds_toArray, List.set_cons_zero, List.set_cons_succ]
    refine RelG.tree_pure rfl rfl rfl (cV v37 0) (fun W hW hF => exec_extract _ _ rfl v37 rfl ((show MnV m v37 W from hF 37 (by decide)).part.1)) ?_
    simp only [Act.put, List.setIfInBounds_toArray, List.set_cons_zero, List.set_cons_succ]
    refine RelG.tree_pure rfl rfl rfl (cV v37 1) (fun W hW hF => exec_extract _ _ rfl v37 rfl ((show MnV m v37 W from hF 37 (by decide)).part.2)) ?_
    simp only [Act.put, List.setIfInBounds_toArray, List.set_cons_zero, List.set_cons_succ]
    refine RelG.tree_rel rfl (NewM w4.drew.heap.size ZM) NewM.grow rfl (fun W hW _ => rel_newM HZM.out rfl (Below.size hW)) (fun v14 => ?_)
    simp only [Act.put, List.setIfInBounds_toArray, List.set_cons_zero, List.set_cons_succ]
    intro W hW hF
    obtain ⟨g5, rfl, hgz, KZ⟩ : NewM w4.drew.heap.size ZM v14 W := hF 14
    obtain ⟨MA, L, Mc, rfl, hkv⟩ : MnV m v37 W := hF 37
    have HF1 := wall (HMF.out MA L Mc m HOK.out.len)
    have HRUN := wall (fun W' A c l (hl : List.length l = n') (hc : n' ≤ c) (q : KeyV W' W'.heap.size m.key MA L Mc) (r : Nats .u8 256 W' W'.heap.size A l) => run_any MA L Mc m A n' nb c l W' HOK.out q hl HN.out (by have := HNM.out; omega) hc r)
    unfold RunOut at HRUN
    have HA := wall (show ∀ ad : Addr, MA = some ad → ad.block ∉ [g5] from KeyV.apart hkv HZZ.out KZ)
    have HKV := wall (show KeyV W W.heap.size m.key MA L Mc from hkv)
    have HRK := wall (fun l (hl : List.length l = n') (hb : ∀ x ∈ l, x < 256) => show (runM m l nb).1.Ok ∧ (runM m l nb).2.length = n' ∧ ∀ x ∈ (runM m l nb).2, x < 256 from
      have h := runM_ok HOK.out hb nb (by rw [hl, HN.out]; exact Nat.le_refl _)
      ⟨h.1, h.2.2.2.2.1.trans HN.out.symm, h.2.2.2.2.2⟩)
    have HMV := wall (fun l (hl : List.length l = n') (hb : ∀ x ∈ l, x < 256) => HMF.out MA L Mc (runM m l nb).1 (HRK.out l hl hb).1.len)
    have e0 : cV (.tuple #[.agg (mV MA L Mc m).toArray, .int .i64 0]) 0 = .agg (mV MA L Mc m).toArray := rfl
    have e1 : cV (.tuple #[.agg (mV MA L Mc m).toArray, .int .i64 0]) 1 = .int .i64 0 := rfl
    rw [e0, e1]
    obtain ⟨ML1, hML1⟩ : ∃ x, mV MA L Mc m = x := ⟨_, rfl⟩
    rw [hML1] at HF1 HRUN ⊢
    have hgz4 : w4.heap.size ≤ g5 := hgz
    have HBW := wall (show Below w4.heap.size w4 W from hW.undrew)
    have HKZ := wall KZ
    clear hW hF KZ e0 e1 hkv hgz HNEW hML1 HMF
    go_upto_region 8 with (refine wpList_set_row rfl 96 (.tmp 14) (.tmp 42) rfl g5 ML1.toArray rfl rfl 96 ZM HKZ.out HF1.out.1 HF1.out.2.1 HF1.out.2.2 ?_; intro w5 K F)
    replace HF := wall ((((HF.out.next (Below.frm HBW.out F.out (Nat.le_refl _) (fun x hx => by simp at hx; omega))).and (From.blk K.out)).and (G := fun W => KeyV W W.heap.size m.key MA L Mc) (fun W hW => ((HKV.out.other (Nat.le_refl _) F.out HA.out).more F.out.size).next hW)))
    clear K F HBW HKZ HKV HA
    obtain ⟨i, hi⟩ : ∃ x, at' % n' = x := ⟨_, rfl⟩
    have hin : i < n' := by rw [← hi]; exact Nat.mod_lt _ HN0.out
    have hi1 : ((at' : Int).tmod (n' : Int)) = (i : Int) := by rw [Int.tmod_eq_emod_of_nonneg (by omega), ← hi]; omega
    have hi2 : (at' : Int) % (n' : Int) = (i : Int) := by rw [← hi]; omega
    have hn0 : ¬ (n' : Int) = 0 := by have := HN0.out; omega
    have hn0' : (n' : Int) ≠ 0 := hn0
    have HNZ := wall hn0
    go_upto_region 9 with fail
    clear hi1 hi2 hn0 hn0' e0 f0 hi
    go_wp2_with fail
    obtain ⟨w6, hw6⟩ : ∃ W, W = w5.alloc (.cells #[.slice A4 n' c4] 53) := ⟨_, rfl⟩
    have hB6 : Below w5.heap.size w5 w6 := by rw [hw6]; exact (Below.refl _ _).alloc (Nat.le_refl _) _
    have hK6 : Blk w6 w5.heap.size 53 #[.slice A4 n' c4] := by rw [hw6]; exact Blk.new _ _ _
    rw [← hw6]
    replace HF := wall (HF.out.next hB6)
    have HJ := wall (join_gen w5.heap.size 0 1 1 [⟨A4, c4, p'⟩] w6 rfl (by decide) hK6.lt (fun j q hq => by
      obtain ⟨rfl, rfl⟩ : j = 0 ∧ q = ⟨A4, c4, p'⟩ := by
        match j, hq with
        | 0, hq => exact ⟨rfl, by simpa using hq.symm⟩
      rw [hK6.cell]
      simp [HPL.out.1]) (fun q hq => by
      obtain rfl : q = ⟨A4, c4, p'⟩ := by simpa using hq
      exact ⟨by rw [HPL.out.1]; exact HNM.out, HC4.out.2, HF.out.now.1.1.2⟩))
    have hjp : joinP [⟨A4, c4, p'⟩] = p' := by simp [joinP]
    rw [hjp] at HJ
    clear hw6 hB6 hK6 hjp
    (with_reducible refine (HJ.out).mono ?_); rintro e w7 ⟨v7, rfl, hO7, hB7⟩
    obtain ⟨gq, cq, rfl⟩ := own_slice hO7 HPL.out.1 HN0.out
    have HOQ := wall hO7
    have HB7 := wall hB7
    obtain ⟨hql, hqb, hqf, hqc⟩ := own_cell hO7
    obtain ⟨x, hx⟩ : ∃ x, p'[i]? = some x := ⟨_, List.getElem?_eq_getElem (by rw [HPL.out.1]; exact hin)⟩
    have hx8 := HPL.out.2 x (List.mem_of_getElem? hx)
    have hcx := hqc i x hx
    have hfx := hqf i
    obtain ⟨y, hy⟩ : ∃ y, x ^^^ tn = y := ⟨_, rfl⟩
    have hy8 : y < 256 := by rw [← hy]; exact Nat.xor_lt_two_pow (n := 8) hx8 htn
    have hxy : bits .xor .u8 (x : Int) (tn : Int) = (y : Int) := by rw [u8_xor_nat _ _ hx8 htn, hy]
    have HX := wall (And.intro hx (And.intro hx8 hy8))
    have HY := wall hy
    have hqc' : n' ≤ cq := by
      rcases hO7.2 with ⟨h, _⟩ | ⟨_, _, _, h, _, _, h2, _⟩
      · cases h
      · cases h
        rw [HPL.out.1] at h2
        exact h2
    have HQC := wall hqc'
    clear HJ hO7 hB7 hqc hqf hx hy hqc'
    go_upto_region 11 with fail
    obtain ⟨w8, hw8⟩ : ∃ W, W = w7.setCell ⟨gq, i, none⟩ (.int .u8 (y : Int)) := ⟨_, rfl⟩
    have hB8 : Below w6.heap.size w6 w8 := by rw [hw8]; exact Below.setCell HB7.out hqb _
    have hO8 := own_set (y := y) HOQ.out HPL.out.1 hin
    rw [← hw8] at hO8 ⊢
    obtain ⟨q', hq'⟩ : ∃ l, p'.set i y = l := ⟨_, rfl⟩
    have hql : q'.length = n' := by rw [← hq', List.length_set]; exact HPL.out.1
    have hqb8 : ∀ z ∈ q', z < 256 := by rw [← hq']; exact set_byte HPL.out.2 HX.out.2.2
    rw [hq'] at hO8
    have HQL := wall (And.intro hql hqb8)
    have HQE := wall hq'
    have hN8 : Nats .u8 256 w8 w8.heap.size (some ⟨gq, 0, none⟩) q' := by
      obtain ⟨A', c', h1, _, h3, _⟩ := own_nats hO8 hqb8
      cases h1
      exact h3
    replace HF := wall ((HF.out.next hB8).and (From.nats hN8))
    clear hw8 hB8 hO8 hq' hql hqb8 hN8 hqb hcx hfx hxy hx8 hy8 HOQ HB7
    go_wp2_with (refine wpList_load_row rfl 96 _ rfl g5 rfl 96 ML1.toArray (0, 0) _ HF.out.now.1.1.2 Tryd.underlying96 rfl HF1.out.1 ?_)
    (with_reducible refine (HRUN.out _ A4 c4 p' HPL.out.1 HC4.out.1 HF.out.now.1.2 HF.out.now.1.1.1.2).mono ?_); rintro e w9 ⟨v9, rfl, hO9, hB9⟩
    have HF11 := wall (HMV.out p' HPL.out.1 HPL.out.2)
    have hol := (HRK.out p' HPL.out.1 HPL.out.2).2
    obtain ⟨ML11, hML11⟩ : ∃ x, mV MA L Mc (runM m p' nb).1 = x := ⟨_, rfl⟩
    obtain ⟨oa, ho11⟩ : ∃ x, (runM m p' nb).2 = x := ⟨_, rfl⟩
    rw [hML11] at HF11 ⊢
    rw [ho11] at hol hO9
    have HO11 := wall hol
    have HOE11 := wall ho11
    obtain ⟨A11, c11, rfl, hc, hA, hN⟩ := own_cut hO9 hol.2
    rw [hol.1] at hc ⊢
    have HA11 := wall (And.intro hc hA)
    replace HF := wall ((HF.out.next hB9).and (From.nats hN))
    clear hc hA hN hO9 hB9 hML11 ho11 hol
    go_upto_region 12 with (refine wpList_new_row rfl 96 (.tmp 18) (.tmp 63) rfl w9.heap.size ML11.toArray rfl rfl 96 ZM (by rw [← HZM.out]; exact Blk.new _ _ _) HF11.out.1 HF11.out.2.1 HF11.out.2.2 w9.heap.size w9 ((Below.refl _ w9).alloc (Nat.le_refl _) _) (Nat.le_refl _) ?_; intro w10 K B)
    replace HF := wall (HF.out.next B.out)
    clear K B
    go_wp2_with (refine wpList_load_row rfl 96 _ rfl g5 rfl 96 ML1.toArray (0, 0) _ HF.out.now.1.1.1.2 Tryd.underlying96 rfl HF1.out.1 ?_)
    (with_reducible refine (HRUN.out _ (some ⟨gq, 0, none⟩) cq q' HQL.out.1 HQC.out HF.out.now.1.1.2 HF.out.now.1.2).mono ?_); rintro e w11 ⟨v9, rfl, hO9, hB9⟩
    have HF12 := wall (HMV.out q' HQL.out.1 HQL.out.2)
    have hol := (HRK.out q' HQL.out.1 HQL.out.2).2
    obtain ⟨ML12, hML12⟩ : ∃ x, mV MA L Mc (runM m q' nb).1 = x := ⟨_, rfl⟩
    obtain ⟨ob, ho12⟩ : ∃ x, (runM m q' nb).2 = x := ⟨_, rfl⟩
    rw [hML12] at HF12 ⊢
    rw [ho12] at hol hO9
    have HO12 := wall hol
    have HOE12 := wall ho12
    obtain ⟨A12, c12, rfl, hc, hA, hN⟩ := own_cut hO9 hol.2
    rw [hol.1] at hc ⊢
    have HA12 := wall (And.intro hc hA)
    replace HF := wall ((HF.out.next hB9).and (From.nats hN))
    clear hc hA hN hO9 hB9 hML12 ho12 hol
    go_upto_region 13 with (refine wpList_new_row rfl 96 (.tmp 21) (.tmp 70) rfl w11.heap.size ML12.toArray rfl rfl 96 ZM (by rw [← HZM.out]; exact Blk.new _ _ _) HF12.out.1 HF12.out.2.1 HF12.out.2.2 w11.heap.size w11 ((Below.refl _ w11).alloc (Nat.le_refl _) _) (Nat.le_refl _) ?_; intro w12 K B)
    replace HF := wall (HF.out.next B.out)
    clear K B
    have HRB := wall (fun j (hj : j < nb) => reach_blk HOK.out (by rw [← HM.out]) HPL.out.2 (HPL.out.1.trans HN.out) (by rw [HPL.out.1]; exact hin) HX.out.2.2 hj (i := i) (y := y))
    rw [HQE.out, HOE11.out, HOE12.out] at HRB
    have HTY := wall (show p'[i]? = some y ↔ tn = 0 from by
      rw [HX.out.1, ← HY.out]
      constructor
      · intro h
        have h1 : x ^^^ tn = x := (Option.some.inj h).symm
        have h2 := congrArg (x ^^^ ·) h1
        simpa [← Nat.xor_assoc] using h2
      · intro h
        rw [h, Nat.xor_zero])
    have HKD := wall (show m.kind = hw by rw [← HM.out])
    have hq1 : ((i : Int).tdiv 16) = ((i / 16 : Nat) : Int) := by rw [Int.tdiv_eq_ediv_of_nonneg (by omega)]; omega
    have hq2 : (i : Int) / 16 = ((i / 16 : Nat) : Int) := by omega
    obtain ⟨ib, hib⟩ : ∃ x, i / 16 = x := ⟨_, rfl⟩
    rw [hib] at hq1 hq2 HRB
    have hibl : ib < 100 := by have := HNM.out; omega
    clear hib
    go_wp2_with fail
    go_loopg [24] nb (fun gm s24 wr => ∃ (j : Nat) (z : Int), j + gm = nb ∧ z = 16 * j ∧ s24 = .int .i64 z ∧ Wall (Below w12.heap.size w12 wr))
    case atStart => exact ⟨0, 0, by omega, by omega, rfl, wall (Below.refl _ _)⟩
    case round =>
      obtain ⟨j, z, hg, hz, rfl, HB⟩ := hrel
      have HG := wall hg
      have HZJ := wall hz
      have hj : j ≤ nb := by omega
      clear hg
      by_cases hlt : j < nb
      · have hlt' : z < (n' : Int) := by have := HN.out; omega
        have hz0 : 0 ≤ z := by omega
        have hz1 : z ≤ 1000 := by omega
        obtain ⟨sA, sc, hsl, hsn⟩ := blk_sl A11 (n := n') (c := c11) (i := j) HA11.out.1 (by have := HN.out; omega)
        obtain ⟨tA, tc, htl, htn⟩ := blk_sl A12 (n := n') (c := c12) (i := j) HA12.out.1 (by have := HN.out; omega)
        have hsz := hsl z hz
        have htz := htl z hz
        have HSN := wall hsn
        have HTN := wall htn
        obtain ⟨s, hs⟩ : ∃ s, decide (blkAt oa j = blkAt ob j) = s := ⟨_, rfl⟩
        have HS := wall hs
        have hsame := fun W (q : Below w12.heap.size w12 W) => same_bel sA tA 16 sc tc (blkAt oa j) (blkAt ob j) s W (blkAt_ok HO11.out.2 (i := j) (by rw [HO11.out.1, HN.out]; omega)).1 (blkAt_ok HO12.out.2 (i := j) (by rw [HO12.out.1, HN.out]; omega)).1 (by decide) (HSN.out W oa HO11.out.1 (HF.out.at q).1.2) (HTN.out W ob HO12.out.1 (HF.out.at q).2) hs
        have HSAME := wall hsame
        clear hsl hsn htl htn hs hsame hz
        go_upto_region 16 with fail
        refine RelG.wp_region_rel 12 [(89, .const (.bool s))] (by kernel_rfl) (by kernel_rfl) ?_
        simp only [List.take_succ_cons, List.take_zero, List.drop_succ_cons, List.drop_zero, Act.put, List.setIfInBounds_toArray, List.set_cons_zero, List.set_cons_succ]
        repeat (first | (refine RelG.tree_quiet rfl rfl rfl (fun K hK => ?_); go_big_quiet_op; refine hK _ ?_; clear hK K) | (refine RelG.tree_pure rfl rfl rfl (.slice sA 16 sc) (fun W hW _ => Rel.exec_slice _ _ _ _ rfl _ (hsz W)) ?_; simp only [Act.put, List.setIfInBounds_toArray, List.set_cons_zero, List.set_cons_succ]) | (refine RelG.tree_pure rfl rfl rfl (.slice tA 16 tc) (fun W hW _ => Rel.exec_slice _ _ _ _ rfl _ (htz W)) ?_; simp only [Act.put, List.setIfInBounds_toArray, List.set_cons_zero, List.set_cons_succ]) | (refine RelG.tree_const rfl (.bool s) rfl (fun W hW _ => by (have hh := below_then HB.out hW.undrew (Nat.le_refl _); unfold RelG.relAt; go_simp; show Calls _ _ _ _ _; exact const_call (HSAME.out W hh))) ?_; simp only [Act.put, List.setIfInBounds_toArray, List.set_cons_zero, List.set_cons_succ]))
        intro W hW _
        have HBW := wall (below_then HB.out hW.undrew (Nat.le_refl _))
        clear hW HB HSAME hsz htz HSN HTN
        have hz := HZJ.out
        by_cases k1 : tn = 0
        · obtain rfl : s = true := by rw [← HS.out]; exact decide_eq_true ((HRB.out j hlt).1 (.inl (HTY.out.2 k1)))
          have e1 : ((tn : Int) == 0) = true := by rw [beq_iff_eq]; omega
          clear hz k1  hm1 hm2 hh hh2 HS HRB HTY HKD
          go_wp2_with fail
          go_light
          go_roundg (nb - (j + 1))
          case measure => have := HG.out; omega
          case rel => exact ⟨j + 1, z + 16, by omega, by have := HZJ.out; omega, rfl, HBW⟩
        · have k1y : p'[i]? ≠ some y := fun h => k1 (HTY.out.1 h)
          by_cases k2 : j < ib
          · obtain rfl : s = true := by rw [← HS.out]; exact decide_eq_true ((HRB.out j hlt).1 (.inr (.inl k2)))
            have e1 : ((tn : Int) == 0) = false := by rw [beq_eq_false_iff_ne]; omega
            have e2 : decide (z < (ib : Int) * 16) = true := decide_eq_true (by omega)
            have e2' :  z < (ib : Int) * 16 := by omega
            clear hz k1 k1y k2 hm1 hm2 hh hh2 HS HRB HTY HKD
            go_wp2_with fail
            go_light
            go_roundg (nb - (j + 1))
            case measure => have := HG.out; omega
            case rel => exact ⟨j + 1, z + 16, by omega, by have := HZJ.out; omega, rfl, HBW⟩
          · by_cases k3 : j = ib
            · obtain rfl : s = false := by rw [← HS.out]; exact decide_eq_false ((HRB.out j hlt).2 k1y k3)
              have e1 : ((tn : Int) == 0) = false := by rw [beq_eq_false_iff_ne]; omega
              have e2 : decide (z < (ib : Int) * 16) = false := decide_eq_false (by omega)
              have e2' : ¬ z < (ib : Int) * 16 := by omega
              have e3 : (z == (ib : Int) * 16) = true := by rw [beq_iff_eq]; omega
              have f3 : decide (z = (ib : Int) * 16) = true := decide_eq_true (by omega)
              clear hz k1 k1y k2 k3 hm1 hm2 hh hh2 HS HRB HTY HKD
              go_wp2_with fail
              go_light
              go_roundg (nb - (j + 1))
              case measure => have := HG.out; omega
              case rel => exact ⟨j + 1, z + 16, by omega, by have := HZJ.out; omega, rfl, HBW⟩
            · by_cases k4 : hw = 1
              · have e1 : ((tn : Int) == 0) = false := by rw [beq_eq_false_iff_ne]; omega
                have e2 : decide (z < (ib : Int) * 16) = false := decide_eq_false (by omega)
                have e2' : ¬ z < (ib : Int) * 16 := by omega
                have e3 : (z == (ib : Int) * 16) = false := by rw [beq_eq_false_iff_ne]; omega
                have f3 : decide (z = (ib : Int) * 16) = false := decide_eq_false (by omega)
                have e4 : ((hw : Int) != 1) = false := by rw [bne_eq_false_iff_eq]; omega
                have e5 : ((hw : Int) == 1) = true := by rw [beq_iff_eq]; omega
                clear hz k1 k1y k2 k3 k4 hm1 hm2 hh hh2 HS HRB HTY HKD
                go_wp2_with fail
                go_light
                go_roundg (nb - (j + 1))
                case measure => have := HG.out; omega
                case rel => exact ⟨j + 1, z + 16, by omega, by have := HZJ.out; omega, rfl, HBW⟩
              · obtain rfl : s = true := by rw [← HS.out]; exact decide_eq_true ((HRB.out j hlt).1 (.inr (.inr ⟨k3, by rw [HKD.out]; exact k4⟩)))
                have e1 : ((tn : Int) == 0) = false := by rw [beq_eq_false_iff_ne]; omega
                have e2 : decide (z < (ib : Int) * 16) = false := decide_eq_false (by omega)
                have e2' : ¬ z < (ib : Int) * 16 := by omega
                have e3 : (z == (ib : Int) * 16) = false := by rw [beq_eq_false_iff_ne]; omega
                have f3 : decide (z = (ib : Int) * 16) = false := decide_eq_false (by omega)
                have e4 : ((hw : Int) != 1) = true := by rw [bne_iff_ne]; omega
                have e5 : ((hw : Int) == 1) = false := by rw [beq_eq_false_iff_ne]; omega
                clear hz k1 k1y k2 k3 k4 hm1 hm2 hh hh2 HS HRB HTY HKD
                go_wp2_with fail
                go_light
                go_roundg (nb - (j + 1))
                case measure => have := HG.out; omega
                case rel => exact ⟨j + 1, z + 16, by omega, by have := HZJ.out; omega, rfl, HBW⟩
      · have hlt' : ¬ z < (n' : Int) := by have := HN.out; omega
        go_wp2_with fail
        go_light
        go_ret
        exact ⟨rfl, (HF.out.at HB.out).1.1.1.1.1.1.1.1⟩
theorem reach_frame (zk zs : List Int) (A : Option Addr) (n c : Nat) (p : List Nat) (at' tn kd : Int) (w : World) (hkl : zk.length = 32) (hkb : ∀ z ∈ zk, (Lit.int .u8 z).wf = true) (hsl : zs.length = 16) (hsb : ∀ z ∈ zs, (Lit.int .u8 z).wf = true) (ha : (Lit.int .u8 at').wf = true) (ht : (Lit.int .u8 tn).wf = true) (hk : (Lit.int .u8 kd).wf = true) (hpn : p.length = n) (hnm : n ≤ maxLen) (hz : Nats .u8 256 w w.heap.size A p) :
    Calls Tryd.prog 9 #[.agg (zk.map (Value.int .u8)).toArray, .agg (zs.map (Value.int .u8)).toArray, .slice A n c, .int .u8 at', .int .u8 tn, .int .u8 kd] w (TrueBelow w) := by
  obtain ⟨h1, h2⟩ := Slot.u8_ints zk hkb
  obtain ⟨h3, h4⟩ := Slot.u8_ints zs hsb
  have hb := bounds_u8 hk
  have hb2 := bounds_u8 ha
  have hb3 := bounds_u8 ht
  obtain ⟨d, rfl⟩ : ∃ d : Nat, kd = (d : Int) := ⟨kd.toNat, by omega⟩
  obtain ⟨d2, rfl⟩ : ∃ d : Nat, at' = (d : Int) := ⟨at'.toNat, by omega⟩
  obtain ⟨d3, rfl⟩ : ∃ d : Nat, tn = (d : Int) := ⟨tn.toNat, by omega⟩
  rw [h1, h3]
  exact reach_any _ _ A n c p d2 d3 d w (by rw [List.length_map]; exact hkl) h2 (by rw [List.length_map]; exact hsl) h4 hpn hnm hz (by omega) (by omega) (by omega)
end Aes
end Go.Proofs.YtpakdcgcgekcfaaDoor

/-
  ModeParts.
-/
set_option linter.unusedSimpArgs false
set_option linter.unusedVariables false
namespace Go.Proofs.YtpakdcgcgekcfaaDoor
open Go.RowKit

namespace Aes
open Otp R1 Fuse Sha
theorem run_slice_h0 {P : Program} (t e : TypeId) (ht : P.underlying t = some (.slice e)) (hs : ∀ w, (sizeOf e).run P w = .ok 1 w) (A : Option Addr) (len cap hi : Nat) (kh : IntKind) (h : Int) (hh : h = hi) (h2 : hi ≤ cap) (w : World) :
    (Instr.sliceAt t (.slice A len cap) none (some (.int kh h)) none).run P w = .ok (.slice A hi cap) w := by
  by_cases h1 : 0 < cap
  · exact run_slice_h1 t e ht hs A len cap hi kh h hh h1 h2 w
  · have hc : cap = 0 := by omega
    subst hc
    have he : P.elem t = e := by simp [Program.elem, ht]
    have ht' : P.underlying t = some (.slice (P.elem t)) := by rw [he]; exact ht
    subst hh
    rw [run_sliceAt_slice w t _ _ _ _ ht', run_slice_h w t A len 0 ht' kh hi (by omega) (by omega), he, hs]
    cases A <;> simp [Result.andThen, sliced]
/-- What Run hands back. -/
def RnV (CA : Array Value) (out : List Nat) (v : Value) (W : World) : Prop := ∃ A c, v = .tuple #[.agg CA, .slice A out.length c, .int .i64 0] ∧ out.length ≤ c ∧ (A = none → c = 0) ∧ Nats .u8 256 W W.heap.size A out ∧ OwnB W 0 (.slice A out.length c) out
theorem RnV.grow {CA : Array Value} {out : List Nat} : ∀ v W W', Rel.Grow W W' → RnV CA out v W → RnV CA out v W' := fun _ _ _ h ⟨A, c, h1, h2, h3, h4, h5⟩ => ⟨A, c, h1, h2, h3, (h4.below h).more (Below.size h), own_grow _ _ _ h h5⟩
theorem RnV.part {CA : Array Value} {out : List Nat} {v : Value} {W : World} (h : RnV CA out v W) : (∃ vs y, v = .tuple vs ∧ vs[0]? = some y) ∧ (∃ vs y, v = .tuple vs ∧ vs[1]? = some y) ∧ ∃ vs y, v = .tuple vs ∧ vs[2]? = some y := by
  obtain ⟨A, c, rfl, _⟩ := h
  exact ⟨⟨_, _, rfl, rfl⟩, ⟨_, _, rfl, rfl⟩, ⟨_, _, rfl, rfl⟩⟩
theorem rnv_call {f : FuncId} {args : Array Value} {W : World} {A : Option Addr} {L c : Nat} {r : Md × List Nat} (hb : ∀ x ∈ r.2, x < 256) (h : Calls Tryd.prog f args W (RunOut W A L c r)) : Calls Tryd.prog f args W (fun e w'' => ∃ v, e = .returned v ∧ Rel.Grow W w'' ∧ RnV (mV A L c r.1).toArray r.2 v w'') :=
  Calls.mono h fun _ _ ⟨v, he, ho, hB⟩ => by
    obtain ⟨A', c', rfl, h1, h2, h3⟩ := own_cut ho hb
    exact ⟨_, he, hB, A', c', rfl, h1, h2, h3, own_less ho (Nat.zero_le _)⟩
/-- The slice of two parts. -/
def JnV (A8 A9 : Option Addr) (c8 c9 n8 n9 : Nat) (v : Value) (W : World) : Prop := ∃ g, v = .slice (some ⟨g, 0, none⟩) 2 2 ∧ Blk W g 53 #[.slice A8 n8 c8, .slice A9 n9 c9]
theorem JnV.grow {A8 A9 : Option Addr} {c8 c9 n8 n9 : Nat} : ∀ v W W', Rel.Grow W W' → JnV A8 A9 c8 c9 n8 n9 v W → JnV A8 A9 c8 c9 n8 n9 v W' := fun _ _ _ h ⟨g, h1, h2⟩ => ⟨g, h1, h2.next h rfl⟩
theorem rn_apart {W : World} {B n c g : Nat} {A : Option Addr} {l : List Nat} {ZM : Array Value} (h : OwnB W B (.slice A n c) l) (hb : Blk W g 96 ZM) : ∀ ad : Addr, A = some ad → ad.block ∉ [g] := fun ad had hx => by
  subst had
  simp only [List.mem_singleton] at hx
  rcases h.2 with ⟨h0, _⟩ | ⟨q, cap, cur, hv, _, hq, _⟩
  · cases h0
  · cases hv
    simp only at hx
    subst hx
    exact absurd (Blk.eq (show Blk W q 5 cur from hq) hb).1 (by decide)
/-- A run of a text's beginning: whole blocks, or refused. -/
def OddOut (n : Nat) (ZM : Array Value) (w : World) (e : Ending) (w' : World) : Prop := ∃ (CQ : List Value) (A : Option Addr) (n8 c8 : Nat) (E : Int), e = .returned (.tuple #[.agg CQ.toArray, .slice A n8 c8, .int .i64 E]) ∧ M2F ZM CQ ∧ Below w.heap.size w w' ∧ (n % 16 = 0 → E = 0) ∧ (n % 16 ≠ 0 → E = 1 ∧ n8 = 0)
theorem odd_any (MA : Option Addr) (L Mc : Nat) (m : Md) (A : Option Addr) (n c : Nat) (p : List Nat) (w : World) (hm : m.Ok) (hk : KeyV w w.heap.size m.key MA L Mc) (hp : p.length = n) (hnm : n ≤ 1000) (hc : n ≤ c) (hz : Nats .u8 256 w w.heap.size A p) :
    Calls Tryd.prog 56 #[.agg (mV MA L Mc m).toArray, .slice A n c] w (OddOut n zM.toArray w) := by
  have hb : ∀ x ∈ p, x < 256 := fun x hx => by
    obtain ⟨i, hi⟩ := List.mem_iff_getElem?.1 hx
    exact (hz i x hi).1
  by_cases h : n % 16 = 0
  · have ok := runM_ok hm hb (n / 16) (by omega)
    refine Calls.mono (run_any MA L Mc m A n (n / 16) c p w hm hk hp (by omega) (by omega) hc hz) fun e w' ⟨v, h1, h2, h3⟩ => ?_
    obtain ⟨A', c', rfl, _, _, _⟩ := own_cut h2 ok.2.2.2.2.2
    exact ⟨_, A', _, c', 0, h1, m2f MA L Mc ok.1.len, h3, fun _ => rfl, fun h' => absurd h h'⟩
  · exact Calls.mono (run_bad MA L Mc m A n c w hm.len h (by simp only [maxLen]; omega)) fun e w' ⟨h1, h2⟩ => ⟨_, none, 0, 0, 1, h1, m2f MA L Mc hm.len, h2, fun h' => absurd h' h, fun _ => ⟨rfl, rfl⟩⟩
set_option maxRecDepth 100000 in
set_option maxHeartbeats 4000000 in
theorem parts_any (k st : List Nat) (A : Option Addr) (n c : Nat) (p : List Nat) (kd : Nat) (bk : Bool) (cu : Nat) (w : World) (hkl : k.length = 32) (hkb : ∀ x ∈ k, x < 256) (hsl : st.length = 16) (hsb : ∀ x ∈ st, x < 256) (hpn : p.length = n) (hnm : n ≤ maxLen) (hz : Nats .u8 256 w w.heap.size A p) (hkd : kd < 256) (hcu : cu < 256) :
    Calls Tryd.prog 11 #[.agg (b8 k), .agg (b8 st), .slice A n c, .int .u8 (kd : Int), .bool bk, .int .u8 (cu : Int)] w (TrueBelow w) := by
  have HZ := wall hz
  have HPN := wall (And.intro hpn hnm)
  have HSB := wall (show (Tryd.prog.info? 90).map (·.size) = some (b8 st).size by rw [b8_size, hsl]; exact blk_info16)
  have HSL := wall (And.intro hsl hsb)
  have HKL := wall (And.intro hkl hkb)
  obtain ⟨w1, hw1⟩ : ∃ W, W = (w.alloc (.cells (b8 k) 22)).alloc (.cells (b8 st) 90) := ⟨_, rfl⟩
  have HW := wall hw1
  have HF := wall (show From w1 (fun W => (Below w.heap.size w W ∧ Blk W w.heap.size 22 (b8 k)) ∧ Blk W (w.heap.size + 1) 90 (b8 st)) by
    rw [hw1]
    exact ((From.below (((Below.refl _ w).alloc (Nat.le_refl _) _).alloc (by simp) _) (Nat.le_refl _)).and (From.blk ((Blk.new _ _ _).alloc _))).and (From.blk (blk_new' (by simp))))
  clear hw1 hz hpn hnm hsl hsb hkl hkb
  go_enter Tryd.func11, Tryd.ntmps11
  go_upto_region 1 with fail
  rw [← HW.out]
  clear HW
  go_wp2_with fail
  (with_reducible refine (awake_any _).mono ?_); rintro e w2 ⟨rfl, hB2⟩
  replace HF := wall (HF.out.next hB2)
  clear hB2
  obtain ⟨hw, hh⟩ : ∃ h, kd % 3 = h := ⟨_, rfl⟩
  have hm1 := (hows kd).1
  have hm2 := (hows kd).2
  rw [hh] at hm1 hm2
  have hh2 : hw ≤ 2 := by omega
  have hok : (⟨k, hw, bk, st⟩ : Md).Ok := ⟨⟨.inr HKL.out.1, HKL.out.2⟩, hh2, HSL.out.1, HSL.out.2⟩
  obtain ⟨m, hm⟩ : ∃ m, (⟨k, hw, bk, st⟩ : Md) = m := ⟨_, rfl⟩
  have HM := wall hm
  rw [hm] at hok
  have HOK := wall hok
  have HNEW := wall (fun W (q : Nats .u8 256 W W.heap.size (some ⟨w.heap.size, 0, none⟩) k) => show Calls Tryd.prog 55 #[.int .i64 (hw : Int), .bool bk, .slice (some ⟨w.heap.size, 0, none⟩) 32 32, .agg (b8 st)] W (MnOut W m) from by
    have := mnew_any (some ⟨w.heap.size, 0, none⟩) 32 32 (hw : Int) m W HOK.out (by rw [← HM.out]) (by rw [← HM.out]; exact HKL.out.1.symm) (by rw [← HM.out]; exact q)
    rw [← HM.out] at this
    rw [← HM.out]
    exact this)
  have hs44 := Slot.run_slice_arr_all' (P := Tryd.prog) 22 5 32 Tryd.underlying22 (fun _ => by kernel_rfl) w.heap.size 0 (by decide)
  have HSLC := wall hs44
  clear hs44 hm hok
  obtain ⟨ZM, hZM⟩ : ∃ x, zM.toArray = x := ⟨_, rfl⟩
  have HZM := wall (show Tryd.zeroCells96 = ZM by rw [← hZM, zM_eq])
  have HMF := wall (fun A L c (m : Md) (h : m.v.length = 16) => show M2F ZM (mV A L c m) by rw [← hZM]; exact m2f A L c h)
  have HZZ := wall hZM
  clear hZM
  go_upto_region 4 with fail
  refine RelG.wp_region_fl 9 [7] [(42, .any (MnV m) MnV.grow), (37, .any (MnV m) MnV.grow), (14, .any (NewM w2.drew.heap.size ZM) NewM.grow)] (by kernel_rfl) (by kernel_rfl) rfl (fun _ _ _ _ _ h => h) ?_
  simp only [List.take_succ_cons, List.take_zero, List.drop_succ_cons, List.drop_zero, Act.put, List.setIfInBounds_toArray, List.set_cons_zero, List.set_cons_succ]
  (refine RelG.tree_quiet rfl rfl rfl (fun K hK => ?_); go_big_quiet_op; refine hK _ ?_; clear hK K)
  (refine RelG.tree_quiet rfl rfl rfl (fun K hK => ?_); go_big_quiet_op; refine hK _ ?_; clear hK K)
  refine RelG.tree_pure rfl rfl rfl (.slice (some ⟨w.heap.size, 0, none⟩) 32 32) (fun W hW _ => Rel.exec_slice _ _ _ _ rfl _ (HSLC.out W)) ?_
  simp only [Act.put, List.setIfInBounds_toArray, List.set_cons_zero, List.set_cons_succ]
  refine RelG.tree_pure rfl rfl rfl (.agg (b8 st)) (fun W hW _ => Rel.exec_load _ _ rfl (w.heap.size + 1) 0 rfl _ _ (Blk.range (HF.out.at hW.undrew).2) Tryd.underlying90 rfl HSB.out) ?_
  simp only [Act.put, List.setIfInBounds_toArray, List.set_cons_zero, List.set_cons_succ]
  refine RelG.tree_rel rfl (MnV m) MnV.grow rfl (fun W hW _ => ?_) (fun v42 => ?_)
  · have hq := nats_b8 (HF.out.at hW.undrew).1.2 HKL.out.2
    unfold RelG.relAt; go_simp; show Calls _ _ _ _ _
    exact mnv_call (HNEW.out W hq)
  simp only [Act.put, List.setIfInBounds_toArray, List.set_cons_zero, List.set_cons_succ]
  refine RelG.tree_rel rfl (MnV m) MnV.grow rfl (fun W hW hF => ?_) (fun v37 => ?_)
  · have hf : MnV m v42 W := hF 42 (by decide)
    clear hF
    unfold RelG.relAt
    go_simp
    exact ⟨Rel.Grow.refl _, hf⟩
  simp only [Act.put, List.setIfInBounds_toArray, List.set_cons_zero, List.set_cons_succ]
  refine RelG.tree_pure rfl rfl rfl (cV v37 0) (fun W hW hF => exec_extract _ _ rfl v37 rfl ((show MnV m v37 W from hF 37 (by decide)).part.1)) ?_
  simp only [Act.put, List.setIfInBounds_toArray, List.set_cons_zero, List.set_cons_succ]
  refine RelG.tree_pure rfl rfl rfl (cV v37 1) (fun W hW hF => exec_extract _ _ rfl v37 rfl ((show MnV m v37 W from hF 37 (by decide)).part.2)) ?_
  simp only [Act.put, List.setIfInBounds_toArray, List.set_cons_zero, List.set_cons_succ]
  refine RelG.tree_rel rfl (NewM w2.drew.heap.size ZM) NewM.grow rfl (fun W hW _ => rel_newM HZM.out rfl (Below.size hW)) (fun v14 => ?_)
  simp only [Act.put, List.setIfInBounds_toArray, List.set_cons_zero, List.set_cons_succ]
  intro W hW hF
  obtain ⟨g5, rfl, hgz, KZ⟩ : NewM w2.drew.heap.size ZM v14 W := hF 14
  obtain ⟨MA, L, Mc, rfl, hkv⟩ : MnV m v37 W := hF 37
  have HF1 := wall (HMF.out MA L Mc m HOK.out.len)
  have HA := wall (show ∀ ad : Addr, MA = some ad → ad.block ∉ [g5] from KeyV.apart hkv HZZ.out KZ)
  have HKV := wall (show KeyV W W.heap.size m.key MA L Mc from hkv)
  have HODD := wall (fun W A n c p (hk : KeyV W W.heap.size m.key MA L Mc) (hp : List.length p = n) (hnm : n ≤ 1000) (hc : n ≤ c) (hz : Nats .u8 256 W W.heap.size A p) => odd_any MA L Mc m A n c p W HOK.out hk hp hnm hc hz)
  rw [HZZ.out] at HODD
  have e0 : cV (.tuple #[.agg (mV MA L Mc m).toArray, .int .i64 0]) 0 = .agg (mV MA L Mc m).toArray := rfl
  have e1 : cV (.tuple #[.agg (mV MA L Mc m).toArray, .int .i64 0]) 1 = .int .i64 0 := rfl
  rw [e0, e1]
  obtain ⟨ML1, hML1⟩ : ∃ x, mV MA L Mc m = x := ⟨_, rfl⟩
  have HML1 := wall hML1
  rw [hML1] at HF1 HODD ⊢
  have hgz4 : w2.heap.size ≤ g5 := hgz
  have HBW := wall (show Below w2.heap.size w2 W from hW.undrew)
  have HKZ := wall KZ
  clear hW hF KZ e0 e1 hkv hgz HNEW hML1
  go_upto_region 5 with (refine wpList_set_row rfl 96 (.tmp 14) (.tmp 43) rfl g5 ML1.toArray rfl rfl 96 ZM HKZ.out HF1.out.1 HF1.out.2.1 HF1.out.2.2 ?_; intro w3 K F)
  replace HF := wall ((((HF.out.next (Below.frm HBW.out F.out (Nat.le_refl _) (fun x hx => by simp at hx; omega))).and (From.blk K.out)).and (G := fun W => KeyV W W.heap.size m.key MA L Mc) (fun W hW => ((HKV.out.other (Nat.le_refl _) F.out HA.out).more F.out.size).next hW)))
  clear K F HBW HKZ HKV HA hgz4
  go_wp2_with fail
  (with_reducible refine (cut_any A n c p 70 70 w3 HPN.out.1 HPN.out.2 rfl (by decide) ((HZ.out.below HF.out.now.1.1.1.1).more HF.out.now.1.1.1.1.size)).mono ?_); rintro e w4 ⟨v4, rfl, hO4, hB4⟩
  have hob : ∀ x ∈ p.take 70, x < 256 := cut_byte HZ.out 70
  have hol : (p.take 70).length ≤ 70 := by rw [List.length_take]; omega
  obtain ⟨od, hod⟩ : ∃ x, p.take 70 = x := ⟨_, rfl⟩
  rw [hod] at hO4 hob hol
  obtain ⟨A4, c4, rfl, hc4, -, hN4⟩ := own_cut hO4 hob
  obtain ⟨no, hno⟩ : ∃ x, od.length = x := ⟨_, rfl⟩
  rw [hno] at hc4 hol ⊢
  have HOD := wall (And.intro hno (And.intro hol hc4))
  replace HF := wall ((HF.out.next hB4).and (From.nats hN4))
  clear hB4 hO4 hod hob hN4 hno hc4
  go_wp2_with (refine wpList_load_row rfl 96 _ rfl g5 rfl 96 ML1.toArray (0, 0) _ HF.out.now.1.1.2 Tryd.underlying96 rfl HF1.out.1 ?_)
  (with_reducible refine (HODD.out _ A4 no c4 od HF.out.now.1.2 HOD.out.1 (by have := HOD.out.2.1; omega) HOD.out.2.2 HF.out.now.2).mono ?_); rintro e w5 ⟨CQ, A5, n5, c5, E, rfl, hQ5, hB5, hE0, hE1⟩
  replace HF := wall (HF.out.next hB5)
  have HQ5 := wall hQ5
  have HEE := wall (And.intro hE0 hE1)
  obtain ⟨CQA, hCQ⟩ : ∃ x, CQ.toArray = x := ⟨_, rfl⟩
  have HQI := wall (show (Tryd.prog.info? 96).map (·.size) = some CQA.size by rw [← hCQ]; exact HQ5.out.1)
  have HQZ := wall (show ZM.size = CQA.size by rw [← hCQ]; exact HQ5.out.2.1)
  have HQO := wall (show CQA.all (·.oneCell') = true by rw [← hCQ]; exact HQ5.out.2.2)
  rw [hCQ]
  clear hQ5 hB5 hE0 hE1 HODD hCQ HQ5
  go_upto_region 7 with (refine wpList_new_row rfl 96 (.tmp 17) (.tmp 51) rfl w5.heap.size CQA rfl rfl 96 ZM (by rw [← HZM.out]; exact Blk.new _ _ _) HQI.out HQZ.out HQO.out w5.heap.size w5 ((Below.refl _ w5).alloc (Nat.le_refl _) _) (Nat.le_refl _) ?_; intro w6 K B)
  replace HF := wall (HF.out.next B.out)
  clear K B HQI HQZ HQO
  go_cut [73] (fun v w' => v = .bool false ∧ w6 = w')
  case first =>
    have hee := HEE.out
    by_cases h16 : no % 16 = 0
    · obtain rfl := hee.1 h16
      have g1 : ((no : Int) % 16 == 0) = true := by rw [beq_iff_eq]; omega
      have g2 : ((no : Int).tmod 16 == 0) = true := by rw [beq_iff_eq, Int.tmod_eq_emod_of_nonneg (by omega)]; omega
      clear hee h16 HEE
      go_wp2_with fail
      go_meet
      exact ⟨rfl, rfl⟩
    · obtain ⟨rfl, rfl⟩ := hee.2 h16
      have g1 : ((no : Int) % 16 == 0) = false := by rw [beq_eq_false_iff_ne]; omega
      have g2 : ((no : Int).tmod 16 == 0) = false := by rw [beq_eq_false_iff_ne, ne_eq, Int.tmod_eq_emod_of_nonneg (by omega)]; omega
      clear hee h16 HEE
      go_wp2_with fail
      go_meet
      exact ⟨rfl, rfl⟩
  case rest =>
    obtain ⟨rfl, rfl⟩ := hcut
    clear HEE
    go_wp2_with fail
    (with_reducible refine (whole_any A n c p 8 8 w6 HPN.out.1 HPN.out.2 rfl (by decide) ((HZ.out.below HF.out.now.1.1.1.1.1).more HF.out.now.1.1.1.1.1.size)).mono ?_); rintro e w7 ⟨v7, rfl, hO7, hB7⟩
    have hpb : ∀ x ∈ p.take (16 * min (n / 16) 8), x < 256 := cut_byte HZ.out _
    have hpl : (p.take (16 * min (n / 16) 8)).length = 16 * min (n / 16) 8 := whole_length HPN.out.1 8
    obtain ⟨nb, hnb⟩ : ∃ x, min (n / 16) 8 = x := ⟨_, rfl⟩
    have hnb8 : nb ≤ 8 := by omega
    rw [hnb] at hpb hpl hO7
    obtain ⟨p', hp'⟩ : ∃ x, p.take (16 * nb) = x := ⟨_, rfl⟩
    rw [hp'] at hpb hpl hO7
    obtain ⟨A7, c7, rfl, hc7, hA7, hN7⟩ := own_cut hO7 hpb
    rw [hpl] at hc7 ⊢
    replace HF := wall ((HF.out.next hB7).and (From.nats hN7))
    have HPL := wall (And.intro hpl hpb)
    obtain ⟨n', hn'⟩ : ∃ x, 16 * nb = x := ⟨_, rfl⟩
    have HN := wall hn'.symm
    rw [hn'] at hc7 HPL ⊢
    have HC7 := wall (And.intro hc7 hA7)
    have HNM := wall (show n' ≤ 1000 by omega)
    clear hB7 hnb hp' hO7 hN7 hpb hpl hn' hc7 hA7
    have hq1 : (n' : Int).tdiv 16 = (nb : Int) := by have := HN.out; rw [Int.tdiv_eq_ediv_of_nonneg (by omega)]; omega
    have hq2 : (n' : Int) / 16 = (nb : Int) := by have := HN.out; omega
    go_upto_region 11 with fail
    clear hq1 hq2
    obtain ⟨ka, hka⟩ : ∃ x : Nat, min cu nb = x := ⟨_, rfl⟩
    obtain ⟨z, hz⟩ : ∃ x : Int, 16 * min (cu : Int) (nb : Int) = x := ⟨_, rfl⟩
    have hzk : z = 16 * ka := by omega
    have hkn : ka ≤ nb := by omega
    rw [hz]
    have HKN := wall (And.intro hzk hkn)
    have hsl1 := run_slice_h0 (P := Tryd.prog) 53 5 Tryd.underlying53 (fun _ => by kernel_rfl) A7 n' c7 (16 * ka) .i64 z (by omega) (by have := HC7.out.1; have := HN.out; omega)
    have HS1 := wall hsl1
    have hsl2 := run_slice_l1 (P := Tryd.prog) 53 5 Tryd.underlying53 (fun _ => by kernel_rfl) A7 n' c7 (16 * ka) .i64 z (by omega) (by have := HN.out; omega)
    rw [show n' - 16 * ka = 16 * (nb - ka) by rw [HN.out]; omega] at hsl2
    obtain ⟨Ad, hAd⟩ : ∃ x, slA A7 (16 * ka) c7 = x := ⟨_, rfl⟩
    have HND := wall (fun W (h : Nats .u8 256 W W.heap.size A7 p') => show Nats .u8 256 W W.heap.size Ad (p'.drop (16 * ka)) from hAd ▸ nats_slA h (by rw [HPL.out.1]; exact HC7.out.1))
    rw [hAd] at hsl2
    have HS2 := wall hsl2
    have hpk : (p'.take (16 * ka)).length = 16 * ka := by rw [List.length_take, HPL.out.1, HN.out]; omega
    have hpb1 : ∀ x ∈ p'.take (16 * ka), x < 256 := fun x hx => HPL.out.2 x (List.mem_of_mem_take hx)
    have hpk2 : (p'.drop (16 * ka)).length = 16 * (nb - ka) := by rw [List.length_drop, HPL.out.1, HN.out]; omega
    have hpb2 : ∀ x ∈ p'.drop (16 * ka), x < 256 := fun x hx => HPL.out.2 x (List.mem_of_mem_drop hx)
    have hrt := runM_take m p' ka ka (Nat.le_refl _)
    have hra := runM_add m p' ka (nb - ka)
    rw [show ka + (nb - ka) = nb by omega] at hra
    have ok1 := runM_ok HOK.out hpb1 ka (by omega)
    have ok2 := runM_ok ok1.1 hpb2 (nb - ka) (by omega)
    have ok3 := runM_ok HOK.out HPL.out.2 nb (by rw [HPL.out.1, HN.out]; exact Nat.le_refl _)
    have HK1 := wall ok1.2.1
    rw [hrt] at ok1 ok2 HK1
    have HR1 := wall (fun W (q : KeyV W W.heap.size m.key MA L Mc) (h : Nats .u8 256 W W.heap.size A7 p') => by
      have := run_any MA L Mc m A7 (16 * ka) ka c7 (p'.take (16 * ka)) W HOK.out q hpk rfl (by omega) (by have := HC7.out.1; have := HN.out; omega) (h.take _)
      rw [hrt] at this
      exact rnv_call ok1.2.2.2.2.2 this)
    have HR2 := wall (fun W (q : KeyV W W.heap.size m.key MA L Mc) (h : Nats .u8 256 W W.heap.size A7 p') =>
      rnv_call ok2.2.2.2.2.2 (run_any MA L Mc (runM m p' ka).1 Ad (16 * (nb - ka)) (nb - ka) (c7 - 16 * ka) (p'.drop (16 * ka)) W ok1.1 (HK1.out ▸ q) hpk2 rfl (by omega) (by have := HC7.out.1; have := HN.out; omega) (HND.out W h)))
    have HR3 := wall (fun W (q : KeyV W W.heap.size m.key MA L Mc) (h : Nats .u8 256 W W.heap.size A7 p') => run_any MA L Mc m A7 n' nb c7 p' W HOK.out q HPL.out.1 HN.out (by have := HNM.out; omega) HC7.out.1 h)
    unfold RunOut at HR3
    have HF2 := wall (HMF.out MA L Mc (runM m p' ka).1 ok1.1.len)
    have HF3 := wall (HMF.out MA L Mc (runM (runM m p' ka).1 (p'.drop (16 * ka)) (nb - ka)).1 ok2.1.len)
    have HF4 := wall (HMF.out MA L Mc (runM m p' nb).1 ok3.1.len)
    obtain ⟨q1, hq1⟩ : ∃ x, runM m p' ka = x := ⟨_, rfl⟩
    rw [hq1] at HR1 HR2 HF2 HF3 hra
    obtain ⟨q2, hq2⟩ : ∃ x, runM q1.1 (p'.drop (16 * ka)) (nb - ka) = x := ⟨_, rfl⟩
    rw [hq2] at HR2 HF3 hra
    obtain ⟨m1, oa⟩ := q1
    obtain ⟨m2, ob⟩ := q2
    simp only at HR1 HR2 HF2 HF3 hra
    have HQ := wall hra
    rw [hra] at HF4 HR3
    simp only at HF4 HR3
    obtain ⟨ML2, hML2⟩ : ∃ x, mV MA L Mc m1 = x := ⟨_, rfl⟩
    obtain ⟨ML3, hML3⟩ : ∃ x, mV MA L Mc m2 = x := ⟨_, rfl⟩
    rw [HML1.out] at HR1 HR3
    rw [hML2] at HF2 HR1 HR2
    rw [hML3] at HF3 HF4 HR3 HR2
    have HML3 := wall hML3
    have hoa : oa.length = 16 * ka ∧ ∀ x ∈ oa, x < 256 := by rw [hq1] at ok1; exact ok1.2.2.2.2
    have hob : ob.length = 16 * (nb - ka) ∧ ∀ x ∈ ob, x < 256 := by rw [hq1, hq2] at ok2; exact ok2.2.2.2.2
    have HOA := wall hoa
    have HOB := wall hob
    have HM2 := wall (show m2.v.length = 16 by have := ok3.1.len; rw [hra] at this; exact this)
    clear hka hz hzk hsl1 hsl2 hAd hpk hpb1 hpk2 hpb2 hrt hra ok1 ok2 ok3 HK1 hq1 hq2 hML2 hML3 hoa hob
    go_upto_region 11 with fail
    refine RelG.wp_region_fl 10 [7, 8] [(88, .any (RnV ML2.toArray oa) RnV.grow), (83, .any (RnV ML2.toArray oa) RnV.grow), (21, .any (NewM w7.drew.heap.size ZM) NewM.grow)] (by kernel_rfl) (by kernel_rfl) rfl (fun _ _ _ _ _ h => h) ?_
    simp only [List.take_succ_cons, List.take_zero, List.drop_succ_cons, List.drop_zero, Act.put, List.setIfInBounds_toArray, List.set_cons_zero, List.set_cons_succ]
    refine RelG.tree_pure rfl rfl rfl (.agg ML1.toArray) (fun W hW _ => Rel.exec_load _ _ rfl g5 0 rfl _ _ (Blk.range (HF.out.at hW.undrew).1.1.1.2) Tryd.underlying96 rfl HF1.out.1) ?_
    simp only [Act.put, List.setIfInBounds_toArray, List.set_cons_zero, List.set_cons_succ]
    (refine RelG.tree_quiet rfl rfl rfl (fun K hK => ?_); go_big_quiet_op; refine hK _ ?_; clear hK K)
    (refine RelG.tree_quiet rfl rfl rfl (fun K hK => ?_); go_big_quiet_op; refine hK _ ?_; clear hK K)
    refine RelG.tree_pure rfl rfl rfl (.slice A7 (16 * ka) c7) (fun W hW _ => Rel.exec_slice _ _ _ _ rfl _ (HS1.out W)) ?_
    simp only [Act.put, List.setIfInBounds_toArray, List.set_cons_zero, List.set_cons_succ]
    refine RelG.tree_rel rfl (RnV ML2.toArray oa) RnV.grow rfl (fun W hW _ => ?_) (fun vc => ?_)
    · have hq := HF.out.at hW.undrew
      unfold RelG.relAt; go_simp; show Calls _ _ _ _ _
      exact HR1.out W hq.1.1.2 hq.2
    simp only [Act.put, List.setIfInBounds_toArray, List.set_cons_zero, List.set_cons_succ]
    refine RelG.tree_rel rfl (RnV ML2.toArray oa) RnV.grow rfl (fun W hW hF => ?_) (fun vm => ?_)
    · have hf : RnV ML2.toArray oa vc W := hF 88 (by decide)
      clear hF
      unfold RelG.relAt
      go_simp
      exact ⟨Rel.Grow.refl _, hf⟩
    simp only [Act.put, List.setIfInBounds_toArray, List.set_cons_zero, List.set_cons_succ]
    refine RelG.tree_pure rfl rfl rfl (cV vm 0) (fun W hW hF => exec_extract _ _ rfl vm rfl ((show RnV ML2.toArray oa vm W from hF 83 (by decide)).part.1)) ?_
    simp only [Act.put, List.setIfInBounds_toArray, List.set_cons_zero, List.set_cons_succ]
    refine RelG.tree_pure rfl rfl rfl (cV vm 1) (fun W hW hF => exec_extract _ _ rfl vm rfl ((show RnV ML2.toArray oa vm W from hF 83 (by decide)).part.2.1)) ?_
    simp only [Act.put, List.setIfInBounds_toArray, List.set_cons_zero, List.set_cons_succ]
    refine RelG.tree_pure rfl rfl rfl (cV vm 2) (fun W hW hF => exec_extract _ _ rfl vm rfl ((show RnV ML2.toArray oa vm W from hF 83 (by decide)).part.2.2)) ?_
    simp only [Act.put, List.setIfInBounds_toArray, List.set_cons_zero, List.set_cons_succ]
    refine RelG.tree_rel rfl (NewM w7.drew.heap.size ZM) NewM.grow rfl (fun W hW _ => rel_newM HZM.out rfl (Below.size hW)) (fun vn => ?_)
    simp only [Act.put, List.setIfInBounds_toArray, List.set_cons_zero, List.set_cons_succ]
    intro W hW hF
    obtain ⟨g8, rfl, hgz, KZ⟩ : NewM w7.drew.heap.size ZM vn W := hF 21
    obtain ⟨A8, c8, rfl, hc, hA, hN, hOW⟩ : RnV ML2.toArray oa vm W := hF 83
    have e0 : cV (.tuple #[.agg ML2.toArray, .slice A8 oa.length c8, .int .i64 0]) 0 = .agg ML2.toArray := rfl
    have e1 : cV (.tuple #[.agg ML2.toArray, .slice A8 oa.length c8, .int .i64 0]) 1 = .slice A8 oa.length c8 := rfl
    have e2 : cV (.tuple #[.agg ML2.toArray, .slice A8 oa.length c8, .int .i64 0]) 2 = .int .i64 0 := rfl
    rw [e0, e1, e2]
    have hgz4 : w7.heap.size ≤ g8 := hgz
    have HBW := wall (show Below w7.heap.size w7 W from hW.undrew)
    have HKZ := wall KZ
    have HA8 := wall (And.intro hc hA)
    have HAP := wall (show ∀ ad : Addr, A8 = some ad → ad.block ∉ [g8] from rn_apart hOW KZ)
    have HNW := wall hN
    rw [HOA.out.1] at HA8 ⊢
    clear hW hF KZ e0 e1 e2 hgz hc hA hN hOW
    go_upto_region 12 with (refine wpList_set_row rfl 96 (.tmp 21) (.tmp 89) rfl g8 ML2.toArray rfl rfl 96 ZM HKZ.out HF2.out.1 HF2.out.2.1 HF2.out.2.2 ?_; intro w8 K F)
    replace HF := wall ((((HF.out.next (Below.frm HBW.out F.out (Nat.le_refl _) (fun x hx => by simp at hx; omega))).and (From.blk K.out)).and (From.nats ((nats_other HNW.out (Nat.le_refl _) F.out HAP.out).more F.out.size))))
    clear K F HBW HKZ HNW HAP hgz4
    go_upto_region 12 with fail
    refine RelG.wp_region_fl 10 [7, 8] [(97, .any (RnV ML3.toArray ob) RnV.grow), (92, .any (RnV ML3.toArray ob) RnV.grow), (24, .any (NewM w8.drew.heap.size ZM) NewM.grow)] (by kernel_rfl) (by kernel_rfl) rfl (fun _ _ _ _ _ h => h) ?_
    simp only [List.take_succ_cons, List.take_zero, List.drop_succ_cons, List.drop_zero, Act.put, List.setIfInBounds_toArray, List.set_cons_zero, List.set_cons_succ]
    refine RelG.tree_pure rfl rfl rfl (.agg ML2.toArray) (fun W hW _ => Rel.exec_load _ _ rfl g8 0 rfl _ _ (Blk.range (HF.out.at hW.undrew).1.2) Tryd.underlying96 rfl HF2.out.1) ?_
    simp only [Act.put, List.setIfInBounds_toArray, List.set_cons_zero, List.set_cons_succ]
    (refine RelG.tree_quiet rfl rfl rfl (fun K hK => ?_); go_big_quiet_op; refine hK _ ?_; clear hK K)
    (refine RelG.tree_quiet rfl rfl rfl (fun K hK => ?_); go_big_quiet_op; refine hK _ ?_; clear hK K)
    refine RelG.tree_pure rfl rfl rfl (.slice Ad (16 * (nb - ka)) (c7 - 16 * ka)) (fun W hW _ => Rel.exec_slice _ _ _ _ rfl _ (HS2.out W)) ?_
    simp only [Act.put, List.setIfInBounds_toArray, List.set_cons_zero, List.set_cons_succ]
    refine RelG.tree_rel rfl (RnV ML3.toArray ob) RnV.grow rfl (fun W hW _ => ?_) (fun vc => ?_)
    · have hq := HF.out.at hW.undrew
      unfold RelG.relAt; go_simp; show Calls _ _ _ _ _
      exact HR2.out W hq.1.1.1.1.2 hq.1.1.2
    simp only [Act.put, List.setIfInBounds_toArray, List.set_cons_zero, List.set_cons_succ]
    refine RelG.tree_rel rfl (RnV ML3.toArray ob) RnV.grow rfl (fun W hW hF => ?_) (fun vm => ?_)
    · have hf : RnV ML3.toArray ob vc W := hF 97 (by decide)
      clear hF
      unfold RelG.relAt
      go_simp
      exact ⟨Rel.Grow.refl _, hf⟩
    simp only [Act.put, List.setIfInBounds_toArray, List.set_cons_zero, List.set_cons_succ]
    refine RelG.tree_pure rfl rfl rfl (cV vm 0) (fun W hW hF => exec_extract _ _ rfl vm rfl ((show RnV ML3.toArray ob vm W from hF 92 (by decide)).part.1)) ?_
    simp only [Act.put, List.setIfInBounds_toArray, List.set_cons_zero, List.set_cons_succ]
    refine RelG.tree_pure rfl rfl rfl (cV vm 1) (fun W hW hF => exec_extract _ _ rfl vm rfl ((show RnV ML3.toArray ob vm W from hF 92 (by decide)).part.2.1)) ?_
    simp only [Act.put, List.setIfInBounds_toArray, List.set_cons_zero, List.set_cons_succ]
    refine RelG.tree_pure rfl rfl rfl (cV vm 2) (fun W hW hF => exec_extract _ _ rfl vm rfl ((show RnV ML3.toArray ob vm W from hF 92 (by decide)).part.2.2)) ?_
    simp only [Act.put, List.setIfInBounds_toArray, List.set_cons_zero, List.set_cons_succ]
    refine RelG.tree_rel rfl (NewM w8.drew.heap.size ZM) NewM.grow rfl (fun W hW _ => rel_newM HZM.out rfl (Below.size hW)) (fun vn => ?_)
    simp only [Act.put, List.setIfInBounds_toArray, List.set_cons_zero, List.set_cons_succ]
    intro W hW hF
    obtain ⟨g9, rfl, hgz, KZ⟩ : NewM w8.drew.heap.size ZM vn W := hF 24
    obtain ⟨A9, c9, rfl, hc, hA, hN, hOW⟩ : RnV ML3.toArray ob vm W := hF 92
    have e0 : cV (.tuple #[.agg ML3.toArray, .slice A9 ob.length c9, .int .i64 0]) 0 = .agg ML3.toArray := rfl
    have e1 : cV (.tuple #[.agg ML3.toArray, .slice A9 ob.length c9, .int .i64 0]) 1 = .slice A9 ob.length c9 := rfl
    have e2 : cV (.tuple #[.agg ML3.toArray, .slice A9 ob.length c9, .int .i64 0]) 2 = .int .i64 0 := rfl
    rw [e0, e1, e2]
    have hgz4 : w8.heap.size ≤ g9 := hgz
    have HBW := wall (show Below w8.heap.size w8 W from hW.undrew)
    have HKZ := wall KZ
    have HA9 := wall (And.intro hc hA)
    have HAP := wall (show ∀ ad : Addr, A9 = some ad → ad.block ∉ [g9] from rn_apart hOW KZ)
    have HNW := wall hN
    rw [HOB.out.1] at HA9 ⊢
    clear hW hF KZ e0 e1 e2 hgz hc hA hN hOW
    go_upto_region 13 with (refine wpList_set_row rfl 96 (.tmp 24) (.tmp 98) rfl g9 ML3.toArray rfl rfl 96 ZM HKZ.out HF3.out.1 HF3.out.2.1 HF3.out.2.2 ?_; intro w9 K F)
    replace HF := wall ((((HF.out.next (Below.frm HBW.out F.out (Nat.le_refl _) (fun x hx => by simp at hx; omega))).and (From.blk K.out)).and (From.nats ((nats_other HNW.out (Nat.le_refl _) F.out HAP.out).more F.out.size))))
    clear K F HBW HKZ HNW HAP hgz4
    go_wp2_with (refine wpList_load_row rfl 96 _ rfl g5 rfl 96 ML1.toArray (0, 0) _ HF.out.now.1.1.1.1.1.1.1.2 Tryd.underlying96 rfl HF1.out.1 ?_)
    (with_reducible refine (HR3.out _ HF.out.now.1.1.1.1.1.1.2 HF.out.now.1.1.1.1.2).mono ?_); rintro e w10 ⟨v10, rfl, hO10, hB10⟩
    have hall : (oa ++ ob).length = n' ∧ ∀ x ∈ oa ++ ob, x < 256 := ⟨by rw [List.length_append, HOA.out.1, HOB.out.1, HN.out]; omega, fun x hx => (List.mem_append.1 hx).elim (HOA.out.2 x) (HOB.out.2 x)⟩
    have HALL := wall hall
    obtain ⟨all, hal⟩ : ∃ x, oa ++ ob = x := ⟨_, rfl⟩
    have HAL := wall hal
    rw [hal] at hO10 HALL
    obtain ⟨A10, c10, rfl, hc, hA, hN⟩ := own_cut hO10 HALL.out.2
    rw [HALL.out.1] at hc ⊢
    replace HF := wall ((HF.out.next hB10).and (From.nats hN))
    clear hc hA hN hO10 hB10 hall hal
    go_upto_region 14 with (refine wpList_new_row rfl 96 (.tmp 27) (.tmp 105) rfl w10.heap.size ML3.toArray rfl rfl 96 ZM (by rw [← HZM.out]; exact Blk.new _ _ _) HF4.out.1 HF4.out.2.1 HF4.out.2.2 w10.heap.size w10 ((Below.refl _ w10).alloc (Nat.le_refl _) _) (Nat.le_refl _) ?_; intro w11 K B)
    replace HF := wall ((HF.out.next B.out).and (From.blk K.out))
    clear K B
    obtain ⟨g11, hg⟩ : ∃ x, w10.heap.size = x := ⟨_, rfl⟩
    rw [hg] at HF ⊢
    clear hg
    go_upto_region 15 with (first | refine wpList_load_row rfl 96 _ rfl g5 rfl 96 ML1.toArray (0, 0) _ HF.out.now.1.1.1.1.1.1.1.1.1.2 Tryd.underlying96 rfl HF1.out.1 ?_ | (refine wpList_new_row rfl 96 (.tmp 30) (.tmp 108) rfl w11.heap.size ML1.toArray rfl rfl 96 ZM (by rw [← HZM.out]; exact Blk.new _ _ _) HF1.out.1 HF1.out.2.1 HF1.out.2.2 w11.heap.size w11 ((Below.refl _ w11).alloc (Nat.le_refl _) _) (Nat.le_refl _) ?_; intro w12 K B))
    have HV12 := wall K.out
    have HB12 := wall B.out
    clear K B
    obtain ⟨gv, hgv⟩ : ∃ x, w11.heap.size = x := ⟨_, rfl⟩
    rw [hgv] at HV12 ⊢
    have HGV := wall hgv
    clear hgv
    have HRO := wall (fun j (h : j ≤ nb) => runM_ok HOK.out HPL.out.2 j (by rw [HPL.out.1, HN.out]; omega))
    have HBK := wall (fun j (h : j < nb) => blkAt_ok HPL.out.2 (i := j) (by rw [HPL.out.1, HN.out]; omega))
    have HST := wall (fun j (h : j < nb) W (q : KeyV W W.heap.size m.key MA L Mc) => show Calls Tryd.prog 63 #[.agg (mV MA L Mc (runM m p' j).1).toArray, .agg (b8 (blkAt p' j))] W (StepOut W MA L Mc ((runM m p' (j + 1)).1, (stepM (runM m p' j).1 (blkAt p' j)).2)) from
      step_any MA L Mc (runM m p' j).1 (blkAt p' j) W (HRO.out j (by omega)).1 ((HRO.out j (by omega)).2.1.symm ▸ q) (HBK.out j h).1 (HBK.out j h).2)
    have HCM := wall (fun j (h : j ≤ nb) => show M2F ZM (mV MA L Mc (runM m p' j).1) from HMF.out MA L Mc _ (HRO.out j h).1.len)
    have HC0 := wall (show mV MA L Mc (runM m p' 0).1 = ML1 from HML1.out)
    have HCN := wall (show mV MA L Mc (runM m p' nb).1 = ML3 by rw [HQ.out]; exact HML3.out)
    obtain ⟨CL, hCL⟩ : ∃ f : Nat → List Value, (fun j => mV MA L Mc (runM m p' j).1) = f := ⟨_, rfl⟩
    have hcl : ∀ j, mV MA L Mc (runM m p' j).1 = CL j := fun j => by rw [← hCL]
    unfold StepOut at HST
    simp only [hcl] at HST HCM HC0 HCN
    clear hCL hcl
    go_wp2_with fail
    go_loopg [31] nb (fun gm s31 wr => ∃ (j : Nat) (z : Int), j + gm = nb ∧ z = 16 * j ∧ s31 = .int .i64 z ∧ Wall (Blk wr gv 96 (CL j).toArray) ∧ Wall (Below w11.heap.size w11 wr))
    case atStart => exact ⟨0, 0, by omega, by omega, rfl, by rw [HC0.out]; exact HV12, HB12⟩
    case round =>
      clear HV12 HB12
      obtain ⟨j, z', hg, hz, rfl, HV, HB⟩ := hrel
      have HG := wall hg
      have HZJ := wall hz
      have hj : j ≤ nb := by omega
      clear hg
      by_cases hlt : j < nb
      · have hlt' : z' < (n' : Int) := by have := HN.out; omega
        have hz0 : 0 ≤ z' := by omega
        have hz1 : z' ≤ 1000 := by omega
        obtain ⟨sb, so, sc, hsl, hsb, hrg⟩ := blk_part (HF.out.now).1.1.1.1.1.1.2 HPL.out.1 HC7.out.1 (i := j) (by have := HN.out; omega)
        have hsz := hsl z' hz
        have HSZ := wall hsz
        have HRG := wall hrg
        have hst := HST.out j hlt
        have hbk := HBK.out j hlt
        have HCI := wall (HCM.out j hj)
        have HCJ := wall (HCM.out (j + 1) (by omega))
        obtain ⟨b, hb⟩ : ∃ x, blkAt p' j = x := ⟨_, rfl⟩
        obtain ⟨x, hx⟩ : ∃ x, (stepM (runM m p' j).1 (blkAt p' j)).2 = x := ⟨_, rfl⟩
        rw [hx, hb] at hst
        rw [hb] at hbk HRG
        obtain ⟨CI, hCI⟩ : ∃ x, CL j = x := ⟨_, rfl⟩
        obtain ⟨CJ, hCJ⟩ : ∃ x, CL (j + 1) = x := ⟨_, rfl⟩
        rw [hCI] at hst HCI HV
        rw [hCJ] at hst HCJ
        have HCJE := wall hCJ
        have HSTJ := wall hst
        have HSB1 := wall (show (Tryd.prog.info? 90).map (·.size) = some (b8 b).size by rw [b8_size, hbk.1]; exact blk_info16)
        clear hz hsl hrg hst hbk hb hx hCI hCJ hsz
        go_upto_region 18 with fail
        refine RelG.wp_region_fl 12 [11] [(124, .const (.tuple #[.agg CJ.toArray, .agg (b8 x)])), (115, .const (.tuple #[.agg CJ.toArray, .agg (b8 x)]))] (by kernel_rfl) (by kernel_rfl) rfl (fun _ _ _ _ _ h => h) ?_
        simp only [List.take_succ_cons, List.take_zero, List.drop_succ_cons, List.drop_zero, Act.put, List.setIfInBounds_toArray, List.set_cons_zero, List.set_cons_succ]
        repeat (first | (refine RelG.tree_quiet rfl rfl rfl (fun K hK => ?_); go_big_quiet_op; refine hK _ ?_; clear hK K) | (refine RelG.tree_pure rfl rfl rfl (.agg CI.toArray) (fun W hW _ => Rel.exec_load _ _ rfl gv 0 rfl _ _ (Blk.range (hW.blk HV.out.drew)) Tryd.underlying96 rfl HCI.out.1) ?_; simp only [Act.put, List.setIfInBounds_toArray, List.set_cons_zero, List.set_cons_succ]) | (refine RelG.tree_pure rfl rfl rfl (.slice (some ⟨sb, so, none⟩) 16 sc) (fun W hW _ => Rel.exec_slice _ _ _ _ rfl _ (HSZ.out W)) ?_; simp only [Act.put, List.setIfInBounds_toArray, List.set_cons_zero, List.set_cons_succ]) | (refine RelG.tree_pure rfl rfl rfl (.pointer (some ⟨sb, so, none⟩)) (fun W hW _ => Rel.exec_arr _ _ _ rfl 16 _ 16 sc rfl Tryd.underlying90 (Nat.le_refl _)) ?_; simp only [Act.put, List.setIfInBounds_toArray, List.set_cons_zero, List.set_cons_succ]) | (refine RelG.tree_pure rfl rfl rfl (.agg (b8 b)) (fun W hW _ => Rel.exec_load _ _ rfl sb so rfl _ _ (range_below HRG.out hsb (below_then HB.out hW.undrew (Nat.le_refl _))) Tryd.underlying90 rfl HSB1.out) ?_; simp only [Act.put, List.setIfInBounds_toArray, List.set_cons_zero, List.set_cons_succ]) | (refine RelG.tree_const rfl (.tuple #[.agg CJ.toArray, .agg (b8 x)]) rfl (fun W hW _ => by (have hq := (HF.out.at (below_then HB.out hW.undrew (Nat.le_refl _))).1.1.1.1.1.1.1.1.2; unfold RelG.relAt; go_simp; show Calls _ _ _ _ _; exact const_call (HSTJ.out W hq))) ?_; simp only [Act.put, List.setIfInBounds_toArray, List.set_cons_zero, List.set_cons_succ]) | (refine RelG.tree_const rfl (.tuple #[.agg CJ.toArray, .agg (b8 x)]) rfl (fun W hW _ => by (unfold RelG.relAt; go_simp; exact ⟨Rel.Grow.refl _, rfl⟩)) ?_; simp only [Act.put, List.setIfInBounds_toArray, List.set_cons_zero, List.set_cons_succ]) | (refine RelG.tree_pure rfl rfl rfl (.agg CJ.toArray) (fun W hW _ => exec_extract _ _ rfl _ rfl ⟨_, _, rfl, rfl⟩) ?_; simp only [Act.put, List.setIfInBounds_toArray, List.set_cons_zero, List.set_cons_succ]) | (refine RelG.tree_pure rfl rfl rfl (.agg (b8 x)) (fun W hW _ => exec_extract _ _ rfl _ rfl ⟨_, _, rfl, rfl⟩) ?_; simp only [Act.put, List.setIfInBounds_toArray, List.set_cons_zero, List.set_cons_succ]))
        intro W hW _
        have HVW := wall (HV.out.next hW.undrew rfl)
        have HBW := wall (below_then HB.out hW.undrew (Nat.le_refl _))
        clear hW HV HB HRG HSTJ HSZ
        go_upto_region 17 with (refine wpList_set_row rfl 96 (.tmp 30) (.tmp 125) rfl gv CJ.toArray rfl rfl 96 CI.toArray HVW.out HCJ.out.1 (HCI.out.2.1.symm.trans HCJ.out.2.1) HCJ.out.2.2 ?_; intro w14 K F)
        have HVZ := wall (show Blk w14 gv 96 (CL (j + 1)).toArray by rw [HCJE.out]; exact K.out)
        have HBZ := wall (Below.frm HBW.out F.out (Nat.le_refl _) (fun x hx => by have := HGV.out; simp at hx; omega))
        clear K F HVW HBW
        go_wp2_with fail
        go_light
        go_roundg (nb - (j + 1))
        case measure => have := HG.out; omega
        case rel => exact ⟨j + 1, z' + 16, by omega, by have := HZJ.out; omega, rfl, HVZ, HBZ⟩
      · have hlt' : ¬ z' < (n' : Int) := by have := HN.out; omega
        have hjn : j = nb := by omega
        rw [hjn, HCN.out] at HV
        have HATA := wall (fun W => show Calls Tryd.prog 61 #[.agg ML3.toArray] W (BkOut W m2.v) from by
          rw [← HML3.out]
          exact mat_any _ MA L Mc m2 W (mvF MA L Mc m2 HM2.out) HM2.out)
        have HATB := wall (fun W => show Calls Tryd.prog 61 #[.agg ML1.toArray] W (BkOut W st) from by
          have := mat_any _ MA L Mc m W (mvF MA L Mc m HOK.out.len) HOK.out.len
          rw [HML1.out] at this
          rw [← HM.out] at this
          exact this)
        have HSAM := wall (fun W v (hv : OwnB W 0 v all) (hN : Nats .u8 256 W W.heap.size A10 all) => show Calls Tryd.prog 29 #[v, .slice A10 n' c10] W (fun e w' => e = .returned (.bool true) ∧ Below W.heap.size W w') by
          obtain ⟨A', c', rfl, _, _, h3⟩ := own_cut hv HALL.out.2
          rw [HALL.out.1]
          exact same_bel A' A10 n' c' c10 all all true W HALL.out.1 HALL.out.1 (by have := HNM.out; omega) h3 hN (decide_eq_true rfl))
        have HJN := wall (fun W g (hK : Blk W g 53 #[.slice A8 (16 * ka) c8, .slice A9 (16 * (nb - ka)) c9]) (h1 : Nats .u8 256 W W.heap.size A8 oa) (h2 : Nats .u8 256 W W.heap.size A9 ob) => show Calls Tryd.prog 31 #[.slice (some ⟨g, 0, none⟩) 2 2] W (BytesOut W all) by
          have := join_gen g 0 2 2 [⟨A8, c8, oa⟩, ⟨A9, c9, ob⟩] W rfl (by decide) hK.lt (fun q r hr => by
            rw [hK.cell]
            match q, hr with
            | 0, hr => obtain rfl : _ = r := by simpa using hr
                       simp [HOA.out.1]
            | 1, hr => obtain rfl : _ = r := by simpa using hr
                       simp [HOB.out.1]) (fun r hr => by
            simp only [List.mem_cons, List.not_mem_nil, or_false] at hr
            rcases hr with rfl | rfl
            · exact ⟨by rw [HOA.out.1]; have := HKN.out.2; have := hnb8; omega, HA8.out.2, h1⟩
            · exact ⟨by rw [HOB.out.1]; omega, HA9.out.2, h2⟩)
          have e : joinP [⟨A8, c8, oa⟩, ⟨A9, c9, ob⟩] = all := by rw [← HAL.out]; simp [joinP]
          rw [e] at this
          exact this)
        obtain ⟨v2, hv2⟩ : ∃ x, m2.v = x := ⟨_, rfl⟩
        have hvl := HM2.out
        rw [hv2] at HATA hvl
        have he1 := fun W => eq_arr W 16 90 v2 v2 hvl hvl Tryd.underlying90
        have he2 := fun W => eq_arr W 16 90 st st HSL.out.1 HSL.out.1 Tryd.underlying90
        rw [decide_eq_true rfl] at he1 he2
        clear hv2 hvl hlt hjn HG
        go_wp2_with fail
        refine RelG.wp_region_rel 30 [(132, .any (JnV A8 A9 c8 c9 (16 * ka) (16 * (nb - ka))) JnV.grow), (133, .any (fun v W => OwnB W 0 v all) own_grow), (135, .const (.bool true)), (139, .const (.agg (b8 v2))), (141, .const (.agg (b8 v2))), (146, .const (.agg (b8 v2))), (148, .const (.agg (b8 v2))), (153, .const (.agg (b8 st)))] (by kernel_rfl) (by kernel_rfl) ?_
        simp only [List.take_succ_cons, List.take_zero, List.drop_succ_cons, List.drop_zero, Act.put, List.setIfInBounds_toArray, List.set_cons_zero, List.set_cons_succ]
        repeat (refine RelG.tree_quiet rfl rfl rfl (fun K hK => ?_); go_big_quiet_op; refine hK _ ?_; clear hK K)
        refine RelG.tree_rel rfl (JnV A8 A9 c8 c9 (16 * ka) (16 * (nb - ka))) JnV.grow rfl (fun W hW _ => ?_) (fun v132 => ?_)
        · unfold RelG.relAt
          go_simp
          exact ⟨Rel.Grow.alloc _ _, W.heap.size, rfl, Blk.new _ _ _⟩
        simp only [Act.put, List.setIfInBounds_toArray, List.set_cons_zero, List.set_cons_succ]
        refine RelG.tree_rel rfl (fun v W => OwnB W 0 v all) own_grow rfl (fun W hW hF => ?_) (fun v133 => ?_)
        · obtain ⟨g, rfl, hK⟩ : JnV A8 A9 c8 c9 (16 * ka) (16 * (nb - ka)) v132 W := hF 132 (by decide)
          have hq := (HF.out.at (below_then HB.out hW.undrew (Nat.le_refl _)))
          clear hF
          unfold RelG.relAt; go_simp; show Calls _ _ _ _ _
          exact Calls.mono (HJN.out W g hK hq.1.1.1.1.2 hq.1.1.2) fun e w' ⟨v, h1, h2, h3⟩ => ⟨v, h1, h3, own_less h2 (Nat.zero_le _)⟩
        simp only [Act.put, List.setIfInBounds_toArray, List.set_cons_zero, List.set_cons_succ]
        (refine RelG.tree_quiet rfl rfl rfl (fun K hK => ?_); go_big_quiet_op; refine hK _ ?_; clear hK K)
        refine RelG.tree_const rfl (.bool true) rfl (fun W hW hF => ?_) ?_
        · have hv : OwnB W 0 v133 all := hF 133 (by decide)
          have hq := (HF.out.at (below_then HB.out hW.undrew (Nat.le_refl _)))
          clear hF
          unfold RelG.relAt; go_simp; show Calls _ _ _ _ _
          exact const_call (HSAM.out W v133 hv hq.1.2)
        simp only [Act.put, List.setIfInBounds_toArray, List.set_cons_zero, List.set_cons_succ]
        repeat (first | (refine RelG.tree_quiet rfl rfl rfl (fun K hK => ?_); go_big_quiet_op; refine hK _ ?_; clear hK K) | (refine RelG.tree_pure rfl rfl rfl (.agg ML3.toArray) (fun W hW _ => Rel.exec_load _ _ rfl g9 0 rfl _ _ (Blk.range (HF.out.at (below_then HB.out hW.undrew (Nat.le_refl _))).1.1.1.2) Tryd.underlying96 rfl HF3.out.1) ?_; simp only [Act.put, List.setIfInBounds_toArray, List.set_cons_zero, List.set_cons_succ]) | (refine RelG.tree_pure rfl rfl rfl (.agg ML3.toArray) (fun W hW _ => Rel.exec_load _ _ rfl g11 0 rfl _ _ (Blk.range (HF.out.at (below_then HB.out hW.undrew (Nat.le_refl _))).2) Tryd.underlying96 rfl HF4.out.1) ?_; simp only [Act.put, List.setIfInBounds_toArray, List.set_cons_zero, List.set_cons_succ]) | (refine RelG.tree_pure rfl rfl rfl (.agg ML3.toArray) (fun W hW _ => Rel.exec_load _ _ rfl gv 0 rfl _ _ (Blk.range (hW.blk HV.out.drew)) Tryd.underlying96 rfl HF4.out.1) ?_; simp only [Act.put, List.setIfInBounds_toArray, List.set_cons_zero, List.set_cons_succ]) | (refine RelG.tree_pure rfl rfl rfl (.agg ML1.toArray) (fun W hW _ => Rel.exec_load _ _ rfl g5 0 rfl _ _ (Blk.range (HF.out.at (below_then HB.out hW.undrew (Nat.le_refl _))).1.1.1.1.1.1.1.1.1.2) Tryd.underlying96 rfl HF1.out.1) ?_; simp only [Act.put, List.setIfInBounds_toArray, List.set_cons_zero, List.set_cons_succ]) | (refine RelG.tree_pure rfl rfl rfl (.agg (b8 st)) (fun W hW _ => Rel.exec_load _ _ rfl (w.heap.size + 1) 0 rfl _ _ (Blk.range (HF.out.at (below_then HB.out hW.undrew (Nat.le_refl _))).1.1.1.1.1.1.1.1.1.1.2) Tryd.underlying90 rfl HSB.out) ?_; simp only [Act.put, List.setIfInBounds_toArray, List.set_cons_zero, List.set_cons_succ]) | (refine RelG.tree_const rfl (.agg (b8 v2)) rfl (fun W hW _ => by (unfold RelG.relAt; go_simp; show Calls _ _ _ _ _; exact const_call (HATA.out W))) ?_; simp only [Act.put, List.setIfInBounds_toArray, List.set_cons_zero, List.set_cons_succ]) | (refine RelG.tree_const rfl (.agg (b8 st)) rfl (fun W hW _ => by (unfold RelG.relAt; go_simp; show Calls _ _ _ _ _; exact const_call (HATB.out W))) ?_; simp only [Act.put, List.setIfInBounds_toArray, List.set_cons_zero, List.set_cons_succ]))
        intro W hW _
        have HW := wall (HF.out.at (below_then HB.out hW.undrew (Nat.le_refl _))).1.1.1.1.1.1.1.1.1.1.1.1
        clear hW he1 he2
        go_wp2_with fail
        go_light
        go_ret
        exact ⟨rfl, HW.out⟩
theorem parts_frame (zk zs : List Int) (A : Option Addr) (n c : Nat) (p : List Nat) (kd : Int) (bk : Bool) (cu : Int) (w : World) (hkl : zk.length = 32) (hkb : ∀ z ∈ zk, (Lit.int .u8 z).wf = true) (hsl : zs.length = 16) (hsb : ∀ z ∈ zs, (Lit.int .u8 z).wf = true) (hk : (Lit.int .u8 kd).wf = true) (hc : (Lit.int .u8 cu).wf = true) (hpn : p.length = n) (hnm : n ≤ maxLen) (hz : Nats .u8 256 w w.heap.size A p) :
    Calls Tryd.prog 11 #[.agg (zk.map (Value.int .u8)).toArray, .agg (zs.map (Value.int .u8)).toArray, .slice A n c, .int .u8 kd, .bool bk, .int .u8 cu] w (TrueBelow w) := by
  obtain ⟨h1, h2⟩ := Slot.u8_ints zk hkb
  obtain ⟨h3, h4⟩ := Slot.u8_ints zs hsb
  have hb := bounds_u8 hk
  have hb2 := bounds_u8 hc
  obtain ⟨d, rfl⟩ : ∃ d : Nat, kd = (d : Int) := ⟨kd.toNat, by omega⟩
  obtain ⟨d2, rfl⟩ : ∃ d : Nat, cu = (d : Int) := ⟨cu.toNat, by omega⟩
  rw [h1, h3]
  exact parts_any _ _ A n c p d bk d2 w (by rw [List.length_map]; exact hkl) h2 (by rw [List.length_map]; exact hsl) h4 hpn hnm hz (by omega) (by omega)
end Aes
end Go.Proofs.YtpakdcgcgekcfaaDoor

/-
  What a law's arguments read as: 'flat' types (whose cells are all integers or bools), by value and as elements of a slice; and that all arguments read behind the call as they did. No program in sight.
-/
set_option linter.unusedSimpArgs false
set_option linter.unusedVariables false
namespace Go.Proofs.YtpakdcgcgekcfaaDoor
open Go.RowKit

/-- A cell's kind: an integer's, or none: a bool. -/
def fit1 : Option IntKind → Value → Prop
  | none, v => ∃ b, v = .bool b
  | some k, v => ∃ n, v = .int k n ∧ (Lit.int k n).wf = true
def Fits : List (Option IntKind) → List Value → Prop
  | [], [] => True
  | k :: ks, v :: vs => fit1 k v ∧ Fits ks vs
  | _, _ => False

theorem Fits.append : ∀ {a b : List (Option IntKind)} {x y : List Value}, Fits a x → Fits b y → Fits (a ++ b) (x ++ y)
  | [], _, [], _, _, h => h
  | _ :: _, _, _ :: _, _, h, h' => ⟨h.1, Fits.append h.2 h'⟩
theorem Fits.length : ∀ {a : List (Option IntKind)} {x : List Value}, Fits a x → x.length = a.length
  | [], [], _ => rfl
  | _ :: _, _ :: _, h => by simp [Fits.length h.2]
theorem Fits.cons {k : Option IntKind} {ks : List (Option IntKind)} {l : List Value} (h : Fits (k :: ks) l) : ∃ v vs, l = v :: vs ∧ fit1 k v ∧ Fits ks vs := by
  cases l with
  | nil => exact h.elim
  | cons v vs => exact ⟨v, vs, rfl, h.1, h.2⟩
theorem Fits.nil {l : List Value} (h : Fits [] l) : l = [] := by
  cases l with
  | nil => rfl
  | cons v vs => exact h.elim
theorem Fits.get : ∀ {a : List (Option IntKind)} {x : List Value}, Fits a x → ∀ (i : Nat) (k : Option IntKind), a[i]? = some k → ∃ v, x[i]? = some v ∧ fit1 k v
  | _ :: _, _ :: _, h, 0, _, hk => by simp at hk; subst hk; exact ⟨_, rfl, h.1⟩
  | _ :: _, _ :: _, h, i + 1, k, hk => by simpa using Fits.get h.2 i k (by simpa using hk)
theorem Fits.flatten : ∀ {l : List (List (Option IntKind))} {cs : List Value}, cs.length = l.flatten.length →
    (∀ (i : Nat) (a : List (Option IntKind)), l[i]? = some a → Fits a ((cs.drop (l.take i).flatten.length).take a.length)) → Fits l.flatten cs
  | [], cs, hl, _ => by
    obtain rfl : cs = [] := List.eq_nil_of_length_eq_zero (by simpa using hl)
    trivial
  | a :: l, cs, hl, h => by
    have h0 := h 0 a rfl
    simp at h0
    have ih := Fits.flatten (l := l) (cs := cs.drop a.length) (by simp at hl ⊢; omega) (fun i b hb => by
      have := h (i + 1) b (by simpa using hb)
      simpa [List.drop_drop] using this)
    have := h0.append ih
    simpa using this
theorem Fits.all_int : ∀ {k : IntKind} {n : Nat} {x : List Value}, Fits (List.replicate n (some k)) x → ∃ zs : List Int, x = zs.map (.int k) ∧ zs.length = n ∧ ∀ z ∈ zs, (Lit.int k z).wf = true
  | k, 0, [], _ => ⟨[], rfl, rfl, by simp⟩
  | k, n + 1, v :: vs, h => by
    obtain ⟨⟨z, rfl, hz⟩, h2⟩ := h
    obtain ⟨zs, rfl, hl, hw⟩ := Fits.all_int h2
    exact ⟨z :: zs, rfl, by simp [hl], by simpa using ⟨hz, hw⟩⟩

/-- The kinds of a type's cells, where they are all integers or bools. -/
def flat (P : Program) : Nat → TypeId → Option (List (Option IntKind))
  | 0, _ => none
  | m + 1, t => match P.underlying t with
    | some .bool => some [none]
    | some (.int k) => some [some k]
    | some (.struct fs) => match fs.toList.mapM (fun f => flat P m f.type) with
      | some l => if l.flatten.length = P.cellsOf t ∧ ((List.range fs.size).all fun i => match fs[i]?, l[i]? with | some f, some a => f.offset == (l.take i).flatten.length && a.length == P.cellsOf f.type | _, _ => false) = true then some l.flatten else none
      | none => none
    | some (.array n e) => match flat P m e with
      | some a => if a.length = P.cellsOf e ∧ n * a.length = P.cellsOf t then some (List.replicate n a).flatten else none
      | none => none
    | _ => none

theorem flatten_replicate_len {α : Type} (a : List α) : ∀ n, (List.replicate n a).flatten.length = n * a.length
  | 0 => by simp
  | n + 1 => by simp

section
variable {H : Type} {enc : TypeId × Value → H} {P : Program} {w : World} {base : Nat} {spare : Nat → Bool} {held : Bool}
theorem flat_fits : ∀ {m : Nat} {t : TypeId} {ks : List (Option IntKind)} {fuel : Nat} {cs : List Value} {x : DataW H × List MemPlace},
    flat P m t = some ks → DataW.trod enc P w base spare held fuel t cs = some x → Fits ks cs := by
  intro m
  induction m with
  | zero => intro t ks fuel cs x h; simp [flat] at h
  | succ m ih =>
    intro t ks fuel cs x h hx
    unfold flat at h
    split at h
    · rename_i ht
      cases h
      cases fuel with
      | zero => simp [DataW.trod] at hx
      | succ n =>
        unfold DataW.trod at hx
        rw [ht] at hx
        split at hx <;> simp_all [Fits, fit1]
    · rename_i k ht
      cases h
      cases fuel with
      | zero => simp [DataW.trod] at hx
      | succ n =>
        unfold DataW.trod at hx
        rw [ht] at hx
        split at hx <;> simp_all [Fits, fit1]
    · rename_i fs ht
      obtain ⟨xs, n, _, _, hlen, _, hf⟩ := DataW.trod_struct ht hx
      split at h
      · rename_i l hl
        split at h
        · rename_i hc
          cases h
          refine Fits.flatten (by rw [hlen, hc.1]) (fun i a ha => ?_)
          have hi : i < l.length := (List.getElem?_eq_some_iff.1 ha).1
          have hif : i < fs.size := by have := mapM_some_length hl; simp at this; omega
          have hfi : fs[i]? = some fs[i] := Array.getElem?_eq_getElem hif
          have hall := List.all_eq_true.1 hc.2 i (by simpa using hif)
          rw [hfi, ha] at hall
          simp only [Bool.and_eq_true, beq_iff_eq] at hall
          have hfl := mapM_some_get hl i fs[i] (by simp [hfi])
          rw [ha] at hfl
          have ht' := hf i fs[i] hfi
          rw [hall.1, ← hall.2] at ht'
          have hxi : i < xs.length := by omega
          rw [List.getElem?_eq_getElem hxi] at ht'
          exact ih hfl ht'
        · cases h
      · cases h
    · rename_i k e ht
      obtain ⟨xs, n, _, _, hlen, hxl, hf⟩ := DataW.trod_array ht hx
      split at h
      · rename_i a ha
        split at h
        · rename_i hc
          cases h
          refine Fits.flatten (by rw [hlen, flatten_replicate_len, hc.2]) (fun i b hb => ?_)
          obtain ⟨hi, rfl⟩ := List.getElem?_eq_some_iff.1 hb
          have hik : i < k := by simpa using hi
          have ht' := hf i hik
          rw [List.getElem?_eq_getElem (by omega)] at ht'
          have hb2 : (List.replicate k a)[i] = a := by simp
          rw [hb2, List.take_replicate, flatten_replicate_len, Nat.min_eq_left (by omega), hc.1]
          exact ih ha ht'
        · cases h
      · cases h
    · cases h

/-- A slice of flat elements that came in: nil, or a row of 'cap' elements of 'size' cells (the first 'len' are its own, the rest spare). -/
def RowsOf (w : World) (size : Nat) (ks : List (Option IntKind)) (a : Option Addr) (len cap : Nat) (rows : List (List Value)) : Prop :=
  (a = none ∧ len = 0 ∧ cap = 0 ∧ rows = []) ∨
  ∃ x, a = some x ∧ len ≤ cap ∧ cap ≤ maxLen ∧ rows.length = cap ∧ ∀ (i : Nat) (r : List Value), rows[i]? = some r → Fits ks r ∧ ∀ (j : Nat) (v : Value), r[j]? = some v → w.cell? (x.add (i * size + j)) = some v

theorem rows_ints {w : World} {k : IntKind} {a : Option Addr} {len cap : Nat} {rows : List (List Value)} (h : RowsOf w 1 [some k] a len cap rows) : ∃ zs : List Int, zs.length = len ∧ len ≤ cap ∧ cap ≤ maxLen ∧ Ints k w w.heap.size a zs := by
  rcases h with ⟨rfl, rfl, rfl, rfl⟩ | ⟨x, rfl, hl, hm, hr, hx⟩
  · exact ⟨[], rfl, Nat.le_refl _, Nat.zero_le _, fun i z hz => by simp at hz⟩
  · have hone : ∀ i, i < cap → ∃ z : Int, (Lit.int k z).wf = true ∧ w.cell? (x.add i) = some (.int k z) := fun i hi => by
      obtain ⟨hf, hc⟩ := hx i (rows[i]'(by omega)) (List.getElem?_eq_getElem _)
      obtain ⟨v, vs, e, ⟨z, rfl, hz⟩, _⟩ := Fits.cons hf
      have := hc 0 (.int k z) (by rw [e]; rfl)
      exact ⟨z, hz, by simpa using this⟩
    have hone' : ∀ i, ∃ z : Int, i < cap → (Lit.int k z).wf = true ∧ w.cell? (x.add i) = some (.int k z) := fun i => by
      rcases Nat.lt_or_ge i cap with h | h
      · obtain ⟨z, hz⟩ := hone i h
        exact ⟨z, fun _ => hz⟩
      · exact ⟨0, fun h' => absurd h' (by omega)⟩
    obtain ⟨f, hf⟩ : ∃ f : Nat → Int, ∀ i, i < cap → (Lit.int k (f i)).wf = true ∧ w.cell? (x.add i) = some (.int k (f i)) := ⟨fun i => Classical.choose (hone' i), fun i => Classical.choose_spec (hone' i)⟩
    refine ⟨(List.range len).map f, by simp, hl, hm, fun i z hz => ?_⟩
    have hi : i < len := by have := (List.getElem?_eq_some_iff.1 hz).1; simpa using this
    rw [List.getElem?_map, List.getElem?_range hi] at hz
    obtain rfl := Option.some.inj hz
    obtain ⟨h1, h2⟩ := hf i (by omega)
    obtain ⟨_, h20⟩ := hf 0 (by omega)
    obtain ⟨b, off, spot⟩ := x
    have hspot : spot = none := by simpa [Addr.add] using World.cell?_spot h20
    subst hspot
    rw [Go.WideShapes.add_plain] at h2
    exact ⟨h1, b, off, rfl, cell_lt h2, h2⟩
theorem ints_nats {k : IntKind} {w : World} {B M : Nat} {a : Option Addr} {zs : List Int} (hM : ∀ z : Int, (Lit.int k z).wf = true → 0 ≤ z ∧ z < M) (h : Ints k w B a zs) : Nats k M w B a (zs.map Int.toNat) := fun i z hz => by
  rw [List.getElem?_map] at hz
  cases hzi : zs[i]? with
  | none => rw [hzi] at hz; cases hz
  | some y =>
    rw [hzi] at hz
    obtain rfl := Option.some.inj hz
    obtain ⟨h1, b, off, h2, h3, h4⟩ := h i y hzi
    obtain ⟨h5, h6⟩ := hM y h1
    exact ⟨by omega, b, off, h2, h3, by rw [h4, Int.toNat_of_nonneg h5]⟩

theorem open_flat {r : Reach} {b0 : Nat} {t : TypeId} {m : Nat} {ks : List (Option IntKind)} {v : Value} {d : DataW H} {p : List MemPlace} (hfl : flat P m t = some ks) (hs : (∃ fs, P.underlying t = some (.struct fs)) ∨ ∃ n e, P.underlying t = some (.array n e))
    (hv : Value.okWide P w r b0 t v) (h : DataW.Trod enc P w base spare held t v d p) : ∃ cs, v = .agg cs ∧ Fits ks cs.toList := by
  obtain ⟨cs, rfl⟩ : ∃ cs, v = .agg cs := by
    rcases hs with ⟨fs, hs⟩ | ⟨n, e, hs⟩
    · obtain ⟨cs, h, _⟩ := WideShapes.okWide_struct hs hv; exact ⟨cs, h⟩
    · simp only [Value.okWide, hs] at hv
      obtain ⟨cs, h, _⟩ := hv
      exact ⟨cs, h⟩
  obtain ⟨fuel, hf⟩ := h
  exact ⟨cs, rfl, flat_fits hfl (by simpa [Value.cells] using hf)⟩

theorem open_rows {t e : TypeId} {m fuel size : Nat} {ks : List (Option IntKind)} {a : Option Addr} {len cap : Nat} {x : DataW H × List MemPlace} (ht : P.underlying t = some (.slice e)) (hfl : flat P m e = some ks) (hsz : P.cellsOf e = size)
    (h : DataW.trod enc P w base (fun _ => true) held fuel t [.slice a len cap] = some x) : ∃ rows, RowsOf w size ks a len cap rows := by
  rcases Go.Deep.open_slice ht h with ⟨h0, _⟩ | ⟨a', len', cap', mm, n, D, Pl, hcs, _, hl, hm, hmm, _, hi⟩
  · simp at h0
    obtain ⟨rfl, rfl, rfl⟩ := h0
    exact ⟨[], .inl ⟨rfl, rfl, rfl, rfl⟩⟩
  · simp at hcs
    obtain ⟨rfl, rfl, rfl⟩ := hcs
    simp at hmm
    subst hmm
    have hex : ∀ i, ∃ r, i < mm → (Fits ks r ∧ ∀ (j : Nat) (v : Value), r[j]? = some v → w.cell? (a'.add (i * size + j)) = some v) := fun i => by
      rcases Nat.lt_or_ge i mm with hlt | hge
      · obtain ⟨cs', hc, ht'⟩ := hi i hlt
        obtain ⟨_, hcl, hat⟩ := World.cells?_some hc
        refine ⟨cs', fun _ => ⟨flat_fits hfl ht', fun j v hv => ?_⟩⟩
        have hj : j < cs'.length := (List.getElem?_eq_some_iff.1 hv).1
        have h2 := hat j (by omega)
        rw [Go.Deep.add_add] at h2
        rw [hsz] at h2
        rw [h2, hv]
      · exact ⟨[], fun h => absurd h (by omega)⟩
    refine ⟨(List.range mm).map fun i => Classical.choose (hex i), .inr ⟨a', rfl, hl, hm, by simp, fun i r hr => ?_⟩⟩
    have hlt : i < mm := by have := (List.getElem?_eq_some_iff.1 hr).1; simpa using this
    have hr' : r = Classical.choose (hex i) := by
      rw [List.getElem?_map, List.getElem?_range hlt] at hr
      exact (Option.some.inj hr).symm
    rw [hr']
    exact Classical.choose_spec (hex i) hlt

theorem trodAll_below (hl : laidOutB P = true) {W W' : World} (hb : Below W.heap.size W W') : ∀ {ts : List TypeId} {vs : List Value} {ds : List (DataW H)} {ps : List MemPlace},
    (ts.all fun t => P.readableRec t && decide (t < P.types.size)) = true → DataW.TrodAll enc P W 0 (fun _ => true) true ts vs ds ps → DataW.TrodAll enc P W' 0 (fun b => decide (b < W.heap.size)) true ts vs ds ps
  | [], vs, ds, ps, _, h => by
    cases vs with
    | nil => cases ds with
      | nil => exact h
      | cons _ _ => simp [DataW.TrodAll] at h
    | cons _ _ => simp [DataW.TrodAll] at h
  | t :: ts, vs, ds, ps, ha, h => by
    simp only [List.all_cons, Bool.and_eq_true, decide_eq_true_eq] at ha
    obtain ⟨v, vs', d, ds', p, q, rfl, rfl, rfl, h0, h1⟩ := ChangeShapes.trodAll_cons h
    have lt0 : ∀ x ∈ p, x.block < W.heap.size := by obtain ⟨m, hm⟩ := h0; exact DataW.trod_lt m _ _ _ hm
    exact trodAll_cons_mk (Below.trod hl ha.1.1 ha.1.2 h0 hb lt0) (trodAll_below hl hb ha.2 h1)

/-- A law's end: true, and nothing that was there has turned. -/
theorem law_end {fn : Func} {s : ChangeSpec} {tb : TypeId} {W W' : World} {args : Array Value} {ds gs : List (DataW H)} {before : List MemPlace} {e : Ending} (hl : laidOutB P = true)
    (hts : (fn.params.toList.all fun t => P.readableRec t && decide (t < P.types.size)) = true) (hW : DataW.Whole enc P fn.params.toList s.vars false W args.toList ds gs before) (hvars : s.vars = [])
    (hres : fn.resultTypes = #[tb]) (htb : P.underlying tb = some .bool) (hspec : gs = [] → (s.fn H (ds ++ gs)) = { results := [.lit (.bool true)], args := ds }) (he : e = .returned (.bool true)) (hb : Below W.heap.size W W') :
    ∃ v, e = .returned v ∧ s.post enc P fn false true false false W args v W' := by
  have hW' := hW
  obtain ⟨p, q, hA, hV, hpq, hfz, hnd⟩ := hW
  rw [hvars] at hV
  obtain ⟨rfl, rfl⟩ := ChangeShapes.trodVars_none hV
  have hs := hspec rfl
  refine ⟨_, he, ds, [], before, [], p, [], hW', ?_, ?_, ?_, hb.frame _, fun h => by cases h⟩
  · rw [hs, hres]
    exact ChangeShapes.trodAll_mk1 (RowKit.shut_bool htb true)
  · rw [hs]
    exact trodAll_below hl hb hts hA
  · rw [hvars, hs]
    rfl
end
end Go.Proofs.YtpakdcgcgekcfaaDoor

/-
  What a law's arguments read as, wider: types whose cells are integers, bools, strings and slices of integers; slices of such. No program in sight.
-/
set_option linter.unusedSimpArgs false
set_option linter.unusedVariables false
namespace Go.Proofs.YtpakdcgcgekcfaaDoor
open Go.RowKit

/-- A cell's kind. -/
inductive Kd where
  | bool
  | int (k : IntKind)
  | str
  | sl (k : IntKind)
def fitW (w : World) : Kd → Value → Prop
  | .bool, v => ∃ b, v = .bool b
  | .int k, v => ∃ n, v = .int k n ∧ (Lit.int k n).wf = true
  | .str, v => ∃ s : ByteArray, v = .string s ∧ s.size ≤ maxLen
  | .sl k, v => ∃ (a : Option Addr) (len cap : Nat) (zs : List Int), v = .slice a len cap ∧ zs.length = len ∧ len ≤ cap ∧ cap ≤ maxLen ∧ Ints k w w.heap.size a zs
def FitsW (w : World) : List Kd → List Value → Prop
  | [], [] => True
  | k :: ks, v :: vs => fitW w k v ∧ FitsW w ks vs
  | _, _ => False
theorem FitsW.append {w : World} : ∀ {a b : List Kd} {x y : List Value}, FitsW w a x → FitsW w b y → FitsW w (a ++ b) (x ++ y)
  | [], _, [], _, _, h => h
  | _ :: _, _, _ :: _, _, h, h' => ⟨h.1, FitsW.append h.2 h'⟩
theorem FitsW.cons {w : World} {k : Kd} {ks : List Kd} {l : List Value} (h : FitsW w (k :: ks) l) : ∃ v vs, l = v :: vs ∧ fitW w k v ∧ FitsW w ks vs := by
  cases l with
  | nil => exact h.elim
  | cons v vs => exact ⟨v, vs, rfl, h.1, h.2⟩
theorem FitsW.nil {w : World} {l : List Value} (h : FitsW w [] l) : l = [] := by
  cases l with
  | nil => rfl
  | cons v vs => exact h.elim
theorem FitsW.split {w : World} : ∀ {a b : List Kd} {x : List Value}, FitsW w (a ++ b) x → ∃ y z, x = y ++ z ∧ FitsW w a y ∧ FitsW w b z
  | [], _, x, h => ⟨[], x, rfl, trivial, h⟩
  | k :: a, b, v :: x, h => by
    obtain ⟨y, z, rfl, h1, h2⟩ := FitsW.split (a := a) (b := b) h.2
    exact ⟨v :: y, z, rfl, ⟨h.1, h1⟩, h2⟩
theorem FitsW.all_int {w : World} : ∀ {k : IntKind} {n : Nat} {x : List Value}, FitsW w (List.replicate n (.int k)) x → ∃ zs : List Int, x = zs.map (.int k) ∧ zs.length = n ∧ ∀ z ∈ zs, (Lit.int k z).wf = true
  | k, 0, [], _ => ⟨[], rfl, rfl, by simp⟩
  | k, n + 1, v :: vs, h => by
    obtain ⟨⟨z, rfl, hz⟩, h2⟩ := h
    obtain ⟨zs, rfl, hl, hw⟩ := FitsW.all_int h2
    exact ⟨z :: zs, rfl, by simp [hl], by simpa using ⟨hz, hw⟩⟩
theorem FitsW.flatten {w : World} : ∀ {l : List (List Kd)} {cs : List Value}, cs.length = l.flatten.length →
    (∀ (i : Nat) (a : List Kd), l[i]? = some a → FitsW w a ((cs.drop (l.take i).flatten.length).take a.length)) → FitsW w l.flatten cs
  | [], cs, hl, _ => by
    obtain rfl : cs = [] := List.eq_nil_of_length_eq_zero (by simpa using hl)
    trivial
  | a :: l, cs, hl, h => by
    have h0 := h 0 a rfl
    simp at h0
    have ih := FitsW.flatten (w := w) (l := l) (cs := cs.drop a.length) (by simp at hl ⊢; omega) (fun i b hb => by
      have := h (i + 1) b (by simpa using hb)
      simpa [List.drop_drop] using this)
    have := h0.append ih
    simpa using this
/-- The kinds of a type's cells. -/
def flatW (P : Program) : Nat → TypeId → Option (List Kd)
  | 0, _ => none
  | m + 1, t => match P.underlying t with
    | some .bool => some [.bool]
    | some (.int k) => some [.int k]
    | some .string => some [.str]
    | some (.slice e) => match P.underlying e with
      | some (.int k) => if P.cellsOf e = 1 then some [.sl k] else none
      | _ => none
    | some (.struct fs) => match fs.toList.mapM (fun f => flatW P m f.type) with
      | some l => if l.flatten.length = P.cellsOf t ∧ ((List.range fs.size).all fun i => match fs[i]?, l[i]? with | some f, some a => f.offset == (l.take i).flatten.length && a.length == P.cellsOf f.type | _, _ => false) = true then some l.flatten else none
      | none => none
    | some (.array n e) => match flatW P m e with
      | some a => if a.length = P.cellsOf e ∧ n * a.length = P.cellsOf t then some (List.replicate n a).flatten else none
      | none => none
    | _ => none
section
variable {H : Type} {enc : TypeId × Value → H} {P : Program} {w : World} {base : Nat} {held : Bool}
theorem flatW_fits : ∀ {m : Nat} {t : TypeId} {ks : List Kd} {fuel : Nat} {cs : List Value} {x : DataW H × List MemPlace},
    flatW P m t = some ks → DataW.trod enc P w base (fun _ => true) held fuel t cs = some x → FitsW w ks cs := by
  intro m
  induction m with
  | zero => intro t ks fuel cs x h; simp [flatW] at h
  | succ m ih =>
    intro t ks fuel cs x h hx
    unfold flatW at h
    split at h
    · rename_i ht
      cases h
      cases fuel with
      | zero => simp [DataW.trod] at hx
      | succ n =>
        unfold DataW.trod at hx
        rw [ht] at hx
        split at hx <;> simp_all [FitsW, fitW]
    · rename_i k ht
      cases h
      cases fuel with
      | zero => simp [DataW.trod] at hx
      | succ n =>
        unfold DataW.trod at hx
        rw [ht] at hx
        split at hx <;> simp_all [FitsW, fitW]
    · rename_i ht
      cases h
      obtain ⟨s, rfl, rfl, hw⟩ := DataW.trod_string ht hx
      exact ⟨⟨s, rfl, hw⟩, trivial⟩
    · rename_i e ht
      split at h
      · rename_i k he
        split at h
        · rename_i hc
          cases h
          have hfl : flat P 1 e = some [some k] := by simp [flat, he]
          have hcs : ∃ a len cap, cs = [.slice a len cap] := by
            rcases Go.Deep.open_slice ht hx with ⟨h0, _⟩ | ⟨a', len', cap', mm, n, D, Pl, hcs, _⟩
            · exact ⟨_, _, _, h0⟩
            · exact ⟨_, _, _, hcs⟩
          obtain ⟨a, len, cap, rfl⟩ := hcs
          obtain ⟨rows, hr⟩ := open_rows ht hfl hc hx
          obtain ⟨zs, h1, h2, h3, h4⟩ := rows_ints hr
          exact ⟨⟨a, len, cap, zs, rfl, h1, h2, h3, h4⟩, trivial⟩
        · cases h
      · cases h
    · rename_i fs ht
      obtain ⟨xs, n, _, _, hlen, _, hf⟩ := DataW.trod_struct ht hx
      split at h
      · rename_i l hl
        split at h
        · rename_i hc
          cases h
          refine FitsW.flatten (by rw [hlen, hc.1]) (fun i a ha => ?_)
          have hi : i < l.length := (List.getElem?_eq_some_iff.1 ha).1
          have hif : i < fs.size := by have := mapM_some_length hl; simp at this; omega
          have hfi : fs[i]? = some fs[i] := Array.getElem?_eq_getElem hif
          have hall := List.all_eq_true.1 hc.2 i (by simpa using hif)
          rw [hfi, ha] at hall
          simp only [Bool.and_eq_true, beq_iff_eq] at hall
          have hfl := mapM_some_get hl i fs[i] (by simp [hfi])
          rw [ha] at hfl
          have ht' := hf i fs[i] hfi
          rw [hall.1, ← hall.2] at ht'
          have hxi : i < xs.length := by omega
          rw [List.getElem?_eq_getElem hxi] at ht'
          exact ih hfl ht'
        · cases h
      · cases h
    · rename_i k e ht
      obtain ⟨xs, n, _, _, hlen, hxl, hf⟩ := DataW.trod_array ht hx
      split at h
      · rename_i a ha
        split at h
        · rename_i hc
          cases h
          have hrl : ∀ n, (List.replicate n a).flatten.length = n * a.length := flatten_replicate_len a
          refine FitsW.flatten (by rw [hlen, hrl, hc.2]) (fun i b hb => ?_)
          obtain ⟨hi, rfl⟩ := List.getElem?_eq_some_iff.1 hb
          have hik : i < k := by simpa using hi
          have ht' := hf i hik
          rw [List.getElem?_eq_getElem (by omega)] at ht'
          have hb2 : (List.replicate k a)[i] = a := by simp
          rw [hb2, List.take_replicate, hrl, Nat.min_eq_left (by omega), hc.1]
          exact ih ha ht'
        · cases h
      · cases h
    · cases h
/-- A slice of such elements that came in. -/
def RowsW (w : World) (size : Nat) (ks : List Kd) (a : Option Addr) (len cap : Nat) (rows : List (List Value)) : Prop :=
  rows.length = len ∧ len ≤ cap ∧ cap ≤ maxLen ∧ ∀ (i : Nat) (r : List Value), rows[i]? = some r → FitsW w ks r ∧ ∃ b off, a = some ⟨b, off, none⟩ ∧ ∀ (j : Nat) (v : Value), r[j]? = some v → b < w.heap.size ∧ w.cell? ⟨b, off + (i * size + j), none⟩ = some v
theorem open_rowsW {t e : TypeId} {m fuel size : Nat} {ks : List Kd} {a : Option Addr} {len cap : Nat} {x : DataW H × List MemPlace} (ht : P.underlying t = some (.slice e)) (hfl : flatW P m e = some ks) (hsz : P.cellsOf e = size) (hne : ks ≠ [])
    (h : DataW.trod enc P w base (fun _ => true) held fuel t [.slice a len cap] = some x) : ∃ rows, RowsW w size ks a len cap rows := by
  rcases Go.Deep.open_slice ht h with ⟨h0, _⟩ | ⟨a', len', cap', mm, n, D, Pl, hcs, _, hl, hm, hmm, _, hi⟩
  · simp at h0
    obtain ⟨rfl, rfl, rfl⟩ := h0
    exact ⟨[], rfl, Nat.le_refl _, Nat.zero_le _, fun i r hr => by simp at hr⟩
  · simp at hcs
    obtain ⟨rfl, rfl, rfl⟩ := hcs
    simp at hmm
    subst hmm
    have hex : ∀ i, ∃ r, i < mm → (FitsW w ks r ∧ ∀ (j : Nat) (v : Value), r[j]? = some v → w.cell? (a'.add (i * size + j)) = some v) := fun i => by
      rcases Nat.lt_or_ge i mm with hlt | hge
      · obtain ⟨cs', hc, ht'⟩ := hi i hlt
        obtain ⟨_, hcl, hat⟩ := World.cells?_some hc
        refine ⟨cs', fun _ => ⟨flatW_fits hfl ht', fun j v hv => ?_⟩⟩
        have hj : j < cs'.length := (List.getElem?_eq_some_iff.1 hv).1
        have h2 := hat j (by omega)
        rw [Go.Deep.add_add] at h2
        rw [hsz] at h2
        rw [h2, hv]
      · exact ⟨[], fun h => absurd h (by omega)⟩
    have hfirst : ∀ {r : List Value}, FitsW w ks r → ∃ v0, r[0]? = some v0 := fun {r} h1 => by
      match ks, hne, h1 with
      | k :: ks', _, h1 =>
        obtain ⟨v, vs, e, _⟩ := FitsW.cons h1
        exact ⟨v, by rw [e]; rfl⟩
    have hspot : 0 < mm → a'.spot = none := fun h0 => by
      obtain ⟨r, hr⟩ := hex 0
      obtain ⟨h1, h2⟩ := hr h0
      obtain ⟨v0, hv0⟩ := hfirst h1
      have h20 := h2 0 v0 hv0
      have := World.cell?_spot h20
      simpa [Addr.add] using this
    refine ⟨(List.range len).map fun i => Classical.choose (hex i), by simp, hl, hm, fun i r hr => ?_⟩
    have hlt : i < len := by have := (List.getElem?_eq_some_iff.1 hr).1; simpa using this
    have hr' : r = Classical.choose (hex i) := by
      rw [List.getElem?_map, List.getElem?_range hlt] at hr
      exact (Option.some.inj hr).symm
    rw [hr']
    obtain ⟨h1, h2⟩ := Classical.choose_spec (hex i) (by omega)
    refine ⟨h1, ?_⟩
    have hsp := hspot (by omega)
    obtain ⟨b, off, spot⟩ := a'
    simp only at hsp
    subst hsp
    refine ⟨b, off, rfl, fun j v hv => ?_⟩
    have := h2 j v hv
    rw [Go.WideShapes.add_plain] at this
    exact ⟨cell_lt this, this⟩
/-- A slice of strings. -/
def Strs (w : World) (B : Nat) (a : Option Addr) (ss : List ByteArray) : Prop := ∀ (i : Nat) (s : ByteArray), ss[i]? = some s → s.size ≤ maxLen ∧ ∃ b off, a = some ⟨b, off, none⟩ ∧ b < B ∧ w.cell? ⟨b, off + i, none⟩ = some (.string s)
theorem rows_strs {w : World} {a : Option Addr} {len cap : Nat} {rows : List (List Value)} (h : RowsW w 1 [.str] a len cap rows) : ∃ ss : List ByteArray, ss.length = len ∧ len ≤ cap ∧ cap ≤ maxLen ∧ Strs w w.heap.size a ss := by
  obtain ⟨h1, h2, h3, h4⟩ := h
  have hone : ∀ i, i < len → ∃ s : ByteArray, s.size ≤ maxLen ∧ ∃ b off, a = some ⟨b, off, none⟩ ∧ b < w.heap.size ∧ w.cell? ⟨b, off + i, none⟩ = some (.string s) := fun i hi => by
    obtain ⟨hf, b, off, e, hc⟩ := h4 i (rows[i]'(by omega)) (List.getElem?_eq_getElem _)
    obtain ⟨v, vs, e1, ⟨s, rfl, hs⟩, _⟩ := FitsW.cons hf
    obtain ⟨hlt, hcell⟩ := hc 0 (.string s) (by rw [e1]; rfl)
    exact ⟨s, hs, b, off, e, hlt, by simpa using hcell⟩
  have hone' : ∀ i, ∃ s : ByteArray, i < len → s.size ≤ maxLen ∧ ∃ b off, a = some ⟨b, off, none⟩ ∧ b < w.heap.size ∧ w.cell? ⟨b, off + i, none⟩ = some (.string s) := fun i => by
    rcases Nat.lt_or_ge i len with h | h
    · obtain ⟨s, hs⟩ := hone i h
      exact ⟨s, fun _ => hs⟩
    · exact ⟨ByteArray.empty, fun h' => absurd h' (by omega)⟩
  refine ⟨(List.range len).map fun i => Classical.choose (hone' i), by simp, h2, h3, fun i s hs => ?_⟩
  have hi : i < len := by have := (List.getElem?_eq_some_iff.1 hs).1; simpa using this
  rw [List.getElem?_map, List.getElem?_range hi] at hs
  obtain rfl := Option.some.inj hs
  exact Classical.choose_spec (hone' i) hi
end
end Go.Proofs.YtpakdcgcgekcfaaDoor
