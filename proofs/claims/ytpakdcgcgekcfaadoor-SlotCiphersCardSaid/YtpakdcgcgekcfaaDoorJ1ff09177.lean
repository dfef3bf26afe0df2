/-
  Texts of this claim, joined: SlotCip, Frame, FrameW.
-/
import Derived.Test.YtpakdcgcgekcfaaDoorJeb9f7553
import Derived.Test.YtpakdcgcgekcfaaDoorJ2beedb38
import Derived.ChangeOld
import Derived.ChangeArms
import Derived.DataReads
import Derived.Deep.Slices
import Derived.ShutString
set_option linter.unusedVariables false
/-
  SlotCiphers.
-/
set_option linter.unusedSimpArgs false
set_option linter.unusedVariables false
namespace Go.Proofs.YtpakdcgcgekcfaaDoor
open Go.RowKit

namespace Slot
open Otp R1 Sha Aes
def s3 (key : List Nat) : Slt := newSt.put 3 (3, key)
theorem lay_three (key : List Nat) : layE newSt 3 3 = 0 ∧ laySt newSt 3 3 key = s3 key := by
  have h : layE newSt 3 3 = 0 := by
    unfold layE
    have h1 : mayE newSt [3] = 0 := mayE_in (s := newSt) rfl (i := 3) (by decide)
    have h2 : kindE newSt 3 = 0 := newSt_kind 3 (by decide)
    rw [h1, h2, if_neg (by decide), if_neg (by decide), if_neg (by decide), if_neg (by decide)]
  exact ⟨h, by unfold laySt; rw [h]; rfl⟩
theorem s3_keyE (key : List Nat) (h : Int) : keyE (s3 key) h = if h < 0 ∨ 7 < h then 1 else if h = 3 then 0 else 3 := by
  have hk : kindE (s3 key) h = if h = ((3 : Nat) : Int) then 3 else kindE newSt h := kindE_put newSt_ok rfl (by decide) _ _
  have hm : mayE (s3 key) [h] = if 0 ≤ h ∧ h < 8 then 0 else 1 := by
    rw [s3, mayE_put]
    unfold mayE
    rw [if_neg (by decide)]
    by_cases hh : 0 ≤ h ∧ h < 8
    · rw [if_pos hh, if_pos (by simp [inR_t hh.1 hh.2])]
    · rw [if_neg hh, if_neg (by simp [inR_f hh])]
  unfold keyE
  by_cases hh : 0 ≤ h ∧ h < 8
  · have hm' : mayE (s3 key) [h] = 0 := by rw [hm, if_pos hh]
    rw [hm']
    by_cases h3 : h = 3
    · have hk' : kindE (s3 key) h = 3 := by rw [hk, if_pos (by omega)]
      rw [hk']
      subst h3
      decide
    · have hk' : kindE (s3 key) h = 0 := by
        have := newSt_kind h.toNat (by omega)
        rw [Int.toNat_of_nonneg hh.1] at this
        rw [hk, if_neg (by omega), this]
      rw [hk', if_neg (by decide), if_pos rfl, if_neg (by omega), if_neg h3]
  · have hm' : mayE (s3 key) [h] = 1 := by rw [hm, if_neg hh]
    rw [hm', if_pos (by decide), if_pos (by omega)]
theorem s3_keyOf (key : List Nat) : keyOf (s3 key) 3 = key := by
  have := keyOf_put newSt_ok (i := 3) (by decide) (3, key) 3
  rw [if_pos rfl] at this
  exact this
theorem cipher_any (g : Nat) (s : Slt) (h kind : Int) (back : Bool) (st : List Nat) (PA : Option Addr) (n pc : Nat) (p : List Nat) (w : World) (hS : Sl w g s) (hw : wfI h) (hkb : keyE s h = 0 → ∀ x ∈ keyOf s h, x < 256)
    (hs : st.length = 16) (hsb : ∀ x ∈ st, x < 256) (hpl : p.length = n) (hnm : n ≤ 1000000) (hpc : n ≤ pc) (hz : Nats .u8 256 w w.heap.size PA p) :
    Calls Tryd.prog 48 #[.pointer (some ⟨g, 0, none⟩), .int .i64 h, .int .i64 kind, .bool back, .agg (b8 st), .slice PA n pc] w (CipOut w (ciO (keyE s h) (keyOf s h) kind back st p) (ciE (keyE s h) kind p.length)) :=
  cipher_of _ h kind back st PA n pc p _ _ w (fun W hB => key_any g s h W (hS.old hB) hw) hkb hs hsb hpl hnm hpc hz
/-- The law's blocks. -/
structure Cb (W : World) (gK gS g : Nat) (key st : List Nat) (w : World) : Prop where
  kk : Blk w gK 23 (b8 key)
  ks : Blk w gS 90 (b8 st)
  sl : Sl w g (s3 key)
  bel : Below W.heap.size W w
theorem Cb.old {W : World} {gK gS g : Nat} {key st : List Nat} {w w' : World} (h : Cb W gK gS g key st w) (hb : Below w.heap.size w w') : Cb W gK gS g key st w' := ⟨h.kk.next hb rfl, h.ks.next hb rfl, h.sl.old hb, below_then h.bel hb (Nat.le_refl _)⟩
set_option maxRecDepth 100000 in
set_option maxHeartbeats 4000000 in
theorem ciphers_any (key : List Nat) (h kind : Int) (back : Bool) (st : List Nat) (A : Option Addr) (n c : Nat) (p : List Nat) (w : World) (hT : STab w) (hkl : key.length = 32) (hkb : ∀ x ∈ key, x < 256) (hsl : st.length = 16) (hsb : ∀ x ∈ st, x < 256) (hh : wfI h) (hpn : p.length = n) (hnm : n ≤ maxLen) (hz : Nats .u8 256 w w.heap.size A p) :
    Calls Tryd.prog 14 #[.agg (b8 key), .int .i64 h, .int .i64 kind, .bool back, .agg (b8 st), .slice A n c] w (TrueBelow w) := by
  have HT := wall hT
  have HZ := wall hz
  have HPN := wall (And.intro hpn hnm)
  have HSK := wall (show (Tryd.prog.info? 23).map (·.size) = some (b8 key).size by rw [b8_size, hkl]; exact dig_info)
  have HSB := wall (show (Tryd.prog.info? 90).map (·.size) = some (b8 st).size by rw [b8_size, hsl]; exact blk_info16)
  have HKL := wall (And.intro hkl hkb)
  have HSL := wall (And.intro hsl hsb)
  have HH := wall hh
  obtain ⟨w1, hw1⟩ : ∃ W, W = (w.alloc (.cells (b8 key) 23)).alloc (.cells (b8 st) 90) := ⟨_, rfl⟩
  have HW := wall hw1
  have HB1 := wall (show Below w.heap.size w w1 by rw [hw1]; exact ((Below.refl _ w).alloc (Nat.le_refl _) _).alloc (by simp) _)
  have HK1 := wall (show Blk w1 w.heap.size 23 (b8 key) by rw [hw1]; exact (Blk.new _ _ _).alloc _)
  have HS1 := wall (show Blk w1 (w.heap.size + 1) 90 (b8 st) by rw [hw1]; exact blk_new' (by simp))
  clear hw1 hT hz hkl hkb hsl hsb hh hpn hnm
  go_enter Tryd.func14, Tryd.ntmps14
  go_upto_region 1 with fail
  rw [← HW.out]
  clear HW
  go_wp2_with fail
  (with_reducible refine (awake_any _ (HT.out.old HB1.out)).mono ?_); rintro e w2 ⟨rfl, hB2⟩
  have HK2 := wall (HK1.out.next hB2 rfl)
  have HS2 := wall (HS1.out.next hB2 rfl)
  have HB2 := wall (below_then HB1.out hB2 (Nat.le_refl _))
  clear hB2 HK1 HS1 HB1
  go_wp2_with fail
  (with_reducible refine (cut_any A n c p 64 64 w2 HPN.out.1 HPN.out.2 rfl (by decide) ((HZ.out.below HB2.out).more HB2.out.size)).mono ?_); rintro e w3 ⟨v3, rfl, hO3, hB3⟩
  have hpb : ∀ x ∈ p.take 64, x < 256 := fun x hx => by
    obtain ⟨i, hi⟩ := List.mem_iff_getElem?.1 (List.mem_of_mem_take hx)
    exact (HZ.out i x hi).1
  have hpl64 : (p.take 64).length ≤ 64 := by rw [List.length_take]; omega
  obtain ⟨p', hp'⟩ : ∃ x, p.take 64 = x := ⟨_, rfl⟩
  rw [hp'] at hO3 hpb hpl64
  obtain ⟨A3, c3, rfl, hc3, hN3, -⟩ := own_nats hO3 hpb
  obtain ⟨n', hn'⟩ : ∃ x, p'.length = x := ⟨_, rfl⟩
  rw [hn'] at hc3 hpl64 ⊢
  have HN3 := wall hN3
  have HPB := wall hpb
  have HPL := wall hn'
  have HK3 := wall (HK2.out.next hB3 rfl)
  have HS3 := wall (HS2.out.next hB3 rfl)
  have HB3 := wall (below_then HB2.out hB3 (Nat.le_refl _))
  clear hB3 HK2 HS2 HB2 hO3 hN3 hp' hpb hn'
  go_wp2_with fail
  (with_reducible refine (snew_out _).mono ?_); rintro e w4 ⟨rfl, hS4, hB4⟩
  have HK4 := wall (HK3.out.next hB4 rfl)
  have HS4 := wall (HS3.out.next hB4 rfl)
  have HB4 := wall (below_then HB3.out hB4 (Nat.le_refl _))
  have HN4 := wall ((HN3.out.below hB4))
  have HL4 := wall hS4
  have hg3 : w.heap.size + 1 < w3.heap.size := HS3.out.lt
  clear hB4 HK3 HS3 HB3 HN3 hS4
  obtain ⟨g, hg⟩ : ∃ x, w3.heap.size = x := ⟨_, rfl⟩
  rw [hg] at HL4 hg3 HN4 ⊢
  go_wp2_with (refine wpList_load_row rfl 23 _ rfl w.heap.size rfl 23 (b8 key) (0, 0) _ HK4.out Tryd.underlying23 rfl HSK.out ?_)
  (with_reducible refine (lay_any g newSt 3 3 key w4 HL4.out (wfI_small (by decide) (by decide)) HKL.out.1 HKL.out.2).mono ?_); rintro e w5 ⟨rfl, hS5, hF5⟩
  rw [(lay_three key).2] at hS5
  have HC5 := wall (show Cb w w.heap.size (w.heap.size + 1) g key st w5 from ⟨HK4.out.frm hF5 (by simp; omega), HS4.out.frm hF5 (by simp; omega), hS5, Below.frm HB4.out hF5 (Nat.le_refl _) (fun x hx => by simp at hx; omega)⟩)
  have HN5 := wall (show Nats .u8 256 w5 w5.heap.size A3 p' from (show Nats .u8 256 w5 g A3 p' from Nats.frm (B := g) (S := [g]) HN4.out hF5 (Nat.le_of_lt HL4.out.lt) (fun x hx => by simp at hx; omega)).more (by have := HL4.out.lt; have := hF5.size; omega))
  have HCA := wall (fun W (h : Cb w w.heap.size (w.heap.size + 1) g key st W) (q : Nats .u8 256 W W.heap.size A3 p') => show Calls Tryd.prog 48 #[.pointer (some ⟨g, 0, none⟩), .int .i64 3, .int .i64 kind, .bool back, .agg (b8 st), .slice A3 n' c3] W (CipOut W (ciO 0 key kind back st p') (ciE 0 kind p'.length)) by
    have := cipher_any g (s3 key) 3 kind back st A3 n' c3 p' W h.sl (wfI_small (by decide) (by decide)) (fun _ => by rw [s3_keyOf]; exact HKL.out.2) HSL.out.1 HSL.out.2 HPL.out (by omega) hc3 q
    rw [s3_keyOf, show keyE (s3 key) 3 = 0 by rw [s3_keyE]; decide] at this
    exact this)
  have HCH := wall (fun W (q : Cb w w.heap.size (w.heap.size + 1) g key st W) => show Calls Tryd.prog 48 #[.pointer (some ⟨g, 0, none⟩), .int .i64 h, .int .i64 0, .bool back, .agg (b8 st), .slice none 0 0] W (fun e w' => ∃ v, e = .returned (.tuple #[v, .int .i64 (keyE (s3 key) h : Int)]) ∧ Below W.heap.size W w') from
    Calls.mono (cipher_any g (s3 key) h 0 back st none 0 0 [] W q.sl HH.out (fun h0 => by
      have : h = 3 := by
        rw [s3_keyE] at h0
        by_cases a : h < 0 ∨ 7 < h
        · rw [if_pos a] at h0; cases h0
        · rw [if_neg a] at h0
          by_cases b : h = 3
          · exact b
          · rw [if_neg b] at h0; cases h0
      rw [this, s3_keyOf]
      exact HKL.out.2) HSL.out.1 HSL.out.2 rfl (by decide) (Nat.le_refl _) (fun i z hz => by simp at hz)) fun e w' ⟨v, h1, _, h3⟩ => ⟨v, by
        rw [h1]
        congr 3
        unfold ciE
        by_cases a : keyE (s3 key) h = 0
        · rw [if_neg (by simpa using a), if_neg (by simp), a]
        · rw [if_pos a], h3⟩)
  have HKE := wall (s3_keyE key h)
  generalize keyE (s3 key) h = E2 at *
  have HKN := wall (fun W (q : Cb w w.heap.size (w.heap.size + 1) g key st W) => show Nats .u8 256 W W.heap.size (some ⟨w.heap.size, 0, none⟩) key from nats_b8 q.kk HKL.out.2)
  have HEE := wall (show ciE 0 kind p'.length = if kind < 0 ∨ 2 < kind ∨ n' % 16 ≠ 0 then 1 else 0 by rw [ciE, if_neg (by simp), HPL.out])
  have HXX := wall (show ciO 0 key kind back st p' = if kind < 0 ∨ 2 < kind ∨ n' % 16 ≠ 0 then [] else (runM (ciM key kind back st) p' (n' / 16)).2 by
    rw [ciO, HEE.out, HPL.out]
    by_cases a : kind < 0 ∨ 2 < kind ∨ n' % 16 ≠ 0
    · rw [if_pos a, if_pos a]; rfl
    · rw [if_neg a, if_neg a]; rfl)
  generalize ciE 0 kind p'.length = E at *
  generalize ciO 0 key kind back st p' = X at *
  clear hS5 hF5 HK4 HS4 HB4 HN4 HL4 hg
  go_wp2_with (refine wpList_load_row rfl 90 _ rfl (w.heap.size + 1) rfl 90 (b8 st) (0, 0) _ HC5.out.ks Tryd.underlying90 rfl HSB.out ?_)
  (with_reducible refine (HCA.out _ HC5.out HN5.out).mono ?_); rintro e w6 ⟨v14, rfl, hO6, hB6⟩
  have HC6 := wall (HC5.out.old hB6)
  have HN6 := wall ((HN5.out.below hB6).more hB6.size)
  have HO6 := wall hO6
  clear hO6 hB6 HC5 HN5 HCA
  have HMF := wall (fun A L c (m : Md) (h : m.v.length = 16) => m2f A L c h)
  have HZF := wall zM_f
  have HZ0 := wall zM_eq.symm
  obtain ⟨ZM, hZM⟩ : ∃ x, zM.toArray = x := ⟨_, rfl⟩
  obtain ⟨ZL, hZL⟩ : ∃ x, zM = x := ⟨_, rfl⟩
  have HZL := wall (show ZL.toArray = ZM by rw [← hZL]; exact hZM)
  have HZZ := wall hZM
  rw [hZM] at HMF HZ0
  rw [hZM, hZL] at HZF
  have HRZ := wall (fun W (q : Nats .u8 256 W W.heap.size A3 p') (hd : n' % 16 = 0) => show Calls Tryd.prog 56 #[.agg ZM, .slice A3 n' c3] W (fun e w' => ∃ v, e = .returned (.tuple #[.agg ZM, v, .int .i64 0]) ∧ Below W.heap.size W w') by
    have := run_zero A3 n' (n' / 16) c3 p' W HPL.out (by omega) (by omega) hc3 q
    rw [hZM] at this
    exact Calls.mono this fun e w' ⟨v, h1, _, h3⟩ => ⟨v, by rw [h1, hZM], h3⟩)
  have HRY := wall (fun W (hd : n' % 16 ≠ 0) => show Calls Tryd.prog 56 #[.agg ZM, .slice A3 n' c3] W (fun e w' => e = .returned (.tuple #[.agg ZM, .slice none 0 0, .int .i64 1]) ∧ Below W.heap.size W w') by
    have := run_badg zM zM_f A3 n' c3 W hd (by simp only [maxLen]; omega)
    rw [hZM] at this
    exact Calls.mono this fun e w' ⟨h1, h2⟩ => ⟨by rw [h1, hZM], h2⟩)
  have hs44 := run_slice_arr_all' (P := Tryd.prog) 23 5 32 Tryd.underlying23 (fun _ => by kernel_rfl) w.heap.size 0 (by decide)
  have HSLC := wall hs44
  clear hs44 hZM hZL
  have HOL := wall (show ∀ x ∈ X, x < 256 from by
    intro x hx
    rw [HXX.out] at hx
    by_cases a : kind < 0 ∨ 2 < kind ∨ n' % 16 ≠ 0
    · rw [if_pos a] at hx; cases hx
    · rw [if_neg a] at hx
      exact (runM_ok (ciM_ok HKL.out.1 HKL.out.2 (by omega) (by omega) HSL.out.1 HSL.out.2) HPB.out (n' / 16) (by have := HPL.out; omega)).2.2.2.2.2 x hx)
  have HXL := wall (show X.length ≤ maxLen from by
    rw [HXX.out]
    by_cases a : kind < 0 ∨ 2 < kind ∨ n' % 16 ≠ 0
    · rw [if_pos a]; decide
    · rw [if_neg a, (runM_ok (ciM_ok HKL.out.1 HKL.out.2 (by omega) (by omega) HSL.out.1 HSL.out.2) HPB.out (n' / 16) (by have := HPL.out; omega)).2.2.2.2.1]
      simp only [maxLen]
      omega)
  obtain ⟨A14, c14, rfl, hc14, hn14, -⟩ := own_nats HO6.out HOL.out
  have HN14 := wall hn14
  clear hn14 HO6
  by_cases hbad : kind < 0 ∨ 2 < kind
  · have hE := HEE.out
    have hX := HXX.out
    rw [if_pos (by omega)] at hE hX
    subst hE
    have HEQ := wall hX
    have HCN := wall (fun W (q : Cb w w.heap.size (w.heap.size + 1) g key st W) => show Calls Tryd.prog 55 #[.int .i64 kind, .bool back, .slice (some ⟨w.heap.size, 0, none⟩) 32 32, .agg (b8 st)] W (fun e w' => e = .returned (.tuple #[.agg ZM, .int .i64 1]) ∧ Below W.heap.size W w') by
      rw [← HZZ.out]
      exact mnew_badkind _ 32 32 key kind back st W ⟨.inr HKL.out.1, HKL.out.2⟩ HKL.out.1.symm (HKN.out W q) hbad HSL.out.1)
    have HQ := wall (show (Tryd.prog.info? 96).map (·.size) = some ZM.size ∧ ZM.all (·.oneCell') = true by have h := HZF.out; rw [M2F, HZL.out] at h; exact ⟨h.1, h.2.2⟩)
    clear hbad HEE HXX hX
    go_upto_region 7 with fail
    refine RelG.wp_region_fl 9 [7] [(46, .const (.tuple #[.agg ZM, .int .i64 1])), (16, .any (NewM w6.drew.heap.size ZM) NewM.grow)] (by kernel_rfl) (by kernel_rfl) rfl (fun _ _ _ _ _ h => h) ?_
    simp only [List.take_succ_cons, List.take_zero, List.drop_succ_cons, List.drop_zero, Act.put, List.setIfInBounds_toArray, List.set_cons_zero, List.set_cons_succ]
    (refine RelG.tree_quiet rfl rfl rfl (fun K hK => ?_); go_big_quiet_op; refine hK _ ?_; clear hK K)
    (refine RelG.tree_quiet rfl rfl rfl (fun K hK => ?_); go_big_quiet_op; refine hK _ ?_; clear hK K)
    refine RelG.tree_pure rfl rfl rfl (.slice (some ⟨w.heap.size, 0, none⟩) 32 32) (fun W hW _ => Rel.exec_slice _ _ _ _ rfl _ (HSLC.out W)) ?_
    simp only [Act.put, List.setIfInBounds_toArray, List.set_cons_zero, List.set_cons_succ]
    refine RelG.tree_pure rfl rfl rfl (.agg (b8 st)) (fun W hW _ => Rel.exec_load _ _ rfl (w.heap.size + 1) 0 rfl _ _ (Blk.range (hW.blk HC6.out.ks.drew)) Tryd.underlying90 rfl HSB.out) ?_
    simp only [Act.put, List.setIfInBounds_toArray, List.set_cons_zero, List.set_cons_succ]
    refine RelG.tree_const rfl (.tuple #[.agg ZM, .int .i64 1]) rfl (fun W hW _ => ?_) ?_
    · have hq := HC6.out.old hW.undrew
      unfold RelG.relAt; go_simp; show Calls _ _ _ _ _
      exact const_call (HCN.out W hq)
    simp only [Act.put, List.setIfInBounds_toArray, List.set_cons_zero, List.set_cons_succ]
    (refine RelG.tree_quiet rfl rfl rfl (fun K hK => ?_); go_big_quiet_op; refine hK _ ?_; clear hK K)
    (refine RelG.tree_quiet rfl rfl rfl (fun K hK => ?_); go_big_quiet_op; refine hK _ ?_; clear hK K)
    (refine RelG.tree_quiet rfl rfl rfl (fun K hK => ?_); go_big_quiet_op; refine hK _ ?_; clear hK K)
    refine RelG.tree_rel rfl (NewM w6.drew.heap.size ZM) NewM.grow rfl (fun W hW _ => rel_newM HZ0.out rfl (Below.size hW)) (fun v16 => ?_)
    simp only [Act.put, List.setIfInBounds_toArray, List.set_cons_zero, List.set_cons_succ]
    intro W hW hF
    obtain ⟨gz, rfl, hgz, KZ⟩ : NewM w6.drew.heap.size ZM v16 W := hF 16
    have HKZ := wall KZ
    have hgz6 : w6.heap.size ≤ gz := hgz
    have HBW := wall (show Below w6.heap.size w6 W from hW.undrew)
    clear hW hF KZ
    go_upto_region 8 with (refine wpList_set_row rfl 96 (.tmp 16) (.tmp 47) rfl gz ZM rfl rfl 96 ZM HKZ.out HQ.out.1 rfl HQ.out.2 ?_; intro w7 K7 F7)
    have HB7 := wall (show Below w6.heap.size w6 w7 from Below.frm HBW.out F7.out (Nat.le_refl _) (fun x hx => by simp at hx; omega))
    have HK7 := wall K7.out
    clear K7 F7 HBW HKZ
    have hcall : Calls Tryd.prog 56 #[.agg ZM, .slice A3 n' c3] w7 (fun e w' => ∃ (v : Value) (y : Int), e = .returned (.tuple #[.agg ZM, v, .int .i64 y]) ∧ Below w7.heap.size w7 w') := by
      by_cases h16 : n' % 16 = 0
      · exact Calls.mono (HRZ.out w7 ((HN6.out.below HB7.out).more HB7.out.size) h16) fun e w' ⟨v, h1, h2⟩ => ⟨v, 0, h1, h2⟩
      · exact Calls.mono (HRY.out w7 h16) fun e w' ⟨h1, h2⟩ => ⟨_, 1, h1, h2⟩
    have HCALL := wall hcall
    clear hcall HRZ HRY
    go_wp2_with (refine wpList_load_row rfl 96 _ rfl gz rfl 96 ZM (0, 0) _ HK7.out Tryd.underlying96 rfl HQ.out.1 ?_)
    (with_reducible refine (HCALL.out).mono ?_); rintro e wr ⟨vr, yr, rfl, hBr⟩
    have HBr := wall (show Below w6.heap.size w6 wr from HB7.out.trans (hBr.mono HB7.out.size))
    clear hBr HCALL HB7 HK7
    go_upto_region 9 with (refine wpList_new_row rfl 96 (.tmp 18) (.tmp 53) rfl wr.heap.size ZM rfl rfl 96 ZM (by rw [← HZ0.out]; exact Blk.new _ _ _) HQ.out.1 rfl HQ.out.2 wr.heap.size wr ((Below.refl _ wr).alloc (Nat.le_refl _) _) (Nat.le_refl _) ?_; intro w8 K8 B8)
    have HB8 := wall (show Below w6.heap.size w6 w8 from HBr.out.trans (B8.out.mono HBr.out.size))
    have HCC := wall (HC6.out.old HB8.out)
    replace HN14 := wall ((HN14.out.below HB8.out).more HB8.out.size)
    have HNW := wall (show Nats .u8 256 w8 w8.heap.size none [] from fun i z hz => by simp at hz)
    clear K8 B8 HBr HC6 HN6 HB8
    go_wp2_with fail
    (with_reducible refine (same_any A14 none X.length 0 c14 0 X [] true w8 _ _ rfl rfl HXL.out (by decide) HN14.out HNW.out (by simp [HEQ.out])).mono ?_)
    rintro e w9 ⟨rfl, k9, rfl⟩
    have HC9 := wall (HCC.out.old (below_drewN (Below.refl _ _) k9))
    clear HCC HN14 HNW
    go_wp2_with (refine wpList_load_row rfl 90 _ rfl (w.heap.size + 1) rfl 90 (b8 st) (0, 0) _ HC9.out.ks Tryd.underlying90 rfl HSB.out ?_)
    (with_reducible refine (HCH.out _ HC9.out).mono ?_)
    rintro e w10 ⟨v21, rfl, hB10⟩
    have HB10 := wall (below_then HC9.out.bel hB10 (Nat.le_refl _))
    clear hB10 HC9 HCH
    have h2 := HKE.out
    by_cases k1 : h < 0
    · rw [if_pos (.inl k1)] at h2
      subst h2
      go_wp2_with fail
      go_light
      go_ret
      exact ⟨rfl, HB10.out⟩
    by_cases k2 : 7 < h
    · rw [if_pos (.inr k2)] at h2
      subst h2
      go_wp2_with fail
      go_light
      go_ret
      exact ⟨rfl, HB10.out⟩
    rw [if_neg (by omega)] at h2
    by_cases k3 : h = 3
    · rw [if_pos k3] at h2
      subst h2
      subst k3
      go_wp2_with fail
      go_light
      go_ret
      exact ⟨rfl, HB10.out⟩
    rw [if_neg k3] at h2
    subst h2
    have k4 : (h != 3) = true := by rw [bne_iff_ne]; exact k3
    go_wp2_with fail
    go_light
    go_ret
    exact ⟨rfl, HB10.out⟩
  · have hkd : 0 ≤ kind ∧ kind ≤ 2 := by omega
    have hok : (ciM key kind back st).Ok := ciM_ok HKL.out.1 HKL.out.2 (by omega) (by omega) HSL.out.1 HSL.out.2
    have hkk : kind = ((ciM key kind back st).kind : Nat) := by show kind = (kind.toNat : Int); omega
    have HCN := wall (fun W (q : Cb w w.heap.size (w.heap.size + 1) g key st W) => show Calls Tryd.prog 55 #[.int .i64 kind, .bool back, .slice (some ⟨w.heap.size, 0, none⟩) 32 32, .agg (b8 st)] W (MnOut W (ciM key kind back st)) from
      mnew_any _ 32 32 kind (ciM key kind back st) W hok hkk HKL.out.1.symm (HKN.out W q))
    have hX := HXX.out
    have hE := HEE.out
    obtain ⟨m, hm⟩ : ∃ m, ciM key kind back st = m := ⟨_, rfl⟩
    rw [hm] at HCN hok hX
    have HOK := wall hok
    have HIX := wall hX
    have HIE := wall hE
    clear hkk hm hok hkd hX hE HXX HEE HRZ HRY
    go_upto_region 7 with fail
    refine RelG.wp_region_fl 9 [7] [(46, .any (MnV m) MnV.grow), (41, .any (MnV m) MnV.grow), (16, .any (NewM w6.drew.heap.size ZM) NewM.grow)] (by kernel_rfl) (by kernel_rfl) rfl (fun _ _ _ _ _ h => h) ?_
    simp only [List.take_succ_cons, List.take_zero, List.drop_succ_cons, List.drop_zero, Act.put, List.setIfInBounds_toArray, List.set_cons_zero, List.set_cons_succ]
    (refine RelG.tree_quiet rfl rfl rfl (fun K hK => ?_); go_big_quiet_op; refine hK _ ?_; clear hK K)
    (refine RelG.tree_quiet rfl rfl rfl (fun K hK => ?_); go_big_quiet_op; refine hK _ ?_; clear hK K)
    refine RelG.tree_pure rfl rfl rfl (.slice (some ⟨w.heap.size, 0, none⟩) 32 32) (fun W hW _ => Rel.exec_slice _ _ _ _ rfl _ (HSLC.out W)) ?_
    simp only [Act.put, List.setIfInBounds_toArray, List.set_cons_zero, List.set_cons_succ]
    refine RelG.tree_pure rfl rfl rfl (.agg (b8 st)) (fun W hW _ => Rel.exec_load _ _ rfl (w.heap.size + 1) 0 rfl _ _ (Blk.range (hW.blk HC6.out.ks.drew)) Tryd.underlying90 rfl HSB.out) ?_
    simp only [Act.put, List.setIfInBounds_toArray, List.set_cons_zero, List.set_cons_succ]
    refine RelG.tree_rel rfl (MnV m) MnV.grow rfl (fun W hW _ => ?_) (fun v46 => ?_)
    · have hq := HC6.out.old hW.undrew
      unfold RelG.relAt; go_simp; show Calls _ _ _ _ _
      exact mnv_call (HCN.out W hq)
    simp only [Act.put, List.setIfInBounds_toArray, List.set_cons_zero, List.set_cons_succ]
    refine RelG.tree_rel rfl (MnV m) MnV.grow rfl (fun W hW hF => ?_) (fun v41 => ?_)
    · have hf : MnV m v46 W := hF 46 (by decide)
      clear hF
      unfold RelG.relAt
      go_simp
      exact ⟨Rel.Grow.refl _, hf⟩
    simp only [Act.put, List.setIfInBounds_toArray, List.set_cons_zero, List.set_cons_succ]
    refine RelG.tree_pure rfl rfl rfl (cV v41 0) (fun W hW hF => exec_extract _ _ rfl v41 rfl ((show MnV m v41 W from hF 41 (by decide)).part.1)) ?_
    simp only [Act.put, List.setIfInBounds_toArray, List.set_cons_zero, List.set_cons_succ]
    refine RelG.tree_pure rfl rfl rfl (cV v41 1) (fun W hW hF => exec_extract _ _ rfl v41 rfl ((show MnV m v41 W from hF 41 (by decide)).part.2)) ?_
    simp only [Act.put, List.setIfInBounds_toArray, List.set_cons_zero, List.set_cons_succ]
    refine RelG.tree_rel rfl (NewM w6.drew.heap.size ZM) NewM.grow rfl (fun W hW _ => rel_newM HZ0.out rfl (Below.size hW)) (fun v16 => ?_)
    simp only [Act.put, List.setIfInBounds_toArray, List.set_cons_zero, List.set_cons_succ]
    intro W hW hF
    obtain ⟨gz, rfl, hgz, KZ⟩ : NewM w6.drew.heap.size ZM v16 W := hF 16
    obtain ⟨MA, L, Mc, rfl, hkv⟩ : MnV m v41 W := hF 41
    have HM1 := wall (HMF.out MA L Mc m HOK.out.len)
    have hkv6 : KeyV W W.heap.size m.key MA L Mc := hkv
    have HRN := wall (fun W' (q : Nats .u8 256 W' W'.heap.size A3 p') (k : KeyV W' W'.heap.size m.key MA L Mc) (hd : n' % 16 = 0) => run_any MA L Mc m A3 n' (n' / 16) c3 p' W' HOK.out k HPL.out (by omega) (by omega) hc3 q)
    have HRB := wall (fun W' (hd : n' % 16 ≠ 0) => run_bad MA L Mc m A3 n' c3 W' HOK.out.len hd (by simp only [maxLen]; omega))
    have HRO := wall (fun (hd : n' % 16 = 0) => HMF.out MA L Mc (runM m p' (n' / 16)).1 (runM_ok HOK.out HPB.out (n' / 16) (by have := HPL.out; omega)).1.len)
    unfold RunOut at HRN
    unfold RunBad at HRB
    obtain ⟨CL, hCL⟩ : ∃ x, mV MA L Mc m = x := ⟨_, rfl⟩
    rw [hCL] at HM1 HRN HRB ⊢
    have e0 : cV (.tuple #[.agg CL.toArray, .int .i64 0]) 0 = .agg CL.toArray := rfl
    have e1 : cV (.tuple #[.agg CL.toArray, .int .i64 0]) 1 = .int .i64 0 := rfl
    rw [e0, e1]
    have hgz6 : w6.heap.size ≤ gz := hgz
    have HBW := wall (show Below w6.heap.size w6 W from hW.undrew)
    have HKV := wall hkv6
    have HKZ := wall KZ
    have HA := wall (show ∀ ad : Addr, MA = some ad → ad.block ∉ [gz] from hkv6.apart HZZ.out KZ)
    clear hW hF KZ e0 e1 hkv hkv6 hgz HCN
    go_upto_region 8 with (refine wpList_set_row rfl 96 (.tmp 16) (.tmp 47) rfl gz CL.toArray rfl rfl 96 ZM HKZ.out HM1.out.1 HM1.out.2.1 HM1.out.2.2 ?_; intro w7 K7 F7)
    have HB7 := wall (show Below w6.heap.size w6 w7 from Below.frm HBW.out F7.out (Nat.le_refl _) (fun x hx => by simp at hx; omega))
    have HKV7 := wall ((HKV.out.other (Nat.le_refl _) F7.out HA.out).more F7.out.size)
    have HK7 := wall K7.out
    have hn7 : Nats .u8 256 w7 w7.heap.size A3 p' := (HN6.out.below HB7.out).more HB7.out.size
    have hcall : ∃ CQ : List Value, M2F ZM CQ ∧ Calls Tryd.prog 56 #[.agg CL.toArray, .slice A3 n' c3] w7 (fun e w' => ∃ (AW : Option Addr) (cW : Nat), e = .returned (.tuple #[.agg CQ.toArray, .slice AW X.length cW, .int .i64 (E : Int)]) ∧ Nats .u8 256 w' w'.heap.size AW X ∧ Below w7.heap.size w7 w') := by
      have hx := HIX.out
      have he := HIE.out
      by_cases h16 : n' % 16 = 0
      · rw [if_neg (by omega)] at hx he
        refine ⟨_, HRO.out h16, Calls.mono (HRN.out w7 hn7 HKV7.out h16) fun e w' ⟨v, h1, h2, h3⟩ => ?_⟩
        rw [← hx] at h2
        obtain ⟨AW, cW, rfl, _, hN, _⟩ := own_nats h2 HOL.out
        exact ⟨AW, cW, by rw [h1, he]; rfl, hN, h3⟩
      · rw [if_pos (by omega)] at hx he
        refine ⟨CL, HM1.out, Calls.mono (HRB.out w7 h16) fun e w' ⟨h1, h2⟩ => ⟨none, 0, by rw [h1, hx, he]; rfl, by rw [hx]; exact fun i z hz => by simp at hz, h2⟩⟩
    obtain ⟨CQ, hq, hcall⟩ := hcall
    have HCALL := wall hcall
    have HQ := wall hq
    clear hcall hq HRN HRB HRO K7 F7 HBW HKZ HKV HKV7 hn7 HA
    go_wp2_with (refine wpList_load_row rfl 96 _ rfl gz rfl 96 CL.toArray (0, 0) _ HK7.out Tryd.underlying96 rfl HM1.out.1 ?_)
    (with_reducible refine (HCALL.out).mono ?_); rintro e wr ⟨AW, cW, rfl, hNr, hBr⟩
    have HBr := wall (show Below w6.heap.size w6 wr from HB7.out.trans (hBr.mono HB7.out.size))
    have HNr := wall hNr
    clear hBr HCALL HB7 HK7 hNr
    go_upto_region 9 with (refine wpList_new_row rfl 96 (.tmp 18) (.tmp 53) rfl wr.heap.size CQ.toArray rfl rfl 96 ZM (by rw [← HZ0.out]; exact Blk.new _ _ _) HQ.out.1 HQ.out.2.1 HQ.out.2.2 wr.heap.size wr ((Below.refl _ wr).alloc (Nat.le_refl _) _) (Nat.le_refl _) ?_; intro w8 K8 B8)
    have HB8 := wall (show Below w6.heap.size w6 w8 from HBr.out.trans (B8.out.mono HBr.out.size))
    have HCC := wall (HC6.out.old HB8.out)
    replace HN14 := wall ((HN14.out.below HB8.out).more HB8.out.size)
    have HNW := wall ((HNr.out.below B8.out).more B8.out.size)
    have HEQ := wall (show X = X from rfl)
    clear K8 B8 HBr HC6 HN6 HB8 HNr HIX HIE
    go_wp2_with fail
    (with_reducible refine (same_any A14 AW X.length X.length c14 cW X X true w8 _ _ rfl rfl HXL.out HXL.out HN14.out HNW.out (by simp)).mono ?_)
    rintro e w9 ⟨rfl, k9, rfl⟩
    have HC9 := wall (HCC.out.old (below_drewN (Below.refl _ _) k9))
    clear HCC HN14 HNW
    go_wp2_with (refine wpList_load_row rfl 90 _ rfl (w.heap.size + 1) rfl 90 (b8 st) (0, 0) _ HC9.out.ks Tryd.underlying90 rfl HSB.out ?_)
    (with_reducible refine (HCH.out _ HC9.out).mono ?_)
    rintro e w10 ⟨v21, rfl, hB10⟩
    have HB10 := wall (below_then HC9.out.bel hB10 (Nat.le_refl _))
    clear hB10 HC9 HCH
    have h2 := HKE.out
    by_cases k1 : h < 0
    · rw [if_pos (.inl k1)] at h2
      subst h2
      go_wp2_with fail
      go_light
      go_ret
      exact ⟨rfl, HB10.out⟩
    by_cases k2 : 7 < h
    · rw [if_pos (.inr k2)] at h2
      subst h2
      go_wp2_with fail
      go_light
      go_ret
      exact ⟨rfl, HB10.out⟩
    rw [if_neg (by omega)] at h2
    by_cases k3 : h = 3
    · rw [if_pos k3] at h2
      subst h2
      subst k3
      go_wp2_with fail
      go_light
      go_ret
      exact ⟨rfl, HB10.out⟩
    rw [if_neg k3] at h2
    subst h2
    have k4 : (h != 3) = true := by rw [bne_iff_ne]; exact k3
    go_wp2_with fail
    go_light
    go_ret
    exact ⟨rfl, HB10.out⟩
theorem ciphers_frame (zk : List Int) (h kind : Int) (back : Bool) (zs : List Int) (A : Option Addr) (n c : Nat) (p : List Nat) (w : World) (hT : STab w) (hkl : zk.length = 32) (hkb : ∀ z ∈ zk, (Lit.int .u8 z).wf = true) (hsl : zs.length = 16) (hsb : ∀ z ∈ zs, (Lit.int .u8 z).wf = true)
    (hh : (Lit.int .i64 h).wf = true) (hpn : p.length = n) (hnm : n ≤ maxLen) (hz : Nats .u8 256 w w.heap.size A p) :
    Calls Tryd.prog 14 #[.agg (zk.map (Value.int .u8)).toArray, .int .i64 h, .int .i64 kind, .bool back, .agg (zs.map (Value.int .u8)).toArray, .slice A n c] w (TrueBelow w) := by
  obtain ⟨h1, h2⟩ := u8_ints zk hkb
  obtain ⟨h3, h4⟩ := u8_ints zs hsb
  rw [h1, h3]
  exact ciphers_any _ h kind back _ A n c p w hT (by rw [List.length_map]; exact hkl) h2 (by rw [List.length_map]; exact hsl) h4 hh hpn hnm hz
end Slot
end Go.Proofs.YtpakdcgcgekcfaaDoor

/-
  What a law's arguments read as: 'flat' types (whose cells are all integers or bools), by value and as elements of a slice; and that all arguments read behind the call as they did. No program in sight.
-/
set_option linter.unusedSimpArgs false
set_option linter.unusedVariables false
namespace Go.Proofs.YtpakdcgcgekcfaaDoor
open Go.RowKit

/-- A cell's kind: an integer's, or none: a bool. -/
def fit1 : Option IntKind → Value → Prop
  | none, v => ∃ b, v = .bool b
  | some k, v => ∃ n, v = .int k n ∧ (Lit.int k n).wf = true
def Fits : List (Option IntKind) → List Value → Prop
  | [], [] => True
  | k :: ks, v :: vs => fit1 k v ∧ Fits ks vs
  | _, _ => False

theorem Fits.append : ∀ {a b : List (Option IntKind)} {x y : List Value}, Fits a x → Fits b y → Fits (a ++ b) (x ++ y)
  | [], _, [], _, _, h => h
  | _ :: _, _, _ :: _, _, h, h' => ⟨h.1, Fits.append h.2 h'⟩
theorem Fits.length : ∀ {a : List (Option IntKind)} {x : List Value}, Fits a x → x.length = a.length
  | [], [], _ => rfl
  | _ :: _, _ :: _, h => by simp [Fits.length h.2]
theorem Fits.cons {k : Option IntKind} {ks : List (Option IntKind)} {l : List Value} (h : Fits (k :: ks) l) : ∃ v vs, l = v :: vs ∧ fit1 k v ∧ Fits ks vs := by
  cases l with
  | nil => exact h.elim
  | cons v vs => exact ⟨v, vs, rfl, h.1, h.2⟩
theorem Fits.nil {l : List Value} (h : Fits [] l) : l = [] := by
  cases l with
  | nil => rfl
  | cons v vs => exact h.elim
theorem Fits.get : ∀ {a : List (Option IntKind)} {x : List Value}, Fits a x → ∀ (i : Nat) (k : Option IntKind), a[i]? = some k → ∃ v, x[i]? = some v ∧ fit1 k v
  | _ :: _, _ :: _, h, 0, _, hk => by simp at hk; subst hk; exact ⟨_, rfl, h.1⟩
  | _ :: _, _ :: _, h, i + 1, k, hk => by simpa using Fits.get h.2 i k (by simpa using hk)
theorem Fits.flatten : ∀ {l : List (List (Option IntKind))} {cs : List Value}, cs.length = l.flatten.length →
    (∀ (i : Nat) (a : List (Option IntKind)), l[i]? = some a → Fits a ((cs.drop (l.take i).flatten.length).take a.length)) → Fits l.flatten cs
  | [], cs, hl, _ => by
    obtain rfl : cs = [] := List.eq_nil_of_length_eq_zero (by simpa using hl)
    trivial
  | a :: l, cs, hl, h => by
    have h0 := h 0 a rfl
    simp at h0
    have ih := Fits.flatten (l := l) (cs := cs.drop a.length) (by simp at hl ⊢; omega) (fun i b hb => by
      have := h (i + 1) b (by simpa using hb)
      simpa [List.drop_drop] using this)
    have := h0.append ih
    simpa using this
theorem Fits.all_int : ∀ {k : IntKind} {n : Nat} {x : List Value}, Fits (List.replicate n (some k)) x → ∃ zs : List Int, x = zs.map (.int k) ∧ zs.length = n ∧ ∀ z ∈ zs, (Lit.int k z).wf = true
  | k, 0, [], _ => ⟨[], rfl, rfl, by simp⟩
  | k, n + 1, v :: vs, h => by
    obtain ⟨⟨z, rfl, hz⟩, h2⟩ := h
    obtain ⟨zs, rfl, hl, hw⟩ := Fits.all_int h2
    exact ⟨z :: zs, rfl, by simp [hl], by simpa using ⟨hz, hw⟩⟩

/-- The kinds of a type's cells, where they are all integers or bools. -/
def flat (P : Program) : Nat → TypeId → Option (List (Option IntKind))
  | 0, _ => none
  | m + 1, t => match P.underlying t with
    | some .bool => some [none]
    | some (.int k) => some [some k]
    | some (.struct fs) => match fs.toList.mapM (fun f => flat P m f.type) with
      | some l => if l.flatten.length = P.cellsOf t ∧ ((List.range fs.size).all fun i => match fs[i]?, l[i]? with | some f, some a => f.offset == (l.take i).flatten.length && a.length == P.cellsOf f.type | _, _ => false) = true then some l.flatten else none
      | none => none
    | some (.array n e) => match flat P m e with
      | some a => if a.length = P.cellsOf e ∧ n * a.length = P.cellsOf t then some (List.replicate n a).flatten else none
      | none => none
    | _ => none

theorem flatten_replicate_len {α : Type} (a : List α) : ∀ n, (List.replicate n a).flatten.length = n * a.length
  | 0 => by simp
  | n + 1 => by simp

section
variable {H : Type} {enc : TypeId × Value → H} {P : Program} {w : World} {base : Nat} {spare : Nat → Bool} {held : Bool}
theorem flat_fits : ∀ {m : Nat} {t : TypeId} {ks : List (Option IntKind)} {fuel : Nat} {cs : List Value} {x : DataW H × List MemPlace},
    flat P m t = some ks → DataW.trod enc P w base spare held fuel t cs = some x → Fits ks cs := by
  intro m
  induction m with
  | zero => intro t ks fuel cs x h; simp [flat] at h
  | succ m ih =>
    intro t ks fuel cs x h hx
    unfold flat at h
    split at h
    · rename_i ht
      cases h
      cases fuel with
      | zero => simp [DataW.trod] at hx
      | succ n =>
        unfold DataW.trod at hx
        rw [ht] at hx
        split at hx <;> simp_all [Fits, fit1]
    · rename_i k ht
      cases h
      cases fuel with
      | zero => simp [DataW.trod] at hx
      | succ n =>
        unfold DataW.trod at hx
        rw [ht] at hx
        split at hx <;> simp_all [Fits, fit1]
    · rename_i fs ht
      obtain ⟨xs, n, _, _, hlen, _, hf⟩ := DataW.trod_struct ht hx
      split at h
      · rename_i l hl
        split at h
        · rename_i hc
          cases h
          refine Fits.flatten (by rw [hlen, hc.1]) (fun i a ha => ?_)
          have hi : i < l.length := (List.getElem?_eq_some_iff.1 ha).1
          have hif : i < fs.size := by have := mapM_some_length hl; simp at this; omega
          have hfi : fs[i]? = some fs[i] := Array.getElem?_eq_getElem hif
          have hall := List.all_eq_true.1 hc.2 i (by simpa using hif)
          rw [hfi, ha] at hall
          simp only [Bool.and_eq_true, beq_iff_eq] at hall
          have hfl := mapM_some_get hl i fs[i] (by simp [hfi])
          rw [ha] at hfl
          have ht' := hf i fs[i] hfi
          rw [hall.1, ← hall.2] at ht'
          have hxi : i < xs.length := by omega
          rw [List.getElem?_eq_getElem hxi] at ht'
          exact ih hfl ht'
        · cases h
      · cases h
    · rename_i k e ht
      obtain ⟨xs, n, _, _, hlen, hxl, hf⟩ := DataW.trod_array ht hx
      split at h
      · rename_i a ha
        split at h
        · rename_i hc
          cases h
          refine Fits.flatten (by rw [hlen, flatten_replicate_len, hc.2]) (fun i b hb => ?_)
          obtain ⟨hi, rfl⟩ := List.getElem?_eq_some_iff.1 hb
          have hik : i < k := by simpa using hi
          have ht' := hf i hik
          rw [List.getElem?_eq_getElem (by omega)] at ht'
          have hb2 : (List.replicate k a)[i] = a := by simp
          rw [hb2, List.take_replicate, flatten_replicate_len, Nat.min_eq_left (by omega), hc.1]
          exact ih ha ht'
        · cases h
      · cases h
    · cases h

/-- A slice of flat elements that came in: nil, or a row of 'cap' elements of 'size' cells (the first 'len' are its own, the rest spare). -/
def RowsOf (w : World) (size : Nat) (ks : List (Option IntKind)) (a : Option Addr) (len cap : Nat) (rows : List (List Value)) : Prop :=
  (a = none ∧ len = 0 ∧ cap = 0 ∧ rows = []) ∨
  ∃ x, a = some x ∧ len ≤ cap ∧ cap ≤ maxLen ∧ rows.length = cap ∧ ∀ (i : Nat) (r : List Value), rows[i]? = some r → Fits ks r ∧ ∀ (j : Nat) (v : Value), r[j]? = some v → w.cell? (x.add (i * size + j)) = some v

theorem rows_ints {w : World} {k : IntKind} {a : Option Addr} {len cap : Nat} {rows : List (List Value)} (h : RowsOf w 1 [some k] a len cap rows) : ∃ zs : List Int, zs.length = len ∧ len ≤ cap ∧ cap ≤ maxLen ∧ Ints k w w.heap.size a zs := by
  rcases h with ⟨rfl, rfl, rfl, rfl⟩ | ⟨x, rfl, hl, hm, hr, hx⟩
  · exact ⟨[], rfl, Nat.le_refl _, Nat.zero_le _, fun i z hz => by simp at hz⟩
  · have hone : ∀ i, i < cap → ∃ z : Int, (Lit.int k z).wf = true ∧ w.cell? (x.add i) = some (.int k z) := fun i hi => by
      obtain ⟨hf, hc⟩ := hx i (rows[i]'(by omega)) (List.getElem?_eq_getElem _)
      obtain ⟨v, vs, e, ⟨z, rfl, hz⟩, _⟩ := Fits.cons hf
      have := hc 0 (.int k z) (by rw [e]; rfl)
      exact ⟨z, hz, by simpa using this⟩
    have hone' : ∀ i, ∃ z : Int, i < cap → (Lit.int k z).wf = true ∧ w.cell? (x.add i) = some (.int k z) := fun i => by
      rcases Nat.lt_or_ge i cap with h | h
      · obtain ⟨z, hz⟩ := hone i h
        exact ⟨z, fun _ => hz⟩
      · exact ⟨0, fun h' => absurd h' (by omega)⟩
    obtain ⟨f, hf⟩ : ∃ f : Nat → Int, ∀ i, i < cap → (Lit.int k (f i)).wf = true ∧ w.cell? (x.add i) = some (.int k (f i)) := ⟨fun i => Classical.choose (hone' i), fun i => Classical.choose_spec (hone' i)⟩
    refine ⟨(List.range len).map f, by simp, hl, hm, fun i z hz => ?_⟩
    have hi : i < len := by have := (List.getElem?_eq_some_iff.1 hz).1; simpa using this
    rw [List.getElem?_map, List.getElem?_range hi] at hz
    obtain rfl := Option.some.inj hz
    obtain ⟨h1, h2⟩ := hf i (by omega)
    obtain ⟨_, h20⟩ := hf 0 (by omega)
    obtain ⟨b, off, spot⟩ := x
    have hspot : spot = none := by simpa [Addr.add] using World.cell?_spot h20
    subst hspot
    rw [Go.WideShapes.add_plain] at h2
    exact ⟨h1, b, off, rfl, cell_lt h2, h2⟩
theorem ints_nats {k : IntKind} {w : World} {B M : Nat} {a : Option Addr} {zs : List Int} (hM : ∀ z : Int, (Lit.int k z).wf = true → 0 ≤ z ∧ z < M) (h : Ints k w B a zs) : Nats k M w B a (zs.map Int.toNat) := fun i z hz => by
  rw [List.getElem?_map] at hz
  cases hzi : zs[i]? with
  | none => rw [hzi] at hz; cases hz
  | some y =>
    rw [hzi] at hz
    obtain rfl := Option.some.inj hz
    obtain ⟨h1, b, off, h2, h3, h4⟩ := h i y hzi
    obtain ⟨h5, h6⟩ := hM y h1
    exact ⟨by omega, b, off, h2, h3, by rw [h4, Int.toNat_of_nonneg h5]⟩

theorem open_flat {r : Reach} {b0 : Nat} {t : TypeId} {m : Nat} {ks : List (Option IntKind)} {v : Value} {d : DataW H} {p : List MemPlace} (hfl : flat P m t = some ks) (hs : (∃ fs, P.underlying t = some (.struct fs)) ∨ ∃ n e, P.underlying t = some (.array n e))
    (hv : Value.okWide P w r b0 t v) (h : DataW.Trod enc P w base spare held t v d p) : ∃ cs, v = .agg cs ∧ Fits ks cs.toList := by
  obtain ⟨cs, rfl⟩ : ∃ cs, v = .agg cs := by
    rcases hs with ⟨fs, hs⟩ | ⟨n, e, hs⟩
    · obtain ⟨cs, h, _⟩ := WideShapes.okWide_struct hs hv; exact ⟨cs, h⟩
    · simp only [Value.okWide, hs] at hv
      obtain ⟨cs, h, _⟩ := hv
      exact ⟨cs, h⟩
  obtain ⟨fuel, hf⟩ := h
  exact ⟨cs, rfl, flat_fits hfl (by simpa [Value.cells] using hf)⟩

theorem open_rows {t e : TypeId} {m fuel size : Nat} {ks : List (Option IntKind)} {a : Option Addr} {len cap : Nat} {x : DataW H × List MemPlace} (ht : P.underlying t = some (.slice e)) (hfl : flat P m e = some ks) (hsz : P.cellsOf e = size)
    (h : DataW.trod enc P w base (fun _ => true) held fuel t [.slice a len cap] = some x) : ∃ rows, RowsOf w size ks a len cap rows := by
  rcases Go.Deep.open_slice ht h with ⟨h0, _⟩ | ⟨a', len', cap', mm, n, D, Pl, hcs, _, hl, hm, hmm, _, hi⟩
  · simp at h0
    obtain ⟨rfl, rfl, rfl⟩ := h0
    exact ⟨[], .inl ⟨rfl, rfl, rfl, rfl⟩⟩
  · simp at hcs
    obtain ⟨rfl, rfl, rfl⟩ := hcs
    simp at hmm
    subst hmm
    have hex : ∀ i, ∃ r, i < mm → (Fits ks r ∧ ∀ (j : Nat) (v : Value), r[j]? = some v → w.cell? (a'.add (i * size + j)) = some v) := fun i => by
      rcases Nat.lt_or_ge i mm with hlt | hge
      · obtain ⟨cs', hc, ht'⟩ := hi i hlt
        obtain ⟨_, hcl, hat⟩ := World.cells?_some hc
        refine ⟨cs', fun _ => ⟨flat_fits hfl ht', fun j v hv => ?_⟩⟩
        have hj : j < cs'.length := (List.getElem?_eq_some_iff.1 hv).1
        have h2 := hat j (by omega)
        rw [Go.Deep.add_add] at h2
        rw [hsz] at h2
        rw [h2, hv]
      · exact ⟨[], fun h => absurd h (by omega)⟩
    refine ⟨(List.range mm).map fun i => Classical.choose (hex i), .inr ⟨a', rfl, hl, hm, by simp, fun i r hr => ?_⟩⟩
    have hlt : i < mm := by have := (List.getElem?_eq_some_iff.1 hr).1; simpa using this
    have hr' : r = Classical.choose (hex i) := by
      rw [List.getElem?_map, List.getElem?_range hlt] at hr
      exact (Option.some.inj hr).symm
    rw [hr']
    exact Classical.choose_spec (hex i) hlt

theorem trodAll_below (hl : laidOutB P = true) {W W' : World} (hb : Below W.heap.size W W') : ∀ {ts : List TypeId} {vs : List Value} {ds : List (DataW H)} {ps : List MemPlace},
    (ts.all fun t => P.readableRec t && decide (t < P.types.size)) = true → DataW.TrodAll enc P W 0 (fun _ => true) true ts vs ds ps → DataW.TrodAll enc P W' 0 (fun b => decide (b < W.heap.size)) true ts vs ds ps
  | [], vs, ds, ps, _, h => by
    cases vs with
    | nil => cases ds with
      | nil => exact h
      | cons _ _ => simp [DataW.TrodAll] at h
    | cons _ _ => simp [DataW.TrodAll] at h
  | t :: ts, vs, ds, ps, ha, h => by
    simp only [List.all_cons, Bool.and_eq_true, decide_eq_true_eq] at ha
    obtain ⟨v, vs', d, ds', p, q, rfl, rfl, rfl, h0, h1⟩ := ChangeShapes.trodAll_cons h
    have lt0 : ∀ x ∈ p, x.block < W.heap.size := by obtain ⟨m, hm⟩ := h0; exact DataW.trod_lt m _ _ _ hm
    exact trodAll_cons_mk (Below.trod hl ha.1.1 ha.1.2 h0 hb lt0) (trodAll_below hl hb ha.2 h1)

/-- A law's end: true, and nothing that was there has turned. -/
theorem law_end {fn : Func} {s : ChangeSpec} {tb : TypeId} {W W' : World} {args : Array Value} {ds gs : List (DataW H)} {before : List MemPlace} {e : Ending} (hl : laidOutB P = true)
    (hts : (fn.params.toList.all fun t => P.readableRec t && decide (t < P.types.size)) = true) (hW : DataW.Whole enc P fn.params.toList s.vars false W args.toList ds gs before) (hvars : s.vars = [])
    (hres : fn.resultTypes = #[tb]) (htb : P.underlying tb = some .bool) (hspec : gs = [] → (s.fn H (ds ++ gs)) = { results := [.lit (.bool true)], args := ds }) (he : e = .returned (.bool true)) (hb : Below W.heap.size W W') :
    ∃ v, e = .returned v ∧ s.post enc P fn false true false false W args v W' := by
  have hW' := hW
  obtain ⟨p, q, hA, hV, hpq, hfz, hnd⟩ := hW
  rw [hvars] at hV
  obtain ⟨rfl, rfl⟩ := ChangeShapes.trodVars_none hV
  have hs := hspec rfl
  refine ⟨_, he, ds, [], before, [], p, [], hW', ?_, ?_, ?_, hb.frame _, fun h => by cases h⟩
  · rw [hs, hres]
    exact ChangeShapes.trodAll_mk1 (RowKit.shut_bool htb true)
  · rw [hs]
    exact trodAll_below hl hb hts hA
  · rw [hvars, hs]
    rfl
end
end Go.Proofs.YtpakdcgcgekcfaaDoor

/-
  What a law's arguments read as, wider: types whose cells are integers, bools, strings and slices of integers; slices of such. No program in sight.
-/
set_option linter.unusedSimpArgs false
set_option linter.unusedVariables false
namespace Go.Proofs.YtpakdcgcgekcfaaDoor
open Go.RowKit

/-- A cell's kind. -/
inductive Kd where
  | bool
  | int (k : IntKind)
  | str
  | sl (k : IntKind)
def fitW (w : World) : Kd → Value → Prop
  | .bool, v => ∃ b, v = .bool b
  | .int k, v => ∃ n, v = .int k n ∧ (Lit.int k n).wf = true
  | .str, v => ∃ s : ByteArray, v = .string s ∧ s.size ≤ maxLen
  | .sl k, v => ∃ (a : Option Addr) (len cap : Nat) (zs : List Int), v = .slice a len cap ∧ zs.length = len ∧ len ≤ cap ∧ cap ≤ maxLen ∧ Ints k w w.heap.size a zs
def FitsW (w : World) : List Kd → List Value → Prop
  | [], [] => True
  | k :: ks, v :: vs => fitW w k v ∧ FitsW w ks vs
  | _, _ => False
theorem FitsW.append {w : World} : ∀ {a b : List Kd} {x y : List Value}, FitsW w a x → FitsW w b y → FitsW w (a ++ b) (x ++ y)
  | [], _, [], _, _, h => h
  | _ :: _, _, _ :: _, _, h, h' => ⟨h.1, FitsW.append h.2 h'⟩
theorem FitsW.cons {w : World} {k : Kd} {ks : List Kd} {l : List Value} (h : FitsW w (k :: ks) l) : ∃ v vs, l = v :: vs ∧ fitW w k v ∧ FitsW w ks vs := by
  cases l with
  | nil => exact h.elim
  | cons v vs => exact ⟨v, vs, rfl, h.1, h.2⟩
theorem FitsW.nil {w : World} {l : List Value} (h : FitsW w [] l) : l = [] := by
  cases l with
  | nil => rfl
  | cons v vs => exact h.elim
theorem FitsW.split {w : World} : ∀ {a b : List Kd} {x : List Value}, FitsW w (a ++ b) x → ∃ y z, x = y ++ z ∧ FitsW w a y ∧ FitsW w b z
  | [], _, x, h => ⟨[], x, rfl, trivial, h⟩
  | k :: a, b, v :: x, h => by
    obtain ⟨y, z, rfl, h1, h2⟩ := FitsW.split (a := a) (b := b) h.2
    exact ⟨v :: y, z, rfl, ⟨h.1, h1⟩, h2⟩
theorem FitsW.all_int {w : World} : ∀ {k : IntKind} {n : Nat} {x : List Value}, FitsW w (List.replicate n (.int k)) x → ∃ zs : List Int, x = zs.map (.int k) ∧ zs.length = n ∧ ∀ z ∈ zs, (Lit.int k z).wf = true
  | k, 0, [], _ => ⟨[], rfl, rfl, by simp⟩
  | k, n + 1, v :: vs, h => by
    obtain ⟨⟨z, rfl, hz⟩, h2⟩ := h
    obtain ⟨zs, rfl, hl, hw⟩ := FitsW.all_int h2
    exact ⟨z :: zs, rfl, by simp [hl], by simpa using ⟨hz, hw⟩⟩
theorem FitsW.flatten {w : World} : ∀ {l : List (List Kd)} {cs : List Value}, cs.length = l.flatten.length →
    (∀ (i : Nat) (a : List Kd), l[i]? = some a → FitsW w a ((cs.drop (l.take i).flatten.length).take a.length)) → FitsW w l.flatten cs
  | [], cs, hl, _ => by
    obtain rfl : cs = [] := List.eq_nil_of_length_eq_zero (by simpa using hl)
    trivial
  | a :: l, cs, hl, h => by
    have h0 := h 0 a rfl
    simp at h0
    have ih := FitsW.flatten (w := w) (l := l) (cs := cs.drop a.length) (by simp at hl ⊢; omega) (fun i b hb => by
      have := h (i + 1) b (by simpa using hb)
      simpa [List.drop_drop] using this)
    have := h0.append ih
    simpa using this
/-- The kinds of a type's cells. -/
def flatW (P : Program) : Nat → TypeId → Option (List Kd)
  | 0, _ => none
  | m + 1, t => match P.underlying t with
    | some .bool => some [.bool]
    | some (.int k) => some [.int k]
    | some .string => some [.str]
    | some (.slice e) => match P.underlying e with
      | some (.int k) => if P.cellsOf e = 1 then some [.sl k] else none
      | _ => none
    | some (.struct fs) => match fs.toList.mapM (fun f => flatW P m f.type) with
      | some l => if l.flatten.length = P.cellsOf t ∧ ((List.range fs.size).all fun i => match fs[i]?, l[i]? with | some f, some a => f.offset == (l.take i).flatten.length && a.length == P.cellsOf f.type | _, _ => false) = true then some l.flatten else none
      | none => none
    | some (.array n e) => match flatW P m e with
      | some a => if a.length = P.cellsOf e ∧ n * a.length = P.cellsOf t then some (List.replicate n a).flatten else none
      | none => none
    | _ => none
section
variable {H : Type} {enc : TypeId × Value → H} {P : Program} {w : World} {base : Nat} {held : Bool}
theorem flatW_fits : ∀ {m : Nat} {t : TypeId} {ks : List Kd} {fuel : Nat} {cs : List Value} {x : DataW H × List MemPlace},
    flatW P m t = some ks → DataW.trod enc P w base (fun _ => true) held fuel t cs = some x → FitsW w ks cs := by
  intro m
  induction m with
  | zero => intro t ks fuel cs x h; simp [flatW] at h
  | succ m ih =>
    intro t ks fuel cs x h hx
    unfold flatW at h
    split at h
    · rename_i ht
      cases h
      cases fuel with
      | zero => simp [DataW.trod] at hx
      | succ n =>
        unfold DataW.trod at hx
        rw [ht] at hx
        split at hx <;> simp_all [FitsW, fitW]
    · rename_i k ht
      cases h
      cases fuel with
      | zero => simp [DataW.trod] at hx
      | succ n =>
        unfold DataW.trod at hx
        rw [ht] at hx
        split at hx <;> simp_all [FitsW, fitW]
    · rename_i ht
      cases h
      obtain ⟨s, rfl, rfl, hw⟩ := DataW.trod_string ht hx
      exact ⟨⟨s, rfl, hw⟩, trivial⟩
    · rename_i e ht
      split at h
      · rename_i k he
        split at h
        · rename_i hc
          cases h
          have hfl : flat P 1 e = some [some k] := by simp [flat, he]
          have hcs : ∃ a len cap, cs = [.slice a len cap] := by
            rcases Go.Deep.open_slice ht hx with ⟨h0, _⟩ | ⟨a', len', cap', mm, n, D, Pl, hcs, _⟩
            · exact ⟨_, _, _, h0⟩
            · exact ⟨_, _, _, hcs⟩
          obtain ⟨a, len, cap, rfl⟩ := hcs
          obtain ⟨rows, hr⟩ := open_rows ht hfl hc hx
          obtain ⟨zs, h1, h2, h3, h4⟩ := rows_ints hr
          exact ⟨⟨a, len, cap, zs, rfl, h1, h2, h3, h4⟩, trivial⟩
        · cases h
      · cases h
    · rename_i fs ht
      obtain ⟨xs, n, _, _, hlen, _, hf⟩ := DataW.trod_struct ht hx
      split at h
      · rename_i l hl
        split at h
        · rename_i hc
          cases h
          refine FitsW.flatten (by rw [hlen, hc.1]) (fun i a ha => ?_)
          have hi : i < l.length := (List.getElem?_eq_some_iff.1 ha).1
          have hif : i < fs.size := by have := mapM_some_length hl; simp at this; omega
          have hfi : fs[i]? = some fs[i] := Array.getElem?_eq_getElem hif
          have hall := List.all_eq_true.1 hc.2 i (by simpa using hif)
          rw [hfi, ha] at hall
          simp only [Bool.and_eq_true, beq_iff_eq] at hall
          have hfl := mapM_some_get hl i fs[i] (by simp [hfi])
          rw [ha] at hfl
          have ht' := hf i fs[i] hfi
          rw [hall.1, ← hall.2] at ht'
          have hxi : i < xs.length := by omega
          rw [List.getElem?_eq_getElem hxi] at ht'
          exact ih hfl ht'
        · cases h
      · cases h
    · rename_i k e ht
      obtain ⟨xs, n, _, _, hlen, hxl, hf⟩ := DataW.trod_array ht hx
      split at h
      · rename_i a ha
        split at h
        · rename_i hc
          cases h
          have hrl : ∀ n, (List.replicate n a).flatten.length = n * a.length := flatten_replicate_len a
          refine FitsW.flatten (by rw [hlen, hrl, hc.2]) (fun i b hb => ?_)
          obtain ⟨hi, rfl⟩ := List.getElem?_eq_some_iff.1 hb
          have hik : i < k := by simpa using hi
          have ht' := hf i hik
          rw [List.getElem?_eq_getElem (by omega)] at ht'
          have hb2 : (List.replicate k a)[i] = a := by simp
          rw [hb2, List.take_replicate, hrl, Nat.min_eq_left (by omega), hc.1]
          exact ih ha ht'
        · cases h
      · cases h
    · cases h
/-- A slice of such elements that came in. -/
def RowsW (w : World) (size : Nat) (ks : List Kd) (a : Option Addr) (len cap : Nat) (rows : List (List Value)) : Prop :=
  rows.length = len ∧ len ≤ cap ∧ cap ≤ maxLen ∧ ∀ (i : Nat) (r : List Value), rows[i]? = some r → FitsW w ks r ∧ ∃ b off, a = some ⟨b, off, none⟩ ∧ ∀ (j : Nat) (v : Value), r[j]? = some v → b < w.heap.size ∧ w.cell? ⟨b, off + (i * size + j), none⟩ = some v
theorem open_rowsW {t e : TypeId} {m fuel size : Nat} {ks : List Kd} {a : Option Addr} {len cap : Nat} {x : DataW H × List MemPlace} (ht : P.underlying t = some (.slice e)) (hfl : flatW P m e = some ks) (hsz : P.cellsOf e = size) (hne : ks ≠ [])
    (h : DataW.trod enc P w base (fun _ => true) held fuel t [.slice a len cap] = some x) : ∃ rows, RowsW w size ks a len cap rows := by
  rcases Go.Deep.open_slice ht h with ⟨h0, _⟩ | ⟨a', len', cap', mm, n, D, Pl, hcs, _, hl, hm, hmm, _, hi⟩
  · simp at h0
    obtain ⟨rfl, rfl, rfl⟩ := h0
    exact ⟨[], rfl, Nat.le_refl _, Nat.zero_le _, fun i r hr => by simp at hr⟩
  · simp at hcs
    obtain ⟨rfl, rfl, rfl⟩ := hcs
    simp at hmm
    subst hmm
    have hex : ∀ i, ∃ r, i < mm → (FitsW w ks r ∧ ∀ (j : Nat) (v : Value), r[j]? = some v → w.cell? (a'.add (i * size + j)) = some v) := fun i => by
      rcases Nat.lt_or_ge i mm with hlt | hge
      · obtain ⟨cs', hc, ht'⟩ := hi i hlt
        obtain ⟨_, hcl, hat⟩ := World.cells?_some hc
        refine ⟨cs', fun _ => ⟨flatW_fits hfl ht', fun j v hv => ?_⟩⟩
        have hj : j < cs'.length := (List.getElem?_eq_some_iff.1 hv).1
        have h2 := hat j (by omega)
        rw [Go.Deep.add_add] at h2
        rw [hsz] at h2
        rw [h2, hv]
      · exact ⟨[], fun h => absurd h (by omega)⟩
    have hfirst : ∀ {r : List Value}, FitsW w ks r → ∃ v0, r[0]? = some v0 := fun {r} h1 => by
      match ks, hne, h1 with
      | k :: ks', _, h1 =>
        obtain ⟨v, vs, e, _⟩ := FitsW.cons h1
        exact ⟨v, by rw [e]; rfl⟩
    have hspot : 0 < mm → a'.spot = none := fun h0 => by
      obtain ⟨r, hr⟩ := hex 0
      obtain ⟨h1, h2⟩ := hr h0
      obtain ⟨v0, hv0⟩ := hfirst h1
      have h20 := h2 0 v0 hv0
      have := World.cell?_spot h20
      simpa [Addr.add] using this
    refine ⟨(List.range len).map fun i => Classical.choose (hex i), by simp, hl, hm, fun i r hr => ?_⟩
    have hlt : i < len := by have := (List.getElem?_eq_some_iff.1 hr).1; simpa using this
    have hr' : r = Classical.choose (hex i) := by
      rw [List.getElem?_map, List.getElem?_range hlt] at hr
      exact (Option.some.inj hr).symm
    rw [hr']
    obtain ⟨h1, h2⟩ := Classical.choose_spec (hex i) (by omega)
    refine ⟨h1, ?_⟩
    have hsp := hspot (by omega)
    obtain ⟨b, off, spot⟩ := a'
    simp only at hsp
    subst hsp
    refine ⟨b, off, rfl, fun j v hv => ?_⟩
    have := h2 j v hv
    rw [Go.WideShapes.add_plain] at this
    exact ⟨cell_lt this, this⟩
/-- A slice of strings. -/
def Strs (w : World) (B : Nat) (a : Option Addr) (ss : List ByteArray) : Prop := ∀ (i : Nat) (s : ByteArray), ss[i]? = some s → s.size ≤ maxLen ∧ ∃ b off, a = some ⟨b, off, none⟩ ∧ b < B ∧ w.cell? ⟨b, off + i, none⟩ = some (.string s)
theorem rows_strs {w : World} {a : Option Addr} {len cap : Nat} {rows : List (List Value)} (h : RowsW w 1 [.str] a len cap rows) : ∃ ss : List ByteArray, ss.length = len ∧ len ≤ cap ∧ cap ≤ maxLen ∧ Strs w w.heap.size a ss := by
  obtain ⟨h1, h2, h3, h4⟩ := h
  have hone : ∀ i, i < len → ∃ s : ByteArray, s.size ≤ maxLen ∧ ∃ b off, a = some ⟨b, off, none⟩ ∧ b < w.heap.size ∧ w.cell? ⟨b, off + i, none⟩ = some (.string s) := fun i hi => by
    obtain ⟨hf, b, off, e, hc⟩ := h4 i (rows[i]'(by omega)) (List.getElem?_eq_getElem _)
    obtain ⟨v, vs, e1, ⟨s, rfl, hs⟩, _⟩ := FitsW.cons hf
    obtain ⟨hlt, hcell⟩ := hc 0 (.string s) (by rw [e1]; rfl)
    exact ⟨s, hs, b, off, e, hlt, by simpa using hcell⟩
  have hone' : ∀ i, ∃ s : ByteArray, i < len → s.size ≤ maxLen ∧ ∃ b off, a = some ⟨b, off, none⟩ ∧ b < w.heap.size ∧ w.cell? ⟨b, off + i, none⟩ = some (.string s) := fun i => by
    rcases Nat.lt_or_ge i len with h | h
    · obtain ⟨s, hs⟩ := hone i h
      exact ⟨s, fun _ => hs⟩
    · exact ⟨ByteArray.empty, fun h' => absurd h' (by omega)⟩
  refine ⟨(List.range len).map fun i => Classical.choose (hone' i), by simp, h2, h3, fun i s hs => ?_⟩
  have hi : i < len := by have := (List.getElem?_eq_some_iff.1 hs).1; simpa using this
  rw [List.getElem?_map, List.getElem?_range hi] at hs
  obtain rfl := Option.some.inj hs
  exact Classical.choose_spec (hone' i) hi
end
end Go.Proofs.YtpakdcgcgekcfaaDoor
