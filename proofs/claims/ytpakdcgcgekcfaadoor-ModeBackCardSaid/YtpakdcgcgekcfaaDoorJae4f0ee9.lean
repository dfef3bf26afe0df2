/-
  Texts of this claim, joined: ModeBk, Frame, FrameW.
-/
import Derived.Test.YtpakdcgcgekcfaaDoorJf94e4d9d
import Derived.Test.YtpakdcgcgekcfaaDoorJ52d9bedf
import Derived.ChangeOld
import Derived.ChangeArms
import Derived.DataReads
import Derived.Deep.Slices
import Derived.ShutString
set_option linter.unusedVariables false
/-
  ModeBack.
-/
set_option linter.unusedSimpArgs false
set_option linter.unusedVariables false
namespace Go.Proofs.YtpakdcgcgekcfaaDoor
open Go.RowKit

namespace Aes
open Otp R1 Fuse Sha
theorem mode_some : ∃ ie z, Tryd.prog.info? 96 = some ie ∧ ie.zero = some z ∧ ie.size = 531 := by
  have h : (Tryd.prog.info? 96).map (fun i => (i.zero.isSome, i.size)) = some (true, 531) := by kernel_rfl
  cases hi : Tryd.prog.info? 96 with
  | none => rw [hi] at h; cases h
  | some ie =>
    rw [hi] at h
    simp only [Option.map_some, Option.some.injEq, Prod.mk.injEq] at h
    obtain ⟨z, hz⟩ := Option.isSome_iff_exists.1 h.1
    exact ⟨ie, z, rfl, hz, h.2⟩
/-- A slice of two modes is made. -/
theorem wpList_two_modes {ops : Array Oper} {rest : List Oper} {o : Oper} {a : Act} {w : World} {Q : Exit → Act → World → Prop} (hgd : o.guard = none) (x y : Operand) (ho : o.op = .buildSlice 166 2 #[(0, x), (1, y)])
    (A B : List Value) (hx : a.eval x = .agg A.toArray) (hy : a.eval y = .agg B.toArray) (hA : A.length = 531) (hB : B.length = 531)
    (h : ∀ w', Blk w' w.heap.size 96 (A ++ B).toArray → Below w.heap.size w w' → wpList Tryd.prog ops Q rest (a.put o.dst (.slice (some ⟨w.heap.size, 0, none⟩) 2 2)) w') : wpList Tryd.prog ops Q (o :: rest) a w := by
  obtain ⟨ie, z, h1, h2, h3⟩ := mode_some
  have hf : Instr.fill (fun i => some (i * ie.size, ie.size)) ((Array.range (2 * ie.size)).map (z.cells[· % z.cells.size]!)) [(0, .agg A.toArray), (1, .agg B.toArray)] = some (A ++ B).toArray := by
    rw [h3]
    obtain ⟨X, hX⟩ : ∃ X : List Value, (Array.range (2 * 531)).map (z.cells[· % z.cells.size]!) = X.toArray := ⟨_, Array.toArray_toList.symm⟩
    have hXl : X.length = 1062 := by
      have := congrArg Array.size hX
      simpa using this.symm
    rw [hX]
    have f1 := fill_part (fun i => some (i * 531, 531)) X 0 A [(1, .agg B.toArray)] 0 (by rw [hA]) (by rw [hXl, hA]; decide)
    have f2 := fill_part (fun i => some (i * 531, 531)) (splice X 0 A) 1 B [] 531 (by rw [hB]) (by rw [length_splice _ _ _ (by rw [hXl, hA]; decide), hXl, hB]; decide)
    refine f1.trans (f2.trans ?_)
    have hs := splice_two X A B (by rw [hXl, hA, hB])
    rw [hA] at hs
    rw [hs]
    rfl
  have hr := run_buildSlice (P := Tryd.prog) w 166 96 2 _ _ ie z Tryd.underlying166 h1 h2 (by rw [h3]; decide) (by rw [h3]; decide) hf
  refine wpList_plain hgd fun _ hK => ?_
  unfold Oper.wp execOp
  simp only [ho]
  rw [Sem.run_bind]
  simp only [List.map_toArray, List.map_cons, List.map_nil, hx, hy]
  rw [hr]
  simp only [Result.andThen_ok, Sem.run_pure]
  exact hK _ _ (h _ (Blk.new _ _ _) ((Below.refl _ w).alloc (Nat.le_refl _) _))
/-- Two modes in a slice. -/
theorem two_modes {w : World} {g : Nat} {m m' : Md} {A A' : Option Addr} {L L' c c' : Nat} (hm : m.Ok) (hm' : m'.Ok) (hk : KeyV w w.heap.size m.key A L c) (hk' : KeyV w w.heap.size m'.key A' L' c') (h : Blk w g 96 (mV A L c m ++ mV A' L' c' m').toArray) : Modes w w.heap.size g [m, m'] := by
  refine ⟨h.lt, fun i x hx => ?_⟩
  have hl := mV_length A L c hm.len
  match i, hx with
  | 0, hx =>
    obtain rfl : m = x := by simpa using hx
    refine ⟨hm, A, L, c, hk, h.rangeAt _ _ (fun j v hv => ?_)⟩
    rw [List.getElem?_append_left (by have := (List.getElem?_eq_some_iff.1 hv).1; omega), Nat.zero_mul, Nat.zero_add]
    exact hv
  | 1, hx =>
    obtain rfl : m' = x := by simpa using hx
    refine ⟨hm', A', L', c', hk', h.rangeAt _ _ (fun j v hv => ?_)⟩
    rw [List.getElem?_append_right (by omega), hl, show 1 * 531 + j - 531 = j by omega]
    exact hv
theorem all_two {m m' : Md} {p : List Nat} {nb : Nat} (hp : p.length = 16 * nb) : allM [m, m'] p 2 = (runM m' (runM m p nb).2 nb).2 := by
  have : p.length / 16 = nb := by omega
  simp only [allM, List.getElem?_cons_zero, List.getElem?_cons_succ, this]
set_option maxRecDepth 100000 in
set_option maxHeartbeats 4000000 in
theorem back_any (k : List Nat) (long : Bool) (st : List Nat) (A : Option Addr) (n c : Nat) (p : List Nat) (kd : Nat) (w : World) (hkl : k.length = 32) (hkb : ∀ x ∈ k, x < 256) (hsl : st.length = 16) (hsb : ∀ x ∈ st, x < 256) (hpn : p.length = n) (hnm : n ≤ maxLen) (hz : Nats .u8 256 w w.heap.size A p) (hkd : kd < 256) :
    Calls Tryd.prog 12 #[.agg (b8 k), .bool long, .agg (b8 st), .slice A n c, .int .u8 (kd : Int)] w (TrueBelow w) := by
  have HZ := wall hz
  have HPN := wall (And.intro hpn hnm)
  have HSB := wall (show (Tryd.prog.info? 90).map (·.size) = some (b8 st).size by rw [b8_size, hsl]; exact blk_info16)
  have HKI := wall (show (Tryd.prog.info? 22).map (·.size) = some (b8 k).size by rw [b8_size, hkl]; kernel_rfl)
  have HSL := wall (And.intro hsl hsb)
  have HKL := wall (And.intro hkl hkb)
  obtain ⟨w1, hw1⟩ : ∃ W, W = (w.alloc (.cells (b8 k) 22)).alloc (.cells (b8 st) 90) := ⟨_, rfl⟩
  have HW := wall hw1
  have HF := wall (show From w1 (fun W => (Below w.heap.size w W ∧ Blk W w.heap.size 22 (b8 k)) ∧ Blk W (w.heap.size + 1) 90 (b8 st)) by
    rw [hw1]
    exact ((From.below (((Below.refl _ w).alloc (Nat.le_refl _) _).alloc (by simp) _) (Nat.le_refl _)).and (From.blk ((Blk.new _ _ _).alloc _))).and (From.blk (blk_new' (by simp))))
  clear hw1 hz hpn hnm hsl hsb hkl hkb
  obtain ⟨hw, hh⟩ : ∃ h, kd % 3 = h := ⟨_, rfl⟩
  have hm1 := (hows kd).1
  have hm2 := (hows kd).2
  rw [hh] at hm1 hm2
  have hh2 : hw ≤ 2 := by omega
  go_enter Tryd.func12, Tryd.ntmps12
  go_upto_region 1 with fail
  rw [← HW.out]
  clear HW
  go_wp2_with fail
  (with_reducible refine (awake_any _).mono ?_); rintro e w2 ⟨rfl, hB2⟩
  replace HF := wall (HF.out.next hB2)
  clear hB2
  go_wp2_with (refine wpList_load_row rfl 22 _ rfl w.heap.size rfl 22 (b8 k) (0, 0) _ HF.out.now.1.2 Tryd.underlying22 rfl HKI.out ?_)
  (with_reducible refine (key_any k long w2 HKL.out.1 HKL.out.2).mono ?_); rintro e w3 ⟨v3, rfl, hO3, hB3⟩
  have HG := wall (kb_good (long := long) HKL.out.1 HKL.out.2)
  obtain ⟨kb, hkb⟩ : ∃ x, k.take (if long then 32 else 16) = x := ⟨_, rfl⟩
  rw [hkb] at HG hO3
  obtain ⟨A3, c3, rfl, hc3, -, hN3⟩ := own_cut hO3 HG.out.2
  replace HF := wall ((HF.out.next hB3).and (From.nats hN3))
  obtain ⟨L, hL⟩ : ∃ x, kb.length = x := ⟨_, rfl⟩
  rw [hL] at hc3 ⊢
  have HLL := wall (And.intro hL hc3)
  clear hB3 hkb hO3 hN3 hL hc3
  go_wp2_with fail
  (with_reducible refine (whole_any A n c p 8 8 w3 HPN.out.1 HPN.out.2 rfl (by decide) ((HZ.out.below HF.out.now.1.1.1).more HF.out.now.1.1.1.size)).mono ?_); rintro e w4 ⟨v4, rfl, hO4, hB4⟩
  have hpb : ∀ x ∈ p.take (16 * min (n / 16) 8), x < 256 := cut_byte HZ.out _
  have hpl : (p.take (16 * min (n / 16) 8)).length = 16 * min (n / 16) 8 := whole_length HPN.out.1 8
  obtain ⟨nb, hnb⟩ : ∃ x, min (n / 16) 8 = x := ⟨_, rfl⟩
  have hnb5 : nb ≤ 8 := by omega
  rw [hnb] at hpb hpl hO4
  obtain ⟨p', hp'⟩ : ∃ x, p.take (16 * nb) = x := ⟨_, rfl⟩
  rw [hp'] at hpb hpl hO4
  obtain ⟨A4, c4, rfl, hc4, hA4, hN4⟩ := own_cut hO4 hpb
  rw [hpl] at hc4 ⊢
  replace HF := wall ((HF.out.next hB4).and (From.nats hN4))
  have HPL := wall (And.intro hpl hpb)
  obtain ⟨n', hn'⟩ : ∃ x, 16 * nb = x := ⟨_, rfl⟩
  have HN := wall hn'.symm
  rw [hn'] at hc4 HPL ⊢
  have HC4 := wall (And.intro hc4 hA4)
  have HNM := wall (show n' ≤ 1000000 by omega)
  clear hB4 hnb hp' hO4 hN4 hpb hpl hn' hc4 hA4
  have hok : (⟨kb, hw, false, st⟩ : Md).Ok := ⟨HG.out, hh2, HSL.out.1, HSL.out.2⟩
  obtain ⟨m, hm⟩ : ∃ m, (⟨kb, hw, false, st⟩ : Md) = m := ⟨_, rfl⟩
  have HM := wall hm
  rw [hm] at hok
  have HOK := wall hok
  have HNEW := wall (fun W (q : Nats .u8 256 W W.heap.size A3 kb) => show Calls Tryd.prog 55 #[.int .i64 (hw : Int), .bool false, .slice A3 L c3, .agg (b8 st)] W (MnOut W m) from by
    have := mnew_any A3 L c3 (hw : Int) m W HOK.out (by rw [← HM.out]) (by rw [← HM.out]; exact HLL.out.1.symm) (by rw [← HM.out]; exact q)
    rw [← HM.out] at this
    rw [← HM.out]
    exact this)
  clear hm hok
  obtain ⟨ZM, hZM⟩ : ∃ x, zM.toArray = x := ⟨_, rfl⟩
  have HZM := wall (show Tryd.zeroCells96 = ZM by rw [← hZM, zM_eq])
  have HMF := wall (fun A L c (m : Md) (h : m.v.length = 16) => show M2F ZM (mV A L c m) by rw [← hZM]; exact m2f A L c h)
  clear hZM
  go_wp2_with (refine wpList_load_row rfl 90 _ rfl (w.heap.size + 1) rfl 90 (b8 st) (0, 0) _ HF.out.now.1.1.2 Tryd.underlying90 rfl HSB.out ?_)
  (with_reducible refine (HNEW.out _ HF.out.now.1.2).mono ?_); rintro e w5 ⟨A1, L1, c1, rfl, hV1, hB5⟩
  replace HF := wall (((HF.out.next hB5)).and (G := fun W => KeyV W W.heap.size m.key A1 L1 c1) (fun W hW => hV1.next hW))
  have HF1 := wall (HMF.out A1 L1 c1 m HOK.out.len)
  have HRUN := wall (fun W (q : KeyV W W.heap.size m.key A1 L1 c1) (r : Nats .u8 256 W W.heap.size A4 p') => run_any A1 L1 c1 m A4 n' nb c4 p' W HOK.out q HPL.out.1 HN.out HNM.out HC4.out.1 r)
  unfold RunOut at HRUN
  have HRK := wall (runM_ok HOK.out HPL.out.2 nb (by rw [HPL.out.1, HN.out]; exact Nat.le_refl _))
  have HF3 := wall (HMF.out A1 L1 c1 (runM m p' nb).1 HRK.out.1.len)
  obtain ⟨ML1, hML1⟩ : ∃ x, mV A1 L1 c1 m = x := ⟨_, rfl⟩
  obtain ⟨ML3, hML3⟩ : ∃ x, mV A1 L1 c1 (runM m p' nb).1 = x := ⟨_, rfl⟩
  have HML1 := wall hML1
  have HLE1 := wall (show ML1.length = 531 by rw [← hML1]; exact mV_length _ _ _ HOK.out.len)
  rw [hML1] at HF1 HRUN ⊢
  rw [hML3] at HF3 HRUN
  obtain ⟨cc, hcc⟩ : ∃ x, (runM m p' nb).2 = x := ⟨_, rfl⟩
  have hol := HRK.out.2.2.2.2
  rw [hcc] at hol HRUN
  rw [← HN.out] at hol
  have HOL := wall hol
  have HCC := wall hcc
  clear hV1 hB5 HNEW hML1 hML3 hol hcc
  go_upto_region 6 with (refine wpList_new_row rfl 96 (.tmp 13) (.tmp 45) rfl w5.heap.size ML1.toArray rfl rfl 96 ZM (by rw [← HZM.out]; exact Blk.new _ _ _) HF1.out.1 HF1.out.2.1 HF1.out.2.2 w5.heap.size w5 ((Below.refl _ w5).alloc (Nat.le_refl _) _) (Nat.le_refl _) ?_; intro w6 K B)
  replace HF := wall (((HF.out.next B.out)).and (From.blk K.out))
  clear K B
  obtain ⟨g6, hg⟩ : ∃ x, w5.heap.size = x := ⟨_, rfl⟩
  rw [hg] at HF ⊢
  clear hg
  obtain ⟨mB, hmB⟩ : ∃ x, m.turn true = x := ⟨_, rfl⟩
  have HMB := wall hmB
  have hmbe : mB = ⟨kb, hw, true, st⟩ := by rw [← hmB, ← HM.out]; rfl
  have hokb : mB.Ok := by rw [hmbe]; exact ⟨HG.out, hh2, HSL.out.1, HSL.out.2⟩
  have HOKB := wall hokb
  have HBE := wall hmbe
  have HNEB := wall (fun W (q : Nats .u8 256 W W.heap.size A3 kb) => show Calls Tryd.prog 55 #[.int .i64 (hw : Int), .bool true, .slice A3 L c3, .agg (b8 st)] W (MnOut W mB) from by
    have := mnew_any A3 L c3 (hw : Int) mB W HOKB.out (by rw [HBE.out]) (by rw [HBE.out]; exact HLL.out.1.symm) (by rw [HBE.out]; exact q)
    rw [HBE.out] at this
    rw [HBE.out]
    exact this)
  clear hmB hmbe hokb
  go_wp2_with (refine wpList_load_row rfl 90 _ rfl (w.heap.size + 1) rfl 90 (b8 st) (0, 0) _ HF.out.now.1.1.1.1.2 Tryd.underlying90 rfl HSB.out ?_)
  (with_reducible refine (HNEB.out _ HF.out.now.1.1.1.2).mono ?_); rintro e w7 ⟨A2, L2, c2, rfl, hV2, hB7⟩
  replace HF := wall (((HF.out.next hB7)).and (G := fun W => KeyV W W.heap.size mB.key A2 L2 c2) (fun W hW => hV2.next hW))
  have HF2 := wall (HMF.out A2 L2 c2 mB HOKB.out.len)
  have HRUN2 := wall (fun W A n c l (hl : List.length l = n) (hn : n = 16 * nb) (hc : n ≤ c) (q : KeyV W W.heap.size mB.key A2 L2 c2) (r : Nats .u8 256 W W.heap.size A l) => run_any A2 L2 c2 mB A n nb c l W HOKB.out q hl hn (by omega) hc r)
  unfold RunOut at HRUN2
  obtain ⟨ML2, hML2⟩ : ∃ x, mV A2 L2 c2 mB = x := ⟨_, rfl⟩
  have HML2 := wall hML2
  have HLE2 := wall (show ML2.length = 531 by rw [← hML2]; exact mV_length _ _ _ HOKB.out.len)
  rw [hML2] at HF2 HRUN2 ⊢
  clear hV2 hB7 HNEB hML2
  go_upto_region 7 with (refine wpList_new_row rfl 96 (.tmp 15) (.tmp 52) rfl w7.heap.size ML2.toArray rfl rfl 96 ZM (by rw [← HZM.out]; exact Blk.new _ _ _) HF2.out.1 HF2.out.2.1 HF2.out.2.2 w7.heap.size w7 ((Below.refl _ w7).alloc (Nat.le_refl _) _) (Nat.le_refl _) ?_; intro w8 K B)
  replace HF := wall (((HF.out.next B.out)).and (From.blk K.out))
  clear K B
  obtain ⟨g8, hg⟩ : ∃ x, w7.heap.size = x := ⟨_, rfl⟩
  rw [hg] at HF ⊢
  clear hg
  go_wp2_with (refine wpList_load_row rfl 96 _ rfl g6 rfl 96 ML1.toArray (0, 0) _ HF.out.now.1.1.2 Tryd.underlying96 rfl HF1.out.1 ?_)
  (with_reducible refine (HRUN.out _ HF.out.now.1.1.1.2 HF.out.now.1.1.1.1.2).mono ?_); rintro e w9 ⟨v9, rfl, hO9, hB9⟩
  obtain ⟨A9, c9, rfl, hc, hA, hN⟩ := own_cut hO9 HOL.out.2
  rw [HOL.out.1] at hc ⊢
  have HA9 := wall (And.intro hc hA)
  replace HF := wall (((HF.out.next hB9)).and (From.nats hN))
  clear hc hA hN hO9 hB9 HRUN
  go_upto_region 8 with (refine wpList_new_row rfl 96 (.tmp 17) (.tmp 58) rfl w9.heap.size ML3.toArray rfl rfl 96 ZM (by rw [← HZM.out]; exact Blk.new _ _ _) HF3.out.1 HF3.out.2.1 HF3.out.2.2 w9.heap.size w9 ((Below.refl _ w9).alloc (Nat.le_refl _) _) (Nat.le_refl _) ?_; intro w10 K B)
  replace HF := wall (HF.out.next B.out)
  clear K B
  go_wp2_with (refine wpList_load_row rfl 96 _ rfl g8 rfl 96 ML2.toArray (0, 0) _ HF.out.now.1.2 Tryd.underlying96 rfl HF2.out.1 ?_)
  (with_reducible refine (HRUN2.out _ A9 n' c9 cc HOL.out.1 HN.out HA9.out.1 HF.out.now.1.1.2 HF.out.now.2).mono ?_); rintro e w11 ⟨v11, rfl, hO11, hB11⟩
  have hbk : (runM mB cc nb).2 = p' := by
    rw [← HMB.out, ← HCC.out]
    exact run_back HOK.out (by rw [← HM.out]) HPL.out.2 (HPL.out.1.trans HN.out)
  have HF4 := wall (HMF.out A2 L2 c2 (runM mB cc nb).1 (runM_ok HOKB.out HOL.out.2 nb (by rw [HOL.out.1, HN.out]; exact Nat.le_refl _)).1.len)
  obtain ⟨ML4, hML4⟩ : ∃ x, mV A2 L2 c2 (runM mB cc nb).1 = x := ⟨_, rfl⟩
  rw [hML4] at HF4 ⊢
  rw [hbk] at hO11
  obtain ⟨A11, c11, rfl, hc, hA, hN⟩ := own_cut hO11 HPL.out.2
  rw [HPL.out.1] at hc ⊢
  have HA11 := wall (And.intro hc hA)
  replace HF := wall (((HF.out.next hB11)).and (From.nats hN))
  clear hc hA hN hO11 hB11 hML4 hbk
  go_upto_region 9 with (refine wpList_new_row rfl 96 (.tmp 20) (.tmp 65) rfl w11.heap.size ML4.toArray rfl rfl 96 ZM (by rw [← HZM.out]; exact Blk.new _ _ _) HF4.out.1 HF4.out.2.1 HF4.out.2.2 w11.heap.size w11 ((Below.refl _ w11).alloc (Nat.le_refl _) _) (Nat.le_refl _) ?_; intro w12 K B)
  replace HF := wall (HF.out.next B.out)
  clear K B
  go_wp2_with (first | refine wpList_load_row rfl 96 _ rfl g6 rfl 96 ML1.toArray (0, 0) _ HF.out.now.1.1.1.1.2 Tryd.underlying96 rfl HF1.out.1 ?_ | refine wpList_load_row rfl 96 _ rfl g8 rfl 96 ML2.toArray (0, 0) _ HF.out.now.1.1.2 Tryd.underlying96 rfl HF2.out.1 ?_ | (refine wpList_two_modes rfl (.tmp 70) (.tmp 71) rfl ML1 ML2 rfl rfl HLE1.out HLE2.out ?_; intro w13 K13 B13))
  replace HF := wall (HF.out.next B13)
  have hms := two_modes HOK.out HOKB.out HF.out.now.1.1.1.1.1.2 HF.out.now.1.1.1.2 (by rw [HML1.out, HML2.out]; exact K13)
  have HALL := wall (all_any A4 n' c4 p' w12.heap.size 2 2 (some ⟨w12.heap.size, 0, none⟩) [m, mB] w13 HPL.out.1 (.inr (by rw [HN.out]; omega)) HNM.out HC4.out.1 HC4.out.2 HF.out.now.1.1.1.1.1.1.2 rfl (by decide) (.inr ⟨rfl, hms⟩))
  clear K13 B13 hms
  (with_reducible refine (HALL.out).mono ?_); rintro e w14 ⟨v14, rfl, hO14, hB14⟩
  rw [all_two (HPL.out.1.trans HN.out), HCC.out, show (runM mB cc nb).2 = p' by
    rw [← HMB.out, ← HCC.out]
    exact run_back HOK.out (by rw [← HM.out]) HPL.out.2 (HPL.out.1.trans HN.out)] at hO14
  obtain ⟨A14, c14, rfl, hc, hA, hN⟩ := own_cut hO14 HPL.out.2
  rw [HPL.out.1] at hc ⊢
  have HA14 := wall (And.intro hc hA)
  replace HF := wall (((HF.out.next hB14)).and (From.nats hN))
  clear hc hA hN hO14 hB14 HALL
  go_wp2_with (first | refine wpList_load_row rfl 96 _ rfl g6 rfl 96 ML1.toArray (0, 0) _ HF.out.now.1.1.1.1.1.2 Tryd.underlying96 rfl HF1.out.1 ?_ | refine wpList_load_row rfl 96 _ rfl g8 rfl 96 ML2.toArray (0, 0) _ HF.out.now.1.1.1.2 Tryd.underlying96 rfl HF2.out.1 ?_ | (refine wpList_two_modes rfl (.tmp 78) (.tmp 79) rfl ML2 ML1 rfl rfl HLE2.out HLE1.out ?_; intro w15 K15 B15))
  replace HF := wall (HF.out.next B15)
  have hms := two_modes HOKB.out HOK.out HF.out.now.1.1.1.1.2 HF.out.now.1.1.1.1.1.1.2 (by rw [HML1.out, HML2.out]; exact K15)
  have HALL := wall (all_any A4 n' c4 p' w14.heap.size 2 2 (some ⟨w14.heap.size, 0, none⟩) [mB, m] w15 HPL.out.1 (.inr (by rw [HN.out]; omega)) HNM.out HC4.out.1 HC4.out.2 HF.out.now.1.1.1.1.1.1.1.2 rfl (by decide) (.inr ⟨rfl, hms⟩))
  clear K15 B15 hms
  (with_reducible refine (HALL.out).mono ?_); rintro e w16 ⟨v16, rfl, hO16, hB16⟩
  obtain ⟨T, hT⟩ : ∃ x, allM [mB, m] p' 2 = x := ⟨_, rfl⟩
  have hTo := allM_ok (ms := [mB, m]) (by
    intro x hx
    simp only [List.mem_cons, List.not_mem_nil, or_false] at hx
    rcases hx with rfl | rfl
    · exact HOKB.out
    · exact HOK.out) HPL.out.2 (by rw [HPL.out.1, HN.out]; omega) 2
  rw [hT] at hO16 hTo
  rw [HPL.out.1] at hTo
  have HTO := wall hTo
  have hTp : hw ≠ 1 → T = p' := fun h => by
    have hm : mB.turn false = m := by rw [HBE.out, ← HM.out]; rfl
    rw [← hT, all_two (HPL.out.1.trans HN.out), ← hm]
    exact run_turn HOKB.out (by rw [HBE.out]) (by rw [HBE.out]; exact h) HPL.out.2 (HPL.out.1.trans HN.out)
  have HTP := wall hTp
  obtain ⟨A16, c16, rfl, hc, hA, hN⟩ := own_cut hO16 HTO.out.2
  rw [HTO.out.1] at hc ⊢
  have HA16 := wall (And.intro hc hA)
  replace HF := wall (((HF.out.next hB16)).and (From.nats hN))
  clear hc hA hN hO16 hB16 HALL hT hTo hTp
  have HD := wall (show hw = 2 → (runM mB p' nb).2 = cc from fun h => by
    rw [← HMB.out, ← HCC.out, run_ctr (by rw [← HM.out]; exact h)])
  have hrk := runM_ok HOKB.out HPL.out.2 nb (by rw [HPL.out.1, HN.out]; exact Nat.le_refl _)
  have hdl := hrk.2.2.2.2
  have HF5 := wall (HMF.out A2 L2 c2 (runM mB p' nb).1 hrk.1.len)
  have HRUN5 := wall (fun W (q : KeyV W W.heap.size mB.key A2 L2 c2) (r : Nats .u8 256 W W.heap.size A4 p') => HRUN2.out W A4 n' c4 p' HPL.out.1 HN.out HC4.out.1 q r)
  obtain ⟨ML5, hML5⟩ : ∃ x, mV A2 L2 c2 (runM mB p' nb).1 = x := ⟨_, rfl⟩
  obtain ⟨d, hd⟩ : ∃ x, (runM mB p' nb).2 = x := ⟨_, rfl⟩
  rw [hML5] at HF5 HRUN5
  rw [hd] at HRUN5 HD hdl
  rw [← HN.out] at hdl
  have HDL := wall hdl
  clear hML5 hd hdl hrk HRUN2
  have HSAM := wall (fun W (A B : Option Addr) (ca cb : Nat) (x : List Nat) (v : Bool) (hx : x.length = n') (h1 : Nats .u8 256 W W.heap.size A x) (y : List Nat) (hy : y.length = n') (h2 : Nats .u8 256 W W.heap.size B y) (hv : decide (x = y) = v) => show Calls Tryd.prog 29 #[.slice A n' ca, .slice B n' cb] W (fun e w' => e = .returned (.bool v) ∧ Below W.heap.size W w') from
    (same_any A B n' n' ca cb x y v W W.heap.size W.heap.size hx hy (by have := HNM.out; simp only [maxLen]; omega) (by have := HNM.out; simp only [maxLen]; omega) h1 h2 hv).mono fun _ _ ⟨h, k, hk⟩ => ⟨h, by rw [hk]; exact below_drewN (Below.refl _ _) k⟩)
  rcases (show (hw : Int) = 0 ∨ (hw : Int) = 1 ∨ (hw : Int) = 2 by omega) with h0 | h0 | h0
  · have e1 : ((hw : Int) == 1) = false := by rw [h0]; rfl
    have f1 : ((hw : Int) != 1) = true := by rw [h0]; rfl
    have e2 : ((hw : Int) == 2) = false := by rw [h0]; rfl
    have f2 : ((hw : Int) != 2) = true := by rw [h0]; rfl
    have HTP1 := wall (HTP.out (by omega))
    clear h0 hm1 hm2 hh hh2
    go_wp2_with fail
    (with_reducible refine (HSAM.out _ A11 A4 c11 c4 p' true HPL.out.1 HF.out.now.1.1.2 p' HPL.out.1 HF.out.now.1.1.1.1.1.1.1.1.2 (decide_eq_true rfl)).mono ?_); rintro e w17 ⟨rfl, hB17⟩
    replace HF := wall (HF.out.next hB17)
    clear hB17
    go_wp2_with fail
    (with_reducible refine (HSAM.out _ A14 A4 c14 c4 p' true HPL.out.1 HF.out.now.1.2 p' HPL.out.1 HF.out.now.1.1.1.1.1.1.1.1.2 (decide_eq_true rfl)).mono ?_); rintro e w18 ⟨rfl, hB18⟩
    replace HF := wall (HF.out.next hB18)
    clear hB18
    go_wp2_with fail
    (with_reducible refine (HSAM.out _ A16 A4 c16 c4 T true HTO.out.1 HF.out.now.2 p' HPL.out.1 HF.out.now.1.1.1.1.1.1.1.1.2 (decide_eq_true HTP1.out)).mono ?_); rintro e w19 ⟨rfl, hB19⟩
    replace HF := wall (HF.out.next hB19)
    clear hB19
    go_wp2_with (refine wpList_load_row rfl 96 _ rfl g8 rfl 96 ML2.toArray (0, 0) _ HF.out.now.1.1.1.1.2 Tryd.underlying96 rfl HF2.out.1 ?_)
    (with_reducible refine (HRUN5.out _ HF.out.now.1.1.1.1.1.2 HF.out.now.1.1.1.1.1.1.1.1.2).mono ?_); rintro e w20 ⟨v20, rfl, hO20, hB20⟩
    obtain ⟨A20, c20, rfl, hc, hA, hN⟩ := own_cut hO20 HDL.out.2
    rw [HDL.out.1] at hc ⊢
    replace HF := wall (((HF.out.next hB20)).and (From.nats hN))
    clear hc hA hN hO20 hB20 HRUN5
    go_upto_region 14 with (refine wpList_new_row rfl 96 (.tmp 27) (.tmp 124) rfl w20.heap.size ML5.toArray rfl rfl 96 ZM (by rw [← HZM.out]; exact Blk.new _ _ _) HF5.out.1 HF5.out.2.1 HF5.out.2.2 w20.heap.size w20 ((Below.refl _ w20).alloc (Nat.le_refl _) _) (Nat.le_refl _) ?_; intro w21 K B)
    replace HF := wall (HF.out.next B.out)
    clear K B
    go_wp2_with fail
    go_light
    go_ret
    exact ⟨rfl, HF.out.now.1.1.1.1.1.1.1.1.1.1.1.1.1⟩
  · have e1 : ((hw : Int) == 1) = true := by rw [h0]; rfl
    have f1 : ((hw : Int) != 1) = false := by rw [h0]; rfl
    have e2 : ((hw : Int) == 2) = false := by rw [h0]; rfl
    have f2 : ((hw : Int) != 2) = true := by rw [h0]; rfl
    clear h0 hm1 hm2 hh hh2
    go_wp2_with fail
    (with_reducible refine (HSAM.out _ A11 A4 c11 c4 p' true HPL.out.1 HF.out.now.1.1.2 p' HPL.out.1 HF.out.now.1.1.1.1.1.1.1.1.2 (decide_eq_true rfl)).mono ?_); rintro e w17 ⟨rfl, hB17⟩
    replace HF := wall (HF.out.next hB17)
    clear hB17
    go_wp2_with fail
    (with_reducible refine (HSAM.out _ A14 A4 c14 c4 p' true HPL.out.1 HF.out.now.1.2 p' HPL.out.1 HF.out.now.1.1.1.1.1.1.1.1.2 (decide_eq_true rfl)).mono ?_); rintro e w18 ⟨rfl, hB18⟩
    replace HF := wall (HF.out.next hB18)
    clear hB18
    go_wp2_with (refine wpList_load_row rfl 96 _ rfl g8 rfl 96 ML2.toArray (0, 0) _ HF.out.now.1.1.1.1.2 Tryd.underlying96 rfl HF2.out.1 ?_)
    (with_reducible refine (HRUN5.out _ HF.out.now.1.1.1.1.1.2 HF.out.now.1.1.1.1.1.1.1.1.2).mono ?_); rintro e w20 ⟨v20, rfl, hO20, hB20⟩
    obtain ⟨A20, c20, rfl, hc, hA, hN⟩ := own_cut hO20 HDL.out.2
    rw [HDL.out.1] at hc ⊢
    replace HF := wall (((HF.out.next hB20)).and (From.nats hN))
    clear hc hA hN hO20 hB20 HRUN5
    go_upto_region 14 with (refine wpList_new_row rfl 96 (.tmp 27) (.tmp 124) rfl w20.heap.size ML5.toArray rfl rfl 96 ZM (by rw [← HZM.out]; exact Blk.new _ _ _) HF5.out.1 HF5.out.2.1 HF5.out.2.2 w20.heap.size w20 ((Below.refl _ w20).alloc (Nat.le_refl _) _) (Nat.le_refl _) ?_; intro w21 K B)
    replace HF := wall (HF.out.next B.out)
    clear K B
    go_wp2_with fail
    go_light
    go_ret
    exact ⟨rfl, HF.out.now.1.1.1.1.1.1.1.1.1.1.1.1.1⟩
  · have e1 : ((hw : Int) == 1) = false := by rw [h0]; rfl
    have f1 : ((hw : Int) != 1) = true := by rw [h0]; rfl
    have e2 : ((hw : Int) == 2) = true := by rw [h0]; rfl
    have f2 : ((hw : Int) != 2) = false := by rw [h0]; rfl
    have HTP1 := wall (HTP.out (by omega))
    have HD1 := wall (HD.out (by omega))
    clear h0 hm1 hm2 hh hh2
    go_wp2_with fail
    (with_reducible refine (HSAM.out _ A11 A4 c11 c4 p' true HPL.out.1 HF.out.now.1.1.2 p' HPL.out.1 HF.out.now.1.1.1.1.1.1.1.1.2 (decide_eq_true rfl)).mono ?_); rintro e w17 ⟨rfl, hB17⟩
    replace HF := wall (HF.out.next hB17)
    clear hB17
    go_wp2_with fail
    (with_reducible refine (HSAM.out _ A14 A4 c14 c4 p' true HPL.out.1 HF.out.now.1.2 p' HPL.out.1 HF.out.now.1.1.1.1.1.1.1.1.2 (decide_eq_true rfl)).mono ?_); rintro e w18 ⟨rfl, hB18⟩
    replace HF := wall (HF.out.next hB18)
    clear hB18
    go_wp2_with fail
    (with_reducible refine (HSAM.out _ A16 A4 c16 c4 T true HTO.out.1 HF.out.now.2 p' HPL.out.1 HF.out.now.1.1.1.1.1.1.1.1.2 (decide_eq_true HTP1.out)).mono ?_); rintro e w19 ⟨rfl, hB19⟩
    replace HF := wall (HF.out.next hB19)
    clear hB19
    go_wp2_with (refine wpList_load_row rfl 96 _ rfl g8 rfl 96 ML2.toArray (0, 0) _ HF.out.now.1.1.1.1.2 Tryd.underlying96 rfl HF2.out.1 ?_)
    (with_reducible refine (HRUN5.out _ HF.out.now.1.1.1.1.1.2 HF.out.now.1.1.1.1.1.1.1.1.2).mono ?_); rintro e w20 ⟨v20, rfl, hO20, hB20⟩
    obtain ⟨A20, c20, rfl, hc, hA, hN⟩ := own_cut hO20 HDL.out.2
    rw [HDL.out.1] at hc ⊢
    replace HF := wall (((HF.out.next hB20)).and (From.nats hN))
    clear hc hA hN hO20 hB20 HRUN5
    go_upto_region 14 with (refine wpList_new_row rfl 96 (.tmp 27) (.tmp 124) rfl w20.heap.size ML5.toArray rfl rfl 96 ZM (by rw [← HZM.out]; exact Blk.new _ _ _) HF5.out.1 HF5.out.2.1 HF5.out.2.2 w20.heap.size w20 ((Below.refl _ w20).alloc (Nat.le_refl _) _) (Nat.le_refl _) ?_; intro w21 K B)
    replace HF := wall (HF.out.next B.out)
    clear K B
    go_wp2_with fail
    (with_reducible refine (HSAM.out _ A20 A9 c20 c9 d true HDL.out.1 HF.out.now.2 cc HOL.out.1 HF.out.now.1.1.1.1.2 (decide_eq_true HD1.out)).mono ?_); rintro e w22 ⟨rfl, hB22⟩
    replace HF := wall (HF.out.next hB22)
    clear hB22
    go_wp2_with fail
    go_light
    go_ret
    exact ⟨rfl, HF.out.now.1.1.1.1.1.1.1.1.1.1.1.1.1⟩
theorem back_frame (zk : List Int) (long : Bool) (zs : List Int) (A : Option Addr) (n c : Nat) (p : List Nat) (kd : Int) (w : World) (hkl : zk.length = 32) (hkb : ∀ z ∈ zk, (Lit.int .u8 z).wf = true) (hsl : zs.length = 16) (hsb : ∀ z ∈ zs, (Lit.int .u8 z).wf = true) (hk : (Lit.int .u8 kd).wf = true) (hpn : p.length = n) (hnm : n ≤ maxLen) (hz : Nats .u8 256 w w.heap.size A p) :
    Calls Tryd.prog 12 #[.agg (zk.map (Value.int .u8)).toArray, .bool long, .agg (zs.map (Value.int .u8)).toArray, .slice A n c, .int .u8 kd] w (TrueBelow w) := by
  obtain ⟨h1, h2⟩ := Slot.u8_ints zk hkb
  obtain ⟨h3, h4⟩ := Slot.u8_ints zs hsb
  have hb := bounds_u8 hk
  obtain ⟨d, hd⟩ : ∃ d : Nat, kd = (d : Int) := ⟨kd.toNat, by omega⟩
  subst hd
  rw [h1, h3]
  exact back_any _ long _ A n c p d w (by rw [List.length_map]; exact hkl) h2 (by rw [List.length_map]; exact hsl) h4 hpn hnm hz (by omega)
end Aes
end Go.Proofs.YtpakdcgcgekcfaaDoor

/-
  What a law's arguments read as: 'flat' types (whose cells are all integers or bools), by value and as elements of a slice; and that all arguments read behind the call as they did. No program in sight.
-/
set_option linter.unusedSimpArgs false
set_option linter.unusedVariables false
namespace Go.Proofs.YtpakdcgcgekcfaaDoor
open Go.RowKit

/-- A cell's kind: an integer's, or none: a bool. -/
def fit1 : Option IntKind → Value → Prop
  | none, v => ∃ b, v = .bool b
  | some k, v => ∃ n, v = .int k n ∧ (Lit.int k n).wf = true
def Fits : List (Option IntKind) → List Value → Prop
  | [], [] => True
  | k :: ks, v :: vs => fit1 k v ∧ Fits ks vs
  | _, _ => False

theorem Fits.append : ∀ {a b : List (Option IntKind)} {x y : List Value}, Fits a x → Fits b y → Fits (a ++ b) (x ++ y)
  | [], _, [], _, _, h => h
  | _ :: _, _, _ :: _, _, h, h' => ⟨h.1, Fits.append h.2 h'⟩
theorem Fits.length : ∀ {a : List (Option IntKind)} {x : List Value}, Fits a x → x.length = a.length
  | [], [], _ => rfl
  | _ :: _, _ :: _, h => by simp [Fits.length h.2]
theorem Fits.cons {k : Option IntKind} {ks : List (Option IntKind)} {l : List Value} (h : Fits (k :: ks) l) : ∃ v vs, l = v :: vs ∧ fit1 k v ∧ Fits ks vs := by
  cases l with
  | nil => exact h.elim
  | cons v vs => exact ⟨v, vs, rfl, h.1, h.2⟩
theorem Fits.nil {l : List Value} (h : Fits [] l) : l = [] := by
  cases l with
  | nil => rfl
  | cons v vs => exact h.elim
theorem Fits.get : ∀ {a : List (Option IntKind)} {x : List Value}, Fits a x → ∀ (i : Nat) (k : Option IntKind), a[i]? = some k → ∃ v, x[i]? = some v ∧ fit1 k v
  | _ :: _, _ :: _, h, 0, _, hk => by simp at hk; subst hk; exact ⟨_, rfl, h.1⟩
  | _ :: _, _ :: _, h, i + 1, k, hk => by simpa using Fits.get h.2 i k (by simpa using hk)
theorem Fits.flatten : ∀ {l : List (List (Option IntKind))} {cs : List Value}, cs.length = l.flatten.length →
    (∀ (i : Nat) (a : List (Option IntKind)), l[i]? = some a → Fits a ((cs.drop (l.take i).flatten.length).take a.length)) → Fits l.flatten cs
  | [], cs, hl, _ => by
    obtain rfl : cs = [] := List.eq_nil_of_length_eq_zero (by simpa using hl)
    trivial
  | a :: l, cs, hl, h => by
    have h0 := h 0 a rfl
    simp at h0
    have ih := Fits.flatten (l := l) (cs := cs.drop a.length) (by simp at hl ⊢; omega) (fun i b hb => by
      have := h (i + 1) b (by simpa using hb)
      simpa [List.drop_drop] using this)
    have := h0.append ih
    simpa using this
theorem Fits.all_int : ∀ {k : IntKind} {n : Nat} {x : List Value}, Fits (List.replicate n (some k)) x → ∃ zs : List Int, x = zs.map (.int k) ∧ zs.length = n ∧ ∀ z ∈ zs, (Lit.int k z).wf = true
  | k, 0, [], _ => ⟨[], rfl, rfl, by simp⟩
  | k, n + 1, v :: vs, h => by
    obtain ⟨⟨z, rfl, hz⟩, h2⟩ := h
    obtain ⟨zs, rfl, hl, hw⟩ := Fits.all_int h2
    exact ⟨z :: zs, rfl, by simp [hl], by simpa using ⟨hz, hw⟩⟩

/-- The kinds of a type's cells, where they are all integers or bools. -/
def flat (P : Program) : Nat → TypeId → Option (List (Option IntKind))
  | 0, _ => none
  | m + 1, t => match P.underlying t with
    | some .bool => some [none]
    | some (.int k) => some [some k]
    | some (.struct fs) => match fs.toList.mapM (fun f => flat P m f.type) with
      | some l => if l.flatten.length = P.cellsOf t ∧ ((List.range fs.size).all fun i => match fs[i]?, l[i]? with | some f, some a => f.offset == (l.take i).flatten.length && a.length == P.cellsOf f.type | _, _ => false) = true then some l.flatten else none
      | none => none
    | some (.array n e) => match flat P m e with
      | some a => if a.length = P.cellsOf e ∧ n * a.length = P.cellsOf t then some (List.replicate n a).flatten else none
      | none => none
    | _ => none

theorem flatten_replicate_len {α : Type} (a : List α) : ∀ n, (List.replicate n a).flatten.length = n * a.length
  | 0 => by simp
  | n + 1 => by simp

section
variable {H : Type} {enc : TypeId × Value → H} {P : Program} {w : World} {base : Nat} {spare : Nat → Bool} {held : Bool}
theorem flat_fits : ∀ {m : Nat} {t : TypeId} {ks : List (Option IntKind)} {fuel : Nat} {cs : List Value} {x : DataW H × List MemPlace},
    flat P m t = some ks → DataW.trod enc P w base spare held fuel t cs = some x → Fits ks cs := by
  intro m
  induction m with
  | zero => intro t ks fuel cs x h; simp [flat] at h
  | succ m ih =>
    intro t ks fuel cs x h hx
    unfold flat at h
    split at h
    · rename_i ht
      cases h
      cases fuel with
      | zero => simp [DataW.trod] at hx
      | succ n =>
        unfold DataW.trod at hx
        rw [ht] at hx
        split at hx <;> simp_all [Fits, fit1]
    · rename_i k ht
      cases h
      cases fuel with
      | zero => simp [DataW.trod] at hx
      | succ n =>
        unfold DataW.trod at hx
        rw [ht] at hx
        split at hx <;> simp_all [Fits, fit1]
    · rename_i fs ht
      obtain ⟨xs, n, _, _, hlen, _, hf⟩ := DataW.trod_struct ht hx
      split at h
      · rename_i l hl
        split at h
        · rename_i hc
          cases h
          refine Fits.flatten (by rw [hlen, hc.1]) (fun i a ha => ?_)
          have hi : i < l.length := (List.getElem?_eq_some_iff.1 ha).1
          have hif : i < fs.size := by have := mapM_some_length hl; simp at this; omega
          have hfi : fs[i]? = some fs[i] := Array.getElem?_eq_getElem hif
          have hall := List.all_eq_true.1 hc.2 i (by simpa using hif)
          rw [hfi, ha] at hall
          simp only [Bool.and_eq_true, beq_iff_eq] at hall
          have hfl := mapM_some_get hl i fs[i] (by simp [hfi])
          rw [ha] at hfl
          have ht' := hf i fs[i] hfi
          rw [hall.1, ← hall.2] at ht'
          have hxi : i < xs.length := by omega
          rw [List.getElem?_eq_getElem hxi] at ht'
          exact ih hfl ht'
        · cases h
      · cases h
    · rename_i k e ht
      obtain ⟨xs, n, _, _, hlen, hxl, hf⟩ := DataW.trod_array ht hx
      split at h
      · rename_i a ha
        split at h
        · rename_i hc
          cases h
          refine Fits.flatten (by rw [hlen, flatten_replicate_len, hc.2]) (fun i b hb => ?_)
          obtain ⟨hi, rfl⟩ := List.getElem?_eq_some_iff.1 hb
          have hik : i < k := by simpa using hi
          have ht' := hf i hik
          rw [List.getElem?_eq_getElem (by omega)] at ht'
          have hb2 : (List.replicate k a)[i] = a := by simp
          rw [hb2, List.take_replicate, flatten_replicate_len, Nat.min_eq_left (by omega), hc.1]
          exact ih ha ht'
        · cases h
      · cases h
    · cases h

/-- A slice of flat elements that came in: nil, or a row of 'cap' elements of 'size' cells (the first 'len' are its own, the rest spare). -/
def RowsOf (w : World) (size : Nat) (ks : List (Option IntKind)) (a : Option Addr) (len cap : Nat) (rows : List (List Value)) : Prop :=
  (a = none ∧ len = 0 ∧ cap = 0 ∧ rows = []) ∨
  ∃ x, a = some x ∧ len ≤ cap ∧ cap ≤ maxLen ∧ rows.length = cap ∧ ∀ (i : Nat) (r : List Value), rows[i]? = some r → Fits ks r ∧ ∀ (j : Nat) (v : Value), r[j]? = some v → w.cell? (x.add (i * size + j)) = some v

theorem rows_ints {w : World} {k : IntKind} {a : Option Addr} {len cap : Nat} {rows : List (List Value)} (h : RowsOf w 1 [some k] a len cap rows) : ∃ zs : List Int, zs.length = len ∧ len ≤ cap ∧ cap ≤ maxLen ∧ Ints k w w.heap.size a zs := by
  rcases h with ⟨rfl, rfl, rfl, rfl⟩ | ⟨x, rfl, hl, hm, hr, hx⟩
  · exact ⟨[], rfl, Nat.le_refl _, Nat.zero_le _, fun i z hz => by simp at hz⟩
  · have hone : ∀ i, i < cap → ∃ z : Int, (Lit.int k z).wf = true ∧ w.cell? (x.add i) = some (.int k z) := fun i hi => by
      obtain ⟨hf, hc⟩ := hx i (rows[i]'(by omega)) (List.getElem?_eq_getElem _)
      obtain ⟨v, vs, e, ⟨z, rfl, hz⟩, _⟩ := Fits.cons hf
      have := hc 0 (.int k z) (by rw [e]; rfl)
      exact ⟨z, hz, by simpa using this⟩
    have hone' : ∀ i, ∃ z : Int, i < cap → (Lit.int k z).wf = true ∧ w.cell? (x.add i) = some (.int k z) := fun i => by
      rcases Nat.lt_or_ge i cap with h | h
      · obtain ⟨z, hz⟩ := hone i h
        exact ⟨z, fun _ => hz⟩
      · exact ⟨0, fun h' => absurd h' (by omega)⟩
    obtain ⟨f, hf⟩ : ∃ f : Nat → Int, ∀ i, i < cap → (Lit.int k (f i)).wf = true ∧ w.cell? (x.add i) = some (.int k (f i)) := ⟨fun i => Classical.choose (hone' i), fun i => Classical.choose_spec (hone' i)⟩
    refine ⟨(List.range len).map f, by simp, hl, hm, fun i z hz => ?_⟩
    have hi : i < len := by have := (List.getElem?_eq_some_iff.1 hz).1; simpa using this
    rw [List.getElem?_map, List.getElem?_range hi] at hz
    obtain rfl := Option.some.inj hz
    obtain ⟨h1, h2⟩ := hf i (by omega)
    obtain ⟨_, h20⟩ := hf 0 (by omega)
    obtain ⟨b, off, spot⟩ := x
    have hspot : spot = none := by simpa [Addr.add] using World.cell?_spot h20
    subst hspot
    rw [Go.WideShapes.add_plain] at h2
    exact ⟨h1, b, off, rfl, cell_lt h2, h2⟩
theorem ints_nats {k : IntKind} {w : World} {B M : Nat} {a : Option Addr} {zs : List Int} (hM : ∀ z : Int, (Lit.int k z).wf = true → 0 ≤ z ∧ z < M) (h : Ints k w B a zs) : Nats k M w B a (zs.map Int.toNat) := fun i z hz => by
  rw [List.getElem?_map] at hz
  cases hzi : zs[i]? with
  | none => rw [hzi] at hz; cases hz
  | some y =>
    rw [hzi] at hz
    obtain rfl := Option.some.inj hz
    obtain ⟨h1, b, off, h2, h3, h4⟩ := h i y hzi
    obtain ⟨h5, h6⟩ := hM y h1
    exact ⟨by omega, b, off, h2, h3, by rw [h4, Int.toNat_of_nonneg h5]⟩

theorem open_flat {r : Reach} {b0 : Nat} {t : TypeId} {m : Nat} {ks : List (Option IntKind)} {v : Value} {d : DataW H} {p : List MemPlace} (hfl : flat P m t = some ks) (hs : (∃ fs, P.underlying t = some (.struct fs)) ∨ ∃ n e, P.underlying t = some (.array n e))
    (hv : Value.okWide P w r b0 t v) (h : DataW.Trod enc P w base spare held t v d p) : ∃ cs, v = .agg cs ∧ Fits ks cs.toList := by
  obtain ⟨cs, rfl⟩ : ∃ cs, v = .agg cs := by
    rcases hs with ⟨fs, hs⟩ | ⟨n, e, hs⟩
    · obtain ⟨cs, h, _⟩ := WideShapes.okWide_struct hs hv; exact ⟨cs, h⟩
    · simp only [Value.okWide, hs] at hv
      obtain ⟨cs, h, _⟩ := hv
      exact ⟨cs, h⟩
  obtain ⟨fuel, hf⟩ := h
  exact ⟨cs, rfl, flat_fits hfl (by simpa [Value.cells] using hf)⟩

theorem open_rows {t e : TypeId} {m fuel size : Nat} {ks : List (Option IntKind)} {a : Option Addr} {len cap : Nat} {x : DataW H × List MemPlace} (ht : P.underlying t = some (.slice e)) (hfl : flat P m e = some ks) (hsz : P.cellsOf e = size)
    (h : DataW.trod enc P w base (fun _ => true) held fuel t [.slice a len cap] = some x) : ∃ rows, RowsOf w size ks a len cap rows := by
  rcases Go.Deep.open_slice ht h with ⟨h0, _⟩ | ⟨a', len', cap', mm, n, D, Pl, hcs, _, hl, hm, hmm, _, hi⟩
  · simp at h0
    obtain ⟨rfl, rfl, rfl⟩ := h0
    exact ⟨[], .inl ⟨rfl, rfl, rfl, rfl⟩⟩
  · simp at hcs
    obtain ⟨rfl, rfl, rfl⟩ := hcs
    simp at hmm
    subst hmm
    have hex : ∀ i, ∃ r, i < mm → (Fits ks r ∧ ∀ (j : Nat) (v : Value), r[j]? = some v → w.cell? (a'.add (i * size + j)) = some v) := fun i => by
      rcases Nat.lt_or_ge i mm with hlt | hge
      · obtain ⟨cs', hc, ht'⟩ := hi i hlt
        obtain ⟨_, hcl, hat⟩ := World.cells?_some hc
        refine ⟨cs', fun _ => ⟨flat_fits hfl ht', fun j v hv => ?_⟩⟩
        have hj : j < cs'.length := (List.getElem?_eq_some_iff.1 hv).1
        have h2 := hat j (by omega)
        rw [Go.Deep.add_add] at h2
        rw [hsz] at h2
        rw [h2, hv]
      · exact ⟨[], fun h => absurd h (by omega)⟩
    refine ⟨(List.range mm).map fun i => Classical.choose (hex i), .inr ⟨a', rfl, hl, hm, by simp, fun i r hr => ?_⟩⟩
    have hlt : i < mm := by have := (List.getElem?_eq_some_iff.1 hr).1; simpa using this
    have hr' : r = Classical.choose (hex i) := by
      rw [List.getElem?_map, List.getElem?_range hlt] at hr
      exact (Option.some.inj hr).symm
    rw [hr']
    exact Classical.choose_spec (hex i) hlt

theorem trodAll_below (hl : laidOutB P = true) {W W' : World} (hb : Below W.heap.size W W') : ∀ {ts : List TypeId} {vs : List Value} {ds : List (DataW H)} {ps : List MemPlace},
    (ts.all fun t => P.readableRec t && decide (t < P.types.size)) = true → DataW.TrodAll enc P W 0 (fun _ => true) true ts vs ds ps → DataW.TrodAll enc P W' 0 (fun b => decide (b < W.heap.size)) true ts vs ds ps
  | [], vs, ds, ps, _, h => by
    cases vs with
    | nil => cases ds with
      | nil => exact h
      | cons _ _ => simp [DataW.TrodAll] at h
    | cons _ _ => simp [DataW.TrodAll] at h
  | t :: ts, vs, ds, ps, ha, h => by
    simp only [List.all_cons, Bool.and_eq_true, decide_eq_true_eq] at ha
    obtain ⟨v, vs', d, ds', p, q, rfl, rfl, rfl, h0, h1⟩ := ChangeShapes.trodAll_cons h
    have lt0 : ∀ x ∈ p, x.block < W.heap.size := by obtain ⟨m, hm⟩ := h0; exact DataW.trod_lt m _ _ _ hm
    exact trodAll_cons_mk (Below.trod hl ha.1.1 ha.1.2 h0 hb lt0) (trodAll_below hl hb ha.2 h1)

/-- A law's end: true, and nothing that was there has turned. -/
theorem law_end {fn : Func} {s : ChangeSpec} {tb : TypeId} {W W' : World} {args : Array Value} {ds gs : List (DataW H)} {before : List MemPlace} {e : Ending} (hl : laidOutB P = true)
    (hts : (fn.params.toList.all fun t => P.readableRec t && decide (t < P.types.size)) = true) (hW : DataW.Whole enc P fn.params.toList s.vars false W args.toList ds gs before) (hvars : s.vars = [])
    (hres : fn.resultTypes = #[tb]) (htb : P.underlying tb = some .bool) (hspec : gs = [] → (s.fn H (ds ++ gs)) = { results := [.lit (.bool true)], args := ds }) (he : e = .returned (.bool true)) (hb : Below W.heap.size W W') :
    ∃ v, e = .returned v ∧ s.post enc P fn false true false false W args v W' := by
  have hW' := hW
  obtain ⟨p, q, hA, hV, hpq, hfz, hnd⟩ := hW
  rw [hvars] at hV
  obtain ⟨rfl, rfl⟩ := ChangeShapes.trodVars_none hV
  have hs := hspec rfl
  refine ⟨_, he, ds, [], before, [], p, [], hW', ?_, ?_, ?_, hb.frame _, fun h => by cases h⟩
  · rw [hs, hres]
    exact ChangeShapes.trodAll_mk1 (RowKit.shut_bool htb true)
  · rw [hs]
    exact trodAll_below hl hb hts hA
  · rw [hvars, hs]
    rfl
end
end Go.Proofs.YtpakdcgcgekcfaaDoor

/-
  What a law's arguments read as, wider: types whose cells are integers, bools, strings and slices of integers; slices of such. No program in sight.
-/
set_option linter.unusedSimpArgs false
set_option linter.unusedVariables false
namespace Go.Proofs.YtpakdcgcgekcfaaDoor
open Go.RowKit

/-- A cell's kind. -/
inductive Kd where
  | bool
  | int (k : IntKind)
  | str
  | sl (k : IntKind)
def fitW (w : World) : Kd → Value → Prop
  | .bool, v => ∃ b, v = .bool b
  | .int k, v => ∃ n, v = .int k n ∧ (Lit.int k n).wf = true
  | .str, v => ∃ s : ByteArray, v = .string s ∧ s.size ≤ maxLen
  | .sl k, v => ∃ (a : Option Addr) (len cap : Nat) (zs : List Int), v = .slice a len cap ∧ zs.length = len ∧ len ≤ cap ∧ cap ≤ maxLen ∧ Ints k w w.heap.size a zs
def FitsW (w : World) : List Kd → List Value → Prop
  | [], [] => True
  | k :: ks, v :: vs => fitW w k v ∧ FitsW w ks vs
  | _, _ => False
theorem FitsW.append {w : World} : ∀ {a b : List Kd} {x y : List Value}, FitsW w a x → FitsW w b y → FitsW w (a ++ b) (x ++ y)
  | [], _, [], _, _, h => h
  | _ :: _, _, _ :: _, _, h, h' => ⟨h.1, FitsW.append h.2 h'⟩
theorem FitsW.cons {w : World} {k : Kd} {ks : List Kd} {l : List Value} (h : FitsW w (k :: ks) l) : ∃ v vs, l = v :: vs ∧ fitW w k v ∧ FitsW w ks vs := by
  cases l with
  | nil => exact h.elim
  | cons v vs => exact ⟨v, vs, rfl, h.1, h.2⟩
theorem FitsW.nil {w : World} {l : List Value} (h : FitsW w [] l) : l = [] := by
  cases l with
  | nil => rfl
  | cons v vs => exact h.elim
theorem FitsW.split {w : World} : ∀ {a b : List Kd} {x : List Value}, FitsW w (a ++ b) x → ∃ y z, x = y ++ z ∧ FitsW w a y ∧ FitsW w b z
  | [], _, x, h => ⟨[], x, rfl, trivial, h⟩
  | k :: a, b, v :: x, h => by
    obtain ⟨y, z, rfl, h1, h2⟩ := FitsW.split (a := a) (b := b) h.2
    exact ⟨v :: y, z, rfl, ⟨h.1, h1⟩, h2⟩
theorem FitsW.all_int {w : World} : ∀ {k : IntKind} {n : Nat} {x : List Value}, FitsW w (List.replicate n (.int k)) x → ∃ zs : List Int, x = zs.map (.int k) ∧ zs.length = n ∧ ∀ z ∈ zs, (Lit.int k z).wf = true
  | k, 0, [], _ => ⟨[], rfl, rfl, by simp⟩
  | k, n + 1, v :: vs, h => by
    obtain ⟨⟨z, rfl, hz⟩, h2⟩ := h
    obtain ⟨zs, rfl, hl, hw⟩ := FitsW.all_int h2
    exact ⟨z :: zs, rfl, by simp [hl], by simpa using ⟨hz, hw⟩⟩
theorem FitsW.flatten {w : World} : ∀ {l : List (List Kd)} {cs : List Value}, cs.length = l.flatten.length →
    (∀ (i : Nat) (a : List Kd), l[i]? = some a → FitsW w a ((cs.drop (l.take i).flatten.length).take a.length)) → FitsW w l.flatten cs
  | [], cs, hl, _ => by
    obtain rfl : cs = [] := List.eq_nil_of_length_eq_zero (by simpa using hl)
    trivial
  | a :: l, cs, hl, h => by
    have h0 := h 0 a rfl
    simp at h0
    have ih := FitsW.flatten (w := w) (l := l) (cs := cs.drop a.length) (by simp at hl ⊢; omega) (fun i b hb => by
      have := h (i + 1) b (by simpa using hb)
      simpa [List.drop_drop] using this)
    have := h0.append ih
    simpa using this
/-- The kinds of a type's cells. -/
def flatW (P : Program) : Nat → TypeId → Option (List Kd)
  | 0, _ => none
  | m + 1, t => match P.underlying t with
    | some .bool => some [.bool]
    | some (.int k) => some [.int k]
    | some .string => some [.str]
    | some (.slice e) => match P.underlying e with
      | some (.int k) => if P.cellsOf e = 1 then some [.sl k] else none
      | _ => none
    | some (.struct fs) => match fs.toList.mapM (fun f => flatW P m f.type) with
      | some l => if l.flatten.length = P.cellsOf t ∧ ((List.range fs.size).all fun i => match fs[i]?, l[i]? with | some f, some a => f.offset == (l.take i).flatten.length && a.length == P.cellsOf f.type | _, _ => false) = true then some l.flatten else none
      | none => none
    | some (.array n e) => match flatW P m e with
      | some a => if a.length = P.cellsOf e ∧ n * a.length = P.cellsOf t then some (List.replicate n a).flatten else none
      | none => none
    | _ => none
section
variable {H : Type} {enc : TypeId × Value → H} {P : Program} {w : World} {base : Nat} {held : Bool}
theorem flatW_fits : ∀ {m : Nat} {t : TypeId} {ks : List Kd} {fuel : Nat} {cs : List Value} {x : DataW H × List MemPlace},
    flatW P m t = some ks → DataW.trod enc P w base (fun _ => true) held fuel t cs = some x → FitsW w ks cs := by
  intro m
  induction m with
  | zero => intro t ks fuel cs x h; simp [flatW] at h
  | succ m ih =>
    intro t ks fuel cs x h hx
    unfold flatW at h
    split at h
    · rename_i ht
      cases h
      cases fuel with
      | zero => simp [DataW.trod] at hx
      | succ n =>
        unfold DataW.trod at hx
        rw [ht] at hx
        split at hx <;> simp_all [FitsW, fitW]
    · rename_i k ht
      cases h
      cases fuel with
      | zero => simp [DataW.trod] at hx
      | succ n =>
        unfold DataW.trod at hx
        rw [ht] at hx
        split at hx <;> simp_all [FitsW, fitW]
    · rename_i ht
      cases h
      obtain ⟨s, rfl, rfl, hw⟩ := DataW.trod_string ht hx
      exact ⟨⟨s, rfl, hw⟩, trivial⟩
    · rename_i e ht
      split at h
      · rename_i k he
        split at h
        · rename_i hc
          cases h
          have hfl : flat P 1 e = some [some k] := by simp [flat, he]
          have hcs : ∃ a len cap, cs = [.slice a len cap] := by
            rcases Go.Deep.open_slice ht hx with ⟨h0, _⟩ | ⟨a', len', cap', mm, n, D, Pl, hcs, _⟩
            · exact ⟨_, _, _, h0⟩
            · exact ⟨_, _, _, hcs⟩
          obtain ⟨a, len, cap, rfl⟩ := hcs
          obtain ⟨rows, hr⟩ := open_rows ht hfl hc hx
          obtain ⟨zs, h1, h2, h3, h4⟩ := rows_ints hr
          exact ⟨⟨a, len, cap, zs, rfl, h1, h2, h3, h4⟩, trivial⟩
        · cases h
      · cases h
    · rename_i fs ht
      obtain ⟨xs, n, _, _, hlen, _, hf⟩ := DataW.trod_struct ht hx
      split at h
      · rename_i l hl
        split at h
        · rename_i hc
          cases h
          refine FitsW.flatten (by rw [hlen, hc.1]) (fun i a ha => ?_)
          have hi : i < l.length := (List.getElem?_eq_some_iff.1 ha).1
          have hif : i < fs.size := by have := mapM_some_length hl; simp at this; omega
          have hfi : fs[i]? = some fs[i] := Array.getElem?_eq_getElem hif
          have hall := List.all_eq_true.1 hc.2 i (by simpa using hif)
          rw [hfi, ha] at hall
          simp only [Bool.and_eq_true, beq_iff_eq] at hall
          have hfl := mapM_some_get hl i fs[i] (by simp [hfi])
          rw [ha] at hfl
          have ht' := hf i fs[i] hfi
          rw [hall.1, ← hall.2] at ht'
          have hxi : i < xs.length := by omega
          rw [List.getElem?_eq_getElem hxi] at ht'
          exact ih hfl ht'
        · cases h
      · cases h
    · rename_i k e ht
      obtain ⟨xs, n, _, _, hlen, hxl, hf⟩ := DataW.trod_array ht hx
      split at h
      · rename_i a ha
        split at h
        · rename_i hc
          cases h
          have hrl : ∀ n, (List.replicate n a).flatten.length = n * a.length := flatten_replicate_len a
          refine FitsW.flatten (by rw [hlen, hrl, hc.2]) (fun i b hb => ?_)
          obtain ⟨hi, rfl⟩ := List.getElem?_eq_some_iff.1 hb
          have hik : i < k := by simpa using hi
          have ht' := hf i hik
          rw [List.getElem?_eq_getElem (by omega)] at ht'
          have hb2 : (List.replicate k a)[i] = a := by simp
          rw [hb2, List.take_replicate, hrl, Nat.min_eq_left (by omega), hc.1]
          exact ih ha ht'
        · cases h
      · cases h
    · cases h
/-- A slice of such elements that came in. -/
def RowsW (w : World) (size : Nat) (ks : List Kd) (a : Option Addr) (len cap : Nat) (rows : List (List Value)) : Prop :=
  rows.length = len ∧ len ≤ cap ∧ cap ≤ maxLen ∧ ∀ (i : Nat) (r : List Value), rows[i]? = some r → FitsW w ks r ∧ ∃ b off, a = some ⟨b, off, none⟩ ∧ ∀ (j : Nat) (v : Value), r[j]? = some v → b < w.heap.size ∧ w.cell? ⟨b, off + (i * size + j), none⟩ = some v
theorem open_rowsW {t e : TypeId} {m fuel size : Nat} {ks : List Kd} {a : Option Addr} {len cap : Nat} {x : DataW H × List MemPlace} (ht : P.underlying t = some (.slice e)) (hfl : flatW P m e = some ks) (hsz : P.cellsOf e = size) (hne : ks ≠ [])
    (h : DataW.trod enc P w base (fun _ => true) held fuel t [.slice a len cap] = some x) : ∃ rows, RowsW w size ks a len cap rows := by
  rcases Go.Deep.open_slice ht h with ⟨h0, _⟩ | ⟨a', len', cap', mm, n, D, Pl, hcs, _, hl, hm, hmm, _, hi⟩
  · simp at h0
    obtain ⟨rfl, rfl, rfl⟩ := h0
    exact ⟨[], rfl, Nat.le_refl _, Nat.zero_le _, fun i r hr => by simp at hr⟩
  · simp at hcs
    obtain ⟨rfl, rfl, rfl⟩ := hcs
    simp at hmm
    subst hmm
    have hex : ∀ i, ∃ r, i < mm → (FitsW w ks r ∧ ∀ (j : Nat) (v : Value), r[j]? = some v → w.cell? (a'.add (i * size + j)) = some v) := fun i => by
      rcases Nat.lt_or_ge i mm with hlt | hge
      · obtain ⟨cs', hc, ht'⟩ := hi i hlt
        obtain ⟨_, hcl, hat⟩ := World.cells?_some hc
        refine ⟨cs', fun _ => ⟨flatW_fits hfl ht', fun j v hv => ?_⟩⟩
        have hj : j < cs'.length := (List.getElem?_eq_some_iff.1 hv).1
        have h2 := hat j (by omega)
        rw [Go.Deep.add_add] at h2
        rw [hsz] at h2
        rw [h2, hv]
      · exact ⟨[], fun h => absurd h (by omega)⟩
    have hfirst : ∀ {r : List Value}, FitsW w ks r → ∃ v0, r[0]? = some v0 := fun {r} h1 => by
      match ks, hne, h1 with
      | k :: ks', _, h1 =>
        obtain ⟨v, vs, e, _⟩ := FitsW.cons h1
        exact ⟨v, by rw [e]; rfl⟩
    have hspot : 0 < mm → a'.spot = none := fun h0 => by
      obtain ⟨r, hr⟩ := hex 0
      obtain ⟨h1, h2⟩ := hr h0
      obtain ⟨v0, hv0⟩ := hfirst h1
      have h20 := h2 0 v0 hv0
      have := World.cell?_spot h20
      simpa [Addr.add] using this
    refine ⟨(List.range len).map fun i => Classical.choose (hex i), by simp, hl, hm, fun i r hr => ?_⟩
    have hlt : i < len := by have := (List.getElem?_eq_some_iff.1 hr).1; simpa using this
    have hr' : r = Classical.choose (hex i) := by
      rw [List.getElem?_map, List.getElem?_range hlt] at hr
      exact (Option.some.inj hr).symm
    rw [hr']
    obtain ⟨h1, h2⟩ := Classical.choose_spec (hex i) (by omega)
    refine ⟨h1, ?_⟩
    have hsp := hspot (by omega)
    obtain ⟨b, off, spot⟩ := a'
    simp only at hsp
    subst hsp
    refine ⟨b, off, rfl, fun j v hv => ?_⟩
    have := h2 j v hv
    rw [Go.WideShapes.add_plain] at this
    exact ⟨cell_lt this, this⟩
/-- A slice of strings. -/
def Strs (w : World) (B : Nat) (a : Option Addr) (ss : List ByteArray) : Prop := ∀ (i : Nat) (s : ByteArray), ss[i]? = some s → s.size ≤ maxLen ∧ ∃ b off, a = some ⟨b, off, none⟩ ∧ b < B ∧ w.cell? ⟨b, off + i, none⟩ = some (.string s)
theorem rows_strs {w : World} {a : Option Addr} {len cap : Nat} {rows : List (List Value)} (h : RowsW w 1 [.str] a len cap rows) : ∃ ss : List ByteArray, ss.length = len ∧ len ≤ cap ∧ cap ≤ maxLen ∧ Strs w w.heap.size a ss := by
  obtain ⟨h1, h2, h3, h4⟩ := h
  have hone : ∀ i, i < len → ∃ s : ByteArray, s.size ≤ maxLen ∧ ∃ b off, a = some ⟨b, off, none⟩ ∧ b < w.heap.size ∧ w.cell? ⟨b, off + i, none⟩ = some (.string s) := fun i hi => by
    obtain ⟨hf, b, off, e, hc⟩ := h4 i (rows[i]'(by omega)) (List.getElem?_eq_getElem _)
    obtain ⟨v, vs, e1, ⟨s, rfl, hs⟩, _⟩ := FitsW.cons hf
    obtain ⟨hlt, hcell⟩ := hc 0 (.string s) (by rw [e1]; rfl)
    exact ⟨s, hs, b, off, e, hlt, by simpa using hcell⟩
  have hone' : ∀ i, ∃ s : ByteArray, i < len → s.size ≤ maxLen ∧ ∃ b off, a = some ⟨b, off, none⟩ ∧ b < w.heap.size ∧ w.cell? ⟨b, off + i, none⟩ = some (.string s) := fun i => by
    rcases Nat.lt_or_ge i len with h | h
    · obtain ⟨s, hs⟩ := hone i h
      exact ⟨s, fun _ => hs⟩
    · exact ⟨ByteArray.empty, fun h' => absurd h' (by omega)⟩
  refine ⟨(List.range len).map fun i => Classical.choose (hone' i), by simp, h2, h3, fun i s hs => ?_⟩
  have hi : i < len := by have := (List.getElem?_eq_some_iff.1 hs).1; simpa using this
  rw [List.getElem?_map, List.getElem?_range hi] at hs
  obtain rfl := Option.some.inj hs
  exact Classical.choose_spec (hone' i) hi
end
end Go.Proofs.YtpakdcgcgekcfaaDoor
