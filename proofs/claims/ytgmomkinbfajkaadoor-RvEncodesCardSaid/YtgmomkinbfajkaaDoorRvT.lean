/-
  The law RvEncodes.
-/
import Derived.Test.YtgmomkinbfajkaaDoorRvS
import Derived.Test.YtgmomkinbfajkaaDoorRvU
import Derived.Test.YtgmomkinbfajkaaDoorRvAw
import Derived.Test.YtgmomkinbfajkaaDoorRelG
import Derived.Test.YtgmomkinbfajkaaDoorRelUse
import Derived.WalkKit
import Derived.Deep.DeepCutAuto
set_option linter.unusedSimpArgs false
set_option linter.unusedVariables false
namespace Go.Proofs.YtgmomkinbfajkaaDoor
open Go.RowKit Go.Maps

namespace Rv
open Otp Sha R1
theorem inR_eq (x i : In) (w : World) : (Op.equalIn 10000 29 (.agg (inC x)) (.agg (inC i))).run Tryd.prog w = .ok (decide (x = i)) w := by
  have h := run_equalIn_struct (P := Tryd.prog) w 9999 29 (inC x) (inC i) (by simp [Program.fieldsOf, Tryd.underlying29]) (by kernel_rfl)
  refine h.trans ?_
  rw [show Tryd.prog.fieldsOf 29 = _ from by (unfold Program.fieldsOf; rw [Tryd.underlying29])]
  obtain ⟨a1, a2, a3, a4, a5, a6⟩ := x
  obtain ⟨b1, b2, b3, b4, b5, b6⟩ := i
  simp only [inC]
  go_simp
  simp only [Int.natCast_inj]
  by_cases h1 : a1 = b1 <;> by_cases h2 : a2 = b2 <;> by_cases h3 : a3 = b3 <;> by_cases h4 : a4 = b4 <;> by_cases h5 : a5 = b5 <;> by_cases h6 : a6 = b6 <;> simp [h1, h2, h3, h4, h5, h6]
theorem inR_same (x i : In) (h : x = i) (w : World) : (Op.equalIn 10000 29 (.agg (inC x)) (.agg (inC i))).run Tryd.prog w = .ok true w := by
  rw [inR_eq, decide_eq_true h]
theorem enc_pair (i : In) (hi : i.Ok) : ∃ x ok, enc i = (x, ok) ∧ x < 4294967296 ∧ (ok = true → ref x = i) ∧ (ok = false → x = 0) := by
  refine ⟨(enc i).1, (enc i).2, rfl, enc_lt hi, fun h => ?_, enc_no i⟩
  have h1 := enc_ok i h
  have h2 := (dec_ref (enc i).1).1
  rw [h1] at h2
  exact h2.symm
theorem dec_pair (v : Nat) (hv : v < 4294967296) : ∃ j ok, dec v = (j, ok) ∧ j.Ok ∧ (ok = true → (enc j).2 = true) := by
  refine ⟨(dec v).1, (dec v).2, rfl, dec_Ok hv, fun h => ?_⟩
  exact enc_dec hv (Prod.ext rfl h)
set_option maxRecDepth 100000 in
set_option maxHeartbeats 4000000 in
theorem encodes_any (i : In) (hi : i.Ok) (v : Nat) (hv : v < 4294967296) (w : World) (hT : STb w) :
    Calls Tryd.prog 3 #[.agg (inC i), .int .u32 (v : Int)] w (TrueBelow w) := by
  have HT := wall hT
  have HE := wall (fun W => encode_any i hi W)
  obtain ⟨x, ok, hx, hxl, hxt, hxf⟩ := enc_pair i hi
  obtain ⟨j, okj, hj, hjo, hjt⟩ := dec_pair v hv
  have HD := wall (fun W => decode_any v v W rfl hv)
  rw [hj] at HD
  have HEJ := wall (fun W => encode_any j hjo W)
  obtain ⟨y, oky, hy, hyl, hyt, hyf⟩ := enc_pair j hjo
  rw [hy] at hjt HEJ
  rw [hx] at HE
  simp only at hjt HE HEJ HD
  have HRX := wall (fun W => refDecode_any x x W rfl hxl)
  have HRY := wall (fun W => refDecode_any y y W rfl hyl)
  have heqX := wall (fun h => inR_same (ref x) i (hxt h))
  have heqY := wall (fun h => inR_same (ref y) j (hyt h))
  have HX1 := wall (inC_one i)
  have HX2 := wall (show (Tryd.prog.info? 25).map (·.size) = some (inC i).size from in_info)
  have HJ1 := wall (inC_one j)
  have HJ2 := wall (show (Tryd.prog.info? 25).map (·.size) = some (inC j).size from in_info)
  have HJ3 := wall (show (inC zIn).size = (inC j).size from rfl)
  have HXF := wall hxf
  have HJT := wall hjt
  have HYY := wall (And.intro hxl hyl)
  unfold InOut at HD
  unfold EncOut at HE HEJ
  unfold RefOut at HRX HRY
  obtain ⟨RX, hRX⟩ : ∃ A, inC (ref x) = A := ⟨_, rfl⟩
  obtain ⟨RY, hRY⟩ : ∃ A, inC (ref y) = A := ⟨_, rfl⟩
  rw [hRX] at HRX heqX
  rw [hRY] at HRY heqY
  obtain ⟨X, hX⟩ : ∃ y, inC i = y := ⟨_, rfl⟩
  obtain ⟨J, hJ⟩ : ∃ y, inC j = y := ⟨_, rfl⟩
  rw [hX] at HE heqX HX1 HX2 ⊢
  rw [hJ] at HD HEJ heqY HJ1 HJ2 HJ3
  clear hT hx hxl hxt hxf hj hjo hjt hy hyl hyt hyf hX hJ hRX hRY
  go_enter Tryd.func3, Tryd.ntmps3
  go_upto_region 1 with fail
  have HK0 := wall (Blk.new w 25 X)
  have HB0 := wall ((Below.refl _ w).alloc (Nat.le_refl _) (.cells X 25))
  have HT0 := wall (HT.out.old HB0.out)
  clear HT
  generalize w.alloc (.cells X 25) = w0 at *
  go_wp2_with fail
  (with_reducible refine (awake_any _ HT0.out).mono ?_); rintro e w1 ⟨rfl, hB1⟩
  have HK1 := wall (HK0.out.next hB1 rfl)
  have HB1 := wall (below_then HB0.out hB1 (Nat.le_refl _))
  clear hB1 HK0 HB0 HT0
  try simp only [Act.put, List.setIfInBounds_toArray, List.set_cons_zero, List.set_cons_succ]
  go_wp2_with (refine wpList_load_row rfl 25 _ rfl w.heap.size rfl 25 X (0, 0) _ HK1.out Tryd.underlying25 rfl HX2.out ?_)
  (with_reducible refine (HE.out _).mono ?_); rintro e w2 ⟨rfl, hB2⟩
  have HK2 := wall (HK1.out.next hB2 rfl)
  have HB2 := wall (below_then HB1.out hB2 (Nat.le_refl _))
  clear hB2 HK1 HB1 HE
  try simp only [Act.put, List.setIfInBounds_toArray, List.set_cons_zero, List.set_cons_succ]
  go_upto_region 4 with fail
  go_cut [32] (fun v w' => v = .bool false ∧ Wall (Below w.heap.size w w'))
  case first =>
    clear HD HEJ HRY heqY HJ1 HJ2 HJ3 HJT
    cases ok with
    | true =>
      have heq := heqX.out rfl
      go_wp2_with fail
      refine RelG.wp_region_rel 5 [(21, .const (.agg RX))] (by kernel_rfl) (by kernel_rfl) ?_
      simp only [List.take_succ_cons, List.take_zero, List.drop_succ_cons, List.drop_zero, Act.put, List.setIfInBounds_toArray, List.set_cons_zero, List.set_cons_succ]
      (refine RelG.tree_quiet rfl rfl rfl (fun K hK => ?_); go_big_quiet_op; refine hK _ ?_; clear hK K)
      (refine RelG.tree_quiet rfl rfl rfl (fun K hK => ?_); go_big_quiet_op; refine hK _ ?_; clear hK K)
      (refine RelG.tree_quiet rfl rfl rfl (fun K hK => ?_); go_big_quiet_op; refine hK _ ?_; clear hK K)
      refine RelG.tree_const rfl (.agg RX) rfl (fun W hW _ => ?_) ?_
      · unfold RelG.relAt; go_simp; show Calls _ _ _ _ _
        exact const_call (HRX.out W)
      simp only [Act.put, List.setIfInBounds_toArray, List.set_cons_zero, List.set_cons_succ]
      refine RelG.tree_pure rfl rfl rfl (.agg X) (fun W hW _ => Rel.exec_load _ _ rfl w.heap.size 0 rfl _ _ (Blk.range (hW.blk HK2.out.drew)) Tryd.underlying25 rfl HX2.out) ?_
      simp only [Act.put, List.setIfInBounds_toArray, List.set_cons_zero, List.set_cons_succ]
      intro W hW _
      have HB3 := wall (below_then HB2.out hW.undrew (Nat.le_refl _))
      clear hW HK2 HB2
      go_wp2_with fail
      go_meet
      exact ⟨rfl, HB3⟩
    | false =>
      have hx0 : (((x : Nat) : Int) != 0) = false := by rw [HXF.out rfl]; rfl
      go_wp2_with fail
      refine RelG.wp_region_rel 5 [(21, .const (.agg RX))] (by kernel_rfl) (by kernel_rfl) ?_
      simp only [List.take_succ_cons, List.take_zero, List.drop_succ_cons, List.drop_zero, Act.put, List.setIfInBounds_toArray, List.set_cons_zero, List.set_cons_succ]
      (refine RelG.tree_quiet rfl rfl rfl (fun K hK => ?_); go_big_quiet_op; refine hK _ ?_; clear hK K)
      (refine RelG.tree_quiet rfl rfl rfl (fun K hK => ?_); go_big_quiet_op; refine hK _ ?_; clear hK K)
      (refine RelG.tree_skip rfl ?_; simp only [Act.put, List.setIfInBounds_toArray, List.set_cons_zero, List.set_cons_succ])
      (refine RelG.tree_skip rfl ?_; simp only [Act.put, List.setIfInBounds_toArray, List.set_cons_zero, List.set_cons_succ])
      (refine RelG.tree_skip rfl ?_; simp only [Act.put, List.setIfInBounds_toArray, List.set_cons_zero, List.set_cons_succ])
      intro W hW _
      have HB3 := wall (below_then HB2.out hW.undrew (Nat.le_refl _))
      clear hW HK2 HB2
      go_wp2_with fail
      go_meet
      exact ⟨rfl, HB3⟩
  case rest =>
    clear HK2 HB2 HRX heqX HX1 HX2 HXF
    obtain ⟨rfl, HB3⟩ := hcut
    obtain ⟨w3, rfl⟩ : ∃ wo : World, wo = wc := ⟨_, rfl⟩
    go_wp2_with fail
    (with_reducible refine (HD.out _).mono ?_); rintro e w4 ⟨rfl, hB4⟩
    have HB4 := wall (below_then HB3.out hB4 (Nat.le_refl _))
    clear hB4 HB3 HD
    try simp only [Act.put, List.setIfInBounds_toArray, List.set_cons_zero, List.set_cons_succ]
    go_upto_region 7 with (refine wpList_new_row rfl 25 (.tmp 7) (.tmp 36) rfl w4.heap.size J rfl rfl 25 (inC zIn) (Blk.new _ _ _) HJ2.out HJ3.out HJ1.out w4.heap.size w4 ((Below.refl _ w4).alloc (Nat.le_refl _) _) (Nat.le_refl _) ?_; intro w5 K5 B5)
    have HK5 := wall K5.out
    have HB5 := wall (below_then HB4.out B5.out (Nat.le_refl _))
    clear K5 B5 HB4
    try simp only [Act.put, List.setIfInBounds_toArray, List.set_cons_zero, List.set_cons_succ]
    cases okj with
    | false =>
      go_wp2_with fail
      go_light
      go_ret
      exact ⟨rfl, HB5.out⟩
    | true =>
      obtain rfl : oky = true := HJT.out rfl
      have heq := heqY.out rfl
      go_wp2_with (refine wpList_load_row rfl 25 _ rfl w4.heap.size rfl 25 J (0, 0) _ HK5.out Tryd.underlying25 rfl HJ2.out ?_)
      (with_reducible refine (HEJ.out _).mono ?_); rintro e w6 ⟨rfl, hB6⟩
      have HK6 := wall (HK5.out.next hB6 rfl)
      have HB6 := wall (below_then HB5.out hB6 (Nat.le_refl _))
      clear hB6 HK5 HB5 HEJ
      try simp only [Act.put, List.setIfInBounds_toArray, List.set_cons_zero, List.set_cons_succ]
      go_wp2_with fail
      refine RelG.wp_region_rel 5 [(48, .const (.agg RY))] (by kernel_rfl) (by kernel_rfl) ?_
      simp only [List.take_succ_cons, List.take_zero, List.drop_succ_cons, List.drop_zero, Act.put, List.setIfInBounds_toArray, List.set_cons_zero, List.set_cons_succ]
      (refine RelG.tree_quiet rfl rfl rfl (fun K hK => ?_); go_big_quiet_op; refine hK _ ?_; clear hK K)
      (refine RelG.tree_quiet rfl rfl rfl (fun K hK => ?_); go_big_quiet_op; refine hK _ ?_; clear hK K)
      (refine RelG.tree_quiet rfl rfl rfl (fun K hK => ?_); go_big_quiet_op; refine hK _ ?_; clear hK K)
      refine RelG.tree_const rfl (.agg RY) rfl (fun W hW _ => ?_) ?_
      · unfold RelG.relAt; go_simp; show Calls _ _ _ _ _
        exact const_call (HRY.out W)
      simp only [Act.put, List.setIfInBounds_toArray, List.set_cons_zero, List.set_cons_succ]
      refine RelG.tree_pure rfl rfl rfl (.agg J) (fun W hW _ => Rel.exec_load _ _ rfl w4.heap.size 0 rfl _ _ (Blk.range (hW.blk HK6.out.drew)) Tryd.underlying25 rfl HJ2.out) ?_
      simp only [Act.put, List.setIfInBounds_toArray, List.set_cons_zero, List.set_cons_succ]
      intro W hW _
      have HB7 := wall (below_then HB6.out hW.undrew (Nat.le_refl _))
      clear hW HK6 HB6
      go_wp2_with fail
      go_light
      go_ret
      exact ⟨rfl, HB7.out⟩
theorem encodes_frame (f0 f1 f2 f3 f4 f5 v : Int) (w : World) (hT : STb w) (h0 : (Lit.int .u8 f0).wf = true) (h1 : (Lit.int .u8 f1).wf = true) (h2 : (Lit.int .u8 f2).wf = true) (h3 : (Lit.int .u8 f3).wf = true) (h4 : (Lit.int .u32 f4).wf = true) (h5 : (Lit.int .u16 f5).wf = true) (hv : (Lit.int .u32 v).wf = true) :
    Calls Tryd.prog 3 #[.agg #[.int .u8 f0, .int .u8 f1, .int .u8 f2, .int .u8 f3, .int .u32 f4, .int .u16 f5], .int .u32 v] w (TrueBelow w) := by
  have b0 := bounds_u8 h0
  have b1 := bounds_u8 h1
  have b2 := bounds_u8 h2
  have b3 := bounds_u8 h3
  have b4 := bounds_u32 h4
  have b5 : 0 ≤ f5 ∧ f5 < 65536 := by
    simp [Lit.wf, IntKind.min, IntKind.max, IntKind.signed, IntKind.bits] at h5
    omega
  have bv := bounds_u32 hv
  have hq : (⟨f0.toNat, f1.toNat, f2.toNat, f3.toNat, f4.toNat, f5.toNat⟩ : In).Ok := ok_mk (by omega) (by omega) (by omega) (by omega) (by omega) (by omega)
  have h := encodes_any ⟨f0.toNat, f1.toNat, f2.toNat, f3.toNat, f4.toNat, f5.toNat⟩ hq v.toNat (by omega) w hT
  unfold inC at h
  simp only [Int.toNat_of_nonneg b0.1, Int.toNat_of_nonneg b1.1, Int.toNat_of_nonneg b2.1, Int.toNat_of_nonneg b3.1, Int.toNat_of_nonneg b4.1, Int.toNat_of_nonneg b5.1, Int.toNat_of_nonneg bv.1] at h
  exact h
end Rv
end Go.Proofs.YtgmomkinbfajkaaDoor
