/-
  The reference's Do (curtilageref10), part 2: Program and Cut.
-/
import Derived.Test.YtmcpppgnfmopoaaProg
import Derived.Test.YtmcpppgnfmopoaaMem
import Derived.Test.YtmcpppgnfmopoaaRefDo
import Derived.Test.YtmcpppgnfmopoaaCuts
import Derived.Deep.LoopGhost
import Derived.Deep.CutRange
import Derived.Deep.CutBlock
import Derived.Deep.DeepCutAuto
import Derived.Deep.QuietTactic
import Derived.BigQuiet
namespace Go.Proofs.Ytmcpppgnfmopoaa
open Go.RowKit

namespace Fuse
variable {x c d : Nat} {vs : List Nat} {ls : List Bool}
theorem cut_in {i : Nat} (hi : i < vs.length) (y v g : Nat) (hy : vs[i]? = some y) :
    cutE vs (i : Int) v = (if y &&& (4294967295 - v) = 0 then 0 else 11) ∧ cutV vs (i : Int) v g = if y &&& (4294967295 - v) = 0 then vs.set i (y ||| (v &&& g)) else vs := by
  have hr : inR vs (i : Int) = true := by unfold inR; exact decide_eq_true (by omega)
  have e1 : cutE vs (i : Int) v = (if y &&& (4294967295 - v) = 0 then 0 else 11) := by simp [cutE, hr, hy]
  refine ⟨e1, ?_⟩
  unfold cutV
  rw [e1]
  by_cases h : y &&& (4294967295 - v) = 0
  · simp [h, hy]
  · simp [h]
theorem shr_step (y k : Nat) : y / 2 ^ k = 2 * (y / 2 ^ (k + 1)) + (y.testBit k).toNat := by
  rw [Nat.testBit_eq_decide_div_mod_eq, Nat.pow_succ, ← Nat.div_div_eq_div_mul]
  have := Nat.div_add_mod (y / 2 ^ k) 2
  by_cases h : y / 2 ^ k % 2 = 1
  · simp [h]; omega
  · simp [h]; omega

set_option maxRecDepth 100000 in
set_option maxHeartbeats 4000000 in
theorem rdo_cut_in (k j v g : Int) (i n m : Nat) (w : World) (h : Rz w x c d vs ls) (hk : (k % 5 == 4) = false) (hk1 : (k % 5 == 0) = false) (hk2 : (k % 5 == 3) = false) (hk0 : 0 ≤ k) (hi : i < vs.length)
    (hv : v = (n : Int)) (hn : n < 4294967296) (hg : (if (k % 5 == 1) = true then 4294967295 else g) = (m : Int)) :
    Calls Try.prog 34 #[.pointer (some ⟨x, 0, none⟩), .agg #[.int .u8 k, .int .i64 (i : Int), .int .i64 j, .int .u32 v, .int .u32 g]] w (RDo w x c d 0 (cutE vs i n) (cutV vs i n m) ls) := by
  subst hv
  obtain ⟨h0, h1⟩ := h.hd0
  obtain ⟨y, l, hy, hll, hy2, hcy, hcl, hfc, hfl⟩ := h.at_ hi
  obtain ⟨e1, e2⟩ := cut_in hi y n m hy
  have HE1 := Lib.hid e1
  have HE2 := Lib.hid e2
  have hm := h.most
  obtain ⟨hl1, hl2, hl3⟩ := h.lts
  have HH := Lib.hid (h.alloc (.cells #[.int .u8 k, .int .i64 (i : Int), .int .i64 j, .int .u32 (n : Int), .int .u32 g] 54))
  have hi0 : (0 : Int) ≤ (i : Int) := by omega
  have hi1 : (i : Int) < (vs.length : Int) := by omega
  have hdd : decide ((i : Int) < 0) = false := by simp
  have hd2 : decide ((vs.length : Int) ≤ (i : Int)) = false := by simp; omega
  have HYI := Lib.hid hy
  have HSUB := Lib.hid (sub_bits hy2 hn)
  have HG := Lib.hid hg
  clear h hy hll e1 e2 hg
  go_enter Try.func34, Try.ntmps34
  go_wp2_with fail
  go_quiet (fail)
  go_upto_if 126 with fail
  have hRz := HH.out.drewN nq
  have hB0 : Blk ((w.alloc (.cells #[.int .u8 k, .int .i64 (i : Int), .int .i64 j, .int .u32 (n : Int), .int .u32 g] 54)).drewN nq) w.heap.size 54 #[.int .u8 k, .int .i64 (i : Int), .int .i64 j, .int .u32 (n : Int), .int .u32 g] := (Blk.new w _ _).drewN nq
  have hF0 : Frm [c, d] w ((w.alloc (.cells #[.int .u8 k, .int .i64 (i : Int), .int .i64 j, .int .u32 (n : Int), .int .u32 g] 54)).drewN nq) := ((Frm.refl _ _).alloc _).drewN _
  have HRz := Lib.hid hRz
  have HB0 := Lib.hid hB0
  have HF0 := Lib.hid hF0
  clear hRz hB0 hF0 HH
  generalize hw1 : (w.alloc (.cells #[.int .u8 k, .int .i64 (i : Int), .int .i64 j, .int .u32 (n : Int), .int .u32 g] 54)).drewN nq = w1 at *
  clear hw1
  go_cut [10] (fun v w' => v = .int .u32 (m : Int) ∧ w1 = w')
  case first =>
    have hg2 := HG.out
    cases hk3 : (k % 5 == 1) with
    | true =>
      rw [hk3, if_pos rfl] at hg2
      go_wp2_with fail
      go_meet
      exact ⟨by rw [hg2], rfl⟩
    | false =>
      rw [hk3, if_neg (by decide)] at hg2
      go_wp2_with fail
      go_meet
      exact ⟨by rw [hg2], rfl⟩
  case rest =>
    obtain ⟨rfl, rfl⟩ := hcut
    clear HG
    go_wp2_with fail
    have hY : y ||| (n &&& m) < 4294967296 := Nat.or_lt_two_pow (n := 32) hy2 (Nat.lt_of_le_of_lt Nat.and_le_left hn)
    have HYY := Lib.hid hY
    clear hY
    go_loopg [11, 12] 32 (fun gg s11 s12 wr => gg ≤ 32 ∧ s12 = .int .i64 ((gg : Int) - 1) ∧ s11 = .int .u32 (((y ||| (n &&& m)) / 2 ^ gg : Nat) : Int) ∧ (∀ t : Nat, gg ≤ t → y.testBit t = true → n.testBit t = true) ∧ Rz wr x c d vs ls ∧ Blk wr w.heap.size 54 #[.int .u8 k, .int .i64 (i : Int), .int .i64 j, .int .u32 (n : Int), .int .u32 g] ∧ Frm [c, d] w wr)
    case atStart =>
      refine ⟨Nat.le_refl _, rfl, ?_, fun t ht hb => ?_, HRz.out, HB0.out, HF0.out⟩
      · rw [Nat.div_eq_of_lt (show y ||| (n &&& m) < 2 ^ 32 from HYY.out)]
        rfl
      · exfalso
        have : y < 2 ^ t := Nat.lt_of_lt_of_le hy2 (show 2 ^ 32 ≤ 2 ^ t from Nat.pow_le_pow_right (by decide) ht)
        rw [Nat.testBit_lt_two_pow this] at hb
        cases hb
    case round =>
      obtain ⟨hg32, rfl, rfl, hsb, hRr, hBr, hFr⟩ := hrel
      have HSBr := Lib.hid hsb
      obtain ⟨hx0, hx1⟩ := hRr.hd0
      obtain ⟨y2, l2, hy3, hl3, hy4, hcy2, hcl2, hfc2, hfl2⟩ := hRr.at_ hi
      have hbb := hBr.cell
      have hltr := hRr.lts
      have HRr := Lib.hid hRr
      have HBr := Lib.hid hBr
      have HFr := Lib.hid hFr
      have hyy : y2 = y := by rw [HYI.out] at hy3; exact (Option.some.inj hy3).symm
      subst hyy
      clear hsb hRr hBr hFr hy3 hl3 hy4
      cases gk with
      | zero =>
        simp only [Nat.pow_zero, Nat.div_one]
        have hz : y2 &&& (4294967295 - n) = 0 := HSUB.out.2 (fun t hb => HSBr.out t (Nat.zero_le _) hb)
        have HZ0 := Lib.hid hz
        have hset := Lib.hid (HRr.out.set hi _ HYY.out)
        clear hz
        go_wp2_with fail
        go_region
        go_wp2_with fail
        go_light
        go_ret2
        rw [HE1.out, HE2.out, if_pos HZ0.out, if_pos HZ0.out]
        exact ⟨rfl, hset.out.drew, HFr.out.trans (((Frm.refl _ _).setCell (.inl (by simp)) _).drew)⟩
      | succ t =>
        have ht : t < 32 := by omega
        have e1 : ((t + 1 : Nat) : Int) - 1 = (t : Int) := by omega
        rw [e1]
        have hst := shr_step (y2 ||| (n &&& m)) t
        have hbd : (y2 ||| (n &&& m)) / 2 ^ (t + 1) ≤ 2147483647 := by
          have : (y2 ||| (n &&& m)) / 2 ^ (t + 1) < 2 ^ 31 := by
            rw [Nat.div_lt_iff_lt_mul (Nat.two_pow_pos _), ← Nat.pow_add]
            exact Nat.lt_of_lt_of_le HYY.out (show 2 ^ 32 ≤ 2 ^ (31 + (t + 1)) from Nat.pow_le_pow_right (by decide) (by omega))
          omega
        have HST := Lib.hid hst
        clear hst e1
        generalize (y2 ||| (n &&& m)) / 2 ^ (t + 1) = acc at *
        have hto : decide (((vs.length : Nat) : Int) ≤ (i : Int)) = false := hd2
        go_wp2_with fail
        go_quiet ((go_at_call 37; exact Calls.quiet_of_same (bit_at _ t _ _ ht (by omega))))
        cases hyb : y2.testBit t with
        | true =>
          have HYB := Lib.hid hyb
          clear hyb
          cases hnb : n.testBit t with
          | true =>
            have HNB := Lib.hid hnb
            clear hnb
            cases hmb : m.testBit t with
            | true =>
              have HMB := Lib.hid hmb
              clear hmb
              go_wp2_with ((go_at_call 37; (with_reducible refine (bit_at m t _ _ ht (by omega)).mono ?_); rintro e w' ⟨rfl, rfl⟩; rw [HMB.out]))
              go_light
              go_roundg t
              case measure => omega
              case rel =>
                refine ⟨by omega, by go_num, ?_, fun s hs hb => ?_, HRr.out.drewN _, HBr.out.drewN _, HFr.out.drewN _⟩
                · have e1 := HST.out
                  rw [show (y2 ||| (n &&& m)).testBit t = true by rw [Nat.testBit_or, Nat.testBit_and, HYB.out, HNB.out, HMB.out]; rfl] at e1
                  simp only [Bool.toNat_true] at e1
                  rw [e1]
                  go_num
                · rcases Nat.lt_or_ge t s with h | h
                  · exact HSBr.out s h hb
                  · obtain rfl : s = t := by omega
                    exact HNB.out
            | false =>
              have HMB := Lib.hid hmb
              clear hmb
              go_wp2_with ((go_at_call 37; (with_reducible refine (bit_at m t _ _ ht (by omega)).mono ?_); rintro e w' ⟨rfl, rfl⟩; rw [HMB.out]))
              go_light
              go_roundg t
              case measure => omega
              case rel =>
                refine ⟨by omega, by go_num, ?_, fun s hs hb => ?_, HRr.out.drewN _, HBr.out.drewN _, HFr.out.drewN _⟩
                · have e1 := HST.out
                  rw [show (y2 ||| (n &&& m)).testBit t = true by rw [Nat.testBit_or, Nat.testBit_and, HYB.out, HNB.out, HMB.out]; rfl] at e1
                  simp only [Bool.toNat_true] at e1
                  rw [e1]
                  go_num
                · rcases Nat.lt_or_ge t s with h | h
                  · exact HSBr.out s h hb
                  · obtain rfl : s = t := by omega
                    exact HNB.out
          | false =>
            have HNB := Lib.hid hnb
            clear hnb
            go_wp2_with fail
            go_light
            go_ret2
            have hne : ¬ (y2 &&& (4294967295 - n) = 0) := fun h => by have := HSUB.out.1 h t HYB.out; rw [HNB.out] at this; cases this
            rw [HE1.out, HE2.out, if_neg hne, if_neg hne]
            exact ⟨rfl, HRr.out.drewN _, HFr.out.drewN _⟩
        | false =>
          have HYB := Lib.hid hyb
          clear hyb
          cases hnb : n.testBit t with
          | true =>
            have HNB := Lib.hid hnb
            clear hnb
            cases hmb : m.testBit t with
            | true =>
              have HMB := Lib.hid hmb
              clear hmb
              go_wp2_with ((go_at_call 37; (with_reducible refine (bit_at m t _ _ ht (by omega)).mono ?_); rintro e w' ⟨rfl, rfl⟩; rw [HMB.out]))
              go_light
              go_roundg t
              case measure => omega
              case rel =>
                refine ⟨by omega, by go_num, ?_, fun s hs hb => ?_, HRr.out.drewN _, HBr.out.drewN _, HFr.out.drewN _⟩
                · have e1 := HST.out
                  rw [show (y2 ||| (n &&& m)).testBit t = true by rw [Nat.testBit_or, Nat.testBit_and, HYB.out, HNB.out, HMB.out]; rfl] at e1
                  simp only [Bool.toNat_true] at e1
                  rw [e1]
                  go_num
                · rcases Nat.lt_or_ge t s with h | h
                  · exact HSBr.out s h hb
                  · obtain rfl : s = t := by omega
                    exact HNB.out
            | false =>
              have HMB := Lib.hid hmb
              clear hmb
              go_wp2_with ((go_at_call 37; (with_reducible refine (bit_at m t _ _ ht (by omega)).mono ?_); rintro e w' ⟨rfl, rfl⟩; rw [HMB.out]))
              go_light
              go_roundg t
              case measure => omega
              case rel =>
                refine ⟨by omega, by go_num, ?_, fun s hs hb => ?_, HRr.out.drewN _, HBr.out.drewN _, HFr.out.drewN _⟩
                · have e1 := HST.out
                  rw [show (y2 ||| (n &&& m)).testBit t = false by rw [Nat.testBit_or, Nat.testBit_and, HYB.out, HNB.out, HMB.out]; rfl] at e1
                  simp only [Bool.toNat_false] at e1
                  rw [e1]
                  go_num
                · rcases Nat.lt_or_ge t s with h | h
                  · exact HSBr.out s h hb
                  · obtain rfl : s = t := by omega
                    exact HNB.out
          | false =>
            have HNB := Lib.hid hnb
            clear hnb
            cases hmb : m.testBit t with
            | true =>
              have HMB := Lib.hid hmb
              clear hmb
              go_wp2_with ((go_at_call 37; (with_reducible refine (bit_at m t _ _ ht (by omega)).mono ?_); rintro e w' ⟨rfl, rfl⟩; rw [HMB.out]))
              go_light
              go_roundg t
              case measure => omega
              case rel =>
                refine ⟨by omega, by go_num, ?_, fun s hs hb => ?_, HRr.out.drewN _, HBr.out.drewN _, HFr.out.drewN _⟩
                · have e1 := HST.out
                  rw [show (y2 ||| (n &&& m)).testBit t = false by rw [Nat.testBit_or, Nat.testBit_and, HYB.out, HNB.out, HMB.out]; rfl] at e1
                  simp only [Bool.toNat_false] at e1
                  rw [e1]
                  go_num
                · rcases Nat.lt_or_ge t s with h | h
                  · exact HSBr.out s h hb
                  · obtain rfl : s = t := by omega
                    rw [HYB.out] at hb; cases hb
            | false =>
              have HMB := Lib.hid hmb
              clear hmb
              go_wp2_with ((go_at_call 37; (with_reducible refine (bit_at m t _ _ ht (by omega)).mono ?_); rintro e w' ⟨rfl, rfl⟩; rw [HMB.out]))
              go_light
              go_roundg t
              case measure => omega
              case rel =>
                refine ⟨by omega, by go_num, ?_, fun s hs hb => ?_, HRr.out.drewN _, HBr.out.drewN _, HFr.out.drewN _⟩
                · have e1 := HST.out
                  rw [show (y2 ||| (n &&& m)).testBit t = false by rw [Nat.testBit_or, Nat.testBit_and, HYB.out, HNB.out, HMB.out]; rfl] at e1
                  simp only [Bool.toNat_false] at e1
                  rw [e1]
                  go_num
                · rcases Nat.lt_or_ge t s with h | h
                  · exact HSBr.out s h hb
                  · obtain rfl : s = t := by omega
                    rw [HYB.out] at hb; cases hb
end Fuse
end Go.Proofs.Ytmcpppgnfmopoaa
