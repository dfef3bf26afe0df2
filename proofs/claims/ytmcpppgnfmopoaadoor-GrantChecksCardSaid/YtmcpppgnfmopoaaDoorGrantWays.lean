/-
  The laws of grant: GrantWays.
-/
import Derived.Test.YtmcpppgnfmopoaaDoorProg
import Derived.Test.YtmcpppgnfmopoaaDoorMem
import Derived.Test.YtmcpppgnfmopoaaDoorGrantPlaces
import Derived.Deep.LoopGhost
namespace Go.Proofs.YtmcpppgnfmopoaaDoor
open Go.RowKit

namespace Grant
theorem has_to (s : ByteArray) (z : Int) (c : UInt8) (r : Bool) (w : World) (hz : z = (c.toNat : Int)) (hs : s.size ≤ 1000) (hr : hasB s c = r) :
    Calls Tryd.prog 23 #[.string s, .int .u8 z] w fun e w' => e = .returned (.bool r) ∧ w = w' := by
  subst hz; subst hr
  exact has_any s c w hs
theorem word_rw (a b c : Int) : hasB (mayW a b c) 114 = true ∨ (hasB (mayW a b c) 119 = false ∧ hasB (mayW a b c) 120 = false) := by
  rcases may_words a b c with h | h | h | h | h <;> (rw [h]; decide)
theorem more_in0 : ∀ (a : Fin 4) (c : Fin 6), ((mayW (a.val : Int) 1 (c.val : Int)).data.toList.all fun x => hasB (mayW (a.val : Int) 2 (c.val : Int)) x) = true := by decide +kernel
theorem more_in (a c : Int) (i : Nat) (h : i < (mayW a 1 c).size) : hasB (mayW a 2 c) (mayW a 1 c)[i] = true := by
  cases hr : inR (a, 1, c) with
  | false =>
    have e := may_out hr
    have : (mayW a 1 c).size = 0 := by rw [e]; rfl
    omega
  | true =>
    simp only [inR, decide_eq_true_eq] at hr
    obtain ⟨h1, h2, _, _, h5, h6⟩ := hr
    have := more_in0 ⟨a.toNat, by omega⟩ ⟨c.toNat, by omega⟩
    simp only [show ((a.toNat : Nat) : Int) = a by omega, show ((c.toNat : Nat) : Int) = c by omega] at this
    exact List.all_eq_true.1 this _ (Array.getElem_mem_toList h)
theorem where_back (a : Nat) : (whereN a).1 = 0 ∨ ∃ F S, sp[(whereN a).1]? = some (F, S) ∧ 1 ≤ (whereN a).1 ∧ (whereN a).2 < S ∧ F + (whereN a).2 = a ∧ F + S < 4294967296 := by
  unfold whereN
  repeat' split
  · exact .inr ⟨_, _, rfl, by simp, by simp; omega, by simp; omega, by decide⟩
  · exact .inr ⟨_, _, rfl, by simp, by simp; omega, by simp; omega, by decide⟩
  · exact .inr ⟨_, _, rfl, by simp, by simp; omega, by simp; omega, by decide⟩
  · exact .inr ⟨_, _, rfl, by simp, by simp; omega, by simp; omega, by decide⟩
  · exact .inr ⟨_, _, rfl, by simp, by simp; omega, by simp; omega, by decide⟩
  · exact .inl rfl
theorem stage_ok {a b c : Int} (ha : (Lit.int .i64 a).wf = true) (hc : (Lit.int .i64 c).wf = true) (h0 : 0 ≤ b) (h1 : b < 1000) : ok3 (a, b, c) = true := ok3_wf ha (WalkArith.wf_i64 (by omega)) hc
set_option maxHeartbeats 4000000 in
theorem ways_any (who region at_ : Int) (w : World) (h0 : 0 ≤ at_) (hm : at_ < 4294967296) (hr : (Lit.int .i64 region).wf = true) (hw : (Lit.int .i64 who).wf = true) (hS : Spans w) :
    Calls Tryd.prog 6 #[.int .i64 who, .int .i64 region, .int .u32 at_] w (TrueBelow w) := by
  have HS := Lib.hid hS
  obtain ⟨a, ha⟩ := Int.eq_ofNat_of_zero_le h0
  have HA := Lib.hid ha
  have HW := Lib.hid hw
  have HR := Lib.hid hr
  clear hS ha hw hr
  go_enter Tryd.func6, Tryd.ntmps6
  go_wp2_with fail
  (with_reducible refine (awake_any _ HS.out).mono ?_); rintro e w1 ⟨rfl, hB⟩
  have HS1 := Lib.hid (HS.out.old hB)
  have HB := Lib.hid hB
  clear hB
  go_wp2_with fail
  go_loopg [7] 3 (fun g s7 wr => ∃ i : Nat, i + g = 3 ∧ s7 = .int .i64 (i : Int) ∧ Hid (Spans wr) ∧ Hid (Below w.heap.size w wr))
  case atStart => exact ⟨0, by omega, rfl, HS1, HB⟩
  case round =>
    obtain ⟨i, hg, rfl, HS2, HB2⟩ := hrel
    have HG := Lib.hid hg
    have hi : i ≤ 3 := by omega
    clear hg
    by_cases hlt : i < 3
    · go_wp2_with fail
      (with_reducible refine (may_any _ _ _ _ (stage_ok HW.out HR.out (by omega) (by omega))).mono ?_); rintro e w3 ⟨rfl, hB⟩
      have HS3 := Lib.hid (HS2.out.old hB)
      have HB3 := Lib.hid (below_then HB2.out hB (Nat.le_refl _))
      have HZ := Lib.hid (Nat.le_trans (may_size who i region) (show 3 ≤ 1000 by decide))
      have hrw := word_rw who i region
      clear hB
      generalize mayW who i region = s at *
      obtain ⟨b1, hb1⟩ : ∃ b, hasB s 119 = b := ⟨_, rfl⟩
      obtain ⟨b2, hb2⟩ : ∃ b, hasB s 120 = b := ⟨_, rfl⟩
      obtain ⟨b3, hb3⟩ : ∃ b, hasB s 114 = b := ⟨_, rfl⟩
      rw [hb1, hb2, hb3] at hrw
      have H1 := Lib.hid hb1
      have H2 := Lib.hid hb2
      have H3 := Lib.hid hb3
      clear hb1 hb2 hb3
      have hc : (b1 = true ∧ b3 = true) ∨ (b1 = false ∧ b2 = true ∧ b3 = true) ∨ (b1 = false ∧ b2 = false) := by
        revert hrw
        cases b1 <;> cases b2 <;> cases b3 <;> simp
      clear hrw
      rcases hc with ⟨rfl, rfl⟩ | ⟨rfl, rfl, rfl⟩ | ⟨rfl, rfl⟩
      · go_wp2_with fail
        (with_reducible refine (has_to _ 119 119 _ _ rfl HZ.out H1.out).mono ?_); rintro e w4 ⟨rfl, rfl⟩
        go_wp2_with fail
        (with_reducible refine (has_to _ 114 114 _ _ rfl HZ.out H3.out).mono ?_); rintro e w4 ⟨rfl, rfl⟩
        go_wp2_with fail
        go_light
        go_roundg (3 - (i + 1))
        case measure => have := HG.out; omega
        case rel => exact ⟨i + 1, by omega, by go_num, HS3, HB3⟩
      · go_wp2_with fail
        (with_reducible refine (has_to _ 119 119 _ _ rfl HZ.out H1.out).mono ?_); rintro e w4 ⟨rfl, rfl⟩
        go_wp2_with fail
        (with_reducible refine (has_to _ 120 120 _ _ rfl HZ.out H2.out).mono ?_); rintro e w4 ⟨rfl, rfl⟩
        go_wp2_with fail
        (with_reducible refine (has_to _ 114 114 _ _ rfl HZ.out H3.out).mono ?_); rintro e w4 ⟨rfl, rfl⟩
        go_wp2_with fail
        go_light
        go_roundg (3 - (i + 1))
        case measure => have := HG.out; omega
        case rel => exact ⟨i + 1, by omega, by go_num, HS3, HB3⟩
      · go_wp2_with fail
        (with_reducible refine (has_to _ 119 119 _ _ rfl HZ.out H1.out).mono ?_); rintro e w4 ⟨rfl, rfl⟩
        go_wp2_with fail
        (with_reducible refine (has_to _ 120 120 _ _ rfl HZ.out H2.out).mono ?_); rintro e w4 ⟨rfl, rfl⟩
        go_wp2_with fail
        go_light
        go_roundg (3 - (i + 1))
        case measure => have := HG.out; omega
        case rel => exact ⟨i + 1, by omega, by go_num, HS3, HB3⟩
    · have : i = 3 := by omega
      subst this
      go_wp2_with fail
      (with_reducible refine (may_any _ _ _ _ (stage_ok HW.out HR.out (by omega) (by omega))).mono ?_); rintro e w3 ⟨rfl, hB⟩
      have HS3 := Lib.hid (HS2.out.old hB)
      have HB3 := Lib.hid (below_then HB2.out hB (Nat.le_refl _))
      clear hB
      go_wp2_with fail
      (with_reducible refine (may_any _ _ _ _ (stage_ok HW.out HR.out (by omega) (by omega))).mono ?_); rintro e w4 ⟨rfl, hB⟩
      have HS4 := Lib.hid (HS3.out.old hB)
      have HB4 := Lib.hid (below_then HB3.out hB (Nat.le_refl _))
      clear hB
      have HZ1 := Lib.hid (Nat.le_trans (may_size who 1 region) (show 3 ≤ 1000 by decide))
      have HZ2 := Lib.hid (Nat.le_trans (may_size who 2 region) (show 3 ≤ 1000 by decide))
      have HM := Lib.hid (more_in who region)
      have hz1 := HZ1.out
      generalize mayW who 1 region = s at *
      generalize mayW who 2 region = t at *
      go_wp2_with fail
      obtain ⟨wo, rfl⟩ : ∃ wo : World, wo = wr := ⟨_, rfl⟩
      go_loopg [11] s.size (fun g s11 wr => ∃ i : Nat, i + g = s.size ∧ s11 = .int .i64 (i : Int) ∧ wr = w4)
      case atStart => exact ⟨0, by omega, rfl, rfl⟩
      case round =>
        obtain ⟨i, hg, rfl, rfl⟩ := hrel
        have HG := Lib.hid hg
        have hi : i ≤ s.size := by omega
        clear hg
        by_cases hlt : i < s.size
        · have HC := Lib.hid (HM.out i hlt)
          go_wp2_with fail
          (with_reducible refine (has_to _ _ s[i] _ _ rfl HZ2.out HC.out).mono ?_); rintro e w5 ⟨rfl, rfl⟩
          go_wp2_with fail
          go_light
          go_roundg (s.size - (i + 1))
          case measure => have := HG.out; omega
          case rel => exact ⟨i + 1, by omega, by go_num, rfl⟩
        · have hi2 : i = s.size := by omega
          subst hi2
          go_wp2_with fail
          (with_reducible refine (where_int _ a _ HA.out hm HS4.out).mono ?_); rintro e w5 ⟨rfl, hB⟩
          have HS5 := Lib.hid (HS4.out.old hB)
          have HB5 := Lib.hid (below_then HB4.out hB (Nat.le_refl _))
          clear hB
          have hback := where_back a
          generalize whereN a = ro at *
          obtain ⟨r, o⟩ := ro
          simp only at hback ⊢
          rcases hback with rfl | ⟨F, S, h1, h2, h3, h4, h5⟩
          · go_wp2_with fail
            (with_reducible refine (base_out _ _ (.inl (Int.le_refl _))).mono ?_); rintro e w6 ⟨rfl, rfl⟩
            go_wp2_with fail
            go_light
            go_ret
            exact ⟨rfl, HB5.out⟩
          · have H1 := Lib.hid h1
            have H2 := Lib.hid h2
            have hr0 : ((r : Int) == 0) = false := by rw [beq_eq_false_iff_ne]; omega
            have ho : (o : Int) < (S : Int) := by omega
            have hat : (((F : Nat) : Int) + (o : Int) == at_) = true := by rw [beq_iff_eq]; have := HA.out; omega
            clear h1 h2 h4
            go_wp2_with fail
            (with_reducible refine (base_any _ r F S _ rfl H2.out H1.out HS5.out).mono ?_); rintro e w6 ⟨rfl, n, rfl⟩
            go_wp2_with fail
            go_light
            go_ret
            exact ⟨rfl, Below.drewN HB5.out n⟩
end Grant
end Go.Proofs.YtmcpppgnfmopoaaDoor
