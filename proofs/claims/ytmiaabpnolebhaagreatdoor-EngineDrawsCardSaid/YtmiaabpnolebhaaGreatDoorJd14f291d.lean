/-
  Texts of this claim, joined: GrantPlaces, GrantWays, GrantRefC.
-/
import Derived.Test.YtmiaabpnolebhaaGreatDoorJ1071cdc1
set_option linter.unusedSimpArgs false
set_option linter.unusedVariables false
/-
  The laws of grant: GrantPlaces.
-/
namespace Go.Proofs.YtmiaabpnolebhaaGreatDoor
open Go.RowKit

namespace Grant
theorem may_to (a b c : Int) (s : ByteArray) (w : World) (h : ok3 (a, b, c) = true) (hs : mayW a b c = s) : Calls Tryz.prog 235 #[.int .i64 a, .int .i64 b, .int .i64 c] w fun e w' => e = .returned (.string s) ∧ Below w.heap.size w w' := by
  subst hs
  exact may_any a b c w h
theorem ref_may_to (a b c : Int) (s : ByteArray) (w : World) (hs : mayW a b c = s) : Calls Tryz.prog 179 #[.int .i64 a, .int .i64 b, .int .i64 c] w fun e w' => e = .returned (.string s) ∧ Below w.heap.size w w' := by
  subst hs
  exact ref_may a b c w
theorem ok3_wf {a b c : Int} (ha : (Lit.int .i64 a).wf = true) (hb : (Lit.int .i64 b).wf = true) (hc : (Lit.int .i64 c).wf = true) : ok3 (a, b, c) = true := by
  simp only [ok3, Bool.and_eq_true]
  exact ⟨⟨ha, hb⟩, hc⟩
/-- The code's rest behind the regions' answers, where there is such a region. -/
structure Reg (k F S o c d : Nat) : Prop where
  sp : sp[k]? = some (F, S)
  k1 : 1 ≤ k
  k5 : k ≤ 5
  f1 : 1 ≤ F
  s1 : S = o + 1
  fs : F + S < 4294967296
  wa : whereN F = (k, 0)
  wb : whereN (F + S - 1) = (k, o)
  wc : ∃ x, whereN (F - 1) = (c, x)
  wd : ∃ x, whereN (F + S) = (d, x)
  nc : c ≠ k
  nd : d ≠ k
theorem reg_all (k : Nat) (h1 : 1 ≤ k) (h5 : k ≤ 5) : ∃ F S o c d, Reg k F S o c d := by
  have : k = 1 ∨ k = 2 ∨ k = 3 ∨ k = 4 ∨ k = 5 := by omega
  rcases this with rfl | rfl | rfl | rfl | rfl
  · exact ⟨536870912, 4096, 4095, 0, 2, ⟨rfl, by decide, by decide, by decide, by decide, by decide, by decide +kernel, by decide +kernel, ⟨0, by decide +kernel⟩, ⟨0, by decide +kernel⟩, by decide, by decide⟩⟩
  · exact ⟨536875008, 4096, 4095, 1, 0, ⟨rfl, by decide, by decide, by decide, by decide, by decide, by decide +kernel, by decide +kernel, ⟨4095, by decide +kernel⟩, ⟨0, by decide +kernel⟩, by decide, by decide⟩⟩
  · exact ⟨268435456, 10240, 10239, 0, 0, ⟨rfl, by decide, by decide, by decide, by decide, by decide, by decide +kernel, by decide +kernel, ⟨0, by decide +kernel⟩, ⟨0, by decide +kernel⟩, by decide, by decide⟩⟩
  · exact ⟨1073741824, 64, 63, 0, 0, ⟨rfl, by decide, by decide, by decide, by decide, by decide, by decide +kernel, by decide +kernel, ⟨0, by decide +kernel⟩, ⟨0, by decide +kernel⟩, by decide, by decide⟩⟩
  · exact ⟨1610612736, 256, 255, 0, 0, ⟨rfl, by decide, by decide, by decide, by decide, by decide, by decide +kernel, by decide +kernel, ⟨0, by decide +kernel⟩, ⟨0, by decide +kernel⟩, by decide, by decide⟩⟩
end Grant
end Go.Proofs.YtmiaabpnolebhaaGreatDoor

/-
  The laws of grant: GrantWays.
-/
namespace Go.Proofs.YtmiaabpnolebhaaGreatDoor
open Go.RowKit

namespace Grant
theorem has_to (s : ByteArray) (z : Int) (c : UInt8) (r : Bool) (w : World) (hz : z = (c.toNat : Int)) (hs : s.size ≤ 1000) (hr : hasB s c = r) :
    Calls Tryz.prog 178 #[.string s, .int .u8 z] w fun e w' => e = .returned (.bool r) ∧ w = w' := by
  subst hz; subst hr
  exact has_any s c w hs
theorem word_rw (a b c : Int) : hasB (mayW a b c) 114 = true ∨ (hasB (mayW a b c) 119 = false ∧ hasB (mayW a b c) 120 = false) := by
  rcases may_words a b c with h | h | h | h | h <;> (rw [h]; decide)
theorem more_in0 : ∀ (a : Fin 4) (c : Fin 6), ((mayW (a.val : Int) 1 (c.val : Int)).data.toList.all fun x => hasB (mayW (a.val : Int) 2 (c.val : Int)) x) = true := by decide +kernel
theorem more_in (a c : Int) (i : Nat) (h : i < (mayW a 1 c).size) : hasB (mayW a 2 c) (mayW a 1 c)[i] = true := by
  cases hr : inR (a, 1, c) with
  | false =>
    have e := may_out hr
    have : (mayW a 1 c).size = 0 := by rw [e]; rfl
    omega
  | true =>
    simp only [inR, decide_eq_true_eq] at hr
    obtain ⟨h1, h2, _, _, h5, h6⟩ := hr
    have := more_in0 ⟨a.toNat, by omega⟩ ⟨c.toNat, by omega⟩
    simp only [show ((a.toNat : Nat) : Int) = a by omega, show ((c.toNat : Nat) : Int) = c by omega] at this
    exact List.all_eq_true.1 this _ (Array.getElem_mem_toList h)
theorem where_back (a : Nat) : (whereN a).1 = 0 ∨ ∃ F S, sp[(whereN a).1]? = some (F, S) ∧ 1 ≤ (whereN a).1 ∧ (whereN a).2 < S ∧ F + (whereN a).2 = a ∧ F + S < 4294967296 := by
  unfold whereN
  repeat' split
  · exact .inr ⟨_, _, rfl, by simp, by simp; omega, by simp; omega, by decide⟩
  · exact .inr ⟨_, _, rfl, by simp, by simp; omega, by simp; omega, by decide⟩
  · exact .inr ⟨_, _, rfl, by simp, by simp; omega, by simp; omega, by decide⟩
  · exact .inr ⟨_, _, rfl, by simp, by simp; omega, by simp; omega, by decide⟩
  · exact .inr ⟨_, _, rfl, by simp, by simp; omega, by simp; omega, by decide⟩
  · exact .inl rfl
theorem stage_ok {a b c : Int} (ha : (Lit.int .i64 a).wf = true) (hc : (Lit.int .i64 c).wf = true) (h0 : 0 ≤ b) (h1 : b < 1000) : ok3 (a, b, c) = true := ok3_wf ha (WalkArith.wf_i64 (by omega)) hc
end Grant
end Go.Proofs.YtmiaabpnolebhaaGreatDoor

/-
  The reference of grant: Check.
-/
namespace Go.Proofs.YtmiaabpnolebhaaGreatDoor
open Go.RowKit

namespace Grant
theorem ret3i {k l m : IntKind} {a b c a' b' c' : Int} (h1 : a = a') (h2 : b = b') (h3 : c = c') : Ending.returned (.tuple #[.int k a, .int l b, .int m c]) = .returned (.tuple #[.int k a', .int l b', .int m c']) := by rw [h1, h2, h3]
theorem letW {s : ByteArray} {b : Bool} (h : hasB s (letB true false) = b) : hasB s 119 = b := h
theorem letX {s : ByteArray} {b : Bool} (h : hasB s (letB false true) = b) : hasB s 120 = b := h
theorem letR {s : ByteArray} {b : Bool} (h : hasB s (letB false false) = b) : hasB s 114 = b := h
set_option maxHeartbeats 4000000 in
theorem ref_check (who stage at_ size : Int) (a : Nat) (wr fe : Bool) (w : World) (ha : at_ = a) (hm4 : at_ < 4294967296) :
    Calls Tryz.prog 101 #[.int .i64 who, .int .i64 stage, .int .u32 at_, .int .i64 size, .bool wr, .bool fe] w (ChkOut w (chk who stage a size wr fe)) := by
  have HA := Lib.hid ha
  have h0 : 0 ≤ at_ := by omega
  clear ha
  cases hf : formB who stage size wr fe with
  | false =>
    have HC := Lib.hid (show chk who stage a size wr fe = (0, 0, 1) by unfold chk; rw [if_pos hf])
    generalize chk who stage a size wr fe = r at *
    have hc : who < 0 ∨ (0 ≤ who ∧ 3 < who) ∨ (0 ≤ who ∧ who ≤ 3 ∧ stage < 0) ∨ (0 ≤ who ∧ who ≤ 3 ∧ 0 ≤ stage ∧ 2 < stage) ∨ (0 ≤ who ∧ who ≤ 3 ∧ 0 ≤ stage ∧ stage ≤ 2 ∧ (size != 1) = true ∧ (size != 2) = true ∧ (size != 4) = true) ∨
        (0 ≤ who ∧ who ≤ 3 ∧ 0 ≤ stage ∧ stage ≤ 2 ∧ size = 1 ∧ wr = true ∧ fe = true) ∨ (0 ≤ who ∧ who ≤ 3 ∧ 0 ≤ stage ∧ stage ≤ 2 ∧ size = 2 ∧ wr = true ∧ fe = true) ∨ (0 ≤ who ∧ who ≤ 3 ∧ 0 ≤ stage ∧ stage ≤ 2 ∧ size = 4 ∧ wr = true ∧ fe = true) := by
      unfold formB at hf
      simp only [bne_iff_ne]
      cases wr <;> cases fe <;> simp at hf ⊢ <;> omega
    clear hf
    rcases hc with h | ⟨h, h1⟩ | ⟨h, h1, h2⟩ | ⟨h, h1, h2, h3⟩ | ⟨h, h1, h2, h3, h4, h5, h6⟩ | ⟨h, h1, h2, h3, rfl, rfl, rfl⟩ | ⟨h, h1, h2, h3, rfl, rfl, rfl⟩ | ⟨h, h1, h2, h3, rfl, rfl, rfl⟩
    all_goals
      go_enter Tryz.func101, Tryz.ntmps101
      go_wp2_with fail
      go_light
      go_ret3
      rw [HC.out]
      exact ⟨rfl, Below.refl _ _⟩
  | true =>
    have HF := Lib.hid hf
    obtain ⟨g1, g2, g3, g4, h14, hwf⟩ : 0 ≤ who ∧ who ≤ 3 ∧ 0 ≤ stage ∧ stage ≤ 2 ∧ (size = 1 ∨ size = 2 ∨ size = 4) ∧ (wr && fe) = false := by
      unfold formB at hf
      simp only [Bool.and_eq_true, decide_eq_true_eq, Bool.not_eq_true'] at hf
      obtain ⟨⟨a1, a2, a3, a4, a5⟩, a6⟩ := hf
      exact ⟨a1, a2, a3, a4, a5, a6⟩
    have HM := Lib.hid (show chk who stage a size wr fe = if at_ % size ≠ 0 then (0, 0, 10) else if (whereN a).1 = 0 then (0, 0, 9) else if hasB (mayW who stage (whereN a).1) (letB wr fe) = false then (0, 0, 8) else ((whereN a).1, (whereN a).2, 0) by
      unfold chk
      rw [if_neg (by rw [hf]; decide)]
      have hmm : at_ % size = ((a % size.toNat : Nat) : Int) := by
        rw [HA.out]
        have : size = ((size.toNat : Nat) : Int) := by omega
        rw [this]
        simp
      by_cases h : at_ % size = 0
      · rw [if_neg (show ¬ (a % size.toNat ≠ 0) by omega), if_neg (show ¬ (at_ % size ≠ 0) by omega)]
      · rw [if_pos (show a % size.toNat ≠ 0 by omega), if_pos h])
    have hle := where_le a
    have HR := Lib.hid (fun w => ref_where at_ a w HA.out hm4)
    generalize chk who stage a size wr fe = r at *
    generalize whereN a = ro at *
    obtain ⟨rg, off⟩ := ro
    simp only at hle HM HR
    clear hf HF
    obtain ⟨s, hs⟩ : ∃ s, mayW who stage rg = s := ⟨_, rfl⟩
    have HZ := Lib.hid (Nat.le_trans (may_size who stage rg) (show 3 ≤ 1000 by decide))
    rw [hs] at HM HZ
    have HS := Lib.hid hs
    clear hs
    obtain ⟨hh, hhe⟩ : ∃ h, hasB s (letB wr fe) = h := ⟨_, rfl⟩
    rw [hhe] at HM
    have HH := Lib.hid hhe
    clear hhe
    have hcase : (wr = true ∧ fe = false) ∨ (wr = false ∧ fe = true) ∨ (wr = false ∧ fe = false) := by
      revert hwf
      cases wr <;> cases fe <;> simp
    clear hwf
    by_cases hz : at_ % size = 0
    · rw [if_neg (by simpa using hz)] at HM
      have hb : (at_ % size != 0) = false := by simpa using hz
      clear hz
      by_cases hrg : rg = 0
      · subst hrg
        rw [if_pos rfl] at HM
        rcases h14 with rfl | rfl | rfl <;> rcases hcase with ⟨rfl, rfl⟩ | ⟨rfl, rfl⟩ | ⟨rfl, rfl⟩
        all_goals
          go_enter Tryz.func101, Tryz.ntmps101
          go_wp2_with fail
          (with_reducible refine (HR.out _).mono ?_); rintro e w1 ⟨rfl, rfl⟩
          go_wp2_with fail
          go_light
          go_ret3
          rw [HM.out]
          exact ⟨rfl, Below.refl _ _⟩
      · rw [if_neg hrg] at HM
        have hrg' : (((rg : Nat) : Int) == 0) = false := by rw [beq_eq_false_iff_ne]; omega
        clear hrg
        cases hh with
        | false =>
          rw [if_pos rfl] at HM
          rcases h14 with rfl | rfl | rfl <;> rcases hcase with ⟨rfl, rfl⟩ | ⟨rfl, rfl⟩ | ⟨rfl, rfl⟩
          all_goals
            go_enter Tryz.func101, Tryz.ntmps101
            go_wp2_with fail
            (with_reducible refine (HR.out _).mono ?_); rintro e w1 ⟨rfl, rfl⟩
            go_wp2_with fail
            (with_reducible refine (ref_may_to _ _ _ _ _ HS.out).mono ?_); rintro e w2 ⟨rfl, hB⟩
            have HB := Lib.hid hB
            clear hB
            go_wp2_with fail
            first | ((with_reducible refine (has_to _ 119 119 _ _ rfl HZ.out (letW HH.out)).mono ?_); rintro e w3 ⟨rfl, rfl⟩) | ((with_reducible refine (has_to _ 120 120 _ _ rfl HZ.out (letX HH.out)).mono ?_); rintro e w3 ⟨rfl, rfl⟩) | ((with_reducible refine (has_to _ 114 114 _ _ rfl HZ.out (letR HH.out)).mono ?_); rintro e w3 ⟨rfl, rfl⟩)
            go_wp2_with fail
            go_light
            go_ret3
            rw [HM.out]
            exact ⟨rfl, HB.out⟩
        | true =>
          rw [if_neg (by decide)] at HM
          rcases h14 with rfl | rfl | rfl <;> rcases hcase with ⟨rfl, rfl⟩ | ⟨rfl, rfl⟩ | ⟨rfl, rfl⟩
          all_goals
            go_enter Tryz.func101, Tryz.ntmps101
            go_wp2_with fail
            (with_reducible refine (HR.out _).mono ?_); rintro e w1 ⟨rfl, rfl⟩
            go_wp2_with fail
            (with_reducible refine (ref_may_to _ _ _ _ _ HS.out).mono ?_); rintro e w2 ⟨rfl, hB⟩
            have HB := Lib.hid hB
            clear hB
            go_wp2_with fail
            first | ((with_reducible refine (has_to _ 119 119 _ _ rfl HZ.out (letW HH.out)).mono ?_); rintro e w3 ⟨rfl, rfl⟩) | ((with_reducible refine (has_to _ 120 120 _ _ rfl HZ.out (letX HH.out)).mono ?_); rintro e w3 ⟨rfl, rfl⟩) | ((with_reducible refine (has_to _ 114 114 _ _ rfl HZ.out (letR HH.out)).mono ?_); rintro e w3 ⟨rfl, rfl⟩)
            go_wp2_with fail
            go_light
            go_ret3
            rw [HM.out]
            exact ⟨rfl, HB.out⟩
    · rw [if_pos hz] at HM
      have hb : (at_ % size != 0) = true := by simpa using hz
      have h24 : size = 2 ∨ size = 4 := by
        rcases h14 with rfl | h14
        · exact absurd (Int.emod_one at_) hz
        · exact h14
      clear hz h14
      rcases h24 with rfl | rfl <;> rcases hcase with ⟨rfl, rfl⟩ | ⟨rfl, rfl⟩ | ⟨rfl, rfl⟩
      all_goals
        go_enter Tryz.func101, Tryz.ntmps101
        go_wp2_with fail
        go_light
        go_ret3
        rw [HM.out]
        exact ⟨rfl, Below.refl _ _⟩
end Grant
end Go.Proofs.YtmiaabpnolebhaaGreatDoor
