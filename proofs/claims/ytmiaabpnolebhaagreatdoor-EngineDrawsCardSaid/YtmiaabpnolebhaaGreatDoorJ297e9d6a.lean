/-
  Texts of this claim, joined: GrantCheck, GrantChk.
-/
import Derived.Test.YtmiaabpnolebhaaGreatDoorJ4807b560
import Derived.Lib.Bytealg
import Derived.Deep.RegionWith
import Derived.Deep.CutRange
import Derived.Deep.CutBlock
import Derived.Deep.DeepCutAuto
import Derived.BigRegion
set_option linter.unusedSimpArgs false
set_option linter.unusedVariables false
/-
  Package grant: Base, letter, formed, Check; strings.Contains of a word of one letter.
-/
namespace Go.Proofs.YtmiaabpnolebhaaGreatDoor
open Go.RowKit

namespace Grant
def one (c : UInt8) : ByteArray := ⟨#[c]⟩
theorem index_mem (c : UInt8) : ∀ l : List UInt8, 0 ≤ Lib.indexByte l c ↔ c ∈ l
  | [] => by simp [Lib.indexByte]
  | x :: r => by
    have ih := index_mem c r
    have hge := Lib.indexByte_ge r c
    have e : Lib.indexByte (x :: r) c = if x == c then 0 else if Lib.indexByte r c == -1 then -1 else Lib.indexByte r c + 1 := rfl
    rw [e, List.mem_cons, ← ih]
    by_cases h : x = c
    · subst h; simp
    · have h2 : ¬ c = x := fun e => h e.symm
      simp only [beq_iff_eq, h, h2, if_false, false_or]
      by_cases h3 : Lib.indexByte r c = -1
      · simp [h3]
      · simp only [h3, if_false]; omega
theorem index_has (s : ByteArray) (c : UInt8) : decide (0 ≤ Lib.indexByte s.data.toList c) = hasB s c := by
  unfold hasB
  rw [Bool.eq_iff_iff, decide_eq_true_iff, index_mem]
  simp
theorem first_one (c : UInt8) (w : World) : (Instr.index 9 (.string (one c)) (.int .i64 0)).run Tryz.prog w = .ok (.int .u8 (c.toNat : Int)) w := by kernel_rfl
set_option maxRecDepth 100000 in
set_option maxHeartbeats 1000000 in
theorem sl_indexByte (s : ByteArray) (c : UInt8) (w : World) :
    Calls Tryz.prog 290 #[.string s, .int .u8 (c.toNat : Int)] w fun e w' => e = .returned (.int .i64 (Lib.indexByte s.data.toList c)) ∧ w = w' := by
  go_enter Tryz.func290, Tryz.ntmps290
  go_wp2_with fail
  rw [run_callFunc_extern Tryz.func302 (by kernel_rfl) (by kernel_rfl) (by kernel_rfl) (e := Extern.BytealgIndexByte.indexByte) (by kernel_rfl), Lib.run_indexByteString]
  simp only [Result.andThen]
  rw [Oper.upon_value]
  go_wp2_with fail
  go_ret
  exact ⟨by simp, rfl⟩
set_option maxRecDepth 100000 in
set_option maxHeartbeats 1000000 in
theorem sl_index (s : ByteArray) (c : UInt8) (w : World) :
    Calls Tryz.prog 279 #[.string s, .string (one c)] w fun e w' => e = .returned (.int .i64 (Lib.indexByte s.data.toList c)) ∧ w = w' := by
  have hsz : (one c).size = 1 := rfl
  have hf := first_one c
  cases hb : ((one c).toList == s.toList) with
  | true =>
    have hi : Lib.indexByte s.data.toList c = 0 := by
      have e : (one c).toList = s.toList := by simpa using hb
      rw [ByteArray.toList_eq, ByteArray.toList_eq] at e
      rw [← e]
      simp [one, Lib.indexByte]
    have HI := Lib.hid hi
    clear hi
    go_enter Tryz.func279, Tryz.ntmps279
    go_wp2_with fail
    go_light
    go_ret
    exact ⟨by rw [HI.out]; rfl, rfl⟩
  | false =>
    go_enter Tryz.func279, Tryz.ntmps279
    go_wp2_with fail
    (with_reducible refine (sl_indexByte _ _ _).mono ?_); rintro e w' ⟨rfl, rfl⟩
    go_wp2_with fail
    go_light
    go_ret
    exact ⟨rfl, rfl⟩
set_option maxRecDepth 100000 in
set_option maxHeartbeats 1000000 in
theorem contains_any (s : ByteArray) (c : UInt8) (w : World) :
    Calls Tryz.prog 234 #[.string s, .string (one c)] w fun e w' => e = .returned (.bool (hasB s c)) ∧ w = w' := by
  have HI := Lib.hid (index_has s c)
  have hge := Lib.indexByte_ge s.data.toList c
  go_enter Tryz.func234, Tryz.ntmps234
  go_wp2_with fail
  go_in
  go_wp2_with fail
  (with_reducible refine (sl_index _ _ _).mono ?_); rintro e w' ⟨rfl, rfl⟩
  generalize Lib.indexByte s.data.toList c = ix at *
  go_wp2_with fail
  go_light
  go_ret
  exact ⟨by rw [← HI.out]; simp, rfl⟩
/-- An access: who, when, where, how much, and for what. -/
def letB (wr fe : Bool) : UInt8 := if fe then 120 else if wr then 119 else 114
set_option maxRecDepth 100000 in
set_option maxHeartbeats 1000000 in
theorem letter_any (who stage at_ size : Int) (wr fe : Bool) (w : World) :
    Calls Tryz.prog 236 #[.agg #[.int .i64 who, .int .i64 stage, .int .u32 at_, .int .i64 size, .bool wr, .bool fe]] w fun e w' => e = .returned (.string (one (letB wr fe))) ∧ Below w.heap.size w w' := by
  cases fe <;> cases wr
  all_goals
    go_enter Tryz.func236, Tryz.ntmps236
    go_wp2_with fail
    go_light
    go_ret
    exact ⟨rfl, (Below.refl _ w).alloc (Nat.le_refl _) _⟩
def formB (who stage size : Int) (wr fe : Bool) : Bool := decide (0 ≤ who ∧ who ≤ 3 ∧ 0 ≤ stage ∧ stage ≤ 2 ∧ (size = 1 ∨ size = 2 ∨ size = 4)) && !(wr && fe)
set_option maxRecDepth 100000 in
set_option maxHeartbeats 2000000 in
theorem formed_any (who stage at_ size : Int) (wr fe : Bool) (w : World) :
    Calls Tryz.prog 232 #[.agg #[.int .i64 who, .int .i64 stage, .int .u32 at_, .int .i64 size, .bool wr, .bool fe]] w fun e w' => e = .returned (.bool (formB who stage size wr fe)) ∧ Below w.heap.size w w' := by
  by_cases h : 0 ≤ who ∧ who ≤ 3 ∧ 0 ≤ stage ∧ stage ≤ 2 ∧ (size = 1 ∨ size = 2 ∨ size = 4)
  · obtain ⟨h1, h2, h3, h4, h5⟩ := h
    have e : formB who stage size wr fe = !(wr && fe) := by
      unfold formB
      rw [decide_eq_true ⟨h1, h2, h3, h4, h5⟩, Bool.true_and]
    rw [e]
    clear e
    rcases h5 with rfl | rfl | rfl <;> cases wr <;> cases fe
    all_goals
      go_enter Tryz.func232, Tryz.ntmps232
      go_wp2_with fail
      go_light
      go_ret
      exact ⟨rfl, (Below.refl _ w).alloc (Nat.le_refl _) _⟩
  · have e : formB who stage size wr fe = false := by
      unfold formB
      rw [decide_eq_false h, Bool.false_and]
    rw [e]
    clear e
    have hc : who < 0 ∨ (0 ≤ who ∧ 3 < who) ∨ (0 ≤ who ∧ who ≤ 3 ∧ stage < 0) ∨ (0 ≤ who ∧ who ≤ 3 ∧ 0 ≤ stage ∧ 2 < stage) ∨ (0 ≤ who ∧ who ≤ 3 ∧ 0 ≤ stage ∧ stage ≤ 2 ∧ (size == 1) = false ∧ (size == 2) = false ∧ (size == 4) = false) := by
      simp only [beq_eq_false_iff_ne]
      omega
    clear h
    rcases hc with h | ⟨h, h1⟩ | ⟨h, h1, h2⟩ | ⟨h, h1, h2, h3⟩ | ⟨h, h1, h2, h3, h4, h5, h6⟩
    all_goals
      go_enter Tryz.func232, Tryz.ntmps232
      go_wp2_with fail
      go_light
      go_ret
      exact ⟨rfl, (Below.refl _ w).alloc (Nat.le_refl _) _⟩
end Grant
end Go.Proofs.YtmiaabpnolebhaaGreatDoor

/-
  Package grant: Check.
-/
namespace Go.Proofs.YtmiaabpnolebhaaGreatDoor
open Go.RowKit

namespace Grant
/-- What Check answers. -/
def chk (who stage : Int) (at_ : Nat) (size : Int) (wr fe : Bool) : Nat × Nat × Nat :=
  if formB who stage size wr fe = false then (0, 0, 1)
  else if at_ % size.toNat ≠ 0 then (0, 0, 10)
  else if (whereN at_).1 = 0 then (0, 0, 9)
  else if hasB (mayW who stage (whereN at_).1) (letB wr fe) = false then (0, 0, 8)
  else ((whereN at_).1, (whereN at_).2, 0)
def ChkOut (w : World) (r : Nat × Nat × Nat) (e : Ending) (w' : World) : Prop := e = .returned (.tuple #[.int .i64 r.1, .int .i64 r.2.1, .int .i64 r.2.2]) ∧ Below w.heap.size w w'
theorem where_int (z : Int) (a : Nat) (w : World) (hz : z = a) (ha : z < 4294967296) (hS : Spans w) :
    Calls Tryz.prog 233 #[.int .u32 z] w fun e w' => e = .returned (.tuple #[.int .i64 ((whereN a).1 : Int), .int .i64 ((whereN a).2 : Int)]) ∧ Below w.heap.size w w' := by
  subst hz
  exact where_any a w (by omega) hS
theorem where_le (a : Nat) : (whereN a).1 ≤ 5 ∧ (whereN a).2 < 10240 := by
  unfold whereN
  repeat' split
  all_goals (simp; try omega)
theorem ok3_of3 {a b c : Int} (ha : (Lit.int .i64 a).wf = true) (hb : (Lit.int .i64 b).wf = true) (h1 : c < 1000) (h0 : 0 ≤ c) : ok3 (a, b, c) = true := by
  simp only [ok3, Bool.and_eq_true]
  exact ⟨⟨ha, hb⟩, WalkArith.wf_i64 (by omega)⟩
set_option maxHeartbeats 2000000 in
theorem check_any (who stage size at_ : Int) (a : Nat) (wr fe : Bool) (w : World) (ha : at_ = a) (hm4 : at_ < 4294967296) (hw : (Lit.int .i64 who).wf = true) (hs : (Lit.int .i64 stage).wf = true) (hS : Spans w) :
    Calls Tryz.prog 166 #[.agg #[.int .i64 who, .int .i64 stage, .int .u32 at_, .int .i64 size, .bool wr, .bool fe]] w (ChkOut w (chk who stage a size wr fe)) := by
  have HS := Lib.hid hS
  have HA := Lib.hid ha
  have HW := Lib.hid hw
  have HT := Lib.hid hs
  have h0 : 0 ≤ at_ := by omega
  clear hS ha hw hs
  cases hf : formB who stage size wr fe with
  | false =>
    have HC := Lib.hid (show chk who stage a size wr fe = (0, 0, 1) by unfold chk; rw [if_pos hf])
    generalize chk who stage a size wr fe = r at *
    have HF := Lib.hid hf
    clear hf
    go_enter Tryz.func166, Tryz.ntmps166
    go_wp2_with fail
    (with_reducible refine (formed_any _ _ _ _ _ _ _).mono ?_); rintro e w1 ⟨rfl, hB⟩
    rw [HF.out]
    have HB := Lib.hid hB
    clear hB
    go_wp2_with fail
    go_light
    go_ret3
    rw [HC.out]
    exact ⟨rfl, ((Below.refl _ w).alloc (Nat.le_refl _) _).trans (HB.out.mono (by simp))⟩
  | true =>
    have h14 : (size = 1 ∨ size = 2 ∨ size = 4) := by
      unfold formB at hf
      simp only [Bool.and_eq_true, decide_eq_true_eq] at hf
      exact hf.1.2.2.2.2
    have hs1 : 1 ≤ size := by omega
    have hs4 : size ≤ 4 := by omega
    have H14 := Lib.hid h14
    have HF := Lib.hid hf
    have hz : (size == 0) = false := by rw [beq_eq_false_iff_ne]; omega
    have hr0 : 0 ≤ at_ % size := Int.emod_nonneg _ (by omega)
    have hrm : at_ % size < size := Int.emod_lt_of_pos _ (by omega)
    have hmm : at_ % size = ((a % size.toNat : Nat) : Int) := by
      rw [HA.out]
      have : size = ((size.toNat : Nat) : Int) := by omega
      rw [this]
      simp
    have HMM := Lib.hid hmm
    clear h14 hf hmm
    by_cases hm : at_ % size = 0
    · have hb : (at_ % size != 0) = false := by simpa using hm
      have HM := Lib.hid hm
      clear hm
      go_enter Tryz.func166, Tryz.ntmps166
      go_wp2_with fail
      (with_reducible refine (formed_any _ _ _ _ _ _ _).mono ?_); rintro e w1 ⟨rfl, hB⟩
      rw [HF.out]
      have HK := Lib.hid ((Blk.new w 304 #[.int .i64 who, .int .i64 stage, .int .u32 at_, .int .i64 size, .bool wr, .bool fe]).below hB (by simp))
      have hk := HK.out.cell
      have hwl : w.heap.size < w1.heap.size := by have := hB.size; simp at this; omega
      have HS1 := Lib.hid ((HS.out.alloc _).old hB)
      have HB := Lib.hid hB
      clear hB
      go_wp2_with fail
      (with_reducible refine (where_int _ a _ HA.out hm4 HS1.out).mono ?_); rintro e w2 ⟨rfl, hB⟩
      have HK2 := Lib.hid (HK.out.below hB HK.out.lt)
      have hk2 := HK2.out.cell
      have hwl2 : w1.heap.size ≤ w2.heap.size := hB.size
      clear hk
      have HB2 := Lib.hid (HB.out.trans (hB.mono (by simp; omega)))
      clear hB
      have hr5 := where_le a
      have hchk : chk who stage a size wr fe = if (whereN a).1 = 0 then (0, 0, 9) else if hasB (mayW who stage (whereN a).1) (letB wr fe) = false then (0, 0, 8) else ((whereN a).1, (whereN a).2, 0) := by
        unfold chk
        rw [if_neg (by rw [HF.out]; decide), if_neg (by have h1 := HMM.out; have h2 := HM.out; omega)]
      have HC := Lib.hid hchk
      clear hchk
      generalize whereN a = ro at *
      obtain ⟨rg, off⟩ := ro
      simp only at hr5 HC ⊢
      generalize chk who stage a size wr fe = r at *
      by_cases hrg : rg = 0
      · subst hrg
        go_wp2_with fail
        go_light
        go_ret3
        rw [HC.out, if_pos trivial]
        exact ⟨rfl, ((Below.refl _ w).alloc (Nat.le_refl _) _).trans (HB2.out.mono (by simp))⟩
      · have hrg' : (((rg : Nat) : Int) == 0) = false := by rw [beq_eq_false_iff_ne]; omega
        rw [if_neg hrg] at HC
        have HK3 := Lib.hid (ok3_of3 HW.out HT.out (show (rg : Int) < 1000 by omega) (show (0 : Int) ≤ rg by omega))
        have hsz := may_size who stage rg
        have HR := Lib.hid (Below.refl w2.heap.size w2)
        go_upto_region 8 with fail
        go_cut [26] (fun v w' => v = .bool (!hasB (mayW who stage rg) (letB wr fe)) ∧ Hid (Below w2.heap.size w2 w'))
        case first =>
          go_region_with (first | (go_at_call 235; (with_reducible refine (may_any _ _ _ _ HK3.out).mono ?_); rintro e w3 ⟨rfl, hB⟩; have HK2 := Lib.hid (HK2.out.next hB rfl); have hk2 := HK2.out.cell; have HR := Lib.hid (below_nxt HR.out hB (Nat.le_refl _) rfl rfl rfl rfl); clear hB) | (go_at_call 236; (with_reducible refine (letter_any _ _ _ _ _ _ _).mono ?_); rintro e w4 ⟨rfl, hB⟩; have HK2 := Lib.hid (HK2.out.next hB rfl); have hk2 := HK2.out.cell; have HR := Lib.hid (below_nxt HR.out hB (Nat.le_refl _) rfl rfl rfl rfl); clear hB) | (go_at_call 234; (with_reducible refine (contains_any _ _ _).mono ?_); rintro e w5 ⟨rfl, rfl⟩))
          all_goals go_wp2_with fail
          all_goals go_meet
          all_goals exact ⟨rfl, HR⟩
        case rest =>
          obtain ⟨rfl, HR2⟩ := hcut
          have HB3 := Lib.hid (((Below.refl _ w).alloc (Nat.le_refl _) _).trans ((below_then HB2.out HR2.out (by first | (simp; done) | (simp; omega))).mono (by simp)))
          generalize hasB (mayW who stage rg) (letB wr fe) = hh at *
          cases hh with
          | false =>
            go_wp2_with fail
            go_light
            go_ret3
            rw [HC.out]
            first | rw [if_pos trivial] | rw [if_pos rfl]
            exact ⟨rfl, HB3.out⟩
          | true =>
            go_wp2_with fail
            go_light
            go_ret3
            rw [HC.out]
            first | rw [if_neg not_false] | rw [if_neg (by decide)]
            exact ⟨rfl, HB3.out⟩
    · have HC := Lib.hid (show chk who stage a size wr fe = (0, 0, 10) by
        unfold chk
        rw [if_neg (by rw [HF.out]; decide), if_pos (by have := HMM.out; omega)])
      generalize chk who stage a size wr fe = r at *
      have hb : (at_ % size != 0) = true := by simpa using hm
      clear hm
      go_enter Tryz.func166, Tryz.ntmps166
      go_wp2_with fail
      (with_reducible refine (formed_any _ _ _ _ _ _ _).mono ?_); rintro e w1 ⟨rfl, hB⟩
      rw [HF.out]
      have HK := Lib.hid ((Blk.new w 304 #[.int .i64 who, .int .i64 stage, .int .u32 at_, .int .i64 size, .bool wr, .bool fe]).below hB (by simp))
      have hk := HK.out.cell
      have hwl : w.heap.size < w1.heap.size := by have := hB.size; simp at this; omega
      have HB := Lib.hid hB
      clear hB
      go_wp2_with fail
      go_light
      go_ret3
      rw [HC.out]
      exact ⟨rfl, ((Below.refl _ w).alloc (Nat.le_refl _) _).trans (HB.out.mono (by simp))⟩
end Grant
end Go.Proofs.YtmiaabpnolebhaaGreatDoor
