/-
  Package grant: Base, letter, formed, Check; strings.Contains of a word of one letter.
-/
import Derived.Test.YtfiojpdkbckopaaDoorProg
import Derived.Test.YtfiojpdkbckopaaDoorJ68c09f72
import Derived.Test.YtfiojpdkbckopaaDoorJeef00b2a
import Derived.Test.YtfiojpdkbckopaaDoorGrantWhere
import Derived.Lib.Bytealg
import Derived.Deep.RegionWith
import Derived.Deep.CutRange
import Derived.Deep.CutBlock
import Derived.Deep.DeepCutAuto
import Derived.BigRegion
set_option linter.unusedSimpArgs false
set_option linter.unusedVariables false
namespace Go.Proofs.YtfiojpdkbckopaaDoor
open Go.RowKit

namespace Grant
def one (c : UInt8) : ByteArray := ⟨#[c]⟩
theorem index_mem (c : UInt8) : ∀ l : List UInt8, 0 ≤ Lib.indexByte l c ↔ c ∈ l
  | [] => by simp [Lib.indexByte]
  | x :: r => by
    have ih := index_mem c r
    have hge := Lib.indexByte_ge r c
    have e : Lib.indexByte (x :: r) c = if x == c then 0 else if Lib.indexByte r c == -1 then -1 else Lib.indexByte r c + 1 := rfl
    rw [e, List.mem_cons, ← ih]
    by_cases h : x = c
    · subst h; simp
    · have h2 : ¬ c = x := fun e => h e.symm
      simp only [beq_iff_eq, h, h2, if_false, false_or]
      by_cases h3 : Lib.indexByte r c = -1
      · simp [h3]
      · simp only [h3, if_false]; omega
theorem index_has (s : ByteArray) (c : UInt8) : decide (0 ≤ Lib.indexByte s.data.toList c) = hasB s c := by
  unfold hasB
  rw [Bool.eq_iff_iff, decide_eq_true_iff, index_mem]
  simp
theorem first_one (c : UInt8) (w : World) : (Instr.index 9 (.string (one c)) (.int .i64 0)).run Tryd.prog w = .ok (.int .u8 (c.toNat : Int)) w := by kernel_rfl
set_option maxRecDepth 100000 in
set_option maxHeartbeats 1000000 in
theorem sl_indexByte (s : ByteArray) (c : UInt8) (w : World) :
    Calls Tryd.prog 89 #[.string s, .int .u8 (c.toNat : Int)] w fun e w' => e = .returned (.int .i64 (Lib.indexByte s.data.toList c)) ∧ w = w' := by
  go_enter Tryd.func89, Tryd.ntmps89
  go_wp2_with fail
  rw [run_callFunc_extern Tryd.func93 (by kernel_rfl) (by kernel_rfl) (by kernel_rfl) (e := Extern.BytealgIndexByte.indexByte) (by kernel_rfl), Lib.run_indexByteString]
  simp only [Result.andThen]
  rw [Oper.upon_value]
  go_wp2_with fail
  go_ret
  exact ⟨by simp, rfl⟩
set_option maxRecDepth 100000 in
set_option maxHeartbeats 1000000 in
theorem sl_index (s : ByteArray) (c : UInt8) (w : World) :
    Calls Tryd.prog 86 #[.string s, .string (one c)] w fun e w' => e = .returned (.int .i64 (Lib.indexByte s.data.toList c)) ∧ w = w' := by
  have hsz : (one c).size = 1 := rfl
  have hf := first_one c
  cases hb : ((one c).toList == s.toList) with
  | true =>
    have hi : Lib.indexByte s.data.toList c = 0 := by
      have e : (one c).toList = s.toList := by simpa using hb
      rw [ByteArray.toList_eq, ByteArray.toList_eq] at e
      rw [← e]
      simp [one, Lib.indexByte]
    have HI := Lib.hid hi
    clear hi
    go_enter Tryd.func86, Tryd.ntmps86
    go_wp2_with fail
    go_light
    go_ret
    exact ⟨by rw [HI.out]; rfl, rfl⟩
  | false =>
    go_enter Tryd.func86, Tryd.ntmps86
    go_wp2_with fail
    (with_reducible refine (sl_indexByte _ _ _).mono ?_); rintro e w' ⟨rfl, rfl⟩
    go_wp2_with fail
    go_light
    go_ret
    exact ⟨rfl, rfl⟩
set_option maxRecDepth 100000 in
set_option maxHeartbeats 1000000 in
theorem contains_any (s : ByteArray) (c : UInt8) (w : World) :
    Calls Tryd.prog 66 #[.string s, .string (one c)] w fun e w' => e = .returned (.bool (hasB s c)) ∧ w = w' := by
  have HI := Lib.hid (index_has s c)
  have hge := Lib.indexByte_ge s.data.toList c
  go_enter Tryd.func66, Tryd.ntmps66
  go_wp2_with fail
  go_in
  go_wp2_with fail
  (with_reducible refine (sl_index _ _ _).mono ?_); rintro e w' ⟨rfl, rfl⟩
  generalize Lib.indexByte s.data.toList c = ix at *
  go_wp2_with fail
  go_light
  go_ret
  exact ⟨by rw [← HI.out]; simp, rfl⟩
/-- An access: who, when, where, how much, and for what. -/
def letB (wr fe : Bool) : UInt8 := if fe then 120 else if wr then 119 else 114
set_option maxRecDepth 100000 in
set_option maxHeartbeats 1000000 in
theorem letter_any (who stage at_ size : Int) (wr fe : Bool) (w : World) :
    Calls Tryd.prog 68 #[.agg #[.int .i64 who, .int .i64 stage, .int .u32 at_, .int .i64 size, .bool wr, .bool fe]] w fun e w' => e = .returned (.string (one (letB wr fe))) ∧ Below w.heap.size w w' := by
  cases fe <;> cases wr
  all_goals
    go_enter Tryd.func68, Tryd.ntmps68
    go_wp2_with fail
    go_light
    go_ret
    exact ⟨rfl, (Below.refl _ w).alloc (Nat.le_refl _) _⟩
def formB (who stage size : Int) (wr fe : Bool) : Bool := decide (0 ≤ who ∧ who ≤ 3 ∧ 0 ≤ stage ∧ stage ≤ 2 ∧ (size = 1 ∨ size = 2 ∨ size = 4)) && !(wr && fe)
set_option maxRecDepth 100000 in
set_option maxHeartbeats 2000000 in
theorem formed_any (who stage at_ size : Int) (wr fe : Bool) (w : World) :
    Calls Tryd.prog 64 #[.agg #[.int .i64 who, .int .i64 stage, .int .u32 at_, .int .i64 size, .bool wr, .bool fe]] w fun e w' => e = .returned (.bool (formB who stage size wr fe)) ∧ Below w.heap.size w w' := by
  by_cases h : 0 ≤ who ∧ who ≤ 3 ∧ 0 ≤ stage ∧ stage ≤ 2 ∧ (size = 1 ∨ size = 2 ∨ size = 4)
  · obtain ⟨h1, h2, h3, h4, h5⟩ := h
    have e : formB who stage size wr fe = !(wr && fe) := by
      unfold formB
      rw [decide_eq_true ⟨h1, h2, h3, h4, h5⟩, Bool.true_and]
    rw [e]
    clear e
    rcases h5 with rfl | rfl | rfl <;> cases wr <;> cases fe
    all_goals
      go_enter Tryd.func64, Tryd.ntmps64
      go_wp2_with fail
      go_light
      go_ret
      exact ⟨rfl, (Below.refl _ w).alloc (Nat.le_refl _) _⟩
  · have e : formB who stage size wr fe = false := by
      unfold formB
      rw [decide_eq_false h, Bool.false_and]
    rw [e]
    clear e
    have hc : who < 0 ∨ (0 ≤ who ∧ 3 < who) ∨ (0 ≤ who ∧ who ≤ 3 ∧ stage < 0) ∨ (0 ≤ who ∧ who ≤ 3 ∧ 0 ≤ stage ∧ 2 < stage) ∨ (0 ≤ who ∧ who ≤ 3 ∧ 0 ≤ stage ∧ stage ≤ 2 ∧ (size == 1) = false ∧ (size == 2) = false ∧ (size == 4) = false) := by
      simp only [beq_eq_false_iff_ne]
      omega
    clear h
    rcases hc with h | ⟨h, h1⟩ | ⟨h, h1, h2⟩ | ⟨h, h1, h2, h3⟩ | ⟨h, h1, h2, h3, h4, h5, h6⟩
    all_goals
      go_enter Tryd.func64, Tryd.ntmps64
      go_wp2_with fail
      go_light
      go_ret
      exact ⟨rfl, (Below.refl _ w).alloc (Nat.le_refl _) _⟩
end Grant
end Go.Proofs.YtfiojpdkbckopaaDoor
