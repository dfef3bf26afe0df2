/-
  Two digests by value are compared.
-/
import Derived.Test.YtpakdcgcgekcfaaDoorProg
import Derived.Test.YtpakdcgcgekcfaaDoorMem
import Derived.Test.YtpakdcgcgekcfaaDoorBytes
import Derived.Test.YtpakdcgcgekcfaaDoorShaWord
import Derived.ChangeKeysEq
import Derived.Laws.StructEq
namespace Go.Proofs.YtpakdcgcgekcfaaDoor
open Go.RowKit

namespace Otp
theorem u8_plain : Tryd.prog.plainKey 5 = true := by kernel_rfl
theorem u8_under : Tryd.prog.underlying 5 = some (.int .u8) := by kernel_rfl
theorem run_eqItems_b8 (w : World) (d : Nat) (x y : List Nat) : ∀ is : List Nat, (∀ i ∈ is, i < x.length ∧ i < y.length) →
    (Op.eqItems (d + 1) 5 1 (b8 x) (b8 y) is).run Tryd.prog w = .ok (is.all fun i => decide (x[i]? = y[i]?)) w
  | [], _ => by simp [Op.eqItems]
  | i :: is, h => by
    obtain ⟨h1, h2⟩ := h i (by simp)
    have p1 : (part 5 (b8 x) (i * 1)).run Tryd.prog w = .ok (.int .u8 ((x[i] : Nat) : Int)) w := run_part_plain w u8_plain (by simp [b8, h1])
    have p2 : (part 5 (b8 y) (i * 1)).run Tryd.prog w = .ok (.int .u8 ((y[i] : Nat) : Int)) w := run_part_plain w u8_plain (by simp [b8, h2])
    have ih := run_eqItems_b8 w d x y is (fun j hj => h j (by simp [hj]))
    simp only [Op.eqItems, Sem.run_bind, p1, p2, Result.andThen_ok, run_equalIn_int w d 5 .u8 .u8 _ _ u8_under, List.all_cons]
    rw [List.getElem?_eq_getElem h1, List.getElem?_eq_getElem h2]
    by_cases e : x[i] = y[i]
    · simp only [e, beq_self_eq_true, Bool.not_true, Bool.false_eq_true, if_false, decide_true, Bool.true_and]
      exact ih
    · have e' : ¬ ((x[i] : Nat) : Int) = ((y[i] : Nat) : Int) := by omega
      simp [e, e']
theorem eq_arr (w : World) (n : Nat) (t : TypeId) (x y : List Nat) (hx : x.length = n) (hy : y.length = n) (hu : Tryd.prog.underlying t = some (.array n 5)) :
    (Op.equalIn 10000 t (.agg (b8 x)) (.agg (b8 y))).run Tryd.prog w = .ok (decide (x = y)) w := by
  have hs : (Tryd.prog.info? 5).isSome = true := by kernel_rfl
  obtain ⟨i, hi⟩ := Option.isSome_iff_exists.1 hs
  have hc : Tryd.prog.cellsOf 5 = 1 := by kernel_rfl
  have h1 := run_equalIn_array w 9999 (b8 x) (b8 y) hu hi
  rw [hc] at h1
  have h2 := run_eqItems_b8 w 9998 x y (List.range n) (fun j hj => by have := List.mem_range.1 hj; omega)
  refine (show _ = _ from h1).trans ((show _ = _ from h2).trans ?_)
  refine congrArg (fun b => Result.ok b w) ?_
  by_cases e : x = y
  · subst e
    simp
  · rw [decide_eq_false e]
    rw [Bool.eq_false_iff]
    intro h
    apply e
    apply List.ext_getElem?
    intro j
    rw [List.all_eq_true] at h
    rcases Nat.lt_or_ge j n with hj | hj
    · simpa using h j (List.mem_range.2 hj)
    · rw [List.getElem?_eq_none (by omega), List.getElem?_eq_none (by omega)]
end Otp
end Go.Proofs.YtpakdcgcgekcfaaDoor
