/-
  Package rv: instructions alike.
-/
import Derived.Test.YtgmomkinbfajkaaDoorRvG
import Derived.Laws.StructEq
import Derived.WalkKit
set_option linter.unusedSimpArgs false
set_option linter.unusedVariables false
namespace Go.Proofs.YtgmomkinbfajkaaDoor
open Go.RowKit Go.Maps

namespace Rv
open Otp Sha R1
theorem in_eq (x i : In) (w : World) : (Op.equalIn 10000 25 (.agg (inC x)) (.agg (inC i))).run Tryd.prog w = .ok (decide (x = i)) w := by
  have h := run_equalIn_struct (P := Tryd.prog) w 9999 25 (inC x) (inC i) (by simp [Program.fieldsOf, Tryd.underlying25]) (by kernel_rfl)
  refine h.trans ?_
  rw [show Tryd.prog.fieldsOf 25 = _ from by (unfold Program.fieldsOf; rw [Tryd.underlying25])]
  obtain ⟨a1, a2, a3, a4, a5, a6⟩ := x
  obtain ⟨b1, b2, b3, b4, b5, b6⟩ := i
  simp only [inC]
  go_simp
  simp only [Int.natCast_inj]
  by_cases h1 : a1 = b1 <;> by_cases h2 : a2 = b2 <;> by_cases h3 : a3 = b3 <;> by_cases h4 : a4 = b4 <;> by_cases h5 : a5 = b5 <;> by_cases h6 : a6 = b6 <;> simp [h1, h2, h3, h4, h5, h6]
def W4 : List Nat := [115, 1048691, 807403635, 273678451]
theorem w4_dec : ∀ j : Fin 4, dec (W4.getD j.val 0) = (opIn (39 + j.val), true) ∧ W4.getD j.val 0 < 4294967296 ∧ enc (opIn (39 + j.val)) = (W4.getD j.val 0, true) := by decide +kernel
theorem enc_else {i : In} (h : ∀ j, j < 4 → i ≠ opIn (39 + j)) : enc i = encS i (sOf i.op) := by
  unfold enc
  rw [if_neg (h 0 (by decide)), if_neg (h 1 (by decide)), if_neg (h 2 (by decide)), if_neg (h 3 (by decide))]
theorem or_z {az bz : Int} (a b c : Nat) (h1 : az = (a : Int)) (h2 : bz = (b : Int)) (h : a ||| b = c) (ha : a < 4294967296) (hb : b < 4294967296) : bits .or .u32 az bz = (c : Int) ∧ c < 4294967296 := by
  subst h1 h2 h
  exact ⟨u32_or_nat _ _ ha hb, Nat.or_lt_two_pow (n := 32) ha hb⟩
theorem tab_bounds : ∀ e ∈ tab, e.1.1 < 128 ∧ e.1.2.1 < 8 ∧ e.1.2.2 < 128 := by decide +kernel
def EncOut (p : Nat × Bool) (w : World) (e : Ending) (w' : World) : Prop := e = .returned (.tuple #[.int .u32 (p.1 : Int), .bool p.2]) ∧ Below w.heap.size w w'
theorem v32_at {l : List Nat} {i : Nat} (h : i < l.length) : (v32 l).toArray[i]? = some (.int .u32 ((l.getD i 0 : Nat) : Int)) := by
  unfold v32
  simp [List.getD_eq_getElem?_getD, List.getElem?_eq_getElem h]
theorem inC_one (i : In) : (inC i).all (·.oneCell') = true := by simp [inC, Value.oneCell']
theorem word_lt (s : Sh) (i : In) (hi : i.Ok) (h1 : s.1 < 128) (h2 : s.2.1 < 8) (h3 : s.2.2 < 128) : word s i < 4294967296 := by
  have o1 := hi.rd; have o2 := hi.a; have o3 := hi.b; have o4 := hi.imm; have o5 := hi.csr
  have e : ∀ {x y : Nat}, x < 4294967296 → y < 4294967296 → x ||| y < 4294967296 := fun hx hy => Nat.or_lt_two_pow (n := 32) hx hy
  have w0 : word0 s i < 4294967296 := by unfold word0; exact e (e (e (by omega) (by omega)) (by omega)) (by omega)
  have w1 : word1 s i < 4294967296 := by
    unfold word1
    split
    · exact w0
    · exact e w0 (e (by omega) (by omega))
  have c1 := cut_lt i.imm 20 1; have c2 := cut_lt i.imm 1 10; have c3 := cut_lt i.imm 11 1; have c4 := cut_lt i.imm 12 8
  have c5 := cut_lt i.imm 12 1; have c6 := cut_lt i.imm 5 6; have c7 := cut_lt i.imm 1 4; have c8 := cut_lt i.imm 5 7; have c9 := cut_lt i.imm 0 5
  unfold word
  repeat' split
  · exact e w1 (by omega)
  · exact e w1 (e (e (e (by omega) (by omega)) (by omega)) (by omega))
  · exact e w1 (e (e (e (by omega) (by omega)) (by omega)) (by omega))
  · exact e w1 (e (by omega) (by omega))
  · exact e (e w1 (by omega)) (by omega)
  · exact e w1 (by omega)
  · exact e w1 (by omega)
  · exact w1
end Rv
end Go.Proofs.YtgmomkinbfajkaaDoor
