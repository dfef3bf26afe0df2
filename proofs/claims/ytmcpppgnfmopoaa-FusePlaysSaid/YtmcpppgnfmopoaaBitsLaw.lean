/-
  Bits that are set, plainly: no program in sight (but for the words of 'setBit').
-/
import Derived.Test.YtmcpppgnfmopoaaFuseSet2
namespace Go.Proofs.Ytmcpppgnfmopoaa
open Go.RowKit

namespace Fuse
theorem or_add {x k : Nat} (h : x / 2 ^ k % 2 = 0) : x ||| 2 ^ k = x + 2 ^ k := by
  have hp : 0 < 2 ^ k := Nat.two_pow_pos k
  have hr : x % 2 ^ (k + 1) < 2 ^ k := by
    have e : x % 2 ^ (k + 1) = x % 2 ^ k + 2 ^ k * (x / 2 ^ k % 2) := by rw [Nat.pow_succ, Nat.mod_mul]
    rw [e, h]
    have := Nat.mod_lt x hp
    omega
  have hx : 2 ^ (k + 1) * (x / 2 ^ (k + 1)) + x % 2 ^ (k + 1) = x := Nat.div_add_mod _ _
  generalize x / 2 ^ (k + 1) = a at *
  generalize x % 2 ^ (k + 1) = r at *
  have e1 := Nat.two_pow_add_eq_or_of_lt (i := k + 1) (b := r) (by rw [Nat.pow_succ]; omega) a
  have e2 := Nat.two_pow_add_eq_or_of_lt (i := k + 1) (b := 2 ^ k + r) (by rw [Nat.pow_succ]; omega) a
  have e3 := Nat.two_pow_add_eq_or_of_lt (i := k) (b := r) hr 1
  rw [Nat.mul_one] at e3
  have : x + 2 ^ k = 2 ^ (k + 1) * a + (2 ^ k + r) := by omega
  rw [this, e2, e3, ← hx, e1, Nat.or_assoc, Nat.or_comm r]

def isSet (vs : List Nat) (z : Int) : Bool := (vs[z.toNat / 32]?.getD 0).testBit (z.toNat % 32)
theorem setBit_of_set {vs : List Nat} {z : Int} (h : isSet vs z = true) : setBit vs z = vs := by
  unfold setBit
  have e : vs[z.toNat / 32]?.getD 0 ||| 2 ^ (z.toNat % 32) = vs[z.toNat / 32]?.getD 0 := by
    apply Nat.eq_of_testBit_eq
    intro i
    rw [Nat.testBit_or, Nat.testBit_two_pow]
    by_cases hi : z.toNat % 32 = i
    · subst hi
      simp only [isSet] at h
      rw [h]
      rfl
    · simp [hi]
  rw [e]
  apply List.ext_getElem?
  intro j
  rw [List.getElem?_set]
  split
  · rename_i hj
    subst hj
    split
    · rename_i hl
      rw [List.getElem?_eq_getElem hl]
      simp
    · rename_i hl
      rw [List.getElem?_eq_none (by omega)]
  · rfl
theorem isSet_setBit {vs : List Nat} {y z : Int} (h : isSet vs y = true) : isSet (setBit vs z) y = true := by
  unfold isSet setBit at *
  rw [List.getElem?_set]
  by_cases hj : z.toNat / 32 = y.toNat / 32
  · rw [if_pos hj]
    by_cases hl : z.toNat / 32 < vs.length
    · rw [if_pos hl]
      simp only [Option.getD_some, Nat.testBit_or, Bool.or_eq_true]
      left
      rw [hj]
      exact h
    · exfalso
      rw [List.getElem?_eq_none (by omega)] at h
      simp at h
  · rw [if_neg hj]
    exact h
theorem isSet_self {vs : List Nat} {z : Int} (h : z.toNat / 32 < vs.length) : isSet (setBit vs z) z = true := by
  unfold isSet setBit
  rw [List.getElem?_set]
  simp [h, Nat.testBit_or]
theorem isSet_setBits {y : Int} : ∀ {zs : List Int} {vs : List Nat}, isSet vs y = true → isSet (setBits vs zs) y = true
  | [], _, h => h
  | z :: zs, _, h => isSet_setBits (zs := zs) (isSet_setBit (z := z) h)
theorem isSet_mem {y : Int} : ∀ {zs : List Int} {vs : List Nat}, y ∈ zs → y.toNat / 32 < vs.length → isSet (setBits vs zs) y = true
  | z :: zs, vs, h, hl => by
    rcases List.mem_cons.1 h with rfl | h
    · exact isSet_setBits (zs := zs) (isSet_self hl)
    · exact isSet_mem (zs := zs) (vs := setBit vs z) h (by rw [setBit_length]; exact hl)
theorem setBits_of_set : ∀ {zs : List Int} {vs : List Nat}, (∀ z ∈ zs, isSet vs z = true) → setBits vs zs = vs
  | [], _, _ => rfl
  | z :: zs, vs, h => by
    show setBits (setBit vs z) zs = vs
    rw [setBit_of_set (h z (by simp))]
    exact setBits_of_set (fun y hy => h y (by simp [hy]))
theorem setBits_twice (vs : List Nat) (zs : List Int) (h : ∀ z ∈ zs, z.toNat / 32 < vs.length) : setBits (setBits vs zs) zs = setBits vs zs :=
  setBits_of_set fun z hz => isSet_mem hz (h z hz)
theorem setBits_snoc (vs : List Nat) (zs : List Int) (z : Int) : setBits vs (zs ++ [z]) = setBit (setBits vs zs) z := by simp [setBits]
theorem anyOut_false (n : Nat) (zs : List Int) (h : ∀ z ∈ zs, 0 ≤ z ∧ z < 32 * n) : anyOut n zs = false := by
  unfold anyOut
  rw [List.any_eq_false]
  intro z hz
  have := h z hz
  simp [outB, this]
theorem anyOut_snoc (n : Nat) (zs : List Int) (z : Int) (h : ∀ z ∈ zs, 0 ≤ z ∧ z < 32 * n) : anyOut n (zs ++ [z]) = outB n z := by
  have := anyOut_false n zs h
  unfold anyOut at *
  rw [List.any_append, this]
  simp

/-- The law's own way: a bit is added where it lacks. -/
theorem setBit_add {vs : List Nat} {z : Nat} (hz : z / 32 < vs.length) (h : vs[z / 32] / 2 ^ (z % 32) % 2 = 0) : setBit vs (z : Int) = vs.set (z / 32) (vs[z / 32] + 2 ^ (z % 32)) := by
  unfold setBit
  simp only [Int.toNat_natCast, List.getElem?_eq_getElem hz, Option.getD_some]
  rw [or_add h]
theorem setBit_has {vs : List Nat} {z : Nat} (hz : z / 32 < vs.length) (h : vs[z / 32] / 2 ^ (z % 32) % 2 = 1) : setBit vs (z : Int) = vs := by
  apply setBit_of_set
  unfold isSet
  simp only [Int.toNat_natCast, List.getElem?_eq_getElem hz, Option.getD_some]
  rw [Nat.testBit_eq_decide_div_mod_eq]
  simp [h]
theorem setBit_add' {vs : List Nat} {z y : Nat} (hy : vs[z / 32]? = some y) (h : y / 2 ^ (z % 32) % 2 = 0) : setBit vs (z : Int) = vs.set (z / 32) (y + 2 ^ (z % 32)) := by
  obtain ⟨hl, rfl⟩ := List.getElem?_eq_some_iff.1 hy
  exact setBit_add hl h
theorem setBit_has' {vs : List Nat} {z y : Nat} (hy : vs[z / 32]? = some y) (h : y / 2 ^ (z % 32) % 2 = 1) : setBit vs (z : Int) = vs := by
  obtain ⟨hl, rfl⟩ := List.getElem?_eq_some_iff.1 hy
  exact setBit_has hl h
end Fuse
end Go.Proofs.Ytmcpppgnfmopoaa
