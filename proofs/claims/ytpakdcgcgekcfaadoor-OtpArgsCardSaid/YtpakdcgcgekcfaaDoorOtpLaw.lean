/-
  Package otp, in plain Lean: what a plan, done, leaves; the counter's words.
-/
import Derived.Test.YtpakdcgcgekcfaaDoorProg
import Derived.Test.YtpakdcgcgekcfaaDoorMem
import Derived.Test.YtpakdcgcgekcfaaDoorOtpTo
import Derived.Test.YtpakdcgcgekcfaaDoorOtpDo
import Derived.Test.YtpakdcgcgekcfaaDoorOtpAwake
namespace Go.Proofs.YtpakdcgcgekcfaaDoor
open Go.RowKit

namespace Otp
open Fuse
theorem bit_not' (v i : Nat) (hv : v < 4294967296) : (4294967295 - v).testBit i = (decide (i < 32) && !v.testBit i) := by
  rw [show 4294967295 - v = 2 ^ 32 - (v + 1) by omega, Nat.testBit_two_pow_sub_succ (show v < 2 ^ 32 from hv)]
theorem or_lt {x v : Nat} (hx : x < 4294967296) (hv : v < 4294967296) : x ||| v < 4294967296 := Nat.or_lt_two_pow (n := 32) hx hv
theorem and_or_not {x v : Nat} (hx : x < 4294967296) (hv : v < 4294967296) : x &&& (4294967295 - (x ||| v)) = 0 := by
  apply Nat.eq_of_testBit_eq
  intro i
  rw [Nat.testBit_and, bit_not' _ _ (or_lt hx hv), Nat.testBit_or, Nat.zero_testBit]
  cases x.testBit i <;> simp
theorem or_full {x v : Nat} (hx : x < 4294967296) (hv : v < 4294967296) : x ||| ((x ||| v) &&& 4294967295) = x ||| v := by
  rw [show 4294967295 = 2 ^ 32 - 1 from rfl, Nat.and_two_pow_sub_one_of_lt_two_pow (show x ||| v < 2 ^ 32 from or_lt hx hv), ← Nat.or_assoc, Nat.or_self]

theorem planOf_congr {vs vs' : List Nat} : ∀ (l : List Nat) (f : Nat), (∀ j, f ≤ j → vs[j]? = vs'[j]?) → planOf vs f l = planOf vs' f l
  | [], f, _ => rfl
  | x :: l, f, h => by
    rw [planOf, planOf, h f (Nat.le_refl _), planOf_congr l (f + 1) (fun j hj => h j (by omega))]
/-- What a plan leaves when it is done. -/
def orAt : List Nat → Nat → List Nat → List Nat
  | vs, _, [] => vs
  | vs, f, v :: r => orAt (vs.set f ((vs[f]?.getD 0) ||| v)) (f + 1) r
theorem doL_plan : ∀ (l : List Nat) (vs : List Nat) (f : Nat), f + l.length ≤ vs.length → (∀ (i x : Nat), vs[i]? = some x → x < 4294967296) → (∀ x ∈ l, x < 4294967296) → doL vs (planOf vs f l) = (0, orAt vs f l)
  | [], vs, f, _, _, _ => rfl
  | v :: r, vs, f, hf, hw, hl => by
    simp only [List.length_cons] at hf
    obtain ⟨old, ho⟩ : ∃ old, vs[f]? = some old := ⟨_, List.getElem?_eq_getElem (by omega)⟩
    have hoM := hw f old ho
    have hvM := hl v (by simp)
    have hset : ∀ (y : Nat), y < 4294967296 → ∀ (i x : Nat), (vs.set f y)[i]? = some x → x < 4294967296 := fun y hy i x h => by
      rw [List.getElem?_set] at h
      split at h
      · split at h
        · cases h; exact hy
        · cases h
      · exact hw i x h
    have ih := doL_plan r (vs.set f (old ||| v)) (f + 1) (by simp; omega) (hset _ (or_lt hoM hvM)) (fun x hx => hl x (by simp [hx]))
    have hpc : planOf vs (f + 1) r = planOf (vs.set f (old ||| v)) (f + 1) r := planOf_congr r (f + 1) fun j hj => by rw [List.getElem?_set_ne (by omega)]
    simp only [planOf, ho, Option.getD_some, orAt]
    by_cases h : old ||| v = old
    · have hs : vs.set f (old ||| v) = vs := by
        rw [h]
        apply List.ext_getElem?
        intro i
        rw [List.getElem?_set]
        split
        · rename_i hi; subst hi; split
          · exact ho.symm
          · omega
        · rfl
      rw [hs] at ih ⊢
      rw [if_pos h, List.nil_append, ih]
    · rw [if_neg h, List.singleton_append, doL]
      have hr : inR vs (f : Int) = true := by unfold inR; exact decide_eq_true (by omega)
      have h0 : cutE vs (f : Int) (old ||| v) = 0 := by simp [cutE, hr, ho, and_or_not hoM hvM]
      have h1 : cutV vs (f : Int) (old ||| v) 4294967295 = vs.set f (old ||| v) := by simp only [cutV, h0, if_true, Int.toNat_natCast, ho, Option.getD_some, or_full hoM hvM]
      simp only [h0, h1, if_true]
      rw [hpc, ih]
theorem orAt_mid : ∀ (l m pre post : List Nat), m.length = l.length → orAt (pre ++ m ++ post) pre.length l = pre ++ List.zipWith (· ||| ·) m l ++ post
  | [], m, pre, post, h => by
    have : m = [] := List.eq_nil_of_length_eq_zero h
    subst this
    simp [orAt]
  | v :: r, [], pre, post, h => by simp at h
  | v :: r, x :: m, pre, post, h => by
    have e := orAt_mid r m (pre ++ [x ||| v]) post (by simpa using h)
    rw [orAt]
    have hg : (pre ++ x :: m ++ post)[pre.length]? = some x := by simp
    have hs : (pre ++ x :: m ++ post).set pre.length (x ||| v) = (pre ++ [x ||| v]) ++ m ++ post := by simp
    rw [hg, Option.getD_some, hs]
    simp only [List.length_append, List.length_cons, List.length_nil] at e
    rw [e]
    simp

theorem lw_or (a j : Nat) : ∀ d, ((lw a)[j]?.getD 0) ||| ((lw (a + d))[j]?.getD 0) = (lw (a + d))[j]?.getD 0
  | 0 => by simp
  | d + 1 => by
    have ih := lw_or a j d
    rw [show a + (d + 1) = (a + d) + 1 by omega, lw, List.getElem?_set]
    split
    · rename_i h
      split
      · rw [Option.getD_some, h, ← Nat.or_assoc, ih]
      · simp only [Option.getD_none]
        rename_i h2
        rw [List.getElem?_eq_none (by rw [lw_length] at h2 ⊢; omega)]
        rfl
    · exact ih
theorem lw_zip {a s : Nat} (h : a ≤ s) : List.zipWith (· ||| ·) (lw a) (lw s) = lw s := by
  apply List.ext_getElem?
  intro j
  rw [List.getElem?_zipWith]
  by_cases hj : j < 8
  · obtain ⟨x, h1⟩ : ∃ x, (lw a)[j]? = some x := ⟨_, List.getElem?_eq_getElem (by rw [lw_length]; exact hj)⟩
    obtain ⟨y, h2⟩ : ∃ y, (lw s)[j]? = some y := ⟨_, List.getElem?_eq_getElem (by rw [lw_length]; exact hj)⟩
    have := lw_or a j (s - a)
    rw [show a + (s - a) = s by omega, h1, h2, Option.getD_some, Option.getD_some] at this
    rw [h1, h2]
    simp [this]
  · rw [List.getElem?_eq_none (by rw [lw_length]; omega), List.getElem?_eq_none (by rw [lw_length]; omega)]
theorem cv_length (n : Nat) : (cv n).length = 64 := by simp [cv, lw_length]
theorem cv_word (n : Nat) : ∀ (i x : Nat), (cv n)[i]? = some x → x < 4294967296 := fun i x h => by
  have hm := List.mem_of_getElem? h
  simp only [cv, List.mem_append, List.mem_singleton, List.mem_replicate] at hm
  rcases hm with (rfl | hm) | ⟨_, rfl⟩
  · decide
  · obtain ⟨j, hj⟩ := List.mem_iff_getElem?.1 hm
    exact lw_word n j x hj
  · decide
/-- A counter that is raised, wholly. -/
theorem cv_do {a s : Nat} (h : a ≤ s) : doL (cv a) (planOf (cv a) 1 (lw s)) = (0, cv s) := by
  rw [doL_plan (lw s) (cv a) 1 (by rw [lw_length, cv_length]; omega) (cv_word a) (fun x hx => by obtain ⟨j, hj⟩ := List.mem_iff_getElem?.1 hx; exact lw_word s j x hj)]
  have := orAt_mid (lw s) (lw a) [0] (List.replicate 55 0) (by rw [lw_length, lw_length])
  rw [lw_zip h] at this
  exact congrArg (Prod.mk 0) this
theorem planOf_mem {vs : List Nat} (hw : ∀ (i x : Nat), vs[i]? = some x → x < 4294967296) : ∀ (l : List Nat) (f : Nat), (∀ x ∈ l, x < 4294967296) → ∀ y ∈ planOf vs f l, y.2 < 4294967296 ∧ f ≤ y.1 ∧ y.1 < f + l.length
  | [], f, _, y, hy => by simp [planOf] at hy
  | v :: r, f, hl, y, hy => by
    simp only [planOf, List.mem_append] at hy
    rcases hy with hy | hy
    · split at hy
      · simp at hy
      · simp only [List.mem_singleton] at hy
        subst hy
        refine ⟨or_lt ?_ (hl v (by simp)), Nat.le_refl _, by simp⟩
        cases ho : vs[f]? with
        | none => simp
        | some o => simpa using hw f o ho
    · have := planOf_mem hw r (f + 1) (fun x hx => hl x (by simp [hx])) y hy
      simp only [List.length_cons]
      exact ⟨this.1, by omega, by omega⟩
set_option maxRecDepth 100000 in
theorem cv_counter : ∀ n : Fin 256, counter (cv n.val) = n.val := by decide +kernel
def pops (x m : Nat) : Nat := ((List.range m).map fun k => x / 2 ^ k % 2).sum
def bitsum (l : List Nat) : Nat := (l.map fun x => pops x 32).sum
theorem pops_succ (x m : Nat) : pops x (m + 1) = pops x m + x / 2 ^ m % 2 := by simp [pops, List.range_succ]
theorem pops_le (x : Nat) : ∀ m, pops x m ≤ m
  | 0 => by simp [pops]
  | m + 1 => by
    have := pops_le x m
    rw [pops_succ]
    omega
theorem bitsum_snoc (l : List Nat) (x : Nat) : bitsum (l ++ [x]) = bitsum l + pops x 32 := by simp [bitsum]
theorem bitsum_le : ∀ l : List Nat, bitsum l ≤ 32 * l.length
  | [] => by simp [bitsum]
  | x :: r => by
    have h1 := bitsum_le r
    have h2 := pops_le x 32
    have : bitsum (x :: r) = pops x 32 + bitsum r := by simp [bitsum]
    rw [this, List.length_cons]
    omega
theorem bit_int0 (y k : Nat) : ((y : Int) / 2 ^ k).tmod 2 = ((y / 2 ^ k % 2 : Nat) : Int) := by
  have : ((y : Int) / 2 ^ k) = ((y / 2 ^ k : Nat) : Int) := by simp
  rw [this]
  rfl
set_option maxRecDepth 100000 in
theorem cv_bits : ∀ n : Fin 256, bitsum (cwords (cv n.val)) = n.val := by decide +kernel
end Otp
end Go.Proofs.YtpakdcgcgekcfaaDoor
