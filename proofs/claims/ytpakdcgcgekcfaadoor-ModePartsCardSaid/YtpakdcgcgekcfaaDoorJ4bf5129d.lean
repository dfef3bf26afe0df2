/-
  Texts of this claim, joined: OtpLaw, CtrBits, OtpRise, RowD, CopyB, ShaRot, ShaLaw, ShaSpread, R1Roots, QTail, ShaPress, R1Press, AppMake.
-/
import Derived.Test.YtpakdcgcgekcfaaDoorProg
import Derived.Test.YtpakdcgcgekcfaaDoorJ52d9bedf
import Derived.Test.YtpakdcgcgekcfaaDoorJ8b3fd3ea
import Derived.Laws.CopyOwn
import Derived.Deep.MidRow
import Derived.Laws.Rows
import Derived.Laws.ResultCell
import Derived.Laws.BitsAllLaws
import Derived.IntWalk
import Derived.Deep.LoopGhost
import Derived.Laws.Tables
import Derived.StillTailTactics
import Derived.Deep.QuietTactic
import Derived.BigQuiet
import Derived.StillTail
import Derived.Deep.Quiet
import Derived.Lib.QuietBelow
import Derived.Laws.AppendOwn
set_option linter.unusedVariables false
/-
  Package otp, in plain Lean: what a plan, done, leaves; the counter's words.
-/
set_option linter.unusedSimpArgs false
set_option linter.unusedVariables false
namespace Go.Proofs.YtpakdcgcgekcfaaDoor
open Go.RowKit

namespace Otp
open Fuse
theorem bit_not' (v i : Nat) (hv : v < 4294967296) : (4294967295 - v).testBit i = (decide (i < 32) && !v.testBit i) := by
  rw [show 4294967295 - v = 2 ^ 32 - (v + 1) by omega, Nat.testBit_two_pow_sub_succ (show v < 2 ^ 32 from hv)]
theorem or_lt {x v : Nat} (hx : x < 4294967296) (hv : v < 4294967296) : x ||| v < 4294967296 := Nat.or_lt_two_pow (n := 32) hx hv
theorem and_or_not {x v : Nat} (hx : x < 4294967296) (hv : v < 4294967296) : x &&& (4294967295 - (x ||| v)) = 0 := by
  apply Nat.eq_of_testBit_eq
  intro i
  rw [Nat.testBit_and, bit_not' _ _ (or_lt hx hv), Nat.testBit_or, Nat.zero_testBit]
  cases x.testBit i <;> simp
theorem or_full {x v : Nat} (hx : x < 4294967296) (hv : v < 4294967296) : x ||| ((x ||| v) &&& 4294967295) = x ||| v := by
  rw [show 4294967295 = 2 ^ 32 - 1 from rfl, Nat.and_two_pow_sub_one_of_lt_two_pow (show x ||| v < 2 ^ 32 from or_lt hx hv), ← Nat.or_assoc, Nat.or_self]

theorem planOf_congr {vs vs' : List Nat} : ∀ (l : List Nat) (f : Nat), (∀ j, f ≤ j → vs[j]? = vs'[j]?) → planOf vs f l = planOf vs' f l
  | [], f, _ => rfl
  | x :: l, f, h => by
    rw [planOf, planOf, h f (Nat.le_refl _), planOf_congr l (f + 1) (fun j hj => h j (by omega))]
/-- What a plan leaves when it is done. -/
def orAt : List Nat → Nat → List Nat → List Nat
  | vs, _, [] => vs
  | vs, f, v :: r => orAt (vs.set f ((vs[f]?.getD 0) ||| v)) (f + 1) r
theorem doL_plan : ∀ (l : List Nat) (vs : List Nat) (f : Nat), f + l.length ≤ vs.length → (∀ (i x : Nat), vs[i]? = some x → x < 4294967296) → (∀ x ∈ l, x < 4294967296) → doL vs (planOf vs f l) = (0, orAt vs f l)
  | [], vs, f, _, _, _ => rfl
  | v :: r, vs, f, hf, hw, hl => by
    simp only [List.length_cons] at hf
    obtain ⟨old, ho⟩ : ∃ old, vs[f]? = some old := ⟨_, List.getElem?_eq_getElem (by omega)⟩
    have hoM := hw f old ho
    have hvM := hl v (by simp)
    have hset : ∀ (y : Nat), y < 4294967296 → ∀ (i x : Nat), (vs.set f y)[i]? = some x → x < 4294967296 := fun y hy i x h => by
      rw [List.getElem?_set] at h
      split at h
      · split at h
        · cases h; exact hy
        · cases h
      · exact hw i x h
    have ih := doL_plan r (vs.set f (old ||| v)) (f + 1) (by simp; omega) (hset _ (or_lt hoM hvM)) (fun x hx => hl x (by simp [hx]))
    have hpc : planOf vs (f + 1) r = planOf (vs.set f (old ||| v)) (f + 1) r := planOf_congr r (f + 1) fun j hj => by rw [List.getElem?_set_ne (by omega)]
    simp only [planOf, ho, Option.getD_some, orAt]
    by_cases h : old ||| v = old
    · have hs : vs.set f (old ||| v) = vs := by
        rw [h]
        apply List.ext_getElem?
        intro i
        rw [List.getElem?_set]
        split
        · rename_i hi; subst hi; split
          · exact ho.symm
          · omega
        · rfl
      rw [hs] at ih ⊢
      rw [if_pos h, List.nil_append, ih]
    · rw [if_neg h, List.singleton_append, doL]
      have hr : inR vs (f : Int) = true := by unfold inR; exact decide_eq_true (by omega)
      have h0 : cutE vs (f : Int) (old ||| v) = 0 := by simp [cutE, hr, ho, and_or_not hoM hvM]
      have h1 : cutV vs (f : Int) (old ||| v) 4294967295 = vs.set f (old ||| v) := by simp only [cutV, h0, if_true, Int.toNat_natCast, ho, Option.getD_some, or_full hoM hvM]
      simp only [h0, h1, if_true]
      rw [hpc, ih]
theorem orAt_mid : ∀ (l m pre post : List Nat), m.length = l.length → orAt (pre ++ m ++ post) pre.length l = pre ++ List.zipWith (· ||| ·) m l ++ post
  | [], m, pre, post, h => by
    have : m = [] := List.eq_nil_of_length_eq_zero h
    subst this
    simp [orAt]
  | v :: r, [], pre, post, h => by simp at h
  | v :: r, x :: m, pre, post, h => by
    have e := orAt_mid r m (pre ++ [x ||| v]) post (by simpa using h)
    rw [orAt]
    have hg : (pre ++ x :: m ++ post)[pre.length]? = some x := by simp
    have hs : (pre ++ x :: m ++ post).set pre.length (x ||| v) = (pre ++ [x ||| v]) ++ m ++ post := by simp
    rw [hg, Option.getD_some, hs]
    simp only [List.length_append, List.length_cons, List.length_nil] at e
    rw [e]
    simp

theorem lw_or (a j : Nat) : ∀ d, ((lw a)[j]?.getD 0) ||| ((lw (a + d))[j]?.getD 0) = (lw (a + d))[j]?.getD 0
  | 0 => by simp
  | d + 1 => by
    have ih := lw_or a j d
    rw [show a + (d + 1) = (a + d) + 1 by omega, lw, List.getElem?_set]
    split
    · rename_i h
      split
      · rw [Option.getD_some, h, ← Nat.or_assoc, ih]
      · simp only [Option.getD_none]
        rename_i h2
        rw [List.getElem?_eq_none (by rw [lw_length] at h2 ⊢; omega)]
        rfl
    · exact ih
theorem lw_zip {a s : Nat} (h : a ≤ s) : List.zipWith (· ||| ·) (lw a) (lw s) = lw s := by
  apply List.ext_getElem?
  intro j
  rw [List.getElem?_zipWith]
  by_cases hj : j < 8
  · obtain ⟨x, h1⟩ : ∃ x, (lw a)[j]? = some x := ⟨_, List.getElem?_eq_getElem (by rw [lw_length]; exact hj)⟩
    obtain ⟨y, h2⟩ : ∃ y, (lw s)[j]? = some y := ⟨_, List.getElem?_eq_getElem (by rw [lw_length]; exact hj)⟩
    have := lw_or a j (s - a)
    rw [show a + (s - a) = s by omega, h1, h2, Option.getD_some, Option.getD_some] at this
    rw [h1, h2]
    simp [this]
  · rw [List.getElem?_eq_none (by rw [lw_length]; omega), List.getElem?_eq_none (by rw [lw_length]; omega)]
theorem cv_length (n : Nat) : (cv n).length = 64 := by simp [cv, lw_length]
theorem cv_word (n : Nat) : ∀ (i x : Nat), (cv n)[i]? = some x → x < 4294967296 := fun i x h => by
  have hm := List.mem_of_getElem? h
  simp only [cv, List.mem_append, List.mem_singleton, List.mem_replicate] at hm
  rcases hm with (rfl | hm) | ⟨_, rfl⟩
  · decide
  · obtain ⟨j, hj⟩ := List.mem_iff_getElem?.1 hm
    exact lw_word n j x hj
  · decide
/-- A counter that is raised, wholly. -/
theorem cv_do {a s : Nat} (h : a ≤ s) : doL (cv a) (planOf (cv a) 1 (lw s)) = (0, cv s) := by
  rw [doL_plan (lw s) (cv a) 1 (by rw [lw_length, cv_length]; omega) (cv_word a) (fun x hx => by obtain ⟨j, hj⟩ := List.mem_iff_getElem?.1 hx; exact lw_word s j x hj)]
  have := orAt_mid (lw s) (lw a) [0] (List.replicate 55 0) (by rw [lw_length, lw_length])
  rw [lw_zip h] at this
  exact congrArg (Prod.mk 0) this
theorem planOf_mem {vs : List Nat} (hw : ∀ (i x : Nat), vs[i]? = some x → x < 4294967296) : ∀ (l : List Nat) (f : Nat), (∀ x ∈ l, x < 4294967296) → ∀ y ∈ planOf vs f l, y.2 < 4294967296 ∧ f ≤ y.1 ∧ y.1 < f + l.length
  | [], f, _, y, hy => by simp [planOf] at hy
  | v :: r, f, hl, y, hy => by
    simp only [planOf, List.mem_append] at hy
    rcases hy with hy | hy
    · split at hy
      · simp at hy
      · simp only [List.mem_singleton] at hy
        subst hy
        refine ⟨or_lt ?_ (hl v (by simp)), Nat.le_refl _, by simp⟩
        cases ho : vs[f]? with
        | none => simp
        | some o => simpa using hw f o ho
    · have := planOf_mem hw r (f + 1) (fun x hx => hl x (by simp [hx])) y hy
      simp only [List.length_cons]
      exact ⟨this.1, by omega, by omega⟩
set_option maxRecDepth 100000 in
theorem cv_counter : ∀ n : Fin 256, counter (cv n.val) = n.val := by decide +kernel
def pops (x m : Nat) : Nat := ((List.range m).map fun k => x / 2 ^ k % 2).sum
def bitsum (l : List Nat) : Nat := (l.map fun x => pops x 32).sum
theorem pops_succ (x m : Nat) : pops x (m + 1) = pops x m + x / 2 ^ m % 2 := by simp [pops, List.range_succ]
theorem pops_le (x : Nat) : ∀ m, pops x m ≤ m
  | 0 => by simp [pops]
  | m + 1 => by
    have := pops_le x m
    rw [pops_succ]
    omega
theorem bitsum_snoc (l : List Nat) (x : Nat) : bitsum (l ++ [x]) = bitsum l + pops x 32 := by simp [bitsum]
theorem bitsum_le : ∀ l : List Nat, bitsum l ≤ 32 * l.length
  | [] => by simp [bitsum]
  | x :: r => by
    have h1 := bitsum_le r
    have h2 := pops_le x 32
    have : bitsum (x :: r) = pops x 32 + bitsum r := by simp [bitsum]
    rw [this, List.length_cons]
    omega
theorem bit_int0 (y k : Nat) : ((y : Int) / 2 ^ k).tmod 2 = ((y / 2 ^ k % 2 : Nat) : Int) := by
  have : ((y : Int) / 2 ^ k) = ((y / 2 ^ k : Nat) : Int) := by simp
  rw [this]
  rfl
set_option maxRecDepth 100000 in
theorem cv_bits : ∀ n : Fin 256, bitsum (cwords (cv n.val)) = n.val := by decide +kernel
end Otp
end Go.Proofs.YtpakdcgcgekcfaaDoor

/-
  The counter, bit by bit: plain.
-/
set_option linter.unusedSimpArgs false
set_option linter.unusedVariables false
namespace Go.Proofs.YtpakdcgcgekcfaaDoor
open Go.RowKit

namespace Otp
open Fuse
theorem bit_tb (x t : Nat) : x / 2 ^ t % 2 = (x.testBit t).toNat := by
  rw [Nat.toNat_testBit]
theorem bit_compl (x t : Nat) (hx : x < 4294967296) (ht : t < 32) : x / 2 ^ t % 2 = 1 - (4294967295 - x) / 2 ^ t % 2 := by
  rw [bit_tb, bit_tb, bit_not' x t hx]
  cases x.testBit t <;> simp [ht]
theorem ctz_bits (y : Nat) (h0 : y ≠ 0) (hy : y < 4294967296) : (∀ t, t < Lib.ctz 32 y → y / 2 ^ t % 2 = 0) ∧ y / 2 ^ (Lib.ctz 32 y) % 2 = 1 ∧ Lib.ctz 32 y < 32 := by
  obtain ⟨m, hm, hk⟩ := Lib.ctzFrom_spec 32 y (by omega) hy
  have e : Lib.ctz 32 y = Lib.ctzFrom 32 y := by simp [Lib.ctz, h0]
  rw [e]
  generalize Lib.ctzFrom 32 y = k at *
  refine ⟨fun t ht => ?_, ?_, hk⟩
  · have : y = 2 ^ t * (2 * (2 ^ (k - t - 1) * (2 * m + 1))) := by
      rw [hm, ← Nat.mul_assoc 2, ← Nat.mul_assoc, ← Nat.pow_succ', ← Nat.pow_add]
      congr 2
      omega
    rw [this, Nat.mul_div_cancel_left _ (Nat.pow_pos (by decide)), Nat.mul_mod_right]
  · rw [hm, Nat.mul_div_cancel_left _ (Nat.pow_pos (by decide))]
    omega
/-- Below the count every bit is set; at it, if there is such a bit, it isn't. -/
theorem ctr_bits : ∀ ws : List Nat, (∀ x ∈ ws, x < 4294967296) → (∀ n, n < ctr ws → (ws[n / 32]?.getD 0) / 2 ^ (n % 32) % 2 = 1) ∧ (ctr ws < 32 * ws.length → (ws[ctr ws / 32]?.getD 0) / 2 ^ (ctr ws % 32) % 2 = 0)
  | [], _ => ⟨fun n hn => by simp [ctr] at hn, fun h => by simp [ctr] at h⟩
  | x :: r, hw => by
    have hx := hw x (by simp)
    obtain ⟨i1, i2⟩ := ctr_bits r (fun y hy => hw y (by simp [hy]))
    by_cases hf : x = 4294967295
    · have e : ctr (x :: r) = 32 + ctr r := by rw [ctr, if_pos hf]
      rw [e]
      constructor
      · intro n hn
        by_cases h32 : n < 32
        · rw [Nat.div_eq_of_lt h32, List.getElem?_cons_zero, Option.getD_some, bit_compl x _ hx (Nat.mod_lt _ (by decide)), hf]
          simp
        · have := i1 (n - 32) (by omega)
          rw [show n / 32 = (n - 32) / 32 + 1 by omega, show n % 32 = (n - 32) % 32 by omega, List.getElem?_cons_succ]
          exact this
      · intro h
        have := i2 (by simp only [List.length_cons] at h; omega)
        rw [show (32 + ctr r) / 32 = ctr r / 32 + 1 by omega, show (32 + ctr r) % 32 = ctr r % 32 by omega, List.getElem?_cons_succ]
        exact this
    · have e : ctr (x :: r) = Lib.ctz 32 (4294967295 - x) := by rw [ctr, if_neg hf]
      obtain ⟨c1, c2, c3⟩ := ctz_bits (4294967295 - x) (by omega) (by omega)
      rw [e]
      constructor
      · intro n hn
        rw [Nat.div_eq_of_lt (show n < 32 by omega), Nat.mod_eq_of_lt (show n < 32 by omega), List.getElem?_cons_zero, Option.getD_some, bit_compl x n hx (by omega), c1 n hn]
      · intro _
        rw [Nat.div_eq_of_lt c3, Nat.mod_eq_of_lt c3, List.getElem?_cons_zero, Option.getD_some, bit_compl x _ hx c3, c2]
end Otp
end Go.Proofs.YtpakdcgcgekcfaaDoor

/-
  What rises, in plain Lean: words whose bits are only set; the life, the counter, the marks of rows.
-/
set_option linter.unusedSimpArgs false
set_option linter.unusedVariables false
namespace Go.Proofs.YtpakdcgcgekcfaaDoor
open Go.RowKit

namespace Otp
open Fuse
/-- Every bit of x is one of y. -/
def Sub (x y : Nat) : Prop := x ||| y = y
theorem Sub.refl (x : Nat) : Sub x x := Nat.or_self x
theorem Sub.bit {x y : Nat} (h : Sub x y) (i : Nat) (hx : x.testBit i = true) : y.testBit i = true := by
  have := congrArg (fun z => z.testBit i) h
  simp only [Nat.testBit_or, hx, Bool.true_or] at this
  exact this.symm
theorem Sub.of_bits {x y : Nat} (h : ∀ i, x.testBit i = true → y.testBit i = true) : Sub x y := by
  apply Nat.eq_of_testBit_eq
  intro i
  rw [Nat.testBit_or]
  cases hx : x.testBit i with
  | false => simp
  | true => simp [h i hx]
theorem Sub.trans {x y z : Nat} (h : Sub x y) (k : Sub y z) : Sub x z := Sub.of_bits fun i hi => k.bit i (h.bit i hi)
theorem Sub.or (x y : Nat) : Sub x (x ||| y) := Sub.of_bits fun i hi => by rw [Nat.testBit_or, hi]; rfl
theorem Sub.field {x y : Nat} (h : Sub x y) (k : Nat) : Sub (x / 2 ^ k % 256) (y / 2 ^ k % 256) := Sub.of_bits fun i hi => by
  rw [show (256 : Nat) = 2 ^ 8 from rfl, Nat.testBit_mod_two_pow, Nat.testBit_div_two_pow] at hi ⊢
  simp only [Bool.and_eq_true, decide_eq_true_eq] at hi ⊢
  exact ⟨hi.1, h.bit _ hi.2⟩
theorem ones_mono0 : ∀ a b : Fin 256, a.val ||| b.val = b.val → Lib.onesCount a.val ≤ Lib.onesCount b.val := by decide +kernel
theorem onB_mono {x y : Nat} (h : Sub x y) (i : Nat) (hx : onB x i = true) : onB y i = true := by
  unfold onB at hx ⊢
  rw [decide_eq_true_eq] at hx ⊢
  have := ones_mono0 ⟨x / 2 ^ (8 * i) % 256, Nat.mod_lt _ (by decide)⟩ ⟨y / 2 ^ (8 * i) % 256, Nat.mod_lt _ (by decide)⟩ (h.field (8 * i))
  exact Nat.le_trans hx this
theorem lifeN_mono {x y : Nat} (h : Sub x y) : ∀ n, lifeN x n ≤ lifeN y n
  | 0 => Nat.le_refl _
  | i + 1 => by
    have ih := lifeN_mono h i
    have hle := lifeN_le x i
    simp only [lifeN]
    by_cases hx : onB x i = true
    · rw [if_pos hx, if_pos (onB_mono h i hx)]
      exact Nat.le_refl _
    · rw [if_neg hx]
      split
      · omega
      · exact ih
/-- The words have kept their bits. -/
def More (vs vs' : List Nat) : Prop := vs.length = vs'.length ∧ ∀ (i x y : Nat), vs[i]? = some x → vs'[i]? = some y → Sub x y
theorem More.refl (vs : List Nat) : More vs vs := ⟨rfl, fun i x y hx hy => by rw [hx] at hy; obtain rfl := Option.some.inj hy; exact Sub.refl x⟩
theorem More.trans {a b c : List Nat} (h : More a b) (k : More b c) : More a c := ⟨h.1.trans k.1, fun i x z hx hz => by
  have hi : i < b.length := by have := (List.getElem?_eq_some_iff.1 hx).1; have := h.1; omega
  exact (h.2 i x _ hx (List.getElem?_eq_getElem hi)).trans (k.2 i _ z (List.getElem?_eq_getElem hi) hz)⟩
theorem More.set {vs : List Nat} {i x y : Nat} (hx : vs[i]? = some x) (h : Sub x y) : More vs (vs.set i y) := ⟨by simp, fun j a b ha hb => by
  by_cases hji : j = i
  · subst hji
    rw [List.getElem?_set_self (List.getElem?_eq_some_iff.1 ha).1] at hb
    rw [hx] at ha
    obtain rfl := Option.some.inj ha
    obtain rfl := Option.some.inj hb
    exact h
  · rw [List.getElem?_set_ne (fun e => hji e.symm), ha] at hb
    obtain rfl := Option.some.inj hb
    exact Sub.refl a⟩
theorem life_mono {vs vs' : List Nat} (h : More vs vs') (h0 : 0 < vs.length) : life vs ≤ life vs' := by
  obtain ⟨x, hx⟩ : ∃ x, vs[0]? = some x := ⟨_, List.getElem?_eq_getElem h0⟩
  obtain ⟨y, hy⟩ : ∃ y, vs'[0]? = some y := ⟨_, List.getElem?_eq_getElem (by rw [← h.1]; exact h0)⟩
  unfold life
  rw [hx, hy]
  exact lifeN_mono (h.2 0 x y hx hy) 4
theorem counter_mono {vs vs' : List Nat} (h : More vs vs') (hl : vs.length = 64) (hw : ∀ x ∈ vs, x < 4294967296) (hw' : ∀ x ∈ vs', x < 4294967296) : counter vs ≤ counter vs' := by
  have hl' : vs'.length = 64 := by rw [← h.1]; exact hl
  obtain ⟨a1, _⟩ := ctr_bits (cwords vs) (fun x hx => hw x (List.mem_of_mem_drop (List.mem_of_mem_take hx)))
  obtain ⟨_, b2⟩ := ctr_bits (cwords vs') (fun x hx => hw' x (List.mem_of_mem_drop (List.mem_of_mem_take hx)))
  have c1 : (cwords vs).length = 8 := by simp [cwords, hl]
  have c2 : (cwords vs').length = 8 := by simp [cwords, hl']
  have hle := ctr_le (cwords vs)
  unfold counter
  rcases Nat.lt_or_ge (ctr (cwords vs')) (ctr (cwords vs)) with hlt | hge
  · exfalso
    have hn : ctr (cwords vs') < 32 * (cwords vs').length := by omega
    have e1 := a1 _ hlt
    have e2 := b2 hn
    generalize ctr (cwords vs') = n at *
    have hi : n / 32 < 8 := by omega
    obtain ⟨x, hx⟩ : ∃ x, (cwords vs)[n / 32]? = some x := ⟨_, List.getElem?_eq_getElem (by omega)⟩
    obtain ⟨y, hy⟩ : ∃ y, (cwords vs')[n / 32]? = some y := ⟨_, List.getElem?_eq_getElem (by omega)⟩
    rw [hx, Option.getD_some, bit_tb] at e1
    rw [hy, Option.getD_some, bit_tb] at e2
    have hx' : vs[1 + n / 32]? = some x := by rw [cwords, List.getElem?_take, if_pos hi, List.getElem?_drop] at hx; exact hx
    have hy' : vs'[1 + n / 32]? = some y := by rw [cwords, List.getElem?_take, if_pos hi, List.getElem?_drop] at hy; exact hy
    have hb : x.testBit (n % 32) = true := by cases hq : x.testBit (n % 32) <;> simp [hq] at e1 ⊢
    rw [(h.2 _ x y hx' hy').bit _ hb] at e2
    simp at e2
  · omega
/-- Writes that may be done, one behind the other. -/
def okL : List Nat → List (Nat × Nat) → Prop
  | _, [] => True
  | vs, p :: r => (∃ old, vs[p.1]? = some old ∧ Sub old p.2) ∧ p.2 < 4294967296 ∧ okL (vs.set p.1 p.2) r
def setAll : List Nat → List (Nat × Nat) → List Nat
  | vs, [] => vs
  | vs, p :: r => setAll (vs.set p.1 p.2) r
theorem sub_and {x v : Nat} (h : Sub x v) (hv : v < 4294967296) : x &&& (4294967295 - v) = 0 := by
  apply Nat.eq_of_testBit_eq
  intro i
  rw [Nat.testBit_and, bit_not' v i hv, Nat.zero_testBit]
  cases hx : x.testBit i with
  | false => rfl
  | true => simp [h.bit i hx]
theorem setAll_length : ∀ (l : List (Nat × Nat)) (vs : List Nat), (setAll vs l).length = vs.length
  | [], _ => rfl
  | p :: r, vs => by rw [setAll, setAll_length r, List.length_set]
theorem setAll_more : ∀ (l : List (Nat × Nat)) (vs : List Nat), okL vs l → More vs (setAll vs l)
  | [], vs, _ => More.refl vs
  | p :: r, vs, h => by
    obtain ⟨⟨old, ho, hs⟩, _, hr⟩ := h
    exact (More.set ho hs).trans (setAll_more r _ hr)
theorem okL_take : ∀ (l : List (Nat × Nat)) (vs : List Nat) (n : Nat), okL vs l → okL vs (l.take n)
  | [], _, n, h => by simpa using h
  | _ :: _, _, 0, _ => trivial
  | p :: r, vs, n + 1, h => ⟨h.1, h.2.1, okL_take r _ n h.2.2⟩
theorem okL_at : ∀ (l : List (Nat × Nat)) (vs : List Nat) (n : Nat) (p : Nat × Nat), okL vs l → l[n]? = some p → ∃ old, (setAll vs (l.take n))[p.1]? = some old ∧ Sub old p.2 ∧ p.2 < 4294967296
  | q :: r, vs, 0, p, h, hp => by
    simp only [List.getElem?_cons_zero, Option.some.injEq] at hp
    subst hp
    obtain ⟨⟨old, ho, hs⟩, hb, _⟩ := h
    exact ⟨old, ho, hs, hb⟩
  | q :: r, vs, n + 1, p, h, hp => okL_at r _ n p h.2.2 (by simpa using hp)
theorem setAll_far : ∀ (l : List (Nat × Nat)) (vs : List Nat) (i : Nat), (∀ p ∈ l, p.1 ≠ i) → (setAll vs l)[i]? = vs[i]?
  | [], _, _, _ => rfl
  | p :: r, vs, i, h => by
    rw [setAll, setAll_far r _ i (fun q hq => h q (by simp [hq])), List.getElem?_set_ne (h p (by simp))]
theorem okL_append : ∀ (l r : List (Nat × Nat)) (vs : List Nat), okL vs l → okL (setAll vs l) r → okL vs (l ++ r)
  | [], _, _, _, h => h
  | p :: l, r, vs, h, k => ⟨h.1, h.2.1, okL_append l r _ h.2.2 k⟩
theorem okL_plan : ∀ (l : List Nat) (vs : List Nat) (f : Nat), f + l.length ≤ vs.length → (∀ (i x : Nat), vs[i]? = some x → x < 4294967296) → (∀ x ∈ l, x < 4294967296) → okL vs (planOf vs f l)
  | [], _, _, _, _, _ => trivial
  | v :: r, vs, f, hf, hw, hl => by
    simp only [List.length_cons] at hf
    obtain ⟨old, ho⟩ : ∃ old, vs[f]? = some old := ⟨_, List.getElem?_eq_getElem (by omega)⟩
    rw [planOf, ho, Option.getD_some]
    by_cases hs : old ||| v = old
    · rw [if_pos hs, List.nil_append]
      exact okL_plan r vs (f + 1) (by omega) hw (fun x hx => hl x (by simp [hx]))
    · rw [if_neg hs]
      have hv : v < 4294967296 := hl v (by simp)
      have hy : old ||| v < 4294967296 := or_lt (hw f old ho) hv
      refine ⟨⟨old, ho, Sub.or old v⟩, hy, ?_⟩
      have e : planOf vs (f + 1) r = planOf (vs.set f (old ||| v)) (f + 1) r := planOf_congr r (f + 1) (fun j hj => by rw [List.getElem?_set_ne (by omega)])
      show okL (vs.set f (old ||| v)) (planOf vs (f + 1) r)
      rw [e]
      refine okL_plan r _ (f + 1) (by rw [List.length_set]; omega) (fun i x hx => ?_) (fun x hx => hl x (by simp [hx]))
      by_cases hif : f = i
      · subst hif
        rw [List.getElem?_set_self (by omega)] at hx
        obtain rfl := Option.some.inj hx
        exact hy
      · rw [List.getElem?_set_ne hif] at hx
        exact hw i x hx
theorem okL_numb : ∀ (ws vs : List Nat) (f : Nat), (∀ j, j < ws.length → vs[f + j]? = some 0) → (∀ x ∈ ws, x < 4294967296) → okL vs (numb f ws)
  | [], _, _, _, _ => trivial
  | x :: r, vs, f, h, hw => by
    refine ⟨⟨0, by simpa using h 0 (by simp), by simp [Sub]⟩, hw x (by simp), okL_numb r _ (f + 1) (fun j hj => ?_) (fun y hy => hw y (by simp [hy]))⟩
    rw [List.getElem?_set_ne (by omega)]
    have := h (j + 1) (by simp; omega)
    rw [← this]
    congr 1
    omega
theorem numb_mem : ∀ (ws : List Nat) (f : Nat) (p : Nat × Nat), p ∈ numb f ws → f ≤ p.1 ∧ p.1 < f + ws.length
  | x :: r, f, p, h => by
    simp only [numb, List.mem_cons] at h
    rcases h with rfl | h
    · simp
    · have := numb_mem r (f + 1) p h
      simp only [List.length_cons]
      omega
theorem okL_row (vs : List Nat) (k : Nat) (ws : List Nat) (hl : vs.length = 64) (hk : k < 4) (hz : rowZ vs k = true) (hw : ws.length = 8) (hb : ∀ x ∈ ws, x < 4294967296) : okL vs (rowL k ws) := by
  have hz' : ∀ j, j < 9 → vs[27 + 9 * k + j]? = some 0 := fun j hj => by
    unfold rowZ at hz
    rw [List.all_eq_true] at hz
    have hr : (rowW vs k)[j]? = vs[27 + 9 * k + j]? := by unfold rowW; rw [List.getElem?_take, if_pos hj, List.getElem?_drop]
    obtain ⟨x, hx⟩ : ∃ x, vs[27 + 9 * k + j]? = some x := ⟨_, List.getElem?_eq_getElem (by omega)⟩
    rw [← hr] at hx
    have := hz x (List.mem_of_getElem? hx)
    rw [hr] at hx
    rw [hx]
    simpa using this
  unfold rowL
  refine okL_append _ _ _ ?_ ?_
  · refine ⟨⟨0, ?_, by simp [Sub]⟩, show (16711680 : Nat) < 4294967296 by decide, okL_numb ws _ _ (fun j hj => ?_) hb⟩
    · have := hz' 8 (by omega)
      rw [show 35 + 9 * k = 27 + 9 * k + 8 by omega]
      exact this
    · rw [List.getElem?_set_ne (by omega)]
      exact hz' j (by omega)
  · refine ⟨⟨16711680, ?_, ?_⟩, show (16711935 : Nat) < 4294967296 by decide, trivial⟩
    · show (setAll (vs.set (35 + 9 * k) 16711680) (numb (27 + 9 * k) ws))[35 + 9 * k]? = some 16711680
      rw [setAll_far _ _ _ (fun p hp => by have := numb_mem _ _ p hp; omega), List.getElem?_set_self (by omega)]
    · show (16711680 : Nat) ||| 16711935 = 16711935
      decide
/-- What Do answers of such writes. -/
theorem doL_ok : ∀ (l : List (Nat × Nat)) (vs : List Nat), okL vs l → (∀ p ∈ l, p.1 < vs.length) → doL vs l = (0, setAll vs l)
  | [], _, _, _ => rfl
  | p :: r, vs, h, hi => by
    obtain ⟨⟨old, ho, hs⟩, hb, hr⟩ := h
    have hlt : p.1 < vs.length := hi p (by simp)
    have hin : inR vs (p.1 : Int) = true := by simp [inR]; omega
    have hc : cutE vs (p.1 : Int) p.2 = 0 := by
      unfold cutE
      rw [if_pos hin]
      simp [ho, sub_and hs hb]
    have hv : cutV vs (p.1 : Int) p.2 4294967295 = vs.set p.1 p.2 := by
      unfold cutV
      rw [if_pos hc]
      simp only [Int.toNat_natCast, ho, Option.getD_some]
      have hfull : p.2 &&& 4294967295 = p.2 := by
        have := Nat.and_two_pow_sub_one_eq_mod p.2 32
        rw [show (4294967295 : Nat) = 2 ^ 32 - 1 by decide, this]
        exact Nat.mod_eq_of_lt hb
      rw [hfull, show old ||| p.2 = p.2 from hs]
    rw [doL, if_pos hc, hv, setAll]
    exact doL_ok r _ hr (fun q hq => by rw [List.length_set]; exact hi q (by simp [hq]))
/-- A row's key, where there is one. -/
def rowKey (vs : List Nat) (r : Nat) : List Nat := (vs.drop (27 + 9 * r)).take 8
def rowE (vs : List Nat) (r : Nat) : Int := if onB (vs[35 + 9 * r]?.getD 0) 1 = true then 17 else if onB (vs[35 + 9 * r]?.getD 0) 0 = true then 0 else 3
theorem onB_zero (i : Nat) : onB 0 i = false := by
  unfold onB
  rw [Nat.zero_div]
  rfl
/-- A row that has a key isn't empty. -/
theorem rowE_full {vs : List Nat} {r : Nat} (hl : vs.length = 64) (hr : r < 4) (h : rowE vs r = 0) : rowZ vs r = false := by
  cases hz : rowZ vs r with
  | false => rfl
  | true =>
    exfalso
    unfold rowZ at hz
    rw [List.all_eq_true] at hz
    obtain ⟨x, hx⟩ : ∃ x, vs[35 + 9 * r]? = some x := ⟨_, List.getElem?_eq_getElem (by omega)⟩
    have hr8 : (rowW vs r)[8]? = some x := by
      unfold rowW
      rw [List.getElem?_take, if_pos (by omega), List.getElem?_drop, show 27 + 9 * r + 8 = 35 + 9 * r by omega]
      exact hx
    have := hz x (List.mem_of_getElem? hr8)
    have hx0 : x = 0 := by simpa using this
    unfold rowE at h
    rw [hx, hx0, Option.getD_some, onB_zero, onB_zero] at h
    simp at h
/-- Behind writes that keep its words a key is the same, or dead; and dead stays dead. -/
theorem row_mono {vs vs' : List Nat} {r : Nat} (hm : More vs vs') (hl : vs.length = 64) (hr : r < 4) (hk : rowE vs r = 0 → rowKey vs' r = rowKey vs r) :
    (rowE vs r = 0 → rowE vs' r = 17 ∨ (rowE vs' r = 0 ∧ rowKey vs' r = rowKey vs r)) ∧ (rowE vs r = 17 → rowE vs' r = 17) := by
  obtain ⟨x, hx⟩ : ∃ x, vs[35 + 9 * r]? = some x := ⟨_, List.getElem?_eq_getElem (by omega)⟩
  obtain ⟨y, hy⟩ : ∃ y, vs'[35 + 9 * r]? = some y := ⟨_, List.getElem?_eq_getElem (by have := hm.1; omega)⟩
  have hs := hm.2 _ x y hx hy
  constructor
  · intro h
    have hk' := hk h
    unfold rowE at h ⊢
    rw [hx, Option.getD_some] at h
    rw [hy, Option.getD_some]
    by_cases h1 : onB y 1 = true
    · left; rw [if_pos h1]
    · right
      have h0 : onB x 0 = true := by
        by_cases hq : onB x 0 = true
        · exact hq
        · exfalso
          rw [if_neg hq] at h
          split at h <;> simp at h
      rw [if_neg h1, if_pos (onB_mono hs 0 h0)]
      exact ⟨rfl, hk'⟩
  · intro h
    unfold rowE at h ⊢
    rw [hx, Option.getD_some] at h
    rw [hy, Option.getD_some]
    have h1 : onB x 1 = true := by
      by_cases hq : onB x 1 = true
      · exact hq
      · exfalso
        rw [if_neg hq] at h
        split at h <;> simp at h
    rw [if_pos (onB_mono hs 1 h1)]
end Otp
end Go.Proofs.YtpakdcgcgekcfaaDoor

/-
  What a row answers.
-/
set_option linter.unusedSimpArgs false
set_option linter.unusedVariables false
namespace Go.Proofs.YtpakdcgcgekcfaaDoor
open Go.RowKit

namespace Otp
open R1
/-- What Row answers: a row's key. -/
def rowD (vs : List Nat) (k : Nat) : List Nat := if rowE vs k = 0 then wordsB (rowKey vs k) else List.replicate 32 0
def RowOut (w : World) (D : List Nat) (E : Int) (e : Ending) (w' : World) : Prop := e = .returned (.tuple #[.agg (b8 D), .int .i64 E]) ∧ Below w.heap.size w w'
theorem b8_one (l : List Nat) : (b8 l).all (·.oneCell') = true := all_oneCell_toArray (fun v hv => by
  obtain ⟨a, _, rfl⟩ := List.mem_map.1 hv
  rfl)
theorem b8_size (l : List Nat) : (b8 l).size = l.length := by simp [b8]
theorem dig_info : (Tryd.prog.info? 23).map (·.size) = some 32 := by kernel_rfl
end Otp
end Go.Proofs.YtpakdcgcgekcfaaDoor

/-
  copy onto bytes that lie in a block; an array's end as a slice; four bytes of a word.
-/
set_option linter.unusedSimpArgs false
set_option linter.unusedVariables false
namespace Go.Proofs.YtpakdcgcgekcfaaDoor
open Go.RowKit

namespace Otp
open Fuse R1
/-- An array's end, as a slice. -/
theorem run_slice_arr_l {P : Program} (t e : TypeId) (N : Nat) (ht : P.underlying t = some (.array N e)) (hs : ∀ w, (sizeOf e).run P w = .ok 1 w) (b lo : Nat) (kl : IntKind) (l : Int) (hl : l = lo) (h3 : lo < N) (w : World) :
    (Instr.sliceAt t (.pointer (some ⟨b, 0, none⟩)) (some (.int kl l)) none none).run P w = .ok (.slice (some ⟨b, lo, none⟩) (N - lo) (N - lo)) w := by
  have hn : P.arrayLen t = N := by simp [Program.arrayLen, ht]
  have he : P.elem t = e := by simp [Program.elem, ht]
  have ht' : P.underlying t = some (.array (P.arrayLen t) (P.elem t)) := by rw [hn, he]; exact ht
  rw [run_sliceAt_array_l w t ⟨b, 0, none⟩ ht' kl l (by omega) (by rw [hn]; omega), he, hs, hn]
  subst hl
  have hne : ¬ N = lo := by omega
  simp [Result.andThen, slicedAt, hne, Go.WideShapes.add_plain]
theorem numB_four (x : Nat) (hm : x < 4294967296) : ((numB x 4).map fun y => Value.int .u8 ((y : Nat) : Int)) = [Value.int .u8 ((x : Int) / 16777216), Value.int .u8 ((x : Int) / 65536 % 256), Value.int .u8 ((x : Int) / 256 % 256), Value.int .u8 ((x : Int) % 256)] := by
  have e : x / 16777216 % 256 = x / 16777216 := Nat.mod_eq_of_lt (by omega)
  simp [numB, e]
theorem b8_list (l : List Nat) : (l.map fun y => Value.int .u8 ((y : Nat) : Int)).toArray = b8 l := rfl
theorem map_splice {α β : Type} (f : α → β) (L : List α) (o : Nat) (cs : List α) : (splice L o cs).map f = splice (L.map f) o (cs.map f) := by
  simp [splice, List.map_take, List.map_drop]
theorem wpList_copy_b8 {P : Program} {w : World} {ops : Array Oper} {rest : List Oper} {o : Oper} {a : Act} {Q : Exit → Act → World → Prop} (hgd : o.guard = none) (d s : Operand) (dT sT : TypeId)
    (ho : o.op = .call { callee := .builtin .copy, args := #[d, s], argTypes := #[dT, sT] }) (elem : TypeId) (hu : P.underlying dT = some (.slice elem)) (hsz : (P.info? elem).map (·.size) = some 1)
    (dp sp : Option Addr) (dLen dCap sLen sCap : Nat) (hd : a.eval d = .slice dp dLen dCap) (hs : a.eval s = .slice sp sLen sCap)
    (g off : Nat) (t : TypeId) (cur : List Nat) (hg : Blk w g t (b8 cur)) (cs : List Nat) (hn : cs.length = Nat.min sLen dLen)
    (hpos : 0 < cs.length → dp = some ⟨g, off, none⟩ ∧ ∃ ad, sp = some ad ∧ ∀ j (v : Value), (cs.map fun y => Value.int .u8 ((y : Nat) : Int))[j]? = some v → w.cell? (ad.add j) = some v)
    (hfit : off + cs.length ≤ cur.length) (B : Nat) (w0 : World) (hb : Below B w0 w) (hBg : B ≤ g)
    (h : ∀ w', Hid (Blk w' g t (b8 (splice cur off cs))) → Hid (Below B w0 w') → wpList P ops Q rest (a.put o.dst (goInt cs.length)) w') :
    wpList P ops Q (o :: rest) a w := by
  have hl : (cs.map fun y => Value.int .u8 ((y : Nat) : Int)).length = cs.length := by simp
  refine wpList_copy_splice hgd d s dT sT ho elem hu hsz dp sp dLen dCap sLen sCap hd hs g off (cur.map fun y => Value.int .u8 ((y : Nat) : Int)) t hg (cs.map fun y => Value.int .u8 ((y : Nat) : Int)) (by rw [hl]; exact hn) (by rw [hl]; exact hpos) (by rw [hl]; simpa using hfit) (fun v hv => ?_) B w0 hb hBg (fun w' h1 h2 => ?_)
  · obtain ⟨x, _, rfl⟩ := List.mem_map.1 hv
    rfl
  · have := h w' (Lib.hid (by unfold b8; rw [map_splice]; exact h1.out)) (Lib.hid h2)
    rw [hl]
    exact this
theorem splice_length {L : List Nat} {o : Nat} {cs : List Nat} (h : o + cs.length ≤ L.length) : (splice L o cs).length = L.length := length_splice L o cs h
/-- The next part, behind those that are there already. -/
theorem splice_next (a cs : List Nat) (n : Nat) (h : cs.length ≤ n) : splice (a ++ List.replicate n 0) a.length cs = (a ++ cs) ++ List.replicate (n - cs.length) 0 := by
  unfold splice
  rw [List.take_append_of_le_length (Nat.le_refl _), List.take_of_length_le (Nat.le_refl _), List.drop_append, List.drop_of_length_le (by omega), List.nil_append, List.drop_replicate, List.append_assoc]
  congr 3
  omega
/-- A whole array out of a block, in a place that is guarded. -/
theorem load_mid_g {P : Program} {ops : Array Oper} {rest : List Oper} {op : Oper} {a : Act} {w : World} {Q : Exit → Act → World → Prop} (hw : Region.wanted op (yielded ops a.tmps) = true) (ty : TypeId) (x : Operand) (ho : op.op = .load ty x)
    (b o : Nat) (hx : a.eval x = .pointer (some ⟨b, o, none⟩)) (cs : List Value) (d : TypeDesc) (hc : w.rangeAt b o cs) (hu : P.underlying ty = some d) (hd : d.isRow = true) (hi : (P.info? ty).map (·.size) = some cs.length)
    (h : wpList P ops Q rest (a.put op.dst (.agg cs.toArray)) w) : wpList P ops Q (op :: rest) a w :=
  wpList_step fun K hK => by
    rw [if_pos hw]
    exact wp_load_mid ty x ho b o hx cs d hc hu hd hi (hK _ _ h)
theorem Blk.range {w : World} {g : Nat} {t : TypeId} {cs : Array Value} (h : Blk w g t cs) : w.rangeAt g 0 cs.toList := fun j v hv => by
  rw [Nat.zero_add, h.cell]
  simpa using hv
/-- A whole array out of a block, its cells as a list. -/
theorem load_row_g {P : Program} {ops : Array Oper} {rest : List Oper} {op : Oper} {a : Act} {w : World} {Q : Exit → Act → World → Prop} (hw : Region.wanted op (yielded ops a.tmps) = true) (ty : TypeId) (x : Operand) (ho : op.op = .load ty x)
    (b : Nat) (hx : a.eval x = .pointer (some ⟨b, 0, none⟩)) (t : TypeId) (cs : Array Value) (d : TypeDesc) (hc : Blk w b t cs) (hu : P.underlying ty = some d) (hd : d.isRow = true) (hi : (P.info? ty).map (·.size) = some cs.size)
    (h : wpList P ops Q rest (a.put op.dst (.agg cs)) w) : wpList P ops Q (op :: rest) a w :=
  load_mid_g hw ty x ho b 0 hx cs.toList d (Blk.range hc) hu hd (by simpa using hi) (by simpa using h)
end Otp
end Go.Proofs.YtpakdcgcgekcfaaDoor

/-
  Turning a word: math/bits.RotateLeft32, and the reference's turn.
-/
set_option linter.unusedSimpArgs false
set_option linter.unusedVariables false
namespace Go.Proofs.YtpakdcgcgekcfaaDoor
open Go.RowKit

namespace Sha
open Otp
/-- To the right, round. -/
def rotr (x n : Nat) : Nat := x / 2 ^ n + (x % 2 ^ n) * 2 ^ (32 - n)
theorem rotr_lt {x n : Nat} (hx : x < 4294967296) (hn : n ≤ 32) : rotr x n < 4294967296 := by
  unfold rotr
  have h1 : x / 2 ^ n < 2 ^ (32 - n) := by
    rw [Nat.div_lt_iff_lt_mul (Nat.two_pow_pos n), ← Nat.pow_add, show 32 - n + n = 32 by omega]
    exact hx
  have h2 : x % 2 ^ n < 2 ^ n := Nat.mod_lt _ (Nat.two_pow_pos n)
  have h3 : (x % 2 ^ n + 1) * 2 ^ (32 - n) ≤ 2 ^ n * 2 ^ (32 - n) := Nat.mul_le_mul_right _ h2
  rw [← Nat.pow_add, show n + (32 - n) = 32 by omega, Nat.add_mul] at h3
  omega
theorem shl_mod {x n : Nat} (hn : n ≤ 32) : x * 2 ^ (32 - n) % 4294967296 = (x % 2 ^ n) * 2 ^ (32 - n) := by
  have e : 4294967296 = 2 ^ n * 2 ^ (32 - n) := by rw [← Nat.pow_add, show n + (32 - n) = 32 by omega]
  rw [e, Nat.mul_mod_mul_right]
theorem rot_or {x n : Nat} (hx : x < 4294967296) (hn : n ≤ 32) : (x * 2 ^ (32 - n) % 4294967296) ||| (x / 2 ^ n) = rotr x n := by
  have h1 : x / 2 ^ n < 2 ^ (32 - n) := by
    rw [Nat.div_lt_iff_lt_mul (Nat.two_pow_pos n), ← Nat.pow_add, show 32 - n + n = 32 by omega]
    exact hx
  rw [shl_mod hn, Nat.mul_comm, or_add h1, rotr, Nat.mul_comm]
  omega
theorem rot_add {x n : Nat} (hx : x < 4294967296) (hn : n ≤ 32) : (x / 2 ^ n + x * 2 ^ (32 - n) % 4294967296) % 4294967296 = rotr x n := by
  rw [shl_mod hn]
  exact Nat.mod_eq_of_lt (rotr_lt hx hn)
theorem rot_amount : ∀ n : Fin 32, 0 < n.val → bits .and .u64 (IntKind.u64.wrap (-((n.val : Nat) : Int))) 31 = ((32 - n.val : Nat) : Int) := by decide +kernel
set_option maxHeartbeats 1000000 in
theorem rot_any (k x : Int) (n y : Nat) (w : World) (hk : k = -(n : Int)) (hx : x = y) (hy : y < 4294967296) (h0 : 0 < n) (h1 : n < 32) :
    Calls Tryd.prog 111 #[.int .u32 x, .int .i64 k] w fun e w' => e = .returned (.int .u32 ((rotr y n : Nat) : Int)) ∧ w = w' := by
  have hb := rot_amount ⟨n, h1⟩ h0
  simp only at hb
  have HR := Lib.hid (rot_or (x := y) (n := n) hy (by omega))
  obtain ⟨m, hm⟩ : ∃ m, 32 - n = m := ⟨_, rfl⟩
  rw [hm] at hb HR
  subst hk hx
  have hmn : m + n = 32 := by omega
  clear hm
  go_enter Tryd.func111, Tryd.ntmps111
  go_wp2_with fail
  go_light
  go_ret
  refine ⟨ret1i ?_, rfl⟩
  have e1 : ((y : Int) * 2 ^ m % 4294967296) = ((y * 2 ^ m % 4294967296 : Nat) : Int) := by simp
  have e2 : ((y : Int) / 2 ^ (32 - m)) = ((y / 2 ^ n : Nat) : Int) := by rw [show 32 - m = n by omega]; simp
  rw [e1, e2, u32_or_nat _ _ (Nat.mod_lt _ (by decide)) (Nat.lt_of_le_of_lt (Nat.div_le_self _ _) hy), HR.out]
set_option maxHeartbeats 1000000 in
theorem turn_any (k x : Int) (n y : Nat) (w : World) (hk : k = (n : Int)) (hx : x = y) (hy : y < 4294967296) (h0 : 0 < n) (h1 : n < 32) :
    Calls Tryd.prog 126 #[.int .u32 x, .int .i64 k] w fun e w' => e = .returned (.int .u32 ((rotr y n : Nat) : Int)) ∧ ∃ d, w' = w.drewN d := by
  have HR := Lib.hid (rot_add (x := y) (n := n) hy (by omega))
  obtain ⟨m, hm⟩ : ∃ m, 32 - n = m := ⟨_, rfl⟩
  rw [hm] at HR
  subst hk hx
  have hmn : m + n = 32 := by omega
  have hs : IntKind.i64.wrap (32 - (n : Int)) = (m : Int) := by rw [IntWalk.i64_in _ (by omega)]; omega
  clear hm
  go_enter Tryd.func126, Tryd.ntmps126
  go_wp2_with fail
  go_quiet (fail)
  go_wp2_with fail
  go_light
  go_ret
  refine ⟨ret1i ?_, nq, rfl⟩
  rw [← HR.out]
  simp
end Sha
end Go.Proofs.YtpakdcgcgekcfaaDoor

/-
  SHA-256, in plain Lean: words of a block, a block's rounds.
-/
set_option linter.unusedSimpArgs false
set_option linter.unusedVariables false
namespace Go.Proofs.YtpakdcgcgekcfaaDoor
open Go.RowKit

namespace Sha
open Otp
def s0 (x : Nat) : Nat := rotr x 7 ^^^ rotr x 18 ^^^ (x / 2 ^ 3)
def s1 (x : Nat) : Nat := rotr x 17 ^^^ rotr x 19 ^^^ (x / 2 ^ 10)
def S0 (x : Nat) : Nat := rotr x 2 ^^^ rotr x 13 ^^^ rotr x 22
def S1 (x : Nat) : Nat := rotr x 6 ^^^ rotr x 11 ^^^ rotr x 25
def ch (e f g : Nat) : Nat := (e &&& f) ^^^ ((4294967295 - e) &&& g)
def maj (a b c : Nat) : Nat := (a &&& b) ^^^ (a &&& c) ^^^ (b &&& c)
/-- The next word. -/
def nxt (a b c d : Nat) : Nat := (a + s0 b + c + s1 d) % 4294967296
/-- So many words more. -/
def sc (ws : List Nat) : Nat → List Nat
  | 0 => ws
  | k + 1 => sc ws k ++ [nxt ((sc ws k)[k]?.getD 0) ((sc ws k)[k + 1]?.getD 0) ((sc ws k)[k + 9]?.getD 0) ((sc ws k)[k + 14]?.getD 0)]
def sched (b : List Nat) : List Nat := sc (words4 b) 48
theorem sched_eq (b : List Nat) : sched b = sc (words4 b) 48 := rfl
/-- A fact behind a wall (a structure: it cannot be unfolded). -/
structure Wall (p : Prop) : Prop where
  out : p
theorem wall {p : Prop} (h : p) : Wall p := ⟨h⟩
theorem sc_length (ws : List Nat) : ∀ k, (sc ws k).length = ws.length + k
  | 0 => rfl
  | k + 1 => by rw [sc, List.length_append, sc_length ws k]; rfl
theorem xor_lt {x y : Nat} (hx : x < 4294967296) (hy : y < 4294967296) : x ^^^ y < 4294967296 := Nat.xor_lt_two_pow (n := 32) hx hy
theorem nxt_lt (a b c d : Nat) : nxt a b c d < 4294967296 := Nat.mod_lt _ (by decide)
theorem sc_word (ws : List Nat) (hw : ∀ x ∈ ws, x < 4294967296) : ∀ k, ∀ x ∈ sc ws k, x < 4294967296
  | 0 => hw
  | k + 1 => fun x hx => by
    rw [sc] at hx
    rcases List.mem_append.1 hx with h | h
    · exact sc_word ws hw k x h
    · simp only [List.mem_cons, List.not_mem_nil, or_false] at h
      rw [h]
      exact nxt_lt _ _ _ _
theorem sc_next {ws : List Nat} {k a b c d : Nat} (ha : (sc ws k)[k]? = some a) (hb : (sc ws k)[k + 1]? = some b) (hc : (sc ws k)[k + 9]? = some c) (hd : (sc ws k)[k + 14]? = some d) : sc ws (k + 1) = sc ws k ++ [nxt a b c d] := by
  rw [sc, ha, hb, hc, hd]
  rfl
theorem sched_length {b : List Nat} (h : b.length = 64) : (sched b).length = 64 := by
  unfold sched
  rw [sc_length, words4_length, h]
theorem sched_word {b : List Nat} (h : ∀ x ∈ b, x < 256) : ∀ x ∈ sched b, x < 4294967296 := sc_word _ (words4_lt b h) 48
def rK : List Nat := [1116352408, 1899447441, 3049323471, 3921009573, 961987163, 1508970993, 2453635748, 2870763221, 3624381080, 310598401, 607225278, 1426881987, 1925078388, 2162078206, 2614888103, 3248222580, 3835390401, 4022224774, 264347078, 604807628, 770255983, 1249150122, 1555081692, 1996064986, 2554220882, 2821834349, 2952996808, 3210313671, 3336571891, 3584528711, 113926993, 338241895, 666307205, 773529912, 1294757372, 1396182291, 1695183700, 1986661051, 2177026350, 2456956037, 2730485921, 2820302411, 3259730800, 3345764771, 3516065817, 3600352804, 4094571909, 275423344, 430227734, 506948616, 659060556, 883997877, 958139571, 1322822218, 1537002063, 1747873779, 1955562222, 2024104815, 2227730452, 2361852424, 2428436474, 2756734187, 3204031479, 3329325298]
def rH : List Nat := [1779033703, 3144134277, 1013904242, 2773480762, 1359893119, 2600822924, 528734635, 1541459225]
/-- The eight words of a round. -/
structure St where
  a : Nat
  b : Nat
  c : Nat
  d : Nat
  e : Nat
  f : Nat
  g : Nat
  h : Nat
def St.list (s : St) : List Nat := [s.a, s.b, s.c, s.d, s.e, s.f, s.g, s.h]
def t1 (s : St) (k w : Nat) : Nat := (s.h + S1 s.e + ch s.e s.f s.g + k + w) % 4294967296
def St.round (s : St) (k w : Nat) : St := ⟨(t1 s k w + S0 s.a + maj s.a s.b s.c) % 4294967296, s.a, s.b, s.c, (s.d + t1 s k w) % 4294967296, s.e, s.f, s.g⟩
def St.ok (s : St) : Prop := s.a < 4294967296 ∧ s.b < 4294967296 ∧ s.c < 4294967296 ∧ s.d < 4294967296 ∧ s.e < 4294967296 ∧ s.f < 4294967296 ∧ s.g < 4294967296 ∧ s.h < 4294967296
theorem St.ok_round {s : St} (h : s.ok) (k w : Nat) : (s.round k w).ok := by
  obtain ⟨h1, h2, h3, h4, h5, h6, h7, h8⟩ := h
  exact ⟨Nat.mod_lt _ (by decide), h1, h2, h3, Nat.mod_lt _ (by decide), h5, h6, h7⟩
/-- So many rounds. -/
def St.run (s : St) (ws : List Nat) : Nat → St
  | 0 => s
  | i + 1 => (s.run ws i).round (rK[i]?.getD 0) (ws[i]?.getD 0)
theorem St.ok_run {s : St} (h : s.ok) (ws : List Nat) : ∀ i, (s.run ws i).ok
  | 0 => h
  | i + 1 => St.ok_round (St.ok_run h ws i) _ _
def add8 (h v : List Nat) : List Nat := List.zipWith (fun x y => (x + y) % 4294967296) h v
def St.of (h : List Nat) : St := ⟨h[0]?.getD 0, h[1]?.getD 0, h[2]?.getD 0, h[3]?.getD 0, h[4]?.getD 0, h[5]?.getD 0, h[6]?.getD 0, h[7]?.getD 0⟩
/-- The words behind a block. -/
def press (h b : List Nat) : List Nat := add8 h ((St.of h).run (sched b) 64).list
theorem press_eq (h b : List Nat) : press h b = add8 h ((St.of h).run (sched b) 64).list := rfl
theorem st_of {h : List Nat} (hl : h.length = 8) : (St.of h).list = h := by
  obtain ⟨a, b, c, d, e, f, g, k, rfl⟩ := eight hl
  rfl
theorem st_ok {h : List Nat} (hl : h.length = 8) (hw : ∀ x ∈ h, x < 4294967296) : (St.of h).ok := by
  obtain ⟨a, b, c, d, e, f, g, k, rfl⟩ := eight hl
  exact ⟨hw a (by simp), hw b (by simp), hw c (by simp), hw d (by simp), hw e (by simp), hw f (by simp), hw g (by simp), hw k (by simp)⟩
theorem press_length {h : List Nat} (b : List Nat) (hl : h.length = 8) : (press h b).length = 8 := by
  unfold press add8
  rw [List.length_zipWith, hl]
  rfl
theorem press_word (h b : List Nat) : ∀ x ∈ press h b, x < 4294967296 := fun x hx => by
  unfold press add8 at hx
  obtain ⟨i, hi⟩ := List.mem_iff_getElem?.1 hx
  rw [List.getElem?_zipWith] at hi
  split at hi
  · cases hi
    exact Nat.mod_lt _ (by decide)
  · cases hi
end Sha
end Go.Proofs.YtpakdcgcgekcfaaDoor

/-
  Package sha: spread.
-/
set_option linter.unusedSimpArgs false
set_option linter.unusedVariables false
namespace Go.Proofs.YtpakdcgcgekcfaaDoor
open Go.RowKit

namespace Sha
open Otp R1
theorem sched_info : (Tryd.prog.info? 44).map (·.size) = some 64 := by kernel_rfl
theorem c32_one (l : List Nat) : (c32 l).all (·.oneCell') = true := all_oneCell_toArray (fun v hv => by
  obtain ⟨a, _, rfl⟩ := List.mem_map.1 hv
  rfl)
theorem c32_size (l : List Nat) : (c32 l).size = l.length := by simp [c32]
theorem rot_to (k x : Int) (n y r : Nat) (w : World) (hk : k = -(n : Int)) (hx : x = y) (hy : y < 4294967296) (h0 : 0 < n) (h1 : n < 32) (hr : rotr y n = r) :
    Calls Tryd.prog 111 #[.int .u32 x, .int .i64 k] w fun e w' => e = .returned (.int .u32 (r : Int)) ∧ w = w' := by
  subst hr
  exact rot_any k x n y w hk hx hy h0 h1
set_option maxRecDepth 100000 in
set_option maxHeartbeats 4000000 in
theorem spread_any (bs : List Nat) (w : World) (hl : bs.length = 64) (hb : ∀ x ∈ bs, x < 256) :
    Calls Tryd.prog 138 #[.agg (b8 bs)] w (fun e w' => e = .returned (.agg (c32 (sched bs))) ∧ Below w.heap.size w w') := by
  have HL := Lib.hid hl
  have HBB := Lib.hid hb
  have HWL := Lib.hid (show (words4 bs).length = 16 by rw [words4_length, hl])
  obtain ⟨res, hres⟩ : ∃ r, sched bs = r := ⟨_, rfl⟩
  rw [hres]
  have HE0 := wall hres
  clear hl hb hres
  go_enter Tryd.func138, Tryd.ntmps138
  go_wp2_with fail
  go_loopg [4, 10] 16 (fun g s4 s10 wr => ∃ i : Nat, i + g = 16 ∧ s10 = .int .i64 (i : Int) ∧ Hid (Blk wr w.heap.size 173 (b8 bs)) ∧ Hid (Blk wr (w.heap.size + 1) 44 (c32 (List.replicate 64 0))) ∧ Hid (Blk wr (w.heap.size + 1 + 1) 44 (c32 ((words4 bs).take i ++ List.replicate (64 - i) 0))) ∧ Hid (Below w.heap.size w wr))
  case atStart =>
    refine ⟨0, by omega, rfl, Lib.hid ?_, Lib.hid ?_, Lib.hid ?_, Lib.hid ?_⟩
    · exact ((Blk.new w _ _).alloc _).alloc _
    · exact Blk.alloc (blk_new' (by simp)) _
    · exact blk_new' (by simp)
    · exact (((Below.refl _ w).alloc (Nat.le_refl _) _).alloc (by simp) _).alloc (by simp; omega) _
  case round =>
    obtain ⟨i, hg, rfl, HK, HZ, HW, HB⟩ := hrel
    have HG := Lib.hid hg
    have hi : i ≤ 16 := by omega
    clear hg
    by_cases hlt : i < 16
    · have hx : ∀ j, j < 4 → ∃ x, bs[4 * i + j]? = some x := fun j hj => ⟨_, List.getElem?_eq_getElem (by have := HL.out; omega)⟩
      obtain ⟨x0, h0⟩ := hx 0 (by omega)
      obtain ⟨x1, h1⟩ := hx 1 (by omega)
      obtain ⟨x2, h2⟩ := hx 2 (by omega)
      obtain ⟨x3, h3⟩ := hx 3 (by omega)
      have G0 := Lib.hid (show wr.cell? ⟨w.heap.size, 4 * i, none⟩ = some (.int .u8 (x0 : Int)) by rw [HK.out.cell]; exact b8_at h0)
      have G1 := Lib.hid (show wr.cell? ⟨w.heap.size, 4 * i + 1, none⟩ = some (.int .u8 (x1 : Int)) by rw [HK.out.cell]; exact b8_at h1)
      have G2 := Lib.hid (show wr.cell? ⟨w.heap.size, 4 * i + 2, none⟩ = some (.int .u8 (x2 : Int)) by rw [HK.out.cell]; exact b8_at h2)
      have G3 := Lib.hid (show wr.cell? ⟨w.heap.size, 4 * i + 3, none⟩ = some (.int .u8 (x3 : Int)) by rw [HK.out.cell]; exact b8_at h3)
      have b0 := HBB.out x0 (List.mem_of_getElem? h0)
      have b1 := HBB.out x1 (List.mem_of_getElem? h1)
      have b2 := HBB.out x2 (List.mem_of_getElem? h2)
      have b3 := HBB.out x3 (List.mem_of_getElem? h3)
      have hwx := words4_get bs i x0 x1 x2 x3 h0 h1 h2 h3
      have HX := Lib.hid (show ((words4 bs).take i ++ List.replicate (64 - i) 0).set i (be4 x0 x1 x2 x3) = (words4 bs).take (i + 1) ++ List.replicate (64 - (i + 1)) 0 by
        rw [take_snoc hwx, List.set_append_right _ _ (by rw [List.length_take]; omega), List.length_take, Nat.min_eq_left (by have := HWL.out; omega), show i - i = 0 by omega, show 64 - i = 64 - (i + 1) + 1 by omega, List.replicate_succ, List.set_cons_zero, List.append_assoc]
        rfl)
      have hfr : wr.frozen? ⟨w.heap.size + 1 + 1, i, none⟩ = false := HW.out.frozen i
      have hold : ∃ v, wr.cell? ⟨w.heap.size + 1 + 1, i, none⟩ = some v := by
        rw [HW.out.cell]
        refine ⟨_, Array.getElem?_eq_getElem (i := i) ?_⟩
        rw [c32_size, List.length_append, List.length_replicate, List.length_take]
        have := HWL.out
        omega
      obtain ⟨old, hold⟩ := hold
      have hsz := HW.out.lt
      have hsl := run_slice_arr (P := Tryd.prog) 173 5 64 Tryd.underlying173 (fun _ => by kernel_rfl) w.heap.size (4 * i) (4 * i + 4) .i64 .i64 (4 * (i : Int)) (4 * (i : Int) + 4) (by omega) (by omega) (by omega) (by omega) (by omega)
      rw [show 4 * i + 4 - 4 * i = 4 by omega] at hsl
      clear hx h0 h1 h2 h3 hwx
      go_wp2_with fail
      (with_reducible refine (word_any _ _ _ x0 x1 x2 x3 _ b0 b1 b2 b3 G0.out G1.out G2.out G3.out).mono ?_); rintro e w2 ⟨rfl, n, rfl⟩
      generalize be4 x0 x1 x2 x3 = y at *
      go_wp2_with fail
      go_light
      go_roundg (16 - (i + 1))
      case measure => have := HG.out; omega
      case rel =>
        refine ⟨i + 1, by have := HG.out; omega, by go_num, Lib.hid ?_, Lib.hid ?_, Lib.hid ?_, Lib.hid ?_⟩
        · exact (HK.out.far' _ _ (by omega) _)
        · exact (HZ.out.far' _ _ (by omega) _)
        · have := HW.out.set i (.int .u32 (y : Int))
          rw [c32_set, HX.out] at this
          exact this
        · exact Below.drewN (HB.out.setCell (p := ⟨w.heap.size + 1 + 1, i, none⟩) (by show w.heap.size ≤ w.heap.size + 1 + 1; omega) _) n
    · have : i = 16 := by omega
      subst this
      have HW0 : Hid (Blk wr (w.heap.size + 1 + 1) 44 (c32 (sc (words4 bs) 0 ++ List.replicate (48 - 0) 0))) := by
        have := HW.out
        rw [List.take_of_length_le (by have := HWL.out; omega)] at this
        exact Lib.hid this
      have HWB := Lib.hid (words4_lt bs HBB.out)
      clear HW HL HBB
      have HE := wall (HE0.out.symm.trans (sched_eq bs))
      clear HE0
      generalize words4 bs = ws at *
      obtain ⟨gO, rfl⟩ : ∃ q : Nat, q = gk := ⟨_, rfl⟩
      obtain ⟨wO, rfl⟩ : ∃ q : World, q = wr := ⟨_, rfl⟩
      go_wp2_with fail
      go_loopg [5, 6, 7, 8, 9] 48 (fun g s5 s6 s7 s8 s9 wr => ∃ k : Nat, k + g = 48 ∧ s5 = .int .i64 ((16 + k : Nat) : Int) ∧ Hid (Blk wr (w.heap.size + 1) 44 (c32 (List.replicate 64 0))) ∧ Hid (Blk wr (w.heap.size + 1 + 1) 44 (c32 (sc ws k ++ List.replicate (48 - k) 0))) ∧ Hid (Below w.heap.size w wr))
      case atStart => exact ⟨0, by omega, rfl, HZ, HW0, HB⟩
      case round =>
        clear HZ HW0 HB HK
        obtain ⟨k, hg, rfl, HZ, HW, HB⟩ := hrel
        have HG := Lib.hid hg
        have hk : k ≤ 48 := by omega
        clear hg
        have hln : (sc ws k).length = 16 + k := by rw [sc_length, HWL.out]
        by_cases hlt : k < 48
        · have hx : ∀ j, j < 16 → ∃ x, (sc ws k)[k + j]? = some x ∧ x < 4294967296 ∧ wr.cell? ⟨w.heap.size + 1 + 1, k + j, none⟩ = some (.int .u32 (x : Int)) := fun j hj => by
            obtain ⟨x, hx⟩ : ∃ x, (sc ws k)[k + j]? = some x := ⟨_, List.getElem?_eq_getElem (by omega)⟩
            refine ⟨x, hx, sc_word ws HWB.out k x (List.mem_of_getElem? hx), ?_⟩
            rw [HW.out.cell]
            exact c32_at (by rw [List.getElem?_append_left (by omega)]; exact hx)
          obtain ⟨a, ha, haM, hca⟩ := hx 0 (by omega)
          obtain ⟨b, hb, hbM, hcb⟩ := hx 1 (by omega)
          obtain ⟨c, hc, hcM, hcc⟩ := hx 9 (by omega)
          obtain ⟨d, hd, hdM, hcd⟩ := hx 14 (by omega)
          have ha' : (sc ws k)[k]? = some a := ha
          have hca' : wr.cell? ⟨w.heap.size + 1 + 1, k, none⟩ = some (.int .u32 (a : Int)) := hca
          have HN := Lib.hid (sc_next ha' hb hc hd)
          have hset : (sc ws k ++ List.replicate (48 - k) 0).set (16 + k) (nxt a b c d) = sc ws (k + 1) ++ List.replicate (48 - (k + 1)) 0 := by
            rw [HN.out, List.set_append_right _ _ (by omega), hln, show 16 + k - (16 + k) = 0 by omega, show 48 - k = 48 - (k + 1) + 1 by omega, List.replicate_succ, List.set_cons_zero, List.append_assoc]
            rfl
          have HSET := Lib.hid hset
          obtain ⟨old, hold⟩ : ∃ v, wr.cell? ⟨w.heap.size + 1 + 1, 16 + k, none⟩ = some v := by
            rw [HW.out.cell]
            refine ⟨_, Array.getElem?_eq_getElem (i := 16 + k) ?_⟩
            rw [c32_size, List.length_append, List.length_replicate, hln]
            omega
          have hfr : wr.frozen? ⟨w.heap.size + 1 + 1, 16 + k, none⟩ = false := HW.out.frozen _
          have hsz := HW.out.lt
          clear hx ha ha' hca hb hc hd hset hln
          obtain ⟨r7, h7⟩ : ∃ r, rotr b 7 = r := ⟨_, rfl⟩
          obtain ⟨r18, h18⟩ : ∃ r, rotr b 18 = r := ⟨_, rfl⟩
          obtain ⟨r17, h17⟩ : ∃ r, rotr d 17 = r := ⟨_, rfl⟩
          obtain ⟨r19, h19⟩ : ∃ r, rotr d 19 = r := ⟨_, rfl⟩
          have l7 : r7 < 4294967296 := by rw [← h7]; exact rotr_lt hbM (by decide)
          have l18 : r18 < 4294967296 := by rw [← h18]; exact rotr_lt hbM (by decide)
          have l17 : r17 < 4294967296 := by rw [← h17]; exact rotr_lt hdM (by decide)
          have l19 : r19 < 4294967296 := by rw [← h19]; exact rotr_lt hdM (by decide)
          obtain ⟨q0, hq0⟩ : ∃ q, r7 ^^^ r18 = q := ⟨_, rfl⟩
          obtain ⟨q1, hq1⟩ : ∃ q, r17 ^^^ r19 = q := ⟨_, rfl⟩
          have lq0 : q0 < 4294967296 := by rw [← hq0]; exact xor_lt l7 l18
          have lq1 : q1 < 4294967296 := by rw [← hq1]; exact xor_lt l17 l19
          obtain ⟨u0, hu0⟩ : ∃ q, s0 b = q := ⟨_, rfl⟩
          obtain ⟨u1, hu1⟩ : ∃ q, s1 d = q := ⟨_, rfl⟩
          have lu0 : u0 < 4294967296 := by rw [← hu0]; unfold s0; exact xor_lt (xor_lt (rotr_lt hbM (by decide)) (rotr_lt hbM (by decide))) (Nat.lt_of_le_of_lt (Nat.div_le_self _ _) hbM)
          have lu1 : u1 < 4294967296 := by rw [← hu1]; unfold s1; exact xor_lt (xor_lt (rotr_lt hdM (by decide)) (rotr_lt hdM (by decide))) (Nat.lt_of_le_of_lt (Nat.div_le_self _ _) hdM)
          have x0 : bits .xor .u32 (r7 : Int) (r18 : Int) = (q0 : Int) := by rw [u32_xor_nat _ _ l7 l18, hq0]
          have x1 : bits .xor .u32 (r17 : Int) (r19 : Int) = (q1 : Int) := by rw [u32_xor_nat _ _ l17 l19, hq1]
          have y0 : bits .xor .u32 (q0 : Int) ((b : Int) / 8) = (u0 : Int) := by
            rw [show (b : Int) / 8 = ((b / 2 ^ 3 : Nat) : Int) by simp, u32_xor_nat _ _ lq0 (Nat.lt_of_le_of_lt (Nat.div_le_self _ _) hbM), ← hq0, ← h7, ← h18, ← hu0]
            rfl
          have y1 : bits .xor .u32 (q1 : Int) ((d : Int) / 1024) = (u1 : Int) := by
            rw [show (d : Int) / 1024 = ((d / 2 ^ 10 : Nat) : Int) by simp, u32_xor_nat _ _ lq1 (Nat.lt_of_le_of_lt (Nat.div_le_self _ _) hdM), ← hq1, ← h17, ← h19, ← hu1]
            rfl
          obtain ⟨y, hy⟩ : ∃ q, nxt a b c d = q := ⟨_, rfl⟩
          have z0 : ((a : Int) + (u0 : Int) + (c : Int) + (u1 : Int)) % 4294967296 = (y : Int) := by
            rw [← hy, ← hu0, ← hu1]
            unfold nxt
            simp
          rw [hy] at HSET
          have H7 := Lib.hid h7
          have H18 := Lib.hid h18
          have H17 := Lib.hid h17
          have H19 := Lib.hid h19
          clear h7 h18 h17 h19 hq0 hq1 hu0 hu1 hy HN
          have i15 : IntKind.i64.wrap (16 + (k : Int) - 15) = (k : Int) + 1 := by rw [IntWalk.i64_in _ (by omega)]; omega
          have i2 : IntKind.i64.wrap (16 + (k : Int) - 2) = (k : Int) + 14 := by rw [IntWalk.i64_in _ (by omega)]; omega
          have i16 : IntKind.i64.wrap (16 + (k : Int) - 16) = (k : Int) := by rw [IntWalk.i64_in _ (by omega)]; omega
          have i7 : IntKind.i64.wrap (16 + (k : Int) - 7) = (k : Int) + 9 := by rw [IntWalk.i64_in _ (by omega)]; omega
          go_wp2_with fail
          go_quiet (fail)
          have qa : (wr.drewN nq).cell? ⟨w.heap.size + 1 + 1, k, none⟩ = some (.int .u32 (a : Int)) := hca'
          have qc : (wr.drewN nq).cell? ⟨w.heap.size + 1 + 1, k + 9, none⟩ = some (.int .u32 (c : Int)) := hcc
          have qo : (wr.drewN nq).cell? ⟨w.heap.size + 1 + 1, 16 + k, none⟩ = some old := hold
          have qf : (wr.drewN nq).frozen? ⟨w.heap.size + 1 + 1, 16 + k, none⟩ = false := hfr
          have QZ := Lib.hid (HZ.out.drewN nq)
          have QW := Lib.hid (HW.out.drewN nq)
          have QB := Lib.hid (Below.drewN HB.out nq)
          generalize wr.drewN nq = wq at *
          clear hca' hcb hcc hcd hold hfr HZ HW HB hsz
          go_wp2_with fail
          (with_reducible refine (rot_to (-7) _ 7 b r7 _ (by decide) rfl hbM (by omega) (by omega) H7.out).mono ?_); rintro e w2 ⟨rfl, rfl⟩
          go_wp2_with fail
          (with_reducible refine (rot_to (-18) _ 18 b r18 _ (by decide) rfl hbM (by omega) (by omega) H18.out).mono ?_); rintro e w2 ⟨rfl, rfl⟩
          go_wp2_with fail
          (with_reducible refine (rot_to (-17) _ 17 d r17 _ (by decide) rfl hdM (by omega) (by omega) H17.out).mono ?_); rintro e w2 ⟨rfl, rfl⟩
          go_wp2_with fail
          (with_reducible refine (rot_to (-19) _ 19 d r19 _ (by decide) rfl hdM (by omega) (by omega) H19.out).mono ?_); rintro e w2 ⟨rfl, rfl⟩
          go_wp2_with fail
          have b64 : (k : Int) < 64 := by omega
          have b9 : (k : Int) + 9 < 64 := by omega
          have b16 : (16 : Int) + (k : Int) < 64 := by omega
          have hk64 : k < 64 := by omega
          have n9 : (0 : Int) ≤ (k : Int) + 9 := by omega
          have t9 : ((k : Int) + 9).toNat = k + 9 := by omega
          have n16 : (0 : Int) ≤ 16 + (k : Int) := by omega
          have t16 : (16 + (k : Int)).toNat = 16 + k := by omega
          go_still_tail 15, (by kernel_rfl)
          change wpList _ _ _ _ _ wq.drew
          go_wp2_with fail
          go_light
          go_roundg (48 - (k + 1))
          case measure => have := HG.out; omega
          case rel =>
            refine ⟨k + 1, by have := HG.out; omega, by go_num, Lib.hid ?_, Lib.hid ?_, Lib.hid ?_⟩
            · exact (QZ.out.far' _ _ (by omega) _)
            · have := QW.out.set (16 + k) (.int .u32 (y : Int))
              rw [c32_set, HSET.out] at this
              exact this
            · exact Below.drewN (QB.out.setCell (p := ⟨w.heap.size + 1 + 1, 16 + k, none⟩) (by show w.heap.size ≤ w.heap.size + 1 + 1; omega) _) 1
        · have hk48 : k = 48 := by omega
          have hln2 : res.length = 64 := by rw [HE.out, ← hk48, hln, hk48]
          have hnl : ¬ (16 + (k : Int) < 64) := by omega
          have HW8 : Hid (Blk wr (w.heap.size + 1 + 1) 44 (c32 res)) := by
            have := HW.out
            rw [hk48, show 48 - 48 = 0 from rfl, List.replicate_zero, List.append_nil, ← HE.out] at this
            exact Lib.hid this
          have HS := Lib.hid (show (Tryd.prog.info? 44).map (·.size) = some (c32 res).size by rw [c32_size, hln2]; exact sched_info)
          have HZS := Lib.hid (show (c32 (List.replicate 64 0)).size = (c32 res).size by rw [c32_size, c32_size, hln2]; rfl)
          have HO := Lib.hid (c32_one res)
          clear HW hln hln2 hk48
          go_upto_region 14 with fail
          go_wp2_with (first | refine wpList_load_row rfl 44 _ rfl (w.heap.size + 1 + 1) rfl 44 (c32 res) (0, 0) _ HW8.out Tryd.underlying44 rfl HS.out ?_ | refine wpList_store_row rfl 44 (.tmp 2) _ rfl (w.heap.size + 1) (c32 res) rfl rfl 44 (c32 (List.replicate 64 0)) HZ.out HS.out HZS.out HO.out ?_)
          have hb := setRow_heap _ _ _ (c32 res) _ _ HZ.out
          have hB := below_setRow HB.out (show w.heap.size ≤ w.heap.size + 1 by omega) (c32 res)
          go_light
          exact bodyPost_ret (v := .agg (c32 res)) (results_cell_row Tryd.results138 _ _ (w.heap.size + 1) 44 (c32 res) (0, 0) _ rfl hb Tryd.underlying44 rfl HS.out) rfl ⟨rfl, hB⟩
end Sha
end Go.Proofs.YtpakdcgcgekcfaaDoor

/-
  The reference's table of the rounds (curtilageref01.roots), and what a block's words are, one by one.
-/
set_option linter.unusedSimpArgs false
set_option linter.unusedVariables false
namespace Go.Proofs.YtpakdcgcgekcfaaDoor
open Go.RowKit

namespace Sha
open Otp R1
theorem sc_at (ws : List Nat) (k : Nat) {i x : Nat} (h : (sc ws k)[i]? = some x) : ∀ j, (sc ws (k + j))[i]? = some x
  | 0 => h
  | j + 1 => by
    have := sc_at ws k h j
    rw [← Nat.add_assoc, sc, List.getElem?_append_left (List.getElem?_eq_some_iff.1 this).1]
    exact this
theorem sched_lo {bs : List Nat} {i x : Nat} (h : (words4 bs)[i]? = some x) : (sched bs)[i]? = some x := by
  have := sc_at (words4 bs) 0 (i := i) (x := x) h 48
  rwa [Nat.zero_add] at this
theorem sched_hi {bs : List Nat} (hl : bs.length = 64) {k a b c d : Nat} (hk : k < 48) (ha : (sched bs)[k]? = some a) (hb : (sched bs)[k + 1]? = some b) (hc : (sched bs)[k + 9]? = some c) (hd : (sched bs)[k + 14]? = some d) :
    (sched bs)[16 + k]? = some (nxt a b c d) := by
  have hwl : (words4 bs).length = 16 := by rw [words4_length, hl]
  have hln : (sc (words4 bs) k).length = 16 + k := by rw [sc_length, hwl]
  have hx : ∀ j y, j < 16 → (sched bs)[k + j]? = some y → (sc (words4 bs) k)[k + j]? = some y := fun j y hj hy => by
    obtain ⟨z, hz⟩ : ∃ z, (sc (words4 bs) k)[k + j]? = some z := ⟨_, List.getElem?_eq_getElem (by omega)⟩
    have h2 := sc_at _ k hz (48 - k)
    rw [show k + (48 - k) = 48 by omega] at h2
    rw [sched_eq, h2] at hy
    cases hy
    exact hz
  have hn := sc_next (hx 0 a (by omega) ha) (hx 1 b (by omega) hb) (hx 9 c (by omega) hc) (hx 14 d (by omega) hd)
  have h3 : (sc (words4 bs) (k + 1))[16 + k]? = some (nxt a b c d) := by
    rw [hn, List.getElem?_append_right (by omega), hln, Nat.sub_self]
    rfl
  have h2 := sc_at _ (k + 1) h3 (48 - (k + 1))
  rw [show k + 1 + (48 - (k + 1)) = 48 by omega] at h2
  rw [sched_eq]
  exact h2
theorem made32 (k : Nat) : madeCells #[Value.int .u32 0] k = c32 (List.replicate k 0) := by
  apply Array.ext_getElem?
  intro t
  by_cases ht : t < k
  · rw [made_get _ _ _ ht (by decide), c32_at (x := 0) (by simp [ht])]
    simp [Nat.mod_one]
  · rw [Array.getElem?_eq_none (by simp [madeCells]; omega), Array.getElem?_eq_none (by simp [c32]; omega)]
theorem u32_info : (Tryd.prog.info? 43).map (fun i => (i.zero, i.size, i.bytes)) = some (some (.int .u32 0), 1, 4) := by kernel_rfl
theorem be4_val (a b c d : Nat) : beVal [a, b, c, d] = be4 a b c d := by simp [beVal, be4]; omega
theorem turn_q (k x : Int) (n y r : Nat) (w : World) (hk : k = (n : Int)) (hx : x = y) (hy : y < 4294967296) (h0 : 0 < n) (h1 : n < 32) (hr : rotr y n = r) :
    Calls Tryd.prog 126 #[.int .u32 x, .int .i64 k] w fun e w' => e = .returned (.int .u32 (r : Int)) ∧ ∃ m, w' = w.drewN m := by
  subst hr
  exact turn_any k x n y w hk hx hy h0 h1
set_option maxRecDepth 100000 in
set_option maxHeartbeats 4000000 in
theorem roots_any (w : World) : Calls Tryd.prog 127 #[] w (fun e w' => e = .returned (.agg (c32 rK)) ∧ Below w.heap.size w w') := by
  go_enter Tryd.func127, Tryd.ntmps127
  have KZ := wall (show Blk (w.alloc (.cells (c32 (List.replicate 64 0)) 44)) w.heap.size 44 (c32 (List.replicate 64 0)) from Blk.new _ _ _)
  have HSR := wall (show (Tryd.prog.info? 44).map (·.size) = some (c32 rK).size by rw [c32_size]; exact sched_info)
  have HZR := wall (show (c32 (List.replicate 64 0)).size = (c32 rK).size by rw [c32_size, c32_size]; rfl)
  have HOR := wall (c32_one rK)
  go_upto_region 1 with fail
  change Code.wp _ _ _ _ (w.alloc (.cells (c32 (List.replicate 64 0)) 44))
  generalize hW : w.alloc (.cells (c32 (List.replicate 64 0)) 44) = W at *
  have HB := wall (show Below w.heap.size w W by rw [← hW]; exact (Below.refl _ w).alloc (Nat.le_refl _) _)
  clear hW
  go_wp2_with (refine wpList_store_row rfl 44 (.tmp 0) _ rfl w.heap.size (c32 rK) rfl rfl 44 (c32 (List.replicate 64 0)) KZ.out HSR.out HZR.out HOR.out ?_)
  have hb := setRow_heap _ _ _ (c32 rK) _ _ KZ.out
  have hB := below_setRow HB.out (Nat.le_refl _) (c32 rK)
  go_light
  exact bodyPost_ret (v := .agg (c32 rK)) (results_cell_row Tryd.results127 _ _ w.heap.size 44 (c32 rK) (0, 0) _ rfl hb Tryd.underlying44 rfl HSR.out) rfl ⟨rfl, hB⟩
end Sha
end Go.Proofs.YtpakdcgcgekcfaaDoor

/-
  A drawn region whose operations only read, or call what leaves a world of one class, but for a tail in one forced order (a store, an append): one walk of the text's order. The library's laws for the two cases (a class of worlds; a tail) put together.
-/
set_option linter.unusedSimpArgs false
set_option linter.unusedVariables false
namespace Go.Proofs.YtpakdcgcgekcfaaDoor
open Go Go.RowKit

namespace QTail
section
variable {P : Program} {ops : Array Oper} {md : Region.Mode} {C : World → Prop}
/-- The head's operations, in whatever order; then L. -/
def anyHead (P : Program) (md : Region.Mode) (ops : Array Oper) (C : World → Prop) (n : Nat) (L : Array Bool → Act → Prop) : Nat → Array Bool → Act → Prop
  | 0, s, a => L s a
  | k + 1, s, a => Region.ready md ops s ≠ [] ∧ ∀ i ∈ Region.ready md ops s, i < n ∧ qOp P ops C i (anyHead P md ops C n L k (s.setIfInBounds i true)) a
theorem any_of_head {n g : Nat} {L : Array Bool → Act → Prop} {R : Exit → Act → World → Prop} (hL : ∀ s a w, C w → L s a → wpAny P md ops R g s a w) :
    ∀ (k : Nat) (s : Array Bool) (a : Act) (w : World), C w → anyHead P md ops C n L k s a → wpAny P md ops R (k + g) s a w
  | 0, s, a, w, hw, h => by rw [Nat.zero_add]; exact hL _ _ _ hw h
  | k + 1, s, a, w, hw, h => by
    have e : k + 1 + g = k + g + 1 := by omega
    rw [e]
    exact ⟨fun h0 => absurd h0 h.1, fun i hi => wpOp_of_qOp hw (fun a' w' hw' h' => any_of_head hL k _ a' w' hw' h') (h.2 i hi).2⟩
theorem head_first {n i : Nat} {o : Oper} {v : Value} {L : Array Bool → Act → Prop} (hi : ops[i]? = some o) (hsel : ∀ (j : Nat) (o : Oper) cs b, ops[j]? = some o → o.op ≠ .select cs b)
    (hs : Region.sinkB md ops n = true) (hc : Region.chainB md ops n = true) (hn : n < ops.size) (hin : i < n) (hdone : ∀ s a, L s a → ∀ j ∈ Region.ready md ops s, n ≤ j) :
    ∀ (k : Nat) (s : Array Bool) (a : Act), HeadInv md ops n s →
      (∀ j oj, ops[j]? = some oj → j ≠ i → s.getD j true = false → (∀ e ∈ oj.after, Region.binds md e = true → e.on ≠ i) → o.apart ops oj = true) →
      i ∈ Region.ready md ops s → YieldsIn P ops C o v a → anyHead P md ops C n L k (s.setIfInBounds i true) (a.put o.dst v) → anyHead P md ops C n L (k + 1) s a := by
  intro k
  induction k with
  | zero =>
    intro s a inv _ hr hy H
    have hun := (mem_ready.1 hr).1
    refine ⟨fun h => (by rw [h] at hr; cases hr), fun j hj => ?_⟩
    have hjn : j < n := by
      rcases Nat.lt_or_ge j n with h | h
      · exact h
      · exact absurd hj (tail_waits hs hc hn inv _ i rfl hin hun j h)
    refine ⟨hjn, ?_⟩
    by_cases hji : j = i
    · subst hji
      exact hy.qOp hi H
    · have := hdone _ _ H j (ready_mono hj hji)
      omega
  | succ k ih =>
    intro s a inv hfree hr hy H
    have hun := (mem_ready.1 hr).1
    refine ⟨fun h => (by rw [h] at hr; cases hr), fun j hj => ?_⟩
    have hjn : j < n := by
      rcases Nat.lt_or_ge j n with h | h
      · exact h
      · exact absurd hj (tail_waits hs hc hn inv _ i rfl hin hun j h)
    refine ⟨hjn, ?_⟩
    by_cases hji : j = i
    · subst hji
      exact hy.qOp hi H
    · have h1 := (H.2 j (ready_mono hj hji)).2
      obtain ⟨hjun, oj, hoj, hall⟩ := mem_ready.1 hj
      have hnot : ∀ e ∈ oj.after, Region.binds md e = true → e.on ≠ i := fun e he hb heq => by
        have h1 := hall e he hb
        rw [heq, getD_both hun] at h1
        cases h1
      have h2 := qOp_put hoj (hfree j oj hoj hji hjun hnot) (fun cs b => hsel i o cs b hi) (fun cs b => hsel j oj cs b hoj) hy h1
      have hfree' : ∀ t ot, ops[t]? = some ot → t ≠ i → (s.setIfInBounds j true).getD t true = false → (∀ e ∈ ot.after, Region.binds md e = true → e.on ≠ i) → o.apart ops ot = true := fun t ot ht hti hu hno => by
        refine hfree t ot ht hti ?_ hno
        by_cases hjt : j = t
        · subst hjt
          exact hjun
        · rw [getD_set_ne true hjt] at hu
          exact hu
      refine qOp_mono (fun a' h3 => ih (s.setIfInBounds j true) a' (inv.set hj hjn) hfree' (ready_mono hr (Ne.symm hji)) h3.1 ?_) h2
      rw [Array.setIfInBounds_comm _ _ hji]
      exact h3.2
theorem head_lex {n g : Nat} {Lq : Act → Prop} (hsel : Region.noSelect ops = true) (hs : Region.sinkB md ops n = true) (hc : Region.chainB md ops n = true) (hn : n < ops.size) :
    ∀ (l : List Oper) (k : Nat) (s : Array Bool) (a : Act), (∀ j, j < l.length → l[j]? = ops[k + j]?) → k + l.length = n → HeadInv md ops n s →
    Region.lexHead md ops g l.length k s = true → wpQuiet P ops C Lq l a → anyHead P md ops C n (fun s' a' => Region.seqB md ops g n s' = true ∧ Lq a') l.length s a
  | [], k, s, a, _, hk, _, hB, h => by
    have : k = n := by simpa using hk
    subst this
    exact ⟨by simpa [Region.lexHead] using hB, h⟩
  | o :: l, k, s, a, hl, hk, inv, hB, h => by
    have h0 : ops[k]? = some o := by simpa using (hl 0 (by simp)).symm
    simp only [List.length_cons, Region.lexHead, Bool.and_eq_true] at hB
    obtain ⟨⟨hr, hf⟩, hB'⟩ := hB
    have hkn : k < n := by simp only [List.length_cons] at hk; omega
    have hr' : k ∈ Region.ready md ops s := by simpa using hr
    have hq : qOp P ops C k (wpQuiet P ops C Lq l) a := by unfold qOp; simp only [h0]; exact h
    obtain ⟨v, hy, hK⟩ := yieldsIn_of_qOp h0 hq
    exact head_first h0 (Region.noSelect_spec hsel) hs hc hn hkn (fun s' a' hL => seqB_ready hL.1) l.length s a inv (Region.free_spec h0 hf) hr' hy
      (head_lex hsel hs hc hn l (k + 1) _ _ (fun j hj => by have := hl (j + 1) (by simp; omega); simpa [Nat.add_assoc, Nat.add_comm 1 j] using this) (by simp only [List.length_cons] at hk; omega) (inv.set hr' hkn) hB' hK)
theorem wp_region_quiet_tail {id : Nat} {Q : Exit → Act → World → Prop} {a : Act} {w : World} {l : List Oper} (n : Nat) (hm : P.follows .mixedOrders = true) (hB : Region.lexTailB .any l.toArray n = true) (hC : C { w with drawn := w.drawn + 1 })
    (h : wpQuiet P l.toArray C (fun a' => ∀ w', C w' → wpList P l.toArray Q (l.drop n) a' w') (l.take n) a) : (Code.region id l.toArray true).wp P Q a w := by
  simp only [Region.lexTailB, Bool.and_eq_true, decide_eq_true_eq] at hB
  obtain ⟨⟨⟨⟨hsel, hn⟩, hs⟩, hc⟩, hlex⟩ := hB
  have hn' : n < l.length := by simpa using hn
  have htl : (l.take n).length = n := by simp; omega
  have hdl : (l.drop n).length = l.toArray.size - n := by simp
  have inv0 : HeadInv .any l.toArray n (Array.replicate l.toArray.size false) :=
    ⟨by simp, fun j oj _ hl => (by rw [getD_replicate_false] at hl; cases hl), fun t _ ht => getD_in (by simpa using ht) (getD_replicate_false _ _)⟩
  have H := head_lex (C := C) (md := .any) (g := l.toArray.size - n) hsel hs hc hn (l.take n) 0 _ a (fun j hj => by
    have hj' : j < n := by rw [htl] at hj; exact hj
    simp [hj']) (by simpa using htl) inv0 (by rw [htl]; exact hlex) h
  refine wp_region_any hm ?_
  have := any_of_head (C := C) (R := Q) (g := l.toArray.size - n) (fun s a' w' hw' hL => by
    have := wpAny_of_seq (md := .any) (Q' := Q) (l.drop n) n s a' w' (fun j => by simp [List.getElem?_drop]) (by rw [hdl]; exact hL.1) (hL.2 w' hw')
    rwa [hdl] at this) _ _ _ { w with drawn := w.drawn + 1 } hC H
  rw [htl, show n + (l.toArray.size - n) = l.toArray.size by omega] at this
  exact this
/-- At the class 'w, some draws on'. -/
theorem wp_quiet_tail {id : Nat} {Q : Exit → Act → World → Prop} {a : Act} {w : World} {l : List Oper} (n : Nat) (hm : P.follows .mixedOrders = true) (hB : Region.lexTailB .any l.toArray n = true)
    (h : wpQuiet P l.toArray (fun w' => ∃ n, w' = w.drewN n) (fun a' => ∀ w', (∃ n, w' = w.drewN n) → wpList P l.toArray Q (l.drop n) a' w') (l.take n) a) : (Code.region id l.toArray true).wp P Q a w :=
  wp_region_quiet_tail (C := fun w' => ∃ n, w' = w.drewN n) n hm hB ⟨1, rfl⟩ h
/-- At the class 'w, new blocks behind it'. -/
theorem wp_below_tail {id : Nat} {Q : Exit → Act → World → Prop} {a : Act} {w : World} {l : List Oper} (n : Nat) (hm : P.follows .mixedOrders = true) (hB : Region.lexTailB .any l.toArray n = true)
    (h : wpQuiet P l.toArray (fun w' => ∃ p : Regrown, w' = Sort.grow (redrawn w p.d) p.os) (fun a' => ∀ w', (∃ p : Regrown, w' = Sort.grow (redrawn w p.d) p.os) → wpList P l.toArray Q (l.drop n) a' w') (l.take n) a) : (Code.region id l.toArray true).wp P Q a w :=
  wp_region_quiet_tail (C := fun w' => ∃ p : Regrown, w' = Sort.grow (redrawn w p.d) p.os) n hm hB ⟨⟨w.drawn + 1, #[]⟩, by rw [Sort.grow_empty]; rfl⟩ h
end
end QTail
end Go.Proofs.YtpakdcgcgekcfaaDoor

/-
  Package sha: Press.
-/
set_option linter.unusedSimpArgs false
set_option linter.unusedVariables false
namespace Go.Proofs.YtpakdcgcgekcfaaDoor
open Go.RowKit

namespace Sha
open Otp R1
/-- The tables of package sha. -/
structure STab (w : World) : Prop where
  k : w.rangeAt 3 0 (c32 rK).toList
  h : w.rangeAt 2 0 (c32 rH).toList
theorem STab.ltk {w : World} (h : STab w) : 3 < w.heap.size := cell_lt (h.k 0 _ rfl)
theorem STab.lth {w : World} (h : STab w) : 2 < w.heap.size := cell_lt (h.h 0 _ rfl)
theorem STab.old {w w' : World} (h : STab w) (hb : Below w.heap.size w w') : STab w' :=
  ⟨fun j v hv => (hb.cell (p := ⟨3, 0 + j, none⟩) h.ltk).trans (h.k j v hv), fun j v hv => (hb.cell (p := ⟨2, 0 + j, none⟩) h.lth).trans (h.h j v hv)⟩
theorem STab.cell {w : World} (h : STab w) {i x : Nat} (hx : rK[i]? = some x) : w.cell? ⟨3, i, none⟩ = some (.int .u32 (x : Int)) := by
  have := h.k i (.int .u32 (x : Int)) (by simp [c32, hx])
  rw [Nat.zero_add] at this
  exact this
theorem and_lt {x y : Nat} (hx : x < 4294967296) (_ : y < 4294967296) : x &&& y < 4294967296 := Nat.lt_of_le_of_lt Nat.and_le_left hx
theorem rK_word : ∀ x ∈ rK, x < 4294967296 := by decide +kernel
theorem rot_q (k x : Int) (n y r : Nat) (w : World) (hk : k = -(n : Int)) (hx : x = y) (hy : y < 4294967296) (h0 : 0 < n) (h1 : n < 32) (hr : rotr y n = r) :
    Calls Tryd.prog 111 #[.int .u32 x, .int .i64 k] w fun e w' => e = .returned (.int .u32 (r : Int)) ∧ w' = w :=
  (rot_to k x n y r w hk hx hy h0 h1 hr).mono fun _ _ h => ⟨h.1, h.2.symm⟩
theorem quiet_same2 {P : Program} {f : FuncId} {args : Array Value} {w : World} {a n : Nat} {v : Value}
    (h : Calls P f args (w.drewN (a + n)) fun e w' => e = .returned v ∧ w' = w.drewN (a + n)) : Calls P f args (w.drewN (a + n)) fun e w'' => e = .returned v ∧ ∃ m, w'' = w.drewN (a + m) :=
  h.mono fun _ _ ⟨he, hm⟩ => ⟨he, n, hm⟩
theorem h_info : (Tryd.prog.info? 118).map (·.size) = some 8 := by kernel_rfl
theorem blk64_info : (Tryd.prog.info? 173).map (·.size) = some 64 := by kernel_rfl
set_option maxRecDepth 100000 in
set_option maxHeartbeats 8000000 in
theorem press_any (hs bs : List Nat) (w : World) (hT : STab w) (hl : hs.length = 8) (hw : ∀ x ∈ hs, x < 4294967296) (bl : bs.length = 64) (bb : ∀ x ∈ bs, x < 256) :
    Calls Tryd.prog 134 #[.agg (c32 hs), .agg (b8 bs)] w (fun e w' => e = .returned (.agg (c32 (press hs bs))) ∧ Below w.heap.size w w') := by
  obtain ⟨res, hres⟩ : ∃ r, press hs bs = r := ⟨_, rfl⟩
  rw [hres]
  have HE0 := wall hres
  have HL := wall hl
  have HWD := wall hw
  have HSH := wall (show (Tryd.prog.info? 118).map (·.size) = some (c32 hs).size by rw [c32_size, hl]; exact h_info)
  have HSB := wall (show (Tryd.prog.info? 173).map (·.size) = some (b8 bs).size by rw [b8_size, bl]; exact blk64_info)
  have HZH := wall (show (c32 (List.replicate 8 0)).size = (c32 hs).size by rw [c32_size, c32_size, hl]; rfl)
  have HOH := wall (c32_one hs)
  have HSP := wall (fun W => spread_any bs W bl bb)
  obtain ⟨ws, hws⟩ : ∃ r, sched bs = r := ⟨_, rfl⟩
  rw [hws] at HSP
  have HWS := wall hws
  have HWL := wall (show ws.length = 64 by rw [← hws]; exact sched_length bl)
  have HWW := wall (show ∀ x ∈ ws, x < 4294967296 by rw [← hws]; exact sched_word bb)
  obtain ⟨W3, hW3⟩ : ∃ W, W = ((w.alloc (.cells (c32 hs) 118)).alloc (.cells (b8 bs) 173)).alloc (.cells (c32 (List.replicate 8 0)) 118) := ⟨_, rfl⟩
  have K0 := wall (show Blk W3 w.heap.size 118 (c32 hs) by rw [hW3]; exact ((Blk.new w _ _).alloc _).alloc _)
  have K1 := wall (show Blk W3 (w.heap.size + 1) 173 (b8 bs) by rw [hW3]; exact Blk.alloc (blk_new' (by simp)) _)
  have K2 := wall (show Blk W3 (w.heap.size + 1 + 1) 118 (c32 (List.replicate 8 0)) by rw [hW3]; exact blk_new' (by simp))
  have HB := wall (show Below w.heap.size w W3 by rw [hW3]; exact (((Below.refl _ w).alloc (Nat.le_refl _) _).alloc (by simp) _).alloc (by simp; omega) _)
  have hW3s : w.heap.size + 1 + 1 < W3.heap.size := K2.out.lt
  have HT0 := wall hT
  have hW3' := wall hW3
  clear hl hw bl bb hres hws hW3 hT
  go_enter Tryd.func134, Tryd.ntmps134
  go_upto_region 1 with fail
  change Code.wp _ _ _ _ (((w.alloc (.cells (c32 hs) 118)).alloc (.cells (b8 bs) 173)).alloc (.cells (c32 (List.replicate 8 0)) 118))
  rw [← hW3'.out]
  clear hW3'
  go_upto_region 2 with (first | refine wpList_load_row rfl 118 _ rfl w.heap.size rfl 118 (c32 hs) (0, 0) _ K0.out Tryd.underlying118 rfl HSH.out ?_ | (refine wpList_new_row rfl 118 (.tmp 5) (.tmp 14) rfl W3.heap.size (c32 hs) rfl rfl 118 (c32 (List.replicate 8 0)) (Blk.new _ _ _) HSH.out HZH.out HOH.out W3.heap.size W3 ((Below.refl _ W3).alloc (Nat.le_refl _) _) (Nat.le_refl _) ?_; intro w4 K3 hB4))
  have k0 := wall (K0.out.next hB4.out rfl)
  have k1 := wall (K1.out.next hB4.out rfl)
  have k2 := wall (K2.out.next hB4.out rfl)
  have HB4 := wall (below_then HB.out hB4.out (Nat.le_refl _))
  have K3' := wall K3.out
  clear K0 K1 K2 HB hB4 K3 HZH HOH
  go_wp2_with (refine wpList_load_row rfl 173 _ rfl (w.heap.size + 1) rfl 173 (b8 bs) (0, 0) _ k1.out Tryd.underlying173 rfl HSB.out ?_)
  (with_reducible refine (HSP.out _).mono ?_); rintro e w5 ⟨rfl, hB⟩
  have K0 := wall (k0.out.next hB rfl)
  have K2 := wall (k2.out.next hB rfl)
  have K3 := wall (K3'.out.next hB rfl)
  have HB := wall (below_then HB4.out hB (Nat.le_refl _))
  clear hB k0 k1 k2 K3' HB4 HSP HSB
  go_wp2_with fail
  go_loopg [6, 7, 8, 9, 10, 11, 12, 17] 64 (fun g s6 s7 s8 s9 s10 s11 s12 s17 wr => ∃ i : Nat, i + g = 64 ∧ s17 = .int .i64 (i : Int) ∧ Wall (Blk wr w.heap.size 118 (c32 hs)) ∧ Wall (Blk wr (w.heap.size + 1 + 1) 118 (c32 (List.replicate 8 0))) ∧ Wall (Blk wr W3.heap.size 118 (c32 ((St.of hs).run ws i).list)) ∧ Wall (Below w.heap.size w wr))
  case atStart => exact ⟨0, by omega, rfl, K0, K2, wall (by rw [show (St.of hs).run ws 0 = St.of hs from rfl, st_of HL.out]; exact K3.out), HB⟩
  case round =>
    clear K0 K2 K3 HB
    obtain ⟨i, hg, rfl, K0, K2, K3, HB⟩ := hrel
    have HG := wall hg
    have hi : i ≤ 64 := by omega
    clear hg
    have hok := St.ok_run (st_ok HL.out HWD.out) ws i
    by_cases hlt : i < 64
    · obtain ⟨ww, hx⟩ : ∃ x, ws[i]? = some x := ⟨_, List.getElem?_eq_getElem (by have := HWL.out; omega)⟩
      obtain ⟨kk, hkx⟩ : ∃ x, rK[i]? = some x := ⟨_, List.getElem?_eq_getElem (show i < rK.length from hlt)⟩
      have wwM := HWW.out ww (List.mem_of_getElem? hx)
      have kkM := rK_word kk (List.mem_of_getElem? hkx)
      have hck := (HT0.out.old HB.out).cell hkx
      have HRN := wall (show (St.of hs).run ws (i + 1) = ((St.of hs).run ws i).round kk ww by rw [St.run, hkx, hx]; rfl)
      have hix := run_index_arr (P := Tryd.prog) 44 43 64 Tryd.underlying44 (fun _ => by kernel_rfl) (fun _ => by kernel_rfl) (c32 ws) .i64 (i : Int) i rfl hlt _ (c32_at hx)
      clear hx hkx
      obtain ⟨s, hs0⟩ : ∃ s, (St.of hs).run ws i = s := ⟨_, rfl⟩
      rw [hs0] at HRN K3 hok
      clear hs0
      obtain ⟨a, b, c, d, e, f, g, hh⟩ := s
      obtain ⟨aM, bM, cM, dM, eM, fM, gM, hM⟩ := hok
      simp only at aM bM cM dM eM fM gM hM
      have ca : wr.cell? ⟨W3.heap.size, 0, none⟩ = some (.int .u32 (a : Int)) := by rw [K3.out.cell]; rfl
      have cb : wr.cell? ⟨W3.heap.size, 1, none⟩ = some (.int .u32 (b : Int)) := by rw [K3.out.cell]; rfl
      have cc : wr.cell? ⟨W3.heap.size, 2, none⟩ = some (.int .u32 (c : Int)) := by rw [K3.out.cell]; rfl
      have cd : wr.cell? ⟨W3.heap.size, 3, none⟩ = some (.int .u32 (d : Int)) := by rw [K3.out.cell]; rfl
      have ce : wr.cell? ⟨W3.heap.size, 4, none⟩ = some (.int .u32 (e : Int)) := by rw [K3.out.cell]; rfl
      have cf : wr.cell? ⟨W3.heap.size, 5, none⟩ = some (.int .u32 (f : Int)) := by rw [K3.out.cell]; rfl
      have cg : wr.cell? ⟨W3.heap.size, 6, none⟩ = some (.int .u32 (g : Int)) := by rw [K3.out.cell]; rfl
      have ch' : wr.cell? ⟨W3.heap.size, 7, none⟩ = some (.int .u32 (hh : Int)) := by rw [K3.out.cell]; rfl
      obtain ⟨r6, h6⟩ : ∃ r, rotr e 6 = r := ⟨_, rfl⟩
      have l6 : r6 < 4294967296 := by rw [← h6]; exact rotr_lt eM (by decide)
      obtain ⟨r11, h11⟩ : ∃ r, rotr e 11 = r := ⟨_, rfl⟩
      have l11 : r11 < 4294967296 := by rw [← h11]; exact rotr_lt eM (by decide)
      obtain ⟨r25, h25⟩ : ∃ r, rotr e 25 = r := ⟨_, rfl⟩
      have l25 : r25 < 4294967296 := by rw [← h25]; exact rotr_lt eM (by decide)
      obtain ⟨p1, ep1⟩ : ∃ q, r6 ^^^ r11 = q := ⟨_, rfl⟩
      have lp1 : p1 < 4294967296 := by rw [← ep1]; exact xor_lt l6 l11
      have bp1 : bits .xor .u32 (r6 : Int) (r11 : Int) = (p1 : Int) := by rw [u32_xor_nat _ _ l6 l11, ep1]
      obtain ⟨u1, eu1⟩ : ∃ q, p1 ^^^ r25 = q := ⟨_, rfl⟩
      have lu1 : u1 < 4294967296 := by rw [← eu1]; exact xor_lt lp1 l25
      have bu1 : bits .xor .u32 (p1 : Int) (r25 : Int) = (u1 : Int) := by rw [u32_xor_nat _ _ lp1 l25, eu1]
      obtain ⟨ef, eef⟩ : ∃ q, e &&& f = q := ⟨_, rfl⟩
      have lef : ef < 4294967296 := by rw [← eef]; exact and_lt eM fM
      have bef : bits .and .u32 (e : Int) (f : Int) = (ef : Int) := by rw [u32_and_nat _ _ eM fM, eef]
      obtain ⟨ne, ene⟩ : ∃ q, 4294967295 - e = q := ⟨_, rfl⟩
      have lne : ne < 4294967296 := by omega
      have bne : bits .xor .u32 IntKind.u32.max (e : Int) = (ne : Int) := by rw [not_u32 e eM, ene]
      have bne' : bits .xor .u32 4294967295 (e : Int) = (ne : Int) := bne
      obtain ⟨ng, eng⟩ : ∃ q, ne &&& g = q := ⟨_, rfl⟩
      have lng : ng < 4294967296 := by rw [← eng]; exact and_lt lne gM
      have bng : bits .and .u32 (ne : Int) (g : Int) = (ng : Int) := by rw [u32_and_nat _ _ lne gM, eng]
      obtain ⟨cv, ecv⟩ : ∃ q, ef ^^^ ng = q := ⟨_, rfl⟩
      have lcv : cv < 4294967296 := by rw [← ecv]; exact xor_lt lef lng
      have bcv : bits .xor .u32 (ef : Int) (ng : Int) = (cv : Int) := by rw [u32_xor_nat _ _ lef lng, ecv]
      obtain ⟨tt, ett⟩ : ∃ q, (hh + u1 + cv + kk + ww) % 4294967296 = q := ⟨_, rfl⟩
      have ltt : tt < 4294967296 := by rw [← ett]; exact Nat.mod_lt _ (by decide)
      have btt : ((hh : Int) + (u1 : Int) + (cv : Int) + (kk : Int) + (ww : Int)) % 4294967296 = (tt : Int) := by rw [← ett]; simp
      obtain ⟨r2, h2⟩ : ∃ r, rotr a 2 = r := ⟨_, rfl⟩
      have l2 : r2 < 4294967296 := by rw [← h2]; exact rotr_lt aM (by decide)
      obtain ⟨r13, h13⟩ : ∃ r, rotr a 13 = r := ⟨_, rfl⟩
      have l13 : r13 < 4294967296 := by rw [← h13]; exact rotr_lt aM (by decide)
      obtain ⟨r22, h22⟩ : ∃ r, rotr a 22 = r := ⟨_, rfl⟩
      have l22 : r22 < 4294967296 := by rw [← h22]; exact rotr_lt aM (by decide)
      obtain ⟨p0, ep0⟩ : ∃ q, r2 ^^^ r13 = q := ⟨_, rfl⟩
      have lp0 : p0 < 4294967296 := by rw [← ep0]; exact xor_lt l2 l13
      have bp0 : bits .xor .u32 (r2 : Int) (r13 : Int) = (p0 : Int) := by rw [u32_xor_nat _ _ l2 l13, ep0]
      obtain ⟨u0, eu0⟩ : ∃ q, p0 ^^^ r22 = q := ⟨_, rfl⟩
      have lu0 : u0 < 4294967296 := by rw [← eu0]; exact xor_lt lp0 l22
      have bu0 : bits .xor .u32 (p0 : Int) (r22 : Int) = (u0 : Int) := by rw [u32_xor_nat _ _ lp0 l22, eu0]
      obtain ⟨ab, eab⟩ : ∃ q, a &&& b = q := ⟨_, rfl⟩
      have lab : ab < 4294967296 := by rw [← eab]; exact and_lt aM bM
      have bab : bits .and .u32 (a : Int) (b : Int) = (ab : Int) := by rw [u32_and_nat _ _ aM bM, eab]
      obtain ⟨ac, eac⟩ : ∃ q, a &&& c = q := ⟨_, rfl⟩
      have lac : ac < 4294967296 := by rw [← eac]; exact and_lt aM cM
      have bac : bits .and .u32 (a : Int) (c : Int) = (ac : Int) := by rw [u32_and_nat _ _ aM cM, eac]
      obtain ⟨bc, ebc⟩ : ∃ q, b &&& c = q := ⟨_, rfl⟩
      have lbc : bc < 4294967296 := by rw [← ebc]; exact and_lt bM cM
      have bbc : bits .and .u32 (b : Int) (c : Int) = (bc : Int) := by rw [u32_and_nat _ _ bM cM, ebc]
      obtain ⟨abc, eabc⟩ : ∃ q, ab ^^^ ac = q := ⟨_, rfl⟩
      have labc : abc < 4294967296 := by rw [← eabc]; exact xor_lt lab lac
      have babc : bits .xor .u32 (ab : Int) (ac : Int) = (abc : Int) := by rw [u32_xor_nat _ _ lab lac, eabc]
      obtain ⟨mj, emj⟩ : ∃ q, abc ^^^ bc = q := ⟨_, rfl⟩
      have lmj : mj < 4294967296 := by rw [← emj]; exact xor_lt labc lbc
      have bmj : bits .xor .u32 (abc : Int) (bc : Int) = (mj : Int) := by rw [u32_xor_nat _ _ labc lbc, emj]
      obtain ⟨na, ena⟩ : ∃ q, (tt + u0 + mj) % 4294967296 = q := ⟨_, rfl⟩
      have bna : ((tt : Int) + (u0 : Int) + (mj : Int)) % 4294967296 = (na : Int) := by rw [← ena]; simp
      obtain ⟨nd, end_⟩ : ∃ q, (d + tt) % 4294967296 = q := ⟨_, rfl⟩
      have bnd : ((d : Int) + (tt : Int)) % 4294967296 = (nd : Int) := by rw [← end_]; simp
      have HNX := wall (show (St.mk a b c d e f g hh).round kk ww = St.mk na a b c nd e f g by
        have hu1 : S1 e = u1 := by unfold S1; rw [h6, h11, h25, ep1, eu1]
        have hu0 : S0 a = u0 := by unfold S0; rw [h2, h13, h22, ep0, eu0]
        have hcv : ch e f g = cv := by unfold ch; rw [eef, ene, eng, ecv]
        have hmj : maj a b c = mj := by unfold maj; rw [eab, eac, ebc, eabc, emj]
        have htt : t1 (St.mk a b c d e f g hh) kk ww = tt := by unfold t1; rw [hu1, hcv, ett]
        unfold St.round
        rw [htt, hu0, hmj, ena, end_])
      have H6 := wall (fun W => rot_q (-6) _ 6 e r6 W (by decide) rfl eM (by omega) (by omega) h6)
      have H11 := wall (fun W => rot_q (-11) _ 11 e r11 W (by decide) rfl eM (by omega) (by omega) h11)
      have H25 := wall (fun W => rot_q (-25) _ 25 e r25 W (by decide) rfl eM (by omega) (by omega) h25)
      have H2 := wall (fun W => rot_q (-2) _ 2 a r2 W (by decide) rfl aM (by omega) (by omega) h2)
      have H13 := wall (fun W => rot_q (-13) _ 13 a r13 W (by decide) rfl aM (by omega) (by omega) h13)
      have H22 := wall (fun W => rot_q (-22) _ 22 a r22 W (by decide) rfl aM (by omega) (by omega) h22)
      clear h6 h11 h25 h2 h13 h22 ep1 eu1 eef ene eng ecv ett ep0 eu0 eab eac ebc eabc emj ena end_
      have b64 : (i : Int) < 64 := by omega
      have n64 : (0 : Int) ≤ (i : Int) := by omega
      have HSN := wall (show (Tryd.prog.info? 118).map (·.size) = some (c32 [na, a, b, c, nd, e, f, g]).size from h_info)
      have HON := wall (c32_one [na, a, b, c, nd, e, f, g])
      have KN := wall (show Blk wr W3.heap.size 118 (c32 [a, b, c, d, e, f, g, hh]) from K3.out)
      rw [HNX.out] at HRN
      clear K3 HNX
      go_wp2_with fail
      go_quiet ((go_at_call 111; first | with_reducible exact Calls.quiet_of_same (H6.out _) | with_reducible exact Calls.quiet_of_same (H11.out _) | with_reducible exact Calls.quiet_of_same (H25.out _)))
      go_wp2_with fail
      go_quiet (fail)
      go_wp2_with fail
      go_quiet ((go_at_call 111; first | with_reducible exact quiet_same2 (H2.out _) | with_reducible exact quiet_same2 (H13.out _) | with_reducible exact quiet_same2 (H22.out _)))
      go_wp2_with (refine wpList_store_row rfl 118 (.tmp 5) _ rfl W3.heap.size (c32 [na, a, b, c, nd, e, f, g]) rfl rfl 118 (c32 [a, b, c, d, e, f, g, hh]) (KN.out.drewN _) HSN.out rfl HON.out ?_)
      go_light
      go_roundg (64 - (i + 1))
      case measure => have := HG.out; omega
      case rel =>
        refine ⟨i + 1, by have := HG.out; omega, by go_num, wall ?_, wall ?_, wall ?_, wall ?_⟩
        · exact (show Blk _ _ _ _ from (setRow_other _ W3.heap.size w.heap.size _ (by omega)).trans (K0.out.drewN _))
        · exact (show Blk _ _ _ _ from (setRow_other _ W3.heap.size (w.heap.size + 1 + 1) _ (by omega)).trans (K2.out.drewN _))
        · rw [HRN.out]
          exact setRow_heap _ _ _ _ _ _ (KN.out.drewN _)
        · exact below_setRow (Below.drewN HB.out _) (by omega) _
    · have hi64 : i = 64 := by omega
      have hni : ¬ ((i : Int) < 64) := by omega
      obtain ⟨vv, hvv⟩ : ∃ v, ((St.of hs).run ws i).list = v := ⟨_, rfl⟩
      have hvl : vv.length = 8 := by rw [← hvv]; rfl
      rw [hvv] at K3
      have hre : res = add8 hs vv := by rw [← HE0.out, press_eq, HWS.out, ← hvv, hi64]
      have HVM := wall (show ∀ x ∈ vv, x < 4294967296 by
        rw [← hvv]
        obtain ⟨h1, h2, h3, h4, h5, h6, h7, h8⟩ := hok
        intro x hx
        simp only [St.list, List.mem_cons, List.not_mem_nil, or_false] at hx
        rcases hx with rfl | rfl | rfl | rfl | rfl | rfl | rfl | rfl <;> assumption)
      have HVL := wall hvl
      have HRE := wall hre
      have hrl : res.length = 8 := by rw [hre, add8, List.length_zipWith, HL.out, hvl]; rfl
      have HRL := wall hrl
      clear hvv hvl hre hok HE0 HWS hrl hi64
      obtain ⟨gO, rfl⟩ : ∃ q : Nat, q = gk := ⟨_, rfl⟩
      obtain ⟨wO, rfl⟩ : ∃ q : World, q = wr := ⟨_, rfl⟩
      go_wp2_with fail
      go_loopg [13, 107] 8 (fun g s13 s107 wr => ∃ j : Nat, j + g = 8 ∧ s107 = .int .i64 (j : Int) ∧ Wall (Blk wr w.heap.size 118 (c32 (res.take j ++ hs.drop j))) ∧ Wall (Blk wr (w.heap.size + 1 + 1) 118 (c32 (List.replicate 8 0))) ∧ Wall (Blk wr W3.heap.size 118 (c32 vv)) ∧ Wall (Below w.heap.size w wr))
      case atStart => exact ⟨0, by omega, rfl, K0, K2, K3, HB⟩
      case round =>
        clear K0 K2 K3 HB
        obtain ⟨j, hg, rfl, K0, K2, K3, HB⟩ := hrel
        have HG := wall hg
        have hj : j ≤ 8 := by omega
        clear hg
        by_cases hlt : j < 8
        · obtain ⟨x, hx⟩ : ∃ x, hs[j]? = some x := ⟨_, List.getElem?_eq_getElem (by have := HL.out; omega)⟩
          obtain ⟨y, hy⟩ : ∃ x, vv[j]? = some x := ⟨_, List.getElem?_eq_getElem (by have := HVL.out; omega)⟩
          have xM := HWD.out x (List.mem_of_getElem? hx)
          have yM := HVM.out y (List.mem_of_getElem? hy)
          have htl : (res.take j).length = j := by rw [List.length_take, HRL.out]; omega
          have hcx : wr.cell? ⟨w.heap.size, j, none⟩ = some (.int .u32 (x : Int)) := by
            rw [K0.out.cell]
            refine c32_at ?_
            rw [List.getElem?_append_right (by omega), htl, Nat.sub_self, List.getElem?_drop, Nat.add_zero]
            exact hx
          have hcy : wr.cell? ⟨W3.heap.size, j, none⟩ = some (.int .u32 (y : Int)) := by rw [K3.out.cell]; exact c32_at hy
          have hfr : wr.frozen? ⟨w.heap.size, j, none⟩ = false := K0.out.frozen _
          have hrj : res[j]? = some ((x + y) % 4294967296) := by rw [HRE.out, add8, List.getElem?_zipWith, hx, hy]
          obtain ⟨z, hz⟩ : ∃ z, (x + y) % 4294967296 = z := ⟨_, rfl⟩
          rw [hz] at hrj
          have hzz : ((x : Int) + (y : Int)) % 4294967296 = (z : Int) := by rw [← hz]; simp
          have HSET := wall (show (res.take j ++ hs.drop j).set j z = res.take (j + 1) ++ hs.drop (j + 1) by
            rw [take_snoc hrj, List.set_append_right _ _ (by omega), htl, Nat.sub_self, List.drop_eq_getElem_cons (by have := HL.out; omega), List.set_cons_zero, List.append_assoc]
            rfl)
          have b8' : (j : Int) < 8 := by omega
          have n8 : (0 : Int) ≤ (j : Int) := by omega
          clear hx hy htl hrj hz
          go_wp2_with fail
          go_still_tail 8, (by kernel_rfl)
          change wpList _ _ _ _ _ wr.drew
          go_wp2_with fail
          go_light
          go_roundg (8 - (j + 1))
          case measure => have := HG.out; omega
          case rel =>
            refine ⟨j + 1, by have := HG.out; omega, by go_num, wall ?_, wall ?_, wall ?_, wall ?_⟩
            · have := K0.out.set j (.int .u32 (z : Int))
              rw [c32_set, HSET.out] at this
              exact this
            · exact (K2.out.far' _ _ (by omega) _)
            · exact (K3.out.far' _ _ (by omega) _)
            · exact Below.drewN (HB.out.setCell (p := ⟨w.heap.size, j, none⟩) (by show w.heap.size ≤ w.heap.size; omega) _) 1
        · have hj8 : j = 8 := by omega
          have hnl : ¬ ((j : Int) < 8) := by omega
          have K8 := wall (show Blk wr w.heap.size 118 (c32 res) by
            have := K0.out
            rw [hj8, List.take_of_length_le (by have := HRL.out; omega), List.drop_of_length_le (by have := HL.out; omega), List.append_nil] at this
            exact this)
          have HSR := wall (show (Tryd.prog.info? 118).map (·.size) = some (c32 res).size by rw [c32_size, HRL.out]; exact h_info)
          have HZR := wall (show (c32 (List.replicate 8 0)).size = (c32 res).size by rw [c32_size, c32_size, HRL.out]; rfl)
          have HOR := wall (c32_one res)
          clear K0 hj8
          go_upto_region 17 with fail
          go_wp2_with (first | refine wpList_load_row rfl 118 _ rfl w.heap.size rfl 118 (c32 res) (0, 0) _ K8.out Tryd.underlying118 rfl HSR.out ?_ | refine wpList_store_row rfl 118 (.tmp 4) _ rfl (w.heap.size + 1 + 1) (c32 res) rfl rfl 118 (c32 (List.replicate 8 0)) K2.out HSR.out HZR.out HOR.out ?_)
          have hb := setRow_heap _ _ _ (c32 res) _ _ K2.out
          have hB := below_setRow HB.out (show w.heap.size ≤ w.heap.size + 1 + 1 by omega) (c32 res)
          go_light
          exact bodyPost_ret (v := .agg (c32 res)) (results_cell_row Tryd.results134 _ _ (w.heap.size + 1 + 1) 118 (c32 res) (0, 0) _ rfl hb Tryd.underlying118 rfl HSR.out) rfl ⟨rfl, hB⟩
end Sha
end Go.Proofs.YtpakdcgcgekcfaaDoor

/-
  The reference's Press (curtilageref01): it is the plain one.
-/
set_option linter.unusedSimpArgs false
set_option linter.unusedVariables false
namespace Go.Proofs.YtpakdcgcgekcfaaDoor
open Go.RowKit

namespace Sha
open Otp R1
set_option maxRecDepth 100000 in
set_option maxHeartbeats 8000000 in
theorem rpress_any (hs bs : List Nat) (A : Option Addr) (cap : Nat) (w : World) (hl : hs.length = 8) (hw : ∀ x ∈ hs, x < 4294967296) (bl : bs.length = 64) (hcap : 64 ≤ cap) (hz : Nats .u8 256 w w.heap.size A bs) :
    Calls Tryd.prog 108 #[.agg (c32 hs), .slice A 64 cap] w (fun e w' => e = .returned (.agg (c32 (press hs bs))) ∧ Below w.heap.size w w') := by
  obtain ⟨res, hres⟩ : ∃ r, press hs bs = r := ⟨_, rfl⟩
  rw [hres]
  have HE0 := wall hres
  have HL := wall hl
  have HWD := wall hw
  have HBL := wall bl
  have HN := wall hz
  have hA : ∃ b off, A = some ⟨b, off, none⟩ := by
    obtain ⟨x, hx⟩ : ∃ x, bs[0]? = some x := ⟨_, List.getElem?_eq_getElem (by omega)⟩
    obtain ⟨_, b, off, h, _⟩ := hz 0 x hx
    exact ⟨b, off, h⟩
  obtain ⟨b, off, rfl⟩ := hA
  have HSH := wall (show (Tryd.prog.info? 118).map (·.size) = some (c32 hs).size by rw [c32_size, hl]; exact h_info)
  have HWB := wall (show ∀ x ∈ bs, x < 256 from fun x hx => by
    obtain ⟨i, hi⟩ := List.mem_iff_getElem?.1 hx
    exact (hz i x hi).1)
  obtain ⟨ws, hws⟩ : ∃ r, sched bs = r := ⟨_, rfl⟩
  have HWS := wall hws
  have HWL := wall (show ws.length = 64 by rw [← hws]; exact sched_length bl)
  have HWW := wall (show ∀ x ∈ ws, x < 4294967296 by rw [← hws]; exact sched_word HWB.out)
  obtain ⟨i0, hi0, hz0, hz1, hz2⟩ := info_row u32_info
  have hmk := fun W => run_make_rowN (P := Tryd.prog) 37 43 i0 _ Tryd.underlying37 hi0 hz0 .i64 .i64 64 64 (Nat.le_refl _) (by rw [hz2]; omega) (by omega) W
  have e64 : ((64 : Nat) : Int) = 64 := rfl
  rw [hz1] at hmk
  simp only [Nat.mul_one, e64] at hmk
  obtain ⟨W2, hW2⟩ : ∃ W, W = (w.alloc (.cells (c32 hs) 118)).alloc (.cells (c32 (List.replicate 8 0)) 118) := ⟨_, rfl⟩
  have K0 := wall (show Blk W2 w.heap.size 118 (c32 hs) by rw [hW2]; exact (Blk.new w _ _).alloc _)
  have K2 := wall (show Blk W2 (w.heap.size + 1) 118 (c32 (List.replicate 8 0)) by rw [hW2]; exact blk_new' (by simp))
  have HB := wall (show Below w.heap.size w W2 by rw [hW2]; exact ((Below.refl _ w).alloc (Nat.le_refl _) _).alloc (by simp) _)
  have hWs : W2.heap.size = w.heap.size + 1 + 1 := by rw [hW2]; simp
  have hW2' := wall hW2
  have K3 := wall (show Blk (W2.alloc (.cells (madeCells #[Value.int .u32 0] 64) 43)) (w.heap.size + 1 + 1) 43 (c32 (List.replicate 64 0)) by rw [made32, ← hWs]; exact Blk.new _ _ _)
  replace K0 := wall (K0.out.alloc (.cells (madeCells #[Value.int .u32 0] 64) 43))
  replace K2 := wall (K2.out.alloc (.cells (madeCells #[Value.int .u32 0] 64) 43))
  replace HB := wall (HB.out.alloc (by omega) (.cells (madeCells #[Value.int .u32 0] 64) 43))
  clear hl hw bl hz hres hws hW2 hi0 hz0 hz1 hz2 e64
  go_enter Tryd.func108, Tryd.ntmps108
  go_upto_region 1 with fail
  change Code.wp _ _ _ _ ((w.alloc (.cells (c32 hs) 118)).alloc (.cells (c32 (List.replicate 8 0)) 118))
  rw [← hW2'.out]
  clear hW2'
  go_upto_region 2 with fail
  generalize hW3 : W2.alloc (.cells (madeCells #[Value.int .u32 0] 64) 43) = W3 at *
  clear hW3 hmk hWs
  go_wp2_with fail
  go_loopg [6, 24] 64 (fun g s6 s24 wr => ∃ i : Nat, i + g = 64 ∧ s24 = .int .i64 (i : Int) ∧ Wall (Blk wr w.heap.size 118 (c32 hs)) ∧ Wall (Blk wr (w.heap.size + 1) 118 (c32 (List.replicate 8 0))) ∧ Wall (Blk wr (w.heap.size + 1 + 1) 43 (c32 (ws.take i ++ List.replicate (64 - i) 0))) ∧ Wall (Below w.heap.size w wr))
  case atStart => exact ⟨0, by omega, rfl, K0, K2, K3, HB⟩
  case round =>
    clear K0 K2 K3 HB
    obtain ⟨i, hg, rfl, K0, K2, K3, HB⟩ := hrel
    have HG := wall hg
    have hi : i ≤ 64 := by omega
    clear hg
    have HTL := wall (show i < 64 → (ws.take i).length = i from fun h => by rw [List.length_take, HWL.out]; omega)
    by_cases hlt : i < 64
    · obtain ⟨y, hy⟩ : ∃ x, ws[i]? = some x := ⟨_, List.getElem?_eq_getElem (by have := HWL.out; omega)⟩
      have HX := wall (show (ws.take i ++ List.replicate (64 - i) 0).set i y = ws.take (i + 1) ++ List.replicate (64 - (i + 1)) 0 by
        rw [take_snoc hy, List.set_append_right _ _ (by rw [HTL.out hlt]; omega), HTL.out hlt, Nat.sub_self, show 64 - i = 64 - (i + 1) + 1 by omega, List.replicate_succ, List.set_cons_zero, List.append_assoc]
        rfl)
      have yM := HWW.out y (List.mem_of_getElem? hy)
      have hfr : wr.frozen? ⟨w.heap.size + 1 + 1, i, none⟩ = false := K3.out.frozen i
      obtain ⟨old, hold⟩ : ∃ v, wr.cell? ⟨w.heap.size + 1 + 1, i, none⟩ = some v := by
        rw [K3.out.cell]
        refine ⟨_, Array.getElem?_eq_getElem (i := i) ?_⟩
        rw [c32_size, List.length_append, List.length_replicate, HTL.out hlt]
        omega
      have hsz := K3.out.lt
      have HY := wall hy
      clear hy
      by_cases h16 : i < 16
      · have hx : ∀ j, j < 4 → ∃ x, bs[4 * i + j]? = some x := fun j hj => ⟨_, List.getElem?_eq_getElem (by have := HBL.out; omega)⟩
        obtain ⟨x0, h0⟩ := hx 0 (by omega)
        obtain ⟨x1, h1⟩ := hx 1 (by omega)
        obtain ⟨x2, h2⟩ := hx 2 (by omega)
        obtain ⟨x3, h3⟩ := hx 3 (by omega)
        have hye : beVal [x0, x1, x2, x3] = y := by
          have := sched_lo (words4_get bs i x0 x1 x2 x3 h0 h1 h2 h3)
          rw [HWS.out, HY.out] at this
          cases this
          exact be4_val _ _ _ _
        have HNV := wall (show Nats .u8 256 wr wr.heap.size (some ⟨b, off + 4 * i, none⟩) [x0, x1, x2, x3] from by
          have hN := (HN.out.below HB.out).more HB.out.size
          have key : ∀ (j : Nat) (z : Nat), bs[4 * i + j]? = some z → z < 256 ∧ ∃ b' off', some (⟨b, off + 4 * i, none⟩ : Addr) = some ⟨b', off', none⟩ ∧ b' < wr.heap.size ∧ wr.cell? ⟨b', off' + j, none⟩ = some (.int .u8 (z : Int)) := fun j z hz => by
            obtain ⟨hzM, b', off', he, hb', hc⟩ := hN (4 * i + j) z hz
            cases he
            exact ⟨hzM, b, off + 4 * i, rfl, hb', by rw [Nat.add_assoc]; exact hc⟩
          intro j z hz
          match j, hz with
          | 0, hz => cases hz; exact key 0 _ h0
          | 1, hz => cases hz; exact key 1 _ h1
          | 2, hz => cases hz; exact key 2 _ h2
          | 3, hz => cases hz; exact key 3 _ h3)
        have HV := wall (fun W (h : Nats .u8 256 W W.heap.size (some ⟨b, off + 4 * i, none⟩) [x0, x1, x2, x3]) C => value_any (some ⟨b, off + 4 * i, none⟩) 4 C [x0, x1, x2, x3] W W.heap.size rfl (by decide) h)
        rw [hye] at HV
        clear hx h0 h1 h2 h3 hye
        go_wp2_with fail
        (with_reducible refine (HV.out _ HNV.out _).mono ?_); rintro e w2 ⟨rfl, rfl⟩
        go_wp2_with fail
        go_light
        go_roundg (64 - (i + 1))
        case measure => have := HG.out; omega
        case rel =>
          refine ⟨i + 1, by have := HG.out; omega, by go_num, wall ?_, wall ?_, wall ?_, wall ?_⟩
          · exact (K0.out.far' _ _ (by omega) _)
          · exact (K2.out.far' _ _ (by omega) _)
          · have := K3.out.set i (.int .u32 (y : Int))
            rw [c32_set, HX.out] at this
            exact this
          · exact HB.out.setCell (p := ⟨w.heap.size + 1 + 1, i, none⟩) (by show w.heap.size ≤ w.heap.size + 1 + 1; omega) _
      · obtain ⟨k, rfl⟩ : ∃ k, i = 16 + k := ⟨i - 16, by omega⟩
        have hx : ∀ j, j < 16 → ∃ x, ws[k + j]? = some x ∧ x < 4294967296 ∧ wr.cell? ⟨w.heap.size + 1 + 1, k + j, none⟩ = some (.int .u32 (x : Int)) := fun j hj => by
          obtain ⟨x, hx⟩ : ∃ x, ws[k + j]? = some x := ⟨_, List.getElem?_eq_getElem (by have := HWL.out; omega)⟩
          refine ⟨x, hx, HWW.out x (List.mem_of_getElem? hx), ?_⟩
          rw [K3.out.cell]
          refine c32_at ?_
          rw [List.getElem?_append_left (by rw [HTL.out hlt]; omega), List.getElem?_take_of_lt (by omega)]
          exact hx
        obtain ⟨a, ha, haM, hca⟩ := hx 0 (by omega)
        obtain ⟨b1, hb, hbM, hcb⟩ := hx 1 (by omega)
        obtain ⟨c, hc, hcM, hcc⟩ := hx 9 (by omega)
        obtain ⟨d, hd, hdM, hcd⟩ := hx 14 (by omega)
        have hca' : wr.cell? ⟨w.heap.size + 1 + 1, k, none⟩ = some (.int .u32 (a : Int)) := hca
        have hyn : y = nxt a b1 c d := by
          have h := sched_hi (bs := bs) HBL.out (k := k) (a := a) (b := b1) (c := c) (d := d) (by omega) (by rw [HWS.out]; exact ha) (by rw [HWS.out]; exact hb) (by rw [HWS.out]; exact hc) (by rw [HWS.out]; exact hd)
          rw [HWS.out, HY.out] at h
          exact Option.some.inj h
        clear hx ha hca hb hc hd
        obtain ⟨r7, h7⟩ : ∃ r, rotr b1 7 = r := ⟨_, rfl⟩
        obtain ⟨r18, h18⟩ : ∃ r, rotr b1 18 = r := ⟨_, rfl⟩
        obtain ⟨r17, h17⟩ : ∃ r, rotr d 17 = r := ⟨_, rfl⟩
        obtain ⟨r19, h19⟩ : ∃ r, rotr d 19 = r := ⟨_, rfl⟩
        have l7 : r7 < 4294967296 := by rw [← h7]; exact rotr_lt hbM (by decide)
        have l18 : r18 < 4294967296 := by rw [← h18]; exact rotr_lt hbM (by decide)
        have l17 : r17 < 4294967296 := by rw [← h17]; exact rotr_lt hdM (by decide)
        have l19 : r19 < 4294967296 := by rw [← h19]; exact rotr_lt hdM (by decide)
        obtain ⟨q0, hq0⟩ : ∃ q, r7 ^^^ r18 = q := ⟨_, rfl⟩
        obtain ⟨q1, hq1⟩ : ∃ q, r17 ^^^ r19 = q := ⟨_, rfl⟩
        have lq0 : q0 < 4294967296 := by rw [← hq0]; exact xor_lt l7 l18
        have lq1 : q1 < 4294967296 := by rw [← hq1]; exact xor_lt l17 l19
        obtain ⟨u0, hu0⟩ : ∃ q, s0 b1 = q := ⟨_, rfl⟩
        obtain ⟨u1, hu1⟩ : ∃ q, s1 d = q := ⟨_, rfl⟩
        have lu0 : u0 < 4294967296 := by rw [← hu0]; unfold s0; exact xor_lt (xor_lt (rotr_lt hbM (by decide)) (rotr_lt hbM (by decide))) (Nat.lt_of_le_of_lt (Nat.div_le_self _ _) hbM)
        have lu1 : u1 < 4294967296 := by rw [← hu1]; unfold s1; exact xor_lt (xor_lt (rotr_lt hdM (by decide)) (rotr_lt hdM (by decide))) (Nat.lt_of_le_of_lt (Nat.div_le_self _ _) hdM)
        have x0 : bits .xor .u32 (r7 : Int) (r18 : Int) = (q0 : Int) := by rw [u32_xor_nat _ _ l7 l18, hq0]
        have x1 : bits .xor .u32 (r17 : Int) (r19 : Int) = (q1 : Int) := by rw [u32_xor_nat _ _ l17 l19, hq1]
        have y0 : bits .xor .u32 (q0 : Int) ((b1 : Int) / 8) = (u0 : Int) := by
          rw [show (b1 : Int) / 8 = ((b1 / 2 ^ 3 : Nat) : Int) by simp, u32_xor_nat _ _ lq0 (Nat.lt_of_le_of_lt (Nat.div_le_self _ _) hbM), ← hq0, ← h7, ← h18, ← hu0]
          rfl
        have y1 : bits .xor .u32 (q1 : Int) ((d : Int) / 1024) = (u1 : Int) := by
          rw [show (d : Int) / 1024 = ((d / 2 ^ 10 : Nat) : Int) by simp, u32_xor_nat _ _ lq1 (Nat.lt_of_le_of_lt (Nat.div_le_self _ _) hdM), ← hq1, ← h17, ← h19, ← hu1]
          rfl
        have z0 : ((a : Int) + (u0 : Int) + (c : Int) + (u1 : Int)) % 4294967296 = (y : Int) := by
          rw [hyn, ← hu0, ← hu1]
          unfold nxt
          simp
        have H7 := wall (fun W => turn_q 7 _ 7 b1 r7 W (by decide) rfl hbM (by omega) (by omega) h7)
        have H18 := wall (fun W => turn_q 18 _ 18 b1 r18 W (by decide) rfl hbM (by omega) (by omega) h18)
        have H17 := wall (fun W => turn_q 17 _ 17 d r17 W (by decide) rfl hdM (by omega) (by omega) h17)
        have H19 := wall (fun W => turn_q 19 _ 19 d r19 W (by decide) rfl hdM (by omega) (by omega) h19)
        clear h7 h18 h17 h19 hq0 hq1 hu0 hu1 hyn
        have i15 : IntKind.i64.wrap (16 + (k : Int) - 15) = (k : Int) + 1 := by rw [IntWalk.i64_in _ (by omega)]; omega
        have i2 : IntKind.i64.wrap (16 + (k : Int) - 2) = (k : Int) + 14 := by rw [IntWalk.i64_in _ (by omega)]; omega
        have i16 : IntKind.i64.wrap (16 + (k : Int) - 16) = (k : Int) := by rw [IntWalk.i64_in _ (by omega)]; omega
        have i7 : IntKind.i64.wrap (16 + (k : Int) - 7) = (k : Int) + 9 := by rw [IntWalk.i64_in _ (by omega)]; omega
        have b64 : (k : Int) < 64 := by omega
        have b16 : (16 : Int) + (k : Int) < 64 := by omega
        have b1' : (k : Int) + 1 < 64 := by omega
        have b9 : (k : Int) + 9 < 64 := by omega
        have b14 : (k : Int) + 14 < 64 := by omega
        have n16 : (0 : Int) ≤ 16 + (k : Int) := by omega
        have t16 : (16 + (k : Int)).toNat = 16 + k := by omega
        have n1 : (0 : Int) ≤ (k : Int) + 1 := by omega
        have t1' : ((k : Int) + 1).toNat = k + 1 := by omega
        have n9 : (0 : Int) ≤ (k : Int) + 9 := by omega
        have t9 : ((k : Int) + 9).toNat = k + 9 := by omega
        have n14 : (0 : Int) ≤ (k : Int) + 14 := by omega
        have t14 : ((k : Int) + 14).toNat = k + 14 := by omega
        have hn16 : ¬ (16 + (k : Int) < 16) := by omega
        have hk64 : k < 64 := by omega
        clear hlt h16 hi
        go_wp2_with fail
        refine QTail.wp_quiet_tail 55 (by kernel_rfl) (by kernel_rfl) ?_
        simp only [List.take_succ_cons, List.take_zero, List.drop_succ_cons, List.drop_zero]
        repeat (first | go_big_quiet_step ((go_at_call 126; first | with_reducible exact Calls.quiet_of (H7.out _) | with_reducible exact Calls.quiet_of (H18.out _) | with_reducible exact Calls.quiet_of (H17.out _) | with_reducible exact Calls.quiet_of (H19.out _))))
        refine wpQuiet_nil ?_
        intro _ hw'
        obtain ⟨nq, hw''⟩ := hw'
        subst hw''
        go_wp2_with fail
        go_light
        go_roundg (64 - (16 + k + 1))
        case measure => have := HG.out; omega
        case rel =>
          refine ⟨16 + k + 1, by have := HG.out; omega, by go_num, wall ?_, wall ?_, wall ?_, wall ?_⟩
          · exact ((K0.out.drewN _).far' _ _ (by omega) _)
          · exact ((K2.out.drewN _).far' _ _ (by omega) _)
          · have := (K3.out.drewN nq).set (16 + k) (.int .u32 (y : Int))
            rw [c32_set, HX.out] at this
            exact this
          · exact (Below.drewN HB.out _).setCell (p := ⟨w.heap.size + 1 + 1, 16 + k, none⟩) (by show w.heap.size ≤ w.heap.size + 1 + 1; omega) _
    · have hi64 : i = 64 := by omega
      have hni : ¬ ((i : Int) < 64) := by omega
      replace K3 := wall (show Blk wr (w.heap.size + 1 + 1) 43 (c32 ws) by
        have := K3.out
        rw [hi64, List.take_of_length_le (by have := HWL.out; omega), Nat.sub_self, List.replicate_zero, List.append_nil] at this
        exact this)
      clear hi64 HTL hlt hi
      obtain ⟨a0, b0, c0, d0, e0, f0, g0, h0, hhs⟩ := eight HL.out
      subst hhs
      have hok := HWD.out
      simp only [List.mem_cons, List.not_mem_nil, or_false, forall_eq_or_imp, forall_eq] at hok
      have HOK := wall (show (St.mk a0 b0 c0 d0 e0 f0 g0 h0).ok from hok)
      clear hok
      have ca : wr.cell? ⟨w.heap.size, 0, none⟩ = some (.int .u32 (a0 : Int)) := by rw [K0.out.cell]; rfl
      have cb : wr.cell? ⟨w.heap.size, 1, none⟩ = some (.int .u32 (b0 : Int)) := by rw [K0.out.cell]; rfl
      have cc : wr.cell? ⟨w.heap.size, 2, none⟩ = some (.int .u32 (c0 : Int)) := by rw [K0.out.cell]; rfl
      have cd : wr.cell? ⟨w.heap.size, 3, none⟩ = some (.int .u32 (d0 : Int)) := by rw [K0.out.cell]; rfl
      have ce : wr.cell? ⟨w.heap.size, 4, none⟩ = some (.int .u32 (e0 : Int)) := by rw [K0.out.cell]; rfl
      have cf : wr.cell? ⟨w.heap.size, 5, none⟩ = some (.int .u32 (f0 : Int)) := by rw [K0.out.cell]; rfl
      have cg : wr.cell? ⟨w.heap.size, 6, none⟩ = some (.int .u32 (g0 : Int)) := by rw [K0.out.cell]; rfl
      have ch' : wr.cell? ⟨w.heap.size, 7, none⟩ = some (.int .u32 (h0 : Int)) := by rw [K0.out.cell]; rfl
      obtain ⟨gO, rfl⟩ : ∃ q : Nat, q = gk := ⟨_, rfl⟩
      obtain ⟨wO, rfl⟩ : ∃ q : World, q = wr := ⟨_, rfl⟩
      go_wp2_with fail
      go_quiet (fail)
      replace K0 := wall (K0.out.drewN nq)
      replace K2 := wall (K2.out.drewN nq)
      replace K3 := wall (K3.out.drewN nq)
      replace HB := wall (Below.drewN HB.out nq)
      generalize wO.drewN nq = w1 at *
      clear ca cb cc cd ce cf cg ch'
      go_wp2_with fail
      (with_reducible refine (roots_any _).mono ?_); rintro e w5 ⟨rfl, hB⟩
      have k0 := wall (K0.out.next hB rfl)
      have k2 := wall (K2.out.next hB rfl)
      have k3 := wall (K3.out.next hB rfl)
      have HB5 := wall (below_then HB.out hB (Nat.le_refl _))
      clear hB K0 K2 K3 HB
      have HSR := wall (show (Tryd.prog.info? 44).map (·.size) = some (c32 rK).size by rw [c32_size]; exact sched_info)
      have HZR := wall (show (c32 (List.replicate 64 0)).size = (c32 rK).size by rw [c32_size, c32_size]; rfl)
      have HOR := wall (c32_one rK)
      go_upto_region 11 with (refine wpList_new_row rfl 44 (.tmp 15) (.tmp 114) rfl w5.heap.size (c32 rK) rfl rfl 44 (c32 (List.replicate 64 0)) (Blk.new _ _ _) HSR.out HZR.out HOR.out w5.heap.size w5 ((Below.refl _ w5).alloc (Nat.le_refl _) _) (Nat.le_refl _) ?_; intro w6 KR hB6)
      have hw52 : w.heap.size + 1 + 1 < w5.heap.size := k3.out.lt
      have K0 := wall (k0.out.next hB6 rfl)
      have K2 := wall (k2.out.next hB6 rfl)
      have K3 := wall (k3.out.next hB6 rfl)
      have HB := wall (below_then HB5.out hB6 (Nat.le_refl _))
      replace KR := wall KR
      clear hB6 k0 k2 k3 HB5 HSR HZR HOR
      generalize w5.heap.size = bR at *
      go_wp2_with fail
      go_loopg [7, 8, 9, 10, 11, 12, 13, 14, 16, 17, 18, 117] 64 (fun g s7 s8 s9 s10 s11 s12 s13 s14 s16 s17 s18 s117 wr => ∃ i : Nat, i + g = 64 ∧ s117 = .int .i64 (i : Int) ∧ ∃ a b c d e f g h : Nat, s7 = .int .u32 (a : Int) ∧ s8 = .int .u32 (b : Int) ∧ s9 = .int .u32 (c : Int) ∧ s10 = .int .u32 (d : Int) ∧ s11 = .int .u32 (e : Int) ∧ s12 = .int .u32 (f : Int) ∧ s13 = .int .u32 (g : Int) ∧ s14 = .int .u32 (h : Int) ∧ Wall ((St.mk a0 b0 c0 d0 e0 f0 g0 h0).run ws i = St.mk a b c d e f g h) ∧ Wall (Blk wr w.heap.size 118 (c32 [a0, b0, c0, d0, e0, f0, g0, h0])) ∧ Wall (Blk wr (w.heap.size + 1) 118 (c32 (List.replicate 8 0))) ∧ Wall (Blk wr (w.heap.size + 1 + 1) 43 (c32 ws)) ∧ Wall (Blk wr bR 44 (c32 rK)) ∧ Wall (Below w.heap.size w wr))
      case atStart => exact ⟨0, by omega, rfl, a0, b0, c0, d0, e0, f0, g0, h0, rfl, rfl, rfl, rfl, rfl, rfl, rfl, rfl, wall rfl, K0, K2, K3, KR, HB⟩
      case round =>
        clear K0 K2 K3 KR HB
        obtain ⟨i, hg, rfl, a, b, c, d, e, f, g, hh, rfl, rfl, rfl, rfl, rfl, rfl, rfl, rfl, HS, K0, K2, K3, KR, HB⟩ := hrel
        have HG := wall hg
        have hi : i ≤ 64 := by omega
        clear hg
        have hok := St.ok_run HOK.out ws i
        rw [HS.out] at hok
        obtain ⟨aM, bM, cM, dM, eM, fM, gM, hM⟩ := hok
        simp only at aM bM cM dM eM fM gM hM
        by_cases hlt : i < 64
        · obtain ⟨ww, hx⟩ : ∃ x, ws[i]? = some x := ⟨_, List.getElem?_eq_getElem (by have := HWL.out; omega)⟩
          obtain ⟨kk, hkx⟩ : ∃ x, rK[i]? = some x := ⟨_, List.getElem?_eq_getElem (show i < rK.length from hlt)⟩
          have wwM := HWW.out ww (List.mem_of_getElem? hx)
          have kkM := rK_word kk (List.mem_of_getElem? hkx)
          have hck : wr.cell? ⟨bR, i, none⟩ = some (.int .u32 (kk : Int)) := by rw [KR.out.cell]; exact c32_at hkx
          have hcw : wr.cell? ⟨w.heap.size + 1 + 1, i, none⟩ = some (.int .u32 (ww : Int)) := by rw [K3.out.cell]; exact c32_at hx
          have HRN := wall (show (St.mk a0 b0 c0 d0 e0 f0 g0 h0).run ws (i + 1) = (St.mk a b c d e f g hh).round kk ww by rw [St.run, hkx, hx, HS.out]; rfl)
          clear hx hkx HS
          obtain ⟨r6, h6⟩ : ∃ r, rotr e 6 = r := ⟨_, rfl⟩
          have l6 : r6 < 4294967296 := by rw [← h6]; exact rotr_lt eM (by decide)
          obtain ⟨r11, h11⟩ : ∃ r, rotr e 11 = r := ⟨_, rfl⟩
          have l11 : r11 < 4294967296 := by rw [← h11]; exact rotr_lt eM (by decide)
          obtain ⟨r25, h25⟩ : ∃ r, rotr e 25 = r := ⟨_, rfl⟩
          have l25 : r25 < 4294967296 := by rw [← h25]; exact rotr_lt eM (by decide)
          obtain ⟨p1, ep1⟩ : ∃ q, r6 ^^^ r11 = q := ⟨_, rfl⟩
          have lp1 : p1 < 4294967296 := by rw [← ep1]; exact xor_lt l6 l11
          have bp1 : bits .xor .u32 (r6 : Int) (r11 : Int) = (p1 : Int) := by rw [u32_xor_nat _ _ l6 l11, ep1]
          obtain ⟨u1, eu1⟩ : ∃ q, p1 ^^^ r25 = q := ⟨_, rfl⟩
          have lu1 : u1 < 4294967296 := by rw [← eu1]; exact xor_lt lp1 l25
          have bu1 : bits .xor .u32 (p1 : Int) (r25 : Int) = (u1 : Int) := by rw [u32_xor_nat _ _ lp1 l25, eu1]
          obtain ⟨ef, eef⟩ : ∃ q, e &&& f = q := ⟨_, rfl⟩
          have lef : ef < 4294967296 := by rw [← eef]; exact and_lt eM fM
          have bef : bits .and .u32 (e : Int) (f : Int) = (ef : Int) := by rw [u32_and_nat _ _ eM fM, eef]
          obtain ⟨ne, ene⟩ : ∃ q, 4294967295 - e = q := ⟨_, rfl⟩
          have lne : ne < 4294967296 := by omega
          have bne : (4294967295 - (e : Int)) % 4294967296 = (ne : Int) := by omega
          have bne2 : 4294967295 - (e : Int) = (ne : Int) := by omega
          obtain ⟨ng, eng⟩ : ∃ q, ne &&& g = q := ⟨_, rfl⟩
          have lng : ng < 4294967296 := by rw [← eng]; exact and_lt lne gM
          have bng : bits .and .u32 (ne : Int) (g : Int) = (ng : Int) := by rw [u32_and_nat _ _ lne gM, eng]
          obtain ⟨cv, ecv⟩ : ∃ q, ef ^^^ ng = q := ⟨_, rfl⟩
          have lcv : cv < 4294967296 := by rw [← ecv]; exact xor_lt lef lng
          have bcv : bits .xor .u32 (ef : Int) (ng : Int) = (cv : Int) := by rw [u32_xor_nat _ _ lef lng, ecv]
          obtain ⟨tt, ett⟩ : ∃ q, (hh + u1 + cv + kk + ww) % 4294967296 = q := ⟨_, rfl⟩
          have ltt : tt < 4294967296 := by rw [← ett]; exact Nat.mod_lt _ (by decide)
          have btt : ((hh : Int) + (u1 : Int) + (cv : Int) + (kk : Int) + (ww : Int)) % 4294967296 = (tt : Int) := by rw [← ett]; simp
          obtain ⟨r2, h2⟩ : ∃ r, rotr a 2 = r := ⟨_, rfl⟩
          have l2 : r2 < 4294967296 := by rw [← h2]; exact rotr_lt aM (by decide)
          obtain ⟨r13, h13⟩ : ∃ r, rotr a 13 = r := ⟨_, rfl⟩
          have l13 : r13 < 4294967296 := by rw [← h13]; exact rotr_lt aM (by decide)
          obtain ⟨r22, h22⟩ : ∃ r, rotr a 22 = r := ⟨_, rfl⟩
          have l22 : r22 < 4294967296 := by rw [← h22]; exact rotr_lt aM (by decide)
          obtain ⟨p0, ep0⟩ : ∃ q, r2 ^^^ r13 = q := ⟨_, rfl⟩
          have lp0 : p0 < 4294967296 := by rw [← ep0]; exact xor_lt l2 l13
          have bp0 : bits .xor .u32 (r2 : Int) (r13 : Int) = (p0 : Int) := by rw [u32_xor_nat _ _ l2 l13, ep0]
          obtain ⟨u0, eu0⟩ : ∃ q, p0 ^^^ r22 = q := ⟨_, rfl⟩
          have lu0 : u0 < 4294967296 := by rw [← eu0]; exact xor_lt lp0 l22
          have bu0 : bits .xor .u32 (p0 : Int) (r22 : Int) = (u0 : Int) := by rw [u32_xor_nat _ _ lp0 l22, eu0]
          obtain ⟨ab, eab⟩ : ∃ q, a &&& b = q := ⟨_, rfl⟩
          have lab : ab < 4294967296 := by rw [← eab]; exact and_lt aM bM
          have bab : bits .and .u32 (a : Int) (b : Int) = (ab : Int) := by rw [u32_and_nat _ _ aM bM, eab]
          obtain ⟨ac, eac⟩ : ∃ q, a &&& c = q := ⟨_, rfl⟩
          have lac : ac < 4294967296 := by rw [← eac]; exact and_lt aM cM
          have bac : bits .and .u32 (a : Int) (c : Int) = (ac : Int) := by rw [u32_and_nat _ _ aM cM, eac]
          obtain ⟨bc, ebc⟩ : ∃ q, b &&& c = q := ⟨_, rfl⟩
          have lbc : bc < 4294967296 := by rw [← ebc]; exact and_lt bM cM
          have bbc : bits .and .u32 (b : Int) (c : Int) = (bc : Int) := by rw [u32_and_nat _ _ bM cM, ebc]
          obtain ⟨abc, eabc⟩ : ∃ q, ab ^^^ ac = q := ⟨_, rfl⟩
          have labc : abc < 4294967296 := by rw [← eabc]; exact xor_lt lab lac
          have babc : bits .xor .u32 (ab : Int) (ac : Int) = (abc : Int) := by rw [u32_xor_nat _ _ lab lac, eabc]
          obtain ⟨mj, emj⟩ : ∃ q, abc ^^^ bc = q := ⟨_, rfl⟩
          have lmj : mj < 4294967296 := by rw [← emj]; exact xor_lt labc lbc
          have bmj : bits .xor .u32 (abc : Int) (bc : Int) = (mj : Int) := by rw [u32_xor_nat _ _ labc lbc, emj]
          obtain ⟨na, ena⟩ : ∃ q, (tt + u0 + mj) % 4294967296 = q := ⟨_, rfl⟩
          obtain ⟨t2, et2⟩ : ∃ q, (u0 + mj) % 4294967296 = q := ⟨_, rfl⟩
          have lt2 : t2 < 4294967296 := by rw [← et2]; exact Nat.mod_lt _ (by decide)
          have bt2 : ((u0 : Int) + (mj : Int)) % 4294967296 = (t2 : Int) := by rw [← et2]; simp
          have bna : ((tt : Int) + (t2 : Int)) % 4294967296 = (na : Int) := by rw [← ena, ← et2]; omega
          obtain ⟨nd, end_⟩ : ∃ q, (d + tt) % 4294967296 = q := ⟨_, rfl⟩
          have bnd : ((d : Int) + (tt : Int)) % 4294967296 = (nd : Int) := by rw [← end_]; simp
          have HNX := wall (show (St.mk a b c d e f g hh).round kk ww = St.mk na a b c nd e f g by
            have hu1 : S1 e = u1 := by unfold S1; rw [h6, h11, h25, ep1, eu1]
            have hu0 : S0 a = u0 := by unfold S0; rw [h2, h13, h22, ep0, eu0]
            have hcv : ch e f g = cv := by unfold ch; rw [eef, ene, eng, ecv]
            have hmj : maj a b c = mj := by unfold maj; rw [eab, eac, ebc, eabc, emj]
            have htt : t1 (St.mk a b c d e f g hh) kk ww = tt := by unfold t1; rw [hu1, hcv, ett]
            unfold St.round
            rw [htt, hu0, hmj, ena, end_])
          have H6 := wall (fun W => turn_q 6 _ 6 e r6 W (by decide) rfl eM (by omega) (by omega) h6)
          have H11 := wall (fun W => turn_q 11 _ 11 e r11 W (by decide) rfl eM (by omega) (by omega) h11)
          have H25 := wall (fun W => turn_q 25 _ 25 e r25 W (by decide) rfl eM (by omega) (by omega) h25)
          have H2 := wall (fun W => turn_q 2 _ 2 a r2 W (by decide) rfl aM (by omega) (by omega) h2)
          have H13 := wall (fun W => turn_q 13 _ 13 a r13 W (by decide) rfl aM (by omega) (by omega) h13)
          have H22 := wall (fun W => turn_q 22 _ 22 a r22 W (by decide) rfl aM (by omega) (by omega) h22)
          clear h6 h11 h25 h2 h13 h22 ep1 eu1 eef ene eng ecv ett ep0 eu0 eab eac ebc eabc emj ena end_ et2
          have b64 : (i : Int) < 64 := by omega
          have n64 : (0 : Int) ≤ (i : Int) := by omega
          rw [HNX.out] at HRN
          clear HNX
          go_wp2_with fail
          go_quiet ((go_at_call 126; first | with_reducible exact Calls.quiet_of (H6.out _) | with_reducible exact Calls.quiet_of (H11.out _) | with_reducible exact Calls.quiet_of (H25.out _)))
          replace K0 := wall (K0.out.drewN nq)
          replace K2 := wall (K2.out.drewN nq)
          replace K3 := wall (K3.out.drewN nq)
          replace KR := wall (KR.out.drewN nq)
          replace HB := wall (Below.drewN HB.out nq)
          generalize wr.drewN nq = w7 at *
          clear hck hcw H6 H11 H25
          go_wp2_with fail
          (with_reducible refine (H2.out _).mono ?_); rintro e w8 ⟨rfl, m1, rfl⟩
          go_wp2_with fail
          (with_reducible refine (H13.out _).mono ?_); rintro e w8 ⟨rfl, m2, rfl⟩
          go_wp2_with fail
          (with_reducible refine (H22.out _).mono ?_); rintro e w8 ⟨rfl, m3, rfl⟩
          replace K0 := wall (K0.out.drewN (m1 + m2 + m3))
          replace K2 := wall (K2.out.drewN (m1 + m2 + m3))
          replace K3 := wall (K3.out.drewN (m1 + m2 + m3))
          replace KR := wall (KR.out.drewN (m1 + m2 + m3))
          replace HB := wall (Below.drewN HB.out (m1 + m2 + m3))
          clear H2 H13 H22
          go_wp2_with fail
          go_light
          go_roundg (64 - (i + 1))
          case measure => have := HG.out; omega
          case rel =>
            exact ⟨i + 1, by have := HG.out; omega, by go_num, na, a, b, c, nd, e, f, g, (by first | rfl | rw [bna]), rfl, rfl, rfl, (by first | rfl | rw [bnd]), rfl, rfl, rfl, HRN, K0, K2, K3, KR, HB⟩
        · have hi64 : i = 64 := by omega
          have hni : ¬ ((i : Int) < 64) := by omega
          obtain ⟨vv, hvv⟩ : ∃ v, [a, b, c, d, e, f, g, hh] = v := ⟨_, rfl⟩
          have HRE := wall (show res = add8 [a0, b0, c0, d0, e0, f0, g0, h0] vv by
            rw [← HE0.out, press_eq, HWS.out, ← hvv, show St.of [a0, b0, c0, d0, e0, f0, g0, h0] = St.mk a0 b0 c0 d0 e0 f0 g0 h0 from rfl, ← hi64, HS.out]
            rfl)
          have HVL := wall (show vv.length = 8 by rw [← hvv]; rfl)
          have HVM := wall (show ∀ x ∈ vv, x < 4294967296 by
            rw [← hvv]
            intro x hx
            simp only [List.mem_cons, List.not_mem_nil, or_false] at hx
            rcases hx with rfl | rfl | rfl | rfl | rfl | rfl | rfl | rfl <;> assumption)
          have HRL := wall (show res.length = 8 by rw [HRE.out, add8, List.length_zipWith, HVL.out]; rfl)
          have HSV := wall (show (Tryd.prog.info? 118).map (·.size) = some (c32 [a, b, c, d, e, f, g, hh]).size from h_info)
          have HOV := wall (c32_one [a, b, c, d, e, f, g, hh])
          have hK3l := K3.out.lt
          clear HE0 HWS hi64 HS KR aM bM cM dM eM fM gM hM
          obtain ⟨gO, rfl⟩ : ∃ q : Nat, q = gk := ⟨_, rfl⟩
          obtain ⟨wP, rfl⟩ : ∃ q : World, q = wr := ⟨_, rfl⟩
          go_upto_region 19 with (refine wpList_new_row rfl 118 (.tmp 19) (.tmp 189) rfl wP.heap.size (c32 [a, b, c, d, e, f, g, hh]) rfl rfl 118 (c32 (List.replicate 8 0)) (Blk.new _ _ _) HSV.out rfl HOV.out wP.heap.size wP ((Below.refl _ wP).alloc (Nat.le_refl _) _) (Nat.le_refl _) ?_; intro w6 KO hB6)
          have k0 := wall (K0.out.next hB6 rfl)
          have k2 := wall (K2.out.next hB6 rfl)
          have hb6 := wall (below_then HB.out hB6 (Nat.le_refl _))
          rw [hvv] at KO
          replace KO := wall KO
          clear hB6 K0 K2 K3 HB hvv
          generalize wP.heap.size = bO at *
          go_wp2_with fail
          go_loopg [20, 190] 8 (fun g s20 s190 wr => ∃ j : Nat, j + g = 8 ∧ s190 = .int .i64 (j : Int) ∧ Wall (Blk wr w.heap.size 118 (c32 [a0, b0, c0, d0, e0, f0, g0, h0])) ∧ Wall (Blk wr (w.heap.size + 1) 118 (c32 (List.replicate 8 0))) ∧ Wall (Blk wr bO 118 (c32 (res.take j ++ vv.drop j))) ∧ Wall (Below w.heap.size w wr))
          case atStart => exact ⟨0, by omega, rfl, k0, k2, KO, hb6⟩
          case round =>
            clear k0 k2 KO hb6
            obtain ⟨j, hg, rfl, K0, K2, K3, HB⟩ := hrel
            have HG := wall hg
            have hj : j ≤ 8 := by omega
            clear hg
            by_cases hlt : j < 8
            · obtain ⟨x, hx⟩ : ∃ x, [a0, b0, c0, d0, e0, f0, g0, h0][j]? = some x := ⟨_, List.getElem?_eq_getElem (by have := HL.out; omega)⟩
              obtain ⟨y, hy⟩ : ∃ x, vv[j]? = some x := ⟨_, List.getElem?_eq_getElem (by have := HVL.out; omega)⟩
              have xM := HWD.out x (List.mem_of_getElem? hx)
              have yM := HVM.out y (List.mem_of_getElem? hy)
              have htl : (res.take j).length = j := by rw [List.length_take, HRL.out]; omega
              have hcx : wr.cell? ⟨w.heap.size, j, none⟩ = some (.int .u32 (x : Int)) := by rw [K0.out.cell]; exact c32_at hx
              have hcy : wr.cell? ⟨bO, j, none⟩ = some (.int .u32 (y : Int)) := by
                rw [K3.out.cell]
                refine c32_at ?_
                rw [List.getElem?_append_right (by omega), htl, Nat.sub_self, List.getElem?_drop, Nat.add_zero]
                exact hy
              have hfr : wr.frozen? ⟨bO, j, none⟩ = false := K3.out.frozen _
              have hrj : res[j]? = some ((x + y) % 4294967296) := by rw [HRE.out, add8, List.getElem?_zipWith, hx, hy]
              obtain ⟨z, hz⟩ : ∃ z, (x + y) % 4294967296 = z := ⟨_, rfl⟩
              rw [hz] at hrj
              have hzz : ((y : Int) + (x : Int)) % 4294967296 = (z : Int) := by rw [← hz]; simp [Int.add_comm]
              have HSET := wall (show (res.take j ++ vv.drop j).set j z = res.take (j + 1) ++ vv.drop (j + 1) by
                rw [take_snoc hrj, List.set_append_right _ _ (by omega), htl, Nat.sub_self, List.drop_eq_getElem_cons (by have := HVL.out; omega), List.set_cons_zero, List.append_assoc]
                rfl)
              have b8' : (j : Int) < 8 := by omega
              have n8 : (0 : Int) ≤ (j : Int) := by omega
              clear hx hy htl hrj hz
              go_wp2_with fail
              go_still_tail 8, (by kernel_rfl)
              change wpList _ _ _ _ _ wr.drew
              go_wp2_with fail
              go_light
              go_roundg (8 - (j + 1))
              case measure => have := HG.out; omega
              case rel =>
                refine ⟨j + 1, by have := HG.out; omega, by go_num, wall ?_, wall ?_, wall ?_, wall ?_⟩
                · exact (K0.out.far' _ _ (by omega) _)
                · exact (K2.out.far' _ _ (by omega) _)
                · have := K3.out.set j (.int .u32 (z : Int))
                  rw [c32_set, HSET.out] at this
                  exact this
                · exact Below.drewN (HB.out.setCell (p := ⟨bO, j, none⟩) (by show w.heap.size ≤ bO; omega) _) 1
            · have hj8 : j = 8 := by omega
              have hnl : ¬ ((j : Int) < 8) := by omega
              have K8 := wall (show Blk wr bO 118 (c32 res) by
                have := K3.out
                rw [hj8, List.take_of_length_le (by have := HRL.out; omega), List.drop_of_length_le (by have := HVL.out; omega), List.append_nil] at this
                exact this)
              have HSR := wall (show (Tryd.prog.info? 118).map (·.size) = some (c32 res).size by rw [c32_size, HRL.out]; exact h_info)
              have HZR := wall (show (c32 (List.replicate 8 0)).size = (c32 res).size by rw [c32_size, c32_size, HRL.out]; rfl)
              have HOR := wall (c32_one res)
              clear K3 hj8
              go_upto_region 24 with fail
              go_wp2_with (first | refine wpList_load_row rfl 118 _ rfl bO rfl 118 (c32 res) (0, 0) _ K8.out Tryd.underlying118 rfl HSR.out ?_ | refine wpList_store_row rfl 118 (.tmp 4) _ rfl (w.heap.size + 1) (c32 res) rfl rfl 118 (c32 (List.replicate 8 0)) K2.out HSR.out HZR.out HOR.out ?_)
              have hb := setRow_heap _ _ _ (c32 res) _ _ K2.out
              have hB := below_setRow HB.out (show w.heap.size ≤ w.heap.size + 1 by omega) (c32 res)
              go_light
              exact bodyPost_ret (v := .agg (c32 res)) (results_cell_row Tryd.results108 _ _ (w.heap.size + 1) 118 (c32 res) (0, 0) _ rfl hb Tryd.underlying118 rfl HSR.out) rfl ⟨rfl, hB⟩
end Sha
end Go.Proofs.YtpakdcgcgekcfaaDoor

/-
  append(s, make([]T, n)...): noughts behind a row of the call's own. No program in sight.
-/
set_option linter.unusedSimpArgs false
set_option linter.unusedVariables false
namespace Go.Proofs.YtpakdcgcgekcfaaDoor
open Go.RowKit

theorem zeroCells_one (z : Value) (m : Nat) : Builtin.zeroCells #[z] m = (List.replicate m z).toArray := by
  apply Array.ext_getElem?
  intro j
  simp only [Builtin.zeroCells]
  by_cases h : j < m
  · simp [h, Nat.mod_one]
  · rw [Array.getElem?_eq_none (by simp; omega), Array.getElem?_eq_none (by simp; omega)]
set_option maxHeartbeats 1000000 in
theorem run_append_zeros {P : Program} (w : World) (base : Nat) (t u ty e : TypeId) (i : TypeInfo) (z : Value) (ku kx : IntKind) (bytes : Nat) (ht : P.underlying t = some (.slice e)) (hu : P.underlying u = some (.int ku)) (hi : P.info? e = some i) (hz : i.zero = some z)
    (hsize : i.size = 1) (hby : i.bytes = bytes) (hzc : z.cells = #[z]) (hz1 : z.oneCell' = true) (v : Value) (n : Nat) (xs : List Value) (hown : w.ownsRow base e 1 v n xs) (hn : 0 < n) (x : Int) (m : Nat) (hx : x = m) (hm : m ≤ 1000000)
    (h63 : n + m ≤ maxLen) (hbytes : (n + m) * bytes ≤ 140737488355328) (hbase : base ≤ w.heap.size) :
    ∃ v' w', (Builtin.append_ #[t, u] ty #[v, .int kx x]).run P w = .ok v' w' ∧ w'.ownsRow base e 1 v' (n + m) (xs ++ List.replicate m z) ∧ w.grownBy w' v.ownBlock ∧ (v'.ownBlock = v.ownBlock ∨ v'.ownBlock = some w.heap.size) := by
  subst hby
  subst hx
  have hwr : IntKind.i64.wrap (m : Int) = (m : Int) := IntWalk.i64_in _ (by omega)
  have h63' : n + m ≤ 9223372036854775807 := by simp only [maxLen] at h63; omega
  have hl48 : ¬ (2 ^ 48 < (m : Int) * (i.bytes : Int)) := by
    have h : ((m * i.bytes : Nat) : Int) ≤ 140737488355328 := by
      have : m * i.bytes ≤ (n + m) * i.bytes := Nat.mul_le_mul_right _ (by omega)
      omega
    rw [Int.natCast_mul] at h
    omega
  have hl48' : ¬ (281474976710656 < (m : Int) * (i.bytes : Int)) := by simpa using hl48
  have hm0 : ¬ ((m : Int) < 0) := by omega
  rcases hown.2 with ⟨rfl, rfl⟩ | ⟨g, cap, cur, rfl, hbg, hg, hnc, hcm, hcs, htake⟩
  · omega
  · have hap : ((if m * i.size = 0 then pure #[] else do pure (Builtin.zeroCells (← zeroValue e).cells m)) : Sem (Array Value)).run P w = .ok (List.replicate m z).toArray w := by
      by_cases h : m = 0
      · subst h; simp
      · simp [hsize, h, zeroValue, typeInfo, hi, hz, hzc, zeroCells_one]
    have hap' : ((if m * i.size = 0 then pure #[] else do pure (Builtin.zeroCells (← zeroValue e).cells m)) : Sem (Array Value)).run P w.drew = .ok (List.replicate m z).toArray w.drew := by
      by_cases h : m = 0
      · subst h; simp
      · simp [hsize, h, zeroValue, typeInfo, hi, hz, hzc, zeroCells_one]
    by_cases hroom : n + m ≤ cap
    · have hst := run_storeCells_at P g n e (List.replicate m z) 0 cur w hg (by simp; omega) (fun v hv => by obtain ⟨_, rfl⟩ := List.mem_replicate.1 hv; exact hz1)
      simp only [Nat.add_zero, List.length_replicate] at hst
      refine ⟨.slice (some ⟨g, 0, none⟩) (n + m) cap, w.setRow g (cur.toList.take n ++ List.replicate m z ++ cur.toList.drop (n + m)).toArray, ?_, ⟨by simp [hown.1], .inr ⟨g, cap, _, rfl, hbg, setRow_heap w g cur _ e _ hg, hroom, hcm, ?_, ?_⟩⟩, ⟨rfl, rfl, rfl, by simp, fun k _ hk => setRow_other w g k _ (fun e => hk (by simp [Value.ownBlock, e]))⟩, .inl rfl⟩
      · by_cases h : m = 0
        · subst h
          simp only [List.replicate_zero] at hst
          have hw0 : IntKind.i64.wrap 0 = 0 := by decide
          simp [Builtin.append_, run_underlying ht, run_underlying hu, sizeOf, typeInfo, hi, asInt, asIntOf, hw0, hsize, hnc, Addr.add_lit, hst]
        · simp [Builtin.append_, run_underlying ht, run_underlying hu, sizeOf, typeInfo, zeroValue, hi, hz, asInt, asIntOf, hwr, hm0, hl48', hsize, h, hroom, hzc, zeroCells_one, Addr.add_lit, hst]
      · simp
        omega
      · have hxl : xs.length = n := by have := hown.1; omega
        simp only [Nat.mul_one] at htake ⊢
        rw [List.toList_toArray, htake]
        rw [List.take_append_of_le_length (by simp; omega), List.take_of_length_le (by simp; omega)]
    · have hh : ∀ j u, xs[j]? = some u → w.cell? ((⟨g, 0, none⟩ : Addr).add j) = some u := hown.cells (g := g) rfl
      have hfo := run_firstCells_some (P := P) w.drew 1 n ⟨g, 0, none⟩ n cap xs (by have := hown.1; omega) (by simpa using hh)
      have hfit := growslice_fits (old := cap) (bytes := i.bytes) (need := n + m) (by omega) hbytes
      have h48' : ¬ (281474976710656 < Builtin.nextslicecap (n + m) cap * i.bytes) := by omega
      have h63'' : ¬ (9223372036854775807 < ((n : Int) + (m : Int))) := by omega
      have hm1 : m ≠ 0 := by omega
      have hge := grownCap_ge w (n + m) cap e
      have hcm2 : grownCap w (n + m) cap e ≤ maxLen := grownCap_le_maxLen w (n + m) cap e h63
      refine ⟨.slice (some ⟨w.heap.size, 0, none⟩) (n + m) (grownCap w (n + m) cap e), w.drew.alloc (.cells (xs.toArray ++ (List.replicate m z).toArray ++ Builtin.zeroCells z.cells (grownCap w (n + m) cap e - (n + m))) e), ?_, ⟨by simp [hown.1], .inr ⟨w.heap.size, _, _, rfl, hbase, heap_alloc_new w.drew _, hge, hcm2, ?_, ?_⟩⟩, ⟨rfl, rfl, rfl, by simp, fun k hk _ => Below.heap_alloc w.drew _ k hk⟩, .inr rfl⟩
      · simp [Builtin.append_, run_underlying ht, run_underlying hu, sizeOf, typeInfo, zeroValue, hi, hz, asInt, asIntOf, hwr, hm0, hl48', hsize, hroom, h63'', h48', hm1, Question.forced, hfo, newRow, grownCap, hzc, zeroCells_one]
      · simp only [Array.size_append, List.size_toArray, size_zeroCells, hown.1, List.length_replicate, hzc]
        simp
        omega
      · have hxl : xs.length = n := by have := hown.1; omega
        simp only [Array.toList_append, Nat.mul_one]
        rw [List.take_append_of_le_length (by simp; omega), List.take_of_length_le (by simp; omega)]
theorem wpList_append_zeros {P : Program} {w : World} {ops : Array Oper} {rest : List Oper} {o : Oper} {a : Act} {Q : Exit → Act → World → Prop} (hgd : o.guard = none) (s x : Operand) (t u : TypeId)
    (ho : o.op = .call { callee := .builtin .append, args := #[s, x], argTypes := #[t, u] })
    (base : Nat) (e : TypeId) (i : TypeInfo) (z : Value) (ku kx : IntKind) (bytes : Nat) (ht : P.underlying t = some (.slice e)) (hu : P.underlying u = some (.int ku)) (hi : P.info? e = some i) (hz : i.zero = some z)
    (hsize : i.size = 1) (hby : i.bytes = bytes) (hzc : z.cells = #[z]) (hz1 : z.oneCell' = true) (v : Value) (n : Nat) (xs : List Value) (hs : a.eval s = v) (hown : w.ownsRow base e 1 v n xs) (hn : 0 < n) (xi : Int) (m : Nat) (hxe : a.eval x = .int kx xi) (hx : xi = m) (hm : m ≤ 1000000)
    (h63 : n + m ≤ maxLen) (hbytes : (n + m) * bytes ≤ 140737488355328) (hbase : base ≤ w.heap.size)
    (h : ∀ v' w', w'.ownsRow base e 1 v' (n + m) (xs ++ List.replicate m z) → w.grownBy w' v.ownBlock → (v'.ownBlock = v.ownBlock ∨ v'.ownBlock = some w.heap.size) → wpList P ops Q rest (a.put o.dst v') w') : wpList P ops Q (o :: rest) a w := by
  obtain ⟨v', w', hr, h2, h3, h4⟩ := run_append_zeros (P := P) w base t u o.type e i z ku kx bytes ht hu hi hz hsize hby hzc hz1 v n xs hown hn xi m hx hm h63 hbytes hbase
  refine wpList_plain hgd fun K hK => ?_
  unfold Oper.wp execOp
  simp only [ho, resolve, invoke, builtin, Sem.run_bind, Sem.run_pure, Result.andThen_ok, List.map_toArray, List.map_cons, List.map_nil, hs, hxe, hr]
  exact hK _ _ (h v' w' h2 h3 h4)
end Go.Proofs.YtpakdcgcgekcfaaDoor
