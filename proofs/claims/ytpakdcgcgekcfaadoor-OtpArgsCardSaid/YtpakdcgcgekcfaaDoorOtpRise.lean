/-
  What rises, in plain Lean: words whose bits are only set; the life, the counter, the marks of rows.
-/
import Derived.Test.YtpakdcgcgekcfaaDoorMem
import Derived.Test.YtpakdcgcgekcfaaDoorOtpRow
import Derived.Test.YtpakdcgcgekcfaaDoorCtrBits
namespace Go.Proofs.YtpakdcgcgekcfaaDoor
open Go.RowKit

namespace Otp
open Fuse
/-- Every bit of x is one of y. -/
def Sub (x y : Nat) : Prop := x ||| y = y
theorem Sub.refl (x : Nat) : Sub x x := Nat.or_self x
theorem Sub.bit {x y : Nat} (h : Sub x y) (i : Nat) (hx : x.testBit i = true) : y.testBit i = true := by
  have := congrArg (fun z => z.testBit i) h
  simp only [Nat.testBit_or, hx, Bool.true_or] at this
  exact this.symm
theorem Sub.of_bits {x y : Nat} (h : ∀ i, x.testBit i = true → y.testBit i = true) : Sub x y := by
  apply Nat.eq_of_testBit_eq
  intro i
  rw [Nat.testBit_or]
  cases hx : x.testBit i with
  | false => simp
  | true => simp [h i hx]
theorem Sub.trans {x y z : Nat} (h : Sub x y) (k : Sub y z) : Sub x z := Sub.of_bits fun i hi => k.bit i (h.bit i hi)
theorem Sub.or (x y : Nat) : Sub x (x ||| y) := Sub.of_bits fun i hi => by rw [Nat.testBit_or, hi]; rfl
theorem Sub.field {x y : Nat} (h : Sub x y) (k : Nat) : Sub (x / 2 ^ k % 256) (y / 2 ^ k % 256) := Sub.of_bits fun i hi => by
  rw [show (256 : Nat) = 2 ^ 8 from rfl, Nat.testBit_mod_two_pow, Nat.testBit_div_two_pow] at hi ⊢
  simp only [Bool.and_eq_true, decide_eq_true_eq] at hi ⊢
  exact ⟨hi.1, h.bit _ hi.2⟩
theorem ones_mono0 : ∀ a b : Fin 256, a.val ||| b.val = b.val → Lib.onesCount a.val ≤ Lib.onesCount b.val := by decide +kernel
theorem onB_mono {x y : Nat} (h : Sub x y) (i : Nat) (hx : onB x i = true) : onB y i = true := by
  unfold onB at hx ⊢
  rw [decide_eq_true_eq] at hx ⊢
  have := ones_mono0 ⟨x / 2 ^ (8 * i) % 256, Nat.mod_lt _ (by decide)⟩ ⟨y / 2 ^ (8 * i) % 256, Nat.mod_lt _ (by decide)⟩ (h.field (8 * i))
  exact Nat.le_trans hx this
theorem lifeN_mono {x y : Nat} (h : Sub x y) : ∀ n, lifeN x n ≤ lifeN y n
  | 0 => Nat.le_refl _
  | i + 1 => by
    have ih := lifeN_mono h i
    have hle := lifeN_le x i
    simp only [lifeN]
    by_cases hx : onB x i = true
    · rw [if_pos hx, if_pos (onB_mono h i hx)]
      exact Nat.le_refl _
    · rw [if_neg hx]
      split
      · omega
      · exact ih
/-- The words have kept their bits. -/
def More (vs vs' : List Nat) : Prop := vs.length = vs'.length ∧ ∀ (i x y : Nat), vs[i]? = some x → vs'[i]? = some y → Sub x y
theorem More.refl (vs : List Nat) : More vs vs := ⟨rfl, fun i x y hx hy => by rw [hx] at hy; obtain rfl := Option.some.inj hy; exact Sub.refl x⟩
theorem More.trans {a b c : List Nat} (h : More a b) (k : More b c) : More a c := ⟨h.1.trans k.1, fun i x z hx hz => by
  have hi : i < b.length := by have := (List.getElem?_eq_some_iff.1 hx).1; have := h.1; omega
  exact (h.2 i x _ hx (List.getElem?_eq_getElem hi)).trans (k.2 i _ z (List.getElem?_eq_getElem hi) hz)⟩
theorem More.set {vs : List Nat} {i x y : Nat} (hx : vs[i]? = some x) (h : Sub x y) : More vs (vs.set i y) := ⟨by simp, fun j a b ha hb => by
  by_cases hji : j = i
  · subst hji
    rw [List.getElem?_set_self (List.getElem?_eq_some_iff.1 ha).1] at hb
    rw [hx] at ha
    obtain rfl := Option.some.inj ha
    obtain rfl := Option.some.inj hb
    exact h
  · rw [List.getElem?_set_ne (fun e => hji e.symm), ha] at hb
    obtain rfl := Option.some.inj hb
    exact Sub.refl a⟩
theorem life_mono {vs vs' : List Nat} (h : More vs vs') (h0 : 0 < vs.length) : life vs ≤ life vs' := by
  obtain ⟨x, hx⟩ : ∃ x, vs[0]? = some x := ⟨_, List.getElem?_eq_getElem h0⟩
  obtain ⟨y, hy⟩ : ∃ y, vs'[0]? = some y := ⟨_, List.getElem?_eq_getElem (by rw [← h.1]; exact h0)⟩
  unfold life
  rw [hx, hy]
  exact lifeN_mono (h.2 0 x y hx hy) 4
theorem counter_mono {vs vs' : List Nat} (h : More vs vs') (hl : vs.length = 64) (hw : ∀ x ∈ vs, x < 4294967296) (hw' : ∀ x ∈ vs', x < 4294967296) : counter vs ≤ counter vs' := by
  have hl' : vs'.length = 64 := by rw [← h.1]; exact hl
  obtain ⟨a1, _⟩ := ctr_bits (cwords vs) (fun x hx => hw x (List.mem_of_mem_drop (List.mem_of_mem_take hx)))
  obtain ⟨_, b2⟩ := ctr_bits (cwords vs') (fun x hx => hw' x (List.mem_of_mem_drop (List.mem_of_mem_take hx)))
  have c1 : (cwords vs).length = 8 := by simp [cwords, hl]
  have c2 : (cwords vs').length = 8 := by simp [cwords, hl']
  have hle := ctr_le (cwords vs)
  unfold counter
  rcases Nat.lt_or_ge (ctr (cwords vs')) (ctr (cwords vs)) with hlt | hge
  · exfalso
    have hn : ctr (cwords vs') < 32 * (cwords vs').length := by omega
    have e1 := a1 _ hlt
    have e2 := b2 hn
    generalize ctr (cwords vs') = n at *
    have hi : n / 32 < 8 := by omega
    obtain ⟨x, hx⟩ : ∃ x, (cwords vs)[n / 32]? = some x := ⟨_, List.getElem?_eq_getElem (by omega)⟩
    obtain ⟨y, hy⟩ : ∃ y, (cwords vs')[n / 32]? = some y := ⟨_, List.getElem?_eq_getElem (by omega)⟩
    rw [hx, Option.getD_some, bit_tb] at e1
    rw [hy, Option.getD_some, bit_tb] at e2
    have hx' : vs[1 + n / 32]? = some x := by rw [cwords, List.getElem?_take, if_pos hi, List.getElem?_drop] at hx; exact hx
    have hy' : vs'[1 + n / 32]? = some y := by rw [cwords, List.getElem?_take, if_pos hi, List.getElem?_drop] at hy; exact hy
    have hb : x.testBit (n % 32) = true := by cases hq : x.testBit (n % 32) <;> simp [hq] at e1 ⊢
    rw [(h.2 _ x y hx' hy').bit _ hb] at e2
    simp at e2
  · omega
/-- Writes that may be done, one behind the other. -/
def okL : List Nat → List (Nat × Nat) → Prop
  | _, [] => True
  | vs, p :: r => (∃ old, vs[p.1]? = some old ∧ Sub old p.2) ∧ p.2 < 4294967296 ∧ okL (vs.set p.1 p.2) r
def setAll : List Nat → List (Nat × Nat) → List Nat
  | vs, [] => vs
  | vs, p :: r => setAll (vs.set p.1 p.2) r
theorem sub_and {x v : Nat} (h : Sub x v) (hv : v < 4294967296) : x &&& (4294967295 - v) = 0 := by
  apply Nat.eq_of_testBit_eq
  intro i
  rw [Nat.testBit_and, bit_not' v i hv, Nat.zero_testBit]
  cases hx : x.testBit i with
  | false => rfl
  | true => simp [h.bit i hx]
theorem setAll_length : ∀ (l : List (Nat × Nat)) (vs : List Nat), (setAll vs l).length = vs.length
  | [], _ => rfl
  | p :: r, vs => by rw [setAll, setAll_length r, List.length_set]
theorem setAll_more : ∀ (l : List (Nat × Nat)) (vs : List Nat), okL vs l → More vs (setAll vs l)
  | [], vs, _ => More.refl vs
  | p :: r, vs, h => by
    obtain ⟨⟨old, ho, hs⟩, _, hr⟩ := h
    exact (More.set ho hs).trans (setAll_more r _ hr)
theorem okL_take : ∀ (l : List (Nat × Nat)) (vs : List Nat) (n : Nat), okL vs l → okL vs (l.take n)
  | [], _, n, h => by simpa using h
  | _ :: _, _, 0, _ => trivial
  | p :: r, vs, n + 1, h => ⟨h.1, h.2.1, okL_take r _ n h.2.2⟩
theorem okL_at : ∀ (l : List (Nat × Nat)) (vs : List Nat) (n : Nat) (p : Nat × Nat), okL vs l → l[n]? = some p → ∃ old, (setAll vs (l.take n))[p.1]? = some old ∧ Sub old p.2 ∧ p.2 < 4294967296
  | q :: r, vs, 0, p, h, hp => by
    simp only [List.getElem?_cons_zero, Option.some.injEq] at hp
    subst hp
    obtain ⟨⟨old, ho, hs⟩, hb, _⟩ := h
    exact ⟨old, ho, hs, hb⟩
  | q :: r, vs, n + 1, p, h, hp => okL_at r _ n p h.2.2 (by simpa using hp)
theorem setAll_far : ∀ (l : List (Nat × Nat)) (vs : List Nat) (i : Nat), (∀ p ∈ l, p.1 ≠ i) → (setAll vs l)[i]? = vs[i]?
  | [], _, _, _ => rfl
  | p :: r, vs, i, h => by
    rw [setAll, setAll_far r _ i (fun q hq => h q (by simp [hq])), List.getElem?_set_ne (h p (by simp))]
theorem okL_append : ∀ (l r : List (Nat × Nat)) (vs : List Nat), okL vs l → okL (setAll vs l) r → okL vs (l ++ r)
  | [], _, _, _, h => h
  | p :: l, r, vs, h, k => ⟨h.1, h.2.1, okL_append l r _ h.2.2 k⟩
theorem okL_plan : ∀ (l : List Nat) (vs : List Nat) (f : Nat), f + l.length ≤ vs.length → (∀ (i x : Nat), vs[i]? = some x → x < 4294967296) → (∀ x ∈ l, x < 4294967296) → okL vs (planOf vs f l)
  | [], _, _, _, _, _ => trivial
  | v :: r, vs, f, hf, hw, hl => by
    simp only [List.length_cons] at hf
    obtain ⟨old, ho⟩ : ∃ old, vs[f]? = some old := ⟨_, List.getElem?_eq_getElem (by omega)⟩
    rw [planOf, ho, Option.getD_some]
    by_cases hs : old ||| v = old
    · rw [if_pos hs, List.nil_append]
      exact okL_plan r vs (f + 1) (by omega) hw (fun x hx => hl x (by simp [hx]))
    · rw [if_neg hs]
      have hv : v < 4294967296 := hl v (by simp)
      have hy : old ||| v < 4294967296 := or_lt (hw f old ho) hv
      refine ⟨⟨old, ho, Sub.or old v⟩, hy, ?_⟩
      have e : planOf vs (f + 1) r = planOf (vs.set f (old ||| v)) (f + 1) r := planOf_congr r (f + 1) (fun j hj => by rw [List.getElem?_set_ne (by omega)])
      show okL (vs.set f (old ||| v)) (planOf vs (f + 1) r)
      rw [e]
      refine okL_plan r _ (f + 1) (by rw [List.length_set]; omega) (fun i x hx => ?_) (fun x hx => hl x (by simp [hx]))
      by_cases hif : f = i
      · subst hif
        rw [List.getElem?_set_self (by omega)] at hx
        obtain rfl := Option.some.inj hx
        exact hy
      · rw [List.getElem?_set_ne hif] at hx
        exact hw i x hx
theorem okL_numb : ∀ (ws vs : List Nat) (f : Nat), (∀ j, j < ws.length → vs[f + j]? = some 0) → (∀ x ∈ ws, x < 4294967296) → okL vs (numb f ws)
  | [], _, _, _, _ => trivial
  | x :: r, vs, f, h, hw => by
    refine ⟨⟨0, by simpa using h 0 (by simp), by simp [Sub]⟩, hw x (by simp), okL_numb r _ (f + 1) (fun j hj => ?_) (fun y hy => hw y (by simp [hy]))⟩
    rw [List.getElem?_set_ne (by omega)]
    have := h (j + 1) (by simp; omega)
    rw [← this]
    congr 1
    omega
theorem numb_mem : ∀ (ws : List Nat) (f : Nat) (p : Nat × Nat), p ∈ numb f ws → f ≤ p.1 ∧ p.1 < f + ws.length
  | x :: r, f, p, h => by
    simp only [numb, List.mem_cons] at h
    rcases h with rfl | h
    · simp
    · have := numb_mem r (f + 1) p h
      simp only [List.length_cons]
      omega
theorem okL_row (vs : List Nat) (k : Nat) (ws : List Nat) (hl : vs.length = 64) (hk : k < 4) (hz : rowZ vs k = true) (hw : ws.length = 8) (hb : ∀ x ∈ ws, x < 4294967296) : okL vs (rowL k ws) := by
  have hz' : ∀ j, j < 9 → vs[27 + 9 * k + j]? = some 0 := fun j hj => by
    unfold rowZ at hz
    rw [List.all_eq_true] at hz
    have hr : (rowW vs k)[j]? = vs[27 + 9 * k + j]? := by unfold rowW; rw [List.getElem?_take, if_pos hj, List.getElem?_drop]
    obtain ⟨x, hx⟩ : ∃ x, vs[27 + 9 * k + j]? = some x := ⟨_, List.getElem?_eq_getElem (by omega)⟩
    rw [← hr] at hx
    have := hz x (List.mem_of_getElem? hx)
    rw [hr] at hx
    rw [hx]
    simpa using this
  unfold rowL
  refine okL_append _ _ _ ?_ ?_
  · refine ⟨⟨0, ?_, by simp [Sub]⟩, show (16711680 : Nat) < 4294967296 by decide, okL_numb ws _ _ (fun j hj => ?_) hb⟩
    · have := hz' 8 (by omega)
      rw [show 35 + 9 * k = 27 + 9 * k + 8 by omega]
      exact this
    · rw [List.getElem?_set_ne (by omega)]
      exact hz' j (by omega)
  · refine ⟨⟨16711680, ?_, ?_⟩, show (16711935 : Nat) < 4294967296 by decide, trivial⟩
    · show (setAll (vs.set (35 + 9 * k) 16711680) (numb (27 + 9 * k) ws))[35 + 9 * k]? = some 16711680
      rw [setAll_far _ _ _ (fun p hp => by have := numb_mem _ _ p hp; omega), List.getElem?_set_self (by omega)]
    · show (16711680 : Nat) ||| 16711935 = 16711935
      decide
/-- What Do answers of such writes. -/
theorem doL_ok : ∀ (l : List (Nat × Nat)) (vs : List Nat), okL vs l → (∀ p ∈ l, p.1 < vs.length) → doL vs l = (0, setAll vs l)
  | [], _, _, _ => rfl
  | p :: r, vs, h, hi => by
    obtain ⟨⟨old, ho, hs⟩, hb, hr⟩ := h
    have hlt : p.1 < vs.length := hi p (by simp)
    have hin : inR vs (p.1 : Int) = true := by simp [inR]; omega
    have hc : cutE vs (p.1 : Int) p.2 = 0 := by
      unfold cutE
      rw [if_pos hin]
      simp [ho, sub_and hs hb]
    have hv : cutV vs (p.1 : Int) p.2 4294967295 = vs.set p.1 p.2 := by
      unfold cutV
      rw [if_pos hc]
      simp only [Int.toNat_natCast, ho, Option.getD_some]
      have hfull : p.2 &&& 4294967295 = p.2 := by
        have := Nat.and_two_pow_sub_one_eq_mod p.2 32
        rw [show (4294967295 : Nat) = 2 ^ 32 - 1 by decide, this]
        exact Nat.mod_eq_of_lt hb
      rw [hfull, show old ||| p.2 = p.2 from hs]
    rw [doL, if_pos hc, hv, setAll]
    exact doL_ok r _ hr (fun q hq => by rw [List.length_set]; exact hi q (by simp [hq]))
/-- A row's key, where there is one. -/
def rowKey (vs : List Nat) (r : Nat) : List Nat := (vs.drop (27 + 9 * r)).take 8
def rowE (vs : List Nat) (r : Nat) : Int := if onB (vs[35 + 9 * r]?.getD 0) 1 = true then 17 else if onB (vs[35 + 9 * r]?.getD 0) 0 = true then 0 else 3
theorem onB_zero (i : Nat) : onB 0 i = false := by
  unfold onB
  rw [Nat.zero_div]
  rfl
/-- A row that has a key isn't empty. -/
theorem rowE_full {vs : List Nat} {r : Nat} (hl : vs.length = 64) (hr : r < 4) (h : rowE vs r = 0) : rowZ vs r = false := by
  cases hz : rowZ vs r with
  | false => rfl
  | true =>
    exfalso
    unfold rowZ at hz
    rw [List.all_eq_true] at hz
    obtain ⟨x, hx⟩ : ∃ x, vs[35 + 9 * r]? = some x := ⟨_, List.getElem?_eq_getElem (by omega)⟩
    have hr8 : (rowW vs r)[8]? = some x := by
      unfold rowW
      rw [List.getElem?_take, if_pos (by omega), List.getElem?_drop, show 27 + 9 * r + 8 = 35 + 9 * r by omega]
      exact hx
    have := hz x (List.mem_of_getElem? hr8)
    have hx0 : x = 0 := by simpa using this
    unfold rowE at h
    rw [hx, hx0, Option.getD_some, onB_zero, onB_zero] at h
    simp at h
/-- Behind writes that keep its words a key is the same, or dead; and dead stays dead. -/
theorem row_mono {vs vs' : List Nat} {r : Nat} (hm : More vs vs') (hl : vs.length = 64) (hr : r < 4) (hk : rowE vs r = 0 → rowKey vs' r = rowKey vs r) :
    (rowE vs r = 0 → rowE vs' r = 17 ∨ (rowE vs' r = 0 ∧ rowKey vs' r = rowKey vs r)) ∧ (rowE vs r = 17 → rowE vs' r = 17) := by
  obtain ⟨x, hx⟩ : ∃ x, vs[35 + 9 * r]? = some x := ⟨_, List.getElem?_eq_getElem (by omega)⟩
  obtain ⟨y, hy⟩ : ∃ y, vs'[35 + 9 * r]? = some y := ⟨_, List.getElem?_eq_getElem (by have := hm.1; omega)⟩
  have hs := hm.2 _ x y hx hy
  constructor
  · intro h
    have hk' := hk h
    unfold rowE at h ⊢
    rw [hx, Option.getD_some] at h
    rw [hy, Option.getD_some]
    by_cases h1 : onB y 1 = true
    · left; rw [if_pos h1]
    · right
      have h0 : onB x 0 = true := by
        by_cases hq : onB x 0 = true
        · exact hq
        · exfalso
          rw [if_neg hq] at h
          split at h <;> simp at h
      rw [if_neg h1, if_pos (onB_mono hs 0 h0)]
      exact ⟨rfl, hk'⟩
  · intro h
    unfold rowE at h ⊢
    rw [hx, Option.getD_some] at h
    rw [hy, Option.getD_some]
    have h1 : onB x 1 = true := by
      by_cases hq : onB x 1 = true
      · exact hq
      · exfalso
        rw [if_neg hq] at h
        split at h <;> simp at h
    rw [if_pos (onB_mono hs 1 h1)]
end Otp
end Go.Proofs.YtpakdcgcgekcfaaDoor
