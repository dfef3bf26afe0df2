/-
  Plain law of OtpReaches: each plan, done wholly.
-/
import Derived.Test.YtpakdcgcgekcfaaDoorMem
import Derived.Test.YtpakdcgcgekcfaaDoorOtpKilled
import Derived.Test.YtpakdcgcgekcfaaDoorCtrBits
import Derived.Test.YtpakdcgcgekcfaaDoorOtpOct
namespace Go.Proofs.YtpakdcgcgekcfaaDoor
open Go.RowKit

namespace Otp
open Fuse R1
theorem orAt_length : ∀ (l vs : List Nat) (f : Nat), (orAt vs f l).length = vs.length
  | [], _, _ => rfl
  | v :: r, vs, f => by rw [orAt, orAt_length r, List.length_set]
theorem orAt_far : ∀ (l vs : List Nat) (f i : Nat), (i < f ∨ f + l.length ≤ i) → (orAt vs f l)[i]? = vs[i]?
  | [], _, _, _, _ => rfl
  | v :: r, vs, f, i, h => by
    simp only [List.length_cons] at h
    rw [orAt, orAt_far r _ _ i (by omega), List.getElem?_set_ne (by omega)]
theorem orAt_at : ∀ (l vs : List Nat) (f j x : Nat), f + l.length ≤ vs.length → l[j]? = some x → ∃ o, vs[f + j]? = some o ∧ (orAt vs f l)[f + j]? = some (o ||| x)
  | v :: r, vs, f, 0, x, hf, hx => by
    simp only [List.length_cons] at hf
    simp only [List.getElem?_cons_zero, Option.some.injEq] at hx
    subst hx
    refine ⟨vs[f]'(by omega), List.getElem?_eq_getElem (by omega), ?_⟩
    rw [orAt, orAt_far r _ _ _ (by omega), Nat.add_zero, List.getElem?_set_self (by omega), List.getElem?_eq_getElem (by omega)]
    rfl
  | v :: r, vs, f, j + 1, x, hf, hx => by
    simp only [List.length_cons] at hf
    obtain ⟨o, h1, h2⟩ := orAt_at r (vs.set f ((vs[f]?.getD 0) ||| v)) (f + 1) j x (by rw [List.length_set]; omega) (by simpa using hx)
    rw [show f + (j + 1) = f + 1 + j by omega]
    rw [List.getElem?_set_ne (by omega)] at h1
    exact ⟨o, h1, h2⟩
theorem planOf_nil : ∀ (l vs : List Nat) (f : Nat), (∀ (j x : Nat), l[j]? = some x → ∃ o, vs[f + j]? = some o ∧ o ||| x = o) → planOf vs f l = []
  | [], _, _, _ => rfl
  | v :: r, vs, f, h => by
    obtain ⟨o, h1, h2⟩ := h 0 v rfl
    rw [Nat.add_zero] at h1
    rw [planOf, h1, Option.getD_some, if_pos h2, List.nil_append]
    exact planOf_nil r vs (f + 1) (fun j x hx => by
      obtain ⟨o, h3, h4⟩ := h (j + 1) x (by simpa using hx)
      exact ⟨o, by rw [show f + 1 + j = f + (j + 1) by omega]; exact h3, h4⟩)
structure Planned (vs : List Nat) (f : Nat) (l vs' : List Nat) : Prop where
  do_ : doL vs (planOf vs f l) = (0, vs')
  len : vs'.length = 64
  word : ∀ (i x : Nat), vs'[i]? = some x → x < 4294967296
  at_ : ∀ (j x : Nat), l[j]? = some x → ∃ o, vs[f + j]? = some o ∧ vs'[f + j]? = some (o ||| x)
  far : ∀ i, i < f ∨ f + l.length ≤ i → vs'[i]? = vs[i]?
  again : planOf vs' f l = []
theorem planned (vs : List Nat) (f : Nat) (l : List Nat) (hl : vs.length = 64) (hw : ∀ (i x : Nat), vs[i]? = some x → x < 4294967296) (hf : f + l.length ≤ 64) (hb : ∀ x ∈ l, x < 4294967296) : Planned vs f l (orAt vs f l) := by
  refine ⟨doL_plan l vs f (by omega) hw hb, by rw [orAt_length, hl], fun i x hx => ?_, fun j x hx => orAt_at l vs f j x (by omega) hx, fun i hi => orAt_far l vs f i hi, planOf_nil l _ f (fun j x hx => ?_)⟩
  · by_cases hi : i < f ∨ f + l.length ≤ i
    · rw [orAt_far l vs f i hi] at hx
      exact hw i x hx
    · obtain ⟨v, hv⟩ : ∃ v, l[i - f]? = some v := ⟨_, List.getElem?_eq_getElem (by omega)⟩
      obtain ⟨o, h1, h2⟩ := orAt_at l vs f (i - f) v (by omega) hv
      rw [show f + (i - f) = i by omega] at h1 h2
      rw [h2] at hx
      cases hx
      exact or_lt (hw i o h1) (hb v (List.mem_of_getElem? hv))
  · obtain ⟨o, _, h2⟩ := orAt_at l vs f j x (by omega) hx
    exact ⟨_, h2, by rw [Nat.or_assoc, Nat.or_self]⟩
/-- A field of ones. -/
theorem ones_bit (m j : Nat) : (255 * 2 ^ (8 * m)).testBit j = decide (8 * m ≤ j ∧ j < 8 * m + 8) := by
  rw [← Nat.shiftLeft_eq, Nat.testBit_shiftLeft, show (255 : Nat) = 2 ^ 8 - 1 from rfl, Nat.testBit_two_pow_sub_one]
  by_cases h : 8 * m ≤ j
  · simp [h]
    omega
  · simp [h]
theorem field_or {x m i : Nat} (h : i ≠ m) : (x ||| 255 * 2 ^ (8 * m)) / 2 ^ (8 * i) % 256 = x / 2 ^ (8 * i) % 256 := by
  apply Nat.eq_of_testBit_eq
  intro j
  rw [show (256 : Nat) = 2 ^ 8 from rfl, Nat.testBit_mod_two_pow, Nat.testBit_mod_two_pow, Nat.testBit_div_two_pow, Nat.testBit_div_two_pow, Nat.testBit_or, ones_bit]
  by_cases hj : j < 8
  · have : ¬ (8 * m ≤ j + 8 * i ∧ j + 8 * i < 8 * m + 8) := by omega
    simp [hj, this]
  · simp [hj]
theorem field_on (x m : Nat) : (x ||| 255 * 2 ^ (8 * m)) / 2 ^ (8 * m) % 256 = 255 := by
  apply Nat.eq_of_testBit_eq
  intro j
  rw [show (256 : Nat) = 2 ^ 8 from rfl, Nat.testBit_mod_two_pow, Nat.testBit_div_two_pow, Nat.testBit_or, ones_bit, show (255 : Nat) = 2 ^ 8 - 1 from rfl, Nat.testBit_two_pow_sub_one]
  by_cases hj : j < 8
  · have : 8 * m ≤ j + 8 * m ∧ j + 8 * m < 8 * m + 8 := by omega
    simp [hj, this]
  · simp [hj]
theorem on_full : onB 255 0 = true := by decide +kernel
theorem on_ones (x m : Nat) : onB (x ||| 255 * 2 ^ (8 * m)) m = true := by
  have h := on_full
  unfold onB at h ⊢
  rw [field_on]
  simpa using h
theorem on_else {x m i : Nat} (h : i ≠ m) : onB (x ||| 255 * 2 ^ (8 * m)) i = onB x i := by
  unfold onB
  rw [field_or h]
theorem lifeN_to {x k m : Nat} (hk : k = m + 1) (n : Nat) (h : k ≤ n) (hx : lifeN x n < k) : lifeN (x ||| 255 * 2 ^ (8 * m)) n = k := by
  induction n with
  | zero => omega
  | succ n ih =>
    simp only [lifeN] at hx ⊢
    by_cases e : n = m
    · rw [e, on_ones, if_pos rfl, hk]
    · have hn : onB x n = false := by
        cases hq : onB x n with
        | false => rfl
        | true => rw [hq, if_pos rfl] at hx; omega
      rw [hn] at hx
      rw [on_else e, hn]
      simp only [Bool.false_eq_true, if_false] at hx ⊢
      exact ih (by omega) hx
theorem reach_life {vs : List Nat} {k : Nat} (hl : vs.length = 64) (hw : ∀ (i x : Nat), vs[i]? = some x → x < 4294967296) (h : tlE vs (k : Int) = 0) :
    ∃ vs', Planned vs 0 [255 * 2 ^ (8 * (k - 1))] vs' ∧ tlL vs (k : Int) = planOf vs 0 [255 * 2 ^ (8 * (k - 1))] ∧ life vs' = k := by
  have hk : 1 ≤ k ∧ k ≤ 4 ∧ life vs < k := by
    unfold tlE at h
    split at h
    · cases h
    · split at h
      · cases h
      · omega
  have hp := planned vs 0 [255 * 2 ^ (8 * (k - 1))] hl hw (by simp) (fun x hx => by
    simp only [List.mem_cons, List.not_mem_nil, or_false] at hx
    subst hx
    exact (life_word _).2 (.inl (by omega)))
  refine ⟨_, hp, by unfold tlL; rw [if_pos h]; simp, ?_⟩
  obtain ⟨o, h1, h2⟩ := hp.at_ 0 _ rfl
  rw [Nat.add_zero] at h1 h2
  have h3 := hk.2.2
  unfold life at h3 ⊢
  rw [h1] at h3
  rw [h2]
  exact lifeN_to (by omega) 4 hk.2.1 h3
theorem lw_bit (m : Nat) : ∀ n, m < n → n ≤ 256 → ((lw n)[m / 32]?.getD 0).testBit (m % 32) = true
  | 0, h, _ => by omega
  | n + 1, h, hn => by
    have hlen : n / 32 < (lw n).length := by rw [lw_length]; omega
    simp only [lw]
    by_cases e : m = n
    · subst e
      rw [List.getElem?_set_self hlen, Option.getD_some, Nat.testBit_or, Nat.testBit_two_pow_self, Bool.or_true]
    · have ih := lw_bit m n (by omega) (by omega)
      by_cases e2 : n / 32 = m / 32
      · rw [e2, List.getElem?_set_self (by omega), Option.getD_some, Nat.testBit_or, ih, Bool.true_or]
      · rw [List.getElem?_set_ne e2]
        exact ih
theorem lw_nobit (m : Nat) : ∀ n, n ≤ m → n ≤ 256 → ((lw n)[m / 32]?.getD 0).testBit (m % 32) = false
  | 0, _, _ => by
    rw [lw, List.getElem?_replicate]
    split <;> simp
  | n + 1, h, hn => by
    have hlen : n / 32 < (lw n).length := by rw [lw_length]; omega
    have ih := lw_nobit m n (by omega) (by omega)
    simp only [lw]
    by_cases e2 : n / 32 = m / 32
    · rw [e2, List.getElem?_set_self (by omega), Option.getD_some, Nat.testBit_or, ih, Bool.false_or, Nat.testBit_two_pow]
      simp
      omega
    · rw [List.getElem?_set_ne e2]
      exact ih
theorem bit_of (x t : Nat) : x / 2 ^ t % 2 = 1 ↔ x.testBit t = true := by
  rw [bit_tb]
  cases x.testBit t <;> simp
theorem reach_count {vs : List Nat} {k : Nat} (hl : vs.length = 64) (hw : ∀ (i x : Nat), vs[i]? = some x → x < 4294967296) (h : tcE vs (k : Int) = 0) :
    ∃ vs', Planned vs 1 (lw k) vs' ∧ tcL vs (k : Int) = planOf vs 1 (lw k) ∧ k ≤ 255 ∧ k ≤ counter vs' ∧ (counter vs' = k ∨ (vs[1 + k / 32]?.getD 0) / 2 ^ (k % 32) % 2 = 1) := by
  have hk : k ≤ 255 := by
    unfold tcE at h
    split at h
    · cases h
    · omega
  have hp := planned vs 1 (lw k) hl hw (by rw [lw_length]; omega) (fun x hx => by
    obtain ⟨j, hj⟩ := List.mem_iff_getElem?.1 hx
    exact lw_word _ j x hj)
  refine ⟨_, hp, by unfold tcL; rw [if_pos h]; simp, hk, ?_⟩
  generalize orAt vs 1 (lw k) = vs' at *
  have hcl : (cwords vs').length = 8 := by simp [cwords, hp.len]
  have hcat : ∀ i, i < 8 → ∃ o v, vs[1 + i]? = some o ∧ (lw k)[i]? = some v ∧ (cwords vs')[i]? = some (o ||| v) := fun i hi => by
    obtain ⟨v, hv⟩ : ∃ v, (lw k)[i]? = some v := ⟨_, List.getElem?_eq_getElem (by rw [lw_length]; exact hi)⟩
    obtain ⟨o, h1, h2⟩ := hp.at_ i v hv
    refine ⟨o, v, h1, hv, ?_⟩
    unfold cwords
    rw [List.getElem?_take, if_pos hi, List.getElem?_drop]
    exact h2
  obtain ⟨c1, c2⟩ := ctr_bits (cwords vs') (fun x hx => by
    obtain ⟨j, hj⟩ := List.mem_iff_getElem?.1 (List.mem_of_mem_drop (List.mem_of_mem_take hx))
    exact hp.word j x hj)
  rw [hcl] at c2
  have hge : k ≤ ctr (cwords vs') := by
    rcases Nat.lt_or_ge (ctr (cwords vs')) k with hlt | hge
    · exfalso
      have := c2 (by omega)
      obtain ⟨o, v, _, hv, hc⟩ := hcat (ctr (cwords vs') / 32) (by omega)
      rw [hc, Option.getD_some] at this
      have hb := lw_bit (ctr (cwords vs')) k hlt (by omega)
      rw [hv, Option.getD_some] at hb
      have : (o ||| v) / 2 ^ (ctr (cwords vs') % 32) % 2 = 1 := (bit_of _ _).2 (by rw [Nat.testBit_or, hb, Bool.or_true])
      omega
    · exact hge
  have hcnt : counter vs' = min (ctr (cwords vs')) 255 := rfl
  refine ⟨by omega, ?_⟩
  by_cases e : ctr (cwords vs') = k
  · left; omega
  by_cases e2 : k = 255
  · left; omega
  · right
    have := c1 k (by omega)
    obtain ⟨o, v, ho, hv, hc⟩ := hcat (k / 32) (by omega)
    rw [hc, Option.getD_some] at this
    have hb := lw_nobit k k (Nat.le_refl _) (by omega)
    rw [hv, Option.getD_some] at hb
    have h3 := (bit_of _ _).1 this
    rw [Nat.testBit_or, hb, Bool.or_false] at h3
    rw [ho, Option.getD_some]
    exact (bit_of _ _).2 h3
theorem badF_at : ∀ (l vs : List Nat) (f : Nat), badF vs f l = false → ∀ (j x o : Nat), l[j]? = some x → vs[f + j]? = some o → o &&& (4294967295 - x) = 0
  | v :: r, vs, f, h, 0, x, o, hx, ho => by
    simp only [badF, Bool.or_eq_false_iff, decide_eq_false_iff_not] at h
    simp only [List.getElem?_cons_zero, Option.some.injEq] at hx
    subst hx
    rw [Nat.add_zero] at ho
    have := h.1
    rw [ho, Option.getD_some] at this
    simpa using this
  | v :: r, vs, f, h, j + 1, x, o, hx, ho => by
    simp only [badF, Bool.or_eq_false_iff] at h
    exact badF_at r vs (f + 1) h.2 j x o (by simpa using hx) (by rw [show f + 1 + j = f + (j + 1) by omega]; exact ho)
theorem sub_of_and {o x : Nat} (ho : o < 4294967296) (hx : x < 4294967296) (h : o &&& (4294967295 - x) = 0) : o ||| x = x := by
  apply Nat.eq_of_testBit_eq
  intro i
  have := congrArg (fun z => z.testBit i) h
  simp only [Nat.testBit_and, bit_not' x i hx, Nat.zero_testBit] at this
  rw [Nat.testBit_or]
  cases hb : x.testBit i with
  | true => simp
  | false =>
    rw [hb] at this
    by_cases hi : i < 32
    · simp [hi] at this
      simp [this]
    · have : o.testBit i = false := Nat.testBit_lt_two_pow (Nat.lt_of_lt_of_le (show o < 2 ^ 32 by omega) (Nat.pow_le_pow_right (by decide) (by omega)))
      simp [this]
theorem reach_key {vs ks : List Nat} (hl : vs.length = 64) (hw : ∀ (i x : Nat), vs[i]? = some x → x < 4294967296) (hkl : ks.length = 32) (hk : ∀ x ∈ ks, x < 256) (h : tkE vs (ks ++ ks.take 24) (ks.take 16) = 0) :
    ∃ vs', Planned vs 9 (tkW (ks ++ ks.take 24) (ks.take 16)) vs' ∧ tkL vs (ks ++ ks.take 24) (ks.take 16) = planOf vs 9 (tkW (ks ++ ks.take 24) (ks.take 16)) ∧ (tkW (ks ++ ks.take 24) (ks.take 16)).length = 18 ∧ wordsB (keyW vs') = ks ++ ks.take 24 ∧ wordsB (idW vs') = ks.take 16 := by
  have h24 : (ks.take 24).length = 24 := by rw [List.length_take]; omega
  have h16 : (ks.take 16).length = 16 := by rw [List.length_take]; omega
  have hb1 : ∀ x ∈ ks ++ ks.take 24, x < 256 := fun x hx => by
    rcases List.mem_append.1 hx with h | h
    · exact hk x h
    · exact hk x (List.mem_of_mem_take h)
  have hb2 : ∀ x ∈ ks.take 16, x < 256 := fun x hx => hk x (List.mem_of_mem_take hx)
  have hl1 : (words4 (ks ++ ks.take 24)).length = 14 := by rw [words4_length, List.length_append, h24, hkl]
  have hl2 : (words4 (ks.take 16)).length = 4 := by rw [words4_length, h16]
  have hlen : (tkW (ks ++ ks.take 24) (ks.take 16)).length = 18 := by unfold tkW; rw [List.length_append, hl1, hl2]
  have hwb : ∀ x ∈ tkW (ks ++ ks.take 24) (ks.take 16), x < 4294967296 := fun x hx => by
    unfold tkW at hx
    rcases List.mem_append.1 hx with h | h
    · exact words4_lt _ hb1 x h
    · exact words4_lt _ hb2 x h
  have hp := planned vs 9 (tkW (ks ++ ks.take 24) (ks.take 16)) hl hw (by omega) hwb
  refine ⟨_, hp, by unfold tkL; rw [if_pos h], hlen, ?_⟩
  generalize orAt vs 9 (tkW (ks ++ ks.take 24) (ks.take 16)) = vs' at *
  have hbad : badF vs 9 (tkW (ks ++ ks.take 24) (ks.take 16)) = false := by
    unfold tkE at h
    split at h
    · cases h
    · split at h
      · cases h
      · split at h
        · cases h
        · rename_i hq
          simpa using hq
  have hat : ∀ (j x : Nat), (tkW (ks ++ ks.take 24) (ks.take 16))[j]? = some x → vs'[9 + j]? = some x := fun j x hx => by
    obtain ⟨o, h1, h2⟩ := hp.at_ j x hx
    rw [h2, sub_of_and (hw _ _ h1) (hwb x (List.mem_of_getElem? hx)) (badF_at _ _ _ hbad j x o hx h1)]
  have e1 : keyW vs' = words4 (ks ++ ks.take 24) := by
    unfold keyW
    apply List.ext_getElem?
    intro j
    rw [List.getElem?_take]
    split
    · rename_i hj
      obtain ⟨x, hx⟩ : ∃ x, (words4 (ks ++ ks.take 24))[j]? = some x := ⟨_, List.getElem?_eq_getElem (by omega)⟩
      rw [List.getElem?_drop, hx]
      refine hat j x ?_
      unfold tkW
      rw [List.getElem?_append_left (by omega)]
      exact hx
    · rw [List.getElem?_eq_none (by omega)]
  have e2 : idW vs' = words4 (ks.take 16) := by
    unfold idW
    apply List.ext_getElem?
    intro j
    rw [List.getElem?_take]
    split
    · rename_i hj
      obtain ⟨x, hx⟩ : ∃ x, (words4 (ks.take 16))[j]? = some x := ⟨_, List.getElem?_eq_getElem (by omega)⟩
      rw [List.getElem?_drop, hx, show 23 + j = 9 + (14 + j) by omega]
      refine hat (14 + j) x ?_
      unfold tkW
      rw [List.getElem?_append_right (by omega), hl1, show 14 + j - 14 = j by omega]
      exact hx
    · rw [List.getElem?_eq_none (by omega)]
  rw [e1, e2, wordsB_words4 14 _ (by rw [List.length_append, h24, hkl]) hb1, wordsB_words4 4 _ (by omega) hb2]
  exact ⟨rfl, rfl⟩
/-- A plan that is done is done. -/
theorem plL_again {vs vs' : List Nat} {d : Nat} {n : Int} {ks : List Nat} (hl : vs.length = 64) (hw : ∀ (i x : Nat), vs[i]? = some x → x < 4294967296) (hkl : ks.length = 32) (hk : ∀ x ∈ ks, x < 256) (hE : plE vs d n ks = 0) (hd : doL vs (plL vs d n ks) = (0, vs')) :
    d % 5 = 0 ∨ d % 5 = 3 ∨ plL vs' d n ks = [] := by
  have h5 : d % 5 < 5 := Nat.mod_lt _ (by decide)
  have c5 : d % 5 = 0 ∨ d % 5 = 1 ∨ d % 5 = 2 ∨ d % 5 = 3 ∨ d % 5 = 4 := by omega
  rcases c5 with q | q | q | q | q
  · exact .inl q
  · right; right
    simp only [plE, plL, q, Nat.one_ne_zero, if_true, if_false] at hE hd ⊢
    have hn : 0 ≤ n := by
      unfold tcE at hE
      split at hE
      · cases hE
      · omega
    obtain ⟨k, rfl⟩ := Int.eq_ofNat_of_zero_le hn
    obtain ⟨v2, hp, hpl, -⟩ := reach_count hl hw hE
    rw [hpl, hp.do_] at hd
    have : v2 = vs' := by simpa using hd
    subst this
    unfold tcL
    split
    · rw [Int.toNat_natCast]
      exact hp.again
    · rfl
  · right; right
    have e0 : ¬ ((2 : Nat) = 0) := by decide
    have e1 : ¬ ((2 : Nat) = 1) := by decide
    simp only [plE, plL, q, e0, e1, if_true, if_false] at hE hd ⊢
    obtain ⟨v2, hp, hpl, -⟩ := reach_key hl hw hkl hk hE
    rw [hpl, hp.do_] at hd
    have : v2 = vs' := by simpa using hd
    subst this
    unfold tkL
    split
    · exact hp.again
    · rfl
  · exact .inr (.inl q)
  · right; right
    have e0 : ¬ ((4 : Nat) = 0) := by decide
    have e1 : ¬ ((4 : Nat) = 1) := by decide
    have e2 : ¬ ((4 : Nat) = 2) := by decide
    have e3 : ¬ ((4 : Nat) = 3) := by decide
    simp only [plE, plL, q, e0, e1, e2, e3, if_false] at hE hd ⊢
    have hn : 0 ≤ n ∧ n < 4 := by
      unfold atE at hE
      split at hE
      · assumption
      · cases hE
    obtain ⟨k, rfl⟩ := Int.eq_ofNat_of_zero_le hn.1
    obtain ⟨L, v2, hb⟩ := kill_law vs k hl hw (by omega)
    rw [hb.klL, hb.do_] at hd
    have : v2 = vs' := by simpa using hd
    subst this
    exact hb.again
end Otp
end Go.Proofs.YtpakdcgcgekcfaaDoor
