/-
  Plain law of OtpRows, OtpReaches: what whole plans leave.
-/
import Derived.Test.YtpakdcgcgekcfaaDoorMem
import Derived.Test.YtpakdcgcgekcfaaDoorBytes
import Derived.Test.YtpakdcgcgekcfaaDoorOtpRise2
import Derived.Test.YtpakdcgcgekcfaaDoorRowD
namespace Go.Proofs.YtpakdcgcgekcfaaDoor
open Go.RowKit

namespace Otp
open Fuse R1
theorem numB_be4 {a b c d : Nat} (ha : a < 256) (hb : b < 256) (hc : c < 256) (hd : d < 256) : numB (be4 a b c d) 4 = [a, b, c, d] := by
  unfold be4
  simp only [numB]
  congr 1
  · omega
  congr 1
  · omega
  congr 1
  · omega
  congr 1
  omega
theorem wordsB_words4 : ∀ (n : Nat) (ds : List Nat), ds.length = 4 * n → (∀ x ∈ ds, x < 256) → wordsB (words4 ds) = ds
  | 0, ds, h, _ => by
    have : ds = [] := List.eq_nil_of_length_eq_zero (by omega)
    subst this
    rfl
  | n + 1, ds, h, hd => by
    match ds, h, hd with
    | a :: b :: c :: d :: r, h, hd =>
      have ih := wordsB_words4 n r (by simp at h; omega) (fun x hx => hd x (by simp [hx]))
      show numB (be4 a b c d) 4 ++ wordsB (words4 r) = _
      rw [ih, numB_be4 (hd a (by simp)) (hd b (by simp)) (hd c (by simp)) (hd d (by simp))]
      rfl
theorem setAll_append : ∀ (l r : List (Nat × Nat)) (vs : List Nat), setAll vs (l ++ r) = setAll (setAll vs l) r
  | [], _, _ => rfl
  | p :: l, r, vs => by rw [List.cons_append, setAll, setAll, setAll_append l r]
theorem setAll_numb_at : ∀ (ws vs : List Nat) (f j : Nat), f + ws.length ≤ vs.length → j < ws.length → (setAll vs (numb f ws))[f + j]? = ws[j]?
  | [], _, _, _, _, h => by simp at h
  | x :: r, vs, f, 0, hf, _ => by
    simp only [List.length_cons] at hf
    rw [numb, setAll, setAll_far _ _ _ (fun p hp => by have := numb_mem r _ p hp; omega), Nat.add_zero, List.getElem?_set_self (by omega)]
    rfl
  | x :: r, vs, f, j + 1, hf, hj => by
    simp only [List.length_cons] at hf hj
    rw [numb, setAll, show f + (j + 1) = f + 1 + j by omega, setAll_numb_at r _ (f + 1) j (by rw [List.length_set]; omega) (by omega)]
    rfl
theorem rowL_far (vs : List Nat) (k : Nat) (ws : List Nat) (hw : ws.length = 8) (i : Nat) (hi : i < 27 + 9 * k ∨ 35 + 9 * k < i) : (setAll vs (rowL k ws))[i]? = vs[i]? := by
  refine setAll_far _ _ _ (fun p hp => ?_)
  unfold rowL at hp
  simp only [List.cons_append, List.mem_cons, List.mem_append, List.not_mem_nil, or_false] at hp
  rcases hp with rfl | hp | rfl
  · simp only; omega
  · have := numb_mem ws _ p hp; omega
  · simp only; omega
theorem rowL_split (vs : List Nat) (k : Nat) (ws : List Nat) : setAll vs (rowL k ws) = (setAll (vs.set (35 + 9 * k) 16711680) (numb (27 + 9 * k) ws)).set (35 + 9 * k) 16711935 := by
  unfold rowL
  rw [setAll_append]
  rfl
theorem rowL_mark (vs : List Nat) (k : Nat) (ws : List Nat) (hl : vs.length = 64) (hk : k < 4) : (setAll vs (rowL k ws))[35 + 9 * k]? = some 16711935 := by
  rw [rowL_split, List.getElem?_set_self (by rw [setAll_length, List.length_set]; omega)]
theorem rowL_key (vs : List Nat) (k : Nat) (ws : List Nat) (hl : vs.length = 64) (hk : k < 4) (hw : ws.length = 8) : rowKey (setAll vs (rowL k ws)) k = ws := by
  unfold rowKey
  apply List.ext_getElem?
  intro j
  rw [List.getElem?_take]
  split
  · rename_i hj
    rw [List.getElem?_drop, rowL_split, List.getElem?_set_ne (by omega), setAll_numb_at ws _ _ j (by rw [List.length_set]; omega) (by omega)]
  · rw [List.getElem?_eq_none (by omega)]
theorem mark_on : onB 16711935 1 = false ∧ onB 16711935 0 = true := by decide +kernel
theorem rowE_of {vs : List Nat} {k x : Nat} (h : vs[35 + 9 * k]? = some x) : rowE vs k = if onB x 1 = true then 17 else if onB x 0 = true then 0 else 3 := by
  unfold rowE
  rw [h]
  rfl
theorem rowE_far {vs vs' : List Nat} {k : Nat} (h : vs'[35 + 9 * k]? = vs[35 + 9 * k]?) : rowE vs' k = rowE vs k := by
  unfold rowE
  rw [h]
theorem rowZ_far {vs vs' : List Nat} {k : Nat} (h : ∀ i, 27 + 9 * k ≤ i → i < 36 + 9 * k → vs'[i]? = vs[i]?) : rowZ vs' k = rowZ vs k := by
  unfold rowZ
  have : rowW vs' k = rowW vs k := by
    unfold rowW
    apply List.ext_getElem?
    intro j
    rw [List.getElem?_take, List.getElem?_take]
    split
    · rw [List.getElem?_drop, List.getElem?_drop]
      exact h _ (by omega) (by omega)
    · rfl
  rw [this]
theorem rowZ_E {vs : List Nat} {k : Nat} (hl : vs.length = 64) (hk : k < 4) (h : rowZ vs k = true) : rowE vs k = 3 := by
  have hx : vs[35 + 9 * k]? = some 0 := by
    obtain ⟨x, hx⟩ : ∃ x, vs[35 + 9 * k]? = some x := ⟨_, List.getElem?_eq_getElem (by omega)⟩
    unfold rowZ at h
    rw [List.all_eq_true] at h
    have hr8 : (rowW vs k)[8]? = some x := by
      unfold rowW
      rw [List.getElem?_take, if_pos (by omega), List.getElem?_drop, show 27 + 9 * k + 8 = 35 + 9 * k by omega]
      exact hx
    have := h x (List.mem_of_getElem? hr8)
    rw [hx]
    simpa using this
  rw [rowE_of hx, onB_zero, onB_zero]
  rfl
/-- A key that is burned into an empty row. -/
structure Burnt (vs : List Nat) (k : Nat) (K : List Nat) (L : List (Nat × Nat)) (vs' : List Nat) : Prop where
  len : vs'.length = 64
  word : ∀ (i x : Nat), vs'[i]? = some x → x < 4294967296
  ten : L.length = 10
  idx : ∀ q ∈ L, q.1 < 64
  val : ∀ q ∈ L, q.2 < 4294967296
  trE : trE vs (k : Int) = 0
  trL : trL vs (k : Int) K = L
  do_ : doL vs L = (0, vs')
  rowE : rowE vs' k = 0
  key : wordsB (rowKey vs' k) = K
  full : Otp.trE vs' (k : Int) = 14
  farE : ∀ j, j < 4 → j ≠ k → Otp.rowE vs' j = Otp.rowE vs j
  farK : ∀ j, j < 4 → j ≠ k → rowKey vs' j = rowKey vs j
  farZ : ∀ j, j < 4 → j ≠ k → rowZ vs' j = rowZ vs j
theorem trE_nat (vs : List Nat) (k : Nat) (hk : k < 4) : trE vs (k : Int) = if rowZ vs k = true then 0 else 14 := by
  unfold trE
  rw [if_pos (by omega)]
  simp
theorem burn (vs : List Nat) (k : Nat) (K : List Nat) (hl : vs.length = 64) (hw : ∀ (i x : Nat), vs[i]? = some x → x < 4294967296) (hk : k < 4) (hz : rowZ vs k = true) (hK : K.length = 32) (hb : ∀ x ∈ K, x < 256) :
    Burnt vs k K (rowL k (words4 K)) (setAll vs (rowL k (words4 K))) := by
  have hw8 : (words4 K).length = 8 := by rw [words4_length, hK]
  have hwb : ∀ x ∈ words4 K, x < 4294967296 := words4_lt K hb
  obtain ⟨hok, hmm, -⟩ := good_row hl k (words4 K) hk hz hw8 hwb
  have hl' : (setAll vs (rowL k (words4 K))).length = 64 := by rw [setAll_length, hl]
  have hE : rowE (setAll vs (rowL k (words4 K))) k = 0 := by rw [rowE_of (rowL_mark vs k _ hl hk), mark_on.1, mark_on.2]; rfl
  have h0 : trE vs (k : Int) = 0 := by rw [trE_nat vs k hk, if_pos hz]
  refine ⟨hl', ?_, ?_, fun q hq => (hmm q hq).1, fun q hq => (hmm q hq).2, h0, ?_, ?_, hE, ?_, ?_, ?_, ?_, ?_⟩
  · intro i x hx
    have : ∀ (L : List (Nat × Nat)) (vs : List Nat), (∀ q ∈ L, q.2 < 4294967296) → (∀ (i x : Nat), vs[i]? = some x → x < 4294967296) → ∀ (i x : Nat), (setAll vs L)[i]? = some x → x < 4294967296 := by
      intro L
      induction L with
      | nil => intro vs _ h; exact h
      | cons q r ih =>
        intro vs hq h i x hx
        refine ih (vs.set q.1 q.2) (fun p hp => hq p (by simp [hp])) (fun i x hx => ?_) i x hx
        rw [List.getElem?_set] at hx
        split at hx
        · split at hx
          · cases hx; exact hq q (by simp)
          · cases hx
        · exact h i x hx
    exact this _ vs (fun q hq => (hmm q hq).2) hw i x hx
  · unfold rowL
    rw [List.length_append, List.length_cons, numb_length, hw8]
    rfl
  · unfold trL
    rw [if_pos h0]
    simp
  · exact doL_ok _ _ hok (fun q hq => by rw [hl]; exact (hmm q hq).1)
  · rw [rowL_key vs k _ hl hk hw8, wordsB_words4 8 K (by omega) hb]
  · rw [trE_nat _ k hk, if_neg (by rw [rowE_full hl' hk hE]; simp)]
  · intro j hj hjk
    exact rowE_far (rowL_far vs k _ hw8 _ (by omega))
  · intro j hj hjk
    exact rowKey_far (fun i h1 h2 => rowL_far vs k _ hw8 i (by omega))
  · intro j hj hjk
    exact rowZ_far (fun i h1 h2 => rowL_far vs k _ hw8 i (by omega))
end Otp
end Go.Proofs.YtpakdcgcgekcfaaDoor
