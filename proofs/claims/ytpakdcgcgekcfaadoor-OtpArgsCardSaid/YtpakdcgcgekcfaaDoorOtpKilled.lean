/-
  Plain law of OtpRows, OtpReaches: a dead row.
-/
import Derived.Test.YtpakdcgcgekcfaaDoorMem
import Derived.Test.YtpakdcgcgekcfaaDoorOtpOps
import Derived.Test.YtpakdcgcgekcfaaDoorOtpBurn
namespace Go.Proofs.YtpakdcgcgekcfaaDoor
open Go.RowKit

namespace Otp
open Fuse R1
structure Killed (vs : List Nat) (k : Nat) (L : List (Nat × Nat)) (vs' : List Nat) : Prop where
  len : vs'.length = 64
  word : ∀ (i x : Nat), vs'[i]? = some x → x < 4294967296
  idx : ∀ q ∈ L, q.1 < 64
  val : ∀ q ∈ L, q.2 < 4294967296
  klL : klL vs (k : Int) = L
  do_ : doL vs L = (0, vs')
  rowE : rowE vs' k = 17
  farE : ∀ j, j < 4 → j ≠ k → Otp.rowE vs' j = Otp.rowE vs j
  farK : ∀ j, j < 4 → rowKey vs' j = rowKey vs j
  again : Otp.klL vs' (k : Int) = []
  far : ∀ i, i ≠ 35 + 9 * k → vs'[i]? = vs[i]?
theorem kill_law (vs : List Nat) (k : Nat) (hl : vs.length = 64) (hw : ∀ (i x : Nat), vs[i]? = some x → x < 4294967296) (hk : k < 4) : ∃ L vs', Killed vs k L vs' := by
  obtain ⟨x, hx⟩ : ∃ x, vs[35 + 9 * k]? = some x := ⟨_, List.getElem?_eq_getElem (by omega)⟩
  have hxM := hw _ x hx
  have hy : x ||| 65280 < 4294967296 := or_lt hxM (by decide)
  have hkl : ∀ v : List Nat, klL v (k : Int) = planOf v (35 + 9 * k) [65280] := fun v => by
    unfold klL
    rw [if_pos (by omega)]
    simp
  have hd := doL_plan [65280] vs (35 + 9 * k) (by simp; omega) hw (by simp)
  have hm := planOf_mem hw [65280] (35 + 9 * k) (by simp)
  have ho : orAt vs (35 + 9 * k) [65280] = vs.set (35 + 9 * k) (x ||| 65280) := by simp [orAt, hx]
  rw [ho] at hd
  have hfar : ∀ i, i ≠ 35 + 9 * k → (vs.set (35 + 9 * k) (x ||| 65280))[i]? = vs[i]? := fun i hi => List.getElem?_set_ne (by omega)
  have hat : (vs.set (35 + 9 * k) (x ||| 65280))[35 + 9 * k]? = some (x ||| 65280) := List.getElem?_set_self (by omega)
  refine ⟨planOf vs (35 + 9 * k) [65280], vs.set (35 + 9 * k) (x ||| 65280), by rw [List.length_set, hl], fun i y h => ?_, fun q hq => ?_, fun q hq => (hm q hq).1, hkl vs, hd, ?_, fun j hj hjk => rowE_far (hfar _ (by omega)), fun j hj => rowKey_far (fun i h1 h2 => hfar _ (by omega)), ?_, hfar⟩
  · by_cases hi : i = 35 + 9 * k
    · subst hi
      rw [hat] at h
      cases h
      exact hy
    · rw [hfar i hi] at h
      exact hw i y h
  · have := hm q hq
    simp only [List.length_cons, List.length_nil] at this
    omega
  · have h1 : onB (x ||| 65280) 1 = true := onB_mono (x := 65280) (by
      show 65280 ||| (x ||| 65280) = x ||| 65280
      rw [Nat.or_comm x, ← Nat.or_assoc, Nat.or_self]) 1 (by decide +kernel)
    rw [rowE_of hat, h1]
    rfl
  · rw [hkl, planOf, hat, Option.getD_some, if_pos (by rw [Nat.or_assoc, Nat.or_self])]
    rfl
end Otp
end Go.Proofs.YtpakdcgcgekcfaaDoor
