/-
  The table of rights: the map's words are the reference's, at every master, stage and region.
-/
import Derived.Test.YtfiojpdkbckopaaDoorProg
import Derived.Test.YtfiojpdkbckopaaDoorJ55314620
import Derived.Test.YtfiojpdkbckopaaDoorGrantRef
import Derived.Deep.LoopGhost
set_option linter.unusedSimpArgs false
set_option linter.unusedVariables false
namespace Go.Proofs.YtfiojpdkbckopaaDoor
open Go.RowKit

namespace Grant
def inR (x : Int × Int × Int) : Bool := decide (0 ≤ x.1 ∧ x.1 < 4 ∧ 0 ≤ x.2.1 ∧ x.2.1 < 3 ∧ 1 ≤ x.2.2 ∧ x.2.2 ≤ 5)
theorem keys_in : ((L5 2).all fun p => inR p.1) = true := by decide +kernel
theorem lookup_none {α β : Type} [BEq α] [LawfulBEq α] {x : α} : ∀ {l : List (α × β)}, (∀ p ∈ l, p.1 ≠ x) → l.lookup x = none
  | [], _ => rfl
  | (k, v) :: r, h => by
    have h0 : (x == k) = false := by
      rw [beq_eq_false_iff_ne]
      exact fun e => h (k, v) (by simp) e.symm
    rw [List.lookup_cons, h0]
    exact lookup_none (fun p hp => h p (by simp [hp]))
theorem may_out {a b c : Int} (h : inR (a, b, c) = false) : mayW a b c = bs [] := by
  unfold mayW
  rw [lookup_none (fun p hp e => by
    have := List.all_eq_true.1 keys_in p hp
    rw [e, h] at this
    cases this)]
  rfl
theorem may_in0 : ∀ (a : Fin 4) (b : Fin 3) (c : Fin 5), (mayW (a.val : Int) (b.val : Int) ((c.val + 1 : Nat) : Int)).data.toList = wordOf (c.val + 1) (rowS.getD (4 * b.val + a.val) ⟨#[]⟩) := by decide +kernel
theorem may_in {a b c : Nat} {row : ByteArray} (ha : a < 4) (hb : b < 3) (hc1 : 1 ≤ c) (hc : c ≤ 5) (hrow : rowS[4 * b + a]? = some row) : bs (wordOf c row) = mayW (a : Int) (b : Int) (c : Int) := by
  have h := may_in0 ⟨a, ha⟩ ⟨b, hb⟩ ⟨c - 1, by omega⟩
  simp only [show c - 1 + 1 = c by omega] at h
  have e : rowS.getD (4 * b + a) ⟨#[]⟩ = row := by simp [List.getD, hrow]
  rw [e] at h
  apply ByteArray.ext
  apply Array.toList_inj.1
  rw [h]
  rfl
theorem may_words0 : ∀ (a : Fin 4) (b : Fin 3) (c : Fin 5), (mayW (a.val : Int) (b.val : Int) ((c.val + 1 : Nat) : Int)).data.toList ∈ [[], [114], [114, 119], [114, 120], [114, 119, 120]] := by decide +kernel
theorem may_words (a b c : Int) : mayW a b c = ⟨#[]⟩ ∨ mayW a b c = ⟨#[114]⟩ ∨ mayW a b c = ⟨#[114, 119]⟩ ∨ mayW a b c = ⟨#[114, 120]⟩ ∨ mayW a b c = ⟨#[114, 119, 120]⟩ := by
  cases h : inR (a, b, c) with
  | false => left; rw [may_out h]; rfl
  | true =>
    simp only [inR, decide_eq_true_eq] at h
    obtain ⟨h1, h2, h3, h4, h5, h6⟩ := h
    have := may_words0 ⟨a.toNat, by omega⟩ ⟨b.toNat, by omega⟩ ⟨c.toNat - 1, by omega⟩
    simp only [show c.toNat - 1 + 1 = c.toNat by omega, show ((a.toNat : Nat) : Int) = a by omega, show ((b.toNat : Nat) : Int) = b by omega, show ((c.toNat : Nat) : Int) = c by omega] at this
    generalize mayW a b c = s at *
    have e : ∀ l : List UInt8, s.data.toList = l → s = ⟨l.toArray⟩ := fun l hl => by
      apply ByteArray.ext
      apply Array.toList_inj.1
      rw [hl]
    simp only [List.mem_cons, List.not_mem_nil, or_false] at this
    rcases this with h | h | h | h | h
    · left; exact e _ h
    · right; left; exact e _ h
    · right; right; left; exact e _ h
    · right; right; right; left; exact e _ h
    · right; right; right; right; exact e _ h
theorem may_size (a b c : Int) : (mayW a b c).size ≤ 3 := by
  rcases may_words a b c with h | h | h | h | h <;> (rw [h]; decide)

end Grant
end Go.Proofs.YtfiojpdkbckopaaDoor
