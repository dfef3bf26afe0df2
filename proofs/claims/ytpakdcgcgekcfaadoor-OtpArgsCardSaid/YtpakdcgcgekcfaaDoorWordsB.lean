/-
  Words as bytes: plain.
-/
import Derived.Test.YtpakdcgcgekcfaaDoorR1Num
namespace Go.Proofs.YtpakdcgcgekcfaaDoor
open Go.RowKit

namespace Otp
open R1
/-- The bytes of words. -/
def wordsB (l : List Nat) : List Nat := l.flatMap fun x => numB x 4
theorem wordsB_length : ∀ l : List Nat, (wordsB l).length = 4 * l.length
  | [] => rfl
  | x :: l => by
    have := wordsB_length l
    simp only [wordsB, List.flatMap_cons, List.length_append, numB_length, List.length_cons] at this ⊢
    omega
theorem wordsB_snoc (l : List Nat) (x : Nat) : wordsB (l ++ [x]) = wordsB l ++ numB x 4 := by simp [wordsB]
end Otp
end Go.Proofs.YtpakdcgcgekcfaaDoor
