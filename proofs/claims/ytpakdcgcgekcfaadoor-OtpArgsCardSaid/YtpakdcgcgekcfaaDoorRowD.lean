/-
  What a row answers.
-/
import Derived.Test.YtpakdcgcgekcfaaDoorProg
import Derived.Test.YtpakdcgcgekcfaaDoorMem
import Derived.Test.YtpakdcgcgekcfaaDoorNext
import Derived.Test.YtpakdcgcgekcfaaDoorOtpRise
import Derived.Test.YtpakdcgcgekcfaaDoorWordsB
import Derived.Test.YtpakdcgcgekcfaaDoorShaWord
namespace Go.Proofs.YtpakdcgcgekcfaaDoor
open Go.RowKit

namespace Otp
open R1
/-- What Row answers: a row's key. -/
def rowD (vs : List Nat) (k : Nat) : List Nat := if rowE vs k = 0 then wordsB (rowKey vs k) else List.replicate 32 0
def RowOut (w : World) (D : List Nat) (E : Int) (e : Ending) (w' : World) : Prop := e = .returned (.tuple #[.agg (b8 D), .int .i64 E]) ∧ Below w.heap.size w w'
theorem b8_one (l : List Nat) : (b8 l).all (·.oneCell') = true := all_oneCell_toArray (fun v hv => by
  obtain ⟨a, _, rfl⟩ := List.mem_map.1 hv
  rfl)
theorem b8_size (l : List Nat) : (b8 l).size = l.length := by simp [b8]
theorem dig_info : (Tryd.prog.info? 23).map (·.size) = some 32 := by kernel_rfl
end Otp
end Go.Proofs.YtpakdcgcgekcfaaDoor
