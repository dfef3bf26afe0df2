/-
  Bytes of one's own: what the reference hands back.
-/
import Derived.Test.YtgmomkinbfajkaaDoorProg
import Derived.Test.YtgmomkinbfajkaaDoorMem
import Derived.Deep.LoopGhost
set_option linter.unusedSimpArgs false
set_option linter.unusedVariables false
namespace Go.Proofs.YtgmomkinbfajkaaDoor
open Go.RowKit

namespace R1
/-- Bytes of one's own. -/
def OwnB (w : World) (base : Nat) (v : Value) (l : List Nat) : Prop := w.ownsRow base 5 1 v l.length (l.map fun x => Value.int .u8 ((x : Nat) : Int))
theorem u8_info : (Tryd.prog.info? 5).map (fun i => (i.zero, i.size, i.bytes)) = some (some (.int .u8 0), 1, 1) := by kernel_rfl
def BytesOut (w : World) (l : List Nat) (e : Ending) (w' : World) : Prop := ∃ v, e = .returned v ∧ OwnB w' w.heap.size v l ∧ Below w.heap.size w w'
end R1
end Go.Proofs.YtgmomkinbfajkaaDoor
