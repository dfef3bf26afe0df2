/-
  The laws of grant: awake.
-/
import Derived.Test.YtfiojpdkbckopaaDoorProg
import Derived.Test.YtfiojpdkbckopaaDoorJ68c09f72
import Derived.Test.YtfiojpdkbckopaaDoorGrantChk
set_option linter.unusedSimpArgs false
set_option linter.unusedVariables false
namespace Go.Proofs.YtfiojpdkbckopaaDoor
open Go.RowKit

namespace Grant
theorem where_to (z : Int) (a : Nat) (r : Nat × Nat) (w : World) (hz : z = a) (ha : z < 4294967296) (hS : Spans w) (hr : whereN a = r) :
    Calls Tryd.prog 65 #[.int .u32 z] w fun e w' => e = .returned (.tuple #[.int .i64 (r.1 : Int), .int .i64 (r.2 : Int)]) ∧ Below w.heap.size w w' := by
  subst hr
  exact where_int z a w hz ha hS
theorem check_to (who stage size at_ : Int) (a : Nat) (wr fe : Bool) (r : Nat × Nat × Nat) (w : World) (ha : at_ = a) (hm : at_ < 4294967296) (hw : (Lit.int .i64 who).wf = true) (hs : (Lit.int .i64 stage).wf = true) (hS : Spans w) (hr : chk who stage a size wr fe = r) :
    Calls Tryd.prog 40 #[.agg #[.int .i64 who, .int .i64 stage, .int .u32 at_, .int .i64 size, .bool wr, .bool fe]] w (ChkOut w r) := by
  subst hr
  exact check_any who stage size at_ a wr fe w ha hm hw hs hS
theorem aw1 : whereN 536870916 = (1, 4) := by decide +kernel
theorem aw2 : chk 1 1 536870916 4 true false = (0, 0, 8) := by decide +kernel
theorem aw3 : chk 1 1 536870916 4 false true = (1, 4, 0) := by decide +kernel
end Grant
end Go.Proofs.YtfiojpdkbckopaaDoor
