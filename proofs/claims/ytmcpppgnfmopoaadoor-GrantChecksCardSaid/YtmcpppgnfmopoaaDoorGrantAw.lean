/-
  The laws of grant: awake.
-/
import Derived.Test.YtmcpppgnfmopoaaDoorProg
import Derived.Test.YtmcpppgnfmopoaaDoorMem
import Derived.Test.YtmcpppgnfmopoaaDoorGrantChk
namespace Go.Proofs.YtmcpppgnfmopoaaDoor
open Go.RowKit

namespace Grant
theorem where_to (z : Int) (a : Nat) (r : Nat × Nat) (w : World) (hz : z = a) (ha : z < 4294967296) (hS : Spans w) (hr : whereN a = r) :
    Calls Tryd.prog 18 #[.int .u32 z] w fun e w' => e = .returned (.tuple #[.int .i64 (r.1 : Int), .int .i64 (r.2 : Int)]) ∧ Below w.heap.size w w' := by
  subst hr
  exact where_int z a w hz ha hS
theorem check_to (who stage size at_ : Int) (a : Nat) (wr fe : Bool) (r : Nat × Nat × Nat) (w : World) (ha : at_ = a) (hm : at_ < 4294967296) (hw : (Lit.int .i64 who).wf = true) (hs : (Lit.int .i64 stage).wf = true) (hS : Spans w) (hr : chk who stage a size wr fe = r) :
    Calls Tryd.prog 17 #[.agg #[.int .i64 who, .int .i64 stage, .int .u32 at_, .int .i64 size, .bool wr, .bool fe]] w (ChkOut w r) := by
  subst hr
  exact check_any who stage size at_ a wr fe w ha hm hw hs hS
theorem aw1 : whereN 536870916 = (1, 4) := by decide +kernel
theorem aw2 : chk 1 1 536870916 4 true false = (0, 0, 8) := by decide +kernel
theorem aw3 : chk 1 1 536870916 4 false true = (1, 4, 0) := by decide +kernel
set_option maxHeartbeats 1000000 in
theorem awake_any (w : World) (hS : Spans w) : Calls Tryd.prog 16 #[] w (TrueBelow w) := by
  have HS := Lib.hid hS
  clear hS
  go_enter Tryd.func16, Tryd.ntmps16
  go_wp2_with fail
  (with_reducible refine (where_to 536870916 536870916 (1, 4) _ rfl (by decide) HS.out aw1).mono ?_); rintro e w1 ⟨rfl, hB⟩
  have HB := Lib.hid hB
  have HS1 := Lib.hid (HS.out.old hB)
  clear hB
  go_wp2_with fail
  (with_reducible refine (check_to _ _ _ 536870916 536870916 _ _ (0, 0, 8) _ rfl (by decide) (by decide) (by decide) HS1.out aw2).mono ?_); rintro e w2 ⟨rfl, hB⟩
  have HB2 := Lib.hid (below_then HB.out hB (Nat.le_refl _))
  have HS2 := Lib.hid (HS1.out.old hB)
  clear hB
  go_wp2_with fail
  (with_reducible refine (check_to _ _ _ 536870916 536870916 _ _ (1, 4, 0) _ rfl (by decide) (by decide) (by decide) HS2.out aw3).mono ?_); rintro e w3 ⟨rfl, hB⟩
  have HB3 := Lib.hid (below_then HB2.out hB (Nat.le_refl _))
  clear hB
  go_wp2_with fail
  go_light
  go_ret
  exact ⟨rfl, HB3.out⟩
end Grant
end Go.Proofs.YtmcpppgnfmopoaaDoor
