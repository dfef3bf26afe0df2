/-
  What a row's list gives: the table of regions in its variable.
-/
import Derived.Test.YtmcpppgnfmopoaaDoorProg
import Derived.Test.YtmcpppgnfmopoaaDoorGrantWhere
import Derived.Test.YtmcpppgnfmopoaaDoorLaid
namespace Go.Proofs.YtmcpppgnfmopoaaDoor
open Go.RowKit

namespace Grant
theorem sLaid : laidOutB Tryd.prog = true := by kernel_rfl
theorem sRow : (92 : TypeId) < Tryd.prog.types.size := of_decide_eq_true (by kernel_rfl)
theorem sAt : Tryd.prog.keyTypeAt 4 92 = true := by kernel_rfl
theorem sLaw : WideMaps.KeyLaw Tryd.prog 92 := deep_law_laid (m := 4) sLaid (Nat.le_of_ble_eq_true rfl) sRow sAt (by kernel_rfl)
theorem sName : Tryd.prog.globalNamed "curtilage/grant.spans" = some 0 := by kernel_rfl
theorem sType : (Tryd.prog.globals[0]?).map (·.type) = some 92 := by kernel_rfl
theorem sKey : keyOf Tryd.prog 92 (.agg spCells) = some (DataW.asKey (H := Unit) (.agg [.agg [.lit (.int .u32 0), .lit (.int .i64 0)], .agg [.lit (.int .u32 536870912), .lit (.int .i64 4096)], .agg [.lit (.int .u32 536875008), .lit (.int .i64 4096)], .agg [.lit (.int .u32 268435456), .lit (.int .i64 10240)], .agg [.lit (.int .u32 1073741824), .lit (.int .i64 64)], .agg [.lit (.int .u32 1610612736), .lit (.int .i64 256)]])) := by kernel_rfl
theorem spans_of {l : List (String × DataW Unit)} {W : World} (h : laidMetH Tryd.prog l W) (hh : (l.filter fun x => x.2.handleName?.isSome) = [])
    (hm : ("curtilage/grant.spans", (.agg [.agg [.lit (.int .u32 0), .lit (.int .i64 0)], .agg [.lit (.int .u32 536870912), .lit (.int .i64 4096)], .agg [.lit (.int .u32 536875008), .lit (.int .i64 4096)], .agg [.lit (.int .u32 268435456), .lit (.int .i64 10240)], .agg [.lit (.int .u32 1073741824), .lit (.int .i64 64)], .agg [.lit (.int .u32 1610612736), .lit (.int .i64 256)]] : DataW Unit)) ∈ l) : Spans W :=
  laid_blk h hh hm sName sType (by kernel_rfl) (by kernel_rfl) sLaw spCells (by decide) sKey
end Grant
end Go.Proofs.YtmcpppgnfmopoaaDoor
