/-
  OtpRows, its arguments as the law's frame gives them.
-/
import Derived.Test.YtpakdcgcgekcfaaDoorOtpActF
import Derived.Test.YtpakdcgcgekcfaaDoorOtpRows
namespace Go.Proofs.YtpakdcgcgekcfaaDoor
open Go.RowKit

namespace Otp
open Fuse
theorem b8_ints (zs : List Int) (h : ∀ z ∈ zs, (Lit.int .u8 z).wf = true) : (zs.map (Value.int .u8)).toArray = b8 (zs.map Int.toNat) := by
  unfold b8
  rw [List.map_map]
  congr 1
  apply List.map_congr_left
  intro z hz
  have := (bounds_u8 (h z hz)).1
  simp [Int.toNat_of_nonneg this]
theorem rows_frame (zs0 zs1 : List Int) (i j : Int) (kill : Bool) (W : World) (hT : Tab W) (hl0 : zs0.length = 32) (w0 : ∀ z ∈ zs0, (Lit.int .u8 z).wf = true) (hl1 : zs1.length = 32) (w1 : ∀ z ∈ zs1, (Lit.int .u8 z).wf = true) (hi : (Lit.int .u8 i).wf = true) (hj : (Lit.int .u8 j).wf = true) :
    Calls Tryd.prog 3 #[.agg (zs0.map (Value.int .u8)).toArray, .agg (zs1.map (Value.int .u8)).toArray, .int .u8 i, .int .u8 j, .bool kill] W (TrueBelow W) := by
  have bi := bounds_u8 hi
  have bj := bounds_u8 hj
  rw [b8_ints zs0 w0, b8_ints zs1 w1]
  exact rows_any _ _ i j kill (i % 4).toNat (j % 4).toNat W hT (by simpa using hl0) (u8_nats zs0 w0) (by simpa using hl1) (u8_nats zs1 w1) (by omega) (by omega) bi.1 bj.1 (by omega) (by omega)
end Otp
end Go.Proofs.YtpakdcgcgekcfaaDoor
