/-
  math/bits.TrailingZeros32 in this program: the kit's arithmetic (Lib.ctz), the table in its variable.
-/
import Derived.Test.YtpakdcgcgekcfaaDoorProg
import Derived.Test.YtpakdcgcgekcfaaDoorMem
import Derived.Shelf.Spec.TrailingZeros
namespace Go.Proofs.YtpakdcgcgekcfaaDoor
open Go.RowKit

namespace Otp
/-- The table's variable holds what its initialiser lays. -/
def Tab (w : World) : Prop := TabAt 0 Lib.deBruijn32tab w
theorem Tab.below {B : Nat} {w w' : World} (h : Tab w) (hb : Below B w w') (hB : 0 < B) : Tab w' := fun j hj => (World.cell?_of_block (hb.block _ hB)).trans (h j hj)
theorem Tab.lt {w : World} (h : Tab w) : 0 < w.heap.size := cell_lt (h 0 (by decide))
theorem Tab.old {w w' : World} (h : Tab w) (hb : Below w.heap.size w w') : Tab w' := h.below hb h.lt
theorem Tab.frm {S : List Nat} {w w' : World} (h : Tab w) (hf : Frm S w w') (hS : 0 ∉ S) : Tab w' := fun j hj => (World.cell?_of_block (hf.block _ h.lt hS)).trans (h j hj)

set_option maxHeartbeats 1000000 in
theorem tz32_core (x k idx : Nat) (w : World) (hx0 : ((x : Int) == 0) = false)
    (key : bits BinOp.and IntKind.u32 (x : Int) (-(x : Int) % 4294967296) * 125613361 % 4294967296 / 134217728 = (idx : Int))
    (hi : idx < 32) (hk : k < 32) (hcell : w.cell? ⟨0, idx, none⟩ = some (.int .u8 k)) :
    Calls Tryd.prog 78 #[.int .u32 x] w fun e w' => e = .returned (.int .i64 k) ∧ w = w' := by
  go_enter Tryd.func78, Tryd.ntmps78
  go_wp2_with (simp only [key])
  go_light
  go_ret
  exact ⟨rfl, rfl⟩
theorem tz32_zero (w : World) :
    Calls Tryd.prog 78 #[.int .u32 0] w fun e w' => e = .returned (.int .i64 32) ∧ w = w' := by
  go_enter Tryd.func78, Tryd.ntmps78
  go_wp2
  go_light
  go_ret
  exact ⟨rfl, rfl⟩
/-- TrailingZeros32, every x. -/
theorem tz32 (a : Int) (x : Nat) (w : World) (ha : a = x) (hx : x < 4294967296) (hT : Tab w) :
    Calls Tryd.prog 78 #[.int .u32 a] w fun e w' => e = .returned (.int .i64 ((Lib.ctz 32 x : Nat) : Int)) ∧ w = w' := by
  subst ha
  by_cases hx0 : x = 0
  · subst hx0
    exact tz32_zero w
  · obtain ⟨hlow, hk⟩ := Lib.lowest_bit 32 x hx0 hx
    obtain ⟨hi, htab⟩ := Lib.deBruijn32_at _ hk
    have hcell := hT _ hi
    rw [htab] at hcell
    exact tz32_core x _ _ w (by simp; omega) (tz32_key x _ hx hx0 hlow) hi hk hcell
end Otp
end Go.Proofs.YtpakdcgcgekcfaaDoor
