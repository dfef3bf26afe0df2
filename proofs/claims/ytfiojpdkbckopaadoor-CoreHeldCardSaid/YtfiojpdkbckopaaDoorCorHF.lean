/-
  CoreHeld, its arguments as the law's frame gives them.
-/
import Derived.Test.YtfiojpdkbckopaaDoorCorH
import Derived.Test.YtfiojpdkbckopaaDoorFrame
import Derived.Test.YtfiojpdkbckopaaDoorJ2b6ea236
set_option linter.unusedSimpArgs false
set_option linter.unusedVariables false
namespace Go.Proofs.YtfiojpdkbckopaaDoor
open Go.RowKit

namespace Core
open Otp Sha R1 Spc Grant Rv
theorem held_frame (A : Option Addr) (la ca : Nat) (p : List Nat) (pc : Int) (B : Option Addr) (lb cb : Nat) (xs : List Nat) (w : World) (hS : Spans w) (hw : (Lit.int .u32 pc).wf = true)
    (hl : p.length = la) (hm : la ≤ maxLen) (hp : Nats .u8 256 w w.heap.size A p) (hl2 : xs.length = lb) (hm2 : lb ≤ maxLen) (hx : Nats .u32 4294967296 w w.heap.size B xs) :
    Calls Tryd.prog 3 #[.slice A la ca, .int .u32 pc, .slice B lb cb] w (TrueB w) := by
  have h := bounds_u32 hw
  have e : pc = ((pc.toNat : Nat) : Int) := by omega
  rw [e]
  exact held_any A la ca p pc.toNat B lb cb xs w hS (by omega) hl hm hp hl2 hm2 hx
end Core
end Go.Proofs.YtfiojpdkbckopaaDoor
