/-
  An element of an array by value. No program in sight.
-/
import Derived.Test.YtpakdcgcgekcfaaDoorMem
import Derived.Laws.PanicsMore
namespace Go.Proofs.YtpakdcgcgekcfaaDoor
open Go.RowKit

theorem run_index_arr {P : Program} (t e : TypeId) (N : Nat) (ht : P.underlying t = some (.array N e)) (hs : ∀ w, (sizeOf e).run P w = .ok 1 w) (ha : ∀ w, (isAgg e).run P w = .ok false w) (cs : Array Value) (kl : IntKind) (l : Int) (j : Nat) (hj : l = j) (hlt : j < N) (v : Value) (hv : cs[j]? = some v) (w : World) :
    (Instr.index t (.agg cs) (.int kl l)).run P w = .ok v w := by
  subst hj
  have h1 : (0 : Int) ≤ (j : Int) ∧ (j : Int) < (N : Int) := by omega
  simp [Instr.index, run_underlying ht, asIntOf, h1, go_sem, hs, hv, hlt, ha]
end Go.Proofs.YtpakdcgcgekcfaaDoor
