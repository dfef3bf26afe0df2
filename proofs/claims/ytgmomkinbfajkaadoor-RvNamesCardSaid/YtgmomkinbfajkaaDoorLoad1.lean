/-
  A load of one cell, in a drawn walk.
-/
import Derived.Test.YtgmomkinbfajkaaDoorRelUse
set_option linter.unusedSimpArgs false
set_option linter.unusedVariables false
namespace Go.Proofs.YtgmomkinbfajkaaDoor
open Go.RowKit

namespace Rel
theorem exec_load1 {P : Program} {o : Oper} {a : Act} {W : World} (ty : TypeId) (x : Operand) (ho : o.op = .load ty x) (b off : Nat) (hx : a.eval x = .pointer (some ⟨b, off, none⟩)) (v : Value) (hag : ∀ w, (isAgg ty).run P w = .ok false w) (hc : W.cell? ⟨b, off, none⟩ = some v) :
    (execOp a.eval o).run P W = .ok (.value v) W := by
  unfold execOp
  simp only [ho, hx]
  have h1 : (loadVar ty ⟨b, off, none⟩).run P W = .ok v W := by
    unfold loadVar
    rw [Sem.run_bind, hag]
    simp [Result.andThen, hc]
  have h2 : (Instr.loadAt ty (.pointer (some ⟨b, off, none⟩))).run P W = .ok v W := by
    unfold Instr.loadAt
    rw [Sem.run_bind]
    simp only [Instr.sureAddr, Sem.run_pure, Result.andThen]
    exact h1
  rw [Sem.run_bind, h2]
  simp [Result.andThen]
end Rel
end Go.Proofs.YtgmomkinbfajkaaDoor
