/-
  Great blocks: an allocation whose zero is named; what lies in a block that is told in parts. No program in sight.
-/
import Derived.Test.YtmiaabpnolebhaaGreatDoorJ192fccce
import Derived.Great.Walk
set_option linter.unusedSimpArgs false
set_option linter.unusedVariables false
namespace Go.Proofs.YtmiaabpnolebhaaGreatDoor
open Go.RowKit

namespace Big
theorem run_alloc_z {P : Program} {w : World} (t : TypeId) (z : Value) (hz : (P.info? t).bind (·.zero) = some z) :
    (Instr.alloc t true (.tuple #[])).run P w = .ok (.pointer (some ⟨w.heap.size, 0, none⟩)) (w.alloc (.cells z.cells t)) := by
  obtain ⟨i, hi, hz'⟩ := Option.bind_eq_some_iff.1 hz
  simp [Instr.alloc, zeroValue, typeInfo, hi, hz', newVar, newRow, Result.andThen]
section
variable {P : Program} {w : World} {ops : Array Oper} {rest : List Oper} {a : Act} {Q : Exit → Act → World → Prop}
theorem wpList_alloc_z {op : Oper} (hgd : op.guard = none) (t : TypeId) (ho : op.op = .alloc t) (z : Value) (cs : Array Value) (hz : (P.info? t).bind (·.zero) = some z) (hc : z.cells = cs)
    (h : wpList P ops Q rest (a.put op.dst (.pointer (some ⟨w.heap.size, 0, none⟩))) (w.alloc (.cells cs t))) : wpList P ops Q (op :: rest) a w := by
  subst hc
  refine Great.wpList_runTo hgd op.dst rfl (.pointer (some ⟨w.heap.size, 0, none⟩)) _ ?_ h
  unfold execOp
  simp only [ho]
  rw [Sem.run_bind, run_alloc_z t z hz]
  rfl
/-- The same, the new block's number given. -/
theorem wpList_alloc_at {op : Oper} (hgd : op.guard = none) (t : TypeId) (ho : op.op = .alloc t) (cs : Array Value) (hz : (P.info? t).bind (·.zero) = some (.agg cs)) (g : Nat) (hg : w.heap.size = g)
    (h : wpList P ops Q rest (a.put op.dst (.pointer (some ⟨g, 0, none⟩))) (w.alloc (.cells cs t))) : wpList P ops Q (op :: rest) a w := by
  subst hg
  exact wpList_alloc_z hgd t ho (.agg cs) cs hz rfl h
end
/-- Parts of an array of one-cell elements that lies in a block's middle, as slices. -/
theorem run_arr_lh {P : Program} (t e : TypeId) (N : Nat) (ht : P.underlying t = some (.array N e)) (hs : ∀ w, (sizeOf e).run P w = .ok 1 w) (b o lo hi : Nat) (kl kh : IntKind) (l h : Int) (hl : l = lo) (hh : h = hi) (h1 : lo ≤ hi) (h2 : hi ≤ N) (h3 : lo < N) (w : World) :
    (Instr.sliceAt t (.pointer (some ⟨b, o, none⟩)) (some (.int kl l)) (some (.int kh h)) none).run P w = .ok (.slice (some ⟨b, o + lo, none⟩) (hi - lo) (N - lo)) w := by
  have hn : P.arrayLen t = N := by simp [Program.arrayLen, ht]
  have he : P.elem t = e := by simp [Program.elem, ht]
  have ht' : P.underlying t = some (.array (P.arrayLen t) (P.elem t)) := by rw [hn, he]; exact ht
  rw [run_sliceAt_array_lh w t ⟨b, o, none⟩ ht' kl kh l h (by omega) (by omega) (by rw [hn]; omega), he, hs, hn]
  subst hl; subst hh
  have hne : ¬ N = lo := by omega
  simp [Result.andThen, slicedAt, hne, Go.WideShapes.add_plain]
theorem run_arr_h {P : Program} (t e : TypeId) (N : Nat) (ht : P.underlying t = some (.array N e)) (hs : ∀ w, (sizeOf e).run P w = .ok 1 w) (b o hi : Nat) (kh : IntKind) (h : Int) (hh : h = hi) (h2 : hi ≤ N) (h3 : 0 < N) (w : World) :
    (Instr.sliceAt t (.pointer (some ⟨b, o, none⟩)) none (some (.int kh h)) none).run P w = .ok (.slice (some ⟨b, o, none⟩) hi N) w := by
  have hn : P.arrayLen t = N := by simp [Program.arrayLen, ht]
  have he : P.elem t = e := by simp [Program.elem, ht]
  have ht' : P.underlying t = some (.array (P.arrayLen t) (P.elem t)) := by rw [hn, he]; exact ht
  rw [run_sliceAt_array_h w t ⟨b, o, none⟩ ht' kh h (by omega) (by rw [hn]; omega), he, hs, hn]
  subst hh
  have hne : ¬ N = 0 := by omega
  simp [Result.andThen, slicedAt, hne, Go.WideShapes.add_plain]
theorem run_arr_all {P : Program} (t e : TypeId) (N : Nat) (ht : P.underlying t = some (.array N e)) (hs : ∀ w, (sizeOf e).run P w = .ok 1 w) (b o : Nat) (h3 : 0 < N) (w : World) :
    (Instr.sliceAt t (.pointer (some ⟨b, o, none⟩)) none none none).run P w = .ok (.slice (some ⟨b, o, none⟩) N N) w := by
  have hn : P.arrayLen t = N := by simp [Program.arrayLen, ht]
  have he : P.elem t = e := by simp [Program.elem, ht]
  have ht' : P.underlying t = some (.array (P.arrayLen t) (P.elem t)) := by rw [hn, he]; exact ht
  rw [run_sliceAt_array_all w t ⟨b, o, none⟩ ht', he, hs, hn]
  have hne : ¬ N = 0 := by omega
  simp [Result.andThen, slicedAt, hne, Go.WideShapes.add_plain]
end Big
end Go.Proofs.YtmiaabpnolebhaaGreatDoor
