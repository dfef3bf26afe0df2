/-
  Blocks and worlds carried over a call that begins in a world alike (drawn from, or not). No program in sight.
-/
import Derived.Test.YtgmomkinbfajkaaDoorMem
import Derived.Deep.Slices
import Derived.WideShapes
set_option linter.unusedSimpArgs false
set_option linter.unusedVariables false
namespace Go.Proofs.YtgmomkinbfajkaaDoor
open Go.RowKit

theorem Blk.next {w wx w' : World} {g : Nat} {t : TypeId} {cs : Array Value} (h : Blk w g t cs) (hB : Below wx.heap.size wx w') (hx : wx.heap = w.heap) : Blk w' g t cs := by
  have hl : g < wx.heap.size := by rw [hx]; exact h.lt
  have h' : Blk wx g t cs := by unfold Blk at h ⊢; rw [hx]; exact h
  exact h'.below hB hl
theorem below_nxt {B : Nat} {W w wx w' : World} (h : Below B W w) (hB : Below wx.heap.size wx w') (h0 : B ≤ W.heap.size) (hx : wx.heap = w.heap) (h1 : wx.os = w.os) (h2 : wx.tape = w.tape) (h3 : wx.output = w.output) : Below B W w' := by
  have h' : Below B W wx := ⟨h1.trans h.os, h2.trans h.tape, h3.trans h.output, by rw [hx]; exact h.size, fun k hk => by rw [hx]; exact h.block k hk⟩
  exact below_then h' hB h0
theorem blk_new' {w : World} {t : TypeId} {cs : Array Value} {n : Nat} (hn : w.heap.size = n) : Blk (w.alloc (.cells cs t)) n t cs := by
  subst hn
  exact Blk.new w t cs
/-- A part of an array of one-cell elements, as a slice. -/
theorem run_slice_arr {P : Program} (t e : TypeId) (N : Nat) (ht : P.underlying t = some (.array N e)) (hs : ∀ w, (sizeOf e).run P w = .ok 1 w) (b lo hi : Nat) (kl kh : IntKind) (l h : Int) (hl : l = lo) (hh : h = hi) (h1 : lo ≤ hi) (h2 : hi ≤ N) (h3 : lo < N) (w : World) :
    (Instr.sliceAt t (.pointer (some ⟨b, 0, none⟩)) (some (.int kl l)) (some (.int kh h)) none).run P w = .ok (.slice (some ⟨b, lo, none⟩) (hi - lo) (N - lo)) w := by
  have hn : P.arrayLen t = N := by simp [Program.arrayLen, ht]
  have he : P.elem t = e := by simp [Program.elem, ht]
  have ht' : P.underlying t = some (.array (P.arrayLen t) (P.elem t)) := by rw [hn, he]; exact ht
  rw [run_sliceAt_array_lh w t ⟨b, 0, none⟩ ht' kl kh l h (by omega) (by omega) (by rw [hn]; omega), he, hs, hn]
  subst hl; subst hh
  have hne : ¬ N = lo := by omega
  simp [Result.andThen, slicedAt, hne, Go.WideShapes.add_plain]
theorem nats_step {k : IntKind} {M : Nat} {w w' : World} {A : Option Addr} {l : List Nat} (h : Nats k M w w.heap.size A l) (hB : Below w.heap.size w w') : Nats k M w' w'.heap.size A l := (h.below hB).more hB.size
theorem ret2i {k l : IntKind} {a b a' b' : Int} (h1 : a = a') (h2 : b = b') : Ending.returned (.tuple #[.int k a, .int l b]) = .returned (.tuple #[.int k a', .int l b']) := by rw [h1, h2]
theorem ret1i {k : IntKind} {a a' : Int} (h1 : a = a') : Ending.returned (.int k a) = .returned (.int k a') := by rw [h1]
end Go.Proofs.YtgmomkinbfajkaaDoor
