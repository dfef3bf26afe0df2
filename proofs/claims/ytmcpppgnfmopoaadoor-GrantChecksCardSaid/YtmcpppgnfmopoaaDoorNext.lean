/-
  Blocks and worlds carried over a call that begins in a world alike (drawn from, or not). No program in sight.
-/
import Derived.Test.YtmcpppgnfmopoaaDoorMem
namespace Go.Proofs.YtmcpppgnfmopoaaDoor
open Go.RowKit

theorem Blk.next {w wx w' : World} {g : Nat} {t : TypeId} {cs : Array Value} (h : Blk w g t cs) (hB : Below wx.heap.size wx w') (hx : wx.heap = w.heap) : Blk w' g t cs := by
  have hl : g < wx.heap.size := by rw [hx]; exact h.lt
  have h' : Blk wx g t cs := by unfold Blk at h ⊢; rw [hx]; exact h
  exact h'.below hB hl
theorem below_nxt {B : Nat} {W w wx w' : World} (h : Below B W w) (hB : Below wx.heap.size wx w') (h0 : B ≤ W.heap.size) (hx : wx.heap = w.heap) (h1 : wx.os = w.os) (h2 : wx.tape = w.tape) (h3 : wx.output = w.output) : Below B W w' := by
  have h' : Below B W wx := ⟨h1.trans h.os, h2.trans h.tape, h3.trans h.output, by rw [hx]; exact h.size, fun k hk => by rw [hx]; exact h.block k hk⟩
  exact below_then h' hB h0
theorem ret2i {k l : IntKind} {a b a' b' : Int} (h1 : a = a') (h2 : b = b') : Ending.returned (.tuple #[.int k a, .int l b]) = .returned (.tuple #[.int k a', .int l b']) := by rw [h1, h2]
theorem ret1i {k : IntKind} {a a' : Int} (h1 : a = a') : Ending.returned (.int k a) = .returned (.int k a') := by rw [h1]
end Go.Proofs.YtmcpppgnfmopoaaDoor
