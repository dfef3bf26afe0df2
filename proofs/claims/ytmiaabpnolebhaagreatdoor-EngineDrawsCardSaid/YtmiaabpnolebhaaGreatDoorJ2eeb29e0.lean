/-
  Texts of this claim, joined: MakeU8, MemA.
-/
import Derived.Test.YtmiaabpnolebhaaGreatDoorJ1dca9515
import Derived.Deep.RegionLaw
import Derived.Deep.DeepCutAuto
set_option linter.unusedSimpArgs false
set_option linter.unusedVariables false
/-
  make([]byte, n).
-/
namespace Go.Proofs.YtmiaabpnolebhaaGreatDoor
open Go.RowKit

namespace Mk
open Otp R1
theorem made_u8 (n : Nat) : madeCells (#[.int .u8 0] : Array Value) n = b8 (List.replicate n 0) := by
  apply Array.ext_getElem?
  intro i
  by_cases h : i < n
  · rw [made_get _ n i h (by decide)]
    simp [b8, h, Nat.mod_one]
  · rw [Array.getElem?_eq_none (by have := size_madeCells (#[.int .u8 0] : Array Value) n; omega), Array.getElem?_eq_none (by rw [b8_size, List.length_replicate]; omega)]
theorem make_u8 (n : Nat) (hn : n ≤ 1000000) (w : World) : (Instr.makeSlice 24 (.int .i64 (n : Int)) (.int .i64 (n : Int))).run Tryz.prog w = .ok (.slice (some ⟨w.heap.size, 0, none⟩) n n) (w.alloc (.cells (b8 (List.replicate n 0)) 5)) := by
  obtain ⟨i, hi, hz, hs, hby⟩ := info_row u8_info
  have h := run_make_rowN (P := Tryz.prog) 24 5 i _ Tryz.underlying24 hi hz .i64 .i64 n n (Nat.le_refl _) (by rw [hby]; omega) (by omega) w
  rw [hs, Nat.mul_one] at h
  rw [h, ← made_u8 n]
  rfl
end Mk
end Go.Proofs.YtmiaabpnolebhaaGreatDoor

/-
  The reference's memory (curtilageref18): New.
-/
namespace Go.Proofs.YtmiaabpnolebhaaGreatDoor
open Go.RowKit

namespace M18
open Otp R1 Sha
def mB (st : Int) (b1 b2 b3 b4 b5 : Value) (sl : Bool) : Array Value := #[.int .i64 st, .slice none 0 0, b1, b2, b3, b4, b5, .bool sl]
def nl : Value := .slice none 0 0
theorem mem_built (st : Int) : Tryz.prog.built 143 [(0, .int .i64 st)] = some (mB st nl nl nl nl nl false) := by kernel_rfl
def sl (b n : Nat) : Value := .slice (some ⟨b, 0, none⟩) n n
/-- The memory's block and its regions'. -/
structure R5 (w : World) (N g : Nat) (st : Int) (b1 b2 b4 b5 : Nat) (b3 : Value) (Z1 Z2 Z3 Z4 : Array Value) : Prop where
  k : Blk w g 143 (mB st (sl b1 4096) (sl b2 4096) b3 (sl b4 64) (sl b5 256) false)
  k1 : Blk w b1 5 Z1
  k2 : Blk w b2 5 Z2
  k4 : Blk w b4 5 Z3
  k5 : Blk w b5 5 Z4
  h1 : N ≤ b1
  h2 : N ≤ b2
  h4 : N ≤ b4
  h5 : N ≤ b5
  n12 : b1 ≠ b2
  n14 : b1 ≠ b4
  n15 : b1 ≠ b5
  n24 : b2 ≠ b4
  n25 : b2 ≠ b5
  n45 : b4 ≠ b5
theorem leaf {w1 : World} {g : Nat} {st : Int} (hk : Blk w1 g 143 (mB st nl nl nl nl nl false)) (v1 v2 v4 v5 : Value) (Za Zb Zc Zd : Array Value) :
    Blk ((((((((w1.setCell ⟨g, 2, none⟩ v1).setCell ⟨g, 3, none⟩ v2).setCell ⟨g, 5, none⟩ v4).setCell ⟨g, 6, none⟩ v5).alloc (.cells Za 5)).alloc (.cells Zb 5)).alloc (.cells Zc 5)).alloc (.cells Zd 5)).drew g 143 (mB st v1 v2 nl v4 v5 false)
    ∧ Blk ((((((((w1.setCell ⟨g, 2, none⟩ v1).setCell ⟨g, 3, none⟩ v2).setCell ⟨g, 5, none⟩ v4).setCell ⟨g, 6, none⟩ v5).alloc (.cells Za 5)).alloc (.cells Zb 5)).alloc (.cells Zc 5)).alloc (.cells Zd 5)).drew w1.heap.size 5 Za
    ∧ Blk ((((((((w1.setCell ⟨g, 2, none⟩ v1).setCell ⟨g, 3, none⟩ v2).setCell ⟨g, 5, none⟩ v4).setCell ⟨g, 6, none⟩ v5).alloc (.cells Za 5)).alloc (.cells Zb 5)).alloc (.cells Zc 5)).alloc (.cells Zd 5)).drew (w1.heap.size + 1) 5 Zb
    ∧ Blk ((((((((w1.setCell ⟨g, 2, none⟩ v1).setCell ⟨g, 3, none⟩ v2).setCell ⟨g, 5, none⟩ v4).setCell ⟨g, 6, none⟩ v5).alloc (.cells Za 5)).alloc (.cells Zb 5)).alloc (.cells Zc 5)).alloc (.cells Zd 5)).drew (w1.heap.size + 1 + 1) 5 Zc
    ∧ Blk ((((((((w1.setCell ⟨g, 2, none⟩ v1).setCell ⟨g, 3, none⟩ v2).setCell ⟨g, 5, none⟩ v4).setCell ⟨g, 6, none⟩ v5).alloc (.cells Za 5)).alloc (.cells Zb 5)).alloc (.cells Zc 5)).alloc (.cells Zd 5)).drew (w1.heap.size + 1 + 1 + 1) 5 Zd
    ∧ Frm [g] w1 ((((((((w1.setCell ⟨g, 2, none⟩ v1).setCell ⟨g, 3, none⟩ v2).setCell ⟨g, 5, none⟩ v4).setCell ⟨g, 6, none⟩ v5).alloc (.cells Za 5)).alloc (.cells Zb 5)).alloc (.cells Zc 5)).alloc (.cells Zd 5)).drew := by
  have h1 := hk.set 2 v1
  have h2 := h1.set 3 v2
  have h3 := h2.set 5 v4
  have h4 := h3.set 6 v5
  have f : Frm [g] w1 ((((w1.setCell ⟨g, 2, none⟩ v1).setCell ⟨g, 3, none⟩ v2).setCell ⟨g, 5, none⟩ v4).setCell ⟨g, 6, none⟩ v5) := ((((Frm.refl _ _).setCell (p := ⟨g, 2, none⟩) (.inl (by simp)) _).setCell (p := ⟨g, 3, none⟩) (.inl (by simp)) _).setCell (p := ⟨g, 5, none⟩) (.inl (by simp)) _).setCell (p := ⟨g, 6, none⟩) (.inl (by simp)) _
  have hs : ((((w1.setCell ⟨g, 2, none⟩ v1).setCell ⟨g, 3, none⟩ v2).setCell ⟨g, 5, none⟩ v4).setCell ⟨g, 6, none⟩ v5).heap.size = w1.heap.size := by simp
  generalize (((w1.setCell ⟨g, 2, none⟩ v1).setCell ⟨g, 3, none⟩ v2).setCell ⟨g, 5, none⟩ v4).setCell ⟨g, 6, none⟩ v5 = w2 at *
  rw [← hs]
  refine ⟨((((Blk.alloc h4 _).alloc _).alloc _).alloc _).drew, ((((Blk.new w2 _ _).alloc _).alloc _).alloc _).drew, (((blk_new' (by simp)).alloc _).alloc _).drew, ((blk_new' (by simp)).alloc _).drew, (blk_new' (by simp)).drew, ((((f.alloc _).alloc _).alloc _).alloc _).drew⟩
theorem leaf_at {w1 : World} {g : Nat} {st : Int} (hk : Blk w1 g 143 (mB st nl nl nl nl nl false)) (v1 v2 v4 v5 : Value) (Za Zb Zc Zd : Array Value) (G : World → Prop)
    (h : ∀ W, Blk W g 143 (mB st v1 v2 nl v4 v5 false) → Blk W w1.heap.size 5 Za → Blk W (w1.heap.size + 1) 5 Zb → Blk W (w1.heap.size + 1 + 1) 5 Zc → Blk W (w1.heap.size + 1 + 1 + 1) 5 Zd → Frm [g] w1 W → G W) :
    G ((((((((w1.setCell ⟨g, 2, none⟩ v1).setCell ⟨g, 3, none⟩ v2).setCell ⟨g, 5, none⟩ v4).setCell ⟨g, 6, none⟩ v5).alloc (.cells Za 5)).alloc (.cells Zb 5)).alloc (.cells Zc 5)).alloc (.cells Zd 5)).drew := by
  obtain ⟨l0, l1, l2, l3, l4, l5⟩ := leaf hk v1 v2 v4 v5 Za Zb Zc Zd
  exact h _ l0 l1 l2 l3 l4 l5
theorem leaf3 {w2 : World} {N g b1 b2 b4 b5 : Nat} {st : Int} {b3 v : Value} {Z1 Z2 Z3 Z4 Z5 : Array Value} (h : R5 w2 N g st b1 b2 b4 b5 b3 Z1 Z2 Z3 Z4) (h1 : b1 ≠ g) (h2 : b2 ≠ g) (h4 : b4 ≠ g) (h5 : b5 ≠ g) :
    R5 ((w2.setCell ⟨g, 4, none⟩ v).alloc (.cells Z5 5)).drew N g st b1 b2 b4 b5 v Z1 Z2 Z3 Z4 ∧ Blk ((w2.setCell ⟨g, 4, none⟩ v).alloc (.cells Z5 5)).drew w2.heap.size 5 Z5 ∧ Frm [g] w2 ((w2.setCell ⟨g, 4, none⟩ v).alloc (.cells Z5 5)).drew := by
  have k := h.k.set 4 v
  exact ⟨⟨(Blk.alloc k _).drew, ((h.k1.far' _ _ h1 _).alloc _).drew, ((h.k2.far' _ _ h2 _).alloc _).drew, ((h.k4.far' _ _ h4 _).alloc _).drew, ((h.k5.far' _ _ h5 _).alloc _).drew, h.h1, h.h2, h.h4, h.h5, h.n12, h.n14, h.n15, h.n24, h.n25, h.n45⟩, (blk_new' (by simp)).drew, (((Frm.refl _ _).setCell (p := ⟨g, 4, none⟩) (.inl (by simp)) _).alloc _).drew⟩
end M18
end Go.Proofs.YtmiaabpnolebhaaGreatDoor
