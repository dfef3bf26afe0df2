/-
  Texts of this claim, joined: MakeU8, MemA.
-/
import Derived.Test.YtmiaabpnolebhaaGreatDoorJ0f874aed
import Derived.Deep.RegionLaw
import Derived.Deep.DeepCutAuto
set_option linter.unusedSimpArgs false
set_option linter.unusedVariables false
namespace Go.Proofs.YtmiaabpnolebhaaGreatDoor
open Go.RowKit

namespace Mk
open Otp R1
theorem made_u8 (n : Nat) : madeCells (#[.int .u8 0] : Array Value) n = b8 (List.replicate n 0) := by
 apply Array.ext_getElem?
 intro i
 by_cases h : i < n
 ·rw [made_get _ n i h (by decide)]
  simp [b8, h, Nat.mod_one]
 ·rw [Array.getElem?_eq_none (by have := size_madeCells (#[.int .u8 0] : Array Value) n; omega), Array.getElem?_eq_none (by rw [b8_size, List.length_replicate]; omega)]
theorem make_u8 (n : Nat) (hn : n ≤ 1000000) (w : World) : (Instr.makeSlice 24 (.int .i64 (n : Int)) (.int .i64 (n : Int))).run Tryz.prog w = .ok (.slice (some ⟨w.heap.size, 0, none⟩) n n) (w.alloc (.cells (b8 (List.replicate n 0)) 5)) := by
 obtain ⟨i, hi, hz, hs, hby⟩ := info_row u8_info
 have h := run_make_rowN (P := Tryz.prog) 24 5 i _ Tryz.underlying24 hi hz .i64 .i64 n n (Nat.le_refl _) (by rw [hby]; omega) (by omega) w
 rw [hs, Nat.mul_one] at h
 rw [h, ← made_u8 n]
 rfl
end Mk
end Go.Proofs.YtmiaabpnolebhaaGreatDoor
namespace Go.Proofs.YtmiaabpnolebhaaGreatDoor
open Go.RowKit

namespace M18
open Otp R1 Sha
def mB (st : Int) (b1 b2 b3 b4 b5 : Value) (sl : Bool) : Array Value := #[.int .i64 st, .slice none 0 0, b1, b2, b3, b4, b5, .bool sl]
def nl : Value := .slice none 0 0
theorem mem_built (st : Int) : Tryz.prog.built 143 [(0, .int .i64 st)] = some (mB st nl nl nl nl nl false) := by kernel_rfl
def sl (b n : Nat) : Value := .slice (some ⟨b, 0, none⟩) n n
structure R5 (w : World) (N g : Nat) (st : Int) (b1 b2 b4 b5 : Nat) (b3 : Value) (Z1 Z2 Z3 Z4 : Array Value) : Prop where
 k : Blk w g 143 (mB st (sl b1 4096) (sl b2 4096) b3 (sl b4 64) (sl b5 256) false)
 k1 : Blk w b1 5 Z1
 k2 : Blk w b2 5 Z2
 k4 : Blk w b4 5 Z3
 k5 : Blk w b5 5 Z4
 h1 : N ≤ b1
 h2 : N ≤ b2
 h4 : N ≤ b4
 h5 : N ≤ b5
 n12 : b1 ≠ b2
 n14 : b1 ≠ b4
 n15 : b1 ≠ b5
 n24 : b2 ≠ b4
 n25 : b2 ≠ b5
 n45 : b4 ≠ b5
theorem leaf3 {w2 : World} {N g b1 b2 b4 b5 : Nat} {st : Int} {b3 v : Value} {Z1 Z2 Z3 Z4 Z5 : Array Value} (h : R5 w2 N g st b1 b2 b4 b5 b3 Z1 Z2 Z3 Z4) (h1 : b1 ≠ g) (h2 : b2 ≠ g) (h4 : b4 ≠ g) (h5 : b5 ≠ g) :
  R5 ((w2.setCell ⟨g, 4, none⟩ v).alloc (.cells Z5 5)).drew N g st b1 b2 b4 b5 v Z1 Z2 Z3 Z4 ∧ Blk ((w2.setCell ⟨g, 4, none⟩ v).alloc (.cells Z5 5)).drew w2.heap.size 5 Z5 ∧ Frm [g] w2 ((w2.setCell ⟨g, 4, none⟩ v).alloc (.cells Z5 5)).drew := by
 have k := h.k.set 4 v
 exact ⟨⟨(Blk.alloc k _).drew, ((h.k1.far' _ _ h1 _).alloc _).drew, ((h.k2.far' _ _ h2 _).alloc _).drew, ((h.k4.far' _ _ h4 _).alloc _).drew, ((h.k5.far' _ _ h5 _).alloc _).drew, h.h1, h.h2, h.h4, h.h5, h.n12, h.n14, h.n15, h.n24, h.n25, h.n45⟩, (blk_new' (by simp)).drew, (((Frm.refl _ _).setCell (p := ⟨g, 4, none⟩) (.inl (by simp)) _).alloc _).drew⟩
end M18
end Go.Proofs.YtmiaabpnolebhaaGreatDoor
