/-
  Package rv: Name.
-/
import Derived.Test.YtgmomkinbfajkaaDoorFrom
import Derived.Test.YtgmomkinbfajkaaDoorShelfFld
import Derived.Test.YtgmomkinbfajkaaDoorTabVars
set_option linter.unusedSimpArgs false
set_option linter.unusedVariables false
namespace Go.Proofs.YtgmomkinbfajkaaDoor
open Go.RowKit

namespace Rv
open Otp Sha
def nmL : List UInt8 := [108, 117, 105, 32, 97, 117, 105, 112, 99, 32, 106, 97, 108, 32, 106, 97, 108, 114, 32, 98, 101, 113, 32, 98, 110, 101, 32, 98, 108, 116, 32, 98, 103, 101, 32, 98, 108, 116, 117, 32, 98, 103, 101, 117, 32, 108, 98, 32, 108, 104, 32, 108, 119, 32, 108, 98, 117, 32, 108, 104, 117, 32, 115, 98, 32, 115, 104, 32, 115, 119, 32, 97, 100, 100, 105, 32, 115, 108, 116, 105, 32, 115, 108, 116, 105, 117, 32, 120, 111, 114, 105, 32, 111, 114, 105, 32, 97, 110, 100, 105, 32, 115, 108, 108, 105, 32, 115, 114, 108, 105, 32, 115, 114, 97, 105, 32, 97, 100, 100, 32, 115, 117, 98, 32, 115, 108, 108, 32, 115, 108, 116, 32, 115, 108, 116, 117, 32, 120, 111, 114, 32, 115, 114, 108, 32, 115, 114, 97, 32, 111, 114, 32, 97, 110, 100, 32, 102, 101, 110, 99, 101, 32, 101, 99, 97, 108, 108, 32, 101, 98, 114, 101, 97, 107, 32, 109, 114, 101, 116, 32, 119, 102, 105, 32, 99, 115, 114, 114, 119, 32, 99, 115, 114, 114, 115, 32, 99, 115, 114, 114, 99, 32, 99, 115, 114, 114, 119, 105, 32, 99, 115, 114, 114, 115, 105, 32, 99, 115, 114, 114, 99, 105, 32, 109, 117, 108, 32, 109, 117, 108, 104, 32, 109, 117, 108, 104, 115, 117, 32, 109, 117, 108, 104, 117, 32, 100, 105, 118, 32, 100, 105, 118, 117, 32, 114, 101, 109, 32, 114, 101, 109, 117]
def flds : List (List UInt8) := Lib.fields nmL
theorem flds_len : flds.length = 56 := by decide +kernel
theorem flds_ne : ∀ l ∈ flds, l ≠ [] := by decide +kernel
theorem flds_last : flds[55]? = some [114, 101, 109, 117] := by decide +kernel
def STb (w : World) : Prop := Lib.TabIs Tryd.prog w "strings.asciiSpace" .u8 Lib.asciiSpaceTab
theorem gSp : Tryd.prog.globalNamed "strings.asciiSpace" = some 0 := by kernel_rfl
theorem gSpType : (Tryd.prog.globals[0]?).map (·.type) = some 58 := by kernel_rfl
theorem gSpCells : Tryd.prog.cellsOf 58 = 256 := by kernel_rfl
theorem gSp1 : Tryd.prog.cellsOf 5 = 1 := by kernel_rfl
theorem stb_of {W : World} {laid : List (String × DataW Unit)} (h : laidMet Tryd.prog laid W) (h1 : ("strings.asciiSpace", Lib.tabData .u8 Lib.asciiSpaceTab) ∈ laid) : STb W := by
  obtain ⟨ps, hv, _⟩ := h
  exact tabIs_of_vars gSp gSpType Tryd.underlying58 Tryd.underlying5 gSp1 gSpCells _ _ hv h1
theorem STb.old {w w' : World} (h : STb w) (hb : Below w.heap.size w w') : STb w' := tabIs_old h hb
def nameOf (op : Nat) : ByteArray := if 1 ≤ op ∧ op ≤ 56 then ⟨(flds.getD (op - 1) []).toArray⟩ else ByteArray.empty
def StrOut (s : ByteArray) (w : World) (e : Ending) (w' : World) : Prop := e = .returned (.string s) ∧ Below w.heap.size w w'
theorem fields_call (s : ByteArray) (l : List UInt8) (w : World) (hl : s.data.toList = l) (hs : s.size < 4294967281) (ha : l.all (fun b => decide (b.toNat < 128)) = true) (hT : STb w) :
    Calls Tryd.prog 26 #[.string s] w fun e w' => e = .returned (.slice (some ⟨w.heap.size, 0, none⟩) (Lib.fields l).length (Lib.fields l).length) ∧ w' = w.alloc (.cells ((Lib.fields l).map fun l => Value.string ⟨l.toArray⟩).toArray 9) := by
  subst hl
  exact Go.Proofs.Any.strings_Fields_laid Tryd.lays157 s w hs (fun j b hj => of_decide_eq_true (List.all_eq_true.1 ha b (List.mem_of_getElem? hj))) hT
set_option maxRecDepth 100000 in
set_option maxHeartbeats 4000000 in
theorem name_any (op : Nat) (z : Int) (w : World) (e1 : z = op) (h8 : op < 256) (hT : STb w) :
    Calls Tryd.prog 11 #[.int .u8 z] w (StrOut (nameOf op) w) := by
  subst e1
  obtain ⟨s, hs⟩ : ∃ s, nameOf op = s := ⟨_, rfl⟩
  have HS := wall hs
  rw [hs]
  clear hs
  go_enter Tryd.func11, Tryd.ntmps11
  go_wp2_with fail
  refine (fields_call _ nmL w (by kernel_rfl) (by decide +kernel) (by decide +kernel) hT).mono ?_
  rintro e w1 ⟨rfl, hw1⟩
  rw [show (Lib.fields nmL).length = 56 from flds_len]
  have HK := wall (show Blk w1 w.heap.size 9 (flds.map fun l => Value.string ⟨l.toArray⟩).toArray by rw [hw1]; exact Blk.new _ _ _)
  have HB := wall (show Below w.heap.size w w1 by rw [hw1]; exact (Below.refl _ w).alloc (Nat.le_refl _) _)
  clear hw1 hT
  by_cases h1 : (op : Int) < 1
  · have HR := wall (show s = ByteArray.empty by rw [← HS.out]; unfold nameOf; rw [if_neg (by omega)])
    go_wp2_with fail
    go_light
    go_ret
    exact ⟨by rw [HR.out]; rfl, HB.out⟩
  · by_cases h2 : 56 < (op : Int)
    · have HR := wall (show s = ByteArray.empty by rw [← HS.out]; unfold nameOf; rw [if_neg (by omega)])
      go_wp2_with fail
      go_light
      go_ret
      exact ⟨by rw [HR.out]; rfl, HB.out⟩
    · obtain ⟨x, hx⟩ : ∃ x, flds[op - 1]? = some x := ⟨_, List.getElem?_eq_getElem (by rw [flds_len]; omega)⟩
      have HR := wall (show s = ⟨x.toArray⟩ by
        rw [← HS.out]
        unfold nameOf
        rw [if_pos (by omega), List.getD_eq_getElem?_getD, hx]
        rfl)
      have hc : w1.cell? ⟨w.heap.size, op - 1, none⟩ = some (.string ⟨x.toArray⟩) := by rw [HK.out.cell]; simp [hx]
      have e1 : ((op : Int) - 1) % 256 = ((op - 1 : Nat) : Int) := by omega
      have e2 : (((op - 1 : Nat) : Int)) < 56 := by omega
      clear hx
      go_wp2_with fail
      go_light
      go_ret
      exact ⟨by rw [HR.out]; rfl, HB.out⟩
end Rv
end Go.Proofs.YtgmomkinbfajkaaDoor
