import Derived.Test.YtmiaabpnolebhaaGreatDoorJ4afcd9a5
import Derived.ChangeKeysEq
import Derived.Laws.StructEq
set_option linter.unusedSimpArgs false
set_option linter.unusedVariables false
namespace Go.Proofs.YtmiaabpnolebhaaGreatDoor
open Go.RowKit

namespace Core
open Otp Sha
def x32 (l : List Nat) : List Value := l.map fun x => Value.int .u32 ((x : Nat) : Int)
theorem u32_plain : Tryz.prog.plainKey 52 = true := by kernel_rfl
theorem u32_under : Tryz.prog.underlying 52 = some (.int .u32) := by kernel_rfl
theorem eqItems_same (w : World) (d : Nat) (x : List Nat) : ∀ is : List Nat, (∀ i ∈ is, i < x.length) →
  (Op.eqItems (d + 1) 52 1 (x32 x).toArray (x32 x).toArray is).run Tryz.prog w = .ok true w
 | [], _ => by simp [Op.eqItems]
 | i :: is, h => by
  have h1 := h i (by simp)
  have p1 : (part 52 (x32 x).toArray (i * 1)).run Tryz.prog w = .ok (.int .u32 ((x[i] : Nat) : Int)) w := run_part_plain w u32_plain (by simp [x32, h1])
  have ih := eqItems_same w d x is (fun j hj => h j (by simp [hj]))
  simp only [Op.eqItems, Sem.run_bind, p1, Result.andThen_ok, run_equalIn_int w d 52 .u32 .u32 _ _ u32_under]
  simp only [beq_self_eq_true, Bool.not_true, Bool.false_eq_true, if_false]
  exact ih
theorem eq_same (w : World) (t : TypeId) (x : List Nat) (hx : x.length = 32) (hu : Tryz.prog.underlying t = some (.array 32 52)) :
  (Op.equalIn 10000 t (.agg (x32 x).toArray) (.agg (x32 x).toArray)).run Tryz.prog w = .ok true w := by
 have hs : (Tryz.prog.info? 52).isSome = true := by kernel_rfl
 obtain ⟨i, hi⟩ := Option.isSome_iff_exists.1 hs
 have hc : Tryz.prog.cellsOf 52 = 1 := by kernel_rfl
 have h1 := run_equalIn_array w 9999 (x32 x).toArray (x32 x).toArray hu hi
 rw [hc] at h1
 have h2 := eqItems_same w 9998 x (List.range 32) (fun j hj => by have := List.mem_range.1 hj; omega)
 exact (show _ = _ from h1).trans h2
theorem regs_range {w : World} {b : Nat} {t : TypeId} {c : Cr} (h : Blk w b t (crC c)) (ho : c.Ok) : w.rangeAt b 0 (x32 (c.l.take 32)) := by
 refine Blk.rangeAt (L := crL c) h 0 _ (fun j v hv => ?_)
 unfold x32 at hv
 rw [List.getElem?_map] at hv
 obtain ⟨x, hx, rfl⟩ := Option.map_eq_some_iff.1 hv
 have hj : j < 32 := by
  have := (List.getElem?_eq_some_iff.1 hx).1
  rw [List.length_take] at this
  omega
 rw [List.getElem?_take, if_pos hj] at hx
 unfold crL
 rw [Nat.zero_add, List.getElem?_append_left (by rw [List.length_map, ho.len]; omega), List.getElem?_map, hx]
 rfl
theorem regs_len {c : Cr} (h : c.Ok) : (c.l.take 32).length = 32 := by rw [List.length_take, h.len]; rfl
end Core
end Go.Proofs.YtmiaabpnolebhaaGreatDoor
