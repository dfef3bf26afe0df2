/-
  Texts of this claim, joined: CorNl, Eq32, CorSm.
-/
import Derived.Test.YtfiojpdkbckopaaDoorCorI
import Derived.Test.YtfiojpdkbckopaaDoorCorE
import Derived.WalkMore
import Derived.Test.YtfiojpdkbckopaaDoorProg
import Derived.Test.YtfiojpdkbckopaaDoorJ68c09f72
import Derived.Test.YtfiojpdkbckopaaDoorJ8329983b
import Derived.ChangeKeysEq
import Derived.Laws.StructEq
set_option linter.unusedVariables false
/-
  A core and no space: Run, Step.
-/
set_option linter.unusedSimpArgs false
set_option linter.unusedVariables false
namespace Go.Proofs.YtfiojpdkbckopaaDoor
open Go.RowKit

namespace Core
open Otp Sha Rv
set_option maxRecDepth 100000 in
set_option maxHeartbeats 2000000 in
theorem run_nil (c : Cr) (hc : c.Ok) (n : Int) (w : World) : Calls Tryd.prog 13 #[.agg (crC c), .pointer none, .int .i64 n] w fun e w' => e = .returned (.tuple #[.agg (crC c), .int .i64 0]) ∧ Below w.heap.size w w' := by
  have HF := wall (Fq.new w c)
  have HZ := wall cr_zero
  have HR := wall (res_row hc)
  obtain ⟨C, hC⟩ : ∃ y, crC c = y := ⟨_, rfl⟩
  obtain ⟨Z, hZ⟩ : ∃ y, crC crZ = y := ⟨_, rfl⟩
  rw [hC, hZ] at HF
  have HB := wall (show Blk ((w.alloc (.cells C 34)).alloc (.cells Z 34)) w.heap.size 34 C ∧ Blk ((w.alloc (.cells C 34)).alloc (.cells Z 34)) (w.heap.size + 1) 34 Z ∧ Below w.heap.size w ((w.alloc (.cells C 34)).alloc (.cells Z 34)) from ⟨by rw [← hC]; rw [← hC] at HF; exact HF.out.c, by rw [← hZ]; rw [← hZ] at HF; exact HF.out.o, HF.out.bel⟩)
  rw [hZ] at HZ
  rw [hC, hZ] at HR
  rw [hC]
  clear hC hZ hc HF
  go_enter Tryd.func13, Tryd.ntmps13
  go_upto_region 1 with (first | refine Big.wpList_alloc_at rfl 34 rfl Z HZ.out (w.heap.size + 1) (by simp) ?_)
  try simp only [Act.put, List.setIfInBounds_toArray, List.set_cons_zero, List.set_cons_succ]
  generalize (w.alloc (.cells C 34)).alloc (.cells Z 34) = w1 at *
  go_wp2_with fail
  try go_step3
  go_wp2_with (first | refine wpList_load_row rfl 34 _ rfl w.heap.size rfl 34 C (0, 0) _ HB.out.1 Tryd.underlying34 rfl HR.out.1 ?_ | (refine wpList_set_row rfl 34 (.tmp 6) (.tmp 12) rfl (w.heap.size + 1) C rfl rfl 34 Z HB.out.2.1 HR.out.1 HR.out.2.1 HR.out.2.2 ?_; intro w4 K4 F4))
  have HB4 := wall (Below.frm HB.out.2.2 F4.out (Nat.le_refl _) (by simp))
  go_light
  try rw [Exit.noGoto_ret]
  exact bodyPost_ret (v := .tuple #[.agg C, .int .i64 0]) (results_one_slot Tryd.results13 _ _ (w.heap.size + 1) 34 C _ (.int .i64 0) rfl rfl K4.out Tryd.underlying34 rfl HR.out.1) rfl ⟨rfl, HB4.out⟩
set_option maxRecDepth 100000 in
set_option maxHeartbeats 2000000 in
theorem step_nil (c : Cr) (hc : c.Ok) (tm : Bool) (w : World) : Calls Tryd.prog 11 #[.agg (crC c), .pointer none, .bool tm] w (StepOut c evZ w) := by
  have HF := wall (Fr.new w c)
  have HZ := wall cr_zero
  have HE := wall ev_zero
  have HR := wall (res_row hc)
  have HEI := wall (show (Tryd.prog.info? 44).map (·.size) = some evZ.size ∧ evZ.size = evZ.size ∧ evZ.all (·.oneCell') = true from ⟨ev_info, rfl, evC_one _ _ _ _ _ _ _⟩)
  have HBE := wall (show Tryd.prog.built 44 [] = some evZ by kernel_rfl)
  obtain ⟨C, hC⟩ : ∃ y, crC c = y := ⟨_, rfl⟩
  obtain ⟨Z, hZ⟩ : ∃ y, crC crZ = y := ⟨_, rfl⟩
  obtain ⟨E, hE⟩ : ∃ y, evZ = y := ⟨_, rfl⟩
  rw [hC, hZ, hE] at HF
  have HB := wall (show Blk (((w.alloc (.cells C 34)).alloc (.cells Z 34)).alloc (.cells E 44)) w.heap.size 34 C ∧ Blk (((w.alloc (.cells C 34)).alloc (.cells Z 34)).alloc (.cells E 44)) (w.heap.size + 1) 34 Z ∧ Blk (((w.alloc (.cells C 34)).alloc (.cells Z 34)).alloc (.cells E 44)) (w.heap.size + 2) 44 E ∧ Below w.heap.size w (((w.alloc (.cells C 34)).alloc (.cells Z 34)).alloc (.cells E 44)) from ⟨by rw [← hC]; rw [← hC] at HF; exact HF.out.c, by rw [← hZ]; rw [← hZ] at HF; exact HF.out.o, by rw [← hE]; rw [← hE] at HF; exact HF.out.e, HF.out.bel⟩)
  rw [hZ] at HZ
  rw [hE] at HE HEI HBE ⊢
  rw [hC, hZ] at HR
  unfold StepOut
  rw [hC]
  clear hC hZ hc HF hE
  go_enter Tryd.func11, Tryd.ntmps11
  go_upto_region 1 with (first | refine Big.wpList_alloc_at rfl 34 rfl Z HZ.out (w.heap.size + 1) (by simp) ?_ | refine Big.wpList_alloc_at rfl 44 rfl E HE.out (w.heap.size + 2) (by simp) ?_)
  try simp only [Act.put, List.setIfInBounds_toArray, List.set_cons_zero, List.set_cons_succ]
  generalize ((w.alloc (.cells C 34)).alloc (.cells Z 34)).alloc (.cells E 44) = w1 at *
  go_wp2_with (first | refine wpList_load_row rfl 34 _ rfl w.heap.size rfl 34 C (0, 0) _ HB.out.1 Tryd.underlying34 rfl HR.out.1 ?_ | refine wpList_build_row rfl 44 [] rfl E HBE.out ?_ | (refine wpList_set_row rfl 34 (.tmp 6) (.tmp 14) rfl (w.heap.size + 1) C rfl rfl 34 Z HB.out.2.1 HR.out.1 HR.out.2.1 HR.out.2.2 ?_; intro w4 K4 F4; have HK4 := wall (HB.out.2.2.1.frm F4.out (by simp))) | (refine wpList_set_row rfl 44 (.tmp 7) (.tmp 15) rfl (w.heap.size + 2) E rfl rfl 44 E HK4.out HEI.out.1 rfl HEI.out.2.2 ?_; intro w5 K5 F5))
  have K5o := wall (K4.out.frm F5.out (by simp))
  have HB5 := wall (Below.frm (Below.frm HB.out.2.2.2 F4.out (Nat.le_refl _) (by simp)) F5.out (Nat.le_refl _) (by simp))
  go_light
  exact bodyPost_ret (v := .tuple #[.agg C, .agg E]) (results_two Tryd.results11 _ _ (w.heap.size + 1) (w.heap.size + 2) 34 44 C E _ _ rfl rfl K5o.out K5.out Tryd.underlying34 rfl HR.out.1 Tryd.underlying44 rfl HEI.out.1) rfl ⟨rfl, HB5.out⟩
end Core
end Go.Proofs.YtfiojpdkbckopaaDoor

/-
  Arrays of 32-bit numbers by value: one is itself.
-/
set_option linter.unusedSimpArgs false
set_option linter.unusedVariables false
namespace Go.Proofs.YtfiojpdkbckopaaDoor
open Go.RowKit

namespace Core
open Otp Sha
def x32 (l : List Nat) : List Value := l.map fun x => Value.int .u32 ((x : Nat) : Int)
theorem u32_plain : Tryd.prog.plainKey 23 = true := by kernel_rfl
theorem u32_under : Tryd.prog.underlying 23 = some (.int .u32) := by kernel_rfl
theorem eqItems_same (w : World) (d : Nat) (x : List Nat) : ∀ is : List Nat, (∀ i ∈ is, i < x.length) →
    (Op.eqItems (d + 1) 23 1 (x32 x).toArray (x32 x).toArray is).run Tryd.prog w = .ok true w
  | [], _ => by simp [Op.eqItems]
  | i :: is, h => by
    have h1 := h i (by simp)
    have p1 : (part 23 (x32 x).toArray (i * 1)).run Tryd.prog w = .ok (.int .u32 ((x[i] : Nat) : Int)) w := run_part_plain w u32_plain (by simp [x32, h1])
    have ih := eqItems_same w d x is (fun j hj => h j (by simp [hj]))
    simp only [Op.eqItems, Sem.run_bind, p1, Result.andThen_ok, run_equalIn_int w d 23 .u32 .u32 _ _ u32_under]
    simp only [beq_self_eq_true, Bool.not_true, Bool.false_eq_true, if_false]
    exact ih
theorem eq_same (w : World) (t : TypeId) (x : List Nat) (hx : x.length = 32) (hu : Tryd.prog.underlying t = some (.array 32 23)) :
    (Op.equalIn 10000 t (.agg (x32 x).toArray) (.agg (x32 x).toArray)).run Tryd.prog w = .ok true w := by
  have hs : (Tryd.prog.info? 23).isSome = true := by kernel_rfl
  obtain ⟨i, hi⟩ := Option.isSome_iff_exists.1 hs
  have hc : Tryd.prog.cellsOf 23 = 1 := by kernel_rfl
  have h1 := run_equalIn_array w 9999 (x32 x).toArray (x32 x).toArray hu hi
  rw [hc] at h1
  have h2 := eqItems_same w 9998 x (List.range 32) (fun j hj => by have := List.mem_range.1 hj; omega)
  exact (show _ = _ from h1).trans h2
theorem regs_range {w : World} {b : Nat} {t : TypeId} {c : Cr} (h : Blk w b t (crC c)) (ho : c.Ok) : w.rangeAt b 0 (x32 (c.l.take 32)) := by
  refine Blk.rangeAt (L := crL c) h 0 _ (fun j v hv => ?_)
  unfold x32 at hv
  rw [List.getElem?_map] at hv
  obtain ⟨x, hx, rfl⟩ := Option.map_eq_some_iff.1 hv
  have hj : j < 32 := by
    have := (List.getElem?_eq_some_iff.1 hx).1
    rw [List.length_take] at this
    omega
  rw [List.getElem?_take, if_pos hj] at hx
  unfold crL
  rw [Nat.zero_add, List.getElem?_append_left (by rw [List.length_map, ho.len]; omega), List.getElem?_map, hx]
  rfl
theorem regs_len {c : Cr} (h : c.Ok) : (c.l.take 32).length = 32 := by rw [List.length_take, h.len]; rfl
theorem take_high {c : Cr} {i v : Nat} (h : 32 ≤ i) : (c.set i v).l.take 32 = c.l.take 32 := by
  unfold Cr.set
  exact List.take_set_of_le h
end Core
end Go.Proofs.YtfiojpdkbckopaaDoor

/-
  A core is itself (core.Same); Run and Step of no space.
-/
set_option linter.unusedSimpArgs false
set_option linter.unusedVariables false
namespace Go.Proofs.YtfiojpdkbckopaaDoor
open Go.RowKit

namespace Core
open Otp Sha Rv
theorem eqFields_same {P : Program} {w : World} {d : Nat} {xs : Array Value} : ∀ fs : List Field, (∀ f ∈ fs, f.name ≠ "_" ∧ ∃ a, (part f.type xs f.offset).run P w = .ok a w ∧ (Op.equalIn d f.type a a).run P w = .ok true w) → (Op.eqFields d xs xs fs).run P w = .ok true w
  | [], _ => by simp [Op.eqFields]
  | f :: fs, h => by
    obtain ⟨h1, a, h2, h3⟩ := h f List.mem_cons_self
    have ih := eqFields_same (P := P) (w := w) (d := d) (xs := xs) fs (fun g hg => h g (List.mem_cons_of_mem _ hg))
    simp only [Op.eqFields, ne_eq, h1, not_false_eq_true, if_true, Sem.run_bind, h2, Result.andThen_ok, h3, Bool.not_true, Bool.false_eq_true, if_false]
    exact ih
def flds (P : Program) (t : TypeId) : List (Bool × TypeId × Nat) := (P.fieldsOf t).toList.map fun f => (f.name != "_", f.type, f.offset)
theorem flds_mem {t : TypeId} {f : Field} (h : f ∈ (Tryd.prog.fieldsOf t).toList) : (f.name != "_", f.type, f.offset) ∈ flds Tryd.prog t := List.mem_map.2 ⟨f, h, rfl⟩
theorem core_flds : flds Tryd.prog 34 = [(true, 30, 0), (true, 23, 32), (true, 32, 33), (true, 4, 41)] := by kernel_rfl
theorem csrs_flds : flds Tryd.prog 32 = [(true, 23, 0), (true, 23, 1), (true, 23, 2), (true, 23, 3), (true, 23, 4), (true, 23, 5), (true, 23, 6), (true, 23, 7)] := by kernel_rfl
theorem bool_under : Tryd.prog.underlying 4 = some .bool := by kernel_rfl
theorem bool_plain : Tryd.prog.plainKey 4 = true := by kernel_rfl
theorem core_under : Tryd.prog.underlying 34 = some (.struct (Tryd.prog.fieldsOf 34)) := by kernel_rfl
theorem csrs_under : Tryd.prog.underlying 32 = some (.struct (Tryd.prog.fieldsOf 32)) := by kernel_rfl
theorem core_held : Tryd.prog.stoodInHeld 34 = false := by kernel_rfl
theorem csrs_held : Tryd.prog.stoodInHeld 32 = false := by kernel_rfl
theorem regs_under : Tryd.prog.underlying 30 = some (.array 32 23) := by kernel_rfl
theorem part_arr (w : World) (xs : Array Value) (o : Nat) : (part 30 xs o).run Tryd.prog w = .ok (.agg (xs.extract o (o + 32))) w := by
  have hs : (Tryd.prog.info? 30).isSome = true := by kernel_rfl
  obtain ⟨i, hi⟩ := Option.isSome_iff_exists.1 hs
  have hc : Tryd.prog.cellsOf 30 = 32 := by kernel_rfl
  simp [part, isAgg, run_underlying regs_under, run_sizeOf w hi, hc]
theorem part_csrs (w : World) (xs : Array Value) (o : Nat) : (part 32 xs o).run Tryd.prog w = .ok (.agg (xs.extract o (o + 8))) w := by
  have hs : (Tryd.prog.info? 32).isSome = true := by kernel_rfl
  obtain ⟨i, hi⟩ := Option.isSome_iff_exists.1 hs
  have hc : Tryd.prog.cellsOf 32 = 8 := by kernel_rfl
  simp [part, isAgg, run_underlying csrs_under, run_sizeOf w hi, hc]
theorem same_u32 (w : World) (d : Nat) (xs : Array Value) (o x : Nat) (h : xs[o]? = some (.int .u32 (x : Int))) : ∃ a, (part 23 xs o).run Tryd.prog w = .ok a w ∧ (Op.equalIn (d + 1) 23 a a).run Tryd.prog w = .ok true w :=
  ⟨_, run_part_plain w u32_plain h, by rw [run_equalIn_int w d 23 .u32 .u32 _ _ u32_under]; simp⟩
theorem crC_at {c : Cr} (h : c.Ok) {i : Nat} (hi : i < 41) : (crC c)[i]? = some (.int .u32 ((c.g i : Nat) : Int)) := by
  show (crL c).toArray[i]? = _
  rw [List.getElem?_toArray]
  exact crL_get h hi
theorem ext_at {xs : Array Value} {o n i : Nat} (hi : i < n) : (xs.extract o (o + n))[i]? = xs[o + i]? := by
  rw [Array.getElem?_extract]
  by_cases h : i < min (o + n) xs.size - o
  · rw [if_pos h]
  · rw [if_neg h, Array.getElem?_eq_none (by omega)]
theorem ext_regs {c : Cr} (h : c.Ok) : (crC c).extract 0 (0 + 32) = (x32 (c.l.take 32)).toArray := by
  apply Array.toList_inj.1
  rw [Array.toList_extract]
  show ((crL c).take (0 + 32)).drop 0 = _
  unfold crL x32
  rw [Nat.zero_add, List.drop_zero, List.take_append_of_le_length (by simp [h.len]), List.map_take]
theorem core_same (w : World) (c : Cr) (h : c.Ok) : (Op.equalIn 10000 34 (.agg (crC c)) (.agg (crC c))).run Tryd.prog w = .ok true w := by
  refine (run_equalIn_struct w 9999 34 (crC c) (crC c) core_under core_held).trans (eqFields_same _ (fun f hf => ?_))
  have hm := flds_mem hf
  rw [core_flds] at hm
  simp only [List.mem_cons, List.not_mem_nil, or_false, Prod.mk.injEq, bne_iff_ne, ne_eq] at hm
  rcases hm with ⟨h1, h2, h3⟩ | ⟨h1, h2, h3⟩ | ⟨h1, h2, h3⟩ | ⟨h1, h2, h3⟩
  · rw [h2, h3]
    refine ⟨h1, _, part_arr w _ 0, ?_⟩
    rw [ext_regs h]
    have hu : Tryd.prog.underlying 30 = some (.array 32 23) := regs_under
    have hs : (Tryd.prog.info? 23).isSome = true := by kernel_rfl
    obtain ⟨i, hi⟩ := Option.isSome_iff_exists.1 hs
    have hc : Tryd.prog.cellsOf 23 = 1 := by kernel_rfl
    have e1 := run_equalIn_array w 9998 (x32 (c.l.take 32)).toArray (x32 (c.l.take 32)).toArray hu hi
    rw [hc] at e1
    have e2 := eqItems_same w 9997 (c.l.take 32) (List.range 32) (fun j hj => by rw [regs_len h]; exact List.mem_range.1 hj)
    exact (show _ = _ from e1).trans e2
  · rw [h2, h3]
    exact ⟨h1, same_u32 w 9998 _ 32 _ (crC_at h (by decide))⟩
  · rw [h2, h3]
    refine ⟨h1, _, part_csrs w _ 33, ?_⟩
    refine (run_equalIn_struct w 9998 32 _ _ csrs_under csrs_held).trans (eqFields_same _ (fun f hf => ?_))
    have hm := flds_mem hf
    rw [csrs_flds] at hm
    simp only [List.mem_cons, List.not_mem_nil, or_false, Prod.mk.injEq, bne_iff_ne, ne_eq] at hm
    have key : ∀ j, j < 8 → ∃ a, (part 23 ((crC c).extract 33 (33 + 8)) j).run Tryd.prog w = .ok a w ∧ (Op.equalIn 9998 23 a a).run Tryd.prog w = .ok true w := fun j hj =>
      same_u32 w 9997 _ j _ ((ext_at hj).trans (crC_at h (by omega)))
    rcases hm with ⟨h1, h2, h3⟩ | ⟨h1, h2, h3⟩ | ⟨h1, h2, h3⟩ | ⟨h1, h2, h3⟩ | ⟨h1, h2, h3⟩ | ⟨h1, h2, h3⟩ | ⟨h1, h2, h3⟩ | ⟨h1, h2, h3⟩
    all_goals
      rw [h2, h3]
      exact ⟨h1, key _ (by decide)⟩
  · rw [h2, h3]
    refine ⟨h1, .bool c.tm, run_part_plain w bool_plain ?_, by rw [run_equalIn_bool w 9998 4 _ _ bool_under]; simp⟩
    show (crL c).toArray[41]? = _
    rw [List.getElem?_toArray]
    exact crL_tm h
set_option maxRecDepth 100000 in
set_option maxHeartbeats 2000000 in
theorem same_core (c : Cr) (hc : c.Ok) (w : World) : Calls Tryd.prog 14 #[.agg (crC c), .agg (crC c)] w fun e w' => e = .returned (.bool true) ∧ Below w.heap.size w w' := by
  have HI := wall (show (Tryd.prog.info? 34).map (·.size) = some (crC c).size from (res_row hc).1)
  have heq := fun W => core_same W c hc
  have HB := wall (show Blk ((w.alloc (.cells (crC c) 34)).alloc (.cells (crC c) 34)) w.heap.size 34 (crC c) ∧ Blk ((w.alloc (.cells (crC c) 34)).alloc (.cells (crC c) 34)) (w.heap.size + 1) 34 (crC c) ∧ Below w.heap.size w ((w.alloc (.cells (crC c) 34)).alloc (.cells (crC c) 34)) from ⟨(Blk.new _ _ _).alloc _, blk_new' (by simp), ((Below.refl _ w).alloc (Nat.le_refl _) _).alloc (by simp) _⟩)
  obtain ⟨C, hC⟩ : ∃ y, crC c = y := ⟨_, rfl⟩
  rw [hC] at HI HB ⊢
  simp only [hC] at heq
  clear hC hc
  go_enter Tryd.func14, Tryd.ntmps14
  go_wp2_with (first | refine wpList_load_row rfl 34 _ rfl w.heap.size rfl 34 C (0, 0) _ HB.out.1 Tryd.underlying34 rfl HI.out ?_ | refine wpList_load_row rfl 34 _ rfl (w.heap.size + 1) rfl 34 C (0, 0) _ HB.out.2.1 Tryd.underlying34 rfl HI.out ?_)
  go_light
  go_ret
  exact ⟨rfl, HB.out.2.2⟩
end Core
end Go.Proofs.YtfiojpdkbckopaaDoor
