/-
  Texts of this claim, joined: RvG, RvH.
-/
import Derived.Test.YtmiaabpnolebhaaGreatDoorRvF
import Derived.Laws.StructEq
set_option maxHeartbeats 4000000
set_option maxRecDepth 100000
set_option linter.unusedSimpArgs false
set_option linter.unusedVariables false
namespace Go.Proofs.YtmiaabpnolebhaaGreatDoor
open Go.RowKit Go.Maps

namespace Rv
open Otp Sha R1
def shV (s : Option Sh) : Value := .tuple #[ky (s.getD (0, 0, 0)), .bool s.isSome]
def SofOut (op : Nat) (w : World) (e : Ending) (w' : World) : Prop := e = .returned (shV (sOf op)) ∧ Below w.heap.size w w'
theorem sof_some {x : Sh} {op : Nat} {y : Nat} (h : tab.lookup x = some y) (e : y = op) (h0 : op ≠ 0) : sOf op = some x := by
 subst e
 exact key_shape _ (lookup_mem h) h0
theorem tab_ok : ∀ e ∈ tab, okS e.1 = true := by decide +kernel
theorem sof_none {op : Nat} (h : ∀ x, okS x = true → opAt x = op → op ≠ 0 → False) : sOf op = none := by
 cases e : sOf op with
 | none => rfl
 | some x =>
  obtain ⟨h1, h2⟩ := sOf_mem e
  have hk : tab.lookup x = some op := lookup_of_mem (by decide +kernel) h1
  exact (h x (tab_ok _ h1) (by unfold opAt; rw [hk]; rfl) h2).elim
theorem vL_some {x : Sh} {v : Value} (h : (vL tab).lookup x = some v) : ∃ y : Nat, v = .int .u8 (y : Int) ∧ tab.lookup x = some y ∧ opAt x = y := by
 rw [vL_lookup] at h
 obtain ⟨y, hy, rfl⟩ := Option.map_eq_some_iff.1 h
 exact ⟨y, rfl, hy, by unfold opAt; rw [hy]; rfl⟩
theorem opAt_some {x : Sh} (h : opAt x ≠ 0) : ((vL tab).lookup x).isSome = true := by
 rw [vL_lookup]
 unfold opAt at h
 cases e : tab.lookup x with
 | none => rw [e] at h; exact absurd rfl h
 | some y => rfl
theorem sh_end {fn : Func} {p u : Tmp} (h : fn.results = #[.cell p 186, .tmp u]) {tmps : Array Value} {w : World} (g : Nat) (x : Sh) (E : Value) (h1 : tmps.getD p undef = .pointer (some ⟨g, 0, none⟩)) (h2 : tmps.getD u undef = E) (hb : Blk w g 186 #[.int .u32 (x.1 : Int), .int .u32 (x.2.1 : Int), .int .u32 (x.2.2 : Int)]) :
  (results fn tmps).run Tryz.prog w = .ok (.tuple #[ky x, E]) w := by
 rw [results_cell_tmp h, h1, h2]
 have := run_loadVar_row (P := Tryz.prog) w g 186 186 #[.int .u32 (x.1 : Int), .int .u32 (x.2.1 : Int), .int .u32 (x.2.2 : Int)] (0, 0) _ hb Tryz.underlying186 rfl shape_info
 simp only [asAddr, Sem.run_pure, Result.andThen_ok, this]
 rfl
theorem sof_leaf {op : Nat} {w w' : World} {tmps : Array Value} {s : Option Sh} (hD : sOf op = s) (h1 : tmps.getD 2 undef = .pointer (some ⟨w.heap.size, 0, none⟩)) (h2 : tmps.getD 3 undef = .bool s.isSome) (hb : Blk w' w.heap.size 186 #[.int .u32 ((s.getD (0, 0, 0)).1 : Int), .int .u32 ((s.getD (0, 0, 0)).2.1 : Int), .int .u32 ((s.getD (0, 0, 0)).2.2 : Int)]) (hB : Below w.heap.size w w') :
  bodyPost Tryz.prog Tryz.f86 (SofOut op w) .ret ⟨tmps, []⟩ w' := by
 exact bodyPost_ret (v := shV s) (sh_end Tryz.results86 w.heap.size (s.getD (0, 0, 0)) (.bool s.isSome) h1 h2 hb) rfl ⟨by rw [hD], hB⟩
theorem shapeOf_any (op : Nat) (z : Int) (w : World) (e1 : z = op) (h8 : op < 256) :
  Calls Tryz.prog 86 #[.int .u8 z] w (SofOut op w) := by
 subst e1
 obtain ⟨w1, hw1⟩ : ∃ W, W = w.alloc (.cells #[.int .u32 0, .int .u32 0, .int .u32 0] 186) := ⟨_, rfl⟩
 have HK1 := wall (show Blk w1 w.heap.size 186 #[.int .u32 0, .int .u32 0, .int .u32 0] by rw [hw1]; exact Blk.new _ _ _)
 have HB1 := wall (show Below w.heap.size w w1 by rw [hw1]; exact (Below.refl _ w).alloc (Nat.le_refl _) _)
 go_enter Tryz.func86, Tryz.ntmps86
 go_upto_region 1 with fail
 rw [← hw1]
 clear hw1
 go_wp2_with fail
 (with_reducible refine (shapes_any _).mono ?_); rintro e w2 ⟨b, rfl, hM, hB⟩
 have HM := wall hM
 have HK2 := wall (HK1.out.next hB rfl)
 have HB2 := wall (below_then HB1.out hB (Nat.le_refl _))
 clear hM hB HK1 HB1
 go_wp2_with (refine wpList_range_mp _ rfl _ _ rfl _ _ okS ky keyMap Tryz.underlying299 b _ (vL tab) rfl HM.out ?_; intro w3 cnt hL hg hs)
 have HL3 := wall hL
 have HK3 := wall ((HK2.out.frm (S := []) ⟨hg.os, hg.tape, hg.output, hg.size, fun k hk _ => hg.block k hk (by simp)⟩ (by simp)))
 have HB3 := wall (HB2.out.grown hg (by have := HB2.out.size; omega) (fun k hk => by cases hk))
 have HR := wall (show w.heap.size ≠ w2.heap.size ∧ w.heap.size < w2.heap.size from ⟨by have := HK2.out.lt; omega, HK2.out.lt⟩)
 have HBN := wall (show b < w2.heap.size from Mp.lt HM.out)
 obtain ⟨r, hr⟩ : ∃ y, w2.heap.size = y := ⟨_, rfl⟩
 rw [hr] at HL3 HR HBN ⊢
 clear hL hg hs hr HM HK2 HB2
 try simp only [Act.put, rpA, rpB, rpC]
 go_loopg [] cnt (fun g wr => ∃ left : Sh → Bool, Wall (Ml Tryz.prog 186 okS ky wr b r tab.length (vL tab) left g) ∧ Wall (∀ x, okS x = true → opAt x = op → op ≠ 0 → left x = true) ∧ Wall (Below w.heap.size w wr) ∧ Wall (Blk wr w.heap.size 186 #[.int .u32 0, .int .u32 0, .int .u32 0]))
 case atStart => exact ⟨_, HL3, wall (fun x _ h1 h2 => opAt_some (by rw [h1]; exact h2)), HB3, HK3⟩
 case round =>
  clear HL3 HK3 HB3
  obtain ⟨left, HL, HF, HB, HK⟩ := hrel
  have hk0 : wr.cell? ⟨w.heap.size, 0, none⟩ = some (.int .u32 0) := HK.out.cell 0
  have hk1 : wr.cell? ⟨w.heap.size, 1, none⟩ = some (.int .u32 0) := HK.out.cell 1
  have hk2 : wr.cell? ⟨w.heap.size, 2, none⟩ = some (.int .u32 0) := HK.out.cell 2
  have hkf := HK.out.frozen
  go_upto_if 9 with (refine wpList_next_mp _ rfl _ rfl _ okS ky keyMap b r _ (vL tab) left _ rfl HL.out (fun hdone => ?_) (fun x v w4 cnt' hox hlx hlk hml hlt hg hs hen => ?_))
  ·have HD := wall hdone
   have HKB := HK
   have HBB := HB
   clear hdone
   have HN := wall (show sOf op = none from sof_none fun x h1 h2 h3 => by
    have e := HF.out x h1 h2 h3
    rw [HD.out x h1] at e
    cases e)
   go_wp2_with fail
   exact sof_leaf HN.out rfl rfl (Blk.to (by (repeat (first | with_reducible (first | exact HKB.out | exact Blk.new _ _ _ | apply Blk.alloc | apply Blk.drewN | apply Blk.drew | apply Blk.set) | (with_reducible apply Blk.far'; rotate_left 1; (first | omega | (simp; done) | (simp; omega)); rotate_left 1)))) (by simp)) (by (repeat' (first | with_reducible (first | exact HBB.out | refine Below.setCell ?_ ?_ _ | refine Below.alloc ?_ ?_ _ | refine Below.drew ?_ | refine below_drewN ?_ _ | exact Nat.le_refl _) | (simp; done) | (simp; omega) | omega)))
  ·obtain ⟨c, f, g⟩ := x
   obtain ⟨y, rfl, hty, hoy⟩ := vL_some hlk
   simp only [ky] at hen
   have HML := wall hml
   have HLT := wall hlt
   have HY := wall (And.intro hty hoy)
   have HK4 := wall (HK.out.frm (S := [r]) ⟨hg.os, hg.tape, hg.output, hg.size, fun k hk hn => hg.block k hk (fun q => hn (by simp [Option.some.inj q]))⟩ (by have := HR.out; simp; omega))
   have HB4 := wall (HB.out.grown hg (by have := HB.out.size; omega) (fun k hk => by cases hk; have := HR.out; omega))
   clear hml hlt hty hoy hlk hlx hox hg hs hk0 hk1 hk2 hkf HL
   have hk0 : w4.cell? ⟨w.heap.size, 0, none⟩ = some (.int .u32 0) := HK4.out.cell 0
   have hk1 : w4.cell? ⟨w.heap.size, 1, none⟩ = some (.int .u32 0) := HK4.out.cell 1
   have hk2 : w4.cell? ⟨w.heap.size, 2, none⟩ = some (.int .u32 0) := HK4.out.cell 2
   have hkf := HK4.out.frozen
   have hl4 : w.heap.size < w4.heap.size := HK4.out.lt
   have HKB := HK4
   have HBB := HB4
   by_cases hyo : (y : Int) = (op : Int)
   ·by_cases h0 : (op : Int) = 0
    ·have H0 := wall h0
     go_wp2_with fail
     go_light
     go_roundg cnt'
     case measure => exact HLT.out
     case rel => exact ⟨_, wall (HML.out.kept (World.grownBy_alloc w4 _ none) (by simp) (by simp)), wall (fun x h1 h2 h3 => (h3 (by have := H0.out; omega)).elim), wall (by (repeat' (first | with_reducible (first | exact HBB.out | refine Below.setCell ?_ ?_ _ | refine Below.alloc ?_ ?_ _ | refine Below.drew ?_ | refine below_drewN ?_ _ | exact Nat.le_refl _) | (simp; done) | (simp; omega) | omega))), wall (Blk.to (by (repeat (first | with_reducible (first | exact HKB.out | exact Blk.new _ _ _ | apply Blk.alloc | apply Blk.drewN | apply Blk.drew | apply Blk.set) | (with_reducible apply Blk.far'; rotate_left 1; (first | omega | (simp; done) | (simp; omega)); rotate_left 1)))) (by simp))⟩
    ·have HN := wall (show sOf op = some (c, f, g) from sof_some HY.out.1 (by omega) (by omega))
     go_wp2_with fail
     exact sof_leaf HN.out rfl rfl (Blk.to (by (repeat (first | with_reducible (first | exact HKB.out | exact Blk.new _ _ _ | apply Blk.alloc | apply Blk.drewN | apply Blk.drew | apply Blk.set) | (with_reducible apply Blk.far'; rotate_left 1; (first | omega | (simp; done) | (simp; omega)); rotate_left 1)))) (by simp)) (by (repeat' (first | with_reducible (first | exact HBB.out | refine Below.setCell ?_ ?_ _ | refine Below.alloc ?_ ?_ _ | refine Below.drew ?_ | refine below_drewN ?_ _ | exact Nat.le_refl _) | (simp; done) | (simp; omega) | omega)))
   ·go_wp2_with fail
    go_light
    go_roundg cnt'
    case measure => exact HLT.out
    case rel =>
     refine ⟨_, wall (HML.out.kept (World.grownBy_alloc w4 _ none) (by simp) (by simp)), wall (fun x h1 h2 h3 => ?_), wall (by (repeat' (first | with_reducible (first | exact HBB.out | refine Below.setCell ?_ ?_ _ | refine Below.alloc ?_ ?_ _ | refine Below.drew ?_ | refine below_drewN ?_ _ | exact Nat.le_refl _) | (simp; done) | (simp; omega) | omega))), wall (Blk.to (by (repeat (first | with_reducible (first | exact HKB.out | exact Blk.new _ _ _ | apply Blk.alloc | apply Blk.drewN | apply Blk.drew | apply Blk.set) | (with_reducible apply Blk.far'; rotate_left 1; (first | omega | (simp; done) | (simp; omega)); rotate_left 1)))) (by simp))⟩
     have e := HF.out x h1 h2 h3
     have hne : x ≠ (c, f, g) := by
      rintro rfl
      rw [HY.out.2] at h2
      exact hyo (by rw [h2])
     simp [e, hne]
theorem in_eq (x i : In) (w : World) : (Op.equalIn 10000 54 (.agg (inC x)) (.agg (inC i))).run Tryz.prog w = .ok (decide (x = i)) w := by
 have h := run_equalIn_struct (P := Tryz.prog) w 9999 54 (inC x) (inC i) (by simp [Program.fieldsOf, Tryz.underlying54]) (by kernel_rfl)
 refine h.trans ?_
 rw [show Tryz.prog.fieldsOf 54 = _ from by (unfold Program.fieldsOf; rw [Tryz.underlying54])]
 obtain ⟨a1, a2, a3, a4, a5, a6⟩ := x
 obtain ⟨b1, b2, b3, b4, b5, b6⟩ := i
 simp only [inC]
 go_simp
 simp only [Int.natCast_inj]
 by_cases h1 : a1 = b1 <;> by_cases h2 : a2 = b2 <;> by_cases h3 : a3 = b3 <;> by_cases h4 : a4 = b4 <;> by_cases h5 : a5 = b5 <;> by_cases h6 : a6 = b6 <;> simp [h1, h2, h3, h4, h5, h6]
def W4 : List Nat := [115, 1048691, 807403635, 273678451]
theorem w4_dec : ∀ j : Fin 4, dec (W4.getD j.val 0) = (opIn (39 + j.val), true) ∧ W4.getD j.val 0 < 4294967296 ∧ enc (opIn (39 + j.val)) = (W4.getD j.val 0, true) := by decide +kernel
theorem enc_else {i : In} (h : ∀ j, j < 4 → i ≠ opIn (39 + j)) : enc i = encS i (sOf i.op) := by
 unfold enc
 rw [if_neg (h 0 (by decide)), if_neg (h 1 (by decide)), if_neg (h 2 (by decide)), if_neg (h 3 (by decide))]
theorem or_z {az bz : Int} (a b c : Nat) (h1 : az = (a : Int)) (h2 : bz = (b : Int)) (h : a ||| b = c) (ha : a < 4294967296) (hb : b < 4294967296) : bits .or .u32 az bz = (c : Int) ∧ c < 4294967296 := by
 subst h1 h2 h
 exact ⟨u32_or_nat _ _ ha hb, Nat.or_lt_two_pow (n := 32) ha hb⟩
theorem tab_bounds : ∀ e ∈ tab, e.1.1 < 128 ∧ e.1.2.1 < 8 ∧ e.1.2.2 < 128 := by decide +kernel
def EncOut (p : Nat × Bool) (w : World) (e : Ending) (w' : World) : Prop := e = .returned (.tuple #[.int .u32 (p.1 : Int), .bool p.2]) ∧ Below w.heap.size w w'
theorem v32_at {l : List Nat} {i : Nat} (h : i < l.length) : (v32 l).toArray[i]? = some (.int .u32 ((l.getD i 0 : Nat) : Int)) := by
 unfold v32
 simp [List.getD_eq_getElem?_getD, List.getElem?_eq_getElem h]
theorem inC_one (i : In) : (inC i).all (·.oneCell') = true := by simp [inC, Value.oneCell']
theorem word_lt (s : Sh) (i : In) (hi : i.Ok) (h1 : s.1 < 128) (h2 : s.2.1 < 8) (h3 : s.2.2 < 128) : word s i < 4294967296 := by
 have o1 := hi.rd; have o2 := hi.a; have o3 := hi.b; have o4 := hi.imm; have o5 := hi.csr
 have e : ∀ {x y : Nat}, x < 4294967296 → y < 4294967296 → x ||| y < 4294967296 := fun hx hy => Nat.or_lt_two_pow (n := 32) hx hy
 have w0 : word0 s i < 4294967296 := by unfold word0; exact e (e (e (by omega) (by omega)) (by omega)) (by omega)
 have w1 : word1 s i < 4294967296 := by
  unfold word1
  split
  ·exact w0
  ·exact e w0 (e (by omega) (by omega))
 have c1 := cut_lt i.imm 20 1; have c2 := cut_lt i.imm 1 10; have c3 := cut_lt i.imm 11 1; have c4 := cut_lt i.imm 12 8
 have c5 := cut_lt i.imm 12 1; have c6 := cut_lt i.imm 5 6; have c7 := cut_lt i.imm 1 4; have c8 := cut_lt i.imm 5 7; have c9 := cut_lt i.imm 0 5
 unfold word
 repeat' split
 ·exact e w1 (by omega)
 ·exact e w1 (e (e (e (by omega) (by omega)) (by omega)) (by omega))
 ·exact e w1 (e (e (e (by omega) (by omega)) (by omega)) (by omega))
 ·exact e w1 (e (by omega) (by omega))
 ·exact e (e w1 (by omega)) (by omega)
 ·exact e w1 (by omega)
 ·exact e w1 (by omega)
 ·exact w1
end Rv
end Go.Proofs.YtmiaabpnolebhaaGreatDoor
