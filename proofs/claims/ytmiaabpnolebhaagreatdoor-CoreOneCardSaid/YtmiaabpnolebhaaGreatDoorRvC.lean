import Derived.Test.YtmiaabpnolebhaaGreatDoorJ6d5d2fb8
import Derived.Test.YtmiaabpnolebhaaGreatDoorJ34578676
set_option maxRecDepth 100000
set_option maxHeartbeats 4000000
set_option linter.unusedSimpArgs false
set_option linter.unusedVariables false
namespace Go.Proofs.YtmiaabpnolebhaaGreatDoor
open Go.RowKit

namespace Rv
open Otp Sha
def ky (s : Sh) : Value := .agg #[.int .u32 (s.1 : Int), .int .u32 (s.2.1 : Int), .int .u32 (s.2.2 : Int)]
def okS (s : Sh) : Bool := decide (s.1 < 4294967296) && decide (s.2.1 < 4294967296) && decide (s.2.2 < 4294967296)
theorem okS_of {a b c : Nat} (ha : a < 4294967296) (hb : b < 4294967296) (hc : c < 4294967296) : okS (a, b, c) = true := by simp [okS, ha, hb, hc]
theorem wf_u32 {a : Nat} (h : a < 4294967296) : (Lit.int .u32 (a : Int)).wf = true := WalkArith.wf_u32 (by omega)
theorem kLaid : laidOutB Tryz.prog = true := by kernel_rfl
theorem kKey : Tryz.prog.keyType 186 = true := by kernel_rfl
theorem kRow : (186 : TypeId) < Tryz.prog.types.size := of_decide_eq_true (by kernel_rfl)
theorem kAt : Tryz.prog.keyTypeAt 2 186 = true := by kernel_rfl
theorem kLaw0 : WideMaps.KeyLaw Tryz.prog 186 := deep_law_laid (m := 2) kLaid (Nat.le_of_ble_eq_true rfl) kRow kAt (by kernel_rfl)
theorem kLaw : Maps.Keyed Tryz.prog 186 := Maps.Keyed.of_law kLaw0
theorem kCells : Tryz.prog.cellsOf 186 = 3 := by kernel_rfl
theorem kFormed (cs : Array Value) (h : cs.size = 3) : (Value.agg cs).formed Tryz.prog 186 = true := by
 simp [Value.formed, Tryz.underlying186, kCells, h]
theorem kLits (m : Nat) (a b c : Int) (h1 : (Lit.int .u32 a).wf = true) (h2 : (Lit.int .u32 b).wf = true) (h3 : (Lit.int .u32 c).wf = true) : Tryz.prog.keyLits (m + 2) 186 [.int .u32 a, .int .u32 b, .int .u32 c] = some [.int .u32 a, .int .u32 b, .int .u32 c] := by
 have hu := Tryz.underlying186
 have hc1 : Tryz.prog.cellsOf 52 = 1 := by kernel_rfl
 have hi := Tryz.underlying52
 have hk := kCells
 unfold Program.keyLits
 simp only [hu, hk]
 unfold Program.keyLits
 simp [hi, hc1, h1, h2, h3]
theorem kSize : ∃ m, Tryz.prog.types.size + 1 = m + 2 := by
 obtain ⟨m, hm⟩ := Nat.exists_eq_add_of_lt kRow
 exact ⟨186 + m, by rw [hm]⟩
theorem keyMap : KeyMap Tryz.prog 186 okS ky where
 law := kLaw
 lit x hx := by
  obtain ⟨a, b, c⟩ := x
  simp only [okS, Bool.and_eq_true, decide_eq_true_eq] at hx
  obtain ⟨⟨h1, h2⟩, h3⟩ := hx
  obtain ⟨m, hm⟩ := kSize
  exact keyOf_ints (ls := [.int .u32 (a : Int), .int .u32 (b : Int), .int .u32 (c : Int)]) kKey (by kernel_rfl) (kFormed _ rfl) (by rw [hm]; exact kLits m a b c (wf_u32 h1) (wf_u32 h2) (wf_u32 h3))
 inj x y h := by
  obtain ⟨a, b, c⟩ := x
  obtain ⟨a', b', c'⟩ := y
  simp [ky] at h
  obtain ⟨h1, h2, h3⟩ := h
  have e1 : a = a' := by omega
  have e2 : b = b' := by omega
  have e3 : c = c' := by omega
  subst e1 e2 e3
  rfl
def vL (l : List (Sh × Nat)) : List (Sh × Value) := l.map fun e => (e.1, .int .u8 (e.2 : Int))
def SMp (w : World) (b : Nat) (l : List (Sh × Nat)) : Prop := Mp Tryz.prog 186 okS ky w b l.length (vL l)
def ShapesOut (w : World) (e : Ending) (w' : World) : Prop := ∃ b, e = .returned (.map (some b)) ∧ SMp w' b tab ∧ Below w.heap.size w w'
theorem upd {w : World} {ops : Array Oper} {rest : List Oper} {o : Oper} {a : Act} {Q : Exit → Act → World → Prop}
  (hg : o.guard = none) (m x v : Operand) (hop : o.op = Op.mapUpdate 299 m x v)
  (b : Nat) (l : List (Sh × Nat)) (hm : a.eval m = .map (some b)) (hown : SMp w b l) (hn : l.length ≤ 1000) (W : World) (B : Nat) (hB : Below B W w) (hb : B ≤ b) (hBW : B ≤ W.heap.size) (s : Sh) (z : Nat) (k1 k2 k3 zi : Int)
  (hkey : a.eval x = .agg #[.int .u32 k1, .int .u32 k2, .int .u32 k3]) (hv : a.eval v = .int .u8 zi) (e1 : k1 = (s.1 : Int)) (e2 : k2 = (s.2.1 : Int)) (e3 : k3 = (s.2.2 : Int)) (e4 : zi = (z : Int)) (hok : okS s = true)
  (hK : ∀ w', SMp w' b ((s, z) :: l) → Below B W w' → Hid (∀ g t cs, g ≠ b → Blk w g t cs → Blk w' g t cs) → wpList Tryz.prog ops Q rest (a.put o.dst undef) w') :
  wpList Tryz.prog ops Q (o :: rest) a w := by
 subst e1 e2 e3 e4
 exact wpList_mapUpdate_mp (K := Sh) w hg m x v _ hop _ _ okS ky keyMap Tryz.underlying299 b l.length (vL l) hm hown (by unfold maxLen; omega) s hkey hok (.int .u8 (z : Int)) hv
  (fun w' h1 h2 => hK w' h1 (hB.grown h2 (by have := hB.size; omega) (fun k hk => by cases hk; exact hb)) (Lib.hid fun g t cs hg hc => (h2.block g hc.lt (fun e => hg (Option.some.inj e))).trans hc))
theorem b8_getD {l : List Nat} {i : Nat} (h : i < l.length) : (b8 l)[i]? = some (.int .u8 ((l.getD i 0 : Nat) : Int)) := b8_at (by rw [List.getD_eq_getElem?_getD, List.getElem?_eq_getElem h]; rfl)
theorem rows_len (c f : Nat) (l : List Nat) : ∀ i, (rows c f l i).length = i
 | 0 => rfl
 | i + 1 => by rw [rows, List.length_cons, rows_len]
theorem rowsNz_len (c f : Nat) (l : List Nat) : ∀ i, (rowsNz c f l i).length ≤ i
 | 0 => Nat.le_refl _
 | i + 1 => by
  unfold rowsNz
  have := rowsNz_len c f l i
  split
  ·omega
  ·rw [List.length_cons]; omega
theorem rows2_len (l : List Nat) : ∀ i, (rows2 l i).length = 2 * i
 | 0 => rfl
 | i + 1 => by rw [rows2, List.length_cons, List.length_cons, rows2_len]; omega
theorem tabLen0 (i : Nat) (h : i ≤ 8) : (rows 99 0 lBr i ++ base).length ≤ 900 := by rw [List.length_append, rows_len, show base.length = 10 from rfl]; omega
theorem tabLen1 (i : Nat) (h : i ≤ 8) : (rows 3 0 lLd i ++ tab1).length ≤ 900 := by rw [List.length_append, rows_len, show tab1.length = 18 from rfl]; omega
theorem tabLen2 (i : Nat) (h : i ≤ 8) : (rows 35 0 lSt i ++ tab2).length ≤ 900 := by rw [List.length_append, rows_len, show tab2.length = 24 from rfl]; omega
theorem tabLen3 (i : Nat) (h : i ≤ 8) : (rowsNz 19 0 lIm i ++ tab3).length ≤ 900 := by
 have := rowsNz_len 19 0 lIm i
 rw [List.length_append, show tab3.length = 27 from rfl]; omega
theorem tabLen4 (i : Nat) (h : i ≤ 8) : (rows2 lRg i ++ tab4).length ≤ 900 := by rw [List.length_append, rows2_len, show tab4.length = 33 from rfl]; omega
theorem tabLen5 (i : Nat) (h : i ≤ 8) : (rows 115 0 lSy i ++ tab5).length ≤ 900 := by rw [List.length_append, rows_len, show tab5.length = 49 from rfl]; omega
def fillJ : List Nat := [20, 18, 16, 14, 12, 10, 8, 6, 4, 2]
def fillE (i : Nat) : Sh × Value := ((vL base)[10 - i / 2]?).getD ((0, 0, 0), undef)
theorem shapes_any (w : World) : Calls Tryz.prog 161 #[] w (ShapesOut w) := by
 have hmm := @run_makeMap Tryz.prog
 go_enter Tryz.func161, Tryz.ntmps161
 go_upto_region 1 with fail
 refine wp_region_any (by kernel_rfl) ?_
 change wpAny _ _ _ _ _ _ _ (World.drew _)
 refine wpAny_take (i := 1) (v := .agg #[.int .u32 55, .int .u32 0, .int .u32 0]) rfl (by kernel_rfl) (by kernel_rfl) (by kernel_rfl) (fun _ _ _ h => h) (Or.inl ⟨by rfl, ?_⟩) ?_
 ·intro w; go_simp
 refine wpAny_take (i := 3) (v := .agg #[.int .u32 23, .int .u32 0, .int .u32 0]) rfl (by kernel_rfl) (by kernel_rfl) (by kernel_rfl) (fun _ _ _ h => h) (Or.inl ⟨by rfl, ?_⟩) ?_
 ·intro w; go_simp
 refine wpAny_take (i := 5) (v := .agg #[.int .u32 111, .int .u32 0, .int .u32 0]) rfl (by kernel_rfl) (by kernel_rfl) (by kernel_rfl) (fun _ _ _ h => h) (Or.inl ⟨by rfl, ?_⟩) ?_
 ·intro w; go_simp
 refine wpAny_take (i := 7) (v := .agg #[.int .u32 103, .int .u32 0, .int .u32 0]) rfl (by kernel_rfl) (by kernel_rfl) (by kernel_rfl) (fun _ _ _ h => h) (Or.inl ⟨by rfl, ?_⟩) ?_
 ·intro w; go_simp
 refine wpAny_take (i := 9) (v := .agg #[.int .u32 15, .int .u32 0, .int .u32 0]) rfl (by kernel_rfl) (by kernel_rfl) (by kernel_rfl) (fun _ _ _ h => h) (Or.inl ⟨by rfl, ?_⟩) ?_
 ·intro w; go_simp
 refine wpAny_take (i := 11) (v := .agg #[.int .u32 19, .int .u32 1, .int .u32 0]) rfl (by kernel_rfl) (by kernel_rfl) (by kernel_rfl) (fun _ _ _ h => h) (Or.inl ⟨by rfl, ?_⟩) ?_
 ·intro w; go_simp
 refine wpAny_take (i := 13) (v := .agg #[.int .u32 19, .int .u32 5, .int .u32 0]) rfl (by kernel_rfl) (by kernel_rfl) (by kernel_rfl) (fun _ _ _ h => h) (Or.inl ⟨by rfl, ?_⟩) ?_
 ·intro w; go_simp
 refine wpAny_take (i := 15) (v := .agg #[.int .u32 19, .int .u32 5, .int .u32 32]) rfl (by kernel_rfl) (by kernel_rfl) (by kernel_rfl) (fun _ _ _ h => h) (Or.inl ⟨by rfl, ?_⟩) ?_
 ·intro w; go_simp
 refine wpAny_take (i := 17) (v := .agg #[.int .u32 51, .int .u32 0, .int .u32 32]) rfl (by kernel_rfl) (by kernel_rfl) (by kernel_rfl) (fun _ _ _ h => h) (Or.inl ⟨by rfl, ?_⟩) ?_
 ·intro w; go_simp
 refine wpAny_take (i := 19) (v := .agg #[.int .u32 51, .int .u32 5, .int .u32 32]) rfl (by kernel_rfl) (by kernel_rfl) (by kernel_rfl) (fun _ _ _ h => h) (Or.inl ⟨by rfl, ?_⟩) ?_
 ·intro w; go_simp
 refine wpAny_ready (rs := [0]) (by kernel_rfl) (by simp) ?_
 refine AllReady.cons rfl (fun K hK => ?_) AllReady.nil
 go_simp
 refine hK _ _ ?_
 clear hK K
 refine fill_any (k := 186) (ok := okS) (ky := ky) (b := w.heap.size) (J := fillJ) (T := [21, 22]) (E := fillE) 2 ?hF (by decide) w (Nat.le_refl _) ?hQ 10 [] _ List.nodup_nil (fun _ h => by cases h) rfl rfl ?hM ?hB
 case hM => exact (Mp.made w).drew
 case hB => exact ((Below.refl _ w).alloc (Nat.le_refl _) _).drew
 case hF =>
  refine ⟨keyMap, by kernel_rfl, by decide, by decide +kernel, ?_, ?_, ?_, ?_⟩
  ·intro i hi
   simp only [fillJ, List.mem_cons, List.not_mem_nil, or_false] at hi
   rcases hi with rfl | rfl | rfl | rfl | rfl | rfl | rfl | rfl | rfl | rfl <;> kernel_rfl
  ·intro i hi
   have hlt := (Array.getElem?_eq_some_iff.1 hi).1
   have h23 : i < 23 := hlt
   obtain rfl | rfl | rfl | rfl | rfl | rfl | rfl | rfl | rfl | rfl | rfl | rfl | rfl | rfl | rfl | rfl | rfl | rfl | rfl | rfl | rfl | rfl | rfl : i = 0 ∨ i = 1 ∨ i = 2 ∨ i = 3 ∨ i = 4 ∨ i = 5 ∨ i = 6 ∨ i = 7 ∨ i = 8 ∨ i = 9 ∨ i = 10 ∨ i = 11 ∨ i = 12 ∨ i = 13 ∨ i = 14 ∨ i = 15 ∨ i = 16 ∨ i = 17 ∨ i = 18 ∨ i = 19 ∨ i = 20 ∨ i = 21 ∨ i = 22 := by omega
   all_goals first | exact .inl (by decide) | exact .inr (by decide) | exact absurd (hi.symm.trans (show _ = some true by kernel_rfl)) (by decide)
  ·intro i hi
   simp only [fillJ, List.mem_cons, List.not_mem_nil, or_false] at hi
   rcases hi with rfl | rfl | rfl | rfl | rfl | rfl | rfl | rfl | rfl | rfl <;> exact ⟨_, _, _, _, _, _, rfl, rfl, rfl, rfl, Tryz.underlying299, rfl, rfl, rfl, by decide +kernel, by intro g hg _; simp at hg; rcases hg with rfl | rfl <;> kernel_rfl⟩
  ·intro i hi
   simp only [List.mem_cons, List.not_mem_nil, or_false] at hi
   rcases hi with rfl | rfl
   ·refine ⟨_, rfl, fun j hj => ⟨⟨j, .data⟩, ?_, rfl, rfl⟩⟩
    simp only [fillJ, List.mem_cons, List.not_mem_nil, or_false] at hj
    rcases hj with rfl | rfl | rfl | rfl | rfl | rfl | rfl | rfl | rfl | rfl <;> simp
   ·refine ⟨_, rfl, fun j hj => ⟨⟨j, .phase⟩, ?_, rfl, rfl⟩⟩
    simp only [fillJ, List.mem_cons, List.not_mem_nil, or_false] at hj
    rcases hj with rfl | rfl | rfl | rfl | rfl | rfl | rfl | rfl | rfl | rfl <;> simp
 case hQ =>
  intro D w1 hD hM hB
  rw [doneL_eq hD]
  have HM := wall (show SMp w1 w.heap.size base from hM)
  have HB := wall hB
  clear hD hM hB
  refine wpAny_take (i := 21) (v := .map (some w.heap.size)) rfl (by kernel_rfl) (by kernel_rfl) (by kernel_rfl) (fun _ _ _ h => h) (Or.inl ⟨by rfl, ?_⟩) ?_
  ·intro w; go_simp
  refine wpAny_take (i := 22) (v := .map (some w.heap.size)) rfl (by kernel_rfl) (by kernel_rfl) (by kernel_rfl) (fun _ _ _ h => h) (Or.inl ⟨by rfl, ?_⟩) ?_
  ·intro w; go_simp
  refine ⟨by kernel_rfl, ?_⟩
  simp only [Act.put, rpA, rpB, rpC]
  clear hmm
  go_wp2_with fail
  obtain ⟨gL0, hgl⟩ : ∃ y, w1.heap.size = y := ⟨_, rfl⟩
  have hal := (Below.refl w1.heap.size w1).alloc (Nat.le_refl _) (.cells (b8 lBr) 5)
  have HM0 := wall (show SMp (w1.alloc (.cells (b8 lBr) 5)) w.heap.size (rows 99 0 lBr 0 ++ base) from HM.out.alloc _)
  have HL0 := wall (show Blk (w1.alloc (.cells (b8 lBr) 5)) gL0 5 (b8 lBr) by rw [← hgl]; exact Blk.new _ _ _)
  have HB0 := wall (show Below w.heap.size w (w1.alloc (.cells (b8 lBr) 5)) from below_then HB.out hal (Nat.le_refl _))
  have HNE := wall (show w.heap.size ≠ gL0 by (have h1 : w.heap.size < w1.heap.size := HM.out.lt); omega)
  rw [hgl]
  clear HM HB hal hgl
  change Code.wp _ _ _ _ (w1.alloc (.cells (b8 lBr) 5))
  obtain ⟨wa, hwa⟩ : ∃ V, V = w1.alloc (.cells (b8 lBr) 5) := ⟨_, rfl⟩
  rw [← hwa] at HM0 HL0 HB0 ⊢
  clear hwa
  go_loopg [28] 8 (fun g sC wr => ∃ i : Nat, i + g = 8 ∧ sC = .int .i64 (i : Int) ∧ Wall (SMp wr w.heap.size (rows 99 0 lBr i ++ base)) ∧ Wall (Blk wr gL0 5 (b8 lBr)) ∧ Wall (Below w.heap.size w wr))
  case atStart => exact ⟨0, by omega, rfl, HM0, HL0, HB0⟩
  case round =>
   clear HM0 HL0 HB0
   obtain ⟨i, hg, rfl, HM, HL, HB⟩ := hrel
   have HG := wall hg
   have hi8 : i ≤ 8 := by omega
   clear hg
   by_cases hlt : i < 8
   ·have hlt' : (i : Int) < 8 := by omega
    have hc : wr.cell? ⟨gL0, i, none⟩ = some (.int .u8 ((lBr.getD i 0 : Nat) : Int)) := by rw [HL.out.cell]; exact b8_getD (by rw [show lBr.length = 8 from rfl]; exact hlt)
    have hwr : (i : Int) % 4294967296 = (i : Int) := by omega
    have HLEN := wall (tabLen0 i (by omega))
    go_wp2_with (at_mapUpdate; refine upd rfl _ _ _ rfl w.heap.size _ rfl HM.out (Nat.le_trans HLEN.out (by decide)) w _ HB.out (Nat.le_refl _) (Nat.le_refl _) (99, i, 0) (lBr.getD i 0) _ _ _ _ rfl rfl rfl (by first | rfl | omega) rfl (by first | rfl | omega) (okS_of (by decide) (by omega) (by decide)) ?_; intro w2 hM2 hB2 hF2)
    go_light
    go_roundg (8 - (i + 1))
    case measure => have := HG.out; omega
    case rel => exact ⟨i + 1, by have := HG.out; omega, by go_num, wall hM2, wall (hF2.out _ _ _ HNE.out.symm HL.out), wall hB2⟩
   ·obtain rfl : i = 8 := by omega
    clear hlt HL HG hi8 HNE
    obtain ⟨wb0, rfl⟩ : ∃ q : World, q = wr := ⟨_, rfl⟩
    go_wp2_with fail
    obtain ⟨gL1, hgl⟩ : ∃ y, wb0.heap.size = y := ⟨_, rfl⟩
    have hal := (Below.refl wb0.heap.size wb0).alloc (Nat.le_refl _) (.cells (b8 lLd) 5)
    have HM0 := wall (show SMp (wb0.alloc (.cells (b8 lLd) 5)) w.heap.size (rows 3 0 lLd 0 ++ tab1) from HM.out.alloc _)
    have HL0 := wall (show Blk (wb0.alloc (.cells (b8 lLd) 5)) gL1 5 (b8 lLd) by rw [← hgl]; exact Blk.new _ _ _)
    have HB0 := wall (show Below w.heap.size w (wb0.alloc (.cells (b8 lLd) 5)) from below_then HB.out hal (Nat.le_refl _))
    have HNE := wall (show w.heap.size ≠ gL1 by (have h1 : w.heap.size < wb0.heap.size := HM.out.lt); omega)
    rw [hgl]
    clear HM HB hal hgl
    change Code.wp _ _ _ _ (wb0.alloc (.cells (b8 lLd) 5))
    obtain ⟨wa, hwa⟩ : ∃ V, V = wb0.alloc (.cells (b8 lLd) 5) := ⟨_, rfl⟩
    rw [← hwa] at HM0 HL0 HB0 ⊢
    clear hwa
    go_loopg [41] 6 (fun g sC wr => ∃ i : Nat, i + g = 6 ∧ sC = .int .i64 (i : Int) ∧ Wall (SMp wr w.heap.size (rows 3 0 lLd i ++ tab1)) ∧ Wall (Blk wr gL1 5 (b8 lLd)) ∧ Wall (Below w.heap.size w wr))
    case atStart => exact ⟨0, by omega, rfl, HM0, HL0, HB0⟩
    case round =>
     clear HM0 HL0 HB0
     obtain ⟨i, hg, rfl, HM, HL, HB⟩ := hrel
     have HG := wall hg
     have hi8 : i ≤ 6 := by omega
     clear hg
     by_cases hlt : i < 6
     ·have hlt' : (i : Int) < 6 := by omega
      have hc : wr.cell? ⟨gL1, i, none⟩ = some (.int .u8 ((lLd.getD i 0 : Nat) : Int)) := by rw [HL.out.cell]; exact b8_getD (by rw [show lLd.length = 6 from rfl]; exact hlt)
      have hwr : (i : Int) % 4294967296 = (i : Int) := by omega
      have HLEN := wall (tabLen1 i (by omega))
      go_wp2_with (at_mapUpdate; refine upd rfl _ _ _ rfl w.heap.size _ rfl HM.out (Nat.le_trans HLEN.out (by decide)) w _ HB.out (Nat.le_refl _) (Nat.le_refl _) (3, i, 0) (lLd.getD i 0) _ _ _ _ rfl rfl rfl (by first | rfl | omega) rfl (by first | rfl | omega) (okS_of (by decide) (by omega) (by decide)) ?_; intro w2 hM2 hB2 hF2)
      go_light
      go_roundg (6 - (i + 1))
      case measure => have := HG.out; omega
      case rel => exact ⟨i + 1, by have := HG.out; omega, by go_num, wall hM2, wall (hF2.out _ _ _ HNE.out.symm HL.out), wall hB2⟩
     ·obtain rfl : i = 6 := by omega
      clear hlt HL HG hi8 HNE
      obtain ⟨wb1, rfl⟩ : ∃ q : World, q = wr := ⟨_, rfl⟩
      go_wp2_with fail
      obtain ⟨gL2, hgl⟩ : ∃ y, wb1.heap.size = y := ⟨_, rfl⟩
      have hal := (Below.refl wb1.heap.size wb1).alloc (Nat.le_refl _) (.cells (b8 lSt) 5)
      have HM0 := wall (show SMp (wb1.alloc (.cells (b8 lSt) 5)) w.heap.size (rows 35 0 lSt 0 ++ tab2) from HM.out.alloc _)
      have HL0 := wall (show Blk (wb1.alloc (.cells (b8 lSt) 5)) gL2 5 (b8 lSt) by rw [← hgl]; exact Blk.new _ _ _)
      have HB0 := wall (show Below w.heap.size w (wb1.alloc (.cells (b8 lSt) 5)) from below_then HB.out hal (Nat.le_refl _))
      have HNE := wall (show w.heap.size ≠ gL2 by (have h1 : w.heap.size < wb1.heap.size := HM.out.lt); omega)
      rw [hgl]
      clear HM HB hal hgl
      change Code.wp _ _ _ _ (wb1.alloc (.cells (b8 lSt) 5))
      obtain ⟨wa, hwa⟩ : ∃ V, V = wb1.alloc (.cells (b8 lSt) 5) := ⟨_, rfl⟩
      rw [← hwa] at HM0 HL0 HB0 ⊢
      clear hwa
      go_loopg [54] 3 (fun g sC wr => ∃ i : Nat, i + g = 3 ∧ sC = .int .i64 (i : Int) ∧ Wall (SMp wr w.heap.size (rows 35 0 lSt i ++ tab2)) ∧ Wall (Blk wr gL2 5 (b8 lSt)) ∧ Wall (Below w.heap.size w wr))
      case atStart => exact ⟨0, by omega, rfl, HM0, HL0, HB0⟩
      case round =>
       clear HM0 HL0 HB0
       obtain ⟨i, hg, rfl, HM, HL, HB⟩ := hrel
       have HG := wall hg
       have hi8 : i ≤ 3 := by omega
       clear hg
       by_cases hlt : i < 3
       ·have hlt' : (i : Int) < 3 := by omega
        have hc : wr.cell? ⟨gL2, i, none⟩ = some (.int .u8 ((lSt.getD i 0 : Nat) : Int)) := by rw [HL.out.cell]; exact b8_getD (by rw [show lSt.length = 3 from rfl]; exact hlt)
        have hwr : (i : Int) % 4294967296 = (i : Int) := by omega
        have HLEN := wall (tabLen2 i (by omega))
        go_wp2_with (at_mapUpdate; refine upd rfl _ _ _ rfl w.heap.size _ rfl HM.out (Nat.le_trans HLEN.out (by decide)) w _ HB.out (Nat.le_refl _) (Nat.le_refl _) (35, i, 0) (lSt.getD i 0) _ _ _ _ rfl rfl rfl (by first | rfl | omega) rfl (by first | rfl | omega) (okS_of (by decide) (by omega) (by decide)) ?_; intro w2 hM2 hB2 hF2)
        go_light
        go_roundg (3 - (i + 1))
        case measure => have := HG.out; omega
        case rel => exact ⟨i + 1, by have := HG.out; omega, by go_num, wall hM2, wall (hF2.out _ _ _ HNE.out.symm HL.out), wall hB2⟩
       ·obtain rfl : i = 3 := by omega
        clear hlt HL HG hi8 HNE
        obtain ⟨wb2, rfl⟩ : ∃ q : World, q = wr := ⟨_, rfl⟩
        go_wp2_with fail
        obtain ⟨gL3, hgl⟩ : ∃ y, wb2.heap.size = y := ⟨_, rfl⟩
        have hal := (Below.refl wb2.heap.size wb2).alloc (Nat.le_refl _) (.cells (b8 lIm) 5)
        have HM0 := wall (show SMp (wb2.alloc (.cells (b8 lIm) 5)) w.heap.size (rowsNz 19 0 lIm 0 ++ tab3) from HM.out.alloc _)
        have HL0 := wall (show Blk (wb2.alloc (.cells (b8 lIm) 5)) gL3 5 (b8 lIm) by rw [← hgl]; exact Blk.new _ _ _)
        have HB0 := wall (show Below w.heap.size w (wb2.alloc (.cells (b8 lIm) 5)) from below_then HB.out hal (Nat.le_refl _))
        have HNE := wall (show w.heap.size ≠ gL3 by (have h1 : w.heap.size < wb2.heap.size := HM.out.lt); omega)
        rw [hgl]
        clear HM HB hal hgl
        change Code.wp _ _ _ _ (wb2.alloc (.cells (b8 lIm) 5))
        obtain ⟨wa, hwa⟩ : ∃ V, V = wb2.alloc (.cells (b8 lIm) 5) := ⟨_, rfl⟩
        rw [← hwa] at HM0 HL0 HB0 ⊢
        clear hwa
        go_loopg [67] 8 (fun g sC wr => ∃ i : Nat, i + g = 8 ∧ sC = .int .i64 (i : Int) ∧ Wall (SMp wr w.heap.size (rowsNz 19 0 lIm i ++ tab3)) ∧ Wall (Blk wr gL3 5 (b8 lIm)) ∧ Wall (Below w.heap.size w wr))
        case atStart => exact ⟨0, by omega, rfl, HM0, HL0, HB0⟩
        case round =>
         clear HM0 HL0 HB0
         obtain ⟨i, hg, rfl, HM, HL, HB⟩ := hrel
         have HG := wall hg
         have hi8 : i ≤ 8 := by omega
         clear hg
         by_cases hlt : i < 8
         ·have hlt' : (i : Int) < 8 := by omega
          have hc : wr.cell? ⟨gL3, i, none⟩ = some (.int .u8 ((lIm.getD i 0 : Nat) : Int)) := by rw [HL.out.cell]; exact b8_getD (by rw [show lIm.length = 8 from rfl]; exact hlt)
          have hwr : (i : Int) % 4294967296 = (i : Int) := by omega
          have HLEN := wall (tabLen3 i (by omega))
          obtain ⟨z, hzz⟩ : ∃ z, lIm.getD i 0 = z := ⟨_, rfl⟩
          rw [hzz] at hc
          have HZZ := wall hzz
          clear hzz
          by_cases hz : (z : Int) = 0
          ·have HZ := wall (show lIm.getD i 0 = 0 by rw [HZZ.out]; omega)
           go_wp2_with fail
           go_light
           go_roundg (8 - (i + 1))
           case measure => have := HG.out; omega
           case rel => exact ⟨i + 1, by have := HG.out; omega, by go_num, by (have e : rowsNz 19 0 lIm (i + 1) = rowsNz 19 0 lIm i := by (show (if lIm.getD i 0 = 0 then _ else _) = _; rw [if_pos HZ.out])); rw [e]; exact HM, HL, HB⟩
          ·have HZ := wall (show ¬ lIm.getD i 0 = 0 by rw [HZZ.out]; omega)
           go_wp2_with (at_mapUpdate; refine upd rfl _ _ _ rfl w.heap.size _ rfl HM.out (Nat.le_trans HLEN.out (by decide)) w _ HB.out (Nat.le_refl _) (Nat.le_refl _) (19, i, 0) (z) _ _ _ _ rfl rfl rfl (by first | rfl | omega) rfl (by first | rfl | omega) (okS_of (by decide) (by omega) (by decide)) ?_; intro w2 hM2 hB2 hF2)
           go_light
           go_roundg (8 - (i + 1))
           case measure => have := HG.out; omega
           case rel => exact ⟨i + 1, by have := HG.out; omega, by go_num, by (have e : rowsNz 19 0 lIm (i + 1) = ((19, i, 0), z) :: rowsNz 19 0 lIm i := by (show (if lIm.getD i 0 = 0 then _ else _) = _; rw [if_neg HZ.out, HZZ.out])); rw [e]; exact wall hM2, wall (hF2.out _ _ _ HNE.out.symm HL.out), wall hB2⟩
         ·obtain rfl : i = 8 := by omega
          clear hlt HL HG hi8 HNE
          obtain ⟨wb3, rfl⟩ : ∃ q : World, q = wr := ⟨_, rfl⟩
          go_wp2_with fail
          obtain ⟨gL4, hgl⟩ : ∃ y, wb3.heap.size = y := ⟨_, rfl⟩
          have hal := (Below.refl wb3.heap.size wb3).alloc (Nat.le_refl _) (.cells (b8 lRg) 5)
          have HM0 := wall (show SMp (wb3.alloc (.cells (b8 lRg) 5)) w.heap.size (rows2 lRg 0 ++ tab4) from HM.out.alloc _)
          have HL0 := wall (show Blk (wb3.alloc (.cells (b8 lRg) 5)) gL4 5 (b8 lRg) by rw [← hgl]; exact Blk.new _ _ _)
          have HB0 := wall (show Below w.heap.size w (wb3.alloc (.cells (b8 lRg) 5)) from below_then HB.out hal (Nat.le_refl _))
          have HNE := wall (show w.heap.size ≠ gL4 by (have h1 : w.heap.size < wb3.heap.size := HM.out.lt); omega)
          rw [hgl]
          clear HM HB hal hgl
          change Code.wp _ _ _ _ (wb3.alloc (.cells (b8 lRg) 5))
          obtain ⟨wa, hwa⟩ : ∃ V, V = wb3.alloc (.cells (b8 lRg) 5) := ⟨_, rfl⟩
          rw [← hwa] at HM0 HL0 HB0 ⊢
          clear hwa
          go_loopg [82] 8 (fun g sC wr => ∃ i : Nat, i + g = 8 ∧ sC = .int .i64 (i : Int) ∧ Wall (SMp wr w.heap.size (rows2 lRg i ++ tab4)) ∧ Wall (Blk wr gL4 5 (b8 lRg)) ∧ Wall (Below w.heap.size w wr))
          case atStart => exact ⟨0, by omega, rfl, HM0, HL0, HB0⟩
          case round =>
           clear HM0 HL0 HB0
           obtain ⟨i, hg, rfl, HM, HL, HB⟩ := hrel
           have HG := wall hg
           have hi8 : i ≤ 8 := by omega
           clear hg
           by_cases hlt : i < 8
           ·have hlt' : (i : Int) < 8 := by omega
            have hc : wr.cell? ⟨gL4, i, none⟩ = some (.int .u8 ((lRg.getD i 0 : Nat) : Int)) := by rw [HL.out.cell]; exact b8_getD (by rw [show lRg.length = 8 from rfl]; exact hlt)
            have hwr : (i : Int) % 4294967296 = (i : Int) := by omega
            have HLEN := wall (tabLen4 i (by omega))
            have hi256 : (i : Int) % 256 = (i : Int) := by omega
            have hi49 : (49 + (i : Int)) % 256 = 49 + (i : Int) := by omega
            go_wp2_with (at_mapUpdate; first | (refine upd rfl _ _ _ rfl w.heap.size _ rfl HM.out (Nat.le_trans HLEN.out (by decide)) w _ HB.out (Nat.le_refl _) (Nat.le_refl _) (51, i, 0) (lRg.getD i 0) _ _ _ _ rfl rfl rfl (by first | rfl | omega) rfl (by first | rfl | omega) (okS_of (by decide) (by omega) (by decide)) ?_; intro w2 hM2 hB2 hF2) | (refine upd rfl _ _ _ rfl w.heap.size _ rfl hM2 (by have := HLEN.out; simp only [List.length_cons]; omega) w _ hB2 (Nat.le_refl _) (Nat.le_refl _) (51, i, 1) (49 + i) _ _ _ _ rfl rfl rfl (by first | rfl | omega) rfl (by first | rfl | omega | (go_num; omega)) (okS_of (by decide) (by omega) (by decide)) ?_; intro w3 hM3 hB3 hF3))
            go_light
            go_roundg (8 - (i + 1))
            case measure => have := HG.out; omega
            case rel => exact ⟨i + 1, by have := HG.out; omega, by go_num, wall hM3, wall (hF3.out _ _ _ HNE.out.symm (hF2.out _ _ _ HNE.out.symm HL.out)), wall hB3⟩
           ·obtain rfl : i = 8 := by omega
            clear hlt HL HG hi8 HNE
            obtain ⟨wb4, rfl⟩ : ∃ q : World, q = wr := ⟨_, rfl⟩
            go_wp2_with fail
            obtain ⟨gL5, hgl⟩ : ∃ y, wb4.heap.size = y := ⟨_, rfl⟩
            have hal := (Below.refl wb4.heap.size wb4).alloc (Nat.le_refl _) (.cells (b8 lSy) 5)
            have HM0 := wall (show SMp (wb4.alloc (.cells (b8 lSy) 5)) w.heap.size (rows 115 0 lSy 0 ++ tab5) from HM.out.alloc _)
            have HL0 := wall (show Blk (wb4.alloc (.cells (b8 lSy) 5)) gL5 5 (b8 lSy) by rw [← hgl]; exact Blk.new _ _ _)
            have HB0 := wall (show Below w.heap.size w (wb4.alloc (.cells (b8 lSy) 5)) from below_then HB.out hal (Nat.le_refl _))
            have HNE := wall (show w.heap.size ≠ gL5 by (have h1 : w.heap.size < wb4.heap.size := HM.out.lt); omega)
            rw [hgl]
            clear HM HB hal hgl
            change Code.wp _ _ _ _ (wb4.alloc (.cells (b8 lSy) 5))
            obtain ⟨wa, hwa⟩ : ∃ V, V = wb4.alloc (.cells (b8 lSy) 5) := ⟨_, rfl⟩
            rw [← hwa] at HM0 HL0 HB0 ⊢
            clear hwa
            go_loopg [102] 8 (fun g sC wr => ∃ i : Nat, i + g = 8 ∧ sC = .int .i64 (i : Int) ∧ Wall (SMp wr w.heap.size (rows 115 0 lSy i ++ tab5)) ∧ Wall (Blk wr gL5 5 (b8 lSy)) ∧ Wall (Below w.heap.size w wr))
            case atStart => exact ⟨0, by omega, rfl, HM0, HL0, HB0⟩
            case round =>
             clear HM0 HL0 HB0
             obtain ⟨i, hg, rfl, HM, HL, HB⟩ := hrel
             have HG := wall hg
             have hi8 : i ≤ 8 := by omega
             clear hg
             by_cases hlt : i < 8
             ·have hlt' : (i : Int) < 8 := by omega
              have hc : wr.cell? ⟨gL5, i, none⟩ = some (.int .u8 ((lSy.getD i 0 : Nat) : Int)) := by rw [HL.out.cell]; exact b8_getD (by rw [show lSy.length = 8 from rfl]; exact hlt)
              have hwr : (i : Int) % 4294967296 = (i : Int) := by omega
              have HLEN := wall (tabLen5 i (by omega))
              go_wp2_with (at_mapUpdate; refine upd rfl _ _ _ rfl w.heap.size _ rfl HM.out (Nat.le_trans HLEN.out (by decide)) w _ HB.out (Nat.le_refl _) (Nat.le_refl _) (115, i, 0) (lSy.getD i 0) _ _ _ _ rfl rfl rfl (by first | rfl | omega) rfl (by first | rfl | omega) (okS_of (by decide) (by omega) (by decide)) ?_; intro w2 hM2 hB2 hF2)
              go_light
              go_roundg (8 - (i + 1))
              case measure => have := HG.out; omega
              case rel => exact ⟨i + 1, by have := HG.out; omega, by go_num, wall hM2, wall (hF2.out _ _ _ HNE.out.symm HL.out), wall hB2⟩
             ·obtain rfl : i = 8 := by omega
              clear hlt HL HG hi8 HNE
              obtain ⟨wb5, rfl⟩ : ∃ q : World, q = wr := ⟨_, rfl⟩
              go_wp2_with fail
              go_light
              go_ret
              exact ⟨_, rfl, HM.out, HB.out⟩
end Rv
end Go.Proofs.YtmiaabpnolebhaaGreatDoor
