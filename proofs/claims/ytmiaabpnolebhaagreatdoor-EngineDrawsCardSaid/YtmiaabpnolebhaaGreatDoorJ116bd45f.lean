/-
  Texts of this claim, joined: MemC, MemB.
-/
import Derived.Test.YtmiaabpnolebhaaGreatDoorJ7628b7ad
import Derived.Test.YtmiaabpnolebhaaGreatDoorJ2fb7e88f
import Derived.Test.YtmiaabpnolebhaaGreatDoorCorM
import Derived.Test.YtmiaabpnolebhaaGreatDoorJ6dac6940
set_option linter.unusedSimpArgs false
set_option linter.unusedVariables false
/-
  The reference's memory (curtilageref18): New.
-/
namespace Go.Proofs.YtmiaabpnolebhaaGreatDoor
open Go.RowKit

namespace M18
open Otp R1 Sha
/-- What New hands back: the block, the five regions' blocks, the flash erased. -/
structure MemO (w : World) (N g : Nat) (st : Int) (b1 b2 b3 b4 b5 : Nat) : Prop where
  r : R5 w N g st b1 b2 b4 b5 (sl b3 10240) (b8 (List.replicate 4096 0)) (b8 (List.replicate 4096 0)) (b8 (List.replicate 64 0)) (b8 (List.replicate 256 0))
  k3 : Blk w b3 5 (b8 (List.replicate 10240 255))
  hg : N ≤ g
  h3 : N ≤ b3
  ng : b1 ≠ g ∧ b2 ≠ g ∧ b3 ≠ g ∧ b4 ≠ g ∧ b5 ≠ g
  n3 : b1 ≠ b3 ∧ b2 ≠ b3 ∧ b4 ≠ b3 ∧ b5 ≠ b3
def MemOut (st : Int) (w : World) (e : Ending) (w' : World) : Prop := ∃ g b1 b2 b3 b4 b5, e = .returned (.pointer (some ⟨g, 0, none⟩)) ∧ MemO w' w.heap.size g st b1 b2 b3 b4 b5 ∧ Below w.heap.size w w'
theorem all255 {l : List Nat} (hl : l.length = 10240) (h : ∀ j, j < 10240 → l[j]? = some 255) : l = List.replicate 10240 255 := by
  apply List.ext_getElem?
  intro j
  by_cases hj : j < 10240
  · rw [h j hj, List.getElem?_replicate, if_pos hj]
  · rw [List.getElem?_eq_none (by omega), List.getElem?_eq_none (by rw [List.length_replicate]; omega)]
set_option maxRecDepth 100000 in
set_option maxHeartbeats 20000000 in
theorem new_any (st : Int) (w : World) : Calls Tryz.prog 89 #[.int .i64 st] w (MemOut st w) := by
  have HB := wall (mem_built st)
  have HK := wall (Blk.new w 143 (mB st nl nl nl nl nl false))
  have HBL := wall ((Below.refl _ w).alloc (Nat.le_refl _) (.cells (mB st nl nl nl nl nl false) 143))
  obtain ⟨Z1, hZ1⟩ : ∃ y, b8 (List.replicate 4096 0) = y := ⟨_, rfl⟩
  obtain ⟨Z3, hZ3⟩ : ∃ y, b8 (List.replicate 64 0) = y := ⟨_, rfl⟩
  obtain ⟨Z4, hZ4⟩ : ∃ y, b8 (List.replicate 256 0) = y := ⟨_, rfl⟩
  have HZ := wall (And.intro hZ1 (And.intro hZ3 hZ4))
  have m1 := Mk.make_u8 4096 (by decide)
  have m3 := Mk.make_u8 64 (by decide)
  have m4 := Mk.make_u8 256 (by decide)
  rw [hZ1] at m1
  rw [hZ3] at m3
  rw [hZ4] at m4
  have n1 : ∀ w : World, (Instr.makeSlice 24 (.int .i64 4096) (.int .i64 4096)).run Tryz.prog w = .ok (.slice (some ⟨w.heap.size, 0, none⟩) 4096 4096) (w.alloc (.cells Z1 5)) := m1
  have n3 : ∀ w : World, (Instr.makeSlice 24 (.int .i64 64) (.int .i64 64)).run Tryz.prog w = .ok (.slice (some ⟨w.heap.size, 0, none⟩) 64 64) (w.alloc (.cells Z3 5)) := m3
  have n4 : ∀ w : World, (Instr.makeSlice 24 (.int .i64 256) (.int .i64 256)).run Tryz.prog w = .ok (.slice (some ⟨w.heap.size, 0, none⟩) 256 256) (w.alloc (.cells Z4 5)) := m4
  obtain ⟨M0, hM0⟩ : ∃ y, mB st nl nl nl nl nl false = y := ⟨_, rfl⟩
  have HM0 := wall hM0
  rw [hM0] at HB HK HBL
  clear m1 m3 m4
  go_enter Tryz.func89, Tryz.ntmps89
  go_upto_region 2 with (refine wpList_build_row rfl 143 [(0, .tmp 5)] rfl M0 HB.out ?_)
  generalize w.alloc (.cells M0 143) = w1 at *
  obtain ⟨g, hg⟩ : ∃ g, w.heap.size = g := ⟨_, rfl⟩
  have HG := wall hg
  rw [hg] at HK ⊢
  have HKM := wall (show Blk w1 g 143 (mB st nl nl nl nl nl false) by rw [hM0]; exact HK.out)
  have c2 : w1.cell? ⟨g, 2, none⟩ = some nl := by rw [HK.out.cell, ← hM0]; rfl
  have c3 : w1.cell? ⟨g, 3, none⟩ = some nl := by rw [HK.out.cell, ← hM0]; rfl
  have c5 : w1.cell? ⟨g, 5, none⟩ = some nl := by rw [HK.out.cell, ← hM0]; rfl
  have c6 : w1.cell? ⟨g, 6, none⟩ = some nl := by rw [HK.out.cell, ← hM0]; rfl
  have hfz : ∀ i, w1.frozen? ⟨g, i, none⟩ = false := fun i => HK.out.frozen i
  have hgl : g < w1.heap.size := HK.out.lt
  have hg1 : g < w1.heap.size + 1 := by omega
  have hg2 : g < w1.heap.size + 1 + 1 := by omega
  have hg3 : g < w1.heap.size + 1 + 1 + 1 := by omega
  clear hg hM0 hZ1 hZ3 hZ4 HB
  rename_i K hKa
  have hK : ∀ (b1 b2 b4 b5 : Nat) (w2 : World) (x1 x4 x5 x6 x7 x8 x9 x10 x11 x12 x13 x14 x15 x16 x17 x18 x19 x20 x21 x22 x23 x24 x25 x26 x27 x28 x29 x30 x31 x32 x33 x34 x35 x36 x37 x38 x39 x40 x41 x42 x43 x44 x45 x46 x47 x48 x49 x50 : Value), R5 w2 w1.heap.size g st b1 b2 b4 b5 nl Z1 Z1 Z3 Z4 ∧ Frm [g] w1 w2 → K { tmps := #[.int .i64 st, x1, .pointer none, .pointer (some ⟨g, 0, none⟩), x4, x5, x6, x7, x8, x9, x10, x11, x12, x13, x14, x15, x16, x17, x18, x19, x20, x21, x22, x23, x24, x25, x26, x27, x28, x29, x30, x31, x32, x33, x34, x35, x36, x37, x38, x39, x40, x41, x42, x43, x44, x45, x46, x47, x48, x49, x50], defers := [] } w2 := by
    intro b1 b2 b4 b5 w2 x1 x4 x5 x6 x7 x8 x9 x10 x11 x12 x13 x14 x15 x16 x17 x18 x19 x20 x21 x22 x23 x24 x25 x26 x27 x28 x29 x30 x31 x32 x33 x34 x35 x36 x37 x38 x39 x40 x41 x42 x43 x44 x45 x46 x47 x48 x49 x50 hR0
    have HR := wall hR0
    refine hKa _ _ ?_
    clear hR0
    clear c2 c3 c5 c6 hfz n1 n3 n4 hg1 hg2 hg3 HKM HK HM0
    obtain ⟨Z5, hZ5⟩ : ∃ y, b8 (List.replicate 10240 0) = y := ⟨_, rfl⟩
    have HZ5 := wall hZ5
    have m5 := Mk.make_u8 10240 (by decide)
    rw [hZ5] at m5
    have n5 : ∀ w : World, (Instr.makeSlice 24 (.int .i64 10240) (.int .i64 10240)).run Tryz.prog w = .ok (.slice (some ⟨w.heap.size, 0, none⟩) 10240 10240) (w.alloc (.cells Z5 5)) := m5
    clear m5 hZ5
    have c4 : w2.cell? ⟨g, 4, none⟩ = some nl := by rw [HR.out.1.k.cell]; rfl
    have hfz : ∀ i, w2.frozen? ⟨g, i, none⟩ = false := fun i => HR.out.1.k.frozen i
    have hgl2 : g < w2.heap.size := HR.out.1.k.lt
    have hgl3 : g < w2.heap.size + 1 := by omega
    have H1g : b1 ≠ g := by have := HR.out.1.h1; omega
    have H2g : b2 ≠ g := by have := HR.out.1.h2; omega
    have H4g : b4 ≠ g := by have := HR.out.1.h4; omega
    have H5g : b5 ≠ g := by have := HR.out.1.h5; omega
    have HBL2 := wall (show b1 < w2.heap.size ∧ b2 < w2.heap.size ∧ b4 < w2.heap.size ∧ g < w2.heap.size ∧ b5 < w2.heap.size from ⟨HR.out.1.k1.lt, HR.out.1.k2.lt, HR.out.1.k4.lt, hgl2, HR.out.1.k5.lt⟩)
    go_wp2_with fail
    go_cut [] (fun w' => ∃ b3, Wall (R5 w' w1.heap.size g st b1 b2 b4 b5 (sl b3 10240) Z1 Z1 Z3 Z4 ∧ Blk w' b3 5 Z5 ∧ b3 = w2.heap.size ∧ Frm [g] w1 w'))
    case first =>
      go_region_law (fail)
      all_goals go_wp2_with fail
      all_goals go_meet
      all_goals (refine ⟨w2.heap.size, wall ⟨(leaf3 HR.out.1 H1g H2g H4g H5g).1, (leaf3 HR.out.1 H1g H2g H4g H5g).2.1, rfl, HR.out.2.trans (leaf3 HR.out.1 H1g H2g H4g H5g).2.2⟩⟩)
    case rest =>
      obtain ⟨b3, HR3⟩ := hcut
      obtain ⟨w3, rfl⟩ : ∃ wo : World, wo = wc := ⟨_, rfl⟩
      clear c4 hfz n5 hgl3 hgl2
      have HL3 := wall (And.intro HBL2.out HR3.out.2.2.1)
      have k4 : w3.cell? ⟨g, 4, none⟩ = some (.slice (some ⟨b3, 0, none⟩) 10240 10240) := by rw [HR3.out.1.k.cell]; rfl
      have hg3 : g < w3.heap.size := HR3.out.1.k.lt
      go_wp2_with fail
      clear k4 hg3
      go_loopg [39] 10240 (fun gg s39 wr => ∃ i : Nat, i + gg = 10240 ∧ s39 = .int .i64 (i : Int) ∧ ∃ l : List Nat, l.length = 10240 ∧ Wall (∀ j, j < i → l[j]? = some 255) ∧ Wall (R5 wr w1.heap.size g st b1 b2 b4 b5 (sl b3 10240) Z1 Z1 Z3 Z4 ∧ Blk wr b3 5 (b8 l) ∧ Frm [g, b3] w1 wr ∧ b3 < wr.heap.size))
      case atStart => exact ⟨0, by omega, rfl, List.replicate 10240 0, List.length_replicate, wall (fun j hj => absurd hj (by omega)), wall ⟨HR3.out.1, by rw [HZ5.out]; exact HR3.out.2.1, HR3.out.2.2.2.mono (fun x hx _ => by simp at hx ⊢; exact .inl hx), HR3.out.2.1.lt⟩⟩
      case round =>
        obtain ⟨i, hgi, rfl, l, hll, HLA, HQ⟩ := hrel
        have HGK := wall hgi
        have hi : i ≤ 10240 := by omega
        clear hgi
        by_cases hlt : i < 10240
        · have hlt' : (i : Int) < 10240 := by omega
          obtain ⟨y, hy⟩ : ∃ y, l[i]? = some y := ⟨_, List.getElem?_eq_getElem (by rw [hll]; exact hlt)⟩
          have k4 : wr.cell? ⟨g, 4, none⟩ = some (.slice (some ⟨b3, 0, none⟩) 10240 10240) := by rw [HQ.out.1.k.cell]; rfl
          have kc : wr.cell? ⟨b3, i, none⟩ = some (.int .u8 (y : Int)) := by rw [HQ.out.2.1.cell, b8_at hy]
          have kf : wr.frozen? ⟨b3, i, none⟩ = false := HQ.out.2.1.frozen i
          have HLL := wall hll
          clear hy hll
          go_wp2_with fail
          go_light
          have HQN := wall (show R5 (wr.setCell ⟨b3, i, none⟩ (.int .u8 255)) w1.heap.size g st b1 b2 b4 b5 (sl b3 10240) Z1 Z1 Z3 Z4 ∧ Blk (wr.setCell ⟨b3, i, none⟩ (.int .u8 255)) b3 5 (b8 (l.set i 255)) ∧ Frm [g, b3] w1 (wr.setCell ⟨b3, i, none⟩ (.int .u8 255)) ∧ b3 < (wr.setCell ⟨b3, i, none⟩ (.int .u8 255)).heap.size from by
            have hb3 := HL3.out.2
            obtain ⟨e1, e2, e4, eg, e5⟩ := HL3.out.1
            have hk := HQ.out.2.1.set i (.int .u8 255)
            have h255 : (b8 l).setIfInBounds i (.int .u8 255) = b8 (l.set i 255) := by simp [b8, List.map_set]
            rw [h255] at hk
            have q := HQ.out.1
            exact ⟨⟨q.k.far' _ _ (by simp; omega) _, q.k1.far' _ _ (by simp; omega) _, q.k2.far' _ _ (by simp; omega) _, q.k4.far' _ _ (by simp; omega) _, q.k5.far' _ _ (by simp; omega) _, q.h1, q.h2, q.h4, q.h5, q.n12, q.n14, q.n15, q.n24, q.n25, q.n45⟩, hk, HQ.out.2.2.1.setCell (p := ⟨b3, i, none⟩) (.inl (by simp)) _, hk.lt⟩)
          have HLS := wall (show ∀ j, j < i + 1 → (l.set i 255)[j]? = some 255 from fun j hj => by
            have := HGK.out
            have := HLL.out
            by_cases h : j = i
            · subst h
              exact List.getElem?_set_self (by omega)
            · rw [List.getElem?_set_ne (by omega)]
              exact HLA.out j (by omega))
          go_roundg (10240 - (i + 1))
          case measure => have := HGK.out; omega
          case rel => exact ⟨i + 1, by have := HGK.out; omega, congrArg (Value.int .i64) (by first | (unfold wrap64; omega) | omega), l.set i 255, by rw [List.length_set]; exact HLL.out, HLS, HQN⟩
        · obtain rfl : i = 10240 := by omega
          go_wp2_with fail
          go_light
          go_ret
          have q := HQ.out.1
          have hg0 := HG.out
          have hz := HZ.out
          have hsz := HBL.out.size
          obtain ⟨e1, e2, e4, eg, e5⟩ := HL3.out.1
          have hb3 := HL3.out.2
          have hw2 : w1.heap.size ≤ w2.heap.size := HR.out.2.size
          have hla := all255 hll HLA.out
          refine ⟨g, b1, b2, b3, b4, b5, rfl, ?_, Below.frm HBL.out HQ.out.2.2.1 (Nat.le_refl _) (by intro x hx; simp at hx; omega)⟩
          refine ⟨?_, by rw [← hla]; exact HQ.out.2.1, by omega, by omega, ⟨H1g, H2g, by omega, H4g, H5g⟩, ⟨by omega, by omega, by omega, by omega⟩⟩
          rw [hz.1, hz.2.1, hz.2.2]
          exact ⟨q.k, q.k1, q.k2, q.k4, q.k5, by have := q.h1; omega, by have := q.h2; omega, by have := q.h4; omega, by have := q.h5; omega, q.n12, q.n14, q.n15, q.n24, q.n25, q.n45⟩
  clear HK HBL HG HM0 HZ hKa
  refine RelI.wp_region_inv (by kernel_rfl) (Iv w1 g st Z1 Z3 Z4) (Iv.start rfl rfl rfl rfl rfl HKM.out) ?step ?fin
  case fin =>
    intro s a W hs hI hr
    have hon := RelI.all_on (by kernel_rfl) hr hs
    obtain ⟨b1, b2, b4, b5, hR⟩ := hI.done hon
    obtain ⟨⟨l⟩, df⟩ := a
    obtain ⟨x0, x1, x2, x3, x4, x5, x6, x7, x8, x9, x10, x11, x12, x13, x14, x15, x16, x17, x18, x19, x20, x21, x22, x23, x24, x25, x26, x27, x28, x29, x30, x31, x32, x33, x34, x35, x36, x37, x38, x39, x40, x41, x42, x43, x44, x45, x46, x47, x48, x49, x50, rfl⟩ := list51 l hI.sz
    obtain rfl : x0 = _ := Option.some.inj (show some x0 = _ from hI.b0)
    obtain rfl : x2 = _ := Option.some.inj (show some x2 = _ from hI.b2)
    obtain rfl : x3 = _ := Option.some.inj (show some x3 = _ from hI.b3)
    obtain rfl : df = _ := hI.df
    exact hK b1 b2 b4 b5 W x1 x4 x5 x6 x7 x8 x9 x10 x11 x12 x13 x14 x15 x16 x17 x18 x19 x20 x21 x22 x23 x24 x25 x26 x27 x28 x29 x30 x31 x32 x33 x34 x35 x36 x37 x38 x39 x40 x41 x42 x43 x44 x45 x46 x47 x48 x49 x50 hR
  case step =>
    intro s a W i o hs hI hi ho K' hK'
    obtain ⟨h1, o', ho', hd⟩ := mem_ready.1 hi
    obtain rfl : o = o' := Option.some.inj (ho.symm.trans ho')
    have hlt : i < 24 := (Array.getElem?_eq_some_iff.1 ho).1
    clear hi ho' hK
    have hn : ¬ on s i := by
      unfold on
      rw [getD_both h1]
      decide
    rcases (show i = 0 ∨ i = 1 ∨ i = 2 ∨ i = 3 ∨ i = 4 ∨ i = 5 ∨ i = 6 ∨ i = 7 ∨ i = 8 ∨ i = 9 ∨ i = 10 ∨ i = 11 ∨ i = 12 ∨ i = 13 ∨ i = 14 ∨ i = 15 ∨ i = 16 ∨ i = 17 ∨ i = 18 ∨ i = 19 ∨ i = 20 ∨ i = 21 ∨ i = 22 ∨ i = 23 by omega) with rfl | rfl | rfl | rfl | rfl | rfl | rfl | rfl | rfl | rfl | rfl | rfl | rfl | rfl | rfl | rfl | rfl | rfl | rfl | rfl | rfl | rfl | rfl | rfl
    · obtain rfl := Option.some.inj (show some _ = some o from ho)
      have e1 : a.eval (.tmp 3) = .pointer (some ⟨g, 0, none⟩) := ev_at hI.b3
      exact wp_val_in rfl (val g 0) (ex_move _ rfl e1) (hK' _ _ (hI.pure (by decide) rfl))
    · obtain rfl := Option.some.inj (show some _ = some o from ho)
      have e1 : a.eval (.tmp 3) = .pointer (some ⟨g, 0, none⟩) := ev_at hI.b3
      exact wp_val_in rfl (val g 1) (ex_move _ rfl e1) (hK' _ _ (hI.pure (by decide) rfl))
    · obtain rfl := Option.some.inj (show some _ = some o from ho)
      have e1 : a.eval (.tmp 3) = .pointer (some ⟨g, 0, none⟩) := ev_at hI.b3
      exact wp_val_in rfl (val g 2) (ex_move _ rfl e1) (hK' _ _ (hI.pure (by decide) rfl))
    · obtain rfl := Option.some.inj (show some _ = some o from ho)
      have e1 : a.eval (.tmp 3) = .pointer (some ⟨g, 0, none⟩) := ev_at hI.b3
      exact wp_val_in rfl (val g 3) (ex_move _ rfl e1) (hK' _ _ (hI.pure (by decide) rfl))
    · obtain rfl := Option.some.inj (show some _ = some o from ho)
      exact RelI.wp_run_in rfl _ (ex_make rfl (n1 W)) (hK' _ _ (hI.make (by decide) rfl hn))
    · obtain rfl := Option.some.inj (show some _ = some o from ho)
      exact RelI.wp_run_in rfl _ (ex_make rfl (n1 W)) (hK' _ _ (hI.make (by decide) rfl hn))
    · obtain rfl := Option.some.inj (show some _ = some o from ho)
      exact RelI.wp_run_in rfl _ (ex_make rfl (n3 W)) (hK' _ _ (hI.make (by decide) rfl hn))
    · obtain rfl := Option.some.inj (show some _ = some o from ho)
      exact RelI.wp_run_in rfl _ (ex_make rfl (n4 W)) (hK' _ _ (hI.make (by decide) rfl hn))
    · obtain rfl := Option.some.inj (show some _ = some o from ho)
      have e1 : a.eval (.tmp 8) = val g 0 := ev_at (hI.pu 0 (by decide) rfl (hd ⟨0, .data⟩ (by simp) rfl))
      exact wp_val_in rfl (val g 8) (ex_nil _ rfl e1) (hK' _ _ (hI.pure (by decide) rfl))
    · obtain rfl := Option.some.inj (show some _ = some o from ho)
      have e1 : a.eval (.tmp 16) = val g 8 := ev_at (hI.pu 8 (by decide) rfl (hd ⟨8, .data⟩ (by simp) rfl))
      exact wp_val_in rfl (val g 9) (ex_field _ rfl e1) (hK' _ _ (hI.pure (by decide) rfl))
    · obtain rfl := Option.some.inj (show some _ = some o from ho)
      have e1 : a.eval (.tmp 17) = val g 9 := ev_at (hI.pu 9 (by decide) rfl (hd ⟨9, .data⟩ (by simp) rfl))
      exact wp_val_in rfl (val g 10) (ex_idx1 _ rfl e1) (hK' _ _ (hI.pure (by decide) rfl))
    · obtain rfl := Option.some.inj (show some _ = some o from ho)
      have e1 : a.eval (.tmp 18) = val g 10 := ev_at (hI.pu 10 (by decide) rfl (hd ⟨10, .data⟩ (by simp) rfl))
      obtain ⟨γ, k1, k2, k3⟩ := hI.ma
      have hm : on s 4 := hd ⟨4, .data⟩ (by simp) rfl
      obtain ⟨q1, -, -⟩ := k1 4 (by decide) rfl hm
      have hc : W.cell? ⟨g, 2, none⟩ = some (cellOf s 11 (sl (γ 4) 4096)) := by rw [k3.cell]; rfl
      exact RelI.wp_skip_in rfl rfl (ex_store _ _ rfl e1 (ev_at q1) hc (k3.frozen _)) (hK' _ _ (hI.store11 hm q1))
    · obtain rfl := Option.some.inj (show some _ = some o from ho)
      have e1 : a.eval (.tmp 9) = val g 1 := ev_at (hI.pu 1 (by decide) rfl (hd ⟨1, .data⟩ (by simp) rfl))
      exact wp_val_in rfl (val g 12) (ex_nil _ rfl e1) (hK' _ _ (hI.pure (by decide) rfl))
    · obtain rfl := Option.some.inj (show some _ = some o from ho)
      have e1 : a.eval (.tmp 19) = val g 12 := ev_at (hI.pu 12 (by decide) rfl (hd ⟨12, .data⟩ (by simp) rfl))
      exact wp_val_in rfl (val g 13) (ex_field _ rfl e1) (hK' _ _ (hI.pure (by decide) rfl))
    · obtain rfl := Option.some.inj (show some _ = some o from ho)
      have e1 : a.eval (.tmp 20) = val g 13 := ev_at (hI.pu 13 (by decide) rfl (hd ⟨13, .data⟩ (by simp) rfl))
      exact wp_val_in rfl (val g 14) (ex_idx2 _ rfl e1) (hK' _ _ (hI.pure (by decide) rfl))
    · obtain rfl := Option.some.inj (show some _ = some o from ho)
      have e1 : a.eval (.tmp 21) = val g 14 := ev_at (hI.pu 14 (by decide) rfl (hd ⟨14, .data⟩ (by simp) rfl))
      obtain ⟨γ, k1, k2, k3⟩ := hI.ma
      have hm : on s 5 := hd ⟨5, .data⟩ (by simp) rfl
      obtain ⟨q1, -, -⟩ := k1 5 (by decide) rfl hm
      have hc : W.cell? ⟨g, 3, none⟩ = some (cellOf s 15 (sl (γ 5) 4096)) := by rw [k3.cell]; rfl
      exact RelI.wp_skip_in rfl rfl (ex_store _ _ rfl e1 (ev_at q1) hc (k3.frozen _)) (hK' _ _ (hI.store15 hm q1))
    · obtain rfl := Option.some.inj (show some _ = some o from ho)
      have e1 : a.eval (.tmp 10) = val g 2 := ev_at (hI.pu 2 (by decide) rfl (hd ⟨2, .data⟩ (by simp) rfl))
      exact wp_val_in rfl (val g 16) (ex_nil _ rfl e1) (hK' _ _ (hI.pure (by decide) rfl))
    · obtain rfl := Option.some.inj (show some _ = some o from ho)
      have e1 : a.eval (.tmp 22) = val g 16 := ev_at (hI.pu 16 (by decide) rfl (hd ⟨16, .data⟩ (by simp) rfl))
      exact wp_val_in rfl (val g 17) (ex_field _ rfl e1) (hK' _ _ (hI.pure (by decide) rfl))
    · obtain rfl := Option.some.inj (show some _ = some o from ho)
      have e1 : a.eval (.tmp 23) = val g 17 := ev_at (hI.pu 17 (by decide) rfl (hd ⟨17, .data⟩ (by simp) rfl))
      exact wp_val_in rfl (val g 18) (ex_idx4 _ rfl e1) (hK' _ _ (hI.pure (by decide) rfl))
    · obtain rfl := Option.some.inj (show some _ = some o from ho)
      have e1 : a.eval (.tmp 24) = val g 18 := ev_at (hI.pu 18 (by decide) rfl (hd ⟨18, .data⟩ (by simp) rfl))
      obtain ⟨γ, k1, k2, k3⟩ := hI.ma
      have hm : on s 6 := hd ⟨6, .data⟩ (by simp) rfl
      obtain ⟨q1, -, -⟩ := k1 6 (by decide) rfl hm
      have hc : W.cell? ⟨g, 5, none⟩ = some (cellOf s 19 (sl (γ 6) 64)) := by rw [k3.cell]; rfl
      exact RelI.wp_skip_in rfl rfl (ex_store _ _ rfl e1 (ev_at q1) hc (k3.frozen _)) (hK' _ _ (hI.store19 hm q1))
    · obtain rfl := Option.some.inj (show some _ = some o from ho)
      have e1 : a.eval (.tmp 11) = val g 3 := ev_at (hI.pu 3 (by decide) rfl (hd ⟨3, .data⟩ (by simp) rfl))
      exact wp_val_in rfl (val g 20) (ex_nil _ rfl e1) (hK' _ _ (hI.pure (by decide) rfl))
    · obtain rfl := Option.some.inj (show some _ = some o from ho)
      have e1 : a.eval (.tmp 25) = val g 20 := ev_at (hI.pu 20 (by decide) rfl (hd ⟨20, .data⟩ (by simp) rfl))
      exact wp_val_in rfl (val g 21) (ex_field _ rfl e1) (hK' _ _ (hI.pure (by decide) rfl))
    · obtain rfl := Option.some.inj (show some _ = some o from ho)
      have e1 : a.eval (.tmp 26) = val g 21 := ev_at (hI.pu 21 (by decide) rfl (hd ⟨21, .data⟩ (by simp) rfl))
      exact wp_val_in rfl (val g 22) (ex_idx5 _ rfl e1) (hK' _ _ (hI.pure (by decide) rfl))
    · obtain rfl := Option.some.inj (show some _ = some o from ho)
      have e1 : a.eval (.tmp 27) = val g 22 := ev_at (hI.pu 22 (by decide) rfl (hd ⟨22, .data⟩ (by simp) rfl))
      obtain ⟨γ, k1, k2, k3⟩ := hI.ma
      have hm : on s 7 := hd ⟨7, .data⟩ (by simp) rfl
      obtain ⟨q1, -, -⟩ := k1 7 (by decide) rfl hm
      have hc : W.cell? ⟨g, 6, none⟩ = some (cellOf s 23 (sl (γ 7) 256)) := by rw [k3.cell]; rfl
      exact RelI.wp_skip_in rfl rfl (ex_store _ _ rfl e1 (ev_at q1) hc (k3.frozen _)) (hK' _ _ (hI.store23 hm q1))
end M18
end Go.Proofs.YtmiaabpnolebhaaGreatDoor

/-
  The reference's memory (curtilageref18): what New hands back. 
-/
namespace Go.Proofs.YtmiaabpnolebhaaGreatDoor
open Go.RowKit

namespace Core
open Otp Sha R1 Spc Fla
def z4k : List Nat := List.replicate 4096 0
def z64 : List Nat := List.replicate 64 0
def z256 : List Nat := List.replicate 256 0
/-- The reference's memory, all of it. -/
structure Mf (w : World) (m b1 b2 b3 b4 b5 : Nat) (st : Int) (l1 l2 l3 l4 l5 : List Nat) : Prop where
  k : Blk w m 143 (M18.mB st (M18.sl b1 4096) (M18.sl b2 4096) (M18.sl b3 10240) (M18.sl b4 64) (M18.sl b5 256) false)
  k1 : Blk w b1 5 (b8 l1)
  k2 : Blk w b2 5 (b8 l2)
  k3 : Blk w b3 5 (b8 l3)
  k4 : Blk w b4 5 (b8 l4)
  k5 : Blk w b5 5 (b8 l5)
  n1 : l1.length = 4096 ∧ ∀ x ∈ l1, x < 256
  n2 : l2.length = 4096 ∧ ∀ x ∈ l2, x < 256
  n3 : l3.length = 10240 ∧ ∀ x ∈ l3, x < 256
  n4 : l4.length = 64 ∧ ∀ x ∈ l4, x < 256
  n5 : l5.length = 256 ∧ ∀ x ∈ l5, x < 256
  nd : (b1 ≠ m ∧ b2 ≠ m ∧ b3 ≠ m ∧ b4 ≠ m ∧ b5 ≠ m) ∧ (b1 ≠ b2 ∧ b1 ≠ b3 ∧ b1 ≠ b4 ∧ b1 ≠ b5) ∧ (b2 ≠ b3 ∧ b2 ≠ b4 ∧ b2 ≠ b5) ∧ (b3 ≠ b4 ∧ b3 ≠ b5) ∧ b4 ≠ b5
theorem Mf.old {w w' : World} {m b1 b2 b3 b4 b5 : Nat} {st : Int} {l1 l2 l3 l4 l5 : List Nat} (h : Mf w m b1 b2 b3 b4 b5 st l1 l2 l3 l4 l5) (hb : Below w.heap.size w w') : Mf w' m b1 b2 b3 b4 b5 st l1 l2 l3 l4 l5 :=
  ⟨h.k.next hb rfl, h.k1.next hb rfl, h.k2.next hb rfl, h.k3.next hb rfl, h.k4.next hb rfl, h.k5.next hb rfl, h.n1, h.n2, h.n3, h.n4, h.n5, h.nd⟩
theorem Mf.frm {S : List Nat} {w w' : World} {m b1 b2 b3 b4 b5 : Nat} {st : Int} {l1 l2 l3 l4 l5 : List Nat} (h : Mf w m b1 b2 b3 b4 b5 st l1 l2 l3 l4 l5) (hf : Frm S w w') (hm : m ∉ S) (h1 : b1 ∉ S) (h2 : b2 ∉ S) (h3 : b3 ∉ S) (h4 : b4 ∉ S) (h5 : b5 ∉ S) : Mf w' m b1 b2 b3 b4 b5 st l1 l2 l3 l4 l5 :=
  ⟨h.k.frm hf hm, h.k1.frm hf h1, h.k2.frm hf h2, h.k3.frm hf h3, h.k4.frm hf h4, h.k5.frm hf h5, h.n1, h.n2, h.n3, h.n4, h.n5, h.nd⟩
theorem Mf.mm {w : World} {m b1 b2 b3 b4 b5 : Nat} {st : Int} {l1 l2 l3 l4 l5 : List Nat} (h : Mf w m b1 b2 b3 b4 b5 st l1 l2 l3 l4 l5) : Mm w m b1 b2 b4 l1 l2 l4 :=
  ⟨by rw [h.k.cell]; rfl, by rw [h.k.cell]; rfl, by rw [h.k.cell]; rfl, h.k1, h.k2, h.k4, h.n1, h.n2, h.n4, h.k.lt⟩
structure Ms (w : World) (B m b1 b2 b4 : Nat) (l1 : List Nat) (st : Int) : Prop where
  mm : Mm w m b1 b2 b4 l1 z4k z64
  hm : B ≤ m
  h1 : B ≤ b1
  h2 : B ≤ b2
  h4 : B ≤ b4
  n12 : b1 ≠ b2
  n14 : b1 ≠ b4
  n1m : b1 ≠ m
  full : ∃ b3 b5, Mf w m b1 b2 b3 b4 b5 st l1 z4k erased z64 z256 ∧ B ≤ b3 ∧ B ≤ b5
theorem Ms.old {w w' : World} {B m b1 b2 b4 : Nat} {l1 : List Nat} {st : Int} (h : Ms w B m b1 b2 b4 l1 st) (hb : Below w.heap.size w w') : Ms w' B m b1 b2 b4 l1 st := ⟨h.mm.old hb, h.hm, h.h1, h.h2, h.h4, h.n12, h.n14, h.n1m, by obtain ⟨b3, b5, hf, h3, h5⟩ := h.full; exact ⟨b3, b5, hf.old hb, h3, h5⟩⟩
theorem cell_frm {S : List Nat} {w w' : World} {m i : Nat} {v : Value} (h : w.cell? ⟨m, i, none⟩ = some v) (hf : Frm S w w') (hm : m < w.heap.size) (hS : m ∉ S) : w'.cell? ⟨m, i, none⟩ = some v := by
  have h2 := range_frm (S := S) (g := m) (o := i) (l := [v]) (w := w) (w' := w') (fun j x hx => by
    cases j with
    | zero => cases hx; exact h
    | succ j => cases hx) hf hm hS 0 v rfl
  exact h2
theorem Mm.frm {S : List Nat} {w w' : World} {m b1 b2 b4 : Nat} {l1 l2 l4 : List Nat} (h : Mm w m b1 b2 b4 l1 l2 l4) (hf : Frm S w w') (hm : m ∉ S) (h1 : b1 ∉ S) (h2 : b2 ∉ S) (h4 : b4 ∉ S) : Mm w' m b1 b2 b4 l1 l2 l4 :=
  ⟨cell_frm h.c1 hf h.lt hm, cell_frm h.c2 hf h.lt hm, cell_frm h.c4 hf h.lt hm, h.k1.frm hf h1, h.k2.frm hf h2, h.k4.frm hf h4, h.n1, h.n2, h.n4, Nat.lt_of_lt_of_le h.lt hf.size⟩
theorem Ms.frm {w w' : World} {B m b1 b2 b4 g : Nat} {l1 : List Nat} {st : Int} (h : Ms w B m b1 b2 b4 l1 st) (hf : Frm [g] w w') (hg : g < B) : Ms w' B m b1 b2 b4 l1 st := by
  have e0 := h.hm
  have e1 := h.h1
  have e2 := h.h2
  have e4 := h.h4
  refine ⟨h.mm.frm hf (by simp; omega) (by simp; omega) (by simp; omega) (by simp; omega), h.hm, h.h1, h.h2, h.h4, h.n12, h.n14, h.n1m, ?_⟩
  obtain ⟨b3, b5, hF, h3, h5⟩ := h.full
  exact ⟨b3, b5, hF.frm hf (by simp; omega) (by simp; omega) (by simp; omega) (by simp; omega) (by simp; omega) (by simp; omega), h3, h5⟩
theorem nats_frm' {k : IntKind} {M : Nat} {w w' : World} {A : Option Addr} {l : List Nat} {S : List Nat} (h : Nats k M w w.heap.size A l) (hf : Frm S w w') (hS : ∀ ad : Addr, A = some ad → ad.block ∉ S) : Nats k M w' w'.heap.size A l := fun i z hz => by
  obtain ⟨h1, b, off, rfl, h3, h4⟩ := h i z hz
  exact ⟨h1, b, off, rfl, Nat.lt_of_lt_of_le h3 hf.size, cell_frm h4 hf h3 (hS _ rfl)⟩
theorem b8_set' (l : List Nat) (i x : Nat) : (b8 l).setIfInBounds i (.int .u8 (x : Int)) = b8 (l.set i x) := by
  simp [b8, List.map_set]
theorem splice_snoc {l p : List Nat} {i x : Nat} (h : p[i]? = some x) (hl : p.length ≤ l.length) : (splice l 0 (p.take i)).set i x = splice l 0 (p.take (i + 1)) := by
  have hi : i < p.length := (List.getElem?_eq_some_iff.1 h).1
  have e1 : (p.take i).length = i := by rw [List.length_take]; omega
  have e2 : (p.take (i + 1)).length = i + 1 := by rw [List.length_take]; omega
  unfold splice
  rw [List.take_zero, List.nil_append, List.nil_append, e1, e2, take_snoc h, List.set_append_right _ _ (by rw [e1]; exact Nat.le_refl _), e1, Nat.sub_self, Nat.zero_add, Nat.zero_add, List.append_assoc]
  congr 1
  rw [List.drop_eq_getElem_cons (by omega)]
  rfl
theorem put_ok {l : List Nat} {n i x : Nat} (h : l.length = n ∧ ∀ y ∈ l, y < 256) (hx : x < 256) : (l.set i x).length = n ∧ ∀ y ∈ l.set i x, y < 256 := ⟨by rw [List.length_set]; exact h.1, fun y hy => (List.mem_or_eq_of_mem_set hy).elim (h.2 y) (fun e => by rw [e]; exact hx)⟩
theorem Mf.put1 {w : World} {m b1 b2 b3 b4 b5 : Nat} {st : Int} {l1 l2 l3 l4 l5 : List Nat} (h : Mf w m b1 b2 b3 b4 b5 st l1 l2 l3 l4 l5) (i x : Nat) (hx : x < 256) : Mf (w.setCell ⟨b1, i, none⟩ (.int .u8 (x : Int))) m b1 b2 b3 b4 b5 st (l1.set i x) l2 l3 l4 l5 := by
  have hk := h.k1.set i (.int .u8 (x : Int))
  rw [b8_set'] at hk
  obtain ⟨⟨n1, n2, n3, n4, n5⟩, ⟨n6, n7, n8, n9⟩, -, -, -⟩ := h.nd
  exact ⟨h.k.far' _ _ (by simp; omega) _, hk, h.k2.far' _ _ (by simp; omega) _, h.k3.far' _ _ (by simp; omega) _, h.k4.far' _ _ (by simp; omega) _, h.k5.far' _ _ (by simp; omega) _, put_ok h.n1 hx, h.n2, h.n3, h.n4, h.n5, h.nd⟩
theorem Mf.put2 {w : World} {m b1 b2 b3 b4 b5 : Nat} {st : Int} {l1 l2 l3 l4 l5 : List Nat} (h : Mf w m b1 b2 b3 b4 b5 st l1 l2 l3 l4 l5) (i x : Nat) (hx : x < 256) : Mf (w.setCell ⟨b2, i, none⟩ (.int .u8 (x : Int))) m b1 b2 b3 b4 b5 st l1 (l2.set i x) l3 l4 l5 := by
  have hk := h.k2.set i (.int .u8 (x : Int))
  rw [b8_set'] at hk
  obtain ⟨⟨n1, n2, n3, n4, n5⟩, ⟨n6, n7, n8, n9⟩, ⟨n10, n11, n12⟩, -, -⟩ := h.nd
  exact ⟨h.k.far' _ _ (by simp; omega) _, h.k1.far' _ _ (by simp; omega) _, hk, h.k3.far' _ _ (by simp; omega) _, h.k4.far' _ _ (by simp; omega) _, h.k5.far' _ _ (by simp; omega) _, h.n1, put_ok h.n2 hx, h.n3, h.n4, h.n5, h.nd⟩
theorem Mf.put4 {w : World} {m b1 b2 b3 b4 b5 : Nat} {st : Int} {l1 l2 l3 l4 l5 : List Nat} (h : Mf w m b1 b2 b3 b4 b5 st l1 l2 l3 l4 l5) (i x : Nat) (hx : x < 256) : Mf (w.setCell ⟨b4, i, none⟩ (.int .u8 (x : Int))) m b1 b2 b3 b4 b5 st l1 l2 l3 (l4.set i x) l5 := by
  have hk := h.k4.set i (.int .u8 (x : Int))
  rw [b8_set'] at hk
  obtain ⟨⟨n1, n2, n3, n4, n5⟩, ⟨n6, n7, n8, n9⟩, ⟨n10, n11, n12⟩, ⟨n13, n14⟩, n15⟩ := h.nd
  exact ⟨h.k.far' _ _ (by simp; omega) _, h.k1.far' _ _ (by simp; omega) _, h.k2.far' _ _ (by simp; omega) _, h.k3.far' _ _ (by simp; omega) _, hk, h.k5.far' _ _ (by simp; omega) _, h.n1, h.n2, h.n3, put_ok h.n4 hx, h.n5, h.nd⟩
theorem Ms.put {w : World} {B m b1 b2 b4 : Nat} {l1 : List Nat} {st : Int} (h : Ms w B m b1 b2 b4 l1 st) (i x : Nat) (hx : x < 256) : Ms (w.setCell ⟨b1, i, none⟩ (.int .u8 (x : Int))) B m b1 b2 b4 (l1.set i x) st := by
  obtain ⟨b3, b5, hF, h3, h5⟩ := h.full
  have hp := hF.put1 i x hx
  exact ⟨hp.mm, h.hm, h.h1, h.h2, h.h4, h.n12, h.n14, h.n1m, b3, b5, hp, h3, h5⟩
def NewMs (st : Int) (w : World) (e : Ending) (w' : World) : Prop := ∃ m b1 b2 b4, e = .returned (.pointer (some ⟨m, 0, none⟩)) ∧ Ms w' w.heap.size m b1 b2 b4 z4k st ∧ Below w.heap.size w w'
theorem rep_ok (n : Nat) : (List.replicate n 0).length = n ∧ ∀ x ∈ List.replicate n 0, x < 256 := ⟨List.length_replicate, fun x hx => by rw [List.eq_of_mem_replicate hx]; decide⟩
theorem mem_new (st : Int) (w : World) : Calls Tryz.prog 89 #[.int .i64 st] w (NewMs st w) := by
  refine (M18.new_any st w).mono ?_
  rintro e w' ⟨g, b1, b2, b3, b4, b5, rfl, h, hB⟩
  obtain ⟨⟨q1, q2, q3, q4, q5⟩, q6, q7, q8, q9⟩ := And.intro h.ng h.n3
  have hF : Mf w' g b1 b2 b3 b4 b5 st z4k z4k erased z64 z256 := ⟨h.r.k, h.r.k1, h.r.k2, h.k3, h.r.k4, h.r.k5, rep_ok _, rep_ok _, ⟨List.length_replicate, fun x hx => by rw [List.eq_of_mem_replicate hx]; decide⟩, rep_ok _, rep_ok _, ⟨q1, q2, q3, q4, q5⟩, ⟨h.r.n12, q6, h.r.n14, h.r.n15⟩, ⟨q7, h.r.n24, h.r.n25⟩, ⟨fun e => q8 e.symm, fun e => q9 e.symm⟩, h.r.n45⟩
  exact ⟨g, b1, b2, b4, rfl, ⟨hF.mm, h.hg, h.r.h1, h.r.h2, h.r.h4, h.r.n12, h.r.n14, q1, b3, b5, hF, h.h3, h.r.h5⟩, hB⟩
end Core
end Go.Proofs.YtmiaabpnolebhaaGreatDoor
