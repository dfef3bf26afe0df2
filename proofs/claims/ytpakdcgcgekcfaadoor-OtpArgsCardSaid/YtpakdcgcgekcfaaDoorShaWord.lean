/-
  sha.word, sha.Words: bytes as words.
-/
import Derived.Test.YtpakdcgcgekcfaaDoorProg
import Derived.Test.YtpakdcgcgekcfaaDoorMem
import Derived.Test.YtpakdcgcgekcfaaDoorNext
import Derived.Test.YtpakdcgcgekcfaaDoorBytes
import Derived.Test.YtpakdcgcgekcfaaDoorOtpNum
import Derived.Test.YtpakdcgcgekcfaaDoorOtpTo
import Derived.BigQuiet
import Derived.Laws.Rows
import Derived.Deep.QuietTactic
import Derived.Deep.LoopGhost
namespace Go.Proofs.YtpakdcgcgekcfaaDoor
open Go.RowKit

namespace Otp
open Fuse
/-- Bytes as cells. -/
def b8 (l : List Nat) : Array Value := (l.map fun x => Value.int .u8 ((x : Nat) : Int)).toArray
theorem b8_at {l : List Nat} {i x : Nat} (h : l[i]? = some x) : (b8 l)[i]? = some (.int .u8 (x : Int)) := by simp [b8, h]
theorem nats_b8 {w : World} {L : Nat} {t : TypeId} {l : List Nat} (h : Blk w L t (b8 l)) (hw : ∀ x ∈ l, x < 256) : Nats .u8 256 w w.heap.size (some ⟨L, 0, none⟩) l := fun i z hz =>
  ⟨hw z (List.mem_of_getElem? hz), L, 0, rfl, h.lt, by rw [Nat.zero_add, h.cell, b8_at hz]⟩
set_option maxHeartbeats 1000000 in
theorem word_any (g off : Nat) (cap : Nat) (a b c d : Nat) (w : World) (ha : a < 256) (hb : b < 256) (hc : c < 256) (hd : d < 256)
    (h0 : w.cell? ⟨g, off, none⟩ = some (.int .u8 (a : Int))) (h1 : w.cell? ⟨g, off + 1, none⟩ = some (.int .u8 (b : Int))) (h2 : w.cell? ⟨g, off + 2, none⟩ = some (.int .u8 (c : Int))) (h3 : w.cell? ⟨g, off + 3, none⟩ = some (.int .u8 (d : Int))) :
    Calls Tryd.prog 99 #[.slice (some ⟨g, off, none⟩) 4 cap] w fun e w' => e = .returned (.int .u32 ((be4 a b c d : Nat) : Int)) ∧ ∃ n, w' = w.drewN n := by
  have HO := Lib.hid (u32_be4 ha hb hc hd)
  go_enter Tryd.func99, Tryd.ntmps99
  go_wp2_with fail
  go_quiet (fail)
  go_wp2_with fail
  go_light
  go_ret
  exact ⟨by rw [← HO.out]; rfl, _, rfl⟩
def WordsArr (w : World) (l : List Nat) (e : Ending) (w' : World) : Prop := e = .returned (.agg (c32 l)) ∧ Below w.heap.size w w'
theorem eight {l : List Nat} (h : l.length = 8) : ∃ a b c d e f g k, l = [a, b, c, d, e, f, g, k] := by
  match l, h with
  | [a, b, c, d, e, f, g, k], _ => exact ⟨a, b, c, d, e, f, g, k, rfl⟩
set_option maxRecDepth 100000 in
set_option maxHeartbeats 4000000 in
theorem words_arr (ds : List Nat) (w : World) (hl : ds.length = 32) (hd : ∀ x ∈ ds, x < 256) :
    Calls Tryd.prog 69 #[.agg (b8 ds)] w (WordsArr w (words4 ds)) := by
  have HL := Lib.hid hl
  have HD := Lib.hid hd
  clear hl hd
  go_enter Tryd.func69, Tryd.ntmps69
  go_wp2_with fail
  go_loopg [4, 5] 8 (fun g s4 s5 wr => ∃ (i : Nat) (cur : List Nat), i + g = 8 ∧ s5 = .int .i64 (i : Int) ∧ cur.length = 8 ∧ Hid (∀ j, j < i → cur[j]? = (words4 ds)[j]?) ∧ Hid (Blk wr w.heap.size 23 (b8 ds)) ∧ Hid (Blk wr (w.heap.size + 1) 118 (c32 [0, 0, 0, 0, 0, 0, 0, 0])) ∧ Hid (Blk wr (w.heap.size + 1 + 1) 118 (c32 cur)) ∧ Hid (Below w.heap.size w wr))
  case atStart =>
    refine ⟨0, [0, 0, 0, 0, 0, 0, 0, 0], by omega, rfl, rfl, Lib.hid (fun j hj => absurd hj (by omega)), Lib.hid ?_, Lib.hid ?_, Lib.hid ?_, Lib.hid ?_⟩
    · exact ((Blk.new w _ _).alloc _).alloc _
    · exact Blk.alloc (blk_new' (by simp)) _
    · exact blk_new' (by simp)
    · exact (((Below.refl _ w).alloc (Nat.le_refl _) _).alloc (by simp) _).alloc (by simp; omega) _
  case round =>
    obtain ⟨i, cur, hg, rfl, hcl, HC, HK, HZ, HW, HB⟩ := hrel
    have HG := Lib.hid hg
    have hi : i ≤ 8 := by omega
    have HCL := Lib.hid hcl
    clear hg hcl
    by_cases hlt : i < 8
    · have hx : ∀ j, j < 4 → ∃ x, ds[4 * i + j]? = some x := fun j hj => ⟨_, List.getElem?_eq_getElem (by have := HL.out; omega)⟩
      obtain ⟨x0, h0⟩ := hx 0 (by omega)
      obtain ⟨x1, h1⟩ := hx 1 (by omega)
      obtain ⟨x2, h2⟩ := hx 2 (by omega)
      obtain ⟨x3, h3⟩ := hx 3 (by omega)
      have g0 : wr.cell? ⟨w.heap.size, 4 * i, none⟩ = some (.int .u8 (x0 : Int)) := by rw [HK.out.cell]; exact b8_at h0
      have g1 : wr.cell? ⟨w.heap.size, 4 * i + 1, none⟩ = some (.int .u8 (x1 : Int)) := by rw [HK.out.cell]; exact b8_at h1
      have g2 : wr.cell? ⟨w.heap.size, 4 * i + 2, none⟩ = some (.int .u8 (x2 : Int)) := by rw [HK.out.cell]; exact b8_at h2
      have g3 : wr.cell? ⟨w.heap.size, 4 * i + 3, none⟩ = some (.int .u8 (x3 : Int)) := by rw [HK.out.cell]; exact b8_at h3
      have G0 := Lib.hid g0
      have G1 := Lib.hid g1
      have G2 := Lib.hid g2
      have G3 := Lib.hid g3
      have b0 := HD.out x0 (List.mem_of_getElem? h0)
      have b1 := HD.out x1 (List.mem_of_getElem? h1)
      have b2 := HD.out x2 (List.mem_of_getElem? h2)
      have b3 := HD.out x3 (List.mem_of_getElem? h3)
      have HX := Lib.hid (words4_get ds i x0 x1 x2 x3 h0 h1 h2 h3)
      obtain ⟨old, ho⟩ : ∃ old, cur[i]? = some old := ⟨_, List.getElem?_eq_getElem (by have := HCL.out; omega)⟩
      have hold : wr.cell? ⟨w.heap.size + 1 + 1, i, none⟩ = some (.int .u32 (old : Int)) := by rw [HW.out.cell, c32_at ho]
      have hfr : wr.frozen? ⟨w.heap.size + 1 + 1, i, none⟩ = false := HW.out.frozen i
      have hsz := HW.out.lt
      have hsl := run_slice_arr (P := Tryd.prog) 23 5 32 Tryd.underlying23 (fun _ => by kernel_rfl) w.heap.size (4 * i) (4 * i + 4) .i64 .i64 (4 * (i : Int)) (4 * (i : Int) + 4) (by omega) (by omega) (by omega) (by omega) (by omega)
      rw [show 4 * i + 4 - 4 * i = 4 by omega] at hsl
      clear hx h0 h1 h2 h3 g0 g1 g2 g3 ho
      go_wp2_with fail
      (with_reducible refine (word_any _ _ _ x0 x1 x2 x3 _ b0 b1 b2 b3 G0.out G1.out G2.out G3.out).mono ?_); rintro e w2 ⟨rfl, n, rfl⟩
      generalize be4 x0 x1 x2 x3 = y at *
      go_wp2_with fail
      go_light
      go_roundg (8 - (i + 1))
      case measure => have := HG.out; omega
      case rel =>
        refine ⟨i + 1, cur.set i y, by omega, by go_num, by rw [List.length_set]; exact HCL.out, Lib.hid (fun j hj => ?_), Lib.hid ?_, Lib.hid ?_, Lib.hid ?_, Lib.hid ?_⟩
        · by_cases hji : j = i
          · subst hji
            rw [List.getElem?_set_self (by have := HCL.out; omega), HX.out]
          · rw [List.getElem?_set_ne (fun h => hji h.symm)]
            exact HC.out j (by omega)
        · exact (HK.out.far' _ _ (by omega) _)
        · exact (HZ.out.far' _ _ (by omega) _)
        · have := HW.out.set i (.int .u32 (y : Int))
          rw [c32_set] at this
          exact this
        · exact Below.drewN (HB.out.setCell (p := ⟨w.heap.size + 1 + 1, i, none⟩) (by show w.heap.size ≤ w.heap.size + 1 + 1; omega) _) n
    · have : i = 8 := by omega
      subst this
      have e : cur = words4 ds := by
        apply List.ext_getElem?
        intro j
        by_cases hj : j < 8
        · exact HC.out j hj
        · rw [List.getElem?_eq_none (by have := HCL.out; omega), List.getElem?_eq_none (by rw [words4_length]; have := HL.out; omega)]
      have HE := Lib.hid e.symm
      obtain ⟨y0, y1, y2, y3, y4, y5, y6, y7, rfl⟩ := eight HCL.out
      have c0 : wr.cell? ⟨w.heap.size + 1 + 1, 0, none⟩ = some (.int .u32 (y0 : Int)) := by rw [HW.out.cell]; rfl
      have c1 : wr.cell? ⟨w.heap.size + 1 + 1, 1, none⟩ = some (.int .u32 (y1 : Int)) := by rw [HW.out.cell]; rfl
      have c2 : wr.cell? ⟨w.heap.size + 1 + 1, 2, none⟩ = some (.int .u32 (y2 : Int)) := by rw [HW.out.cell]; rfl
      have c3 : wr.cell? ⟨w.heap.size + 1 + 1, 3, none⟩ = some (.int .u32 (y3 : Int)) := by rw [HW.out.cell]; rfl
      have c4 : wr.cell? ⟨w.heap.size + 1 + 1, 4, none⟩ = some (.int .u32 (y4 : Int)) := by rw [HW.out.cell]; rfl
      have c5 : wr.cell? ⟨w.heap.size + 1 + 1, 5, none⟩ = some (.int .u32 (y5 : Int)) := by rw [HW.out.cell]; rfl
      have c6 : wr.cell? ⟨w.heap.size + 1 + 1, 6, none⟩ = some (.int .u32 (y6 : Int)) := by rw [HW.out.cell]; rfl
      have c7 : wr.cell? ⟨w.heap.size + 1 + 1, 7, none⟩ = some (.int .u32 (y7 : Int)) := by rw [HW.out.cell]; rfl
      have z0 : wr.cell? ⟨w.heap.size + 1, 0, none⟩ = some (.int .u32 0) := by rw [HZ.out.cell]; rfl
      have z1 : wr.cell? ⟨w.heap.size + 1, 1, none⟩ = some (.int .u32 0) := by rw [HZ.out.cell]; rfl
      have z2 : wr.cell? ⟨w.heap.size + 1, 2, none⟩ = some (.int .u32 0) := by rw [HZ.out.cell]; rfl
      have z3 : wr.cell? ⟨w.heap.size + 1, 3, none⟩ = some (.int .u32 0) := by rw [HZ.out.cell]; rfl
      have z4 : wr.cell? ⟨w.heap.size + 1, 4, none⟩ = some (.int .u32 0) := by rw [HZ.out.cell]; rfl
      have z5 : wr.cell? ⟨w.heap.size + 1, 5, none⟩ = some (.int .u32 0) := by rw [HZ.out.cell]; rfl
      have z6 : wr.cell? ⟨w.heap.size + 1, 6, none⟩ = some (.int .u32 0) := by rw [HZ.out.cell]; rfl
      have z7 : wr.cell? ⟨w.heap.size + 1, 7, none⟩ = some (.int .u32 0) := by rw [HZ.out.cell]; rfl
      have hz := HZ.out.frozen
      have hzl := HZ.out.lt
      have hwl := HW.out.lt
      clear e
      go_wp2_with fail
      have hb : Blk _ _ _ _ := (((((((HZ.out.set 0 (.int .u32 (y0 : Int))).set 1 (.int .u32 (y1 : Int))).set 2 (.int .u32 (y2 : Int))).set 3 (.int .u32 (y3 : Int))).set 4 (.int .u32 (y4 : Int))).set 5 (.int .u32 (y5 : Int))).set 6 (.int .u32 (y6 : Int))).set 7 (.int .u32 (y7 : Int))
      have hB : Below w.heap.size w _ := (((((((HB.out.setCell (p := ⟨w.heap.size + 1, 0, none⟩) (by simp) (.int .u32 (y0 : Int))).setCell (p := ⟨w.heap.size + 1, 1, none⟩) (by simp) (.int .u32 (y1 : Int))).setCell (p := ⟨w.heap.size + 1, 2, none⟩) (by simp) (.int .u32 (y2 : Int))).setCell (p := ⟨w.heap.size + 1, 3, none⟩) (by simp) (.int .u32 (y3 : Int))).setCell (p := ⟨w.heap.size + 1, 4, none⟩) (by simp) (.int .u32 (y4 : Int))).setCell (p := ⟨w.heap.size + 1, 5, none⟩) (by simp) (.int .u32 (y5 : Int))).setCell (p := ⟨w.heap.size + 1, 6, none⟩) (by simp) (.int .u32 (y6 : Int))).setCell (p := ⟨w.heap.size + 1, 7, none⟩) (by simp) (.int .u32 (y7 : Int))
      go_light
      exact bodyPost_ret (v := .agg (c32 [y0, y1, y2, y3, y4, y5, y6, y7])) (results_cell_row Tryd.results69 _ _ (w.heap.size + 1) 118 (c32 [y0, y1, y2, y3, y4, y5, y6, y7]) (0, 0) _ rfl hb Tryd.underlying118 rfl (by kernel_rfl)) rfl ⟨by rw [HE.out], hB⟩
end Otp
end Go.Proofs.YtpakdcgcgekcfaaDoor
