/-
  Package otp: a nil chip.
-/
import Derived.Test.YtpakdcgcgekcfaaDoorProg
import Derived.Test.YtpakdcgcgekcfaaDoorMem
import Derived.Test.YtpakdcgcgekcfaaDoorNext
import Derived.Test.YtpakdcgcgekcfaaDoorOtpOct
import Derived.Test.YtpakdcgcgekcfaaDoorOtpLife
import Derived.Test.YtpakdcgcgekcfaaDoorOtpCtr
import Derived.Test.YtpakdcgcgekcfaaDoorOtpTo
import Derived.Test.YtpakdcgcgekcfaaDoorOtpRowP
import Derived.Test.YtpakdcgcgekcfaaDoorOtpRows
import Derived.Test.YtpakdcgcgekcfaaDoorOtpActV
import Derived.Deep.LoopGhost
import Derived.Deep.MidRow
import Derived.Laws.Rows
import Derived.Laws.CopyOwn
import Derived.Laws.ResultCell
namespace Go.Proofs.YtpakdcgcgekcfaaDoor
open Go.RowKit

namespace Otp
open Fuse R1
theorem made_zero (n : Nat) (k : IntKind) : madeCells (Value.int k 0).cells n = ((List.replicate n 0).map fun x => Value.int k ((x : Nat) : Int)).toArray := by
  apply Array.ext_getElem?
  intro i
  by_cases hi : i < n
  · rw [made_get (Value.int k 0).cells n i hi (show 0 < (Value.int k 0).cells.size by simp [Value.cells])]
    simp [Value.cells, hi, Nat.mod_one]
  · rw [Array.getElem?_eq_none (by simp [madeCells]; omega), Array.getElem?_eq_none (by simp; omega)]
theorem madeZ : madeCells (Value.int .u32 0).cells 64 = c32 z64 := made_zero 64 .u32
theorem own_z64 {w : World} {B g : Nat} (h : Blk w g 43 (c32 z64)) (hB : B ≤ g) : Own32 w B (.slice (some ⟨g, 0, none⟩) 64 64) z64 := by
  refine ⟨by simp [z64], .inr ⟨g, 64, c32 z64, rfl, hB, h, Nat.le_refl _, by simp [maxLen], rfl, ?_⟩⟩
  rfl
set_option maxRecDepth 100000 in
set_option maxHeartbeats 1000000 in
theorem all_nil (w : World) : Calls Tryd.prog 68 #[.pointer none] w (WordsOut w z64) := by
  obtain ⟨i0, hi0, hz0, hz1, hz2⟩ := info_row u32_info
  have hmk := fun W => run_make_rowN (P := Tryd.prog) 37 43 i0 _ Tryd.underlying37 hi0 hz0 .i64 .i64 64 64 (Nat.le_refl _) (by rw [hz2]; omega) (by omega) W
  rw [hz1] at hmk
  simp only [Nat.mul_one] at hmk
  simp only [madeZ] at hmk
  have hmk' : ∀ W : World, (Instr.makeSlice 37 (.int .i64 64) (.int .i64 64)).run Tryd.prog W = .ok (.slice (some ⟨W.heap.size, 0, none⟩) 64 64) (W.alloc (.cells (c32 z64) 43)) := hmk
  clear hmk
  have HO := Lib.hid (own_z64 (Blk.new w 43 (c32 z64)) (Nat.le_refl _))
  generalize c32 z64 = C at *
  clear hi0 hz0 hz1 hz2
  go_enter Tryd.func68, Tryd.ntmps68
  go_wp2_with fail
  go_light
  go_ret
  exact ⟨_, rfl, HO.out, (Below.refl _ w).alloc (Nat.le_refl _) _⟩
set_option maxHeartbeats 1000000 in
theorem life_nil (w : World) : Calls Tryd.prog 26 #[.pointer none] w
    fun e w' => e = .returned (.int .i64 ((life z64 : Nat) : Int)) ∧ Below w.heap.size w w' := by
  obtain ⟨x, hx⟩ : ∃ x, z64[0]? = some x := ⟨_, List.getElem?_eq_getElem (by decide)⟩
  have hxM := z64_word _ _ hx
  have hlf : life z64 = lifeN x 4 := by simp [life, hx]
  rw [hlf]
  have HX := Lib.hid hx
  clear hlf hx
  go_enter Tryd.func26, Tryd.ntmps26
  go_wp2_with fail
  go_loopg [3, 5] 4 (fun g s3 s5 wr => ∃ i : Nat, i + g = 4 ∧ s5 = .int .i64 (i : Int) ∧ s3 = .int .i64 ((lifeN x i : Nat) : Int) ∧ Below w.heap.size w wr)
  case atStart => exact ⟨0, by omega, rfl, rfl, Below.refl _ _⟩
  case round =>
    obtain ⟨i, hg, rfl, rfl, hB⟩ := hrel
    have HG := Lib.hid hg
    have hig : i ≤ 4 := by omega
    have HB := Lib.hid hB
    clear hg hB
    have hle := lifeN_le x i
    by_cases hlt : i < 4
    · go_wp2_with fail
      (with_reducible refine (all_nil _).mono ?_); rintro e w1 ⟨v, rfl, hO, hB⟩
      obtain ⟨A1, cp, rfl, hc1, hc2, -⟩ := hO.form z64_word
      obtain ⟨g1, rfl, hg1, hg2, hco, -⟩ := hO.at_ HX.out
      have hvl : z64.length = 64 := rfl
      rw [hvl] at hc1 ⊢
      have hB1 := below_then HB.out hB (Nat.le_refl _)
      have HB1 := Lib.hid hB1
      clear hB1 hB hO
      go_wp2_with fail
      (with_reducible refine (on_any _ _ x i _ rfl rfl hxM hlt).mono ?_); rintro e w2 ⟨rfl, rfl⟩
      have HS := Lib.hid (show lifeN x (i + 1) = if onB x i = true then i + 1 else lifeN x i from rfl)
      generalize onB x i = o at *
      cases o with
      | true =>
        go_wp2_with fail
        go_light
        go_roundg (4 - (i + 1))
        case measure => have := HG.out; omega
        case rel => exact ⟨i + 1, by omega, by go_num, by rw [HS.out]; go_num, HB1.out⟩
      | false =>
        go_wp2_with fail
        go_light
        go_roundg (4 - (i + 1))
        case measure => have := HG.out; omega
        case rel => exact ⟨i + 1, by omega, by go_num, by rw [HS.out]; rfl, HB1.out⟩
    · have : i = 4 := by omega
      subst this
      go_wp2_with fail
      go_light
      go_ret
      exact ⟨rfl, HB.out⟩
set_option maxHeartbeats 1000000 in
theorem counter_nil (w : World) (hT : Tab w) : Calls Tryd.prog 27 #[.pointer none] w
    fun e w' => e = .returned (.int .i64 ((counter z64 : Nat) : Int)) ∧ Below w.heap.size w w' := by
  have HT := Lib.hid hT
  clear hT
  go_enter Tryd.func27, Tryd.ntmps27
  go_wp2_with fail
  (with_reducible refine (all_nil _).mono ?_); rintro e w1 ⟨v, rfl, hO, hB⟩
  obtain ⟨A, cp, rfl, hc1, hc2, hN⟩ := hO.form z64_word
  have hl : z64.length = 64 := rfl
  obtain ⟨g, rfl, hg1, hg2, -⟩ := hO.at_ (List.getElem?_eq_getElem (show 0 < z64.length by omega))
  have hC : ∀ (i x : Nat), z64[i]? = some x → w1.cell? ⟨g, i, none⟩ = some (.int .u32 (x : Int)) := fun i x hx => by
    obtain ⟨g', hg', _, _, hc, _⟩ := hO.at_ hx
    cases hg'
    exact hc
  have HB := Lib.hid hB
  have HT1 := Lib.hid (HT.out.old hB)
  have HW := Lib.hid z64_word
  have HC := Lib.hid hC
  clear hO hB hN HT hC
  rw [hl] at hc1 ⊢
  go_wp2_with fail
  go_loopg [3, 11] 8 (fun g s3 s11 wr => ∃ i : Nat, i + g = 8 ∧ s11 = .int .i64 (i : Int) ∧ s3 = .int .i64 ((32 * i : Nat) : Int) ∧ ctr (cwords z64) = 32 * i + ctr ((cwords z64).drop i) ∧ wr = w1)
  case atStart => exact ⟨0, by omega, rfl, rfl, by simp, rfl⟩
  case round =>
    obtain ⟨i, hgi, rfl, rfl, hc, rfl⟩ := hrel
    have HG := Lib.hid hgi
    have hi8 : i ≤ 8 := by omega
    clear hgi
    by_cases hlt : i < 8
    · obtain ⟨x, hx⟩ : ∃ x, z64[1 + i]? = some x := ⟨_, List.getElem?_eq_getElem (by omega)⟩
      have hcx := HC.out _ _ hx
      have hxb := HW.out _ _ hx
      have hd := cwords_drop hl hlt hx
      rw [hd, ctr] at hc
      have Hc := Lib.hid hc
      clear hd hc hx
      go_wp2_with fail
      (with_reducible refine (tz32 _ (4294967295 - x) _ (not_u32 x hxb) (by omega) HT1.out).mono ?_); rintro e w' ⟨rfl, rfl⟩
      by_cases hf : x = 4294967295
      · have hz : Lib.ctz 32 (4294967295 - x) = 32 := by rw [hf]; rfl
        rw [hz]
        have hc2 : ctr (cwords z64) = 32 * (i + 1) + ctr (List.drop (i + 1) (cwords z64)) := by rw [Hc.out, if_pos hf]; omega
        have Hc2 := Lib.hid hc2
        clear hc2 hz hf
        go_wp2_with fail
        go_light
        go_roundg (8 - (i + 1))
        case measure => have := HG.out; omega
        case rel => exact ⟨i + 1, by omega, by go_num, by go_num, Hc2.out, rfl⟩
      · have hk : Lib.ctz 32 (4294967295 - x) < 32 := (Lib.lowest_bit 32 _ (by omega) (by omega)).2
        have hc2 : counter z64 = min (32 * i + Lib.ctz 32 (4294967295 - x)) 255 := by rw [counter, Hc.out, if_neg hf]
        generalize Lib.ctz 32 (4294967295 - x) = k at *
        have Hc2 := Lib.hid hc2
        clear hc2 hf Hc
        go_wp2_with fail
        go_light
        go_ret
        rw [Hc2.out]
        exact ⟨by go_num, HB.out⟩
    · have : i = 8 := by omega
      subst this
      have hc2 : counter z64 = min 256 255 := by
        rw [counter, hc]
        have : (cwords z64).drop 8 = [] := List.drop_eq_nil_of_le (by simp [cwords]; omega)
        rw [this]; rfl
      have Hc2 := Lib.hid hc2
      clear hc2 hc
      go_wp2_with fail
      go_light
      go_ret
      rw [Hc2.out]
      exact ⟨rfl, HB.out⟩
set_option maxHeartbeats 1000000 in
theorem id_nil (w : World) : Calls Tryd.prog 28 #[.pointer none] w (fun e w' => e = .returned (.agg (b8 (wordsB (idW z64)))) ∧ Below w.heap.size w w') := by
  have HW := Lib.hid z64_word
  have HL := Lib.hid (show z64.length = 64 from rfl)
  go_enter Tryd.func28, Tryd.ntmps28
  go_wp2_with fail
  have HK := Lib.hid (show Blk (w.alloc (.cells (b8 (List.replicate 16 0)) 50)) w.heap.size 50 (b8 (List.replicate 16 0)) from Blk.new w _ _)
  have HB := Lib.hid ((Below.refl _ w).alloc (Nat.le_refl _) (.cells (b8 (List.replicate 16 0)) 50))
  have hs1 : w.heap.size < (w.alloc (.cells (b8 (List.replicate 16 0)) 50)).heap.size := by simp
  change Calls _ _ _ (w.alloc (.cells (b8 (List.replicate 16 0)) 50)) _
  generalize w.alloc (.cells (b8 (List.replicate 16 0)) 50) = w1 at *
  (with_reducible refine (all_nil _).mono ?_); rintro e w2 ⟨v, rfl, hO, hB⟩
  obtain ⟨g1, c1, rfl, hc1, hm1⟩ := own32_some hO (by have := HL.out; omega)
  have hvl : z64.length = 64 := HL.out
  rw [hvl] at hc1 ⊢
  have HP := Lib.hid (own32_part hO HW.out 23 4)
  have HKL := Lib.hid (show (idW z64).length = 4 by unfold idW; rw [List.length_take, List.length_drop, hvl]; rfl)
  have HK2 := Lib.hid (HK.out.next hB rfl)
  have HB2 := Lib.hid (below_then HB.out hB (Nat.le_refl _))
  clear hO hB hvl hm1 HK HB
  go_wp2_with fail
  (with_reducible refine (octets_any _ _ _ (idW z64) _ _ HKL.out (by omega) (Nat.le_refl _) HP.out).mono ?_); rintro e w3 ⟨v, rfl, hO, hB⟩
  have hwl : (wordsB (idW z64)).length = 16 := by rw [wordsB_length, HKL.out]
  obtain ⟨g2, c2, rfl, hg2, hg2l⟩ := World.ownsRow.form hO (by rw [hwl]; omega)
  have HR : Hid (w3.rangeAt g2 0 ((wordsB (idW z64)).map fun x => Value.int .u8 ((x : Nat) : Int))) := Lib.hid (fun j u hu => by
    have := hO.cells (g := g2) rfl j u hu
    rw [Addr.add_mid] at this
    exact this)
  have HK3 := Lib.hid (HK2.out.next hB rfl)
  have HB3 := Lib.hid (below_then HB2.out hB (Nat.le_refl _))
  have hsa := fun W => run_arrayAt (P := Tryd.prog) (w := W) 50 5 16 (some ⟨g2, 0, none⟩) 16 c2 Tryd.underlying50 (Nat.le_refl _)
  have HSZ := Lib.hid (show (Tryd.prog.info? 50).map (·.size) = some ((wordsB (idW z64)).map fun x => Value.int .u8 ((x : Nat) : Int)).length by rw [List.length_map, hwl]; exact id_info)
  have HSZ' := Lib.hid (show (Tryd.prog.info? 50).map (·.size) = some (b8 (wordsB (idW z64))).size by rw [b8_size, hwl]; exact id_info)
  have HZ := Lib.hid (show (b8 (List.replicate 16 0)).size = (b8 (wordsB (idW z64))).size by rw [b8_size, b8_size, hwl]; rfl)
  have HO := Lib.hid (b8_one (wordsB (idW z64)))
  rw [hwl]
  clear hO hB HK2 HB2 hwl HP HKL
  go_wp2_with (first | refine wpList_load_mid rfl 50 _ rfl g2 0 rfl _ _ HR.out Tryd.underlying50 rfl HSZ.out ?_ | refine wpList_store_row rfl 50 (.tmp 2) _ rfl w.heap.size (b8 (wordsB (idW z64))) rfl rfl 50 (b8 (List.replicate 16 0)) HK3.out HSZ'.out HZ.out HO.out ?_)
  have hb := setRow_heap _ _ _ (b8 (wordsB (idW z64))) _ _ HK3.out
  have hB := below_setRow HB3.out (Nat.le_refl _) (b8 (wordsB (idW z64)))
  go_light
  exact bodyPost_ret (v := .agg (b8 (wordsB (idW z64)))) (results_cell_row Tryd.results28 _ _ w.heap.size 50 (b8 (wordsB (idW z64))) (0, 0) _ rfl hb Tryd.underlying50 rfl HSZ'.out) rfl ⟨rfl, hB⟩
end Otp
end Go.Proofs.YtpakdcgcgekcfaaDoor
