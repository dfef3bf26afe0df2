/-
  Package sha: Digest.
-/
import Derived.Test.YtpakdcgcgekcfaaDoorProg
import Derived.Test.YtpakdcgcgekcfaaDoorMem
import Derived.Test.YtpakdcgcgekcfaaDoorNext
import Derived.Test.YtpakdcgcgekcfaaDoorIdx
import Derived.Test.YtpakdcgcgekcfaaDoorShaWord
import Derived.Test.YtpakdcgcgekcfaaDoorWordsB
import Derived.Test.YtpakdcgcgekcfaaDoorRowD
import Derived.Test.YtpakdcgcgekcfaaDoorCopyB
import Derived.Deep.LoopGhost
import Derived.Laws.Rows
import Derived.Laws.CopyOwn
import Derived.Laws.ResultCell
namespace Go.Proofs.YtpakdcgcgekcfaaDoor
open Go.RowKit

namespace Otp
open Fuse R1
set_option maxRecDepth 100000 in
set_option maxHeartbeats 1000000 in
theorem digest_any (ws : List Nat) (w : World) (hl : ws.length = 8) (hw : ∀ x ∈ ws, x < 4294967296) :
    Calls Tryd.prog 72 #[.agg (c32 ws)] w (fun e w' => e = .returned (.agg (b8 (wordsB ws))) ∧ Below w.heap.size w w') := by
  have HL := Lib.hid hl
  have HW := Lib.hid hw
  have HSZ := Lib.hid (show (Tryd.prog.info? 118).map (·.size) = some (c32 ws).size by
    rw [show (c32 ws).size = 8 by simp [c32, hl]]
    kernel_rfl)
  have HK := Lib.hid (Blk.new w 118 (c32 ws))
  clear hl hw
  go_enter Tryd.func72, Tryd.ntmps72
  go_wp2_with (refine wpList_load_row rfl 118 _ rfl w.heap.size rfl 118 (c32 ws) (0, 0) _ ((HK.out.alloc _).alloc _) Tryd.underlying118 rfl HSZ.out ?_)
  obtain ⟨W2, hW2⟩ : ∃ W2, W2 = (w.alloc (.cells (c32 ws) 118)).alloc (.cells (b8 (List.replicate 32 0)) 23) := ⟨_, rfl⟩
  have HW2 := Lib.hid hW2
  clear hW2
  go_loopg [4, 5, 7] 8 (fun g s4 s5 s7 wr => ∃ i : Nat, i + g = 8 ∧ s7 = .int .i64 (i : Int) ∧ Hid (Blk wr (w.heap.size + 1 + 1) 23 (b8 (wordsB (ws.take i) ++ List.replicate (32 - 4 * i) 0))) ∧ Hid (Below (w.heap.size + 1 + 1) W2 wr))
  case atStart =>
    refine ⟨0, by omega, rfl, Lib.hid ?_, Lib.hid ?_⟩
    · exact blk_new' (by simp)
    · rw [HW2.out]
      exact (Below.refl _ _).alloc (by simp) _
  case round =>
    obtain ⟨i, hg, rfl, HD, HB⟩ := hrel
    have HG := Lib.hid hg
    have hi : i ≤ 8 := by omega
    clear hg
    by_cases hlt : i < 8
    · obtain ⟨x, hx⟩ : ∃ x, ws[i]? = some x := ⟨_, List.getElem?_eq_getElem (by have := HL.out; omega)⟩
      have hxM := HW.out x (List.mem_of_getElem? hx)
      have hix := run_index_arr (P := Tryd.prog) 118 43 8 Tryd.underlying118 (fun _ => by kernel_rfl) (fun _ => by kernel_rfl) (c32 ws) .i64 (i : Int) i rfl hlt _ (c32_at hx)
      have HX := Lib.hid hx
      have hsl := run_slice_arr_l (P := Tryd.prog) 23 5 32 Tryd.underlying23 (fun _ => by kernel_rfl) (w.heap.size + 1 + 1) (4 * i) .i64 (4 * (i : Int)) (by omega) (by omega)
      have hbl : w.heap.size + 1 + 1 ≤ wr.heap.size := Nat.le_of_lt HD.out.lt
      have HN := Lib.hid (numB_four x hxM)
      clear hx
      have hwl : (wordsB (ws.take i)).length = 4 * i := by rw [wordsB_length, List.length_take]; have := HL.out; omega
      have HWL := Lib.hid hwl
      have HC1 := Lib.hid (show (numB x 4).length = Nat.min 4 (32 - 4 * i) by rw [numB_length]; exact (Nat.min_eq_left (by omega)).symm)
      have HC3 := Lib.hid (show 4 * i + (numB x 4).length ≤ (wordsB (ws.take i) ++ List.replicate (32 - 4 * i) 0).length by simp only [numB_length, List.length_append, List.length_replicate, hwl]; omega)
      clear hwl
      go_wp2_with (refine wpList_copy_b8 rfl (.tmp 13) (.tmp 25) 53 53 rfl 5 Tryd.underlying53 (by kernel_rfl) _ _ (32 - 4 * i) (32 - 4 * i) 4 4 rfl rfl (w.heap.size + 1 + 1) (4 * i) 23 _ (HD.out.alloc _) (numB x 4) HC1.out (by exact fun _ => ⟨rfl, _, rfl, cells_new _ _ _ (by rw [HN.out]) _⟩) HC3.out (w.heap.size + 1 + 1) W2 (HB.out.alloc hbl _) (Nat.le_refl _) ?_)
      intro w3 HD3 HB3
      have HE := Lib.hid (show splice (wordsB (ws.take i) ++ List.replicate (32 - 4 * i) 0) (4 * i) (numB x 4) = wordsB (ws.take (i + 1)) ++ List.replicate (32 - 4 * (i + 1)) 0 by
        have := splice_next (wordsB (ws.take i)) (numB x 4) (32 - 4 * i) (by rw [numB_length]; omega)
        rw [HWL.out, numB_length] at this
        rw [this, take_snoc HX.out, wordsB_snoc]
        congr 2)
      rw [numB_length]
      clear HD HB HN
      go_wp2_with fail
      go_light
      go_roundg (8 - (i + 1))
      case measure => have := HG.out; omega
      case rel => exact ⟨i + 1, by have := HG.out; omega, by go_num, by rw [← HE.out]; exact HD3, HB3⟩
    · have : i = 8 := by omega
      subst this
      have HD8 : Hid (Blk wr (w.heap.size + 1 + 1) 23 (b8 (wordsB ws))) := by
        have := HD.out
        rw [List.take_of_length_le (by have := HL.out; omega), show 32 - 4 * 8 = 0 from rfl, List.replicate_zero, List.append_nil] at this
        exact Lib.hid this
      have hlw : (wordsB ws).length = 32 := by rw [wordsB_length, HL.out]
      have HS := Lib.hid (show (Tryd.prog.info? 23).map (·.size) = some (b8 (wordsB ws)).size by rw [b8_size, hlw]; exact dig_info)
      have HR : Hid (Blk wr (w.heap.size + 1) 23 (b8 (List.replicate 32 0))) := by
        have h2 := HB.out
        rw [HW2.out] at h2
        exact Lib.hid (Blk.below (blk_new' (by simp)) h2 (by omega))
      have HBB : Hid (Below w.heap.size w wr) := by
        have h2 := HB.out
        rw [HW2.out] at h2
        exact Lib.hid ((((Below.refl _ w).alloc (Nat.le_refl _) _).alloc (by simp) _).trans (h2.mono (by omega)))
      have HZ := Lib.hid (show (b8 (List.replicate 32 0)).size = (b8 (wordsB ws)).size by rw [b8_size, b8_size, hlw]; rfl)
      have HO := Lib.hid (b8_one (wordsB ws))
      clear HD HB hlw
      go_wp2_with (first | refine wpList_load_row rfl 23 _ rfl (w.heap.size + 1 + 1) rfl 23 (b8 (wordsB ws)) (0, 0) _ HD8.out Tryd.underlying23 rfl HS.out ?_ | refine wpList_store_row rfl 23 (.tmp 2) _ rfl (w.heap.size + 1) (b8 (wordsB ws)) rfl rfl 23 (b8 (List.replicate 32 0)) HR.out HS.out HZ.out HO.out ?_)
      have hb := setRow_heap _ _ _ (b8 (wordsB ws)) _ _ HR.out
      have hB := below_setRow HBB.out (show w.heap.size ≤ w.heap.size + 1 by omega) (b8 (wordsB ws))
      go_light
      exact bodyPost_ret (v := .agg (b8 (wordsB ws))) (results_cell_row Tryd.results72 _ _ (w.heap.size + 1) 23 (b8 (wordsB ws)) (0, 0) _ rfl hb Tryd.underlying23 rfl HS.out) rfl ⟨rfl, hB⟩
end Otp
end Go.Proofs.YtpakdcgcgekcfaaDoor
