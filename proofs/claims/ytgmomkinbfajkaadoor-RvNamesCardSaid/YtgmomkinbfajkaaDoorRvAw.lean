/-
  Layer 19: awake.
-/
import Derived.Test.YtgmomkinbfajkaaDoorRvH
import Derived.Test.YtgmomkinbfajkaaDoorRvN
set_option linter.unusedSimpArgs false
set_option linter.unusedVariables false
namespace Go.Proofs.YtgmomkinbfajkaaDoor
open Go.RowKit

namespace Rv
open Otp Sha R1
def i1 : In := ⟨19, 1, 0, 0, 1, 0⟩
theorem dec_one : dec 1048723 = (i1, true) := by decide +kernel
theorem name_last : nameOf 56 = ⟨#[114, 101, 109, 117]⟩ := by
  unfold nameOf
  rw [if_pos (by decide), List.getD_eq_getElem?_getD, flds_last]
  rfl
set_option maxRecDepth 100000 in
set_option maxHeartbeats 4000000 in
theorem awake_any (w : World) (hT : STb w) : Calls Tryd.prog 6 #[] w (TrueBelow w) := by
  have HD := wall (show Calls Tryd.prog 9 #[.int .u32 1048723] w (fun e w' => e = .returned (.tuple #[.agg (inC i1), .bool true]) ∧ Below w.heap.size w w') by
    have h := decode_any 1048723 1048723 w rfl (by decide)
    rw [dec_one] at h
    exact h)
  have heq : ∀ W, (Op.equalIn 10000 25 (.agg (inC i1)) (.agg #[.int .u8 19, .int .u8 1, .int .u8 0, .int .u8 0, .int .u32 1, .int .u16 0])).run Tryd.prog W = .ok true W := fun W => in_eq i1 i1 W
  have HN := wall (fun W (h : STb W) => name_any 56 56 W rfl (by decide) h)
  rw [name_last] at HN
  have HX1 := wall (inC_one i1)
  have HX2 := wall (show (Tryd.prog.info? 25).map (·.size) = some (inC i1).size from in_info)
  have HX3 := wall (show (inC zIn).size = (inC i1).size from rfl)
  obtain ⟨X, hX⟩ : ∃ y, inC i1 = y := ⟨_, rfl⟩
  rw [hX] at HD HX1 HX2 HX3
  simp only [hX] at heq
  have HT := wall hT
  clear hX hT
  go_enter Tryd.func6, Tryd.ntmps6
  go_wp2_with fail
  (with_reducible refine (HD.out).mono ?_); rintro e w1 ⟨rfl, hB1⟩
  have HB1 := wall hB1
  have HT1 := wall (HT.out.old hB1)
  clear hB1 HT HD
  try simp only [Act.put, List.setIfInBounds_toArray, List.set_cons_zero, List.set_cons_succ]
  go_upto_region 2 with (refine wpList_new_row rfl 25 (.tmp 1) (.tmp 5) rfl w1.heap.size X rfl rfl 25 (inC zIn) (Blk.new _ _ _) HX2.out HX3.out HX1.out w1.heap.size w1 ((Below.refl _ w1).alloc (Nat.le_refl _) _) (Nat.le_refl _) ?_; intro w2 K2 B2)
  have HK2 := wall K2.out
  have HB2 := wall (below_then HB1.out B2.out (Nat.le_refl _))
  have HT2 := wall (HT1.out.old B2.out)
  clear K2 B2 HB1 HT1
  try simp only [Act.put, List.setIfInBounds_toArray, List.set_cons_zero, List.set_cons_succ]
  go_wp2_with (refine load_row_g (by rfl) 25 _ rfl w1.heap.size rfl 25 X _ HK2.out Tryd.underlying25 rfl HX2.out ?_)
  (with_reducible refine (HN.out _ HT2.out).mono ?_); rintro e w3 ⟨rfl, hB3⟩
  have HB3 := wall (below_then HB2.out hB3 (Nat.le_refl _))
  clear hB3
  go_wp2_with fail
  go_light
  go_ret
  exact ⟨rfl, HB3.out⟩
end Rv
end Go.Proofs.YtgmomkinbfajkaaDoor
