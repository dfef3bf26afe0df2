import Derived.Test.YtmcpppgnfmopoaaProg
import Derived.Test.YtmcpppgnfmopoaaMem
import Derived.Test.YtmcpppgnfmopoaaSelD
namespace Go.Proofs.Ytmcpppgnfmopoaa
open Go.RowKit

namespace Choose
theorem sel_x (w : World) : Calls Try.prog 10 #[.int .i64 2, .agg #[.int .u32 0, .int .i64 0, .int .i64 (-1), .int .i64 0], .agg #[.int .i64 0, .int .i64 2]] w
    fun e w' => e = .returned (.agg #[.int .i64 0, .int .u32 0, .int .i64 0, .int .i64 (-1), .int .i64 0, .bool false, .bool false, .int .i64 0]) ∧ Below w.heap.size w w' :=
  (sel_any 0 0 (-1) 0 0 2 w (by omega) (by omega) (by omega)).mono fun _ _ h => ⟨h.1.trans (by simp [sel, valB, chg, ch]), h.2⟩
theorem sel_y (w : World) : Calls Try.prog 10 #[.int .i64 2, .agg #[.int .u32 0, .int .i64 0, .int .i64 (-1), .int .i64 0], .agg #[.int .i64 5, .int .i64 0]] w
    fun e w' => e = .returned (.agg #[.int .i64 1, .int .u32 0, .int .i64 1, .int .i64 (-1), .int .i64 0, .bool true, .bool false, .int .i64 0]) ∧ Below w.heap.size w w' :=
  (sel_any 0 0 (-1) 0 5 0 w (by omega) (by omega) (by omega)).mono fun _ _ h => ⟨h.1.trans (by simp [sel, valB, chg, ch]), h.2⟩

set_option maxHeartbeats 400000 in
theorem awake_any (w : World) : Calls Try.prog 8 #[] w (TrueBelow w) := by
  go_enter Try.func8, Try.ntmps8
  go_wp2_with fail
  (with_reducible refine (first_any _).mono ?_); rintro e w1 ⟨rfl, hb1⟩
  go_wp2_with fail
  (with_reducible refine (sel_x _).mono ?_); rintro e w2 ⟨rfl, hb2⟩
  go_wp2_with fail
  (with_reducible refine (first_any _).mono ?_); rintro e w3 ⟨rfl, hb3⟩
  go_wp2_with fail
  (with_reducible refine (sel_y _).mono ?_); rintro e w4 ⟨rfl, hb4⟩
  have hk := (((Blk.new w2 _ _).below hb3 (by simp)).below hb4 (by have := hb3.size; simp at this; omega)).cell
  have hz : w2.heap.size < w4.heap.size := by have h3 := hb3.size; have h4 := hb4.size; simp at h3; omega
  go_wp2
  go_light
  go_ret
  refine ⟨rfl, ?_⟩
  have hbb := below_then (below_then (Below.alloc (below_then (below_then (Below.refl _ w) hb1 (Nat.le_refl _)) hb2 (Nat.le_refl _)) (Nat.le_trans hb1.size hb2.size) _) hb3 (Nat.le_refl _)) hb4 (Nat.le_refl _)
  exact Below.alloc hbb hbb.size _

def rightB (a t n : Int) : Bool := decide (0 ≤ a ∧ a ≤ 1 ∧ 0 ≤ n ∧ n ≤ 3 ∧ (t = -1 ∧ n = 0 ∨ t = 0 ∨ t = 1))
set_option maxHeartbeats 400000 in
theorem right_any (q a t n : Int) (w : World) : Calls Try.prog 27 #[.agg #[.int .u32 q, .int .i64 a, .int .i64 t, .int .i64 n]] w fun e w' => e = .returned (.bool (rightB a t n)) ∧ Below w.heap.size w w' := by
  go_enter Try.func27, Try.ntmps27
  go_wp2
  all_goals go_ret
  all_goals refine ⟨?_, ?_⟩
  all_goals first | ((repeat' (first | (with_reducible exact Below.refl _ _) | (with_reducible refine Below.setCell ?_ ?_ _) | (with_reducible refine Below.alloc ?_ ?_ _) | (with_reducible refine Below.drew ?_) | (with_reducible refine Below.drewN ?_ _) | (with_reducible exact Nat.le_refl _) | (simp; done) | (simp; omega) | omega)); done) | (simp [rightB]; done) | (simp [rightB]; omega) | (simp [rightB]; rw [Bool.eq_iff_iff]; simp; omega)
end Choose
end Go.Proofs.Ytmcpppgnfmopoaa
