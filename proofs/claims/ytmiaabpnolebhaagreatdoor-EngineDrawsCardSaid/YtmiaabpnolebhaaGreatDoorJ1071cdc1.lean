/-
  Texts of this claim, joined: GrantAw, GrantBase.
-/
import Derived.Test.YtmiaabpnolebhaaGreatDoorJ297e9d6a
set_option linter.unusedSimpArgs false
set_option linter.unusedVariables false
/-
  The laws of grant: awake.
-/
namespace Go.Proofs.YtmiaabpnolebhaaGreatDoor
open Go.RowKit

namespace Grant
theorem where_to (z : Int) (a : Nat) (r : Nat × Nat) (w : World) (hz : z = a) (ha : z < 4294967296) (hS : Spans w) (hr : whereN a = r) :
    Calls Tryz.prog 233 #[.int .u32 z] w fun e w' => e = .returned (.tuple #[.int .i64 (r.1 : Int), .int .i64 (r.2 : Int)]) ∧ Below w.heap.size w w' := by
  subst hr
  exact where_int z a w hz ha hS
theorem check_to (who stage size at_ : Int) (a : Nat) (wr fe : Bool) (r : Nat × Nat × Nat) (w : World) (ha : at_ = a) (hm : at_ < 4294967296) (hw : (Lit.int .i64 who).wf = true) (hs : (Lit.int .i64 stage).wf = true) (hS : Spans w) (hr : chk who stage a size wr fe = r) :
    Calls Tryz.prog 166 #[.agg #[.int .i64 who, .int .i64 stage, .int .u32 at_, .int .i64 size, .bool wr, .bool fe]] w (ChkOut w r) := by
  subst hr
  exact check_any who stage size at_ a wr fe w ha hm hw hs hS
theorem aw1 : whereN 536870916 = (1, 4) := by decide +kernel
theorem aw2 : chk 1 1 536870916 4 true false = (0, 0, 8) := by decide +kernel
theorem aw3 : chk 1 1 536870916 4 false true = (1, 4, 0) := by decide +kernel
end Grant
end Go.Proofs.YtmiaabpnolebhaaGreatDoor

/-
  Package grant: Base.
-/
namespace Go.Proofs.YtmiaabpnolebhaaGreatDoor
open Go.RowKit

namespace Grant
theorem base_out (r : Int) (w : World) (h : r ≤ 0 ∨ 5 < r) : Calls Tryz.prog 167 #[.int .i64 r] w fun e w' => e = .returned (.tuple #[.int .u32 0, .int .i64 0]) ∧ w = w' := by
  rcases h with h | h
  · go_enter Tryz.func167, Tryz.ntmps167
    go_wp2_with fail
    go_light
    go_ret2
    exact ⟨rfl, rfl⟩
  · have h0 : ¬ r ≤ 0 := by omega
    go_enter Tryz.func167, Tryz.ntmps167
    go_wp2_with fail
    go_light
    go_ret2
    exact ⟨rfl, rfl⟩
set_option maxHeartbeats 1000000 in
theorem base_any (r : Int) (k f s : Nat) (w : World) (hr : r = k) (h1 : 1 ≤ k) (hk : sp[k]? = some (f, s)) (hS : Spans w) :
    Calls Tryz.prog 167 #[.int .i64 r] w fun e w' => e = .returned (.tuple #[.int .u32 (f : Int), .int .i64 (s : Int)]) ∧ ∃ n, w' = w.drewN n := by
  obtain ⟨ty, hB⟩ := hS
  have hk6 : k < 6 := (List.getElem?_eq_some_iff.1 hk).1
  have hc : spCells[k * 2]? = some (.int .u32 (f : Int)) ∧ spCells[k * 2 + 1]? = some (.int .i64 (s : Int)) := by
    have : k = 1 ∨ k = 2 ∨ k = 3 ∨ k = 4 ∨ k = 5 := by omega
    rcases this with rfl | rfl | rfl | rfl | rfl <;> (simp [sp] at hk; obtain ⟨rfl, rfl⟩ := hk; exact ⟨rfl, rfl⟩)
  have hc0 : w.cell? ⟨3, k * 2, none⟩ = some (.int .u32 (f : Int)) := by rw [hB.cell, hc.1]
  have hc1 : w.cell? ⟨3, k * 2 + 1, none⟩ = some (.int .i64 (s : Int)) := by rw [hB.cell, hc.2]
  subst hr
  have h2 : ¬ ((k : Int) ≤ 0) := by omega
  have h3 : ¬ (5 < (k : Int)) := by omega
  have h4 : (k : Int) < 6 := by omega
  have h5 : 0 ≤ (k : Int) := by omega
  clear hc hB hk
  go_enter Tryz.func167, Tryz.ntmps167
  go_wp2_with fail
  go_quiet (fail)
  go_wp2_with fail
  go_light
  go_ret2
  exact ⟨rfl, _, rfl⟩
end Grant
end Go.Proofs.YtmiaabpnolebhaaGreatDoor
