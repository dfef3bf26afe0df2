/-
  Texts of this claim, joined: GrantAw, GrantBase.
-/
import Derived.Test.YtmiaabpnolebhaaGreatDoorJ170f7553
set_option maxHeartbeats 1000000
set_option linter.unusedSimpArgs false
set_option linter.unusedVariables false
namespace Go.Proofs.YtmiaabpnolebhaaGreatDoor
open Go.RowKit

namespace Grant
theorem base_any (r : Int) (k f s : Nat) (w : World) (hr : r = k) (h1 : 1 ≤ k) (hk : sp[k]? = some (f, s)) (hS : Spans w) :
  Calls Tryz.prog 167 #[.int .i64 r] w fun e w' => e = .returned (.tuple #[.int .u32 (f : Int), .int .i64 (s : Int)]) ∧ ∃ n, w' = w.drewN n := by
 obtain ⟨ty, hB⟩ := hS
 have hk6 : k < 6 := (List.getElem?_eq_some_iff.1 hk).1
 have hc : spCells[k * 2]? = some (.int .u32 (f : Int)) ∧ spCells[k * 2 + 1]? = some (.int .i64 (s : Int)) := by
  have : k = 1 ∨ k = 2 ∨ k = 3 ∨ k = 4 ∨ k = 5 := by omega
  rcases this with rfl | rfl | rfl | rfl | rfl <;> (simp [sp] at hk; obtain ⟨rfl, rfl⟩ := hk; exact ⟨rfl, rfl⟩)
 have hc0 : w.cell? ⟨3, k * 2, none⟩ = some (.int .u32 (f : Int)) := by rw [hB.cell, hc.1]
 have hc1 : w.cell? ⟨3, k * 2 + 1, none⟩ = some (.int .i64 (s : Int)) := by rw [hB.cell, hc.2]
 subst hr
 have h2 : ¬ ((k : Int) ≤ 0) := by omega
 have h3 : ¬ (5 < (k : Int)) := by omega
 have h4 : (k : Int) < 6 := by omega
 have h5 : 0 ≤ (k : Int) := by omega
 clear hc hB hk
 go_enter Tryz.func167, Tryz.ntmps167
 go_wp2_with fail
 go_quiet (fail)
 go_wp2_with fail
 go_light
 go_ret2
 exact ⟨rfl, _, rfl⟩
end Grant
end Go.Proofs.YtmiaabpnolebhaaGreatDoor
