/-
  Package rv: form, Decode.
-/
import Derived.Test.YtfiojpdkbckopaaDoorRvD
import Derived.Test.YtfiojpdkbckopaaDoorJc45c21b5
set_option linter.unusedSimpArgs false
set_option linter.unusedVariables false
namespace Go.Proofs.YtfiojpdkbckopaaDoor
open Go.RowKit

namespace Rv
open Otp Sha
theorem Blk.to {w : World} {g : Nat} {t : TypeId} {cs cs' : Array Value} (h : Blk w g t cs) (e : cs = cs') : Blk w g t cs' := e ▸ h
theorem shape_info : (Tryd.prog.info? 110).map (·.size) = some 3 := by kernel_rfl
def formC (c f3 f7 : Nat) : Sh := if c = 55 ∨ c = 23 ∨ c = 111 then (c, 0, 0) else if c = 51 ∨ (c = 19 ∧ (f3 = 1 ∨ f3 = 5)) then (c, f3, f7) else (c, f3, 0)
theorem form_eq (v : Nat) : form v = formC (cut v 0 7) (cut v 12 3) (cut v 25 7) := rfl
def ShOut (s : Sh) (w : World) (e : Ending) (w' : World) : Prop := e = .returned (ky s) ∧ Below w.heap.size w w'
set_option maxHeartbeats 2000000 in
theorem form_any (v : Nat) (vz : Int) (w : World) (e1 : vz = v) (hv : v < 4294967296) :
    Calls Tryd.prog 42 #[.int .u32 vz] w (ShOut (form v) w) := by
  subst e1
  rw [form_eq]
  have HB1 := wall (fun W => bits_any v 0 7 v 0 7 W rfl rfl rfl hv (by decide) (by decide))
  have HB2 := wall (fun W => bits_any v 12 3 v 12 3 W rfl rfl rfl hv (by decide) (by decide))
  have HB3 := wall (fun W => bits_any v 25 7 v 25 7 W rfl rfl rfl hv (by decide) (by decide))
  obtain ⟨c, h1⟩ : ∃ y, cut v 0 7 = y := ⟨_, rfl⟩
  obtain ⟨f3, h2⟩ : ∃ y, cut v 12 3 = y := ⟨_, rfl⟩
  obtain ⟨f7, h3⟩ : ∃ y, cut v 25 7 = y := ⟨_, rfl⟩
  rw [h1] at HB1 ⊢
  rw [h2] at HB2 ⊢
  rw [h3] at HB3 ⊢
  clear h1 h2 h3
  obtain ⟨s, hs⟩ : ∃ y, formC c f3 f7 = y := ⟨_, rfl⟩
  have HS := wall hs
  rw [hs]
  clear hs
  go_enter Tryd.func42, Tryd.ntmps42
  go_wp2_with fail
  (with_reducible refine (HB1.out _).mono ?_); rintro e w1 ⟨rfl, d1, rfl⟩
  go_wp2_with fail
  (with_reducible refine (HB2.out _).mono ?_); rintro e w1 ⟨rfl, d2, rfl⟩
  go_wp2_with fail
  all_goals try ((with_reducible refine (HB3.out _).mono ?_); rintro e w1 ⟨rfl, d3, rfl⟩; go_wp2_with fail)
  all_goals refine bodyPost_ret (v := ky s) (results_cell_row Tryd.results42 _ _ w.heap.size 110 #[.int .u32 (s.1 : Int), .int .u32 (s.2.1 : Int), .int .u32 (s.2.2 : Int)] (0, 0) _ rfl ?_ Tryd.underlying110 rfl shape_info) rfl ⟨rfl, ?_⟩
  all_goals first
    | ((repeat' (first | (with_reducible exact Below.refl _ _) | (with_reducible refine Below.setCell ?_ ?_ _) | (with_reducible refine Below.alloc ?_ ?_ _) | (with_reducible refine Below.drew ?_) | (with_reducible refine Below.drewN ?_ _) | (with_reducible exact Nat.le_refl _) | (simp; done) | (simp; omega) | omega)); done)
    | (refine (show Blk _ _ _ _ from ?_); exact Blk.to (by (repeat (first | (with_reducible exact Blk.new _ _ _) | (with_reducible apply Blk.alloc) | (with_reducible apply Blk.drewN) | (with_reducible apply Blk.drew) | (with_reducible apply Blk.set) | (with_reducible apply Blk.far'; rotate_left 1; (first | omega | (simp; done) | (simp; omega)); rotate_left 1)))) (by (rw [← HS.out]; unfold formC; (try simp only [beq_iff_eq, beq_eq_false_iff_ne, ne_eq] at *); (repeat (first | rw [if_pos (by omega)] | rw [if_neg (by omega)])); simp <;> omega)))
end Rv
end Go.Proofs.YtfiojpdkbckopaaDoor
