/-
  The law package's 'lay': a chip of any words; Tear.
-/
import Derived.Test.YtpakdcgcgekcfaaDoorProg
import Derived.Test.YtpakdcgcgekcfaaDoorMem
import Derived.Test.YtpakdcgcgekcfaaDoorOtpOps
import Derived.Deep.LoopGhost
import Derived.Deep.RegionWith
namespace Go.Proofs.YtpakdcgcgekcfaaDoor
open Go.RowKit

namespace Otp
open Fuse
variable {w w' : World} {c p b : Nat} {vs : List Nat} {ls : List Bool} {sd : Bool}
def LayOut (w : World) (vs : List Nat) (e : Ending) (w' : World) : Prop := ∃ c p b, e = .returned (.pointer (some ⟨c, 0, none⟩)) ∧ Cz w' c p b vs f64 false ∧ w.heap.size ≤ c ∧ w.heap.size ≤ p ∧ w.heap.size ≤ b ∧ Below w.heap.size w w'
set_option maxHeartbeats 1000000 in
theorem lay_any (zs : List Nat) (w : World) (hl : zs.length = 64) (hw : ∀ (i x : Nat), zs[i]? = some x → x < 4294967296) :
    Calls Tryd.prog 24 #[.agg (c32 zs)] w (LayOut w zs) := by
  have HW := Lib.hid hw
  clear hw
  have HN := Lib.hid (fun t => nats_blk (t := t) (Blk.new w t (c32 zs)) HW.out)
  go_enter Tryd.func24, Tryd.ntmps24
  go_wp2_with fail
  (with_reducible refine (of_chip _ 64 64 zs _ (HN.out _) hl rfl).mono ?_); rintro e w1 ⟨c, p, b, rfl, hC, hc, hp, hb, hB⟩
  simp only [World.size_alloc] at hc hp hb
  have HC := Lib.hid hC
  have HB := Lib.hid hB
  clear hC hB
  go_wp2_with fail
  go_light
  go_ret
  exact ⟨c, p, b, rfl, HC.out, by omega, by omega, by omega, ((Below.refl _ w).alloc (Nat.le_refl _) _).trans (HB.out.mono (by simp))⟩

def TearOut (w : World) (c p b : Nat) (ls : List Bool) (sd : Bool) (er : Int) (vs' : List Nat) (e : Ending) (w' : World) : Prop := e = .returned (.int .i64 er) ∧ Cz w' c p b vs' ls sd ∧ Frm [b] w w'
set_option maxHeartbeats 2000000 in
theorem tear_any (x y g : Nat) (w : World) (h : Cz w c p b vs ls sd) (hy : y < 4294967296) (hg : g < 4294967296) :
    Calls Tryd.prog 32 #[.pointer (some ⟨c, 0, none⟩), .agg #[.int .i64 (x : Int), .int .u32 (y : Int)], .int .u32 (g : Int)] w (TearOut w c p b ls sd (cutE vs (x : Int) y) (cutV vs (x : Int) y g)) := by
  have H := Lib.hid h
  have hcc := h.cell.1
  have hcl := h.head.lt
  obtain ⟨n1, n2, n3⟩ := h.nes
  have HFa := Lib.hid (show Fz (w.alloc (.cells #[.int .i64 (x : Int), .int .u32 (y : Int)] 58)) p b vs ls from (h.alloc _).fz)
  clear h
  go_enter Tryd.func32, Tryd.ntmps32
  go_wp2_with fail
  go_region_with (go_at_call 80; (with_reducible refine (cut_any (x : Int) (y : Int) (g : Int) _ HFa.out.drew (by omega) (by omega) (by omega) (by omega)).mono ?_); rintro e w2 ⟨rfl, hz2, hf2⟩; rw [Int.toNat_natCast, Int.toNat_natCast] at hz2; rw [Int.toNat_natCast])
  all_goals go_wp2_with fail
  all_goals go_light
  all_goals go_ret
  all_goals exact ⟨rfl, ⟨hz2, by rw [show (cutV vs (x : Int) y g).length = vs.length from by unfold cutV; split <;> simp]; exact H.out.len, (H.out.alloc _).head.drew.frm hf2 (by simpa using n2)⟩, ((Frm.refl [b] w).alloc _).drew.trans hf2⟩
end Otp
end Go.Proofs.YtpakdcgcgekcfaaDoor
