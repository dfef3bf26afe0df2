/-
  Package otp: a chip in memory ('Cz'); New, all, Counter.
-/
import Derived.Test.YtfiojpdkbckopaaDoorProg
import Derived.Test.YtfiojpdkbckopaaDoorJ55314620
import Derived.Test.YtfiojpdkbckopaaDoorFuseWords
import Derived.Test.YtfiojpdkbckopaaDoorTz
import Derived.Deep.LoopGhost
set_option linter.unusedSimpArgs false
set_option linter.unusedVariables false
namespace Go.Proofs.YtfiojpdkbckopaaDoor
open Go.RowKit

namespace Otp
open Fuse
structure Cz (w : World) (c p b : Nat) (vs : List Nat) (ls : List Bool) (sd : Bool) : Prop where
  fz : Fz w p b vs ls
  len : vs.length = 64
  head : Blk w c 99 #[.pointer (some ⟨p, 0, none⟩), .bool sd]

variable {w w' : World} {c p b : Nat} {vs : List Nat} {ls : List Bool} {sd : Bool}
theorem Cz.frm {S : List Nat} (h : Cz w c p b vs ls sd) (hf : Frm S w w') (hc : c ∉ S) (hp : p ∉ S) (hb : b ∉ S) : Cz w' c p b vs ls sd := ⟨h.fz.frm hf hp hb, h.len, h.head.frm hf hc⟩
theorem Cz.below {B : Nat} (h : Cz w c p b vs ls sd) (hf : Below B w w') (hc : c < B) (hp : p < B) (hb : b < B) : Cz w' c p b vs ls sd := ⟨h.fz.below hf hp hb, h.len, h.head.below hf hc⟩
theorem Cz.old (h : Cz w c p b vs ls sd) (hf : Below w.heap.size w w') : Cz w' c p b vs ls sd := h.below hf h.head.lt h.fz.ltp h.fz.ltb
theorem Cz.drewN (h : Cz w c p b vs ls sd) (n : Nat) : Cz (w.drewN n) c p b vs ls sd := ⟨h.fz.drewN n, h.len, h.head⟩
theorem Cz.drew (h : Cz w c p b vs ls sd) : Cz w.drew c p b vs ls sd := ⟨h.fz.drew, h.len, h.head⟩
theorem Cz.alloc (h : Cz w c p b vs ls sd) (o : Obj) : Cz (w.alloc o) c p b vs ls sd := h.frm ((Frm.refl [] w).alloc o) (by simp) (by simp) (by simp)
theorem Cz.nes (h : Cz w c p b vs ls sd) : c ≠ p ∧ c ≠ b ∧ p ≠ b := by
  obtain ⟨_, _, h1⟩ := h.fz.head
  obtain ⟨_, h2, _⟩ := h.fz.row
  exact ⟨h.head.ne h1 (by decide), h.head.ne h2 (by decide), h.fz.ne⟩
theorem Cz.cell (h : Cz w c p b vs ls sd) : w.cell? ⟨c, 0, none⟩ = some (.pointer (some ⟨p, 0, none⟩)) ∧ w.cell? ⟨c, 1, none⟩ = some (.bool sd) :=
  ⟨by rw [h.head.cell]; rfl, by rw [h.head.cell]; rfl⟩

def z64 : List Nat := List.replicate 64 0
def f64 : List Bool := List.replicate 64 false
def NewOut (w : World) (e : Ending) (w' : World) : Prop := ∃ c p b, e = .returned (.pointer (some ⟨c, 0, none⟩)) ∧ Cz w' c p b z64 f64 false ∧ w.heap.size ≤ c ∧ w.heap.size ≤ p ∧ w.heap.size ≤ b ∧ Below w.heap.size w w'
set_option maxHeartbeats 400000 in
theorem new_chip (w : World) : Calls Tryd.prog 21 #[] w (NewOut w) := by
  go_enter Tryd.func21, Tryd.ntmps21
  go_wp2_with fail
  (with_reducible refine (new_any 64 _ (by decide) (by decide)).mono ?_); rintro e w1 ⟨rfl, hz, hb, hs⟩
  have HZ := Lib.hid hz
  have HB := Lib.hid hb
  have hbl : w.heap.size ≤ w1.heap.size := hb.size
  clear hz hb hs
  go_wp2_with fail
  go_light
  go_ret
  have hz : Fz w1 (w.heap.size + 1) w.heap.size z64 f64 := HZ.out
  refine ⟨_, _, _, rfl, ⟨hz.frm ((Frm.refl [] _).alloc _) (by simp) (by simp), by decide, ?_⟩, hbl, by omega, by omega, HB.out.alloc hbl _⟩
  exact Blk.new _ _ _
end Otp
end Go.Proofs.YtfiojpdkbckopaaDoor
