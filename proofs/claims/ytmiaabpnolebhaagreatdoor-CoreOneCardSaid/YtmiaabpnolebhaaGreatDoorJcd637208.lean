/-
  Texts of this claim, joined: FuseWords, Tz, Otp.
-/
import Derived.Test.YtmiaabpnolebhaaGreatDoorJaf5a3823
import Derived.Shelf.Spec.TrailingZeros
set_option maxHeartbeats 400000
set_option linter.unusedSimpArgs false
set_option linter.unusedVariables false
namespace Go.Proofs.YtmiaabpnolebhaaGreatDoor
open Go.RowKit

namespace Fuse
variable {p b : Nat} {vs : List Nat} {ls : List Bool}
def Own32 (w : World) (base : Nat) (v : Value) (vs : List Nat) : Prop := w.ownsRow base 52 1 v vs.length (vs.map fun x => Value.int .u32 ((x : Nat) : Int))
theorem Own32.form {w : World} {base : Nat} {v : Value} {vs : List Nat} (h : Own32 w base v vs) (hw : ∀ (i x : Nat), vs[i]? = some x → x < 4294967296) : ∃ A c, v = .slice A vs.length c ∧ vs.length ≤ c ∧ c ≤ maxLen ∧ Nats .u32 4294967296 w w.heap.size A vs := by
 rcases h.2 with ⟨rfl, hn⟩ | ⟨g, cap, cur, rfl, hg, hh, hc, hm, hs, ht⟩
 ·refine ⟨none, 0, by rw [hn], by omega, by simp, fun i z hz => ?_⟩
  have : vs = [] := List.eq_nil_of_length_eq_zero hn
  rw [this] at hz; simp at hz
 ·refine ⟨some ⟨g, 0, none⟩, cap, rfl, hc, hm, fun i z hz => ⟨hw i z hz, g, 0, rfl, ?_, ?_⟩⟩
  ·exact Blk.lt (w := w) (t := 52) (cs := cur) hh
  ·have hi : i < vs.length := (List.getElem?_eq_some_iff.1 hz).1
   have := World.ownsRow.cellAt h i (by omega)
   rw [Nat.zero_add, this, List.getElem?_map, hz]
   rfl

theorem Own32.at_ {w : World} {base : Nat} {A : Option Addr} {n c : Nat} {vs : List Nat} (h : Own32 w base (.slice A n c) vs) {i x : Nat} (hx : vs[i]? = some x) :
  ∃ g, A = some ⟨g, 0, none⟩ ∧ base ≤ g ∧ g < w.heap.size ∧ w.cell? ⟨g, i, none⟩ = some (.int .u32 (x : Int)) ∧ w.frozen? ⟨g, i, none⟩ = false ∧ ∀ y : Nat, Own32 (w.setCell ⟨g, i, none⟩ (.int .u32 (y : Int))) base (.slice A n c) (vs.set i y) := by
 have hi : i < vs.length := (List.getElem?_eq_some_iff.1 hx).1
 have h' := h
 rcases h.2 with ⟨hv, hn⟩ | ⟨g, cap, cur, hv, hg, hh, hc, hm, hs, ht⟩
 ·omega
 ·simp only [Value.slice.injEq] at hv
  obtain ⟨rfl, rfl, rfl⟩ := hv
  refine ⟨g, rfl, hg, Blk.lt (w := w) (t := 52) (cs := cur) hh, ?_, Blk.frozen (w := w) (t := 52) (cs := cur) hh i, fun y => ?_⟩
  ·have := World.ownsRow.cellAt h' i (by omega)
   rw [this, List.getElem?_map, hx]
   rfl
  ·have := (World.ownsRow.stored h' i (.int .u32 (y : Int))).1
   unfold Own32
   rw [List.length_set, List.map_set]
   exact this

theorem Own32.drewN {w : World} {base : Nat} {v : Value} {vs : List Nat} (h : Own32 w base v vs) (n : Nat) : Own32 (w.drewN n) base v vs := h
theorem Own32.drew {w : World} {base : Nat} {v : Value} {vs : List Nat} (h : Own32 w base v vs) : Own32 w.drew base v vs := h

end Fuse
end Go.Proofs.YtmiaabpnolebhaaGreatDoor
namespace Go.Proofs.YtmiaabpnolebhaaGreatDoor
open Go.RowKit

namespace Otp
def Tab (w : World) : Prop := TabAt 2 Lib.deBruijn32tab w
theorem Tab.below {B : Nat} {w w' : World} (h : Tab w) (hb : Below B w w') (hB : 2 < B) : Tab w' := fun j hj => (World.cell?_of_block (hb.block _ hB)).trans (h j hj)
theorem Tab.lt {w : World} (h : Tab w) : 2 < w.heap.size := cell_lt (h 0 (by decide))
theorem Tab.old {w w' : World} (h : Tab w) (hb : Below w.heap.size w w') : Tab w' := h.below hb h.lt
theorem Tab.frm {S : List Nat} {w w' : World} (h : Tab w) (hf : Frm S w w') (hS : 2 ∉ S) : Tab w' := fun j hj => (World.cell?_of_block (hf.block _ h.lt hS)).trans (h j hj)

end Otp
end Go.Proofs.YtmiaabpnolebhaaGreatDoor
namespace Go.Proofs.YtmiaabpnolebhaaGreatDoor
open Go.RowKit

namespace Otp
open Fuse
structure Cz (w : World) (c p b : Nat) (vs : List Nat) (ls : List Bool) (sd : Bool) : Prop where
 fz : Fz w p b vs ls
 len : vs.length = 64
 head : Blk w c 228 #[.pointer (some ⟨p, 0, none⟩), .bool sd]

variable {w w' : World} {c p b : Nat} {vs : List Nat} {ls : List Bool} {sd : Bool}
theorem Cz.frm {S : List Nat} (h : Cz w c p b vs ls sd) (hf : Frm S w w') (hc : c ∉ S) (hp : p ∉ S) (hb : b ∉ S) : Cz w' c p b vs ls sd := ⟨h.fz.frm hf hp hb, h.len, h.head.frm hf hc⟩
theorem Cz.below {B : Nat} (h : Cz w c p b vs ls sd) (hf : Below B w w') (hc : c < B) (hp : p < B) (hb : b < B) : Cz w' c p b vs ls sd := ⟨h.fz.below hf hp hb, h.len, h.head.below hf hc⟩
theorem Cz.old (h : Cz w c p b vs ls sd) (hf : Below w.heap.size w w') : Cz w' c p b vs ls sd := h.below hf h.head.lt h.fz.ltp h.fz.ltb
theorem Cz.drewN (h : Cz w c p b vs ls sd) (n : Nat) : Cz (w.drewN n) c p b vs ls sd := ⟨h.fz.drewN n, h.len, h.head⟩
theorem Cz.drew (h : Cz w c p b vs ls sd) : Cz w.drew c p b vs ls sd := ⟨h.fz.drew, h.len, h.head⟩
theorem Cz.alloc (h : Cz w c p b vs ls sd) (o : Obj) : Cz (w.alloc o) c p b vs ls sd := h.frm ((Frm.refl [] w).alloc o) (by simp) (by simp) (by simp)
theorem Cz.cell (h : Cz w c p b vs ls sd) : w.cell? ⟨c, 0, none⟩ = some (.pointer (some ⟨p, 0, none⟩)) ∧ w.cell? ⟨c, 1, none⟩ = some (.bool sd) :=
 ⟨by rw [h.head.cell]; rfl, by rw [h.head.cell]; rfl⟩

def z64 : List Nat := List.replicate 64 0
def f64 : List Bool := List.replicate 64 false
def NewOut (w : World) (e : Ending) (w' : World) : Prop := ∃ c p b, e = .returned (.pointer (some ⟨c, 0, none⟩)) ∧ Cz w' c p b z64 f64 false ∧ w.heap.size ≤ c ∧ w.heap.size ≤ p ∧ w.heap.size ≤ b ∧ Below w.heap.size w w'
theorem new_chip (w : World) : Calls Tryz.prog 60 #[] w (NewOut w) := by
 go_enter Tryz.func60, Tryz.ntmps60
 go_wp2_with fail
 (with_reducible refine (new_any 64 _ (by decide) (by decide)).mono ?_); rintro e w1 ⟨rfl, hz, hb, hs⟩
 have HZ := Lib.hid hz
 have HB := Lib.hid hb
 have hbl : w.heap.size ≤ w1.heap.size := hb.size
 clear hz hb hs
 go_wp2_with fail
 go_light
 go_ret
 have hz : Fz w1 (w.heap.size + 1) w.heap.size z64 f64 := HZ.out
 refine ⟨_, _, _, rfl, ⟨hz.frm ((Frm.refl [] _).alloc _) (by simp) (by simp), by decide, ?_⟩, hbl, by omega, by omega, HB.out.alloc hbl _⟩
 exact Blk.new _ _ _
end Otp
end Go.Proofs.YtmiaabpnolebhaaGreatDoor
