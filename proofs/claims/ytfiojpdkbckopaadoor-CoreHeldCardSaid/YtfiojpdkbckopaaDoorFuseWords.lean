/-
  Contracts of package fuse, more: Words.
-/
import Derived.Test.YtfiojpdkbckopaaDoorProg
import Derived.Test.YtfiojpdkbckopaaDoorJ55314620
import Derived.Test.YtfiojpdkbckopaaDoorJf017096b
import Derived.Maps.AppendAt
import Derived.Deep.LoopGhost
set_option linter.unusedSimpArgs false
set_option linter.unusedVariables false
namespace Go.Proofs.YtfiojpdkbckopaaDoor
open Go.RowKit

namespace Fuse
variable {p b : Nat} {vs : List Nat} {ls : List Bool}
/-- A slice of words of the call's own. -/
def Own32 (w : World) (base : Nat) (v : Value) (vs : List Nat) : Prop := w.ownsRow base 23 1 v vs.length (vs.map fun x => Value.int .u32 ((x : Nat) : Int))
theorem Own32.form {w : World} {base : Nat} {v : Value} {vs : List Nat} (h : Own32 w base v vs) (hw : ∀ (i x : Nat), vs[i]? = some x → x < 4294967296) : ∃ A c, v = .slice A vs.length c ∧ vs.length ≤ c ∧ c ≤ maxLen ∧ Nats .u32 4294967296 w w.heap.size A vs := by
  rcases h.2 with ⟨rfl, hn⟩ | ⟨g, cap, cur, rfl, hg, hh, hc, hm, hs, ht⟩
  · refine ⟨none, 0, by rw [hn], by omega, by simp, fun i z hz => ?_⟩
    have : vs = [] := List.eq_nil_of_length_eq_zero hn
    rw [this] at hz; simp at hz
  · refine ⟨some ⟨g, 0, none⟩, cap, rfl, hc, hm, fun i z hz => ⟨hw i z hz, g, 0, rfl, ?_, ?_⟩⟩
    · exact Blk.lt (w := w) (t := 23) (cs := cur) hh
    · have hi : i < vs.length := (List.getElem?_eq_some_iff.1 hz).1
      have := World.ownsRow.cellAt h i (by omega)
      rw [Nat.zero_add, this, List.getElem?_map, hz]
      rfl

theorem Own32.at_ {w : World} {base : Nat} {A : Option Addr} {n c : Nat} {vs : List Nat} (h : Own32 w base (.slice A n c) vs) {i x : Nat} (hx : vs[i]? = some x) :
    ∃ g, A = some ⟨g, 0, none⟩ ∧ base ≤ g ∧ g < w.heap.size ∧ w.cell? ⟨g, i, none⟩ = some (.int .u32 (x : Int)) ∧ w.frozen? ⟨g, i, none⟩ = false ∧ ∀ y : Nat, Own32 (w.setCell ⟨g, i, none⟩ (.int .u32 (y : Int))) base (.slice A n c) (vs.set i y) := by
  have hi : i < vs.length := (List.getElem?_eq_some_iff.1 hx).1
  have h' := h
  rcases h.2 with ⟨hv, hn⟩ | ⟨g, cap, cur, hv, hg, hh, hc, hm, hs, ht⟩
  · omega
  · simp only [Value.slice.injEq] at hv
    obtain ⟨rfl, rfl, rfl⟩ := hv
    refine ⟨g, rfl, hg, Blk.lt (w := w) (t := 23) (cs := cur) hh, ?_, Blk.frozen (w := w) (t := 23) (cs := cur) hh i, fun y => ?_⟩
    · have := World.ownsRow.cellAt h' i (by omega)
      rw [this, List.getElem?_map, hx]
      rfl
    · have := (World.ownsRow.stored h' i (.int .u32 (y : Int))).1
      unfold Own32
      rw [List.length_set, List.map_set]
      exact this

theorem Own32.nilc {w : World} {base : Nat} {A : Option Addr} {n c : Nat} {vs : List Nat} (h : Own32 w base (.slice A n c) vs) : (A = none → c = 0) ∧ ∃ S : List Nat, (∀ ad : Addr, A = some ad → ad.block ∈ S) ∧ ∀ x, x ∈ S → base ≤ x ∧ x < w.heap.size := by
  rcases h.2 with ⟨hv, hn⟩ | ⟨g, cap, cur, hv, hg, hh, hc, hm, hs, ht⟩
  · simp only [Value.slice.injEq] at hv
    exact ⟨fun _ => hv.2.2, [], ⟨(fun ad h => by rw [hv.1] at h; cases h), by simp⟩⟩
  · simp only [Value.slice.injEq] at hv
    obtain ⟨rfl, rfl, rfl⟩ := hv
    exact ⟨(fun h => by cases h), [g], (fun ad h => by cases h; simp), fun x hx => by simp at hx; subst hx; exact ⟨hg, Blk.lt (w := w) (t := 23) (cs := cur) hh⟩⟩

theorem Own32.drewN {w : World} {base : Nat} {v : Value} {vs : List Nat} (h : Own32 w base v vs) (n : Nat) : Own32 (w.drewN n) base v vs := h
theorem Own32.drew {w : World} {base : Nat} {v : Value} {vs : List Nat} (h : Own32 w base v vs) : Own32 w.drew base v vs := h

theorem u32_info : (Tryd.prog.info? 23).map (fun i => (i.zero, i.size, i.bytes)) = some (some (.int .u32 0), 1, 4) := by kernel_rfl

def WordsOut (w : World) (vs : List Nat) (e : Ending) (w' : World) : Prop := ∃ v, e = .returned v ∧ Own32 w' w.heap.size v vs ∧ Below w.heap.size w w'

end Fuse
end Go.Proofs.YtfiojpdkbckopaaDoor
