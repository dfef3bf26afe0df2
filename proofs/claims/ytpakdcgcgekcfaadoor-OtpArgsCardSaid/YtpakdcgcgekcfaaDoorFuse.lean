/-
  Contracts of package fuse: an Array in memory ('Fz': its words, which are locked), and what New, there, Read, Cut, Program, Lock, Locked, Len make of it.
-/
import Derived.Test.YtpakdcgcgekcfaaDoorProg
import Derived.Test.YtpakdcgcgekcfaaDoorMem
import Derived.Deep.LoopGhost
namespace Go.Proofs.YtpakdcgcgekcfaaDoor
open Go.RowKit

namespace Fuse
/-- The array behind pointer p: its words lie in block b; vs: the words, ls: which are locked. -/
structure Fz (w : World) (p b : Nat) (vs : List Nat) (ls : List Bool) : Prop where
  len : ls.length = vs.length
  most : vs.length ≤ 4096
  word : ∀ (i : Nat) (x : Nat), vs[i]? = some x → x < 4294967296
  head : ∃ c, vs.length ≤ c ∧ Blk w p 127 #[.slice (some ⟨b, 0, none⟩) vs.length c]
  row : ∃ cs, Blk w b 129 cs ∧ (∀ (i : Nat) (x : Nat), vs[i]? = some x → cs[i * 2]? = some (.int .u32 (x : Int))) ∧ (∀ (i : Nat) (x : Bool), ls[i]? = some x → cs[i * 2 + 1]? = some (.bool x))

variable {w w' : World} {p b : Nat} {vs : List Nat} {ls : List Bool}
theorem Fz.ne (h : Fz w p b vs ls) : p ≠ b := by
  obtain ⟨c, _, h1⟩ := h.head
  obtain ⟨cs, h2, _⟩ := h.row
  exact h1.ne h2 (by decide)
theorem Fz.frm {S : List Nat} (h : Fz w p b vs ls) (hf : Frm S w w') (hp : p ∉ S) (hb : b ∉ S) : Fz w' p b vs ls := by
  obtain ⟨c, hc, h1⟩ := h.head
  obtain ⟨cs, h2, h3, h4⟩ := h.row
  exact ⟨h.len, h.most, h.word, ⟨c, hc, h1.frm hf hp⟩, ⟨cs, h2.frm hf hb, h3, h4⟩⟩
theorem Fz.drew (h : Fz w p b vs ls) : Fz w.drew p b vs ls := ⟨h.len, h.most, h.word, h.head, h.row⟩
theorem Fz.drewN (h : Fz w p b vs ls) (n : Nat) : Fz (w.drewN n) p b vs ls := ⟨h.len, h.most, h.word, h.head, h.row⟩
theorem Fz.ltp (h : Fz w p b vs ls) : p < w.heap.size := by
  obtain ⟨c, _, h1⟩ := h.head
  exact h1.lt
theorem Fz.ltb (h : Fz w p b vs ls) : b < w.heap.size := by
  obtain ⟨cs, h2, _⟩ := h.row
  exact h2.lt
theorem Fz.below {B : Nat} (h : Fz w p b vs ls) (hf : Below B w w') (hp : p < B) (hb : b < B) : Fz w' p b vs ls := by
  obtain ⟨c, hc, h1⟩ := h.head
  obtain ⟨cs, h2, h3, h4⟩ := h.row
  exact ⟨h.len, h.most, h.word, ⟨c, hc, h1.below hf hp⟩, ⟨cs, h2.below hf hb, h3, h4⟩⟩
theorem Fz.set (h : Fz w p b vs ls) {i : Nat} (hi : i < vs.length) (x : Nat) (hx : x < 4294967296) : Fz (w.setCell ⟨b, i * 2, none⟩ (.int .u32 (x : Int))) p b (vs.set i x) ls := by
  obtain ⟨c, hc, h1⟩ := h.head
  obtain ⟨cs, h2, h3, h4⟩ := h.row
  refine ⟨by simpa using h.len, by simpa using h.most, ?_, ⟨c, by simpa using hc, by simpa using h1.far' b (i * 2) h.ne _⟩, ⟨_, h2.set (i * 2) _, ?_, ?_⟩⟩
  · intro j y hy
    rw [List.getElem?_set] at hy; simp only [hi, if_true] at hy
    split at hy
    · cases hy; exact hx
    · exact h.word j y hy
  · intro j y hy
    rw [List.getElem?_set] at hy; simp only [hi, if_true] at hy
    split at hy
    · rename_i hij
      subst hij
      cases hy
      have := h3 i vs[i] (List.getElem?_eq_getElem hi)
      have hlt := (Array.getElem?_eq_some_iff.1 this).1
      simp [hlt]
    · rw [Array.getElem?_setIfInBounds_ne (by omega)]
      exact h3 j y hy
  · intro j y hy
    rw [Array.getElem?_setIfInBounds_ne (by omega)]
    exact h4 j y hy
theorem Fz.lock (h : Fz w p b vs ls) {i : Nat} (hi : i < vs.length) (x : Bool) : Fz (w.setCell ⟨b, i * 2 + 1, none⟩ (.bool x)) p b vs (ls.set i x) := by
  obtain ⟨c, hc, h1⟩ := h.head
  obtain ⟨cs, h2, h3, h4⟩ := h.row
  refine ⟨by simpa using h.len, h.most, h.word, ⟨c, hc, h1.far' b (i * 2 + 1) h.ne _⟩, ⟨_, h2.set (i * 2 + 1) _, ?_, ?_⟩⟩
  · intro j y hy
    rw [Array.getElem?_setIfInBounds_ne (by omega)]
    exact h3 j y hy
  · intro j y hy
    rw [List.getElem?_set] at hy; simp only [h.len, hi, if_true] at hy
    split at hy
    · rename_i hij
      subst hij
      cases hy
      have := h4 i (ls[i]'(by rw [h.len]; exact hi)) (List.getElem?_eq_getElem _)
      have hlt := (Array.getElem?_eq_some_iff.1 this).1
      simp [hlt]
    · rw [Array.getElem?_setIfInBounds_ne (by omega)]
      exact h4 j y hy

/-- What a walk is told of an array: the head's cell, a word's two cells. -/
theorem Fz.cell0 (h : Fz w p b vs ls) : ∃ c, vs.length ≤ c ∧ w.cell? ⟨p, 0, none⟩ = some (.slice (some ⟨b, 0, none⟩) vs.length c) := by
  obtain ⟨c, hc, h1⟩ := h.head
  exact ⟨c, hc, by rw [h1.cell]; rfl⟩
theorem Fz.cellv (h : Fz w p b vs ls) {i : Nat} (hi : i < vs.length) : w.cell? ⟨b, i * 2, none⟩ = some (.int .u32 ((vs[i] : Nat) : Int)) ∧ w.frozen? ⟨b, i * 2, none⟩ = false := by
  obtain ⟨cs, h2, h3, _⟩ := h.row
  exact ⟨by rw [h2.cell]; exact h3 i _ (List.getElem?_eq_getElem hi), h2.frozen _⟩
theorem Fz.celll (h : Fz w p b vs ls) {i : Nat} (hi : i < vs.length) : w.cell? ⟨b, i * 2 + 1, none⟩ = some (.bool (ls[i]'(by rw [h.len]; exact hi))) ∧ w.frozen? ⟨b, i * 2 + 1, none⟩ = false := by
  obtain ⟨cs, h2, _, h4⟩ := h.row
  exact ⟨by rw [h2.cell]; exact h4 i _ (List.getElem?_eq_getElem _), h2.frozen _⟩

theorem Fz.at_ (h : Fz w p b vs ls) {i : Nat} (hi : i < vs.length) : ∃ x l, vs[i]? = some x ∧ ls[i]? = some l ∧ x < 4294967296 ∧ w.cell? ⟨b, i * 2, none⟩ = some (.int .u32 ((x : Nat) : Int)) ∧ w.cell? ⟨b, i * 2 + 1, none⟩ = some (.bool l) :=
  ⟨vs[i], ls[i]'(by rw [h.len]; exact hi), List.getElem?_eq_getElem hi, List.getElem?_eq_getElem _, h.word i _ (List.getElem?_eq_getElem hi), (h.cellv hi).1, (h.celll hi).1⟩

def inR (vs : List Nat) (i : Int) : Bool := decide (0 ≤ i ∧ i < vs.length)
def thr (vs : List Nat) (i : Int) : Int := if inR vs i = true then 0 else 9

set_option maxHeartbeats 400000 in
theorem there_in (i : Nat) (w : World) (h : Fz w p b vs ls) (hi : i < vs.length) : Calls Tryd.prog 101 #[.pointer (some ⟨p, 0, none⟩), .int .i64 (i : Int)] w fun e w' => e = .returned (.int .i64 0) ∧ w = w' := by
  obtain ⟨c, hc, hp⟩ := h.cell0
  have hm := h.most
  go_enter Tryd.func101, Tryd.ntmps101
  go_wp2
  all_goals go_light
  all_goals go_ret
  all_goals exact ⟨rfl, rfl⟩
set_option maxHeartbeats 400000 in
theorem there_out (i : Int) (w : World) (h : Fz w p b vs ls) (hi : i < 0 ∨ (vs.length : Int) ≤ i) : Calls Tryd.prog 101 #[.pointer (some ⟨p, 0, none⟩), .int .i64 i] w fun e w' => e = .returned (.int .i64 9) ∧ w = w' := by
  obtain ⟨c, hc, hp⟩ := h.cell0
  have hm := h.most
  by_cases h0 : i < 0
  · go_enter Tryd.func101, Tryd.ntmps101
    go_wp2
    all_goals go_light
    all_goals go_ret
    all_goals exact ⟨rfl, rfl⟩
  · have h1 : (vs.length : Int) ≤ i := by omega
    clear hi
    go_enter Tryd.func101, Tryd.ntmps101
    go_wp2
    all_goals go_light
    all_goals go_ret
    all_goals exact ⟨rfl, rfl⟩
set_option maxHeartbeats 400000 in
theorem there_nil (i : Int) (w : World) : Calls Tryd.prog 101 #[.pointer none, .int .i64 i] w fun e w' => e = .returned (.int .i64 3) ∧ w = w' := by
  go_enter Tryd.func101, Tryd.ntmps101
  go_wp2
  all_goals go_light
  all_goals go_ret
  all_goals exact ⟨rfl, rfl⟩
end Fuse
end Go.Proofs.YtpakdcgcgekcfaaDoor
