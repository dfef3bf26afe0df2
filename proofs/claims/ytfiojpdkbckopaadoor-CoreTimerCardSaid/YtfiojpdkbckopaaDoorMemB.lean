/-
  The reference's memory (curtilageref18): what New hands back. 
-/
import Derived.Test.YtfiojpdkbckopaaDoorCorM
import Derived.Test.YtfiojpdkbckopaaDoorJ68c09f72
import Derived.Test.YtfiojpdkbckopaaDoorMemC
set_option linter.unusedSimpArgs false
set_option linter.unusedVariables false
namespace Go.Proofs.YtfiojpdkbckopaaDoor
open Go.RowKit

namespace Core
open Otp Sha R1 Spc
def z4k : List Nat := List.replicate 4096 0
def z64 : List Nat := List.replicate 64 0
structure Ms (w : World) (B m b1 b2 b4 : Nat) (l1 : List Nat) : Prop where
  mm : Mm w m b1 b2 b4 l1 z4k z64
  hm : B ≤ m
  h1 : B ≤ b1
  h2 : B ≤ b2
  h4 : B ≤ b4
  n12 : b1 ≠ b2
  n14 : b1 ≠ b4
  n1m : b1 ≠ m
theorem Ms.old {w w' : World} {B m b1 b2 b4 : Nat} {l1 : List Nat} (h : Ms w B m b1 b2 b4 l1) (hb : Below w.heap.size w w') : Ms w' B m b1 b2 b4 l1 := ⟨h.mm.old hb, h.hm, h.h1, h.h2, h.h4, h.n12, h.n14, h.n1m⟩
theorem cell_frm {S : List Nat} {w w' : World} {m i : Nat} {v : Value} (h : w.cell? ⟨m, i, none⟩ = some v) (hf : Frm S w w') (hm : m < w.heap.size) (hS : m ∉ S) : w'.cell? ⟨m, i, none⟩ = some v := by
  have h2 := range_frm (S := S) (g := m) (o := i) (l := [v]) (w := w) (w' := w') (fun j x hx => by
    cases j with
    | zero => cases hx; exact h
    | succ j => cases hx) hf hm hS 0 v rfl
  exact h2
theorem Mm.frm {S : List Nat} {w w' : World} {m b1 b2 b4 : Nat} {l1 l2 l4 : List Nat} (h : Mm w m b1 b2 b4 l1 l2 l4) (hf : Frm S w w') (hm : m ∉ S) (h1 : b1 ∉ S) (h2 : b2 ∉ S) (h4 : b4 ∉ S) : Mm w' m b1 b2 b4 l1 l2 l4 :=
  ⟨cell_frm h.c1 hf h.lt hm, cell_frm h.c2 hf h.lt hm, cell_frm h.c4 hf h.lt hm, h.k1.frm hf h1, h.k2.frm hf h2, h.k4.frm hf h4, h.n1, h.n2, h.n4, Nat.lt_of_lt_of_le h.lt hf.size⟩
theorem Ms.frm {w w' : World} {B m b1 b2 b4 g : Nat} {l1 : List Nat} (h : Ms w B m b1 b2 b4 l1) (hf : Frm [g] w w') (hg : g < B) : Ms w' B m b1 b2 b4 l1 := by
  have e0 := h.hm
  have e1 := h.h1
  have e2 := h.h2
  have e4 := h.h4
  exact ⟨h.mm.frm hf (by simp; omega) (by simp; omega) (by simp; omega) (by simp; omega), h.hm, h.h1, h.h2, h.h4, h.n12, h.n14, h.n1m⟩
theorem nats_frm' {k : IntKind} {M : Nat} {w w' : World} {A : Option Addr} {l : List Nat} {S : List Nat} (h : Nats k M w w.heap.size A l) (hf : Frm S w w') (hS : ∀ ad : Addr, A = some ad → ad.block ∉ S) : Nats k M w' w'.heap.size A l := fun i z hz => by
  obtain ⟨h1, b, off, rfl, h3, h4⟩ := h i z hz
  exact ⟨h1, b, off, rfl, Nat.lt_of_lt_of_le h3 hf.size, cell_frm h4 hf h3 (hS _ rfl)⟩
theorem b8_set' (l : List Nat) (i x : Nat) : (b8 l).setIfInBounds i (.int .u8 (x : Int)) = b8 (l.set i x) := by
  simp [b8, List.map_set]
theorem splice_snoc {l p : List Nat} {i x : Nat} (h : p[i]? = some x) (hl : p.length ≤ l.length) : (splice l 0 (p.take i)).set i x = splice l 0 (p.take (i + 1)) := by
  have hi : i < p.length := (List.getElem?_eq_some_iff.1 h).1
  have e1 : (p.take i).length = i := by rw [List.length_take]; omega
  have e2 : (p.take (i + 1)).length = i + 1 := by rw [List.length_take]; omega
  unfold splice
  rw [List.take_zero, List.nil_append, List.nil_append, e1, e2, take_snoc h, List.set_append_right _ _ (by rw [e1]; exact Nat.le_refl _), e1, Nat.sub_self, Nat.zero_add, Nat.zero_add, List.append_assoc]
  congr 1
  rw [List.drop_eq_getElem_cons (by omega)]
  rfl
theorem Ms.put {w : World} {B m b1 b2 b4 : Nat} {l1 : List Nat} (h : Ms w B m b1 b2 b4 l1) (i x : Nat) (hx : x < 256) : Ms (w.setCell ⟨b1, i, none⟩ (.int .u8 (x : Int))) B m b1 b2 b4 (l1.set i x) := by
  have hk := h.mm.k1.set i (.int .u8 (x : Int))
  rw [b8_set'] at hk
  have f : Frm [b1] w (w.setCell ⟨b1, i, none⟩ (.int .u8 (x : Int))) := (Frm.refl _ _).setCell (p := ⟨b1, i, none⟩) (.inl (by simp)) _
  have e12 := h.n12
  have e14 := h.n14
  have e1m := h.n1m
  exact ⟨⟨cell_frm h.mm.c1 f h.mm.lt (by simp; exact fun e => e1m e.symm), cell_frm h.mm.c2 f h.mm.lt (by simp; exact fun e => e1m e.symm), cell_frm h.mm.c4 f h.mm.lt (by simp; exact fun e => e1m e.symm), hk, h.mm.k2.frm f (by simp; exact fun e => e12 e.symm), h.mm.k4.frm f (by simp; exact fun e => e14 e.symm), ⟨by rw [List.length_set]; exact h.mm.n1.1, fun y hy => (List.mem_or_eq_of_mem_set hy).elim (h.mm.n1.2 y) (fun e => by rw [e]; exact hx)⟩, h.mm.n2, h.mm.n4, Nat.lt_of_lt_of_le h.mm.lt f.size⟩, h.hm, h.h1, h.h2, h.h4, h.n12, h.n14, h.n1m⟩
def NewMs (w : World) (e : Ending) (w' : World) : Prop := ∃ m b1 b2 b4, e = .returned (.pointer (some ⟨m, 0, none⟩)) ∧ Ms w' w.heap.size m b1 b2 b4 z4k ∧ Below w.heap.size w w'
theorem rep_ok (n : Nat) : (List.replicate n 0).length = n ∧ ∀ x ∈ List.replicate n 0, x < 256 := ⟨List.length_replicate, fun x hx => by rw [List.eq_of_mem_replicate hx]; decide⟩
theorem mem_new (st : Int) (w : World) : Calls Tryd.prog 22 #[.int .i64 st] w (NewMs w) := by
  refine (M18.new_any st w).mono ?_
  rintro e w' ⟨g, b1, b2, b4, b5, b3, st', rfl, h, hg, hn, hB⟩
  refine ⟨g, b1, b2, b4, rfl, ⟨⟨?_, ?_, ?_, h.k1, h.k2, h.k4, rep_ok _, rep_ok _, rep_ok _, h.k.lt⟩, hg, h.h1, h.h2, h.h4, h.n12, h.n14, hn⟩, hB⟩
  · rw [h.k.cell]; rfl
  · rw [h.k.cell]; rfl
  · rw [h.k.cell]; rfl
end Core
end Go.Proofs.YtfiojpdkbckopaaDoor
