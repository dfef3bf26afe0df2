/-
  A slice of acts that came in.
-/
import Derived.Test.YtmcpppgnfmopoaaFrame
import Derived.Test.YtmcpppgnfmopoaaPlays
namespace Go.Proofs.Ytmcpppgnfmopoaa
open Go.RowKit

namespace Fuse
theorem rows_acts {w : World} {a : Option Addr} {len cap : Nat} {rows : List (List Value)} (h : RowsOf w 5 [some .u8, some .i64, some .i64, some .u32, some .u32] a len cap rows) : ∃ l : List ActD, l.length = len ∧ len ≤ maxLen ∧ Acts w w.heap.size a l := by
  rcases h with ⟨rfl, rfl, rfl, rfl⟩ | ⟨x, rfl, hl, hm, hr, hx⟩
  · exact ⟨[], rfl, Nat.zero_le _, fun i z hz => by simp at hz⟩
  · have hone : ∀ i, i < cap → ∃ t : ActD, t.ok ∧ w.cell? (x.add (i * 5)) = some (.int .u8 t.k) ∧ w.cell? (x.add (i * 5 + 1)) = some (.int .i64 t.i) ∧ w.cell? (x.add (i * 5 + 2)) = some (.int .i64 t.j) ∧ w.cell? (x.add (i * 5 + 3)) = some (.int .u32 t.v) ∧ w.cell? (x.add (i * 5 + 4)) = some (.int .u32 t.g) := fun i hi => by
      obtain ⟨hf, hc⟩ := hx i (rows[i]'(by omega)) (List.getElem?_eq_getElem _)
      obtain ⟨v0, l0, e0, ⟨k, rfl, hk⟩, hf1⟩ := Fits.cons hf
      obtain ⟨v1, l1, rfl, ⟨i', rfl, hi'⟩, hf2⟩ := Fits.cons hf1
      obtain ⟨v2, l2, rfl, ⟨j, rfl, hj⟩, hf3⟩ := Fits.cons hf2
      obtain ⟨v3, l3, rfl, ⟨v, rfl, hv⟩, hf4⟩ := Fits.cons hf3
      obtain ⟨v4, l4, rfl, ⟨g, rfl, hg⟩, _⟩ := Fits.cons hf4
      have hk2 := bounds_u8 hk
      have hv2 := bounds_u32 hv
      have hg2 := bounds_u32 hg
      have hi2 := bounds_i64 hi'
      have hj2 := bounds_i64 hj
      refine ⟨⟨k, i', j, v, g⟩, ⟨hk2.1, hi', hj, hv2.1, by have := hv2.2; simp only; omega, hg2.1, by have := hg2.2; simp only; omega, hi2.2, hj2.2⟩, ?_, ?_, ?_, ?_, ?_⟩
      · exact hc 0 _ (by rw [e0]; rfl)
      · exact hc 1 _ (by rw [e0]; rfl)
      · exact hc 2 _ (by rw [e0]; rfl)
      · exact hc 3 _ (by rw [e0]; rfl)
      · exact hc 4 _ (by rw [e0]; rfl)
    have hone' : ∀ i, ∃ t : ActD, i < cap → t.ok ∧ w.cell? (x.add (i * 5)) = some (.int .u8 t.k) ∧ w.cell? (x.add (i * 5 + 1)) = some (.int .i64 t.i) ∧ w.cell? (x.add (i * 5 + 2)) = some (.int .i64 t.j) ∧ w.cell? (x.add (i * 5 + 3)) = some (.int .u32 t.v) ∧ w.cell? (x.add (i * 5 + 4)) = some (.int .u32 t.g) := fun i => by
      rcases Nat.lt_or_ge i cap with h | h
      · obtain ⟨t, ht⟩ := hone i h
        exact ⟨t, fun _ => ht⟩
      · exact ⟨⟨0, 0, 0, 0, 0⟩, fun h' => absurd h' (by omega)⟩
    obtain ⟨f, hf⟩ : ∃ f : Nat → ActD, ∀ i, i < cap → (f i).ok ∧ w.cell? (x.add (i * 5)) = some (.int .u8 (f i).k) ∧ w.cell? (x.add (i * 5 + 1)) = some (.int .i64 (f i).i) ∧ w.cell? (x.add (i * 5 + 2)) = some (.int .i64 (f i).j) ∧ w.cell? (x.add (i * 5 + 3)) = some (.int .u32 (f i).v) ∧ w.cell? (x.add (i * 5 + 4)) = some (.int .u32 (f i).g) :=
      ⟨fun i => Classical.choose (hone' i), fun i => Classical.choose_spec (hone' i)⟩
    refine ⟨(List.range len).map f, by simp, Nat.le_trans hl hm, fun i t ht => ?_⟩
    have hi : i < len := by have := (List.getElem?_eq_some_iff.1 ht).1; simpa using this
    rw [List.getElem?_map, List.getElem?_range hi] at ht
    obtain rfl := Option.some.inj ht
    obtain ⟨h1, h2, h3, h4, h5, h6⟩ := hf i (by omega)
    obtain ⟨_, h20, _⟩ := hf 0 (by omega)
    obtain ⟨b, off, spot⟩ := x
    have hspot : spot = none := by simpa [Addr.add] using World.cell?_spot h20
    subst hspot
    rw [Go.WideShapes.add_plain] at h2 h3 h4 h5 h6
    exact ⟨h1, b, off, rfl, cell_lt h2, h2, h3, h4, h5, h6⟩
end Fuse
end Go.Proofs.Ytmcpppgnfmopoaa
