/-
  Instructions in a slice that came in; one that came in by value.
-/
import Derived.Test.YtgmomkinbfajkaaDoorFrame
import Derived.Test.YtgmomkinbfajkaaDoorRvJ
set_option linter.unusedSimpArgs false
set_option linter.unusedVariables false
namespace Go.Proofs.YtgmomkinbfajkaaDoor
open Go.RowKit

namespace Rv
open Otp Sha R1
def inK : List (Option IntKind) := [some .u8, some .u8, some .u8, some .u8, some .u32, some .u16]
theorem bounds_u16' {z : Int} (h : (Lit.int .u16 z).wf = true) : 0 ≤ z ∧ z < 65536 := by
  simp [Lit.wf, IntKind.min, IntKind.max, IntKind.signed, IntKind.bits] at h
  omega
theorem in_row {r : List Value} (h : Fits inK r) : ∃ q : In, q.Ok ∧ (inC q).toList = r := by
  obtain ⟨v0, l0, rfl, ⟨d, rfl, hd⟩, h1⟩ := Fits.cons h
  obtain ⟨v1, l1, rfl, ⟨n, rfl, hn⟩, h2⟩ := Fits.cons h1
  obtain ⟨v2, l2, rfl, ⟨m, rfl, hm⟩, h3⟩ := Fits.cons h2
  obtain ⟨v3, l3, rfl, ⟨k, rfl, hk⟩, h4⟩ := Fits.cons h3
  obtain ⟨v4, l4, rfl, ⟨i, rfl, hi⟩, h5⟩ := Fits.cons h4
  obtain ⟨v5, l5, rfl, ⟨c, rfl, hc⟩, h6⟩ := Fits.cons h5
  obtain rfl := Fits.nil h6
  have bd := bounds_u8 hd
  have bn := bounds_u8 hn
  have bm := bounds_u8 hm
  have bk := bounds_u8 hk
  have bi := bounds_u32 hi
  have bc := bounds_u16' hc
  refine ⟨⟨d.toNat, n.toNat, m.toNat, k.toNat, i.toNat, c.toNat⟩, ⟨by simp only; omega, by simp only; omega, by simp only; omega, by simp only; omega, by simp only; omega, by simp only; omega⟩, ?_⟩
  unfold inC
  simp only [Int.toNat_of_nonneg bd.1, Int.toNat_of_nonneg bn.1, Int.toNat_of_nonneg bm.1, Int.toNat_of_nonneg bk.1, Int.toNat_of_nonneg bi.1, Int.toNat_of_nonneg bc.1]
theorem rows_in {w : World} {a : Option Addr} {len cap : Nat} {rows : List (List Value)} (h : RowsOf w 6 inK a len cap rows) : ∃ l : List In, l.length = len ∧ len ≤ cap ∧ cap ≤ maxLen ∧ InsIn w w.heap.size a l := by
  rcases h with ⟨rfl, rfl, rfl, rfl⟩ | ⟨x, rfl, hl, hm, hr, hx⟩
  · exact ⟨[], rfl, Nat.le_refl _, Nat.zero_le _, fun i z hz => by simp at hz⟩
  · have hone : ∀ i, ∃ t : In, i < cap → t.Ok ∧ ∀ (j : Nat) (v : Value), (inC t).toList[j]? = some v → w.cell? (x.add (i * 6 + j)) = some v := fun i => by
      rcases Nat.lt_or_ge i cap with hi | hi
      · obtain ⟨hf, hc⟩ := hx i (rows[i]'(by omega)) (List.getElem?_eq_getElem _)
        obtain ⟨t, ht, hr⟩ := in_row hf
        exact ⟨t, fun _ => ⟨ht, by rw [hr]; exact hc⟩⟩
      · exact ⟨⟨0, 0, 0, 0, 0, 0⟩, fun h' => absurd h' (by omega)⟩
    obtain ⟨f, hf⟩ : ∃ f : Nat → In, ∀ i, i < cap → (f i).Ok ∧ ∀ (j : Nat) (v : Value), (inC (f i)).toList[j]? = some v → w.cell? (x.add (i * 6 + j)) = some v :=
      ⟨fun i => Classical.choose (hone i), fun i => Classical.choose_spec (hone i)⟩
    refine ⟨(List.range len).map f, by simp, hl, hm, fun i t ht => ?_⟩
    have hi : i < len := by have := (List.getElem?_eq_some_iff.1 ht).1; simpa using this
    rw [List.getElem?_map, List.getElem?_range hi] at ht
    obtain rfl := Option.some.inj ht
    obtain ⟨h1, h2⟩ := hf i (by omega)
    obtain ⟨b, off, spot⟩ := x
    obtain ⟨h01, h02⟩ := hf 0 (by omega)
    have h00 := h02 0 (.int .u8 ((f 0).op : Int)) rfl
    have hspot : spot = none := by simpa [Addr.add] using World.cell?_spot h00
    subst hspot
    have h30 := h2 0 (.int .u8 ((f i).op : Int)) rfl
    rw [Go.WideShapes.add_plain] at h30
    refine ⟨h1, b, off, rfl, cell_lt h30, fun j v hv => ?_⟩
    have := h2 j v hv
    rw [Go.WideShapes.add_plain] at this
    rw [Nat.add_assoc]
    exact this
theorem ins_take {w : World} {B : Nat} {A : Option Addr} {l : List In} (h : InsIn w B A l) (n : Nat) : InsIn w B A (l.take n) := fun j z hz => by
  rw [List.getElem?_take] at hz
  split at hz
  · exact h j z hz
  · cases hz
theorem ins_below {w w' : World} {B : Nat} {A : Option Addr} {l : List In} (h : InsIn w B A l) (hb : Below B w w') : InsIn w' B A l := fun j z hz => by
  obtain ⟨h1, b, off, h2, h3, h4⟩ := h j z hz
  exact ⟨h1, b, off, h2, h3, range_below h4 h3 hb⟩
end Rv
end Go.Proofs.YtgmomkinbfajkaaDoor
