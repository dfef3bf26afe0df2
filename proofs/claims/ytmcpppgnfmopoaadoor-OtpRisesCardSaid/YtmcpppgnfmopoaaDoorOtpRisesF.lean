/-
  OtpRises, its arguments as the law's frame gives them.
-/
import Derived.Test.YtmcpppgnfmopoaaDoorFrame
import Derived.Test.YtmcpppgnfmopoaaDoorOtpActF
import Derived.Test.YtmcpppgnfmopoaaDoorOtpRises
namespace Go.Proofs.YtmcpppgnfmopoaaDoor
open Go.RowKit

namespace Otp
open Fuse
theorem fits_split : ∀ {a b : List (Option IntKind)} {x : List Value}, Fits (a ++ b) x → ∃ x1 x2, x = x1 ++ x2 ∧ Fits a x1 ∧ Fits b x2
  | [], _, x, h => ⟨[], x, rfl, trivial, h⟩
  | _ :: _, _, [], h => h.elim
  | _ :: _, _, v :: x, h => by
    obtain ⟨h1, h2⟩ := h
    obtain ⟨x1, x2, rfl, h3, h4⟩ := fits_split h2
    exact ⟨v :: x1, x2, rfl, ⟨h1, h3⟩, h4⟩
def actK : List (Option IntKind) := [some .u8, some .i64, some .u8, some .u8, some .u8, some .u8, some .u8, some .u8, some .u8, some .u8, some .u8, some .u8, some .u8, some .u8, some .u8, some .u8, some .u8, some .u8, some .u8, some .u8, some .u8, some .u8, some .u8, some .u8, some .u8, some .u8, some .u8, some .u8, some .u8, some .u8, some .u8, some .u8, some .u8, some .u8, some .u8, none, some .u32]
theorem act_row {r : List Value} (h : Fits actK r) : ∃ t : ActV, t.ok ∧ t.cells.toList = r := by
  have h' : Fits ([some .u8, some .i64] ++ (List.replicate 32 (some .u8) ++ [some .u8, none, some .u32])) r := h
  obtain ⟨x1, x2, rfl, h1, h2⟩ := fits_split h'
  obtain ⟨x3, x4, rfl, h3, h4⟩ := fits_split h2
  obtain ⟨v0, l0, rfl, ⟨d, rfl, hd⟩, h5⟩ := Fits.cons h1
  obtain ⟨v1, l1, rfl, ⟨n, rfl, hn⟩, h6⟩ := Fits.cons h5
  obtain rfl := Fits.nil h6
  obtain ⟨ks, rfl, hkl, hkw⟩ := Fits.all_int h3
  obtain ⟨v2, l2, rfl, ⟨m, rfl, hm⟩, h7⟩ := Fits.cons h4
  obtain ⟨v3, l3, rfl, h3', h8⟩ := Fits.cons h7
  obtain ⟨tn, rfl⟩ := h3'
  obtain ⟨v4, l4, rfl, ⟨g, rfl, hg⟩, h9⟩ := Fits.cons h8
  obtain rfl := Fits.nil h9
  have bd := bounds_u8 hd
  have bm := bounds_u8 hm
  have bg := bounds_u32 hg
  refine ⟨⟨d.toNat, n, ks.map Int.toNat, m.toNat, tn, g.toNat⟩, ⟨by simp only; omega, by simpa using hkl, u8_nats ks hkw, by simp only; omega, by simp only; omega⟩, ?_⟩
  unfold ActV.cells
  simp only [Int.toNat_of_nonneg bd.1, Int.toNat_of_nonneg bm.1, Int.toNat_of_nonneg bg.1]
  rw [← act_cells _ _ _ _ _ _ hkw]
  simp
theorem rows_actv {w : World} {a : Option Addr} {len cap : Nat} {rows : List (List Value)} (h : RowsOf w 37 actK a len cap rows) : ∃ l : List ActV, l.length = len ∧ len ≤ maxLen ∧ ActsR w w.heap.size a l := by
  rcases h with ⟨rfl, rfl, rfl, rfl⟩ | ⟨x, rfl, hl, hm, hr, hx⟩
  · exact ⟨[], rfl, Nat.zero_le _, fun i z hz => by simp at hz⟩
  · have hone : ∀ i, ∃ t : ActV, i < cap → t.ok ∧ ∀ (j : Nat) (v : Value), t.cells.toList[j]? = some v → w.cell? (x.add (i * 37 + j)) = some v := fun i => by
      rcases Nat.lt_or_ge i cap with hi | hi
      · obtain ⟨hf, hc⟩ := hx i (rows[i]'(by omega)) (List.getElem?_eq_getElem _)
        obtain ⟨t, ht, hr⟩ := act_row hf
        exact ⟨t, fun _ => ⟨ht, by rw [hr]; exact hc⟩⟩
      · exact ⟨⟨0, 0, [], 0, false, 0⟩, fun h' => absurd h' (by omega)⟩
    obtain ⟨f, hf⟩ : ∃ f : Nat → ActV, ∀ i, i < cap → (f i).ok ∧ ∀ (j : Nat) (v : Value), (f i).cells.toList[j]? = some v → w.cell? (x.add (i * 37 + j)) = some v :=
      ⟨fun i => Classical.choose (hone i), fun i => Classical.choose_spec (hone i)⟩
    refine ⟨(List.range len).map f, by simp, Nat.le_trans hl hm, fun i t ht => ?_⟩
    have hi : i < len := by have := (List.getElem?_eq_some_iff.1 ht).1; simpa using this
    rw [List.getElem?_map, List.getElem?_range hi] at ht
    obtain rfl := Option.some.inj ht
    obtain ⟨h1, h2⟩ := hf i (by omega)
    obtain ⟨b, off, spot⟩ := x
    have h34 := h2 34 (.int .u8 ((f i).m : Int)) (by rw [Array.getElem?_toList]; exact (ActV.tail h1).1)
    obtain ⟨h01, h02⟩ := hf 0 (by omega)
    have h00 := h02 0 (.int .u8 ((f 0).d : Int)) (by rw [Array.getElem?_toList]; exact actC_d)
    have hspot : spot = none := by simpa [Addr.add] using World.cell?_spot h00
    subst hspot
    refine ⟨h1, b, off, rfl, ?_, fun j v hv => ?_⟩
    · rw [Go.WideShapes.add_plain] at h34
      exact cell_lt h34
    · have := h2 j v hv
      rw [Go.WideShapes.add_plain] at this
      rw [Nat.add_assoc]
      exact this
theorem rises_frame (zs : List Int) (blank : Bool) (A : Option Addr) (len cap : Nat) (rows : List (List Value)) (W : World) (hT : Tab W) (hzl : zs.length = 64) (hzw : ∀ z ∈ zs, (Lit.int .u32 z).wf = true) (hr : RowsOf W 37 actK A len cap rows) :
    Calls Tryd.prog 9 #[.agg (zs.map (Value.int .u32)).toArray, .bool blank, .slice A len cap] W (TrueBelow W) := by
  obtain ⟨l, hl, hm, ha⟩ := rows_actv hr
  rw [c32_ints zs hzw]
  exact rises_any _ blank A len cap l W hT (by simpa using hzl) (u32_nats zs hzw) hl hm ha
end Otp
end Go.Proofs.YtmcpppgnfmopoaaDoor
