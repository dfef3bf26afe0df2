/-
  Contracts of package fuse, more: outside, and slices.ContainsFunc over it; Set.
-/
import Derived.Test.YtmcpppgnfmopoaaProg
import Derived.Test.YtmcpppgnfmopoaaMem
import Derived.Test.YtmcpppgnfmopoaaFuse3
import Derived.Deep.LoopGhost
namespace Go.Proofs.Ytmcpppgnfmopoaa
open Go.RowKit

namespace Fuse
variable {p b : Nat} {vs : List Nat} {ls : List Bool}

def outB (n : Nat) (i : Int) : Bool := !decide (0 ≤ i ∧ i < 32 * n)
set_option maxHeartbeats 400000 in
theorem outside_any (i : Int) (v : Bool) (w : World) (h : Fz w p b vs ls) (hv : outB vs.length i = v) : Calls Try.prog 33 #[.pointer (some ⟨p, 0, none⟩), .int .i64 i] w fun e w' => e = .returned (.bool v) ∧ w = w' := by
  obtain ⟨c, hc, hp⟩ := h.cell0
  have hm := h.most
  have hvv : v = true ↔ ¬ (0 ≤ i ∧ i < 32 * vs.length) := by rw [← hv]; simp [outB]; omega
  have HV := Lib.hid hvv
  clear hv hvv
  by_cases h0 : i < 0
  · have : v = true := HV.out.2 (by omega)
    subst this
    go_enter Try.func33, Try.ntmps33
    go_wp2
    all_goals go_light
    all_goals go_ret
    all_goals exact ⟨rfl, rfl⟩
  · by_cases h1 : (32 : Int) * vs.length ≤ i
    · have : v = true := HV.out.2 (by omega)
      subst this
      go_enter Try.func33, Try.ntmps33
      go_wp2
      all_goals go_light
      all_goals go_ret
      all_goals exact ⟨rfl, rfl⟩
    · have : v = false := by
        cases v with
        | false => rfl
        | true => have := HV.out.1 rfl; omega
      subst this
      have h0' : 0 ≤ i := by omega
      have h1' : i < (32 : Int) * vs.length := by omega
      go_enter Try.func33, Try.ntmps33
      go_wp2
      all_goals go_light
      all_goals go_ret
      all_goals exact ⟨rfl, rfl⟩

/-- slices.IndexFunc over 'outside'. -/
def ixOf (n : Nat) (zs : List Int) : Int := match zs.findIdx? (outB n) with | some k => (k : Int) | none => -1

set_option maxHeartbeats 400000 in
theorem index_any (a : Option Addr) (len cap : Nat) (zs : List Int) (B : Nat) (w : World) (h : Fz w p b vs ls) (hz : Ints .i64 w B a zs) (hl : zs.length = len) (hm : len ≤ 9223372036854775807) :
    Calls Try.prog 36 #[.slice a len cap, .func (.func 33) #[.pointer (some ⟨p, 0, none⟩)] #[]] w fun e w' => e = .returned (.int .i64 (ixOf vs.length zs)) ∧ w = w' := by
  have HZ := Lib.hid hz
  have HL := Lib.hid hl
  clear hz hl
  go_enter Try.func36, Try.ntmps36
  go_wp2_with fail
  go_loop [8] (fun s8 => ∃ i : Nat, i ≤ len ∧ s8 = .int .i64 (i : Int) ∧ Hid (∀ j (z : Int), j < i → zs[j]? = some z → outB vs.length z = false)) (fun s8 => len - (intOf s8).toNat)
  case atStart => exact ⟨0, Nat.zero_le _, rfl, fun j z hj _ => absurd hj (by omega)⟩
  case round =>
    obtain ⟨i, hi, rfl, hB⟩ := hrel
    by_cases hlt : i < len
    · have hlz : i < zs.length := by rw [HL.out]; exact hlt
      obtain ⟨hx, bb, off, rfl, hbl, hcell⟩ := HZ.out i zs[i] (List.getElem?_eq_getElem _)
      have hgz : zs[i]? = some zs[i] := List.getElem?_eq_getElem _
      have HGZ := Lib.hid hgz
      clear hgz
      generalize zs[i] = z at *
      cases ho : outB vs.length z with
      | true =>
        have HO := Lib.hid ho
        clear ho
        go_wp2_with (go_at_call 33; (with_reducible refine (outside_any z true _ h HO.out).mono ?_); rintro e w' ⟨rfl, rfl⟩)
        go_light
        go_ret
        have e : ixOf vs.length zs = (i : Int) := by
          have : zs.findIdx? (outB vs.length) = some i := by
            rw [List.findIdx?_eq_some_iff_getElem]
            refine ⟨hlz, ?_, fun j hj => ?_⟩
            · have := HGZ.out; rw [List.getElem?_eq_getElem hlz] at this; rw [Option.some.inj this]; exact HO.out
            · have := hB.out j (zs[j]'(by omega)) hj (List.getElem?_eq_getElem _); simp [this]
          simp [ixOf, this]
        rw [e]
        exact ⟨rfl, rfl⟩
      | false =>
        have HO := Lib.hid ho
        clear ho
        go_wp2_with (go_at_call 33; (with_reducible refine (outside_any z false _ h HO.out).mono ?_); rintro e w' ⟨rfl, rfl⟩)
        go_light
        go_round
        case rel =>
          refine ⟨i + 1, by omega, by go_num, fun j y hj hy => ?_⟩
          rcases Nat.lt_or_ge j i with hji | hji
          · exact hB.out j y hji hy
          · obtain rfl : j = i := by omega
            have := HGZ.out.symm.trans hy
            rw [← Option.some.inj this]
            exact HO.out
        case measure => simp [intOf]; omega
    · go_wp2_with fail
      go_light
      go_ret
      have e : ixOf vs.length zs = -1 := by
        have : zs.findIdx? (outB vs.length) = none := by
          rw [List.findIdx?_eq_none_iff]
          intro z hz
          obtain ⟨j, hj, rfl⟩ := List.getElem_of_mem hz
          exact hB.out j _ (by have := HL.out; omega) (List.getElem?_eq_getElem hj)
        simp [ixOf, this]
      rw [e]
      exact ⟨rfl, rfl⟩

def anyOut (n : Nat) (zs : List Int) : Bool := zs.any (outB n)
theorem ixOf_any (n : Nat) (zs : List Int) : decide (0 ≤ ixOf n zs) = anyOut n zs := by
  unfold ixOf anyOut
  cases h : zs.findIdx? (outB n) with
  | none =>
    have h2 : zs.any (outB n) = false := by
      rw [List.findIdx?_eq_none_iff] at h
      simpa using h
    simp [h2]
  | some k =>
    have h2 : zs.any (outB n) = true := by
      rw [List.findIdx?_eq_some_iff_getElem] at h
      obtain ⟨hk, h3, _⟩ := h
      exact List.any_eq_true.2 ⟨_, List.getElem_mem hk, h3⟩
    rw [h2]
    simp only [decide_eq_true_eq]
    omega

set_option maxHeartbeats 400000 in
theorem contains_any (a : Option Addr) (len cap : Nat) (zs : List Int) (B : Nat) (w : World) (h : Fz w p b vs ls) (hz : Ints .i64 w B a zs) (hl : zs.length = len) (hm : len ≤ 9223372036854775807) :
    Calls Try.prog 32 #[.slice a len cap, .func (.func 33) #[.pointer (some ⟨p, 0, none⟩)] #[]] w fun e w' => e = .returned (.bool (anyOut vs.length zs)) ∧ w = w' := by
  have e1 := Lib.hid (ixOf_any vs.length zs)
  go_enter Try.func32, Try.ntmps32
  go_wp2_with (go_at_call 36; (with_reducible refine (index_any a len cap zs B _ h hz hl hm).mono ?_); rintro e w' ⟨rfl, rfl⟩)
  go_light
  go_ret
  exact ⟨by rw [← e1.out]; rfl, rfl⟩
end Fuse
end Go.Proofs.Ytmcpppgnfmopoaa
