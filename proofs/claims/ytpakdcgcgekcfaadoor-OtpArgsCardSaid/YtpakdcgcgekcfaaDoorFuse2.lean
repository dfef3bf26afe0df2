/-
  Contracts of package fuse, more: Read, Cut, Program, Lock, Locked, Len, New.
-/
import Derived.Test.YtpakdcgcgekcfaaDoorProg
import Derived.Test.YtpakdcgcgekcfaaDoorMem
import Derived.Test.YtpakdcgcgekcfaaDoorFuse
import Derived.Deep.LoopGhost
namespace Go.Proofs.YtpakdcgcgekcfaaDoor
open Go.RowKit

namespace Fuse
variable {w w' : World} {p b : Nat} {vs : List Nat} {ls : List Bool}

/-- What Read answers. -/
def rdV (vs : List Nat) (ls : List Bool) (i : Int) : Int := if inR vs i = true then (if ls[i.toNat]? = some true then 0 else ((vs[i.toNat]?.getD 0 : Nat) : Int)) else 0
def rdE (vs : List Nat) (ls : List Bool) (i : Int) : Int := if inR vs i = true then (if ls[i.toNat]? = some true then 12 else 0) else 9
theorem inR_cases (vs : List Nat) (i : Int) : (∃ k : Nat, i = k ∧ k < vs.length ∧ inR vs i = true) ∨ ((i < 0 ∨ (vs.length : Int) ≤ i) ∧ inR vs i = false) := by
  by_cases h : 0 ≤ i ∧ i < vs.length
  · obtain ⟨k, rfl⟩ := Int.eq_ofNat_of_zero_le h.1
    exact .inl ⟨k, rfl, by omega, by simp only [inR]; exact decide_eq_true h⟩
  · exact .inr ⟨by omega, by simp only [inR]; exact decide_eq_false h⟩


/-- What Cut answers, and leaves. -/
def cutE (vs : List Nat) (i : Int) (v : Nat) : Int := if inR vs i = true then (if (vs[i.toNat]?.getD 0) &&& (4294967295 - v) = 0 then 0 else 11) else 9
def cutV (vs : List Nat) (i : Int) (v g : Nat) : List Nat := if cutE vs i v = 0 then vs.set i.toNat (vs[i.toNat]?.getD 0 ||| (v &&& g)) else vs

set_option maxHeartbeats 400000 in
theorem cut_any (i v g : Int) (w : World) (h : Fz w p b vs ls) (hv0 : 0 ≤ v) (hv1 : v < 4294967296) (hg0 : 0 ≤ g) (hg1 : g < 4294967296) :
    Calls Tryd.prog 80 #[.pointer (some ⟨p, 0, none⟩), .int .i64 i, .int .u32 v, .int .u32 g] w fun e w' => e = .returned (.int .i64 (cutE vs i v.toNat)) ∧ Fz w' p b (cutV vs i v.toNat g.toNat) ls ∧ Frm [b] w w' := by
  obtain ⟨v, rfl⟩ := Int.eq_ofNat_of_zero_le hv0
  obtain ⟨g, rfl⟩ := Int.eq_ofNat_of_zero_le hg0
  simp only [Int.toNat_natCast]
  rcases inR_cases vs i with ⟨k, rfl, hk, hr⟩ | ⟨ho, hr⟩
  · obtain ⟨c, hc, hp⟩ := h.cell0
    obtain ⟨hv, hf⟩ := h.cellv hk
    have hm := h.most
    have hx := h.word k _ (List.getElem?_eq_getElem hk)
    have b1 := u32_andNot_nat vs[k] v hx (by omega)
    have b2 := u32_and_nat v g (by omega) (by omega)
    have hvg : v &&& g < 4294967296 := Nat.lt_of_le_of_lt Nat.and_le_left (by omega)
    have b3 := u32_or_nat vs[k] (v &&& g) hx hvg
    have hor : vs[k] ||| (v &&& g) < 4294967296 := Nat.or_lt_two_pow (n := 32) hx hvg
    have e1 : cutE vs k v = if vs[k] &&& (4294967295 - v) = 0 then 0 else 11 := by simp [cutE, hr, hk]
    have e2 : cutE vs k v = 0 → cutV vs k v g = vs.set k (vs[k] ||| (v &&& g)) := fun h0 => by simp [cutV, h0, hk]
    have e3 : cutE vs k v ≠ 0 → cutV vs k v g = vs := fun h0 => by simp [cutV, h0]
    have hset := h.set hk (vs[k] ||| (v &&& g)) hor
    generalize cutV vs k v g = cv at *
    generalize cutE vs k v = ce at *
    have E1 := Lib.hid e1
    have E2 := Lib.hid e2
    have E3 := Lib.hid e3
    have HS := Lib.hid hset
    clear e1 e2 e3 hr hset
    generalize hx0 : vs[k] = x0 at *
    clear hx0
    generalize hm0 : x0 &&& (4294967295 - v) = m0 at *
    clear hm0
    by_cases hz : m0 = 0
    · subst hz
      go_enter Tryd.func80, Tryd.ntmps80
      go_wp2_with (go_at_call 101; (with_reducible refine (there_in k _ h hk).mono ?_); rintro e w' ⟨rfl, rfl⟩)
      go_light
      go_ret
      rw [E2.out (by rw [E1.out]; rfl), E1.out]
      exact ⟨rfl, HS.out, (Frm.refl _ _).setCell (.inl (by simp)) _⟩
    · have hz' : ((m0 : Int) != 0) = true := by simp [hz]
      go_enter Tryd.func80, Tryd.ntmps80
      go_wp2_with (go_at_call 101; (with_reducible refine (there_in k _ h hk).mono ?_); rintro e w' ⟨rfl, rfl⟩)
      go_light
      go_ret
      rw [E3.out (by rw [E1.out, if_neg hz]; decide), E1.out, if_neg hz]
      exact ⟨rfl, h, Frm.refl _ _⟩
  · have e1 : cutE vs i v = 9 := by simp [cutE, hr]
    have e2 : cutV vs i v g = vs := by simp [cutV, e1]
    rw [e1, e2]
    clear e1 e2 hr
    go_enter Tryd.func80, Tryd.ntmps80
    go_wp2_with (go_at_call 101; (with_reducible refine (there_out i _ h ho).mono ?_); rintro e w' ⟨rfl, rfl⟩)
    go_light
    go_ret
    exact ⟨rfl, h, Frm.refl _ _⟩

set_option maxHeartbeats 400000 in
theorem program_any (i v : Int) (w : World) (h : Fz w p b vs ls) (hv0 : 0 ≤ v) (hv1 : v < 4294967296) :
    Calls Tryd.prog 70 #[.pointer (some ⟨p, 0, none⟩), .int .i64 i, .int .u32 v] w fun e w' => e = .returned (.int .i64 (cutE vs i v.toNat)) ∧ Fz w' p b (cutV vs i v.toNat 4294967295) ls ∧ Frm [b] w w' := by
  go_enter Tryd.func70, Tryd.ntmps70
  go_wp2_with (go_at_call 80; (with_reducible refine (cut_any i v 4294967295 _ h hv0 hv1 (by omega) (by omega)).mono ?_); rintro e w1 ⟨rfl, hz, hf⟩)
  go_light
  go_ret
  exact ⟨rfl, hz, hf⟩

def lockL (vs : List Nat) (ls : List Bool) (i : Int) : List Bool := if inR vs i = true then ls.set i.toNat true else ls
set_option maxHeartbeats 400000 in
theorem lock_any (i : Int) (w : World) (h : Fz w p b vs ls) :
    Calls Tryd.prog 75 #[.pointer (some ⟨p, 0, none⟩), .int .i64 i] w fun e w' => e = .returned (.int .i64 (thr vs i)) ∧ Fz w' p b vs (lockL vs ls i) ∧ Frm [b] w w' := by
  rcases inR_cases vs i with ⟨k, rfl, hk, hr⟩ | ⟨ho, hr⟩
  · obtain ⟨c, hc, hp⟩ := h.cell0
    obtain ⟨hl, hf⟩ := h.celll hk
    have hm := h.most
    have e1 : thr vs k = 0 := by simp [thr, hr]
    have e2 : lockL vs ls k = ls.set k true := by simp [lockL, hr]
    rw [e1, e2]
    have hset := h.lock hk true
    have HS := Lib.hid hset
    clear e1 e2 hr hset
    go_enter Tryd.func75, Tryd.ntmps75
    go_wp2_with (go_at_call 101; (with_reducible refine (there_in k _ h hk).mono ?_); rintro e w' ⟨rfl, rfl⟩)
    go_light
    go_ret
    exact ⟨rfl, HS.out, (Frm.refl _ _).setCell (.inl (by simp)) _⟩
  · have e1 : thr vs i = 9 := by simp [thr, hr]
    have e2 : lockL vs ls i = ls := by simp [lockL, hr]
    rw [e1, e2]
    clear e1 e2 hr
    go_enter Tryd.func75, Tryd.ntmps75
    go_wp2_with (go_at_call 101; (with_reducible refine (there_out i _ h ho).mono ?_); rintro e w' ⟨rfl, rfl⟩)
    go_light
    go_ret
    exact ⟨rfl, h, Frm.refl _ _⟩

def lockedB (vs : List Nat) (ls : List Bool) (i : Int) : Bool := inR vs i && ls[i.toNat]?.getD false
end Fuse
end Go.Proofs.YtpakdcgcgekcfaaDoor
