/-
  Texts of this claim, joined: Fuse, Fuse2, Fuse3.
-/
import Derived.Test.YtmiaabpnolebhaaGreatDoorProg
import Derived.Test.YtmiaabpnolebhaaGreatDoorJ192fccce
import Derived.Deep.LoopGhost
set_option linter.unusedSimpArgs false
set_option linter.unusedVariables false
/-
  Contracts of package fuse: an Array in memory ('Fz': its words, which are locked), and what New, there, Read, Cut, Program, Lock, Locked, Len make of it.
-/
namespace Go.Proofs.YtmiaabpnolebhaaGreatDoor
open Go.RowKit

namespace Fuse
/-- The array behind pointer p: its words lie in block b; vs: the words, ls: which are locked. -/
structure Fz (w : World) (p b : Nat) (vs : List Nat) (ls : List Bool) : Prop where
  len : ls.length = vs.length
  most : vs.length ≤ 4096
  word : ∀ (i : Nat) (x : Nat), vs[i]? = some x → x < 4294967296
  head : ∃ c, vs.length ≤ c ∧ Blk w p 344 #[.slice (some ⟨b, 0, none⟩) vs.length c]
  row : ∃ cs, Blk w b 359 cs ∧ (∀ (i : Nat) (x : Nat), vs[i]? = some x → cs[i * 2]? = some (.int .u32 (x : Int))) ∧ (∀ (i : Nat) (x : Bool), ls[i]? = some x → cs[i * 2 + 1]? = some (.bool x))

variable {w w' : World} {p b : Nat} {vs : List Nat} {ls : List Bool}
theorem Fz.ne (h : Fz w p b vs ls) : p ≠ b := by
  obtain ⟨c, _, h1⟩ := h.head
  obtain ⟨cs, h2, _⟩ := h.row
  exact h1.ne h2 (by decide)
theorem Fz.frm {S : List Nat} (h : Fz w p b vs ls) (hf : Frm S w w') (hp : p ∉ S) (hb : b ∉ S) : Fz w' p b vs ls := by
  obtain ⟨c, hc, h1⟩ := h.head
  obtain ⟨cs, h2, h3, h4⟩ := h.row
  exact ⟨h.len, h.most, h.word, ⟨c, hc, h1.frm hf hp⟩, ⟨cs, h2.frm hf hb, h3, h4⟩⟩
theorem Fz.drew (h : Fz w p b vs ls) : Fz w.drew p b vs ls := ⟨h.len, h.most, h.word, h.head, h.row⟩
theorem Fz.drewN (h : Fz w p b vs ls) (n : Nat) : Fz (w.drewN n) p b vs ls := ⟨h.len, h.most, h.word, h.head, h.row⟩
theorem Fz.ltp (h : Fz w p b vs ls) : p < w.heap.size := by
  obtain ⟨c, _, h1⟩ := h.head
  exact h1.lt
theorem Fz.ltb (h : Fz w p b vs ls) : b < w.heap.size := by
  obtain ⟨cs, h2, _⟩ := h.row
  exact h2.lt
theorem Fz.below {B : Nat} (h : Fz w p b vs ls) (hf : Below B w w') (hp : p < B) (hb : b < B) : Fz w' p b vs ls := by
  obtain ⟨c, hc, h1⟩ := h.head
  obtain ⟨cs, h2, h3, h4⟩ := h.row
  exact ⟨h.len, h.most, h.word, ⟨c, hc, h1.below hf hp⟩, ⟨cs, h2.below hf hb, h3, h4⟩⟩
theorem Fz.set (h : Fz w p b vs ls) {i : Nat} (hi : i < vs.length) (x : Nat) (hx : x < 4294967296) : Fz (w.setCell ⟨b, i * 2, none⟩ (.int .u32 (x : Int))) p b (vs.set i x) ls := by
  obtain ⟨c, hc, h1⟩ := h.head
  obtain ⟨cs, h2, h3, h4⟩ := h.row
  refine ⟨by simpa using h.len, by simpa using h.most, ?_, ⟨c, by simpa using hc, by simpa using h1.far' b (i * 2) h.ne _⟩, ⟨_, h2.set (i * 2) _, ?_, ?_⟩⟩
  · intro j y hy
    rw [List.getElem?_set] at hy; simp only [hi, if_true] at hy
    split at hy
    · cases hy; exact hx
    · exact h.word j y hy
  · intro j y hy
    rw [List.getElem?_set] at hy; simp only [hi, if_true] at hy
    split at hy
    · rename_i hij
      subst hij
      cases hy
      have := h3 i vs[i] (List.getElem?_eq_getElem hi)
      have hlt := (Array.getElem?_eq_some_iff.1 this).1
      simp [hlt]
    · rw [Array.getElem?_setIfInBounds_ne (by omega)]
      exact h3 j y hy
  · intro j y hy
    rw [Array.getElem?_setIfInBounds_ne (by omega)]
    exact h4 j y hy
theorem Fz.lock (h : Fz w p b vs ls) {i : Nat} (hi : i < vs.length) (x : Bool) : Fz (w.setCell ⟨b, i * 2 + 1, none⟩ (.bool x)) p b vs (ls.set i x) := by
  obtain ⟨c, hc, h1⟩ := h.head
  obtain ⟨cs, h2, h3, h4⟩ := h.row
  refine ⟨by simpa using h.len, h.most, h.word, ⟨c, hc, h1.far' b (i * 2 + 1) h.ne _⟩, ⟨_, h2.set (i * 2 + 1) _, ?_, ?_⟩⟩
  · intro j y hy
    rw [Array.getElem?_setIfInBounds_ne (by omega)]
    exact h3 j y hy
  · intro j y hy
    rw [List.getElem?_set] at hy; simp only [h.len, hi, if_true] at hy
    split at hy
    · rename_i hij
      subst hij
      cases hy
      have := h4 i (ls[i]'(by rw [h.len]; exact hi)) (List.getElem?_eq_getElem _)
      have hlt := (Array.getElem?_eq_some_iff.1 this).1
      simp [hlt]
    · rw [Array.getElem?_setIfInBounds_ne (by omega)]
      exact h4 j y hy

/-- What a walk is told of an array: the head's cell, a word's two cells. -/
theorem Fz.cell0 (h : Fz w p b vs ls) : ∃ c, vs.length ≤ c ∧ w.cell? ⟨p, 0, none⟩ = some (.slice (some ⟨b, 0, none⟩) vs.length c) := by
  obtain ⟨c, hc, h1⟩ := h.head
  exact ⟨c, hc, by rw [h1.cell]; rfl⟩
theorem Fz.cellv (h : Fz w p b vs ls) {i : Nat} (hi : i < vs.length) : w.cell? ⟨b, i * 2, none⟩ = some (.int .u32 ((vs[i] : Nat) : Int)) ∧ w.frozen? ⟨b, i * 2, none⟩ = false := by
  obtain ⟨cs, h2, h3, _⟩ := h.row
  exact ⟨by rw [h2.cell]; exact h3 i _ (List.getElem?_eq_getElem hi), h2.frozen _⟩
theorem Fz.celll (h : Fz w p b vs ls) {i : Nat} (hi : i < vs.length) : w.cell? ⟨b, i * 2 + 1, none⟩ = some (.bool (ls[i]'(by rw [h.len]; exact hi))) ∧ w.frozen? ⟨b, i * 2 + 1, none⟩ = false := by
  obtain ⟨cs, h2, _, h4⟩ := h.row
  exact ⟨by rw [h2.cell]; exact h4 i _ (List.getElem?_eq_getElem _), h2.frozen _⟩

theorem Fz.at_ (h : Fz w p b vs ls) {i : Nat} (hi : i < vs.length) : ∃ x l, vs[i]? = some x ∧ ls[i]? = some l ∧ x < 4294967296 ∧ w.cell? ⟨b, i * 2, none⟩ = some (.int .u32 ((x : Nat) : Int)) ∧ w.cell? ⟨b, i * 2 + 1, none⟩ = some (.bool l) :=
  ⟨vs[i], ls[i]'(by rw [h.len]; exact hi), List.getElem?_eq_getElem hi, List.getElem?_eq_getElem _, h.word i _ (List.getElem?_eq_getElem hi), (h.cellv hi).1, (h.celll hi).1⟩

def inR (vs : List Nat) (i : Int) : Bool := decide (0 ≤ i ∧ i < vs.length)
def thr (vs : List Nat) (i : Int) : Int := if inR vs i = true then 0 else 9

set_option maxHeartbeats 400000 in
theorem there_in (i : Nat) (w : World) (h : Fz w p b vs ls) (hi : i < vs.length) : Calls Tryz.prog 246 #[.pointer (some ⟨p, 0, none⟩), .int .i64 (i : Int)] w fun e w' => e = .returned (.int .i64 0) ∧ w = w' := by
  obtain ⟨c, hc, hp⟩ := h.cell0
  have hm := h.most
  go_enter Tryz.func246, Tryz.ntmps246
  go_wp2
  all_goals go_light
  all_goals go_ret
  all_goals exact ⟨rfl, rfl⟩
set_option maxHeartbeats 400000 in
theorem there_out (i : Int) (w : World) (h : Fz w p b vs ls) (hi : i < 0 ∨ (vs.length : Int) ≤ i) : Calls Tryz.prog 246 #[.pointer (some ⟨p, 0, none⟩), .int .i64 i] w fun e w' => e = .returned (.int .i64 9) ∧ w = w' := by
  obtain ⟨c, hc, hp⟩ := h.cell0
  have hm := h.most
  by_cases h0 : i < 0
  · go_enter Tryz.func246, Tryz.ntmps246
    go_wp2
    all_goals go_light
    all_goals go_ret
    all_goals exact ⟨rfl, rfl⟩
  · have h1 : (vs.length : Int) ≤ i := by omega
    clear hi
    go_enter Tryz.func246, Tryz.ntmps246
    go_wp2
    all_goals go_light
    all_goals go_ret
    all_goals exact ⟨rfl, rfl⟩
set_option maxHeartbeats 400000 in
theorem there_nil (i : Int) (w : World) : Calls Tryz.prog 246 #[.pointer none, .int .i64 i] w fun e w' => e = .returned (.int .i64 3) ∧ w = w' := by
  go_enter Tryz.func246, Tryz.ntmps246
  go_wp2
  all_goals go_light
  all_goals go_ret
  all_goals exact ⟨rfl, rfl⟩
end Fuse
end Go.Proofs.YtmiaabpnolebhaaGreatDoor

/-
  Contracts of package fuse, more: Read, Cut, Program, Lock, Locked, Len, New.
-/
namespace Go.Proofs.YtmiaabpnolebhaaGreatDoor
open Go.RowKit

namespace Fuse
variable {w w' : World} {p b : Nat} {vs : List Nat} {ls : List Bool}

/-- What Read answers. -/
def rdV (vs : List Nat) (ls : List Bool) (i : Int) : Int := if inR vs i = true then (if ls[i.toNat]? = some true then 0 else ((vs[i.toNat]?.getD 0 : Nat) : Int)) else 0
def rdE (vs : List Nat) (ls : List Bool) (i : Int) : Int := if inR vs i = true then (if ls[i.toNat]? = some true then 12 else 0) else 9
theorem inR_cases (vs : List Nat) (i : Int) : (∃ k : Nat, i = k ∧ k < vs.length ∧ inR vs i = true) ∨ ((i < 0 ∨ (vs.length : Int) ≤ i) ∧ inR vs i = false) := by
  by_cases h : 0 ≤ i ∧ i < vs.length
  · obtain ⟨k, rfl⟩ := Int.eq_ofNat_of_zero_le h.1
    exact .inl ⟨k, rfl, by omega, by simp only [inR]; exact decide_eq_true h⟩
  · exact .inr ⟨by omega, by simp only [inR]; exact decide_eq_false h⟩

set_option maxHeartbeats 400000 in
theorem read_any (i : Int) (w : World) (h : Fz w p b vs ls) : Calls Tryz.prog 191 #[.pointer (some ⟨p, 0, none⟩), .int .i64 i] w fun e w' => e = .returned (.tuple #[.int .u32 (rdV vs ls i), .int .i64 (rdE vs ls i)]) ∧ w = w' := by
  rcases inR_cases vs i with ⟨k, rfl, hk, hr⟩ | ⟨ho, hr⟩
  · obtain ⟨c, hc, hp⟩ := h.cell0
    obtain ⟨hv, _⟩ := h.cellv hk
    obtain ⟨hl, _⟩ := h.celll hk
    have hm := h.most
    have hlk : k < ls.length := by rw [h.len]; exact hk
    have e1 : rdV vs ls k = if ls[k] = true then 0 else ((vs[k] : Nat) : Int) := by simp [rdV, hr, hk, hlk]
    have e2 : rdE vs ls k = if ls[k] = true then 12 else 0 := by simp [rdE, hr, hlk]
    generalize rdV vs ls k = rv at *
    generalize rdE vs ls k = re at *
    have E1 := Lib.hid e1
    have E2 := Lib.hid e2
    clear e1 e2 hr
    generalize hlx : ls[k] = lx at *
    clear hlx
    cases lx with
    | true =>
      go_enter Tryz.func191, Tryz.ntmps191
      go_wp2_with (go_at_call 246; (with_reducible refine (there_in k _ h hk).mono ?_); rintro e w' ⟨rfl, rfl⟩)
      go_light
      go_ret2
      rw [E1.out, E2.out]
      exact ⟨rfl, rfl⟩
    | false =>
      go_enter Tryz.func191, Tryz.ntmps191
      go_wp2_with (go_at_call 246; (with_reducible refine (there_in k _ h hk).mono ?_); rintro e w' ⟨rfl, rfl⟩)
      go_light
      go_ret2
      rw [E1.out, E2.out]
      exact ⟨rfl, rfl⟩
  · have e1 : rdV vs ls i = 0 := by simp [rdV, hr]
    have e2 : rdE vs ls i = 9 := by simp [rdE, hr]
    rw [e1, e2]
    clear e1 e2 hr
    go_enter Tryz.func191, Tryz.ntmps191
    go_wp2_with (go_at_call 246; (with_reducible refine (there_out i _ h ho).mono ?_); rintro e w' ⟨rfl, rfl⟩)
    go_light
    go_ret2
    exact ⟨rfl, rfl⟩

/-- What Cut answers, and leaves. -/
def cutE (vs : List Nat) (i : Int) (v : Nat) : Int := if inR vs i = true then (if (vs[i.toNat]?.getD 0) &&& (4294967295 - v) = 0 then 0 else 11) else 9
def cutV (vs : List Nat) (i : Int) (v g : Nat) : List Nat := if cutE vs i v = 0 then vs.set i.toNat (vs[i.toNat]?.getD 0 ||| (v &&& g)) else vs

set_option maxHeartbeats 400000 in
theorem cut_any (i v g : Int) (w : World) (h : Fz w p b vs ls) (hv0 : 0 ≤ v) (hv1 : v < 4294967296) (hg0 : 0 ≤ g) (hg1 : g < 4294967296) :
    Calls Tryz.prog 196 #[.pointer (some ⟨p, 0, none⟩), .int .i64 i, .int .u32 v, .int .u32 g] w fun e w' => e = .returned (.int .i64 (cutE vs i v.toNat)) ∧ Fz w' p b (cutV vs i v.toNat g.toNat) ls ∧ Frm [b] w w' := by
  obtain ⟨v, rfl⟩ := Int.eq_ofNat_of_zero_le hv0
  obtain ⟨g, rfl⟩ := Int.eq_ofNat_of_zero_le hg0
  simp only [Int.toNat_natCast]
  rcases inR_cases vs i with ⟨k, rfl, hk, hr⟩ | ⟨ho, hr⟩
  · obtain ⟨c, hc, hp⟩ := h.cell0
    obtain ⟨hv, hf⟩ := h.cellv hk
    have hm := h.most
    have hx := h.word k _ (List.getElem?_eq_getElem hk)
    have b1 := u32_andNot_nat vs[k] v hx (by omega)
    have b2 := u32_and_nat v g (by omega) (by omega)
    have hvg : v &&& g < 4294967296 := Nat.lt_of_le_of_lt Nat.and_le_left (by omega)
    have b3 := u32_or_nat vs[k] (v &&& g) hx hvg
    have hor : vs[k] ||| (v &&& g) < 4294967296 := Nat.or_lt_two_pow (n := 32) hx hvg
    have e1 : cutE vs k v = if vs[k] &&& (4294967295 - v) = 0 then 0 else 11 := by simp [cutE, hr, hk]
    have e2 : cutE vs k v = 0 → cutV vs k v g = vs.set k (vs[k] ||| (v &&& g)) := fun h0 => by simp [cutV, h0, hk]
    have e3 : cutE vs k v ≠ 0 → cutV vs k v g = vs := fun h0 => by simp [cutV, h0]
    have hset := h.set hk (vs[k] ||| (v &&& g)) hor
    generalize cutV vs k v g = cv at *
    generalize cutE vs k v = ce at *
    have E1 := Lib.hid e1
    have E2 := Lib.hid e2
    have E3 := Lib.hid e3
    have HS := Lib.hid hset
    clear e1 e2 e3 hr hset
    generalize hx0 : vs[k] = x0 at *
    clear hx0
    generalize hm0 : x0 &&& (4294967295 - v) = m0 at *
    clear hm0
    by_cases hz : m0 = 0
    · subst hz
      go_enter Tryz.func196, Tryz.ntmps196
      go_wp2_with (go_at_call 246; (with_reducible refine (there_in k _ h hk).mono ?_); rintro e w' ⟨rfl, rfl⟩)
      go_light
      go_ret
      rw [E2.out (by rw [E1.out]; rfl), E1.out]
      exact ⟨rfl, HS.out, (Frm.refl _ _).setCell (.inl (by simp)) _⟩
    · have hz' : ((m0 : Int) != 0) = true := by simp [hz]
      go_enter Tryz.func196, Tryz.ntmps196
      go_wp2_with (go_at_call 246; (with_reducible refine (there_in k _ h hk).mono ?_); rintro e w' ⟨rfl, rfl⟩)
      go_light
      go_ret
      rw [E3.out (by rw [E1.out, if_neg hz]; decide), E1.out, if_neg hz]
      exact ⟨rfl, h, Frm.refl _ _⟩
  · have e1 : cutE vs i v = 9 := by simp [cutE, hr]
    have e2 : cutV vs i v g = vs := by simp [cutV, e1]
    rw [e1, e2]
    clear e1 e2 hr
    go_enter Tryz.func196, Tryz.ntmps196
    go_wp2_with (go_at_call 246; (with_reducible refine (there_out i _ h ho).mono ?_); rintro e w' ⟨rfl, rfl⟩)
    go_light
    go_ret
    exact ⟨rfl, h, Frm.refl _ _⟩

set_option maxHeartbeats 400000 in
theorem program_any (i v : Int) (w : World) (h : Fz w p b vs ls) (hv0 : 0 ≤ v) (hv1 : v < 4294967296) :
    Calls Tryz.prog 113 #[.pointer (some ⟨p, 0, none⟩), .int .i64 i, .int .u32 v] w fun e w' => e = .returned (.int .i64 (cutE vs i v.toNat)) ∧ Fz w' p b (cutV vs i v.toNat 4294967295) ls ∧ Frm [b] w w' := by
  go_enter Tryz.func113, Tryz.ntmps113
  go_wp2_with (go_at_call 196; (with_reducible refine (cut_any i v 4294967295 _ h hv0 hv1 (by omega) (by omega)).mono ?_); rintro e w1 ⟨rfl, hz, hf⟩)
  go_light
  go_ret
  exact ⟨rfl, hz, hf⟩

def lockL (vs : List Nat) (ls : List Bool) (i : Int) : List Bool := if inR vs i = true then ls.set i.toNat true else ls

def lockedB (vs : List Nat) (ls : List Bool) (i : Int) : Bool := inR vs i && ls[i.toNat]?.getD false
end Fuse
end Go.Proofs.YtmiaabpnolebhaaGreatDoor

/-
  Contracts of package fuse, more: New, Len.
-/
namespace Go.Proofs.YtmiaabpnolebhaaGreatDoor
open Go.RowKit

namespace Fuse
variable {w w' : World} {p b : Nat} {vs : List Nat} {ls : List Bool}

theorem word_info : (Tryz.prog.info? 359).map (fun i => (i.zero, i.size, i.bytes)) = some (some (.agg #[.int .u32 0, .bool false]), 2, 8) := by kernel_rfl

theorem fz_new (w : World) (n : Nat) (hn : n ≤ 4096) :
    Fz ((w.alloc (.cells (madeCells (#[.int .u32 0, .bool false]) (n * 2)) 359)).alloc (.cells #[.slice (some ⟨w.heap.size, 0, none⟩) n n] 344)) (w.heap.size + 1) w.heap.size (List.replicate n 0) (List.replicate n false) := by
  refine ⟨by simp, by simpa using hn, fun i x hx => ?_, ⟨n, by simp, ?_⟩, ⟨_, (Blk.new w _ _).alloc _, fun i x hx => ?_, fun i x hx => ?_⟩⟩
  · obtain ⟨_, rfl⟩ := List.getElem?_eq_some_iff.1 hx
    simp
  · have := Blk.new (w.alloc (.cells (madeCells (#[.int .u32 0, .bool false]) (n * 2)) 359)) 344 #[.slice (some ⟨w.heap.size, 0, none⟩) n n]
    simpa using this
  · obtain ⟨hl, rfl⟩ := List.getElem?_eq_some_iff.1 hx
    rw [List.length_replicate] at hl
    rw [made_get _ _ _ (by omega) (by decide)]
    simp
  · obtain ⟨hl, rfl⟩ := List.getElem?_eq_some_iff.1 hx
    rw [List.length_replicate] at hl
    rw [made_get _ _ _ (by omega) (by decide)]
    simp [Nat.add_mod]

set_option maxHeartbeats 400000 in
theorem new_nat (n : Nat) (w : World) (hn : n ≤ 4096) : Calls Tryz.prog 130 #[.int .i64 (n : Int)] w fun e w' => e = .returned (.tuple #[.pointer (some ⟨w.heap.size + 1, 0, none⟩), .int .i64 0]) ∧
    Fz w' (w.heap.size + 1) w.heap.size (List.replicate n 0) (List.replicate n false) ∧ Below w.heap.size w w' ∧ w'.heap.size = w.heap.size + 2 := by
  obtain ⟨i, hi, hz, hsz, hby⟩ := info_row word_info
  have hmk := fun W => run_make_rowN (P := Tryz.prog) 342 359 i _ Tryz.underlying342 hi hz .i64 .i64 n n (Nat.le_refl _) (by rw [hby]; omega) (by omega) W
  rw [hsz] at hmk
  have hF := Lib.hid (fz_new w n hn)
  clear hi hz hsz hby
  go_enter Tryz.func130, Tryz.ntmps130
  go_wp2
  go_light
  go_ret2
  exact ⟨rfl, hF.out, ((Below.refl _ _).alloc (Nat.le_refl _) _).alloc (by simp) _, by simp⟩

theorem new_any (n : Int) (w : World) (h0 : 0 ≤ n) (h1 : n ≤ 4096) : Calls Tryz.prog 130 #[.int .i64 n] w fun e w' => e = .returned (.tuple #[.pointer (some ⟨w.heap.size + 1, 0, none⟩), .int .i64 0]) ∧
    Fz w' (w.heap.size + 1) w.heap.size (List.replicate n.toNat 0) (List.replicate n.toNat false) ∧ Below w.heap.size w w' ∧ w'.heap.size = w.heap.size + 2 := by
  obtain ⟨n, rfl⟩ := Int.eq_ofNat_of_zero_le h0
  exact new_nat n w (by omega)
set_option maxHeartbeats 400000 in
theorem new_bad (n : Int) (w : World) (h : n < 0 ∨ 4096 < n) : Calls Tryz.prog 130 #[.int .i64 n] w fun e w' => e = .returned (.tuple #[.pointer none, .int .i64 1]) ∧ w = w' := by
  by_cases h0 : n < 0
  · clear h
    go_enter Tryz.func130, Tryz.ntmps130
    go_wp2
    go_light
    go_ret2
    exact ⟨rfl, rfl⟩
  · have h1 : 4096 < n := by omega
    clear h
    go_enter Tryz.func130, Tryz.ntmps130
    go_wp2
    go_light
    go_ret2
    exact ⟨rfl, rfl⟩

end Fuse
end Go.Proofs.YtmiaabpnolebhaaGreatDoor
