/-
  Texts of this claim, joined: FuseWords, Tz, Otp.
-/
import Derived.Test.YtmiaabpnolebhaaGreatDoorJf65b6120
import Derived.Shelf.Spec.TrailingZeros
set_option linter.unusedSimpArgs false
set_option linter.unusedVariables false
/-
  Contracts of package fuse, more: Words.
-/
namespace Go.Proofs.YtmiaabpnolebhaaGreatDoor
open Go.RowKit

namespace Fuse
variable {p b : Nat} {vs : List Nat} {ls : List Bool}
/-- A slice of words of the call's own. -/
def Own32 (w : World) (base : Nat) (v : Value) (vs : List Nat) : Prop := w.ownsRow base 52 1 v vs.length (vs.map fun x => Value.int .u32 ((x : Nat) : Int))
theorem Own32.form {w : World} {base : Nat} {v : Value} {vs : List Nat} (h : Own32 w base v vs) (hw : ∀ (i x : Nat), vs[i]? = some x → x < 4294967296) : ∃ A c, v = .slice A vs.length c ∧ vs.length ≤ c ∧ c ≤ maxLen ∧ Nats .u32 4294967296 w w.heap.size A vs := by
  rcases h.2 with ⟨rfl, hn⟩ | ⟨g, cap, cur, rfl, hg, hh, hc, hm, hs, ht⟩
  · refine ⟨none, 0, by rw [hn], by omega, by simp, fun i z hz => ?_⟩
    have : vs = [] := List.eq_nil_of_length_eq_zero hn
    rw [this] at hz; simp at hz
  · refine ⟨some ⟨g, 0, none⟩, cap, rfl, hc, hm, fun i z hz => ⟨hw i z hz, g, 0, rfl, ?_, ?_⟩⟩
    · exact Blk.lt (w := w) (t := 52) (cs := cur) hh
    · have hi : i < vs.length := (List.getElem?_eq_some_iff.1 hz).1
      have := World.ownsRow.cellAt h i (by omega)
      rw [Nat.zero_add, this, List.getElem?_map, hz]
      rfl

theorem Own32.at_ {w : World} {base : Nat} {A : Option Addr} {n c : Nat} {vs : List Nat} (h : Own32 w base (.slice A n c) vs) {i x : Nat} (hx : vs[i]? = some x) :
    ∃ g, A = some ⟨g, 0, none⟩ ∧ base ≤ g ∧ g < w.heap.size ∧ w.cell? ⟨g, i, none⟩ = some (.int .u32 (x : Int)) ∧ w.frozen? ⟨g, i, none⟩ = false ∧ ∀ y : Nat, Own32 (w.setCell ⟨g, i, none⟩ (.int .u32 (y : Int))) base (.slice A n c) (vs.set i y) := by
  have hi : i < vs.length := (List.getElem?_eq_some_iff.1 hx).1
  have h' := h
  rcases h.2 with ⟨hv, hn⟩ | ⟨g, cap, cur, hv, hg, hh, hc, hm, hs, ht⟩
  · omega
  · simp only [Value.slice.injEq] at hv
    obtain ⟨rfl, rfl, rfl⟩ := hv
    refine ⟨g, rfl, hg, Blk.lt (w := w) (t := 52) (cs := cur) hh, ?_, Blk.frozen (w := w) (t := 52) (cs := cur) hh i, fun y => ?_⟩
    · have := World.ownsRow.cellAt h' i (by omega)
      rw [this, List.getElem?_map, hx]
      rfl
    · have := (World.ownsRow.stored h' i (.int .u32 (y : Int))).1
      unfold Own32
      rw [List.length_set, List.map_set]
      exact this

theorem Own32.nilc {w : World} {base : Nat} {A : Option Addr} {n c : Nat} {vs : List Nat} (h : Own32 w base (.slice A n c) vs) : (A = none → c = 0) ∧ ∃ S : List Nat, (∀ ad : Addr, A = some ad → ad.block ∈ S) ∧ ∀ x, x ∈ S → base ≤ x ∧ x < w.heap.size := by
  rcases h.2 with ⟨hv, hn⟩ | ⟨g, cap, cur, hv, hg, hh, hc, hm, hs, ht⟩
  · simp only [Value.slice.injEq] at hv
    exact ⟨fun _ => hv.2.2, [], ⟨(fun ad h => by rw [hv.1] at h; cases h), by simp⟩⟩
  · simp only [Value.slice.injEq] at hv
    obtain ⟨rfl, rfl, rfl⟩ := hv
    exact ⟨(fun h => by cases h), [g], (fun ad h => by cases h; simp), fun x hx => by simp at hx; subst hx; exact ⟨hg, Blk.lt (w := w) (t := 52) (cs := cur) hh⟩⟩

theorem Own32.drewN {w : World} {base : Nat} {v : Value} {vs : List Nat} (h : Own32 w base v vs) (n : Nat) : Own32 (w.drewN n) base v vs := h
theorem Own32.drew {w : World} {base : Nat} {v : Value} {vs : List Nat} (h : Own32 w base v vs) : Own32 w.drew base v vs := h

theorem u32_info : (Tryz.prog.info? 52).map (fun i => (i.zero, i.size, i.bytes)) = some (some (.int .u32 0), 1, 4) := by kernel_rfl

def WordsOut (w : World) (vs : List Nat) (e : Ending) (w' : World) : Prop := ∃ v, e = .returned v ∧ Own32 w' w.heap.size v vs ∧ Below w.heap.size w w'

set_option maxHeartbeats 1000000 in
theorem words_any (w : World) (h : Fz w p b vs ls) : Calls Tryz.prog 151 #[.pointer (some ⟨p, 0, none⟩)] w (WordsOut w vs) := by
  obtain ⟨i0, hi0, hz0, hz1, hz2⟩ := info_row u32_info
  obtain ⟨c, hc, hp⟩ := h.cell0
  have hm := h.most
  have HI := Lib.hid hi0
  have HI1 := Lib.hid hz0
  have HI2 := Lib.hid hz1
  have HI3 := Lib.hid hz2
  have H := Lib.hid h
  clear hi0 hz0 hz1 hz2 h
  go_enter Tryz.func151, Tryz.ntmps151
  go_wp2_with fail
  go_loopg [3, 13] vs.length (fun g s3 s13 wr => ∃ i : Nat, i + g = vs.length ∧ s13 = .int .i64 (i : Int) ∧ Own32 wr w.heap.size s3 (vs.take i) ∧ Below w.heap.size w wr)
  case atStart => exact ⟨0, by omega, rfl, World.ownsRow_nil _ _ _ _, Below.refl _ _⟩
  case round =>
    obtain ⟨i, hg, rfl, hO, hB⟩ := hrel
    have HG := Lib.hid hg
    have hig : i ≤ vs.length := by omega
    have HB := Lib.hid hB
    have HO := Lib.hid hO
    clear hg hB hO
    by_cases hlt : i < vs.length
    · have hF := H.out.below HB.out H.out.ltp H.out.ltb
      obtain ⟨x, lx, hx, hlx, hx2, hv, hl⟩ := hF.at_ hlt
      have HX := Lib.hid hx
      have HT := Lib.hid (take_snoc hx)
      have hwl : w.heap.size ≤ wr.heap.size := HB.out.size
      have hbl : b < wr.heap.size := hF.ltb
      clear hF hx hlx
      go_wp2_with (at_builtin; refine wpList_append_own _ rfl (.tmp 17) (.tmp 20) 55 rfl w.heap.size 52 i0 (.int .u32 0) 1 4 Tryz.underlying55 HI.out HI1.out HI2.out HI3.out rfl (by decide) _ _ _ rfl ((HO.out.alloc _).alloc _) ⟨wr.heap.size + 1, 0, none⟩ 1 1 [.int .u32 (x : Int)] rfl rfl ?c1 ?c2 ?c3 ?c4 ?c5 ?_)
      case c1 =>
        have h1 := cell_one_new (wr.alloc (.cells #[.int .u32 (x : Int), .bool lx] 359)) (.int .u32 (x : Int)) 52
        simpa using h1
      case c2 => intro u hu; simp at hu; subst hu; rfl
      case c3 => simp only [List.length_take, maxLen]; omega
      case c4 => simp only [List.length_take]; omega
      case c5 => simp; omega
      · intro v1 w1 hO1 hg1 _
        have hB1 := ((HB.out.alloc HB.out.size (.cells #[.int .u32 (x : Int), .bool lx] 359)).alloc (by simp; omega) (.cells #[.int .u32 (x : Int)] 52)).grown hg1 (by simp; omega) (fun k hk => (World.ownsRow.lt HO.out k hk).1)
        have HO1 := Lib.hid hO1
        have HB1 := Lib.hid hB1
        clear hO1 hB1 hg1
        go_wp2_with fail
        go_light
        go_roundg (vs.length - (i + 1))
        case measure => have := HG.out; omega
        case rel =>
          refine ⟨i + 1, by omega, by go_num, ?_, HB1.out⟩
          have h2 := HO1.out
          unfold Own32
          rw [HT.out]
          have hmin : min i vs.length = i := Nat.min_eq_left hig
          simpa [hmin] using h2
    · go_wp2_with fail
      go_light
      have : i = vs.length := by omega
      subst this
      go_ret
      have hOO := HO.out
      rw [List.take_length] at hOO
      exact ⟨_, rfl, hOO, HB.out⟩
end Fuse
end Go.Proofs.YtmiaabpnolebhaaGreatDoor

/-
  math/bits.TrailingZeros32 in this program: the kit's arithmetic (Lib.ctz), the table in its variable.
-/
namespace Go.Proofs.YtmiaabpnolebhaaGreatDoor
open Go.RowKit

namespace Otp
/-- The table's variable holds what its initialiser lays. -/
def Tab (w : World) : Prop := TabAt 2 Lib.deBruijn32tab w
theorem Tab.below {B : Nat} {w w' : World} (h : Tab w) (hb : Below B w w') (hB : 2 < B) : Tab w' := fun j hj => (World.cell?_of_block (hb.block _ hB)).trans (h j hj)
theorem Tab.lt {w : World} (h : Tab w) : 2 < w.heap.size := cell_lt (h 0 (by decide))
theorem Tab.old {w w' : World} (h : Tab w) (hb : Below w.heap.size w w') : Tab w' := h.below hb h.lt
theorem Tab.frm {S : List Nat} {w w' : World} (h : Tab w) (hf : Frm S w w') (hS : 2 ∉ S) : Tab w' := fun j hj => (World.cell?_of_block (hf.block _ h.lt hS)).trans (h j hj)

set_option maxHeartbeats 1000000 in
theorem tz32_core (x k idx : Nat) (w : World) (hx0 : ((x : Int) == 0) = false)
    (key : bits BinOp.and IntKind.u32 (x : Int) (-(x : Int) % 4294967296) * 125613361 % 4294967296 / 134217728 = (idx : Int))
    (hi : idx < 32) (hk : k < 32) (hcell : w.cell? ⟨2, idx, none⟩ = some (.int .u8 k)) :
    Calls Tryz.prog 152 #[.int .u32 x] w fun e w' => e = .returned (.int .i64 k) ∧ w = w' := by
  go_enter Tryz.func152, Tryz.ntmps152
  go_wp2_with (simp only [key])
  go_light
  go_ret
  exact ⟨rfl, rfl⟩
theorem tz32_zero (w : World) :
    Calls Tryz.prog 152 #[.int .u32 0] w fun e w' => e = .returned (.int .i64 32) ∧ w = w' := by
  go_enter Tryz.func152, Tryz.ntmps152
  go_wp2
  go_light
  go_ret
  exact ⟨rfl, rfl⟩
/-- TrailingZeros32, every x. -/
theorem tz32 (a : Int) (x : Nat) (w : World) (ha : a = x) (hx : x < 4294967296) (hT : Tab w) :
    Calls Tryz.prog 152 #[.int .u32 a] w fun e w' => e = .returned (.int .i64 ((Lib.ctz 32 x : Nat) : Int)) ∧ w = w' := by
  subst ha
  by_cases hx0 : x = 0
  · subst hx0
    exact tz32_zero w
  · obtain ⟨hlow, hk⟩ := Lib.lowest_bit 32 x hx0 hx
    obtain ⟨hi, htab⟩ := Lib.deBruijn32_at _ hk
    have hcell := hT _ hi
    rw [htab] at hcell
    exact tz32_core x _ _ w (by simp; omega) (tz32_key x _ hx hx0 hlow) hi hk hcell
end Otp
end Go.Proofs.YtmiaabpnolebhaaGreatDoor

/-
  Package otp: a chip in memory ('Cz'); New, all, Counter.
-/
namespace Go.Proofs.YtmiaabpnolebhaaGreatDoor
open Go.RowKit

namespace Otp
open Fuse
structure Cz (w : World) (c p b : Nat) (vs : List Nat) (ls : List Bool) (sd : Bool) : Prop where
  fz : Fz w p b vs ls
  len : vs.length = 64
  head : Blk w c 228 #[.pointer (some ⟨p, 0, none⟩), .bool sd]

variable {w w' : World} {c p b : Nat} {vs : List Nat} {ls : List Bool} {sd : Bool}
theorem Cz.frm {S : List Nat} (h : Cz w c p b vs ls sd) (hf : Frm S w w') (hc : c ∉ S) (hp : p ∉ S) (hb : b ∉ S) : Cz w' c p b vs ls sd := ⟨h.fz.frm hf hp hb, h.len, h.head.frm hf hc⟩
theorem Cz.below {B : Nat} (h : Cz w c p b vs ls sd) (hf : Below B w w') (hc : c < B) (hp : p < B) (hb : b < B) : Cz w' c p b vs ls sd := ⟨h.fz.below hf hp hb, h.len, h.head.below hf hc⟩
theorem Cz.old (h : Cz w c p b vs ls sd) (hf : Below w.heap.size w w') : Cz w' c p b vs ls sd := h.below hf h.head.lt h.fz.ltp h.fz.ltb
theorem Cz.drewN (h : Cz w c p b vs ls sd) (n : Nat) : Cz (w.drewN n) c p b vs ls sd := ⟨h.fz.drewN n, h.len, h.head⟩
theorem Cz.drew (h : Cz w c p b vs ls sd) : Cz w.drew c p b vs ls sd := ⟨h.fz.drew, h.len, h.head⟩
theorem Cz.alloc (h : Cz w c p b vs ls sd) (o : Obj) : Cz (w.alloc o) c p b vs ls sd := h.frm ((Frm.refl [] w).alloc o) (by simp) (by simp) (by simp)
theorem Cz.nes (h : Cz w c p b vs ls sd) : c ≠ p ∧ c ≠ b ∧ p ≠ b := by
  obtain ⟨_, _, h1⟩ := h.fz.head
  obtain ⟨_, h2, _⟩ := h.fz.row
  exact ⟨h.head.ne h1 (by decide), h.head.ne h2 (by decide), h.fz.ne⟩
theorem Cz.cell (h : Cz w c p b vs ls sd) : w.cell? ⟨c, 0, none⟩ = some (.pointer (some ⟨p, 0, none⟩)) ∧ w.cell? ⟨c, 1, none⟩ = some (.bool sd) :=
  ⟨by rw [h.head.cell]; rfl, by rw [h.head.cell]; rfl⟩

set_option maxHeartbeats 400000 in
theorem all_any (w : World) (h : Cz w c p b vs ls sd) : Calls Tryz.prog 76 #[.pointer (some ⟨c, 0, none⟩)] w (WordsOut w vs) := by
  obtain ⟨hc0, hc1⟩ := h.cell
  have H := Lib.hid h
  clear h
  go_enter Tryz.func76, Tryz.ntmps76
  go_wp2_with fail
  (with_reducible refine (words_any _ H.out.fz).mono ?_); rintro e w1 ⟨v, rfl, hO, hB⟩
  have HO := Lib.hid hO
  have HB := Lib.hid hB
  clear hO hB
  go_wp2_with fail
  go_light
  go_ret
  exact ⟨_, rfl, HO.out, HB.out⟩

def z64 : List Nat := List.replicate 64 0
def f64 : List Bool := List.replicate 64 false
def NewOut (w : World) (e : Ending) (w' : World) : Prop := ∃ c p b, e = .returned (.pointer (some ⟨c, 0, none⟩)) ∧ Cz w' c p b z64 f64 false ∧ w.heap.size ≤ c ∧ w.heap.size ≤ p ∧ w.heap.size ≤ b ∧ Below w.heap.size w w'
set_option maxHeartbeats 400000 in
theorem new_chip (w : World) : Calls Tryz.prog 60 #[] w (NewOut w) := by
  go_enter Tryz.func60, Tryz.ntmps60
  go_wp2_with fail
  (with_reducible refine (new_any 64 _ (by decide) (by decide)).mono ?_); rintro e w1 ⟨rfl, hz, hb, hs⟩
  have HZ := Lib.hid hz
  have HB := Lib.hid hb
  have hbl : w.heap.size ≤ w1.heap.size := hb.size
  clear hz hb hs
  go_wp2_with fail
  go_light
  go_ret
  have hz : Fz w1 (w.heap.size + 1) w.heap.size z64 f64 := HZ.out
  refine ⟨_, _, _, rfl, ⟨hz.frm ((Frm.refl [] _).alloc _) (by simp) (by simp), by decide, ?_⟩, hbl, by omega, by omega, HB.out.alloc hbl _⟩
  exact Blk.new _ _ _
end Otp
end Go.Proofs.YtmiaabpnolebhaaGreatDoor
