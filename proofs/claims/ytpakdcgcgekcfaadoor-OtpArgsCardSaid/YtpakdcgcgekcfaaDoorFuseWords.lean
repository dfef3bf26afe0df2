/-
  Contracts of package fuse, more: Words.
-/
import Derived.Test.YtpakdcgcgekcfaaDoorProg
import Derived.Test.YtpakdcgcgekcfaaDoorMem
import Derived.Test.YtpakdcgcgekcfaaDoorFuse3
import Derived.Maps.AppendAt
import Derived.Deep.LoopGhost
namespace Go.Proofs.YtpakdcgcgekcfaaDoor
open Go.RowKit

namespace Fuse
variable {p b : Nat} {vs : List Nat} {ls : List Bool}
/-- A slice of words of the call's own. -/
def Own32 (w : World) (base : Nat) (v : Value) (vs : List Nat) : Prop := w.ownsRow base 43 1 v vs.length (vs.map fun x => Value.int .u32 ((x : Nat) : Int))
theorem Own32.form {w : World} {base : Nat} {v : Value} {vs : List Nat} (h : Own32 w base v vs) (hw : ∀ (i x : Nat), vs[i]? = some x → x < 4294967296) : ∃ A c, v = .slice A vs.length c ∧ vs.length ≤ c ∧ c ≤ maxLen ∧ Nats .u32 4294967296 w w.heap.size A vs := by
  rcases h.2 with ⟨rfl, hn⟩ | ⟨g, cap, cur, rfl, hg, hh, hc, hm, hs, ht⟩
  · refine ⟨none, 0, by rw [hn], by omega, by simp, fun i z hz => ?_⟩
    have : vs = [] := List.eq_nil_of_length_eq_zero hn
    rw [this] at hz; simp at hz
  · refine ⟨some ⟨g, 0, none⟩, cap, rfl, hc, hm, fun i z hz => ⟨hw i z hz, g, 0, rfl, ?_, ?_⟩⟩
    · exact Blk.lt (w := w) (t := 43) (cs := cur) hh
    · have hi : i < vs.length := (List.getElem?_eq_some_iff.1 hz).1
      have := World.ownsRow.cellAt h i (by omega)
      rw [Nat.zero_add, this, List.getElem?_map, hz]
      rfl

theorem Own32.at_ {w : World} {base : Nat} {A : Option Addr} {n c : Nat} {vs : List Nat} (h : Own32 w base (.slice A n c) vs) {i x : Nat} (hx : vs[i]? = some x) :
    ∃ g, A = some ⟨g, 0, none⟩ ∧ base ≤ g ∧ g < w.heap.size ∧ w.cell? ⟨g, i, none⟩ = some (.int .u32 (x : Int)) ∧ w.frozen? ⟨g, i, none⟩ = false ∧ ∀ y : Nat, Own32 (w.setCell ⟨g, i, none⟩ (.int .u32 (y : Int))) base (.slice A n c) (vs.set i y) := by
  have hi : i < vs.length := (List.getElem?_eq_some_iff.1 hx).1
  have h' := h
  rcases h.2 with ⟨hv, hn⟩ | ⟨g, cap, cur, hv, hg, hh, hc, hm, hs, ht⟩
  · omega
  · simp only [Value.slice.injEq] at hv
    obtain ⟨rfl, rfl, rfl⟩ := hv
    refine ⟨g, rfl, hg, Blk.lt (w := w) (t := 43) (cs := cur) hh, ?_, Blk.frozen (w := w) (t := 43) (cs := cur) hh i, fun y => ?_⟩
    · have := World.ownsRow.cellAt h' i (by omega)
      rw [this, List.getElem?_map, hx]
      rfl
    · have := (World.ownsRow.stored h' i (.int .u32 (y : Int))).1
      unfold Own32
      rw [List.length_set, List.map_set]
      exact this

theorem Own32.nilc {w : World} {base : Nat} {A : Option Addr} {n c : Nat} {vs : List Nat} (h : Own32 w base (.slice A n c) vs) : (A = none → c = 0) ∧ ∃ S : List Nat, (∀ ad : Addr, A = some ad → ad.block ∈ S) ∧ ∀ x, x ∈ S → base ≤ x ∧ x < w.heap.size := by
  rcases h.2 with ⟨hv, hn⟩ | ⟨g, cap, cur, hv, hg, hh, hc, hm, hs, ht⟩
  · simp only [Value.slice.injEq] at hv
    exact ⟨fun _ => hv.2.2, [], ⟨(fun ad h => by rw [hv.1] at h; cases h), by simp⟩⟩
  · simp only [Value.slice.injEq] at hv
    obtain ⟨rfl, rfl, rfl⟩ := hv
    exact ⟨(fun h => by cases h), [g], (fun ad h => by cases h; simp), fun x hx => by simp at hx; subst hx; exact ⟨hg, Blk.lt (w := w) (t := 43) (cs := cur) hh⟩⟩

theorem Own32.drewN {w : World} {base : Nat} {v : Value} {vs : List Nat} (h : Own32 w base v vs) (n : Nat) : Own32 (w.drewN n) base v vs := h
theorem Own32.drew {w : World} {base : Nat} {v : Value} {vs : List Nat} (h : Own32 w base v vs) : Own32 w.drew base v vs := h

theorem u32_info : (Tryd.prog.info? 43).map (fun i => (i.zero, i.size, i.bytes)) = some (some (.int .u32 0), 1, 4) := by kernel_rfl

def WordsOut (w : World) (vs : List Nat) (e : Ending) (w' : World) : Prop := ∃ v, e = .returned v ∧ Own32 w' w.heap.size v vs ∧ Below w.heap.size w w'

set_option maxHeartbeats 1000000 in
theorem words_any (w : World) (h : Fz w p b vs ls) : Calls Tryd.prog 22 #[.pointer (some ⟨p, 0, none⟩)] w (WordsOut w vs) := by
  obtain ⟨i0, hi0, hz0, hz1, hz2⟩ := info_row u32_info
  obtain ⟨c, hc, hp⟩ := h.cell0
  have hm := h.most
  have HI := Lib.hid hi0
  have HI1 := Lib.hid hz0
  have HI2 := Lib.hid hz1
  have HI3 := Lib.hid hz2
  have H := Lib.hid h
  clear hi0 hz0 hz1 hz2 h
  go_enter Tryd.func22, Tryd.ntmps22
  go_wp2_with fail
  go_loopg [3, 13] vs.length (fun g s3 s13 wr => ∃ i : Nat, i + g = vs.length ∧ s13 = .int .i64 (i : Int) ∧ Own32 wr w.heap.size s3 (vs.take i) ∧ Below w.heap.size w wr)
  case atStart => exact ⟨0, by omega, rfl, World.ownsRow_nil _ _ _ _, Below.refl _ _⟩
  case round =>
    obtain ⟨i, hg, rfl, hO, hB⟩ := hrel
    have HG := Lib.hid hg
    have hig : i ≤ vs.length := by omega
    have HB := Lib.hid hB
    have HO := Lib.hid hO
    clear hg hB hO
    by_cases hlt : i < vs.length
    · have hF := H.out.below HB.out H.out.ltp H.out.ltb
      obtain ⟨x, lx, hx, hlx, hx2, hv, hl⟩ := hF.at_ hlt
      have HX := Lib.hid hx
      have HT := Lib.hid (take_snoc hx)
      have hwl : w.heap.size ≤ wr.heap.size := HB.out.size
      have hbl : b < wr.heap.size := hF.ltb
      clear hF hx hlx
      go_wp2_with (at_builtin; refine wpList_append_own _ rfl (.tmp 17) (.tmp 20) 37 rfl w.heap.size 43 i0 (.int .u32 0) 1 4 Tryd.underlying37 HI.out HI1.out HI2.out HI3.out rfl (by decide) _ _ _ rfl ((HO.out.alloc _).alloc _) ⟨wr.heap.size + 1, 0, none⟩ 1 1 [.int .u32 (x : Int)] rfl rfl ?c1 ?c2 ?c3 ?c4 ?c5 ?_)
      case c1 =>
        have h1 := cell_one_new (wr.alloc (.cells #[.int .u32 (x : Int), .bool lx] 129)) (.int .u32 (x : Int)) 43
        simpa using h1
      case c2 => intro u hu; simp at hu; subst hu; rfl
      case c3 => simp only [List.length_take, maxLen]; omega
      case c4 => simp only [List.length_take]; omega
      case c5 => simp; omega
      · intro v1 w1 hO1 hg1 _
        have hB1 := ((HB.out.alloc HB.out.size (.cells #[.int .u32 (x : Int), .bool lx] 129)).alloc (by simp; omega) (.cells #[.int .u32 (x : Int)] 43)).grown hg1 (by simp; omega) (fun k hk => (World.ownsRow.lt HO.out k hk).1)
        have HO1 := Lib.hid hO1
        have HB1 := Lib.hid hB1
        clear hO1 hB1 hg1
        go_wp2_with fail
        go_light
        go_roundg (vs.length - (i + 1))
        case measure => have := HG.out; omega
        case rel =>
          refine ⟨i + 1, by omega, by go_num, ?_, HB1.out⟩
          have h2 := HO1.out
          unfold Own32
          rw [HT.out]
          have hmin : min i vs.length = i := Nat.min_eq_left hig
          simpa [hmin] using h2
    · go_wp2_with fail
      go_light
      have : i = vs.length := by omega
      subst this
      go_ret
      have hOO := HO.out
      rw [List.take_length] at hOO
      exact ⟨_, rfl, hOO, HB.out⟩
end Fuse
end Go.Proofs.YtpakdcgcgekcfaaDoor
