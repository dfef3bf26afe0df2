/-
  The reference's Bytes (curtilageref11): words as bytes, each word's highest first.
-/
import Derived.Test.YtmcpppgnfmopoaaDoorProg
import Derived.Test.YtmcpppgnfmopoaaDoorMem
import Derived.Test.YtmcpppgnfmopoaaDoorNext
import Derived.Test.YtmcpppgnfmopoaaDoorR1Cut
import Derived.Test.YtmcpppgnfmopoaaDoorR1Num
import Derived.Deep.LoopGhost
import Derived.Deep.AppendLies
namespace Go.Proofs.YtmcpppgnfmopoaaDoor
open Go.RowKit

namespace Otp
open R1
/-- The bytes of words. -/
def wordsB (l : List Nat) : List Nat := l.flatMap fun x => numB x 4
theorem wordsB_length : ∀ l : List Nat, (wordsB l).length = 4 * l.length
  | [] => rfl
  | x :: l => by
    have := wordsB_length l
    simp only [wordsB, List.flatMap_cons, List.length_append, numB_length, List.length_cons] at this ⊢
    omega
theorem wordsB_snoc (l : List Nat) (x : Nat) : wordsB (l ++ [x]) = wordsB l ++ numB x 4 := by simp [wordsB]
set_option maxRecDepth 100000 in
set_option maxHeartbeats 1000000 in
theorem bytes_any (A : Option Addr) (len cap : Nat) (l : List Nat) (w : World) (B : Nat) (hl : l.length = len) (hm : len ≤ 64) (hB : B ≤ w.heap.size) (hz : Nats .u32 4294967296 w B A l) :
    Calls Tryd.prog 57 #[.slice A len cap] w (BytesOut w (wordsB l)) := by
  obtain ⟨i0, hi0, hz0, hz1, hz2⟩ := info_row u8_info
  have HI := Lib.hid hi0
  have HI1 := Lib.hid hz0
  have HI2 := Lib.hid hz1
  have HI3 := Lib.hid hz2
  have HN := Lib.hid (hz.more hB)
  subst hl
  clear hi0 hz0 hz1 hz2 hz hB
  go_enter Tryd.func57, Tryd.ntmps57
  go_wp2_with fail
  go_loopg [3, 8] l.length (fun g s3 s8 wr => ∃ i : Nat, i + g = l.length ∧ s8 = .int .i64 (i : Int) ∧ OwnB wr w.heap.size s3 (wordsB (l.take i)) ∧ Below w.heap.size w wr)
  case atStart => exact ⟨0, by omega, rfl, World.ownsRow_nil _ _ _ _, Below.refl _ _⟩
  case round =>
    obtain ⟨i, hg, rfl, hO, hB⟩ := hrel
    have HG := Lib.hid hg
    have hig : i ≤ l.length := by omega
    have HB := Lib.hid hB
    have HO := Lib.hid hO
    have hwl : w.heap.size ≤ wr.heap.size := hB.size
    clear hg hB hO
    by_cases hlt : i < l.length
    · obtain ⟨x, hx⟩ : ∃ x, l[i]? = some x := ⟨_, List.getElem?_eq_getElem hlt⟩
      obtain ⟨hxM, g0, off, rfl, hg0, hcx⟩ := (HN.out.below HB.out) i x hx
      have HT := Lib.hid (take_snoc hx)
      have hlen : (wordsB (l.take i)).length = 4 * i := by rw [wordsB_length, List.length_take]; omega
      have HL := Lib.hid hlen
      clear hx hlen
      go_wp2_with fail
      (with_reducible refine (num_any _ 4 x 4 _ rfl rfl (by omega) (by omega)).mono ?_); rintro e w1 ⟨v, rfl, hv, hB1⟩
      obtain ⟨g1, c1, rfl, hg1, hg1l⟩ := World.ownsRow.form hv (by rw [numB_length]; omega)
      have HV := Lib.hid hv
      rw [numB_length] at HV
      have HS : Hid (∀ (j : Nat) (u : Value), ((numB x 4).map fun x => Value.int .u8 ((x : Nat) : Int))[j]? = some u → ∃ ad, (some ⟨g1, 0, none⟩ : Option Addr) = some ad ∧ w1.cell? (ad.add j) = some u) := Lib.hid (fun j u hu => ⟨_, rfl, hv.cells (g := g1) rfl j u hu⟩)
      have hf1 := Frm.of_below (S := []) hB1
      have HO1 := Lib.hid (own_frm HO.out hf1 (by simp))
      have HB1 := Lib.hid (below_then HB.out hB1 (Nat.le_refl _))
      have hw1 : w.heap.size ≤ w1.heap.size := Nat.le_trans hwl hB1.size
      rw [numB_length]
      have HM := Lib.hid (show ((numB x 4).map fun x => Value.int .u8 ((x : Nat) : Int)).length = 4 by simp [numB_length])
      clear hv hB1 hf1
      go_wp2_with (at_builtin; refine wpList_append_src rfl (.tmp 12) (.tmp 15) 22 rfl w.heap.size 5 i0 (.int .u8 0) 1 Tryd.underlying22 HI.out HI1.out HI2.out HI3.out rfl _ _ _ rfl HO1.out _ 4 c1 ((numB x 4).map fun x => Value.int .u8 ((x : Nat) : Int)) rfl HM.out HS.out (by simp) ?c2 ?c3 ?c4 hw1 ?_)
      case c2 =>
        intro u hu
        obtain ⟨a, _, rfl⟩ := List.mem_map.1 hu
        rfl
      case c3 => rw [HL.out]; simp only [maxLen]; omega
      case c4 => rw [HL.out]; omega
      intro v2 w2 hO2 hg2 _
      have HB2 := Lib.hid (HB1.out.grown hg2 hw1 (fun k hk => (World.ownsRow.lt HO1.out k hk).1))
      have HO2 := Lib.hid hO2
      clear hO2 hg2
      go_wp2_with fail
      go_light
      go_roundg (l.length - (i + 1))
      case measure => have := HG.out; omega
      case rel =>
        refine ⟨i + 1, by omega, by go_num, ?_, HB2.out⟩
        have h2 := HO2.out
        unfold OwnB
        rw [HT.out, wordsB_snoc, List.length_append, List.map_append, numB_length]
        exact h2
    · have : i = l.length := by omega
      subst this
      have HT := Lib.hid (show l.take l.length = l from List.take_length)
      go_wp2_with fail
      go_light
      go_ret
      have hOO := HO.out
      rw [HT.out] at hOO
      exact ⟨_, rfl, hOO, HB.out⟩
end Otp
end Go.Proofs.YtmcpppgnfmopoaaDoor
