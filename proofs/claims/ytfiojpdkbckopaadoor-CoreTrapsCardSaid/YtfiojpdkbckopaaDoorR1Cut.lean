/-
  The reference's Cut (curtilageref01): the first bytes, apart.
-/
import Derived.Test.YtfiojpdkbckopaaDoorProg
import Derived.Test.YtfiojpdkbckopaaDoorJ68c09f72
import Derived.Test.YtfiojpdkbckopaaDoorJ45a3a83e
import Derived.Deep.LoopGhost
set_option linter.unusedSimpArgs false
set_option linter.unusedVariables false
namespace Go.Proofs.YtfiojpdkbckopaaDoor
open Go.RowKit

namespace R1
set_option maxHeartbeats 1000000 in
theorem cut_any (A : Option Addr) (len cap : Nat) (l : List Nat) (m : Int) (k : Nat) (w : World) (hl : l.length = len) (hm : len ≤ maxLen) (hmk : m = k) (hk : k ≤ 1000000) (hz : Nats .u8 256 w w.heap.size A l) :
    Calls Tryd.prog 23 #[.slice A len cap, .int .i64 m] w (BytesOut w (l.take k)) := by
  obtain ⟨i0, hi0, hz0, hz1, hz2⟩ := info_row u8_info
  have HI := Lib.hid hi0
  have HI1 := Lib.hid hz0
  have HI2 := Lib.hid hz1
  have HI3 := Lib.hid hz2
  have HN := Lib.hid hz
  subst hmk
  subst hl
  simp only [maxLen] at hm
  clear hi0 hz0 hz1 hz2 hz
  go_enter Tryd.func23, Tryd.ntmps23
  go_wp2_with fail
  go_loopg [5, 10] l.length (fun g s5 s10 wr => ∃ i : Nat, i + g = l.length ∧ s10 = .int .i64 (i : Int) ∧ OwnB wr w.heap.size s5 ((l.take k).take i) ∧ Below w.heap.size w wr)
  case atStart => exact ⟨0, by omega, rfl, World.ownsRow_nil _ _ _ _, Below.refl _ _⟩
  case round =>
    obtain ⟨i, hg, rfl, hO, hB⟩ := hrel
    have HG := Lib.hid hg
    have hig : i ≤ l.length := by omega
    have HB := Lib.hid hB
    have HO := Lib.hid hO
    have hwl : w.heap.size ≤ wr.heap.size := hB.size
    clear hg hB hO
    by_cases hlt : i < l.length
    · obtain ⟨x, hx⟩ : ∃ x, l[i]? = some x := ⟨_, List.getElem?_eq_getElem hlt⟩
      obtain ⟨hxM, g0, off, rfl, hg0, hcx⟩ := (HN.out.below HB.out) i x hx
      by_cases hik : i < k
      · have HT := Lib.hid (take_snoc (l := l.take k) (i := i) (x := x) (by rw [List.getElem?_take, if_pos hik]; exact hx))
        have hlen : ((l.take k).take i).length = i := by rw [List.length_take, List.length_take]; omega
        have HL := Lib.hid hlen
        clear hx
        go_wp2_with (at_builtin; refine wpList_append_own _ rfl (.tmp 18) (.tmp 20) 22 rfl w.heap.size 5 i0 (.int .u8 0) 1 1 Tryd.underlying22 HI.out HI1.out HI2.out HI3.out rfl (by decide) _ _ _ rfl (HO.out.alloc _) ⟨wr.heap.size, 0, none⟩ 1 1 [.int .u8 (x : Int)] rfl rfl ?c1 ?c2 ?c3 ?c4 ?c5 ?_)
        case c1 =>
          have h1 := cell_one_new wr (.int .u8 (x : Int)) 5
          simpa using h1
        case c2 => intro u hu; simp at hu; subst hu; rfl
        case c3 => rw [hlen]; simp only [maxLen]; omega
        case c4 => rw [hlen]; omega
        case c5 => simp; omega
        · intro v1 w1 hO1 hg1 _
          have hB1 := (HB.out.alloc hwl (.cells #[.int .u8 (x : Int)] 5)).grown hg1 (by simp; omega) (fun k hk => (World.ownsRow.lt HO.out k hk).1)
          have HO1 := Lib.hid hO1
          have HB1 := Lib.hid hB1
          clear hO1 hB1 hg1
          go_wp2_with fail
          go_light
          go_roundg (l.length - (i + 1))
          case measure => have := HG.out; omega
          case rel =>
            refine ⟨i + 1, by omega, by go_num, ?_, HB1.out⟩
            have h2 := HO1.out
            unfold OwnB
            rw [HT.out, List.length_append, List.map_append, HL.out]
            simpa [List.map_take] using h2
      · have HT := Lib.hid (show (l.take k).take (i + 1) = (l.take k).take i by rw [List.take_of_length_le (show (l.take k).length ≤ i + 1 by rw [List.length_take]; omega), List.take_of_length_le (show (l.take k).length ≤ i by rw [List.length_take]; omega)])
        clear hx
        go_wp2_with fail
        go_light
        go_roundg (l.length - (i + 1))
        case measure => have := HG.out; omega
        case rel => exact ⟨i + 1, by omega, by go_num, by rw [HT.out]; exact HO.out, HB.out⟩
    · have HT := Lib.hid (show (l.take k).take i = l.take k from List.take_of_length_le (by rw [List.length_take]; omega))
      have : i = l.length := by omega
      subst this
      go_wp2_with fail
      go_light
      go_ret
      have hOO := HO.out
      rw [HT.out] at hOO
      exact ⟨_, rfl, hOO, HB.out⟩
end R1
end Go.Proofs.YtfiojpdkbckopaaDoor
