/-
  The reference's Join (curtilageref01): bytes behind bytes.
-/
import Derived.Test.YtpakdcgcgekcfaaDoorProg
import Derived.Test.YtpakdcgcgekcfaaDoorMem
import Derived.Test.YtpakdcgcgekcfaaDoorNext
import Derived.Test.YtpakdcgcgekcfaaDoorR1Cut
import Derived.Deep.LoopGhost
import Derived.Deep.AppendLies
namespace Go.Proofs.YtpakdcgcgekcfaaDoor
open Go.RowKit

namespace R1
/-- A part: where it lies (block, offset), its capacity, its bytes. -/
structure Part where
  g : Nat
  o : Nat
  c : Nat
  l : List Nat
def joinB (ps : List Part) : List Nat := ps.flatMap (·.l)
theorem joinB_le : ∀ (ps : List Part) (n : Nat), (∀ p ∈ ps, p.l.length ≤ n) → (joinB ps).length ≤ n * ps.length
  | [], _, _ => by simp [joinB]
  | p :: ps, n, h => by
    have h1 := joinB_le ps n (fun q hq => h q (by simp [hq]))
    have h2 := h p (by simp)
    simp only [joinB, List.flatMap_cons, List.length_append, List.length_cons, Nat.mul_succ] at h1 ⊢
    omega
theorem joinB_snoc (ps : List Part) (p : Part) : joinB (ps ++ [p]) = joinB ps ++ p.l := by simp [joinB]
set_option maxRecDepth 100000 in
set_option maxHeartbeats 1000000 in
theorem join_any (J jo len cap : Nat) (ps : List Part) (w : World) (hlen : ps.length = len) (hl : len ≤ 8) (hJ : J < w.heap.size)
    (hc : ∀ (i : Nat) (p : Part), ps[i]? = some p → w.cell? ⟨J, jo + i, none⟩ = some (.slice (some ⟨p.g, p.o, none⟩) p.l.length p.c))
    (hn : ∀ p ∈ ps, p.l.length ≤ 64 ∧ Nats .u8 256 w w.heap.size (some ⟨p.g, p.o, none⟩) p.l) :
    Calls Tryd.prog 31 #[.slice (some ⟨J, jo, none⟩) len cap] w (BytesOut w (joinB ps)) := by
  obtain ⟨i0, hi0, hz0, hz1, hz2⟩ := info_row u8_info
  have HI := Lib.hid hi0
  have HI1 := Lib.hid hz0
  have HI2 := Lib.hid hz1
  have HI3 := Lib.hid hz2
  have HN := Lib.hid hn
  have HC := Lib.hid hc
  subst hlen
  clear hi0 hz0 hz1 hz2 hn hc
  go_enter Tryd.func31, Tryd.ntmps31
  go_wp2_with fail
  go_loopg [3, 8] ps.length (fun g s3 s8 wr => ∃ i : Nat, i + g = ps.length ∧ s8 = .int .i64 (i : Int) ∧ OwnB wr w.heap.size s3 (joinB (ps.take i)) ∧ Below w.heap.size w wr)
  case atStart => exact ⟨0, by omega, rfl, World.ownsRow_nil _ _ _ _, Below.refl _ _⟩
  case round =>
    obtain ⟨i, hg, rfl, hO, hB⟩ := hrel
    have HG := Lib.hid hg
    have hig : i ≤ ps.length := by omega
    have HB := Lib.hid hB
    have HO := Lib.hid hO
    have hwl : w.heap.size ≤ wr.heap.size := hB.size
    clear hg hB hO
    by_cases hlt : i < ps.length
    · obtain ⟨p, hx⟩ : ∃ p, ps[i]? = some p := ⟨_, List.getElem?_eq_getElem hlt⟩
      have hcx := (HB.out.cell (p := ⟨J, jo + i, none⟩) hJ).trans (HC.out i p hx)
      obtain ⟨hp64, hpn⟩ := HN.out p (List.mem_of_getElem? hx)
      have hsrc := nats_src (hpn.below HB.out)
      have HS := Lib.hid hsrc
      have HT := Lib.hid (take_snoc hx)
      have hlen : (joinB (ps.take i)).length ≤ 64 * i := by
        have := joinB_le (ps.take i) 64 (fun q hq => (HN.out q (List.mem_of_mem_take hq)).1)
        rw [List.length_take] at this
        omega
      have HL := Lib.hid hlen
      obtain ⟨pg, po, pc, pl⟩ := p
      simp only [] at hcx hp64 HS HT
      have HM := Lib.hid (show (pl.map fun x => Value.int .u8 ((x : Nat) : Int)).length = pl.length by simp)
      clear hx hlen hpn hsrc
      go_wp2_with (at_builtin; refine wpList_append_src rfl (.tmp 12) (.tmp 13) 53 rfl w.heap.size 5 i0 (.int .u8 0) 1 Tryd.underlying53 HI.out HI1.out HI2.out HI3.out rfl _ _ _ rfl HO.out _ _ _ (pl.map fun x => Value.int .u8 ((x : Nat) : Int)) rfl HM.out HS.out (by simp) ?c2 ?c3 ?c4 hwl ?_)
      case c2 =>
        intro u hu
        obtain ⟨a, _, rfl⟩ := List.mem_map.1 hu
        rfl
      case c3 => have := HL.out; simp only [maxLen]; omega
      case c4 => have := HL.out; omega
      intro v2 w2 hO2 hg2 _
      have HB2 := Lib.hid (HB.out.grown hg2 hwl (fun k hk => (World.ownsRow.lt HO.out k hk).1))
      have HO2 := Lib.hid hO2
      clear hO2 hg2
      go_wp2_with fail
      go_light
      go_roundg (ps.length - (i + 1))
      case measure => have := HG.out; omega
      case rel =>
        refine ⟨i + 1, by omega, by go_num, ?_, HB2.out⟩
        have h2 := HO2.out
        unfold OwnB
        rw [HT.out, joinB_snoc, List.length_append, List.map_append]
        exact h2
    · have : i = ps.length := by omega
      subst this
      have HT := Lib.hid (show ps.take ps.length = ps from List.take_length)
      go_wp2_with fail
      go_light
      go_ret
      have hOO := HO.out
      rw [HT.out] at hOO
      exact ⟨_, rfl, hOO, HB.out⟩
end R1
end Go.Proofs.YtpakdcgcgekcfaaDoor
