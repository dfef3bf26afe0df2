/-
  Package otp: plan: what is to be programmed so that words are as they should be.
-/
import Derived.Test.YtpakdcgcgekcfaaDoorProg
import Derived.Test.YtpakdcgcgekcfaaDoorMem
import Derived.Test.YtpakdcgcgekcfaaDoorOtp
import Derived.Deep.LoopGhost
namespace Go.Proofs.YtpakdcgcgekcfaaDoor
open Go.RowKit

namespace Otp
open Fuse
variable {w w' : World} {c p b : Nat} {vs : List Nat} {ls : List Bool} {sd : Bool}
/-- The cells of a list of Writes. -/
def wcells (l : List (Nat × Nat)) : List Value := l.flatMap fun x => [.int .i64 ((x.1 : Nat) : Int), .int .u32 ((x.2 : Nat) : Int)]
theorem wcells_length (l : List (Nat × Nat)) : (wcells l).length = l.length * 2 := by
  induction l with
  | nil => rfl
  | cons x r ih => simp only [wcells, List.flatMap_cons, List.length_append, List.length_cons, List.length_nil] at *; omega
theorem wcells_append (l r : List (Nat × Nat)) : wcells (l ++ r) = wcells l ++ wcells r := by simp [wcells]
theorem wcells_at (l : List (Nat × Nat)) : ∀ (i a v : Nat), l[i]? = some (a, v) → (wcells l)[i * 2]? = some (.int .i64 (a : Int)) ∧ (wcells l)[i * 2 + 1]? = some (.int .u32 (v : Int)) := by
  induction l with
  | nil => intro i a v h; simp at h
  | cons x r ih =>
    intro i a v h
    cases i with
    | zero =>
      simp only [List.getElem?_cons_zero, Option.some.injEq] at h
      subst h
      exact ⟨rfl, rfl⟩
    | succ j =>
      have := ih j a v (by simpa using h)
      rw [show (j + 1) * 2 = j * 2 + 2 by omega, show j * 2 + 2 + 1 = j * 2 + 1 + 2 by omega]
      exact this
/-- A slice of Writes of one's own. -/
def OwnW (w : World) (base : Nat) (v : Value) (l : List (Nat × Nat)) : Prop := w.ownsRow base 58 2 v l.length (wcells l)
theorem write_info : (Tryd.prog.info? 58).map (fun i => (i.zero, i.size, i.bytes)) = some (some (.agg #[.int .i64 0, .int .u32 0]), 2, 16) := by kernel_rfl

/-- Words as they should be, from one on. -/
def planOf (vs : List Nat) : Nat → List Nat → List (Nat × Nat)
  | _, [] => []
  | f, v :: r => (if (vs[f]?.getD 0) ||| v = (vs[f]?.getD 0) then [] else [(f, (vs[f]?.getD 0) ||| v)]) ++ planOf vs (f + 1) r
theorem planOf_append (vs : List Nat) : ∀ (f : Nat) (l r : List Nat), planOf vs f (l ++ r) = planOf vs f l ++ planOf vs (f + l.length) r
  | f, [], r => by simp [planOf]
  | f, x :: l, r => by
    simp only [List.cons_append, planOf, planOf_append vs (f + 1) l r, List.length_cons, List.append_assoc]
    rw [show f + 1 + l.length = f + (l.length + 1) by omega]
theorem planOf_snoc (vs : List Nat) (f : Nat) (l : List Nat) {i x old : Nat} (hx : l[i]? = some x) (ho : vs[f + i]? = some old) :
    planOf vs f (l.take (i + 1)) = planOf vs f (l.take i) ++ (if old ||| x = old then [] else [(f + i, old ||| x)]) := by
  have hi : i < l.length := (List.getElem?_eq_some_iff.1 hx).1
  rw [take_snoc hx, planOf_append, List.length_take, Nat.min_eq_left (by omega)]
  simp [planOf, ho]
theorem planOf_length (vs : List Nat) : ∀ (f : Nat) (l : List Nat), (planOf vs f l).length ≤ l.length
  | f, [] => by simp [planOf]
  | f, x :: l => by
    have := planOf_length vs (f + 1) l
    simp only [planOf, List.length_append, List.length_cons]
    split <;> simp <;> omega

theorem cells_new (w : World) (news : List Value) (cs : Array Value) (hcs : cs = news.toArray) (t : TypeId) : ∀ (j : Nat) (u : Value), news[j]? = some u → (w.alloc (.cells cs t)).cell? ((⟨w.heap.size, 0, none⟩ : Addr).add j) = some u := by
  intro j u hu
  subst hcs
  have hadd : (⟨w.heap.size, 0, none⟩ : Addr).add j = ⟨w.heap.size, j, none⟩ := by unfold Addr.add; split <;> simp_all
  rw [hadd, (Blk.new w t _).cell j]
  simpa using hu

def PlanOut (w : World) (vs : List Nat) (f : Nat) (l : List Nat) (e : Ending) (w' : World) : Prop := ∃ v, e = .returned v ∧ OwnW w' w.heap.size v (planOf vs f l) ∧ Below w.heap.size w w'

set_option maxHeartbeats 2000000 in
theorem plan_any (from_ : Int) (f : Nat) (A : Option Addr) (len cap : Nat) (l : List Nat) (w : World) (h : Cz w c p b vs ls sd) (hf : from_ = f) (hl : l.length = len) (hfl : f + l.length ≤ 64)
    (hz : Nats .u32 4294967296 w w.heap.size A l) :
    Calls Tryd.prog 73 #[.pointer (some ⟨c, 0, none⟩), .int .i64 from_, .slice A len cap] w (PlanOut w vs f l) := by
  obtain ⟨i0, hi0, hz0, hz1, hz2⟩ := info_row write_info
  subst hf
  subst hl
  have HI := Lib.hid hi0
  have HI1 := Lib.hid hz0
  have HI2 := Lib.hid hz1
  have HI3 := Lib.hid hz2
  have H := Lib.hid h
  have HN := Lib.hid hz
  clear hi0 hz0 hz1 hz2 h hz
  go_enter Tryd.func73, Tryd.ntmps73
  go_wp2_with fail
  go_loopg [7, 13] l.length (fun g s7 s13 wr => ∃ i : Nat, i + g = l.length ∧ s13 = .int .i64 (i : Int) ∧ OwnW wr w.heap.size s7 (planOf vs f (l.take i)) ∧ Below w.heap.size w wr)
  case atStart => exact ⟨0, by omega, rfl, World.ownsRow_nil _ _ _ _, Below.refl _ _⟩
  case round =>
    obtain ⟨i, hg, rfl, hO, hB⟩ := hrel
    have HG := Lib.hid hg
    have hig : i ≤ l.length := by omega
    have HB := Lib.hid hB
    have HO := Lib.hid hO
    clear hg hB hO
    by_cases hlt : i < l.length
    · obtain ⟨x, hx⟩ : ∃ x, l[i]? = some x := ⟨_, List.getElem?_eq_getElem hlt⟩
      obtain ⟨hxM, g0, off, rfl, hg0, hcx⟩ := (HN.out.below HB.out) i x hx
      obtain ⟨old, ho⟩ : ∃ old, vs[f + i]? = some old := ⟨_, List.getElem?_eq_getElem (by have := H.out.len; omega)⟩
      have hoM := H.out.fz.word _ _ ho
      have HS := Lib.hid (planOf_snoc vs f l hx ho)
      have hC := H.out.old HB.out
      have HC := Lib.hid hC
      clear hC hx
      go_wp2_with fail
      (with_reducible refine (all_any _ HC.out).mono ?_); rintro e w1 ⟨v, rfl, hO, hB⟩
      obtain ⟨A1, cp, rfl, hc1, hc2, -⟩ := hO.form HC.out.fz.word
      obtain ⟨g1, rfl, hg1, hg2, hco, -⟩ := hO.at_ ho
      have hvl : vs.length = 64 := HC.out.len
      rw [hvl] at hc1 ⊢
      have b1 := u32_or_nat old x hoM hxM
      have hB1 := below_then HB.out hB (Nat.le_refl _)
      have hO1 : OwnW w1 w.heap.size _ _ := own_frm (S := []) HO.out (Frm.of_below hB) (fun y hy => by simp at hy)
      have HB1 := Lib.hid hB1
      have HO1 := Lib.hid hO1
      have hwl : w.heap.size ≤ w1.heap.size := hB1.size
      have hlen := planOf_length vs f (l.take i)
      rw [List.length_take] at hlen
      clear hB hO hB1 hO1 ho HC
      by_cases hs : old ||| x = old
      · rw [hs] at b1
        have hS := HS.out
        rw [if_pos hs, List.append_nil] at hS
        rw [← hS] at HO1
        clear hs hS
        go_wp2_with fail
        go_light
        go_roundg (l.length - (i + 1))
        case measure => have := HG.out; omega
        case rel => exact ⟨i + 1, by omega, by go_num, HO1.out, HB1.out⟩
      · have hne : (((old ||| x : Nat) : Int) != (old : Int)) = true := by
          simp only [bne_iff_ne, ne_eq, Int.ofNat_inj]
          exact hs
        have hS := HS.out
        rw [if_neg hs] at hS
        have HS := Lib.hid hS
        clear hs hS
        generalize hy : old ||| x = y at *
        clear hy
        go_wp2_with (at_builtin; refine wpList_append_own _ rfl (.tmp 30) (.tmp 38) 27 rfl w.heap.size 58 i0 (.agg #[.int .i64 0, .int .u32 0]) 2 16 Tryd.underlying27 HI.out HI1.out HI2.out HI3.out rfl (by decide) _ _ _ rfl (HO1.out.alloc _) ⟨w1.heap.size, 0, none⟩ 1 1 [.int .i64 ((f : Int) + i), .int .u32 (y : Int)] rfl rfl ?c1 ?c2 ?c3 ?c4 ?c5 ?_)
        case c1 => exact cells_new _ _ _ rfl _
        case c2 => intro u hu; simp at hu; rcases hu with rfl | rfl <;> rfl
        case c3 => simp only [maxLen]; omega
        case c4 => omega
        case c5 => simp; omega
        · intro v1 w2 hO1 hg1 _
          have hB1 := (HB1.out.alloc hwl (.cells #[.int .i64 ((f : Int) + i), .int .u32 (y : Int)] 58)).grown hg1 (by simp; omega) (fun k hk => (World.ownsRow.lt HO1.out k hk).1)
          have HO2 := Lib.hid hO1
          have HB2 := Lib.hid hB1
          clear hO1 hB1 hg1
          go_wp2_with fail
          go_light
          go_roundg (l.length - (i + 1))
          case measure => have := HG.out; omega
          case rel =>
            refine ⟨i + 1, by omega, by go_num, ?_, HB2.out⟩
            have h2 := HO2.out
            unfold OwnW
            rw [HS.out, wcells_append, List.length_append]
            exact h2
    · have : i = l.length := by omega
      subst this
      go_wp2_with fail
      go_light
      go_ret
      have hOO := HO.out
      rw [List.take_length] at hOO
      exact ⟨_, rfl, hOO, HB.out⟩
end Otp
end Go.Proofs.YtpakdcgcgekcfaaDoor
