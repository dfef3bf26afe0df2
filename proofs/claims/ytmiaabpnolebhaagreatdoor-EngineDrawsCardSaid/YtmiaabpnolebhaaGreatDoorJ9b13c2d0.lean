/-
  Texts of this claim, joined: OtpPlan, OtpCtr, OtpTo.
-/
import Derived.Test.YtmiaabpnolebhaaGreatDoorJf9ebcd6a
import Derived.RegionTactic
set_option linter.unusedSimpArgs false
set_option linter.unusedVariables false
/-
  Package otp: plan: what is to be programmed so that words are as they should be.
-/
namespace Go.Proofs.YtmiaabpnolebhaaGreatDoor
open Go.RowKit

namespace Otp
open Fuse
variable {w w' : World} {c p b : Nat} {vs : List Nat} {ls : List Bool} {sd : Bool}
/-- The cells of a list of Writes. -/
def wcells (l : List (Nat × Nat)) : List Value := l.flatMap fun x => [.int .i64 ((x.1 : Nat) : Int), .int .u32 ((x.2 : Nat) : Int)]
theorem wcells_length (l : List (Nat × Nat)) : (wcells l).length = l.length * 2 := by
  induction l with
  | nil => rfl
  | cons x r ih => simp only [wcells, List.flatMap_cons, List.length_append, List.length_cons, List.length_nil] at *; omega
theorem wcells_append (l r : List (Nat × Nat)) : wcells (l ++ r) = wcells l ++ wcells r := by simp [wcells]
theorem wcells_at (l : List (Nat × Nat)) : ∀ (i a v : Nat), l[i]? = some (a, v) → (wcells l)[i * 2]? = some (.int .i64 (a : Int)) ∧ (wcells l)[i * 2 + 1]? = some (.int .u32 (v : Int)) := by
  induction l with
  | nil => intro i a v h; simp at h
  | cons x r ih =>
    intro i a v h
    cases i with
    | zero =>
      simp only [List.getElem?_cons_zero, Option.some.injEq] at h
      subst h
      exact ⟨rfl, rfl⟩
    | succ j =>
      have := ih j a v (by simpa using h)
      rw [show (j + 1) * 2 = j * 2 + 2 by omega, show j * 2 + 2 + 1 = j * 2 + 1 + 2 by omega]
      exact this
/-- A slice of Writes of one's own. -/
def OwnW (w : World) (base : Nat) (v : Value) (l : List (Nat × Nat)) : Prop := w.ownsRow base 224 2 v l.length (wcells l)
theorem write_info : (Tryz.prog.info? 224).map (fun i => (i.zero, i.size, i.bytes)) = some (some (.agg #[.int .i64 0, .int .u32 0]), 2, 16) := by kernel_rfl

/-- Words as they should be, from one on. -/
def planOf (vs : List Nat) : Nat → List Nat → List (Nat × Nat)
  | _, [] => []
  | f, v :: r => (if (vs[f]?.getD 0) ||| v = (vs[f]?.getD 0) then [] else [(f, (vs[f]?.getD 0) ||| v)]) ++ planOf vs (f + 1) r
theorem planOf_append (vs : List Nat) : ∀ (f : Nat) (l r : List Nat), planOf vs f (l ++ r) = planOf vs f l ++ planOf vs (f + l.length) r
  | f, [], r => by simp [planOf]
  | f, x :: l, r => by
    simp only [List.cons_append, planOf, planOf_append vs (f + 1) l r, List.length_cons, List.append_assoc]
    rw [show f + 1 + l.length = f + (l.length + 1) by omega]
theorem planOf_snoc (vs : List Nat) (f : Nat) (l : List Nat) {i x old : Nat} (hx : l[i]? = some x) (ho : vs[f + i]? = some old) :
    planOf vs f (l.take (i + 1)) = planOf vs f (l.take i) ++ (if old ||| x = old then [] else [(f + i, old ||| x)]) := by
  have hi : i < l.length := (List.getElem?_eq_some_iff.1 hx).1
  rw [take_snoc hx, planOf_append, List.length_take, Nat.min_eq_left (by omega)]
  simp [planOf, ho]
theorem planOf_length (vs : List Nat) : ∀ (f : Nat) (l : List Nat), (planOf vs f l).length ≤ l.length
  | f, [] => by simp [planOf]
  | f, x :: l => by
    have := planOf_length vs (f + 1) l
    simp only [planOf, List.length_append, List.length_cons]
    split <;> simp <;> omega

theorem cells_new (w : World) (news : List Value) (cs : Array Value) (hcs : cs = news.toArray) (t : TypeId) : ∀ (j : Nat) (u : Value), news[j]? = some u → (w.alloc (.cells cs t)).cell? ((⟨w.heap.size, 0, none⟩ : Addr).add j) = some u := by
  intro j u hu
  subst hcs
  have hadd : (⟨w.heap.size, 0, none⟩ : Addr).add j = ⟨w.heap.size, j, none⟩ := by unfold Addr.add; split <;> simp_all
  rw [hadd, (Blk.new w t _).cell j]
  simpa using hu

def PlanOut (w : World) (vs : List Nat) (f : Nat) (l : List Nat) (e : Ending) (w' : World) : Prop := ∃ v, e = .returned v ∧ OwnW w' w.heap.size v (planOf vs f l) ∧ Below w.heap.size w w'

set_option maxHeartbeats 2000000 in
theorem plan_any (from_ : Int) (f : Nat) (A : Option Addr) (len cap : Nat) (l : List Nat) (w : World) (h : Cz w c p b vs ls sd) (hf : from_ = f) (hl : l.length = len) (hfl : f + l.length ≤ 64)
    (hz : Nats .u32 4294967296 w w.heap.size A l) :
    Calls Tryz.prog 112 #[.pointer (some ⟨c, 0, none⟩), .int .i64 from_, .slice A len cap] w (PlanOut w vs f l) := by
  obtain ⟨i0, hi0, hz0, hz1, hz2⟩ := info_row write_info
  subst hf
  subst hl
  have HI := Lib.hid hi0
  have HI1 := Lib.hid hz0
  have HI2 := Lib.hid hz1
  have HI3 := Lib.hid hz2
  have H := Lib.hid h
  have HN := Lib.hid hz
  clear hi0 hz0 hz1 hz2 h hz
  go_enter Tryz.func112, Tryz.ntmps112
  go_wp2_with fail
  go_loopg [7, 13] l.length (fun g s7 s13 wr => ∃ i : Nat, i + g = l.length ∧ s13 = .int .i64 (i : Int) ∧ OwnW wr w.heap.size s7 (planOf vs f (l.take i)) ∧ Below w.heap.size w wr)
  case atStart => exact ⟨0, by omega, rfl, World.ownsRow_nil _ _ _ _, Below.refl _ _⟩
  case round =>
    obtain ⟨i, hg, rfl, hO, hB⟩ := hrel
    have HG := Lib.hid hg
    have hig : i ≤ l.length := by omega
    have HB := Lib.hid hB
    have HO := Lib.hid hO
    clear hg hB hO
    by_cases hlt : i < l.length
    · obtain ⟨x, hx⟩ : ∃ x, l[i]? = some x := ⟨_, List.getElem?_eq_getElem hlt⟩
      obtain ⟨hxM, g0, off, rfl, hg0, hcx⟩ := (HN.out.below HB.out) i x hx
      obtain ⟨old, ho⟩ : ∃ old, vs[f + i]? = some old := ⟨_, List.getElem?_eq_getElem (by have := H.out.len; omega)⟩
      have hoM := H.out.fz.word _ _ ho
      have HS := Lib.hid (planOf_snoc vs f l hx ho)
      have hC := H.out.old HB.out
      have HC := Lib.hid hC
      clear hC hx
      go_wp2_with fail
      (with_reducible refine (all_any _ HC.out).mono ?_); rintro e w1 ⟨v, rfl, hO, hB⟩
      obtain ⟨A1, cp, rfl, hc1, hc2, -⟩ := hO.form HC.out.fz.word
      obtain ⟨g1, rfl, hg1, hg2, hco, -⟩ := hO.at_ ho
      have hvl : vs.length = 64 := HC.out.len
      rw [hvl] at hc1 ⊢
      have b1 := u32_or_nat old x hoM hxM
      have hB1 := below_then HB.out hB (Nat.le_refl _)
      have hO1 : OwnW w1 w.heap.size _ _ := own_frm (S := []) HO.out (Frm.of_below hB) (fun y hy => by simp at hy)
      have HB1 := Lib.hid hB1
      have HO1 := Lib.hid hO1
      have hwl : w.heap.size ≤ w1.heap.size := hB1.size
      have hlen := planOf_length vs f (l.take i)
      rw [List.length_take] at hlen
      clear hB hO hB1 hO1 ho HC
      by_cases hs : old ||| x = old
      · rw [hs] at b1
        have hS := HS.out
        rw [if_pos hs, List.append_nil] at hS
        rw [← hS] at HO1
        clear hs hS
        go_wp2_with fail
        go_light
        go_roundg (l.length - (i + 1))
        case measure => have := HG.out; omega
        case rel => exact ⟨i + 1, by omega, by go_num, HO1.out, HB1.out⟩
      · have hne : (((old ||| x : Nat) : Int) != (old : Int)) = true := by
          simp only [bne_iff_ne, ne_eq, Int.ofNat_inj]
          exact hs
        have hS := HS.out
        rw [if_neg hs] at hS
        have HS := Lib.hid hS
        clear hs hS
        generalize hy : old ||| x = y at *
        clear hy
        go_wp2_with (at_builtin; refine wpList_append_own _ rfl (.tmp 30) (.tmp 38) 93 rfl w.heap.size 224 i0 (.agg #[.int .i64 0, .int .u32 0]) 2 16 Tryz.underlying93 HI.out HI1.out HI2.out HI3.out rfl (by decide) _ _ _ rfl (HO1.out.alloc _) ⟨w1.heap.size, 0, none⟩ 1 1 [.int .i64 ((f : Int) + i), .int .u32 (y : Int)] rfl rfl ?c1 ?c2 ?c3 ?c4 ?c5 ?_)
        case c1 => exact cells_new _ _ _ rfl _
        case c2 => intro u hu; simp at hu; rcases hu with rfl | rfl <;> rfl
        case c3 => simp only [maxLen]; omega
        case c4 => omega
        case c5 => simp; omega
        · intro v1 w2 hO1 hg1 _
          have hB1 := (HB1.out.alloc hwl (.cells #[.int .i64 ((f : Int) + i), .int .u32 (y : Int)] 224)).grown hg1 (by simp; omega) (fun k hk => (World.ownsRow.lt HO1.out k hk).1)
          have HO2 := Lib.hid hO1
          have HB2 := Lib.hid hB1
          clear hO1 hB1 hg1
          go_wp2_with fail
          go_light
          go_roundg (l.length - (i + 1))
          case measure => have := HG.out; omega
          case rel =>
            refine ⟨i + 1, by omega, by go_num, ?_, HB2.out⟩
            have h2 := HO2.out
            unfold OwnW
            rw [HS.out, wcells_append, List.length_append]
            exact h2
    · have : i = l.length := by omega
      subst this
      go_wp2_with fail
      go_light
      go_ret
      have hOO := HO.out
      rw [List.take_length] at hOO
      exact ⟨_, rfl, hOO, HB.out⟩
end Otp
end Go.Proofs.YtmiaabpnolebhaaGreatDoor

/-
  Package otp: Counter.
-/
namespace Go.Proofs.YtmiaabpnolebhaaGreatDoor
open Go.RowKit

namespace Otp
open Fuse
variable {w w' : World} {c p b : Nat} {vs : List Nat} {ls : List Bool} {sd : Bool}
/-- How many bits from the first one on. -/
def ctr : List Nat → Nat
  | [] => 0
  | x :: r => if x = 4294967295 then 32 + ctr r else Lib.ctz 32 (4294967295 - x)
def cwords (vs : List Nat) : List Nat := (vs.drop 1).take 8
def counter (vs : List Nat) : Nat := min (ctr (cwords vs)) 255

theorem xor_full (x : Nat) (hx : x < 4294967296) : 4294967295 ^^^ x = 4294967295 - x := by
  have e : 4294967295 - x = 2 ^ 32 - (x + 1) := by omega
  rw [e]
  apply Nat.eq_of_testBit_eq
  intro i
  rw [Nat.testBit_two_pow_sub_succ (show x < 2 ^ 32 from hx), Nat.testBit_xor, show 4294967295 = 2 ^ 32 - 1 from rfl, Nat.testBit_two_pow_sub_one]
  by_cases hi : i < 32
  · simp [hi]
  · have : x.testBit i = false := Nat.testBit_lt_two_pow (Nat.lt_of_lt_of_le hx (Nat.pow_le_pow_right (n := 2) (by decide) (show 32 ≤ i by omega)))
    simp [hi, this]
theorem not_u32 (x : Nat) (hx : x < 4294967296) : bits .xor .u32 IntKind.u32.max (x : Int) = ((4294967295 - x : Nat) : Int) := by
  rw [show IntKind.u32.max = ((4294967295 : Nat) : Int) by decide, u32_xor_nat _ _ (by decide) hx, xor_full x hx]
theorem cwords_drop (h : vs.length = 64) {i x : Nat} (hi : i < 8) (hx : vs[1 + i]? = some x) : (cwords vs).drop i = x :: (cwords vs).drop (i + 1) := by
  have hl : (cwords vs).length = 8 := by simp [cwords, h]
  have hx' : (cwords vs)[i]? = some x := by
    rw [cwords, List.getElem?_take, if_pos hi, List.getElem?_drop]
    exact hx
  obtain ⟨h1, h2⟩ := List.getElem?_eq_some_iff.1 hx'
  rw [List.drop_eq_getElem_cons h1, h2]
theorem ctr_le : ∀ l : List Nat, ctr l ≤ 32 * l.length
  | [] => by simp [ctr]
  | x :: r => by
    simp only [ctr, List.length_cons]
    have := ctr_le r
    split
    · omega
    · by_cases hx : 4294967295 - x = 0
      · simp [Lib.ctz, hx]; omega
      · have := (Lib.lowest_bit 32 (4294967295 - x) hx (by omega)).2
        omega

set_option maxHeartbeats 1000000 in
theorem counter_any (w : World) (h : Cz w c p b vs ls sd) (hT : Tab w) : Calls Tryz.prog 78 #[.pointer (some ⟨c, 0, none⟩)] w
    fun e w' => e = .returned (.int .i64 ((counter vs : Nat) : Int)) ∧ Below w.heap.size w w' := by
  have H := Lib.hid h
  have HT := Lib.hid hT
  clear h hT
  go_enter Tryz.func78, Tryz.ntmps78
  go_wp2_with fail
  (with_reducible refine (all_any _ H.out).mono ?_); rintro e w1 ⟨v, rfl, hO, hB⟩
  obtain ⟨A, cp, rfl, hc1, hc2, hN⟩ := hO.form H.out.fz.word
  have hl := H.out.len
  obtain ⟨g, rfl, hg1, hg2, -⟩ := hO.at_ (List.getElem?_eq_getElem (show 0 < vs.length by omega))
  have hC : ∀ (i x : Nat), vs[i]? = some x → w1.cell? ⟨g, i, none⟩ = some (.int .u32 (x : Int)) := fun i x hx => by
    obtain ⟨g', hg', _, _, hc, _⟩ := hO.at_ hx
    cases hg'
    exact hc
  have HB := Lib.hid hB
  have HT1 := Lib.hid (HT.out.old hB)
  have HW := Lib.hid H.out.fz.word
  have HC := Lib.hid hC
  clear hO hB hN HT hC
  rw [hl] at hc1 ⊢
  go_wp2_with fail
  go_loopg [3, 11] 8 (fun g s3 s11 wr => ∃ i : Nat, i + g = 8 ∧ s11 = .int .i64 (i : Int) ∧ s3 = .int .i64 ((32 * i : Nat) : Int) ∧ ctr (cwords vs) = 32 * i + ctr ((cwords vs).drop i) ∧ wr = w1)
  case atStart => exact ⟨0, by omega, rfl, rfl, by simp, rfl⟩
  case round =>
    obtain ⟨i, hgi, rfl, rfl, hc, rfl⟩ := hrel
    have HG := Lib.hid hgi
    have hi8 : i ≤ 8 := by omega
    clear hgi
    by_cases hlt : i < 8
    · obtain ⟨x, hx⟩ : ∃ x, vs[1 + i]? = some x := ⟨_, List.getElem?_eq_getElem (by omega)⟩
      have hcx := HC.out _ _ hx
      have hxb := HW.out _ _ hx
      have hd := cwords_drop hl hlt hx
      rw [hd, ctr] at hc
      have Hc := Lib.hid hc
      clear hd hc hx
      go_wp2_with fail
      (with_reducible refine (tz32 _ (4294967295 - x) _ (not_u32 x hxb) (by omega) HT1.out).mono ?_); rintro e w' ⟨rfl, rfl⟩
      by_cases hf : x = 4294967295
      · have hz : Lib.ctz 32 (4294967295 - x) = 32 := by rw [hf]; rfl
        rw [hz]
        have hc2 : ctr (cwords vs) = 32 * (i + 1) + ctr (List.drop (i + 1) (cwords vs)) := by rw [Hc.out, if_pos hf]; omega
        have Hc2 := Lib.hid hc2
        clear hc2 hz hf
        go_wp2_with fail
        go_light
        go_roundg (8 - (i + 1))
        case measure => have := HG.out; omega
        case rel => exact ⟨i + 1, by omega, by go_num, by go_num, Hc2.out, rfl⟩
      · have hk : Lib.ctz 32 (4294967295 - x) < 32 := (Lib.lowest_bit 32 _ (by omega) (by omega)).2
        have hc2 : counter vs = min (32 * i + Lib.ctz 32 (4294967295 - x)) 255 := by rw [counter, Hc.out, if_neg hf]
        generalize Lib.ctz 32 (4294967295 - x) = k at *
        have Hc2 := Lib.hid hc2
        clear hc2 hf Hc
        go_wp2_with fail
        go_light
        go_ret
        rw [Hc2.out]
        exact ⟨by go_num, HB.out⟩
    · have : i = 8 := by omega
      subst this
      have hc2 : counter vs = min 256 255 := by
        rw [counter, hc]
        have : (cwords vs).drop 8 = [] := List.drop_eq_nil_of_le (by simp [cwords]; omega)
        rw [this]; rfl
      have Hc2 := Lib.hid hc2
      clear hc2 hc
      go_wp2_with fail
      go_light
      go_ret
      rw [Hc2.out]
      exact ⟨rfl, HB.out⟩
end Otp
end Go.Proofs.YtmiaabpnolebhaaGreatDoor

/-
  Package otp: ToCounter.
-/
namespace Go.Proofs.YtmiaabpnolebhaaGreatDoor
open Go.RowKit

namespace Otp
open Fuse
variable {w w' : World} {c p b : Nat} {vs : List Nat} {ls : List Bool} {sd : Bool}
/-- The counter's eight words behind n rounds. -/
def lw : Nat → List Nat
  | 0 => List.replicate 8 0
  | i + 1 => (lw i).set (i / 32) (((lw i)[i / 32]?.getD 0) ||| 2 ^ (i % 32))
theorem lw_length : ∀ n, (lw n).length = 8
  | 0 => rfl
  | i + 1 => by simp [lw, lw_length i]
theorem pow_lt (i : Nat) : (2 : Nat) ^ (i % 32) < 4294967296 := by
  have : (2 : Nat) ^ (i % 32) < 2 ^ 32 := Nat.pow_lt_pow_right (by decide) (by omega)
  omega
theorem lw_word : ∀ (n i x : Nat), (lw n)[i]? = some x → x < 4294967296
  | 0, i, x, h => by
    rw [lw] at h
    obtain ⟨_, rfl⟩ := List.getElem?_eq_some_iff.1 h
    rw [List.getElem_replicate]
    decide
  | n + 1, i, x, h => by
    simp only [lw, List.getElem?_set] at h
    split at h
    · split at h
      · cases h
        refine Nat.or_lt_two_pow (n := 32) ?_ (pow_lt n)
        cases hg : (lw n)[n / 32]? with
        | none => simp
        | some y => simpa using lw_word n _ y hg
      · cases h
    · exact lw_word n i x h
def c32 (vs : List Nat) : Array Value := (vs.map fun x => Value.int .u32 ((x : Nat) : Int)).toArray
theorem c32_at {vs : List Nat} {i x : Nat} (h : vs[i]? = some x) : (c32 vs)[i]? = some (.int .u32 (x : Int)) := by simp [c32, h]
theorem c32_set (vs : List Nat) (i y : Nat) : (c32 vs).setIfInBounds i (.int .u32 (y : Int)) = c32 (vs.set i y) := by
  simp [c32, List.map_set]
theorem nats_blk {w : World} {L : Nat} {t : TypeId} {l : List Nat} (h : Blk w L t (c32 l)) (hw : ∀ (i x : Nat), l[i]? = some x → x < 4294967296) : Nats .u32 4294967296 w w.heap.size (some ⟨L, 0, none⟩) l := fun i z hz =>
  ⟨hw i z hz, L, 0, rfl, h.lt, by rw [Nat.zero_add, h.cell, c32_at hz]⟩
theorem pow_mod' (k : Nat) (hk : k < 32) : (2 : Int) ^ k % 4294967296 = ((2 ^ k : Nat) : Int) := by
  have hp : (2 : Nat) ^ k < 2 ^ 32 := Nat.pow_lt_pow_right (by decide) hk
  have e : ((2 : Int) ^ k) = ((2 ^ k : Nat) : Int) := by simp
  rw [e]
  generalize 2 ^ k = x at *
  omega

theorem ownW_le {w : World} {B B' : Nat} {v : Value} {l : List (Nat × Nat)} (h : OwnW w B v l) (hB : B' ≤ B) : OwnW w B' v l := by
  refine ⟨h.1, ?_⟩
  rcases h.2 with h0 | ⟨g, cap, cur, hv, hg, rest⟩
  · exact .inl h0
  · exact .inr ⟨g, cap, cur, hv, Nat.le_trans hB hg, rest⟩

def tcE (vs : List Nat) (n : Int) : Int := if n < 0 ∨ 255 < n then 1 else if n < counter vs then 15 else 0
def tcL (vs : List Nat) (n : Int) : List (Nat × Nat) := if tcE vs n = 0 then planOf vs 1 (lw n.toNat) else []
def ToOut (w : World) (er : Int) (l : List (Nat × Nat)) (e : Ending) (w' : World) : Prop := ∃ v, e = .returned (.tuple #[v, .int .i64 er]) ∧ OwnW w' w.heap.size v l ∧ Below w.heap.size w w'

set_option maxHeartbeats 2000000 in
theorem tocounter_any (n : Int) (w : World) (h : Cz w c p b vs ls sd) (hT : Tab w) :
    Calls Tryz.prog 70 #[.pointer (some ⟨c, 0, none⟩), .int .i64 n] w (ToOut w (tcE vs n) (tcL vs n)) := by
  have H := Lib.hid h
  have HT := Lib.hid hT
  clear h hT
  by_cases h0 : n < 0
  · have e1 : tcE vs n = 1 := by simp [tcE, h0]
    have e2 : tcL vs n = [] := by simp [tcL, e1]
    rw [e1, e2]
    clear e1 e2
    go_enter Tryz.func70, Tryz.ntmps70
    go_wp2_with fail
    go_light
    go_ret2
    exact ⟨_, rfl, World.ownsRow_nil _ _ _ _, Below.refl _ _⟩
  obtain ⟨k, rfl⟩ := Int.eq_ofNat_of_zero_le (show 0 ≤ n by omega)
  by_cases h1 : 255 < k
  · have e1 : tcE vs k = 1 := by simp [tcE]; omega
    have e2 : tcL vs k = [] := by simp [tcL, e1]
    rw [e1, e2]
    clear e1 e2
    go_enter Tryz.func70, Tryz.ntmps70
    go_wp2_with fail
    go_light
    go_ret2
    exact ⟨_, rfl, World.ownsRow_nil _ _ _ _, Below.refl _ _⟩
  by_cases h2 : k < counter vs
  · have e1 : tcE vs k = 15 := by simp [tcE, h2]; omega
    have e2 : tcL vs k = [] := by simp [tcL, e1]
    rw [e1, e2]
    clear e1 e2
    go_enter Tryz.func70, Tryz.ntmps70
    go_wp2_with fail
    (with_reducible refine (counter_any _ H.out HT.out).mono ?_); rintro e w1 ⟨rfl, hB⟩
    have HB := Lib.hid hB
    clear hB
    go_wp2_with fail
    go_light
    go_ret2
    exact ⟨_, rfl, World.ownsRow_nil _ _ _ _, HB.out⟩
  · have e1 : tcE vs k = 0 := by simp [tcE, h2]; omega
    have e2 : tcL vs k = planOf vs 1 (lw k) := by simp [tcL, e1]
    rw [e1, e2]
    clear e1 e2
    go_enter Tryz.func70, Tryz.ntmps70
    go_wp2_with fail
    (with_reducible refine (counter_any _ H.out HT.out).mono ?_); rintro e w1 ⟨rfl, hB⟩
    have HB := Lib.hid hB
    have hwl : w.heap.size ≤ w1.heap.size := hB.size
    clear hB
    go_wp2_with fail
    go_loopg [24] k (fun g s24 wr => ∃ i : Nat, i + g = k ∧ s24 = .int .i64 (i : Int) ∧ Blk wr w1.heap.size 72 (c32 (lw i)) ∧ Below w.heap.size w wr)
    case atStart => exact ⟨0, by omega, rfl, Blk.new _ _ _, HB.out.alloc hwl _⟩
    case round =>
      obtain ⟨i, hg, rfl, hK, hB⟩ := hrel
      have HG := Lib.hid hg
      have hig : i ≤ k := by omega
      have HK := Lib.hid hK
      have HB2 := Lib.hid hB
      clear hg hB hK
      by_cases hlt : i < k
      · obtain ⟨x, hx⟩ : ∃ x, (lw i)[i / 32]? = some x := ⟨_, List.getElem?_eq_getElem (by rw [lw_length]; omega)⟩
        have hxM := lw_word _ _ _ hx
        have hlw : lw (i + 1) = (lw i).set (i / 32) (x ||| 2 ^ (i % 32)) := by simp [lw, hx]
        have hcx : wr.cell? ⟨w1.heap.size, i / 32, none⟩ = some (.int .u32 (x : Int)) := by rw [HK.out.cell, c32_at hx]
        have hfr : wr.frozen? ⟨w1.heap.size, i / 32, none⟩ = false := HK.out.frozen _
        have b3 := u32_or_nat x (2 ^ (i % 32)) hxM (pow_lt i)
        have HLW := Lib.hid hlw
        clear hx hlw
        go_wp2_with fail
        go_region
        go_wp2_with fail
        go_light
        go_roundg (k - (i + 1))
        case measure => have := HG.out; omega
        case rel =>
          refine ⟨i + 1, by omega, by go_num, ?_, ?_⟩
          · have hpm := pow_mod' (i % 32) (by omega)
            rw [hpm, b3, HLW.out, ← c32_set]
            exact (HK.out.set _ _).drew
          · exact (HB2.out.setCell hwl _).drew
      · have : i = k := by omega
        subst this
        have HN := Lib.hid (nats_blk HK.out (lw_word i))
        have HC := Lib.hid (H.out.old HB2.out)
        have hl8 := lw_length i
        go_wp2_with fail
        (with_reducible refine (plan_any 1 1 _ 8 8 (lw i) _ HC.out rfl hl8 (by omega) HN.out).mono ?_); rintro e w2 ⟨v, rfl, hO, hB⟩
        have HO := Lib.hid hO
        have HB3 := Lib.hid hB
        clear hO hB
        go_wp2_with fail
        go_light
        go_ret2
        exact ⟨_, rfl, ownW_le HO.out HB2.out.size, below_then HB2.out HB3.out (Nat.le_refl _)⟩
end Otp
end Go.Proofs.YtmiaabpnolebhaaGreatDoor
