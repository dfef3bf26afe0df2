/-
  Texts of this claim, joined: OtpLife, FuseOf1, OtpOps, OtpDo, OtpAwake.
-/
import Derived.Lib.BitFns
import Derived.Test.YtmiaabpnolebhaaGreatDoorJ9b13c2d0
import Derived.BigRegion
import Derived.Deep.RegionWith
import Derived.Deep.CutRange
import Derived.Deep.CutBlock
import Derived.Deep.DeepCutAuto
set_option linter.unusedSimpArgs false
set_option linter.unusedVariables false
/-
  Package otp: on, Life; math/bits.OnesCount8.
-/
namespace Go.Proofs.YtmiaabpnolebhaaGreatDoor
open Go.RowKit

namespace Otp
open Fuse
variable {w w' : World} {c p b : Nat} {vs : List Nat} {ls : List Bool} {sd : Bool}
set_option maxHeartbeats 4000000 in
set_option maxRecDepth 100000 in
theorem ones8 (x : Int) (w : World) (h0 : 0 ≤ x) (h1 : x ≤ 255) :
    Calls Tryz.prog 198 #[.int .u8 x] w fun e w' => e = .returned (.int .i64 (Lib.onesCount x.toNat)) ∧ w' = w := by
  have e := Lib.pop8_int x h0 h1
  have e1 : wrap64 (Lib.pop8 x) = (Lib.onesCount x.toNat : Int) := by
    rw [← e]
    generalize Lib.pop8 x = q
    simp only [wrap64]
  go_enter Tryz.func198, Tryz.ntmps198
  go_wp2
  rw [e1]
  go_ret
  exact ⟨rfl, rfl⟩
theorem ones8_nat (x : Int) (k : Nat) (w : World) (hx : x = k) (h1 : k ≤ 255) :
    Calls Tryz.prog 198 #[.int .u8 x] w fun e w' => e = .returned (.int .i64 ((Lib.onesCount k : Nat) : Int)) ∧ w = w' := by
  subst hx
  exact (ones8 k w (by omega) (by omega)).mono fun e w' h => ⟨h.1, h.2.symm⟩
/-- Are five of a field's eight bits set? -/
def onB (x i : Nat) : Bool := decide (5 ≤ Lib.onesCount (x / 2 ^ (8 * i) % 256))
theorem field_int (y k : Nat) : (y : Int) / 2 ^ (8 * k) % 256 = ((y / 2 ^ (8 * k) % 256 : Nat) : Int) := by simp
set_option maxHeartbeats 400000 in
theorem on_any (x i : Int) (y k : Nat) (w : World) (hx : x = y) (hi : i = k) (_ : y < 4294967296) (hk : k < 4) :
    Calls Tryz.prog 115 #[.int .u32 x, .int .i64 i] w fun e w' => e = .returned (.bool (onB y k)) ∧ w = w' := by
  subst hx
  subst hi
  have hm : Lib.onesCount (y / 2 ^ (8 * k) % 256) ≤ 8 := Lib.onesCount_le8 ⟨_, Nat.mod_lt _ (by decide)⟩
  unfold onB
  go_enter Tryz.func115, Tryz.ntmps115
  go_wp2_with fail
  (with_reducible refine (ones8_nat _ (y / 2 ^ (8 * k) % 256) _ (field_int y k) (by omega)).mono ?_); rintro e w' ⟨rfl, rfl⟩
  go_wp2_with fail
  go_light
  go_ret
  exact ⟨by simp; omega, rfl⟩
def lifeN (x : Nat) : Nat → Nat
  | 0 => 0
  | i + 1 => if onB x i = true then i + 1 else lifeN x i
/-- The last life that was reached. -/
def life (vs : List Nat) : Nat := lifeN (vs[0]?.getD 0) 4
theorem lifeN_le (x : Nat) : ∀ n, lifeN x n ≤ n
  | 0 => by simp [lifeN]
  | i + 1 => by
    have := lifeN_le x i
    simp only [lifeN]
    split <;> omega
set_option maxHeartbeats 1000000 in
theorem life_any (w : World) (h : Cz w c p b vs ls sd) : Calls Tryz.prog 40 #[.pointer (some ⟨c, 0, none⟩)] w
    fun e w' => e = .returned (.int .i64 ((life vs : Nat) : Int)) ∧ Below w.heap.size w w' := by
  obtain ⟨x, hx⟩ : ∃ x, vs[0]? = some x := ⟨_, List.getElem?_eq_getElem (by have := h.len; omega)⟩
  have hxM := h.fz.word _ _ hx
  have hlf : life vs = lifeN x 4 := by simp [life, hx]
  rw [hlf]
  have H := Lib.hid h
  have HX := Lib.hid hx
  clear h hlf hx
  go_enter Tryz.func40, Tryz.ntmps40
  go_wp2_with fail
  go_loopg [3, 5] 4 (fun g s3 s5 wr => ∃ i : Nat, i + g = 4 ∧ s5 = .int .i64 (i : Int) ∧ s3 = .int .i64 ((lifeN x i : Nat) : Int) ∧ Below w.heap.size w wr)
  case atStart => exact ⟨0, by omega, rfl, rfl, Below.refl _ _⟩
  case round =>
    obtain ⟨i, hg, rfl, rfl, hB⟩ := hrel
    have HG := Lib.hid hg
    have hig : i ≤ 4 := by omega
    have HB := Lib.hid hB
    clear hg hB
    have hle := lifeN_le x i
    by_cases hlt : i < 4
    · have hC := H.out.old HB.out
      have HC := Lib.hid hC
      clear hC
      go_wp2_with fail
      (with_reducible refine (all_any _ HC.out).mono ?_); rintro e w1 ⟨v, rfl, hO, hB⟩
      obtain ⟨A1, cp, rfl, hc1, hc2, -⟩ := hO.form HC.out.fz.word
      obtain ⟨g1, rfl, hg1, hg2, hco, -⟩ := hO.at_ HX.out
      have hvl : vs.length = 64 := HC.out.len
      rw [hvl] at hc1 ⊢
      have hB1 := below_then HB.out hB (Nat.le_refl _)
      have HB1 := Lib.hid hB1
      clear hB1 hB hO
      go_wp2_with fail
      (with_reducible refine (on_any _ _ x i _ rfl rfl hxM hlt).mono ?_); rintro e w2 ⟨rfl, rfl⟩
      have HS := Lib.hid (show lifeN x (i + 1) = if onB x i = true then i + 1 else lifeN x i from rfl)
      generalize onB x i = o at *
      cases o with
      | true =>
        go_wp2_with fail
        go_light
        go_roundg (4 - (i + 1))
        case measure => have := HG.out; omega
        case rel => exact ⟨i + 1, by omega, by go_num, by rw [HS.out]; go_num, HB1.out⟩
      | false =>
        go_wp2_with fail
        go_light
        go_roundg (4 - (i + 1))
        case measure => have := HG.out; omega
        case rel => exact ⟨i + 1, by omega, by go_num, by rw [HS.out]; rfl, HB1.out⟩
    · have : i = 4 := by omega
      subst this
      go_wp2_with fail
      go_light
      go_ret
      exact ⟨rfl, HB.out⟩
end Otp
end Go.Proofs.YtmiaabpnolebhaaGreatDoor

/-
  Contracts of package fuse, more: Of; a nil array.
-/
namespace Go.Proofs.YtmiaabpnolebhaaGreatDoor
open Go.RowKit

namespace Fuse
def OfOut (w : World) (zs : List Nat) (e : Ending) (w' : World) : Prop :=
  ∃ p b, e = .returned (.tuple #[.pointer (some ⟨p, 0, none⟩), .int .i64 0]) ∧ Fz w' p b zs (List.replicate zs.length false) ∧ w.heap.size ≤ b ∧ w.heap.size ≤ p ∧ Below w.heap.size w w'

theorem set_zero (zs : List Nat) (i n x : Nat) (hi : i < n) (hn : zs.length = n) (hx : zs[i]? = some x) : (zs.take i ++ List.replicate (n - i) 0).set i x = zs.take (i + 1) ++ List.replicate (n - (i + 1)) 0 := by
  rw [take_snoc hx, List.set_append]
  have hlen : (zs.take i).length = i := by rw [List.length_take]; omega
  rw [hlen, if_neg (by omega), Nat.sub_self]
  have e : n - i = (n - (i + 1)) + 1 := by omega
  rw [e, List.replicate_succ]
  simp

/-! A nil array. -/
end Fuse
end Go.Proofs.YtmiaabpnolebhaaGreatDoor

/-
  Package otp: Of, at, Kill, ToLife, Tear.
-/
namespace Go.Proofs.YtmiaabpnolebhaaGreatDoor
open Go.RowKit

namespace Otp
open Fuse
variable {w w' : World} {c p b : Nat} {vs : List Nat} {ls : List Bool} {sd : Bool}
def OfCz (w : World) (vs : List Nat) (e : Ending) (w' : World) : Prop := ∃ c p b, e = .returned (.tuple #[.pointer (some ⟨c, 0, none⟩), .int .i64 0]) ∧ Cz w' c p b vs f64 false ∧ w.heap.size ≤ c ∧ w.heap.size ≤ p ∧ w.heap.size ≤ b ∧ Below w.heap.size w w'
theorem nats_one (w : World) (t : TypeId) (z : Int) (y : Nat) (hz : z = y) (hy : y < 4294967296) : Nats .u32 4294967296 (w.alloc (.cells #[.int .u32 z] t)) (w.alloc (.cells #[.int .u32 z] t)).heap.size (some ⟨w.heap.size, 0, none⟩) [y] := by
  subst hz
  exact nats_blk (t := t) (l := [y]) (Blk.new w t _) (fun i x h => by
    have := List.mem_of_getElem? h
    simp only [List.mem_singleton] at this
    subst this
    exact hy)
theorem toOut_alloc {w : World} {o : Obj} {er : Int} {l : List (Nat × Nat)} {e : Ending} {w' : World} (h : ToOut (w.alloc o) er l e w') : ToOut w er l e w' := by
  obtain ⟨v, rfl, hO, hB⟩ := h
  exact ⟨v, rfl, ownW_le hO (by simp), ((Below.refl _ w).alloc (Nat.le_refl _) o).trans (hB.mono (by simp))⟩
theorem toOut_old {w w1 : World} (h1 : Below w.heap.size w w1) {er : Int} {l : List (Nat × Nat)} {e : Ending} {w' : World} (h : ToOut w1 er l e w') : ToOut w er l e w' := by
  obtain ⟨v, rfl, hO, hB⟩ := h
  exact ⟨v, rfl, ownW_le hO h1.size, below_then h1 hB (Nat.le_refl _)⟩
def atE (i : Int) : Int := if 0 ≤ i ∧ i < 4 then 0 else 1
def atV (i : Int) : Int := if 0 ≤ i ∧ i < 4 then 27 + 9 * i else 0
def klL (vs : List Nat) (i : Int) : List (Nat × Nat) := if 0 ≤ i ∧ i < 4 then planOf vs (35 + 9 * i.toNat) [65280] else []
def tlE (vs : List Nat) (i : Int) : Int := if i < 1 ∨ 4 < i then 1 else if i ≤ life vs then 14 else 0
def tlL (vs : List Nat) (i : Int) : List (Nat × Nat) := if tlE vs i = 0 then planOf vs 0 [255 * 2 ^ (8 * (i.toNat - 1))] else []
set_option maxHeartbeats 1000000 in
theorem tolife_1 (w : World) (h : Cz w c p b vs ls sd) (h2 : ¬ ((1 : Int) ≤ life vs)) :
    Calls Tryz.prog 36 #[.pointer (some ⟨c, 0, none⟩), .int .i64 1] w (ToOut w 0 (planOf vs 0 [255])) := by
  have H := Lib.hid h
  clear h
  have hl4 : life vs ≤ 4 := lifeN_le _ _
  go_enter Tryz.func36, Tryz.ntmps36
  go_wp2_with fail
  (with_reducible refine (life_any _ H.out).mono ?_); rintro e w1 ⟨rfl, hB⟩
  have HB := Lib.hid hB
  have HC := Lib.hid (H.out.old hB)
  clear hB
  generalize life vs = lf at *
  go_wp2_with fail
  (with_reducible refine (plan_any 0 0 _ 1 1 [255] _ (HC.out.alloc _) rfl rfl (by simp) (nats_one w1 52 255 255 (by decide) (by decide))).mono ?_); rintro e w2 ⟨v, rfl, hO, hB⟩
  have HT := Lib.hid (toOut_old HB.out (toOut_alloc (er := 0) (l := _) ⟨v, rfl, hO, hB⟩))
  clear hO hB
  go_wp2_with fail
  go_light
  go_ret2
  exact HT.out
set_option maxHeartbeats 1000000 in
theorem tolife_2 (w : World) (h : Cz w c p b vs ls sd) (h2 : ¬ ((2 : Int) ≤ life vs)) :
    Calls Tryz.prog 36 #[.pointer (some ⟨c, 0, none⟩), .int .i64 2] w (ToOut w 0 (planOf vs 0 [65280])) := by
  have H := Lib.hid h
  clear h
  have hl4 : life vs ≤ 4 := lifeN_le _ _
  go_enter Tryz.func36, Tryz.ntmps36
  go_wp2_with fail
  (with_reducible refine (life_any _ H.out).mono ?_); rintro e w1 ⟨rfl, hB⟩
  have HB := Lib.hid hB
  have HC := Lib.hid (H.out.old hB)
  clear hB
  generalize life vs = lf at *
  go_wp2_with fail
  (with_reducible refine (plan_any 0 0 _ 1 1 [65280] _ (HC.out.alloc _) rfl rfl (by simp) (nats_one w1 52 65280 65280 (by decide) (by decide))).mono ?_); rintro e w2 ⟨v, rfl, hO, hB⟩
  have HT := Lib.hid (toOut_old HB.out (toOut_alloc (er := 0) (l := _) ⟨v, rfl, hO, hB⟩))
  clear hO hB
  go_wp2_with fail
  go_light
  go_ret2
  exact HT.out
set_option maxHeartbeats 1000000 in
theorem tolife_3 (w : World) (h : Cz w c p b vs ls sd) (h2 : ¬ ((3 : Int) ≤ life vs)) :
    Calls Tryz.prog 36 #[.pointer (some ⟨c, 0, none⟩), .int .i64 3] w (ToOut w 0 (planOf vs 0 [16711680])) := by
  have H := Lib.hid h
  clear h
  have hl4 : life vs ≤ 4 := lifeN_le _ _
  go_enter Tryz.func36, Tryz.ntmps36
  go_wp2_with fail
  (with_reducible refine (life_any _ H.out).mono ?_); rintro e w1 ⟨rfl, hB⟩
  have HB := Lib.hid hB
  have HC := Lib.hid (H.out.old hB)
  clear hB
  generalize life vs = lf at *
  go_wp2_with fail
  (with_reducible refine (plan_any 0 0 _ 1 1 [16711680] _ (HC.out.alloc _) rfl rfl (by simp) (nats_one w1 52 16711680 16711680 (by decide) (by decide))).mono ?_); rintro e w2 ⟨v, rfl, hO, hB⟩
  have HT := Lib.hid (toOut_old HB.out (toOut_alloc (er := 0) (l := _) ⟨v, rfl, hO, hB⟩))
  clear hO hB
  go_wp2_with fail
  go_light
  go_ret2
  exact HT.out
set_option maxHeartbeats 1000000 in
theorem tolife_4 (w : World) (h : Cz w c p b vs ls sd) (h2 : ¬ ((4 : Int) ≤ life vs)) :
    Calls Tryz.prog 36 #[.pointer (some ⟨c, 0, none⟩), .int .i64 4] w (ToOut w 0 (planOf vs 0 [4278190080])) := by
  have H := Lib.hid h
  clear h
  have hl4 : life vs ≤ 4 := lifeN_le _ _
  go_enter Tryz.func36, Tryz.ntmps36
  go_wp2_with fail
  (with_reducible refine (life_any _ H.out).mono ?_); rintro e w1 ⟨rfl, hB⟩
  have HB := Lib.hid hB
  have HC := Lib.hid (H.out.old hB)
  clear hB
  generalize life vs = lf at *
  go_wp2_with fail
  (with_reducible refine (plan_any 0 0 _ 1 1 [4278190080] _ (HC.out.alloc _) rfl rfl (by simp) (nats_one w1 52 4278190080 4278190080 (by decide) (by decide))).mono ?_); rintro e w2 ⟨v, rfl, hO, hB⟩
  have HT := Lib.hid (toOut_old HB.out (toOut_alloc (er := 0) (l := _) ⟨v, rfl, hO, hB⟩))
  clear hO hB
  go_wp2_with fail
  go_light
  go_ret2
  exact HT.out
set_option maxHeartbeats 2000000 in
theorem tolife_any (i : Int) (w : World) (h : Cz w c p b vs ls sd) :
    Calls Tryz.prog 36 #[.pointer (some ⟨c, 0, none⟩), .int .i64 i] w (ToOut w (tlE vs i) (tlL vs i)) := by
  have H := Lib.hid h
  clear h
  by_cases h0 : i < 1
  · have e1 : tlE vs i = 1 := by simp [tlE, h0]
    have e2 : tlL vs i = [] := by simp [tlL, e1]
    rw [e1, e2]
    clear e1 e2
    go_enter Tryz.func36, Tryz.ntmps36
    go_wp2_with fail
    go_light
    go_ret2
    exact ⟨_, rfl, World.ownsRow_nil _ _ _ _, Below.refl _ _⟩
  by_cases h1 : 4 < i
  · have e1 : tlE vs i = 1 := by simp [tlE, h1]
    have e2 : tlL vs i = [] := by simp [tlL, e1]
    rw [e1, e2]
    clear e1 e2
    go_enter Tryz.func36, Tryz.ntmps36
    go_wp2_with fail
    go_light
    go_ret2
    exact ⟨_, rfl, World.ownsRow_nil _ _ _ _, Below.refl _ _⟩
  have hl4 : life vs ≤ 4 := lifeN_le _ _
  by_cases h2 : i ≤ life vs
  · have e1 : tlE vs i = 14 := by simp only [tlE, if_pos h2]; rw [if_neg (by omega)]
    have e2 : tlL vs i = [] := by simp [tlL, e1]
    rw [e1, e2]
    clear e1 e2
    go_enter Tryz.func36, Tryz.ntmps36
    go_wp2_with fail
    (with_reducible refine (life_any _ H.out).mono ?_); rintro e w1 ⟨rfl, hB⟩
    have HB := Lib.hid hB
    clear hB
    go_wp2_with fail
    go_light
    go_ret2
    exact ⟨_, rfl, World.ownsRow_nil _ _ _ _, HB.out⟩
  · have e1 : tlE vs i = 0 := by simp only [tlE, if_neg h2]; rw [if_neg (by omega)]
    have e2 : tlL vs i = planOf vs 0 [255 * 2 ^ (8 * (i.toNat - 1))] := by simp only [tlL, e1, if_true]
    rw [e1, e2]
    clear e1 e2
    have h14 : i = 1 ∨ i = 2 ∨ i = 3 ∨ i = 4 := by omega
    rcases h14 with rfl | rfl | rfl | rfl
    · exact tolife_1 w H.out h2
    · exact tolife_2 w H.out h2
    · exact tolife_3 w H.out h2
    · exact tolife_4 w H.out h2
end Otp
end Go.Proofs.YtmiaabpnolebhaaGreatDoor

/-
  Package otp: Do.
-/
namespace Go.Proofs.YtmiaabpnolebhaaGreatDoor
open Go.RowKit

namespace Otp
open Fuse
variable {w w' : World} {c p b : Nat} {vs : List Nat} {ls : List Bool} {sd : Bool}
/-- What Do answers, and leaves. -/
def doL (vs : List Nat) : List (Nat × Nat) → Int × List Nat
  | [] => (0, vs)
  | x :: r => if cutE vs x.1 x.2 = 0 then doL (cutV vs x.1 x.2 4294967295) r else (cutE vs x.1 x.2, vs)
theorem cutV_length (vs : List Nat) (i : Int) (v g : Nat) : (cutV vs i v g).length = vs.length := by
  unfold cutV; split <;> simp
theorem OwnW.at_ {w : World} {base : Nat} {v : Value} {l : List (Nat × Nat)} (h : OwnW w base v l) : ∃ A cp, v = .slice A l.length cp ∧ l.length ≤ cp ∧ cp ≤ maxLen ∧
    ∀ (i x y : Nat), l[i]? = some (x, y) → ∃ g, A = some ⟨g, 0, none⟩ ∧ base ≤ g ∧ g < w.heap.size ∧ w.cell? ⟨g, i * 2, none⟩ = some (.int .i64 (x : Int)) ∧ w.cell? ⟨g, i * 2 + 1, none⟩ = some (.int .u32 (y : Int)) := by
  have h' := h
  rcases h.2 with ⟨hv, hn⟩ | ⟨g, cap, cur, hv, hg, hh, hc, hm, hs, ht⟩
  · refine ⟨none, 0, by rw [hv, hn], by omega, by simp [maxLen], fun i x y hx => ?_⟩
    have := (List.getElem?_eq_some_iff.1 hx).1
    omega
  · refine ⟨_, cap, hv, hc, hm, fun i x y hx => ⟨g, rfl, hg, Blk.lt (w := w) (t := 224) (cs := cur) hh, ?_, ?_⟩⟩
    · subst hv
      have hi := (List.getElem?_eq_some_iff.1 hx).1
      have := World.ownsRow.cellAt h' (i * 2) (by omega)
      rw [this]
      exact (wcells_at l i x y hx).1
    · subst hv
      have hi := (List.getElem?_eq_some_iff.1 hx).1
      have := World.ownsRow.cellAt h' (i * 2 + 1) (by omega)
      rw [this]
      exact (wcells_at l i x y hx).2

def DoOut (w : World) (c p b : Nat) (ls : List Bool) (sd : Bool) (r : Int × List Nat) (e : Ending) (w' : World) : Prop := e = .returned (.int .i64 r.1) ∧ Cz w' c p b r.2 ls sd ∧ Frm [b] w w'

set_option maxHeartbeats 2000000 in
theorem do_any (v : Value) (B : Nat) (l : List (Nat × Nat)) (w : World) (h : Cz w c p b vs ls sd) (hO : OwnW w B v l) (hB : b < B) (hM : ∀ x ∈ l, x.2 < 4294967296) (hI : ∀ x ∈ l, x.1 < 64) :
    Calls Tryz.prog 37 #[.pointer (some ⟨c, 0, none⟩), v] w (DoOut w c p b ls sd (doL vs l)) := by
  obtain ⟨A, cp, rfl, hl1, hl2, -⟩ := hO.at_
  have H := Lib.hid h
  have HO := Lib.hid hO
  have HM := Lib.hid hM
  have HI := Lib.hid hI
  clear h hO hM hI
  simp only [maxLen] at hl2
  go_enter Tryz.func37, Tryz.ntmps37
  go_wp2_with fail
  go_loopg [12] l.length (fun g s12 wr => ∃ i : Nat, i + g = l.length ∧ s12 = .int .i64 (i : Int) ∧ ∃ cur, doL vs l = doL cur (l.drop i) ∧ Cz wr c p b cur ls sd ∧ Frm [b] w wr)
  case atStart => exact ⟨0, by omega, rfl, vs, rfl, H.out, Frm.refl _ _⟩
  case round =>
    obtain ⟨i, hg, rfl, cur, hd, hC, hF⟩ := hrel
    have HG := Lib.hid hg
    have hig : i ≤ l.length := by omega
    have HF := Lib.hid hF
    have HD := Lib.hid hd
    have HC := Lib.hid hC
    clear hg hC hF hd
    by_cases hlt : i < l.length
    · obtain ⟨⟨x, y⟩, hx⟩ : ∃ x, l[i]? = some x := ⟨_, List.getElem?_eq_getElem hlt⟩
      have hO1 : OwnW wr B (.slice A l.length cp) l := own_frm HO.out HF.out (fun z hz => by simp at hz; omega)
      obtain ⟨A', cp', hv, -, -, hat⟩ := hO1.at_
      simp only [Value.slice.injEq] at hv
      obtain ⟨rfl, -, -⟩ := hv
      obtain ⟨g0, rfl, hg0, hg1, hc0, hc1⟩ := hat i x y hx
      have hmem := List.mem_of_getElem? hx
      have hyM := HM.out _ hmem
      have hxI := HI.out _ hmem
      simp only at hyM hxI
      have hdr : l.drop i = (x, y) :: l.drop (i + 1) := by
        obtain ⟨h1, h2⟩ := List.getElem?_eq_some_iff.1 hx
        rw [List.drop_eq_getElem_cons h1, h2]
      have hd := HD.out
      rw [hdr, doL] at hd
      have HD2 := Lib.hid hd
      have hcc := HC.out.cell.1
      have hcl := HC.out.head.lt
      have HCa := Lib.hid (fun o => HC.out.alloc o)
      clear hd hdr hx hO1 hat hmem
      have HFa := Lib.hid (show Fz (wr.alloc (.cells #[.int .i64 (x : Int), .int .u32 (y : Int)] 224)) p b cur ls from (HCa.out _).fz)
      go_upto_region 6 with fail
      go_cut [7] (fun v w' => v = .int .i64 (cutE cur (x : Int) y) ∧ Fz w' p b (cutV cur (x : Int) y 4294967295) ls ∧ Frm [b] wr w')
      case first =>
        go_region_with (go_at_call 113; (with_reducible refine (program_any (x : Int) (y : Int) _ HFa.out.drew (by omega) (by omega)).mono ?_); rintro e w2 ⟨rfl, hz2, hf2⟩; rw [Int.toNat_natCast] at hz2 ⊢)
        all_goals go_wp2_with fail
        all_goals go_meet
        all_goals exact ⟨rfl, hz2, ((Frm.refl [b] wr).alloc _).drew.trans hf2⟩
      case rest =>
        obtain ⟨rfl, hz2, hf2⟩ := hcut
        obtain ⟨w2, rfl⟩ : ∃ wo : World, wo = wc := ⟨_, rfl⟩
        obtain ⟨n1, n2, n3⟩ := HC.out.nes
        have hc2 : Cz w2 c p b (cutV cur (x : Int) y 4294967295) ls sd := ⟨hz2, by rw [cutV_length]; exact HC.out.len, HC.out.head.frm hf2 (by simpa using n2)⟩
        have hf3 := HF.out.trans hf2
        have HC2 := Lib.hid hc2
        have HF3 := Lib.hid hf3
        have hd := HD2.out
        clear hz2 hf2 hc2 hf3
        by_cases h0 : cutE cur (x : Int) y = 0
        · rw [if_pos h0] at hd
          rw [h0]
          have HD3 := Lib.hid hd
          clear hd h0
          go_wp2_with fail
          go_light
          go_roundg (l.length - (i + 1))
          case measure => have := HG.out; omega
          case rel => exact ⟨i + 1, by omega, by go_num, _, HD3.out, HC2.out, HF3.out⟩
        · have hv : cutV cur (x : Int) y 4294967295 = cur := by simp [cutV, h0]
          rw [if_neg h0] at hd
          rw [hv] at HC2
          have HD3 := Lib.hid hd
          clear hd hv
          have hne : (cutE cur (x : Int) y != 0) = true := by simpa using h0
          generalize cutE cur (x : Int) y = ce at *
          go_wp2_with fail
          go_light
          go_ret
          show DoOut _ _ _ _ _ _ _ _ _
          rw [HD3.out]
          exact ⟨rfl, HC2.out, HF3.out⟩
    · have : i = l.length := by omega
      subst this
      have hd := HD.out
      rw [List.drop_length, doL] at hd
      have HD := Lib.hid hd
      clear hd
      go_wp2_with fail
      go_light
      go_ret
      show DoOut _ _ _ _ _ _ _ _ _
      rw [HD.out]
      exact ⟨rfl, HC.out, HF.out⟩
end Otp
end Go.Proofs.YtmiaabpnolebhaaGreatDoor

/-
  The law package's 'awake' (otp).
-/
namespace Go.Proofs.YtmiaabpnolebhaaGreatDoor
open Go.RowKit

namespace Otp
open Fuse
variable {w w' : World} {c p b : Nat} {vs : List Nat} {ls : List Bool} {sd : Bool}
theorem tocounter_to (n : Int) (er : Int) (l : List (Nat × Nat)) (w : World) (h : Cz w c p b vs ls sd) (hT : Tab w) (he : tcE vs n = er) (hl : tcL vs n = l) :
    Calls Tryz.prog 70 #[.pointer (some ⟨c, 0, none⟩), .int .i64 n] w (ToOut w er l) := by
  subst he; subst hl
  exact tocounter_any n w h hT
theorem counter_to (n : Nat) (w : World) (h : Cz w c p b vs ls sd) (hT : Tab w) (hn : counter vs = n) : Calls Tryz.prog 78 #[.pointer (some ⟨c, 0, none⟩)] w
    fun e w' => e = .returned (.int .i64 ((n : Nat) : Int)) ∧ Below w.heap.size w w' := by
  subst hn
  exact counter_any w h hT
theorem life_to (n : Nat) (w : World) (h : Cz w c p b vs ls sd) (hn : life vs = n) : Calls Tryz.prog 40 #[.pointer (some ⟨c, 0, none⟩)] w
    fun e w' => e = .returned (.int .i64 ((n : Nat) : Int)) ∧ Below w.heap.size w w' := by
  subst hn
  exact life_any w h
theorem do_to (v : Value) (B : Nat) (l : List (Nat × Nat)) (w : World) (er : Int) (vs' : List Nat) (h : Cz w c p b vs ls sd) (hO : OwnW w B v l) (hB : b < B) (hM : ∀ x ∈ l, x.2 < 4294967296) (hI : ∀ x ∈ l, x.1 < 64) (hd : doL vs l = (er, vs')) :
    Calls Tryz.prog 37 #[.pointer (some ⟨c, 0, none⟩), v] w fun e w' => e = .returned (.int .i64 er) ∧ Cz w' c p b vs' ls sd ∧ Frm [b] w w' := by
  have := do_any v B l w h hO hB hM hI
  rw [hd] at this
  exact this
/-- The chip's words behind a counter of n. -/
def cv (n : Nat) : List Nat := [0] ++ lw n ++ List.replicate 55 0
theorem cv0 : z64 = cv 0 := by decide +kernel
theorem aw1 : tcE (cv 0) 3 = 0 ∧ tcL (cv 0) 3 = [(1, 7)] := by decide +kernel
theorem aw2 : doL (cv 0) [(1, 7)] = (0, cv 3) := by decide +kernel
theorem aw3 : counter (cv 3) = 3 ∧ life (cv 3) = 0 := by decide +kernel

end Otp
end Go.Proofs.YtmiaabpnolebhaaGreatDoor
