/-
  Package otp: Of, at, Kill, ToLife, Tear.
-/
import Derived.Test.YtpakdcgcgekcfaaDoorProg
import Derived.Test.YtpakdcgcgekcfaaDoorMem
import Derived.Test.YtpakdcgcgekcfaaDoorOtpPlan
import Derived.Test.YtpakdcgcgekcfaaDoorOtpLife
import Derived.Test.YtpakdcgcgekcfaaDoorOtpTo
import Derived.Test.YtpakdcgcgekcfaaDoorFuseOf1
import Derived.Deep.LoopGhost
namespace Go.Proofs.YtpakdcgcgekcfaaDoor
open Go.RowKit

namespace Otp
open Fuse
variable {w w' : World} {c p b : Nat} {vs : List Nat} {ls : List Bool} {sd : Bool}
def OfCz (w : World) (vs : List Nat) (e : Ending) (w' : World) : Prop := ∃ c p b, e = .returned (.tuple #[.pointer (some ⟨c, 0, none⟩), .int .i64 0]) ∧ Cz w' c p b vs f64 false ∧ w.heap.size ≤ c ∧ w.heap.size ≤ p ∧ w.heap.size ≤ b ∧ Below w.heap.size w w'
set_option maxHeartbeats 400000 in
theorem of_chip (A : Option Addr) (len cap : Nat) (zs : List Nat) (w : World) (hz : Nats .u32 4294967296 w w.heap.size A zs) (hl : zs.length = 64) (hn : len = 64) :
    Calls Tryd.prog 21 #[.slice A len cap] w (OfCz w zs) := by
  have HZ := Lib.hid hz
  subst hn
  clear hz
  go_enter Tryd.func21, Tryd.ntmps21
  go_wp2_with fail
  (with_reducible refine (of_any A 64 cap zs _ HZ.out hl (by decide)).mono ?_); rintro e w1 ⟨p, b, rfl, hz, hb, hp, hB⟩
  have HZ1 := Lib.hid hz
  have HB := Lib.hid hB
  have hbl : w.heap.size ≤ w1.heap.size := hB.size
  clear hz hB
  go_wp2_with fail
  go_light
  go_ret2
  have hz := HZ1.out
  rw [hl] at hz
  refine ⟨_, p, b, rfl, ⟨hz.frm ((Frm.refl [] _).alloc _) (by simp) (by simp), hl, ?_⟩, hbl, hp, hb, HB.out.alloc hbl _⟩
  exact Blk.new _ _ _
theorem nats_one (w : World) (t : TypeId) (z : Int) (y : Nat) (hz : z = y) (hy : y < 4294967296) : Nats .u32 4294967296 (w.alloc (.cells #[.int .u32 z] t)) (w.alloc (.cells #[.int .u32 z] t)).heap.size (some ⟨w.heap.size, 0, none⟩) [y] := by
  subst hz
  exact nats_blk (t := t) (l := [y]) (Blk.new w t _) (fun i x h => by
    have := List.mem_of_getElem? h
    simp only [List.mem_singleton] at this
    subst this
    exact hy)
theorem toOut_alloc {w : World} {o : Obj} {er : Int} {l : List (Nat × Nat)} {e : Ending} {w' : World} (h : ToOut (w.alloc o) er l e w') : ToOut w er l e w' := by
  obtain ⟨v, rfl, hO, hB⟩ := h
  exact ⟨v, rfl, ownW_le hO (by simp), ((Below.refl _ w).alloc (Nat.le_refl _) o).trans (hB.mono (by simp))⟩
theorem toOut_old {w w1 : World} (h1 : Below w.heap.size w w1) {er : Int} {l : List (Nat × Nat)} {e : Ending} {w' : World} (h : ToOut w1 er l e w') : ToOut w er l e w' := by
  obtain ⟨v, rfl, hO, hB⟩ := h
  exact ⟨v, rfl, ownW_le hO h1.size, below_then h1 hB (Nat.le_refl _)⟩
def atE (i : Int) : Int := if 0 ≤ i ∧ i < 4 then 0 else 1
def atV (i : Int) : Int := if 0 ≤ i ∧ i < 4 then 27 + 9 * i else 0
theorem at_in (i : Int) (w : World) (h0 : 0 ≤ i) (h1 : i < 4) : Calls Tryd.prog 67 #[.int .i64 i] w fun e w' => e = .returned (.tuple #[.int .i64 (27 + 9 * i), .int .i64 0]) ∧ w = w' := by
  go_enter Tryd.func67, Tryd.ntmps67
  go_wp2
  go_light
  go_ret2
  exact ⟨rfl, rfl⟩
theorem at_out (i : Int) (w : World) (h : i < 0 ∨ 4 ≤ i) : Calls Tryd.prog 67 #[.int .i64 i] w fun e w' => e = .returned (.tuple #[.int .i64 0, .int .i64 1]) ∧ w = w' := by
  by_cases h0 : i < 0
  · clear h
    go_enter Tryd.func67, Tryd.ntmps67
    go_wp2
    go_light
    go_ret2
    exact ⟨rfl, rfl⟩
  · have h1 : 4 ≤ i := by omega
    clear h
    go_enter Tryd.func67, Tryd.ntmps67
    go_wp2
    go_light
    go_ret2
    exact ⟨rfl, rfl⟩
def klL (vs : List Nat) (i : Int) : List (Nat × Nat) := if 0 ≤ i ∧ i < 4 then planOf vs (35 + 9 * i.toNat) [65280] else []
set_option maxHeartbeats 400000 in
theorem kill_any (i : Int) (w : World) (h : Cz w c p b vs ls sd) :
    Calls Tryd.prog 20 #[.pointer (some ⟨c, 0, none⟩), .int .i64 i] w (ToOut w (atE i) (klL vs i)) := by
  have H := Lib.hid h
  clear h
  by_cases h0 : 0 ≤ i ∧ i < 4
  · have e1 : atE i = 0 := by simp [atE, h0]
    have e2 : klL vs i = planOf vs (35 + 9 * i.toNat) [65280] := by simp [klL, h0]
    rw [e1, e2]
    clear e1 e2
    obtain ⟨h0, h1⟩ := h0
    obtain ⟨k, rfl⟩ := Int.eq_ofNat_of_zero_le h0
    rw [Int.toNat_natCast]
    go_enter Tryd.func20, Tryd.ntmps20
    go_wp2_with fail
    (with_reducible refine (at_in _ _ h0 h1).mono ?_); rintro e w1 ⟨rfl, rfl⟩
    go_wp2_with fail
    (with_reducible refine (plan_any (27 + 9 * (k : Int) + 8) (35 + 9 * k) _ 1 1 [65280] _ (H.out.alloc _) (by omega) rfl (by simp; omega) (nats_one w 43 65280 65280 (by decide) (by decide))).mono ?_); rintro e w2 ⟨v, rfl, hO, hB⟩
    have HO := Lib.hid hO
    have HB := Lib.hid hB
    clear hO hB
    go_wp2_with fail
    go_light
    go_ret2
    exact toOut_alloc ⟨_, rfl, HO.out, HB.out⟩
  · have e1 : atE i = 1 := by simp only [atE, if_neg h0]
    have e2 : klL vs i = [] := by simp only [klL, if_neg h0]
    rw [e1, e2]
    clear e1 e2
    go_enter Tryd.func20, Tryd.ntmps20
    go_wp2_with fail
    (with_reducible refine (at_out _ _ (by omega)).mono ?_); rintro e w1 ⟨rfl, rfl⟩
    go_wp2_with fail
    go_light
    go_ret2
    exact ⟨_, rfl, World.ownsRow_nil _ _ _ _, Below.refl _ _⟩
def tlE (vs : List Nat) (i : Int) : Int := if i < 1 ∨ 4 < i then 1 else if i ≤ life vs then 14 else 0
def tlL (vs : List Nat) (i : Int) : List (Nat × Nat) := if tlE vs i = 0 then planOf vs 0 [255 * 2 ^ (8 * (i.toNat - 1))] else []
set_option maxHeartbeats 1000000 in
theorem tolife_1 (w : World) (h : Cz w c p b vs ls sd) (h2 : ¬ ((1 : Int) ≤ life vs)) :
    Calls Tryd.prog 76 #[.pointer (some ⟨c, 0, none⟩), .int .i64 1] w (ToOut w 0 (planOf vs 0 [255])) := by
  have H := Lib.hid h
  clear h
  have hl4 : life vs ≤ 4 := lifeN_le _ _
  go_enter Tryd.func76, Tryd.ntmps76
  go_wp2_with fail
  (with_reducible refine (life_any _ H.out).mono ?_); rintro e w1 ⟨rfl, hB⟩
  have HB := Lib.hid hB
  have HC := Lib.hid (H.out.old hB)
  clear hB
  generalize life vs = lf at *
  go_wp2_with fail
  (with_reducible refine (plan_any 0 0 _ 1 1 [255] _ (HC.out.alloc _) rfl rfl (by simp) (nats_one w1 43 255 255 (by decide) (by decide))).mono ?_); rintro e w2 ⟨v, rfl, hO, hB⟩
  have HT := Lib.hid (toOut_old HB.out (toOut_alloc (er := 0) (l := _) ⟨v, rfl, hO, hB⟩))
  clear hO hB
  go_wp2_with fail
  go_light
  go_ret2
  exact HT.out
set_option maxHeartbeats 1000000 in
theorem tolife_2 (w : World) (h : Cz w c p b vs ls sd) (h2 : ¬ ((2 : Int) ≤ life vs)) :
    Calls Tryd.prog 76 #[.pointer (some ⟨c, 0, none⟩), .int .i64 2] w (ToOut w 0 (planOf vs 0 [65280])) := by
  have H := Lib.hid h
  clear h
  have hl4 : life vs ≤ 4 := lifeN_le _ _
  go_enter Tryd.func76, Tryd.ntmps76
  go_wp2_with fail
  (with_reducible refine (life_any _ H.out).mono ?_); rintro e w1 ⟨rfl, hB⟩
  have HB := Lib.hid hB
  have HC := Lib.hid (H.out.old hB)
  clear hB
  generalize life vs = lf at *
  go_wp2_with fail
  (with_reducible refine (plan_any 0 0 _ 1 1 [65280] _ (HC.out.alloc _) rfl rfl (by simp) (nats_one w1 43 65280 65280 (by decide) (by decide))).mono ?_); rintro e w2 ⟨v, rfl, hO, hB⟩
  have HT := Lib.hid (toOut_old HB.out (toOut_alloc (er := 0) (l := _) ⟨v, rfl, hO, hB⟩))
  clear hO hB
  go_wp2_with fail
  go_light
  go_ret2
  exact HT.out
set_option maxHeartbeats 1000000 in
theorem tolife_3 (w : World) (h : Cz w c p b vs ls sd) (h2 : ¬ ((3 : Int) ≤ life vs)) :
    Calls Tryd.prog 76 #[.pointer (some ⟨c, 0, none⟩), .int .i64 3] w (ToOut w 0 (planOf vs 0 [16711680])) := by
  have H := Lib.hid h
  clear h
  have hl4 : life vs ≤ 4 := lifeN_le _ _
  go_enter Tryd.func76, Tryd.ntmps76
  go_wp2_with fail
  (with_reducible refine (life_any _ H.out).mono ?_); rintro e w1 ⟨rfl, hB⟩
  have HB := Lib.hid hB
  have HC := Lib.hid (H.out.old hB)
  clear hB
  generalize life vs = lf at *
  go_wp2_with fail
  (with_reducible refine (plan_any 0 0 _ 1 1 [16711680] _ (HC.out.alloc _) rfl rfl (by simp) (nats_one w1 43 16711680 16711680 (by decide) (by decide))).mono ?_); rintro e w2 ⟨v, rfl, hO, hB⟩
  have HT := Lib.hid (toOut_old HB.out (toOut_alloc (er := 0) (l := _) ⟨v, rfl, hO, hB⟩))
  clear hO hB
  go_wp2_with fail
  go_light
  go_ret2
  exact HT.out
set_option maxHeartbeats 1000000 in
theorem tolife_4 (w : World) (h : Cz w c p b vs ls sd) (h2 : ¬ ((4 : Int) ≤ life vs)) :
    Calls Tryd.prog 76 #[.pointer (some ⟨c, 0, none⟩), .int .i64 4] w (ToOut w 0 (planOf vs 0 [4278190080])) := by
  have H := Lib.hid h
  clear h
  have hl4 : life vs ≤ 4 := lifeN_le _ _
  go_enter Tryd.func76, Tryd.ntmps76
  go_wp2_with fail
  (with_reducible refine (life_any _ H.out).mono ?_); rintro e w1 ⟨rfl, hB⟩
  have HB := Lib.hid hB
  have HC := Lib.hid (H.out.old hB)
  clear hB
  generalize life vs = lf at *
  go_wp2_with fail
  (with_reducible refine (plan_any 0 0 _ 1 1 [4278190080] _ (HC.out.alloc _) rfl rfl (by simp) (nats_one w1 43 4278190080 4278190080 (by decide) (by decide))).mono ?_); rintro e w2 ⟨v, rfl, hO, hB⟩
  have HT := Lib.hid (toOut_old HB.out (toOut_alloc (er := 0) (l := _) ⟨v, rfl, hO, hB⟩))
  clear hO hB
  go_wp2_with fail
  go_light
  go_ret2
  exact HT.out
set_option maxHeartbeats 2000000 in
theorem tolife_any (i : Int) (w : World) (h : Cz w c p b vs ls sd) :
    Calls Tryd.prog 76 #[.pointer (some ⟨c, 0, none⟩), .int .i64 i] w (ToOut w (tlE vs i) (tlL vs i)) := by
  have H := Lib.hid h
  clear h
  by_cases h0 : i < 1
  · have e1 : tlE vs i = 1 := by simp [tlE, h0]
    have e2 : tlL vs i = [] := by simp [tlL, e1]
    rw [e1, e2]
    clear e1 e2
    go_enter Tryd.func76, Tryd.ntmps76
    go_wp2_with fail
    go_light
    go_ret2
    exact ⟨_, rfl, World.ownsRow_nil _ _ _ _, Below.refl _ _⟩
  by_cases h1 : 4 < i
  · have e1 : tlE vs i = 1 := by simp [tlE, h1]
    have e2 : tlL vs i = [] := by simp [tlL, e1]
    rw [e1, e2]
    clear e1 e2
    go_enter Tryd.func76, Tryd.ntmps76
    go_wp2_with fail
    go_light
    go_ret2
    exact ⟨_, rfl, World.ownsRow_nil _ _ _ _, Below.refl _ _⟩
  have hl4 : life vs ≤ 4 := lifeN_le _ _
  by_cases h2 : i ≤ life vs
  · have e1 : tlE vs i = 14 := by simp only [tlE, if_pos h2]; rw [if_neg (by omega)]
    have e2 : tlL vs i = [] := by simp [tlL, e1]
    rw [e1, e2]
    clear e1 e2
    go_enter Tryd.func76, Tryd.ntmps76
    go_wp2_with fail
    (with_reducible refine (life_any _ H.out).mono ?_); rintro e w1 ⟨rfl, hB⟩
    have HB := Lib.hid hB
    clear hB
    go_wp2_with fail
    go_light
    go_ret2
    exact ⟨_, rfl, World.ownsRow_nil _ _ _ _, HB.out⟩
  · have e1 : tlE vs i = 0 := by simp only [tlE, if_neg h2]; rw [if_neg (by omega)]
    have e2 : tlL vs i = planOf vs 0 [255 * 2 ^ (8 * (i.toNat - 1))] := by simp only [tlL, e1, if_true]
    rw [e1, e2]
    clear e1 e2
    have h14 : i = 1 ∨ i = 2 ∨ i = 3 ∨ i = 4 := by omega
    rcases h14 with rfl | rfl | rfl | rfl
    · exact tolife_1 w H.out h2
    · exact tolife_2 w H.out h2
    · exact tolife_3 w H.out h2
    · exact tolife_4 w H.out h2
end Otp
end Go.Proofs.YtpakdcgcgekcfaaDoor
