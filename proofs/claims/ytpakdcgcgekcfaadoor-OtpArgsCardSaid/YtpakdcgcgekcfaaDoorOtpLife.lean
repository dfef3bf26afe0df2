/-
  Package otp: on, Life; math/bits.OnesCount8.
-/
import Derived.Test.YtpakdcgcgekcfaaDoorProg
import Derived.Test.YtpakdcgcgekcfaaDoorMem
import Derived.Test.YtpakdcgcgekcfaaDoorOtp
import Derived.Lib.BitFns
import Derived.Deep.LoopGhost
namespace Go.Proofs.YtpakdcgcgekcfaaDoor
open Go.RowKit

namespace Otp
open Fuse
variable {w w' : World} {c p b : Nat} {vs : List Nat} {ls : List Bool} {sd : Bool}
set_option maxHeartbeats 4000000 in
set_option maxRecDepth 100000 in
theorem ones8 (x : Int) (w : World) (h0 : 0 ≤ x) (h1 : x ≤ 255) :
    Calls Tryd.prog 100 #[.int .u8 x] w fun e w' => e = .returned (.int .i64 (Lib.onesCount x.toNat)) ∧ w' = w := by
  have e := Lib.pop8_int x h0 h1
  have e1 : wrap64 (Lib.pop8 x) = (Lib.onesCount x.toNat : Int) := by
    rw [← e]
    generalize Lib.pop8 x = q
    simp only [wrap64]
  go_enter Tryd.func100, Tryd.ntmps100
  go_wp2
  rw [e1]
  go_ret
  exact ⟨rfl, rfl⟩
theorem ones8_nat (x : Int) (k : Nat) (w : World) (hx : x = k) (h1 : k ≤ 255) :
    Calls Tryd.prog 100 #[.int .u8 x] w fun e w' => e = .returned (.int .i64 ((Lib.onesCount k : Nat) : Int)) ∧ w = w' := by
  subst hx
  exact (ones8 k w (by omega) (by omega)).mono fun e w' h => ⟨h.1, h.2.symm⟩
/-- Are five of a field's eight bits set? -/
def onB (x i : Nat) : Bool := decide (5 ≤ Lib.onesCount (x / 2 ^ (8 * i) % 256))
theorem field_int (y k : Nat) : (y : Int) / 2 ^ (8 * k) % 256 = ((y / 2 ^ (8 * k) % 256 : Nat) : Int) := by simp
set_option maxHeartbeats 400000 in
theorem on_any (x i : Int) (y k : Nat) (w : World) (hx : x = y) (hi : i = k) (_ : y < 4294967296) (hk : k < 4) :
    Calls Tryd.prog 71 #[.int .u32 x, .int .i64 i] w fun e w' => e = .returned (.bool (onB y k)) ∧ w = w' := by
  subst hx
  subst hi
  have hm : Lib.onesCount (y / 2 ^ (8 * k) % 256) ≤ 8 := Lib.onesCount_le8 ⟨_, Nat.mod_lt _ (by decide)⟩
  unfold onB
  go_enter Tryd.func71, Tryd.ntmps71
  go_wp2_with fail
  (with_reducible refine (ones8_nat _ (y / 2 ^ (8 * k) % 256) _ (field_int y k) (by omega)).mono ?_); rintro e w' ⟨rfl, rfl⟩
  go_wp2_with fail
  go_light
  go_ret
  exact ⟨by simp; omega, rfl⟩
def lifeN (x : Nat) : Nat → Nat
  | 0 => 0
  | i + 1 => if onB x i = true then i + 1 else lifeN x i
/-- The last life that was reached. -/
def life (vs : List Nat) : Nat := lifeN (vs[0]?.getD 0) 4
theorem lifeN_le (x : Nat) : ∀ n, lifeN x n ≤ n
  | 0 => by simp [lifeN]
  | i + 1 => by
    have := lifeN_le x i
    simp only [lifeN]
    split <;> omega
set_option maxHeartbeats 1000000 in
theorem life_any (w : World) (h : Cz w c p b vs ls sd) : Calls Tryd.prog 26 #[.pointer (some ⟨c, 0, none⟩)] w
    fun e w' => e = .returned (.int .i64 ((life vs : Nat) : Int)) ∧ Below w.heap.size w w' := by
  obtain ⟨x, hx⟩ : ∃ x, vs[0]? = some x := ⟨_, List.getElem?_eq_getElem (by have := h.len; omega)⟩
  have hxM := h.fz.word _ _ hx
  have hlf : life vs = lifeN x 4 := by simp [life, hx]
  rw [hlf]
  have H := Lib.hid h
  have HX := Lib.hid hx
  clear h hlf hx
  go_enter Tryd.func26, Tryd.ntmps26
  go_wp2_with fail
  go_loopg [3, 5] 4 (fun g s3 s5 wr => ∃ i : Nat, i + g = 4 ∧ s5 = .int .i64 (i : Int) ∧ s3 = .int .i64 ((lifeN x i : Nat) : Int) ∧ Below w.heap.size w wr)
  case atStart => exact ⟨0, by omega, rfl, rfl, Below.refl _ _⟩
  case round =>
    obtain ⟨i, hg, rfl, rfl, hB⟩ := hrel
    have HG := Lib.hid hg
    have hig : i ≤ 4 := by omega
    have HB := Lib.hid hB
    clear hg hB
    have hle := lifeN_le x i
    by_cases hlt : i < 4
    · have hC := H.out.old HB.out
      have HC := Lib.hid hC
      clear hC
      go_wp2_with fail
      (with_reducible refine (all_any _ HC.out).mono ?_); rintro e w1 ⟨v, rfl, hO, hB⟩
      obtain ⟨A1, cp, rfl, hc1, hc2, -⟩ := hO.form HC.out.fz.word
      obtain ⟨g1, rfl, hg1, hg2, hco, -⟩ := hO.at_ HX.out
      have hvl : vs.length = 64 := HC.out.len
      rw [hvl] at hc1 ⊢
      have hB1 := below_then HB.out hB (Nat.le_refl _)
      have HB1 := Lib.hid hB1
      clear hB1 hB hO
      go_wp2_with fail
      (with_reducible refine (on_any _ _ x i _ rfl rfl hxM hlt).mono ?_); rintro e w2 ⟨rfl, rfl⟩
      have HS := Lib.hid (show lifeN x (i + 1) = if onB x i = true then i + 1 else lifeN x i from rfl)
      generalize onB x i = o at *
      cases o with
      | true =>
        go_wp2_with fail
        go_light
        go_roundg (4 - (i + 1))
        case measure => have := HG.out; omega
        case rel => exact ⟨i + 1, by omega, by go_num, by rw [HS.out]; go_num, HB1.out⟩
      | false =>
        go_wp2_with fail
        go_light
        go_roundg (4 - (i + 1))
        case measure => have := HG.out; omega
        case rel => exact ⟨i + 1, by omega, by go_num, by rw [HS.out]; rfl, HB1.out⟩
    · have : i = 4 := by omega
      subst this
      go_wp2_with fail
      go_light
      go_ret
      exact ⟨rfl, HB.out⟩
end Otp
end Go.Proofs.YtpakdcgcgekcfaaDoor
