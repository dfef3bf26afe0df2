/-
  The reference of otp (curtilageref11): on, Life, by the same plain functions as the program's.
-/
import Derived.Test.YtmcpppgnfmopoaaDoorProg
import Derived.Test.YtmcpppgnfmopoaaDoorMem
import Derived.Test.YtmcpppgnfmopoaaDoorOtpLife
import Derived.Deep.LoopGhost
namespace Go.Proofs.YtmcpppgnfmopoaaDoor
open Go.RowKit

namespace Otp
open Fuse
/-- The bits of a field that are set, counted one by one. -/
def rpop (x k : Nat) : Nat → Nat
  | 0 => 0
  | m + 1 => rpop x k m + x / 2 ^ (8 * k + m) % 2
theorem rpop_le (x k : Nat) : ∀ m, rpop x k m ≤ m
  | 0 => by simp [rpop]
  | m + 1 => by
    have := rpop_le x k m
    simp only [rpop]
    omega
def rp8 (y : Nat) : Nat → Nat
  | 0 => 0
  | m + 1 => rp8 y m + y / 2 ^ m % 2
theorem rp8_eq : ∀ n : Fin 256, rp8 n.val 8 = Lib.onesCount n.val := by decide +kernel
theorem rpop_field (x k : Nat) : ∀ m, m ≤ 8 → rpop x k m = rp8 (x / 2 ^ (8 * k) % 256) m
  | 0, _ => rfl
  | m + 1, h => by
    have ih := rpop_field x k m (by omega)
    simp only [rpop, rp8, ih]
    congr 1
    rw [Nat.pow_add, ← Nat.div_div_eq_div_mul]
    generalize x / 2 ^ (8 * k) = y
    have e : y % 256 / 2 ^ m % 2 = y / 2 ^ m % 2 := by
      have h8 : m < 8 := by omega
      have a1 := Nat.testBit_mod_two_pow y 8 m
      simp only [Nat.testBit, Nat.shiftRight_eq_div_pow, Nat.one_and_eq_mod_two, h8, decide_true, Bool.true_and] at a1
      have b1 : y % 2 ^ 8 / 2 ^ m % 2 < 2 := Nat.mod_lt _ (by decide)
      have b2 : y / 2 ^ m % 2 < 2 := Nat.mod_lt _ (by decide)
      rw [show (256 : Nat) = 2 ^ 8 from rfl]
      generalize y % 2 ^ 8 / 2 ^ m % 2 = u at *
      generalize y / 2 ^ m % 2 = v at *
      have hu : u = 0 ∨ u = 1 := by omega
      have hv : v = 0 ∨ v = 1 := by omega
      rcases hu with rfl | rfl <;> rcases hv with rfl | rfl <;> first | rfl | (simp at a1)
    exact e.symm
theorem rpop_on (x k : Nat) : onB x k = decide (5 ≤ rpop x k 8) := by
  rw [rpop_field x k 8 (by omega), onB]
  rw [rp8_eq ⟨x / 2 ^ (8 * k) % 256, Nat.mod_lt _ (by decide)⟩]
theorem ref_bit (y k : Nat) : ((y : Int) / 2 ^ k).tmod 2 = ((y / 2 ^ k % 2 : Nat) : Int) := by
  have : ((y : Int) / 2 ^ k) = ((y / 2 ^ k : Nat) : Int) := by simp
  rw [this]
  rfl
set_option maxHeartbeats 1000000 in
theorem ref_on (x i : Int) (y k : Nat) (w : World) (hx : x = y) (hi : i = k) (hy : y < 4294967296) (hk : k < 4) :
    Calls Tryd.prog 54 #[.int .u32 x, .int .i64 i] w fun e w' => e = .returned (.bool (onB y k)) ∧ w = w' := by
  subst hx
  subst hi
  rw [rpop_on]
  go_enter Tryd.func54, Tryd.ntmps54
  go_wp2_with fail
  go_loopg [5, 6] 8 (fun g s5 s6 wr => ∃ m : Nat, m + g = 8 ∧ s6 = .int .i64 ((8 * k + m : Nat) : Int) ∧ s5 = .int .i64 ((rpop y k m : Nat) : Int) ∧ wr = w)
  case atStart => exact ⟨0, by omega, rfl, rfl, rfl⟩
  case round =>
    obtain ⟨m, hg, rfl, rfl, rfl⟩ := hrel
    have HG := Lib.hid hg
    have hm8 : m ≤ 8 := by omega
    clear hg
    have hle := rpop_le y k m
    by_cases hlt : m < 8
    · have HS := Lib.hid (show rpop y k (m + 1) = rpop y k m + y / 2 ^ (8 * k + m) % 2 from rfl)
      have hb1 := ref_bit y (8 * k + m)
      have hb2 : y / 2 ^ (8 * k + m) % 2 < 2 := Nat.mod_lt _ (by decide)
      generalize y / 2 ^ (8 * k + m) % 2 = bt at *
      generalize rpop y k m = pm at *
      go_wp2_with fail
      go_light
      go_roundg (8 - (m + 1))
      case measure => have := HG.out; omega
      case rel => exact ⟨m + 1, by omega, by go_num, by rw [HS.out]; go_num, rfl⟩
    · have : m = 8 := by omega
      subst this
      go_wp2_with fail
      go_light
      go_ret
      exact ⟨by simp; omega, rfl⟩
set_option maxHeartbeats 1000000 in
theorem ref_life (A : Option Addr) (len cap : Nat) (l : List Nat) (w : World) (B : Nat) (hl : l.length = len) (hm : len ≤ maxLen) (h1 : 1 ≤ len) (hz : Nats .u32 4294967296 w B A l) :
    Calls Tryd.prog 32 #[.slice A len cap] w fun e w' => e = .returned (.int .i64 ((life l : Nat) : Int)) ∧ w = w' := by
  obtain ⟨x, hx⟩ : ∃ x, l[0]? = some x := ⟨_, List.getElem?_eq_getElem (by omega)⟩
  obtain ⟨hxM, g0, off, rfl, hg0, hcx⟩ := hz 0 x hx
  rw [Nat.add_zero] at hcx
  have hlf : life l = lifeN x 4 := by simp [life, hx]
  rw [hlf]
  simp only [maxLen] at hm
  clear hlf hx hz
  go_enter Tryd.func32, Tryd.ntmps32
  go_wp2_with fail
  go_loopg [3, 4] 4 (fun g s3 s4 wr => ∃ i : Nat, i + g = 4 ∧ s4 = .int .i64 (i : Int) ∧ s3 = .int .i64 ((lifeN x i : Nat) : Int) ∧ wr = w)
  case atStart => exact ⟨0, by omega, rfl, rfl, rfl⟩
  case round =>
    obtain ⟨i, hg, rfl, rfl, rfl⟩ := hrel
    have HG := Lib.hid hg
    have hig : i ≤ 4 := by omega
    clear hg
    have hle := lifeN_le x i
    by_cases hlt : i < 4
    · go_wp2_with fail
      (with_reducible refine (ref_on _ _ x i _ rfl rfl hxM hlt).mono ?_); rintro e w2 ⟨rfl, rfl⟩
      have HS := Lib.hid (show lifeN x (i + 1) = if onB x i = true then i + 1 else lifeN x i from rfl)
      generalize onB x i = o at *
      cases o with
      | true =>
        go_wp2_with fail
        go_light
        go_roundg (4 - (i + 1))
        case measure => have := HG.out; omega
        case rel => exact ⟨i + 1, by omega, by go_num, by rw [HS.out]; go_num, rfl⟩
      | false =>
        go_wp2_with fail
        go_light
        go_roundg (4 - (i + 1))
        case measure => have := HG.out; omega
        case rel => exact ⟨i + 1, by omega, by go_num, by rw [HS.out]; rfl, rfl⟩
    · have : i = 4 := by omega
      subst this
      go_wp2_with fail
      go_light
      go_ret
      exact ⟨rfl, rfl⟩
end Otp
end Go.Proofs.YtmcpppgnfmopoaaDoor
