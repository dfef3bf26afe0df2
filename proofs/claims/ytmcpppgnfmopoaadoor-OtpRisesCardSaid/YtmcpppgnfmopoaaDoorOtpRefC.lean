/-
  The reference of otp: Counter, as a count of single bits.
-/
import Derived.Test.YtmcpppgnfmopoaaDoorProg
import Derived.Test.YtmcpppgnfmopoaaDoorMem
import Derived.Test.YtmcpppgnfmopoaaDoorOtpRef
import Derived.Deep.LoopGhost
namespace Go.Proofs.YtmcpppgnfmopoaaDoor
open Go.RowKit

namespace Otp
open Fuse
def cbit (l : List Nat) (n : Nat) : Nat := (l[1 + n / 32]?.getD 0) / 2 ^ (n % 32) % 2
def rcount (l : List Nat) : Nat → Nat → Nat
  | 0, n => n
  | f + 1, n => if cbit l n = 1 then rcount l f (n + 1) else n
def refCnt (l : List Nat) : Nat := rcount l 255 0
set_option maxHeartbeats 1000000 in
set_option maxRecDepth 100000 in
theorem ref_counter (A : Option Addr) (len cap : Nat) (l : List Nat) (w : World) (B : Nat) (hl : l.length = len) (hm : len ≤ maxLen) (h1 : 9 ≤ len) (hz : Nats .u32 4294967296 w B A l) :
    Calls Tryd.prog 33 #[.slice A len cap] w fun e w' => e = .returned (.int .i64 ((refCnt l : Nat) : Int)) ∧ w = w' := by
  have HN := Lib.hid hz
  simp only [maxLen] at hm
  subst hl
  clear hz
  go_enter Tryd.func33, Tryd.ntmps33
  go_wp2_with fail
  go_loopg [3] 255 (fun g s3 wr => ∃ i : Nat, i + g = 255 ∧ s3 = .int .i64 (i : Int) ∧ refCnt l = rcount l (255 - i) i ∧ wr = w)
  case atStart => exact ⟨0, by omega, rfl, rfl, rfl⟩
  case round =>
    obtain ⟨i, hg, rfl, hr, rfl⟩ := hrel
    have HG := Lib.hid hg
    have hig : i ≤ 255 := by omega
    clear hg
    by_cases hlt : i < 255
    · obtain ⟨x, hx⟩ : ∃ x, l[1 + i / 32]? = some x := ⟨_, List.getElem?_eq_getElem (by omega)⟩
      obtain ⟨hxM, g0, off, rfl, hg0, hcx⟩ := HN.out _ x hx
      have hcb : cbit l i = x / 2 ^ (i % 32) % 2 := by simp [cbit, hx]
      have hb1 := ref_bit x (i % 32)
      have hb2 : x / 2 ^ (i % 32) % 2 < 2 := Nat.mod_lt _ (by decide)
      have hr := hr.trans (show rcount l (255 - i) i = if x / 2 ^ (i % 32) % 2 = 1 then rcount l (255 - (i + 1)) (i + 1) else i by rw [show 255 - i = (255 - (i + 1)) + 1 by omega, rcount, hcb])
      generalize x / 2 ^ (i % 32) % 2 = bt at *
      have hbt : bt = 0 ∨ bt = 1 := by omega
      clear hcb hx hb2
      rcases hbt with rfl | rfl
      · have HR := Lib.hid hr
        clear hr
        go_wp2_with fail
        go_light
        go_ret
        exact ⟨by rw [HR.out]; rfl, rfl⟩
      · have HR := Lib.hid hr
        clear hr
        go_wp2_with fail
        go_light
        go_roundg (255 - (i + 1))
        case measure => have := HG.out; omega
        case rel => exact ⟨i + 1, by omega, by go_num, by rw [HR.out]; rfl, rfl⟩
    · have : i = 255 := by omega
      subst this
      have HR := Lib.hid hr
      clear hr
      go_wp2_with fail
      go_light
      go_ret
      exact ⟨by rw [HR.out]; rfl, rfl⟩
end Otp
end Go.Proofs.YtmcpppgnfmopoaaDoor
