/-
  The reference's Value (curtilageref01): a number of at most four bytes, the highest first.
-/
import Derived.Test.YtgmomkinbfajkaaDoorProg
import Derived.Test.YtgmomkinbfajkaaDoorMem
import Derived.Deep.LoopGhost
set_option linter.unusedSimpArgs false
set_option linter.unusedVariables false
namespace Go.Proofs.YtgmomkinbfajkaaDoor
open Go.RowKit

namespace R1
def beVal (l : List Nat) : Nat := l.foldl (fun a b => 256 * a + b) 0
theorem beVal_snoc (l : List Nat) (x : Nat) : beVal (l ++ [x]) = 256 * beVal l + x := by simp [beVal]
set_option maxHeartbeats 1000000 in
theorem value_any (A : Option Addr) (len cap : Nat) (l : List Nat) (w : World) (B : Nat) (hl : l.length = len) (hm : len ≤ 4) (hz : Nats .u8 256 w B A l) :
    Calls Tryd.prog 12 #[.slice A len cap] w fun e w' => e = .returned (.int .u64 ((beVal l : Nat) : Int)) ∧ w = w' := by
  have HN := Lib.hid hz
  subst hl
  clear hz
  go_enter Tryd.func12, Tryd.ntmps12
  go_wp2_with fail
  go_loopg [3, 8] l.length (fun g s3 s8 wr => ∃ i : Nat, i + g = l.length ∧ s8 = .int .i64 (i : Int) ∧ ∃ v : Nat, s3 = .int .u64 (v : Int) ∧ v = beVal (l.take i) ∧ v < 256 ^ i ∧ wr = w)
  case atStart => exact ⟨0, by omega, rfl, 0, rfl, rfl, by decide, rfl⟩
  case round =>
    obtain ⟨i, hg, rfl, v, rfl, hv, hvb, rfl⟩ := hrel
    have HG := Lib.hid hg
    have HV := Lib.hid hv
    have hig : i ≤ l.length := by omega
    clear hg hv
    by_cases hlt : i < l.length
    · obtain ⟨x, hx⟩ : ∃ x, l[i]? = some x := ⟨_, List.getElem?_eq_getElem hlt⟩
      obtain ⟨hxM, g0, off, rfl, hg0, hcx⟩ := HN.out i x hx
      have HS := Lib.hid (show beVal (l.take (i + 1)) = 256 * v + x by rw [take_snoc hx, beVal_snoc, HV.out])
      have hvc : v < 16777216 := Nat.lt_of_lt_of_le hvb (Nat.le_trans (Nat.pow_le_pow_right (by decide) (show i ≤ 3 by omega)) (by decide))
      have HB := Lib.hid (show 256 * v + x < 256 ^ (i + 1) by rw [Nat.pow_succ]; omega)
      clear hx hvb
      go_wp2_with fail
      go_light
      go_roundg (l.length - (i + 1))
      case measure => have := HG.out; omega
      case rel => exact ⟨i + 1, by omega, by go_num, 256 * v + x, by go_num, HS.out.symm, HB.out, rfl⟩
    · have : i = l.length := by omega
      subst this
      have hvl := HV.out
      rw [List.take_length] at hvl
      have HV2 := Lib.hid hvl
      clear hvl HV
      go_wp2_with fail
      go_light
      go_ret
      exact ⟨by rw [HV2.out]; rfl, rfl⟩
end R1
end Go.Proofs.YtgmomkinbfajkaaDoor
