/-
  The references' Same.
-/
import Derived.Test.YtfiojpdkbckopaaDoorProg
import Derived.Test.YtfiojpdkbckopaaDoorJ68c09f72
import Derived.Deep.LoopGhost
set_option linter.unusedSimpArgs false
set_option linter.unusedVariables false
namespace Go.Proofs.YtfiojpdkbckopaaDoor
open Go.RowKit

namespace R1
def SameOut (w : World) (v : Bool) (e : Ending) (w' : World) : Prop := e = .returned (.bool v) ∧ ∃ n, w' = w.drewN n
theorem Nats.drewN {k : IntKind} {M : Nat} {w : World} {B : Nat} {a : Option Addr} {zs : List Nat} (h : Nats k M w B a zs) (n : Nat) : Nats k M (w.drewN n) B a zs := h
theorem drewN_drewN (w : World) (a b : Nat) : (w.drewN a).drewN b = w.drewN (a + b) := by
  simp [World.drewN, Nat.add_assoc]
set_option maxHeartbeats 1000000 in
theorem same_any (A B : Option Addr) (la lb ca cb : Nat) (x y : List Nat) (v : Bool) (w : World) (BA BB : Nat) (hx : x.length = la) (hy : y.length = lb) (hma : la ≤ maxLen) (hmb : lb ≤ maxLen) (hA : Nats .u8 256 w BA A x) (hB : Nats .u8 256 w BB B y) (hv : decide (x = y) = v) :
    Calls Tryd.prog 31 #[.slice A la ca, .slice B lb cb] w (SameOut w v) := by
  have HA := Lib.hid hA
  have HB := Lib.hid hB
  have HV := Lib.hid hv
  simp only [maxLen] at hma hmb
  clear hA hB hv
  subst hx hy
  by_cases hl : x.length = y.length
  · have HL := Lib.hid hl
    have e1 : ((x.length : Int) != (y.length : Int)) = false := by simp [hl]
    clear hl
    go_enter Tryd.func31, Tryd.ntmps31
    go_wp2_with fail
    go_loopg [5, 13] x.length (fun g s5 s13 wr => ∃ i : Nat, i + g = x.length ∧ s13 = .int .i64 (i : Int) ∧ Hid (x.take i = y.take i) ∧ ∃ n, wr = w.drewN n)
    case atStart => exact ⟨0, by omega, rfl, Lib.hid rfl, 0, rfl⟩
    case round =>
      obtain ⟨i, hg, rfl, HT, n, rfl⟩ := hrel
      have HG := Lib.hid hg
      have hi : i ≤ x.length := by omega
      clear hg
      by_cases hlt : i < x.length
      · obtain ⟨a, ha⟩ : ∃ a, x[i]? = some a := ⟨_, List.getElem?_eq_getElem hlt⟩
        obtain ⟨b, hb⟩ : ∃ b, y[i]? = some b := ⟨_, List.getElem?_eq_getElem (by have := HL.out; omega)⟩
        obtain ⟨haM, ga, oa, rfl, hga, hca⟩ := HA.out i a ha
        obtain ⟨hbM, gb, ob, rfl, hgb, hcb⟩ := HB.out i b hb
        have hlt2 : i < y.length := by have := HL.out; omega
        by_cases hab : a = b
        · subst hab
          have HS := Lib.hid (show x.take (i + 1) = y.take (i + 1) by rw [take_snoc ha, take_snoc hb, HT.out])
          clear ha hb
          go_wp2_with fail
          go_quiet (fail)
          go_wp2_with fail
          go_light
          go_roundg (x.length - (i + 1))
          case measure => have := HG.out; omega
          case rel => exact ⟨i + 1, by have := HG.out; omega, by go_num, HS, _, rfl⟩
        · have hne : ((a : Int) != (b : Int)) = true := by rw [bne_iff_ne]; omega
          have HF := Lib.hid (show v = false by
            rw [← HV.out, decide_eq_false_iff_not]
            intro e
            rw [e, hb] at ha
            exact hab (Option.some.inj ha).symm)
          clear ha hb
          go_wp2_with fail
          go_quiet (fail)
          go_wp2_with fail
          go_light
          go_ret
          obtain rfl := HF.out
          exact ⟨rfl, _, drewN_drewN _ _ _⟩
      · have : i = x.length := by omega
        subst this
        have HE := Lib.hid (show v = true by
          rw [← HV.out, decide_eq_true_eq]
          have := HT.out
          rw [List.take_length, HL.out, List.take_length] at this
          exact this)
        go_wp2_with fail
        go_light
        go_ret
        obtain rfl := HE.out
        exact ⟨rfl, n, rfl⟩
  · have e1 : ((x.length : Int) != (y.length : Int)) = true := by rw [bne_iff_ne]; omega
    have HF := Lib.hid (show v = false by
      rw [← HV.out, decide_eq_false_iff_not]
      intro e
      exact hl (by rw [e]))
    clear hl
    go_enter Tryd.func31, Tryd.ntmps31
    go_wp2_with fail
    go_light
    go_ret
    obtain rfl := HF.out
    exact ⟨rfl, 0, rfl⟩
end R1
end Go.Proofs.YtfiojpdkbckopaaDoor
