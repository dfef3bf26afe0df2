/-
  The law's own 'same', of two slices of words.
-/
import Derived.Test.YtmcpppgnfmopoaaProg
import Derived.Test.YtmcpppgnfmopoaaMem
import Derived.Test.YtmcpppgnfmopoaaFuse3
import Derived.Deep.QuietTactic
import Derived.BigQuiet
import Derived.Deep.LoopGhost
namespace Go.Proofs.Ytmcpppgnfmopoaa
open Go.RowKit

namespace Fuse
set_option maxHeartbeats 400000 in
theorem same_any (a a' : Option Addr) (c c' : Nat) (xs ys : List Nat) (v : Bool) (B : Nat) (w : World) (hx : Nats .u32 4294967296 w B a xs) (hy : Nats .u32 4294967296 w B a' ys) (hm : xs.length ≤ 9223372036854775807) (_hm' : ys.length ≤ 9223372036854775807) (hv : (xs == ys) = v) :
    Calls Try.prog 17 #[.slice a xs.length c, .slice a' ys.length c'] w fun e w' => e = .returned (.bool v) ∧ ∃ n, w' = w.drewN n := by
  have HV := Lib.hid hv
  have HX := Lib.hid hx
  have HY := Lib.hid hy
  clear hv hx hy
  by_cases hl : xs.length = ys.length
  · have HL := Lib.hid hl
    have hxy : xs.length ≤ ys.length := by omega
    have hyx : ys.length ≤ xs.length := by omega
    clear hl
    go_enter Try.func17, Try.ntmps17
    go_wp2_with fail
    go_loopg [13] xs.length (fun g s13 wr => ∃ i : Nat, i + g = xs.length ∧ s13 = .int .i64 (i : Int) ∧ (∀ j : Nat, j < i → xs[j]? = ys[j]?) ∧ ∃ n, wr = w.drewN n)
    case atStart => exact ⟨0, by omega, rfl, fun j hj => absurd hj (by omega), 0, rfl⟩
    case round =>
      obtain ⟨i, hg, rfl, hE, hW⟩ := hrel
      have HG := Lib.hid hg
      have HE := Lib.hid hE
      have hig : i ≤ xs.length := by omega
      clear hg hE
      by_cases hlt : i < xs.length
      · have hlt2 : i < ys.length := by omega
        obtain ⟨hx1, b1, o1, rfl, _, hc1⟩ := HX.out i xs[i] (List.getElem?_eq_getElem hlt)
        obtain ⟨hy1, b2, o2, rfl, _, hc2⟩ := HY.out i ys[i] (List.getElem?_eq_getElem hlt2)
        have HXI : Hid (xs[i]? = some xs[i]) := List.getElem?_eq_getElem hlt
        have HYI : Hid (ys[i]? = some ys[i]) := List.getElem?_eq_getElem hlt2
        generalize xs[i] = x at *
        generalize ys[i] = y at *
        have hw1 : wr.cell? ⟨b1, o1 + i, none⟩ = some (.int .u32 (x : Int)) := by obtain ⟨n, rfl⟩ := hW; exact hc1
        have hw2 : wr.cell? ⟨b2, o2 + i, none⟩ = some (.int .u32 (y : Int)) := by obtain ⟨n, rfl⟩ := hW; exact hc2
        have HW := Lib.hid hW
        clear hW hc1 hc2
        have hi1 : (i : Int) < (xs.length : Int) := by omega
        have hi2 : (i : Int) < (ys.length : Int) := by omega
        have hi0 : (0 : Int) ≤ (i : Int) := by omega
        by_cases hxy : x = y
        · have hne : ((x : Int) != (y : Int)) = false := by simp [hxy]
          go_wp2_with fail
          go_quiet (fail)
          go_wp2_with fail
          go_light
          go_roundg (xs.length - (i + 1))
          case measure => have := HG.out; omega
          case rel =>
            refine ⟨i + 1, by omega, by go_num, fun j hj => ?_, ?_⟩
            · rcases Nat.lt_or_ge j i with hji | hji
              · exact HE.out j hji
              · obtain rfl : j = i := by omega
                rw [HXI.out, HYI.out, hxy]
            · obtain ⟨n, rfl⟩ := HW.out
              exact ⟨_, World.drewN_drewN ..⟩
        · have hne : ((x : Int) != (y : Int)) = true := by rw [bne_iff_ne]; omega
          go_wp2_with fail
          go_quiet (fail)
          go_wp2_with fail
          go_light
          go_ret
          refine ⟨?_, ?_⟩
          · have : v = false := by
              rw [← HV.out, beq_eq_false_iff_ne]
              intro h
              have h1 := HXI.out
              rw [h, HYI.out] at h1
              exact hxy (Option.some.inj h1).symm
            rw [this]
            rfl
          · obtain ⟨n, rfl⟩ := HW.out
            exact ⟨_, World.drewN_drewN ..⟩
      · go_wp2_with fail
        go_light
        go_ret
        refine ⟨?_, hW⟩
        have : v = true := by
          rw [← HV.out, beq_iff_eq]
          apply List.ext_getElem?
          intro j
          rcases Nat.lt_or_ge j xs.length with hj | hj
          · exact HE.out j (by omega)
          · rw [List.getElem?_eq_none hj, List.getElem?_eq_none (by omega)]
        rw [this]
        rfl
  · have hv : v = false := by
      rw [← HV.out]
      simp only [beq_eq_false_iff_ne, ne_eq]
      intro h
      exact hl (by rw [h])
    have hne : ((xs.length : Int) != (ys.length : Int)) = true := by simp only [bne_iff_ne, ne_eq]; omega
    subst hv
    clear hl
    go_enter Try.func17, Try.ntmps17
    go_wp2_with fail
    go_light
    go_ret
    exact ⟨rfl, 0, rfl⟩
theorem same_len (a a' : Option Addr) (n n' c c' : Nat) (xs ys : List Nat) (v : Bool) (B : Nat) (w : World) (hx : Nats .u32 4294967296 w B a xs) (hy : Nats .u32 4294967296 w B a' ys) (hn : xs.length = n) (hn' : ys.length = n') (hm : n ≤ 9223372036854775807) (hm' : n' ≤ 9223372036854775807) (hv : (xs == ys) = v) :
    Calls Try.prog 17 #[.slice a n c, .slice a' n' c'] w fun e w' => e = .returned (.bool v) ∧ ∃ n, w' = w.drewN n := by
  subst hn; subst hn'
  exact same_any a a' c c' xs ys v B w hx hy hm hm' hv
end Fuse
end Go.Proofs.Ytmcpppgnfmopoaa
