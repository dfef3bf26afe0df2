/-
  The walk of OtpCounts.
-/
import Derived.Test.YtmcpppgnfmopoaaDoorProg
import Derived.Test.YtmcpppgnfmopoaaDoorMem
import Derived.Test.YtmcpppgnfmopoaaDoorOtpLaw
import Derived.Deep.LoopGhost
import Derived.Deep.CutRange
import Derived.Deep.CutBlock
import Derived.Deep.DeepCutAuto
namespace Go.Proofs.YtmcpppgnfmopoaaDoor
open Go.RowKit

namespace Otp
open Fuse
theorem cv_tc (a : Nat) (s : Int) (k : Nat) (hs : s = k) (ha : a ≤ 255) (hk : k ≤ 255) : tcE (cv a) s = if k < a then 15 else 0 := by
  have := cv_counter ⟨a, by omega⟩
  simp only at this
  subst hs
  simp only [tcE, this]
  rw [if_neg (by omega)]
  simp only [Int.ofNat_lt]
theorem cv_tl (a k : Nat) (ha : a ≤ 255) (hk : k ≤ 255) : tcL (cv a) (k : Int) = if k < a then [] else planOf (cv a) 1 (lw k) := by
  rw [tcL, cv_tc a k k rfl ha hk]
  split <;> simp

theorem cv_facts (a k : Nat) (_ : a ≤ 255) (_ : k ≤ 255) :
    ((k < a ∧ (if k < a then (15 : Int) else 0) = 15 ∧ (if k < a then [] else planOf (cv a) 1 (lw k)).length = 0) ∨ (a ≤ k ∧ (if k < a then (15 : Int) else 0) = 0)) ∧
    doL (cv a) (if k < a then [] else planOf (cv a) 1 (lw k)) = (0, cv (max a k)) ∧ ∀ y ∈ (if k < a then [] else planOf (cv a) 1 (lw k)), y.2 < 4294967296 ∧ y.1 < 64 := by
  by_cases h : k < a
  · simp only [h, if_true]
    exact ⟨.inl ⟨trivial, trivial, rfl⟩, by rw [Nat.max_eq_left (by omega)]; rfl, fun y hy => by simp at hy⟩
  · simp only [h, if_false]
    refine ⟨.inr ⟨by omega, trivial⟩, by rw [Nat.max_eq_right (by omega)]; exact cv_do (by omega), fun y hy => ?_⟩
    have := planOf_mem (cv_word a) (lw k) 1 (fun x hx => by obtain ⟨j, hj⟩ := List.mem_iff_getElem?.1 hx; exact lw_word k j x hj) y hy
    rw [lw_length] at this
    exact ⟨this.1, by omega⟩

set_option maxHeartbeats 4000000 in
set_option maxRecDepth 100000 in
theorem counts_any (A : Option Addr) (len cap : Nat) (l : List Nat) (w : World) (hT : Tab w) (hl : l.length = len) (hm : len ≤ maxLen) (hz : Nats .u8 256 w w.heap.size A l) :
    Calls Tryd.prog 3 #[.slice A len cap] w (TrueBelow w) := by
  have HT := Lib.hid hT
  have HN := Lib.hid hz
  subst hl
  simp only [maxLen] at hm
  clear hT hz
  go_enter Tryd.func3, Tryd.ntmps3
  go_wp2_with fail
  (with_reducible refine (awake_any _ HT.out).mono ?_); rintro e w1 ⟨rfl, hB⟩
  have HT1 := Lib.hid (HT.out.old hB)
  have HB := Lib.hid hB
  clear hB
  go_wp2_with fail
  (with_reducible refine (new_chip _).mono ?_); rintro e w2 ⟨c, p, b, rfl, hC, hc, hp, hb, hB⟩
  rw [cv0] at hC
  have HC := Lib.hid hC
  have hwc : w.heap.size ≤ w1.heap.size := HB.out.size
  have HB2 := Lib.hid (below_then HB.out hB (Nat.le_refl _))
  have HT2 := Lib.hid (HT1.out.old hB)
  clear hC hB
  go_wp2_with fail
  go_loopg [4, 18] l.length (fun g s4 s18 wr => ∃ i : Nat, i + g = l.length ∧ s18 = .int .i64 (i : Int) ∧ ∃ a : Nat, a ≤ 255 ∧ s4 = .int .i64 (a : Int) ∧ Cz wr c p b (cv a) f64 false ∧ Tab wr ∧ Below w.heap.size w wr)
  case atStart => exact ⟨0, by omega, rfl, 0, by omega, rfl, HC.out, HT2.out, HB2.out⟩
  case round =>
    obtain ⟨i, hg, rfl, a, ha, rfl, hC, hT, hB⟩ := hrel
    have HG := Lib.hid hg
    have hig : i ≤ l.length := by omega
    have HC := Lib.hid hC
    have HT := Lib.hid hT
    have HB := Lib.hid hB
    clear hg hC hT hB
    by_cases hlt : i < l.length
    · by_cases h20 : 20 ≤ i
      · obtain ⟨x, hx⟩ : ∃ x, l[i]? = some x := ⟨_, List.getElem?_eq_getElem hlt⟩
        obtain ⟨hxM, g0, off, rfl, hg0, hcx⟩ := (HN.out.below HB.out) i x hx
        clear hx
        go_wp2_with fail
        go_light
        go_ret
        exact ⟨rfl, HB.out⟩
      · obtain ⟨x, hx⟩ : ∃ x, l[i]? = some x := ⟨_, List.getElem?_eq_getElem hlt⟩
        obtain ⟨hxM, g0, off, rfl, hg0, hcx⟩ := (HN.out.below HB.out) i x hx
        clear hx
        have HTC := Lib.hid (cv_tc a (x : Int) x rfl ha (by omega))
        have HTL := Lib.hid (cv_tl a x ha (by omega))
        go_wp2_with fail
        (with_reducible refine (tocounter_any _ _ HC.out HT.out).mono ?_); rintro e w3 ⟨v, rfl, hO, hB⟩
        obtain ⟨A3, cp3, rfl, hl3, hm3, -⟩ := hO.at_
        simp only [maxLen] at hm3
        have hbw := HC.out.fz.ltb
        have HC3 := Lib.hid (HC.out.old hB)
        have HT3 := Lib.hid (HT.out.old hB)
        have HB3 := Lib.hid (below_then HB.out hB (Nat.le_refl _))
        have hwr : w.heap.size ≤ wr.heap.size := HB.out.size
        have hw3 : wr.heap.size ≤ w3.heap.size := hB.size
        obtain ⟨hcase, hd, hmem⟩ := cv_facts a x ha (by omega)
        rw [← HTC.out, ← HTL.out] at hcase
        rw [← HTL.out] at hd hmem
        generalize tcL (cv a) (x : Int) = lst at *
        generalize tcE (cv a) (x : Int) = er at *
        have HCS := Lib.hid hcase
        have HD := Lib.hid hd
        have HM := Lib.hid hmem
        have HO := Lib.hid hO
        clear hcase hd hmem hO hB HTC HTL
        go_upto_region 10 with fail
        go_cut [51] (fun v w' => v = .bool false ∧ w' = w3)
        case first =>
          rcases HCS.out with ⟨h1, rfl, h3⟩ | ⟨h1, rfl⟩
          · have h1' : ¬ ((a : Int) ≤ (x : Int)) := by omega
            have h3' : (((lst.length : Nat) : Int) != 0) = false := by rw [h3]; rfl
            clear h3
            go_wp2_with fail
            go_meet
            exact ⟨rfl, rfl⟩
          · have h1' : (a : Int) ≤ (x : Int) := by omega
            go_wp2_with fail
            go_meet
            exact ⟨rfl, rfl⟩
        case rest =>
          obtain ⟨rfl, rfl⟩ := hcut
          go_wp2_with fail
          (with_reducible refine (do_to _ wr.heap.size lst _ 0 (cv (max a x)) HC3.out HO.out hbw (fun y hy => (HM.out y hy).1) (fun y hy => (HM.out y hy).2) HD.out).mono ?_); rintro e w4 ⟨rfl, hC, hF⟩
          have HT4 := Lib.hid (HT3.out.frm hF (by have := HT1.out.lt; simp; omega))
          have HB4 := Lib.hid (Below.frm HB3.out hF (by omega) (by simp; omega))
          have HC4 := Lib.hid hC
          have hcc := hC.cell.1
          clear hC hF
          go_upto_region 14 with fail
          go_cut [4] (fun v w' => v = .int .i64 ((max a x : Nat) : Int) ∧ w' = w4)
          case first =>
            go_wp2_with fail
            all_goals go_meet
            all_goals exact ⟨by congr 1; omega, rfl⟩
          case rest =>
            obtain ⟨rfl, rfl⟩ := hcut
            have hmx : max a x ≤ 255 := by omega
            generalize max a x = n at *
            go_wp2_with fail
            (with_reducible refine (words_any _ HC4.out.fz).mono ?_); rintro e w5 ⟨v, rfl, hO, hB⟩
            obtain ⟨A5, cp5, rfl, hc5, hm5, -⟩ := hO.form HC4.out.fz.word
            obtain ⟨g5, rfl, hg5, hg6, -⟩ := hO.at_ (List.getElem?_eq_getElem (show 0 < (cv n).length by rw [cv_length]; omega))
            have hC : ∀ (i x : Nat), (cv n)[i]? = some x → w5.cell? ⟨g5, i, none⟩ = some (.int .u32 (x : Int)) := fun i x hx => by
              obtain ⟨g', hg', _, _, hc, _⟩ := hO.at_ hx
              cases hg'
              exact hc
            have HCE := Lib.hid hC
            have HC5 := Lib.hid (HC4.out.old hB)
            have HT5 := Lib.hid (HT4.out.old hB)
            have HB5 := Lib.hid (below_then HB4.out hB (Nat.le_refl _))
            rw [cv_length] at hc5 ⊢
            clear hO hB hC
            obtain ⟨gO, rfl⟩ : ∃ gO : Nat, gO = gk := ⟨_, rfl⟩
            obtain ⟨wO, rfl⟩ : ∃ wO : World, wO = wr := ⟨_, rfl⟩
            have hlen8 : (cwords (cv n)).length = 8 := by simp [cwords, cv_length]
            go_wp2_with fail
            go_loopg [9, 67] 8 (fun g s9 s67 wz => ∃ j : Nat, j + g = 8 ∧ s67 = .int .i64 (j : Int) ∧ s9 = .int .i64 ((bitsum ((cwords (cv n)).take j) : Nat) : Int) ∧ wz = w5)
            case atStart => exact ⟨0, by omega, rfl, rfl, rfl⟩
            case round =>
              obtain ⟨j, hgj, rfl, rfl, rfl⟩ := hrel
              have HGJ := Lib.hid hgj
              have hj8 : j ≤ 8 := by omega
              clear hgj
              have hbl := bitsum_le ((cwords (cv n)).take j)
              rw [List.length_take, hlen8] at hbl
              by_cases hlt2 : j < 8
              · obtain ⟨y, hy⟩ : ∃ y, (cwords (cv n))[j]? = some y := ⟨_, List.getElem?_eq_getElem (by omega)⟩
                have hy' : (cv n)[1 + j]? = some y := by
                  rw [cwords, List.getElem?_take, if_pos hlt2, List.getElem?_drop] at hy
                  exact hy
                have hcy := HCE.out _ _ hy'
                have hyM := cv_word n _ _ hy'
                have HSN := Lib.hid (bitsum_snoc ((cwords (cv n)).take j) y)
                rw [← take_snoc hy] at HSN
                clear hy hy'
                generalize bitsum ((cwords (cv n)).take j) = s at *
                obtain ⟨gP, rfl⟩ : ∃ gP : Nat, gP = gk := ⟨_, rfl⟩
                obtain ⟨wP, rfl⟩ : ∃ wP : World, wP = wr := ⟨_, rfl⟩
                go_wp2_with fail
                go_loopg [9, 71] 32 (fun g s9 s71 wz => ∃ m : Nat, m + g = 32 ∧ s71 = .int .i64 (m : Int) ∧ s9 = .int .i64 ((s + pops y m : Nat) : Int) ∧ wz = wP)
                case atStart => exact ⟨0, by omega, rfl, by simp [pops], rfl⟩
                case round =>
                  obtain ⟨m, hgm, rfl, rfl, rfl⟩ := hrel
                  have HGM := Lib.hid hgm
                  have hm8 : m ≤ 32 := by omega
                  clear hgm
                  have hpl := pops_le y m
                  by_cases hlt3 : m < 32
                  · have HPS := Lib.hid (pops_succ y m)
                    have hb1 := bit_int0 y m
                    have hb2 : y / 2 ^ m % 2 < 2 := Nat.mod_lt _ (by decide)
                    generalize y / 2 ^ m % 2 = bt at *
                    generalize pops y m = pm at *
                    go_wp2_with fail
                    go_light
                    go_roundg (32 - (m + 1))
                    case measure => have := HGM.out; omega
                    case rel => exact ⟨m + 1, by omega, by go_num, by rw [HPS.out]; go_num, rfl⟩
                  · have : m = 32 := by omega
                    subst this
                    rw [← HSN.out]
                    go_wp2_with fail
                    go_light
                    go_roundg (8 - (j + 1))
                    case measure => have := HGJ.out; omega
                    case rel => exact ⟨j + 1, by omega, by go_num, rfl, rfl⟩
              · have : j = 8 := by omega
                subst this
                have hn : bitsum ((cwords (cv n)).take 8) = n := by
                  rw [List.take_of_length_le (by omega)]
                  exact cv_bits ⟨n, by omega⟩
                rw [hn]
                go_wp2_with fail
                (with_reducible refine (counter_to n _ HC5.out HT5.out (cv_counter ⟨n, by omega⟩)).mono ?_); rintro e w6 ⟨rfl, hB⟩
                have HC6 := Lib.hid (HC5.out.old hB)
                have HT6 := Lib.hid (HT5.out.old hB)
                have HB6 := Lib.hid (below_then HB5.out hB (Nat.le_refl _))
                clear hB
                go_wp2_with fail
                go_light
                go_roundg (l.length - (i + 1))
                case measure => have := HG.out; omega
                case rel => exact ⟨i + 1, by omega, by go_num, n, hmx, rfl, HC6.out, HT6.out, HB6.out⟩
    · go_wp2_with fail
      go_light
      go_ret
      exact ⟨rfl, HB.out⟩
end Otp
end Go.Proofs.YtmcpppgnfmopoaaDoor
