/-
  FuseArgs, walked.
-/
import Derived.Test.YtmcpppgnfmopoaaProg
import Derived.Test.YtmcpppgnfmopoaaMem
import Derived.Test.YtmcpppgnfmopoaaFuseAwake
import Derived.Test.YtmcpppgnfmopoaaFuseSame
import Derived.Test.YtmcpppgnfmopoaaFuseOf
import Derived.Deep.CutRange
import Derived.Deep.CutBlock
import Derived.Deep.DeepCutAuto
import Derived.Deep.LoopGhost
namespace Go.Proofs.Ytmcpppgnfmopoaa
open Go.RowKit

namespace Fuse
def newE (rt : Bool) : Int := if rt = true then 0 else 1
theorem new_e (n : Int) (rt : Bool) (w : World) (hrt : decide (0 ≤ n ∧ n ≤ 4096) = rt) : Calls Try.prog 12 #[.int .i64 n] w fun e w' => ∃ v, e = .returned (.tuple #[v, .int .i64 (newE rt)]) ∧ Below w.heap.size w w' := by
  by_cases h : 0 ≤ n ∧ n ≤ 4096
  · have : rt = true := by rw [← hrt]; exact decide_eq_true h
    subst this
    exact (new_any n w h.1 h.2).mono fun _ _ hh => ⟨_, hh.1, hh.2.2.1⟩
  · have : rt = false := by rw [← hrt]; exact decide_eq_false h
    subst this
    exact (new_bad n w (by omega)).mono fun _ _ hh => ⟨_, hh.1, by rw [← hh.2]; exact Below.refl _ _⟩

theorem make_big (w : World) : (Instr.makeSlice 33 (.int .i64 4097) (.int .i64 4097)).run Try.prog w = .ok (.slice (some ⟨w.heap.size, 0, none⟩) 4097 4097) (w.alloc (.cells (madeCells (#[.int .u32 0]) 4097) 22)) := by
  obtain ⟨i, hi, hz, hsz, hby⟩ := info_row u32_info
  have h := run_make_rowN (P := Try.prog) 33 22 i _ Try.underlying33 hi hz .i64 .i64 4097 4097 (Nat.le_refl _) (by rw [hby]; omega) (by omega) w
  rw [hsz] at h
  exact h

set_option maxHeartbeats 2000000 in
set_option maxRecDepth 100000 in
theorem args_any (n i : Int) (a : Option Addr) (len cap : Nat) (l : List Nat) (v : Int) (w : World) (hl : l.length = len) (hc : len ≤ cap) (hm : cap ≤ maxLen) (hn : a = none → cap = 0) (hz : Nats .u32 4294967296 w w.heap.size a l)
    (hi0 : -9223372036854775808 ≤ i) (hi1 : i ≤ 9223372036854775807) :
    Calls Try.prog 7 #[.int .i64 n, .int .i64 i, .slice a len cap, .int .u32 v] w (TrueBelow w) := by
  obtain ⟨i0, hI0, hz0, hz1, hz2⟩ := info_row u32_info
  have HI := Lib.hid hI0
  have HI1 := Lib.hid hz0
  have HI2 := Lib.hid hz1
  have HI3 := Lib.hid hz2
  unfold maxLen at hm
  have hm' : len ≤ 9223372036854775807 := by omega
  obtain ⟨rt, hrt⟩ : ∃ rt, decide (0 ≤ n ∧ n ≤ 4096) = rt := ⟨_, rfl⟩
  have HRT := Lib.hid hrt
  have HZ := Lib.hid hz
  have HL := Lib.hid hl
  have HN := Lib.hid hn
  have HM := Lib.hid hm
  have HI0 := Lib.hid hi0
  have HI9 := Lib.hid hi1
  clear hi0 hi1
  clear hz hl hm hI0 hz0 hz1 hz2 hrt hn
  go_enter Try.func7, Try.ntmps7
  go_wp2_with fail
  (with_reducible refine (awake_any _).mono ?_); rintro e w0 ⟨rfl, hb0⟩
  go_wp2_with fail
  (with_reducible refine (new_e n rt _ HRT.out).mono ?_); rintro e w1 ⟨pv, rfl, hb1⟩
  have hB1 := below_then hb0 hb1 (Nat.le_refl _)
  have HB1s : Hid (w.heap.size ≤ w1.heap.size) := hB1.size
  go_upto_region 4 with fail
  go_cut [11] (fun v w' => v = .bool rt ∧ w1 = w')
  case first =>
    have HB1 := Lib.hid hB1
    clear hb0 hb1 hB1
    by_cases h0 : 0 ≤ n
    · cases h1 : decide (n ≤ 4096) with
      | true =>
        have : rt = true := by rw [← HRT.out]; exact decide_eq_true ⟨h0, of_decide_eq_true h1⟩
        subst this
        go_wp2
        go_meet
        exact ⟨rfl, rfl⟩
      | false =>
        have : rt = false := by rw [← HRT.out]; exact decide_eq_false (fun h => by have := of_decide_eq_false h1; omega)
        subst this
        go_wp2
        go_meet
        exact ⟨rfl, rfl⟩
    · have : rt = false := by rw [← HRT.out]; exact decide_eq_false (fun h => by omega)
      subst this
      go_wp2
      go_meet
      exact ⟨rfl, rfl⟩
  case rest =>
    obtain ⟨rfl, rfl⟩ := hcut
    have hw1 : w.heap.size ≤ w1.heap.size := hB1.size
    obtain ⟨ls, hls⟩ : ∃ ls, l.take (min len 20) = ls := ⟨_, rfl⟩
    have hZ1 := ((HZ.out.below hB1).frm ((Frm.refl [] w1).alloc (.cells #[] 22)) (by omega) (by simp)).take (min len 20)
    have hll : ls.length = min len 20 := by rw [← hls, List.length_take, HL.out]; omega
    rw [hls] at hZ1
    have HZ1 := Lib.hid hZ1
    have HB1 := Lib.hid hB1
    have HLL := Lib.hid hll
    have HE := Lib.hid (World.ownsRow_lit (base := w1.heap.size) (e := 22) (size := 1) w1 #[] 0 (Nat.le_refl _) (by simp) (by simp))
    clear hZ1 hb0 hb1 hB1 hls hll
    have HC2 := Lib.hid (nats_src HZ1.out)
    have HC3 : Hid (∀ u ∈ (ls.map fun x => Value.int .u32 ((x : Nat) : Int)), u.oneCell' = true) := by intro u hu; obtain ⟨x, _, rfl⟩ := List.mem_map.1 hu; rfl
    go_upto_region 5 with fail
    go_cut [2] (fun v w' => Own32 w' w1.heap.size v ls ∧ Below w.heap.size w w')
    case first =>
      by_cases h20 : len ≤ 20
      · have hmin : min len 20 = len := by omega
        have hmi : min (len : Int) 20 = (len : Int) := by omega
        rw [hmin] at HLL
        clear hmin
        have HC1 : Hid ((ls.map fun x => Value.int .u32 ((x : Nat) : Int)).length = len) := by have h := HLL.out; show _ = _; rw [List.length_map]; exact h
        go_wp2_with (at_builtin; refine wpList_append_src rfl (.tmp 36) (.tmp 41) 33 rfl w1.heap.size 22 i0 (.int .u32 0) 4 Try.underlying33 HI.out HI1.out HI2.out HI3.out rfl _ _ _ rfl HE.out a len cap (ls.map fun x => Value.int .u32 ((x : Nat) : Int)) rfl HC1.out HC2.out HN.out HC3.out (by simp only [maxLen]; omega) (by omega) (by simp) ?_)
        · intro v2 w2 hO2 hg2 hat2
          have hB2 := ((HB1.out.alloc HB1.out.size (.cells #[] 22))).grown hg2 (by simp; omega) (fun k hk => by have := (World.ownsRow.lt HE.out k hk).1; omega)
          have HB2 := Lib.hid hB2
          have HO2 := Lib.hid hO2
          clear hB2 hO2 hg2 hat2
          go_wp2_with fail
          go_meet
          refine ⟨?_, HB2.out⟩
          have h2 := HO2.out
          unfold Own32
          rw [HLL.out]
          simpa using h2
      · have hmin : min len 20 = 20 := by omega
        rw [hmin] at HLL
        clear hmin
        have HC1 : Hid ((ls.map fun x => Value.int .u32 ((x : Nat) : Int)).length = 20) := by have h := HLL.out; show _ = _; rw [List.length_map]; exact h
        go_wp2_with (at_builtin; refine wpList_append_src rfl (.tmp 36) (.tmp 41) 33 rfl w1.heap.size 22 i0 (.int .u32 0) 4 Try.underlying33 HI.out HI1.out HI2.out HI3.out rfl _ _ _ rfl HE.out a 20 cap (ls.map fun x => Value.int .u32 ((x : Nat) : Int)) rfl HC1.out HC2.out HN.out HC3.out (by simp only [maxLen]; omega) (by omega) (by simp) ?_)
        · intro v2 w2 hO2 hg2 hat2
          have hB2 := ((HB1.out.alloc HB1.out.size (.cells #[] 22))).grown hg2 (by simp; omega) (fun k hk => by have := (World.ownsRow.lt HE.out k hk).1; omega)
          have HB2 := Lib.hid hB2
          have HO2 := Lib.hid hO2
          clear hB2 hO2 hg2 hat2
          go_wp2_with fail
          go_meet
          refine ⟨?_, HB2.out⟩
          have h2 := HO2.out
          unfold Own32
          rw [HLL.out]
          simpa using h2
    case rest =>
      obtain ⟨hO, hB⟩ := hcut
      obtain ⟨wA, rfl⟩ : ∃ wo : World, wo = wc := ⟨_, rfl⟩
      have hlw : ∀ (j x : Nat), ls[j]? = some x → x < 4294967296 := fun j x hx => (HZ1.out j x hx).1
      obtain ⟨A, c, rfl, hnc, hcm, hN⟩ := hO.form hlw
      have HLW := Lib.hid hlw
      have HOA := Lib.hid hO
      have HBA := Lib.hid hB
      have HNA := Lib.hid hN
      have hl20 : ls.length ≤ 20 := by have := HLL.out; omega
      have hwA : w.heap.size ≤ wA.heap.size := hB.size
      have hcm' : c ≤ 9223372036854775807 := by have := hcm; unfold maxLen at this; omega
      clear hlw hO hB hN HZ1 HC2 HC3 hcm hw1
      go_wp2_with fail
      (with_reducible refine (of_any A _ c ls _ HNA.out (by rfl) (by omega)).mono ?_); rintro e w3 ⟨p, b, rfl, hf3, hb3, hp3, hB3⟩
      have hO3 := own_frm HOA.out (Below.frm' hB3) (by simp)
      have hBB3 := below_then HBA.out hB3 (Nat.le_refl _)
      have hmk := make_big w3
      go_wp2_with fail
      (with_reducible refine (of_bad _ 4097 4097 _ (by decide) (by decide)).mono ?_); rintro e w4 ⟨rfl, rfl⟩
      clear hmk
      have hsz3 : w3.heap.size < (w3.alloc (.cells (madeCells (#[.int .u32 0]) 4097) 22)).heap.size := by simp
      have hF4 : Frm [] w3 (w3.alloc (.cells (madeCells (#[.int .u32 0]) 4097) 22)) := (Frm.refl [] _).alloc _
      have hf4 := hf3.frm hF4 (by simp) (by simp)
      have hO4 := own_frm hO3 hF4 (by simp)
      have hBB4 := Below.frm hBB3 hF4 (Nat.le_refl _) (by simp)
      have hN4 : Nats .u32 4294967296 (w3.alloc (.cells (madeCells (#[.int .u32 0]) 4097) 22)) wA.heap.size A ls := (HNA.out.below hB3).frm hF4 hB3.size (by simp)
      have hp3' := hf3.ltp
      have hb3' := hf3.ltb
      clear hf3 hO3 hBB3 hF4
      go_upto_region 8 with fail
      generalize hw4 : w3.alloc (.cells (madeCells (#[.int .u32 0]) 4097) 22) = w4 at *
      clear hw4
      have HF4 := Lib.hid hf4
      have HO4 := Lib.hid hO4
      have HBB4 := Lib.hid hBB4
      have HN4 := Lib.hid hN4
      clear hf4 hO4 hBB4 hN4 hB3
      go_cut [79] (fun v w' => v = .bool false ∧ Below w4.heap.size w4 w')
      case first =>
        cases rt with
        | true =>
          simp only [newE, if_true]
          go_wp2_with fail
          (with_reducible refine (words_any _ HF4.out).mono ?_); rintro e w11 ⟨v11, rfl, hO11, hb11⟩
          obtain ⟨A11, c11, rfl, _, hm11, hN11⟩ := hO11.form HLW.out
          have HN11 := Lib.hid hN11
          have HNX : Hid (Nats .u32 4294967296 w11 w11.heap.size A ls) := (HN4.out.below (hb11.mono (by omega))).more (by have := hb11.size; omega)
          clear hN11 hO11 hm11
          go_wp2_with fail
          (with_reducible refine (same_len A11 A _ _ c11 c ls ls true w11.heap.size _ HN11.out HNX.out (by rfl) (by rfl) (by omega) (by omega) (by simp)).mono ?_); rintro e w13 ⟨rfl, nq, rfl⟩
          go_wp2_with fail
          go_meet
          exact ⟨rfl, below_drewN hb11 nq⟩
        | false =>
          simp only [newE, Bool.false_eq_true, if_false]
          go_wp2_with fail
          (with_reducible refine (words_any _ HF4.out).mono ?_); rintro e w11 ⟨v11, rfl, hO11, hb11⟩
          obtain ⟨A11, c11, rfl, _, hm11, hN11⟩ := hO11.form HLW.out
          have HN11 := Lib.hid hN11
          have HNX : Hid (Nats .u32 4294967296 w11 w11.heap.size A ls) := (HN4.out.below (hb11.mono (by omega))).more (by have := hb11.size; omega)
          clear hN11 hO11 hm11
          go_wp2_with fail
          (with_reducible refine (same_len A11 A _ _ c11 c ls ls true w11.heap.size _ HN11.out HNX.out (by rfl) (by rfl) (by omega) (by omega) (by simp)).mono ?_); rintro e w13 ⟨rfl, nq, rfl⟩
          go_wp2_with fail
          go_meet
          exact ⟨rfl, below_drewN hb11 nq⟩
      case rest =>
        obtain ⟨rfl, hB5⟩ := hcut
        obtain ⟨w5, rfl⟩ : ∃ wo : World, wo = wc := ⟨_, rfl⟩
        have hf5 := HF4.out.below hB5 (by omega) (by omega)
        have hO5 := own_frm HO4.out (Below.frm' hB5) (by simp)
        have hBB5 := below_then HBB4.out hB5 (Nat.le_refl _)
        have HF5 := Lib.hid hf5
        have HO5 := Lib.hid hO5
        have HBB5 := Lib.hid hBB5
        have h45 : w4.heap.size ≤ w5.heap.size := hB5.size
        clear hf5 hO5 hBB5 hB5
        go_wp2_with fail
        (with_reducible refine (words_any _ HF5.out).mono ?_); rintro e w6 ⟨v6, rfl, hO6, hB6⟩
        have hf6 := HF5.out.below hB6 (by omega) (by omega)
        have hO56 := own_frm HO5.out (Below.frm' hB6) (by simp)
        have hBB6 := below_then HBB5.out hB6 (Nat.le_refl _)
        obtain ⟨A6, c6, rfl, hc6, hm6, hN6⟩ := hO6.form HLW.out
        have HF6 := Lib.hid hf6
        have HO6 := Lib.hid hO56
        have HBB6 := Lib.hid hBB6
        have HOut := Lib.hid hO6
        have h56 : w5.heap.size ≤ w6.heap.size := hB6.size
        clear hf6 hO56 hBB6 hO6 hB6 hm6 hN6
        go_upto_block 0 with fail
        go_cut [] (fun w' => Below w5.heap.size w6 w')
        case first =>
          go_wp2_with fail
          go_loopg [84] ls.length (fun g s84 wr => ∃ (j : Nat) (ys : List Nat), j + g = ls.length ∧ s84 = .int .i64 (j : Int) ∧ ys.length = ls.length ∧ (∀ (j x : Nat), ys[j]? = some x → x < 4294967296) ∧ Own32 wr w5.heap.size (.slice A6 ls.length c6) ys ∧ Below w5.heap.size w6 wr)
          case atStart => exact ⟨0, ls, by omega, rfl, rfl, HLW.out, HOut.out, Below.refl _ _⟩
          case round =>
            obtain ⟨j, ys, hg, rfl, hyl, hyw, hO, hB⟩ := hrel
            have HG := Lib.hid hg
            have HYL := Lib.hid hyl
            have HYW := Lib.hid hyw
            have HBr := Lib.hid hB
            have hjg : j ≤ ls.length := by omega
            clear hg hyl hyw hB
            by_cases hlt : j < ls.length
            · obtain ⟨x, hx⟩ : ∃ x, ys[j]? = some x := ⟨_, List.getElem?_eq_getElem (by have := HYL.out; omega)⟩
              obtain ⟨gb, rfl, hgb, hgl, hcell, hfrz, hset⟩ := hO.at_ hx
              have hx2 := HYW.out j x hx
              have HX := Lib.hid hx
              have HS := Lib.hid (hset ((x + 1) % 4294967296))
              clear hx hO hset
              go_wp2_with fail
              go_light
              go_roundg (ls.length - (j + 1))
              case measure => have := HG.out; omega
              case rel =>
                refine ⟨j + 1, ys.set j ((x + 1) % 4294967296), by omega, by go_num, by rw [List.length_set]; exact HYL.out, ?_, HS.out, HBr.out.setCell hgb _⟩
                intro k y hy
                rw [List.getElem?_set] at hy
                split at hy
                · split at hy
                  · cases hy; omega
                  · cases hy
                · exact HYW.out k y hy
            · go_wp2_with fail
              go_meet
              exact HBr.out
        case rest =>
          obtain ⟨w7, rfl⟩ : ∃ wo : World, wo = wc := ⟨_, rfl⟩
          have hf7 := HF6.out.below hcut (by omega) (by omega)
          have hO7 : Own32 w7 w1.heap.size (.slice A ls.length c) ls := by
            obtain ⟨_, S, hS, hS2⟩ := HOA.out.nilc
            rcases HO6.out.2 with h | ⟨g, cap, cur, hv, hg, hh, hc, hm, hs, ht⟩
            · exact ⟨HO6.out.1, .inl h⟩
            · have hgS := (hS2 g (hS ⟨g, 0, none⟩ (by simp only [Value.slice.injEq] at hv; exact hv.1))).2
              exact ⟨HO6.out.1, .inr ⟨g, cap, cur, hv, hg, (hcut.block g (by omega)).trans hh, hc, hm, hs, ht⟩⟩
          have hBB7 := HBB6.out.trans (hcut.mono (by omega))
          have h67 : w6.heap.size ≤ w7.heap.size := hcut.size
          obtain ⟨hnilA, SA, hSA, hSA2⟩ := HOA.out.nilc
          obtain ⟨_, _, hvv, _, _, hN7⟩ := hO7.form HLW.out
          simp only [Value.slice.injEq] at hvv
          obtain ⟨rfl, _, rfl⟩ := hvv
          have hC2 := nats_src (hN7.frm ((Frm.refl [] w7).alloc (.cells #[] 22)) (Nat.le_refl _) (by simp))
          have HC2 := Lib.hid hC2
          have HE7 := Lib.hid (World.ownsRow_lit (base := w7.heap.size) (e := 22) (size := 1) w7 #[] 0 (Nat.le_refl _) (by simp) (by simp))
          have HC1 : Hid ((ls.map fun x => Value.int .u32 ((x : Nat) : Int)).length = ls.length) := by show _ = _; rw [List.length_map]
          have HC3 : Hid (∀ u ∈ (ls.map fun x => Value.int .u32 ((x : Nat) : Int)), u.oneCell' = true) := by intro u hu; obtain ⟨x, _, rfl⟩ := List.mem_map.1 hu; rfl
          have HNIL := Lib.hid hnilA
          have HF7 := Lib.hid hf7
          have HO7 := Lib.hid hO7
          have HBB7 := Lib.hid hBB7
          have HSA := Lib.hid hSA
          have HSA2 := Lib.hid hSA2
          clear hf7 hO7 hBB7 hN7 hC2 hcut hnilA hSA hSA2
          go_upto_block 2 with (at_builtin; refine wpList_append_src rfl (.tmp 94) (.tmp 95) 33 rfl w7.heap.size 22 i0 (.int .u32 0) 4 Try.underlying33 HI.out HI1.out HI2.out HI3.out rfl _ _ _ rfl HE7.out _ _ _ (ls.map fun x => Value.int .u32 ((x : Nat) : Int)) rfl HC1.out HC2.out HNIL.out HC3.out (by simp only [maxLen]; omega) (by omega) (by simp) ?_; intro v8 w8 hO8 hg8 _)
          have hW8 : Own32 w8 w7.heap.size v8 ls := by unfold Own32; simpa using hO8
          have hB8 : Below w7.heap.size w7 w8 := ((Below.refl _ w7).alloc (Nat.le_refl _) (.cells #[] 22)).grown hg8 (by simp) (fun k hk => by have := (World.ownsRow.lt HE7.out k hk).1; omega)
          have h78 : w7.heap.size ≤ w8.heap.size := hB8.size
          have hF8 := HF7.out.below hB8 (by omega) (by omega)
          have hO8' := own_frm HO7.out (Below.frm' hB8) (by simp)
          have hBB8 := below_then HBB7.out hB8 (Nat.le_refl _)
          have HW8 := Lib.hid hW8
          have HF8 := Lib.hid hF8
          have HO8 := Lib.hid hO8'
          have HBB8 := Lib.hid hBB8
          clear hO8 hg8 hW8 hB8 hF8 hO8' hBB8
          go_cut [] (fun w' => Frm SA w8 w')
          case first =>
            go_wp2_with fail
            go_loopg [99] ls.length (fun g s99 wr => ∃ (j : Nat) (ys : List Nat), j + g = ls.length ∧ s99 = .int .i64 (j : Int) ∧ ys.length = ls.length ∧ (∀ (j x : Nat), ys[j]? = some x → x < 4294967296) ∧ Own32 wr w1.heap.size (.slice A ls.length c) ys ∧ Frm SA w8 wr)
            case atStart => exact ⟨0, ls, by omega, rfl, rfl, HLW.out, HO8.out, Frm.refl _ _⟩
            case round =>
              obtain ⟨j, ys, hg, rfl, hyl, hyw, hO, hB⟩ := hrel
              have HG := Lib.hid hg
              have HYL := Lib.hid hyl
              have HYW := Lib.hid hyw
              have HBr := Lib.hid hB
              have hjg : j ≤ ls.length := by omega
              clear hg hyl hyw hB
              by_cases hlt : j < ls.length
              · obtain ⟨x, hx⟩ : ∃ x, ys[j]? = some x := ⟨_, List.getElem?_eq_getElem (by have := HYL.out; omega)⟩
                obtain ⟨gb, rfl, hgb, hgl, hcell, hfrz, hset⟩ := hO.at_ hx
                have hx2 := HYW.out j x hx
                have HX := Lib.hid hx
                have HS := Lib.hid (hset ((x + 1) % 4294967296))
                clear hx hO hset
                go_wp2_with fail
                go_light
                go_roundg (ls.length - (j + 1))
                case measure => have := HG.out; omega
                case rel =>
                  refine ⟨j + 1, ys.set j ((x + 1) % 4294967296), by omega, by go_num, by rw [List.length_set]; exact HYL.out, ?_, HS.out, HBr.out.setCell (p := ⟨gb, j, none⟩) (.inl (HSA.out ⟨gb, 0, none⟩ rfl)) _⟩
                  intro k y hy
                  rw [List.getElem?_set] at hy
                  split at hy
                  · split at hy
                    · cases hy; omega
                    · cases hy
                  · exact HYW.out k y hy
              · go_wp2_with fail
                go_meet
                exact HBr.out
          case rest =>
            obtain ⟨w9, rfl⟩ : ∃ wo : World, wo = wc := ⟨_, rfl⟩
            have hf9 := HF8.out.frm hcut (fun h => by have := (HSA2.out _ h).2; omega) (fun h => by have := (HSA2.out _ h).2; omega)
            have hW9 := own_frm HW8.out hcut (fun x hx => by have := (HSA2.out x hx).2; omega)
            have hBB9 := Below.frm HBB8.out hcut (Nat.le_refl _) (fun x hx => by have := (HSA2.out x hx).1; have := HB1s.out; omega)
            obtain ⟨A9, c9, rfl, hc9, hm9, hN9⟩ := Own32.form hW9 HLW.out
            have h89 : w8.heap.size ≤ w9.heap.size := hcut.size
            have HF9 := Lib.hid hf9
            have HBB9 := Lib.hid hBB9
            have HN9 := Lib.hid hN9
            clear hf9 hW9 hBB9 hN9 hcut hm9
            go_wp2_with fail
            (with_reducible refine (read_nil i _).mono ?_); rintro e wx ⟨rfl, rfl⟩
            go_wp2_with fail
            (with_reducible refine (words_any _ HF9.out).mono ?_); rintro e w11 ⟨v11, rfl, hO11, hb11⟩
            obtain ⟨A11, c11, rfl, _, hm11, hN11⟩ := hO11.form HLW.out
            have HN11 := Lib.hid hN11
            have HNX : Hid (Nats .u32 4294967296 w11 w11.heap.size A9 ls) := (HN9.out.below hb11).more hb11.size
            have HBB11 := Lib.hid (below_then HBB9.out hb11 (Nat.le_refl _))
            clear hN11 hO11 hm11 hb11
            go_wp2_with fail
            (with_reducible refine (same_len A11 A9 _ _ c11 c9 ls ls true w11.heap.size _ HN11.out HNX.out (by rfl) (by rfl) (by omega) (by omega) (by simp)).mono ?_); rintro e w13 ⟨rfl, nq, rfl⟩
            have HBB12 := Lib.hid (below_drewN HBB11.out nq)
            generalize w11.drewN nq = w12 at *
            go_wp2_with (first
              | (go_at_call 15; (with_reducible refine (program_nil _ _ _).mono ?_); rintro e wx ⟨rfl, rfl⟩)
              | (go_at_call 13; (with_reducible refine (cut_nil _ _ _ _).mono ?_); rintro e wx ⟨rfl, rfl⟩)
              | (go_at_call 25; (with_reducible refine (lock_nil _ _).mono ?_); rintro e wx ⟨rfl, rfl⟩)
              | (go_at_call 16; (with_reducible refine (set_nil _ _ _ _).mono ?_); rintro e wx ⟨rfl, rfl⟩)
              | (go_at_call 21; (with_reducible refine (locked_nil _ _).mono ?_); rintro e wx ⟨rfl, rfl⟩)
              | (go_at_call 23; (with_reducible refine (len_nil _).mono ?_); rintro e wx ⟨rfl, rfl⟩)
              | (go_at_call 18; (with_reducible refine (words_nil _).mono ?_); rintro e wx ⟨rfl, rfl⟩)
              | (go_at_call 22; (with_reducible refine (copy_nil _).mono ?_); rintro e wx ⟨rfl, rfl⟩))
            go_light
            go_ret
            exact ⟨rfl, HBB12.out.alloc (by have := HBB12.out.size; omega) _⟩
end Fuse
end Go.Proofs.Ytmcpppgnfmopoaa
