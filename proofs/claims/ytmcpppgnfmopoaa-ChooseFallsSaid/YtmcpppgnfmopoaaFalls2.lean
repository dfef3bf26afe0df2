import Derived.Test.YtmcpppgnfmopoaaProg
import Derived.Test.YtmcpppgnfmopoaaMem
import Derived.Test.YtmcpppgnfmopoaaFalls1
import Derived.Deep.CutRange
import Derived.Deep.DeepCutAuto
import Derived.Deep.LoopGhost
namespace Go.Proofs.Ytmcpppgnfmopoaa
open Go.RowKit

namespace Choose
def pick2 (i a b : Int) : Int := if i = 0 then a else b
theorem valB_pick (i a b : Int) (h0 : 0 ≤ i) (h1 : i ≤ 1) : valB i a b = (pick2 i a b == 0) := by
  have h : i = 0 ∨ i = 1 := by omega
  rcases h with rfl | rfl <;> simp [valB, pick2]
theorem pick_cell (i a b : Int) (h0 : 0 ≤ i) (h1 : i ≤ 1) : (#[Value.int .i64 a, .int .i64 b])[i.toNat]? = some (.int .i64 (pick2 i a b)) := by
  have h : i = 0 ∨ i = 1 := by omega
  rcases h with rfl | rfl <;> simp [pick2]
theorem valB_range (i a b : Int) (h : valB i a b = true) : 0 ≤ i ∧ i ≤ 1 := by
  simp [valB] at h
  omega
theorem valB_some (i a b : Int) (h : valB i a b = true) : (a == 0 || b == 0) = true := by
  simp [valB] at h ⊢
  omega

/-- What stands behind i boots. -/
def Inv (ac t n a b : Int) (i : Nat) (a' t' n' : Int) : Prop :=
  (t' = t ∧ n' = n + i ∧ a' = ac ∧ (i = 0 ∨ valB t a b = true)) ∨ (t' = -1 ∧ n' = 0 ∧ (a' = ac ∨ valB ac a b = false ∧ a' = 1 - ac))

/-- One call's outcome, in three ways. -/
inductive Way (q ac t n a b : Int) (i : Nat) (a' t' n' : Int) : Prop
  | tried (h : valB t a b = true) (hi : i < 3) (hs : sel q a' t' n' a b = ch t q ac t (n + ((i : Int) + 1)) (chg q a' t' (n' + 1) q a' t' n') true 0) (hn : Inv ac t n a b (i + 1) ac t (n + ((i : Int) + 1)))
  | runs (s : Int) (c : Bool) (h : valB s a b = true) (hs : sel q a' t' n' a b = ch s q s (-1) 0 c false 0) (hn : Inv ac t n a b (i + 1) s (-1) 0) (hac : valB ac a b = true → s = ac)
  | none_ (c : Bool) (h : (a == 0 || b == 0) = false) (hs : sel q a' t' n' a b = ch (-1) q a' (-1) 0 c false 3) (hn : Inv ac t n a b (i + 1) a' (-1) 0) (hac : valB ac a b = false)

theorem way_of (q ac t n a b : Int) (i : Nat) (a' t' n' : Int) (hr : rightB ac t n = true) (hI : Inv ac t n a b i a' t' n') : Way q ac t n a b i a' t' n' := by
  have hr' : 0 ≤ ac ∧ ac ≤ 1 ∧ 0 ≤ n ∧ n ≤ 3 ∧ (t = -1 ∧ n = 0 ∨ t = 0 ∨ t = 1) := of_decide_eq_true hr
  obtain ⟨h0, h1, hn0, hn3, ht⟩ := hr'
  have hm1 : valB (-1) a b = false := by simp [valB]
  have hsw : valB a' a b = false → valB (1 - a') a b = true → valB ac a b = false → (1 - a' = ac → False) := by
    intro _ h2 h3 h4; rw [h4] at h2; rw [h2] at h3; cases h3
  have ha' : a' = ac ∨ a' = 1 - ac := by rcases hI with ⟨_, _, h, _⟩ | ⟨_, _, h | ⟨_, h⟩⟩ <;> simp [h]
  have ha01 : a' = 0 ∨ a' = 1 := by omega
  by_cases hA : valB t' a b = true ∧ n' < 3
  · rcases hI with ⟨rfl, rfl, rfl, hv⟩ | ⟨rfl, _, _⟩
    · refine .tried hA.1 (by omega) ?_ (.inl ⟨rfl, by omega, rfl, .inr hA.1⟩)
      unfold sel; rw [if_pos hA]; congr 1; omega
    · rw [hm1] at hA; exact absurd hA.1 (by decide)
  · cases hB : valB a' a b with
    | true =>
      refine .runs a' _ hB (by unfold sel; rw [if_neg hA, if_pos hB]) (.inr ⟨rfl, rfl, ?_⟩) ?_
      · rcases hI with ⟨_, _, h, _⟩ | ⟨_, _, h⟩
        · exact .inl h
        · exact h
      · intro hac
        rcases hI with ⟨_, _, h, _⟩ | ⟨_, _, h | ⟨h, _⟩⟩
        · exact h
        · exact h
        · rw [hac] at h; cases h
    | false =>
      have hacf : a' = ac → valB ac a b = false := fun h => by rw [← h]; exact hB
      cases hC : valB (1 - a') a b with
      | true =>
        have hacF : valB ac a b = false := by
          rcases hI with ⟨_, _, h, _⟩ | ⟨_, _, h | ⟨h, _⟩⟩
          · exact hacf h
          · exact hacf h
          · exact h
        have hne : a' = ac := by
          rcases ha' with h | h
          · exact h
          · rw [h] at hC; rw [show 1 - (1 - ac) = ac from by omega, hacF] at hC; cases hC
        refine .runs (1 - a') _ hC (by unfold sel; rw [if_neg hA, if_neg (by rw [hB]; decide), if_pos hC]) (.inr ⟨rfl, rfl, .inr ⟨hacF, by rw [hne]⟩⟩) ?_
        intro h; rw [h] at hacF; cases hacF
      | false =>
        have hno : (a == 0 || b == 0) = false := by
          rcases ha01 with h | h <;> subst h <;> simp [valB] at hB hC <;> simp [hB, hC]
        have hacF : valB ac a b = false := by
          rcases ha' with h | h
          · exact hacf h
          · rw [h, show 1 - (1 - ac) = ac from by omega] at hC; exact hC
        refine .none_ _ hno (by unfold sel; rw [if_neg hA, if_neg (by rw [hB]; decide), if_neg (by rw [hC]; decide)]) (.inr ⟨rfl, rfl, ?_⟩) hacF
        rcases ha' with h | h
        · exact .inl h
        · exact .inr ⟨hacF, h⟩

set_option maxHeartbeats 400000 in
theorem ref22_any (q a t n : Int) (w : World) (v : Bool) (hv : rightB a t n = v) : Calls Try.prog 9 #[.agg #[.int .u32 q, .int .i64 a, .int .i64 t, .int .i64 n]] w fun e w' => e = .returned (.bool v) ∧ Below w.heap.size w w' := by
  have hV := Lib.hid hv
  clear hv
  go_enter Try.func9, Try.ntmps9
  go_wp2_with (go_at_call 27; (with_reducible refine (right_any _ _ _ _ _).mono ?_); rintro e w1 ⟨rfl, hb1⟩)
  go_light
  go_ret
  exact ⟨by rw [hV.out]; rfl, below_then (Below.alloc (Below.refl _ _) (Nat.le_refl _) _) hb1 (by simp)⟩

theorem inv_bounds (ac t n a b : Int) (i : Nat) (a' t' n' : Int) (hr : rightB ac t n = true) (hI : Inv ac t n a b i a' t' n') : 0 ≤ a' ∧ a' ≤ 1 ∧ 0 ≤ n' ∧ -1 ≤ t' ∧ t' ≤ 1 := by
  have hr' : 0 ≤ ac ∧ ac ≤ 1 ∧ 0 ≤ n ∧ n ≤ 3 ∧ (t = -1 ∧ n = 0 ∨ t = 0 ∨ t = 1) := of_decide_eq_true hr
  rcases hI with ⟨h1, h2, h3, _⟩ | ⟨h1, h2, h3 | ⟨_, h3⟩⟩ <;> omega
theorem sel_val (v : Value) (q ac t n a b : Int) (w : World) (hac : 0 ≤ ac) (hac1 : ac ≤ 1) (hn : 0 ≤ n) (hs : sel q ac t n a b = v) :
    Calls Try.prog 10 #[.int .i64 2, .agg #[.int .u32 q, .int .i64 ac, .int .i64 t, .int .i64 n], .agg #[.int .i64 a, .int .i64 b]] w fun e w' => e = .returned v ∧ Below w.heap.size w w' := by
  subst hs
  exact sel_any q ac t n a b w hac hac1 hn

set_option maxHeartbeats 2000000 in
theorem falls_any (q ac t n a b k : Int) (w : World) (hk0 : 0 ≤ k) (hk1 : k < 256) : Calls Try.prog 3 #[.agg #[.int .u32 q, .int .i64 ac, .int .i64 t, .int .i64 n], .int .i64 a, .int .i64 b, .int .u8 k] w (TrueBelow w) := by
  cases hr : rightB ac t n with
  | false =>
    have hR := Lib.hid hr
    clear hr
    go_enter Try.func3, Try.ntmps3
    go_wp2_with fail
    (with_reducible refine (awake_any _).mono ?_); rintro e w1 ⟨rfl, hb1⟩
    obtain ⟨hc1, hf1⟩ := oldCells hb1
    go_wp2_with fail
    (with_reducible refine (ref22_any _ _ _ _ _ _ hR.out).mono ?_); rintro e w2 ⟨rfl, hb2⟩
    go_wp2_with fail
    go_light
    go_ret
    exact ⟨rfl, below_then (below_then (Below.alloc (Below.refl _ _) (Nat.le_refl _) _) hb1 (by simp)) hb2 (by have := hb1.size; simp at this; omega)⟩
  | true =>
    have hR := Lib.hid hr
    clear hr
    go_enter Try.func3, Try.ntmps3
    go_wp2_with fail
    (with_reducible refine (awake_any _).mono ?_); rintro e w1 ⟨rfl, hb1⟩
    obtain ⟨hc1, hf1⟩ := oldCells hb1
    go_wp2_with fail
    (with_reducible refine (ref22_any _ _ _ _ _ _ hR.out).mono ?_); rintro e w2 ⟨rfl, hb2⟩
    have hS2 : Blk w2 w.heap.size 24 #[.int .u32 q, .int .i64 ac, .int .i64 t, .int .i64 n] := ((Blk.new w _ _).below hb1 (by simp)).below hb2 (by have := hb1.size; simp at this; omega)
    have hB2 : Below w.heap.size w w2 := below_then (below_then (Below.alloc (Below.refl _ _) (Nat.le_refl _) _) hb1 (by simp)) hb2 (by have := hb1.size; simp at this; omega)
    clear hc1 hf1 hb1 hb2
    obtain ⟨sm, hsm⟩ : ∃ sm, (a == 0 || b == 0) = sm := ⟨_, rfl⟩
    have HSM := Lib.hid hsm
    clear hsm
    go_upto_region 6 with fail
    go_cut [10] from 23 to 28 (fun v w' => v = .bool sm ∧ w2.alloc (.cells #[.int .i64 a, .int .i64 b] 28) = w')
    case first =>
      cases ha : (a == 0) with
      | true =>
        go_wp2
        go_meet
        exact ⟨by rw [← HSM.out, ha]; rfl, rfl⟩
      | false =>
        go_wp2
        go_meet
        exact ⟨by rw [← HSM.out, ha]; rfl, rfl⟩
    case rest =>
      obtain ⟨rfl, rfl⟩ := hcut
      have hk := (hS2.alloc (.cells #[.int .i64 a, .int .i64 b] 28)).cell
      go_wp2_with fail
      have hBl : Blk ((w2.alloc (.cells #[.int .i64 a, .int .i64 b] 28)).alloc (.cells #[.int .u32 q, .int .i64 ac, .int .i64 t, .int .i64 n] 24)) w2.heap.size 28 #[.int .i64 a, .int .i64 b] := (Blk.new w2 _ _).alloc _
      have hBn : Blk ((w2.alloc (.cells #[.int .i64 a, .int .i64 b] 28)).alloc (.cells #[.int .u32 q, .int .i64 ac, .int .i64 t, .int .i64 n] 24)) (w2.heap.size + 1) 24 #[.int .u32 q, .int .i64 ac, .int .i64 t, .int .i64 n] := by
        have := Blk.new (w2.alloc (.cells #[.int .i64 a, .int .i64 b] 28)) 24 #[.int .u32 q, .int .i64 ac, .int .i64 t, .int .i64 n]
        simpa using this
      have hBs := (hS2.alloc (.cells #[.int .i64 a, .int .i64 b] 28)).alloc (.cells #[.int .u32 q, .int .i64 ac, .int .i64 t, .int .i64 n] 24)
      have hBB : Below w.heap.size w ((w2.alloc (.cells #[.int .i64 a, .int .i64 b] 28)).alloc (.cells #[.int .u32 q, .int .i64 ac, .int .i64 t, .int .i64 n] 24)) := (hB2.alloc hB2.size _).alloc (by have := hB2.size; simp; omega) _
      clear hk hS2
      have hR' := hR.out
      have hI0 : Inv ac t n a b 0 ac t n := .inl ⟨rfl, by simp, rfl, .inl rfl⟩
      generalize hL : w2.heap.size = L at *
      have hwL : w.heap.size < L := by have := hBs.lt; have := hB2.size; rcases Nat.lt_or_ge w.heap.size L with h | h; exact h; exfalso; have e := (hBs.eq (by rw [show w.heap.size = L from by omega]; exact hBl)).1; cases e
      clear hL
      go_loopg [12] (3 + k % 5).toNat (fun g i12 wr => ∃ (i : Nat) (a' t' n' : Int), i12 = .int .i64 i ∧ i + g = (3 + k % 5).toNat ∧ Inv ac t n a b i a' t' n' ∧ Blk wr w.heap.size 24 #[.int .u32 q, .int .i64 ac, .int .i64 t, .int .i64 n] ∧ Blk wr L 28 #[.int .i64 a, .int .i64 b] ∧ Blk wr (L + 1) 24 #[.int .u32 q, .int .i64 a', .int .i64 t', .int .i64 n'] ∧ Below w.heap.size w wr)
      case atStart => exact ⟨0, ac, t, n, rfl, by omega, hI0, hBs, hBl, hBn, hBB⟩
      case round =>
        obtain ⟨i, a', t', n', rfl, hig, hI, hB1, hB2', hB3, hBw⟩ := hrel
        clear hBs hBl hBn hBB hI0
        have hk := hB1.cell
        have hk2 := hB2'.cell
        have hk3 := hB3.cell
        have hW := way_of q ac t n a b i a' t' n' hR' hI
        obtain ⟨ha0, ha1, hn0, ht0, ht1⟩ := inv_bounds ac t n a b i a' t' n' hR' hI
        have hII := Lib.hid hI
        clear hI
        by_cases hlt : (i : Int) < 3 + k % 5
        · rcases hW with ⟨hv, hi3, hs, hn⟩ | ⟨s, c, hv, hs, hn, hac⟩ | ⟨c, hno, hs, hn, hac⟩
          · have hv2 := valB_range _ _ _ hv
            have hp : pick2 t a b = 0 := by have := valB_pick t a b hv2.1 hv2.2; rw [hv] at this; simpa using this.symm
            have hsm : sm = true := by rw [← HSM.out]; exact valB_some _ _ _ hv
            subst hsm
            have HN := Lib.hid hn
            have hs' : sel q a' t' n' a b = .agg #[.int .i64 t, .int .u32 q, .int .i64 ac, .int .i64 t, .int .i64 (n + ((i : Int) + 1)), .bool (chg q a' t' (n' + 1) q a' t' n'), .bool true, .int .i64 0] := hs
            have HS := Lib.hid hs'
            clear hn hs hs'
            go_wp2_with fail
            (with_reducible refine (sel_val (.agg #[.int .i64 t, .int .u32 q, .int .i64 ac, .int .i64 t, .int .i64 (n + ((i : Int) + 1)), .bool (chg q a' t' (n' + 1) q a' t' n'), .bool true, .int .i64 0]) q a' t' n' a b _ ha0 ha1 hn0 HS.out).mono ?_)
            rintro e w3 ⟨rfl, hb3⟩
            have hl1 := Nat.lt_of_lt_of_le hB1.lt hb3.size
            have hl2 := Nat.lt_of_lt_of_le hB2'.lt hb3.size
            have hl3 := Nat.lt_of_lt_of_le hB3.lt hb3.size
            have hk' := (hB1.below hb3 hB1.lt).cell
            have hk3' := (hB3.below hb3 hB3.lt).cell
            have hfr := (hB3.below hb3 hB3.lt).frozen
            have hct' := ((hB2'.below hb3 hB2'.lt).cell t.toNat).trans (pick_cell t a b hv2.1 hv2.2)
            rw [hp] at hct'
            clear hp
            clear hk hk2 hk3
            go_wp2_with fail
            go_light
            go_roundg (gk - 1)
            case measure => omega
            case rel =>
              refine ⟨i + 1, ac, t, (n + ((i : Int) + 1)), by go_num, by omega, HN.out, ?_, ?_, ?_, ?_⟩
              · (repeat' (first | (with_reducible refine Blk.alloc ?_ _) | (with_reducible refine Blk.drew ?_) | (with_reducible refine Blk.drewN ?_ _) | (with_reducible refine Blk.far' ?_ _ _ ?_ _) | omega))
                exact hB1.below hb3 hB1.lt
              · (repeat' (first | (with_reducible refine Blk.alloc ?_ _) | (with_reducible refine Blk.drew ?_) | (with_reducible refine Blk.drewN ?_ _) | (with_reducible refine Blk.far' ?_ _ _ ?_ _) | omega))
                exact hB2'.below hb3 hB2'.lt
              · have h4 := (((((hB3.below hb3 hB3.lt).set 0 (.int .u32 q)).set 1 (.int .i64 (ac))).set 2 (.int .i64 (t))).set 3 (.int .i64 (n + ((i : Int) + 1))))
                refine Blk.alloc ?_ _
                simpa using h4
              · have h5 := below_then hBw hb3 (Nat.le_refl _)
                have h6 := h5.size
                refine Below.alloc ?_ (by simp; omega) _
                exact (((h5.setCell (by simp; omega) _).setCell (by simp; omega) _).setCell (by simp; omega) _).setCell (by simp; omega) _
          · have hv2 := valB_range _ _ _ hv
            have hp : pick2 s a b = 0 := by have := valB_pick s a b hv2.1 hv2.2; rw [hv] at this; simpa using this.symm
            have hsm : sm = true := by rw [← HSM.out]; exact valB_some _ _ _ hv
            subst hsm
            clear hac
            have HN := Lib.hid hn
            have hs' : sel q a' t' n' a b = .agg #[.int .i64 s, .int .u32 q, .int .i64 s, .int .i64 (-1), .int .i64 0, .bool c, .bool false, .int .i64 0] := hs
            have HS := Lib.hid hs'
            clear hn hs hs'
            go_wp2_with fail
            (with_reducible refine (sel_val (.agg #[.int .i64 s, .int .u32 q, .int .i64 s, .int .i64 (-1), .int .i64 0, .bool c, .bool false, .int .i64 0]) q a' t' n' a b _ ha0 ha1 hn0 HS.out).mono ?_)
            rintro e w3 ⟨rfl, hb3⟩
            have hl1 := Nat.lt_of_lt_of_le hB1.lt hb3.size
            have hl2 := Nat.lt_of_lt_of_le hB2'.lt hb3.size
            have hl3 := Nat.lt_of_lt_of_le hB3.lt hb3.size
            have hk' := (hB1.below hb3 hB1.lt).cell
            have hk3' := (hB3.below hb3 hB3.lt).cell
            have hfr := (hB3.below hb3 hB3.lt).frozen
            have hct' := ((hB2'.below hb3 hB2'.lt).cell s.toNat).trans (pick_cell s a b hv2.1 hv2.2)
            rw [hp] at hct'
            clear hp
            clear hk hk2 hk3
            go_wp2_with fail
            go_light
            go_roundg (gk - 1)
            case measure => omega
            case rel =>
              refine ⟨i + 1, s, (-1), 0, by go_num, by omega, HN.out, ?_, ?_, ?_, ?_⟩
              · (repeat' (first | (with_reducible refine Blk.alloc ?_ _) | (with_reducible refine Blk.drew ?_) | (with_reducible refine Blk.drewN ?_ _) | (with_reducible refine Blk.far' ?_ _ _ ?_ _) | omega))
                exact hB1.below hb3 hB1.lt
              · (repeat' (first | (with_reducible refine Blk.alloc ?_ _) | (with_reducible refine Blk.drew ?_) | (with_reducible refine Blk.drewN ?_ _) | (with_reducible refine Blk.far' ?_ _ _ ?_ _) | omega))
                exact hB2'.below hb3 hB2'.lt
              · have h4 := (((((hB3.below hb3 hB3.lt).set 0 (.int .u32 q)).set 1 (.int .i64 (s))).set 2 (.int .i64 (-1))).set 3 (.int .i64 (0)))
                refine Blk.alloc ?_ _
                simpa using h4
              · have h5 := below_then hBw hb3 (Nat.le_refl _)
                have h6 := h5.size
                refine Below.alloc ?_ (by simp; omega) _
                exact (((h5.setCell (by simp; omega) _).setCell (by simp; omega) _).setCell (by simp; omega) _).setCell (by simp; omega) _
          · have hsm : sm = false := by rw [← HSM.out]; exact hno
            subst hsm
            clear hac hno
            have HN := Lib.hid hn
            have hs' : sel q a' t' n' a b = .agg #[.int .i64 (-1), .int .u32 q, .int .i64 a', .int .i64 (-1), .int .i64 0, .bool c, .bool false, .int .i64 3] := hs
            have HS := Lib.hid hs'
            clear hn hs hs'
            go_wp2_with fail
            (with_reducible refine (sel_val (.agg #[.int .i64 (-1), .int .u32 q, .int .i64 a', .int .i64 (-1), .int .i64 0, .bool c, .bool false, .int .i64 3]) q a' t' n' a b _ ha0 ha1 hn0 HS.out).mono ?_)
            rintro e w3 ⟨rfl, hb3⟩
            have hl1 := Nat.lt_of_lt_of_le hB1.lt hb3.size
            have hl2 := Nat.lt_of_lt_of_le hB2'.lt hb3.size
            have hl3 := Nat.lt_of_lt_of_le hB3.lt hb3.size
            have hk' := (hB1.below hb3 hB1.lt).cell
            have hk3' := (hB3.below hb3 hB3.lt).cell
            have hfr := (hB3.below hb3 hB3.lt).frozen
            clear hk hk2 hk3
            go_wp2_with fail
            go_light
            go_roundg (gk - 1)
            case measure => omega
            case rel =>
              refine ⟨i + 1, a', (-1), 0, by go_num, by omega, HN.out, ?_, ?_, ?_, ?_⟩
              · (repeat' (first | (with_reducible refine Blk.alloc ?_ _) | (with_reducible refine Blk.drew ?_) | (with_reducible refine Blk.drewN ?_ _) | (with_reducible refine Blk.far' ?_ _ _ ?_ _) | omega))
                exact hB1.below hb3 hB1.lt
              · (repeat' (first | (with_reducible refine Blk.alloc ?_ _) | (with_reducible refine Blk.drew ?_) | (with_reducible refine Blk.drewN ?_ _) | (with_reducible refine Blk.far' ?_ _ _ ?_ _) | omega))
                exact hB2'.below hb3 hB2'.lt
              · have h4 := (((((hB3.below hb3 hB3.lt).set 0 (.int .u32 q)).set 1 (.int .i64 (a'))).set 2 (.int .i64 (-1))).set 3 (.int .i64 (0)))
                refine Blk.alloc ?_ _
                simpa using h4
              · have h5 := below_then hBw hb3 (Nat.le_refl _)
                have h6 := h5.size
                refine Below.alloc ?_ (by simp; omega) _
                exact (((h5.setCell (by simp; omega) _).setCell (by simp; omega) _).setCell (by simp; omega) _).setCell (by simp; omega) _
        · have hi3 : 3 ≤ i := by omega
          rcases hW with ⟨hv, hi3', hs, hn⟩ | ⟨s, c, hv, hs, hn, hac⟩ | ⟨c, hno, hs, hn, hac⟩
          · omega
          · have hv2 := valB_range _ _ _ hv
            have hr2 : 0 ≤ ac ∧ ac ≤ 1 := by
              have hr' : 0 ≤ ac ∧ ac ≤ 1 ∧ 0 ≤ n ∧ n ≤ 3 ∧ (t = -1 ∧ n = 0 ∨ t = 0 ∨ t = 1) := of_decide_eq_true hR'
              exact ⟨hr'.1, hr'.2.1⟩
            have hvp := valB_pick ac a b hr2.1 hr2.2
            have hs' : sel q a' t' n' a b = .agg #[.int .i64 s, .int .u32 q, .int .i64 s, .int .i64 (-1), .int .i64 0, .bool c, .bool false, .int .i64 0] := hs
            have HS := Lib.hid hs'
            clear hn hs hs'
            go_wp2_with fail
            (with_reducible refine (sel_val (.agg #[.int .i64 s, .int .u32 q, .int .i64 s, .int .i64 (-1), .int .i64 0, .bool c, .bool false, .int .i64 0]) q a' t' n' a b _ ha0 ha1 hn0 HS.out).mono ?_)
            rintro e w3 ⟨rfl, hb3⟩
            have hl1 := Nat.lt_of_lt_of_le hB1.lt hb3.size
            have hl2 := Nat.lt_of_lt_of_le hB2'.lt hb3.size
            have hk' := (hB1.below hb3 hB1.lt).cell
            have hct' := ((hB2'.below hb3 hB2'.lt).cell ac.toNat).trans (pick_cell ac a b hr2.1 hr2.2)
            clear hk hk2 hk3
            cases hva : valB ac a b with
            | true =>
              have hsa := hac hva
              subst hsa
              rw [hva] at hvp
              have hp0 : pick2 s a b = 0 := by simpa using hvp.symm
              rw [hp0] at hct'
              clear hp0 hvp hva hac
              go_wp2_with fail
              go_light
              go_ret
              refine ⟨rfl, Below.alloc (below_then hBw hb3 (Nat.le_refl _)) ?_ _⟩
              have := hBw.size; have := hb3.size; omega
            | false =>
              rw [hva] at hvp
              clear hva hac
              have hp1 : (pick2 ac a b != 0) = true := by simp [bne, ← hvp]
              generalize pick2 ac a b = pk at *
              clear hvp
              go_wp2_with fail
              go_light
              go_ret
              refine ⟨rfl, Below.alloc (below_then hBw hb3 (Nat.le_refl _)) ?_ _⟩
              have := hBw.size; have := hb3.size; omega
          · have hr2 : 0 ≤ ac ∧ ac ≤ 1 := by
              have hr' : 0 ≤ ac ∧ ac ≤ 1 ∧ 0 ≤ n ∧ n ≤ 3 ∧ (t = -1 ∧ n = 0 ∨ t = 0 ∨ t = 1) := of_decide_eq_true hR'
              exact ⟨hr'.1, hr'.2.1⟩
            have hvp := valB_pick ac a b hr2.1 hr2.2
            have hs' : sel q a' t' n' a b = .agg #[.int .i64 (-1), .int .u32 q, .int .i64 a', .int .i64 (-1), .int .i64 0, .bool c, .bool false, .int .i64 3] := hs
            have HS := Lib.hid hs'
            clear hn hs hs'
            go_wp2_with fail
            (with_reducible refine (sel_val (.agg #[.int .i64 (-1), .int .u32 q, .int .i64 a', .int .i64 (-1), .int .i64 0, .bool c, .bool false, .int .i64 3]) q a' t' n' a b _ ha0 ha1 hn0 HS.out).mono ?_)
            rintro e w3 ⟨rfl, hb3⟩
            have hl1 := Nat.lt_of_lt_of_le hB1.lt hb3.size
            have hl2 := Nat.lt_of_lt_of_le hB2'.lt hb3.size
            have hk' := (hB1.below hb3 hB1.lt).cell
            have hct' := ((hB2'.below hb3 hB2'.lt).cell ac.toNat).trans (pick_cell ac a b hr2.1 hr2.2)
            clear hk hk2 hk3
            rw [hac] at hvp
            have hp1 : (pick2 ac a b != 0) = true := by simp [bne, ← hvp]
            generalize pick2 ac a b = pk at *
            clear hvp hac hno
            go_wp2_with fail
            go_light
            go_ret
            refine ⟨rfl, Below.alloc (below_then hBw hb3 (Nat.le_refl _)) ?_ _⟩
            have := hBw.size; have := hb3.size; omega
end Choose
end Go.Proofs.Ytmcpppgnfmopoaa
