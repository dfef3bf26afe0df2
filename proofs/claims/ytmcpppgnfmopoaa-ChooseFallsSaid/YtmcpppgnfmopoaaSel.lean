import Derived.Test.YtmcpppgnfmopoaaProg
import Derived.Test.YtmcpppgnfmopoaaMem
import Derived.Test.YtmcpppgnfmopoaaChoose
namespace Go.Proofs.Ytmcpppgnfmopoaa
open Go.RowKit

namespace Choose
def chg (q a t n q' a' t' n' : Int) : Bool := !(q == q' && a == a' && t == t' && n == n')
/-- What choose.Select answers of a chip in Prod. -/
def sel (q ac t n a b : Int) : Value :=
  if valB t a b = true ∧ n < 3 then ch t q ac t (n + 1) (chg q ac t (n + 1) q ac t n) true 0
  else if valB ac a b = true then ch ac q ac (-1) 0 (chg q ac (-1) 0 q ac t n) false 0
  else if valB (1 - ac) a b = true then ch (1 - ac) q (1 - ac) (-1) 0 (chg q (1 - ac) (-1) 0 q ac t n) false 0
  else ch (-1) q ac (-1) 0 (chg q ac (-1) 0 q ac t n) false 3

theorem chosen_ex (c : Bool) (i q a t n q' a' t' n' : Int) (tr : Bool) (w : World) (hc : chg q a t n q' a' t' n' = c) :
   Calls Try.prog 30 #[.int .i64 i, .agg #[.int .u32 q, .int .i64 a, .int .i64 t, .int .i64 n], .agg #[.int .u32 q', .int .i64 a', .int .i64 t', .int .i64 n'], .bool tr] w
    fun e w' => e = .returned (.agg #[.int .i64 i, .int .u32 q, .int .i64 a, .int .i64 t, .int .i64 n, .bool c, .bool tr, .int .i64 0]) ∧ Below w.heap.size w w' := by
  subst hc
  exact chosen_any i q a t n q' a' t' n' tr w

def SelOut (q ac t n a b : Int) (w : World) (e : Ending) (w' : World) : Prop := e = .returned (sel q ac t n a b) ∧ Below w.heap.size w w'

set_option maxHeartbeats 400000 in
theorem sel_A (q ac t n a b : Int) (w : World) (hv : valB t a b = true) (hn : 0 ≤ n) (hn3 : n < 3) :
    Calls Try.prog 10 #[.int .i64 2, .agg #[.int .u32 q, .int .i64 ac, .int .i64 t, .int .i64 n], .agg #[.int .i64 a, .int .i64 b]] w (SelOut q ac t n a b w) := by
  obtain ⟨c, hc⟩ : ∃ c, chg q ac t (n + 1) q ac t n = c := ⟨_, rfl⟩
  have hsel : sel q ac t n a b = ch t q ac t (n + 1) c true 0 := by rw [← hc]; exact if_pos ⟨hv, hn3⟩
  have hC := Lib.hid hc
  clear hc
  have hS := Lib.hid hsel
  have hV := Lib.hid hv
  clear hv hsel
  go_enter Try.func10, Try.ntmps10
  go_wp2_with (first | (go_at_call 28; refine (valid_b true _ a b _ _ hV.out (by go_simp) (by go_simp)).mono ?_; rintro e w' ⟨rfl, rfl⟩) | (go_at_call 30; (with_reducible refine (chosen_ex c _ _ _ _ _ _ _ _ _ _ _ hC.out).mono ?_); rintro e w1 ⟨rfl, hb⟩; obtain ⟨hc1, hf1⟩ := oldCells hb))
  go_light
  refine bodyPost_ret (v := ch t q ac t (n + 1) c true 0) (by simp [results, ch, Try.results10, go_sem, hc1]) (by rfl) ?_
  refine ⟨by rw [hS.out], ?_⟩
  (repeat' (first | (with_reducible exact Below.refl _ _) | (with_reducible refine Below.setCell ?_ ?_ _) | (with_reducible refine Below.alloc ?_ ?_ _) | (with_reducible refine Below.drew ?_) | (with_reducible refine Below.drewN ?_ _) | (with_reducible refine below_then ?_ hb ?_) | (with_reducible exact Nat.le_refl _) | (simp; done) | (simp; omega) | omega))

set_option maxHeartbeats 400000 in
theorem sel_B (q ac t n a b : Int) (w : World) (hv : valB t a b = true → 3 ≤ n) (hv2 : valB ac a b = true) :
    Calls Try.prog 10 #[.int .i64 2, .agg #[.int .u32 q, .int .i64 ac, .int .i64 t, .int .i64 n], .agg #[.int .i64 a, .int .i64 b]] w (SelOut q ac t n a b w) := by
  obtain ⟨c, hc⟩ : ∃ c, chg q ac (-1) 0 q ac t n = c := ⟨_, rfl⟩
  have hC := Lib.hid hc
  have hsel : sel q ac t n a b = ch ac q ac (-1) 0 c false 0 := by
    rw [← hc]; clear hC hc; unfold sel; rw [if_neg (fun h => by have := hv h.1; omega), if_pos hv2]
  have hS := Lib.hid hsel
  have hV2 := Lib.hid hv2
  clear hv2 hsel hc
  cases hvt : valB t a b with
  | false =>
    have hV := Lib.hid hvt
    clear hvt hv
    go_enter Try.func10, Try.ntmps10
    go_wp2_with (first | (go_at_call 28; (with_reducible refine (valid_b _ _ a b _ _ hV.out (by go_simp) (by go_simp)).mono ?_); rintro e w' ⟨rfl, rfl⟩) | (go_at_call 28; (with_reducible refine (valid_b _ _ a b _ _ hV2.out (by go_simp) (by go_simp)).mono ?_); rintro e w' ⟨rfl, rfl⟩) | (go_at_call 30; (with_reducible refine (chosen_ex c _ _ _ _ _ _ _ _ _ _ _ hC.out).mono ?_); rintro e w1 ⟨rfl, hb⟩; obtain ⟨hc1, hf1⟩ := oldCells hb))
    go_light
    refine bodyPost_ret (v := ch ac q ac (-1) 0 c false 0) (by simp [results, ch, Try.results10, go_sem, hc1]) (by rfl) ?_
    refine ⟨by rw [hS.out], ?_⟩
    (repeat' (first | (with_reducible exact Below.refl _ _) | (with_reducible refine Below.setCell ?_ ?_ _) | (with_reducible refine Below.alloc ?_ ?_ _) | (with_reducible refine Below.drew ?_) | (with_reducible refine Below.drewN ?_ _) | (with_reducible refine below_then ?_ hb ?_) | (with_reducible exact Nat.le_refl _) | (simp; done) | (simp; omega) | omega))
  | true =>
    have hn := hv hvt
    have hV := Lib.hid hvt
    clear hvt hv
    go_enter Try.func10, Try.ntmps10
    go_wp2_with (first | (go_at_call 28; (with_reducible refine (valid_b _ _ a b _ _ hV.out (by go_simp) (by go_simp)).mono ?_); rintro e w' ⟨rfl, rfl⟩) | (go_at_call 28; (with_reducible refine (valid_b _ _ a b _ _ hV2.out (by go_simp) (by go_simp)).mono ?_); rintro e w' ⟨rfl, rfl⟩) | (go_at_call 30; (with_reducible refine (chosen_ex c _ _ _ _ _ _ _ _ _ _ _ hC.out).mono ?_); rintro e w1 ⟨rfl, hb⟩; obtain ⟨hc1, hf1⟩ := oldCells hb))
    go_light
    refine bodyPost_ret (v := ch ac q ac (-1) 0 c false 0) (by simp [results, ch, Try.results10, go_sem, hc1]) (by rfl) ?_
    refine ⟨by rw [hS.out], ?_⟩
    (repeat' (first | (with_reducible exact Below.refl _ _) | (with_reducible refine Below.setCell ?_ ?_ _) | (with_reducible refine Below.alloc ?_ ?_ _) | (with_reducible refine Below.drew ?_) | (with_reducible refine Below.drewN ?_ _) | (with_reducible refine below_then ?_ hb ?_) | (with_reducible exact Nat.le_refl _) | (simp; done) | (simp; omega) | omega))

set_option maxHeartbeats 400000 in
theorem sel_C (q ac t n a b : Int) (w : World) (hv : valB t a b = true → 3 ≤ n) (hv2 : valB ac a b = false) (hv3 : valB (1 - ac) a b = true) (hac : 0 ≤ ac) (hac1 : ac ≤ 1) :
    Calls Try.prog 10 #[.int .i64 2, .agg #[.int .u32 q, .int .i64 ac, .int .i64 t, .int .i64 n], .agg #[.int .i64 a, .int .i64 b]] w (SelOut q ac t n a b w) := by
  obtain ⟨c, hc⟩ : ∃ c, chg q (1 - ac) (-1) 0 q ac t n = c := ⟨_, rfl⟩
  have hC := Lib.hid hc
  have hsel : sel q ac t n a b = ch (1 - ac) q (1 - ac) (-1) 0 c false 0 := by
    rw [← hc]; clear hC hc; unfold sel; rw [if_neg (fun h => by have := hv h.1; omega), if_neg (by rw [hv2]; decide), if_pos hv3]
  have hS := Lib.hid hsel
  have hV2 := Lib.hid hv2
  have hV3 := Lib.hid hv3
  clear hv2 hv3 hsel hc
  cases hvt : valB t a b with
  | false =>
    have hV := Lib.hid hvt
    clear hvt hv
    go_enter Try.func10, Try.ntmps10
    go_wp2_with (first | (go_at_call 28; (with_reducible refine (valid_b _ _ a b _ _ hV.out (by go_simp) (by go_simp)).mono ?_); rintro e w' ⟨rfl, rfl⟩) | (go_at_call 28; (with_reducible refine (valid_b _ _ a b _ _ hV2.out (by go_simp) (by go_simp)).mono ?_); rintro e w' ⟨rfl, rfl⟩) | (go_at_call 28; (with_reducible refine (valid_b _ _ a b _ _ hV3.out (by go_simp) (by go_simp)).mono ?_); rintro e w' ⟨rfl, rfl⟩) | (go_at_call 30; (with_reducible refine (chosen_ex c _ _ _ _ _ _ _ _ _ _ _ hC.out).mono ?_); rintro e w1 ⟨rfl, hb⟩; obtain ⟨hc1, hf1⟩ := oldCells hb))
    go_light
    refine bodyPost_ret (v := ch (1 - ac) q (1 - ac) (-1) 0 c false 0) (by simp [results, ch, Try.results10, go_sem, hc1]) (by rfl) ?_
    refine ⟨by rw [hS.out], ?_⟩
    (repeat' (first | (with_reducible exact Below.refl _ _) | (with_reducible refine Below.setCell ?_ ?_ _) | (with_reducible refine Below.alloc ?_ ?_ _) | (with_reducible refine Below.drew ?_) | (with_reducible refine Below.drewN ?_ _) | (with_reducible refine below_then ?_ hb ?_) | (with_reducible exact Nat.le_refl _) | (simp; done) | (simp; omega) | omega))
  | true =>
    have hn := hv hvt
    have hV := Lib.hid hvt
    clear hvt hv
    go_enter Try.func10, Try.ntmps10
    go_wp2_with (first | (go_at_call 28; (with_reducible refine (valid_b _ _ a b _ _ hV.out (by go_simp) (by go_simp)).mono ?_); rintro e w' ⟨rfl, rfl⟩) | (go_at_call 28; (with_reducible refine (valid_b _ _ a b _ _ hV2.out (by go_simp) (by go_simp)).mono ?_); rintro e w' ⟨rfl, rfl⟩) | (go_at_call 28; (with_reducible refine (valid_b _ _ a b _ _ hV3.out (by go_simp) (by go_simp)).mono ?_); rintro e w' ⟨rfl, rfl⟩) | (go_at_call 30; (with_reducible refine (chosen_ex c _ _ _ _ _ _ _ _ _ _ _ hC.out).mono ?_); rintro e w1 ⟨rfl, hb⟩; obtain ⟨hc1, hf1⟩ := oldCells hb))
    go_light
    refine bodyPost_ret (v := ch (1 - ac) q (1 - ac) (-1) 0 c false 0) (by simp [results, ch, Try.results10, go_sem, hc1]) (by rfl) ?_
    refine ⟨by rw [hS.out], ?_⟩
    (repeat' (first | (with_reducible exact Below.refl _ _) | (with_reducible refine Below.setCell ?_ ?_ _) | (with_reducible refine Below.alloc ?_ ?_ _) | (with_reducible refine Below.drew ?_) | (with_reducible refine Below.drewN ?_ _) | (with_reducible refine below_then ?_ hb ?_) | (with_reducible exact Nat.le_refl _) | (simp; done) | (simp; omega) | omega))
end Choose
end Go.Proofs.Ytmcpppgnfmopoaa
