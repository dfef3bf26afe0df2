import Derived.Test.YtmcpppgnfmopoaaProg
import Derived.Test.YtmcpppgnfmopoaaMem
import Derived.Test.YtmcpppgnfmopoaaSel
namespace Go.Proofs.Ytmcpppgnfmopoaa
open Go.RowKit

namespace Choose

set_option maxHeartbeats 400000 in
theorem sel_D (q ac t n a b : Int) (w : World) (hv : valB t a b = true → 3 ≤ n) (hv2 : valB ac a b = false) (hv3 : valB (1 - ac) a b = false) (hac : 0 ≤ ac) (hac1 : ac ≤ 1) :
    Calls Try.prog 10 #[.int .i64 2, .agg #[.int .u32 q, .int .i64 ac, .int .i64 t, .int .i64 n], .agg #[.int .i64 a, .int .i64 b]] w (SelOut q ac t n a b w) := by
  obtain ⟨c, hc⟩ : ∃ c, chg q ac (-1) 0 q ac t n = c := ⟨_, rfl⟩
  have hsel : sel q ac t n a b = ch (-1) q ac (-1) 0 c false 3 := by
    rw [← hc]; clear hc; unfold sel; rw [if_neg (fun h => by have := hv h.1; omega), if_neg (by rw [hv2]; decide), if_neg (by rw [hv3]; decide)]
  have hS := Lib.hid hsel
  have hV2 := Lib.hid hv2
  have hV3 := Lib.hid hv3
  clear hv2 hv3 hsel
  have hne : ∀ w, (binOp .neq 24 (.agg #[.int .u32 q, .int .i64 ac, .int .i64 (-1), .int .i64 0]) (.agg #[.int .u32 q, .int .i64 ac, .int .i64 t, .int .i64 n])).run Try.prog w = .ok (.bool c) w := fun w => by rw [← hc]; exact neq_st q ac (-1) 0 q ac t n w
  clear hc
  cases hvt : valB t a b with
  | false =>
    have hV := Lib.hid hvt
    clear hvt hv
    go_enter Try.func10, Try.ntmps10
    go_wp2_with (first | (go_at_call 28; (with_reducible refine (valid_b _ _ a b _ _ hV.out (by go_simp) (by go_simp)).mono ?_); rintro e w' ⟨rfl, rfl⟩) | (go_at_call 28; (with_reducible refine (valid_b _ _ a b _ _ hV2.out (by go_simp) (by go_simp)).mono ?_); rintro e w' ⟨rfl, rfl⟩) | (go_at_call 28; (with_reducible refine (valid_b _ _ a b _ _ hV3.out (by go_simp) (by go_simp)).mono ?_); rintro e w' ⟨rfl, rfl⟩))
    go_region
    go_wp2
    go_light
    refine bodyPost_ret (v := ch (-1) q ac (-1) 0 c false 3) (by simp [results, ch, Try.results10, go_sem]) (by rfl) ?_
    refine ⟨by rw [hS.out], ?_⟩
    (repeat' (first | (with_reducible exact Below.refl _ _) | (with_reducible refine Below.setCell ?_ ?_ _) | (with_reducible refine Below.alloc ?_ ?_ _) | (with_reducible refine Below.drew ?_) | (with_reducible refine Below.drewN ?_ _) | (with_reducible exact Nat.le_refl _) | (simp; done) | (simp; omega) | omega))
  | true =>
    have hn := hv hvt
    have hV := Lib.hid hvt
    clear hvt hv
    go_enter Try.func10, Try.ntmps10
    go_wp2_with (first | (go_at_call 28; (with_reducible refine (valid_b _ _ a b _ _ hV.out (by go_simp) (by go_simp)).mono ?_); rintro e w' ⟨rfl, rfl⟩) | (go_at_call 28; (with_reducible refine (valid_b _ _ a b _ _ hV2.out (by go_simp) (by go_simp)).mono ?_); rintro e w' ⟨rfl, rfl⟩) | (go_at_call 28; (with_reducible refine (valid_b _ _ a b _ _ hV3.out (by go_simp) (by go_simp)).mono ?_); rintro e w' ⟨rfl, rfl⟩))
    go_region
    go_wp2
    go_light
    refine bodyPost_ret (v := ch (-1) q ac (-1) 0 c false 3) (by simp [results, ch, Try.results10, go_sem]) (by rfl) ?_
    refine ⟨by rw [hS.out], ?_⟩
    (repeat' (first | (with_reducible exact Below.refl _ _) | (with_reducible refine Below.setCell ?_ ?_ _) | (with_reducible refine Below.alloc ?_ ?_ _) | (with_reducible refine Below.drew ?_) | (with_reducible refine Below.drewN ?_ _) | (with_reducible exact Nat.le_refl _) | (simp; done) | (simp; omega) | omega))

theorem sel_any (q ac t n a b : Int) (w : World) (hac : 0 ≤ ac) (hac1 : ac ≤ 1) (hn : 0 ≤ n) :
    Calls Try.prog 10 #[.int .i64 2, .agg #[.int .u32 q, .int .i64 ac, .int .i64 t, .int .i64 n], .agg #[.int .i64 a, .int .i64 b]] w (SelOut q ac t n a b w) := by
  by_cases h : valB t a b = true ∧ n < 3
  · exact sel_A q ac t n a b w h.1 hn h.2
  · have hv : valB t a b = true → 3 ≤ n := fun hx => by
      rcases Int.lt_or_le n 3 with h3 | h3
      · exact absurd ⟨hx, h3⟩ h
      · exact h3
    cases h2 : valB ac a b with
    | true => exact sel_B q ac t n a b w hv h2
    | false =>
      cases h3 : valB (1 - ac) a b with
      | true => exact sel_C q ac t n a b w hv h2 h3 hac hac1
      | false => exact sel_D q ac t n a b w hv h2 h3 hac hac1

def TrueBelow (w : World) (e : Ending) (w' : World) : Prop := e = .returned (.bool true) ∧ Below w.heap.size w w'

end Choose
end Go.Proofs.Ytmcpppgnfmopoaa
