import Derived.Test.YtmcpppgnfmopoaaProg
import Derived.Test.YtmcpppgnfmopoaaMem
namespace Go.Proofs.Ytmcpppgnfmopoaa
open Go.RowKit

namespace Choose
def st (q a t n : Int) : Value := .agg #[.int .u32 q, .int .i64 a, .int .i64 t, .int .i64 n]
def ch (s q a t n : Int) (c : Bool) (tr : Bool) (e : Int) : Value := .agg #[.int .i64 s, .int .u32 q, .int .i64 a, .int .i64 t, .int .i64 n, .bool c, .bool tr, .int .i64 e]

set_option maxHeartbeats 400000 in
theorem slot_any (i : Int) (w : World) : Calls Try.prog 29 #[.int .i64 i] w fun e w' => e = .returned (.bool (i == 0 || i == 1)) ∧ w = w' := by
  go_enter Try.func29, Try.ntmps29
  go_wp2
  all_goals go_ret
  all_goals simp_all

set_option maxHeartbeats 400000 in
theorem first_any (w : World) : Calls Try.prog 26 #[] w fun e w' => e = .returned (.agg #[.int .u32 0, .int .i64 0, .int .i64 (-1), .int .i64 0]) ∧ Below w.heap.size w w' := by
  go_enter Try.func26, Try.ntmps26
  go_wp2
  exact bodyPost_ret (v := .agg #[.int .u32 0, .int .i64 0, .int .i64 (-1), .int .i64 0]) (by simp [results, Try.results26, go_sem]) rfl ⟨rfl, (Below.refl _ _).alloc (Nat.le_refl _) _⟩

theorem neq_st (q a t n q' a' t' n' : Int) (w : World) : (binOp .neq 24 (.agg #[.int .u32 q, .int .i64 a, .int .i64 t, .int .i64 n]) (.agg #[.int .u32 q', .int .i64 a', .int .i64 t', .int .i64 n'])).run Try.prog w = .ok (.bool (!(q == q' && a == a' && t == t' && n == n'))) w := by
  go_simp
  by_cases h1 : q = q' <;> by_cases h2 : a = a' <;> by_cases h3 : t = t' <;> by_cases h4 : n = n' <;> simp [h1, h2, h3, h4]

set_option maxHeartbeats 400000 in
theorem chosen_any (i q a t n q' a' t' n' : Int) (tr : Bool) (w : World) :
   Calls Try.prog 30 #[.int .i64 i, .agg #[.int .u32 q, .int .i64 a, .int .i64 t, .int .i64 n], .agg #[.int .u32 q', .int .i64 a', .int .i64 t', .int .i64 n'], .bool tr] w
    fun e w' => e = .returned (.agg #[.int .i64 i, .int .u32 q, .int .i64 a, .int .i64 t, .int .i64 n, .bool (!(q == q' && a == a' && t == t' && n == n')), .bool tr, .int .i64 0]) ∧ Below w.heap.size w w' := by
  have hne := neq_st q a t n q' a' t' n'
  generalize hc : (!(q == q' && a == a' && t == t' && n == n')) = c at *
  clear hc
  go_enter Try.func30, Try.ntmps30
  go_wp2
  go_region
  go_wp2
  refine bodyPost_ret (v := .agg #[.int .i64 i, .int .u32 q, .int .i64 a, .int .i64 t, .int .i64 n, .bool c, .bool tr, .int .i64 0]) (by simp [results, Try.results30, go_sem]) rfl ⟨rfl, ?_⟩
  exact ((((Below.refl _ _).alloc (Nat.le_refl _) _).alloc (by simp) _).alloc (by simp; omega) _).drew

theorem valid_any (i a b : Int) (g : Nat) (w : World) (h0 : w.cell? ⟨g, 0, none⟩ = some (.int .i64 a)) (h1 : w.cell? ⟨g, 1, none⟩ = some (.int .i64 b)) :
    Calls Try.prog 28 #[.int .i64 i, .pointer (some ⟨g, 0, none⟩)] w fun e w' => e = .returned (.bool (i == 0 && a == 0 || i == 1 && b == 0)) ∧ w = w' := by
  by_cases hi0 : i = 0
  · subst hi0
    go_enter Try.func28, Try.ntmps28
    go_wp2_with (go_at_call 29; refine (slot_any _ _).mono ?_; rintro e w' ⟨rfl, rfl⟩)
    go_ret
    simp
  · by_cases hi1 : i = 1
    · subst hi1
      go_enter Try.func28, Try.ntmps28
      go_wp2_with (go_at_call 29; refine (slot_any _ _).mono ?_; rintro e w' ⟨rfl, rfl⟩)
      go_ret
      simp
    · have e0 : (i == 0) = false := by simp [hi0]
      have e1 : (i == 1) = false := by simp [hi1]
      go_enter Try.func28, Try.ntmps28
      go_wp2_with (go_at_call 29; refine (slot_any _ _).mono ?_; rintro e w' ⟨rfl, rfl⟩)
      go_ret
      simp [e0, e1]

def valB (i a b : Int) : Bool := i == 0 && a == 0 || i == 1 && b == 0
theorem valid_b (v : Bool) (i a b : Int) (g : Nat) (w : World) (hv : valB i a b = v) (h0 : w.cell? ⟨g, 0, none⟩ = some (.int .i64 a)) (h1 : w.cell? ⟨g, 1, none⟩ = some (.int .i64 b)) :
    Calls Try.prog 28 #[.int .i64 i, .pointer (some ⟨g, 0, none⟩)] w fun e w' => e = .returned (.bool v) ∧ w = w' := by
  subst hv
  exact valid_any i a b g w h0 h1

end Choose
end Go.Proofs.Ytmcpppgnfmopoaa
