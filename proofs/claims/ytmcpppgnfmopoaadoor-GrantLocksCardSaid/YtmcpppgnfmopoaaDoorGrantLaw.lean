/-
  The laws of grant: GrantLocks.
-/
import Derived.Test.YtmcpppgnfmopoaaDoorProg
import Derived.Test.YtmcpppgnfmopoaaDoorMem
import Derived.Test.YtmcpppgnfmopoaaDoorGrantAw
namespace Go.Proofs.YtmcpppgnfmopoaaDoor
open Go.RowKit

namespace Grant
def letL : List (Nat × Nat × Nat × Bool × Bool) := [(0, 0, 1, false, false), (0, 0, 1, true, false), (0, 0, 2, false, false), (0, 0, 2, true, false), (0, 0, 3, false, false), (0, 0, 3, true, false), (0, 0, 4, false, false), (0, 0, 4, true, false), (0, 0, 5, false, false), (0, 0, 5, true, false), (1, 1, 1, false, false), (1, 1, 1, false, true), (1, 1, 2, false, false), (1, 1, 2, true, false), (1, 1, 3, false, false), (1, 1, 4, false, false), (1, 1, 4, true, false), (1, 1, 5, false, false), (1, 2, 1, false, false), (1, 2, 1, true, false), (1, 2, 1, false, true), (1, 2, 2, false, false), (1, 2, 2, true, false), (1, 2, 3, false, false), (1, 2, 4, false, false), (1, 2, 4, true, false), (1, 2, 5, false, false), (2, 0, 1, false, false), (2, 0, 1, true, false), (2, 0, 2, false, false), (2, 0, 2, true, false), (2, 0, 3, false, false), (2, 1, 1, false, false), (2, 1, 2, false, false), (2, 1, 2, true, false), (2, 1, 3, false, false), (2, 2, 1, false, false), (2, 2, 2, false, false), (2, 2, 2, true, false), (2, 2, 3, false, false), (3, 0, 4, false, false), (3, 0, 4, true, false), (3, 1, 4, false, false), (3, 1, 4, true, false), (3, 2, 1, false, false), (3, 2, 1, true, false), (3, 2, 2, false, false), (3, 2, 2, true, false), (3, 2, 3, false, false), (3, 2, 4, false, false), (3, 2, 4, true, false), (3, 2, 5, false, false)]
theorem let_all : ∀ (a : Fin 4) (b : Fin 3) (c : Fin 6) (wr fe : Bool), hasB (mayW (a.val : Int) (b.val : Int) (c.val : Int)) (letB wr fe) = true → (wr && fe) = false → (a.val, b.val, c.val, wr, fe) ∈ letL := by decide +kernel
theorem chk_ok {who stage size : Int} {a : Nat} {wr fe : Bool} {r off : Nat} (h : chk who stage a size wr fe = (r, off, 0)) : ∃ x y : Nat, who = x ∧ stage = y ∧ (x, y, r, wr, fe) ∈ letL := by
  unfold chk at h
  split at h
  · cases h
  split at h
  · cases h
  split at h
  · cases h
  split at h
  · cases h
  rename_i h1 h2 h3 h4
  have hf : formB who stage size wr fe = true := by simpa using h1
  unfold formB at hf
  simp only [Bool.and_eq_true, decide_eq_true_eq, Bool.not_eq_true'] at hf
  obtain ⟨⟨w1, w2, s1, s2, _⟩, hn⟩ := hf
  obtain ⟨rfl, -⟩ := h
  have hle := where_le a
  have hx := let_all ⟨who.toNat, by omega⟩ ⟨stage.toNat, by omega⟩ ⟨(whereN a).1, by omega⟩ wr fe
  simp only [show ((who.toNat : Nat) : Int) = who by omega, show ((stage.toNat : Nat) : Int) = stage by omega] at hx
  exact ⟨who.toNat, stage.toNat, by omega, by omega, hx (by simpa using h4) hn⟩
theorem chk_err {who stage size : Int} {a : Nat} {wr fe : Bool} {r off e : Nat} (h : chk who stage a size wr fe = (r, off, e)) (he : e ≠ 0) : r = 0 := by
  unfold chk at h
  split at h
  · cases h; rfl
  split at h
  · cases h; rfl
  split at h
  · cases h; rfl
  split at h
  · cases h; rfl
  cases h
  exact absurd rfl he
theorem chk_e (who stage size : Int) (a : Nat) (wr fe : Bool) : (chk who stage a size wr fe).2.2 ≤ 10 := by
  unfold chk
  repeat' split
  all_goals simp
set_option maxHeartbeats 4000000 in
theorem locks_any (who stage at_ size : Int) (wr fe : Bool) (w : World) (h0 : 0 ≤ at_) (hm : at_ < 4294967296) (hw : (Lit.int .i64 who).wf = true) (hs : (Lit.int .i64 stage).wf = true) (hS : Spans w) :
    Calls Tryd.prog 4 #[.agg #[.int .i64 who, .int .i64 stage, .int .u32 at_, .int .i64 size, .bool wr, .bool fe]] w (TrueBelow w) := by
  have HS := Lib.hid hS
  obtain ⟨a, ha⟩ := Int.eq_ofNat_of_zero_le h0
  have HA := Lib.hid ha
  have HW := Lib.hid hw
  have HT := Lib.hid hs
  clear hS ha hw hs
  obtain ⟨⟨r, off, er⟩, hr⟩ : ∃ r, chk who stage a size wr fe = r := ⟨_, rfl⟩
  have he := chk_e who stage size a wr fe
  rw [hr] at he
  simp only at he
  have HR := Lib.hid hr
  clear hr
  go_enter Tryd.func4, Tryd.ntmps4
  go_wp2_with fail
  (with_reducible refine (awake_any _ (HS.out.alloc _)).mono ?_); rintro e w1 ⟨rfl, hB⟩
  have HK := Lib.hid ((Blk.new w 40 #[.int .i64 who, .int .i64 stage, .int .u32 at_, .int .i64 size, .bool wr, .bool fe]).below hB (by simp))
  have hk := HK.out.cell
  have HS1 := Lib.hid ((HS.out.alloc _).old hB)
  have HB := Lib.hid (((Below.refl _ w).alloc (Nat.le_refl _) _).trans (hB.mono (by simp)))
  clear hB
  go_wp2_with fail
  (with_reducible refine (check_to _ _ _ _ a _ _ _ _ HA.out hm HW.out HT.out HS1.out HR.out).mono ?_); rintro e w2 ⟨rfl, hB⟩
  have HK2 := Lib.hid (HK.out.next hB rfl)
  have hk2 := HK2.out.cell
  have HB2 := Lib.hid (below_then HB.out hB (Nat.le_refl _))
  clear hB hk
  by_cases h : er = 0
  · subst h
    obtain ⟨x, y, rfl, rfl, hmem⟩ := chk_ok HR.out
    clear HR HW HT
    simp only [letL, List.mem_cons, List.not_mem_nil, or_false, Prod.mk.injEq] at hmem
    rcases hmem with ⟨rfl, rfl, rfl, rfl, rfl⟩ | ⟨rfl, rfl, rfl, rfl, rfl⟩ | ⟨rfl, rfl, rfl, rfl, rfl⟩ | ⟨rfl, rfl, rfl, rfl, rfl⟩ | ⟨rfl, rfl, rfl, rfl, rfl⟩ | ⟨rfl, rfl, rfl, rfl, rfl⟩ | ⟨rfl, rfl, rfl, rfl, rfl⟩ | ⟨rfl, rfl, rfl, rfl, rfl⟩ | ⟨rfl, rfl, rfl, rfl, rfl⟩ | ⟨rfl, rfl, rfl, rfl, rfl⟩ | ⟨rfl, rfl, rfl, rfl, rfl⟩ | ⟨rfl, rfl, rfl, rfl, rfl⟩ | ⟨rfl, rfl, rfl, rfl, rfl⟩ | ⟨rfl, rfl, rfl, rfl, rfl⟩ | ⟨rfl, rfl, rfl, rfl, rfl⟩ | ⟨rfl, rfl, rfl, rfl, rfl⟩ | ⟨rfl, rfl, rfl, rfl, rfl⟩ | ⟨rfl, rfl, rfl, rfl, rfl⟩ | ⟨rfl, rfl, rfl, rfl, rfl⟩ | ⟨rfl, rfl, rfl, rfl, rfl⟩ | ⟨rfl, rfl, rfl, rfl, rfl⟩ | ⟨rfl, rfl, rfl, rfl, rfl⟩ | ⟨rfl, rfl, rfl, rfl, rfl⟩ | ⟨rfl, rfl, rfl, rfl, rfl⟩ | ⟨rfl, rfl, rfl, rfl, rfl⟩ | ⟨rfl, rfl, rfl, rfl, rfl⟩ | ⟨rfl, rfl, rfl, rfl, rfl⟩ | ⟨rfl, rfl, rfl, rfl, rfl⟩ | ⟨rfl, rfl, rfl, rfl, rfl⟩ | ⟨rfl, rfl, rfl, rfl, rfl⟩ | ⟨rfl, rfl, rfl, rfl, rfl⟩ | ⟨rfl, rfl, rfl, rfl, rfl⟩ | ⟨rfl, rfl, rfl, rfl, rfl⟩ | ⟨rfl, rfl, rfl, rfl, rfl⟩ | ⟨rfl, rfl, rfl, rfl, rfl⟩ | ⟨rfl, rfl, rfl, rfl, rfl⟩ | ⟨rfl, rfl, rfl, rfl, rfl⟩ | ⟨rfl, rfl, rfl, rfl, rfl⟩ | ⟨rfl, rfl, rfl, rfl, rfl⟩ | ⟨rfl, rfl, rfl, rfl, rfl⟩ | ⟨rfl, rfl, rfl, rfl, rfl⟩ | ⟨rfl, rfl, rfl, rfl, rfl⟩ | ⟨rfl, rfl, rfl, rfl, rfl⟩ | ⟨rfl, rfl, rfl, rfl, rfl⟩ | ⟨rfl, rfl, rfl, rfl, rfl⟩ | ⟨rfl, rfl, rfl, rfl, rfl⟩ | ⟨rfl, rfl, rfl, rfl, rfl⟩ | ⟨rfl, rfl, rfl, rfl, rfl⟩ | ⟨rfl, rfl, rfl, rfl, rfl⟩ | ⟨rfl, rfl, rfl, rfl, rfl⟩ | ⟨rfl, rfl, rfl, rfl, rfl⟩ | ⟨rfl, rfl, rfl, rfl, rfl⟩
    all_goals
      go_wp2_with fail
      go_light
      go_ret
      exact ⟨rfl, HB2.out⟩
  · have h1 : (((er : Nat) : Int) != 0) = true := by simpa using h
    obtain rfl := chk_err HR.out h
    clear h
    go_wp2_with fail
    go_light
    go_ret
    exact ⟨rfl, HB2.out⟩
end Grant
end Go.Proofs.YtmcpppgnfmopoaaDoor
