/-
  The laws of grant: GrantChecks.
-/
import Derived.Test.YtmcpppgnfmopoaaDoorProg
import Derived.Test.YtmcpppgnfmopoaaDoorMem
import Derived.Test.YtmcpppgnfmopoaaDoorGrantAny
import Derived.Test.YtmcpppgnfmopoaaDoorGrantRefC
namespace Go.Proofs.YtmcpppgnfmopoaaDoor
open Go.RowKit

namespace Grant
theorem chk_of (x : Acc) : x.ck.2.2 = 0 → x.fm = true ∧ x.ck.1 ≠ 0 ∧ x.ck.1 ≤ 5 := by
  unfold Acc.ck Acc.fm
  unfold chk
  intro h
  split at h
  · cases h
  rename_i h1
  split at h
  · cases h
  split at h
  · cases h
  split at h
  · cases h
  rename_i h2 h3 h4
  have hle := where_le x.at_.toNat
  rw [if_neg h1, if_neg h2, if_neg h3, if_neg h4]
  exact ⟨by simpa using h1, h3, hle.1⟩
def zAcc : Acc := ⟨0, 0, 0, 0, false, false⟩
theorem zAcc_fm : zAcc.fm = false := by decide
theorem zAcc_ck : zAcc.ck = (0, 0, 1) := by decide
theorem any_one (x : Acc) (r off e : Nat) (h : x.ck = (r, off, e)) : anyB r [x] = decide ((e : Int) = 0) := by
  have hk := chk_of x
  rw [h] at hk
  simp only at hk
  unfold anyB
  simp only [List.any_cons, List.any_nil, Bool.or_false, Acc.lets, h]
  by_cases he : e = 0
  · subst he
    simp [(hk rfl).1]
  · simp [he]
theorem any_nine (x : Acc) : anyB 9 [x, x] = false := by
  have hk := chk_of x
  unfold anyB
  simp only [List.any_cons, List.any_nil, Bool.or_false, Acc.lets]
  by_cases he : x.ck.2.2 = 0
  · have := (hk he).2.2
    have h9 : ¬ ((x.ck.1 : Int) = 9) := by omega
    simp [h9]
  · simp [he]
theorem any_two (x : Acc) (r off e : Nat) (h : x.ck = (r, off, e)) : anyB r [zAcc, x] = decide ((e : Int) = 0) := by
  have hk := chk_of x
  rw [h] at hk
  simp only at hk
  unfold anyB
  simp only [List.any_cons, List.any_nil, Bool.or_false, Acc.lets, h, zAcc_fm, zAcc_ck, Bool.false_or]
  by_cases he : e = 0
  · subst he
    simp [(hk rfl).1]
  · simp [he]
theorem zAcc_good : zAcc.good := ⟨by decide, by decide, by decide, by decide⟩
theorem any_to (g len cap : Nat) (l : List Acc) (r : Int) (b : Bool) (w : World) (hL : Lst w g l) (hl : len = l.length) (hc : l.length ≤ 1000) (hS : Spans w) (hgood : ∀ x ∈ l, x.good) (hb : anyB r l = b) :
    Calls Tryd.prog 25 #[.int .i64 r, .slice (some ⟨g, 0, none⟩) len cap] w fun e w' => e = .returned (.bool b) ∧ Below w.heap.size w w' := by
  subst hl
  subst hb
  exact any_any g cap l r w hL hc hS hgood
theorem ref_check_to (who stage at_ size : Int) (a : Nat) (wr fe : Bool) (r : Nat × Nat × Nat) (w : World) (ha : at_ = a) (hm4 : at_ < 4294967296) (hr : chk who stage a size wr fe = r) :
    Calls Tryd.prog 24 #[.int .i64 who, .int .i64 stage, .int .u32 at_, .int .i64 size, .bool wr, .bool fe] w (ChkOut w r) := by
  subst hr
  exact ref_check who stage at_ size a wr fe w ha hm4
theorem chk_e2 (who stage size : Int) (a : Nat) (wr fe : Bool) : (chk who stage a size wr fe).2.2 ≤ 10 := by
  unfold chk
  repeat' split
  all_goals simp
set_option maxHeartbeats 4000000 in
theorem checks_any (who stage at_ size : Int) (wr fe : Bool) (w : World) (h0 : 0 ≤ at_) (hm : at_ < 4294967296) (hw : (Lit.int .i64 who).wf = true) (hs : (Lit.int .i64 stage).wf = true) (hS : Spans w) :
    Calls Tryd.prog 7 #[.agg #[.int .i64 who, .int .i64 stage, .int .u32 at_, .int .i64 size, .bool wr, .bool fe]] w (TrueBelow w) := by
  have HS := Lib.hid hS
  have HA := Lib.hid (show at_ = ((at_.toNat : Nat) : Int) by omega)
  have HW := Lib.hid hw
  have HT := Lib.hid hs
  have HGD := Lib.hid (show (Acc.mk who stage at_ size wr fe).good from ⟨h0, hm, hw, hs⟩)
  obtain ⟨⟨r, off, er⟩, hr⟩ : ∃ r, chk who stage at_.toNat size wr fe = r := ⟨_, rfl⟩
  have he := chk_e2 who stage size at_.toNat wr fe
  rw [hr] at he
  simp only at he
  have HR := Lib.hid hr
  have H1 := Lib.hid (any_one ⟨who, stage, at_, size, wr, fe⟩ r off er hr)
  have H2 := Lib.hid (any_nine ⟨who, stage, at_, size, wr, fe⟩)
  have H3 := Lib.hid (any_two ⟨who, stage, at_, size, wr, fe⟩ r off er hr)
  clear hr hS hw hs
  go_enter Tryd.func7, Tryd.ntmps7
  go_wp2_with fail
  (with_reducible refine (awake_any _ (HS.out.alloc _)).mono ?_); rintro e w1 ⟨rfl, hB⟩
  have HK := Lib.hid ((Blk.new w 40 #[.int .i64 who, .int .i64 stage, .int .u32 at_, .int .i64 size, .bool wr, .bool fe]).below hB (by simp))
  have hk := HK.out.cell
  have HS1 := Lib.hid ((HS.out.alloc _).old hB)
  have HB := Lib.hid (((Below.refl _ w).alloc (Nat.le_refl _) _).trans (hB.mono (by simp)))
  clear hB
  go_wp2_with fail
  (with_reducible refine (check_to _ _ _ _ _ _ _ _ _ HA.out hm HW.out HT.out HS1.out HR.out).mono ?_); rintro e w2 ⟨rfl, hB⟩
  have HK2 := Lib.hid (HK.out.next hB rfl)
  have hk2 := HK2.out.cell
  have HS2 := Lib.hid (HS1.out.old hB)
  have HB2 := Lib.hid (below_then HB.out hB (Nat.le_refl _))
  clear hB hk
  go_wp2_with fail
  (with_reducible refine (ref_check_to _ _ _ _ _ _ _ _ _ HA.out hm HR.out).mono ?_); rintro e w3 ⟨rfl, hB⟩
  have HK3 := Lib.hid (HK2.out.next hB rfl)
  have hk3 := HK3.out.cell
  have HS3 := Lib.hid (HS2.out.old hB)
  have HB3 := Lib.hid (below_then HB2.out hB (Nat.le_refl _))
  have hl3 := HK3.out.lt
  clear hB hk2
  have HN1 := Lib.hid (show Lst (w3.alloc (.cells #[.int .i64 who, .int .i64 stage, .int .u32 at_, .int .i64 size, .bool wr, .bool fe] 40)) w3.heap.size [⟨who, stage, at_, size, wr, fe⟩] from Blk.new w3 _ _)
  have HN2 := Lib.hid (fun w4 : World => (show Lst (w4.alloc (.cells #[.int .i64 who, .int .i64 stage, .int .u32 at_, .int .i64 size, .bool wr, .bool fe, .int .i64 who, .int .i64 stage, .int .u32 at_, .int .i64 size, .bool wr, .bool fe] 40)) w4.heap.size [⟨who, stage, at_, size, wr, fe⟩, ⟨who, stage, at_, size, wr, fe⟩] from Blk.new w4 _ _))
  have HN3 := Lib.hid (fun w4 : World => (show Lst (w4.alloc (.cells #[.int .i64 0, .int .i64 0, .int .u32 0, .int .i64 0, .bool false, .bool false, .int .i64 who, .int .i64 stage, .int .u32 at_, .int .i64 size, .bool wr, .bool fe] 40)) w4.heap.size [zAcc, ⟨who, stage, at_, size, wr, fe⟩] from Blk.new w4 _ _))
  have G1 := Lib.hid (show ∀ x ∈ [(⟨who, stage, at_, size, wr, fe⟩ : Acc)], x.good from fun x hx => by rw [List.mem_singleton.1 hx]; exact HGD.out)
  have G2 := Lib.hid (show ∀ x ∈ [(⟨who, stage, at_, size, wr, fe⟩ : Acc), ⟨who, stage, at_, size, wr, fe⟩], x.good from fun x hx => by
    simp only [List.mem_cons, List.not_mem_nil, or_false, or_self] at hx
    rw [hx]; exact HGD.out)
  have G3 := Lib.hid (show ∀ x ∈ [zAcc, (⟨who, stage, at_, size, wr, fe⟩ : Acc)], x.good from fun x hx => by
    simp only [List.mem_cons, List.not_mem_nil, or_false] at hx
    rcases hx with rfl | rfl
    · exact zAcc_good
    · exact HGD.out)
  have hb : ((er : Int) == 0) = true ∨ ((er : Int) == 0) = false := by cases ((er : Int) == 0) <;> simp
  have HD := Lib.hid (show decide ((er : Int) = 0) = ((er : Int) == 0) by rw [Bool.eq_iff_iff]; simp)
  rcases hb with hb | hb
  all_goals
    rw [hb] at HD
    rw [HD.out] at H1 H3
    go_wp2_with fail
    (with_reducible refine (any_to _ 1 1 _ _ _ _ HN1.out rfl (by simp) (HS3.out.alloc _) G1.out H1.out).mono ?_); rintro e w4 ⟨rfl, hB⟩
    have HK4 := Lib.hid ((HK3.out.alloc _).next hB rfl)
    have hk4 := HK4.out.cell
    have HS4 := Lib.hid ((HS3.out.alloc _).old hB)
    have HB4 := Lib.hid (below_nxt (HB3.out.alloc HB3.out.size _) hB (Nat.le_refl _) rfl rfl rfl rfl)
    clear hB
    go_wp2_with fail
    (with_reducible refine (any_to _ 2 2 _ _ _ _ (HN2.out w4) rfl (by simp) (HS4.out.alloc _) G2.out H2.out).mono ?_); rintro e w5 ⟨rfl, hB⟩
    have HK5 := Lib.hid ((HK4.out.alloc _).next hB rfl)
    have hk5 := HK5.out.cell
    have HS5 := Lib.hid ((HS4.out.alloc _).old hB)
    have HB5 := Lib.hid (below_nxt (HB4.out.alloc HB4.out.size _) hB (Nat.le_refl _) rfl rfl rfl rfl)
    clear hB hk4
    go_wp2_with fail
    (with_reducible refine (any_to _ 2 2 _ _ _ _ (HN3.out w5) rfl (by simp) (HS5.out.alloc _) G3.out H3.out).mono ?_); rintro e w6 ⟨rfl, hB⟩
    have HB6 := Lib.hid (below_nxt (HB5.out.alloc HB5.out.size _) hB (Nat.le_refl _) rfl rfl rfl rfl)
    clear hB
    go_wp2_with fail
    go_light
    go_ret
    exact ⟨rfl, HB6.out⟩
end Grant
end Go.Proofs.YtmcpppgnfmopoaaDoor
