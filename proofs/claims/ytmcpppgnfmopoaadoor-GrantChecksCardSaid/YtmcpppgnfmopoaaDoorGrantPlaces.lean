/-
  The laws of grant: GrantPlaces.
-/
import Derived.Test.YtmcpppgnfmopoaaDoorProg
import Derived.Test.YtmcpppgnfmopoaaDoorMem
import Derived.Test.YtmcpppgnfmopoaaDoorGrantBase
namespace Go.Proofs.YtmcpppgnfmopoaaDoor
open Go.RowKit

namespace Grant
theorem may_to (a b c : Int) (s : ByteArray) (w : World) (h : ok3 (a, b, c) = true) (hs : mayW a b c = s) : Calls Tryd.prog 21 #[.int .i64 a, .int .i64 b, .int .i64 c] w fun e w' => e = .returned (.string s) ∧ Below w.heap.size w w' := by
  subst hs
  exact may_any a b c w h
theorem ref_may_to (a b c : Int) (s : ByteArray) (w : World) (hs : mayW a b c = s) : Calls Tryd.prog 22 #[.int .i64 a, .int .i64 b, .int .i64 c] w fun e w' => e = .returned (.string s) ∧ Below w.heap.size w w' := by
  subst hs
  exact ref_may a b c w
theorem ok3_wf {a b c : Int} (ha : (Lit.int .i64 a).wf = true) (hb : (Lit.int .i64 b).wf = true) (hc : (Lit.int .i64 c).wf = true) : ok3 (a, b, c) = true := by
  simp only [ok3, Bool.and_eq_true]
  exact ⟨⟨ha, hb⟩, hc⟩
/-- The code's rest behind the regions' answers, where there is such a region. -/
structure Reg (k F S o c d : Nat) : Prop where
  sp : sp[k]? = some (F, S)
  k1 : 1 ≤ k
  k5 : k ≤ 5
  f1 : 1 ≤ F
  s1 : S = o + 1
  fs : F + S < 4294967296
  wa : whereN F = (k, 0)
  wb : whereN (F + S - 1) = (k, o)
  wc : ∃ x, whereN (F - 1) = (c, x)
  wd : ∃ x, whereN (F + S) = (d, x)
  nc : c ≠ k
  nd : d ≠ k
theorem reg_all (k : Nat) (h1 : 1 ≤ k) (h5 : k ≤ 5) : ∃ F S o c d, Reg k F S o c d := by
  have : k = 1 ∨ k = 2 ∨ k = 3 ∨ k = 4 ∨ k = 5 := by omega
  rcases this with rfl | rfl | rfl | rfl | rfl
  · exact ⟨536870912, 4096, 4095, 0, 2, ⟨rfl, by decide, by decide, by decide, by decide, by decide, by decide +kernel, by decide +kernel, ⟨0, by decide +kernel⟩, ⟨0, by decide +kernel⟩, by decide, by decide⟩⟩
  · exact ⟨536875008, 4096, 4095, 1, 0, ⟨rfl, by decide, by decide, by decide, by decide, by decide, by decide +kernel, by decide +kernel, ⟨4095, by decide +kernel⟩, ⟨0, by decide +kernel⟩, by decide, by decide⟩⟩
  · exact ⟨268435456, 10240, 10239, 0, 0, ⟨rfl, by decide, by decide, by decide, by decide, by decide, by decide +kernel, by decide +kernel, ⟨0, by decide +kernel⟩, ⟨0, by decide +kernel⟩, by decide, by decide⟩⟩
  · exact ⟨1073741824, 64, 63, 0, 0, ⟨rfl, by decide, by decide, by decide, by decide, by decide, by decide +kernel, by decide +kernel, ⟨0, by decide +kernel⟩, ⟨0, by decide +kernel⟩, by decide, by decide⟩⟩
  · exact ⟨1610612736, 256, 255, 0, 0, ⟨rfl, by decide, by decide, by decide, by decide, by decide, by decide +kernel, by decide +kernel, ⟨0, by decide +kernel⟩, ⟨0, by decide +kernel⟩, by decide, by decide⟩⟩
set_option maxHeartbeats 2000000 in
theorem places_any (at_ region who stage : Int) (w : World) (h0 : 0 ≤ at_) (hm : at_ < 4294967296) (hr : (Lit.int .i64 region).wf = true) (hw : (Lit.int .i64 who).wf = true) (hs : (Lit.int .i64 stage).wf = true) (hS : Spans w) :
    Calls Tryd.prog 5 #[.int .u32 at_, .int .i64 region, .int .i64 who, .int .i64 stage] w (TrueBelow w) := by
  have HS := Lib.hid hS
  obtain ⟨a, ha⟩ := Int.eq_ofNat_of_zero_le h0
  have HA := Lib.hid ha
  have HO := Lib.hid (ok3_wf hw hs hr)
  clear hS ha hw hs hr
  go_enter Tryd.func5, Tryd.ntmps5
  go_wp2_with fail
  (with_reducible refine (awake_any _ HS.out).mono ?_); rintro e w1 ⟨rfl, hB⟩
  have HS1 := Lib.hid (HS.out.old hB)
  have HB := Lib.hid hB
  clear hB
  go_wp2_with fail
  (with_reducible refine (where_int _ a _ HA.out hm HS1.out).mono ?_); rintro e w2 ⟨rfl, hB⟩
  have HS2 := Lib.hid (HS1.out.old hB)
  have HB2 := Lib.hid (below_then HB.out hB (Nat.le_refl _))
  clear hB
  go_wp2_with fail
  (with_reducible refine (ref_where _ a _ HA.out hm).mono ?_); rintro e w3 ⟨rfl, rfl⟩
  generalize whereN a = ro at *
  by_cases hrg : 1 ≤ region ∧ region ≤ 5
  · obtain ⟨k, rfl⟩ := Int.eq_ofNat_of_zero_le (show 0 ≤ region by omega)
    obtain ⟨F, S, o, c, d, R⟩ := reg_all k (by omega) (by omega)
    have h1 : ¬ ((k : Int) < 1) := by omega
    have h5 : ¬ (5 < (k : Int)) := by omega
    have HR := Lib.hid R
    have hF : 1 ≤ F := R.f1
    have hFS : F + S < 4294967296 := R.fs
    have hS1 : 1 ≤ S := by have := R.s1; omega
    have hj : ((o : Int) == (S : Int) - 1) = true := by rw [beq_iff_eq]; have := R.s1; omega
    have hcn : ((c : Int) != (k : Int)) = true := by rw [bne_iff_ne]; have := R.nc; omega
    have hdn : ((d : Int) != (k : Int)) = true := by rw [bne_iff_ne]; have := R.nd; omega
    obtain ⟨xc, hxc⟩ := R.wc
    obtain ⟨xd, hxd⟩ := R.wd
    have HXC := Lib.hid hxc
    have HXD := Lib.hid hxd
    clear R hrg hxc hxd
    go_wp2_with fail
    (with_reducible refine (base_any _ k F S _ rfl HR.out.k1 HR.out.sp HS2.out).mono ?_); rintro e w4 ⟨rfl, n, rfl⟩
    have HS4 := Lib.hid (HS2.out.drewN n)
    have HB4 := Lib.hid (Below.drewN HB2.out n)
    go_wp2_with fail
    (with_reducible refine (where_to _ F _ _ rfl (by omega) HS4.out HR.out.wa).mono ?_); rintro e w5 ⟨rfl, hB⟩
    have HS5 := Lib.hid (HS4.out.old hB)
    have HB5 := Lib.hid (below_then HB4.out hB (Nat.le_refl _))
    clear hB
    go_wp2_with fail
    (with_reducible refine (where_to _ (F + S - 1) _ _ (by omega) (by omega) HS5.out HR.out.wb).mono ?_); rintro e w6 ⟨rfl, hB⟩
    have HS6 := Lib.hid (HS5.out.old hB)
    have HB6 := Lib.hid (below_then HB5.out hB (Nat.le_refl _))
    clear hB
    go_wp2_with fail
    (with_reducible refine (where_to _ (F - 1) _ _ (by omega) (by omega) HS6.out HXC.out).mono ?_); rintro e w7 ⟨rfl, hB⟩
    have HS7 := Lib.hid (HS6.out.old hB)
    have HB7 := Lib.hid (below_then HB6.out hB (Nat.le_refl _))
    clear hB
    go_wp2_with fail
    (with_reducible refine (where_to _ (F + S) _ _ (by omega) (by omega) HS7.out HXD.out).mono ?_); rintro e w8 ⟨rfl, hB⟩
    have HS8 := Lib.hid (HS7.out.old hB)
    have HB8 := Lib.hid (below_then HB7.out hB (Nat.le_refl _))
    clear hB
    obtain ⟨s, hs⟩ : ∃ s, mayW who stage k = s := ⟨_, rfl⟩
    have HMS := Lib.hid hs
    clear hs
    go_wp2_with fail
    (with_reducible refine (may_to _ _ _ _ _ HO.out HMS.out).mono ?_); rintro e w9 ⟨rfl, hB⟩
    have HB9 := Lib.hid (below_then HB8.out hB (Nat.le_refl _))
    clear hB
    go_wp2_with fail
    (with_reducible refine (ref_may_to _ _ _ _ _ HMS.out).mono ?_); rintro e w10 ⟨rfl, hB⟩
    have HB10 := Lib.hid (below_then HB9.out hB (Nat.le_refl _))
    clear hB
    go_wp2_with fail
    go_light
    go_ret
    exact ⟨rfl, HB10.out⟩
  · have HM := Lib.hid (show mayW who stage region = ⟨#[]⟩ from may_out (by simp only [inR, decide_eq_false_iff_not]; omega))
    have hr' : region ≤ 0 ∨ 5 < region := by omega
    have HR := Lib.hid hr'
    clear hrg hr'
    have h1 : region < 1 ∨ ¬ region < 1 ∧ 5 < region := by have := HR.out; omega
    rcases h1 with h1 | ⟨h1, h2⟩
    all_goals
      go_wp2_with fail
      (with_reducible refine (base_out _ _ HR.out).mono ?_); rintro e w4 ⟨rfl, rfl⟩
      go_wp2_with fail
      (with_reducible refine (may_to _ _ _ _ _ HO.out HM.out).mono ?_); rintro e w5 ⟨rfl, hB⟩
      have HB5 := Lib.hid (below_then HB2.out hB (Nat.le_refl _))
      clear hB
      go_wp2_with fail
      go_light
      go_ret
      exact ⟨rfl, HB5.out⟩
end Grant
end Go.Proofs.YtmcpppgnfmopoaaDoor
