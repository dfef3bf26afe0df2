/-
  The walk of OtpArgs.
-/
import Derived.Test.YtpakdcgcgekcfaaDoorProg
import Derived.Test.YtpakdcgcgekcfaaDoorMem
import Derived.Test.YtpakdcgcgekcfaaDoorNext
import Derived.Test.YtpakdcgcgekcfaaDoorOtpNil2
import Derived.Test.YtpakdcgcgekcfaaDoorOtpRows
import Derived.Deep.LoopGhost
import Derived.Deep.MidRow
import Derived.Deep.CutRange
import Derived.Deep.CutBlock
import Derived.Deep.DeepCutAuto
import Derived.Laws.CopyOwn
import Derived.Laws.Tables
namespace Go.Proofs.YtpakdcgcgekcfaaDoor
open Go.RowKit

namespace Otp
open Fuse R1
theorem of_bad (A : Option Addr) (len cap : Nat) (w : World) (hn : len ≠ 64) : Calls Tryd.prog 21 #[.slice A len cap] w (fun e w' => e = .returned (.tuple #[.pointer none, .int .i64 1]) ∧ w = w') := by
  have h1 : ((len : Int) != 64) = true := by rw [bne_iff_ne]; omega
  go_enter Tryd.func21, Tryd.ntmps21
  go_wp2_with fail
  go_light
  go_ret2
  exact ⟨rfl, rfl⟩
def OfAny (w : World) (len : Nat) (e : Ending) (w' : World) : Prop := ∃ v, e = .returned (.tuple #[v, .int .i64 (if len = 64 then 0 else 1)]) ∧ Below w.heap.size w w'
theorem of_either (A : Option Addr) (len cap : Nat) (zs : List Nat) (w : World) (hz : Nats .u32 4294967296 w w.heap.size A zs) (hl : zs.length = len) : Calls Tryd.prog 21 #[.slice A len cap] w (OfAny w len) := by
  by_cases h : len = 64
  · refine (of_chip A len cap zs w hz (by omega) h).mono ?_
    rintro e w' ⟨c, p, b, rfl, _, _, _, _, hB⟩
    exact ⟨_, by rw [if_pos h], hB⟩
  · refine (of_bad A len cap w h).mono ?_
    rintro e w' ⟨rfl, rfl⟩
    exact ⟨_, by rw [if_neg h], Below.refl _ _⟩
theorem life_nil0 (w : World) : Calls Tryd.prog 26 #[.pointer none] w fun e w' => e = .returned (.int .i64 0) ∧ Below w.heap.size w w' := by
  have := life_nil w
  rw [show life z64 = 0 by decide +kernel] at this
  exact this
theorem counter_nil0 (w : World) (hT : Tab w) : Calls Tryd.prog 27 #[.pointer none] w fun e w' => e = .returned (.int .i64 0) ∧ Below w.heap.size w w' := by
  have := counter_nil w hT
  rw [show counter z64 = 0 by decide +kernel] at this
  exact this
theorem id_nil0 (w : World) : Calls Tryd.prog 28 #[.pointer none] w fun e w' => e = .returned (.agg (b8 z16)) ∧ Below w.heap.size w w' := by
  have := id_nil w
  rw [show wordsB (idW z64) = z16 by decide +kernel] at this
  exact this
set_option maxRecDepth 100000 in
set_option maxHeartbeats 8000000 in
theorem args_any (A : Option Addr) (len cap : Nat) (zs : List Nat) (t : ActV) (w : World) (hT : Tab w) (hl : zs.length = len) (hlc : len ≤ cap) (hcm : cap ≤ maxLen) (hz : Nats .u32 4294967296 w w.heap.size A zs) (ho : t.ok) :
    Calls Tryd.prog 5 #[.slice A len cap, .agg t.cells] w (TrueBelow w) := by
  obtain ⟨C, hC⟩ : ∃ C, t.cells = C := ⟨_, rfl⟩
  have HPL := Lib.hid (fun W => plan_nilA (t.d : Int) t.n t.d t.ks (t.m : Int) t.tn (t.g : Int) W rfl ho.1 ho.2.1 ho.2.2.1)
  have HSA := Lib.hid (show (Tryd.prog.info? 46).map (·.size) = some C.size by
    rw [← hC, ActV.size ho]
    kernel_rfl)
  have hC1 : C[1]? = some (.int .i64 t.n) := by rw [← hC]; exact actC_n
  have hC5 : C[36]? = some (.int .u32 (t.g : Int)) := by rw [← hC]; exact (ActV.tail ho).2.2
  have HC1 := Lib.hid hC1
  have HC5 := Lib.hid hC5
  rw [show actC (t.d : Int) t.n t.ks (t.m : Int) t.tn (t.g : Int) = C from hC] at HPL
  rw [hC]
  obtain ⟨n, hn⟩ : ∃ n, t.n = n := ⟨_, rfl⟩
  obtain ⟨g, hg⟩ : ∃ g : Nat, t.g = g := ⟨_, rfl⟩
  rw [hn] at HC1
  rw [hg] at HC5
  have HT := Lib.hid (hT.old ((Below.refl _ w).alloc (Nat.le_refl _) (.cells C 46)))
  have HA := Lib.hid (Blk.new w 46 C)
  have HB := Lib.hid ((Below.refl _ w).alloc (Nat.le_refl _) (.cells C 46))
  have HN := Lib.hid hz
  have HL := Lib.hid hl
  simp only [maxLen] at hcm
  clear hT hC hC1 hC5 hn hg ho hz hl
  go_enter Tryd.func5, Tryd.ntmps5
  go_wp2_with fail
  have hw0 : w.heap.size < (w.alloc (.cells C 46)).heap.size := by simp
  generalize w.alloc (.cells C 46) = w0 at *
  (with_reducible refine (awake_any _ HT.out).mono ?_); rintro e w1 ⟨rfl, hB⟩
  have HT1 := Lib.hid (HT.out.old hB)
  have HA1 := Lib.hid (HA.out.next hB rfl)
  have HB1 := Lib.hid (below_then HB.out hB (Nat.le_refl _))
  clear hB HT HA HB hw0
  go_upto_region 3 with fail
  go_cut [0] (fun v w' => v = .slice A (min len 80) cap ∧ w' = w1)
  case first =>
    go_wp2_with fail
    all_goals go_meet
    all_goals exact ⟨by congr 1; omega, rfl⟩
  case rest =>
    obtain ⟨rfl, rfl⟩ := hcut
    obtain ⟨w1, rfl⟩ : ∃ wo : World, wo = wc := ⟨_, rfl⟩
    have hm80 : min len 80 ≤ 80 := Nat.min_le_right _ _
    have HM := Lib.hid (show (zs.take (min len 80)).length = min len 80 by rw [List.length_take, HL.out]; omega)
    have HN1 : Hid (Nats .u32 4294967296 w1 w1.heap.size A (zs.take (min len 80))) := Lib.hid (fun i z hz => by
      rw [List.getElem?_take] at hz
      split at hz
      · exact (((HN.out).below HB1.out).more HB1.out.size) i z hz
      · cases hz)
    generalize zs.take (min len 80) = ys at *
    generalize min len 80 = m at *
    clear HN HL
    go_wp2_with fail
    (with_reducible refine (of_either A m cap ys _ HN1.out HM.out).mono ?_); rintro e w2 ⟨v2, rfl, hB⟩
    obtain ⟨E2, hE2⟩ : ∃ E : Int, (if m = 64 then (0 : Int) else 1) = E := ⟨_, rfl⟩
    rw [hE2]
    have HE2 := Lib.hid hE2
    have HT2 := Lib.hid (HT1.out.old hB)
    have HA2 := Lib.hid (HA1.out.next hB rfl)
    have HB2 := Lib.hid (below_then HB1.out hB (Nat.le_refl _))
    have hn2 : w2.cell? ⟨w.heap.size, 1, none⟩ = some (.int .i64 n) := by rw [HA2.out.cell, HC1.out]
    clear hB hE2 HT1 HA1 HB1 HN1 HM
    go_wp2_with fail
    (with_reducible refine (row_nil _ _).mono ?_); rintro e w3 ⟨rfl, hB⟩
    have HT3 := Lib.hid (HT2.out.old hB)
    have HA3 := Lib.hid (HA2.out.next hB rfl)
    have HB3 := Lib.hid (below_then HB2.out hB (Nat.le_refl _))
    have HSZ := Lib.hid (show (Tryd.prog.info? 23).map (·.size) = some (b8 z32).size from dig_info)
    have HOZ := Lib.hid (b8_one z32)
    clear hB HT2 HA2 HB2 hn2
    go_upto_region 7 with (refine wpList_new_row rfl 23 (.tmp 8) (.tmp 29) rfl w3.heap.size (b8 z32) rfl rfl 23 (b8 (List.replicate 32 0)) (Blk.new _ _ _) HSZ.out rfl HOZ.out w3.heap.size w3 ((Below.refl _ w3).alloc (Nat.le_refl _) _) (Nat.le_refl _) ?_; intro w4 HX hB4)
    have HT4 := Lib.hid (HT3.out.old hB4.out)
    have HA4 := Lib.hid (HA3.out.next hB4.out rfl)
    have HB4 := Lib.hid (below_then HB3.out hB4.out (Nat.le_refl _))
    clear hB4 HT3 HA3 HB3 HX
    go_wp2_with (refine wpList_load_row rfl 46 _ rfl w.heap.size rfl 46 C (0, 0) _ HA4.out Tryd.underlying46 rfl HSA.out ?_)
    (with_reducible refine (HPL.out _).mono ?_); rintro e w5 ⟨v5, rfl, hO, hB⟩
    have HT5 := Lib.hid (HT4.out.old hB)
    have HA5 := Lib.hid (HA4.out.next hB rfl)
    have HB5 := Lib.hid (below_then HB4.out hB (Nat.le_refl _))
    clear hB hO HT4 HA4 HB4
    go_wp2_with fail
    (with_reducible refine (seal_nil _).mono ?_); rintro e w6 ⟨rfl, rfl⟩
    have hE01 : (E2 = 0 ∧ m = 64) ∨ (E2 = 1 ∧ m ≠ 64) := by
      rw [← HE2.out]
      by_cases h : m = 64
      · exact .inl ⟨if_pos h, h⟩
      · exact .inr ⟨if_neg h, h⟩
    have hg5 : w5.cell? ⟨w.heap.size, 36, none⟩ = some (.int .u32 (g : Int)) := by rw [HA5.out.cell, HC5.out]
    have hl5 : w.heap.size < w5.heap.size := HA5.out.lt
    have hm64 : E2 = 1 → ((m : Int) == 64) = false := fun h => by
      rcases hE01 with ⟨h1, h2⟩ | ⟨h1, h2⟩
      · omega
      · rw [beq_eq_false_iff_ne]; omega
    have heq' : ∀ W : World, (Op.equalIn 10000 50 (.agg (b8 z16)) (.agg (b8 z16))).run Tryd.prog W = .ok true W := fun W => by
      rw [eq_arr W 16 50 z16 z16 rfl rfl Tryd.underlying50]
      simp
    have heq : ∀ W : World, (Op.equalIn 10000 50 (.agg (b8 z16)) (.agg #[.int .u8 0, .int .u8 0, .int .u8 0, .int .u8 0, .int .u8 0, .int .u8 0, .int .u8 0, .int .u8 0, .int .u8 0, .int .u8 0, .int .u8 0, .int .u8 0, .int .u8 0, .int .u8 0, .int .u8 0, .int .u8 0])).run Tryd.prog W = .ok true W := heq'
    clear HE2 heq' HA5 hlc hcm
    have ht : ((E2 == 0) == ((m : Int) == 64)) = true := by
      rcases hE01 with ⟨h1, h2⟩ | ⟨h1, h2⟩
      · subst h1 h2; rfl
      · rw [hm64 h1]; subst h1; rfl
    rcases hE01 with ⟨rfl, rfl⟩ | ⟨rfl, hne⟩
    all_goals try have h64 := hm64 rfl
    all_goals clear hm64 ht
    all_goals go_wp2_with fail
    all_goals ((with_reducible refine (do_nil _ _).mono ?_); rintro e w6 ⟨rfl, rfl⟩)
    all_goals go_wp2_with fail
    all_goals ((with_reducible refine (tear_nil _ _ _).mono ?_); rintro e w7 ⟨rfl, hB⟩)
    all_goals have HB7 := Lib.hid (below_nxt ((HB5.out.alloc HB5.out.size (.cells #[.int .i64 0, .int .u32 0] 58))) hB (Nat.le_refl _) rfl rfl rfl rfl)
    all_goals have HT7 := Lib.hid (Tab.old (HT5.out.old ((Below.refl _ w5).alloc (Nat.le_refl _) (.cells #[.int .i64 0, .int .u32 0] 58))) hB)
    all_goals clear hB hg5 HT5 HB5
    all_goals go_wp2_with fail
    all_goals ((with_reducible refine (life_nil0 _).mono ?_); rintro e w8 ⟨rfl, hB⟩)
    all_goals have HB8 := Lib.hid (below_then HB7.out hB (Nat.le_refl _))
    all_goals have HT8 := Lib.hid (HT7.out.old hB)
    all_goals clear hB HB7 HT7
    all_goals go_wp2_with fail
    all_goals ((with_reducible refine (counter_nil0 _ HT8.out).mono ?_); rintro e w9 ⟨rfl, hB⟩)
    all_goals have HB9 := Lib.hid (below_then HB8.out hB (Nat.le_refl _))
    all_goals clear hB HB8 HT8
    all_goals go_wp2_with fail
    all_goals ((with_reducible refine (key_nil _).mono ?_); rintro e w10 ⟨rfl, rfl⟩)
    all_goals go_wp2_with fail
    all_goals ((with_reducible refine (id_nil0 _).mono ?_); rintro e w11 ⟨rfl, hB⟩)
    all_goals have HB11 := Lib.hid (below_then HB9.out hB (Nat.le_refl _))
    all_goals clear hB HB9
    all_goals go_wp2_with fail
    all_goals go_light
    all_goals go_ret
    all_goals exact ⟨rfl, HB11.out⟩
end Otp
end Go.Proofs.YtpakdcgcgekcfaaDoor
