/-
  Texts of this claim, joined: New2, CorTi, CorTiF.
-/
import Derived.Test.YtfiojpdkbckopaaDoorJc6ca3112
import Derived.Test.YtfiojpdkbckopaaDoorBig
import Derived.Test.YtfiojpdkbckopaaDoorJ68c09f72
import Derived.Test.YtfiojpdkbckopaaDoorCorTm
import Derived.Test.YtfiojpdkbckopaaDoorJbd03a24f
import Derived.Test.YtfiojpdkbckopaaDoorCorT
import Derived.Test.YtfiojpdkbckopaaDoorCorU
import Derived.Test.YtfiojpdkbckopaaDoorCorW
import Derived.Test.YtfiojpdkbckopaaDoorCorH
import Derived.Test.YtfiojpdkbckopaaDoorFrame
import Derived.Test.YtfiojpdkbckopaaDoorJa7d4135a
set_option linter.unusedVariables false
/-
  Two new variables, each given its value at once: alloc, alloc, store, store.
-/
set_option linter.unusedSimpArgs false
set_option linter.unusedVariables false
namespace Go.Proofs.YtfiojpdkbckopaaDoor
open Go.RowKit

namespace Otp
open Sha
theorem wpList_two_new {P : Program} {ops : Array Oper} {rest : List Oper} {o1 o2 o3 o4 : Oper} {a : Act} {w : World} {Q : Exit → Act → World → Prop}
    (t1 t2 : TypeId) (d1 d2 : Tmp) (y1 y2 : Operand) (g1 : o1.guard = none) (g2 : o2.guard = none) (g3 : o3.guard = none) (g4 : o4.guard = none)
    (p1 : o1.op = .alloc t1) (p2 : o2.op = .alloc t2) (p3 : o3.op = .store t1 (.tmp d1) y1) (p4 : o4.op = .store t2 (.tmp d2) y2) (q1 : o1.dst = some d1) (q2 : o2.dst = some d2) (q3 : o3.dst = none) (q4 : o4.dst = none)
    (z1 z2 X Y : Array Value) (hz1 : (P.info? t1).bind (·.zero) = some (.agg z1)) (hz2 : (P.info? t2).bind (·.zero) = some (.agg z2)) (b : Nat) (hb : w.heap.size = b)
    (e1 : ((a.put (some d1) (.pointer (some ⟨b, 0, none⟩))).put (some d2) (.pointer (some ⟨b + 1, 0, none⟩))).eval (.tmp d1) = .pointer (some ⟨b, 0, none⟩))
    (e2 : ((a.put (some d1) (.pointer (some ⟨b, 0, none⟩))).put (some d2) (.pointer (some ⟨b + 1, 0, none⟩))).eval (.tmp d2) = .pointer (some ⟨b + 1, 0, none⟩))
    (e3 : ((a.put (some d1) (.pointer (some ⟨b, 0, none⟩))).put (some d2) (.pointer (some ⟨b + 1, 0, none⟩))).eval y1 = .agg X)
    (e4 : ((a.put (some d1) (.pointer (some ⟨b, 0, none⟩))).put (some d2) (.pointer (some ⟨b + 1, 0, none⟩))).eval y2 = .agg Y)
    (hX : (P.info? t1).map (·.size) = some X.size ∧ z1.size = X.size ∧ X.all (·.oneCell') = true)
    (hY : (P.info? t2).map (·.size) = some Y.size ∧ z2.size = Y.size ∧ Y.all (·.oneCell') = true)
    (h : ∀ w', Wall (Blk w' b t1 X) → Wall (Blk w' (b + 1) t2 Y) → Wall (Below b w w') → wpList P ops Q rest ((a.put (some d1) (.pointer (some ⟨b, 0, none⟩))).put (some d2) (.pointer (some ⟨b + 1, 0, none⟩))) w') :
    wpList P ops Q (o1 :: o2 :: o3 :: o4 :: rest) a w := by
  subst hb
  refine Big.wpList_alloc_at g1 t1 p1 z1 hz1 w.heap.size rfl ?_
  rw [q1]
  refine Big.wpList_alloc_at g2 t2 p2 z2 hz2 (w.heap.size + 1) (by simp) ?_
  rw [q2]
  refine wpList_set_row g3 t1 (.tmp d1) y1 p3 w.heap.size X e1 e3 t1 z1 ((Blk.new _ _ _).alloc _) hX.1 hX.2.1 hX.2.2 ?_
  intro w1 K1 F1
  rw [q3]
  show wpList P ops Q (o4 :: rest) ((a.put (some d1) _).put (some d2) _) w1
  refine wpList_set_row g4 t2 (.tmp d2) y2 p4 (w.heap.size + 1) Y e2 e4 t2 z2 (Blk.frm (blk_new' (by simp)) F1.out (by simp)) hY.1 hY.2.1 hY.2.2 ?_
  intro w2 K2 F2
  rw [q4]
  exact h w2 (wall (K1.out.frm F2.out (by simp))) (wall K2.out) (wall (Below.frm (Below.frm (((Below.refl _ w).alloc (Nat.le_refl _) _).alloc (by simp) _) F1.out (Nat.le_refl _) (by simp)) F2.out (Nat.le_refl _) (by simp)))
end Otp
end Go.Proofs.YtfiojpdkbckopaaDoor

/-
  CoreTimer.
-/
set_option linter.unusedSimpArgs false
set_option linter.unusedVariables false
namespace Go.Proofs.YtfiojpdkbckopaaDoor
open Go.RowKit

namespace Core
open Otp Sha R1 Spc Grant Rv
set_option maxRecDepth 100000 in
set_option maxHeartbeats 4000000 in
theorem timer_any (B : Option Addr) (lenB capB : Nat) (xs : List Nat) (ie st imm : Nat) (w : World) (hS : Spans w) (hie : ie < 4294967296) (hst : st < 4294967296) (him : imm < 256)
    (hl2 : xs.length = lenB) (hm2 : lenB ≤ maxLen) (hx : Nats .u32 4294967296 w w.heap.size B xs) :
    Calls Tryd.prog 6 #[.slice B lenB capB, .int .u32 (ie : Int), .int .u32 (st : Int), .int .u8 (imm : Int)] w (TrueB w) := by
  have HS := wall hS
  have HX := wall hx
  have HSA := wall (fun W (h2 : Nats .u32 4294967296 W W.heap.size B xs) => show Calls Tryd.prog 10 #[.int .u32 536870912, .slice B lenB capB, .slice none 0 0] W (StartOut (regs (newC 536870912) xs lenB) W) from start_any 536870912 (by decide) B lenB capB xs W hl2 hm2 h2)
  have HOK := wall (regs_ok (newC_ok (show 536870912 < 4294967296 by decide)) (fun j y hy => (hx j y hy).1) lenB)
  have HN := wall (And.intro hie (And.intro hst him))
  have HL2 := wall hl2
  clear hS hx hl2
  go_enter Tryd.func6, Tryd.ntmps6
  go_wp2_with fail
  (with_reducible refine (awake_any _ HS.out).mono ?_); rintro e w1 ⟨rfl, hB1⟩
  have HB1 := wall hB1
  clear hB1
  try simp only [Act.put, List.setIfInBounds_toArray, List.set_cons_zero, List.set_cons_succ]
  go_wp2_with fail
  have HQK := wall (show Blk (w1.alloc (.cells #[.int .u8 19, .int .u8 5, .int .u8 0, .int .u8 0, .int .u32 (imm : Int), .int .u16 0, .int .u8 41, .int .u8 0, .int .u8 0, .int .u8 0, .int .u32 0, .int .u16 0] 42)) w1.heap.size 42 ((Tm.qs imm).flatMap fun q => (inC q).toList).toArray from Blk.new _ _ _)
  have HBQ := wall (below_then HB1.out ((Below.refl _ w1).alloc (Nat.le_refl _) (.cells #[.int .u8 19, .int .u8 5, .int .u8 0, .int .u8 0, .int .u32 (imm : Int), .int .u16 0, .int .u8 41, .int .u8 0, .int .u8 0, .int .u8 0, .int .u32 0, .int .u16 0] 42)) (Nat.le_refl _))
  clear HB1
  generalize w1.alloc (.cells #[.int .u8 19, .int .u8 5, .int .u8 0, .int .u8 0, .int .u32 (imm : Int), .int .u16 0, .int .u8 41, .int .u8 0, .int .u8 0, .int .u8 0, .int .u32 0, .int .u16 0] 42) = w2 at *
  have HCO := wall (fun n (h : n = w1.heap.size) => code_any (some ⟨n, 0, none⟩) 2 2 (Tm.qs imm) w2 rfl (by decide) (by rw [h]; exact ins_blk HQK.out (Tm.qs_ok HN.out.2.2) HQK.out.lt))
  have HTB := wall (Tm.code_tab ⟨imm, HN.out.2.2⟩)
  have HTL := wall (codeL_lt (Tm.qs imm))
  simp only at HTB
  obtain ⟨L, hL⟩ : ∃ y, codeL (Tm.qs imm) = y := ⟨_, rfl⟩
  rw [hL] at HCO HTB HTL
  clear hL HQK
  (with_reducible refine (HCO.out _ rfl).mono ?_); rintro e w3 ⟨v0, rfl, hO, hB3⟩
  obtain ⟨A, cA, rfl, -, hPN, -⟩ := own_nats hO HTL.out
  have hLN := HTB.out.1
  rw [hLN]
  have HPN := wall hPN
  have HB3 := wall (below_then HBQ.out hB3 (Nat.le_refl _))
  clear hO hB3 hPN HBQ HCO
  try simp only [Act.put, List.setIfInBounds_toArray, List.set_cons_zero, List.set_cons_succ]
  go_wp2_with fail
  have HLY := wall (show Calls Tryd.prog 9 #[.int .u8 1, .slice A 8 cA] w3 (LayOut 1 (L.take 1024) w3) from lay_any 1 (by decide) A 8 cA L w3 (HS.out.old HB3.out) HTB.out.1 (by decide) HPN.out)
  rw [show L.take 1024 = L from List.take_of_length_le (by rw [HTB.out.1]; decide)] at HLY
  (with_reducible refine (HLY.out).mono ?_); rintro e w4 ⟨g, m, b1, b2, b4, v, rfl, hL, hB4⟩
  have hB4' := below_then HB3.out hB4 (Nat.le_refl _)
  have HF := wall (show From w4 (fun W => Spans W ∧ Ly W w3.heap.size g m b1 b2 b4 v 1 L (splice z4k 0 L) ∧ Below w.heap.size w W ∧ Nats .u32 4294967296 W W.heap.size B xs) from fun W k => ⟨HS.out.old (below_then hB4' k (Nat.le_refl _)), hL.old k, below_then hB4' k (Nat.le_refl _), nats_step HX.out (below_then hB4' k (Nat.le_refl _))⟩)
  clear hL hB4 hB4' HLY HB3 HPN HS HX
  try simp only [Act.put, List.setIfInBounds_toArray, List.set_cons_zero, List.set_cons_succ]
  go_wp2_with fail
  (with_reducible refine (HSA.out _ HF.out.now.2.2.2).mono ?_); rintro e w5 ⟨rfl, hB5⟩
  have HB5 := wall hB5
  clear hB5 HSA
  have HRZ := wall (show Rc (crC crZ) crZ from ⟨crZ_ok, rfl⟩)
  have HR0 := wall (show Rc (crC (regs (newC 536870912) xs lenB)) (regs (newC 536870912) xs lenB) from ⟨HOK.out, rfl⟩)
  have HR1 := wall (show Rc (crC ((regs (newC 536870912) xs lenB).set 34 (ie / 128 % 2 * 128))) ((regs (newC 536870912) xs lenB).set 34 (ie / 128 % 2 * 128)) from ⟨HOK.out.set _ _ (by omega), rfl⟩)
  have HR2 := wall (show Rc (crC (((regs (newC 536870912) xs lenB).set 34 (ie / 128 % 2 * 128)).set 33 (st / 8 % 2 * 8 + st / 128 % 2 * 128))) (((regs (newC 536870912) xs lenB).set 34 (ie / 128 % 2 * 128)).set 33 (st / 8 % 2 * 8 + st / 128 % 2 * 128)) from ⟨HR1.out.ok.set _ _ (by omega), rfl⟩)
  have HR3 := wall (show Rc (crC (Tm.c3 xs ie st)) (Tm.c3 xs ie st) from ⟨by unfold Tm.c3; rw [HL2.out]; exact HR2.out.ok.set _ _ (by decide), rfl⟩)
  have HS1 := wall (fun W => set_772 _ HR0.out.ok ie W HN.out.1)
  have HS2 := wall (fun W => set_768 _ HR1.out.ok st W HN.out.2.1)
  have HS3 := wall (fun W => show Calls Tryd.prog 17 #[.agg (crC (((regs (newC 536870912) xs lenB).set 34 (ie / 128 % 2 * 128)).set 33 (st / 8 % 2 * 8 + st / 128 % 2 * 128))), .int .u16 773, .int .u32 536870916] W (SetOut (Tm.c3 xs ie st) W) from by
    have h := set_773 _ HR2.out.ok 536870916 W (by decide)
    unfold Tm.c3
    rw [HL2.out]
    exact h)
  have HG := wall (Tm.c3_g xs ie st (by rw [HL2.out]; exact HOK.out))
  unfold SetOut at HS1 HS2 HS3
  obtain ⟨c, hc⟩ : ∃ y, Tm.c3 xs ie st = y := ⟨_, rfl⟩
  rw [hc] at HR3 HS3 HG
  have HZ := wall cr_zero
  have HZR := wall ref_zero
  have HE := wall ev_zero
  obtain ⟨D0, hD0⟩ : ∃ y, crC (regs (newC 536870912) xs lenB) = y := ⟨_, rfl⟩
  obtain ⟨D1, hD1⟩ : ∃ y, crC ((regs (newC 536870912) xs lenB).set 34 (ie / 128 % 2 * 128)) = y := ⟨_, rfl⟩
  obtain ⟨D2, hD2⟩ : ∃ y, crC (((regs (newC 536870912) xs lenB).set 34 (ie / 128 % 2 * 128)).set 33 (st / 8 % 2 * 8 + st / 128 % 2 * 128)) = y := ⟨_, rfl⟩
  obtain ⟨D, hD⟩ : ∃ y, crC c = y := ⟨_, rfl⟩
  obtain ⟨Z, hZ⟩ : ∃ y, crC crZ = y := ⟨_, rfl⟩
  obtain ⟨E, hE⟩ : ∃ y, evZ = y := ⟨_, rfl⟩
  have HEQ := wall hE
  rw [hD0]
  rw [hD0] at HR0 HS1
  rw [hD1] at HR1 HS1 HS2
  rw [hD2] at HR2 HS2 HS3
  rw [hD] at HR3 HS3
  rw [hZ] at HZ HZR HRZ
  rw [hE] at HE
  have HRR := wall (show (Tryd.prog.info? 37).map (·.size) = some D0.size from by rw [← hD0, crC_size HOK.out]; exact ref_info)
  clear hc hD0 hD1 hD2 hD hZ hE HOK
  try simp only [Act.put, List.setIfInBounds_toArray, List.set_cons_zero, List.set_cons_succ]
  go_wp2_with (first | (refine wpList_two_new 34 37 11 12 (.tmp 35) (.tmp 36) rfl rfl rfl rfl rfl rfl rfl rfl rfl rfl rfl rfl Z Z D0 D0 HZ.out HZR.out w5.heap.size rfl rfl rfl rfl rfl (HR0.out.row HRZ.out) ⟨HRR.out, HR0.out.sz HRZ.out, HR0.out.one⟩ ?_; intro w6 K6 K6r F6; clear K6r; simp only [Act.put, List.setIfInBounds_toArray, List.set_cons_zero, List.set_cons_succ]) | (refine wpList_load_row rfl 34 _ rfl w5.heap.size rfl 34 D0 (0, 0) _ K6.out Tryd.underlying34 rfl HR0.out.info ?_))
  have HB6 := wall (below_then HB5.out F6.out (Nat.le_refl _))
  obtain ⟨g9, hg9⟩ : ∃ y, w5.heap.size = y := ⟨_, rfl⟩
  have H9 := wall (show w4.heap.size ≤ g9 by rw [← hg9]; exact HB5.out.size)
  rw [hg9] at K6 ⊢
  clear F6 HB5 hg9
  (with_reducible refine (HS1.out _).mono ?_); rintro e w7 ⟨rfl, hB7⟩
  have K7 := wall (K6.out.next hB7 rfl)
  have HB7 := wall (below_then HB6.out hB7 (Nat.le_refl _))
  clear hB7 K6 HB6 HS1
  try simp only [Act.put, List.setIfInBounds_toArray, List.set_cons_zero, List.set_cons_succ]
  go_wp2_with (first | (refine wpList_set_row rfl 34 (.tmp 11) (.tmp 41) rfl g9 D1 rfl rfl 34 D0 K7.out HR1.out.info (HR1.out.sz HR0.out) HR1.out.one ?_; intro w8 K8 F8) | (refine wpList_load_row rfl 34 _ rfl g9 rfl 34 D1 (0, 0) _ K8.out Tryd.underlying34 rfl HR1.out.info ?_))
  have HB8 := wall (Below.frm HB7.out F8.out (Nat.le_refl _) (by simp; exact H9.out))
  replace K8 := wall K8.out
  clear F8 HB7 K7
  (with_reducible refine (HS2.out _).mono ?_); rintro e w9 ⟨rfl, hB9⟩
  have K9 := wall (K8.out.next hB9 rfl)
  have HB9 := wall (below_then HB8.out hB9 (Nat.le_refl _))
  clear hB9 K8 HB8 HS2 HR0
  try simp only [Act.put, List.setIfInBounds_toArray, List.set_cons_zero, List.set_cons_succ]
  go_wp2_with (first | (refine wpList_set_row rfl 34 (.tmp 11) (.tmp 47) rfl g9 D2 rfl rfl 34 D1 K9.out HR2.out.info (HR2.out.sz HR1.out) HR2.out.one ?_; intro w10 K10 F10) | (refine wpList_load_row rfl 34 _ rfl g9 rfl 34 D2 (0, 0) _ K10.out Tryd.underlying34 rfl HR2.out.info ?_))
  have HB10 := wall (Below.frm HB9.out F10.out (Nat.le_refl _) (by simp; exact H9.out))
  replace K10 := wall K10.out
  clear F10 HB9 K9
  (with_reducible refine (HS3.out _).mono ?_); rintro e w11 ⟨rfl, hB11⟩
  have K11 := wall (K10.out.next hB11 rfl)
  have HB11 := wall (below_then HB10.out hB11 (Nat.le_refl _))
  clear hB11 K10 HB10 HS3 HR1
  try simp only [Act.put, List.setIfInBounds_toArray, List.set_cons_zero, List.set_cons_succ]
  go_wp2_with (first | (refine wpList_set_row rfl 34 (.tmp 11) (.tmp 52) rfl g9 D rfl rfl 34 D2 K11.out HR3.out.info (HR3.out.sz HR2.out) HR3.out.one ?_; intro w12 K12 F12) | (refine wpList_load_row rfl 34 _ rfl g9 rfl 34 D (0, 0) _ K12.out Tryd.underlying34 rfl HR3.out.info ?_))
  have HB12 := wall (Below.frm HB11.out F12.out (Nat.le_refl _) (by simp; exact H9.out))
  replace K12 := wall K12.out
  clear F12 HB11 K11 HR2
  have HLN := wall hLN
  have HRM := wall (show ∀ j, j < 8 → v.ram[j]? = some (L.getD j 0) from fun j hj => by
    rw [HF.out.now.2.1.vr]
    exact splice_at (by rw [HLN.out]; exact hj) (Tm.getD_at (by rw [HLN.out]; exact hj)))
  clear hLN
  have HF12 := wall (HF.out.at HB12.out)
  by_cases hlet : ie / 128 % 2 = 1 ∧ st / 8 % 2 = 1
  · have HST := wall (step_timed c HR3.out.ok g w12 (by rw [HG.out.2.2.2.1]; exact hlet.1) (by rw [HG.out.2.2.1]; exact hlet.2))
    have HLT := wall hlet
    clear hlet
    unfold StepOut at HST
    rw [HR3.out.eq, HG.out.2.1] at HST
    have HOT := wall (show (trapC (c.time true) 2147483655 536870912).Ok from Cr.Ok.trap (HR3.out.ok.time true) (by decide) (by decide))
    have HGT := wall (Tm.trap_g (c.time true) HG.out.2.2.2.2.2 2147483655 536870912)
    rw [Cr.g_time, Cr.g_time, Cr.g_time, HG.out.1, HG.out.2.1, HG.out.2.2.2.2.1] at HGT
    have HTK := wall (Tm.trap_take c true 2147483655 536870912)
    have HRT := wall (show Rc (crC (trapC (c.time true) 2147483655 536870912)) (trapC (c.time true) 2147483655 536870912) from ⟨HOT.out, rfl⟩)
    have HRE := wall (Re.of true 2147483655 zIn 0 none 0 0)
    obtain ⟨ct, hct⟩ : ∃ y, trapC (c.time true) 2147483655 536870912 = y := ⟨_, rfl⟩
    rw [hct] at HST HGT HRT HTK HOT
    -- the trap's program: back
    have HS2 := wall (fun W (h : Below w4.heap.size w4 W) => step_late ct HOT.out g v 4 (L.getD 4 0) (L.getD 5 0) (L.getD 6 0) (L.getD 7 0) Tm.mI (retC (ct.time true)) (evC false 0 Tm.mI 0 none 0 0) W (HF.out.at h).1 (HF.out.at h).2.1.ok (HF.out.at h).2.1.sp (by rw [(HF.out.at h).2.1.vs]; decide) (by rw [HGT.out.2.1]) (.inr HGT.out.2.2.1) (by rw [(HF.out.at h).2.1.vs, HGT.out.2.1]; exact Tm.chk4) (by decide) (HRM.out 4 (by decide)) (HRM.out 5 (by decide)) (HRM.out 6 (by decide)) (HRM.out 7 (by decide)) HTB.out.2.2 (HOT.out.time true).ret ev_info rfl (evC_one _ _ _ _ _ _ _) (fun W' => do_mret (ct.time true) (HOT.out.time true) _ 0 0 0 0 0 _ W' (by decide) (by decide)))
    have HRB := wall (show Rc (crC (retC (ct.time true))) (retC (ct.time true)) from ⟨(HOT.out.time true).ret, rfl⟩)
    have HGB := wall (Tm.ret_g (ct.time true) HGT.out.2.2.2.2)
    rw [Cr.g_time, Cr.g_time, HGT.out.1, HGT.out.2.2.2.1] at HGB
    have HRF := wall (Re.of false 0 Tm.mI 0 none 0 0)
    unfold StepOut at HS2
    rw [HRT.out.eq] at HS2
    obtain ⟨cb, hcb⟩ : ∃ y, retC (ct.time true) = y := ⟨_, rfl⟩
    rw [hcb] at HS2 HGB HRB
    have HS3 := wall (fun W (h : Below w4.heap.size w4 W) => step_pure cb HRB.out.ok g v 0 (L.getD 0 0) (L.getD 1 0) (L.getD 2 0) (L.getD 3 0) (addiI 5 0 imm) (addiC (cb.time false) 5 0 imm) (evC false 0 (addiI 5 0 imm) 0 none 0 0) W (HF.out.at h).1 (HF.out.at h).2.1.ok (HF.out.at h).2.1.sp (by rw [(HF.out.at h).2.1.vs]; decide) (by rw [HGB.out.2.1]) (by rw [(HF.out.at h).2.1.vs, HGB.out.2.1]; exact aw_chk) (by decide) (HRM.out 0 (by decide)) (HRM.out 1 (by decide)) (HRM.out 2 (by decide)) (HRM.out 3 (by decide)) HTB.out.2.1 (((HRB.out.ok.time false).with _ _ (by omega)).next) ev_info rfl (evC_one _ _ _ _ _ _ _) (fun W' => do_addi (cb.time false) (HRB.out.ok.time false) _ 5 0 imm _ W' (by decide) (by decide) (by have := HN.out.2.2; omega)))
    have HGN := wall (Tm.addi_g (cb.time false) HGB.out.2.2 HGB.out.1 imm HN.out.2.2)
    have HRN := wall (show Rc (crC (addiC (cb.time false) 5 0 imm)) (addiC (cb.time false) 5 0 imm) from ⟨((HRB.out.ok.time false).with _ _ (by omega)).next, rfl⟩)
    have HRH := wall (Re.of false 0 (addiI 5 0 imm) 0 none 0 0)
    unfold StepOut at HS3
    rw [HRB.out.eq] at HS3
    obtain ⟨cn, hcn⟩ : ∃ y, addiC (cb.time false) 5 0 imm = y := ⟨_, rfl⟩
    rw [hcn] at HS3 HGN HRN
    have HRG := wall (fun (W : World) (b : Nat) (h : Blk W b 34 D) => regs_range (c := c) (show Blk W b 34 (crC c) by rw [HR3.out.eq]; exact h) HR3.out.ok)
    have HRG' := wall (fun (W : World) (b : Nat) (h : Blk W b 34 (crC ct)) => regs_range h HOT.out)
    have HXI := wall (show (Tryd.prog.info? 30).map (·.size) = some (x32 (c.l.take 32)).length by
      rw [show (x32 (c.l.take 32)).length = 32 by simp only [x32, List.length_map]; exact regs_len HR3.out.ok]
      kernel_rfl)
    have HAQ := wall (fun W => eq_same W 30 (c.l.take 32) (regs_len HR3.out.ok) Tryd.underlying30)
    rw [HTK.out] at HRG'
    obtain ⟨XL, hXL⟩ : ∃ y, x32 (c.l.take 32) = y := ⟨_, rfl⟩
    rw [hXL] at HRG HRG' HXI HAQ
    obtain ⟨DT, hDT⟩ : ∃ y, crC ct = y := ⟨_, rfl⟩
    obtain ⟨V, hV⟩ : ∃ y, evC true 2147483655 zIn 0 none 0 0 = y := ⟨_, rfl⟩
    obtain ⟨DB, hDB⟩ : ∃ y, crC cb = y := ⟨_, rfl⟩
    obtain ⟨VB, hVB⟩ : ∃ y, evC false 0 Tm.mI 0 none 0 0 = y := ⟨_, rfl⟩
    obtain ⟨DN, hDN⟩ : ∃ y, crC cn = y := ⟨_, rfl⟩
    obtain ⟨VN, hVN⟩ : ∃ y, evC false 0 (addiI 5 0 imm) 0 none 0 0 = y := ⟨_, rfl⟩
    rw [hDT] at HST HRT HRG' HS2
    rw [hV] at HST HRE
    rw [hDB] at HS2 HRB HS3
    rw [hVB] at HS2 HRF
    rw [hDN] at HS3 HRN
    rw [hVN] at HS3 HRH
    clear hct hcb hcn hXL hDT hV hDB hVB hDN hVN HTK HTB HRM HF12
    (with_reducible refine (HST.out).mono ?_); rintro e w13 ⟨rfl, hB13⟩
    have HB13 := wall (below_then HB12.out hB13 (Nat.le_refl _))
    have K13 := wall (K12.out.next hB13 rfl)
    clear hB13 HB12 HST K12
    try simp only [Act.put, List.setIfInBounds_toArray, List.set_cons_zero, List.set_cons_succ]
    go_upto_region 9 with (refine wpList_two_new 34 44 13 14 (.tmp 58) (.tmp 59) rfl rfl rfl rfl rfl rfl rfl rfl rfl rfl rfl rfl Z E DT V HZ.out HE.out w13.heap.size rfl rfl rfl rfl rfl (HRT.out.row HRZ.out) (HRE.out.row HEQ.out.symm) ?_; intro w14 K14 V14 F14; simp only [Act.put, List.setIfInBounds_toArray, List.set_cons_zero, List.set_cons_succ])
    have HB14 := wall (below_then HB13.out F14.out (Nat.le_refl _))
    have K9 := wall (K13.out.next F14.out rfl)
    have kv0 : w14.cell? ⟨w13.heap.size + 1, 0, none⟩ = some (.bool true) := by rw [V14.out.cell]; exact HRE.out.v0
    have kv1 : w14.cell? ⟨w13.heap.size + 1, 1, none⟩ = some (.int .u32 2147483655) := by rw [V14.out.cell]; exact HRE.out.v1
    have k32 : w14.cell? ⟨w13.heap.size, 32, none⟩ = some (.int .u32 536870916) := by rw [HRT.out.cell K14.out (by decide), HGT.out.2.1]; rfl
    have hr1 := wall (HRG.out w14 g9 K9.out)
    have hr2 := wall (HRG'.out w14 w13.heap.size K14.out)
    have heq := HAQ.out
    have hp : ((ie : Int) / 128 % 2 == 1) = true := by rw [beq_iff_eq]; have := HLT.out.1; omega
    have hq : ((st : Int) / 8 % 2 == 1) = true := by rw [beq_iff_eq]; have := HLT.out.2; omega
    clear F14 HB13 K13 HRG HRG'
    go_upto_region 16 with (first | refine load_mid_g (by rfl) 30 _ rfl w13.heap.size 0 rfl XL _ hr2.out Tryd.underlying30 rfl HXI.out ?_ | refine load_mid_g (by rfl) 30 _ rfl g9 0 rfl XL _ hr1.out Tryd.underlying30 rfl HXI.out ?_)
    clear kv0 kv1 k32 hp hq heq hr1 hr2
    go_wp2_with (refine wpList_load_row rfl 34 _ rfl w13.heap.size rfl 34 DT (0, 0) _ K14.out Tryd.underlying34 rfl HRT.out.info ?_)
    (with_reducible refine (HS2.out _ HB14.out).mono ?_); rintro e w15 ⟨rfl, hB15⟩
    have HB15 := wall (below_then HB14.out hB15 (Nat.le_refl _))
    clear hB15 HS2 K14 V14 HB14
    try simp only [Act.put, List.setIfInBounds_toArray, List.set_cons_zero, List.set_cons_succ]
    go_upto_region 17 with (refine wpList_two_new 34 44 16 17 (.tmp 106) (.tmp 107) rfl rfl rfl rfl rfl rfl rfl rfl rfl rfl rfl rfl Z E DB VB HZ.out HE.out w15.heap.size rfl rfl rfl rfl rfl (HRB.out.row HRZ.out) (HRF.out.row HEQ.out.symm) ?_; intro w16 K16 V16 F16; simp only [Act.put, List.setIfInBounds_toArray, List.set_cons_zero, List.set_cons_succ])
    have HB16 := wall (below_then HB15.out F16.out (Nat.le_refl _))
    clear F16 HB15
    go_wp2_with (refine wpList_load_row rfl 34 _ rfl w15.heap.size rfl 34 DB (0, 0) _ K16.out Tryd.underlying34 rfl HRB.out.info ?_)
    (with_reducible refine (HS3.out _ HB16.out).mono ?_); rintro e w17 ⟨rfl, hB17⟩
    have HB17 := wall (below_then HB16.out hB17 (Nat.le_refl _))
    have K17 := wall (K16.out.next hB17 rfl)
    have V17 := wall (V16.out.next hB17 rfl)
    clear hB17 HS3 K16 V16 HB16
    try simp only [Act.put, List.setIfInBounds_toArray, List.set_cons_zero, List.set_cons_succ]
    go_upto_region 18 with (refine wpList_two_new 34 44 18 19 (.tmp 112) (.tmp 113) rfl rfl rfl rfl rfl rfl rfl rfl rfl rfl rfl rfl Z E DN VN HZ.out HE.out w17.heap.size rfl rfl rfl rfl rfl (HRN.out.row HRZ.out) (HRH.out.row HEQ.out.symm) ?_; intro w18 K18 V18 F18; simp only [Act.put, List.setIfInBounds_toArray, List.set_cons_zero, List.set_cons_succ])
    have HB18 := wall (below_then HB17.out F18.out (Nat.le_refl _))
    have K19 := wall (K17.out.next F18.out rfl)
    have V19 := wall (V17.out.next F18.out rfl)
    have k1 : w18.cell? ⟨w15.heap.size + 1, 0, none⟩ = some (.bool false) := by rw [V19.out.cell]; exact HRF.out.v0
    have k2 : w18.cell? ⟨w15.heap.size, 32, none⟩ = some (.int .u32 536870912) := by rw [HRB.out.cell K19.out (by decide), HGB.out.2.1]; rfl
    have k3 : w18.cell? ⟨w17.heap.size + 1, 0, none⟩ = some (.bool false) := by rw [V18.out.cell]; exact HRH.out.v0
    have k4 : w18.cell? ⟨w17.heap.size, 5, none⟩ = some (.int .u32 (imm : Int)) := by rw [HRN.out.cell K18.out (by decide), HGN.out.1]
    have HBF := wall (below_then (show Below w.heap.size w w4 from HF.out.now.2.2.1) HB18.out (Nat.le_refl _))
    clear F18 HB17 K17 V17 K19 V19 K18 V18 HB18 HF HRE HRN HGN HZ HE HZR HRR HRZ HR3 HG HRB HGB HRF HRH HRT HGT
    go_wp2_with fail
    go_light
    go_ret
    exact ⟨rfl, HBF.out⟩
  · have hnl : c.g 34 / 128 % 2 = 0 ∨ c.g 33 / 8 % 2 = 0 := by
      rw [HG.out.2.2.1, HG.out.2.2.2.1]
      omega
    have HLT := wall hlet
    have HST := wall (step_late c HR3.out.ok g v 0 (L.getD 0 0) (L.getD 1 0) (L.getD 2 0) (L.getD 3 0) (addiI 5 0 imm) (addiC (c.time true) 5 0 imm) (evC false 0 (addiI 5 0 imm) 0 none 0 0) w12 HF12.out.1 HF12.out.2.1.ok HF12.out.2.1.sp (by rw [HF12.out.2.1.vs]; decide) (by rw [HG.out.2.1]) hnl (by rw [HF12.out.2.1.vs, HG.out.2.1]; exact aw_chk) (by decide) (HRM.out 0 (by decide)) (HRM.out 1 (by decide)) (HRM.out 2 (by decide)) (HRM.out 3 (by decide)) HTB.out.2.1 (((HR3.out.ok.time true).with _ _ (by omega)).next) ev_info rfl (evC_one _ _ _ _ _ _ _) (fun W => do_addi (c.time true) (HR3.out.ok.time true) _ 5 0 imm _ W (by decide) (by decide) (by have := HN.out.2.2; omega)))
    clear hlet hnl
    have HGN := wall (Tm.addi_g (c.time true) HG.out.2.2.2.2.2 HG.out.1 imm HN.out.2.2)
    have HRN := wall (show Rc (crC (addiC (c.time true) 5 0 imm)) (addiC (c.time true) 5 0 imm) from ⟨((HR3.out.ok.time true).with _ _ (by omega)).next, rfl⟩)
    have HRE := wall (Re.of false 0 (addiI 5 0 imm) 0 none 0 0)
    rw [Cr.g_time, HG.out.2.1] at HGN
    unfold StepOut at HST
    rw [HR3.out.eq] at HST
    obtain ⟨cn, hcn⟩ : ∃ y, addiC (c.time true) 5 0 imm = y := ⟨_, rfl⟩
    rw [hcn] at HST HGN HRN
    obtain ⟨DN, hDN⟩ : ∃ y, crC cn = y := ⟨_, rfl⟩
    obtain ⟨V, hV⟩ : ∃ y, evC false 0 (addiI 5 0 imm) 0 none 0 0 = y := ⟨_, rfl⟩
    rw [hDN] at HST HRN
    rw [hV] at HST HRE
    clear hcn hDN hV
    (with_reducible refine (HST.out).mono ?_); rintro e w13 ⟨rfl, hB13⟩
    have HB13 := wall (below_then HB12.out hB13 (Nat.le_refl _))
    clear hB13 HB12 HST
    try simp only [Act.put, List.setIfInBounds_toArray, List.set_cons_zero, List.set_cons_succ]
    go_upto_region 9 with (refine wpList_two_new 34 44 13 14 (.tmp 58) (.tmp 59) rfl rfl rfl rfl rfl rfl rfl rfl rfl rfl rfl rfl Z E DN V HZ.out HE.out w13.heap.size rfl rfl rfl rfl rfl (HRN.out.row HRZ.out) (HRE.out.row HEQ.out.symm) ?_; intro w14 K14 V14 F14; simp only [Act.put, List.setIfInBounds_toArray, List.set_cons_zero, List.set_cons_succ])
    have HB14 := wall (below_then HB13.out F14.out (Nat.le_refl _))
    have kv0 : w14.cell? ⟨w13.heap.size + 1, 0, none⟩ = some (.bool false) := by rw [V14.out.cell]; exact HRE.out.v0
    have k5 : w14.cell? ⟨w13.heap.size, 5, none⟩ = some (.int .u32 (imm : Int)) := by rw [HRN.out.cell K14.out (by decide), HGN.out.1]
    have k32 : w14.cell? ⟨w13.heap.size, 32, none⟩ = some (.int .u32 536870916) := by rw [HRN.out.cell K14.out (by decide), HGN.out.2]; rfl
    clear F14 HB13
    have HBF := wall (below_then (show Below w.heap.size w w4 from HF.out.now.2.2.1) HB14.out (Nat.le_refl _))
    clear HB14 HF HF12 HRM HTB HRE HRN HGN HZ HE HZR HRR HRZ HR3 HG
    obtain ⟨p, hp⟩ : ∃ p, ((ie : Int) / 128 % 2 == 1) = p := ⟨_, rfl⟩
    obtain ⟨q, hq⟩ : ∃ q, ((st : Int) / 8 % 2 == 1) = q := ⟨_, rfl⟩
    have HPQ := wall (show ¬ (p = true ∧ q = true) from fun h => by
      rw [h.1, beq_iff_eq] at hp
      rw [h.2, beq_iff_eq] at hq
      exact HLT.out ⟨by omega, by omega⟩)
    cases p with
    | true =>
      cases q with
      | true => exact absurd ⟨rfl, rfl⟩ HPQ.out
      | false =>
        go_wp2_with fail
        go_light
        go_ret
        exact ⟨rfl, HBF.out⟩
    | false =>
      go_wp2_with fail
      go_light
      go_ret
      exact ⟨rfl, HBF.out⟩
end Core
end Go.Proofs.YtfiojpdkbckopaaDoor

/-
  CoreTimer, its arguments as the law's frame gives them.
-/
set_option linter.unusedSimpArgs false
set_option linter.unusedVariables false
namespace Go.Proofs.YtfiojpdkbckopaaDoor
open Go.RowKit

namespace Core
open Otp Sha R1 Spc Grant Rv
theorem timer_frame (B : Option Addr) (lb cb : Nat) (xs : List Nat) (ie st im : Int) (w : World) (hS : Spans w) (h1 : (Lit.int .u32 ie).wf = true) (h2 : (Lit.int .u32 st).wf = true) (h3 : (Lit.int .u8 im).wf = true)
    (hl2 : xs.length = lb) (hm2 : lb ≤ maxLen) (hx : Nats .u32 4294967296 w w.heap.size B xs) :
    Calls Tryd.prog 6 #[.slice B lb cb, .int .u32 ie, .int .u32 st, .int .u8 im] w (TrueB w) := by
  have b1 := bounds_u32 h1
  have b2 := bounds_u32 h2
  have b3 := bounds_u8 h3
  have e1 : ie = ((ie.toNat : Nat) : Int) := by omega
  have e2 : st = ((st.toNat : Nat) : Int) := by omega
  have e3 : im = ((im.toNat : Nat) : Int) := by omega
  rw [e1, e2, e3]
  exact timer_any B lb cb xs ie.toNat st.toNat im.toNat w hS (by omega) (by omega) (by omega) hl2 hm2 hx
end Core
end Go.Proofs.YtfiojpdkbckopaaDoor
