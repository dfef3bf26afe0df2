/-
  Texts of this claim, joined: CorPt, CorRu.
-/
import Derived.Test.YtfiojpdkbckopaaDoorJ3e3727c1
import Derived.Test.YtfiojpdkbckopaaDoorJ52897fec
import Derived.Test.YtfiojpdkbckopaaDoorJ7c1a3828
import Derived.Test.YtfiojpdkbckopaaDoorJ82af92fd
import Derived.Test.YtfiojpdkbckopaaDoorJba15e4fd
import Derived.Deep.CutBlock
import Derived.Deep.LoopGhost
set_option linter.unusedVariables false
/-
  Where a space's flash and chip lie doesn't matter to a core. No walk.
-/
set_option linter.unusedSimpArgs false
set_option linter.unusedVariables false
namespace Go.Proofs.YtfiojpdkbckopaaDoor
open Go.RowKit

namespace Core
open Otp Sha Rv Grant Spc R1 Fla
def ptV (v : SpV) (f c : Option Addr) : SpV := { v with fl := f, ch := c }
def ptR (R : Res) (f c : Option Addr) : Res := { R with v := ptV R.v f c }
section
variable (v : SpV) (f c : Option Addr) (F vs : List Nat) (ls : List Bool)
theorem mem_pt (r : Nat) : memB (ptV v f c) r = memB v r := rfl
theorem ld_pt (who : Int) (a n : Nat) : ldR (ptV v f c) F vs ls who a n = ldR v F vs ls who a n := by
  unfold ldR
  rw [show (ptV v f c).st = v.st from rfl]
  simp only [mem_pt]
theorem load_pt (co : Cr) (i : In) : loadR (ptV v f c) F vs ls co i = loadR v F vs ls co i := by
  unfold loadR
  simp only [ld_pt]
theorem doP_pt (co : Cr) (i : In) (w : Nat) : doP (ptV v f c) F vs ls co i w = doP v F vs ls co i w := by
  unfold doP
  rw [load_pt]
theorem put_pt (r o : Nat) (p : List Nat) : putB (ptV v f c) r o p = ptV (putB v r o p) f c := by
  unfold putB
  split
  · rfl
  · split <;> rfl
theorem st_pt (who : Int) (a : Nat) (p : List Nat) : stR (ptV v f c) who a p = ((stR v who a p).1, ptV (stR v who a p).2 f c) := by
  unfold stR
  rw [show (ptV v f c).st = v.st from rfl]
  split
  · rfl
  · split
    · rfl
    · rw [put_pt]
theorem store_pt (co : Cr) (i : In) : storeR (ptV v f c) co i = ptR (storeR v co i) f c := by
  unfold storeR
  rw [st_pt]
  split
  · rfl
  · split <;> rfl
theorem doR_pt (co : Cr) (i : In) (w : Nat) : doR (ptV v f c) F vs ls co i w = ptR (doR v F vs ls co i w) f c := by
  unfold doR
  rw [doP_pt, store_pt]
  split <;> rfl
theorem stepD_pt (co : Cr) (w : Nat) (d : In × Bool) : stepD (ptV v f c) F vs ls co w d = ptR (stepD v F vs ls co w d) f c := by
  unfold stepD
  rw [doR_pt]
  split <;> rfl
theorem step_pt (co : Cr) (tm : Bool) : stepR (ptV v f c) F vs ls co tm = ptR (stepR v F vs ls co tm) f c := by
  unfold stepR
  rw [show fetchAt (ptV v f c) (co.g 32) = fetchAt v (co.g 32) from rfl, show wordAt (ptV v f c) (fetchAt v (co.g 32)).2.1 = wordAt v (fetchAt v (co.g 32)).2.1 by rw [wordAt, wordAt]; rfl, stepD_pt]
  split
  · rfl
  · split
    · rfl
    · split <;> rfl
end
theorem ptV_ok {v : SpV} (h : v.Ok) (f c : Option Addr) : (ptV v f c).Ok := ⟨h.rl, h.pl, h.rb, h.pb⟩
end Core
end Go.Proofs.YtfiojpdkbckopaaDoor

/-
  CoreRuns.
-/
set_option linter.unusedSimpArgs false
set_option linter.unusedVariables false
namespace Go.Proofs.YtfiojpdkbckopaaDoor
open Go.RowKit

namespace Spc
open Otp Sha Grant R1 Fla
theorem Sw.apart {w w' : World} {g f pf cc p b g' : Nat} {v v' : SpV} {F vs : List Nat} {ls : List Bool} {sd : Bool} (h : Sw w g f pf cc p b v F vs ls sd) (k : Sp w g' v') (hn : g ≠ g') (hf : Frm [g'] w w') : Sw w' g f pf cc p b v F vs ls sd := by
  obtain ⟨T, k1, k2⟩ := h.hF
  obtain ⟨_, _, k3⟩ := h.hC.fz.head
  obtain ⟨_, k4, _⟩ := h.hC.fz.row
  have n1 : g' ≠ f := Blk.ne k k1 (by decide)
  have n2 : g' ≠ pf := Blk.ne k k2 (by decide)
  have n3 : g' ≠ cc := Blk.ne k h.hC.head (by decide)
  have n4 : g' ≠ p := Blk.ne k k3 (by decide)
  have n5 : g' ≠ b := Blk.ne k k4 (by decide)
  exact ⟨h.ok, Blk.frm h.sp hf (by simp; omega), h.fl, h.ch, ⟨T, k1.frm hf (by simp; omega), k2.frm hf (by simp; omega)⟩, h.fb, h.fn, h.hC.frm hf (by simp; omega) (by simp; omega) (by simp; omega)⟩
end Spc
namespace Core
open Otp Sha R1 Spc Grant Rv Fla
theorem spv_eq {v v2 : SpV} {f c : Option Addr} (h1 : v2.st = v.st) (h2 : v2.ram = v.ram) (h3 : v2.prt = v.prt) (h4 : v2.fl = f) (h5 : v2.ch = c) : v2 = ptV v f c := by
  cases v2
  simp only at h1 h2 h3 h4 h5
  subst h1; subst h2; subst h3; subst h4; subst h5
  rfl
theorem u8_plain : Tryd.prog.plainKey 5 = true := by kernel_rfl
theorem u8_under : Tryd.prog.underlying 5 = some (.int .u8) := by kernel_rfl
theorem eqItems_u8 (w : World) (d : Nat) (x : List Nat) : ∀ is : List Nat, (∀ i ∈ is, i < x.length) → (Op.eqItems (d + 1) 5 1 (v8 x).toArray (v8 x).toArray is).run Tryd.prog w = .ok true w
  | [], _ => by simp [Op.eqItems]
  | i :: is, h => by
    have h1 := h i (by simp)
    have p1 : (part 5 (v8 x).toArray (i * 1)).run Tryd.prog w = .ok (.int .u8 ((x[i] : Nat) : Int)) w := run_part_plain w u8_plain (by simp [v8, h1])
    have ih := eqItems_u8 w d x is (fun j hj => h j (by simp [hj]))
    simp only [Op.eqItems, Sem.run_bind, p1, Result.andThen_ok, run_equalIn_int w d 5 .u8 .u8 _ _ u8_under]
    simp only [beq_self_eq_true, Bool.not_true, Bool.false_eq_true, if_false]
    exact ih
theorem ram_same (w : World) (t : TypeId) (x : List Nat) (hx : x.length = 8192) (hu : Tryd.prog.underlying t = some (.array 8192 5)) : (Op.equalIn 10000 t (.agg (v8 x).toArray) (.agg (v8 x).toArray)).run Tryd.prog w = .ok true w := by
  have hs : (Tryd.prog.info? 5).isSome = true := by kernel_rfl
  obtain ⟨i, hi⟩ := Option.isSome_iff_exists.1 hs
  have hc : Tryd.prog.cellsOf 5 = 1 := by kernel_rfl
  have h1 := run_equalIn_array w 9999 (v8 x).toArray (v8 x).toArray hu hi
  rw [hc] at h1
  have h2 := eqItems_u8 w 9998 x (List.range 8192) (fun j hj => by have := List.mem_range.1 hj; omega)
  exact (show _ = _ from h1).trans h2
theorem ram_range {W : World} {g : Nat} {v : SpV} (h : Sp W g v) : W.rangeAt g 1 (v8 v.ram) := fun j x hx => by
  obtain ⟨y, hy, rfl⟩ : ∃ y, v.ram[j]? = some y ∧ x = .int .u8 (y : Int) := by
    unfold v8 at hx
    rw [List.getElem?_map] at hx
    obtain ⟨y, hy, rfl⟩ := Option.map_eq_some_iff.1 hx
    exact ⟨y, hy, rfl⟩
  exact h.ram hy
set_option maxRecDepth 100000 in
set_option maxHeartbeats 4000000 in
theorem runs_any (A : Option Addr) (lenA capA : Nat) (q : List Nat) (n : Int) (B : Option Addr) (lenB capB : Nat) (xs : List Nat) (w : World) (hS : Spans w) (hn : (Lit.int .i64 n).wf = true)
    (hl : q.length = lenA) (hm : lenA ≤ maxLen) (hq : Nats .u8 256 w w.heap.size A q) (hl2 : xs.length = lenB) (hm2 : lenB ≤ maxLen) (hx : Nats .u32 4294967296 w w.heap.size B xs) :
    Calls Tryd.prog 4 #[.slice A lenA capA, .int .i64 n, .slice B lenB capB] w (TrueB w) := by
  have HS := wall hS
  have HQ := wall hq
  have HX := wall hx
  have HLA := wall (fun W (h1 : Spans W) (h2 : Nats .u8 256 W W.heap.size A q) => show Calls Tryd.prog 9 #[.int .u8 1, .slice A lenA capA] W (LayOut2 1 (q.take 1024) W) from lay2_any 1 (by decide) A lenA capA q W h1 hl hm h2)
  have HSA := wall (fun W (h2 : Nats .u32 4294967296 W W.heap.size B xs) => show Calls Tryd.prog 10 #[.int .u32 536870912, .slice B lenB capB, .slice none 0 0] W (StartOut (regs (newC 536870912) xs lenB) W) from start_any 536870912 (by decide) B lenB capB xs W hl2 hm2 h2)
  have HOK := wall (regs_ok (newC_ok (show 536870912 < 4294967296 by decide)) (fun j y hy => (hx j y hy).1) lenB)
  clear hS hq hx hl hl2 hm hm2
  obtain ⟨c0, hc0⟩ : ∃ y, regs (newC 536870912) xs lenB = y := ⟨_, rfl⟩
  rw [hc0] at HSA HOK
  clear hc0
  go_enter Tryd.func4, Tryd.ntmps4
  go_wp2_with fail
  (with_reducible refine (awake_any _ HS.out).mono ?_); rintro e w1 ⟨rfl, hB1⟩
  have HB1 := wall hB1
  clear hB1
  try simp only [Act.put, List.setIfInBounds_toArray, List.set_cons_zero, List.set_cons_succ]
  go_wp2_with fail
  obtain ⟨z, hz⟩ : ∃ z, min n 60 = z := ⟨_, rfl⟩
  have hz60 : z ≤ 60 := by omega
  have HZZ := wall (show z.toNat ≤ 1000000 by omega)
  rw [hz]
  clear hz hn
  (with_reducible refine (HLA.out _ (HS.out.old HB1.out) (nats_step HQ.out HB1.out)).mono ?_); rintro e w2 ⟨g, m, b1, b2, b4, v, rfl, hLy, hB2, f, pf, cc, pp, bb, hSw⟩
  have HSW := wall hSw
  have HVR := wall (And.intro hLy.vs (And.intro hLy.vr (And.intro hLy.vp (Nat.le_trans HB1.out.size hLy.hg))))
  have HB2 := wall (below_then HB1.out hB2 (Nat.le_refl _))
  clear hLy hB2 hSw HB1
  try simp only [Act.put, List.setIfInBounds_toArray, List.set_cons_zero, List.set_cons_succ]
  go_wp2_with fail
  (with_reducible refine (HLA.out _ (HS.out.old HB2.out) (nats_step HQ.out HB2.out)).mono ?_); rintro e w3 ⟨g2, m2, b12, b22, b42, v2, rfl, hLy, hB3, f2, pf2, cc2, pp2, bb2, hSw⟩
  have HSW2 := wall hSw
  have HNE := wall (show g ≠ g2 ∧ w.heap.size ≤ g2 from ⟨by have h1 : g < w2.heap.size := Blk.lt HSW.out.sp; have h2 : w2.heap.size ≤ g2 := hLy.hg; omega, Nat.le_trans HB2.out.size hLy.hg⟩)
  have HPT := wall (show v2 = ptV v (some ⟨f2, 0, none⟩) (some ⟨cc2, 0, none⟩) from spv_eq (hLy.vs.trans HVR.out.1.symm) (hLy.vr.trans HVR.out.2.1.symm) (hLy.vp.trans HVR.out.2.2.1.symm) hSw.fl hSw.ch)
  have HSW3 := wall (HSW.out.old hB3)
  have HB3 := wall (below_then HB2.out hB3 (Nat.le_refl _))
  have HST := wall (show v.st = 1 ∨ v.st = 2 from .inl HVR.out.1)
  have HGW := wall HVR.out.2.2.2
  clear hLy hB3 hSw HB2 HSW HLA HVR HQ
  try simp only [Act.put, List.setIfInBounds_toArray, List.set_cons_zero, List.set_cons_succ]
  go_wp2_with fail
  (with_reducible refine (HSA.out _ (nats_step HX.out HB3.out)).mono ?_); rintro e w4 ⟨rfl, hB4⟩
  replace HSW2 := wall (HSW2.out.old hB4)
  have HSW4 := wall (HSW3.out.old hB4)
  have HB4 := wall (below_then HB3.out hB4 (Nat.le_refl _))
  clear hB4 HB3 HSW3 HX HSA
  have HG24 := wall (show g2 < w4.heap.size from HSW2.out.lts.1)
  have HL1 := wall HSW4.out.lts
  have HL2 := wall HSW2.out.lts
  have HZ := wall cr_zero
  have HZR := wall ref_zero
  have HE := wall ev_zero
  have HR0 := wall (show Rc (crC c0) c0 from ⟨HOK.out, rfl⟩)
  have HRZ := wall (show Rc (crC crZ) crZ from ⟨crZ_ok, rfl⟩)
  have HRR := wall (show (Tryd.prog.info? 37).map (·.size) = some (crC c0).size from by rw [crC_size HOK.out]; exact ref_info)
  have HRU := wall (fun W (h1 : Sw W g f pf cc pp bb v erased z64 f64 false) (h2 : Spans W) => run_any c0 HOK.out z z.toNat W g f pf cc pp bb v erased z64 f64 false h1 h2 HST.out rfl HZZ.out)
  unfold RunO at HRU
  obtain ⟨J, hJ⟩ : ∃ y, runR erased z64 f64 z.toNat c0 v = y := ⟨_, rfl⟩
  rw [hJ] at HRU
  have HJ := wall hJ
  obtain ⟨D0, hD0⟩ : ∃ y, crC c0 = y := ⟨_, rfl⟩
  obtain ⟨Z, hZ⟩ : ∃ y, crC crZ = y := ⟨_, rfl⟩
  obtain ⟨E, hE⟩ : ∃ y, evZ = y := ⟨_, rfl⟩
  have HEQ := wall hE
  rw [hD0] at HR0 HRR HRU ⊢
  rw [hZ] at HZ HZR HRZ
  rw [hE] at HE
  clear hJ hD0 hZ hE
  try simp only [Act.put, List.setIfInBounds_toArray, List.set_cons_zero, List.set_cons_succ]
  go_wp2_with (first | (refine wpList_two_new 34 37 11 12 (.tmp 38) (.tmp 39) rfl rfl rfl rfl rfl rfl rfl rfl rfl rfl rfl rfl Z Z D0 D0 HZ.out HZR.out w4.heap.size rfl rfl rfl rfl rfl (HR0.out.row HRZ.out) ⟨HRR.out, HR0.out.sz HRZ.out, HR0.out.one⟩ ?_; intro w5 K5 K5r F5; clear K5r; simp only [Act.put, List.setIfInBounds_toArray, List.set_cons_zero, List.set_cons_succ]) | (refine wpList_load_row rfl 34 _ rfl w4.heap.size rfl 34 D0 (0, 0) _ K5.out Tryd.underlying34 rfl HR0.out.info ?_))
  have HB5 := wall (below_then HB4.out F5.out (Nat.le_refl _))
  have HSW5 := wall (HSW4.out.old F5.out)
  replace HSW2 := wall (HSW2.out.old F5.out)
  have HGC := wall (show g < w4.heap.size ∧ g2 < w4.heap.size ∧ w.heap.size ≤ w4.heap.size from ⟨Blk.lt HSW4.out.sp, HG24.out, HB4.out.size⟩)
  obtain ⟨gc, hgc⟩ : ∃ y, w4.heap.size = y := ⟨_, rfl⟩
  rw [hgc] at K5 HGC HL1 HL2 ⊢
  clear hgc HSW4 HB4 HG24 F5
  (with_reducible refine (HRU.out _ HSW5.out (HS.out.old HB5.out)).mono ?_); rintro e w6 ⟨rfl, hJok, hSw6, hF6⟩
  have hgg := HGC.out
  have hne := HNE.out
  have HJR := wall (show Rc (crC J.1) J.1 from ⟨hJok, rfl⟩)
  have HSW6 := wall hSw6
  replace HSW2 := wall (HSW2.out.apart HSW5.out.sp (by omega) hF6)
  have HB6 := wall (Below.frm HB5.out hF6 (Nat.le_refl _) (by simp; exact HGW.out))
  have K6 := wall (K5.out.frm hF6 (by simp; omega))
  obtain ⟨DJ, hDJ⟩ : ∃ y, crC J.1 = y := ⟨_, rfl⟩
  have HDJ := wall hDJ
  rw [hDJ] at HJR ⊢
  have HNB := wall (show Blk (w6.alloc (.cells Z 34)) w6.heap.size 34 Z ∧ Below w6.heap.size w6 (w6.alloc (.cells Z 34)) from ⟨Blk.new _ _ _, (Below.refl _ _).alloc (Nat.le_refl _) _⟩)
  have HG6 := wall (show gc < w6.heap.size from K6.out.lt)
  clear hJok hSw6 hF6 hgg hne hDJ K5 HSW5 HB5 HRU
  try simp only [Act.put, List.setIfInBounds_toArray, List.set_cons_zero, List.set_cons_succ]
  go_upto_region 8 with (first | refine Big.wpList_alloc_at rfl 34 rfl Z HZ.out w6.heap.size rfl ?_ | (refine wpList_set_row rfl 34 (.tmp 13) (.tmp 45) rfl w6.heap.size DJ rfl rfl 34 Z HNB.out.1 HJR.out.info (HJR.out.sz HRZ.out) HJR.out.one ?_; intro w7 K7a F7))
  have HF67 := wall (show Frm [w6.heap.size] w6 w7 from (Frm.of_below HNB.out.2).trans F7.out)
  have hgg := HGC.out
  have hg6 := HG6.out
  have K7 := wall (K6.out.frm HF67.out (by simp; omega))
  have hl1 := HSW6.out.lts
  have hl2 := HSW2.out.lts
  have HSW7 := wall (HSW6.out.far HF67.out (by omega))
  replace HSW2 := wall (HSW2.out.far HF67.out (by omega))
  have HB7 := wall (Below.frm HB6.out HF67.out (Nat.le_refl _) (by simp; exact HB6.out.size))
  have KA7 := wall K7a.out
  obtain ⟨ga, hga⟩ : ∃ y, w6.heap.size = y := ⟨_, rfl⟩
  have HGA := wall (show gc < ga ∧ w.heap.size ≤ ga from by rw [← hga]; exact ⟨hg6, HB6.out.size⟩)
  rw [hga] at KA7 ⊢
  clear hga HF67 hgg hg6 hl1 hl2 K7a F7 K6 HNB HSW6 HB6 HG6
  try simp only [Act.put, List.setIfInBounds_toArray, List.set_cons_zero, List.set_cons_succ]
  go_upto_block 0 with fail
  go_cut [15] (fun s15 w' => s15 = .int .i64 (J.2.1 : Int) ∧ Wall (Blk w' gc 34 DJ) ∧ Wall (Blk w' ga 34 DJ) ∧ Wall (Sw w' g f pf cc pp bb J.2.2 erased z64 f64 false) ∧ Wall (Sp w' g2 (ptV J.2.2 (some ⟨f2, 0, none⟩) (some ⟨cc2, 0, none⟩))) ∧ Wall (Below w.heap.size w w'))
  case first =>
    obtain ⟨N, hN⟩ : ∃ N, z.toNat = N := ⟨_, rfl⟩
    have HNN := wall (show z.toNat = N ∧ N ≤ 60 from ⟨hN, by omega⟩)
    rw [hN] at HJ
    clear hN
    have HSW2' := wall (show Sw w7 g2 f2 pf2 cc2 pp2 bb2 (ptV v (some ⟨f2, 0, none⟩) (some ⟨cc2, 0, none⟩)) erased z64 f64 false from by rw [← HPT.out]; exact HSW2.out)
    have HVO := wall (show v.Ok from by have h := HSW2'.out.ok; exact ⟨h.rl, h.pl, h.rb, h.pb⟩)
    have HK7 := wall (show Blk w7 gc 34 (crC c0) by rw [show crC c0 = D0 from HR0.out.eq]; exact K7.out)
    go_wp2_with fail
    go_loopg [15, 16] N (fun gg s15 s16 wr => ∃ (c' : Cr) (v' : SpV) (k : Nat), k + gg = N ∧ s15 = .int .i64 (k : Int) ∧ Wall c'.Ok ∧ Wall (Kept v v') ∧ Wall (J = ((runR erased z64 f64 gg c' v').1, (runR erased z64 f64 gg c' v').2.1 + k, (runR erased z64 f64 gg c' v').2.2)) ∧ Wall (Blk wr gc 34 (crC c') ∧ Blk wr ga 34 DJ) ∧ Wall (Sw wr g2 f2 pf2 cc2 pp2 bb2 (ptV v' (some ⟨f2, 0, none⟩) (some ⟨cc2, 0, none⟩)) erased z64 f64 false) ∧ Wall (Sw wr g f pf cc pp bb J.2.2 erased z64 f64 false) ∧ Wall (Below w.heap.size w wr))
    case atStart => exact ⟨c0, v, 0, by omega, rfl, HOK, wall ⟨HVO.out, rfl, rfl, rfl⟩, wall (by rw [HJ.out]; rfl), wall ⟨HK7.out, KA7.out⟩, HSW2', HSW7, HB7⟩
    case round =>
      obtain ⟨c', v', k, hg, rfl, HC', HKV, HJ', HKB, HT, HSS, HB⟩ := hrel
      clear HK7 K7 KA7 HSW7 HB7 HSW2 HSW2' HJ HOK
      have HG := wall hg
      by_cases h0 : gk = 0
      · subst h0
        have i1 : ¬ (k : Int) < z := by have := HNN.out.1; omega
        have HJ9 := wall (show J = (c', k, v') by rw [HJ'.out]; unfold runR; simp)
        have HK9 := wall (show Blk wr gc 34 DJ by rw [← HDJ.out, HJ9.out]; exact HKB.out.1)
        have HT9 := wall (show Sp wr g2 (ptV J.2.2 (some ⟨f2, 0, none⟩) (some ⟨cc2, 0, none⟩)) by rw [HJ9.out]; exact HT.out.sp)
        clear hg HJ' HT
        go_wp2_with fail
        go_meet
        exact ⟨by rw [HJ9.out], HK9, wall HKB.out.2, HSS, HT9, HB⟩
      · obtain ⟨g', rfl⟩ : ∃ q, gk = q + 1 := ⟨gk - 1, by omega⟩
        have i1 : (k : Int) < z := by have := HNN.out.1; omega
        have i2 : (k : Int) + 1 ≤ 61 := by have := HNN.out.2; omega
        have HST' := wall (show v'.st = 1 ∨ v'.st = 2 by rw [HKV.out.st]; exact HST.out)
        have HSP := wall (fun W (h1 : Sw W g2 f2 pf2 cc2 pp2 bb2 (ptV v' (some ⟨f2, 0, none⟩) (some ⟨cc2, 0, none⟩)) erased z64 f64 false) (h2 : Spans W) => step_any c' HC'.out false W g2 f2 pf2 cc2 pp2 bb2 (ptV v' (some ⟨f2, 0, none⟩) (some ⟨cc2, 0, none⟩)) erased z64 f64 false h1 h2 HST'.out)
        have HK2 := wall (step_kept (F := erased) (vs := z64) (ls := f64) (c := c') (tm := false) HKV.out.ok HST'.out)
        have HC2 := wall (step_ok (v := v') (F := erased) (vs := z64) (ls := f64) (c := c') (tm := false) HC'.out HKV.out.ok erased_len HT.out.fb)
        rw [step_pt] at HSP
        unfold DoOut at HSP
        have HR1 := wall (fun R (h : stepR v' erased z64 f64 c' false = R) => And.intro (fun k (h2 : R.t = some k) => runR_trap (n := g') h h2) (fun (h2 : R.t = none) => runR_go (n := g') h h2))
        obtain ⟨R, hR⟩ : ∃ R, stepR v' erased z64 f64 c' false = R := ⟨_, rfl⟩
        have HR2 := wall (HR1.out R hR)
        rw [hR] at HSP HK2 HC2
        obtain ⟨II, hII⟩ : ∃ y, stepI (ptV v' (some ⟨f2, 0, none⟩) (some ⟨cc2, 0, none⟩)) c' = y := ⟨_, rfl⟩
        rw [hII] at HSP
        rw [show (ptR R (some ⟨f2, 0, none⟩) (some ⟨cc2, 0, none⟩)).c = R.c from rfl, show (ptR R (some ⟨f2, 0, none⟩) (some ⟨cc2, 0, none⟩)).t = R.t from rfl, show (ptR R (some ⟨f2, 0, none⟩) (some ⟨cc2, 0, none⟩)).v = ptV R.v (some ⟨f2, 0, none⟩) (some ⟨cc2, 0, none⟩) from rfl, show (ptR R (some ⟨f2, 0, none⟩) (some ⟨cc2, 0, none⟩)).a = R.a from rfl] at HSP
        have HRC := wall (show Rc (crC c') c' from ⟨HC'.out, rfl⟩)
        have HRD := wall (show Rc (crC R.c) R.c from ⟨HC2.out, rfl⟩)
        obtain ⟨D, hD⟩ : ∃ y, crC c' = y := ⟨_, rfl⟩
        obtain ⟨D2, hD2⟩ : ∃ y, crC R.c = y := ⟨_, rfl⟩
        have HDD2 := wall hD2
        rw [hD] at HKB HSP HRC
        rw [hD2] at HSP HRD
        have HAE := wall (show Blk (wr.alloc (.cells E 44)) wr.heap.size 44 E ∧ Below wr.heap.size wr (wr.alloc (.cells E 44)) from ⟨Blk.new _ _ _, (Below.refl _ _).alloc (Nat.le_refl _) _⟩)
        have HWR := wall (show gc < wr.heap.size ∧ ga < wr.heap.size from ⟨HKB.out.1.lt, HKB.out.2.lt⟩)
        have HKB2 := wall (show Blk (wr.alloc (.cells E 44)) gc 34 D ∧ Blk (wr.alloc (.cells E 44)) ga 34 DJ from ⟨HKB.out.1.next HAE.out.2 rfl, HKB.out.2.next HAE.out.2 rfl⟩)
        have HT2 := wall (HT.out.old HAE.out.2)
        have HSS2 := wall (HSS.out.old HAE.out.2)
        have HB2 := wall (show Below w.heap.size w (wr.alloc (.cells E 44)) from below_then HB.out HAE.out.2 (Nat.le_refl _))
        clear hg h0 hR hII hD hD2 HR1 HKB HT HSS HB
        go_upto_region 11 with (first | refine Big.wpList_alloc_at rfl 44 rfl E HE.out wr.heap.size rfl ?_)
        generalize wr.alloc (.cells E 44) = w8 at *
        try simp only [Act.put, List.setIfInBounds_toArray, List.set_cons_zero, List.set_cons_succ]
        go_wp2_with (first | refine wpList_load_row rfl 34 _ rfl gc rfl 34 D (0, 0) _ HKB2.out.1 Tryd.underlying34 rfl HRC.out.info ?_)
        (with_reducible refine (HSP.out _ HT2.out (HS.out.old HB2.out)).mono ?_); rintro e w9 ⟨A9, m9, cap9, rfl, hSp, hF, -⟩
        have HEW := wall (evw_row R.t II R.a A9 m9 cap9)
        have HE0 := wall (evW_trap R.t II R.a A9 m9 cap9)
        rw [HEQ.out] at HEW
        obtain ⟨V, hV⟩ : ∃ y, evW R.t II R.a A9 m9 cap9 = y := ⟨_, rfl⟩
        rw [hV] at HEW HE0 ⊢
        have hgg := HGC.out
        have hwr := HWR.out
        have hne := HNE.out
        have hga := HGA.out
        have HT3 := wall (HT2.out.put hSp hF (ptV_ok HK2.out.ok _ _) rfl rfl)
        have HSS3 := wall (HSS2.out.apart HT2.out.sp hne.1 hF)
        have HKB3 := wall (show Blk w9 gc 34 D ∧ Blk w9 ga 34 DJ from ⟨HKB2.out.1.frm hF (by simp; omega), HKB2.out.2.frm hF (by simp; omega)⟩)
        have HA3 := wall (show Blk w9 wr.heap.size 44 E from HAE.out.1.frm hF (by simp; omega))
        have HB3 := wall (Below.frm HB2.out hF (Nat.le_refl _) (by simp; exact HNE.out.2))
        clear hV hSp hF HSP HT2 HSS2 HKB2 HAE HB2 hgg hwr hne hga
        obtain ⟨ge, hge⟩ : ∃ y, wr.heap.size = y := ⟨_, rfl⟩
        rw [hge] at HA3 HWR ⊢
        clear hge
        try simp only [Act.put, List.setIfInBounds_toArray, List.set_cons_zero, List.set_cons_succ]
        go_upto_region 12 with (first | (refine wpList_set_row rfl 34 (.tmp 11) (.tmp 54) rfl gc D2 rfl rfl 34 D HKB3.out.1 HRD.out.info (HRD.out.sz HRC.out) HRD.out.one ?_; intro w10 K10 F10; have HA4 := wall (HA3.out.frm F10.out (by have := HWR.out; simp; omega))) | (refine wpList_set_row rfl 44 (.tmp 16) (.tmp 55) rfl ge V rfl rfl 44 E HA4.out HEW.out.1 HEW.out.2.1 HEW.out.2.2 ?_; intro w11 K11 F11))
        have hgg := HGC.out
        have hwr := HWR.out
        have hga := HGA.out
        have hl1 := HL1.out
        have hl2 := HL2.out
        have HKB5 := wall (show Blk w11 gc 34 (crC R.c) ∧ Blk w11 ga 34 DJ from ⟨by rw [HDD2.out]; exact K10.out.frm F11.out (by simp; omega), (HKB3.out.2.frm F10.out (by simp; omega)).frm F11.out (by simp; omega)⟩)
        have HT5 := wall ((HT3.out.far F10.out (by omega)).far F11.out (by omega))
        have HSS5 := wall ((HSS3.out.far F10.out (by omega)).far F11.out (by omega))
        have HB5 := wall (Below.frm (Below.frm HB3.out F10.out (Nat.le_refl _) (by simp; omega)) F11.out (Nat.le_refl _) (by simp; omega))
        have k0 : w11.cell? ⟨ge, 0, none⟩ = some (.bool R.t.isSome) := by rw [K11.out.cell]; exact HE0.out
        have HKU := wall (show Kept v R.v from ⟨HK2.out.ok, HK2.out.st.trans HKV.out.st, HK2.out.fl.trans HKV.out.fl, HK2.out.ch.trans HKV.out.ch⟩)
        have HRT := wall (show ∀ t, R.t = t → match t with | some _ => runR erased z64 f64 (g' + 1) c' v' = (R.c, 1, R.v) | none => runR erased z64 f64 (g' + 1) c' v' = ((runR erased z64 f64 g' R.c R.v).1, (runR erased z64 f64 g' R.c R.v).2.1 + 1, (runR erased z64 f64 g' R.c R.v).2.2) from fun t ht => by
          cases t with
          | none => exact HR2.out.2 ht
          | some k => exact HR2.out.1 k ht)
        clear K10 F10 K11 F11 HA3 HA4 HKB3 HSS3 HT3 HB3 HEW HE0 HRD HRC HDD2 HK2 HKV hgg hwr hga hl1 hl2 HR2
        try simp only [Act.put, List.setIfInBounds_toArray, List.set_cons_zero, List.set_cons_succ]
        obtain ⟨t, ht⟩ : ∃ t, R.t = t := ⟨_, rfl⟩
        have HRT2 := HRT.out t ht
        rw [ht] at k0
        cases t with
        | none =>
          have HJ9 := wall (show J = ((runR erased z64 f64 g' R.c R.v).1, (runR erased z64 f64 g' R.c R.v).2.1 + (k + 1), (runR erased z64 f64 g' R.c R.v).2.2) by
            simp only at HRT2
            rw [HJ'.out, HRT2]
            simp only [Prod.mk.injEq, true_and, and_true]
            omega)
          have k0' : w11.cell? ⟨ge, 0, none⟩ = some (.bool false) := k0
          clear k0 HRT HRT2 ht HJ'
          go_wp2_with fail
          go_light
          go_roundg g'
          case measure => omega
          case rel => exact ⟨R.c, R.v, k + 1, by have := HG.out; omega, rfl, HC2, HKU, HJ9, HKB5, HT5, HSS5, HB5⟩
        | some kk =>
          have HJ9 := wall (show J = (R.c, k + 1, R.v) by
            simp only at HRT2
            rw [HJ'.out, HRT2]
            simp only [Prod.mk.injEq, true_and, and_true]
            omega)
          have k0' : w11.cell? ⟨ge, 0, none⟩ = some (.bool true) := k0
          have HK9 := wall (show Blk w11 gc 34 DJ by rw [← HDJ.out, HJ9.out]; exact HKB5.out.1)
          have HT9 := wall (show Sp w11 g2 (ptV J.2.2 (some ⟨f2, 0, none⟩) (some ⟨cc2, 0, none⟩)) by rw [HJ9.out]; exact HT5.out.sp)
          clear k0 HRT HRT2 ht HJ'
          go_wp2_with fail
          go_meet
          exact ⟨by rw [HJ9.out]; simp, HK9, wall HKB5.out.2, HSS5, HT9, HB5⟩
  case rest =>
    obtain ⟨rfl, HK, HA, HSS, HT, HB⟩ := hcut
    clear K7 KA7 HSW7 HB7 HSW2 HJ HOK
    have HNL := wall (fun W => run_nil J.1 HJR.out.ok 5 W)
    have HSN := wall (fun W => step_nil J.1 HJR.out.ok true W)
    have HSM := wall (fun W => same_core J.1 HJR.out.ok W)
    unfold StepOut at HSN
    rw [HDJ.out] at HNL HSN HSM
    rw [HEQ.out] at HSN
    have HRE := wall (show (Tryd.prog.info? 44).map (·.size) = some E.size ∧ E.size = E.size ∧ E.all (·.oneCell') = true ∧ E[0]? = some (.bool false) from by rw [← HEQ.out]; exact ⟨ev_info, rfl, evC_one _ _ _ _ _ _ _, rfl⟩)
    go_wp2_with (first | refine wpList_load_row rfl 34 _ rfl gc rfl 34 DJ (0, 0) _ HK.out Tryd.underlying34 rfl HJR.out.info ?_)
    (with_reducible refine (HNL.out _).mono ?_); rintro e w12 ⟨rfl, hB12⟩
    have HK1 := wall (HK.out.next hB12 rfl)
    have HA1 := wall (HA.out.next hB12 rfl)
    have HG1 := wall (HSS.out.sp.old hB12)
    have HT1 := wall (HT.out.old hB12)
    have HB1 := wall (below_then HB.out hB12 (Nat.le_refl _))
    have HOJ := wall HSS.out.ok
    clear hB12 HNL HK HA HSS HT HB
    have HNB := wall (show Blk (w12.alloc (.cells Z 34)) w12.heap.size 34 Z ∧ Below w12.heap.size w12 (w12.alloc (.cells Z 34)) from ⟨Blk.new _ _ _, (Below.refl _ _).alloc (Nat.le_refl _) _⟩)
    try simp only [Act.put, List.setIfInBounds_toArray, List.set_cons_zero, List.set_cons_succ]
    go_upto_region 15 with (first | refine Big.wpList_alloc_at rfl 34 rfl Z HZ.out w12.heap.size rfl ?_ | (refine wpList_set_row rfl 34 (.tmp 17) (.tmp 63) rfl w12.heap.size DJ rfl rfl 34 Z HNB.out.1 HJR.out.info (HJR.out.sz HRZ.out) HJR.out.one ?_; intro w13 K13 F13))
    have HF13 := wall (show Frm [w12.heap.size] w12 w13 from (Frm.of_below HNB.out.2).trans F13.out)
    have h12 := HF13.out.below (B := w12.heap.size) (Nat.le_refl _) (by simp)
    have HK2 := wall (HK1.out.next h12 rfl)
    have HA2 := wall (HA1.out.next h12 rfl)
    have HG2 := wall (HG1.out.old h12)
    have HT2 := wall (HT1.out.old h12)
    have HB2 := wall (below_then HB1.out h12 (Nat.le_refl _))
    have HBB := wall K13.out
    obtain ⟨gb, hgb⟩ : ∃ y, w12.heap.size = y := ⟨_, rfl⟩
    rw [hgb] at HBB ⊢
    clear hgb h12 HF13 K13 F13 HNB HK1 HA1 HG1 HT1 HB1
    try simp only [Act.put, List.setIfInBounds_toArray, List.set_cons_zero, List.set_cons_succ]
    go_wp2_with (first | refine wpList_load_row rfl 34 _ rfl gc rfl 34 DJ (0, 0) _ HK2.out Tryd.underlying34 rfl HJR.out.info ?_)
    (with_reducible refine (HSN.out _).mono ?_); rintro e w14 ⟨rfl, h14⟩
    have HK3 := wall (HK2.out.next h14 rfl)
    have HA3 := wall (HA2.out.next h14 rfl)
    have HG3 := wall (HG2.out.old h14)
    have HT3 := wall (HT2.out.old h14)
    have HB3 := wall (below_then HB2.out h14 (Nat.le_refl _))
    have HBB3 := wall (HBB.out.next h14 rfl)
    clear h14 HSN HK2 HA2 HG2 HT2 HB2 HBB
    try simp only [Act.put, List.setIfInBounds_toArray, List.set_cons_zero, List.set_cons_succ]
    go_upto_region 16 with (refine wpList_two_new 34 44 19 20 (.tmp 68) (.tmp 69) rfl rfl rfl rfl rfl rfl rfl rfl rfl rfl rfl rfl Z E DJ E HZ.out HE.out w14.heap.size rfl rfl rfl rfl rfl (HJR.out.row HRZ.out) ⟨HRE.out.1, rfl, HRE.out.2.2.1⟩ ?_; intro w15 K15 V15 F15; simp only [Act.put, List.setIfInBounds_toArray, List.set_cons_zero, List.set_cons_succ])
    have HK7 := wall (HK3.out.next F15.out rfl)
    have HA7 := wall (HA3.out.next F15.out rfl)
    have HG7 := wall (HG3.out.old F15.out)
    have HT7 := wall (HT3.out.old F15.out)
    have HB7 := wall (below_then HB3.out F15.out (Nat.le_refl _))
    have HB7b := wall (HBB3.out.next F15.out rfl)
    have HD7 := wall K15.out
    obtain ⟨gd, hgd⟩ : ∃ y, w14.heap.size = y := ⟨_, rfl⟩
    rw [hgd] at HD7 V15 ⊢
    have hge : gd + 1 < w15.heap.size := V15.out.lt
    have k0 : w15.cell? ⟨gd + 1, 0, none⟩ = some (.bool false) := by rw [V15.out.cell]; exact HRE.out.2.2.2
    have HXI := wall (show (Tryd.prog.info? 52).map (·.size) = some (v8 J.2.2.ram).toArray.size by rw [List.size_toArray, v8_length, HOJ.out.rl]; kernel_rfl)
    have heq := fun W => ram_same W 52 J.2.2.ram HOJ.out.rl Tryd.underlying52
    obtain ⟨X, hX⟩ : ∃ X, v8 J.2.2.ram = X := ⟨_, rfl⟩
    have HRG := wall (fun (W : World) (h : Sp W g J.2.2) => show W.rangeAt g 1 X from by rw [← hX]; exact ram_range h)
    have HRT := wall (fun (W : World) (h : Sp W g2 (ptV J.2.2 (some ⟨f2, 0, none⟩) (some ⟨cc2, 0, none⟩))) => show W.rangeAt g2 1 X from by rw [← hX]; exact (show W.rangeAt g2 1 (v8 (ptV J.2.2 (some ⟨f2, 0, none⟩) (some ⟨cc2, 0, none⟩)).ram) from ram_range h))
    rw [hX] at HXI
    simp only [hX] at heq
    clear hX hgd HK3 HA3 HG3 HT3 HB3 HBB3 K15 F15
    go_wp2_with fail
    refine RelG.wp_region_rel 39 [(72, .const (.bool true)), (96, .const (.bool true)), (101, .const (.bool true)), (80, .const (.pointer (some ⟨g, 0, none⟩))), (84, .const (.pointer (some ⟨g2, 0, none⟩)))] (by kernel_rfl) (by kernel_rfl) ?_
    simp only [List.take_succ_cons, List.take_zero, List.drop_succ_cons, List.drop_zero, Act.put, List.setIfInBounds_toArray, List.set_cons_zero, List.set_cons_succ]
    repeat (first | (refine RelG.tree_quiet rfl rfl rfl (fun K hK => ?_); go_big_quiet_op; refine hK _ ?_; clear hK K) | (refine RelG.tree_pure rfl rfl rfl (.agg DJ) (fun W2 hW2 _ => Rel.exec_load _ _ rfl (gc) 0 rfl _ _ (Blk.range (HK7.out.next hW2.undrew rfl)) Tryd.underlying34 rfl HJR.out.info) ?_; simp only [Act.put, List.setIfInBounds_toArray, List.set_cons_zero, List.set_cons_succ]) | (refine RelG.tree_pure rfl rfl rfl (.agg DJ) (fun W2 hW2 _ => Rel.exec_load _ _ rfl (ga) 0 rfl _ _ (Blk.range (HA7.out.next hW2.undrew rfl)) Tryd.underlying34 rfl HJR.out.info) ?_; simp only [Act.put, List.setIfInBounds_toArray, List.set_cons_zero, List.set_cons_succ]) | (refine RelG.tree_pure rfl rfl rfl (.agg DJ) (fun W2 hW2 _ => Rel.exec_load _ _ rfl (gb) 0 rfl _ _ (Blk.range (HB7b.out.next hW2.undrew rfl)) Tryd.underlying34 rfl HJR.out.info) ?_; simp only [Act.put, List.setIfInBounds_toArray, List.set_cons_zero, List.set_cons_succ]) | (refine RelG.tree_pure rfl rfl rfl (.agg DJ) (fun W2 hW2 _ => Rel.exec_load _ _ rfl (gd) 0 rfl _ _ (Blk.range (HD7.out.next hW2.undrew rfl)) Tryd.underlying34 rfl HJR.out.info) ?_; simp only [Act.put, List.setIfInBounds_toArray, List.set_cons_zero, List.set_cons_succ]) | (refine RelG.tree_pure rfl rfl rfl (.agg X.toArray) (fun W2 hW2 _ => Rel.exec_load _ _ rfl g 1 rfl _ _ (HRG.out _ (Sp.old HG7.out hW2.undrew)) Tryd.underlying52 rfl HXI.out) ?_; simp only [Act.put, List.setIfInBounds_toArray, List.set_cons_zero, List.set_cons_succ]) | (refine RelG.tree_pure rfl rfl rfl (.agg X.toArray) (fun W2 hW2 _ => Rel.exec_load _ _ rfl g2 1 rfl _ _ (HRT.out _ (Sp.old HT7.out hW2.undrew)) Tryd.underlying52 rfl HXI.out) ?_; simp only [Act.put, List.setIfInBounds_toArray, List.set_cons_zero, List.set_cons_succ]) | (refine RelG.tree_const rfl (.bool true) rfl (fun W2 hW2 _ => by (unfold RelG.relAt; go_simp; show Calls _ _ _ _ _; exact (HSM.out _).mono fun e w2 h => ⟨_, h.1, h.2, rfl⟩)) ?_; simp only [Act.put, List.setIfInBounds_toArray, List.set_cons_zero, List.set_cons_succ]) | (refine RelG.tree_const rfl (.pointer (some ⟨g, 0, none⟩)) rfl (fun W2 hW2 _ => by (unfold RelG.relAt; go_simp; exact ⟨Rel.Grow.refl _, rfl⟩)) ?_; simp only [Act.put, List.setIfInBounds_toArray, List.set_cons_zero, List.set_cons_succ]) | (refine RelG.tree_const rfl (.pointer (some ⟨g2, 0, none⟩)) rfl (fun W2 hW2 _ => by (unfold RelG.relAt; go_simp; exact ⟨Rel.Grow.refl _, rfl⟩)) ?_; simp only [Act.put, List.setIfInBounds_toArray, List.set_cons_zero, List.set_cons_succ]) | (refine RelG.tree_pure rfl rfl rfl (.bool false) (fun W2 hW2 _ => Rel.exec_load1 _ _ rfl (gd + 1) 0 rfl _ (fun _ => by kernel_rfl) ((hW2.undrew.cell (p := ⟨gd + 1, 0, none⟩) hge).trans k0)) ?_; simp only [Act.put, List.setIfInBounds_toArray, List.set_cons_zero, List.set_cons_succ]))
    intro W hW _
    have HBW := wall (below_then HB7.out hW.undrew (Nat.le_refl _))
    clear hW heq k0 hge
    go_wp2_with fail
    go_light
    go_ret
    exact ⟨rfl, HBW.out⟩
end Core
end Go.Proofs.YtfiojpdkbckopaaDoor
