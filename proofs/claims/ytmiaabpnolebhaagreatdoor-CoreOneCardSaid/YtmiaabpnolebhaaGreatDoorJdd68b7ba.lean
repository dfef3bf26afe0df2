/-
  Texts of this claim, joined: CorSp, CorRn.
-/
import Derived.Test.YtmiaabpnolebhaaGreatDoorJ5ddb6c32
import Derived.WalkMore
set_option maxHeartbeats 4000000
set_option maxRecDepth 100000
set_option linter.unusedSimpArgs false
set_option linter.unusedVariables false
namespace Go.Proofs.YtmiaabpnolebhaaGreatDoor
open Go.RowKit

namespace Core
open Otp Sha Rv Grant Spc R1 Fla
theorem plainN_le (v : Nat) : plainN v ≤ 42 := by unfold plainN; (repeat' split) <;> omega
theorem ind_mk {op rd a b imm csr : Nat} (h1 : op < 57) (h2 : rd < 32) (h3 : a < 32) (h4 : b < 32) (h5 : imm < 4294967296) (h6 : csr < 65536) : InD ⟨op, rd, a, b, imm, csr⟩ := ⟨h1, h2, h3, h4, h5, h6⟩
theorem ext_lt' {v n : Nat} (h0 : 0 < n) (h : n ≤ 32) : ext v n < 4294967296 := by
 have h1 : v % 2 ^ n < 2 ^ n := Nat.mod_lt _ (Nat.two_pow_pos n)
 have h2 : 2 ^ n ≤ 2 ^ 32 := Nat.pow_le_pow_right (n := 2) (by decide) h
 unfold ext
 split <;> omega
theorem dec_ind {v : Nat} (h : v < 4294967296) (ht : (dec v).2 = true) : InD (dec v).1 ∧ (dec v).1.op ≠ 0 := by
 have h1 := cut_lt v 7 5
 have h2 := cut_lt v 15 5
 have h3 := cut_lt v 20 5
 have h4 := cut_lt v 20 12
 have e1 : immI v < 4294967296 := ext_lt' (by decide) (by decide)
 have e2 : immS v < 4294967296 := ext_lt' (by decide) (by decide)
 have e3 : immB v < 4294967296 := ext_lt' (by decide) (by decide)
 have e4 : immJ v < 4294967296 := ext_lt' (by decide) (by decide)
 have h5 := opAt_le (form v)
 have h6 := plainN_le v
 unfold dec at ht ⊢
 split
 ·rename_i hp
  exact ⟨ind_mk (by omega) (by omega) (by omega) (by omega) (by omega) (by omega), hp⟩
 ·rename_i hp
  rw [if_neg hp] at ht
  split
  ·rename_i h0; rw [if_pos h0] at ht; cases ht
  ·rename_i h0
   generalize opAt (form v) = op at h5 h0
   show InD (decI op v) ∧ (decI op v).op ≠ 0
   unfold decI opIn
   (repeat' split) <;> exact ⟨ind_mk (by omega) (by omega) (by omega) (by omega) (by omega) (by omega), h0⟩
theorem core_fetch (a st : Nat) (hst : st = 1 ∨ st = 2) (h : (chk 1 (st : Int) a 4 false true).2.2 = 0) : ∃ o, chk 1 (st : Int) a 4 false true = (1, o, 0) ∧ o + 4 ≤ 4096 := by
 unfold chk at h ⊢
 by_cases h1 : formB 1 (st : Int) 4 false true = false
 ·rw [if_pos h1] at h; cases h
 ·rw [if_neg h1] at h ⊢
  by_cases h2 : a % (4 : Int).toNat ≠ 0
  ·rw [if_pos h2] at h; cases h
  ·rw [if_neg h2] at h ⊢
   have h4a : a % 4 = 0 := by have : (4 : Int).toNat = 4 := rfl; rw [this] at h2; omega
   by_cases h3 : (whereN a).1 = 0
   ·rw [if_pos h3] at h; cases h
   ·rw [if_neg h3] at h ⊢
    by_cases h4 : hasB (mayW 1 (st : Int) (whereN a).1) (letB false true) = false
    ·rw [if_pos h4] at h; cases h
    ·rw [if_neg h4]
     by_cases c1 : 536870912 ≤ a ∧ a < 536875008
     ·refine ⟨a - 536870912, ?_, by omega⟩
      unfold whereN
      rw [if_pos c1]
     ·exfalso
      rcases Spc.where_cases a with ⟨o, e, h1⟩ | ⟨o, e, h1⟩ | ⟨o, e, h1⟩ | ⟨o, e, h1⟩ | ⟨o, e, h1⟩ | e
      ·unfold whereN at e
       rw [if_neg c1] at e
       split at e
       ·cases e
       ·split at e
        ·cases e
        ·split at e
         ·cases e
         ·split at e
          ·cases e
          ·cases e
      all_goals rw [e] at h4 h3
      all_goals simp only at h4 h3
      ·rcases hst with rfl | rfl <;> exact h4 (by decide +kernel)
      ·rcases hst with rfl | rfl <;> exact h4 (by decide +kernel)
      ·rcases hst with rfl | rfl <;> exact h4 (by decide +kernel)
      ·rcases hst with rfl | rfl <;> exact h4 (by decide +kernel)
      ·exact absurd trivial h3
theorem in_one (i : In) : (inC i).all (·.oneCell') = true := by simp [inC, Value.oneCell']
theorem jumpR_ok' {c : Cr} (h : c.Ok) (rd : Nat) (x : Nat) : (jumpR c rd (x % 4294967296)).1.Ok := h.jump rd (Nat.mod_lt _ (by decide))
theorem aluR_ok {c : Cr} (h : c.Ok) (i : In) {y : Nat} (hy : y < 4294967296) : (aluR c i y).1.Ok := by
 unfold aluR
 simp only
 split
 ·exact (h.with i.rd _ (aluN_lt _ _ _ (h.g _) hy)).next
 ·exact h.next
theorem branchR_ok {c : Cr} (h : c.Ok) (i : In) : (branchR c i).1.Ok := by
 unfold branchR
 split
 ·exact jumpR_ok' h _ _
 ·exact h.next
theorem doP_ok {v : SpV} {F vs : List Nat} {ls : List Bool} {c : Cr} {i : In} {w : Nat} (h : c.Ok) (hid : InD i) (hw : w < 4294967296) (hv : v.Ok) (hF : F.length = 10240) (hb : ∀ x ∈ F, x < 256) : (doP v F vs ls c i w).1.Ok := by
 unfold doP
 split
 ·exact (h.with i.rd _ hid.imm).next
 split
 ·exact (h.with i.rd _ (Nat.mod_lt _ (by decide))).next
 split
 ·exact jumpR_ok' h _ _
 split
 ·have : (c.g i.a + i.imm) % 4294967296 < 4294967296 := Nat.mod_lt _ (by decide)
  exact h.jump i.rd (by omega)
 split
 ·exact branchR_ok h i
 split
 ·exact loadR_ok h hv hF hb
 split
 ·exact Cr.Ok.trap h (by decide) (by decide)
 split
 ·exact Cr.Ok.trap h (by decide) (h.g _)
 split
 ·exact h.ret
 split
 ·exact csrR_ok h hid hw
 split
 ·exact aluR_ok h i hid.imm
 ·exact aluR_ok h i (h.g _)
theorem doR_ok {v : SpV} {F vs : List Nat} {ls : List Bool} {c : Cr} {i : In} {w : Nat} (h : c.Ok) (hid : InD i) (hw : w < 4294967296) (hv : v.Ok) (hF : F.length = 10240) (hb : ∀ x ∈ F, x < 256) : (doR v F vs ls c i w).c.Ok := by
 unfold doR
 split
 ·exact storeR_ok h
 ·exact doP_ok h hid hw hv hF hb
def wordAt (v : SpV) (o : Nat) : Nat := le32 (v.ram.getD o 0) (v.ram.getD (o + 1) 0) (v.ram.getD (o + 2) 0) (v.ram.getD (o + 3) 0)
def fetchAt (v : SpV) (pc : Nat) : Nat × Nat × Nat := chk 1 v.st pc 4 false true
def fstI (d : In × Bool) : In := d.1
def stepI (v : SpV) (c : Cr) : In := fstI (dec (wordAt v (fetchAt v (c.g 32)).2.1))
def stepD (v : SpV) (F vs : List Nat) (ls : List Bool) (c : Cr) (w : Nat) (d : In × Bool) : Res := if d.2 = false then pairR v (trR c 2 w) else doR v F vs ls c d.1 w
def letT (c : Cr) (tm : Bool) : Bool := tm && (c.g 34 / 128 % 2 == 1) && (c.g 33 / 8 % 2 == 1)
def stepR (v : SpV) (F vs : List Nat) (ls : List Bool) (c : Cr) (tm : Bool) : Res :=
 if letT c tm = true then pairR v (trR (c.time tm) 2147483655 (c.g 32))
 else if c.g 32 % 4 ≠ 0 then pairR v (trR (c.time tm) 0 (c.g 32))
 else if (fetchAt v (c.g 32)).2.2 ≠ 0 then pairR v (trR (c.time tm) 1 (c.g 32))
 else stepD v F vs ls (c.time tm) (wordAt v (fetchAt v (c.g 32)).2.1) (dec (wordAt v (fetchAt v (c.g 32)).2.1))
theorem wordAt_lt {v : SpV} (h : v.Ok) (o : Nat) : wordAt v o < 4294967296 := by
 have hb : ∀ j, v.ram.getD j 0 < 256 := fun j => by
  rw [List.getD_eq_getElem?_getD]
  cases hj : v.ram[j]? with
  | none => decide
  | some x => exact h.rb x (List.mem_of_getElem? hj)
 have h0 := hb o
 have h1 := hb (o + 1)
 have h2 := hb (o + 2)
 have h3 := hb (o + 3)
 unfold wordAt le32
 omega
theorem getD_ram {v : SpV} (h : v.Ok) {j : Nat} (hj : j < 8192) : v.ram[j]? = some (v.ram.getD j 0) := by
 rw [List.getD_eq_getElem?_getD, List.getElem?_eq_getElem (by rw [h.rl]; exact hj)]
 rfl
theorem step_any (c : Cr) (hc : c.Ok) (tm : Bool) (w : World) (g f pf cc p b : Nat) (u : SpV) (F vs : List Nat) (ls : List Bool) (sd : Bool) (hsw : Sw w g f pf cc p b u F vs ls sd) (hS : Spans w) (hst : u.st = 1 ∨ u.st = 2) :
  Calls Tryz.prog 28 #[.agg (crC c), .pointer (some ⟨g, 0, none⟩), .bool tm] w (DoOut g (stepI u c) (stepR u F vs ls c tm) w) := by
 have HSW := wall hsw
 have HS := wall hS
 have HST := wall hst
 have HC := wall hc
 have HCT := wall (hc.time tm)
 have HF := wall (Fr.new w c)
 have HZ := wall cr_zero
 have HE := wall ev_zero
 have HGL := wall (show g < w.heap.size from Blk.lt hsw.sp)
 obtain ⟨J, hJ⟩ : ∃ J, stepR u F vs ls c tm = J := ⟨_, rfl⟩
 rw [hJ]
 have HJ := wall hJ.symm
 obtain ⟨II, hII⟩ : ∃ J, stepI u c = J := ⟨_, rfl⟩
 rw [hII]
 have HII := wall hII
 obtain ⟨C, hC⟩ : ∃ y, crC c = y := ⟨_, rfl⟩
 obtain ⟨Z, hZ⟩ : ∃ y, crC crZ = y := ⟨_, rfl⟩
 obtain ⟨E, hE⟩ : ∃ y, evZ = y := ⟨_, rfl⟩
 have HZE := wall (And.intro hZ hE)
 rw [hC, hZ, hE] at HF
 rw [hZ] at HZ
 rw [hE] at HE
 rw [hC]
 clear hc hC hsw hS hst hJ hII
 go_enter Tryz.func28, Tryz.ntmps28
 go_upto_region 1 with (first | refine Big.wpList_alloc_at rfl 71 rfl Z HZ.out (w.heap.size + 1) (by simp) ?_ | refine Big.wpList_alloc_at rfl 78 rfl E HE.out (w.heap.size + 2) (by simp) ?_)
 try simp only [Act.put, rpA, rpB, rpC]
 refine wp_fr w c HF.out ?_
 intro w1 h1
 have H1 := wall h1
 have k41 := h1.c.tm HC.out
 have hfz := h1.frozen
 clear h1 HF
 go_upto_region 4 with fail
 refine wp_fr w (c.time tm) (H1.out.time HC.out tm) ?_
 clear H1 k41 hfz
 intro w2 h2
 have HX := wall h2
 have k33 := h2.cell HCT.out (show 33 < 41 by decide)
 have k34 := h2.cell HCT.out (show 34 < 41 by decide)
 have e33 : (c.time tm).g 33 = c.g 33 := rfl
 have e34 : (c.time tm).g 34 = c.g 34 := rfl
 rw [e33] at k33
 rw [e34] at k34
 have hb8 := and8 (c.g 33) (HC.out.g 33)
 have hb128 := and128 (c.g 34) (HC.out.g 34)
 have HLT := wall (show letT c tm = (tm && (c.g 34 / 128 % 2 == 1) && (c.g 33 / 8 % 2 == 1)) from rfl)
 obtain ⟨lt, hlt⟩ : ∃ y, letT c tm = y := ⟨_, rfl⟩
 have HLE := wall hlt
 rw [hlt] at HLT
 clear e33 e34 h2 hlt
 obtain ⟨s8, hs8⟩ : ∃ y, c.g 33 / 8 % 2 = y := ⟨_, rfl⟩
 obtain ⟨s128, hs128⟩ : ∃ y, c.g 34 / 128 % 2 = y := ⟨_, rfl⟩
 have H82 := wall (show s8 < 2 ∧ s128 < 2 by omega)
 rw [hs8, hs128] at HLT
 rw [hs8] at hb8
 rw [hs128] at hb128
 obtain ⟨s33, hs33⟩ : ∃ y, c.g 33 = y := ⟨_, rfl⟩
 obtain ⟨s34, hs34⟩ : ∃ y, c.g 34 = y := ⟨_, rfl⟩
 rw [hs33] at k33 hb8
 rw [hs34] at k34 hb128
 clear hs8 hs128 hs33 hs34
 go_cut [32] (fun v w' => v = .bool lt ∧ w2 = w')
 case first =>
  clear HZ HE HS HSW HX HJ
  have f1 : ((s128 : Int) * 128 != 0) = (s128 == 1) := by rw [Bool.eq_iff_iff]; have := H82.out; simp; omega
  have f2 : ((s8 : Int) * 8 != 0) = (s8 == 1) := by rw [Bool.eq_iff_iff]; have := H82.out; simp; omega
  obtain ⟨p1, hp1⟩ : ∃ y, (s128 == 1) = y := ⟨_, rfl⟩
  obtain ⟨p2, hp2⟩ : ∃ y, (s8 == 1) = y := ⟨_, rfl⟩
  rw [hp1] at f1 HLT
  rw [hp2] at f2 HLT
  clear hp1 hp2
  cases tm with
  | true =>
   cases p1 with
   | true =>
    cases p2 with
    | true =>
     go_wp2_with fail
     go_meet
     exact ⟨by rw [HLT.out]; rfl, rfl⟩
    | false =>
     go_wp2_with fail
     go_meet
     exact ⟨by rw [HLT.out]; rfl, rfl⟩
   | false =>
    go_wp2_with fail
    go_meet
    exact ⟨by rw [HLT.out]; rfl, rfl⟩
  | false =>
   go_wp2_with fail
   go_meet
   exact ⟨by rw [HLT.out]; rfl, rfl⟩
 case rest =>
 clear k33 k34 hb8 hb128 HLT H82
 obtain ⟨rfl, rfl⟩ := hcut
 have HJ1 := wall (show J = if lt = true then pairR u (trR (c.time tm) 2147483655 (c.g 32)) else if c.g 32 % 4 ≠ 0 then pairR u (trR (c.time tm) 0 (c.g 32)) else if (fetchAt u (c.g 32)).2.2 ≠ 0 then pairR u (trR (c.time tm) 1 (c.g 32)) else stepD u F vs ls (c.time tm) (wordAt u (fetchAt u (c.g 32)).2.1) (dec (wordAt u (fetchAt u (c.g 32)).2.1)) by rw [HJ.out]; unfold stepR; rw [HLE.out])
 have HIW := wall (show II = fstI (dec (wordAt u (fetchAt u (c.g 32)).2.1)) by rw [← HII.out, stepI])
 have HPL := wall (HC.out.g 32)
 have hpc2 : (c.time tm).g 32 = c.g 32 := rfl
 obtain ⟨c2, hc2⟩ : ∃ y, c.time tm = y := ⟨_, rfl⟩
 rw [hc2] at HX HJ1 hpc2 HCT
 obtain ⟨pc, hpc⟩ : ∃ y, c.g 32 = y := ⟨_, rfl⟩
 rw [hpc] at HJ1 hpc2 HIW HPL
 have HC2 := wall HCT.out
 have HPC2 := wall hpc2
 obtain ⟨D, hD⟩ : ∃ y, crC c2 = y := ⟨_, rfl⟩
 have HSI := wall (show (Tryz.prog.info? 71).map (·.size) = some D.size by rw [← hD, crC_size HC2.out]; exact cr_info)
 clear hc2 hpc hpc2 HCT HC HJ HII HLE
 cases lt with
 | true =>
  have HJE := wall (show J = pairR u (trR c2 2147483655 pc) by rw [HJ1.out]; simp)
  have HNX := wall (fun W => show Calls Tryz.prog 97 #[.agg (crC c2), .int .u32 2147483655, .int .u32 (pc : Int)] W (StepOut (trapC c2 2147483655 pc) (evO (some 2147483655) II) W) from trap_any c2 HC2.out 2147483655 pc W (by decide) HPL.out)
  unfold StepOut at HNX
  have HOK1 := wall (show (trapC c2 2147483655 pc).Ok from Cr.Ok.trap HC2.out (by decide) HPL.out)
  have HRW := wall (res_row HOK1.out)
  have HEW := wall (evo_row (some 2147483655) II)
  rw [HZE.out.1] at HRW
  rw [HZE.out.2] at HEW
  obtain ⟨D2, hD2⟩ : ∃ q9, crC (trapC c2 2147483655 pc) = q9 := ⟨_, rfl⟩
  obtain ⟨V, hV⟩ : ∃ q9, evO (some 2147483655) II = q9 := ⟨_, rfl⟩
  have HD2 := wall hD2
  have HVV := wall hV
  rw [hD2] at HNX HRW
  rw [hV] at HNX HEW
  rw [hD] at HNX
  clear hD2 hV
  have k32 := HX.out.cell HC2.out (show 32 < 41 by decide)
  rw [HPC2.out] at k32
  have HCB := wall (show Blk w2 w.heap.size 71 D by rw [← hD]; exact HX.out.c)
  go_wp2_with (first | refine wpList_load_row rfl 71 _ rfl w.heap.size rfl 71 D (0, 0) _ HCB.out Tryz.underlying71 rfl HSI.out ?_)
  (with_reducible refine (HNX.out _).mono ?_); rintro e w8 ⟨rfl, hB8⟩
  have H8 := wall (HX.out.next hB8)
  have H8o := wall (show Blk w8 (w.heap.size + 1) 71 Z by rw [← hZ]; exact H8.out.o)
  have H8e := wall (show Blk w8 (w.heap.size + 2) 78 E by rw [← hE]; exact H8.out.e)
  have H8b := wall H8.out.bel
  clear hB8 H8 HNX HX HCB k32
  try simp only [Act.put, rpA, rpB, rpC]
  go_wp2_with (first | (refine wpList_set_row rfl 71 (.tmp 6) (.tmp 37) rfl (w.heap.size + 1) D2 rfl rfl 71 Z H8o.out HRW.out.1 HRW.out.2.1 HRW.out.2.2 ?_; intro w9 K9 F9; have H9e := wall (H8e.out.frm F9.out (by simp)); have H9b := wall (Below.frm H8b.out F9.out (Nat.le_refl _) (by simp))) | (refine wpList_set_row rfl 78 (.tmp 7) (.tmp 38) rfl (w.heap.size + 2) V rfl rfl 78 E H9e.out HEW.out.1 HEW.out.2.1 HEW.out.2.2 ?_; intro w10 K10 F10))
  have K10o := wall (K9.out.frm F10.out (by simp))
  have HB10 := wall (Below.frm H9b.out F10.out (Nat.le_refl _) (by simp))
  go_light
  exact bodyPost_ret (v := .tuple #[.agg D2, .agg V]) (results_two Tryz.results28 _ _ (w.heap.size + 1) (w.heap.size + 2) 71 78 D2 V _ _ rfl rfl K10o.out K10.out Tryz.underlying71 rfl HRW.out.1 Tryz.underlying78 rfl HEW.out.1) rfl (by rw [HJE.out]; exact do_pair (R := trR c2 2147483655 pc) HSW.out.sp _ _ ⟨by rw [← HD2.out, ← HVV.out]; rfl, HB10.out⟩)
 | false =>
  have HJ2 := wall (show J = if pc % 4 ≠ 0 then pairR u (trR c2 0 pc) else if (fetchAt u pc).2.2 ≠ 0 then pairR u (trR c2 1 pc) else stepD u F vs ls c2 (wordAt u (fetchAt u pc).2.1) (dec (wordAt u (fetchAt u pc).2.1)) by rw [HJ1.out]; simp)
  clear HJ1
  by_cases hm : pc % 4 = 0
  ·have hm1 : ((pc : Int) % 4 != 0) = false := by rw [bne_eq_false_iff_eq]; omega
   have HJ3 := wall (show J = if (fetchAt u pc).2.2 ≠ 0 then pairR u (trR c2 1 pc) else stepD u F vs ls c2 (wordAt u (fetchAt u pc).2.1) (dec (wordAt u (fetchAt u pc).2.1)) by rw [HJ2.out, if_neg (by simpa using hm)])
   clear HJ2 hm
   have k32 := HX.out.cell HC2.out (show 32 < 41 by decide)
   rw [HPC2.out] at k32
   have HWF := wall (show (Lit.int .i64 u.st).wf = true by rcases HST.out with h | h <;> rw [h] <;> decide)
   by_cases he : (fetchAt u pc).2.2 = 0
   ·obtain ⟨o, hk, ho⟩ : ∃ o, chk 1 u.st pc 4 false true = (1, o, 0) ∧ o + 4 ≤ 4096 := by
     unfold fetchAt at he
     rcases HST.out with h | h
     ·rw [h] at he ⊢; exact core_fetch pc 1 (.inl rfl) he
     ·rw [h] at he ⊢; exact core_fetch pc 2 (.inr rfl) he
    have hfk : fetchAt u pc = (1, o, 0) := hk
    have HJ4 := wall (show J = stepD u F vs ls c2 (wordAt u o) (dec (wordAt u o)) by rw [HJ3.out, hfk]; simp)
    have HI2 := wall (show II = fstI (dec (wordAt u o)) by rw [HIW.out, hfk])
    have HWL := wall (wordAt_lt HSW.out.ok o)
    have HFE := wall (fun W (h1 : Sp W g u) (h2 : Spans W) => fetch_ok g u pc o (pc : Int) (u.ram.getD o 0) (u.ram.getD (o + 1) 0) (u.ram.getD (o + 2) 0) (u.ram.getD (o + 3) 0) W HSW.out.ok h1 rfl (by have := HPL.out; omega) HWF.out h2 hk ho (getD_ram HSW.out.ok (by omega)) (getD_ram HSW.out.ok (by omega)) (getD_ram HSW.out.ok (by omega)) (getD_ram HSW.out.ok (by omega)))
    have hwe : le32 (u.ram.getD o 0) (u.ram.getD (o + 1) 0) (u.ram.getD (o + 2) 0) (u.ram.getD (o + 3) 0) = wordAt u o := by rw [wordAt]
    rw [hwe] at HFE
    obtain ⟨wd, hwd⟩ : ∃ y, wordAt u o = y := ⟨_, rfl⟩
    rw [hwd] at HJ4 HI2 HWL HFE
    have HDC := wall (fun W => decode_any wd (wd : Int) W rfl HWL.out)
    have HIX := wall (fun h => dec_ind (v := wd) HWL.out h)
    obtain ⟨⟨ii, ok⟩, hd⟩ : ∃ y, dec wd = y := ⟨_, rfl⟩
    rw [hd] at HDC HJ4 HI2 HIX
    unfold InOut at HDC
    simp only at HDC HIX
    have HIE := wall (show II = ii from HI2.out)
    have HIN := wall (show (Tryz.prog.info? 54).map (·.size) = some (inC ii).size ∧ (inC zIn).size = (inC ii).size ∧ (inC ii).all (·.oneCell') = true from ⟨in_info, rfl, in_one ii⟩)
    obtain ⟨I, hI⟩ : ∃ y, inC ii = y := ⟨_, rfl⟩
    have HI := wall hI
    rw [hI] at HDC HIN
    clear hI hd hwd hwe hk hfk ho he HJ3 HIW HI2
    go_wp2_with fail
    (with_reducible refine (HFE.out _ (HSW.out.old HX.out.bel).sp (HS.out.old HX.out.bel)).mono ?_); rintro e w3 ⟨rfl, hB3⟩
    replace HX := wall (HX.out.next hB3)
    clear hB3 HFE k32 hm1
    try simp only [Act.put, rpA, rpB, rpC]
    go_wp2_with fail
    (with_reducible refine (HDC.out _).mono ?_); rintro e w4 ⟨rfl, hB4⟩
    replace HX := wall (HX.out.next hB4)
    clear hB4 HDC
    try simp only [Act.put, rpA, rpB, rpC]
    go_upto_region 12 with (refine wpList_new_row rfl 54 (.tmp 10) (.tmp 67) rfl w4.heap.size I rfl rfl 54 (inC zIn) (Blk.new _ _ _) HIN.out.1 HIN.out.2.1 HIN.out.2.2 w4.heap.size w4 ((Below.refl _ w4).alloc (Nat.le_refl _) _) (Nat.le_refl _) ?_; intro w5 K5 B5)
    replace HX := wall (HX.out.next B5.out)
    have HIB := wall K5.out
    clear K5 B5
    try simp only [Act.put, rpA, rpB, rpC]
    cases ok with
    | false =>
     have HJ9 := wall (show J = pairR u (trR c2 2 wd) by rw [HJ4.out]; unfold stepD; simp)
     clear HJ4 HIX
     have HJE := wall (show J = pairR u (trR c2 2 wd) by exact HJ9.out)
     have HNX := wall (fun W => show Calls Tryz.prog 97 #[.agg (crC c2), .int .u32 2, .int .u32 (wd : Int)] W (StepOut (trapC c2 2 wd) (evO (some 2) II) W) from trap_any c2 HC2.out 2 wd W (by decide) HWL.out)
     unfold StepOut at HNX
     have HOK1 := wall (show (trapC c2 2 wd).Ok from Cr.Ok.trap HC2.out (by decide) HWL.out)
     have HRW := wall (res_row HOK1.out)
     have HEW := wall (evo_row (some 2) II)
     rw [HZE.out.1] at HRW
     rw [HZE.out.2] at HEW
     obtain ⟨D2, hD2⟩ : ∃ q9, crC (trapC c2 2 wd) = q9 := ⟨_, rfl⟩
     obtain ⟨V, hV⟩ : ∃ q9, evO (some 2) II = q9 := ⟨_, rfl⟩
     have HD2 := wall hD2
     have HVV := wall hV
     rw [hD2] at HNX HRW
     rw [hV] at HNX HEW
     rw [hD] at HNX
     clear hD2 hV
     have k32 := HX.out.cell HC2.out (show 32 < 41 by decide)
     rw [HPC2.out] at k32
     have HCB := wall (show Blk w5 w.heap.size 71 D by rw [← hD]; exact HX.out.c)
     go_wp2_with (first | refine wpList_load_row rfl 71 _ rfl w.heap.size rfl 71 D (0, 0) _ HCB.out Tryz.underlying71 rfl HSI.out ?_)
     (with_reducible refine (HNX.out _).mono ?_); rintro e w8 ⟨rfl, hB8⟩
     have H8 := wall (HX.out.next hB8)
     have H8o := wall (show Blk w8 (w.heap.size + 1) 71 Z by rw [← hZ]; exact H8.out.o)
     have H8e := wall (show Blk w8 (w.heap.size + 2) 78 E by rw [← hE]; exact H8.out.e)
     have H8b := wall H8.out.bel
     clear hB8 H8 HNX HX HCB k32
     try simp only [Act.put, rpA, rpB, rpC]
     go_wp2_with (first | (refine wpList_set_row rfl 71 (.tmp 6) (.tmp 74) rfl (w.heap.size + 1) D2 rfl rfl 71 Z H8o.out HRW.out.1 HRW.out.2.1 HRW.out.2.2 ?_; intro w9 K9 F9; have H9e := wall (H8e.out.frm F9.out (by simp)); have H9b := wall (Below.frm H8b.out F9.out (Nat.le_refl _) (by simp))) | (refine wpList_set_row rfl 78 (.tmp 7) (.tmp 75) rfl (w.heap.size + 2) V rfl rfl 78 E H9e.out HEW.out.1 HEW.out.2.1 HEW.out.2.2 ?_; intro w10 K10 F10))
     have K10o := wall (K9.out.frm F10.out (by simp))
     have HB10 := wall (Below.frm H9b.out F10.out (Nat.le_refl _) (by simp))
     go_light
     exact bodyPost_ret (v := .tuple #[.agg D2, .agg V]) (results_two Tryz.results28 _ _ (w.heap.size + 1) (w.heap.size + 2) 71 78 D2 V _ _ rfl rfl K10o.out K10.out Tryz.underlying71 rfl HRW.out.1 Tryz.underlying78 rfl HEW.out.1) rfl (by rw [HJE.out]; exact do_pair (R := trR c2 2 wd) HSW.out.sp _ _ ⟨by rw [← HD2.out, ← HVV.out]; rfl, HB10.out⟩)
    | true =>
     obtain ⟨hid, hop0⟩ := HIX.out rfl
     have HJ9 := wall (show J = doR u F vs ls c2 ii wd by rw [HJ4.out]; unfold stepD; simp)
     have HNX := wall (fun W (hb : Below w.heap.size w W) => do_any c2 HC2.out ii wd W hid hop0 g f pf cc p b u F vs ls sd (HSW.out.old hb) (HS.out.old hb) HST.out HWL.out)
     unfold DoOut at HNX
     rw [hD, HI.out] at HNX
     have HOK := wall (doR_ok (vs := vs) (ls := ls) HC2.out hid HWL.out HSW.out.ok HSW.out.fn HSW.out.fb)
     rw [← HJ9.out] at HNX HOK
     have HRW := wall (res_row HOK.out)
     rw [HZE.out.1] at HRW
     obtain ⟨D2, hD2⟩ : ∃ q9, crC J.c = q9 := ⟨_, rfl⟩
     have HD2 := wall hD2
     rw [hD2] at HNX HRW
     have HCB := wall (show Blk w5 w.heap.size 71 D by rw [← hD]; exact HX.out.c)
     have HSI2 := wall (show (Tryz.prog.info? 54).map (·.size) = some I.size from HIN.out.1)
     have HIX4 := wall (show w.heap.size + 2 < w5.heap.size from HX.out.e.lt)
     clear hD2 hid hop0 HJ4 HIX
     go_wp2_with (first | refine wpList_load_row rfl 71 _ rfl w.heap.size rfl 71 D (0, 0) _ HCB.out Tryz.underlying71 rfl HSI.out ?_ | refine wpList_load_row rfl 54 _ rfl w4.heap.size rfl 54 I (0, 0) _ HIB.out Tryz.underlying54 rfl HSI2.out ?_)
     (with_reducible refine (HNX.out _ HX.out.bel).mono ?_); rintro e w8 ⟨A, n, cap, rfl, hSp, hF, hN⟩
     have HEW := wall (evw_row J.t ii J.a A n cap)
     rw [HZE.out.2] at HEW
     obtain ⟨V, hV⟩ : ∃ q9, evW J.t ii J.a A n cap = q9 := ⟨_, rfl⟩
     have HVV := wall hV
     rw [hV] at HEW ⊢
     have hgl := HGL.out
     have H8o := wall (show Blk w8 (w.heap.size + 1) 71 Z by rw [← hZ]; exact HX.out.o.frm hF (by simp; omega))
     have H8e := wall (show Blk w8 (w.heap.size + 2) 78 E by rw [← hE]; exact HX.out.e.frm hF (by simp; omega))
     have H8f := wall ((Frm.of_below (S := [g]) HX.out.bel).trans hF)
     have H8s := wall hSp
     have H8n := wall hN
     clear hSp hF hN HNX hV HCB HIB HX
     try simp only [Act.put, rpA, rpB, rpC]
     go_wp2_with (first | (refine wpList_set_row rfl 71 (.tmp 6) (.tmp 81) rfl (w.heap.size + 1) D2 rfl rfl 71 Z H8o.out HRW.out.1 HRW.out.2.1 HRW.out.2.2 ?_; intro w9 K9 F9; have H9e := wall (H8e.out.frm F9.out (by simp))) | (refine wpList_set_row rfl 78 (.tmp 7) (.tmp 82) rfl (w.heap.size + 2) V rfl rfl 78 E H9e.out HEW.out.1 HEW.out.2.1 HEW.out.2.2 ?_; intro w10 K10 F10))
     have K10o := wall (K9.out.frm F10.out (by simp))
     have HS10 := wall (show Sp w10 g J.v from Blk.frm (Blk.frm H8s.out F9.out (by simp; omega)) F10.out (by simp; omega))
     have HF10 := wall ((H8f.out.trans' F9.out (by simp; omega)).trans' F10.out (by simp; omega))
     have HN10 := wall (show J.t = none → n = J.p.length ∧ Nats .u8 256 w10 w10.heap.size A J.p ∧ (∀ ad : Addr, A = some ad → w.heap.size ≤ ad.block) ∧ (J.p = [] → A = none ∧ cap = 0) from fun ht => by
      obtain ⟨q1, q2, q3, q4⟩ := H8n.out ht
      have h4 := HIX4.out
      refine ⟨q1, fun j x hx => ?_, fun ad ha => by have := q3 ad ha; omega, q4⟩
      obtain ⟨r1, gb, ob, r2, r3, r4⟩ := q2 j x hx
      have r5 := q3 _ r2
      simp only at r5
      refine ⟨r1, gb, ob, r2, Nat.lt_of_lt_of_le r3 (Nat.le_trans F9.out.size F10.out.size), ?_⟩
      rw [← r4]
      exact (World.cell?_of_block (F10.out.block _ (Nat.lt_of_lt_of_le r3 F9.out.size) (by simp; omega))).trans (World.cell?_of_block (F9.out.block _ r3 (by simp; omega))))
     clear hgl
     go_light
     exact bodyPost_ret (v := .tuple #[.agg D2, .agg V]) (results_two Tryz.results28 _ _ (w.heap.size + 1) (w.heap.size + 2) 71 78 D2 V _ _ rfl rfl K10o.out K10.out Tryz.underlying71 rfl HRW.out.1 Tryz.underlying78 rfl HEW.out.1) rfl ⟨A, n, cap, by rw [HIE.out, HD2.out, HVV.out], HS10.out, HF10.out, HN10.out⟩
   ·have HFB := wall (fetch_bad g u.st pc (pc : Int) w2 rfl (by have := HPL.out; omega) HWF.out (HS.out.old HX.out.bel) (HSW.out.old HX.out.bel).sp.st he)
    have HJ9 := wall (show J = pairR u (trR c2 1 pc) by rw [HJ3.out, if_pos he])
    obtain ⟨er, her⟩ : ∃ y, (chk 1 u.st pc 4 false true).2.2 = y := ⟨_, rfl⟩
    rw [her] at HFB
    have hne : (((er : Nat) : Int) != 0) = true := by rw [bne_iff_ne]; unfold fetchAt at he; rw [her] at he; omega
    clear HJ3 he her
    go_wp2_with fail
    (with_reducible refine (HFB.out).mono ?_); rintro e w6 ⟨rfl, hB6⟩
    replace HX := wall (HX.out.next hB6)
    clear HFB hB6 k32
    try simp only [Act.put, rpA, rpB, rpC]
    have HJE := wall (show J = pairR u (trR c2 1 pc) by exact HJ9.out)
    have HNX := wall (fun W => show Calls Tryz.prog 97 #[.agg (crC c2), .int .u32 1, .int .u32 (pc : Int)] W (StepOut (trapC c2 1 pc) (evO (some 1) II) W) from trap_any c2 HC2.out 1 pc W (by decide) HPL.out)
    unfold StepOut at HNX
    have HOK1 := wall (show (trapC c2 1 pc).Ok from Cr.Ok.trap HC2.out (by decide) HPL.out)
    have HRW := wall (res_row HOK1.out)
    have HEW := wall (evo_row (some 1) II)
    rw [HZE.out.1] at HRW
    rw [HZE.out.2] at HEW
    obtain ⟨D2, hD2⟩ : ∃ q9, crC (trapC c2 1 pc) = q9 := ⟨_, rfl⟩
    obtain ⟨V, hV⟩ : ∃ q9, evO (some 1) II = q9 := ⟨_, rfl⟩
    have HD2 := wall hD2
    have HVV := wall hV
    rw [hD2] at HNX HRW
    rw [hV] at HNX HEW
    rw [hD] at HNX
    clear hD2 hV
    have k32 := HX.out.cell HC2.out (show 32 < 41 by decide)
    rw [HPC2.out] at k32
    have HCB := wall (show Blk w6 w.heap.size 71 D by rw [← hD]; exact HX.out.c)
    go_wp2_with (first | refine wpList_load_row rfl 71 _ rfl w.heap.size rfl 71 D (0, 0) _ HCB.out Tryz.underlying71 rfl HSI.out ?_)
    (with_reducible refine (HNX.out _).mono ?_); rintro e w8 ⟨rfl, hB8⟩
    have H8 := wall (HX.out.next hB8)
    have H8o := wall (show Blk w8 (w.heap.size + 1) 71 Z by rw [← hZ]; exact H8.out.o)
    have H8e := wall (show Blk w8 (w.heap.size + 2) 78 E by rw [← hE]; exact H8.out.e)
    have H8b := wall H8.out.bel
    clear hB8 H8 HNX HX HCB k32
    try simp only [Act.put, rpA, rpB, rpC]
    go_wp2_with (first | (refine wpList_set_row rfl 71 (.tmp 6) (.tmp 62) rfl (w.heap.size + 1) D2 rfl rfl 71 Z H8o.out HRW.out.1 HRW.out.2.1 HRW.out.2.2 ?_; intro w9 K9 F9; have H9e := wall (H8e.out.frm F9.out (by simp)); have H9b := wall (Below.frm H8b.out F9.out (Nat.le_refl _) (by simp))) | (refine wpList_set_row rfl 78 (.tmp 7) (.tmp 63) rfl (w.heap.size + 2) V rfl rfl 78 E H9e.out HEW.out.1 HEW.out.2.1 HEW.out.2.2 ?_; intro w10 K10 F10))
    have K10o := wall (K9.out.frm F10.out (by simp))
    have HB10 := wall (Below.frm H9b.out F10.out (Nat.le_refl _) (by simp))
    go_light
    exact bodyPost_ret (v := .tuple #[.agg D2, .agg V]) (results_two Tryz.results28 _ _ (w.heap.size + 1) (w.heap.size + 2) 71 78 D2 V _ _ rfl rfl K10o.out K10.out Tryz.underlying71 rfl HRW.out.1 Tryz.underlying78 rfl HEW.out.1) rfl (by rw [HJE.out]; exact do_pair (R := trR c2 1 pc) HSW.out.sp _ _ ⟨by rw [← HD2.out, ← HVV.out]; rfl, HB10.out⟩)
  ·have hm1 : ((pc : Int) % 4 != 0) = true := by rw [bne_iff_ne]; omega
   have HJ9 := wall (show J = pairR u (trR c2 0 pc) by rw [HJ2.out, if_pos hm])
   clear HJ2 hm
   have HJE := wall (show J = pairR u (trR c2 0 pc) by exact HJ9.out)
   have HNX := wall (fun W => show Calls Tryz.prog 97 #[.agg (crC c2), .int .u32 0, .int .u32 (pc : Int)] W (StepOut (trapC c2 0 pc) (evO (some 0) II) W) from trap_any c2 HC2.out 0 pc W (by decide) HPL.out)
   unfold StepOut at HNX
   have HOK1 := wall (show (trapC c2 0 pc).Ok from Cr.Ok.trap HC2.out (by decide) HPL.out)
   have HRW := wall (res_row HOK1.out)
   have HEW := wall (evo_row (some 0) II)
   rw [HZE.out.1] at HRW
   rw [HZE.out.2] at HEW
   obtain ⟨D2, hD2⟩ : ∃ q9, crC (trapC c2 0 pc) = q9 := ⟨_, rfl⟩
   obtain ⟨V, hV⟩ : ∃ q9, evO (some 0) II = q9 := ⟨_, rfl⟩
   have HD2 := wall hD2
   have HVV := wall hV
   rw [hD2] at HNX HRW
   rw [hV] at HNX HEW
   rw [hD] at HNX
   clear hD2 hV
   have k32 := HX.out.cell HC2.out (show 32 < 41 by decide)
   rw [HPC2.out] at k32
   have HCB := wall (show Blk w2 w.heap.size 71 D by rw [← hD]; exact HX.out.c)
   go_wp2_with (first | refine wpList_load_row rfl 71 _ rfl w.heap.size rfl 71 D (0, 0) _ HCB.out Tryz.underlying71 rfl HSI.out ?_)
   (with_reducible refine (HNX.out _).mono ?_); rintro e w8 ⟨rfl, hB8⟩
   have H8 := wall (HX.out.next hB8)
   have H8o := wall (show Blk w8 (w.heap.size + 1) 71 Z by rw [← hZ]; exact H8.out.o)
   have H8e := wall (show Blk w8 (w.heap.size + 2) 78 E by rw [← hE]; exact H8.out.e)
   have H8b := wall H8.out.bel
   clear hB8 H8 HNX HX HCB k32
   try simp only [Act.put, rpA, rpB, rpC]
   go_wp2_with (first | (refine wpList_set_row rfl 71 (.tmp 6) (.tmp 47) rfl (w.heap.size + 1) D2 rfl rfl 71 Z H8o.out HRW.out.1 HRW.out.2.1 HRW.out.2.2 ?_; intro w9 K9 F9; have H9e := wall (H8e.out.frm F9.out (by simp)); have H9b := wall (Below.frm H8b.out F9.out (Nat.le_refl _) (by simp))) | (refine wpList_set_row rfl 78 (.tmp 7) (.tmp 48) rfl (w.heap.size + 2) V rfl rfl 78 E H9e.out HEW.out.1 HEW.out.2.1 HEW.out.2.2 ?_; intro w10 K10 F10))
   have K10o := wall (K9.out.frm F10.out (by simp))
   have HB10 := wall (Below.frm H9b.out F10.out (Nat.le_refl _) (by simp))
   go_light
   exact bodyPost_ret (v := .tuple #[.agg D2, .agg V]) (results_two Tryz.results28 _ _ (w.heap.size + 1) (w.heap.size + 2) 71 78 D2 V _ _ rfl rfl K10o.out K10.out Tryz.underlying71 rfl HRW.out.1 Tryz.underlying78 rfl HEW.out.1) rfl (by rw [HJE.out]; exact do_pair (R := trR c2 0 pc) HSW.out.sp _ _ ⟨by rw [← HD2.out, ← HVV.out]; rfl, HB10.out⟩)
end Core
end Go.Proofs.YtmiaabpnolebhaaGreatDoor
namespace Go.Proofs.YtmiaabpnolebhaaGreatDoor
open Go.RowKit

namespace Spc
open Otp Sha Grant R1 Fla
theorem Sw.put {w w' : World} {g f pf cc p b : Nat} {v v' : SpV} {F vs : List Nat} {ls : List Bool} {sd : Bool} (h : Sw w g f pf cc p b v F vs ls sd) (hs : Sp w' g v') (hf : Frm [g] w w') (ho : v'.Ok) (h1 : v'.fl = v.fl) (h2 : v'.ch = v.ch) : Sw w' g f pf cc p b v' F vs ls sd := by
 obtain ⟨T, k1, k2⟩ := h.hF
 obtain ⟨_, _, k3⟩ := h.hC.fz.head
 obtain ⟨_, k4, _⟩ := h.hC.fz.row
 have n1 : g ≠ f := Blk.ne h.sp k1 (by decide)
 have n2 : g ≠ pf := Blk.ne h.sp k2 (by decide)
 have n3 : g ≠ cc := Blk.ne h.sp h.hC.head (by decide)
 have n4 : g ≠ p := Blk.ne h.sp k3 (by decide)
 have n5 : g ≠ b := Blk.ne h.sp k4 (by decide)
 exact ⟨ho, hs, h1.trans h.fl, h2.trans h.ch, ⟨T, k1.frm hf (by simp; omega), k2.frm hf (by simp; omega)⟩, h.fb, h.fn, h.hC.frm hf (by simp; omega) (by simp; omega) (by simp; omega)⟩
theorem Sw.lts {w : World} {g f pf cc p b : Nat} {v : SpV} {F vs : List Nat} {ls : List Bool} {sd : Bool} (h : Sw w g f pf cc p b v F vs ls sd) : g < w.heap.size ∧ f < w.heap.size ∧ pf < w.heap.size ∧ cc < w.heap.size ∧ p < w.heap.size ∧ b < w.heap.size :=
 ⟨Blk.lt h.sp, h.hF.lt.1, h.hF.lt.2, h.hC.head.lt, h.hC.fz.ltp, h.hC.fz.ltb⟩
theorem Sw.far {w w' : World} {g f pf cc p b x : Nat} {v : SpV} {F vs : List Nat} {ls : List Bool} {sd : Bool} (h : Sw w g f pf cc p b v F vs ls sd) (hf : Frm [x] w w') (hl : g < x ∧ f < x ∧ pf < x ∧ cc < x ∧ p < x ∧ b < x) : Sw w' g f pf cc p b v F vs ls sd := by
 obtain ⟨T, k1, k2⟩ := h.hF
 exact ⟨h.ok, Blk.frm h.sp hf (by simp; omega), h.fl, h.ch, ⟨T, k1.frm hf (by simp; omega), k2.frm hf (by simp; omega)⟩, h.fb, h.fn, h.hC.frm hf (by simp; omega) (by simp; omega) (by simp; omega)⟩
theorem Spans.frm {w w' : World} {g : Nat} (h : Spans w) (hf : Frm [g] w w') (hn : g ≠ 3) : Spans w' := by
 obtain ⟨ty, k⟩ := h
 exact ⟨ty, k.frm hf (by simp; omega)⟩
end Spc
namespace Core
open Otp Sha Rv Grant Spc R1 Fla
structure Kept (v v' : SpV) : Prop where
 ok : v'.Ok
 st : v'.st = v.st
 fl : v'.fl = v.fl
 ch : v'.ch = v.ch
theorem store_kept {v : SpV} {c : Cr} {i : In} (hv : v.Ok) (hst : v.st = 1 ∨ v.st = 2) : Kept v (storeR v c i).v := by
 unfold storeR
 split
 ·exact ⟨hv, rfl, rfl, rfl⟩
 ·split
  ·exact ⟨hv, rfl, rfl, rfl⟩
  ·obtain ⟨h1, h2, h3⟩ := st_same v 1 (atN c i) (byL (c.g i.b) (szN i.op))
   have hl : (byL (c.g i.b) (szN i.op)).length = szN i.op := byL_len _ (by rcases szN_cases i.op with h | h | h <;> omega)
   exact ⟨st_ok hv 1 (atN c i) _ (byL_lt _ _) (fun h => by
    rw [hl] at h ⊢
    rcases hst with e | e
    ·rw [e] at h ⊢; exact core_reg _ _ 1 (.inl rfl) h
    ·rw [e] at h ⊢; exact core_reg _ _ 2 (.inr rfl) h), h1, h2, h3⟩
theorem do_kept {v : SpV} {F vs : List Nat} {ls : List Bool} {c : Cr} {i : In} {w : Nat} (hv : v.Ok) (hst : v.st = 1 ∨ v.st = 2) : Kept v (doR v F vs ls c i w).v := by
 unfold doR
 split
 ·exact store_kept hv hst
 ·exact ⟨hv, rfl, rfl, rfl⟩
theorem stepD_kept {v : SpV} {F vs : List Nat} {ls : List Bool} {c : Cr} {w : Nat} {d : In × Bool} (hv : v.Ok) (hst : v.st = 1 ∨ v.st = 2) : Kept v (stepD v F vs ls c w d).v := by
 unfold stepD
 split
 ·exact ⟨hv, rfl, rfl, rfl⟩
 ·exact do_kept hv hst
theorem step_kept {v : SpV} {F vs : List Nat} {ls : List Bool} {c : Cr} {tm : Bool} (hv : v.Ok) (hst : v.st = 1 ∨ v.st = 2) : Kept v (stepR v F vs ls c tm).v := by
 unfold stepR
 split
 ·exact ⟨hv, rfl, rfl, rfl⟩
 ·split
  ·exact ⟨hv, rfl, rfl, rfl⟩
  ·split
   ·exact ⟨hv, rfl, rfl, rfl⟩
   ·exact stepD_kept hv hst
theorem stepD_ok {v : SpV} {F vs : List Nat} {ls : List Bool} {c : Cr} {w : Nat} {d : In × Bool} (h : c.Ok) (hw : w < 4294967296) (hd : d.2 = true → InD d.1) (hv : v.Ok) (hF : F.length = 10240) (hb : ∀ x ∈ F, x < 256) : (stepD v F vs ls c w d).c.Ok := by
 unfold stepD
 split
 ·exact Cr.Ok.trap h (by decide) hw
 ·rename_i h1
  exact doR_ok h (hd (by simpa using h1)) hw hv hF hb
theorem step_ok {v : SpV} {F vs : List Nat} {ls : List Bool} {c : Cr} {tm : Bool} (h : c.Ok) (hv : v.Ok) (hF : F.length = 10240) (hb : ∀ x ∈ F, x < 256) : (stepR v F vs ls c tm).c.Ok := by
 unfold stepR
 have hp := h.g 32
 split
 ·exact Cr.Ok.trap (h.time tm) (by decide) hp
 ·split
  ·exact Cr.Ok.trap (h.time tm) (by decide) hp
  ·split
   ·exact Cr.Ok.trap (h.time tm) (by decide) hp
   ·exact stepD_ok (h.time tm) (wordAt_lt hv _) (fun e => (dec_ind (wordAt_lt hv _) e).1) hv hF hb
end Core
end Go.Proofs.YtmiaabpnolebhaaGreatDoor
