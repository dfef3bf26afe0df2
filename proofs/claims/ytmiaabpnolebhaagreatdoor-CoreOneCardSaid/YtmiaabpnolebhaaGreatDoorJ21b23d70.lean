/-
  Texts of this claim, joined: CorLd, CorSt.
-/
import Derived.Test.YtmiaabpnolebhaaGreatDoorJ833629f2
import Derived.Test.YtmiaabpnolebhaaGreatDoorJacf7b0ba
set_option maxHeartbeats 4000000
set_option maxRecDepth 100000
set_option linter.unusedSimpArgs false
set_option linter.unusedVariables false
namespace Go.Proofs.YtmiaabpnolebhaaGreatDoor
open Go.RowKit

namespace Core
open Otp Sha Rv Grant Spc R1 Fla
def szN (op : Nat) : Nat := if op = 11 ∨ op = 14 ∨ op = 16 then 1 else if op = 12 ∨ op = 15 ∨ op = 17 then 2 else 4
def sgN (op : Nat) : Bool := decide (op ≠ 14 ∧ op ≠ 15)
def leN : List Nat → Nat
 | [] => 0
 | x :: l => x + 256 * leN l
def sxN (n v : Nat) : Nat := low (wrap32 ((v * 2 ^ (32 - 8 * n) % 4294967296 : Nat) : Int) / 2 ^ (32 - 8 * n))
theorem sx_eq (n y : Nat) : wrap32 ((y : Int) * 2 ^ (32 - 8 * n) % 4294967296) / 2 ^ (32 - 8 * n) % 4294967296 = ((sxN n y : Nat) : Int) := by
 unfold sxN
 rw [low_int]
 simp
def ldV (op : Nat) (p : List Nat) : Nat := if sgN op = true then sxN (szN op) (leN p) else leN p
def atN (c : Cr) (i : In) : Nat := (c.g i.a + i.imm) % 4294967296
def loadR (v : SpV) (F vs : List Nat) (ls : List Bool) (c : Cr) (i : In) : Cr × Option Nat :=
 if atN c i % szN i.op ≠ 0 then trR c 4 (atN c i)
 else if (ldR v F vs ls 1 (atN c i) (szN i.op)).1 ≠ 0 then trR c 5 (atN c i)
 else (nextC (withC c i.rd (ldV i.op (ldR v F vs ls 1 (atN c i) (szN i.op)).2)), none)
theorem szN_cases (op : Nat) : szN op = 1 ∨ szN op = 2 ∨ szN op = 4 := by
 unfold szN
 split
 ·exact .inl rfl
 ·split
  ·exact .inr (.inl rfl)
  ·exact .inr (.inr rfl)
theorem leN_lt : ∀ (l : List Nat), (∀ x ∈ l, x < 256) → leN l < 256 ^ l.length
 | [], _ => by simp [leN]
 | x :: l, h => by
  have h1 := leN_lt l (fun y hy => h y (List.mem_cons_of_mem _ hy))
  have h2 := h x List.mem_cons_self
  rw [leN, List.length_cons, Nat.pow_succ]
  omega
theorem leN_drop (l : List Nat) (k x : Nat) (h : l[k]? = some x) : leN (l.drop k) = x + 256 * leN (l.drop (k + 1)) := by
 obtain ⟨hl, hx⟩ := List.getElem?_eq_some_iff.1 h
 rw [List.drop_eq_getElem_cons hl, hx]
 rfl
theorem ldV_lt (op : Nat) (p : List Nat) (h : leN p < 4294967296) : ldV op p < 4294967296 := by
 unfold ldV
 split
 ·unfold sxN low; omega
 ·exact h
theorem fu_len (vs : List Nat) (ls : List Bool) (off n : Nat) (h : (fuR vs ls off n).1 = 0) : (fuR vs ls off n).2.length = n ∧ ∀ x ∈ (fuR vs ls off n).2, x < 256 := by
 unfold fuR at h ⊢
 split at h
 ·cases h
 ·rename_i hn
  rw [if_neg hn]
  refine ⟨by simp, fun x hx => ?_⟩
  obtain ⟨j, _, rfl⟩ := List.mem_map.1 hx
  exact fuB_lt _ _
theorem ld_len {v : SpV} {F vs : List Nat} {ls : List Bool} {who : Int} {a n : Nat} (hv : v.Ok) (hF : F.length = 10240) (hb : ∀ x ∈ F, x < 256) (h : (ldR v F vs ls who a n).1 = 0) : (ldR v F vs ls who a n).2.length = n ∧ ∀ x ∈ (ldR v F vs ls who a n).2, x < 256 := by
 unfold ldR at h ⊢
 by_cases h0 : n = 0
 ·rw [if_pos h0]; subst h0; exact ⟨rfl, fun x hx => by simp at hx⟩
 ·rw [if_neg h0] at h ⊢
  by_cases he : (wth who v.st a n false).2.2 ≠ 0
  ·rw [if_pos he] at h; exact absurd h he
  ·rw [if_neg he] at h ⊢
   obtain ⟨hr, hi⟩ := wth_in (who := who) (st := v.st) (a := a) (n := n) (wr := false) (by omega)
   obtain ⟨⟨r, o, e⟩, hre⟩ : ∃ y, wth who v.st a n false = y := ⟨_, rfl⟩
   rw [hre] at hr hi h ⊢
   simp only at hr hi h ⊢
   by_cases h3 : r = 3
   ·rw [if_pos h3]
    subst h3
    have hi' : o + n ≤ 10240 := hi
    exact ⟨by simp only [List.length_take, List.length_drop]; omega, fun x hx => hb x (List.mem_of_mem_drop (List.mem_of_mem_take hx))⟩
   ·rw [if_neg h3] at h ⊢
    by_cases h5 : r = 5
    ·rw [if_pos h5] at h ⊢; exact fu_len vs ls o n h
    ·rw [if_neg h5]
     have hr3 : r = 1 ∨ r = 2 ∨ r = 4 := by omega
     have hl := memB_len hv hr3
     have hs : regS r = (memO r).2.1 := by rcases hr3 with rfl | rfl | rfl <;> rfl
     rw [hs] at hi
     refine ⟨by simp only [List.length_take, List.length_drop]; omega, fun x hx => ?_⟩
     have hm : x ∈ memB v r := List.mem_of_mem_drop (List.mem_of_mem_take hx)
     rcases hr3 with rfl | rfl | rfl
     ·exact hv.rb x (List.mem_of_mem_take hm)
     ·exact hv.rb x (List.mem_of_mem_drop hm)
     ·exact hv.pb x hm
theorem size_any (op : Nat) (h1 : 11 ≤ op) (h2 : op ≤ 18) (w : World) : Calls Tryz.prog 237 #[.int .u8 (op : Int)] w fun e w' => e = .returned (.tuple #[.int .i64 ((szN op : Nat) : Int), .bool (sgN op)]) ∧ w = w' := by
 have hc : op = 11 ∨ op = 12 ∨ op = 13 ∨ op = 14 ∨ op = 15 ∨ op = 16 ∨ op = 17 ∨ op = 18 := by omega
 clear h1 h2
 rcases hc with rfl | rfl | rfl | rfl | rfl | rfl | rfl | rfl
 all_goals
  go_enter Tryz.func237, Tryz.ntmps237
  go_wp2_with fail
  go_light
  go_ret2
  exact ⟨rfl, rfl⟩
theorem cload_any (c : Cr) (hc : c.Ok) (i : In) (g f pf cc p b : Nat) (v : SpV) (F vs : List Nat) (ls : List Bool) (sd : Bool) (w : World) (hid : InD i) (h1 : 11 ≤ i.op) (h2 : i.op ≤ 18) (hsw : Sw w g f pf cc p b v F vs ls sd) (hS : Spans w) (hst : (Lit.int .i64 v.st).wf = true) :
  Calls Tryz.prog 172 #[.agg (crC c), .pointer (some ⟨g, 0, none⟩), .agg (inC i)] w (StepOut (loadR v F vs ls c i).1 (evO (loadR v F vs ls c i).2 i) w) := by
 have HID := wall hid
 have HOP := wall (And.intro h1 h2)
 have HSW := wall hsw
 have HS := wall hS
 have HST := wall hst
 clear hid hsw hS hst
 obtain ⟨J, hJ⟩ : ∃ J, loadR v F vs ls c i = J := ⟨_, rfl⟩
 rw [hJ]
 have HJ := wall hJ.symm
 clear hJ
 have HC := wall hc
 have HZ := wall cr_zero
 have HE := wall ev_zero
 have HF := wall (Fn.new w c (inC i))
 obtain ⟨C, hC⟩ : ∃ y, crC c = y := ⟨_, rfl⟩
 obtain ⟨Z, hZ⟩ : ∃ y, crC crZ = y := ⟨_, rfl⟩
 obtain ⟨E, hE⟩ : ∃ y, evZ = y := ⟨_, rfl⟩
 obtain ⟨I, hI⟩ : ∃ y, inC i = y := ⟨_, rfl⟩
 have HI := wall hI
 have HZE := wall (And.intro hZ hE)
 rw [hC, hZ, hE, hI] at HF
 rw [hZ] at HZ
 rw [hE] at HE
 rw [hC, hI]
 clear hc hC
 go_enter Tryz.func172, Tryz.ntmps172
 go_upto_region 1 with (first | refine Big.wpList_alloc_at rfl 71 rfl Z HZ.out (w.heap.size + 2) (by simp) ?_ | refine Big.wpList_alloc_at rfl 78 rfl E HE.out (w.heap.size + 3) (by simp) ?_)
 try simp only [Act.put, rpA, rpB, rpC]
 refine wp_fn w c I HF.out ?_
 intro w1 h1
 have H1 := wall h1
 clear h1 HF
 have HSZ := wall (fun W => size_any i.op h1 h2 W)
 have hnc := szN_cases i.op
 obtain ⟨n, hn⟩ : ∃ n, szN i.op = n := ⟨_, rfl⟩
 obtain ⟨sg, hsg⟩ : ∃ n, sgN i.op = n := ⟨_, rfl⟩
 rw [hn, hsg] at HSZ
 rw [hn] at hnc
 have HN := wall hn
 have HSG := wall hsg
 have HNC := wall hnc
 clear hn hsg h1 h2
 have ka : w1.cell? ⟨w.heap.size + 1, 2, none⟩ = some (.int .u8 (i.a : Int)) := by rw [H1.out.i.cell, ← hI]; rfl
 have ki : w1.cell? ⟨w.heap.size + 1, 4, none⟩ = some (.int .u32 (i.imm : Int)) := by rw [H1.out.i.cell, ← hI]; rfl
 have ha32 : i.a < 32 := HID.out.a
 have kxa := H1.out.cell HC.out (show i.a < 41 by omega)
 have hl1 : w.heap.size + 1 < w1.heap.size := H1.out.i.lt
 have hl0 : w.heap.size < w1.heap.size := by omega
 have HAT := wall (show atN c i = (c.g i.a + i.imm) % 4294967296 from rfl)
 obtain ⟨xa, hxa⟩ : ∃ y, c.g i.a = y := ⟨_, rfl⟩
 rw [hxa] at kxa HAT
 obtain ⟨z, hz⟩ : ∃ z, atN c i = z := ⟨_, rfl⟩
 rw [hz] at HAT
 have HZA := wall hz
 have hzi : ((xa : Int) + (i.imm : Int)) % 4294967296 = (z : Int) := by rw [HAT.out]; omega
 have HZL := wall (show z < 4294967296 by rw [HAT.out]; omega)
 have HXA := wall hxa
 clear hxa hz
 go_wp2_with fail
 refine RelG.wp_region_rel 9 [] (by kernel_rfl) (by kernel_rfl) ?_
 simp only [List.take_succ_cons, List.take_zero, List.drop_succ_cons, List.drop_zero, Act.put, rpA, rpB, rpC]
 repeat (first | (refine RelG.tree_quiet rfl rfl rfl (fun K hK => ?_); go_big_quiet_op; refine hK _ ?_; clear hK K) | ((first | refine RelG.tree_pure rfl rfl rfl (.int .u8 (i.a : Int)) (fun W hW _ => Rel.exec_load1 _ _ rfl (w.heap.size + 1) (2) rfl _ (fun _ => by kernel_rfl) ((hW.undrew.cell (p := ⟨w.heap.size + 1, 2, none⟩) hl1).trans ka)) ?_ | refine RelG.tree_pure rfl rfl rfl (.int .u32 (xa : Int)) (fun W hW _ => Rel.exec_load1 _ _ rfl (w.heap.size) (i.a) rfl _ (fun _ => by kernel_rfl) ((hW.undrew.cell (p := ⟨w.heap.size, i.a, none⟩) hl0).trans kxa)) ?_ | refine RelG.tree_pure rfl rfl rfl (.int .u32 (i.imm : Int)) (fun W hW _ => Rel.exec_load1 _ _ rfl (w.heap.size + 1) (4) rfl _ (fun _ => by kernel_rfl) ((hW.undrew.cell (p := ⟨w.heap.size + 1, 4, none⟩) hl1).trans ki)) ?_); simp only [Act.put, rpA, rpB, rpC]))
 intro W hW _
 rw [hzi]
 have HW := wall (H1.out.next hW.undrew)
 clear hW ka ki kxa hl1 hl0 ha32 hzi H1
 have kop : W.cell? ⟨w.heap.size + 1, 0, none⟩ = some (.int .u8 (i.op : Int)) := by rw [HW.out.i.cell, ← hI]; rfl
 go_wp2_with fail
 (with_reducible refine (HSZ.out _).mono ?_); rintro e w2 ⟨rfl, rfl⟩
 clear HSZ kop
 try simp only [Act.put, rpA, rpB, rpC]
 have hn0 : ¬ (n : Int) = 0 := by omega
 have hn4 : (n : Int) ≤ 4 := by omega
 have hn1 : 1 ≤ (n : Int) := by omega

 have HSI := wall (show (Tryz.prog.info? 71).map (·.size) = some (crC c).size ∧ (Tryz.prog.info? 54).map (·.size) = some I.size from ⟨(res_row HC.out).1, by rw [← HI.out]; exact in_info⟩)
 have HCB := wall (show Blk W w.heap.size 71 (crC c) from HW.out.c)
 have HIB := wall (show Blk W (w.heap.size + 1) 54 I from HW.out.i)
 obtain ⟨D, hD⟩ : ∃ z, crC c = z := ⟨_, rfl⟩
 have HDD := wall hD
 rw [hD] at HSI HCB
 have HJ2 := wall (show J = if z % n ≠ 0 then trR c 4 z else if (ldR v F vs ls 1 z n).1 ≠ 0 then trR c 5 z else (nextC (withC c i.rd (ldV i.op (ldR v F vs ls 1 z n).2)), none) by rw [HJ.out]; unfold loadR; rw [HZA.out, HN.out])
 have HLD := wall (fun W (h1 : Sw W g f pf cc p b v F vs ls sd) (h2 : Spans W) => load_any g f pf cc p b v F vs ls sd 1 (z : Int) (n : Int) z n W h1 rfl (by have := HZL.out; omega) rfl (by rcases HNC.out with h | h | h <;> omega) (by decide) HST.out h2)
 unfold LdOut at HLD
 have HLL := wall (fun h => ld_len (v := v) (F := F) (vs := vs) (ls := ls) (who := 1) (a := z) (n := n) HSW.out.ok HSW.out.fn HSW.out.fb h)
 obtain ⟨R, hR⟩ : ∃ R, ldR v F vs ls 1 z n = R := ⟨_, rfl⟩
 rw [hR] at HJ2 HLD HLL
 clear hR HJ
 by_cases hm : z % n = 0
 ·have hm1 : ((z : Int) % (n : Int) != 0) = false := by rw [bne_eq_false_iff_eq]; exact_mod_cast hm
  have HJ3 := wall (show J = if R.1 ≠ 0 then trR c 5 z else (nextC (withC c i.rd (ldV i.op R.2)), none) by rw [HJ2.out, if_neg (by simpa using hm)])
  clear HJ2 hm
  go_wp2_with fail
  (with_reducible refine (HLD.out _ (HSW.out.old HW.out.bel) (HS.out.old HW.out.bel)).mono ?_); rintro e w3 ⟨vp, rfl, hO, hB3⟩
  have HO := wall hO
  replace HW := wall (HW.out.next hB3)
  clear hB3 hO HLD HCB HIB HSW HS HST hm1
  have HCB := wall (show Blk w3 w.heap.size 71 D by rw [← HDD.out]; exact HW.out.c)
  have HIB := wall (show Blk w3 (w.heap.size + 1) 54 I from HW.out.i)
  obtain ⟨er, p⟩ := R
  simp only at HJ3 HLL HO
  try simp only [Act.put, rpA, rpB, rpC]
  by_cases he : er = 0
  ·have he' : (((er : Nat) : Int) != 0) = false := by rw [he]; rfl
   have HJ4 := wall (show J = (nextC (withC c i.rd (ldV i.op p)), none) by rw [HJ3.out, if_neg (by simpa using he)])
   obtain ⟨hpl, hpb⟩ := HLL.out he
   obtain ⟨A, cA, rfl, hlc, hPN, -⟩ := own_nats HO.out hpb
   rw [hpl]
   have HPN := wall hPN
   have HPL := wall (And.intro hpl hpb)
   have HNN := wall (show 1 ≤ n ∧ n ≤ 4 by rcases HNC.out with h | h | h <;> omega)
   clear hPN hpl hpb hlc HO HLL HJ3 hn0 hnc he
   go_wp2_with fail
   go_loopg [13, 14] n (fun gg s13 s14 wr => s14 = .int .i64 ((gg : Int) - 1) ∧ gg ≤ n ∧ s13 = .int .u32 ((leN (p.drop gg) : Nat) : Int) ∧ w3 = wr)
   case atStart => exact ⟨by simp, Nat.le_refl _, by rw [List.drop_of_length_le (by rw [HPL.out.1]; exact Nat.le_refl _)]; rfl, rfl⟩
   case round =>
    obtain ⟨rfl, hgn, rfl, rfl⟩ := hrel
    have HGN := wall hgn
    by_cases hg0 : gk = 0
    ·subst hg0
     rw [List.drop_zero]
     have HYL := wall (show leN p < 4294967296 by
      have h1 := leN_lt p HPL.out.2
      have h3 : 256 ^ p.length ≤ 256 ^ 4 := Nat.pow_le_pow_right (by decide) (by rw [HPL.out.1]; exact HNN.out.2)
      omega)
     have HXL := wall (ldV_lt i.op p HYL.out)
     have HXE := wall (show ldV i.op p = if sg = true then sxN n (leN p) else leN p by unfold ldV; rw [HSG.out, HN.out])
     obtain ⟨X, hX⟩ : ∃ X, ldV i.op p = X := ⟨_, rfl⟩
     obtain ⟨y, hy⟩ : ∃ y, leN p = y := ⟨_, rfl⟩
     rw [hX] at HXL HXE HJ4
     rw [hy] at HYL HXE ⊢
     have hn32 : 8 * n ≤ 32 := by have := HNN.out; omega
     have hn1' : 1 ≤ n := HNN.out.1
     clear hX hy hgn HPL
     go_upto_if 71 with fail
     go_cut [13] (fun s13 w' => s13 = .int .u32 (X : Int) ∧ w3 = w')
     case first =>
      cases sg with
      | true =>
       go_wp2_with fail
       go_meet
       exact ⟨by rw [HXE.out]; simp only [if_true]; exact congrArg _ (sx_eq n y), rfl⟩
      | false =>
       go_wp2_with fail
       go_meet
       exact ⟨by rw [HXE.out]; rfl, rfl⟩
     case rest =>
      obtain ⟨rfl, rfl⟩ := hcut
      clear hn4 hn1 hn32 he'
      have HJE := wall (show J.1 = nextC (withC c i.rd X) ∧ J.2 = none by rw [HJ4.out]; exact ⟨rfl, rfl⟩)
      have HWI := wall (fun W => with_any c HC.out (i.rd : Int) i.rd X W rfl HXL.out)
      unfold CrOut at HWI
      have HC1 := wall (HC.out.with i.rd X HXL.out)
      obtain ⟨c1, hc1⟩ : ∃ y, withC c i.rd X = y := ⟨_, rfl⟩
      rw [hc1] at HWI HC1 HJE
      have HNX := wall (fun W => show Calls Tryz.prog 169 #[.agg (crC c1), .agg (inC i)] W (StepOut (nextC c1) (evO none i) W) from next_any c1 HC1.out i W)
      unfold StepOut at HNX
      obtain ⟨D1, hD1⟩ : ∃ z, crC c1 = z := ⟨_, rfl⟩
      rw [hD1] at HWI HNX
      rw [HDD.out] at HWI
      rw [HI.out] at HNX
      clear hc1 hD1
      have kr : w3.cell? ⟨w.heap.size + 1, 1, none⟩ = some (.int .u8 (i.rd : Int)) := by rw [HW.out.i.cell, ← hI]; rfl
      have hrd : i.rd < 32 := HID.out.rd
      have hl1 : w.heap.size + 1 < w3.heap.size := HW.out.i.lt
      have HOK1 := wall (show (nextC c1).Ok from HC1.out.next)
      have HRW := wall (res_row HOK1.out)
      have HEW := wall (evo_row (none) i)
      rw [HZE.out.1] at HRW
      rw [HZE.out.2] at HEW
      obtain ⟨D2, hD2⟩ : ∃ q9, crC (nextC c1) = q9 := ⟨_, rfl⟩
      obtain ⟨V, hV⟩ : ∃ q9, evO (none) i = q9 := ⟨_, rfl⟩
      have HD2 := wall hD2
      have HVV := wall hV
      rw [hD2] at HNX HRW
      rw [hV] at HNX HEW
      clear hD2 hV
      go_wp2_with fail
      refine RelG.wp_region_fl 10 [9] [(84, .const (.agg D1)), (86, .const (.tuple #[.agg D2, .agg V]))] (by kernel_rfl) (by kernel_rfl) rfl (fun _ _ _ _ _ h => h) ?_
      simp only [List.take_succ_cons, List.take_zero, List.drop_succ_cons, List.drop_zero, Act.put, rpA, rpB, rpC]
      repeat (first | (refine RelG.tree_quiet rfl rfl rfl (fun K hK => ?_); go_big_quiet_op; refine hK _ ?_; clear hK K) | ((first | refine RelG.tree_pure rfl rfl rfl (.agg D) (fun W2 hW2 _ => Rel.exec_load _ _ rfl (w.heap.size) 0 rfl _ _ (Blk.range (HCB.out.next hW2.undrew rfl)) Tryz.underlying71 rfl HSI.out.1) ?_ | refine RelG.tree_pure rfl rfl rfl (.agg I) (fun W2 hW2 _ => Rel.exec_load _ _ rfl (w.heap.size + 1) 0 rfl _ _ (Blk.range (HIB.out.next hW2.undrew rfl)) Tryz.underlying54 rfl HSI.out.2) ?_ | refine RelG.tree_pure rfl rfl rfl (.int .u8 (i.rd : Int)) (fun W2 hW2 _ => Rel.exec_load1 _ _ rfl (w.heap.size + 1) (1) rfl _ (fun _ => by kernel_rfl) ((hW2.undrew.cell (p := ⟨w.heap.size + 1, 1, none⟩) hl1).trans kr)) ?_); simp only [Act.put, rpA, rpB, rpC]) | (refine RelG.tree_const rfl (.agg D1) rfl (fun W2 hW2 _ => by (unfold RelG.relAt; go_simp; show Calls _ _ _ _ _; exact (HWI.out _).mono fun e w2 h => ⟨_, h.1, h.2, rfl⟩)) ?_; simp only [Act.put, rpA, rpB, rpC]) | (refine RelG.tree_const rfl (.tuple #[.agg D2, .agg V]) rfl (fun W2 hW2 _ => by (unfold RelG.relAt; go_simp; show Calls _ _ _ _ _; exact (HNX.out _).mono fun e w2 h => ⟨_, h.1, h.2, rfl⟩)) ?_; simp only [Act.put, rpA, rpB, rpC]))
      intro w8 hB8 _
      have H8 := wall (HW.out.next hB8.undrew)
      clear hB8 kr hrd hl1
      have H8o := wall (show Blk w8 (w.heap.size + 2) 71 Z by rw [← hZ]; exact H8.out.o)
      have H8e := wall (show Blk w8 (w.heap.size + 3) 78 E by rw [← hE]; exact H8.out.e)
      have H8b := wall H8.out.bel
      clear H8 HNX
      try simp only [Act.put, rpA, rpB, rpC]
      go_wp2_with (first | (refine wpList_set_row rfl 71 (.tmp 6) (.tmp 87) rfl (w.heap.size + 2) D2 rfl rfl 71 Z H8o.out HRW.out.1 HRW.out.2.1 HRW.out.2.2 ?_; intro w9 K9 F9; have H9e := wall (H8e.out.frm F9.out (by simp)); have H9b := wall (Below.frm H8b.out F9.out (Nat.le_refl _) (by simp))) | (refine wpList_set_row rfl 78 (.tmp 7) (.tmp 88) rfl (w.heap.size + 3) V rfl rfl 78 E H9e.out HEW.out.1 HEW.out.2.1 HEW.out.2.2 ?_; intro w10 K10 F10))
      have K10o := wall (K9.out.frm F10.out (by simp))
      have HB10 := wall (Below.frm H9b.out F10.out (Nat.le_refl _) (by simp))
      go_light
      exact bodyPost_ret (v := .tuple #[.agg D2, .agg V]) (results_two Tryz.results172 _ _ (w.heap.size + 2) (w.heap.size + 3) 71 78 D2 V _ _ rfl rfl K10o.out K10.out Tryz.underlying71 rfl HRW.out.1 Tryz.underlying78 rfl HEW.out.1) rfl ⟨by rw [HJE.out.1, HJE.out.2, HD2.out, HVV.out], HB10.out⟩
    ·obtain ⟨k, rfl⟩ : ∃ k, gk = k + 1 := ⟨gk - 1, by omega⟩
     obtain ⟨x, hx⟩ : ∃ x, p[k]? = some x := ⟨_, List.getElem?_eq_getElem (by rw [HPL.out.1]; omega)⟩
     have HLE := wall (leN_drop p k x hx)
     obtain ⟨hx256, gA, oA, rfl, hgA, hcx⟩ := HPN.out k x hx
     have hvb : leN (p.drop (k + 1)) < 16777216 := by
      have h1 := leN_lt (p.drop (k + 1)) (fun y hy => HPL.out.2 y (List.mem_of_mem_drop hy))
      have h2 : (p.drop (k + 1)).length ≤ 3 := by rw [List.length_drop, HPL.out.1]; have := HNN.out; omega
      have h3 : 256 ^ (p.drop (k + 1)).length ≤ 256 ^ 3 := Nat.pow_le_pow_right (by decide) h2
      omega
     obtain ⟨y, hy⟩ : ∃ y, leN (p.drop (k + 1)) = y := ⟨_, rfl⟩
     rw [hy] at hvb HLE ⊢
     have hor : bits .or .u32 ((y : Int) * 256) (x : Int) = ((y * 256 + x : Nat) : Int) := or_sum (y * 256) x _ 8 (by simp) rfl (by omega) (by omega) rfl (by omega)
     have hk0 : (0 : Int) ≤ (k : Int) := by omega
     have hk4 : (k : Int) < (n : Int) := by omega
     have hkc : (k : Int) < 4 := by have := HNN.out; omega
     clear hx hy hg0 hgn
     go_wp2_with fail
     clear hor hcx
     go_light
     go_roundg k
     case measure => omega
     case rel => exact ⟨rfl, by have := HGN.out; omega, by rw [HLE.out]; exact congrArg _ (by omega), rfl⟩
  ·have he' : (((er : Nat) : Int) != 0) = true := by rw [bne_iff_ne]; omega
   have HJ2 := wall (show J = trR c 5 z by rw [HJ3.out, if_pos (by simpa using he)])
   clear HJ3 HLL HO
   have HJE := wall (show J.1 = trapC c 5 z ∧ J.2 = some 5 by rw [HJ2.out]; exact ⟨rfl, rfl⟩)
   have HNX := wall (fun W => show Calls Tryz.prog 97 #[.agg (crC c), .int .u32 5, .int .u32 (z : Int)] W (StepOut (trapC c 5 z) (evO (some 5) i) W) from trap_any c HC.out 5 z W (by decide) HZL.out)
   unfold StepOut at HNX
   rw [HDD.out] at HNX
   have HOK1 := wall (show (trapC c 5 z).Ok from Cr.Ok.trap HC.out (by decide) HZL.out)
   have HRW := wall (res_row HOK1.out)
   have HEW := wall (evo_row (some 5) i)
   rw [HZE.out.1] at HRW
   rw [HZE.out.2] at HEW
   obtain ⟨D2, hD2⟩ : ∃ q9, crC (trapC c 5 z) = q9 := ⟨_, rfl⟩
   obtain ⟨V, hV⟩ : ∃ q9, evO (some 5) i = q9 := ⟨_, rfl⟩
   have HD2 := wall hD2
   have HVV := wall hV
   rw [hD2] at HNX HRW
   rw [hV] at HNX HEW
   clear hD2 hV
   go_wp2_with (first | refine wpList_load_row rfl 71 _ rfl w.heap.size rfl 71 D (0, 0) _ HCB.out Tryz.underlying71 rfl HSI.out.1 ?_)
   (with_reducible refine (HNX.out _).mono ?_); rintro e w8 ⟨rfl, hB8⟩
   have H8 := wall (HW.out.next hB8)
   have H8o := wall (show Blk w8 (w.heap.size + 2) 71 Z by rw [← hZ]; exact H8.out.o)
   have H8e := wall (show Blk w8 (w.heap.size + 3) 78 E by rw [← hE]; exact H8.out.e)
   have H8b := wall H8.out.bel
   clear hB8 H8 HNX
   try simp only [Act.put, rpA, rpB, rpC]
   go_wp2_with (first | (refine wpList_set_row rfl 71 (.tmp 6) (.tmp 52) rfl (w.heap.size + 2) D2 rfl rfl 71 Z H8o.out HRW.out.1 HRW.out.2.1 HRW.out.2.2 ?_; intro w9 K9 F9; have H9e := wall (H8e.out.frm F9.out (by simp)); have H9b := wall (Below.frm H8b.out F9.out (Nat.le_refl _) (by simp))) | (refine wpList_set_row rfl 78 (.tmp 7) (.tmp 53) rfl (w.heap.size + 3) V rfl rfl 78 E H9e.out HEW.out.1 HEW.out.2.1 HEW.out.2.2 ?_; intro w10 K10 F10))
   have K10o := wall (K9.out.frm F10.out (by simp))
   have HB10 := wall (Below.frm H9b.out F10.out (Nat.le_refl _) (by simp))
   go_light
   exact bodyPost_ret (v := .tuple #[.agg D2, .agg V]) (results_two Tryz.results172 _ _ (w.heap.size + 2) (w.heap.size + 3) 71 78 D2 V _ _ rfl rfl K10o.out K10.out Tryz.underlying71 rfl HRW.out.1 Tryz.underlying78 rfl HEW.out.1) rfl ⟨by rw [HJE.out.1, HJE.out.2, HD2.out, HVV.out], HB10.out⟩
 ·have hm1 : ((z : Int) % (n : Int) != 0) = true := by rw [bne_iff_ne]; exact_mod_cast hm
  clear HLD HLL HSG
  have HJE := wall (show J.1 = trapC c 4 z ∧ J.2 = some 4 by rw [HJ2.out, if_pos hm]; exact ⟨rfl, rfl⟩)
  have HNX := wall (fun W => show Calls Tryz.prog 97 #[.agg (crC c), .int .u32 4, .int .u32 (z : Int)] W (StepOut (trapC c 4 z) (evO (some 4) i) W) from trap_any c HC.out 4 z W (by decide) HZL.out)
  unfold StepOut at HNX
  rw [HDD.out] at HNX
  have HOK1 := wall (show (trapC c 4 z).Ok from Cr.Ok.trap HC.out (by decide) HZL.out)
  have HRW := wall (res_row HOK1.out)
  have HEW := wall (evo_row (some 4) i)
  rw [HZE.out.1] at HRW
  rw [HZE.out.2] at HEW
  obtain ⟨D2, hD2⟩ : ∃ q9, crC (trapC c 4 z) = q9 := ⟨_, rfl⟩
  obtain ⟨V, hV⟩ : ∃ q9, evO (some 4) i = q9 := ⟨_, rfl⟩
  have HD2 := wall hD2
  have HVV := wall hV
  rw [hD2] at HNX HRW
  rw [hV] at HNX HEW
  clear hD2 hV
  go_wp2_with (first | refine wpList_load_row rfl 71 _ rfl w.heap.size rfl 71 D (0, 0) _ HCB.out Tryz.underlying71 rfl HSI.out.1 ?_)
  (with_reducible refine (HNX.out _).mono ?_); rintro e w8 ⟨rfl, hB8⟩
  have H8 := wall (HW.out.next hB8)
  have H8o := wall (show Blk w8 (w.heap.size + 2) 71 Z by rw [← hZ]; exact H8.out.o)
  have H8e := wall (show Blk w8 (w.heap.size + 3) 78 E by rw [← hE]; exact H8.out.e)
  have H8b := wall H8.out.bel
  clear hB8 H8 HNX
  try simp only [Act.put, rpA, rpB, rpC]
  go_wp2_with (first | (refine wpList_set_row rfl 71 (.tmp 6) (.tmp 38) rfl (w.heap.size + 2) D2 rfl rfl 71 Z H8o.out HRW.out.1 HRW.out.2.1 HRW.out.2.2 ?_; intro w9 K9 F9; have H9e := wall (H8e.out.frm F9.out (by simp)); have H9b := wall (Below.frm H8b.out F9.out (Nat.le_refl _) (by simp))) | (refine wpList_set_row rfl 78 (.tmp 7) (.tmp 39) rfl (w.heap.size + 3) V rfl rfl 78 E H9e.out HEW.out.1 HEW.out.2.1 HEW.out.2.2 ?_; intro w10 K10 F10))
  have K10o := wall (K9.out.frm F10.out (by simp))
  have HB10 := wall (Below.frm H9b.out F10.out (Nat.le_refl _) (by simp))
  go_light
  exact bodyPost_ret (v := .tuple #[.agg D2, .agg V]) (results_two Tryz.results172 _ _ (w.heap.size + 2) (w.heap.size + 3) 71 78 D2 V _ _ rfl rfl K10o.out K10.out Tryz.underlying71 rfl HRW.out.1 Tryz.underlying78 rfl HEW.out.1) rfl ⟨by rw [HJE.out.1, HJE.out.2, HD2.out, HVV.out], HB10.out⟩
def byL (v n : Nat) : List Nat := [v % 256, v / 256 % 256, v / 65536 % 256, v / 16777216 % 256].take n
def evW (t : Option Nat) (i : In) (at_ : Nat) (A : Option Addr) (n cap : Nat) : Array Value := match t with
 | some k => evC true k zIn 0 none 0 0
 | none => evC false 0 i at_ A n cap
structure Res where
 c : Cr
 t : Option Nat
 a : Nat
 p : List Nat
 v : SpV
def storeR (v : SpV) (c : Cr) (i : In) : Res :=
 if atN c i % szN i.op ≠ 0 then ⟨trapC c 6 (atN c i), some 6, 0, [], v⟩
 else if (stR v 1 (atN c i) (byL (c.g i.b) (szN i.op))).1 ≠ 0 then ⟨trapC c 7 (atN c i), some 7, 0, [], v⟩
 else ⟨nextC c, none, atN c i, byL (c.g i.b) (szN i.op), (stR v 1 (atN c i) (byL (c.g i.b) (szN i.op))).2⟩
def DoOut (g : Nat) (i : In) (R : Res) (w : World) (e : Ending) (w' : World) : Prop :=
 ∃ A n cap, e = .returned (.tuple #[.agg (crC R.c), .agg (evW R.t i R.a A n cap)]) ∧ Sp w' g R.v ∧ Frm [g] w w' ∧ (R.t = none → n = R.p.length ∧ Nats .u8 256 w' w'.heap.size A R.p ∧ (∀ ad : Addr, A = some ad → w.heap.size ≤ ad.block) ∧ (R.p = [] → A = none ∧ cap = 0))
theorem byL_len (v : Nat) {n : Nat} (h : n ≤ 4) : (byL v n).length = n := by
 unfold byL
 rw [List.length_take]
 exact Nat.min_eq_left h
theorem byL_lt (v n : Nat) : ∀ x ∈ byL v n, x < 256 := fun x hx => by
 have := List.mem_of_mem_take hx
 simp only [List.mem_cons, List.not_mem_nil, or_false] at this
 rcases this with rfl | rfl | rfl | rfl <;> exact Nat.mod_lt _ (by decide)
theorem st_err (v : SpV) (who : Int) (a : Nat) (p : List Nat) (h : (stR v who a p).1 ≠ 0) : (stR v who a p).2 = v := by
 unfold stR at h ⊢
 split
 ·rfl
 ·split
  ·rfl
  ·rename_i h1 h2
   rw [if_neg h1, if_neg h2] at h
   exact absurd rfl h
theorem core_reg (a n st : Nat) (hst : st = 1 ∨ st = 2) (h : (wth 1 (st : Int) a n true).2.2 = 0) : (wth 1 (st : Int) a n true).1 = 1 ∨ (wth 1 (st : Int) a n true).1 = 2 ∨ (wth 1 (st : Int) a n true).1 = 4 := by
 have hr := (wth_in h).1
 have hc : (chk 1 (st : Int) a 1 true false).2.2 = 0 := by
  unfold wth at h
  simp only at h
  by_cases h2 : (chk 1 (st : Int) a 1 true false).2.2 = 0
  ·exact h2
  ·rw [if_pos h2] at h; exact absurd h h2
 have he : (wth 1 (st : Int) a n true).1 = (chk 1 (st : Int) a 1 true false).1 := by
  unfold wth at h ⊢
  simp only at h ⊢
  rw [if_neg (by simpa using hc)] at h ⊢
  split
  ·rename_i h3; rw [if_pos h3] at h; cases h
  ·rfl
 rw [he] at hr ⊢
 unfold chk at hc hr ⊢
 by_cases h1 : formB 1 (st : Int) 1 true false = false
 ·rw [if_pos h1] at hc; cases hc
 ·rw [if_neg h1] at hc hr ⊢
  by_cases h2 : a % (1 : Int).toNat ≠ 0
  ·rw [if_pos h2] at hc; cases hc
  ·rw [if_neg h2] at hc hr ⊢
   by_cases h3 : (whereN a).1 = 0
   ·rw [if_pos h3] at hc; cases hc
   ·rw [if_neg h3] at hc hr ⊢
    by_cases h4 : hasB (mayW 1 (st : Int) (whereN a).1) (letB true false) = false
    ·rw [if_pos h4] at hc; cases hc
    ·rw [if_neg h4] at hr ⊢
     rcases hr with e | e | e | e | e
     ·exact .inl e
     ·exact .inr (.inl e)
     ·rw [show (whereN a).1 = 3 from e] at h4
      rcases hst with rfl | rfl
      ·exact absurd (by decide +kernel) h4
      ·exact absurd (by decide +kernel) h4
     ·exact .inr (.inr e)
     ·rw [show (whereN a).1 = 5 from e] at h4
      rcases hst with rfl | rfl
      ·exact absurd (by decide +kernel) h4
      ·exact absurd (by decide +kernel) h4
theorem cstore_any (c : Cr) (hc : c.Ok) (i : In) (g f pf cc p b : Nat) (v : SpV) (F vs : List Nat) (ls : List Bool) (sd : Bool) (w : World) (hid : InD i) (h1 : 11 ≤ i.op) (h2 : i.op ≤ 18) (hsw : Sw w g f pf cc p b v F vs ls sd) (hS : Spans w) (hst : v.st = 1 ∨ v.st = 2) :
  Calls Tryz.prog 173 #[.agg (crC c), .pointer (some ⟨g, 0, none⟩), .agg (inC i)] w (DoOut g i (storeR v c i) w) := by
 have HID := wall hid
 have HOP := wall (And.intro h1 h2)
 have HSW := wall hsw
 have HS := wall hS
 have HST := wall hst
 clear hid hsw hS hst
 obtain ⟨J, hJ⟩ : ∃ J, storeR v c i = J := ⟨_, rfl⟩
 rw [hJ]
 have HJ := wall hJ.symm
 clear hJ
 have HC := wall hc
 have HZ := wall cr_zero
 have HE := wall ev_zero
 have HF := wall (Fn.new w c (inC i))
 obtain ⟨C, hC⟩ : ∃ y, crC c = y := ⟨_, rfl⟩
 obtain ⟨Z, hZ⟩ : ∃ y, crC crZ = y := ⟨_, rfl⟩
 obtain ⟨E, hE⟩ : ∃ y, evZ = y := ⟨_, rfl⟩
 obtain ⟨I, hI⟩ : ∃ y, inC i = y := ⟨_, rfl⟩
 have HI := wall hI
 have HZE := wall (And.intro hZ hE)
 rw [hC, hZ, hE, hI] at HF
 rw [hZ] at HZ
 rw [hE] at HE
 rw [hC, hI]
 clear hc hC
 go_enter Tryz.func173, Tryz.ntmps173
 go_upto_region 1 with (first | refine Big.wpList_alloc_at rfl 71 rfl Z HZ.out (w.heap.size + 2) (by simp) ?_ | refine Big.wpList_alloc_at rfl 78 rfl E HE.out (w.heap.size + 3) (by simp) ?_)
 try simp only [Act.put, rpA, rpB, rpC]
 refine wp_fn w c I HF.out ?_
 intro w1 h1
 have H1 := wall h1
 clear h1 HF
 have HSZ := wall (fun W => size_any i.op h1 h2 W)
 have hnc := szN_cases i.op
 obtain ⟨n, hn⟩ : ∃ n, szN i.op = n := ⟨_, rfl⟩
 obtain ⟨sg, hsg⟩ : ∃ n, sgN i.op = n := ⟨_, rfl⟩
 rw [hn, hsg] at HSZ
 rw [hn] at hnc
 have HN := wall hn
 have HSG := wall hsg
 have HNC := wall hnc
 clear hn hsg h1 h2
 have ka : w1.cell? ⟨w.heap.size + 1, 2, none⟩ = some (.int .u8 (i.a : Int)) := by rw [H1.out.i.cell, ← hI]; rfl
 have ki : w1.cell? ⟨w.heap.size + 1, 4, none⟩ = some (.int .u32 (i.imm : Int)) := by rw [H1.out.i.cell, ← hI]; rfl
 have ha32 : i.a < 32 := HID.out.a
 have kxa := H1.out.cell HC.out (show i.a < 41 by omega)
 have hl1 : w.heap.size + 1 < w1.heap.size := H1.out.i.lt
 have hl0 : w.heap.size < w1.heap.size := by omega
 have HAT := wall (show atN c i = (c.g i.a + i.imm) % 4294967296 from rfl)
 obtain ⟨xa, hxa⟩ : ∃ y, c.g i.a = y := ⟨_, rfl⟩
 rw [hxa] at kxa HAT
 obtain ⟨z, hz⟩ : ∃ z, atN c i = z := ⟨_, rfl⟩
 rw [hz] at HAT
 have HZA := wall hz
 have hzi : ((xa : Int) + (i.imm : Int)) % 4294967296 = (z : Int) := by rw [HAT.out]; omega
 have HZL := wall (show z < 4294967296 by rw [HAT.out]; omega)
 have HXA := wall hxa
 clear hxa hz
 go_wp2_with fail
 refine RelG.wp_region_rel 9 [] (by kernel_rfl) (by kernel_rfl) ?_
 simp only [List.take_succ_cons, List.take_zero, List.drop_succ_cons, List.drop_zero, Act.put, rpA, rpB, rpC]
 repeat (first | (refine RelG.tree_quiet rfl rfl rfl (fun K hK => ?_); go_big_quiet_op; refine hK _ ?_; clear hK K) | ((first | refine RelG.tree_pure rfl rfl rfl (.int .u8 (i.a : Int)) (fun W hW _ => Rel.exec_load1 _ _ rfl (w.heap.size + 1) (2) rfl _ (fun _ => by kernel_rfl) ((hW.undrew.cell (p := ⟨w.heap.size + 1, 2, none⟩) hl1).trans ka)) ?_ | refine RelG.tree_pure rfl rfl rfl (.int .u32 (xa : Int)) (fun W hW _ => Rel.exec_load1 _ _ rfl (w.heap.size) (i.a) rfl _ (fun _ => by kernel_rfl) ((hW.undrew.cell (p := ⟨w.heap.size, i.a, none⟩) hl0).trans kxa)) ?_ | refine RelG.tree_pure rfl rfl rfl (.int .u32 (i.imm : Int)) (fun W hW _ => Rel.exec_load1 _ _ rfl (w.heap.size + 1) (4) rfl _ (fun _ => by kernel_rfl) ((hW.undrew.cell (p := ⟨w.heap.size + 1, 4, none⟩) hl1).trans ki)) ?_); simp only [Act.put, rpA, rpB, rpC]))
 intro W hW _
 rw [hzi]
 have HW := wall (H1.out.next hW.undrew)
 clear hW ka ki kxa hl1 hl0 ha32 hzi H1
 have kop : W.cell? ⟨w.heap.size + 1, 0, none⟩ = some (.int .u8 (i.op : Int)) := by rw [HW.out.i.cell, ← hI]; rfl
 go_wp2_with fail
 (with_reducible refine (HSZ.out _).mono ?_); rintro e w2 ⟨rfl, rfl⟩
 clear HSZ kop
 try simp only [Act.put, rpA, rpB, rpC]
 have hn0 : ¬ (n : Int) = 0 := by omega
 have hn4 : (n : Int) ≤ 4 := by omega
 have hn1 : 1 ≤ (n : Int) := by omega

 have HSI := wall (show (Tryz.prog.info? 71).map (·.size) = some (crC c).size ∧ (Tryz.prog.info? 54).map (·.size) = some I.size from ⟨(res_row HC.out).1, by rw [← HI.out]; exact in_info⟩)
 have HCB := wall (show Blk W w.heap.size 71 (crC c) from HW.out.c)
 have HIB := wall (show Blk W (w.heap.size + 1) 54 I from HW.out.i)
 obtain ⟨D, hD⟩ : ∃ z, crC c = z := ⟨_, rfl⟩
 have HDD := wall hD
 rw [hD] at HSI HCB
 have hb32 : i.b < 32 := HID.out.b
 have kxb := HW.out.cell HC.out (show i.b < 41 by omega)
 have kb : W.cell? ⟨w.heap.size + 1, 3, none⟩ = some (.int .u8 (i.b : Int)) := by rw [HW.out.i.cell, ← hI]; rfl
 obtain ⟨xb, hxb⟩ : ∃ y, c.g i.b = y := ⟨_, rfl⟩
 rw [hxb] at kxb
 have HXBL := wall (show xb < 4294967296 by rw [← hxb]; exact HC.out.g _)
 have HJ2 := wall (show J = if z % n ≠ 0 then ⟨trapC c 6 z, some 6, 0, [], v⟩ else if (stR v 1 z (byL xb n)).1 ≠ 0 then ⟨trapC c 7 z, some 7, 0, [], v⟩ else ⟨nextC c, none, z, byL xb n, (stR v 1 z (byL xb n)).2⟩ by rw [HJ.out]; unfold storeR; rw [HZA.out, HN.out, hxb])
 clear hxb HJ HSG
 have HGL := wall (show g < w.heap.size from Blk.lt HSW.out.sp)
 by_cases hm : z % n = 0
 ·have hm1 : ((z : Int) % (n : Int) != 0) = false := by rw [bne_eq_false_iff_eq]; exact_mod_cast hm
  have HJ3 := wall (show J = if (stR v 1 z (byL xb n)).1 ≠ 0 then ⟨trapC c 7 z, some 7, 0, [], v⟩ else ⟨nextC c, none, z, byL xb n, (stR v 1 z (byL xb n)).2⟩ by rw [HJ2.out, if_neg (by simpa using hm)])
  clear HJ2 hm
  have hbx : #[Value.int .u8 ((xb : Int) % 256), .int .u8 ((xb : Int) / 256 % 256), .int .u8 ((xb : Int) / 65536 % 256), .int .u8 ((xb : Int) / 16777216 % 256)] = b8 [xb % 256, xb / 256 % 256, xb / 65536 % 256, xb / 16777216 % 256] := by simp [b8, v8]
  have HNP := wall (show ∀ W2 : World, W2 = W.alloc (.cells #[Value.int .u8 ((xb : Int) % 256), .int .u8 ((xb : Int) / 256 % 256), .int .u8 ((xb : Int) / 65536 % 256), .int .u8 ((xb : Int) / 16777216 % 256)] 5) → Nats .u8 256 W2 W2.heap.size (some ⟨W.heap.size, 0, none⟩) (byL xb n) ∧ Below W.heap.size W W2 from fun W2 h2 => by
   subst h2
   rw [hbx]
   refine ⟨nats_take (nats_b8 (Blk.new _ _ _) (fun x hx => ?_)) n, (Below.refl _ _).alloc (Nat.le_refl _) _⟩
   simp only [List.mem_cons, List.not_mem_nil, or_false] at hx
   rcases hx with rfl | rfl | rfl | rfl <;> exact Nat.mod_lt _ (by decide))
  have HPL := wall (byL_len xb (n := n) (by rcases HNC.out with h | h | h <;> omega))
  have HSTR := wall (fun W2 (h1 : Sp W2 g v) (h2 : Spans W2) (h3 : Nats .u8 256 W2 W2.heap.size (some ⟨W.heap.size, 0, none⟩) (byL xb n)) => store_any g v 1 (z : Int) z (some ⟨W.heap.size, 0, none⟩) n 4 (byL xb n) W2 HSW.out.ok h1 rfl (by have := HZL.out; omega) HPL.out (by rcases HNC.out with h | h | h <;> omega) h3 (by decide) (by rcases HST.out with h | h <;> rw [h] <;> decide) h2 (fun h => by
   rcases HST.out with e | e
   ·rw [e] at h ⊢; exact core_reg z n 1 (.inl rfl) h
   ·rw [e] at h ⊢; exact core_reg z n 2 (.inr rfl) h))
  unfold StOut at HSTR
  have HSV := wall (st_err v 1 z (byL xb n))
  obtain ⟨⟨er, v2⟩, hR⟩ : ∃ R, stR v 1 z (byL xb n) = R := ⟨_, rfl⟩
  rw [hR] at HJ3 HSTR HSV
  simp only at HJ3 HSTR HSV
  have HWG := wall (show g < W.heap.size by have := HGL.out; have := HW.out.bel.size; omega)
  clear hR hbx
  go_wp2_with fail
  obtain ⟨W2, hW2⟩ : ∃ W2, W2 = W.alloc (.cells #[Value.int .u8 ((xb : Int) % 256), .int .u8 ((xb : Int) / 256 % 256), .int .u8 ((xb : Int) / 65536 % 256), .int .u8 ((xb : Int) / 16777216 % 256)] 5) := ⟨_, rfl⟩
  obtain ⟨hNP, hBP⟩ := HNP.out W2 hW2
  have HB2 := wall (HW.out.next hBP).bel
  rw [← hW2]
  (with_reducible refine (HSTR.out W2 (HSW.out.sp.old HB2.out) (HS.out.old HB2.out) hNP).mono ?_); rintro e w3 ⟨rfl, hSp, hF⟩
  have HN3 := wall (show Nats .u8 256 w3 w3.heap.size (some ⟨W.heap.size, 0, none⟩) (byL xb n) from fun j x hx => by
   obtain ⟨q1, gb, ob, q2, q3, q4⟩ := hNP j x hx
   cases q2
   refine ⟨q1, _, _, rfl, Nat.lt_of_lt_of_le q3 hF.size, ?_⟩
   rw [← q4]
   exact World.cell?_of_block (hF.block _ q3 (by simp; have := HWG.out; omega)))
  have HSP := wall hSp
  have HF3 := wall ((Frm.of_below HB2.out (S := [g])).trans hF)
  have h2 := HW.out.next hBP
  have hgl := HGL.out
  have HCB := wall (show Blk w3 w.heap.size 71 D by rw [← HDD.out]; exact Blk.frm h2.c hF (by simp; omega))
  have HIB := wall (h2.i.frm hF (by simp; omega))
  have HOB := wall (show Blk w3 (w.heap.size + 2) 71 Z by rw [← hZ]; exact h2.o.frm hF (by simp; omega))
  have HEB := wall (show Blk w3 (w.heap.size + 3) 78 E by rw [← hE]; exact h2.e.frm hF (by simp; omega))
  have HWW := wall (show w.heap.size + 3 < W.heap.size from HW.out.e.lt)
  clear hNP hBP hSp hF h2 hgl HNP HW HSTR HB2 hW2 kxb kb hb32 hm1 HSW HS HST
  try simp only [Act.put, rpA, rpB, rpC]
  by_cases he : er = 0
  ·have he' : (((er : Nat) : Int) != 0) = false := by rw [he]; rfl
   have HJ9 := wall (show J = ⟨nextC c, none, z, byL xb n, v2⟩ by rw [HJ3.out, if_neg (by simpa using he)])
   clear HJ3 HSV he
   have HNX := wall (fun W => show Calls Tryz.prog 169 #[.agg (crC c), .agg (inC i)] W (StepOut (nextC c) (evO none i) W) from next_any c HC.out i W)
   unfold StepOut at HNX
   rw [HDD.out, HI.out] at HNX
   have HOK1 := wall (show (nextC c).Ok from HC.out.next)
   have HRW := wall (res_row HOK1.out)
   have HEW := wall (evo_row (none) i)
   rw [HZE.out.1] at HRW
   rw [HZE.out.2] at HEW
   obtain ⟨D2, hD2⟩ : ∃ q9, crC (nextC c) = q9 := ⟨_, rfl⟩
   obtain ⟨V, hV⟩ : ∃ q9, evO (none) i = q9 := ⟨_, rfl⟩
   have HD2 := wall hD2
   have HVV := wall hV
   rw [hD2] at HNX HRW
   rw [hV] at HNX HEW
   clear hD2 hV
   have HDZ := wall (show D.size = D2.size by rw [← HDD.out, ← HD2.out, crC_size HC.out, crC_size HC.out.next])
   go_wp2_with (first | refine wpList_load_row rfl 71 _ rfl w.heap.size rfl 71 D (0, 0) _ HCB.out Tryz.underlying71 rfl HSI.out.1 ?_ | refine wpList_load_row rfl 54 _ rfl (w.heap.size + 1) rfl 54 I (0, 0) _ HIB.out Tryz.underlying54 rfl HSI.out.2 ?_)
   (with_reducible refine (HNX.out _).mono ?_); rintro e w4 ⟨rfl, hB4⟩
   have HCB4 := wall (HCB.out.next hB4 rfl)
   have HOB4 := wall (HOB.out.next hB4 rfl)
   have HEB4 := wall (HEB.out.next hB4 rfl)
   have HF4 := wall (HF3.out.trans (Frm.of_below hB4))
   have HSP4 := wall (HSP.out.old hB4)
   have HN4 := wall (nats_step HN3.out hB4)
   have HW4 := wall (show w.heap.size + 3 < w4.heap.size ∧ W.heap.size < w4.heap.size from ⟨HEB4.out.lt, by
    have h1 : W.heap.size < w3.heap.size := by
     obtain ⟨y, hy⟩ : ∃ y, (byL xb n)[0]? = some y := ⟨_, List.getElem?_eq_getElem (by rw [HPL.out]; rcases HNC.out with h | h | h <;> omega)⟩
     obtain ⟨-, gb, ob, e, q, -⟩ := HN3.out 0 y hy
     cases e
     exact q
    have := hB4.size
    omega⟩)
   have HAE := wall (show Blk (w4.alloc (.cells E 78)) w4.heap.size 78 E ∧ Below w4.heap.size w4 (w4.alloc (.cells E 78)) from ⟨Blk.new _ _ _, (Below.refl _ _).alloc (Nat.le_refl _) _⟩)
   have HCB5 := wall (HCB4.out.next HAE.out.2 rfl)
   clear hB4 HNX HCB HOB HEB HF3 HSP HN3 HIB HCB4
   try simp only [Act.put, rpA, rpB, rpC]
   go_upto_region 10 with (first | refine Big.wpList_alloc_at rfl 78 rfl E HE.out w4.heap.size rfl ?_ | (refine wpList_set_row rfl 71 (.tmp 3) (.tmp 71) rfl w.heap.size D2 rfl rfl 71 D HCB5.out HRW.out.1 HDZ.out HRW.out.2.2 ?_; intro w5 K5 F5; have HAE5 := wall (HAE.out.1.frm F5.out (by have := HW4.out.1; simp; omega))) | (refine wpList_set_row rfl 78 (.tmp 13) (.tmp 72) rfl w4.heap.size V rfl rfl 78 E HAE5.out HEW.out.1 HEW.out.2.1 HEW.out.2.2 ?_; intro w6 K6 F6))
   have h4 := HW4.out.1
   have h4w := HW4.out.2
   have hgl := HGL.out
   have HCB6 := wall (show Blk w6 w.heap.size 71 D2 from K5.out.frm F6.out (by simp; omega))
   have HOB6 := wall (((HOB4.out.next HAE.out.2 rfl).frm F5.out (by simp)).frm F6.out (by simp; omega))
   have HEB6 := wall (((HEB4.out.next HAE.out.2 rfl).frm F5.out (by simp)).frm F6.out (by simp; omega))
   have HF6 := wall (((HF4.out.trans (Frm.of_below HAE.out.2)).trans' F5.out (by simp)).trans' F6.out (by simp; omega))
   have HSP6 := wall (show Sp w6 g v2 from Blk.frm (Blk.frm (HSP4.out.old HAE.out.2) F5.out (by simp; omega)) F6.out (by simp; omega))
   have HFF := wall ((Frm.of_below (S := [w.heap.size, w4.heap.size]) HAE.out.2).trans ((F5.out.mono (T := [w.heap.size, w4.heap.size]) (by simp)).trans (F6.out.mono (T := [w.heap.size, w4.heap.size]) (by simp))))
   have HN6 := wall (show Nats .u8 256 w6 w6.heap.size (some ⟨W.heap.size, 0, none⟩) (byL xb n) from fun j x hx => by
    obtain ⟨q1, gb, ob, q2, q3, q4⟩ := HN4.out j x hx
    cases q2
    have hww := HWW.out
    refine ⟨q1, _, _, rfl, Nat.lt_of_lt_of_le q3 HFF.out.size, ?_⟩
    rw [← q4]
    exact World.cell?_of_block (HFF.out.block _ q3 (by simp; omega)))
   have HEV := wall K6.out
   have kv8 : w6.cell? ⟨w4.heap.size, 8, none⟩ = some (.int .u32 0) := by rw [HEV.out.cell, ← HVV.out]; rfl
   have kv9 : w6.cell? ⟨w4.heap.size, 9, none⟩ = some (.slice none 0 0) := by rw [HEV.out.cell, ← HVV.out]; rfl
   have kf8 : w6.frozen? ⟨w4.heap.size, 8, none⟩ = false := HEV.out.frozen 8
   have kf9 : w6.frozen? ⟨w4.heap.size, 9, none⟩ = false := HEV.out.frozen 9
   have HV2 := wall (show (V.setIfInBounds 8 (.int .u32 (z : Int))).setIfInBounds 9 (.slice (some ⟨W.heap.size, 0, none⟩) n 4) = evC false 0 i z (some ⟨W.heap.size, 0, none⟩) n 4 by rw [← HVV.out]; rfl)
   clear K5 F5 K6 F6 HAE HAE5 HCB5 HF4 HSP4 HN4 HOB4 HEB4 HFF
   obtain ⟨g3, hg3⟩ : ∃ y, w4.heap.size = y := ⟨_, rfl⟩
   rw [hg3] at kv8 kv9 kf8 kf9 HEV h4 h4w ⊢
   clear hg3 HW4
   go_upto_region 11 with fail
   have HF7 := wall (show Frm [g3] w6 ((w6.setCell ⟨g3, 8, none⟩ (.int .u32 (z : Int))).setCell ⟨g3, 9, none⟩ (.slice (some ⟨W.heap.size, 0, none⟩) n 4)) from ((Frm.refl _ w6).setCell (p := ⟨g3, 8, none⟩) (.inl (by simp)) _).setCell (p := ⟨g3, 9, none⟩) (.inl (by simp)) _)
   have HK7 := wall (show Blk ((w6.setCell ⟨g3, 8, none⟩ (.int .u32 (z : Int))).setCell ⟨g3, 9, none⟩ (.slice (some ⟨W.heap.size, 0, none⟩) n 4)) g3 78 (evC false 0 i z (some ⟨W.heap.size, 0, none⟩) n 4) by
    rw [← HV2.out]
    exact (HEV.out.set 8 _).set 9 _)
   generalize (w6.setCell ⟨g3, 8, none⟩ (.int .u32 (z : Int))).setCell ⟨g3, 9, none⟩ (.slice (some ⟨W.heap.size, 0, none⟩) n 4) = w7 at *
   clear kv8 kv9 kf8 kf9 HEV HV2
   have HEX := wall (show (Tryz.prog.info? 78).map (·.size) = some (evC false 0 i z (some ⟨W.heap.size, 0, none⟩) n 4).size ∧ E.size = (evC false 0 i z (some ⟨W.heap.size, 0, none⟩) n 4).size ∧ (evC false 0 i z (some ⟨W.heap.size, 0, none⟩) n 4).all (·.oneCell') = true from ⟨ev_info, by rw [← hE]; rfl, evC_one _ _ _ _ _ _ _⟩)
   obtain ⟨V2, hV2⟩ : ∃ y, evC false 0 i z (some ⟨W.heap.size, 0, none⟩) n 4 = y := ⟨_, rfl⟩
   have HV2 := wall hV2
   rw [hV2] at HK7 HEX
   clear hV2
   refine wp_two_rows (by kernel_rfl) (by kernel_rfl) rfl rfl rfl rfl rfl rfl 71 78 _ _ _ _ 77 78 (by decide) rfl rfl rfl rfl rfl rfl w.heap.size g3 (w.heap.size + 2) (w.heap.size + 3) D2 V2 71 78 71 78 Z E _ _ rfl rfl rfl rfl rfl rfl rfl rfl rfl rfl (HCB6.out.frm HF7.out (by simp; omega)) HK7.out (HOB6.out.frm HF7.out (by simp; omega)) (HEB6.out.frm HF7.out (by simp; omega)) (by omega) (by omega) Tryz.underlying71 rfl HRW.out.1 HRW.out.2.1 HRW.out.2.2 Tryz.underlying78 rfl HEX.out.1 HEX.out.2.1 HEX.out.2.2 ?_
   intro w9 K8 K9 F9
   have K8o := wall K8
   have K9o := wall K9
   have hww := HWW.out
   have HF9 := wall ((HF6.out.trans' HF7.out (by simp; omega)).trans' F9 (by intro x hx; simp at hx; omega))
   have HS9 := wall (show Sp w9 g v2 from Blk.frm (Blk.frm HSP6.out HF7.out (by simp; omega)) F9 (by simp; omega))
   have HN9 := wall (show Nats .u8 256 w9 w9.heap.size (some ⟨W.heap.size, 0, none⟩) (byL xb n) from fun j x hx => by
    obtain ⟨q1, gb, ob, q2, q3, q4⟩ := HN6.out j x hx
    cases q2
    refine ⟨q1, _, _, rfl, Nat.lt_of_lt_of_le q3 (Nat.le_trans HF7.out.size F9.size), ?_⟩
    rw [← q4]
    exact (World.cell?_of_block (F9.block _ (Nat.lt_of_lt_of_le q3 HF7.out.size) (by simp; omega))).trans (World.cell?_of_block (HF7.out.block _ q3 (by simp; omega))))
   have HBP := wall (show byL xb n ≠ [] from fun h => by
    have h2 := HPL.out
    rw [h] at h2
    rcases HNC.out with h3 | h3 | h3 <;> simp at h2 <;> omega)
   clear K8 K9 F9 h4 h4w hgl hww
   try simp only [Act.put, rpA, rpB, rpC]
   go_wp2_with fail
   go_light
   exact bodyPost_ret (v := .tuple #[.agg D2, .agg V2]) (results_two Tryz.results173 _ _ (w.heap.size + 2) (w.heap.size + 3) 71 78 D2 V2 _ _ rfl rfl K8o.out K9o.out Tryz.underlying71 rfl HRW.out.1 Tryz.underlying78 rfl HEX.out.1) rfl (by rw [HJ9.out]; exact ⟨some ⟨W.heap.size, 0, none⟩, n, 4, by rw [← HD2.out, ← HV2.out]; rfl, HS9.out, HF9.out, fun _ => ⟨HPL.out.symm, HN9.out, fun ad h => by cases h; have := HWW.out; show w.heap.size ≤ W.heap.size; omega, fun h => absurd h HBP.out⟩⟩)
  ·have he' : (((er : Nat) : Int) != 0) = true := by rw [bne_iff_ne]; omega
   have HJ9 := wall (show J = ⟨trapC c 7 z, some 7, 0, [], v2⟩ by rw [HJ3.out, if_pos (by simpa using he), HSV.out he])
   clear HJ3 HSV he
   have HNX := wall (fun W => show Calls Tryz.prog 97 #[.agg (crC c), .int .u32 7, .int .u32 (z : Int)] W (StepOut (trapC c 7 z) (evO (some 7) i) W) from trap_any c HC.out 7 z W (by decide) HZL.out)
   unfold StepOut at HNX
   rw [HDD.out] at HNX
   have HOK1 := wall (show (trapC c 7 z).Ok from Cr.Ok.trap HC.out (by decide) HZL.out)
   have HRW := wall (res_row HOK1.out)
   have HEW := wall (evo_row (some 7) i)
   rw [HZE.out.1] at HRW
   rw [HZE.out.2] at HEW
   obtain ⟨D2, hD2⟩ : ∃ q9, crC (trapC c 7 z) = q9 := ⟨_, rfl⟩
   obtain ⟨V, hV⟩ : ∃ q9, evO (some 7) i = q9 := ⟨_, rfl⟩
   have HD2 := wall hD2
   have HVV := wall hV
   rw [hD2] at HNX HRW
   rw [hV] at HNX HEW
   clear hD2 hV
   go_wp2_with (first | refine wpList_load_row rfl 71 _ rfl w.heap.size rfl 71 D (0, 0) _ HCB.out Tryz.underlying71 rfl HSI.out.1 ?_)
   (with_reducible refine (HNX.out _).mono ?_); rintro e w8 ⟨rfl, hB8⟩
   have H8c := wall (HOB.out.next hB8 rfl)
   have H8e := wall (HEB.out.next hB8 rfl)
   have H8f := wall (HF3.out.trans (Frm.of_below hB8))
   have H8s := wall (HSP.out.old hB8)
   clear hB8 HNX
   try simp only [Act.put, rpA, rpB, rpC]
   go_wp2_with (first | (refine wpList_set_row rfl 71 (.tmp 6) (.tmp 65) rfl (w.heap.size + 2) D2 rfl rfl 71 Z H8c.out HRW.out.1 HRW.out.2.1 HRW.out.2.2 ?_; intro w9 K9 F9; have H9e := wall (H8e.out.frm F9.out (by simp))) | (refine wpList_set_row rfl 78 (.tmp 7) (.tmp 66) rfl (w.heap.size + 3) V rfl rfl 78 E H9e.out HEW.out.1 HEW.out.2.1 HEW.out.2.2 ?_; intro w10 K10 F10))
   have K10o := wall (K9.out.frm F10.out (by simp))
   have hgl := HGL.out
   have HS10 := wall (show Sp w10 g v2 from Blk.frm (Blk.frm H8s.out F9.out (by simp; omega)) F10.out (by simp; omega))
   have HF10 := wall ((H8f.out.trans' F9.out (by simp; omega)).trans' F10.out (by simp; omega))
   clear hgl
   go_light
   exact bodyPost_ret (v := .tuple #[.agg D2, .agg V]) (results_two Tryz.results173 _ _ (w.heap.size + 2) (w.heap.size + 3) 71 78 D2 V _ _ rfl rfl K10o.out K10.out Tryz.underlying71 rfl HRW.out.1 Tryz.underlying78 rfl HEW.out.1) rfl (by rw [HJ9.out]; exact ⟨none, 0, 0, by rw [← HD2.out, ← HVV.out]; rfl, HS10.out, HF10.out, fun h => by cases h⟩)
 ·have hm1 : ((z : Int) % (n : Int) != 0) = true := by rw [bne_iff_ne]; exact_mod_cast hm
  have HJ9 := wall (show J = ⟨trapC c 6 z, some 6, 0, [], v⟩ by rw [HJ2.out, if_pos hm])
  clear HJ2 kxb kb hb32
  have HNX := wall (fun W => show Calls Tryz.prog 97 #[.agg (crC c), .int .u32 6, .int .u32 (z : Int)] W (StepOut (trapC c 6 z) (evO (some 6) i) W) from trap_any c HC.out 6 z W (by decide) HZL.out)
  unfold StepOut at HNX
  rw [HDD.out] at HNX
  have HOK1 := wall (show (trapC c 6 z).Ok from Cr.Ok.trap HC.out (by decide) HZL.out)
  have HRW := wall (res_row HOK1.out)
  have HEW := wall (evo_row (some 6) i)
  rw [HZE.out.1] at HRW
  rw [HZE.out.2] at HEW
  obtain ⟨D2, hD2⟩ : ∃ q9, crC (trapC c 6 z) = q9 := ⟨_, rfl⟩
  obtain ⟨V, hV⟩ : ∃ q9, evO (some 6) i = q9 := ⟨_, rfl⟩
  have HD2 := wall hD2
  have HVV := wall hV
  rw [hD2] at HNX HRW
  rw [hV] at HNX HEW
  clear hD2 hV
  go_wp2_with (first | refine wpList_load_row rfl 71 _ rfl w.heap.size rfl 71 D (0, 0) _ HCB.out Tryz.underlying71 rfl HSI.out.1 ?_)
  (with_reducible refine (HNX.out _).mono ?_); rintro e w8 ⟨rfl, hB8⟩
  have H8 := wall (HW.out.next hB8)
  have H8o := wall (show Blk w8 (w.heap.size + 2) 71 Z by rw [← hZ]; exact H8.out.o)
  have H8e := wall (show Blk w8 (w.heap.size + 3) 78 E by rw [← hE]; exact H8.out.e)
  have H8b := wall H8.out.bel
  clear hB8 H8 HNX
  try simp only [Act.put, rpA, rpB, rpC]
  go_wp2_with (first | (refine wpList_set_row rfl 71 (.tmp 6) (.tmp 36) rfl (w.heap.size + 2) D2 rfl rfl 71 Z H8o.out HRW.out.1 HRW.out.2.1 HRW.out.2.2 ?_; intro w9 K9 F9; have H9e := wall (H8e.out.frm F9.out (by simp)); have H9b := wall (Below.frm H8b.out F9.out (Nat.le_refl _) (by simp))) | (refine wpList_set_row rfl 78 (.tmp 7) (.tmp 37) rfl (w.heap.size + 3) V rfl rfl 78 E H9e.out HEW.out.1 HEW.out.2.1 HEW.out.2.2 ?_; intro w10 K10 F10))
  have K10o := wall (K9.out.frm F10.out (by simp))
  have HB10 := wall (Below.frm H9b.out F10.out (Nat.le_refl _) (by simp))
  go_light
  exact bodyPost_ret (v := .tuple #[.agg D2, .agg V]) (results_two Tryz.results173 _ _ (w.heap.size + 2) (w.heap.size + 3) 71 78 D2 V _ _ rfl rfl K10o.out K10.out Tryz.underlying71 rfl HRW.out.1 Tryz.underlying78 rfl HEW.out.1) rfl (by rw [HJ9.out]; exact ⟨none, 0, 0, by rw [← HD2.out, ← HVV.out]; rfl, HSW.out.sp.old HB10.out, Frm.of_below HB10.out, fun h => by cases h⟩)
end Core
end Go.Proofs.YtmiaabpnolebhaaGreatDoor
