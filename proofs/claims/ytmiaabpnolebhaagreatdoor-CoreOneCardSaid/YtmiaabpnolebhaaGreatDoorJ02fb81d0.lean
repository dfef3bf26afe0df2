/-
  Texts of this claim, joined: RcB, RcC, RcD.
-/
import Derived.Test.YtmiaabpnolebhaaGreatDoorJ41856e41
import Derived.Test.YtmiaabpnolebhaaGreatDoorRalA
import Derived.Test.YtmiaabpnolebhaaGreatDoorJ5ddb6c32
set_option maxHeartbeats 4000000
set_option maxRecDepth 100000
set_option linter.unusedSimpArgs false
set_option linter.unusedVariables false
namespace Go.Proofs.YtmiaabpnolebhaaGreatDoor
open Go.RowKit

namespace Core
open Otp Sha Rv Grant Spc R1 Fla
def cz (t : Option Nat) : Int := match t with
 | some k => (k : Int)
 | none => -1
def PairO (r : Cr × Option Nat) (w : World) (e : Ending) (w' : World) : Prop := e = .returned (.tuple #[.agg (crC r.1), .int .i64 (cz r.2)]) ∧ Below w.heap.size w w'
theorem inst_info : (Tryz.prog.info? 212).map (·.size) = some 6 := by kernel_rfl
structure Ri (w w' : World) (c : Cr) (i : In) : Prop where
 c : Blk w' w.heap.size 74 (crC c)
 i : Blk w' (w.heap.size + 1) 212 (inC i)
 o : Blk w' (w.heap.size + 2) 74 (crC crZ)
 bel : Below w.heap.size w w'
theorem Ri.new (w : World) (c : Cr) (i : In) : Ri w (((w.alloc (.cells (crC c) 74)).alloc (.cells (inC i) 212)).alloc (.cells (crC crZ) 74)) c i :=
 ⟨((Blk.new _ _ _).alloc _).alloc _, (blk_new' (by simp)).alloc _, blk_new' (by simp), (((Below.refl _ w).alloc (Nat.le_refl _) _).alloc (by simp) _).alloc (by simp; omega) _⟩
theorem Ri.next {w w' w'' : World} {c : Cr} {i : In} (h : Ri w w' c i) (hb : Below w'.heap.size w' w'') : Ri w w'' c i := ⟨h.c.next hb rfl, h.i.next hb rfl, h.o.next hb rfl, below_then h.bel hb (Nat.le_refl _)⟩
theorem Ri.frm {w w' w'' : World} {c : Cr} {i : In} {S : List Nat} (h : Ri w w' c i) (hf : Frm S w' w'') (hS : ∀ x ∈ S, w.heap.size + 2 < x ∨ x < w.heap.size) (hb : Below w.heap.size w w'') : Ri w w'' c i :=
 ⟨h.c.frm hf (fun hx => by rcases hS _ hx with h | h <;> omega), h.i.frm hf (fun hx => by rcases hS _ hx with h | h <;> omega), h.o.frm hf (fun hx => by rcases hS _ hx with h | h <;> omega), hb⟩
theorem Ri.cell {w w' : World} {c : Cr} {i : In} (h : Ri w w' c i) (ho : c.Ok) {k : Nat} (hk : k < 41) : w'.cell? ⟨w.heap.size, k, none⟩ = some (.int .u32 ((c.g k : Nat) : Int)) := rblk_cell h.c ho hk
theorem Ri.op {w w' : World} {c : Cr} {i : In} (h : Ri w w' c i) : w'.cell? ⟨w.heap.size + 1, 0, none⟩ = some (.int .u8 (i.op : Int)) := by rw [h.i.cell]; rfl
theorem Ri.rd {w w' : World} {c : Cr} {i : In} (h : Ri w w' c i) : w'.cell? ⟨w.heap.size + 1, 1, none⟩ = some (.int .u8 (i.rd : Int)) := by rw [h.i.cell]; rfl
theorem Ri.a {w w' : World} {c : Cr} {i : In} (h : Ri w w' c i) : w'.cell? ⟨w.heap.size + 1, 2, none⟩ = some (.int .u8 (i.a : Int)) := by rw [h.i.cell]; rfl
theorem Ri.b {w w' : World} {c : Cr} {i : In} (h : Ri w w' c i) : w'.cell? ⟨w.heap.size + 1, 3, none⟩ = some (.int .u8 (i.b : Int)) := by rw [h.i.cell]; rfl
theorem Ri.imm {w w' : World} {c : Cr} {i : In} (h : Ri w w' c i) : w'.cell? ⟨w.heap.size + 1, 4, none⟩ = some (.int .u32 (i.imm : Int)) := by rw [h.i.cell]; rfl
theorem Ri.csr {w w' : World} {c : Cr} {i : In} (h : Ri w w' c i) : w'.cell? ⟨w.heap.size + 1, 5, none⟩ = some (.int .u16 (i.csr : Int)) := by rw [h.i.cell]; rfl
theorem wp_ri {P : Program} {k : Code} {Q : Exit → Act → World → Prop} {a : Act} {w' : World} (w : World) (c : Cr) (i : In) (h1 : Ri w w' c i) (h : ∀ w8, Ri w w8 c i → Code.wp P k Q a w8) : Code.wp P k Q a w' := h w' h1
theorem rrow {c : Cr} (h : c.Ok) : (Tryz.prog.info? 74).map (·.size) = some (crC c).size ∧ (crC crZ).size = (crC c).size ∧ (crC c).all (·.oneCell') = true := ⟨by rw [crC_size h]; exact ref_info, by rw [crC_size h, crC_size crZ_ok], crC_one _⟩
theorem prep {c c2 : Cr} (h1 : c.Ok) (h2 : c2.Ok) : ∃ D D2 Z9, crC c = D ∧ Wall (crC c2 = D2) ∧ Wall (crC crZ = Z9) ∧ Wall ((Tryz.prog.info? 74).map (·.size) = some D.size) ∧ Wall ((Tryz.prog.info? 74).map (·.size) = some D2.size ∧ Z9.size = D2.size ∧ D2.all (·.oneCell') = true) := ⟨_, _, _, rfl, wall rfl, wall rfl, wall (rrow h1).1, wall (rrow h2)⟩
theorem ldV_11_hi {p : List Nat} {y v : Nat} (h : leN p = y) (h1 : 127 < y) (h2 : y < 256) (hv : y + 4294967040 = v) : ldV 11 p = v := by
 have e2 : wrap32 ((y * 16777216 : Nat) : Int) = ((y : Int) - 256) * 16777216 := by unfold wrap32; omega
 have e3 : ((y : Int) - 256) * 16777216 / 16777216 = (y : Int) - 256 := Int.mul_ediv_cancel _ (by decide)
 have e1 : y * 2 ^ (32 - 8 * 1) % 4294967296 = y * 16777216 := by
  rw [show (2 : Nat) ^ (32 - 8 * 1) = 16777216 from rfl]
  exact Nat.mod_eq_of_lt (by omega)
 have e : ldV 11 p = sxN 1 (leN p) := by unfold ldV; rw [if_pos (by decide), show szN 11 = 1 from by decide]
 rw [e, h]
 unfold sxN
 rw [e1, e2, show (2 : Int) ^ (32 - 8 * 1) = 16777216 from rfl, e3]
 clear e e1 e2 e3
 unfold low
 omega
theorem ldV_11_lo {p : List Nat} {y : Nat} (h : leN p = y) (h1 : y ≤ 127) : ldV 11 p = y := by
 have e2 : wrap32 ((y * 16777216 : Nat) : Int) = (y : Int) * 16777216 := by unfold wrap32; omega
 have e3 : (y : Int) * 16777216 / 16777216 = (y : Int) := Int.mul_ediv_cancel _ (by decide)
 have e1 : y * 2 ^ (32 - 8 * 1) % 4294967296 = y * 16777216 := by
  rw [show (2 : Nat) ^ (32 - 8 * 1) = 16777216 from rfl]
  exact Nat.mod_eq_of_lt (by omega)
 have e : ldV 11 p = sxN 1 (leN p) := by unfold ldV; rw [if_pos (by decide), show szN 11 = 1 from by decide]
 rw [e, h]
 unfold sxN
 rw [e1, e2, show (2 : Int) ^ (32 - 8 * 1) = 16777216 from rfl, e3]
 clear e e1 e2 e3
 unfold low
 omega
theorem ldV_12_hi {p : List Nat} {y v : Nat} (h : leN p = y) (h1 : 32767 < y) (h2 : y < 65536) (hv : y + 4294901760 = v) : ldV 12 p = v := by
 have e2 : wrap32 ((y * 65536 : Nat) : Int) = ((y : Int) - 65536) * 65536 := by unfold wrap32; omega
 have e3 : ((y : Int) - 65536) * 65536 / 65536 = (y : Int) - 65536 := Int.mul_ediv_cancel _ (by decide)
 have e1 : y * 2 ^ (32 - 8 * 2) % 4294967296 = y * 65536 := by
  rw [show (2 : Nat) ^ (32 - 8 * 2) = 65536 from rfl]
  exact Nat.mod_eq_of_lt (by omega)
 have e : ldV 12 p = sxN 2 (leN p) := by unfold ldV; rw [if_pos (by decide), show szN 12 = 2 from by decide]
 rw [e, h]
 unfold sxN
 rw [e1, e2, show (2 : Int) ^ (32 - 8 * 2) = 65536 from rfl, e3]
 clear e e1 e2 e3
 unfold low
 omega
theorem ldV_12_lo {p : List Nat} {y : Nat} (h : leN p = y) (h1 : y ≤ 32767) : ldV 12 p = y := by
 have e2 : wrap32 ((y * 65536 : Nat) : Int) = (y : Int) * 65536 := by unfold wrap32; omega
 have e3 : (y : Int) * 65536 / 65536 = (y : Int) := Int.mul_ediv_cancel _ (by decide)
 have e1 : y * 2 ^ (32 - 8 * 2) % 4294967296 = y * 65536 := by
  rw [show (2 : Nat) ^ (32 - 8 * 2) = 65536 from rfl]
  exact Nat.mod_eq_of_lt (by omega)
 have e : ldV 12 p = sxN 2 (leN p) := by unfold ldV; rw [if_pos (by decide), show szN 12 = 2 from by decide]
 rw [e, h]
 unfold sxN
 rw [e1, e2, show (2 : Int) ^ (32 - 8 * 2) = 65536 from rfl, e3]
 clear e e1 e2 e3
 unfold low
 omega
theorem ldV_13 {p : List Nat} {y : Nat} (h : leN p = y) (h1 : y < 4294967296) : ldV 13 p = y := by
 have e : ldV 13 p = sxN 4 (leN p) := by unfold ldV; rw [if_pos (by decide), show szN 13 = 4 from by decide]
 have e1 : y * 2 ^ (32 - 8 * 4) % 4294967296 = y := by
  rw [show (2 : Nat) ^ (32 - 8 * 4) = 1 from rfl, Nat.mul_one]
  exact Nat.mod_eq_of_lt h1
 rw [e, h]
 unfold sxN
 rw [e1, show (2 : Int) ^ (32 - 8 * 4) = 1 from rfl, Int.ediv_one, low_wrap]
 clear e e1
 unfold low
 omega
theorem ldV_14 {p : List Nat} {y : Nat} (h : leN p = y) : ldV 14 p = y := by unfold ldV; rw [if_neg (by decide)]; exact h
theorem ldV_15 {p : List Nat} {y : Nat} (h : leN p = y) : ldV 15 p = y := by unfold ldV; rw [if_neg (by decide)]; exact h
theorem rloadc_any (c : Cr) (hc : c.Ok) (i : In) {m b1 b2 b3 b4 b5 : Nat} (u : SpV) (hu : u.Ok) (F vs : List Nat) (ls : List Bool) (w : World) (hid : InD i) (hop : 11 ≤ i.op ∧ i.op ≤ 15) (hF : F.length = 10240 ∧ ∀ x ∈ F, x < 256) (hM : Sm w m b1 b2 b3 b4 b5 u F vs ls) :
  Calls Tryz.prog 187 #[.agg (crC c), .pointer (some ⟨m, 0, none⟩), .agg (inC i)] w (PairO (loadR u F vs ls c i) w) := by
 have HM := wall hM
 have HU := wall hu
 have HFF := wall hF
 have HOP := wall hop
 obtain ⟨J, hJ⟩ : ∃ J, loadR u F vs ls c i = J := ⟨_, rfl⟩
 rw [hJ]
 have HJ := wall hJ.symm
 unfold loadR at HJ
 have HLN := wall (fun h => ld_len (v := u) (F := F) (vs := vs) (ls := ls) (who := 1) (a := atN c i) (n := szN i.op) hu hF.1 hF.2 h)
 clear hM hJ hop hF hu
 have HC := wall hc
 have HID := wall hid
 have HF := wall (Ri.new w c i)
 have HZ := wall ref_zero
 obtain ⟨C, hC⟩ : ∃ y, crC c = y := ⟨_, rfl⟩
 obtain ⟨I, hI⟩ : ∃ y, inC i = y := ⟨_, rfl⟩
 obtain ⟨Z, hZ⟩ : ∃ y, crC crZ = y := ⟨_, rfl⟩
 rw [hC, hI, hZ] at HF
 rw [hZ] at HZ
 rw [hC, hI]
 clear hc hid hC hI hZ
 go_enter Tryz.func187, Tryz.ntmps187
 go_upto_region 1 with (first | refine Big.wpList_alloc_at rfl 74 rfl Z HZ.out (w.heap.size + 2) (by simp) ?_)
 try simp only [Act.put, rpA, rpB, rpC]
 refine wp_ri w c i HF.out ?_
 intro w1 h1
 have H1 := wall h1
 clear h1 HF
 have ka := H1.out.a
 have km := H1.out.imm
 have kxa := H1.out.cell HC.out (show i.a < 41 by have := HID.out.a; omega)
 have ha32 : i.a < 32 := HID.out.a
 have hl0 : w.heap.size < w1.heap.size := H1.out.c.lt
 have hl1 : w.heap.size + 1 < w1.heap.size := H1.out.i.lt
 obtain ⟨xa, hxa⟩ : ∃ y, c.g i.a = y := ⟨_, rfl⟩
 obtain ⟨z, hze⟩ : ∃ z, atN c i = z := ⟨_, rfl⟩
 have hz : ((xa : Int) + (i.imm : Int)) % 4294967296 = (z : Int) := by rw [← hze, ← hxa]; unfold atN; omega
 have HZL := wall (show z < 4294967296 by rw [← hze]; exact atN_lt c i)
 rw [hxa] at kxa
 rw [hze] at HJ HLN
 clear hze hxa
 go_wp2_with fail
 refine RelG.wp_region_rel 9 [] (by kernel_rfl) (by kernel_rfl) ?_
 simp only [List.take_succ_cons, List.take_zero, List.drop_succ_cons, List.drop_zero, Act.put, rpA, rpB, rpC]
 repeat (first | (refine RelG.tree_quiet rfl rfl rfl (fun K hK => ?_); go_big_quiet_op; refine hK _ ?_; clear hK K) | ((first | refine RelG.tree_pure rfl rfl rfl (.int .u8 (i.a : Int)) (fun W hW _ => Rel.exec_load1 _ _ rfl (w.heap.size + 1) (2) rfl _ (fun _ => by kernel_rfl) ((hW.undrew.cell (p := ⟨w.heap.size + 1, 2, none⟩) hl1).trans ka)) ?_ | refine RelG.tree_pure rfl rfl rfl (.int .u32 ((xa : Nat) : Int)) (fun W hW _ => Rel.exec_load1 _ _ rfl (w.heap.size) (i.a) rfl _ (fun _ => by kernel_rfl) ((hW.undrew.cell (p := ⟨w.heap.size, i.a, none⟩) hl0).trans kxa)) ?_ | refine RelG.tree_pure rfl rfl rfl (.int .u32 (i.imm : Int)) (fun W hW _ => Rel.exec_load1 _ _ rfl (w.heap.size + 1) (4) rfl _ (fun _ => by kernel_rfl) ((hW.undrew.cell (p := ⟨w.heap.size + 1, 4, none⟩) hl1).trans km)) ?_); simp only [Act.put, rpA, rpB, rpC]))
 intro W2 hW2 _
 have HB12 := wall hW2.undrew
 have H2 := wall (H1.out.next hW2.undrew)
 obtain ⟨w2, rfl⟩ : ∃ y : World, y = W2 := ⟨_, rfl⟩
 clear hW2 ka km kxa ha32 hl0 hl1 H1
 go_upto_region 2 with fail
 have HOPC := wall (show i.op = 11 ∨ i.op = 12 ∨ i.op = 13 ∨ i.op = 14 ∨ i.op = 15 from by have := HOP.out; omega)
 go_cut [9] (fun s9 w' => s9 = .int .i64 ((szN i.op : Nat) : Int) ∧ Wall (Ri w w' c i ∧ Below w1.heap.size w1 w'))
 case first =>
  have kop := H2.out.op
  have hl1 : w.heap.size + 1 < w2.heap.size := H2.out.i.lt
  have HBL := wall (fun cs t => show Ri w (w2.alloc (.cells cs t)) c i ∧ Below w1.heap.size w1 (w2.alloc (.cells cs t)) from ⟨H2.out.next ((Below.refl _ _).alloc (Nat.le_refl _) _), below_then HB12.out ((Below.refl _ _).alloc (Nat.le_refl _) _) (Nat.le_refl _)⟩)
  rcases HOPC.out with h | h | h | h | h
  ·have hs : szN i.op = 1 := by rw [h]; rfl
   rw [h] at kop
   have HS := wall hs
   clear h hs
   go_wp2_with fail
   go_meet
   exact ⟨by rw [HS.out]; rfl, wall (HBL.out _ _)⟩
  ·have hs : szN i.op = 2 := by rw [h]; rfl
   rw [h] at kop
   have HS := wall hs
   clear h hs
   go_wp2_with fail
   go_meet
   exact ⟨by rw [HS.out]; rfl, wall (HBL.out _ _)⟩
  ·have hs : szN i.op = 4 := by rw [h]; rfl
   rw [h] at kop
   have HS := wall hs
   clear h hs
   go_wp2_with fail
   go_meet
   exact ⟨by rw [HS.out]; rfl, wall (HBL.out _ _)⟩
  ·have hs : szN i.op = 1 := by rw [h]; rfl
   rw [h] at kop
   have HS := wall hs
   clear h hs
   go_wp2_with fail
   go_meet
   exact ⟨by rw [HS.out]; rfl, wall (HBL.out _ _)⟩
  ·have hs : szN i.op = 2 := by rw [h]; rfl
   rw [h] at kop
   have HS := wall hs
   clear h hs
   go_wp2_with fail
   go_meet
   exact ⟨by rw [HS.out]; rfl, wall (HBL.out _ _)⟩
 case rest =>
  obtain ⟨rfl, hR⟩ := hcut
  obtain ⟨w3, rfl⟩ : ∃ wo : World, wo = wc := ⟨_, rfl⟩
  have H3 := wall hR.out.1
  have HM3 := wall (HM.out.old (below_then (Below.refl _ w) hR.out.1.bel (Nat.le_refl _)))
  clear hR H2 HB12 HM
  have HNC := wall (szN_cases i.op)
  obtain ⟨n, hn⟩ : ∃ n, szN i.op = n := ⟨_, rfl⟩
  rw [hn] at HJ HNC HLN
  rw [hn]
  have HNN := wall hn
  have hq : Int.tmod (z : Int) (n : Int) = ((z % n : Nat) : Int) := by rw [Int.tmod_eq_emod_of_nonneg (by omega)]; simp
  have hn0 : (n : Int) ≠ 0 := by have := HNC.out; omega
  obtain ⟨qq, hqe⟩ : ∃ y, z % n = y := ⟨_, rfl⟩
  rw [hqe] at HJ hq
  clear hn hqe
  by_cases h0 : qq = 0
  ·have hb0 : ((qq : Int) != 0) = false := by rw [h0]; rfl
   have HJ1 := wall (HJ.out.trans (if_neg (by simpa using h0)))
   clear HJ h0
   go_wp2_with fail
   (with_reducible refine (rload_any u F vs ls 1 (z : Int) (n : Int) z n w3 HM3.out rfl (by have := HZL.out; omega) rfl (by have := HNC.out; omega)).mono ?_); rintro e w4 ⟨v4, rfl, hO4, hB4⟩
   have H5 := wall (H3.out.next hB4)
   have HO4 := wall hO4
   clear hO4 hB4 H3 hq hb0 hn0
   obtain ⟨R, hR⟩ : ∃ R, ldR u F vs ls 1 z n = R := ⟨_, rfl⟩
   rw [hR] at HJ1 HO4 HLN
   rw [hR]
   clear hR
   obtain ⟨R1, R2⟩ := R
   simp only at HJ1 HO4 HLN
   try simp only [Act.put, rpA, rpB, rpC]
   by_cases he : R1 = 0
   ·have he' : (((R1 : Nat) : Int) != 0) = false := by rw [he]; rfl
    have HJ2 := wall (HJ1.out.trans (if_neg (by simpa using he)))
    have HL := wall (HLN.out he)
    clear HJ1 HLN he
    obtain ⟨A, cA, rfl, hlc, hPN, -⟩ := own_nats HO4.out HL.out.2
    have hl4 : R2.length = n := HL.out.1
    rw [hl4]
    have HPN := wall hPN
    have HLT := wall (show ∀ j, leN (R2.drop j) < 4294967296 from fun j => by
     have h1 := leN_lt (R2.drop j) (fun y hy => HL.out.2 y (List.mem_of_mem_drop hy))
     have h2 : 256 ^ (R2.drop j).length ≤ 256 ^ 4 := Nat.pow_le_pow_right (by decide) (by rw [List.length_drop, hl4]; have := HNC.out; omega)
     omega)
    have hn4 : (n : Int) ≤ 4 := by have := HNC.out; omega
    have hn1 : (1 : Int) ≤ (n : Int) := by have := HNC.out; omega
    clear hPN hl4 hlc HO4
    go_wp2_with fail
    go_loopg [12, 13] n (fun gg s12 s13 wr => ∃ j : Nat, j + gg = n ∧ s13 = .int .i64 ((n : Int) - 1 - (j : Int)) ∧ s12 = .int .u32 ((leN (R2.drop (n - j)) : Nat) : Int) ∧ w4 = wr)
    case atStart => exact ⟨0, by omega, by simp, by rw [Nat.sub_zero, List.drop_of_length_le (by rw [HL.out.1]; exact Nat.le_refl _)]; rfl, rfl⟩
    case round =>
     obtain ⟨j, hg, rfl, rfl, rfl⟩ := hrel
     have HG := wall hg
     have hj : j ≤ n := by omega
     clear hg
     by_cases hlt : j < n
     ·obtain ⟨k, hk⟩ : ∃ k, n - j = k + 1 := ⟨n - j - 1, by omega⟩
      have hki : (n : Int) - 1 - (j : Int) = (k : Int) := by omega
      obtain ⟨x, hx⟩ : ∃ x, R2[k]? = some x := ⟨_, List.getElem?_eq_getElem (by rw [HL.out.1]; omega)⟩
      obtain ⟨hx8, gb, ob, hAe, hgl, hcx⟩ := HPN.out k x hx
      subst hAe
      have HDR := wall (leN_drop R2 k x hx)
      have hl1 := HLT.out k
      have hl2 := HLT.out (k + 1)
      rw [HDR.out] at hl1
      have HKJ := wall (show n - (j + 1) = k ∧ k < n ∧ (n : Int) - 1 - ((j + 1 : Nat) : Int) = (k : Int) - 1 from ⟨by omega, by omega, by omega⟩)
      rw [hk, hki]
      obtain ⟨y, hy⟩ : ∃ y, leN (R2.drop (k + 1)) = y := ⟨_, rfl⟩
      rw [hy] at hl1 hl2 HDR ⊢
      have hkn : (k : Int) < (n : Int) := by omega
      have hsum : ((256 * (y : Int)) % 4294967296 + (x : Int)) % 4294967296 = ((x + 256 * y : Nat) : Int) := by omega
      have HSUM := wall hsum
      have hx256 : (x : Int) < 256 := by omega
      have hyb : 256 * (y : Int) + (x : Int) < 4294967296 := by omega
      clear hx hy hk hki hlt hgl hj hsum hl1 hl2
      go_wp2_with fail
      go_light
      go_roundg (n - (j + 1))
      case measure => have := HG.out; have := HKJ.out; omega
      case rel => exact ⟨j + 1, by have := HG.out; have := HKJ.out; omega, by rw [HKJ.out.2.2], by rw [HKJ.out.1, HDR.out]; first | (rw [← HSUM.out]; done) | (congr 1; omega) | (congr 1; simp; omega), rfl⟩
     ·obtain rfl : j = n := by omega
      have hk1 : (j : Int) - 1 - (j : Int) = -1 := by omega
      rw [hk1, Nat.sub_self, List.drop_zero]
      clear hlt hj HG hk1
      have HV := wall (HLT.out 0)
      rw [List.drop_zero] at HV
      obtain ⟨y, hy⟩ : ∃ y, leN R2 = y := ⟨_, rfl⟩
      have HY := wall hy
      rw [hy] at HV ⊢
      clear hy
      have HRD := wall HID.out.rd
      have HYB := wall (show y < 256 ^ j from by rw [← HY.out, ← HL.out.1]; exact leN_lt R2 HL.out.2)
      have krd := H5.out.rd
      rcases HOPC.out with h | h | h | h | h
      ·have hj1 : j = 1 := by rw [← HNN.out, h]; rfl
       have hyb : y < 256 := by have := HYB.out; rw [hj1] at this; omega
       have kop : w4.cell? ⟨w.heap.size + 1, 0, none⟩ = some (.int .u8 11) := by have := H5.out.op; rw [h] at this; exact this
       by_cases hgt : 127 < y
       ·have hgi : (127 : Int) < (y : Int) := by omega
        obtain ⟨v, hv⟩ : ∃ v, y + 4294967040 = v := ⟨_, rfl⟩
        have hvi : ((y : Int) + 4294967040) % 4294967296 = (v : Int) := by omega
        have HS := wall (show J = (nextC (withC c i.rd v), none) from by rw [HJ2.out, h, ldV_11_hi HY.out hgt hyb hv])
        have HVL := wall (show v < 4294967296 by omega)
        clear hj1 h hgt hv hyb
        have HCL := wall (fun W => show Calls Tryz.prog 184 #[.agg (crC c), .int .u8 (i.rd : Int), .int .u32 (v : Int)] W (CrOut (nextC (withC c i.rd v)) W) from rseti_any c HC.out i.rd v W HRD.out HVL.out)
        obtain ⟨D, D2, Z9, hD, HD2, HZ9, HR1, HR2⟩ := prep (c2 := nextC (withC c i.rd v)) HC.out ((HC.out.with i.rd v HVL.out).next)
        unfold CrOut at HCL
        rw [hD, HD2.out] at HCL
        have HKC := wall (show Blk _ w.heap.size 74 D by rw [← hD]; exact H5.out.c)
        clear hD
        go_wp2_with (refine wpList_load_row rfl 74 _ rfl w.heap.size rfl 74 D (0, 0) _ HKC.out Tryz.underlying74 rfl HR1.out ?_)
        (with_reducible refine (HCL.out _).mono ?_); rintro ee w97 ⟨rfl, hB97⟩
        have H97 := wall (H5.out.next hB97)
        have H97o := wall (show Blk w97 (w.heap.size + 2) 74 Z9 by rw [← HZ9.out]; exact H97.out.o)
        clear hB97 HCL HKC
        try simp only [Act.put, rpA, rpB, rpC]
        go_wp2_with (refine wpList_set_row rfl 74 (.tmp 6) (.tmp 84) rfl (w.heap.size + 2) D2 rfl rfl 74 Z9 H97o.out HR2.out.1 HR2.out.2.1 HR2.out.2.2 ?_; intro w99 K99 F99)
        have H99 := wall (Below.frm H97.out.bel F99.out (Nat.le_refl _) (by simp))
        go_light
        exact bodyPost_ret (v := .tuple #[.agg D2, .int .i64 (-1)]) (results_one_slot Tryz.results187 _ _ (w.heap.size + 2) 74 D2 _ (.int .i64 (-1)) rfl rfl K99.out Tryz.underlying74 rfl HR2.out.1) rfl ⟨by rw [show J.1 = nextC (withC c i.rd v) from by rw [HS.out], show J.2 = none from by rw [HS.out], HD2.out]; rfl, H99.out⟩
       ·have hgi : ¬ (127 : Int) < (y : Int) := by omega
        have HS := wall (show J = (nextC (withC c i.rd y), none) from by rw [HJ2.out, h, ldV_11_lo HY.out (Nat.le_of_not_lt hgt)])
        clear hj1 h hgt hyb
        have HCL := wall (fun W => show Calls Tryz.prog 184 #[.agg (crC c), .int .u8 (i.rd : Int), .int .u32 (y : Int)] W (CrOut (nextC (withC c i.rd y)) W) from rseti_any c HC.out i.rd y W HRD.out HV.out)
        obtain ⟨D, D2, Z9, hD, HD2, HZ9, HR1, HR2⟩ := prep (c2 := nextC (withC c i.rd y)) HC.out ((HC.out.with i.rd y HV.out).next)
        unfold CrOut at HCL
        rw [hD, HD2.out] at HCL
        have HKC := wall (show Blk _ w.heap.size 74 D by rw [← hD]; exact H5.out.c)
        clear hD
        go_wp2_with (refine wpList_load_row rfl 74 _ rfl w.heap.size rfl 74 D (0, 0) _ HKC.out Tryz.underlying74 rfl HR1.out ?_)
        (with_reducible refine (HCL.out _).mono ?_); rintro ee w97 ⟨rfl, hB97⟩
        have H97 := wall (H5.out.next hB97)
        have H97o := wall (show Blk w97 (w.heap.size + 2) 74 Z9 by rw [← HZ9.out]; exact H97.out.o)
        clear hB97 HCL HKC
        try simp only [Act.put, rpA, rpB, rpC]
        go_wp2_with (refine wpList_set_row rfl 74 (.tmp 6) (.tmp 84) rfl (w.heap.size + 2) D2 rfl rfl 74 Z9 H97o.out HR2.out.1 HR2.out.2.1 HR2.out.2.2 ?_; intro w99 K99 F99)
        have H99 := wall (Below.frm H97.out.bel F99.out (Nat.le_refl _) (by simp))
        go_light
        exact bodyPost_ret (v := .tuple #[.agg D2, .int .i64 (-1)]) (results_one_slot Tryz.results187 _ _ (w.heap.size + 2) 74 D2 _ (.int .i64 (-1)) rfl rfl K99.out Tryz.underlying74 rfl HR2.out.1) rfl ⟨by rw [show J.1 = nextC (withC c i.rd y) from by rw [HS.out], show J.2 = none from by rw [HS.out], HD2.out]; rfl, H99.out⟩
      ·have hj1 : j = 2 := by rw [← HNN.out, h]; rfl
       have hyb : y < 65536 := by have := HYB.out; rw [hj1] at this; omega
       have kop : w4.cell? ⟨w.heap.size + 1, 0, none⟩ = some (.int .u8 12) := by have := H5.out.op; rw [h] at this; exact this
       by_cases hgt : 32767 < y
       ·have hgi : (32767 : Int) < (y : Int) := by omega
        obtain ⟨v, hv⟩ : ∃ v, y + 4294901760 = v := ⟨_, rfl⟩
        have hvi : ((y : Int) + 4294901760) % 4294967296 = (v : Int) := by omega
        have HS := wall (show J = (nextC (withC c i.rd v), none) from by rw [HJ2.out, h, ldV_12_hi HY.out hgt hyb hv])
        have HVL := wall (show v < 4294967296 by omega)
        clear hj1 h hgt hv hyb
        have HCL := wall (fun W => show Calls Tryz.prog 184 #[.agg (crC c), .int .u8 (i.rd : Int), .int .u32 (v : Int)] W (CrOut (nextC (withC c i.rd v)) W) from rseti_any c HC.out i.rd v W HRD.out HVL.out)
        obtain ⟨D, D2, Z9, hD, HD2, HZ9, HR1, HR2⟩ := prep (c2 := nextC (withC c i.rd v)) HC.out ((HC.out.with i.rd v HVL.out).next)
        unfold CrOut at HCL
        rw [hD, HD2.out] at HCL
        have HKC := wall (show Blk _ w.heap.size 74 D by rw [← hD]; exact H5.out.c)
        clear hD
        go_wp2_with (refine wpList_load_row rfl 74 _ rfl w.heap.size rfl 74 D (0, 0) _ HKC.out Tryz.underlying74 rfl HR1.out ?_)
        (with_reducible refine (HCL.out _).mono ?_); rintro ee w97 ⟨rfl, hB97⟩
        have H97 := wall (H5.out.next hB97)
        have H97o := wall (show Blk w97 (w.heap.size + 2) 74 Z9 by rw [← HZ9.out]; exact H97.out.o)
        clear hB97 HCL HKC
        try simp only [Act.put, rpA, rpB, rpC]
        go_wp2_with (refine wpList_set_row rfl 74 (.tmp 6) (.tmp 84) rfl (w.heap.size + 2) D2 rfl rfl 74 Z9 H97o.out HR2.out.1 HR2.out.2.1 HR2.out.2.2 ?_; intro w99 K99 F99)
        have H99 := wall (Below.frm H97.out.bel F99.out (Nat.le_refl _) (by simp))
        go_light
        exact bodyPost_ret (v := .tuple #[.agg D2, .int .i64 (-1)]) (results_one_slot Tryz.results187 _ _ (w.heap.size + 2) 74 D2 _ (.int .i64 (-1)) rfl rfl K99.out Tryz.underlying74 rfl HR2.out.1) rfl ⟨by rw [show J.1 = nextC (withC c i.rd v) from by rw [HS.out], show J.2 = none from by rw [HS.out], HD2.out]; rfl, H99.out⟩
       ·have hgi : ¬ (32767 : Int) < (y : Int) := by omega
        have HS := wall (show J = (nextC (withC c i.rd y), none) from by rw [HJ2.out, h, ldV_12_lo HY.out (Nat.le_of_not_lt hgt)])
        clear hj1 h hgt hyb
        have HCL := wall (fun W => show Calls Tryz.prog 184 #[.agg (crC c), .int .u8 (i.rd : Int), .int .u32 (y : Int)] W (CrOut (nextC (withC c i.rd y)) W) from rseti_any c HC.out i.rd y W HRD.out HV.out)
        obtain ⟨D, D2, Z9, hD, HD2, HZ9, HR1, HR2⟩ := prep (c2 := nextC (withC c i.rd y)) HC.out ((HC.out.with i.rd y HV.out).next)
        unfold CrOut at HCL
        rw [hD, HD2.out] at HCL
        have HKC := wall (show Blk _ w.heap.size 74 D by rw [← hD]; exact H5.out.c)
        clear hD
        go_wp2_with (refine wpList_load_row rfl 74 _ rfl w.heap.size rfl 74 D (0, 0) _ HKC.out Tryz.underlying74 rfl HR1.out ?_)
        (with_reducible refine (HCL.out _).mono ?_); rintro ee w97 ⟨rfl, hB97⟩
        have H97 := wall (H5.out.next hB97)
        have H97o := wall (show Blk w97 (w.heap.size + 2) 74 Z9 by rw [← HZ9.out]; exact H97.out.o)
        clear hB97 HCL HKC
        try simp only [Act.put, rpA, rpB, rpC]
        go_wp2_with (refine wpList_set_row rfl 74 (.tmp 6) (.tmp 84) rfl (w.heap.size + 2) D2 rfl rfl 74 Z9 H97o.out HR2.out.1 HR2.out.2.1 HR2.out.2.2 ?_; intro w99 K99 F99)
        have H99 := wall (Below.frm H97.out.bel F99.out (Nat.le_refl _) (by simp))
        go_light
        exact bodyPost_ret (v := .tuple #[.agg D2, .int .i64 (-1)]) (results_one_slot Tryz.results187 _ _ (w.heap.size + 2) 74 D2 _ (.int .i64 (-1)) rfl rfl K99.out Tryz.underlying74 rfl HR2.out.1) rfl ⟨by rw [show J.1 = nextC (withC c i.rd y) from by rw [HS.out], show J.2 = none from by rw [HS.out], HD2.out]; rfl, H99.out⟩
      ·have kop : w4.cell? ⟨w.heap.size + 1, 0, none⟩ = some (.int .u8 13) := by have := H5.out.op; rw [h] at this; exact this
       have HS := wall (show J = (nextC (withC c i.rd y), none) from by rw [HJ2.out, h, ldV_13 HY.out HV.out])
       clear h
       have HCL := wall (fun W => show Calls Tryz.prog 184 #[.agg (crC c), .int .u8 (i.rd : Int), .int .u32 (y : Int)] W (CrOut (nextC (withC c i.rd y)) W) from rseti_any c HC.out i.rd y W HRD.out HV.out)
       obtain ⟨D, D2, Z9, hD, HD2, HZ9, HR1, HR2⟩ := prep (c2 := nextC (withC c i.rd y)) HC.out ((HC.out.with i.rd y HV.out).next)
       unfold CrOut at HCL
       rw [hD, HD2.out] at HCL
       have HKC := wall (show Blk _ w.heap.size 74 D by rw [← hD]; exact H5.out.c)
       clear hD
       go_wp2_with (refine wpList_load_row rfl 74 _ rfl w.heap.size rfl 74 D (0, 0) _ HKC.out Tryz.underlying74 rfl HR1.out ?_)
       (with_reducible refine (HCL.out _).mono ?_); rintro ee w97 ⟨rfl, hB97⟩
       have H97 := wall (H5.out.next hB97)
       have H97o := wall (show Blk w97 (w.heap.size + 2) 74 Z9 by rw [← HZ9.out]; exact H97.out.o)
       clear hB97 HCL HKC
       try simp only [Act.put, rpA, rpB, rpC]
       go_wp2_with (refine wpList_set_row rfl 74 (.tmp 6) (.tmp 84) rfl (w.heap.size + 2) D2 rfl rfl 74 Z9 H97o.out HR2.out.1 HR2.out.2.1 HR2.out.2.2 ?_; intro w99 K99 F99)
       have H99 := wall (Below.frm H97.out.bel F99.out (Nat.le_refl _) (by simp))
       go_light
       exact bodyPost_ret (v := .tuple #[.agg D2, .int .i64 (-1)]) (results_one_slot Tryz.results187 _ _ (w.heap.size + 2) 74 D2 _ (.int .i64 (-1)) rfl rfl K99.out Tryz.underlying74 rfl HR2.out.1) rfl ⟨by rw [show J.1 = nextC (withC c i.rd y) from by rw [HS.out], show J.2 = none from by rw [HS.out], HD2.out]; rfl, H99.out⟩
      ·have kop : w4.cell? ⟨w.heap.size + 1, 0, none⟩ = some (.int .u8 14) := by have := H5.out.op; rw [h] at this; exact this
       have HS := wall (show J = (nextC (withC c i.rd y), none) from by rw [HJ2.out, h, ldV_14 HY.out])
       clear h
       have HCL := wall (fun W => show Calls Tryz.prog 184 #[.agg (crC c), .int .u8 (i.rd : Int), .int .u32 (y : Int)] W (CrOut (nextC (withC c i.rd y)) W) from rseti_any c HC.out i.rd y W HRD.out HV.out)
       obtain ⟨D, D2, Z9, hD, HD2, HZ9, HR1, HR2⟩ := prep (c2 := nextC (withC c i.rd y)) HC.out ((HC.out.with i.rd y HV.out).next)
       unfold CrOut at HCL
       rw [hD, HD2.out] at HCL
       have HKC := wall (show Blk _ w.heap.size 74 D by rw [← hD]; exact H5.out.c)
       clear hD
       go_wp2_with (refine wpList_load_row rfl 74 _ rfl w.heap.size rfl 74 D (0, 0) _ HKC.out Tryz.underlying74 rfl HR1.out ?_)
       (with_reducible refine (HCL.out _).mono ?_); rintro ee w97 ⟨rfl, hB97⟩
       have H97 := wall (H5.out.next hB97)
       have H97o := wall (show Blk w97 (w.heap.size + 2) 74 Z9 by rw [← HZ9.out]; exact H97.out.o)
       clear hB97 HCL HKC
       try simp only [Act.put, rpA, rpB, rpC]
       go_wp2_with (refine wpList_set_row rfl 74 (.tmp 6) (.tmp 84) rfl (w.heap.size + 2) D2 rfl rfl 74 Z9 H97o.out HR2.out.1 HR2.out.2.1 HR2.out.2.2 ?_; intro w99 K99 F99)
       have H99 := wall (Below.frm H97.out.bel F99.out (Nat.le_refl _) (by simp))
       go_light
       exact bodyPost_ret (v := .tuple #[.agg D2, .int .i64 (-1)]) (results_one_slot Tryz.results187 _ _ (w.heap.size + 2) 74 D2 _ (.int .i64 (-1)) rfl rfl K99.out Tryz.underlying74 rfl HR2.out.1) rfl ⟨by rw [show J.1 = nextC (withC c i.rd y) from by rw [HS.out], show J.2 = none from by rw [HS.out], HD2.out]; rfl, H99.out⟩
      ·have kop : w4.cell? ⟨w.heap.size + 1, 0, none⟩ = some (.int .u8 15) := by have := H5.out.op; rw [h] at this; exact this
       have HS := wall (show J = (nextC (withC c i.rd y), none) from by rw [HJ2.out, h, ldV_15 HY.out])
       clear h
       have HCL := wall (fun W => show Calls Tryz.prog 184 #[.agg (crC c), .int .u8 (i.rd : Int), .int .u32 (y : Int)] W (CrOut (nextC (withC c i.rd y)) W) from rseti_any c HC.out i.rd y W HRD.out HV.out)
       obtain ⟨D, D2, Z9, hD, HD2, HZ9, HR1, HR2⟩ := prep (c2 := nextC (withC c i.rd y)) HC.out ((HC.out.with i.rd y HV.out).next)
       unfold CrOut at HCL
       rw [hD, HD2.out] at HCL
       have HKC := wall (show Blk _ w.heap.size 74 D by rw [← hD]; exact H5.out.c)
       clear hD
       go_wp2_with (refine wpList_load_row rfl 74 _ rfl w.heap.size rfl 74 D (0, 0) _ HKC.out Tryz.underlying74 rfl HR1.out ?_)
       (with_reducible refine (HCL.out _).mono ?_); rintro ee w97 ⟨rfl, hB97⟩
       have H97 := wall (H5.out.next hB97)
       have H97o := wall (show Blk w97 (w.heap.size + 2) 74 Z9 by rw [← HZ9.out]; exact H97.out.o)
       clear hB97 HCL HKC
       try simp only [Act.put, rpA, rpB, rpC]
       go_wp2_with (refine wpList_set_row rfl 74 (.tmp 6) (.tmp 84) rfl (w.heap.size + 2) D2 rfl rfl 74 Z9 H97o.out HR2.out.1 HR2.out.2.1 HR2.out.2.2 ?_; intro w99 K99 F99)
       have H99 := wall (Below.frm H97.out.bel F99.out (Nat.le_refl _) (by simp))
       go_light
       exact bodyPost_ret (v := .tuple #[.agg D2, .int .i64 (-1)]) (results_one_slot Tryz.results187 _ _ (w.heap.size + 2) 74 D2 _ (.int .i64 (-1)) rfl rfl K99.out Tryz.underlying74 rfl HR2.out.1) rfl ⟨by rw [show J.1 = nextC (withC c i.rd y) from by rw [HS.out], show J.2 = none from by rw [HS.out], HD2.out]; rfl, H99.out⟩
   ·have he' : (((R1 : Nat) : Int) != 0) = true := by rw [bne_iff_ne]; omega
    have HJ2 := wall (HJ1.out.trans (if_pos (by simpa using he)))
    clear HJ1 he HLN
    have HCL := wall (fun W => show Calls Tryz.prog 100 #[.agg (crC c), .int .u32 5, .int .u32 (z : Int)] W (CrOut (trapC c 5 z) W) from rtrap_any c HC.out 5 z W (by decide) HZL.out)
    obtain ⟨D, D2, Z9, hD, HD2, HZ9, HR1, HR2⟩ := prep (c2 := trapC c 5 z) HC.out (Cr.Ok.trap HC.out (by decide) HZL.out)
    unfold CrOut at HCL
    rw [hD, HD2.out] at HCL
    have HKC := wall (show Blk _ w.heap.size 74 D by rw [← hD]; exact H5.out.c)
    clear hD
    go_wp2_with (refine wpList_load_row rfl 74 _ rfl w.heap.size rfl 74 D (0, 0) _ HKC.out Tryz.underlying74 rfl HR1.out ?_)
    (with_reducible refine (HCL.out _).mono ?_); rintro ee w97 ⟨rfl, hB97⟩
    have H97 := wall (H5.out.next hB97)
    have H97o := wall (show Blk w97 (w.heap.size + 2) 74 Z9 by rw [← HZ9.out]; exact H97.out.o)
    clear hB97 HCL HKC
    try simp only [Act.put, rpA, rpB, rpC]
    go_wp2_with (refine wpList_set_row rfl 74 (.tmp 6) (.tmp 47) rfl (w.heap.size + 2) D2 rfl rfl 74 Z9 H97o.out HR2.out.1 HR2.out.2.1 HR2.out.2.2 ?_; intro w99 K99 F99)
    have H99 := wall (Below.frm H97.out.bel F99.out (Nat.le_refl _) (by simp))
    go_light
    exact bodyPost_ret (v := .tuple #[.agg D2, .int .i64 5]) (results_one_slot Tryz.results187 _ _ (w.heap.size + 2) 74 D2 _ (.int .i64 5) rfl rfl K99.out Tryz.underlying74 rfl HR2.out.1) rfl ⟨by rw [show J.1 = trapC c 5 z from by rw [HJ2.out]; rfl, show J.2 = some 5 from by rw [HJ2.out]; rfl, HD2.out]; rfl, H99.out⟩
  ·have hb0 : ((qq : Int) != 0) = true := by rw [bne_iff_ne]; omega
   have HJ2 := wall (HJ.out.trans (if_pos (by simpa using h0)))
   have H5 := wall H3.out
   clear HJ h0 H3
   have HCL := wall (fun W => show Calls Tryz.prog 100 #[.agg (crC c), .int .u32 4, .int .u32 (z : Int)] W (CrOut (trapC c 4 z) W) from rtrap_any c HC.out 4 z W (by decide) HZL.out)
   obtain ⟨D, D2, Z9, hD, HD2, HZ9, HR1, HR2⟩ := prep (c2 := trapC c 4 z) HC.out (Cr.Ok.trap HC.out (by decide) HZL.out)
   unfold CrOut at HCL
   rw [hD, HD2.out] at HCL
   have HKC := wall (show Blk _ w.heap.size 74 D by rw [← hD]; exact H5.out.c)
   clear hD
   go_wp2_with (refine wpList_load_row rfl 74 _ rfl w.heap.size rfl 74 D (0, 0) _ HKC.out Tryz.underlying74 rfl HR1.out ?_)
   (with_reducible refine (HCL.out _).mono ?_); rintro ee w97 ⟨rfl, hB97⟩
   have H97 := wall (H5.out.next hB97)
   have H97o := wall (show Blk w97 (w.heap.size + 2) 74 Z9 by rw [← HZ9.out]; exact H97.out.o)
   clear hB97 HCL HKC
   try simp only [Act.put, rpA, rpB, rpC]
   go_wp2_with (refine wpList_set_row rfl 74 (.tmp 6) (.tmp 35) rfl (w.heap.size + 2) D2 rfl rfl 74 Z9 H97o.out HR2.out.1 HR2.out.2.1 HR2.out.2.2 ?_; intro w99 K99 F99)
   have H99 := wall (Below.frm H97.out.bel F99.out (Nat.le_refl _) (by simp))
   go_light
   exact bodyPost_ret (v := .tuple #[.agg D2, .int .i64 4]) (results_one_slot Tryz.results187 _ _ (w.heap.size + 2) 74 D2 _ (.int .i64 4) rfl rfl K99.out Tryz.underlying74 rfl HR2.out.1) rfl ⟨by rw [show J.1 = trapC c 4 z from by rw [HJ2.out]; rfl, show J.2 = some 4 from by rw [HJ2.out]; rfl, HD2.out]; rfl, H99.out⟩
def RresO (m b1 b2 b3 b4 b5 : Nat) (st : Int) (F l5 : List Nat) (R : Res) (w : World) (e : Ending) (w' : World) : Prop :=
 e = .returned (.tuple #[.agg (crC R.c), .int .i64 (cz R.t)]) ∧ Mf w' m b1 b2 b3 b4 b5 st (R.v.ram.take 4096) (R.v.ram.drop 4096) F R.v.prt l5 ∧ Frm [b1, b2, b4] w w'
structure Rj (w w' : World) (c : Cr) (i : In) : Prop where
 c : Blk w' w.heap.size 74 (crC c)
 i : Blk w' (w.heap.size + 1) 212 (inC i)
 o : Blk w' (w.heap.size + 2) 74 (crC crZ)
theorem Ri.rj {w w' : World} {c : Cr} {i : In} (h : Ri w w' c i) : Rj w w' c i := ⟨h.c, h.i, h.o⟩
theorem Rj.next {w w' w'' : World} {c : Cr} {i : In} (h : Rj w w' c i) (hb : Below w'.heap.size w' w'') : Rj w w'' c i := ⟨h.c.next hb rfl, h.i.next hb rfl, h.o.next hb rfl⟩
theorem Rj.frm {w w' w'' : World} {c : Cr} {i : In} {S : List Nat} (h : Rj w w' c i) (hf : Frm S w' w'') (hS : ∀ x ∈ S, x < w.heap.size) : Rj w w'' c i :=
 ⟨h.c.frm hf (fun hx => by have := hS _ hx; omega), h.i.frm hf (fun hx => by have := hS _ hx; omega), h.o.frm hf (fun hx => by have := hS _ hx; omega)⟩
theorem Mf.lts {w : World} {m b1 b2 b3 b4 b5 : Nat} {st : Int} {l1 l2 l3 l4 l5 : List Nat} (h : Mf w m b1 b2 b3 b4 b5 st l1 l2 l3 l4 l5) : m < w.heap.size ∧ b1 < w.heap.size ∧ b2 < w.heap.size ∧ b3 < w.heap.size ∧ b4 < w.heap.size ∧ b5 < w.heap.size := ⟨h.k.lt, h.k1.lt, h.k2.lt, h.k3.lt, h.k4.lt, h.k5.lt⟩
theorem byL_at {x n j : Nat} (hn : n ≤ 4) (hj : j < n) : (byL x n)[j]? = some (x / 256 ^ j % 256) := by
 unfold byL
 rw [List.getElem?_take_of_lt hj]
 have hc : j = 0 ∨ j = 1 ∨ j = 2 ∨ j = 3 := by omega
 rcases hc with rfl | rfl | rfl | rfl
 ·simp
 ·simp
 ·simp
 ·simp
theorem rstorec_any (c : Cr) (hc : c.Ok) (i : In) {m b1 b2 b3 b4 b5 : Nat} (u : SpV) (hu : u.Ok) (F l5 : List Nat) (w : World) (hid : InD i) (hop : 16 ≤ i.op ∧ i.op ≤ 18) (hst : u.st = 1 ∨ u.st = 2) (hM : Mf w m b1 b2 b3 b4 b5 u.st (u.ram.take 4096) (u.ram.drop 4096) F u.prt l5) :
  Calls Tryz.prog 188 #[.agg (crC c), .pointer (some ⟨m, 0, none⟩), .agg (inC i)] w (RresO m b1 b2 b3 b4 b5 u.st F l5 (storeR u c i) w) := by
 have HM := wall hM
 have HU := wall hu
 have HST := wall hst
 have HOP := wall hop
 have HLS := wall hM.lts
 obtain ⟨J, hJ⟩ : ∃ J, storeR u c i = J := ⟨_, rfl⟩
 rw [hJ]
 have HJ := wall hJ.symm
 unfold storeR at HJ
 clear hM hJ hop hst hu
 have HC := wall hc
 have HID := wall hid
 have HF := wall (Ri.new w c i)
 have HZ := wall ref_zero
 obtain ⟨C, hC⟩ : ∃ y, crC c = y := ⟨_, rfl⟩
 obtain ⟨I, hI⟩ : ∃ y, inC i = y := ⟨_, rfl⟩
 obtain ⟨Z, hZ⟩ : ∃ y, crC crZ = y := ⟨_, rfl⟩
 rw [hC, hI, hZ] at HF
 rw [hZ] at HZ
 rw [hC, hI]
 clear hc hid hC hI hZ
 go_enter Tryz.func188, Tryz.ntmps188
 go_upto_region 1 with (first | refine Big.wpList_alloc_at rfl 74 rfl Z HZ.out (w.heap.size + 2) (by simp) ?_)
 try simp only [Act.put, rpA, rpB, rpC]
 refine wp_ri w c i HF.out ?_
 intro w1 h1
 have H1 := wall h1
 clear h1 HF
 have ka := H1.out.a
 have km := H1.out.imm
 have kxa := H1.out.cell HC.out (show i.a < 41 by have := HID.out.a; omega)
 have ha32 : i.a < 32 := HID.out.a
 have hl0 : w.heap.size < w1.heap.size := H1.out.c.lt
 have hl1 : w.heap.size + 1 < w1.heap.size := H1.out.i.lt
 obtain ⟨xa, hxa⟩ : ∃ y, c.g i.a = y := ⟨_, rfl⟩
 obtain ⟨z, hze⟩ : ∃ z, atN c i = z := ⟨_, rfl⟩
 have hz : ((xa : Int) + (i.imm : Int)) % 4294967296 = (z : Int) := by rw [← hze, ← hxa]; unfold atN; omega
 have HZL := wall (show z < 4294967296 by rw [← hze]; exact atN_lt c i)
 rw [hxa] at kxa
 rw [hze] at HJ
 clear hze hxa
 go_wp2_with fail
 refine RelG.wp_region_rel 9 [] (by kernel_rfl) (by kernel_rfl) ?_
 simp only [List.take_succ_cons, List.take_zero, List.drop_succ_cons, List.drop_zero, Act.put, rpA, rpB, rpC]
 repeat (first | (refine RelG.tree_quiet rfl rfl rfl (fun K hK => ?_); go_big_quiet_op; refine hK _ ?_; clear hK K) | ((first | refine RelG.tree_pure rfl rfl rfl (.int .u8 (i.a : Int)) (fun W hW _ => Rel.exec_load1 _ _ rfl (w.heap.size + 1) (2) rfl _ (fun _ => by kernel_rfl) ((hW.undrew.cell (p := ⟨w.heap.size + 1, 2, none⟩) hl1).trans ka)) ?_ | refine RelG.tree_pure rfl rfl rfl (.int .u32 ((xa : Nat) : Int)) (fun W hW _ => Rel.exec_load1 _ _ rfl (w.heap.size) (i.a) rfl _ (fun _ => by kernel_rfl) ((hW.undrew.cell (p := ⟨w.heap.size, i.a, none⟩) hl0).trans kxa)) ?_ | refine RelG.tree_pure rfl rfl rfl (.int .u32 (i.imm : Int)) (fun W hW _ => Rel.exec_load1 _ _ rfl (w.heap.size + 1) (4) rfl _ (fun _ => by kernel_rfl) ((hW.undrew.cell (p := ⟨w.heap.size + 1, 4, none⟩) hl1).trans km)) ?_); simp only [Act.put, rpA, rpB, rpC]))
 intro W2 hW2 _
 have HB12 := wall hW2.undrew
 have H2 := wall (H1.out.next hW2.undrew)
 obtain ⟨w2, rfl⟩ : ∃ y : World, y = W2 := ⟨_, rfl⟩
 clear hW2 ka km kxa ha32 hl0 hl1 H1
 go_upto_region 2 with fail
 have HOPC := wall (show i.op = 16 ∨ i.op = 17 ∨ i.op = 18 from by have := HOP.out; omega)
 go_cut [9] (fun s9 w' => s9 = .int .i64 ((szN i.op : Nat) : Int) ∧ Wall (Ri w w' c i ∧ Below w1.heap.size w1 w'))
 case first =>
  have kop := H2.out.op
  have hl1 : w.heap.size + 1 < w2.heap.size := H2.out.i.lt
  have HBL := wall (fun cs t => show Ri w (w2.alloc (.cells cs t)) c i ∧ Below w1.heap.size w1 (w2.alloc (.cells cs t)) from ⟨H2.out.next ((Below.refl _ _).alloc (Nat.le_refl _) _), below_then HB12.out ((Below.refl _ _).alloc (Nat.le_refl _) _) (Nat.le_refl _)⟩)
  rcases HOPC.out with h | h | h
  ·have hs : szN i.op = 1 := by rw [h]; rfl
   rw [h] at kop
   have HS := wall hs
   clear h hs
   go_wp2_with fail
   go_meet
   exact ⟨by rw [HS.out]; rfl, wall (HBL.out _ _)⟩
  ·have hs : szN i.op = 2 := by rw [h]; rfl
   rw [h] at kop
   have HS := wall hs
   clear h hs
   go_wp2_with fail
   go_meet
   exact ⟨by rw [HS.out]; rfl, wall (HBL.out _ _)⟩
  ·have hs : szN i.op = 4 := by rw [h]; rfl
   rw [h] at kop
   have HS := wall hs
   clear h hs
   go_wp2_with fail
   go_meet
   exact ⟨by rw [HS.out]; rfl, wall (HBL.out _ _)⟩
 case rest =>
  obtain ⟨rfl, hR⟩ := hcut
  obtain ⟨w3, rfl⟩ : ∃ wo : World, wo = wc := ⟨_, rfl⟩
  have H3 := wall hR.out.1
  have HM3 := wall (HM.out.old (below_then (Below.refl _ w) hR.out.1.bel (Nat.le_refl _)))
  clear hR H2 HB12
  have HNC := wall (szN_cases i.op)
  obtain ⟨n, hn⟩ : ∃ n, szN i.op = n := ⟨_, rfl⟩
  rw [hn] at HJ HNC
  rw [hn]
  rw [hz]
  clear hz
  have hzi : (z : Int) < 4294967296 := by have := HZL.out; omega
  have HN4 := wall (show n ≤ 4 from by have := HNC.out; omega)
  have hq : Int.tmod (z : Int) (n : Int) = ((z % n : Nat) : Int) := by rw [Int.tmod_eq_emod_of_nonneg (by omega)]; simp
  have hn0 : (n : Int) ≠ 0 := by have := HNC.out; omega
  obtain ⟨qq, hqe⟩ : ∃ y, z % n = y := ⟨_, rfl⟩
  rw [hqe] at HJ hq
  clear hn hqe
  by_cases h0 : qq = 0
  ·have hb0 : ((qq : Int) != 0) = false := by rw [h0]; rfl
   have HJ1 := wall (HJ.out.trans (if_neg (by simpa using h0)))
   have kb := H3.out.b
   have kxb := H3.out.cell HC.out (show i.b < 41 by have := HID.out.b; omega)
   have hb32 : (i.b : Int) < 32 := by have := HID.out.b; omega
   obtain ⟨xb, hxb⟩ : ∃ y, c.g i.b = y := ⟨_, rfl⟩
   rw [hxb] at kxb HJ1
   have HXB := wall (show xb < 4294967296 by rw [← hxb]; exact HC.out.g i.b)
   clear HJ h0 hxb
   go_wp2_with fail
   obtain ⟨i0, hi0, hz0, hz1, hz2⟩ := info_row u8_info
   have HI := Lib.hid hi0
   have HI1 := Lib.hid hz0
   have HI2 := Lib.hid hz1
   have HI3 := Lib.hid hz2
   clear hi0 hz0 hz1 hz2 kb kxb hb32 hq hb0 hn0
   go_loopg [10, 11, 12] n (fun gg s10 s11 s12 wr => ∃ j : Nat, j + gg = n ∧ s12 = .int .i64 (j : Int) ∧ s10 = .int .u32 ((xb / 256 ^ j : Nat) : Int) ∧ Wall (OwnB wr w3.heap.size s11 ((byL xb n).take j)) ∧ Wall (Below w3.heap.size w3 wr))
   case atStart => exact ⟨0, by omega, rfl, by simp, wall (World.ownsRow_nil _ _ _ _), wall (Below.refl _ _)⟩
   case round =>
    obtain ⟨j, hg, rfl, rfl, HO, HR⟩ := hrel
    have HG := wall hg
    have hj : j ≤ n := by omega
    have hwl : w3.heap.size ≤ wr.heap.size := HR.out.size
    clear hg
    by_cases hlt : j < n
    ·have hlt' : (j : Int) < (n : Int) := by omega
     have hlen : ((byL xb n).take j).length = j := by rw [List.length_take, byL_len xb HN4.out]; omega
     have HT := wall (take_snoc (byL_at (x := xb) HN4.out hlt))
     have HY := wall (show xb / 256 ^ (j + 1) = xb / 256 ^ j / 256 by rw [Nat.pow_succ, Nat.div_div_eq_div_mul])
     have HL := wall hlen
     have hyl : xb / 256 ^ j ≤ xb := Nat.div_le_self _ _
     obtain ⟨y, hy⟩ : ∃ y, xb / 256 ^ j = y := ⟨_, rfl⟩
     rw [hy] at HT HY hyl ⊢
     have hyi : (y : Int) < 4294967296 := by have := HXB.out; omega
     obtain ⟨b, hb⟩ : ∃ b, y % 256 = b := ⟨_, rfl⟩
     rw [hb] at HT
     have hbi : (y : Int) % 256 = (b : Int) := by omega
     have hb8 : (b : Int) < 256 := by omega
     have HB8 := wall (show b < 256 by omega)
     have hn4 : n ≤ 4 := HN4.out
     clear hy hb
     go_wp2_with (at_builtin; refine wpList_append_own _ rfl (.tmp 45) (.tmp 49) 24 rfl w3.heap.size 5 i0 (.int .u8 0) 1 1 Tryz.underlying24 HI.out HI1.out HI2.out HI3.out rfl (by decide) _ _ _ rfl (HO.out.alloc _) ⟨wr.heap.size, 0, none⟩ 1 1 [.int .u8 (b : Int)] rfl rfl ?c1 ?c2 ?c3 ?c4 ?c5 ?_)
     case c1 =>
      have h1 := cell_one_new wr (.int .u8 (b : Int)) 5
      simpa using h1
     case c2 => intro u hu; simp at hu; subst hu; rfl
     case c3 => rw [hlen]; simp only [maxLen]; omega
     case c4 => rw [hlen]; omega
     case c5 => simp; omega
     ·intro v1 w5 hO1 hg1 _
      have hB1 := (HR.out.alloc hwl (.cells #[.int .u8 (b : Int)] 5)).grown hg1 (by simp; omega) (fun k hk => (World.ownsRow.lt HO.out k hk).1)
      have HO1 := wall hO1
      have HB1 := wall hB1
      clear hO1 hB1 hg1
      go_wp2_with fail
      go_light
      go_roundg (n - (j + 1))
      case measure => have := HG.out; omega
      case rel =>
       refine ⟨j + 1, by have := HG.out; omega, by go_num, by rw [HY.out]; first | (simp; done) | (congr 1; omega) | (simp; omega), wall ?_, HB1⟩
       have h2 := HO1.out
       unfold OwnB
       rw [HT.out, List.length_append, List.map_append, HL.out]
       simpa [List.map_take] using h2
    ·obtain rfl : j = n := by omega
     have hlt' : ¬ (j : Int) < (j : Int) := by omega
     clear hlt hj HG hwl
     have h1 := HO.out
     rw [List.take_of_length_le (by rw [byL_len xb HN4.out]; exact Nat.le_refl _)] at h1
     obtain ⟨A, cA, rfl, hlc, hPN, hAB⟩ := own_nats h1 (byL_lt xb j)
     rw [byL_len xb HN4.out]
     have HPN := wall hPN
     have HAB := wall (fun ad h => Nat.le_trans H3.out.bel.size (hAB ad h))
     have HMR := wall (HM3.out.old HR.out)
     have HRG := wall (show (wth 1 u.st z j true).2.2 = 0 → (wth 1 u.st z j true).1 = 1 ∨ (wth 1 u.st z j true).1 = 2 ∨ (wth 1 u.st z j true).1 = 4 from by
      rcases HST.out with h | h
      ·rw [h]; exact core_reg z j 1 (.inl rfl)
      ·rw [h]; exact core_reg z j 2 (.inr rfl))
     have HRS := wall (rstore_any u HU.out F l5 1 (z : Int) z A j cA (byL xb j) wr HMR.out rfl (by have := HZL.out; omega) (byL_len xb HN4.out) (by have := HN4.out; omega) HPN.out (fun ad h => by
      have h2 := HAB.out ad h
      have h3 := HLS.out
      simp
      omega) HRG.out)
     unfold RstOut at HRS
     have HR3 := wall (H3.out.next HR.out)
     have HFR := wall (show Frm [b1, b2, b4] w wr from Frm.of_below HR3.out.bel)
     clear h1 hlc hPN hAB HO H3 HM3 HR HPN HAB HI HI1 HI2 HI3
     obtain ⟨⟨S1, S2⟩, hS⟩ : ∃ S, stR u 1 z (byL xb j) = S := ⟨_, rfl⟩
     have HSE := wall hS
     rw [hS] at HRS HJ1
     simp only at HRS HJ1
     clear hS
     go_wp2_with fail
     (with_reducible refine (HRS.out).mono ?_); rintro e w4 ⟨rfl, hM4, hF4⟩
     have HMX := wall hM4
     have H5 := wall (HR3.out.rj.frm hF4 (by have := HLS.out; intro x hx; simp at hx; omega))
     have HFM := wall (HFR.out.trans hF4)
     clear hM4 hF4 HRS HR3 HFR HMR
     try simp only [Act.put, rpA, rpB, rpC]
     by_cases he : S1 = 0
     ·have he' : (((S1 : Nat) : Int) != 0) = false := by rw [he]; rfl
      have HJ2 := wall (HJ1.out.trans (if_neg (by simpa using he)))
      clear HJ1 he
      have HCL := wall (fun W => show Calls Tryz.prog 184 #[.agg (crC c), .int .u8 0, .int .u32 0] W (CrOut (nextC c) W) from rseti_any c HC.out 0 0 W (by decide) (by decide))
      unfold CrOut at HCL
      have HR1 := wall (rrow HC.out)
      have HR2 := wall (rrow (c := nextC c) (HC.out.next))
      have HKC := wall (show Blk _ w.heap.size 74 (crC c) from H5.out.c)
      obtain ⟨D, hD⟩ : ∃ y, crC c = y := ⟨_, rfl⟩
      obtain ⟨D2, hD2⟩ : ∃ y9, crC (nextC c) = y9 := ⟨_, rfl⟩
      obtain ⟨Z9, hZ9⟩ : ∃ y, crC crZ = y := ⟨_, rfl⟩
      have HD2 := wall hD2
      have HZ9 := wall hZ9
      rw [hD] at HCL HKC HR1
      rw [hD2] at HCL HR2
      rw [hZ9] at HR2
      clear hD hD2 hZ9
      go_wp2_with (refine wpList_load_row rfl 74 _ rfl w.heap.size rfl 74 D (0, 0) _ HKC.out Tryz.underlying74 rfl HR1.out.1 ?_)
      (with_reducible refine (HCL.out _).mono ?_); rintro ee w97 ⟨rfl, hB97⟩
      have H97 := wall (H5.out.next hB97)
      have H97o := wall (show Blk w97 (w.heap.size + 2) 74 Z9 by rw [← HZ9.out]; exact H97.out.o)
      have HM97 := wall (HMX.out.old hB97)
      have HF97 := wall (HFM.out.trans (Frm.of_below hB97))
      clear hB97 HCL HKC
      try simp only [Act.put, rpA, rpB, rpC]
      go_wp2_with (refine wpList_set_row rfl 74 (.tmp 6) (.tmp 62) rfl (w.heap.size + 2) D2 rfl rfl 74 Z9 H97o.out HR2.out.1 HR2.out.2.1 HR2.out.2.2 ?_; intro w99 K99 F99)
      have HM99 := wall (by
       have h := HLS.out
       exact HM97.out.frm F99.out (by simp; omega) (by simp; omega) (by simp; omega) (by simp; omega) (by simp; omega) (by simp; omega))
      have HF99 := wall (HF97.out.trans' F99.out (by intro x hx; simp at hx; omega))
      go_light
      exact bodyPost_ret (v := .tuple #[.agg D2, .int .i64 (-1)]) (results_one_slot Tryz.results188 _ _ (w.heap.size + 2) 74 D2 _ (.int .i64 (-1)) rfl rfl K99.out Tryz.underlying74 rfl HR2.out.1) rfl (by rw [HJ2.out]; exact ⟨by rw [← HD2.out]; rfl, HM99.out, HF99.out⟩)
     ·have he' : (((S1 : Nat) : Int) != 0) = true := by rw [bne_iff_ne]; omega
      have HJ2 := wall (HJ1.out.trans (if_pos (by simpa using he)))
      clear HJ1
      have HS2 := wall (show S2 = u from by have h := st_err u 1 z (byL xb j); rw [HSE.out] at h; exact h he)
      rw [HS2.out] at HMX
      have HCL := wall (fun W => show Calls Tryz.prog 100 #[.agg (crC c), .int .u32 7, .int .u32 (z : Int)] W (CrOut (trapC c 7 z) W) from rtrap_any c HC.out 7 z W (by decide) HZL.out)
      unfold CrOut at HCL
      have HR1 := wall (rrow HC.out)
      have HR2 := wall (rrow (c := trapC c 7 z) (Cr.Ok.trap HC.out (by decide) HZL.out))
      have HKC := wall (show Blk _ w.heap.size 74 (crC c) from H5.out.c)
      obtain ⟨D, hD⟩ : ∃ y, crC c = y := ⟨_, rfl⟩
      obtain ⟨D2, hD2⟩ : ∃ y9, crC (trapC c 7 z) = y9 := ⟨_, rfl⟩
      obtain ⟨Z9, hZ9⟩ : ∃ y, crC crZ = y := ⟨_, rfl⟩
      have HD2 := wall hD2
      have HZ9 := wall hZ9
      rw [hD] at HCL HKC HR1
      rw [hD2] at HCL HR2
      rw [hZ9] at HR2
      clear hD hD2 hZ9
      go_wp2_with (refine wpList_load_row rfl 74 _ rfl w.heap.size rfl 74 D (0, 0) _ HKC.out Tryz.underlying74 rfl HR1.out.1 ?_)
      (with_reducible refine (HCL.out _).mono ?_); rintro ee w97 ⟨rfl, hB97⟩
      have H97 := wall (H5.out.next hB97)
      have H97o := wall (show Blk w97 (w.heap.size + 2) 74 Z9 by rw [← HZ9.out]; exact H97.out.o)
      have HM97 := wall (HMX.out.old hB97)
      have HF97 := wall (HFM.out.trans (Frm.of_below hB97))
      clear hB97 HCL HKC
      try simp only [Act.put, rpA, rpB, rpC]
      go_wp2_with (refine wpList_set_row rfl 74 (.tmp 6) (.tmp 60) rfl (w.heap.size + 2) D2 rfl rfl 74 Z9 H97o.out HR2.out.1 HR2.out.2.1 HR2.out.2.2 ?_; intro w99 K99 F99)
      have HM99 := wall (by
       have h := HLS.out
       exact HM97.out.frm F99.out (by simp; omega) (by simp; omega) (by simp; omega) (by simp; omega) (by simp; omega) (by simp; omega))
      have HF99 := wall (HF97.out.trans' F99.out (by intro x hx; simp at hx; omega))
      go_light
      exact bodyPost_ret (v := .tuple #[.agg D2, .int .i64 7]) (results_one_slot Tryz.results188 _ _ (w.heap.size + 2) 74 D2 _ (.int .i64 7) rfl rfl K99.out Tryz.underlying74 rfl HR2.out.1) rfl (by rw [HJ2.out]; exact ⟨by rw [← HD2.out]; rfl, HM99.out, HF99.out⟩)
  ·have hb0 : ((qq : Int) != 0) = true := by rw [bne_iff_ne]; omega
   have HJ2 := wall (HJ.out.trans (if_pos (by simpa using h0)))
   have H5 := wall H3.out.rj
   have HMX := HM3
   have HFM := wall (show Frm [b1, b2, b4] w w3 from Frm.of_below H3.out.bel)
   clear HJ h0 H3
   have HCL := wall (fun W => show Calls Tryz.prog 100 #[.agg (crC c), .int .u32 6, .int .u32 (z : Int)] W (CrOut (trapC c 6 z) W) from rtrap_any c HC.out 6 z W (by decide) HZL.out)
   unfold CrOut at HCL
   have HR1 := wall (rrow HC.out)
   have HR2 := wall (rrow (c := trapC c 6 z) (Cr.Ok.trap HC.out (by decide) HZL.out))
   have HKC := wall (show Blk _ w.heap.size 74 (crC c) from H5.out.c)
   obtain ⟨D, hD⟩ : ∃ y, crC c = y := ⟨_, rfl⟩
   obtain ⟨D2, hD2⟩ : ∃ y9, crC (trapC c 6 z) = y9 := ⟨_, rfl⟩
   obtain ⟨Z9, hZ9⟩ : ∃ y, crC crZ = y := ⟨_, rfl⟩
   have HD2 := wall hD2
   have HZ9 := wall hZ9
   rw [hD] at HCL HKC HR1
   rw [hD2] at HCL HR2
   rw [hZ9] at HR2
   clear hD hD2 hZ9
   go_wp2_with (refine wpList_load_row rfl 74 _ rfl w.heap.size rfl 74 D (0, 0) _ HKC.out Tryz.underlying74 rfl HR1.out.1 ?_)
   (with_reducible refine (HCL.out _).mono ?_); rintro ee w97 ⟨rfl, hB97⟩
   have H97 := wall (H5.out.next hB97)
   have H97o := wall (show Blk w97 (w.heap.size + 2) 74 Z9 by rw [← HZ9.out]; exact H97.out.o)
   have HM97 := wall (HMX.out.old hB97)
   have HF97 := wall (HFM.out.trans (Frm.of_below hB97))
   clear hB97 HCL HKC
   try simp only [Act.put, rpA, rpB, rpC]
   go_wp2_with (refine wpList_set_row rfl 74 (.tmp 6) (.tmp 34) rfl (w.heap.size + 2) D2 rfl rfl 74 Z9 H97o.out HR2.out.1 HR2.out.2.1 HR2.out.2.2 ?_; intro w99 K99 F99)
   have HM99 := wall (by
    have h := HLS.out
    exact HM97.out.frm F99.out (by simp; omega) (by simp; omega) (by simp; omega) (by simp; omega) (by simp; omega) (by simp; omega))
   have HF99 := wall (HF97.out.trans' F99.out (by intro x hx; simp at hx; omega))
   go_light
   exact bodyPost_ret (v := .tuple #[.agg D2, .int .i64 6]) (results_one_slot Tryz.results188 _ _ (w.heap.size + 2) 74 D2 _ (.int .i64 6) rfl rfl K99.out Tryz.underlying74 rfl HR2.out.1) rfl (by rw [HJ2.out]; exact ⟨by rw [← HD2.out]; rfl, HM99.out, HF99.out⟩)
theorem g_set_self {c : Cr} {i v : Nat} (h : i < c.l.length) : (c.set i v).g i = v := by
 unfold Cr.g Cr.set
 simp [List.getD_eq_getElem?_getD, h]
theorem csrEnd_cy (c : Cr) (i : In) (old : Nat) (h : c.g 40 < 4294967296) (hl : c.l.length = 41) : csrEnd c i old true = (nextC (withC c i.rd old)).set 40 (c.g 40) := by
 unfold csrEnd
 rw [if_pos rfl]
 have e : (nextC (withC c i.rd old)).g 40 = (c.g 40 + 1) % 4294967296 := by
  have e1 : nextC (withC c i.rd old) = ((withC c i.rd old).set 32 (((withC c i.rd old).g 32 + 4) % 4294967296)).set 40 (((withC c i.rd old).g 40 + 1) % 4294967296) := rfl
  rw [e1, withC_g (i := 40) (by decide)]
  exact g_set_self (by unfold withC Cr.set; split <;> simp [hl])
 rw [e, show ((c.g 40 + 1) % 4294967296 + 4294967295) % 4294967296 = c.g 40 by omega]
theorem csrEnd_no (c : Cr) (i : In) (old : Nat) : csrEnd c i old false = nextC (withC c i.rd old) := by
 unfold csrEnd
 rw [if_neg (by decide)]
theorem csrW0 {op v old k : Nat} (hk : op = 43 + k) (hl : k < 6) (h : k % 3 = 0) : csrW op v old = v := by
 unfold csrW
 rw [if_pos (by omega)]
theorem csrW1 {op v old k : Nat} (hk : op = 43 + k) (hl : k < 6) (h : k % 3 = 1) : csrW op v old = v ||| old := by
 unfold csrW
 rw [if_neg (by omega), if_pos (by omega)]
theorem csrW2 {op v old k : Nat} (hk : op = 43 + k) (hl : k < 6) (h : k % 3 = 2) : csrW op v old = old - (old &&& v) := by
 unfold csrW
 rw [if_neg (by omega), if_neg (by omega)]
theorem rcsr_any (c : Cr) (hc : c.Ok) (i : In) (v : Nat) (w : World) (hid : InD i) (hv : v < 4294967296) (h43 : 43 ≤ i.op) (h48 : i.op ≤ 48) :
  Calls Tryz.prog 189 #[.agg (crC c), .agg (inC i), .int .u32 (v : Int)] w (PairO (csrR c i v) w) := by
 have HV := wall hv
 obtain ⟨J, hJ⟩ : ∃ J, csrR c i v = J := ⟨_, rfl⟩
 rw [hJ]
 have HJ := wall hJ.symm
 unfold csrR at HJ
 have HGE := wall (fun W => rget_any c hc i.csr W)
 have HGL := wall (csrG_lt hc i.csr)
 obtain ⟨k, hk⟩ : ∃ k, i.op = 43 + k := ⟨i.op - 43, by omega⟩
 have HKK := wall (And.intro hk (show k < 6 by omega))
 obtain ⟨nb, hnb⟩ : ∃ b : Bool, (if 46 ≤ i.op then decide (i.imm = 0) else decide (i.a = 0)) = b := ⟨_, rfl⟩
 have HNB := wall hnb
 have HH := wall (show csrHas i = (decide (k % 3 = 0) || !nb) from by
  rw [← hnb]
  unfold csrHas
  rw [show (decide (i.op = 43 ∨ i.op = 46)) = decide (k % 3 = 0) from decide_eq_decide.2 (by omega)]
  congr 1
  split <;> simp)
 obtain ⟨x, hx⟩ : ∃ x, csrIn c i = x := ⟨_, rfl⟩
 have HX := wall hx
 have HXL := wall (show x < 4294967296 by rw [← hx]; exact csrIn_lt hc hid)
 rw [hx, HH.out] at HJ
 clear hJ hv h43 h48 hk hnb hx HH
 have HC := wall hc
 have HID := wall hid
 have HF := wall (Ri.new w c i)
 have HZ := wall ref_zero
 obtain ⟨C, hC⟩ : ∃ y, crC c = y := ⟨_, rfl⟩
 obtain ⟨I, hI⟩ : ∃ y, inC i = y := ⟨_, rfl⟩
 obtain ⟨Z, hZ⟩ : ∃ y, crC crZ = y := ⟨_, rfl⟩
 rw [hC, hI, hZ] at HF
 rw [hZ] at HZ
 rw [hC, hI]
 clear hc hid hC hI hZ
 go_enter Tryz.func189, Tryz.ntmps189
 go_upto_region 1 with (first | refine Big.wpList_alloc_at rfl 74 rfl Z HZ.out (w.heap.size + 2) (by simp) ?_)
 try simp only [Act.put, rpA, rpB, rpC]
 refine wp_ri w c i HF.out ?_
 intro w1 h1
 have H1 := wall h1
 clear h1 HF
 obtain ⟨cs, hcs⟩ : ∃ y, i.csr = y := ⟨_, rfl⟩
 have HCS := wall hcs
 rw [hcs] at HGE HGL HJ
 have kcs := H1.out.csr
 rw [hcs] at kcs
 clear hcs
 obtain ⟨⟨old, is⟩, hg⟩ : ∃ y, csrG c cs = y := ⟨_, rfl⟩
 rw [hg] at HGE HGL HJ
 unfold GetO at HGE
 simp only at HGE HGL HJ
 have HOL := wall HGL.out
 have HR1 := wall (rrow HC.out)
 have HKC := wall (show Blk w1 w.heap.size 74 (crC c) from H1.out.c)
 obtain ⟨D, hD⟩ : ∃ y, crC c = y := ⟨_, rfl⟩
 rw [hD] at HGE HKC HR1
 clear hD hg
 go_wp2_with (refine wpList_load_row rfl 74 _ rfl w.heap.size rfl 74 D (0, 0) _ HKC.out Tryz.underlying74 rfl HR1.out.1 ?_)
 (with_reducible refine (HGE.out _).mono ?_); rintro ee w2 ⟨rfl, hB2⟩
 have H4 := wall (H1.out.next hB2)
 clear hB2 HGE HKC H1 kcs HR1
 try simp only [Act.put, rpA, rpB, rpC]
 cases his : is with
 | false =>
  rw [his] at HJ
  have HJ2 := wall (show J = trR c 2 v from HJ.out)
  clear HJ his
  have HCL := wall (fun W => show Calls Tryz.prog 100 #[.agg (crC c), .int .u32 2, .int .u32 (v : Int)] W (CrOut (trapC c 2 v) W) from rtrap_any c HC.out 2 v W (by decide) HV.out)
  obtain ⟨D, D2, Z9, hD, HD2, HZ9, HR1, HR2⟩ := prep (c2 := trapC c 2 v) HC.out (Cr.Ok.trap HC.out (by decide) HV.out)
  unfold CrOut at HCL
  rw [hD, HD2.out] at HCL
  have HKC := wall (show Blk _ w.heap.size 74 D by rw [← hD]; exact H4.out.c)
  clear hD
  go_wp2_with (refine wpList_load_row rfl 74 _ rfl w.heap.size rfl 74 D (0, 0) _ HKC.out Tryz.underlying74 rfl HR1.out ?_)
  (with_reducible refine (HCL.out _).mono ?_); rintro ee w97 ⟨rfl, hB97⟩
  have H97 := wall (H4.out.next hB97)
  have H97o := wall (show Blk w97 (w.heap.size + 2) 74 Z9 by rw [← HZ9.out]; exact H97.out.o)
  clear hB97 HCL HKC
  try simp only [Act.put, rpA, rpB, rpC]
  go_wp2_with (refine wpList_set_row rfl 74 (.tmp 6) (.tmp 27) rfl (w.heap.size + 2) D2 rfl rfl 74 Z9 H97o.out HR2.out.1 HR2.out.2.1 HR2.out.2.2 ?_; intro w99 K99 F99)
  have H99 := wall (Below.frm H97.out.bel F99.out (Nat.le_refl _) (by simp))
  go_light
  exact bodyPost_ret (v := .tuple #[.agg D2, .int .i64 2]) (results_one_slot Tryz.results189 _ _ (w.heap.size + 2) 74 D2 _ (.int .i64 2) rfl rfl K99.out Tryz.underlying74 rfl HR2.out.1) rfl ⟨by rw [show J.1 = trapC c 2 v from by rw [HJ2.out]; rfl, show J.2 = some 2 from by rw [HJ2.out]; rfl, HD2.out]; rfl, H99.out⟩
 | true =>
  rw [his] at HJ
  have HJ0 := wall (HJ.out.trans (if_neg (by decide)))
  clear HJ his
  have kop := H4.out.op
  have ka := H4.out.a
  have km := H4.out.imm
  have kxa := H4.out.cell HC.out (show i.a < 41 by have := HID.out.a; omega)
  have ha32 : (i.a : Int) < 32 := by have := HID.out.a; omega
  obtain ⟨xa, hxa⟩ : ∃ y, c.g i.a = y := ⟨_, rfl⟩
  rw [hxa] at kxa
  have HXA := wall hxa
  clear hxa
  go_upto_if 38 with fail
  go_cut [10, 11] (fun s10 s11 w' => s10 = .int .u32 (x : Int) ∧ s11 = .bool nb ∧ w2 = w')
  case first =>
   by_cases h46 : 46 ≤ i.op
   ·have i1 : (46 : Int) ≤ (i.op : Int) := by omega
    have hx := HX.out
    have hn := HNB.out
    unfold csrIn at hx
    rw [if_pos h46] at hx hn
    have HX2 := wall hx
    have HN2 := wall (show ((i.imm : Int) == 0) = nb by rw [← hn, Bool.eq_iff_iff]; simp)
    clear h46 hx hn
    go_wp2_with fail
    go_meet
    exact ⟨by rw [HX2.out], by rw [← HN2.out], rfl⟩
   ·have i1 : ¬ (46 : Int) ≤ (i.op : Int) := by omega
    have hx := HX.out
    have hn := HNB.out
    unfold csrIn at hx
    rw [if_neg h46] at hx hn
    have HX2 := wall hx
    have HN2 := wall (show ((i.a : Int) == 0) = nb by rw [← hn, Bool.eq_iff_iff]; simp)
    clear h46 hx hn
    go_wp2_with fail
    go_meet
    exact ⟨by rw [← HX2.out, HXA.out], by rw [← HN2.out], rfl⟩
  case rest =>
   obtain ⟨rfl, rfl, rfl⟩ := hcut
   obtain ⟨h, hh⟩ : ∃ h, k % 3 = h := ⟨_, rfl⟩
   have hk2 : ((i.op : Int) - 43) % 256 = (k : Int) := by have := HKK.out; omega
   have hk3 : (k : Int) % 3 = (h : Int) := by omega
   have HH3 := wall (show h < 3 ∧ k % 3 = h from ⟨by omega, hh⟩)
   rw [hh] at HJ0
   clear hh ka km kxa ha32
   by_cases hhas : (decide (h = 0) || !nb) = false
   ·have HJ3 := wall (show J = (csrEnd c i old false, none) from HJ0.out.trans (if_pos hhas))
    have HJ2 := wall (show J = (nextC (withC c i.rd old), none) by rw [HJ3.out, csrEnd_no])
    have hb := (Bool.or_eq_false_iff.1 hhas)
    have b1 : ((h : Int) == 0) = false := by rw [beq_eq_false_iff_ne]; have := of_decide_eq_false hb.1; omega
    have b2 : nb = true := by have := hb.2; simpa using this
    have krd := H4.out.rd
    clear hhas hb HJ0 HJ3
    have HCL := wall (fun W => show Calls Tryz.prog 184 #[.agg (crC c), .int .u8 (i.rd : Int), .int .u32 (old : Int)] W (CrOut (nextC (withC c i.rd old)) W) from rseti_any c HC.out i.rd old W HID.out.rd HOL.out)
    obtain ⟨D, D2, Z9, hD, HD2, HZ9, HR1, HR2⟩ := prep (c2 := nextC (withC c i.rd old)) HC.out ((HC.out.with i.rd old HOL.out).next)
    unfold CrOut at HCL
    rw [hD, HD2.out] at HCL
    have HKC := wall (show Blk _ w.heap.size 74 D by rw [← hD]; exact H4.out.c)
    clear hD
    go_wp2_with (refine wpList_load_row rfl 74 _ rfl w.heap.size rfl 74 D (0, 0) _ HKC.out Tryz.underlying74 rfl HR1.out ?_)
    (with_reducible refine (HCL.out _).mono ?_); rintro ee w97 ⟨rfl, hB97⟩
    have H97 := wall (H4.out.next hB97)
    have H97o := wall (show Blk w97 (w.heap.size + 2) 74 Z9 by rw [← HZ9.out]; exact H97.out.o)
    clear hB97 HCL HKC
    try simp only [Act.put, rpA, rpB, rpC]
    go_wp2_with (refine wpList_set_row rfl 74 (.tmp 6) (.tmp 99) rfl (w.heap.size + 2) D2 rfl rfl 74 Z9 H97o.out HR2.out.1 HR2.out.2.1 HR2.out.2.2 ?_; intro w99 K99 F99)
    have H99 := wall (Below.frm H97.out.bel F99.out (Nat.le_refl _) (by simp))
    go_light
    exact bodyPost_ret (v := .tuple #[.agg D2, .int .i64 (-1)]) (results_one_slot Tryz.results189 _ _ (w.heap.size + 2) 74 D2 _ (.int .i64 (-1)) rfl rfl K99.out Tryz.underlying74 rfl HR2.out.1) rfl ⟨by rw [show J.1 = nextC (withC c i.rd old) from by rw [HJ2.out], show J.2 = none from by rw [HJ2.out], HD2.out]; rfl, H99.out⟩
   ·have HJ1 := wall (HJ0.out.trans (if_neg hhas))
    obtain ⟨u, hu⟩ : ∃ y, csrW i.op x old = y := ⟨_, rfl⟩
    rw [hu] at HJ1
    have HUL := wall (show u < 4294967296 by rw [← hu]; exact csrW_lt _ _ _ HXL.out HOL.out)
    have HUE := wall hu
    have HHA := wall hhas
    clear hu HJ0 hhas
    go_upto_region 10 with fail
    go_cut [53] (fun s53 w' => s53 = .bool true ∧ w2 = w')
    case first =>
     by_cases h0 : h = 0
     ·have b1 : ((h : Int) == 0) = true := by rw [h0]; rfl
      clear h0
      go_wp2_with fail
      go_meet
      exact ⟨rfl, rfl⟩
     ·have b1 : ((h : Int) == 0) = false := by rw [beq_eq_false_iff_ne]; omega
      have b2 : nb = false := by
       have hh := HHA.out
       cases hn : nb with
       | false => rfl
       | true => rw [hn] at hh; exact absurd (by simp [h0]) hh
      clear h0
      subst b2
      go_wp2_with fail
      go_meet
      exact ⟨rfl, rfl⟩
    case rest =>
     obtain ⟨rfl, rfl⟩ := hcut
     go_upto_block 0 with fail
     go_cut [10] (fun s10 w' => s10 = .int .u32 (u : Int) ∧ w2 = w')
     case first =>
      have hc : h = 0 ∨ h = 1 ∨ h = 2 := by have := HH3.out.1; omega
      have HH4 := wall HH3.out.2
      rcases hc with h0 | h0 | h0
      ·have b1 : ((h : Int) == 1) = false := by rw [h0]; rfl
       have b2 : ((h : Int) == 2) = false := by rw [h0]; rfl
       have HU := wall (show u = x from by rw [← HUE.out]; exact csrW0 HKK.out.1 HKK.out.2 (by rw [HH4.out, h0]))
       clear h0
       go_wp2_with fail
       go_meet
       exact ⟨by rw [HU.out], rfl⟩
      ·have b1 : ((h : Int) == 1) = true := by rw [h0]; rfl
       have hor : bits .or .u32 (x : Int) (old : Int) = (u : Int) := by rw [← HUE.out, csrW1 HKK.out.1 HKK.out.2 (by rw [HH4.out, h0])]; exact bits_or_u32 x old HXL.out HOL.out
       clear h0
       go_wp2_with fail
       go_meet
       exact ⟨rfl, rfl⟩
      ·have b1 : ((h : Int) == 1) = false := by rw [h0]; rfl
       have b2 : ((h : Int) == 2) = true := by rw [h0]; rfl
       have hand : bits .and .u32 (old : Int) (x : Int) = ((old &&& x : Nat) : Int) := bits_and_u32 old x HOL.out HXL.out
       have hle : old &&& x ≤ old := Nat.and_le_left
       have hue := HUE.out
       rw [csrW2 HKK.out.1 HKK.out.2 (by rw [HH4.out, h0])] at hue
       obtain ⟨nd, hnd⟩ : ∃ y, old &&& x = y := ⟨_, rfl⟩
       rw [hnd] at hand hle hue
       have hol : (old : Int) < 4294967296 := by have := HOL.out; omega
       have hsb : (old : Int) - (nd : Int) = (u : Int) := by omega
       have hsc : ((old : Int) - (nd : Int)) % 4294967296 = (u : Int) := by have := HUL.out; omega
       clear hnd hle h0 hue
       go_wp2_with fail
       go_meet
       exact ⟨rfl, rfl⟩
     case rest =>
      obtain ⟨rfl, rfl⟩ := hcut
      have kcs := H4.out.csr
      rw [HCS.out] at kcs
      clear hk2 hk3 kop
      have HSE := wall (fun W => rset_any c HC.out cs u W HUL.out)
      have HOK3 := wall (csrS_ok HC.out cs u HUL.out)
      obtain ⟨⟨c3, ok⟩, hc3⟩ : ∃ y, csrS c cs u = y := ⟨_, rfl⟩
      rw [hc3] at HSE HJ1 HOK3
      unfold RSetO at HSE
      simp only at HSE HJ1 HOK3
      have HKC := wall (show Blk _ w.heap.size 74 (crC c) from H4.out.c)
      have HR1 := wall (rrow HC.out)
      have HR3 := wall (rrow HOK3.out)
      have HZ := wall ref_zero
      obtain ⟨D, hD⟩ : ∃ y, crC c = y := ⟨_, rfl⟩
      obtain ⟨D3, hD3⟩ : ∃ y, crC c3 = y := ⟨_, rfl⟩
      obtain ⟨Z9, hZ9⟩ : ∃ y, crC crZ = y := ⟨_, rfl⟩
      have HD3 := wall hD3
      have HZ9 := wall hZ9
      rw [hD] at HSE HKC HR1
      rw [hD3] at HSE HR3
      rw [hZ9] at HR3 HZ
      clear hD hD3 hZ9 hc3
      go_wp2_with (refine wpList_load_row rfl 74 _ rfl w.heap.size rfl 74 D (0, 0) _ HKC.out Tryz.underlying74 rfl HR1.out.1 ?_)
      (with_reducible refine (HSE.out _).mono ?_); rintro ee w5 ⟨rfl, hB5⟩
      have H5 := wall (H4.out.next hB5)
      have HG3 := wall (show w.heap.size + 2 < w5.heap.size from H5.out.o.lt)
      clear hB5 HSE HKC H4
      try simp only [Act.put, rpA, rpB, rpC]
      cases hok : ok with
      | false =>
       rw [hok] at HJ1
       have HJ2 := wall (show J = trR c 2 v from HJ1.out)
       clear HJ1 hok
       go_upto_region 17 with (first | refine Big.wpList_alloc_at rfl 74 rfl Z9 HZ.out w5.heap.size rfl ?_ | (refine wpList_set_row rfl 74 (.tmp 13) (.tmp 73) rfl w5.heap.size D3 rfl rfl 74 Z9 (Blk.new _ _ _) HR3.out.1 HR3.out.2.1 HR3.out.2.2 ?_; intro w6 K6 F6))
       have H6 := wall (H5.out.next (Below.frm ((Below.refl _ w5).alloc (Nat.le_refl _) _) F6.out (Nat.le_refl _) (by simp)))
       clear K6 F6 H5
       try simp only [Act.put, rpA, rpB, rpC]
       have HCL := wall (fun W => show Calls Tryz.prog 100 #[.agg (crC c), .int .u32 2, .int .u32 (v : Int)] W (CrOut (trapC c 2 v) W) from rtrap_any c HC.out 2 v W (by decide) HV.out)
       obtain ⟨D, D2, Z9, hD, HD2, HZ9, HR1, HR2⟩ := prep (c2 := trapC c 2 v) HC.out (Cr.Ok.trap HC.out (by decide) HV.out)
       unfold CrOut at HCL
       rw [hD, HD2.out] at HCL
       have HKC := wall (show Blk _ w.heap.size 74 D by rw [← hD]; exact H6.out.c)
       clear hD
       go_wp2_with (refine wpList_load_row rfl 74 _ rfl w.heap.size rfl 74 D (0, 0) _ HKC.out Tryz.underlying74 rfl HR1.out ?_)
       (with_reducible refine (HCL.out _).mono ?_); rintro ee w97 ⟨rfl, hB97⟩
       have H97 := wall (H6.out.next hB97)
       have H97o := wall (show Blk w97 (w.heap.size + 2) 74 Z9 by rw [← HZ9.out]; exact H97.out.o)
       clear hB97 HCL HKC
       try simp only [Act.put, rpA, rpB, rpC]
       go_wp2_with (refine wpList_set_row rfl 74 (.tmp 6) (.tmp 79) rfl (w.heap.size + 2) D2 rfl rfl 74 Z9 H97o.out HR2.out.1 HR2.out.2.1 HR2.out.2.2 ?_; intro w99 K99 F99)
       have H99 := wall (Below.frm H97.out.bel F99.out (Nat.le_refl _) (by simp))
       go_light
       exact bodyPost_ret (v := .tuple #[.agg D2, .int .i64 2]) (results_one_slot Tryz.results189 _ _ (w.heap.size + 2) 74 D2 _ (.int .i64 2) rfl rfl K99.out Tryz.underlying74 rfl HR2.out.1) rfl ⟨by rw [show J.1 = trapC c 2 v from by rw [HJ2.out]; rfl, show J.2 = some 2 from by rw [HJ2.out]; rfl, HD2.out]; rfl, H99.out⟩
      | true =>
       rw [hok] at HJ1
       have HJ3 := wall (show J = (csrEnd c3 i old (cs == 2816), none) from HJ1.out)
       clear HJ1 hok
       have HST := wall (fun W => show Calls Tryz.prog 184 #[.agg (crC c3), .int .u8 (i.rd : Int), .int .u32 (old : Int)] W (CrOut (nextC (withC c3 i.rd old)) W) from rseti_any c3 HOK3.out i.rd old W HID.out.rd HOL.out)
       have HOK4 := wall ((HOK3.out.with i.rd old HOL.out).next)
       have HCY := wall (csrEnd_cy c3 i old (HOK3.out.g 40) HOK3.out.len)
       have HCN := wall (csrEnd_no c3 i old)
       obtain ⟨c4, hc4⟩ : ∃ y, nextC (withC c3 i.rd old) = y := ⟨_, rfl⟩
       rw [hc4] at HST HOK4 HCY HCN
       clear hc4
       have HR4 := wall (rrow HOK4.out)
       obtain ⟨D4, hD4⟩ : ∃ y, crC c4 = y := ⟨_, rfl⟩
       have HD4 := wall hD4
       unfold CrOut at HST
       rw [HD3.out, hD4] at HST
       rw [hD4] at HR4
       have HS34 := wall (show D3.size = D4.size by rw [← HR3.out.2.1, ← HR4.out.2.1, HZ9.out])
       have HR4s := wall (show (Tryz.prog.info? 74).map (·.size) = some D4.size ∧ D4.all (·.oneCell') = true from ⟨HR4.out.1, HR4.out.2.2⟩)
       have HRZ := wall (show Z9.size = D4.size by rw [← HR4.out.2.1, HZ9.out])
       clear hD4
       go_upto_region 17 with (first | refine Big.wpList_alloc_at rfl 74 rfl Z9 HZ.out w5.heap.size rfl ?_ | (refine wpList_set_row rfl 74 (.tmp 13) (.tmp 73) rfl w5.heap.size D3 rfl rfl 74 Z9 (Blk.new _ _ _) HR3.out.1 HR3.out.2.1 HR3.out.2.2 ?_; intro w6 K6 F6))
       have H6 := wall (H5.out.next (Below.frm ((Below.refl _ w5).alloc (Nat.le_refl _) _) F6.out (Nat.le_refl _) (by simp)))
       have hg3 := HG3.out
       obtain ⟨g3, hg⟩ : ∃ y, w5.heap.size = y := ⟨_, rfl⟩
       rw [hg] at K6 hg3
       try rw [hg]
       have HG := wall (show w.heap.size + 2 < g3 from hg3)
       clear F6 H5 HG3 hg hg3
       try simp only [Act.put, rpA, rpB, rpC]
       have k40 : w6.cell? ⟨g3, 40, none⟩ = some (.int .u32 ((c3.g 40 : Nat) : Int)) := rblk_cell (by rw [HD3.out]; exact K6.out) HOK3.out (by decide)
       obtain ⟨s40, hs40⟩ : ∃ y, c3.g 40 = y := ⟨_, rfl⟩
       rw [hs40] at k40 HCY
       have HS40 := wall (show s40 < 4294967296 by rw [← hs40]; exact HOK3.out.g 40)
       have krd := H6.out.rd
       clear hs40
       go_wp2_with (refine wpList_load_row rfl 74 _ rfl g3 rfl 74 D3 (0, 0) _ K6.out Tryz.underlying74 rfl HR3.out.1 ?_)
       (with_reducible refine (HST.out _).mono ?_); rintro ee w7 ⟨rfl, hB7⟩
       have H7 := wall (H6.out.next hB7)
       have K7 := wall (K6.out.next hB7 rfl)
       clear hB7 HST H6 K6 k40 krd
       try simp only [Act.put, rpA, rpB, rpC]
       go_upto_region 21 with (refine wpList_set_row rfl 74 (.tmp 13) (.tmp 87) rfl g3 D4 rfl rfl 74 D3 K7.out HR4s.out.1 HS34.out HR4s.out.2 ?_; intro w8 K8 F8)
       have HB8 := wall (Below.frm H7.out.bel F8.out (Nat.le_refl _) (by have := HG.out; simp; omega))
       have H8 := wall (H7.out.frm F8.out (by have := HG.out; intro x hx; simp at hx; omega) HB8.out)
       clear F8 H7 K7 HB8
       try simp only [Act.put, rpA, rpB, rpC]
       have kcs := H8.out.csr
       rw [HCS.out] at kcs
       have H8o := wall (show Blk w8 (w.heap.size + 2) 74 Z9 by rw [← HZ9.out]; exact H8.out.o)
       by_cases h28 : cs = 2816
       ·have hb : ((cs : Int) == 2816) = true := by rw [h28]; rfl
        have kk : w8.cell? ⟨g3, 40, none⟩ = some (.int .u32 ((c4.g 40 : Nat) : Int)) := rblk_cell (by rw [HD4.out]; exact K8.out) HOK4.out (by decide)
        have hfz := K8.out.frozen
        have HJ4 := wall (show J = (c4.set 40 s40, none) by rw [HJ3.out, h28]; show (csrEnd c3 i old true, none) = _; rw [HCY.out])
        clear h28
        go_upto_region 23 with fail
        have HK9 := wall (show Blk (w8.setCell ⟨g3, 40, none⟩ (.int .u32 (s40 : Int))) g3 74 (crC (c4.set 40 s40)) from by
         have h := K8.out.set 40 (.int .u32 ((s40 : Nat) : Int))
         rw [← HD4.out, crC_set HOK4.out (by decide)] at h
         exact h)
        have HF9 := wall (show Frm [g3] w8 (w8.setCell ⟨g3, 40, none⟩ (.int .u32 (s40 : Int))) from (Frm.refl _ _).setCell (p := ⟨g3, 40, none⟩) (.inl (by simp)) _)
        have HB9 := wall (Below.frm H8.out.bel HF9.out (Nat.le_refl _) (by have := HG.out; simp; omega))
        have H9o := wall (H8o.out.frm HF9.out (by have := HG.out; simp; omega))
        have HOK5 := wall (HOK4.out.set 40 s40 HS40.out)
        generalize w8.setCell ⟨g3, 40, none⟩ (.int .u32 (s40 : Int)) = w9 at *
        obtain ⟨c5, hc5⟩ : ∃ y, c4.set 40 s40 = y := ⟨_, rfl⟩
        rw [hc5] at HK9 HJ4 HOK5
        clear hc5 kk hfz K8 H8 H8o HF9
        have HR5 := wall (rrow HOK5.out)
        obtain ⟨D5, hD5⟩ : ∃ y, crC c5 = y := ⟨_, rfl⟩
        have HD5 := wall hD5
        rw [hD5] at HK9 HR5
        rw [HZ9.out] at HR5
        clear hD5
        go_wp2_with (first | refine wpList_load_row rfl 74 _ rfl g3 rfl 74 D5 (0, 0) _ HK9.out Tryz.underlying74 rfl HR5.out.1 ?_ | (refine wpList_set_row rfl 74 (.tmp 6) (.tmp 94) rfl (w.heap.size + 2) D5 rfl rfl 74 Z9 H9o.out HR5.out.1 HR5.out.2.1 HR5.out.2.2 ?_; intro w99 K99 F99))
        have H99 := wall (Below.frm HB9.out F99.out (Nat.le_refl _) (by simp))
        go_light
        exact bodyPost_ret (v := .tuple #[.agg D5, .int .i64 (-1)]) (results_one_slot Tryz.results189 _ _ (w.heap.size + 2) 74 D5 _ (.int .i64 (-1)) rfl rfl K99.out Tryz.underlying74 rfl HR5.out.1) rfl ⟨by rw [HJ4.out, HD5.out]; rfl, H99.out⟩
       ·have hb : ((cs : Int) == 2816) = false := by rw [beq_eq_false_iff_ne]; omega
        have HJ4 := wall (show J = (c4, none) by rw [HJ3.out, show (cs == 2816) = false by rw [beq_eq_false_iff_ne]; exact h28, HCN.out])
        clear h28
        go_upto_region 23 with fail
        have HK9 := wall (show Blk w8 g3 74 (crC c4) by rw [HD4.out]; exact K8.out)
        have HB9 := wall H8.out.bel
        have H9o := wall H8o.out
        have HOK5 := wall HOK4.out
        obtain ⟨c5, hc5⟩ : ∃ y, c4 = y := ⟨_, rfl⟩
        obtain ⟨w9, rfl⟩ : ∃ y : World, y = w8 := ⟨_, rfl⟩
        rw [hc5] at HK9 HJ4 HOK5
        clear hc5 K8 H8 H8o
        have HR5 := wall (rrow HOK5.out)
        obtain ⟨D5, hD5⟩ : ∃ y, crC c5 = y := ⟨_, rfl⟩
        have HD5 := wall hD5
        rw [hD5] at HK9 HR5
        rw [HZ9.out] at HR5
        clear hD5
        go_wp2_with (first | refine wpList_load_row rfl 74 _ rfl g3 rfl 74 D5 (0, 0) _ HK9.out Tryz.underlying74 rfl HR5.out.1 ?_ | (refine wpList_set_row rfl 74 (.tmp 6) (.tmp 94) rfl (w.heap.size + 2) D5 rfl rfl 74 Z9 H9o.out HR5.out.1 HR5.out.2.1 HR5.out.2.2 ?_; intro w99 K99 F99))
        have H99 := wall (Below.frm HB9.out F99.out (Nat.le_refl _) (by simp))
        go_light
        exact bodyPost_ret (v := .tuple #[.agg D5, .int .i64 (-1)]) (results_one_slot Tryz.results189 _ _ (w.heap.size + 2) 74 D5 _ (.int .i64 (-1)) rfl rfl K99.out Tryz.underlying74 rfl HR5.out.1) rfl ⟨by rw [HJ4.out, HD5.out]; rfl, H99.out⟩
end Core
end Go.Proofs.YtmiaabpnolebhaaGreatDoor
