/-
  Texts of this claim, joined: CorAp, CorTp, CorTr, CorTrF.
-/
import Derived.Test.YtfiojpdkbckopaaDoorJ3e3727c1
import Derived.Test.YtfiojpdkbckopaaDoorJ3a4fbb0a
import Derived.Test.YtfiojpdkbckopaaDoorJ50f30c5f
import Derived.Test.YtfiojpdkbckopaaDoorJ7c1a3828
import Derived.Test.YtfiojpdkbckopaaDoorJ82af92fd
import Derived.Test.YtfiojpdkbckopaaDoorCorH
import Derived.Test.YtfiojpdkbckopaaDoorJ68c09f72
import Derived.Test.YtfiojpdkbckopaaDoorFrame
import Derived.Test.YtfiojpdkbckopaaDoorJa7d4135a
set_option linter.unusedVariables false
/-
  A program that is laid: its words, decoded; single steps of some instructions. No walk.
-/
set_option linter.unusedSimpArgs false
set_option linter.unusedVariables false
namespace Go.Proofs.YtfiojpdkbckopaaDoor
open Go.RowKit

namespace Core
open Otp Sha Rv Grant Spc R1 Fla
theorem codeL_get : ∀ (qs : List In) (j t : Nat) (q : In), qs[j]? = some q → t < 4 → (codeL qs)[4 * j + t]? = (le4 (enc q).1)[t]?
  | [], j, t, q, h, _ => by simp at h
  | q0 :: qs, 0, t, q, h, ht => by
    obtain rfl : q0 = q := by simpa using h
    show (le4 (enc q0).1 ++ codeL qs)[4 * 0 + t]? = _
    rw [Nat.mul_zero, Nat.zero_add, List.getElem?_append_left (by show t < 4; exact ht)]
  | q0 :: qs, j + 1, t, q, h, ht => by
    show (le4 (enc q0).1 ++ codeL qs)[4 * (j + 1) + t]? = _
    rw [List.getElem?_append_right (by show 4 ≤ 4 * (j + 1) + t; omega)]
    show (codeL qs)[4 * (j + 1) + t - 4]? = _
    rw [show 4 * (j + 1) + t - 4 = 4 * j + t by omega]
    exact codeL_get qs j t q (by simpa using h) ht
theorem word_le4 {z : Nat} (h : z < 4294967296) : le32 (z % 256) (z / 256 % 256) (z / 65536 % 256) (z / 16777216 % 256) = z := by
  rw [le32]
  omega
theorem word_at {v : SpV} {qs : List In} {j : Nat} {q : In} (hv : v.ram = splice (List.replicate 8192 0) 0 (codeL qs)) (hj : qs[j]? = some q) (hq : (enc q).1 < 4294967296) : wordAt v (4 * j) = (enc q).1 := by
  have hl : j < qs.length := (List.getElem?_eq_some_iff.1 hj).1
  have hc : ∀ t, t < 4 → v.ram[4 * j + t]? = (le4 (enc q).1)[t]? := fun t ht => by
    rw [hv]
    have h1 := codeL_get qs j t q hj ht
    have h2 : 4 * j + t < (codeL qs).length := by rw [codeL_length]; omega
    obtain ⟨x, hx⟩ : ∃ x, (codeL qs)[4 * j + t]? = some x := ⟨_, List.getElem?_eq_getElem h2⟩
    rw [splice_at h2 hx, ← h1, hx]
  have g : ∀ t x, t < 4 → (le4 (enc q).1)[t]? = some x → v.ram.getD (4 * j + t) 0 = x := fun t x ht hx => by
    rw [List.getD_eq_getElem?_getD, hc t ht, hx]
    rfl
  rw [wordAt, show 4 * j = 4 * j + 0 from rfl, g 0 ((enc q).1 % 256) (by decide) rfl, Nat.add_zero, g 1 ((enc q).1 / 256 % 256) (by decide) rfl, g 2 ((enc q).1 / 65536 % 256) (by decide) rfl, g 3 ((enc q).1 / 16777216 % 256) (by decide) rfl]
  exact word_le4 hq
/-- A step of a word that is known. -/
theorem step_of {v : SpV} {F vs : List Nat} {ls : List Bool} {c : Cr} {o w : Nat} {i : In} (hf : fetchAt v (c.g 32) = (1, o, 0)) (hp : c.g 32 % 4 = 0) (hw : wordAt v o = w) (hd : dec w = (i, true)) : stepR v F vs ls c false = doR v F vs ls (c.time false) i w := by
  rw [stepR, if_neg (by unfold letT; simp), if_neg (by omega), hf, if_neg (by simp), hw, hd, stepD]
  simp
theorem alu19 (x y : Nat) : aluN 19 x y = ((x + y) % 4294967296, true) := by
  unfold aluN
  rw [if_neg (by decide), if_pos (by decide), show baseN 19 = 28 by decide, sN28]
theorem do_addiR (v : SpV) (F vs : List Nat) (ls : List Bool) (c : Cr) (rd a imm w : Nat) : doR v F vs ls c (addiI rd a imm) w = ⟨nextC (withC c rd ((c.g a + imm) % 4294967296)), none, 0, [], v⟩ := by
  have h : aluR c (addiI rd a imm) imm = (nextC (withC c rd ((c.g a + imm) % 4294967296)), none) := by
    unfold aluR
    show (nextC (if (aluN 19 (c.g a) imm).2 = true then withC c rd (aluN 19 (c.g a) imm).1 else c), none) = _
    rw [alu19]
    simp
  unfold doR doP
  simp only [addiI]
  simp
  rw [show (⟨19, rd, a, 0, imm, 0⟩ : In) = addiI rd a imm from rfl, h]
  rfl
theorem do_bneR (v : SpV) (F vs : List Nat) (ls : List Bool) (c : Cr) (rd a b imm csr w : Nat) : doR v F vs ls c ⟨6, rd, a, b, imm, csr⟩ w = pairR v (if (c.g a != c.g b) = true then jumpR c rd ((c.g 32 + imm) % 4294967296) else (nextC c, none)) := by
  have h : branchR c ⟨6, rd, a, b, imm, csr⟩ = if (c.g a != c.g b) = true then jumpR c rd ((c.g 32 + imm) % 4294967296) else (nextC c, none) := by
    unfold branchR
    show (if takesN 6 (c.g a) (c.g b) = true then jumpR c rd ((c.g 32 + imm) % 4294967296) else (nextC c, none)) = _
    rw [show takesN 6 (c.g a) (c.g b) = (c.g a != c.g b) by unfold takesN; rw [if_neg (by decide), if_pos rfl]]
  unfold doR doP
  simp only
  rw [if_neg (by decide), if_neg (by decide), if_neg (by decide), if_neg (by decide), if_neg (by decide), if_pos (by decide), h]
theorem do_ebreakR (v : SpV) (F vs : List Nat) (ls : List Bool) (c : Cr) (rd a b imm csr w : Nat) : doR v F vs ls c ⟨40, rd, a, b, imm, csr⟩ w = pairR v (trR c 3 (c.g 32)) := by
  unfold doR doP
  simp only
  rw [if_neg (by decide), if_neg (by decide), if_neg (by decide), if_neg (by decide), if_neg (by decide), if_neg (by decide), if_neg (by decide), if_neg (by decide), if_pos (by decide)]
theorem do_mretR (v : SpV) (F vs : List Nat) (ls : List Bool) (c : Cr) (rd a b imm csr w : Nat) : doR v F vs ls c ⟨41, rd, a, b, imm, csr⟩ w = pairR v (retC c, none) := by
  unfold doR doP
  simp only
  rw [if_neg (by decide), if_neg (by decide), if_neg (by decide), if_neg (by decide), if_neg (by decide), if_neg (by decide), if_neg (by decide), if_neg (by decide), if_neg (by decide), if_pos (by decide)]
/-- The code's first words are fetched. -/
theorem fetch_tab : ∀ j : Fin 8, chk 1 1 (536870912 + 4 * j.val) 4 false true = (1, 4 * j.val, 0) := by decide +kernel
theorem fetch_code {v : SpV} (h : v.st = 1) {j : Nat} (hj : j < 8) : fetchAt v (536870912 + 4 * j) = (1, 4 * j, 0) := by
  rw [fetchAt, h]
  exact fetch_tab ⟨j, hj⟩
end Core
end Go.Proofs.YtfiojpdkbckopaaDoor

/-
  A trap: what a step leaves then; MRET behind it. No walk.
-/
set_option linter.unusedSimpArgs false
set_option linter.unusedVariables false
namespace Go.Proofs.YtfiojpdkbckopaaDoor
open Go.RowKit

namespace Core
open Otp Sha Rv Grant Spc R1 Fla
/-- A trap, where it is one, is this core's. -/
def Tr (c : Cr) (r : Cr × Option Nat) : Prop := ∀ k, r.2 = some k → ∃ x, r = trR c k x
theorem tr_of (c : Cr) (k x : Nat) : Tr c (trR c k x) := fun k' h => by
  obtain rfl : k = k' := Option.some.inj h
  exact ⟨x, rfl⟩
theorem tr_no (c d : Cr) : Tr c (d, none) := fun _ h => nomatch h
theorem tr_jump (c : Cr) (rd t : Nat) : Tr c (jumpR c rd t) := by
  unfold jumpR
  split
  · exact tr_of _ _ _
  · exact tr_no _ _
theorem tr_branch (c : Cr) (i : In) : Tr c (branchR c i) := by
  unfold branchR
  split
  · exact tr_jump _ _ _
  · exact tr_no _ _
theorem tr_load (v : SpV) (F vs : List Nat) (ls : List Bool) (c : Cr) (i : In) : Tr c (loadR v F vs ls c i) := by
  unfold loadR
  split
  · exact tr_of _ _ _
  · split
    · exact tr_of _ _ _
    · exact tr_no _ _
theorem tr_csr (c : Cr) (i : In) (w : Nat) : Tr c (csrR c i w) := by
  unfold csrR
  split
  · exact tr_of _ _ _
  · split
    · exact tr_no _ _
    · split
      · exact tr_of _ _ _
      · exact tr_no _ _
theorem tr_alu (c : Cr) (i : In) (y : Nat) : Tr c (aluR c i y) := tr_no _ _
theorem tr_do (v : SpV) (F vs : List Nat) (ls : List Bool) (c : Cr) (i : In) (w : Nat) : Tr c (doP v F vs ls c i w) := by
  unfold doP
  split
  · exact tr_no _ _
  split
  · exact tr_no _ _
  split
  · exact tr_jump _ _ _
  split
  · exact tr_jump _ _ _
  split
  · exact tr_branch _ _
  split
  · exact tr_load _ _ _ _ _ _
  split
  · exact tr_of _ _ _
  split
  · exact tr_of _ _ _
  split
  · exact tr_no _ _
  split
  · exact tr_csr _ _ _
  split
  · exact tr_alu _ _ _
  · exact tr_alu _ _ _
def TrR (v : SpV) (c : Cr) (R : Res) : Prop := ∀ k, R.t = some k → ∃ x, R = ⟨trapC c k x, some k, 0, [], v⟩
theorem trr_pair {v : SpV} {c : Cr} {r : Cr × Option Nat} (h : Tr c r) : TrR v c (pairR v r) := fun k e => by
  obtain ⟨x, hx⟩ := h k e
  exact ⟨x, by rw [hx]; rfl⟩
theorem trr_store (v : SpV) (c : Cr) (i : In) : TrR v c (storeR v c i) := by
  unfold storeR
  split
  · intro k h
    obtain rfl : 6 = k := Option.some.inj h
    exact ⟨_, rfl⟩
  · split
    · intro k h
      obtain rfl : 7 = k := Option.some.inj h
      exact ⟨_, rfl⟩
    · exact fun _ h => nomatch h
theorem trr_do (v : SpV) (F vs : List Nat) (ls : List Bool) (c : Cr) (i : In) (w : Nat) : TrR v c (doR v F vs ls c i w) := by
  unfold doR
  split
  · exact trr_store _ _ _
  · exact trr_pair (tr_do _ _ _ _ _ _ _)
theorem trr_stepD (v : SpV) (F vs : List Nat) (ls : List Bool) (c : Cr) (w : Nat) (d : In × Bool) : TrR v c (stepD v F vs ls c w d) := by
  unfold stepD
  split
  · exact trr_pair (tr_of _ _ _)
  · exact trr_do _ _ _ _ _ _ _
theorem trr_step (v : SpV) (F vs : List Nat) (ls : List Bool) (c : Cr) (tm : Bool) : TrR v (c.time tm) (stepR v F vs ls c tm) := by
  unfold stepR
  split
  · exact trr_pair (tr_of _ _ _)
  split
  · exact trr_pair (tr_of _ _ _)
  split
  · exact trr_pair (tr_of _ _ _)
  · exact trr_stepD _ _ _ _ _ _ _
theorem csrI_32 (n : Nat) : csrI n ≠ 32 := by
  unfold csrI
  repeat' split
  all_goals decide
theorem csrS_32 (c : Cr) (n v : Nat) : (csrS c n v).1.g 32 = c.g 32 := by
  unfold csrS
  split
  · exact Cr.g_set_ne (csrI_32 n)
  · rfl
theorem csrs_32 {c : Cr} {ys : List Nat} : ∀ k, (csrs c ys k).g 32 = c.g 32
  | 0 => rfl
  | k + 1 => by
    unfold csrs
    split
    · split
      · rw [csrS_32]
        exact csrs_32 k
      · exact csrs_32 k
    · exact csrs_32 k
/-- What a trap leaves in the CSRs. -/
theorem trap_all (c : Cr) (tm : Bool) (hl : c.l.length = 41) (k x : Nat) (hp : c.g 32 = 536870912) :
    (trapC (c.time tm) k x).g 32 = c.g 35 ∧ (trapC (c.time tm) k x).g 33 = c.g 33 / 8 % 2 * 128 ∧ (trapC (c.time tm) k x).g 37 = 536870912 ∧ (trapC (c.time tm) k x).g 38 = k ∧ (trapC (c.time tm) k x).l.length = 41 := by
  have hl' : (c.time tm).l.length = 41 := hl
  have h33 : (c.time tm).g 33 = c.g 33 := rfl
  have h32 : (c.time tm).g 32 = 536870912 := hp
  unfold trapC
  rw [h33, h32]
  refine ⟨?_, ?_, ?_, ?_, ?_⟩
  · rw [Cr.g_set_ne (by decide), Cr.g_set (by simp [Cr.set_len, hl'])]
    rfl
  · rw [Cr.g_set_ne (by decide), Cr.g_set_ne (by decide), Cr.g_set (by simp [Cr.set_len, hl'])]
  · rw [Cr.g_set_ne (by decide), Cr.g_set_ne (by decide), Cr.g_set_ne (by decide), Cr.g_set_ne (by decide), Cr.g_set_ne (by decide), Cr.g_set (by omega)]
  · rw [Cr.g_set_ne (by decide), Cr.g_set_ne (by decide), Cr.g_set_ne (by decide), Cr.g_set_ne (by decide), Cr.g_set (by simp [Cr.set_len, hl'])]
  · simp [Cr.set_len, hl']
namespace Tp
def mI : In := ⟨41, 0, 0, 0, 0, 0⟩
theorem mt : (enc mI).1 < 4294967296 ∧ dec (enc mI).1 = (mI, true) := by decide +kernel
theorem m_ok : ∀ q ∈ [mI], q.Ok := fun q hq => by
  obtain rfl : q = mI := by simpa using hq
  exact ⟨by decide, by decide, by decide, by decide, by decide, by decide⟩
/-- MRET at the start of the code. -/
theorem back {v : SpV} {F vs : List Nat} {ls : List Bool} {d : Cr} (hst : v.st = 1) (hr : v.ram = splice (List.replicate 8192 0) 0 (codeL [mI])) (hp : d.g 32 = 536870912) :
    stepR v F vs ls d false = ⟨retC (d.time false), none, 0, [], v⟩ :=
  (step_of (o := 0) (w := (enc mI).1) (i := mI) (by rw [hp]; exact fetch_code hst (j := 0) (by decide)) (by rw [hp]) (word_at (j := 0) hr rfl mt.1) mt.2).trans (do_mretR _ _ _ _ _ _ _ _ _ _ _)
theorem back_g (d : Cr) (hl : d.l.length = 41) (hp : d.g 37 = 536870912) : (retC (d.time false)).g 32 = 536870912 ∧ (retC (d.time false)).g 33 / 8 % 2 = d.g 33 / 128 % 2 := by
  have hl' : (d.time false).l.length = 41 := hl
  have h33 : (d.time false).g 33 = d.g 33 := rfl
  have h37 : (d.time false).g 37 = 536870912 := hp
  unfold retC
  rw [h33, h37]
  refine ⟨?_, ?_⟩
  · rw [Cr.g_set_ne (by decide), Cr.g_set (by simp [Cr.set_len, hl'])]
  · rw [Cr.g_set_ne (by decide), Cr.g_set_ne (by decide), Cr.g_set (by omega)]
    omega
end Tp
end Core
end Go.Proofs.YtfiojpdkbckopaaDoor

/-
  CoreTraps.
-/
set_option linter.unusedSimpArgs false
set_option linter.unusedVariables false
namespace Go.Proofs.YtfiojpdkbckopaaDoor
open Go.RowKit

namespace Core
open Otp Sha R1 Spc Grant Rv Fla
theorem w4_blk (W : World) {B a b c d : Nat} (hB : B = W.heap.size) (ha : a < 256) (hb : b < 256) (hc : c < 256) (hd : d < 256) :
    Nats .u8 256 (W.alloc (.cells #[.int .u8 (a : Int), .int .u8 (b : Int), .int .u8 (c : Int), .int .u8 (d : Int)] 5)) (W.alloc (.cells #[.int .u8 (a : Int), .int .u8 (b : Int), .int .u8 (c : Int), .int .u8 (d : Int)] 5)).heap.size (some ⟨B, 0, none⟩) [a, b, c, d] := by
  subst hB
  have hk : Blk (W.alloc (.cells #[.int .u8 (a : Int), .int .u8 (b : Int), .int .u8 (c : Int), .int .u8 (d : Int)] 5)) W.heap.size 5 #[.int .u8 (a : Int), .int .u8 (b : Int), .int .u8 (c : Int), .int .u8 (d : Int)] := Blk.new _ _ _
  intro i z hz
  refine ⟨?_, W.heap.size, 0, rfl, hk.lt, ?_⟩
  · rcases i with _ | _ | _ | _ | i <;> simp at hz <;> omega
  · rw [Nat.zero_add, hk.cell]
    rcases i with _ | _ | _ | _ | i <;> simp at hz <;> subst hz <;> rfl
theorem get_at (c : Cr) (hc : c.Ok) (n i : Nat) (h : csrI n = i) (h0 : i ≠ 0) (w : World) : Calls Tryd.prog 15 #[.agg (crC c), .int .u16 (n : Int)] w fun e w' => e = .returned (.tuple #[.int .u32 ((c.g i : Nat) : Int), .bool true]) ∧ Below w.heap.size w w' := by
  have hg := get_any c hc n w
  rw [show csrG c n = (c.g i, true) by unfold csrG; rw [h, if_pos h0]] at hg
  exact hg
theorem ly_mm {w w' : World} {B g m b1 b2 b4 : Nat} {v : SpV} {st : Int} {p l1 : List Nat} (h : Ly w B g m b1 b2 b4 v st p l1) (hf : Frm [g] w w') : Mm w' m b1 b2 b4 l1 z4k z64 := by
  have n1 : g ≠ b1 := h.ng
  have n2 : g ≠ b2 := Blk.ne h.sp h.ms.mm.k2 (by decide)
  have n4 : g ≠ b4 := Blk.ne h.sp h.ms.mm.k4 (by decide)
  have nm : g ≠ m := by
    rintro rfl
    have h2 := h.ms.mm.c1
    have hr : (spL v)[2]? = some (.slice (some ⟨b1, 0, none⟩) 4096 4096) := by
      rw [Blk.cell h.sp, List.getElem?_toArray] at h2
      exact h2
    have hl := h.ok.rl
    rw [spL, List.getElem?_cons_succ, List.getElem?_append_left (by rw [v8_length]; omega)] at hr
    unfold v8 at hr
    rw [List.getElem?_map] at hr
    obtain ⟨y, -, hy⟩ := Option.map_eq_some_iff.1 hr
    exact nomatch hy
  exact h.ms.mm.frm hf (by simp; omega) (by simp; omega) (by simp; omega) (by simp; omega)
theorem _root_.Go.Proofs.YtfiojpdkbckopaaDoor.Spc.Sw.off {w w' : World} {g f pf cc p b x : Nat} {v : SpV} {F vs : List Nat} {ls : List Bool} {sd : Bool} {D : Array Value} (h : Sw w g f pf cc p b v F vs ls sd) (kx : Blk w x 34 D) (hf : Frm [x] w w') : Sw w' g f pf cc p b v F vs ls sd := by
  obtain ⟨T, k1, k2⟩ := h.hF
  obtain ⟨_, _, k3⟩ := h.hC.fz.head
  obtain ⟨_, k4, _⟩ := h.hC.fz.row
  have n0 : x ≠ g := Blk.ne kx h.sp (by decide)
  have n1 : x ≠ f := Blk.ne kx k1 (by decide)
  have n2 : x ≠ pf := Blk.ne kx k2 (by decide)
  have n3 : x ≠ cc := Blk.ne kx h.hC.head (by decide)
  have n4 : x ≠ p := Blk.ne kx k3 (by decide)
  have n5 : x ≠ b := Blk.ne kx k4 (by decide)
  exact ⟨h.ok, Blk.frm h.sp hf (by simp; omega), h.fl, h.ch, ⟨T, k1.frm hf (by simp; omega), k2.frm hf (by simp; omega)⟩, h.fb, h.fn, h.hC.frm hf (by simp; omega) (by simp; omega) (by simp; omega)⟩
set_option maxRecDepth 100000 in
set_option maxHeartbeats 4000000 in
theorem traps_any (z : Nat) (B : Option Addr) (lenB capB : Nat) (xs : List Nat) (C : Option Addr) (lenC capC : Nat) (ys : List Nat) (tm : Bool) (w : World) (hS : Spans w) (hz : z < 4294967296)
    (hl2 : xs.length = lenB) (hm2 : lenB ≤ maxLen) (hx : Nats .u32 4294967296 w w.heap.size B xs) (hl3 : ys.length = lenC) (hm3 : lenC ≤ maxLen) (hy : Nats .u32 4294967296 w w.heap.size C ys) :
    Calls Tryd.prog 5 #[.int .u32 (z : Int), .slice B lenB capB, .slice C lenC capC, .bool tm] w (TrueB w) := by
  have HS := wall hS
  have HX := wall hx
  have HY := wall hy
  have HZB := wall hz
  have HSA := wall (fun W (h2 : Nats .u32 4294967296 W W.heap.size B xs) (h3 : Nats .u32 4294967296 W W.heap.size C ys) => show Calls Tryd.prog 10 #[.int .u32 536870912, .slice B lenB capB, .slice C lenC capC] W (StartOut (csrs (regs (newC 536870912) xs lenB) ys lenC) W) from start2_any 536870912 (by decide) B lenB capB xs W hl2 hm2 h2 C lenC capC ys hl3 hm3 h3)
  have HOK := wall (csrs_ok (regs_ok (newC_ok (show 536870912 < 4294967296 by decide)) (fun j y hy => (hx j y hy).1) lenB) (fun j y h => (hy j y h).1) lenC)
  have HPC := wall (show (csrs (regs (newC 536870912) xs lenB) ys lenC).g 32 = 536870912 by rw [csrs_32, regs_g (.inr (by decide))]; rfl)
  clear hS hx hy hl2 hl3 hm2 hm3
  obtain ⟨c, hc⟩ : ∃ y, csrs (regs (newC 536870912) xs lenB) ys lenC = y := ⟨_, rfl⟩
  rw [hc] at HSA HOK HPC
  clear hc
  have e1 : (z : Int) % 256 = ((z % 256 : Nat) : Int) := by omega
  have e2 : (z : Int) / 256 % 256 = ((z / 256 % 256 : Nat) : Int) := by omega
  have e3 : (z : Int) / 65536 % 256 = ((z / 65536 % 256 : Nat) : Int) := by omega
  have e4 : (z : Int) / 16777216 = ((z / 16777216 : Nat) : Int) := by omega
  have hz' : (z : Int) < 4294967296 := by omega
  clear hz
  have E1 := wall e1
  have E2 := wall e2
  have E3 := wall e3
  have E4 := wall e4
  clear e1 e2 e3 e4
  go_enter Tryd.func5, Tryd.ntmps5
  go_wp2_with fail
  (with_reducible refine (awake_any _ HS.out).mono ?_); rintro e w1 ⟨rfl, hB1⟩
  have HB1 := wall hB1
  clear hB1
  try simp only [Act.put, List.setIfInBounds_toArray, List.set_cons_zero, List.set_cons_succ]
  go_wp2_with fail
  rw [E1.out, E2.out, E3.out, E4.out]
  have HPN := wall (w4_blk w1 (B := w1.heap.size) (a := z % 256) (b := z / 256 % 256) (c := z / 65536 % 256) (d := z / 16777216) rfl (by omega) (by omega) (by omega) (by have := HZB.out; omega))
  have HB2 := wall (below_then HB1.out ((Below.refl _ w1).alloc (Nat.le_refl _) (.cells #[.int .u8 ((z % 256 : Nat) : Int), .int .u8 ((z / 256 % 256 : Nat) : Int), .int .u8 ((z / 65536 % 256 : Nat) : Int), .int .u8 ((z / 16777216 : Nat) : Int)] 5)) (Nat.le_refl _))
  generalize w1.alloc (.cells #[.int .u8 ((z % 256 : Nat) : Int), .int .u8 ((z / 256 % 256 : Nat) : Int), .int .u8 ((z / 65536 % 256 : Nat) : Int), .int .u8 ((z / 16777216 : Nat) : Int)] 5) = w2 at *
  obtain ⟨q, hq⟩ : ∃ q, [z % 256, z / 256 % 256, z / 65536 % 256, z / 16777216] = q := ⟨_, rfl⟩
  have HQL := wall (show q.length = 4 by rw [← hq]; rfl)
  rw [hq] at HPN
  clear hq E1 E2 E3 E4
  have HLY := wall (show Calls Tryd.prog 9 #[.int .u8 1, .slice (some ⟨w1.heap.size, 0, none⟩) 4 4] w2 (LayOut2 1 (q.take 1024) w2) from lay2_any 1 (by decide) (some ⟨w1.heap.size, 0, none⟩) 4 4 q w2 (HS.out.old HB2.out) HQL.out (by decide) HPN.out)
  rw [show q.take 1024 = q from List.take_of_length_le (by rw [HQL.out]; decide)] at HLY
  (with_reducible refine (HLY.out).mono ?_); rintro e w4 ⟨g, m, b1, b2, b4, v, rfl, hLy, hB4, f, pf, cc, pp, bb, hSw⟩
  have HB4 := wall (below_then HB2.out hB4 (Nat.le_refl _))
  have HGW := wall (show w.heap.size ≤ g from Nat.le_trans HB2.out.size hLy.hg)
  have HLY2 := wall hLy
  have HSW := wall hSw
  have HS4 := wall (HS.out.old HB4.out)
  have HX4 := wall (nats_step HX.out HB4.out)
  have HY4 := wall (nats_step HY.out HB4.out)
  clear hLy hSw hB4 HLY HPN HB1 HX HY
  try simp only [Act.put, List.setIfInBounds_toArray, List.set_cons_zero, List.set_cons_succ]
  go_wp2_with fail
  (with_reducible refine (HSA.out _ HX4.out HY4.out).mono ?_); rintro e w5 ⟨rfl, hB5⟩
  have HB5 := wall hB5
  clear hB5 HSA HX4 HY4
  have HZ := wall cr_zero
  have HZR := wall ref_zero
  have HE := wall ev_zero
  have HRZ := wall (show Rc (crC crZ) crZ from ⟨crZ_ok, rfl⟩)
  have HRC := wall (show Rc (crC c) c from ⟨HOK.out, rfl⟩)
  have HRR := wall (show (Tryd.prog.info? 37).map (·.size) = some (crC c).size from by rw [crC_size HOK.out]; exact ref_info)
  have HSTA := wall (fun W (h : Sw W g f pf cc pp bb v erased z64 f64 false) (hs : Spans W) => step_any c HOK.out tm W g f pf cc pp bb v erased z64 f64 false h hs (.inl HLY2.out.vs))
  have HTR := wall (trr_step v erased z64 f64 c tm)
  have HRO := wall (step_ok (v := v) (F := erased) (vs := z64) (ls := f64) (c := c) (tm := tm) HOK.out HLY2.out.ok HSW.out.fn HSW.out.fb)
  obtain ⟨R, hR⟩ : ∃ R, stepR v erased z64 f64 c tm = R := ⟨_, rfl⟩
  obtain ⟨II, hII⟩ : ∃ y, stepI v c = y := ⟨_, rfl⟩
  rw [hR] at HSTA HTR HRO
  rw [hII] at HSTA
  clear hR hII
  unfold DoOut at HSTA
  obtain ⟨D, hD⟩ : ∃ y, crC c = y := ⟨_, rfl⟩
  obtain ⟨Z, hZ⟩ : ∃ y, crC crZ = y := ⟨_, rfl⟩
  obtain ⟨E, hE⟩ : ∃ y, evZ = y := ⟨_, rfl⟩
  have HDD := wall hD
  have HEQ := wall hE
  rw [hD]
  rw [hD] at HRC HRR HSTA
  rw [hZ] at HZ HZR HRZ
  rw [hE] at HE
  clear hD hZ hE
  try simp only [Act.put, List.setIfInBounds_toArray, List.set_cons_zero, List.set_cons_succ]
  go_wp2_with (first | (refine wpList_two_new 34 37 11 12 (.tmp 53) (.tmp 54) rfl rfl rfl rfl rfl rfl rfl rfl rfl rfl rfl rfl Z Z D D HZ.out HZR.out w5.heap.size rfl rfl rfl rfl rfl (HRC.out.row HRZ.out) ⟨HRR.out, HRC.out.sz HRZ.out, HRC.out.one⟩ ?_; intro w6 K6 K6r F6; clear K6r; simp only [Act.put, List.setIfInBounds_toArray, List.set_cons_zero, List.set_cons_succ]) | (refine wpList_load_row rfl 34 _ rfl w5.heap.size rfl 34 D (0, 0) _ K6.out Tryd.underlying34 rfl HRC.out.info ?_))
  have HB6 := wall (below_then HB5.out F6.out (Nat.le_refl _))
  have HLY6 := wall (HLY2.out.old HB6.out)
  have HSW6 := wall (HSW.out.old HB6.out)
  have HS6 := wall (HS4.out.old HB6.out)
  have HBA := wall (below_then HB4.out HB6.out (Nat.le_refl _))
  have HG5 := wall (show g < w5.heap.size from Nat.lt_of_lt_of_le HSW.out.lts.1 HB5.out.size)
  clear F6 HB5 HB6 HLY2 HSW HS4
  (with_reducible refine (HSTA.out _ HSW6.out HS6.out).mono ?_); rintro e w7 ⟨A7, n7, c7, rfl, hSp7, hF7, -⟩
  obtain ⟨g5, hg5⟩ : ∃ y, w5.heap.size = y := ⟨_, rfl⟩
  rw [hg5] at K6 HG5
  try rw [hg5]
  have h5 := HG5.out
  have K7 := wall (K6.out.frm hF7 (by simp; omega))
  have HF7 := wall hF7
  have HSP7 := wall hSp7
  have HW7 := wall (show w.heap.size ≤ w7.heap.size from Nat.le_trans HBA.out.size HF7.out.size)
  clear hF7 hSp7 hg5 h5 K6 HSTA
  have HRE := wall (show Re (evW R.t II R.a A7 n7 c7) R.t.isSome (match R.t with | some k => k | none => 0) from by
    unfold evW
    cases R.t with
    | none => exact Re.of _ _ _ _ _ _ _
    | some k => exact Re.of _ _ _ _ _ _ _)
  have HRR2 := wall (show Rc (crC R.c) R.c from ⟨HRO.out, rfl⟩)
  obtain ⟨V, hV⟩ : ∃ y, evW R.t II R.a A7 n7 c7 = y := ⟨_, rfl⟩
  obtain ⟨D1, hD1⟩ : ∃ y, crC R.c = y := ⟨_, rfl⟩
  have HD1 := wall hD1
  rw [hV] at HRE ⊢
  rw [hD1] at HRR2 ⊢
  clear hV hD1
  try simp only [Act.put, List.setIfInBounds_toArray, List.set_cons_zero, List.set_cons_succ]
  go_upto_region 6 with (refine wpList_two_new 34 44 13 14 (.tmp 60) (.tmp 61) rfl rfl rfl rfl rfl rfl rfl rfl rfl rfl rfl rfl Z E D1 V HZ.out HE.out w7.heap.size rfl rfl rfl rfl rfl (HRR2.out.row HRZ.out) (HRE.out.row HEQ.out.symm) ?_; intro w8 K8 V8 F8; simp only [Act.put, List.setIfInBounds_toArray, List.set_cons_zero, List.set_cons_succ])
  have K9 := wall (K7.out.next F8.out rfl)
  have HF8 := wall (HF7.out.trans (Frm.of_below F8.out))
  have HSP8 := wall (HSP7.out.old F8.out)
  have kv0 : w8.cell? ⟨w7.heap.size + 1, 0, none⟩ = some (.bool R.t.isSome) := by rw [V8.out.cell]; exact HRE.out.v0
  clear F8 K7 HF7 HSP7
  cases hrt : R.t with
  | none =>
    rw [hrt] at kv0
    have kv0' : w8.cell? ⟨w7.heap.size + 1, 0, none⟩ = some (.bool false) := kv0
    have HBF := wall (show Below w.heap.size w w8 from Below.frm HBA.out HF8.out (by exact Nat.le_refl _) (by simp; exact HGW.out))
    clear kv0
    go_wp2_with fail
    go_light
    go_ret
    exact ⟨rfl, HBF.out⟩
  | some k =>
    obtain ⟨x, rfl⟩ := HTR.out k hrt
    clear hrt
    have kv0' : w8.cell? ⟨w7.heap.size + 1, 0, none⟩ = some (.bool true) := kv0
    have kv1 : w8.cell? ⟨w7.heap.size + 1, 1, none⟩ = some (.int .u32 (k : Int)) := by rw [V8.out.cell]; exact HRE.out.v1
    have HV1 := wall (show V[1]? = some (.int .u32 (k : Int)) from HRE.out.v1)
    clear kv0 kv1 HTR HRE
    have HGT := wall (trap_all c tm HOK.out.len k x HPC.out)
    have HTK := wall (Tm.trap_take c tm k x)
    have HRO' := wall (show (trapC (c.time tm) k x).Ok from HRO.out)
    have HDT := wall (show crC (trapC (c.time tm) k x) = D1 from HD1.out)
    have HRT := wall (show Rc D1 (trapC (c.time tm) k x) from HRR2.out)
    have HSP8' := wall (show Sp w8 g v from HSP8.out)
    clear HRO HD1 HRR2 HSP8
    obtain ⟨ct, hct⟩ : ∃ y, trapC (c.time tm) k x = y := ⟨_, rfl⟩
    rw [hct] at HGT HTK HRO' HDT HRT
    clear hct
    have HB8 := wall (Below.frm HBA.out HF8.out (Nat.le_refl _) (by simp; exact HGW.out))
    obtain ⟨s, hs⟩ : ∃ s, c.g 33 = s := ⟨_, rfl⟩
    obtain ⟨u, hu⟩ : ∃ u, c.g 35 = u := ⟨_, rfl⟩
    obtain ⟨n, hn⟩ : ∃ n, s / 8 % 2 * 128 = n := ⟨_, rfl⟩
    rw [hs, hu, hn] at HGT
    have HG1 := wall (fun W => show Calls Tryd.prog 15 #[.agg D, .int .u16 768] W (fun e w' => e = .returned (.tuple #[.int .u32 (s : Int), .bool true]) ∧ Below W.heap.size W w') from by
      have h := get_at c HOK.out 768 33 rfl (by decide) W
      rw [hs, HDD.out] at h
      exact h)
    have HG2 := wall (fun W => show Calls Tryd.prog 15 #[.agg D, .int .u16 773] W (fun e w' => e = .returned (.tuple #[.int .u32 (u : Int), .bool true]) ∧ Below W.heap.size W w') from by
      have h := get_at c HOK.out 773 35 rfl (by decide) W
      rw [hu, HDD.out] at h
      exact h)
    have HG3 := wall (fun W => show Calls Tryd.prog 15 #[.agg D1, .int .u16 768] W (fun e w' => e = .returned (.tuple #[.int .u32 (n : Int), .bool true]) ∧ Below W.heap.size W w') from by
      have h := get_at ct HRO'.out 768 33 rfl (by decide) W
      rw [HGT.out.2.1, HDT.out] at h
      exact h)
    have HG4 := wall (fun W => show Calls Tryd.prog 15 #[.agg D1, .int .u16 833] W (fun e w' => e = .returned (.tuple #[.int .u32 536870912, .bool true]) ∧ Below W.heap.size W w') from by
      have h := get_at ct HRO'.out 833 37 rfl (by decide) W
      rw [HGT.out.2.2.1, HDT.out] at h
      exact h)
    have HG5 := wall (fun W => show Calls Tryd.prog 15 #[.agg D1, .int .u16 834] W (fun e w' => e = .returned (.tuple #[.int .u32 (k : Int), .bool true]) ∧ Below W.heap.size W w') from by
      have h := get_at ct HRO'.out 834 38 rfl (by decide) W
      rw [HGT.out.2.2.2.1, HDT.out] at h
      exact h)
    have HSN := wall hn
    have HSB := wall (show s < 4294967296 by rw [← hs]; exact HOK.out.g 33)
    clear hs hu hn
    go_wp2_with (refine wpList_load_row rfl 34 _ rfl g5 rfl 34 D (0, 0) _ K9.out Tryd.underlying34 rfl HRC.out.info ?_)
    (with_reducible refine (HG1.out _).mono ?_); rintro e w9 ⟨rfl, hB9⟩
    have K9a := wall (K9.out.next hB9 rfl)
    have HC9 := wall hB9
    clear hB9 HG1
    try simp only [Act.put, List.setIfInBounds_toArray, List.set_cons_zero, List.set_cons_succ]
    go_wp2_with (refine wpList_load_row rfl 34 _ rfl g5 rfl 34 D (0, 0) _ K9a.out Tryd.underlying34 rfl HRC.out.info ?_)
    (with_reducible refine (HG2.out _).mono ?_); rintro e w10 ⟨rfl, hB10⟩
    have HC10 := wall (below_then HC9.out hB10 (Nat.le_refl _))
    have K8a := wall (K8.out.next HC10.out rfl)
    clear hB10 HG2 K9a HC9
    try simp only [Act.put, List.setIfInBounds_toArray, List.set_cons_zero, List.set_cons_succ]
    go_wp2_with (refine wpList_load_row rfl 34 _ rfl w7.heap.size rfl 34 D1 (0, 0) _ K8a.out Tryd.underlying34 rfl HRT.out.info ?_)
    (with_reducible refine (HG3.out _).mono ?_); rintro e w11 ⟨rfl, hB11⟩
    have HC11 := wall (below_then HC10.out hB11 (Nat.le_refl _))
    have K8b := wall (K8.out.next HC11.out rfl)
    clear hB11 HG3 K8a HC10
    try simp only [Act.put, List.setIfInBounds_toArray, List.set_cons_zero, List.set_cons_succ]
    go_wp2_with (refine wpList_load_row rfl 34 _ rfl w7.heap.size rfl 34 D1 (0, 0) _ K8b.out Tryd.underlying34 rfl HRT.out.info ?_)
    (with_reducible refine (HG4.out _).mono ?_); rintro e w12 ⟨rfl, hB12⟩
    have HC12 := wall (below_then HC11.out hB12 (Nat.le_refl _))
    have K8c := wall (K8.out.next HC12.out rfl)
    clear hB12 HG4 K8b HC11
    try simp only [Act.put, List.setIfInBounds_toArray, List.set_cons_zero, List.set_cons_succ]
    go_wp2_with (refine wpList_load_row rfl 34 _ rfl w7.heap.size rfl 34 D1 (0, 0) _ K8c.out Tryd.underlying34 rfl HRT.out.info ?_)
    (with_reducible refine (HG5.out _).mono ?_); rintro e w13 ⟨rfl, hB13⟩
    have HC13 := wall (below_then HC12.out hB13 (Nat.le_refl _))
    clear hB13 HG5 K8c HC12
    try simp only [Act.put, List.setIfInBounds_toArray, List.set_cons_zero, List.set_cons_succ]
    have K8d := wall (K8.out.next HC13.out rfl)
    have K9d := wall (K9.out.next HC13.out rfl)
    have V8d := wall (V8.out.next HC13.out rfl)
    have HB13 := wall (below_then HB8.out HC13.out (Nat.le_refl _))
    have HF13 := wall (HF8.out.trans (Frm.of_below HC13.out))
    have HSP13 := wall (HSP8'.out.old HC13.out)
    have HME := wall (memory_any g m b1 b2 b4 v (splice z4k 0 q) z4k z64 w13 HLY6.out.ok HSP13.out (ly_mm HLY6.out HF13.out) (by rw [HLY6.out.vr]; exact ram_take (by rw [HQL.out]; decide)) (by rw [HLY6.out.vr]; exact ram_drop (by rw [HQL.out]; decide)) HLY6.out.vp)
    clear K8 K9 V8 HC13 HSP8' HF8 HB8 kv0'
    have kv1 : w13.cell? ⟨w7.heap.size + 1, 1, none⟩ = some (.int .u32 (k : Int)) := by rw [V8d.out.cell]; exact HV1.out
    have k32 : w13.cell? ⟨w7.heap.size, 32, none⟩ = some (.int .u32 (u : Int)) := by rw [HRT.out.cell K8d.out (by decide), HGT.out.1]
    have HXI := wall (show (Tryd.prog.info? 30).map (·.size) = some (x32 (c.l.take 32)).length by
      rw [show (x32 (c.l.take 32)).length = 32 by simp only [x32, List.length_map]; exact regs_len HOK.out]
      kernel_rfl)
    have HAQ := wall (fun W => eq_same W 30 (c.l.take 32) (regs_len HOK.out) Tryd.underlying30)
    have hr1 := wall (regs_range (c := c) (show Blk w13 g5 34 (crC c) by rw [HDD.out]; exact K9d.out) HOK.out)
    have hr2 := wall (regs_range (c := ct) (show Blk w13 w7.heap.size 34 (crC ct) by rw [HDT.out]; exact K8d.out) HRO'.out)
    rw [HTK.out] at hr2
    obtain ⟨XL, hXL⟩ : ∃ y, x32 (c.l.take 32) = y := ⟨_, rfl⟩
    rw [hXL] at HXI HAQ hr1 hr2
    have heq := HAQ.out
    clear hXL
    have hn1 : (n : Int) / 8 % 2 = 0 := by have := HSN.out; omega
    have hn2 : (n : Int) / 128 % 2 = (s : Int) / 8 % 2 := by have := HSN.out; omega
    go_upto_region 14 with (first | refine load_mid_g (by rfl) 30 _ rfl w7.heap.size 0 rfl XL _ hr2.out Tryd.underlying30 rfl HXI.out ?_ | refine load_mid_g (by rfl) 30 _ rfl g5 0 rfl XL _ hr1.out Tryd.underlying30 rfl HXI.out ?_)
    (with_reducible refine (HME.out).mono ?_); rintro e w14 ⟨rfl, hB14⟩
    have HB14 := wall (below_then HB13.out hB14 (Nat.le_refl _))
    have K14 := wall (K8d.out.next hB14 rfl)
    clear hB14 kv1 k32 HXI HAQ hr1 hr2 heq hn1 hn2 HME HF13 HSP13 K8d K9d V8d HB13 HLY6 HV1 HTK HDD HRC HRR HBA HSW6 HS6
    try simp only [Act.put, List.setIfInBounds_toArray, List.set_cons_zero, List.set_cons_succ]
    go_wp2_with fail
    have HQK := wall (show Blk (w14.alloc (.cells #[.int .u8 41, .int .u8 0, .int .u8 0, .int .u8 0, .int .u32 0, .int .u16 0] 42)) w14.heap.size 42 (([Tp.mI]).flatMap fun q => (inC q).toList).toArray ∧ Below w14.heap.size w14 (w14.alloc (.cells #[.int .u8 41, .int .u8 0, .int .u8 0, .int .u8 0, .int .u32 0, .int .u16 0] 42)) from ⟨Blk.new _ _ _, (Below.refl _ w14).alloc (Nat.le_refl _) _⟩)
    generalize w14.alloc (.cells #[.int .u8 41, .int .u8 0, .int .u8 0, .int .u8 0, .int .u32 0, .int .u16 0] 42) = w15 at *
    have HB15 := wall (below_then HB14.out HQK.out.2 (Nat.le_refl _))
    have K15 := wall (K14.out.next HQK.out.2 rfl)
    have HCO := wall (fun n (h : n = w14.heap.size) => code_any (some ⟨n, 0, none⟩) 1 1 [Tp.mI] w15 rfl (by decide) (by rw [h]; exact ins_blk HQK.out.1 Tp.m_ok HQK.out.1.lt))
    have HTL := wall (codeL_lt [Tp.mI])
    have HLL := wall (show (codeL [Tp.mI]).length = 4 from codeL_length [Tp.mI])
    obtain ⟨L, hL⟩ : ∃ y, codeL [Tp.mI] = y := ⟨_, rfl⟩
    have HLE := wall hL
    rw [hL] at HCO HTL HLL
    clear hL HQK HB14 K14
    (with_reducible refine (HCO.out _ rfl).mono ?_); rintro e w16 ⟨v0, rfl, hO, hB16⟩
    obtain ⟨A, cA, rfl, -, hPN, -⟩ := own_nats hO HTL.out
    have hLN : L.length = 4 := HLL.out
    rw [hLN]
    have HPN := wall hPN
    have HB16 := wall (below_then HB15.out hB16 (Nat.le_refl _))
    have K16 := wall (K15.out.next hB16 rfl)
    clear hO hB16 hPN HCO HB15 K15
    try simp only [Act.put, List.setIfInBounds_toArray, List.set_cons_zero, List.set_cons_succ]
    go_wp2_with fail
    have HLZ := wall (show Calls Tryd.prog 9 #[.int .u8 1, .slice A 4 cA] w16 (LayOut2 1 (L.take 1024) w16) from lay2_any 1 (by decide) A 4 cA L w16 (HS.out.old HB16.out) HLL.out (by decide) HPN.out)
    rw [show L.take 1024 = L from List.take_of_length_le (by rw [hLN]; decide)] at HLZ
    (with_reducible refine (HLZ.out).mono ?_); rintro e w17 ⟨g', m', c1, c2, c4, v', rfl, hLz, hB17, f', pf', cc', pp', bb', hSz⟩
    have HB17 := wall (below_then HB16.out hB17 (Nat.le_refl _))
    have K17 := wall (K16.out.next hB17 rfl)
    have HGW2 := wall (show w.heap.size ≤ g' from Nat.le_trans HB16.out.size hLz.hg)
    have HSZ := wall hSz
    have HVS := wall (And.intro hLz.vs hLz.vr)
    clear hB17 hLz hSz HLZ HB16 K16 HPN hLN HTL
    try simp only [Act.put, List.setIfInBounds_toArray, List.set_cons_zero, List.set_cons_succ]
    have kk : w17.cell? ⟨w7.heap.size, 32, none⟩ = some (.int .u32 (u : Int)) := by rw [HRT.out.cell K17.out (by decide), HGT.out.1]
    have hfz := K17.out.frozen
    go_upto_region 17 with fail
    clear kk hfz
    have HK18 := wall (show Blk (w17.setCell ⟨w7.heap.size, 32, none⟩ (.int .u32 536870912)) w7.heap.size 34 (crC (ct.set 32 536870912)) ∧ Below w.heap.size w (w17.setCell ⟨w7.heap.size, 32, none⟩ (.int .u32 536870912)) ∧ Frm [w7.heap.size] w17 (w17.setCell ⟨w7.heap.size, 32, none⟩ (.int .u32 536870912)) from by
      refine ⟨?_, HB17.out.setCell (p := ⟨w7.heap.size, 32, none⟩) HW7.out _, (Frm.refl _ _).setCell (p := ⟨w7.heap.size, 32, none⟩) (.inl (by simp)) _⟩
      have h := K17.out.set 32 (.int .u32 ((536870912 : Nat) : Int))
      rw [← HDT.out, crC_set HRO'.out (by decide)] at h
      exact h)
    generalize w17.setCell ⟨w7.heap.size, 32, none⟩ (.int .u32 536870912) = w18 at *
    have HSW18 := wall (HSZ.out.off K17.out HK18.out.2.2)
    have HS18 := wall (HS.out.old HK18.out.2.1)
    have HCO2 := wall (HRO'.out.set 32 536870912 (by decide))
    have HL2 := wall (show (ct.set 32 536870912).l.length = 41 ∧ (ct.set 32 536870912).g 37 = 536870912 ∧ (ct.set 32 536870912).g 33 = n ∧ (ct.set 32 536870912).g 32 = 536870912 from by
      have hl := HGT.out.2.2.2.2
      exact ⟨by rw [Cr.set_len]; exact hl, by rw [Cr.g_set_ne (by decide)]; exact HGT.out.2.2.1, by rw [Cr.g_set_ne (by decide)]; exact HGT.out.2.1, Cr.g_set (by omega)⟩)
    obtain ⟨d, hd⟩ : ∃ y, ct.set 32 536870912 = y := ⟨_, rfl⟩
    rw [hd] at HK18 HCO2 HL2
    clear hd HSZ HB17 K17
    have HST2 := wall (step_any d HCO2.out false w18 g' f' pf' cc' pp' bb' v' erased z64 f64 false HSW18.out HS18.out (.inl HVS.out.1))
    have HOB := wall (step_ok (v := v') (F := erased) (vs := z64) (ls := f64) (c := d) (tm := false) HCO2.out HSW18.out.ok HSW18.out.fn HSW18.out.fb)
    have HBK := wall (Tp.back (v := v') (F := erased) (vs := z64) (ls := f64) (d := d) HVS.out.1 (by rw [HVS.out.2, HLE.out]) HL2.out.2.2.2)
    have HBG := wall (Tp.back_g d HL2.out.1 HL2.out.2.1)
    rw [HBK.out] at HST2 HOB
    rw [HL2.out.2.2.1] at HBG
    obtain ⟨cb, hcb⟩ : ∃ y, retC (d.time false) = y := ⟨_, rfl⟩
    obtain ⟨I2, hI2⟩ : ∃ y, stepI v' d = y := ⟨_, rfl⟩
    rw [hcb] at HST2 HOB HBG
    rw [hI2] at HST2
    clear hcb hI2 HBK HLE HVS
    have HRB := wall (show Rc (crC cb) cb from ⟨HOB.out, rfl⟩)
    have HRD := wall (show Rc (crC d) d from ⟨HCO2.out, rfl⟩)
    obtain ⟨l, hl⟩ : ∃ l, cb.g 33 = l := ⟨_, rfl⟩
    rw [hl] at HBG
    obtain ⟨D3, hD3⟩ : ∃ y, crC cb = y := ⟨_, rfl⟩
    obtain ⟨D2, hD2⟩ : ∃ y, crC d = y := ⟨_, rfl⟩
    have HG6 := wall (fun W => show Calls Tryd.prog 15 #[.agg D3, .int .u16 768] W (fun e w' => e = .returned (.tuple #[.int .u32 (l : Int), .bool true]) ∧ Below W.heap.size W w') from by
      have h := get_at cb HOB.out 768 33 rfl (by decide) W
      rw [hl, hD3] at h
      exact h)
    unfold DoOut at HST2
    rw [hD3] at HST2 HRB
    rw [hD2] at HST2 HRD HK18
    clear hD3 hD2 hl
    go_wp2_with (refine wpList_load_row rfl 34 _ rfl w7.heap.size rfl 34 D2 (0, 0) _ HK18.out.1 Tryd.underlying34 rfl HRD.out.info ?_)
    (with_reducible refine (HST2.out).mono ?_); rintro e w19 ⟨A9, n9, c9, rfl, -, hF19, -⟩
    have HB19 := wall (Below.frm HK18.out.2.1 hF19 (Nat.le_refl _) (by simp; exact HGW2.out))
    have HRE2 := wall (show Re (evW none I2 0 A9 n9 c9) false 0 from Re.of _ _ _ _ _ _ _)
    obtain ⟨V2, hV2⟩ : ∃ y, evW none I2 0 A9 n9 c9 = y := ⟨_, rfl⟩
    rw [hV2] at HRE2 ⊢
    clear hV2 hF19 HST2 HK18 HSW18 HS18
    try simp only [Act.put, List.setIfInBounds_toArray, List.set_cons_zero, List.set_cons_succ]
    go_upto_region 18 with (refine wpList_two_new 34 44 27 28 (.tmp 144) (.tmp 145) rfl rfl rfl rfl rfl rfl rfl rfl rfl rfl rfl rfl Z E D3 V2 HZ.out HE.out w19.heap.size rfl rfl rfl rfl rfl (HRB.out.row HRZ.out) (HRE2.out.row HEQ.out.symm) ?_; intro w20 K20 V20 F20; simp only [Act.put, List.setIfInBounds_toArray, List.set_cons_zero, List.set_cons_succ])
    have HB20 := wall (below_then HB19.out F20.out (Nat.le_refl _))
    clear F20 HB19
    go_wp2_with (refine wpList_load_row rfl 34 _ rfl w19.heap.size rfl 34 D3 (0, 0) _ K20.out Tryd.underlying34 rfl HRB.out.info ?_)
    (with_reducible refine (HG6.out _).mono ?_); rintro e w21 ⟨rfl, hB21⟩
    have HB21 := wall (below_then HB20.out hB21 (Nat.le_refl _))
    have K21 := wall (K20.out.next hB21 rfl)
    have V21 := wall (V20.out.next hB21 rfl)
    clear hB21 HB20 K20 V20 HG6
    try simp only [Act.put, List.setIfInBounds_toArray, List.set_cons_zero, List.set_cons_succ]
    have k1 : w21.cell? ⟨w19.heap.size + 1, 0, none⟩ = some (.bool false) := by rw [V21.out.cell]; exact HRE2.out.v0
    have k2 : w21.cell? ⟨w19.heap.size, 32, none⟩ = some (.int .u32 536870912) := by rw [HRB.out.cell K21.out (by decide), HBG.out.1]; rfl
    have hl8 : (l : Int) / 8 % 2 = (s : Int) / 8 % 2 := by have := HBG.out.2; have := HSN.out; omega
    go_wp2_with fail
    go_light
    go_ret
    exact ⟨rfl, HB21.out⟩
end Core
end Go.Proofs.YtfiojpdkbckopaaDoor

/-
  CoreTraps, its arguments as the law's frame gives them.
-/
set_option linter.unusedSimpArgs false
set_option linter.unusedVariables false
namespace Go.Proofs.YtfiojpdkbckopaaDoor
open Go.RowKit

namespace Core
open Otp Sha R1 Spc Grant Rv
theorem traps_frame (z : Int) (B : Option Addr) (lb cb : Nat) (xs : List Nat) (C : Option Addr) (lc cc : Nat) (ys : List Nat) (tm : Bool) (w : World) (hS : Spans w) (h1 : (Lit.int .u32 z).wf = true)
    (hl2 : xs.length = lb) (hm2 : lb ≤ maxLen) (hx : Nats .u32 4294967296 w w.heap.size B xs) (hl3 : ys.length = lc) (hm3 : lc ≤ maxLen) (hy : Nats .u32 4294967296 w w.heap.size C ys) :
    Calls Tryd.prog 5 #[.int .u32 z, .slice B lb cb, .slice C lc cc, .bool tm] w (TrueB w) := by
  have b1 := bounds_u32 h1
  have e1 : z = ((z.toNat : Nat) : Int) := by omega
  rw [e1]
  exact traps_any z.toNat B lb cb xs C lc cc ys tm w hS (by omega) hl2 hm2 hx hl3 hm3 hy
end Core
end Go.Proofs.YtfiojpdkbckopaaDoor
