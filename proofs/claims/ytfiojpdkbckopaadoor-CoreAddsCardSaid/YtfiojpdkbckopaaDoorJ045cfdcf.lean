/-
  Texts of this claim, joined: CorTm, CorAp, CorAd.
-/
import Derived.Test.YtfiojpdkbckopaaDoorCorF
import Derived.Test.YtfiojpdkbckopaaDoorCorR
import Derived.Test.YtfiojpdkbckopaaDoorCorS
import Derived.Test.YtfiojpdkbckopaaDoorRvJ
import Derived.Test.YtfiojpdkbckopaaDoorJa4d94a7c
import Derived.Test.YtfiojpdkbckopaaDoorCorL
import Derived.Test.YtfiojpdkbckopaaDoorJ3e3727c1
set_option linter.unusedVariables false
/-
  The timer's law (CoreTimer): its cores, and the program's words. No walk.
-/
set_option linter.unusedSimpArgs false
set_option linter.unusedVariables false
namespace Go.Proofs.YtfiojpdkbckopaaDoor
open Go.RowKit

namespace Core
open Otp Sha Rv R1 Grant Spc
theorem Cr.g_set {c : Cr} {i v : Nat} (h : i < c.l.length) : (c.set i v).g i = v := by
  unfold Cr.set Cr.g
  simp [h]
theorem Cr.set_len (c : Cr) (i v : Nat) : (c.set i v).l.length = c.l.length := by simp [Cr.set]
theorem Cr.g_time (c : Cr) (t : Bool) (i : Nat) : (c.time t).g i = c.g i := rfl
theorem Cr.time_len (c : Cr) (t : Bool) : (c.time t).l.length = c.l.length := rfl
theorem regs_g {c : Cr} {xs : List Nat} {j : Nat} (hj : j = 0 ∨ 32 ≤ j) : ∀ k, (regs c xs k).g j = c.g j
  | 0 => rfl
  | k + 1 => by
    unfold regs
    split
    · split
      · rw [Cr.g_set_ne (by omega)]
        exact regs_g hj k
      · exact regs_g hj k
    · exact regs_g hj k
/-- A core as it lies in a variable. -/
structure Rc (D : Array Value) (c : Cr) : Prop where
  ok : c.Ok
  eq : crC c = D
theorem Rc.info {D : Array Value} {c : Cr} (h : Rc D c) : (Tryd.prog.info? 34).map (·.size) = some D.size := by rw [← h.eq, crC_size h.ok]; exact cr_info
theorem Rc.one {D : Array Value} {c : Cr} (h : Rc D c) : D.all (·.oneCell') = true := by rw [← h.eq]; exact crC_one _
theorem Rc.sz {D Z : Array Value} {c z : Cr} (h : Rc D c) (hz : Rc Z z) : Z.size = D.size := by rw [← h.eq, ← hz.eq, crC_size h.ok, crC_size hz.ok]
theorem Rc.row {D Z : Array Value} {c z : Cr} (h : Rc D c) (hz : Rc Z z) : (Tryd.prog.info? 34).map (·.size) = some D.size ∧ Z.size = D.size ∧ D.all (·.oneCell') = true := ⟨h.info, h.sz hz, h.one⟩
theorem Rc.cell {D : Array Value} {c : Cr} (h : Rc D c) {w : World} {b i : Nat} {t : TypeId} (hb : Blk w b t D) (hi : i < 41) : w.cell? ⟨b, i, none⟩ = some (.int .u32 ((c.g i : Nat) : Int)) := by
  rw [hb.cell, ← h.eq]
  show (crL c).toArray[i]? = _
  rw [List.getElem?_toArray]
  exact crL_get h.ok hi
/-- An event as it lies in a variable. -/
structure Re (V : Array Value) (tr : Bool) (cause : Nat) : Prop where
  info : (Tryd.prog.info? 44).map (·.size) = some V.size
  one : V.all (·.oneCell') = true
  v0 : V[0]? = some (.bool tr)
  v1 : V[1]? = some (.int .u32 (cause : Int))
theorem Re.of (tr : Bool) (cause : Nat) (i : In) (at_ : Nat) (A : Option Addr) (n c : Nat) : Re (evC tr cause i at_ A n c) tr cause := ⟨ev_info, evC_one _ _ _ _ _ _ _, rfl, rfl⟩
theorem Re.row {V E : Array Value} {tr : Bool} {cause : Nat} (h : Re V tr cause) (hE : E = evZ) : (Tryd.prog.info? 44).map (·.size) = some V.size ∧ E.size = V.size ∧ V.all (·.oneCell') = true := ⟨h.info, by
  have h1 := h.info
  rw [ev_info] at h1
  rw [hE, show evZ.size = 10 from rfl]
  exact Option.some.inj h1, h.one⟩
theorem splice_at {p : List Nat} {i x : Nat} (hi : i < p.length) (h : p[i]? = some x) : (splice (List.replicate 8192 0) 0 p)[i]? = some x := by
  unfold splice
  rw [List.take_zero, List.nil_append, List.getElem?_append_left hi]
  exact h
theorem flat_at : ∀ (qs : List In) (i j : Nat) (q : In) (v : Value), qs[i]? = some q → (inC q).toList[j]? = some v → (qs.flatMap fun q => (inC q).toList)[i * 6 + j]? = some v
  | [], i, j, q, v, h, _ => by simp at h
  | q0 :: qs, 0, j, q, v, h, h2 => by
    obtain rfl : q0 = q := by simpa using h
    rw [List.flatMap_cons, List.getElem?_append_left (by have := (List.getElem?_eq_some_iff.1 h2).1; omega), Nat.zero_mul, Nat.zero_add]
    exact h2
  | q0 :: qs, i + 1, j, q, v, h, h2 => by
    have hl : (inC q0).toList.length = 6 := rfl
    rw [List.flatMap_cons, List.getElem?_append_right (by omega), hl, show (i + 1) * 6 + j - 6 = i * 6 + j by omega]
    exact flat_at qs i j q v (by simpa using h) h2
theorem ins_blk {w : World} {b B : Nat} {t : TypeId} {qs : List In} (h : Blk w b t (qs.flatMap fun q => (inC q).toList).toArray) (hok : ∀ q ∈ qs, q.Ok) (hb : b < B) : InsIn w B (some ⟨b, 0, none⟩) qs := fun i q hq =>
  ⟨hok q (List.mem_of_getElem? hq), b, 0, rfl, hb, by
    rw [Nat.zero_add]
    exact h.rangeAt _ _ (fun j v hv => flat_at qs i j q v hq hv)⟩

namespace Tm
def mI : In := ⟨41, 0, 0, 0, 0, 0⟩
def qs (n : Nat) : List In := [addiI 5 0 n, mI]
theorem code_tab : ∀ n : Fin 256, (codeL (qs n.val)).length = 8 ∧ dec (le32 ((codeL (qs n.val)).getD 0 0) ((codeL (qs n.val)).getD 1 0) ((codeL (qs n.val)).getD 2 0) ((codeL (qs n.val)).getD 3 0)) = (addiI 5 0 n.val, true) ∧
    dec (le32 ((codeL (qs n.val)).getD 4 0) ((codeL (qs n.val)).getD 5 0) ((codeL (qs n.val)).getD 6 0) ((codeL (qs n.val)).getD 7 0)) = (mI, true) := by decide +kernel
theorem qs_ok {n : Nat} (hn : n < 256) : ∀ q ∈ qs n, q.Ok := fun q hq => by
  simp only [qs, List.mem_cons, List.not_mem_nil, or_false] at hq
  rcases hq with rfl | rfl
  · exact ⟨by show (19 : Nat) < _; decide, by show (5 : Nat) < _; decide, by show (0 : Nat) < _; decide, by show (0 : Nat) < _; decide, by show n < _; omega, by show (0 : Nat) < _; decide⟩
  · exact ⟨by decide, by decide, by decide, by decide, by decide, by decide⟩
theorem getD_at {l : List Nat} {i : Nat} (h : i < l.length) : l[i]? = some (l.getD i 0) := by
  rw [List.getD_eq_getElem?_getD, List.getElem?_eq_getElem h]
  rfl
def c3 (xs : List Nat) (ie st : Nat) : Cr := (((regs (newC 536870912) xs xs.length).set 34 (ie / 128 % 2 * 128)).set 33 (st / 8 % 2 * 8 + st / 128 % 2 * 128)).set 35 536870916
theorem newC_len (pc : Nat) : (newC pc).l.length = 41 := by simp [newC, Cr.set, crZ]
theorem c3_g (xs : List Nat) (ie st : Nat) (hr : (regs (newC 536870912) xs xs.length).Ok) : (c3 xs ie st).g 0 = 0 ∧ (c3 xs ie st).g 32 = 536870912 ∧ (c3 xs ie st).g 33 / 8 % 2 = st / 8 % 2 ∧ (c3 xs ie st).g 34 / 128 % 2 = ie / 128 % 2 ∧ (c3 xs ie st).g 35 = 536870916 ∧ (c3 xs ie st).l.length = 41 := by
  have hl := hr.len
  unfold c3
  refine ⟨?_, ?_, ?_, ?_, ?_, ?_⟩
  · rw [Cr.g_set_ne (by decide), Cr.g_set_ne (by decide), Cr.g_set_ne (by decide), regs_g (.inl rfl)]
    rfl
  · rw [Cr.g_set_ne (by decide), Cr.g_set_ne (by decide), Cr.g_set_ne (by decide), regs_g (.inr (by decide))]
    rfl
  · rw [Cr.g_set_ne (by decide), Cr.g_set (by simp [Cr.set_len, hl])]
    omega
  · rw [Cr.g_set_ne (by decide), Cr.g_set_ne (by decide), Cr.g_set (by simp [hl])]
    omega
  · rw [Cr.g_set (by simp [Cr.set_len, hl])]
  · simp [Cr.set_len, hl]
theorem addi_g (c : Cr) (hl : c.l.length = 41) (h0 : c.g 0 = 0) (n : Nat) (hn : n < 256) : (addiC c 5 0 n).g 5 = n ∧ (addiC c 5 0 n).g 32 = (c.g 32 + 4) % 4294967296 := by
  have e : withC c 5 ((c.g 0 + n) % 4294967296) = c.set 5 n := by
    unfold withC
    rw [if_pos (by decide), h0]
    congr 1
    omega
  unfold addiC nextC
  rw [e]
  refine ⟨?_, ?_⟩
  · rw [Cr.g_set_ne (by decide), Cr.g_set_ne (by decide), Cr.g_set (by omega)]
  · rw [Cr.g_set_ne (by decide), Cr.g_set (by simp [Cr.set_len, hl]), Cr.g_set_ne (by decide)]
theorem trap_g (c : Cr) (hl : c.l.length = 41) (a b : Nat) : (trapC c a b).g 0 = c.g 0 ∧ (trapC c a b).g 32 = c.g 35 ∧ (trapC c a b).g 33 / 8 % 2 = 0 ∧ (trapC c a b).g 37 = c.g 32 - c.g 32 % 4 ∧ (trapC c a b).l.length = 41 := by
  unfold trapC
  refine ⟨?_, ?_, ?_, ?_, ?_⟩
  · rw [Cr.g_set_ne (by decide), Cr.g_set_ne (by decide), Cr.g_set_ne (by decide), Cr.g_set_ne (by decide), Cr.g_set_ne (by decide), Cr.g_set_ne (by decide)]
  · rw [Cr.g_set_ne (by decide), Cr.g_set (by simp [Cr.set_len, hl])]
  · rw [Cr.g_set_ne (by decide), Cr.g_set_ne (by decide), Cr.g_set (by simp [Cr.set_len, hl])]
    omega
  · rw [Cr.g_set_ne (by decide), Cr.g_set_ne (by decide), Cr.g_set_ne (by decide), Cr.g_set_ne (by decide), Cr.g_set_ne (by decide), Cr.g_set (by omega)]
  · simp [Cr.set_len, hl]
theorem ret_g (c : Cr) (hl : c.l.length = 41) : (retC c).g 0 = c.g 0 ∧ (retC c).g 32 = c.g 37 ∧ (retC c).l.length = 41 := by
  unfold retC
  refine ⟨?_, ?_, ?_⟩
  · rw [Cr.g_set_ne (by decide), Cr.g_set_ne (by decide), Cr.g_set_ne (by decide)]
  · rw [Cr.g_set_ne (by decide), Cr.g_set (by simp [Cr.set_len, hl])]
  · simp [Cr.set_len, hl]
theorem trap_take (c : Cr) (t : Bool) (a b : Nat) : (trapC (c.time t) a b).l.take 32 = c.l.take 32 := by
  have h : ∀ (d : Cr) (i v : Nat), 32 ≤ i → (d.set i v).l.take 32 = d.l.take 32 := fun d i v h => by
    unfold Cr.set
    exact List.take_set_of_le h
  unfold trapC
  rw [h _ _ _ (by decide), h _ _ _ (by decide), h _ _ _ (by decide), h _ _ _ (by decide), h _ _ _ (by decide), h _ _ _ (by decide)]
  rfl
theorem chk4 : chk 1 1 536870916 4 false true = (1, 4, 0) := by decide +kernel
end Tm
end Core
end Go.Proofs.YtfiojpdkbckopaaDoor

/-
  A program that is laid: its words, decoded; single steps of some instructions. No walk.
-/
set_option linter.unusedSimpArgs false
set_option linter.unusedVariables false
namespace Go.Proofs.YtfiojpdkbckopaaDoor
open Go.RowKit

namespace Core
open Otp Sha Rv Grant Spc R1 Fla
theorem codeL_get : ∀ (qs : List In) (j t : Nat) (q : In), qs[j]? = some q → t < 4 → (codeL qs)[4 * j + t]? = (le4 (enc q).1)[t]?
  | [], j, t, q, h, _ => by simp at h
  | q0 :: qs, 0, t, q, h, ht => by
    obtain rfl : q0 = q := by simpa using h
    show (le4 (enc q0).1 ++ codeL qs)[4 * 0 + t]? = _
    rw [Nat.mul_zero, Nat.zero_add, List.getElem?_append_left (by show t < 4; exact ht)]
  | q0 :: qs, j + 1, t, q, h, ht => by
    show (le4 (enc q0).1 ++ codeL qs)[4 * (j + 1) + t]? = _
    rw [List.getElem?_append_right (by show 4 ≤ 4 * (j + 1) + t; omega)]
    show (codeL qs)[4 * (j + 1) + t - 4]? = _
    rw [show 4 * (j + 1) + t - 4 = 4 * j + t by omega]
    exact codeL_get qs j t q (by simpa using h) ht
theorem word_le4 {z : Nat} (h : z < 4294967296) : le32 (z % 256) (z / 256 % 256) (z / 65536 % 256) (z / 16777216 % 256) = z := by
  rw [le32]
  omega
theorem word_at {v : SpV} {qs : List In} {j : Nat} {q : In} (hv : v.ram = splice (List.replicate 8192 0) 0 (codeL qs)) (hj : qs[j]? = some q) (hq : (enc q).1 < 4294967296) : wordAt v (4 * j) = (enc q).1 := by
  have hl : j < qs.length := (List.getElem?_eq_some_iff.1 hj).1
  have hc : ∀ t, t < 4 → v.ram[4 * j + t]? = (le4 (enc q).1)[t]? := fun t ht => by
    rw [hv]
    have h1 := codeL_get qs j t q hj ht
    have h2 : 4 * j + t < (codeL qs).length := by rw [codeL_length]; omega
    obtain ⟨x, hx⟩ : ∃ x, (codeL qs)[4 * j + t]? = some x := ⟨_, List.getElem?_eq_getElem h2⟩
    rw [splice_at h2 hx, ← h1, hx]
  have g : ∀ t x, t < 4 → (le4 (enc q).1)[t]? = some x → v.ram.getD (4 * j + t) 0 = x := fun t x ht hx => by
    rw [List.getD_eq_getElem?_getD, hc t ht, hx]
    rfl
  rw [wordAt, show 4 * j = 4 * j + 0 from rfl, g 0 ((enc q).1 % 256) (by decide) rfl, Nat.add_zero, g 1 ((enc q).1 / 256 % 256) (by decide) rfl, g 2 ((enc q).1 / 65536 % 256) (by decide) rfl, g 3 ((enc q).1 / 16777216 % 256) (by decide) rfl]
  exact word_le4 hq
/-- A step of a word that is known. -/
theorem step_of {v : SpV} {F vs : List Nat} {ls : List Bool} {c : Cr} {o w : Nat} {i : In} (hf : fetchAt v (c.g 32) = (1, o, 0)) (hp : c.g 32 % 4 = 0) (hw : wordAt v o = w) (hd : dec w = (i, true)) : stepR v F vs ls c false = doR v F vs ls (c.time false) i w := by
  rw [stepR, if_neg (by unfold letT; simp), if_neg (by omega), hf, if_neg (by simp), hw, hd, stepD]
  simp
theorem alu19 (x y : Nat) : aluN 19 x y = ((x + y) % 4294967296, true) := by
  unfold aluN
  rw [if_neg (by decide), if_pos (by decide), show baseN 19 = 28 by decide, sN28]
theorem do_addiR (v : SpV) (F vs : List Nat) (ls : List Bool) (c : Cr) (rd a imm w : Nat) : doR v F vs ls c (addiI rd a imm) w = ⟨nextC (withC c rd ((c.g a + imm) % 4294967296)), none, 0, [], v⟩ := by
  have h : aluR c (addiI rd a imm) imm = (nextC (withC c rd ((c.g a + imm) % 4294967296)), none) := by
    unfold aluR
    show (nextC (if (aluN 19 (c.g a) imm).2 = true then withC c rd (aluN 19 (c.g a) imm).1 else c), none) = _
    rw [alu19]
    simp
  unfold doR doP
  simp only [addiI]
  simp
  rw [show (⟨19, rd, a, 0, imm, 0⟩ : In) = addiI rd a imm from rfl, h]
  rfl
theorem do_bneR (v : SpV) (F vs : List Nat) (ls : List Bool) (c : Cr) (rd a b imm csr w : Nat) : doR v F vs ls c ⟨6, rd, a, b, imm, csr⟩ w = pairR v (if (c.g a != c.g b) = true then jumpR c rd ((c.g 32 + imm) % 4294967296) else (nextC c, none)) := by
  have h : branchR c ⟨6, rd, a, b, imm, csr⟩ = if (c.g a != c.g b) = true then jumpR c rd ((c.g 32 + imm) % 4294967296) else (nextC c, none) := by
    unfold branchR
    show (if takesN 6 (c.g a) (c.g b) = true then jumpR c rd ((c.g 32 + imm) % 4294967296) else (nextC c, none)) = _
    rw [show takesN 6 (c.g a) (c.g b) = (c.g a != c.g b) by unfold takesN; rw [if_neg (by decide), if_pos rfl]]
  unfold doR doP
  simp only
  rw [if_neg (by decide), if_neg (by decide), if_neg (by decide), if_neg (by decide), if_neg (by decide), if_pos (by decide), h]
theorem do_ebreakR (v : SpV) (F vs : List Nat) (ls : List Bool) (c : Cr) (rd a b imm csr w : Nat) : doR v F vs ls c ⟨40, rd, a, b, imm, csr⟩ w = pairR v (trR c 3 (c.g 32)) := by
  unfold doR doP
  simp only
  rw [if_neg (by decide), if_neg (by decide), if_neg (by decide), if_neg (by decide), if_neg (by decide), if_neg (by decide), if_neg (by decide), if_neg (by decide), if_pos (by decide)]
theorem do_mretR (v : SpV) (F vs : List Nat) (ls : List Bool) (c : Cr) (rd a b imm csr w : Nat) : doR v F vs ls c ⟨41, rd, a, b, imm, csr⟩ w = pairR v (retC c, none) := by
  unfold doR doP
  simp only
  rw [if_neg (by decide), if_neg (by decide), if_neg (by decide), if_neg (by decide), if_neg (by decide), if_neg (by decide), if_neg (by decide), if_neg (by decide), if_neg (by decide), if_pos (by decide)]
/-- The code's first words are fetched. -/
theorem fetch_tab : ∀ j : Fin 8, chk 1 1 (536870912 + 4 * j.val) 4 false true = (1, 4 * j.val, 0) := by decide +kernel
theorem fetch_code {v : SpV} (h : v.st = 1) {j : Nat} (hj : j < 8) : fetchAt v (536870912 + 4 * j) = (1, 4 * j, 0) := by
  rw [fetchAt, h]
  exact fetch_tab ⟨j, hj⟩
end Core
end Go.Proofs.YtfiojpdkbckopaaDoor

/-
  The loop that adds up: what it leaves. No walk.
-/
set_option linter.unusedSimpArgs false
set_option linter.unusedVariables false
namespace Go.Proofs.YtfiojpdkbckopaaDoor
open Go.RowKit

namespace Core
open Otp Sha Rv Grant Spc R1 Fla
namespace Ad
def dI : In := addiI 1 1 4294967295
def bI : In := ⟨6, 0, 1, 0, 4294967288, 0⟩
def eI : In := ⟨40, 0, 0, 0, 0, 0⟩
def qs (k s : Nat) : List In := [addiI 1 0 k, addiI 2 2 s, dI, bI, eI]
theorem t1 : ∀ k : Fin 256, (enc (addiI 1 0 k.val)).1 < 4294967296 ∧ dec (enc (addiI 1 0 k.val)).1 = (addiI 1 0 k.val, true) := by decide +kernel
theorem t2 : ∀ k : Fin 256, (enc (addiI 2 2 k.val)).1 < 4294967296 ∧ dec (enc (addiI 2 2 k.val)).1 = (addiI 2 2 k.val, true) := by decide +kernel
theorem t3 : (enc dI).1 < 4294967296 ∧ dec (enc dI).1 = (dI, true) := by decide +kernel
theorem t4 : (enc bI).1 < 4294967296 ∧ dec (enc bI).1 = (bI, true) := by decide +kernel
theorem t5 : (enc eI).1 < 4294967296 ∧ dec (enc eI).1 = (eI, true) := by decide +kernel
theorem qs_ok {k s : Nat} (hk : k < 256) (hs : s < 256) : ∀ q ∈ qs k s, q.Ok := fun q hq => by
  simp only [qs, List.mem_cons, List.not_mem_nil, or_false] at hq
  rcases hq with rfl | rfl | rfl | rfl | rfl
  · exact ⟨by show (19 : Nat) < _; decide, by show (1 : Nat) < _; decide, by show (0 : Nat) < _; decide, by show (0 : Nat) < _; decide, by show k < _; omega, by show (0 : Nat) < _; decide⟩
  · exact ⟨by show (19 : Nat) < _; decide, by show (2 : Nat) < _; decide, by show (2 : Nat) < _; decide, by show (0 : Nat) < _; decide, by show s < _; omega, by show (0 : Nat) < _; decide⟩
  · exact ⟨by decide, by decide, by decide, by decide, by decide, by decide⟩
  · exact ⟨by decide, by decide, by decide, by decide, by decide, by decide⟩
  · exact ⟨by decide, by decide, by decide, by decide, by decide, by decide⟩
/-- A core in the loop. -/
structure At (c : Cr) (pc x1 x2 cy : Nat) : Prop where
  ok : c.Ok
  h0 : c.g 0 = 0
  h1 : c.g 1 = x1
  h2 : c.g 2 = x2
  hp : c.g 32 = pc
  hc : c.g 40 = cy
theorem At.time {c : Cr} {pc x1 x2 cy : Nat} (h : At c pc x1 x2 cy) (t : Bool) : At (c.time t) pc x1 x2 cy := ⟨h.ok.time t, h.h0, h.h1, h.h2, h.hp, h.hc⟩
theorem At.next {c : Cr} {pc x1 x2 cy : Nat} (h : At c pc x1 x2 cy) (hp : pc + 4 < 4294967296) (hc : cy + 1 < 4294967296) : At (nextC c) (pc + 4) x1 x2 (cy + 1) := by
  have hl := h.ok.len
  unfold nextC
  rw [h.hp, h.hc, Nat.mod_eq_of_lt hp, Nat.mod_eq_of_lt hc]
  exact ⟨(h.ok.set 32 _ hp).set 40 _ hc, by rw [Cr.g_set_ne (by decide), Cr.g_set_ne (by decide)]; exact h.h0, by rw [Cr.g_set_ne (by decide), Cr.g_set_ne (by decide)]; exact h.h1, by rw [Cr.g_set_ne (by decide), Cr.g_set_ne (by decide)]; exact h.h2,
    by rw [Cr.g_set_ne (by decide), Cr.g_set (by omega)], by rw [Cr.g_set (by rw [Cr.set_len]; omega)]⟩
theorem At.w1 {c : Cr} {pc x1 x2 cy y : Nat} (h : At c pc x1 x2 cy) (hy : y < 4294967296) : At (withC c 1 y) pc y x2 cy := by
  have hl := h.ok.len
  unfold withC
  rw [if_pos (by decide)]
  exact ⟨h.ok.set 1 _ hy, by rw [Cr.g_set_ne (by decide)]; exact h.h0, by rw [Cr.g_set (by omega)], by rw [Cr.g_set_ne (by decide)]; exact h.h2, by rw [Cr.g_set_ne (by decide)]; exact h.hp, by rw [Cr.g_set_ne (by decide)]; exact h.hc⟩
theorem At.w2 {c : Cr} {pc x1 x2 cy y : Nat} (h : At c pc x1 x2 cy) (hy : y < 4294967296) : At (withC c 2 y) pc x1 y cy := by
  have hl := h.ok.len
  unfold withC
  rw [if_pos (by decide)]
  exact ⟨h.ok.set 2 _ hy, by rw [Cr.g_set_ne (by decide)]; exact h.h0, by rw [Cr.g_set_ne (by decide)]; exact h.h1, by rw [Cr.g_set (by omega)], by rw [Cr.g_set_ne (by decide)]; exact h.hp, by rw [Cr.g_set_ne (by decide)]; exact h.hc⟩
theorem At.jump {c : Cr} {pc x1 x2 cy to' : Nat} (h : At c pc x1 x2 cy) (ht : to' < 4294967296) (hc : cy + 1 < 4294967296) : At (landC c 0 to') to' x1 x2 (cy + 1) := by
  have hl := h.ok.len
  have hw : withC c 0 ((c.g 32 + 4) % 4294967296) = c := by unfold withC; rw [if_neg (by decide)]
  unfold landC
  rw [hw, h.hc, Nat.mod_eq_of_lt hc]
  exact ⟨(h.ok.set 32 _ ht).set 40 _ hc, by rw [Cr.g_set_ne (by decide), Cr.g_set_ne (by decide)]; exact h.h0, by rw [Cr.g_set_ne (by decide), Cr.g_set_ne (by decide)]; exact h.h1, by rw [Cr.g_set_ne (by decide), Cr.g_set_ne (by decide)]; exact h.h2,
    by rw [Cr.g_set_ne (by decide), Cr.g_set (by omega)], by rw [Cr.g_set (by rw [Cr.set_len]; omega)]⟩
section
variable {v : SpV} {k s : Nat} {F vs : List Nat} {ls : List Bool}
/-- The program lies in the code. -/
structure Laid (v : SpV) (k s : Nat) : Prop where
  st : v.st = 1
  ram : v.ram = splice (List.replicate 8192 0) 0 (codeL (qs k s))
  hk : k < 256
  hs : s < 256
theorem s1 (h : Laid v k s) {c : Cr} {x1 x2 cy : Nat} (hc : At c 536870912 x1 x2 cy) (hy : cy + 1 < 4294967296) : ∃ c', stepR v F vs ls c false = ⟨c', none, 0, [], v⟩ ∧ At c' 536870916 k x2 (cy + 1) := by
  have ht := t1 ⟨k, h.hk⟩
  refine ⟨_, (step_of (o := 0) (w := (enc (addiI 1 0 k)).1) (i := addiI 1 0 k) (by rw [hc.hp]; exact fetch_code h.st (j := 0) (by decide)) (by rw [hc.hp]) (word_at (j := 0) h.ram rfl ht.1) ht.2).trans (do_addiR _ _ _ _ _ _ _ _ _), ?_⟩
  have h0 : (c.time false).g 0 = 0 := hc.h0
  rw [h0, Nat.zero_add, Nat.mod_eq_of_lt (by have := h.hk; omega)]
  exact ((hc.time false).w1 (by have := h.hk; omega)).next (by decide) hy
theorem s2 (h : Laid v k s) {c : Cr} {x1 x2 cy : Nat} (hc : At c 536870916 x1 x2 cy) (hy : cy + 1 < 4294967296) : ∃ c', stepR v F vs ls c false = ⟨c', none, 0, [], v⟩ ∧ At c' 536870920 x1 ((x2 + s) % 4294967296) (cy + 1) := by
  have ht := t2 ⟨s, h.hs⟩
  refine ⟨_, (step_of (o := 4) (w := (enc (addiI 2 2 s)).1) (i := addiI 2 2 s) (by rw [hc.hp]; exact fetch_code h.st (j := 1) (by decide)) (by rw [hc.hp]) (word_at (j := 1) h.ram rfl ht.1) ht.2).trans (do_addiR _ _ _ _ _ _ _ _ _), ?_⟩
  have h0 : (c.time false).g 2 = x2 := hc.h2
  rw [h0]
  exact ((hc.time false).w2 (Nat.mod_lt _ (by decide))).next (by decide) hy
theorem s3 (h : Laid v k s) {c : Cr} {x1 x2 cy : Nat} (hx : x1 + 1 < 4294967296) (hc : At c 536870920 (x1 + 1) x2 cy) (hy : cy + 1 < 4294967296) : ∃ c', stepR v F vs ls c false = ⟨c', none, 0, [], v⟩ ∧ At c' 536870924 x1 x2 (cy + 1) := by
  have ht := t3
  refine ⟨_, (step_of (o := 8) (w := (enc dI).1) (i := dI) (by rw [hc.hp]; exact fetch_code h.st (j := 2) (by decide)) (by rw [hc.hp]) (word_at (j := 2) h.ram rfl ht.1) ht.2).trans (do_addiR _ _ _ _ _ _ _ _ _), ?_⟩
  have h0 : (c.time false).g 1 = x1 + 1 := hc.h1
  rw [h0, show (x1 + 1 + 4294967295) % 4294967296 = x1 by omega]
  exact ((hc.time false).w1 (by omega)).next (by decide) hy
theorem s4 (h : Laid v k s) {c : Cr} {x1 x2 cy : Nat} (hc : At c 536870924 x1 x2 cy) (hy : cy + 1 < 4294967296) : ∃ c', stepR v F vs ls c false = ⟨c', none, 0, [], v⟩ ∧ At c' (if x1 = 0 then 536870928 else 536870916) x1 x2 (cy + 1) := by
  have ht := t4
  have hs := (step_of (F := F) (vs := vs) (ls := ls) (o := 12) (w := (enc bI).1) (i := bI) (by rw [hc.hp]; exact fetch_code h.st (j := 3) (by decide)) (by rw [hc.hp]) (word_at (j := 3) h.ram rfl ht.1) ht.2).trans (do_bneR v F vs ls (c.time false) 0 1 0 4294967288 0 _)
  have h0 : (c.time false).g 0 = 0 := hc.h0
  have h1 : (c.time false).g 1 = x1 := hc.h1
  have h2 : (c.time false).g 32 = 536870924 := hc.hp
  rw [h0, h1, h2] at hs
  by_cases hx : x1 = 0
  · rw [if_neg (by rw [hx]; decide)] at hs
    rw [if_pos hx]
    exact ⟨_, hs, (hc.time false).next (by decide) hy⟩
  · rw [if_pos (by simpa using hx), show (536870924 + 4294967288) % 4294967296 = 536870916 from by decide] at hs
    rw [if_neg hx]
    have hj : jumpR (c.time false) 0 536870916 = (landC (c.time false) 0 536870916, none) := by unfold jumpR; rw [if_neg (by decide)]
    rw [hj] at hs
    exact ⟨_, hs, (hc.time false).jump (by decide) hy⟩
theorem s5 (h : Laid v k s) {c : Cr} {x1 x2 cy : Nat} (hc : At c 536870928 x1 x2 cy) : stepR v F vs ls c false = ⟨trapC (c.time false) 3 536870928, some 3, 0, [], v⟩ := by
  have ht := t5
  have hs := (step_of (F := F) (vs := vs) (ls := ls) (o := 16) (w := (enc eI).1) (i := eI) (by rw [hc.hp]; exact fetch_code h.st (j := 4) (by decide)) (by rw [hc.hp]) (word_at (j := 4) h.ram rfl ht.1) ht.2).trans (do_ebreakR v F vs ls (c.time false) 0 0 0 0 0 _)
  have h2 : (c.time false).g 32 = 536870928 := hc.hp
  rw [h2] at hs
  exact hs
/-- What is left. -/
structure End (c : Cr) (x2 m : Nat) : Prop where
  ok : c.Ok
  h1 : c.g 1 = 0
  h2 : c.g 2 = x2
  h38 : c.g 38 = 3
  h40 : c.g 40 = m
theorem ends {c : Cr} {x2 cy : Nat} (hc : At c 536870928 0 x2 cy) (hy : cy + 1 < 4294967296) : End (trapC (c.time false) 3 536870928) x2 (cy + 1) := by
  have hl := hc.ok.len
  have h40 : (c.time false).g 40 = cy := hc.hc
  have hl' : (c.time false).l.length = 41 := hl
  have hok : (trapC (c.time false) 3 536870928).Ok := Cr.Ok.trap (hc.ok.time false) (by decide) (by decide)
  refine ⟨hok, ?_, ?_, ?_, ?_⟩
  · unfold trapC
    rw [Cr.g_set_ne (by decide), Cr.g_set_ne (by decide), Cr.g_set_ne (by decide), Cr.g_set_ne (by decide), Cr.g_set_ne (by decide), Cr.g_set_ne (by decide)]
    exact hc.h1
  · unfold trapC
    rw [Cr.g_set_ne (by decide), Cr.g_set_ne (by decide), Cr.g_set_ne (by decide), Cr.g_set_ne (by decide), Cr.g_set_ne (by decide), Cr.g_set_ne (by decide)]
    exact hc.h2
  · unfold trapC
    rw [Cr.g_set_ne (by decide), Cr.g_set_ne (by decide), Cr.g_set_ne (by decide), Cr.g_set_ne (by decide), Cr.g_set (by rw [Cr.set_len]; omega)]
  · unfold trapC
    rw [h40, Cr.g_set (by simp [Cr.set_len, hl']), Nat.mod_eq_of_lt hy]
theorem go {c c' : Cr} {n : Nat} (hs : stepR v F vs ls c false = ⟨c', none, 0, [], v⟩) : runR F vs ls (n + 1) c v = ((runR F vs ls n c' v).1, (runR F vs ls n c' v).2.1 + 1, (runR F vs ls n c' v).2.2) := runR_go hs rfl
theorem loop (h : Laid v k s) : ∀ (j n : Nat) (c : Cr) (x2 cy : Nat), At c 536870916 (j + 1) x2 cy → x2 < 4294967296 → j < 1000 → cy + 3 * (j + 1) + 1 < 4294967296 →
    ∃ cF, runR F vs ls (n + (3 * (j + 1) + 1)) c v = (cF, 3 * (j + 1) + 1, v) ∧ End cF ((x2 + (j + 1) * s) % 4294967296) (cy + 3 * (j + 1) + 1)
  | 0, n, c, x2, cy, hc, hx, hj, hy => by
    obtain ⟨c1, e1, a1⟩ := s2 (F := F) (vs := vs) (ls := ls) h hc (by omega)
    obtain ⟨c2, e2, a2⟩ := s3 (F := F) (vs := vs) (ls := ls) h (by omega) a1 (by omega)
    obtain ⟨c3, e3, a3⟩ := s4 (F := F) (vs := vs) (ls := ls) h a2 (by omega)
    rw [if_pos rfl] at a3
    have e4 := s5 (F := F) (vs := vs) (ls := ls) h a3
    refine ⟨trapC (c3.time false) 3 536870928, ?_, ?_⟩
    · rw [show n + (3 * (0 + 1) + 1) = (((n + 1) + 1) + 1) + 1 by omega, go e1, go e2, go e3, runR_trap e4 rfl]
    · have := ends a3 (by omega)
      rw [show cy + 3 * (0 + 1) + 1 = cy + 1 + 1 + 1 + 1 by omega, show x2 + (0 + 1) * s = x2 + s by omega]
      exact this
  | j + 1, n, c, x2, cy, hc, hx, hj, hy => by
    obtain ⟨c1, e1, a1⟩ := s2 (F := F) (vs := vs) (ls := ls) h hc (by omega)
    obtain ⟨c2, e2, a2⟩ := s3 (F := F) (vs := vs) (ls := ls) h (by omega) a1 (by omega)
    obtain ⟨c3, e3, a3⟩ := s4 (F := F) (vs := vs) (ls := ls) h a2 (by omega)
    rw [if_neg (by omega)] at a3
    obtain ⟨cF, r, hE⟩ := loop h j n c3 ((x2 + s) % 4294967296) (cy + 1 + 1 + 1) a3 (Nat.mod_lt _ (by decide)) (by omega) (by omega)
    refine ⟨cF, ?_, ?_⟩
    · rw [show n + (3 * (j + 1 + 1) + 1) = (((n + (3 * (j + 1) + 1)) + 1) + 1) + 1 by omega, go e1, go e2, go e3, r]
      simp only [Prod.mk.injEq, true_and, and_true]
      omega
    · rw [show ((x2 + (j + 1 + 1) * s) % 4294967296) = (((x2 + s) % 4294967296 + (j + 1) * s) % 4294967296) by rw [Nat.mod_add_mod, Nat.add_mul (j + 1) 1 s, Nat.one_mul]; congr 1; omega, show cy + 3 * (j + 1 + 1) + 1 = cy + 1 + 1 + 1 + 3 * (j + 1) + 1 by omega]
      exact hE
theorem new_at : At (newC 536870912) 536870912 0 0 0 := ⟨newC_ok (by decide), by decide, by decide, by decide, by decide, by decide⟩
theorem adds (h : Laid v k s) (h1 : 1 ≤ k) (h40 : k ≤ 40) : ∃ cF, runR F vs ls 1000 (newC 536870912) v = (cF, 2 + 3 * k, v) ∧ End cF (k * s % 4294967296) (2 + 3 * k) := by
  obtain ⟨c1, e1, a1⟩ := s1 (F := F) (vs := vs) (ls := ls) h new_at (by decide)
  obtain ⟨j, rfl⟩ : ∃ j, k = j + 1 := ⟨k - 1, by omega⟩
  obtain ⟨cF, r, hE⟩ := loop (F := F) (vs := vs) (ls := ls) h j (999 - (3 * (j + 1) + 1)) c1 0 (0 + 1) a1 (by decide) (by omega) (by omega)
  refine ⟨cF, ?_, ?_⟩
  · rw [show 1000 = (999 - (3 * (j + 1) + 1) + (3 * (j + 1) + 1)) + 1 by omega, go e1, r]
    simp only [Prod.mk.injEq, true_and, and_true]
    omega
  · rw [Nat.zero_add] at hE
    rw [show 2 + 3 * (j + 1) = 0 + 1 + 3 * (j + 1) + 1 by omega]
    exact hE
end
end Ad
end Core
end Go.Proofs.YtfiojpdkbckopaaDoor
