/-
  Texts of this claim, joined: CorTm, New2.
-/
import Derived.Test.YtfiojpdkbckopaaDoorCorF
import Derived.Test.YtfiojpdkbckopaaDoorCorR
import Derived.Test.YtfiojpdkbckopaaDoorCorS
import Derived.Test.YtfiojpdkbckopaaDoorRvJ
import Derived.Test.YtfiojpdkbckopaaDoorJa4d94a7c
import Derived.Test.YtfiojpdkbckopaaDoorJ7c1a3828
import Derived.Test.YtfiojpdkbckopaaDoorJc6ca3112
import Derived.Test.YtfiojpdkbckopaaDoorBig
import Derived.Test.YtfiojpdkbckopaaDoorJ68c09f72
set_option linter.unusedVariables false
/-
  The timer's law (CoreTimer): its cores, and the program's words. No walk.
-/
set_option linter.unusedSimpArgs false
set_option linter.unusedVariables false
namespace Go.Proofs.YtfiojpdkbckopaaDoor
open Go.RowKit

namespace Core
open Otp Sha Rv R1 Grant Spc
theorem Cr.g_set {c : Cr} {i v : Nat} (h : i < c.l.length) : (c.set i v).g i = v := by
  unfold Cr.set Cr.g
  simp [h]
theorem Cr.set_len (c : Cr) (i v : Nat) : (c.set i v).l.length = c.l.length := by simp [Cr.set]
theorem Cr.g_time (c : Cr) (t : Bool) (i : Nat) : (c.time t).g i = c.g i := rfl
theorem Cr.time_len (c : Cr) (t : Bool) : (c.time t).l.length = c.l.length := rfl
theorem regs_g {c : Cr} {xs : List Nat} {j : Nat} (hj : j = 0 ∨ 32 ≤ j) : ∀ k, (regs c xs k).g j = c.g j
  | 0 => rfl
  | k + 1 => by
    unfold regs
    split
    · split
      · rw [Cr.g_set_ne (by omega)]
        exact regs_g hj k
      · exact regs_g hj k
    · exact regs_g hj k
/-- A core as it lies in a variable. -/
structure Rc (D : Array Value) (c : Cr) : Prop where
  ok : c.Ok
  eq : crC c = D
theorem Rc.info {D : Array Value} {c : Cr} (h : Rc D c) : (Tryd.prog.info? 34).map (·.size) = some D.size := by rw [← h.eq, crC_size h.ok]; exact cr_info
theorem Rc.one {D : Array Value} {c : Cr} (h : Rc D c) : D.all (·.oneCell') = true := by rw [← h.eq]; exact crC_one _
theorem Rc.sz {D Z : Array Value} {c z : Cr} (h : Rc D c) (hz : Rc Z z) : Z.size = D.size := by rw [← h.eq, ← hz.eq, crC_size h.ok, crC_size hz.ok]
theorem Rc.row {D Z : Array Value} {c z : Cr} (h : Rc D c) (hz : Rc Z z) : (Tryd.prog.info? 34).map (·.size) = some D.size ∧ Z.size = D.size ∧ D.all (·.oneCell') = true := ⟨h.info, h.sz hz, h.one⟩
theorem Rc.cell {D : Array Value} {c : Cr} (h : Rc D c) {w : World} {b i : Nat} {t : TypeId} (hb : Blk w b t D) (hi : i < 41) : w.cell? ⟨b, i, none⟩ = some (.int .u32 ((c.g i : Nat) : Int)) := by
  rw [hb.cell, ← h.eq]
  show (crL c).toArray[i]? = _
  rw [List.getElem?_toArray]
  exact crL_get h.ok hi
/-- An event as it lies in a variable. -/
structure Re (V : Array Value) (tr : Bool) (cause : Nat) : Prop where
  info : (Tryd.prog.info? 44).map (·.size) = some V.size
  one : V.all (·.oneCell') = true
  v0 : V[0]? = some (.bool tr)
  v1 : V[1]? = some (.int .u32 (cause : Int))
theorem Re.of (tr : Bool) (cause : Nat) (i : In) (at_ : Nat) (A : Option Addr) (n c : Nat) : Re (evC tr cause i at_ A n c) tr cause := ⟨ev_info, evC_one _ _ _ _ _ _ _, rfl, rfl⟩
theorem Re.row {V E : Array Value} {tr : Bool} {cause : Nat} (h : Re V tr cause) (hE : E = evZ) : (Tryd.prog.info? 44).map (·.size) = some V.size ∧ E.size = V.size ∧ V.all (·.oneCell') = true := ⟨h.info, by
  have h1 := h.info
  rw [ev_info] at h1
  rw [hE, show evZ.size = 10 from rfl]
  exact Option.some.inj h1, h.one⟩
theorem splice_at {p : List Nat} {i x : Nat} (hi : i < p.length) (h : p[i]? = some x) : (splice (List.replicate 8192 0) 0 p)[i]? = some x := by
  unfold splice
  rw [List.take_zero, List.nil_append, List.getElem?_append_left hi]
  exact h
theorem flat_at : ∀ (qs : List In) (i j : Nat) (q : In) (v : Value), qs[i]? = some q → (inC q).toList[j]? = some v → (qs.flatMap fun q => (inC q).toList)[i * 6 + j]? = some v
  | [], i, j, q, v, h, _ => by simp at h
  | q0 :: qs, 0, j, q, v, h, h2 => by
    obtain rfl : q0 = q := by simpa using h
    rw [List.flatMap_cons, List.getElem?_append_left (by have := (List.getElem?_eq_some_iff.1 h2).1; omega), Nat.zero_mul, Nat.zero_add]
    exact h2
  | q0 :: qs, i + 1, j, q, v, h, h2 => by
    have hl : (inC q0).toList.length = 6 := rfl
    rw [List.flatMap_cons, List.getElem?_append_right (by omega), hl, show (i + 1) * 6 + j - 6 = i * 6 + j by omega]
    exact flat_at qs i j q v (by simpa using h) h2
theorem ins_blk {w : World} {b B : Nat} {t : TypeId} {qs : List In} (h : Blk w b t (qs.flatMap fun q => (inC q).toList).toArray) (hok : ∀ q ∈ qs, q.Ok) (hb : b < B) : InsIn w B (some ⟨b, 0, none⟩) qs := fun i q hq =>
  ⟨hok q (List.mem_of_getElem? hq), b, 0, rfl, hb, by
    rw [Nat.zero_add]
    exact h.rangeAt _ _ (fun j v hv => flat_at qs i j q v hq hv)⟩

namespace Tm
def mI : In := ⟨41, 0, 0, 0, 0, 0⟩
def qs (n : Nat) : List In := [addiI 5 0 n, mI]
theorem code_tab : ∀ n : Fin 256, (codeL (qs n.val)).length = 8 ∧ dec (le32 ((codeL (qs n.val)).getD 0 0) ((codeL (qs n.val)).getD 1 0) ((codeL (qs n.val)).getD 2 0) ((codeL (qs n.val)).getD 3 0)) = (addiI 5 0 n.val, true) ∧
    dec (le32 ((codeL (qs n.val)).getD 4 0) ((codeL (qs n.val)).getD 5 0) ((codeL (qs n.val)).getD 6 0) ((codeL (qs n.val)).getD 7 0)) = (mI, true) := by decide +kernel
theorem qs_ok {n : Nat} (hn : n < 256) : ∀ q ∈ qs n, q.Ok := fun q hq => by
  simp only [qs, List.mem_cons, List.not_mem_nil, or_false] at hq
  rcases hq with rfl | rfl
  · exact ⟨by show (19 : Nat) < _; decide, by show (5 : Nat) < _; decide, by show (0 : Nat) < _; decide, by show (0 : Nat) < _; decide, by show n < _; omega, by show (0 : Nat) < _; decide⟩
  · exact ⟨by decide, by decide, by decide, by decide, by decide, by decide⟩
theorem getD_at {l : List Nat} {i : Nat} (h : i < l.length) : l[i]? = some (l.getD i 0) := by
  rw [List.getD_eq_getElem?_getD, List.getElem?_eq_getElem h]
  rfl
def c3 (xs : List Nat) (ie st : Nat) : Cr := (((regs (newC 536870912) xs xs.length).set 34 (ie / 128 % 2 * 128)).set 33 (st / 8 % 2 * 8 + st / 128 % 2 * 128)).set 35 536870916
theorem newC_len (pc : Nat) : (newC pc).l.length = 41 := by simp [newC, Cr.set, crZ]
theorem c3_g (xs : List Nat) (ie st : Nat) (hr : (regs (newC 536870912) xs xs.length).Ok) : (c3 xs ie st).g 0 = 0 ∧ (c3 xs ie st).g 32 = 536870912 ∧ (c3 xs ie st).g 33 / 8 % 2 = st / 8 % 2 ∧ (c3 xs ie st).g 34 / 128 % 2 = ie / 128 % 2 ∧ (c3 xs ie st).g 35 = 536870916 ∧ (c3 xs ie st).l.length = 41 := by
  have hl := hr.len
  unfold c3
  refine ⟨?_, ?_, ?_, ?_, ?_, ?_⟩
  · rw [Cr.g_set_ne (by decide), Cr.g_set_ne (by decide), Cr.g_set_ne (by decide), regs_g (.inl rfl)]
    rfl
  · rw [Cr.g_set_ne (by decide), Cr.g_set_ne (by decide), Cr.g_set_ne (by decide), regs_g (.inr (by decide))]
    rfl
  · rw [Cr.g_set_ne (by decide), Cr.g_set (by simp [Cr.set_len, hl])]
    omega
  · rw [Cr.g_set_ne (by decide), Cr.g_set_ne (by decide), Cr.g_set (by simp [hl])]
    omega
  · rw [Cr.g_set (by simp [Cr.set_len, hl])]
  · simp [Cr.set_len, hl]
theorem addi_g (c : Cr) (hl : c.l.length = 41) (h0 : c.g 0 = 0) (n : Nat) (hn : n < 256) : (addiC c 5 0 n).g 5 = n ∧ (addiC c 5 0 n).g 32 = (c.g 32 + 4) % 4294967296 := by
  have e : withC c 5 ((c.g 0 + n) % 4294967296) = c.set 5 n := by
    unfold withC
    rw [if_pos (by decide), h0]
    congr 1
    omega
  unfold addiC nextC
  rw [e]
  refine ⟨?_, ?_⟩
  · rw [Cr.g_set_ne (by decide), Cr.g_set_ne (by decide), Cr.g_set (by omega)]
  · rw [Cr.g_set_ne (by decide), Cr.g_set (by simp [Cr.set_len, hl]), Cr.g_set_ne (by decide)]
theorem trap_g (c : Cr) (hl : c.l.length = 41) (a b : Nat) : (trapC c a b).g 0 = c.g 0 ∧ (trapC c a b).g 32 = c.g 35 ∧ (trapC c a b).g 33 / 8 % 2 = 0 ∧ (trapC c a b).g 37 = c.g 32 - c.g 32 % 4 ∧ (trapC c a b).l.length = 41 := by
  unfold trapC
  refine ⟨?_, ?_, ?_, ?_, ?_⟩
  · rw [Cr.g_set_ne (by decide), Cr.g_set_ne (by decide), Cr.g_set_ne (by decide), Cr.g_set_ne (by decide), Cr.g_set_ne (by decide), Cr.g_set_ne (by decide)]
  · rw [Cr.g_set_ne (by decide), Cr.g_set (by simp [Cr.set_len, hl])]
  · rw [Cr.g_set_ne (by decide), Cr.g_set_ne (by decide), Cr.g_set (by simp [Cr.set_len, hl])]
    omega
  · rw [Cr.g_set_ne (by decide), Cr.g_set_ne (by decide), Cr.g_set_ne (by decide), Cr.g_set_ne (by decide), Cr.g_set_ne (by decide), Cr.g_set (by omega)]
  · simp [Cr.set_len, hl]
theorem ret_g (c : Cr) (hl : c.l.length = 41) : (retC c).g 0 = c.g 0 ∧ (retC c).g 32 = c.g 37 ∧ (retC c).l.length = 41 := by
  unfold retC
  refine ⟨?_, ?_, ?_⟩
  · rw [Cr.g_set_ne (by decide), Cr.g_set_ne (by decide), Cr.g_set_ne (by decide)]
  · rw [Cr.g_set_ne (by decide), Cr.g_set (by simp [Cr.set_len, hl])]
  · simp [Cr.set_len, hl]
theorem trap_take (c : Cr) (t : Bool) (a b : Nat) : (trapC (c.time t) a b).l.take 32 = c.l.take 32 := by
  have h : ∀ (d : Cr) (i v : Nat), 32 ≤ i → (d.set i v).l.take 32 = d.l.take 32 := fun d i v h => by
    unfold Cr.set
    exact List.take_set_of_le h
  unfold trapC
  rw [h _ _ _ (by decide), h _ _ _ (by decide), h _ _ _ (by decide), h _ _ _ (by decide), h _ _ _ (by decide), h _ _ _ (by decide)]
  rfl
theorem chk4 : chk 1 1 536870916 4 false true = (1, 4, 0) := by decide +kernel
end Tm
end Core
end Go.Proofs.YtfiojpdkbckopaaDoor

/-
  Two new variables, each given its value at once: alloc, alloc, store, store.
-/
set_option linter.unusedSimpArgs false
set_option linter.unusedVariables false
namespace Go.Proofs.YtfiojpdkbckopaaDoor
open Go.RowKit

namespace Otp
open Sha
theorem wpList_two_new {P : Program} {ops : Array Oper} {rest : List Oper} {o1 o2 o3 o4 : Oper} {a : Act} {w : World} {Q : Exit → Act → World → Prop}
    (t1 t2 : TypeId) (d1 d2 : Tmp) (y1 y2 : Operand) (g1 : o1.guard = none) (g2 : o2.guard = none) (g3 : o3.guard = none) (g4 : o4.guard = none)
    (p1 : o1.op = .alloc t1) (p2 : o2.op = .alloc t2) (p3 : o3.op = .store t1 (.tmp d1) y1) (p4 : o4.op = .store t2 (.tmp d2) y2) (q1 : o1.dst = some d1) (q2 : o2.dst = some d2) (q3 : o3.dst = none) (q4 : o4.dst = none)
    (z1 z2 X Y : Array Value) (hz1 : (P.info? t1).bind (·.zero) = some (.agg z1)) (hz2 : (P.info? t2).bind (·.zero) = some (.agg z2)) (b : Nat) (hb : w.heap.size = b)
    (e1 : ((a.put (some d1) (.pointer (some ⟨b, 0, none⟩))).put (some d2) (.pointer (some ⟨b + 1, 0, none⟩))).eval (.tmp d1) = .pointer (some ⟨b, 0, none⟩))
    (e2 : ((a.put (some d1) (.pointer (some ⟨b, 0, none⟩))).put (some d2) (.pointer (some ⟨b + 1, 0, none⟩))).eval (.tmp d2) = .pointer (some ⟨b + 1, 0, none⟩))
    (e3 : ((a.put (some d1) (.pointer (some ⟨b, 0, none⟩))).put (some d2) (.pointer (some ⟨b + 1, 0, none⟩))).eval y1 = .agg X)
    (e4 : ((a.put (some d1) (.pointer (some ⟨b, 0, none⟩))).put (some d2) (.pointer (some ⟨b + 1, 0, none⟩))).eval y2 = .agg Y)
    (hX : (P.info? t1).map (·.size) = some X.size ∧ z1.size = X.size ∧ X.all (·.oneCell') = true)
    (hY : (P.info? t2).map (·.size) = some Y.size ∧ z2.size = Y.size ∧ Y.all (·.oneCell') = true)
    (h : ∀ w', Wall (Blk w' b t1 X) → Wall (Blk w' (b + 1) t2 Y) → Wall (Below b w w') → wpList P ops Q rest ((a.put (some d1) (.pointer (some ⟨b, 0, none⟩))).put (some d2) (.pointer (some ⟨b + 1, 0, none⟩))) w') :
    wpList P ops Q (o1 :: o2 :: o3 :: o4 :: rest) a w := by
  subst hb
  refine Big.wpList_alloc_at g1 t1 p1 z1 hz1 w.heap.size rfl ?_
  rw [q1]
  refine Big.wpList_alloc_at g2 t2 p2 z2 hz2 (w.heap.size + 1) (by simp) ?_
  rw [q2]
  refine wpList_set_row g3 t1 (.tmp d1) y1 p3 w.heap.size X e1 e3 t1 z1 ((Blk.new _ _ _).alloc _) hX.1 hX.2.1 hX.2.2 ?_
  intro w1 K1 F1
  rw [q3]
  show wpList P ops Q (o4 :: rest) ((a.put (some d1) _).put (some d2) _) w1
  refine wpList_set_row g4 t2 (.tmp d2) y2 p4 (w.heap.size + 1) Y e2 e4 t2 z2 (Blk.frm (blk_new' (by simp)) F1.out (by simp)) hY.1 hY.2.1 hY.2.2 ?_
  intro w2 K2 F2
  rw [q4]
  exact h w2 (wall (K1.out.frm F2.out (by simp))) (wall K2.out) (wall (Below.frm (Below.frm (((Below.refl _ w).alloc (Nat.le_refl _) _).alloc (by simp) _) F1.out (Nat.le_refl _) (by simp)) F2.out (Nat.le_refl _) (by simp)))
end Otp
end Go.Proofs.YtfiojpdkbckopaaDoor
