/-
  Texts of this claim, joined: New2, CorTm.
-/
import Derived.Test.YtmiaabpnolebhaaGreatDoorJ271b4d0f
import Derived.Test.YtmiaabpnolebhaaGreatDoorJd1da5132
set_option linter.unusedSimpArgs false
set_option linter.unusedVariables false
namespace Go.Proofs.YtmiaabpnolebhaaGreatDoor
open Go.RowKit

namespace Otp
open Sha
theorem wpList_two_new {P : Program} {ops : Array Oper} {rest : List Oper} {o1 o2 o3 o4 : Oper} {a : Act} {w : World} {Q : Exit → Act → World → Prop}
  (t1 t2 : TypeId) (d1 d2 : Tmp) (y1 y2 : Operand) (g1 : o1.guard = none) (g2 : o2.guard = none) (g3 : o3.guard = none) (g4 : o4.guard = none)
  (p1 : o1.op = .alloc t1) (p2 : o2.op = .alloc t2) (p3 : o3.op = .store t1 (.tmp d1) y1) (p4 : o4.op = .store t2 (.tmp d2) y2) (q1 : o1.dst = some d1) (q2 : o2.dst = some d2) (q3 : o3.dst = none) (q4 : o4.dst = none)
  (z1 z2 X Y : Array Value) (hz1 : (P.info? t1).bind (·.zero) = some (.agg z1)) (hz2 : (P.info? t2).bind (·.zero) = some (.agg z2)) (b : Nat) (hb : w.heap.size = b)
  (e1 : ((a.put (some d1) (.pointer (some ⟨b, 0, none⟩))).put (some d2) (.pointer (some ⟨b + 1, 0, none⟩))).eval (.tmp d1) = .pointer (some ⟨b, 0, none⟩))
  (e2 : ((a.put (some d1) (.pointer (some ⟨b, 0, none⟩))).put (some d2) (.pointer (some ⟨b + 1, 0, none⟩))).eval (.tmp d2) = .pointer (some ⟨b + 1, 0, none⟩))
  (e3 : ((a.put (some d1) (.pointer (some ⟨b, 0, none⟩))).put (some d2) (.pointer (some ⟨b + 1, 0, none⟩))).eval y1 = .agg X)
  (e4 : ((a.put (some d1) (.pointer (some ⟨b, 0, none⟩))).put (some d2) (.pointer (some ⟨b + 1, 0, none⟩))).eval y2 = .agg Y)
  (hX : (P.info? t1).map (·.size) = some X.size ∧ z1.size = X.size ∧ X.all (·.oneCell') = true)
  (hY : (P.info? t2).map (·.size) = some Y.size ∧ z2.size = Y.size ∧ Y.all (·.oneCell') = true)
  (h : ∀ w', Wall (Blk w' b t1 X) → Wall (Blk w' (b + 1) t2 Y) → Wall (Below b w w') → wpList P ops Q rest ((a.put (some d1) (.pointer (some ⟨b, 0, none⟩))).put (some d2) (.pointer (some ⟨b + 1, 0, none⟩))) w') :
  wpList P ops Q (o1 :: o2 :: o3 :: o4 :: rest) a w := by
 subst hb
 refine Big.wpList_alloc_at g1 t1 p1 z1 hz1 w.heap.size rfl ?_
 rw [q1]
 refine Big.wpList_alloc_at g2 t2 p2 z2 hz2 (w.heap.size + 1) (by simp) ?_
 rw [q2]
 refine wpList_set_row g3 t1 (.tmp d1) y1 p3 w.heap.size X e1 e3 t1 z1 ((Blk.new _ _ _).alloc _) hX.1 hX.2.1 hX.2.2 ?_
 intro w1 K1 F1
 rw [q3]
 show wpList P ops Q (o4 :: rest) ((a.put (some d1) _).put (some d2) _) w1
 refine wpList_set_row g4 t2 (.tmp d2) y2 p4 (w.heap.size + 1) Y e2 e4 t2 z2 (Blk.frm (blk_new' (by simp)) F1.out (by simp)) hY.1 hY.2.1 hY.2.2 ?_
 intro w2 K2 F2
 rw [q4]
 exact h w2 (wall (K1.out.frm F2.out (by simp))) (wall K2.out) (wall (Below.frm (Below.frm (((Below.refl _ w).alloc (Nat.le_refl _) _).alloc (by simp) _) F1.out (Nat.le_refl _) (by simp)) F2.out (Nat.le_refl _) (by simp)))
end Otp
end Go.Proofs.YtmiaabpnolebhaaGreatDoor
namespace Go.Proofs.YtmiaabpnolebhaaGreatDoor
open Go.RowKit

namespace Core
open Otp Sha Rv R1 Grant Spc
structure Rc (D : Array Value) (c : Cr) : Prop where
 ok : c.Ok
 eq : crC c = D
theorem Rc.info {D : Array Value} {c : Cr} (h : Rc D c) : (Tryz.prog.info? 71).map (·.size) = some D.size := by rw [← h.eq, crC_size h.ok]; exact cr_info
theorem Rc.one {D : Array Value} {c : Cr} (h : Rc D c) : D.all (·.oneCell') = true := by rw [← h.eq]; exact crC_one _
theorem Rc.sz {D Z : Array Value} {c z : Cr} (h : Rc D c) (hz : Rc Z z) : Z.size = D.size := by rw [← h.eq, ← hz.eq, crC_size h.ok, crC_size hz.ok]
theorem Rc.row {D Z : Array Value} {c z : Cr} (h : Rc D c) (hz : Rc Z z) : (Tryz.prog.info? 71).map (·.size) = some D.size ∧ Z.size = D.size ∧ D.all (·.oneCell') = true := ⟨h.info, h.sz hz, h.one⟩
theorem Rc.cell {D : Array Value} {c : Cr} (h : Rc D c) {w : World} {b i : Nat} {t : TypeId} (hb : Blk w b t D) (hi : i < 41) : w.cell? ⟨b, i, none⟩ = some (.int .u32 ((c.g i : Nat) : Int)) := by
 rw [hb.cell, ← h.eq]
 show (crL c).toArray[i]? = _
 rw [List.getElem?_toArray]
 exact crL_get h.ok hi
structure Re (V : Array Value) (tr : Bool) (cause : Nat) : Prop where
 info : (Tryz.prog.info? 78).map (·.size) = some V.size
 one : V.all (·.oneCell') = true
 v0 : V[0]? = some (.bool tr)
 v1 : V[1]? = some (.int .u32 (cause : Int))
theorem Re.of (tr : Bool) (cause : Nat) (i : In) (at_ : Nat) (A : Option Addr) (n c : Nat) : Re (evC tr cause i at_ A n c) tr cause := ⟨ev_info, evC_one _ _ _ _ _ _ _, rfl, rfl⟩
theorem Re.row {V E : Array Value} {tr : Bool} {cause : Nat} (h : Re V tr cause) (hE : E = evZ) : (Tryz.prog.info? 78).map (·.size) = some V.size ∧ E.size = V.size ∧ V.all (·.oneCell') = true := ⟨h.info, by
 have h1 := h.info
 rw [ev_info] at h1
 rw [hE, show evZ.size = 10 from rfl]
 exact Option.some.inj h1, h.one⟩
namespace Tm
def c3 (xs : List Nat) (ie st : Nat) : Cr := (((regs (newC 536870912) xs xs.length).set 34 (ie / 128 % 2 * 128)).set 33 (st / 8 % 2 * 8 + st / 128 % 2 * 128)).set 35 536870916
end Tm
end Core
end Go.Proofs.YtmiaabpnolebhaaGreatDoor
