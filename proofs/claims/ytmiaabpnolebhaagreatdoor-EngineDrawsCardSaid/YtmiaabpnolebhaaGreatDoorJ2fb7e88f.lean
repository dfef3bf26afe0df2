/-
  Texts of this claim, joined: TwoRow, TwoRow5.
-/
import Derived.Test.YtmiaabpnolebhaaGreatDoorJ192fccce
import Derived.Laws.Rows
import Derived.RegionTactic
set_option linter.unusedSimpArgs false
set_option linter.unusedVariables false
/-
  A drawn region of two loads and two stores of rows (the second load may come behind the first store): whatever the order, the same. No program in sight.
-/
namespace Go.Proofs.YtmiaabpnolebhaaGreatDoor
open Go Go.RowKit

def rowB (d : TypeDesc) : Bool := match d with
  | .struct _ | .array _ _ => true
  | _ => false
theorem put_comm {a : Act} {i j : Tmp} {u v : Value} (h : i ≠ j) : (a.put (some i) u).put (some j) v = (a.put (some j) v).put (some i) u := by
  unfold Act.put
  simp only
  rw [Array.setIfInBounds_comm _ _ h]
theorem wanted_none {o : Oper} {f : Nat → Option Bool} (h : o.guard = none) : Region.wanted o f = true := by
  unfold Region.wanted
  rw [h]
def readyB (ops : Array Oper) (l : List (List Bool × List Nat)) : Bool := l.all fun p => Region.ready .any ops p.1.toArray == p.2
theorem readyB_at {ops : Array Oper} {l : List (List Bool × List Nat)} (h : readyB ops l = true) {s : List Bool} {r : List Nat} (hm : (s, r) ∈ l) : Region.ready .any ops s.toArray = r := by
  have := List.all_eq_true.1 h _ hm
  simpa using this
section
variable {P : Program}
theorem wp_load_in {o : Oper} {a : Act} {w : World} {K : Act → World → Prop} {Q : Exit → Act → World → Prop} {f : Nat → Option Bool} (hgd : o.guard = none) (ty : TypeId) (x : Operand) (ho : o.op = .load ty x)
    (g : Nat) (hx : a.eval x = .pointer (some ⟨g, 0, none⟩)) (t : TypeId) (cs : Array Value) (d : TypeDesc) (hg : Blk w g t cs)
    (hu : P.underlying ty = some d) (hd : rowB d = true) (hi : (P.info? ty).map (·.size) = some cs.size)
    (h : K (a.put o.dst (.agg cs)) w) : if Region.wanted o f = true then Oper.wp P o a w K Q else K (a.put o.dst undef) w := by
  rw [if_pos (wanted_none hgd)]
  exact wp_load_row ty x ho g hx t cs (0, 0) d hg hu (by cases d <;> first | rfl | (simp [rowB] at hd)) hi h
theorem wp_store_in {o : Oper} {a : Act} {w : World} {K : Act → World → Prop} {Q : Exit → Act → World → Prop} {f : Nat → Option Bool} (hgd : o.guard = none) (ty : TypeId) (x y : Operand) (ho : o.op = .store ty x y) (hdst : o.dst = none)
    (g : Nat) (cells : Array Value) (hx : a.eval x = .pointer (some ⟨g, 0, none⟩)) (hy : a.eval y = .agg cells)
    (t : TypeId) (old : Array Value) (hg : Blk w g t old) (hi : (P.info? ty).map (·.size) = some cells.size) (hold : old.size = cells.size) (h1 : cells.all (·.oneCell') = true)
    (h : ∀ w', Blk w' g t cells → Frm [g] w w' → K a w') : if Region.wanted o f = true then Oper.wp P o a w K Q else K (a.put o.dst undef) w := by
  rw [if_pos (wanted_none hgd)]
  refine wp_store_row ty x y ho g cells hx hy t old hg hi hold h1 ?_
  rw [hdst]
  exact h _ (setRow_heap _ _ _ cells _ _ hg) (frm_setRow w cells)
theorem wp_two_rows {id : Nat} {Q : Exit → Act → World → Prop} {a : Act} {w : World} {o0 o1 o2 o3 : Oper} (hm : P.follows .mixedOrders = true)
    (hr : readyB [o0, o1, o2, o3].toArray [([false, false, false, false], [0, 1]), ([true, false, false, false], [1, 2]), ([false, true, false, false], [0]), ([true, true, false, false], [2]), ([true, false, true, false], [1]), ([true, true, true, false], [3]), ([true, true, true, true], [])] = true)
    (g0 : o0.guard = none) (g1 : o1.guard = none) (g2 : o2.guard = none) (g3 : o3.guard = none) (n2 : o2.dst = none) (n3 : o3.dst = none)
    (t0 t1 : TypeId) (x y p q : Operand) (i j : Tmp) (hij : i ≠ j) (p0 : o0.op = .load t0 x) (p1 : o1.op = .load t1 y) (p2 : o2.op = .store t0 p (.tmp i)) (p3 : o3.op = .store t1 q (.tmp j)) (d0 : o0.dst = some i) (d1 : o1.dst = some j)
    (gx gy gp gq : Nat) (ca cb : Array Value) (kx ky kp kq : TypeId) (cp cq : Array Value) (e0 e1 : TypeDesc)
    (hx : a.eval x = .pointer (some ⟨gx, 0, none⟩)) (hx' : (a.put (some j) (.agg cb)).eval x = .pointer (some ⟨gx, 0, none⟩))
    (hy : a.eval y = .pointer (some ⟨gy, 0, none⟩)) (hy' : (a.put (some i) (.agg ca)).eval y = .pointer (some ⟨gy, 0, none⟩))
    (hp : (a.put (some i) (.agg ca)).eval p = .pointer (some ⟨gp, 0, none⟩)) (hp' : ((a.put (some i) (.agg ca)).put (some j) (.agg cb)).eval p = .pointer (some ⟨gp, 0, none⟩))
    (hs : (a.put (some i) (.agg ca)).eval (.tmp i) = .agg ca) (hs' : ((a.put (some i) (.agg ca)).put (some j) (.agg cb)).eval (.tmp i) = .agg ca)
    (hq : ((a.put (some i) (.agg ca)).put (some j) (.agg cb)).eval q = .pointer (some ⟨gq, 0, none⟩)) (ht : ((a.put (some i) (.agg ca)).put (some j) (.agg cb)).eval (.tmp j) = .agg cb)
    (bx : Blk w gx kx ca) (bY : Blk w gy ky cb) (bp : Blk w gp kp cp) (bq : Blk w gq kq cq) (npy : gy ≠ gp) (npq : gq ≠ gp)
    (u0 : P.underlying t0 = some e0) (r0 : rowB e0 = true) (z0 : (P.info? t0).map (·.size) = some ca.size) (s0 : cp.size = ca.size) (c0 : ca.all (·.oneCell') = true)
    (u1 : P.underlying t1 = some e1) (r1 : rowB e1 = true) (z1 : (P.info? t1).map (·.size) = some cb.size) (s1 : cq.size = cb.size) (c1 : cb.all (·.oneCell') = true)
    (h : ∀ w', Blk w' gp kp ca → Blk w' gq kq cb → Frm [gp, gq] w w' → Q .normal ((a.put (some i) (.agg ca)).put (some j) (.agg cb)) w') :
    (Code.region id [o0, o1, o2, o3].toArray true).wp P Q a w := by
  have R : ∀ s r, (s, r) ∈ _ → _ := fun s r hm => readyB_at hr (s := s) (r := r) hm
  have fin : ∀ w', Blk w' gp kp ca → Blk w' gq kq cb → Frm [gp, gq] w w' → ∀ f, wpAny P .any [o0, o1, o2, o3].toArray Q f #[true, true, true, true] ((a.put (some i) (.agg ca)).put (some j) (.agg cb)) w' := fun w' k1 k2 k3 f =>
    wpAny_done (R [true, true, true, true] [] (by simp)) (h w' k1 k2 k3) f
  -- behind the first store and both loads
  have last : ∀ w', Blk w' gp kp ca → Blk w' gq kq cq → Frm [gp] w w' → wpAny P .any [o0, o1, o2, o3].toArray Q 1 #[true, true, true, false] ((a.put (some i) (.agg ca)).put (some j) (.agg cb)) w' := fun w' k1 k2 k3 => by
    refine wpAny_ready (rs := [3]) (R [true, true, true, false] [3] (by simp)) (by simp) (AllReady.cons (o := o3) rfl (fun K hK => ?_) AllReady.nil)
    refine wp_store_in g3 t1 q (.tmp j) p3 n3 gq cb hq ht kq cq k2 z1 s1 c1 (fun w2 k4 k5 => hK _ _ ?_)
    refine fin w2 (k1.frm k5 (by simp; exact fun h => npq h.symm)) k4 ?_ 0
    exact (k3.mono (T := [gp, gq]) (fun x hx _ => by simp at hx ⊢; exact .inl hx)).trans (k5.mono (fun x hx _ => by simp at hx ⊢; exact .inr hx))
  -- both loads are done
  have both : ∀ w1, (∀ b t c, Blk w b t c → Blk w1 b t c) → Frm [gp] w w1 → wpAny P .any [o0, o1, o2, o3].toArray Q 2 #[true, true, false, false] ((a.put (some i) (.agg ca)).put (some j) (.agg cb)) w1 := fun w1 hb hf => by
    refine wpAny_ready (rs := [2]) (R [true, true, false, false] [2] (by simp)) (by simp) (AllReady.cons (o := o2) rfl (fun K hK => ?_) AllReady.nil)
    refine wp_store_in g2 t0 p (.tmp i) p2 n2 gp ca hp' hs' kp cp (hb _ _ _ bp) z0 s0 c0 (fun w2 k4 k5 => hK _ _ ?_)
    exact last w2 k4 ((hb _ _ _ bq).frm k5 (by simp; exact npq)) (hf.trans k5)
  refine wp_region_any hm ?_
  change wpAny P .any [o0, o1, o2, o3].toArray Q 4 #[false, false, false, false] a w.drew
  have hdr : ∀ b t c, Blk w b t c → Blk w.drew b t c := fun b t c h => h.drew
  have hfd : Frm [gp] w w.drew := (Frm.refl _ _).drew
  refine wpAny_ready (rs := [0, 1]) (R [false, false, false, false] [0, 1] (by simp)) (by simp) (AllReady.cons (o := o0) rfl (fun K hK => ?_) (AllReady.cons (o := o1) rfl (fun K hK => ?_) AllReady.nil))
  · refine wp_load_in g0 t0 x p0 gx hx kx ca e0 bx.drew u0 r0 z0 (hK _ _ ?_)
    rw [d0]
    refine wpAny_ready (rs := [1, 2]) (R [true, false, false, false] [1, 2] (by simp)) (by simp) (AllReady.cons (o := o1) rfl (fun K hK => ?_) (AllReady.cons (o := o2) rfl (fun K hK => ?_) AllReady.nil))
    · refine wp_load_in g1 t1 y p1 gy hy' ky cb e1 bY.drew u1 r1 z1 (hK _ _ ?_)
      rw [d1]
      exact both w.drew hdr hfd
    · refine wp_store_in g2 t0 p (.tmp i) p2 n2 gp ca hp hs kp cp bp.drew z0 s0 c0 (fun w2 k4 k5 => hK _ _ ?_)
      refine wpAny_ready (rs := [1]) (R [true, false, true, false] [1] (by simp)) (by simp) (AllReady.cons (o := o1) rfl (fun K hK => ?_) AllReady.nil)
      refine wp_load_in g1 t1 y p1 gy hy' ky cb e1 (bY.drew.frm k5 (by simp; exact npy)) u1 r1 z1 (hK _ _ ?_)
      rw [d1]
      exact last w2 k4 (bq.drew.frm k5 (by simp; exact npq)) (hfd.trans k5)
  · refine wp_load_in g1 t1 y p1 gy hy ky cb e1 bY.drew u1 r1 z1 (hK _ _ ?_)
    rw [d1]
    refine wpAny_ready (rs := [0]) (R [false, true, false, false] [0] (by simp)) (by simp) (AllReady.cons (o := o0) rfl (fun K hK => ?_) AllReady.nil)
    refine wp_load_in g0 t0 x p0 gx hx' kx ca e0 bx.drew u0 r0 z0 (hK _ _ ?_)
    rw [d0, ← put_comm hij]
    exact both w.drew hdr hfd
end
end Go.Proofs.YtmiaabpnolebhaaGreatDoor

/-
  A drawn region of two loads, an address, a store into a block's middle and a store: each order ends the same.
-/
namespace Go.Proofs.YtmiaabpnolebhaaGreatDoor
open Go Go.RowKit

section
variable {P : Program}
theorem wp_store_mid_in {o : Oper} {a : Act} {w : World} {K : Act → World → Prop} {Q : Exit → Act → World → Prop} {f : Nat → Option Bool} (hgd : o.guard = none) (ty : TypeId) (x y : Operand) (ho : o.op = .store ty x y) (hdst : o.dst = none)
    (g off : Nat) (cells : Array Value) (hx : a.eval x = .pointer (some ⟨g, off, none⟩)) (hy : a.eval y = .agg cells)
    (t : TypeId) (L : List Value) (hg : Blk w g t L.toArray) (hfit : off + cells.size ≤ L.length) (hi : (P.info? ty).map (·.size) = some cells.size) (h1 : cells.all (·.oneCell') = true)
    (h : ∀ w', Blk w' g t (splice L off cells.toList).toArray → Frm [g] w w' → K a w') : if Region.wanted o f = true then Oper.wp P o a w K Q else K (a.put o.dst undef) w := by
  rw [if_pos (wanted_none hgd)]
  refine wp_store_mid ty x y ho g off cells hx hy (fun j hj => ⟨by rw [hg.cell]; simp; omega, hg.frozen _⟩) hi h1 ?_
  rw [hdst]
  exact h _ (blk_setCells cells.toList off L w hg (by simpa using hfit)) (frm_setCells _ _ _ _ _ (Frm.refl _ _) (.inl (by simp)))
theorem wp_val_in {o : Oper} {a : Act} {w : World} {K : Act → World → Prop} {Q : Exit → Act → World → Prop} {f : Nat → Option Bool} (hgd : o.guard = none) (v : Value) (hy : (execOp a.eval o).run P w = .ok (.value v) w) (h : K (a.put o.dst v) w) :
    if Region.wanted o f = true then Oper.wp P o a w K Q else K (a.put o.dst undef) w := by
  rw [if_pos (wanted_none hgd)]
  unfold Oper.wp
  rw [hy]
  exact h
theorem wp_two_rows5 {id : Nat} {Q : Exit → Act → World → Prop} {a : Act} {w : World} {o0 o1 o2 o3 o4 : Oper} (hm : P.follows .mixedOrders = true)
    (hr : readyB [o0, o1, o2, o3, o4].toArray [([false, false, false, false, false], [0, 1]), ([true, false, false, false, false], [1, 2]), ([false, true, false, false, false], [0]), ([true, true, false, false, false], [2]), ([true, false, true, false, false], [1, 3]), ([true, true, true, false, false], [3]), ([true, false, true, true, false], [1]), ([true, true, true, true, false], [4]), ([true, true, true, true, true], [])] = true)
    (g0 : o0.guard = none) (g1 : o1.guard = none) (g2 : o2.guard = none) (g3 : o3.guard = none) (g4 : o4.guard = none) (n3 : o3.dst = none) (n4 : o4.dst = none)
    (t0 t1 : TypeId) (x y q : Operand) (i j k : Tmp) (hij : i ≠ j) (hjk : j ≠ k) (p0 : o0.op = .load t0 x) (p1 : o1.op = .load t1 y) (p3 : o3.op = .store t0 (.tmp k) (.tmp i)) (p4 : o4.op = .store t1 q (.tmp j)) (d0 : o0.dst = some i) (d1 : o1.dst = some j) (d2 : o2.dst = some k)
    (gx gy gp off gq : Nat) (ca cb : Array Value) (kx ky kp kq : TypeId) (L : List Value) (cq : Array Value) (e0 e1 : TypeDesc)
    (hx : a.eval x = .pointer (some ⟨gx, 0, none⟩)) (hx' : (a.put (some j) (.agg cb)).eval x = .pointer (some ⟨gx, 0, none⟩))
    (hy : a.eval y = .pointer (some ⟨gy, 0, none⟩)) (hy' : (a.put (some i) (.agg ca)).eval y = .pointer (some ⟨gy, 0, none⟩)) (hy2 : ((a.put (some i) (.agg ca)).put (some k) (.pointer (some ⟨gp, off, none⟩))).eval y = .pointer (some ⟨gy, 0, none⟩))
    (v0 : ∀ w, (execOp (a.put (some i) (.agg ca)).eval o2).run P w = .ok (.value (.pointer (some ⟨gp, off, none⟩))) w) (v1 : ∀ w, (execOp ((a.put (some i) (.agg ca)).put (some j) (.agg cb)).eval o2).run P w = .ok (.value (.pointer (some ⟨gp, off, none⟩))) w)
    (hp : ((a.put (some i) (.agg ca)).put (some k) (.pointer (some ⟨gp, off, none⟩))).eval (.tmp k) = .pointer (some ⟨gp, off, none⟩)) (hs : ((a.put (some i) (.agg ca)).put (some k) (.pointer (some ⟨gp, off, none⟩))).eval (.tmp i) = .agg ca)
    (hp' : (((a.put (some i) (.agg ca)).put (some j) (.agg cb)).put (some k) (.pointer (some ⟨gp, off, none⟩))).eval (.tmp k) = .pointer (some ⟨gp, off, none⟩)) (hs' : (((a.put (some i) (.agg ca)).put (some j) (.agg cb)).put (some k) (.pointer (some ⟨gp, off, none⟩))).eval (.tmp i) = .agg ca)
    (hq : (((a.put (some i) (.agg ca)).put (some j) (.agg cb)).put (some k) (.pointer (some ⟨gp, off, none⟩))).eval q = .pointer (some ⟨gq, 0, none⟩)) (ht : (((a.put (some i) (.agg ca)).put (some j) (.agg cb)).put (some k) (.pointer (some ⟨gp, off, none⟩))).eval (.tmp j) = .agg cb)
    (bx : Blk w gx kx ca) (bY : Blk w gy ky cb) (bp : Blk w gp kp L.toArray) (bq : Blk w gq kq cq) (npy : gy ≠ gp) (npq : gq ≠ gp)
    (u0 : P.underlying t0 = some e0) (r0 : rowB e0 = true) (z0 : (P.info? t0).map (·.size) = some ca.size) (s0 : off + ca.size ≤ L.length) (c0 : ca.all (·.oneCell') = true)
    (u1 : P.underlying t1 = some e1) (r1 : rowB e1 = true) (z1 : (P.info? t1).map (·.size) = some cb.size) (s1 : cq.size = cb.size) (c1 : cb.all (·.oneCell') = true)
    (h : ∀ w', Blk w' gp kp (splice L off ca.toList).toArray → Blk w' gq kq cb → Frm [gp, gq] w w' → Q .normal (((a.put (some i) (.agg ca)).put (some j) (.agg cb)).put (some k) (.pointer (some ⟨gp, off, none⟩))) w') :
    (Code.region id [o0, o1, o2, o3, o4].toArray true).wp P Q a w := by
  have R : ∀ s r, (s, r) ∈ _ → _ := fun s r hm => readyB_at hr (s := s) (r := r) hm
  have fin : ∀ w', Blk w' gp kp (splice L off ca.toList).toArray → Blk w' gq kq cb → Frm [gp, gq] w w' → ∀ f, wpAny P .any [o0, o1, o2, o3, o4].toArray Q f #[true, true, true, true, true] (((a.put (some i) (.agg ca)).put (some j) (.agg cb)).put (some k) (.pointer (some ⟨gp, off, none⟩))) w' := fun w' k1 k2 k3 f =>
    wpAny_done (R [true, true, true, true, true] [] (by simp)) (h w' k1 k2 k3) f
  have last : ∀ w', Blk w' gp kp (splice L off ca.toList).toArray → Blk w' gq kq cq → Frm [gp] w w' → wpAny P .any [o0, o1, o2, o3, o4].toArray Q 1 #[true, true, true, true, false] (((a.put (some i) (.agg ca)).put (some j) (.agg cb)).put (some k) (.pointer (some ⟨gp, off, none⟩))) w' := fun w' k1 k2 k3 => by
    refine wpAny_ready (rs := [4]) (R [true, true, true, true, false] [4] (by simp)) (by simp) (AllReady.cons (o := o4) rfl (fun K hK => ?_) AllReady.nil)
    refine wp_store_in g4 t1 q (.tmp j) p4 n4 gq cb hq ht kq cq k2 z1 s1 c1 (fun w2 k4 k5 => hK _ _ ?_)
    refine fin w2 (k1.frm k5 (by simp; exact fun h => npq h.symm)) k4 ?_ 0
    exact (k3.mono (T := [gp, gq]) (fun x hx _ => by simp at hx ⊢; exact .inl hx)).trans (k5.mono (fun x hx _ => by simp at hx ⊢; exact .inr hx))
  have all3 : wpAny P .any [o0, o1, o2, o3, o4].toArray Q 2 #[true, true, true, false, false] (((a.put (some i) (.agg ca)).put (some j) (.agg cb)).put (some k) (.pointer (some ⟨gp, off, none⟩))) w.drew := by
    refine wpAny_ready (rs := [3]) (R [true, true, true, false, false] [3] (by simp)) (by simp) (AllReady.cons (o := o3) rfl (fun K hK => ?_) AllReady.nil)
    refine wp_store_mid_in g3 t0 (.tmp k) (.tmp i) p3 n3 gp off ca hp' hs' kp L bp.drew s0 z0 c0 (fun w2 k4 k5 => hK _ _ ?_)
    exact last w2 k4 (bq.drew.frm k5 (by simp; exact npq)) ((Frm.refl _ _).drew.trans k5)
  have two : wpAny P .any [o0, o1, o2, o3, o4].toArray Q 3 #[true, true, false, false, false] ((a.put (some i) (.agg ca)).put (some j) (.agg cb)) w.drew := by
    refine wpAny_ready (rs := [2]) (R [true, true, false, false, false] [2] (by simp)) (by simp) (AllReady.cons (o := o2) rfl (fun K hK => ?_) AllReady.nil)
    refine wp_val_in g2 _ (v1 _) (hK _ _ ?_)
    rw [d2]
    exact all3
  refine wp_region_any hm ?_
  change wpAny P .any [o0, o1, o2, o3, o4].toArray Q 5 #[false, false, false, false, false] a w.drew
  refine wpAny_ready (rs := [0, 1]) (R [false, false, false, false, false] [0, 1] (by simp)) (by simp) (AllReady.cons (o := o0) rfl (fun K hK => ?_) (AllReady.cons (o := o1) rfl (fun K hK => ?_) AllReady.nil))
  · refine wp_load_in g0 t0 x p0 gx hx kx ca e0 bx.drew u0 r0 z0 (hK _ _ ?_)
    rw [d0]
    refine wpAny_ready (rs := [1, 2]) (R [true, false, false, false, false] [1, 2] (by simp)) (by simp) (AllReady.cons (o := o1) rfl (fun K hK => ?_) (AllReady.cons (o := o2) rfl (fun K hK => ?_) AllReady.nil))
    · refine wp_load_in g1 t1 y p1 gy hy' ky cb e1 bY.drew u1 r1 z1 (hK _ _ ?_)
      rw [d1]
      exact two
    · refine wp_val_in g2 _ (v0 _) (hK _ _ ?_)
      rw [d2]
      refine wpAny_ready (rs := [1, 3]) (R [true, false, true, false, false] [1, 3] (by simp)) (by simp) (AllReady.cons (o := o1) rfl (fun K hK => ?_) (AllReady.cons (o := o3) rfl (fun K hK => ?_) AllReady.nil))
      · refine wp_load_in g1 t1 y p1 gy hy2 ky cb e1 bY.drew u1 r1 z1 (hK _ _ ?_)
        rw [d1, ← put_comm hjk]
        exact all3
      · refine wp_store_mid_in g3 t0 (.tmp k) (.tmp i) p3 n3 gp off ca hp hs kp L bp.drew s0 z0 c0 (fun w2 k4 k5 => hK _ _ ?_)
        refine wpAny_ready (rs := [1]) (R [true, false, true, true, false] [1] (by simp)) (by simp) (AllReady.cons (o := o1) rfl (fun K hK => ?_) AllReady.nil)
        refine wp_load_in g1 t1 y p1 gy hy2 ky cb e1 (bY.drew.frm k5 (by simp; exact npy)) u1 r1 z1 (hK _ _ ?_)
        rw [d1, ← put_comm hjk]
        exact last w2 k4 (bq.drew.frm k5 (by simp; exact npq)) ((Frm.refl _ _).drew.trans k5)
  · refine wp_load_in g1 t1 y p1 gy hy ky cb e1 bY.drew u1 r1 z1 (hK _ _ ?_)
    rw [d1]
    refine wpAny_ready (rs := [0]) (R [false, true, false, false, false] [0] (by simp)) (by simp) (AllReady.cons (o := o0) rfl (fun K hK => ?_) AllReady.nil)
    refine wp_load_in g0 t0 x p0 gx hx' kx ca e0 bx.drew u0 r0 z0 (hK _ _ ?_)
    rw [d0, ← put_comm hij]
    exact two
end
end Go.Proofs.YtmiaabpnolebhaaGreatDoor
