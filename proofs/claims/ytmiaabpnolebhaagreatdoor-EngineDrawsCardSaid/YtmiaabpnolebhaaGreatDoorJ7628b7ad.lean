/-
  Texts of this claim, joined: RelI, MemD.
-/
import Derived.Test.YtmiaabpnolebhaaGreatDoorJ2eeb29e0
set_option linter.unusedSimpArgs false
set_option linter.unusedVariables false
/-
  A drawn region by an invariant: over what has been done, the frame and the world. No program in sight.
-/
namespace Go.Proofs.YtmiaabpnolebhaaGreatDoor
open Go.RowKit

namespace RelI
open RelG
section
variable {P : Program} {Q : Exit → Act → World → Prop}
theorem any_inv {ops : Array Oper} {md : Region.Mode} (I : Array Bool → Act → World → Prop)
    (step : ∀ s a W i o, s.size = ops.size → I s a W → i ∈ Region.ready md ops s → ops[i]? = some o → ∀ K : Act → World → Prop, (∀ a' W', I (s.setIfInBounds i true) a' W' → K a' W') →
      if Region.wanted o (yielded ops a.tmps) = true then Oper.wp P o a W K Q else K (a.put o.dst undef) W)
    (fin : ∀ s a W, s.size = ops.size → I s a W → Region.ready md ops s = [] → Q .normal a W) :
    ∀ (f : Nat) (s : Array Bool) (a : Act) (W : World), s.size = ops.size → cnt s ops.size = f → I s a W → wpAny P md ops Q f s a W
  | 0, s, a, W, hs, hc, hI => by
    have hr : Region.ready md ops s = [] := by
      rw [List.eq_nil_iff_forall_not_mem]
      intro i hi
      obtain ⟨h1, o, ho, _⟩ := mem_ready.1 hi
      have hlt : i < ops.size := (Array.getElem?_eq_some_iff.1 ho).1
      have h2 := cnt_zero ops.size hc i hlt
      rw [getD_both h1] at h2
      cases h2
    exact ⟨hr, fin s a W hs hI hr⟩
  | f + 1, s, a, W, hs, hc, hI => by
    refine ⟨fun hr => fin s a W hs hI hr, fun i hi => ?_⟩
    obtain ⟨h1, o, ho, _⟩ := mem_ready.1 hi
    have hlt : i < ops.size := (Array.getElem?_eq_some_iff.1 ho).1
    have hst := step s a W i o hs hI hi ho (wpAny P md ops Q f (s.setIfInBounds i true)) (fun a' W' h' => any_inv I step fin f _ a' W' (by simpa using hs) (by
      have := cnt_set (s := s) (i := i) (by rw [hs]; exact hlt) (getD_both h1) ops.size hlt
      omega) h')
    unfold wpOp
    rw [ho]
    simp only
    split
    · rename_i hw
      rw [if_pos hw] at hst
      exact .inl hst
    · rename_i hw
      rw [if_neg hw] at hst
      exact hst
/-- The region's law. -/
theorem wp_region_inv {id : Nat} {a : Act} {w : World} {l : List Oper} (hm : P.follows .mixedOrders = true) (I : Array Bool → Act → World → Prop) (h0 : I (Array.replicate l.toArray.size false) a w.drew)
    (step : ∀ s a W i o, s.size = l.toArray.size → I s a W → i ∈ Region.ready .any l.toArray s → l.toArray[i]? = some o → ∀ K : Act → World → Prop, (∀ a' W', I (s.setIfInBounds i true) a' W' → K a' W') →
      if Region.wanted o (yielded l.toArray a.tmps) = true then Oper.wp P o a W K Q else K (a.put o.dst undef) W)
    (fin : ∀ s a W, s.size = l.toArray.size → I s a W → Region.ready .any l.toArray s = [] → Q .normal a W) : (Code.region id l.toArray true).wp P Q a w := by
  refine wp_region_any hm ?_
  have hc : ∀ m, cnt (Array.replicate l.toArray.size false) m = m := fun m => by
    induction m with
    | zero => rfl
    | succ m ih => rw [cnt, ih, getD_replicate_false]; rfl
  exact any_inv I step fin _ _ _ _ (by simp) (hc _) h0
def backB (md : Region.Mode) (ops : Array Oper) : Bool := (List.range ops.size).all fun i => match ops[i]? with
  | none => true
  | some o => o.after.all fun e => !Region.binds md e || decide (e.on < i)
/-- Where nothing is ready, all is done. -/
theorem all_on {ops : Array Oper} {md : Region.Mode} {s : Array Bool} (hb : backB md ops = true) (hr : Region.ready md ops s = []) (hs : s.size = ops.size) : ∀ i, i < ops.size → s.getD i false = true := by
  intro i
  induction i using Nat.strongRecOn with
  | _ i ih =>
    intro hi
    cases h : s.getD i false with
    | true => rfl
    | false =>
      exfalso
      have ho : ops[i]? = some (ops[i]'hi) := Array.getElem?_eq_getElem hi
      have h1 := List.all_eq_true.1 hb i (List.mem_range.2 hi)
      rw [ho] at h1
      have hmem : i ∈ Region.ready md ops s := mem_ready.2 ⟨getD_in (by rw [hs]; exact hi) h, _, ho, fun e he hbi => by
        have h2 := Array.all_eq_true_iff_forall_mem.1 h1 e he
        simp only [hbi, Bool.not_true, Bool.false_or, decide_eq_true_eq] at h2
        exact ih e.on h2 (Nat.lt_trans h2 hi)⟩
      rw [hr] at hmem
      cases hmem
theorem wp_run_in {o : Oper} {a : Act} {w w' : World} {K : Act → World → Prop} {f : Nat → Option Bool} (hgd : o.guard = none) (v : Value) (hy : (execOp a.eval o).run P w = .ok (.value v) w') (h : K (a.put o.dst v) w') :
    if Region.wanted o f = true then Oper.wp P o a w K Q else K (a.put o.dst undef) w := by
  rw [if_pos (by unfold Region.wanted; rw [hgd])]
  unfold Oper.wp
  rw [hy]
  exact h
theorem wp_skip_in {o : Oper} {a : Act} {w w' : World} {K : Act → World → Prop} {f : Nat → Option Bool} (hgd : o.guard = none) (hd : o.dst = none) (hy : (execOp a.eval o).run P w = .ok .skip w') (h : K a w') :
    if Region.wanted o f = true then Oper.wp P o a w K Q else K (a.put o.dst undef) w := by
  rw [if_pos (by unfold Region.wanted; rw [hgd])]
  unfold Oper.wp
  rw [hy]
  show K (a.put o.dst undef) w'
  rw [hd]
  exact h
end
end RelI
end Go.Proofs.YtmiaabpnolebhaaGreatDoor

/-
  The reference's memory (curtilageref18): the drawn region of four makes and four late stores, by an invariant.
-/
namespace Go.Proofs.YtmiaabpnolebhaaGreatDoor
open Go.RowKit

namespace M18
open Otp R1 Sha
def dst (i : Nat) : Nat := [8, 9, 10, 11, 12, 13, 14, 15, 16, 17, 18, 0, 19, 20, 21, 0, 22, 23, 24, 0, 25, 26, 27, 0].getD i 0
def isS (i : Nat) : Bool := i == 11 || i == 15 || i == 19 || i == 23
def isM (i : Nat) : Bool := i == 4 || i == 5 || i == 6 || i == 7
def isP (i : Nat) : Bool := decide (i < 24) && !isS i && !isM i
def val (g i : Nat) : Value :=
  if i = 9 ∨ i = 13 ∨ i = 17 ∨ i = 21 then .pointer (some ⟨g, 1, none⟩) else if i = 10 then .pointer (some ⟨g, 2, none⟩) else if i = 14 then .pointer (some ⟨g, 3, none⟩) else if i = 18 then .pointer (some ⟨g, 5, none⟩) else if i = 22 then .pointer (some ⟨g, 6, none⟩) else .pointer (some ⟨g, 0, none⟩)
def len (i : Nat) : Nat := if i = 6 then 64 else if i = 7 then 256 else 4096
def cel (Z1 Z3 Z4 : Array Value) (i : Nat) : Array Value := if i = 6 then Z3 else if i = 7 then Z4 else Z1
def on (s : Array Bool) (i : Nat) : Prop := s.getD i false = true
theorem dst_ne : ∀ i j : Fin 24, i ≠ j → isS i.val = false → isS j.val = false → dst i.val ≠ dst j.val := by decide +kernel
theorem dst_hi : ∀ i : Fin 24, isS i.val = false → 8 ≤ dst i.val ∧ dst i.val < 51 := by decide +kernel
def cellOf (s : Array Bool) (i : Nat) (v : Value) : Value := if s.getD i false = true then v else nl
structure Iv (w1 : World) (g : Nat) (st : Int) (Z1 Z3 Z4 : Array Value) (s : Array Bool) (a : Act) (W : World) : Prop where
  ss : s.size = 24
  sz : a.tmps.size = 51
  df : a.defers = []
  b0 : a.tmps[0]? = some (.int .i64 st)
  b2 : a.tmps[2]? = some (.pointer none)
  b3 : a.tmps[3]? = some (.pointer (some ⟨g, 0, none⟩))
  pu : ∀ i, i < 24 → isP i = true → on s i → a.tmps[dst i]? = some (val g i)
  ma : ∃ γ : Nat → Nat, (∀ i, i < 24 → isM i = true → on s i → a.tmps[dst i]? = some (sl (γ i) (len i)) ∧ w1.heap.size ≤ γ i ∧ Blk W (γ i) 5 (cel Z1 Z3 Z4 i)) ∧ (∀ i j, isM i = true → isM j = true → i ≠ j → on s i → on s j → γ i ≠ γ j) ∧
    Blk W g 143 (mB st (cellOf s 11 (sl (γ 4) 4096)) (cellOf s 15 (sl (γ 5) 4096)) nl (cellOf s 19 (sl (γ 6) 64)) (cellOf s 23 (sl (γ 7) 256)) false)
  cl : (on s 11 → on s 4) ∧ (on s 15 → on s 5) ∧ (on s 19 → on s 6) ∧ (on s 23 → on s 7)
  fr : Frm [g] w1 W
  gl : g < w1.heap.size
theorem on_set {s : Array Bool} {i j : Nat} (hs : s.size = 24) (hi : i < 24) : on (s.setIfInBounds i true) j ↔ j = i ∨ on s j := by
  unfold on
  by_cases h : j = i
  · subst h
    simp [Array.getD_eq_getD_getElem?, hs, hi]
  · simp [Array.getD_eq_getD_getElem?, h, Array.getElem?_setIfInBounds_ne (Ne.symm h)]
theorem cellOf_set {s : Array Bool} {i j : Nat} {v : Value} (h : i ≠ j) : cellOf (s.setIfInBounds i true) j v = cellOf s j v := by
  unfold cellOf
  simp [Array.getD_eq_getD_getElem?, Array.getElem?_setIfInBounds_ne h]
theorem put_at {a : Act} {d e : Nat} {v : Value} (h : d ≠ e) : (a.put (some d) v).tmps[e]? = a.tmps[e]? := by
  simp [Act.put, Array.getElem?_setIfInBounds_ne h]
theorem put_own {a : Act} {d : Nat} {v : Value} (h : d < a.tmps.size) : (a.put (some d) v).tmps[d]? = some v := by
  simp [Act.put, h]
theorem Iv.pure {w1 W : World} {g i : Nat} {st : Int} {Z1 Z3 Z4 : Array Value} {s : Array Bool} {a : Act} (h : Iv w1 g st Z1 Z3 Z4 s a W) (hi : i < 24) (hp : isP i = true) : Iv w1 g st Z1 Z3 Z4 (s.setIfInBounds i true) (a.put (some (dst i)) (val g i)) W := by
  have hnS : isS i = false := by
    unfold isP at hp
    simp only [Bool.and_eq_true, Bool.not_eq_true'] at hp
    exact hp.1.2
  have hnM : isM i = false := by
    unfold isP at hp
    simp only [Bool.and_eq_true, Bool.not_eq_true'] at hp
    exact hp.2
  obtain ⟨hd1, hd2⟩ := dst_hi ⟨i, hi⟩ hnS
  have hz := h.sz
  have hne : ∀ j, isM j = true → j ≠ i := fun j hj e => by rw [e, hnM] at hj; cases hj
  have hneS : ∀ j, isS j = true → i ≠ j := fun j hj e => by rw [← e, hnS] at hj; cases hj
  refine ⟨by simpa using h.ss, by rw [← hz]; exact RelG.put_size a _ _, by rw [← h.df]; exact RelG.put_defers a _ _, by rw [put_at (by simp only at hd1; omega)]; exact h.b0, by rw [put_at (by simp only at hd1; omega)]; exact h.b2, by rw [put_at (by simp only at hd1; omega)]; exact h.b3, fun j hj hjp ho => ?_, ?_, ?_, h.fr, h.gl⟩
  · rcases (on_set h.ss hi).1 ho with rfl | ho
    · exact put_own (by rw [hz]; exact hd2)
    · by_cases e : j = i
      · subst e
        exact put_own (by rw [hz]; exact hd2)
      · have hjS : isS j = false := by
          unfold isP at hjp
          simp only [Bool.and_eq_true, Bool.not_eq_true'] at hjp
          exact hjp.1.2
        rw [put_at (dst_ne ⟨i, hi⟩ ⟨j, hj⟩ (fun e' => e (by simpa using (Fin.mk.inj_iff.1 e').symm)) hnS hjS)]
        exact h.pu j hj hjp ho
  · obtain ⟨γ, k1, k2, k3⟩ := h.ma
    refine ⟨γ, fun j hj hjm ho => ?_, fun x y hx hy hxy ho1 ho2 => ?_, ?_⟩
    · have e : j ≠ i := hne j hjm
      have ho' : on s j := ((on_set h.ss hi).1 ho).resolve_left e
      have hjS : isS j = false := by
        have : ∀ j : Fin 24, isM j.val = true → isS j.val = false := by decide +kernel
        exact this ⟨j, hj⟩ hjm
      rw [put_at (dst_ne ⟨i, hi⟩ ⟨j, hj⟩ (fun e' => e (by simpa using (Fin.mk.inj_iff.1 e').symm)) hnS hjS)]
      exact k1 j hj hjm ho'
    · exact k2 x y hx hy hxy (((on_set h.ss hi).1 ho1).resolve_left (hne x hx)) (((on_set h.ss hi).1 ho2).resolve_left (hne y hy))
    · rw [cellOf_set (hneS 11 rfl), cellOf_set (hneS 15 rfl), cellOf_set (hneS 19 rfl), cellOf_set (hneS 23 rfl)]
      exact k3
  · obtain ⟨c1, c2, c3, c4⟩ := h.cl
    refine ⟨fun ho => ?_, fun ho => ?_, fun ho => ?_, fun ho => ?_⟩
    · exact (on_set h.ss hi).2 (.inr (c1 (((on_set h.ss hi).1 ho).resolve_left (fun e => hneS 11 rfl e.symm))))
    · exact (on_set h.ss hi).2 (.inr (c2 (((on_set h.ss hi).1 ho).resolve_left (fun e => hneS 15 rfl e.symm))))
    · exact (on_set h.ss hi).2 (.inr (c3 (((on_set h.ss hi).1 ho).resolve_left (fun e => hneS 19 rfl e.symm))))
    · exact (on_set h.ss hi).2 (.inr (c4 (((on_set h.ss hi).1 ho).resolve_left (fun e => hneS 23 rfl e.symm))))
theorem Iv.make {w1 W : World} {g i : Nat} {st : Int} {Z1 Z3 Z4 : Array Value} {s : Array Bool} {a : Act} (h : Iv w1 g st Z1 Z3 Z4 s a W) (hi : i < 24) (hm : isM i = true) (hn : ¬ on s i) : Iv w1 g st Z1 Z3 Z4 (s.setIfInBounds i true) (a.put (some (dst i)) (sl W.heap.size (len i))) (W.alloc (.cells (cel Z1 Z3 Z4 i) 5)) := by
  have hnS : isS i = false := by
    have : ∀ j : Fin 24, isM j.val = true → isS j.val = false := by decide +kernel
    exact this ⟨i, hi⟩ hm
  have hnP : isP i = false := by
    have : ∀ j : Fin 24, isM j.val = true → isP j.val = false := by decide +kernel
    exact this ⟨i, hi⟩ hm
  obtain ⟨hd1, hd2⟩ := dst_hi ⟨i, hi⟩ hnS
  have hz := h.sz
  have hneP : ∀ j, isP j = true → j ≠ i := fun j hj e => by rw [e, hnP] at hj; cases hj
  have hneS : ∀ j, isS j = true → j ≠ i := fun j hj e => by rw [e, hnS] at hj; cases hj
  refine ⟨by simpa using h.ss, by rw [← hz]; exact RelG.put_size a _ _, by rw [← h.df]; exact RelG.put_defers a _ _, by rw [put_at (by simp only at hd1; omega)]; exact h.b0, by rw [put_at (by simp only at hd1; omega)]; exact h.b2, by rw [put_at (by simp only at hd1; omega)]; exact h.b3, fun j hj hjp ho => ?_, ?_, ?_, h.fr.alloc _, h.gl⟩
  · have hjS : isS j = false := by
      unfold isP at hjp
      simp only [Bool.and_eq_true, Bool.not_eq_true'] at hjp
      exact hjp.1.2
    rw [put_at (dst_ne ⟨i, hi⟩ ⟨j, hj⟩ (fun e' => hneP j hjp (by simpa using (Fin.mk.inj_iff.1 e').symm)) hnS hjS)]
    exact h.pu j hj hjp (((on_set h.ss hi).1 ho).resolve_left (hneP j hjp))
  · obtain ⟨γ, k1, k2, k3⟩ := h.ma
    have hlt : ∀ j, j < 24 → isM j = true → on s j → γ j < W.heap.size := fun j hj hjm ho => (k1 j hj hjm ho).2.2.lt
    have hM24 : ∀ j, isM j = true → j < 24 := fun j hj => by
      unfold isM at hj
      simp only [Bool.or_eq_true, beq_iff_eq] at hj
      omega
    have hcel : ∀ (x k n : Nat), (on s x → on s k) → cellOf (s.setIfInBounds i true) x (sl (if k = i then W.heap.size else γ k) n) = cellOf s x (sl (γ k) n) ∨ x = i := fun x k n hc => by
      by_cases hx : x = i
      · exact .inr hx
      · refine .inl ?_
        rw [cellOf_set (Ne.symm hx)]
        unfold cellOf
        split
        · rename_i ho
          have hki : k ≠ i := fun e => hn (by rw [← e]; exact hc ho)
          rw [if_neg hki]
        · rfl
    obtain ⟨c1, c2, c3, c4⟩ := h.cl
    refine ⟨fun j => if j = i then W.heap.size else γ j, fun j hj hjm ho => ?_, fun x y hx hy hxy ho1 ho2 => ?_, ?_⟩
    · by_cases e : j = i
      · subst e
        simp only [if_pos]
        exact ⟨put_own (by rw [hz]; exact hd2), h.fr.size, Blk.new _ _ _⟩
      · have hjS : isS j = false := by
          have : ∀ j : Fin 24, isM j.val = true → isS j.val = false := by decide +kernel
          exact this ⟨j, hj⟩ hjm
        obtain ⟨q1, q2, q3⟩ := k1 j hj hjm (((on_set h.ss hi).1 ho).resolve_left e)
        simp only [if_neg e]
        rw [put_at (dst_ne ⟨i, hi⟩ ⟨j, hj⟩ (fun e' => e (by simpa using (Fin.mk.inj_iff.1 e').symm)) hnS hjS)]
        exact ⟨q1, q2, q3.alloc _⟩
    · by_cases ex : x = i
      · have ey : y ≠ i := fun e => hxy (by rw [ex, e])
        simp only [if_pos ex, if_neg ey]
        have := hlt y (hM24 y hy) hy (((on_set h.ss hi).1 ho2).resolve_left ey)
        omega
      · by_cases ey : y = i
        · simp only [if_neg ex, if_pos ey]
          have := hlt x (hM24 x hx) hx (((on_set h.ss hi).1 ho1).resolve_left ex)
          omega
        · simp only [if_neg ex, if_neg ey]
          exact k2 x y hx hy hxy (((on_set h.ss hi).1 ho1).resolve_left ex) (((on_set h.ss hi).1 ho2).resolve_left ey)
    · simp only
      rw [(hcel 11 4 4096 c1).resolve_right (hneS 11 rfl), (hcel 15 5 4096 c2).resolve_right (hneS 15 rfl), (hcel 19 6 64 c3).resolve_right (hneS 19 rfl), (hcel 23 7 256 c4).resolve_right (hneS 23 rfl)]
      exact k3.alloc _
  · obtain ⟨c1, c2, c3, c4⟩ := h.cl
    refine ⟨fun ho => ?_, fun ho => ?_, fun ho => ?_, fun ho => ?_⟩
    · exact (on_set h.ss hi).2 (.inr (c1 (((on_set h.ss hi).1 ho).resolve_left (hneS 11 rfl))))
    · exact (on_set h.ss hi).2 (.inr (c2 (((on_set h.ss hi).1 ho).resolve_left (hneS 15 rfl))))
    · exact (on_set h.ss hi).2 (.inr (c3 (((on_set h.ss hi).1 ho).resolve_left (hneS 19 rfl))))
    · exact (on_set h.ss hi).2 (.inr (c4 (((on_set h.ss hi).1 ho).resolve_left (hneS 23 rfl))))
theorem Iv.store11 {w1 W : World} {g : Nat} {st : Int} {Z1 Z3 Z4 : Array Value} {s : Array Bool} {a : Act} {v : Value} (h : Iv w1 g st Z1 Z3 Z4 s a W) (hk : on s 4) (hv : a.tmps[dst 4]? = some v) : Iv w1 g st Z1 Z3 Z4 (s.setIfInBounds 11 true) a (W.setCell ⟨g, 2, none⟩ v) := by
  have hi : 11 < 24 := by decide
  have hM : ∀ j, isM j = true → j ≠ 11 := fun j hj e => by rw [e] at hj; exact absurd hj (by decide)
  have hP : ∀ j, isP j = true → j ≠ 11 := fun j hj e => by rw [e] at hj; exact absurd hj (by decide)
  refine ⟨by simpa using h.ss, h.sz, h.df, h.b0, h.b2, h.b3, fun j hj hjp ho => h.pu j hj hjp (((on_set h.ss hi).1 ho).resolve_left (hP j hjp)), ?_, ?_, h.fr.setCell (p := ⟨g, 2, none⟩) (.inl (by simp)) _, h.gl⟩
  · obtain ⟨γ, k1, k2, k3⟩ := h.ma
    have hg := h.gl
    obtain ⟨e1, _, _⟩ := k1 4 (by decide) rfl hk
    rw [hv] at e1
    have e2 : v = sl (γ 4) 4096 := Option.some.inj e1
    refine ⟨γ, fun j hj hjm ho => ?_, fun x y hx hy hxy ho1 ho2 => k2 x y hx hy hxy (((on_set h.ss hi).1 ho1).resolve_left (hM x hx)) (((on_set h.ss hi).1 ho2).resolve_left (hM y hy)), ?_⟩
    · obtain ⟨q1, q2, q3⟩ := k1 j hj hjm (((on_set h.ss hi).1 ho).resolve_left (hM j hjm))
      exact ⟨q1, q2, q3.far' _ _ (by omega) _⟩
    · have hb := k3.set 2 v
      rw [e2] at hb ⊢
      have hc : cellOf (s.setIfInBounds 11 true) 11 (sl (γ 4) 4096) = sl (γ 4) 4096 := by
        unfold cellOf
        rw [if_pos (show (s.setIfInBounds 11 true).getD 11 false = true from (on_set h.ss hi).2 (.inl rfl))]
      rw [hc, cellOf_set (show 11 ≠ 15 by decide), cellOf_set (show 11 ≠ 19 by decide), cellOf_set (show 11 ≠ 23 by decide)]
      exact hb
  · obtain ⟨c1, c2, c3, c4⟩ := h.cl
    refine ⟨fun _ => (on_set h.ss hi).2 (.inr hk), fun ho => (on_set h.ss hi).2 (.inr (c2 (((on_set h.ss hi).1 ho).resolve_left (by decide)))), fun ho => (on_set h.ss hi).2 (.inr (c3 (((on_set h.ss hi).1 ho).resolve_left (by decide)))), fun ho => (on_set h.ss hi).2 (.inr (c4 (((on_set h.ss hi).1 ho).resolve_left (by decide))))⟩
theorem Iv.store15 {w1 W : World} {g : Nat} {st : Int} {Z1 Z3 Z4 : Array Value} {s : Array Bool} {a : Act} {v : Value} (h : Iv w1 g st Z1 Z3 Z4 s a W) (hk : on s 5) (hv : a.tmps[dst 5]? = some v) : Iv w1 g st Z1 Z3 Z4 (s.setIfInBounds 15 true) a (W.setCell ⟨g, 3, none⟩ v) := by
  have hi : 15 < 24 := by decide
  have hM : ∀ j, isM j = true → j ≠ 15 := fun j hj e => by rw [e] at hj; exact absurd hj (by decide)
  have hP : ∀ j, isP j = true → j ≠ 15 := fun j hj e => by rw [e] at hj; exact absurd hj (by decide)
  refine ⟨by simpa using h.ss, h.sz, h.df, h.b0, h.b2, h.b3, fun j hj hjp ho => h.pu j hj hjp (((on_set h.ss hi).1 ho).resolve_left (hP j hjp)), ?_, ?_, h.fr.setCell (p := ⟨g, 3, none⟩) (.inl (by simp)) _, h.gl⟩
  · obtain ⟨γ, k1, k2, k3⟩ := h.ma
    have hg := h.gl
    obtain ⟨e1, _, _⟩ := k1 5 (by decide) rfl hk
    rw [hv] at e1
    have e2 : v = sl (γ 5) 4096 := Option.some.inj e1
    refine ⟨γ, fun j hj hjm ho => ?_, fun x y hx hy hxy ho1 ho2 => k2 x y hx hy hxy (((on_set h.ss hi).1 ho1).resolve_left (hM x hx)) (((on_set h.ss hi).1 ho2).resolve_left (hM y hy)), ?_⟩
    · obtain ⟨q1, q2, q3⟩ := k1 j hj hjm (((on_set h.ss hi).1 ho).resolve_left (hM j hjm))
      exact ⟨q1, q2, q3.far' _ _ (by omega) _⟩
    · have hb := k3.set 3 v
      rw [e2] at hb ⊢
      have hc : cellOf (s.setIfInBounds 15 true) 15 (sl (γ 5) 4096) = sl (γ 5) 4096 := by
        unfold cellOf
        rw [if_pos (show (s.setIfInBounds 15 true).getD 15 false = true from (on_set h.ss hi).2 (.inl rfl))]
      rw [hc, cellOf_set (show 15 ≠ 11 by decide), cellOf_set (show 15 ≠ 19 by decide), cellOf_set (show 15 ≠ 23 by decide)]
      exact hb
  · obtain ⟨c1, c2, c3, c4⟩ := h.cl
    refine ⟨fun ho => (on_set h.ss hi).2 (.inr (c1 (((on_set h.ss hi).1 ho).resolve_left (by decide)))), fun _ => (on_set h.ss hi).2 (.inr hk), fun ho => (on_set h.ss hi).2 (.inr (c3 (((on_set h.ss hi).1 ho).resolve_left (by decide)))), fun ho => (on_set h.ss hi).2 (.inr (c4 (((on_set h.ss hi).1 ho).resolve_left (by decide))))⟩
theorem Iv.store19 {w1 W : World} {g : Nat} {st : Int} {Z1 Z3 Z4 : Array Value} {s : Array Bool} {a : Act} {v : Value} (h : Iv w1 g st Z1 Z3 Z4 s a W) (hk : on s 6) (hv : a.tmps[dst 6]? = some v) : Iv w1 g st Z1 Z3 Z4 (s.setIfInBounds 19 true) a (W.setCell ⟨g, 5, none⟩ v) := by
  have hi : 19 < 24 := by decide
  have hM : ∀ j, isM j = true → j ≠ 19 := fun j hj e => by rw [e] at hj; exact absurd hj (by decide)
  have hP : ∀ j, isP j = true → j ≠ 19 := fun j hj e => by rw [e] at hj; exact absurd hj (by decide)
  refine ⟨by simpa using h.ss, h.sz, h.df, h.b0, h.b2, h.b3, fun j hj hjp ho => h.pu j hj hjp (((on_set h.ss hi).1 ho).resolve_left (hP j hjp)), ?_, ?_, h.fr.setCell (p := ⟨g, 5, none⟩) (.inl (by simp)) _, h.gl⟩
  · obtain ⟨γ, k1, k2, k3⟩ := h.ma
    have hg := h.gl
    obtain ⟨e1, _, _⟩ := k1 6 (by decide) rfl hk
    rw [hv] at e1
    have e2 : v = sl (γ 6) 64 := Option.some.inj e1
    refine ⟨γ, fun j hj hjm ho => ?_, fun x y hx hy hxy ho1 ho2 => k2 x y hx hy hxy (((on_set h.ss hi).1 ho1).resolve_left (hM x hx)) (((on_set h.ss hi).1 ho2).resolve_left (hM y hy)), ?_⟩
    · obtain ⟨q1, q2, q3⟩ := k1 j hj hjm (((on_set h.ss hi).1 ho).resolve_left (hM j hjm))
      exact ⟨q1, q2, q3.far' _ _ (by omega) _⟩
    · have hb := k3.set 5 v
      rw [e2] at hb ⊢
      have hc : cellOf (s.setIfInBounds 19 true) 19 (sl (γ 6) 64) = sl (γ 6) 64 := by
        unfold cellOf
        rw [if_pos (show (s.setIfInBounds 19 true).getD 19 false = true from (on_set h.ss hi).2 (.inl rfl))]
      rw [hc, cellOf_set (show 19 ≠ 11 by decide), cellOf_set (show 19 ≠ 15 by decide), cellOf_set (show 19 ≠ 23 by decide)]
      exact hb
  · obtain ⟨c1, c2, c3, c4⟩ := h.cl
    refine ⟨fun ho => (on_set h.ss hi).2 (.inr (c1 (((on_set h.ss hi).1 ho).resolve_left (by decide)))), fun ho => (on_set h.ss hi).2 (.inr (c2 (((on_set h.ss hi).1 ho).resolve_left (by decide)))), fun _ => (on_set h.ss hi).2 (.inr hk), fun ho => (on_set h.ss hi).2 (.inr (c4 (((on_set h.ss hi).1 ho).resolve_left (by decide))))⟩
theorem Iv.store23 {w1 W : World} {g : Nat} {st : Int} {Z1 Z3 Z4 : Array Value} {s : Array Bool} {a : Act} {v : Value} (h : Iv w1 g st Z1 Z3 Z4 s a W) (hk : on s 7) (hv : a.tmps[dst 7]? = some v) : Iv w1 g st Z1 Z3 Z4 (s.setIfInBounds 23 true) a (W.setCell ⟨g, 6, none⟩ v) := by
  have hi : 23 < 24 := by decide
  have hM : ∀ j, isM j = true → j ≠ 23 := fun j hj e => by rw [e] at hj; exact absurd hj (by decide)
  have hP : ∀ j, isP j = true → j ≠ 23 := fun j hj e => by rw [e] at hj; exact absurd hj (by decide)
  refine ⟨by simpa using h.ss, h.sz, h.df, h.b0, h.b2, h.b3, fun j hj hjp ho => h.pu j hj hjp (((on_set h.ss hi).1 ho).resolve_left (hP j hjp)), ?_, ?_, h.fr.setCell (p := ⟨g, 6, none⟩) (.inl (by simp)) _, h.gl⟩
  · obtain ⟨γ, k1, k2, k3⟩ := h.ma
    have hg := h.gl
    obtain ⟨e1, _, _⟩ := k1 7 (by decide) rfl hk
    rw [hv] at e1
    have e2 : v = sl (γ 7) 256 := Option.some.inj e1
    refine ⟨γ, fun j hj hjm ho => ?_, fun x y hx hy hxy ho1 ho2 => k2 x y hx hy hxy (((on_set h.ss hi).1 ho1).resolve_left (hM x hx)) (((on_set h.ss hi).1 ho2).resolve_left (hM y hy)), ?_⟩
    · obtain ⟨q1, q2, q3⟩ := k1 j hj hjm (((on_set h.ss hi).1 ho).resolve_left (hM j hjm))
      exact ⟨q1, q2, q3.far' _ _ (by omega) _⟩
    · have hb := k3.set 6 v
      rw [e2] at hb ⊢
      have hc : cellOf (s.setIfInBounds 23 true) 23 (sl (γ 7) 256) = sl (γ 7) 256 := by
        unfold cellOf
        rw [if_pos (show (s.setIfInBounds 23 true).getD 23 false = true from (on_set h.ss hi).2 (.inl rfl))]
      rw [hc, cellOf_set (show 23 ≠ 11 by decide), cellOf_set (show 23 ≠ 15 by decide), cellOf_set (show 23 ≠ 19 by decide)]
      exact hb
  · obtain ⟨c1, c2, c3, c4⟩ := h.cl
    refine ⟨fun ho => (on_set h.ss hi).2 (.inr (c1 (((on_set h.ss hi).1 ho).resolve_left (by decide)))), fun ho => (on_set h.ss hi).2 (.inr (c2 (((on_set h.ss hi).1 ho).resolve_left (by decide)))), fun ho => (on_set h.ss hi).2 (.inr (c3 (((on_set h.ss hi).1 ho).resolve_left (by decide)))), fun _ => (on_set h.ss hi).2 (.inr hk)⟩
theorem not_on (n i : Nat) : ¬ on (Array.replicate n false) i := by
  unfold on
  by_cases h : i < n <;> simp [Array.getD_eq_getD_getElem?, h]
theorem Iv.start {w1 : World} {g : Nat} {st : Int} {Z1 Z3 Z4 : Array Value} {a : Act} (sz : a.tmps.size = 51) (df : a.defers = []) (b0 : a.tmps[0]? = some (.int .i64 st)) (b2 : a.tmps[2]? = some (.pointer none)) (b3 : a.tmps[3]? = some (.pointer (some ⟨g, 0, none⟩))) (hk : Blk w1 g 143 (mB st nl nl nl nl nl false)) :
    Iv w1 g st Z1 Z3 Z4 (Array.replicate 24 false) a w1.drew := by
  have hc : ∀ i v, cellOf (Array.replicate 24 false) i v = nl := fun i v => by
    unfold cellOf
    exact if_neg (not_on 24 i)
  exact ⟨by simp, sz, df, b0, b2, b3, fun i _ _ ho => absurd ho (not_on _ _), ⟨fun _ => 0, fun i _ _ ho => absurd ho (not_on _ _), fun i j _ _ _ ho _ => absurd ho (not_on _ _), by rw [hc, hc, hc, hc]; exact hk.drew⟩, ⟨fun ho => absurd ho (not_on _ _), fun ho => absurd ho (not_on _ _), fun ho => absurd ho (not_on _ _), fun ho => absurd ho (not_on _ _)⟩, (Frm.refl _ _).drew, hk.lt⟩
theorem Iv.done {w1 W : World} {g : Nat} {st : Int} {Z1 Z3 Z4 : Array Value} {s : Array Bool} {a : Act} (h : Iv w1 g st Z1 Z3 Z4 s a W) (ho : ∀ i, i < 24 → on s i) : ∃ b1 b2 b4 b5, R5 W w1.heap.size g st b1 b2 b4 b5 nl Z1 Z1 Z3 Z4 ∧ Frm [g] w1 W := by
  obtain ⟨γ, k1, k2, k3⟩ := h.ma
  have hc : ∀ i v, i < 24 → cellOf s i v = v := fun i v hi => by
    unfold cellOf
    exact if_pos (ho i hi)
  rw [hc 11 _ (by decide), hc 15 _ (by decide), hc 19 _ (by decide), hc 23 _ (by decide)] at k3
  obtain ⟨_, q1, r1⟩ := k1 4 (by decide) rfl (ho 4 (by decide))
  obtain ⟨_, q2, r2⟩ := k1 5 (by decide) rfl (ho 5 (by decide))
  obtain ⟨_, q4, r4⟩ := k1 6 (by decide) rfl (ho 6 (by decide))
  obtain ⟨_, q5, r5⟩ := k1 7 (by decide) rfl (ho 7 (by decide))
  have kn : ∀ x y, isM x = true → isM y = true → x ≠ y → x < 24 → y < 24 → γ x ≠ γ y := fun x y hx hy hn h1 h2 => k2 x y hx hy hn (ho x h1) (ho y h2)
  exact ⟨γ 4, γ 5, γ 6, γ 7, ⟨k3, r1, r2, r4, r5, q1, q2, q4, q5, kn 4 5 rfl rfl (by decide) (by decide) (by decide), kn 4 6 rfl rfl (by decide) (by decide) (by decide), kn 4 7 rfl rfl (by decide) (by decide) (by decide), kn 5 6 rfl rfl (by decide) (by decide) (by decide), kn 5 7 rfl rfl (by decide) (by decide) (by decide), kn 6 7 rfl rfl (by decide) (by decide) (by decide)⟩, h.fr⟩
theorem ev_at {a : Act} {t : Nat} {v : Value} (h : a.tmps[t]? = some v) : a.eval (.tmp t) = v := by
  simp [Act.eval, h]
section
variable {o : Oper} {a : Act} {W : World}
theorem ex_move {v : Value} (x : Operand) (ho : o.op = .move x) (hx : a.eval x = v) : (execOp a.eval o).run Tryz.prog W = .ok (.value v) W := by
  unfold execOp
  simp only [ho, hx]
  go_simp
theorem ex_nil {q : Addr} (x : Operand) (ho : o.op = .nilCheck x) (hx : a.eval x = .pointer (some q)) : (execOp a.eval o).run Tryz.prog W = .ok (.value (.pointer (some q))) W := by
  unfold execOp
  simp only [ho, hx]
  go_simp
theorem ex_field {g : Nat} (x : Operand) (ho : o.op = .fieldAddr 143 x 1) (hx : a.eval x = .pointer (some ⟨g, 0, none⟩)) : (execOp a.eval o).run Tryz.prog W = .ok (.value (.pointer (some ⟨g, 1, none⟩))) W := by
  unfold execOp
  simp only [ho, hx]
  go_simp
theorem ex_idx1 {g : Nat} (x : Operand) (ho : o.op = .indexAddr 141 x (.const (.int .i64 1))) (hx : a.eval x = .pointer (some ⟨g, 1, none⟩)) : (execOp a.eval o).run Tryz.prog W = .ok (.value (.pointer (some ⟨g, 2, none⟩))) W := by
  unfold execOp
  have hc : a.eval (.const (.int .i64 1)) = .int .i64 1 := rfl
  simp only [ho, hx, hc]
  go_simp
theorem ex_idx2 {g : Nat} (x : Operand) (ho : o.op = .indexAddr 141 x (.const (.int .i64 2))) (hx : a.eval x = .pointer (some ⟨g, 1, none⟩)) : (execOp a.eval o).run Tryz.prog W = .ok (.value (.pointer (some ⟨g, 3, none⟩))) W := by
  unfold execOp
  have hc : a.eval (.const (.int .i64 2)) = .int .i64 2 := rfl
  simp only [ho, hx, hc]
  go_simp
theorem ex_idx4 {g : Nat} (x : Operand) (ho : o.op = .indexAddr 141 x (.const (.int .i64 4))) (hx : a.eval x = .pointer (some ⟨g, 1, none⟩)) : (execOp a.eval o).run Tryz.prog W = .ok (.value (.pointer (some ⟨g, 5, none⟩))) W := by
  unfold execOp
  have hc : a.eval (.const (.int .i64 4)) = .int .i64 4 := rfl
  simp only [ho, hx, hc]
  go_simp
theorem ex_idx5 {g : Nat} (x : Operand) (ho : o.op = .indexAddr 141 x (.const (.int .i64 5))) (hx : a.eval x = .pointer (some ⟨g, 1, none⟩)) : (execOp a.eval o).run Tryz.prog W = .ok (.value (.pointer (some ⟨g, 6, none⟩))) W := by
  unfold execOp
  have hc : a.eval (.const (.int .i64 5)) = .int .i64 5 := rfl
  simp only [ho, hx, hc]
  go_simp
theorem ex_make {n : Nat} {v : Value} {W' : World} (ho : o.op = .makeSlice 24 (.const (.int .i64 n)) (.const (.int .i64 n))) (h : (Instr.makeSlice 24 (.int .i64 n) (.int .i64 n)).run Tryz.prog W = .ok v W') : (execOp a.eval o).run Tryz.prog W = .ok (.value v) W' := by
  unfold execOp
  simp only [ho, Act.eval]
  rw [Sem.run_bind, h]
  simp [Result.andThen]
theorem ex_store {g i b n : Nat} {u : Value} (x y : Operand) (ho : o.op = .store 24 x y) (hx : a.eval x = .pointer (some ⟨g, i, none⟩)) (hy : a.eval y = sl b n) (hc : W.cell? ⟨g, i, none⟩ = some u) (hf : W.frozen? ⟨g, i, none⟩ = false) : (execOp a.eval o).run Tryz.prog W = .ok .skip (W.setCell ⟨g, i, none⟩ (sl b n)) := by
  unfold execOp
  unfold sl at *
  simp only [ho, hx, hy]
  go_simp
end
theorem list51 (l : List Value) (h : l.length = 51) : ∃ x0 x1 x2 x3 x4 x5 x6 x7 x8 x9 x10 x11 x12 x13 x14 x15 x16 x17 x18 x19 x20 x21 x22 x23 x24 x25 x26 x27 x28 x29 x30 x31 x32 x33 x34 x35 x36 x37 x38 x39 x40 x41 x42 x43 x44 x45 x46 x47 x48 x49 x50, l = [x0, x1, x2, x3, x4, x5, x6, x7, x8, x9, x10, x11, x12, x13, x14, x15, x16, x17, x18, x19, x20, x21, x22, x23, x24, x25, x26, x27, x28, x29, x30, x31, x32, x33, x34, x35, x36, x37, x38, x39, x40, x41, x42, x43, x44, x45, x46, x47, x48, x49, x50] := by
  obtain _ | ⟨x0, l⟩ := l
  · simp at h
  obtain _ | ⟨x1, l⟩ := l
  · simp at h
  obtain _ | ⟨x2, l⟩ := l
  · simp at h
  obtain _ | ⟨x3, l⟩ := l
  · simp at h
  obtain _ | ⟨x4, l⟩ := l
  · simp at h
  obtain _ | ⟨x5, l⟩ := l
  · simp at h
  obtain _ | ⟨x6, l⟩ := l
  · simp at h
  obtain _ | ⟨x7, l⟩ := l
  · simp at h
  obtain _ | ⟨x8, l⟩ := l
  · simp at h
  obtain _ | ⟨x9, l⟩ := l
  · simp at h
  obtain _ | ⟨x10, l⟩ := l
  · simp at h
  obtain _ | ⟨x11, l⟩ := l
  · simp at h
  obtain _ | ⟨x12, l⟩ := l
  · simp at h
  obtain _ | ⟨x13, l⟩ := l
  · simp at h
  obtain _ | ⟨x14, l⟩ := l
  · simp at h
  obtain _ | ⟨x15, l⟩ := l
  · simp at h
  obtain _ | ⟨x16, l⟩ := l
  · simp at h
  obtain _ | ⟨x17, l⟩ := l
  · simp at h
  obtain _ | ⟨x18, l⟩ := l
  · simp at h
  obtain _ | ⟨x19, l⟩ := l
  · simp at h
  obtain _ | ⟨x20, l⟩ := l
  · simp at h
  obtain _ | ⟨x21, l⟩ := l
  · simp at h
  obtain _ | ⟨x22, l⟩ := l
  · simp at h
  obtain _ | ⟨x23, l⟩ := l
  · simp at h
  obtain _ | ⟨x24, l⟩ := l
  · simp at h
  obtain _ | ⟨x25, l⟩ := l
  · simp at h
  obtain _ | ⟨x26, l⟩ := l
  · simp at h
  obtain _ | ⟨x27, l⟩ := l
  · simp at h
  obtain _ | ⟨x28, l⟩ := l
  · simp at h
  obtain _ | ⟨x29, l⟩ := l
  · simp at h
  obtain _ | ⟨x30, l⟩ := l
  · simp at h
  obtain _ | ⟨x31, l⟩ := l
  · simp at h
  obtain _ | ⟨x32, l⟩ := l
  · simp at h
  obtain _ | ⟨x33, l⟩ := l
  · simp at h
  obtain _ | ⟨x34, l⟩ := l
  · simp at h
  obtain _ | ⟨x35, l⟩ := l
  · simp at h
  obtain _ | ⟨x36, l⟩ := l
  · simp at h
  obtain _ | ⟨x37, l⟩ := l
  · simp at h
  obtain _ | ⟨x38, l⟩ := l
  · simp at h
  obtain _ | ⟨x39, l⟩ := l
  · simp at h
  obtain _ | ⟨x40, l⟩ := l
  · simp at h
  obtain _ | ⟨x41, l⟩ := l
  · simp at h
  obtain _ | ⟨x42, l⟩ := l
  · simp at h
  obtain _ | ⟨x43, l⟩ := l
  · simp at h
  obtain _ | ⟨x44, l⟩ := l
  · simp at h
  obtain _ | ⟨x45, l⟩ := l
  · simp at h
  obtain _ | ⟨x46, l⟩ := l
  · simp at h
  obtain _ | ⟨x47, l⟩ := l
  · simp at h
  obtain _ | ⟨x48, l⟩ := l
  · simp at h
  obtain _ | ⟨x49, l⟩ := l
  · simp at h
  obtain _ | ⟨x50, l⟩ := l
  · simp at h
  obtain _ | ⟨y, l⟩ := l
  · exact ⟨x0, x1, x2, x3, x4, x5, x6, x7, x8, x9, x10, x11, x12, x13, x14, x15, x16, x17, x18, x19, x20, x21, x22, x23, x24, x25, x26, x27, x28, x29, x30, x31, x32, x33, x34, x35, x36, x37, x38, x39, x40, x41, x42, x43, x44, x45, x46, x47, x48, x49, x50, rfl⟩
  · simp at h
end M18
end Go.Proofs.YtmiaabpnolebhaaGreatDoor
