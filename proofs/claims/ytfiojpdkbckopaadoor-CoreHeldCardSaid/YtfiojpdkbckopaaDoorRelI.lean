/-
  A drawn region by an invariant: over what has been done, the frame and the world. No program in sight.
-/
import Derived.Test.YtfiojpdkbckopaaDoorJ35905c37
set_option linter.unusedSimpArgs false
set_option linter.unusedVariables false
namespace Go.Proofs.YtfiojpdkbckopaaDoor
open Go.RowKit

namespace RelI
open RelG
section
variable {P : Program} {Q : Exit → Act → World → Prop}
theorem any_inv {ops : Array Oper} {md : Region.Mode} (I : Array Bool → Act → World → Prop)
    (step : ∀ s a W i o, s.size = ops.size → I s a W → i ∈ Region.ready md ops s → ops[i]? = some o → ∀ K : Act → World → Prop, (∀ a' W', I (s.setIfInBounds i true) a' W' → K a' W') →
      if Region.wanted o (yielded ops a.tmps) = true then Oper.wp P o a W K Q else K (a.put o.dst undef) W)
    (fin : ∀ s a W, s.size = ops.size → I s a W → Region.ready md ops s = [] → Q .normal a W) :
    ∀ (f : Nat) (s : Array Bool) (a : Act) (W : World), s.size = ops.size → cnt s ops.size = f → I s a W → wpAny P md ops Q f s a W
  | 0, s, a, W, hs, hc, hI => by
    have hr : Region.ready md ops s = [] := by
      rw [List.eq_nil_iff_forall_not_mem]
      intro i hi
      obtain ⟨h1, o, ho, _⟩ := mem_ready.1 hi
      have hlt : i < ops.size := (Array.getElem?_eq_some_iff.1 ho).1
      have h2 := cnt_zero ops.size hc i hlt
      rw [getD_both h1] at h2
      cases h2
    exact ⟨hr, fin s a W hs hI hr⟩
  | f + 1, s, a, W, hs, hc, hI => by
    refine ⟨fun hr => fin s a W hs hI hr, fun i hi => ?_⟩
    obtain ⟨h1, o, ho, _⟩ := mem_ready.1 hi
    have hlt : i < ops.size := (Array.getElem?_eq_some_iff.1 ho).1
    have hst := step s a W i o hs hI hi ho (wpAny P md ops Q f (s.setIfInBounds i true)) (fun a' W' h' => any_inv I step fin f _ a' W' (by simpa using hs) (by
      have := cnt_set (s := s) (i := i) (by rw [hs]; exact hlt) (getD_both h1) ops.size hlt
      omega) h')
    unfold wpOp
    rw [ho]
    simp only
    split
    · rename_i hw
      rw [if_pos hw] at hst
      exact .inl hst
    · rename_i hw
      rw [if_neg hw] at hst
      exact hst
/-- The region's law. -/
theorem wp_region_inv {id : Nat} {a : Act} {w : World} {l : List Oper} (hm : P.follows .mixedOrders = true) (I : Array Bool → Act → World → Prop) (h0 : I (Array.replicate l.toArray.size false) a w.drew)
    (step : ∀ s a W i o, s.size = l.toArray.size → I s a W → i ∈ Region.ready .any l.toArray s → l.toArray[i]? = some o → ∀ K : Act → World → Prop, (∀ a' W', I (s.setIfInBounds i true) a' W' → K a' W') →
      if Region.wanted o (yielded l.toArray a.tmps) = true then Oper.wp P o a W K Q else K (a.put o.dst undef) W)
    (fin : ∀ s a W, s.size = l.toArray.size → I s a W → Region.ready .any l.toArray s = [] → Q .normal a W) : (Code.region id l.toArray true).wp P Q a w := by
  refine wp_region_any hm ?_
  have hc : ∀ m, cnt (Array.replicate l.toArray.size false) m = m := fun m => by
    induction m with
    | zero => rfl
    | succ m ih => rw [cnt, ih, getD_replicate_false]; rfl
  exact any_inv I step fin _ _ _ _ (by simp) (hc _) h0
def backB (md : Region.Mode) (ops : Array Oper) : Bool := (List.range ops.size).all fun i => match ops[i]? with
  | none => true
  | some o => o.after.all fun e => !Region.binds md e || decide (e.on < i)
/-- Where nothing is ready, all is done. -/
theorem all_on {ops : Array Oper} {md : Region.Mode} {s : Array Bool} (hb : backB md ops = true) (hr : Region.ready md ops s = []) (hs : s.size = ops.size) : ∀ i, i < ops.size → s.getD i false = true := by
  intro i
  induction i using Nat.strongRecOn with
  | _ i ih =>
    intro hi
    cases h : s.getD i false with
    | true => rfl
    | false =>
      exfalso
      have ho : ops[i]? = some (ops[i]'hi) := Array.getElem?_eq_getElem hi
      have h1 := List.all_eq_true.1 hb i (List.mem_range.2 hi)
      rw [ho] at h1
      have hmem : i ∈ Region.ready md ops s := mem_ready.2 ⟨getD_in (by rw [hs]; exact hi) h, _, ho, fun e he hbi => by
        have h2 := Array.all_eq_true_iff_forall_mem.1 h1 e he
        simp only [hbi, Bool.not_true, Bool.false_or, decide_eq_true_eq] at h2
        exact ih e.on h2 (Nat.lt_trans h2 hi)⟩
      rw [hr] at hmem
      cases hmem
theorem wp_run_in {o : Oper} {a : Act} {w w' : World} {K : Act → World → Prop} {f : Nat → Option Bool} (hgd : o.guard = none) (v : Value) (hy : (execOp a.eval o).run P w = .ok (.value v) w') (h : K (a.put o.dst v) w') :
    if Region.wanted o f = true then Oper.wp P o a w K Q else K (a.put o.dst undef) w := by
  rw [if_pos (by unfold Region.wanted; rw [hgd])]
  unfold Oper.wp
  rw [hy]
  exact h
theorem wp_skip_in {o : Oper} {a : Act} {w w' : World} {K : Act → World → Prop} {f : Nat → Option Bool} (hgd : o.guard = none) (hd : o.dst = none) (hy : (execOp a.eval o).run P w = .ok .skip w') (h : K a w') :
    if Region.wanted o f = true then Oper.wp P o a w K Q else K (a.put o.dst undef) w := by
  rw [if_pos (by unfold Region.wanted; rw [hgd])]
  unfold Oper.wp
  rw [hy]
  show K (a.put o.dst undef) w'
  rw [hd]
  exact h
end
end RelI
end Go.Proofs.YtfiojpdkbckopaaDoor
