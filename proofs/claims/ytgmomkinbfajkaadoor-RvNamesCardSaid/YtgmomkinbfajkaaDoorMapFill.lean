/-
  A map's literal, filled in whatever order its region draws. No program in sight.
-/
import Derived.Test.YtgmomkinbfajkaaDoorMaps
import Derived.Test.YtgmomkinbfajkaaDoorRel
set_option linter.unusedSimpArgs false
set_option linter.unusedVariables false
namespace Go.Proofs.YtgmomkinbfajkaaDoor
open Go.RowKit Go.Maps

theorem Mp.congr {K : Type} [BEq K] {P : Program} {k : TypeId} {ok : K → Bool} {ky : K → Value} {w : World} {b n : Nat} {L L' : List (K × Value)} (h : Mp P k ok ky w b n L) (e : ∀ x, L.lookup x = L'.lookup x) : Mp P k ok ky w b n L' := by
  obtain ⟨D, h1, h2, h3, h4⟩ := h
  exact ⟨D, h1, h2, fun x kl d hx hkl => by rw [h3 x kl d hx hkl, e], h4⟩
theorem lookup_of_mem {K V : Type} [BEq K] [LawfulBEq K] {l : List (K × V)} (hn : (l.map (·.1)).Nodup) {x : K} {v : V} (h : (x, v) ∈ l) : l.lookup x = some v := by
  induction l with
  | nil => cases h
  | cons p l ih =>
    obtain ⟨a, b⟩ := p
    obtain ⟨h1, h2⟩ := List.nodup_cons.1 hn
    rw [List.lookup_cons]
    rcases List.mem_cons.1 h with e | e
    · cases e
      rw [beq_self_eq_true]
    · have : (x == a) = false := by
        rw [beq_eq_false_iff_ne]
        rintro rfl
        exact h1 (List.mem_map.2 ⟨(x, v), e, rfl⟩)
      rw [this]
      exact ih h2 e
theorem lookup_not_mem {K V : Type} [BEq K] [LawfulBEq K] {l : List (K × V)} {x : K} (h : ∀ v, (x, v) ∉ l) : l.lookup x = none := by
  induction l with
  | nil => rfl
  | cons p l ih =>
    obtain ⟨a, b⟩ := p
    rw [List.lookup_cons]
    have : (x == a) = false := by
      rw [beq_eq_false_iff_ne]
      rintro rfl
      exact h b (List.mem_cons_self ..)
    rw [this]
    exact ih fun v hv => h v (List.mem_cons_of_mem _ hv)
theorem lookup_perm {K V : Type} [BEq K] [LawfulBEq K] {l m : List (K × V)} (hl : (l.map (·.1)).Nodup) (hm : (m.map (·.1)).Nodup) (h : ∀ p, p ∈ l ↔ p ∈ m) (x : K) : l.lookup x = m.lookup x := by
  by_cases hx : ∃ v, (x, v) ∈ l
  · obtain ⟨v, hv⟩ := hx
    rw [lookup_of_mem hl hv, lookup_of_mem hm ((h _).1 hv)]
  · have h1 : ∀ v, (x, v) ∉ l := fun v hv => hx ⟨v, hv⟩
    rw [lookup_not_mem h1, lookup_not_mem fun v hv => h1 v ((h _).2 hv)]

theorem keys_nodup {Q : Type} {J : List Nat} {E : Nat → Q × Value} (inj : ∀ i ∈ J, ∀ j ∈ J, (E i).1 = (E j).1 → i = j) : ∀ {D : List Nat}, D.Nodup → (∀ i ∈ D, i ∈ J) → ((D.map E).map (·.1)).Nodup
  | [], _, _ => List.nodup_nil
  | i :: D, hn, hs => by
    obtain ⟨h1, h2⟩ := List.nodup_cons.1 hn
    refine List.nodup_cons.2 ⟨fun hm => ?_, keys_nodup (D := D) inj h2 fun j hj => hs j (List.mem_cons_of_mem _ hj)⟩
    obtain ⟨p, hp, hpe⟩ := List.mem_map.1 hm
    obtain ⟨j, hj, rfl⟩ := List.mem_map.1 hp
    have := inj j (hs j (List.mem_cons_of_mem _ hj)) i (hs i (List.mem_cons_self ..)) hpe
    exact h1 (this ▸ hj)
section
variable {K : Type} [BEq K] [LawfulBEq K] {P : Program} {k : TypeId} {ok : K → Bool} {ky : K → Value}
/-- The fillings of a map's literal. -/
structure Fills (P : Program) (ops : Array Oper) (k : TypeId) (ok : K → Bool) (ky : K → Value) (a : Act) (b : Nat) (J T : List Nat) (E : Nat → K × Value) (L0 : Array Bool) : Prop where
  km : KeyMap P k ok ky
  size : L0.size = ops.size
  nd : J.Nodup
  inj : ∀ i ∈ J, ∀ j ∈ J, (E i).1 = (E j).1 → i = j
  jl : ∀ i ∈ J, L0[i]? = some false
  jt : ∀ i, L0[i]? = some false → i ∈ J ∨ i ∈ T
  fill : ∀ i ∈ J, ∃ (o : Oper) (t e : TypeId) (m x v : Operand), ops[i]? = some o ∧ o.guard = none ∧ o.dst = none ∧ o.op = Op.insert t m x v ∧ P.underlying t = some (.map k e) ∧ a.eval m = .map (some b) ∧ a.eval x = ky (E i).1 ∧ a.eval v = (E i).2 ∧ ok (E i).1 = true ∧ ∀ g ∈ o.after, Region.binds .any g = true → L0[g.on]? = some true
  tail : ∀ i ∈ T, ∃ o, ops[i]? = some o ∧ ∀ j ∈ J, ∃ g ∈ o.after, Region.binds .any g = true ∧ g.on = j
def doneL (L0 : Array Bool) : List Nat → Array Bool
  | [] => L0
  | i :: D => (doneL L0 D).setIfInBounds i true
theorem doneL_get (L0 : Array Bool) (j : Nat) : ∀ D, (doneL L0 D)[j]? = if j ∈ D ∧ j < L0.size then some true else L0[j]?
  | [] => by simp [doneL]
  | i :: D => by
    have ih := doneL_get L0 j D
    unfold doneL
    rw [Array.getElem?_setIfInBounds]
    by_cases e : i = j
    · subst e
      rw [if_pos rfl]
      have hs : ∀ D', (doneL L0 D').size = L0.size := fun D' => by
        induction D' with
        | nil => rfl
        | cons x D' ih => unfold doneL; rw [Array.size_setIfInBounds, ih]
      rw [hs]
      by_cases h : i < L0.size
      · rw [if_pos h, if_pos ⟨List.mem_cons_self .., h⟩]
      · rw [if_neg h, if_neg (fun q => h q.2), Array.getElem?_eq_none (by omega)]
    · rw [if_neg e, ih]
      have : j ∈ i :: D ↔ j ∈ D := by
        rw [List.mem_cons]
        exact ⟨fun h => h.resolve_left fun q => e q.symm, .inr⟩
      simp only [this]
theorem doneL_eq {L0 : Array Bool} {D J : List Nat} (h : ∀ i, i ∈ D ↔ i ∈ J) : doneL L0 D = doneL L0 J := Array.ext_getElem? fun j => by
  rw [doneL_get, doneL_get]
  simp only [h]
theorem getD_of {L : Array Bool} {j : Nat} {v d : Bool} (h : L[j]? = some v) : L.getD j d = v := by
  rw [Array.getD_eq_getD_getElem?, h]
  rfl
theorem of_getD {L : Array Bool} {j : Nat} (h : L.getD j true = false) : L[j]? = some false := by
  rw [Array.getD_eq_getD_getElem?] at h
  cases e : L[j]? with
  | none => rw [e] at h; cases h
  | some v => rw [e] at h; cases v; rfl; cases h
theorem of_getD1 {L : Array Bool} {j : Nat} (h : L.getD j false = true) : L[j]? = some true := by
  rw [Array.getD_eq_getD_getElem?] at h
  cases e : L[j]? with
  | none => rw [e] at h; cases h
  | some v => rw [e] at h; cases v; cases h; rfl
def left (J D : List Nat) : Nat := (J.filter fun j => !decide (j ∈ D)).length
theorem left_zero {J D : List Nat} (h : left J D = 0) {i : Nat} (hi : i ∈ J) : i ∈ D := Classical.byContradiction fun hn => by
  have : i ∈ J.filter fun j => !decide (j ∈ D) := List.mem_filter.2 ⟨hi, by simp [hn]⟩
  rw [List.eq_nil_of_length_eq_zero h] at this
  cases this
theorem left_pos {J D : List Nat} {m : Nat} (h : left J D = m + 1) : ∃ i ∈ J, i ∉ D := by
  unfold left at h
  cases e : J.filter fun j => !decide (j ∈ D) with
  | nil => rw [e] at h; cases h
  | cons i l =>
    have : i ∈ J.filter fun j => !decide (j ∈ D) := by rw [e]; exact List.mem_cons_self ..
    obtain ⟨h1, h2⟩ := List.mem_filter.1 this
    exact ⟨i, h1, by simpa using h2⟩
theorem left_cons {D : List Nat} {i : Nat} (hd : i ∉ D) : ∀ {J : List Nat}, J.Nodup → i ∈ J → left J (i :: D) + 1 = left J D
  | [], _, hi => by cases hi
  | j :: J, hn, hi => by
    obtain ⟨h1, h2⟩ := List.nodup_cons.1 hn
    unfold left
    by_cases e : i = j
    · subst e
      have hsame : J.filter (fun j => !decide (j ∈ i :: D)) = J.filter fun j => !decide (j ∈ D) := List.filter_congr fun x hx => by
        have : x ≠ i := fun q => h1 (q ▸ hx)
        simp [this]
      rw [List.filter_cons_of_neg (by simp), List.filter_cons_of_pos (by simp [hd]), hsame]
      rfl
    · have hi' : i ∈ J := (List.mem_cons.1 hi).resolve_left e
      have ih := left_cons hd h2 hi'
      unfold left at ih
      by_cases hj : j ∈ D
      · rw [List.filter_cons_of_neg (by simp [hj]), List.filter_cons_of_neg (by simp [hj])]
        exact ih
      · have : ¬ j = i := fun q => e q.symm
        rw [List.filter_cons_of_pos (by simp [hj, this]), List.filter_cons_of_pos (by simp [hj])]
        simp only [List.length_cons]
        omega
/-- In whatever order they are filled in, the map is the literal's. -/
theorem fill_any {ops : Array Oper} {a : Act} {b : Nat} {J T : List Nat} {E : Nat → K × Value} {L0 : Array Bool} {Q : Exit → Act → World → Prop} (g : Nat) (hF : Fills P ops k ok ky a b J T E L0) (hm : J.length < maxLen) (w0 : World) (hb0 : w0.heap.size ≤ b)
    (hQ : ∀ (D : List Nat) (w : World), (∀ i, i ∈ D ↔ i ∈ J) → Mp P k ok ky w b J.length (J.map E) → Below w0.heap.size w0 w → wpAny P .any ops Q g (doneL L0 D) a w) :
    ∀ (m : Nat) (D : List Nat) (w : World), D.Nodup → (∀ i ∈ D, i ∈ J) → D.length + m = J.length → left J D = m → Mp P k ok ky w b D.length (D.map E) → Below w0.heap.size w0 w → wpAny P .any ops Q (m + g) (doneL L0 D) a w
  | 0, D, w, hn, hs, hl, hc, hM, hB => by
    have hiff : ∀ i, i ∈ D ↔ i ∈ J := fun i => ⟨hs i, left_zero hc⟩
    have hlen : D.length = J.length := by omega
    rw [Nat.zero_add]
    refine hQ D w hiff ?_ hB
    rw [← hlen]
    exact hM.congr (lookup_perm (keys_nodup hF.inj hn hs) (keys_nodup hF.inj hF.nd fun _ h => h) fun p => by simp [List.mem_map, hiff])
  | m + 1, D, w, hn, hs, hl, hc, hM, hB => by
    have e : m + 1 + g = m + g + 1 := by omega
    rw [e]
    obtain ⟨i0, hi0, hi1⟩ := left_pos hc
    have un : ∀ i, i ∈ J → i ∉ D → (doneL L0 D)[i]? = some false := fun i hi hni => by
      rw [doneL_get, if_neg fun q => hni q.1]
      exact hF.jl i hi
    have old : ∀ j, L0[j]? = some true → (doneL L0 D)[j]? = some true := fun j hj => by
      rw [doneL_get]
      split
      · rfl
      · exact hj
    have r0 : i0 ∈ Region.ready .any ops (doneL L0 D) := by
      obtain ⟨o, t, e, mm, x, v, ho, _, _, _, _, _, _, _, _, hw⟩ := hF.fill i0 hi0
      exact mem_ready.2 ⟨getD_of (un i0 hi0 hi1), o, ho, fun gr hg hb => getD_of (old gr.on (hw gr hg hb))⟩
    refine ⟨fun h => (by rw [h] at r0; cases r0), fun i hi => ?_⟩
    obtain ⟨hun, o, ho, hall⟩ := mem_ready.1 hi
    have hun' := of_getD hun
    have hnd : i ∉ D := fun h => by
      rw [doneL_get] at hun'
      have hlt : i < L0.size := by
        have := hF.jl i (hs i h)
        exact (Array.getElem?_eq_some_iff.1 this).1
      rw [if_pos ⟨h, hlt⟩] at hun'
      cases hun'
    have hij : i ∈ J := by
      rw [doneL_get, if_neg fun q => hnd q.1] at hun'
      refine (hF.jt i hun').resolve_right fun ht => ?_
      obtain ⟨o', ho', hj⟩ := hF.tail i ht
      rw [ho] at ho'
      cases ho'
      obtain ⟨gr, hg, hb, he⟩ := hj i0 hi0
      have h1 := of_getD1 (hall gr hg hb)
      rw [he, un i0 hi0 hi1] at h1
      cases h1
    obtain ⟨o', t, te, mm, x, v, ho', hgd, hdst, hop, hund, h1, h2, h3, hok, _⟩ := hF.fill i hij
    rw [ho] at ho'
    cases ho'
    have hDl : D.length < maxLen := by omega
    obtain ⟨w', hrun, hM', hgr⟩ := hM.put hF.km hund hDl (E i).1 hok (E i).2
    have next := fill_any g hF hm w0 hb0 hQ m (i :: D) w' (List.nodup_cons.2 ⟨hnd, hn⟩) (fun j hj => by
      rcases List.mem_cons.1 hj with rfl | h
      · exact hij
      · exact hs j h) (by simp only [List.length_cons]; omega) (by have := left_cons hnd hF.nd hij; omega) hM' ⟨hgr.os.trans hB.os, hgr.tape.trans hB.tape, hgr.output.trans hB.output, Nat.le_trans hB.size hgr.size, fun j hj => (hgr.block j (Nat.lt_of_lt_of_le hj hB.size) (fun q => by have := Option.some.inj q; omega)).trans (hB.block j hj)⟩
    unfold wpOp
    rw [ho]
    have hw : Region.wanted o (yielded ops a.tmps) = true := by
      unfold Region.wanted
      rw [hgd]
    simp only [hw, if_true]
    refine .inl ?_
    unfold Oper.wp
    simp [execOp, hop, h1, h2, h3, hrun, Result.andThen, Oper.upon, hdst, Act.put]
    exact next
end
end Go.Proofs.YtgmomkinbfajkaaDoor
