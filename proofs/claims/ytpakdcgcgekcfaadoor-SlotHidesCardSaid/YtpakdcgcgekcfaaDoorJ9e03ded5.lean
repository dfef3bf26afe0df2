/-
  Texts of this claim, joined: RelF, ModeV, ModeK, HidA, HidB, HidC, Load1, HidD, R1Join, R2A, R2B, HidE, HidF.
-/
import Derived.Test.YtpakdcgcgekcfaaDoorJ756a6ad9
import Derived.Test.YtpakdcgcgekcfaaDoorJ80332cc5
import Derived.Test.YtpakdcgcgekcfaaDoorJ81216201
import Derived.Deep.RegionHeld3
import Derived.Deep.MidRow
import Derived.Test.YtpakdcgcgekcfaaDoorJfa020c09
import Derived.Test.YtpakdcgcgekcfaaDoorProg
import Derived.Deep.LoopGhost
import Derived.Deep.AppendLies
set_option linter.unusedVariables false
/-
  RelG, some of whose head's operations are plain values that may be taken late: they are taken as soon as they can be.
-/
set_option linter.unusedSimpArgs false
set_option linter.unusedVariables false
namespace Go.Proofs.YtpakdcgcgekcfaaDoor
open Go Go.RowKit

namespace RelG
/-- Values that no memory tells. -/
def plainOp (o : Oper) : Bool := o.dst.isSome && match o.op with
  | .move _ | .assign _ | .extract _ _ => true
  | _ => false
section
variable {P : Program} {ops : Array Oper} {md : Region.Mode} {n : Nat}
theorem plain_run {o : Oper} {ρ : Operand → Value} {w : World} {v : Value} (hp : plainOp o = true) (h : (execOp ρ o).run P w = .ok (.value v) w) : ∀ w', (execOp ρ o).run P w' = .ok (.value v) w' := fun w' => by
  obtain ⟨dst, op, type, pos, after, guard⟩ := o
  cases op <;> simp only [plainOp, Bool.and_false, Bool.false_eq_true] at hp <;> simp only [execOp] at h ⊢
  case move x => simp at h ⊢; exact h
  case assign x => simp at h ⊢; exact h
  case extract x i =>
    rw [Sem.run_bind] at h ⊢
    generalize ρ x = y at *
    cases y <;> simp [Instr.extract, Result.andThen] at h ⊢
    rename_i vs
    cases hx : vs[i]? with
    | none => rw [hx] at h; simp at h
    | some z => rw [hx] at h; simp at h ⊢; exact h
/-- What an operation waits for, through others. -/
def leadsB (md : Region.Mode) (ops : Array Oper) (k : Nat) : Nat → Nat → Bool
  | 0, _ => false
  | f + 1, j => match ops[j]? with
    | none => false
    | some o => o.after.any fun e => Region.binds md e && (e.on == k || leadsB md ops k f e.on)
def behind (md : Region.Mode) (ops : Array Oper) (j : Nat) : Array Bool := ((List.range ops.size).map fun k => leadsB md ops k ops.size j).toArray
theorem leads_listed {s : Array Bool} (inv : HeadInv md ops n s) {k : Nat} : ∀ (f j : Nat) (o : Oper), ops[j]? = some o → (∀ e ∈ o.after, Region.binds md e = true → s.getD e.on false = true) → leadsB md ops k f j = true → s.getD k false = true
  | 0, _, _, _, _, h => by cases h
  | f + 1, j, o, ho, hall, h => by
    rw [leadsB, ho] at h
    simp only [Array.any_eq_true'] at h
    obtain ⟨e, he, hb⟩ := h
    simp only [Bool.and_eq_true, Bool.or_eq_true, beq_iff_eq] at hb
    obtain ⟨hb1, hb2⟩ := hb
    have hl := hall e he hb1
    rcases hb2 with hk | hk
    · rw [← hk]; exact hl
    · cases ho2 : ops[e.on]? with
      | none =>
        cases f with
        | zero => cases hk
        | succ f => rw [leadsB, ho2] at hk; cases hk
      | some o2 => exact leads_listed inv f e.on o2 ho2 (fun e2 he2 hb3 => inv.closed e.on o2 ho2 hl e2 he2 hb3) hk
def floatB (md : Region.Mode) (ops : Array Oper) (n : Nat) (fl : List Nat) : Bool :=
  fl.all fun j => decide (j < n) && Region.free md ops (behind md ops j) j && match ops[j]? with
    | none => false
    | some o => plainOp o && o.after.all fun e => !Region.binds md e || (decide (e.on < n) && !fl.contains e.on)
def kindB (ops : Array Oper) (ks : List (Tmp × Kind)) (fl : List Nat) : Bool := fl.all fun j => match ops[j]? with
  | none => false
  | some o => (kindOf ks o).isNone
def edgesB (md : Region.Mode) (ops : Array Oper) (n : Nat) (fl : List Nat) : Bool :=
  (List.range ops.size).all fun t => decide (t < n) || (List.range n).all fun i => fl.contains i || Region.waitsFor md ops t i
def okF (md : Region.Mode) (ops : Array Oper) (n : Nat) (fl : List Nat) : Bool := Region.noSelect ops && headB md ops n && decide (n ≤ ops.size) && floatB md ops n fl && edgesB md ops n fl && Region.seqB md ops (ops.size - n) n (canon n ops.size)
theorem free_all {j : Nat} {s : Array Bool} (inv : HeadInv md ops n s) (hr : j ∈ Region.ready md ops s) (h : Region.free md ops (behind md ops j) j = true) : Region.free md ops s j = true := by
  obtain ⟨_, oj, hoj, hall⟩ := mem_ready.1 hr
  unfold Region.free at h ⊢
  rw [hoj] at h ⊢
  simp only [List.all_eq_true, List.mem_range] at h ⊢
  intro k hk
  have := h k hk
  simp only [Bool.or_eq_true] at this ⊢
  rcases this with (h1 | h1) | h1
  · exact .inl (.inl h1)
  · refine .inl (.inr ?_)
    have h2 : leadsB md ops k ops.size j = true := by
      simpa [behind, Array.getD_eq_getD_getElem?, hk] using h1
    have h3 := leads_listed inv _ j oj hoj hall h2
    cases hx : s.getD k true with
    | true => rfl
    | false => rw [getD_both hx] at h3; cases h3
  · exact .inr h1
theorem float_turn {fl : List Nat} {s : Array Bool} (hf : floatB md ops n fl = true) (he : edgesB md ops n fl = true) (inv : HeadInv md ops n s) (hn : n ≤ ops.size) {i : Nat} (hi : i < n) (hun : s.getD i true = false) :
    (∀ t, t ∈ Region.ready md ops s → t < n) ∨ (i ∈ fl ∧ i ∈ Region.ready md ops s) := by
  by_cases hx : ∃ k, k < n ∧ k ∉ fl ∧ s.getD k true = false
  · obtain ⟨k, hk, hkf, hku⟩ := hx
    refine .inl (fun t ht => ?_)
    rcases Nat.lt_or_ge t n with h4 | h4
    · exact h4
    · exfalso
      obtain ⟨_, ot, hot, hall⟩ := mem_ready.1 ht
      have htlt : t < ops.size := (Array.getElem?_eq_some_iff.1 hot).1
      have h1 := List.all_eq_true.1 he t (List.mem_range.2 htlt)
      simp only [Bool.or_eq_true, decide_eq_true_eq] at h1
      rcases h1 with h1 | h1
      · omega
      · have h2 := List.all_eq_true.1 h1 k (List.mem_range.2 hk)
        simp only [Bool.or_eq_true, List.contains_iff_mem] at h2
        rcases h2 with h2 | h2
        · exact hkf h2
        · obtain ⟨o', ho', e, hem, hb, hon⟩ := Region.waitsFor_spec h2
          have : o' = ot := Option.some.inj (ho'.symm.trans hot)
          subst this
          have h3 := hall e hem hb
          rw [hon, getD_both hku] at h3
          cases h3
  · have hif : i ∈ fl := by
      by_cases h : i ∈ fl
      · exact h
      · exact absurd ⟨i, hi, h, hun⟩ hx
    refine .inr ⟨hif, ?_⟩
    have h1 := List.all_eq_true.1 hf i hif
    simp only [Bool.and_eq_true, decide_eq_true_eq] at h1
    obtain ⟨⟨_, _⟩, h1⟩ := h1
    cases ho : ops[i]? with
    | none => rw [ho] at h1; simp at h1
    | some o =>
      rw [ho] at h1
      simp only [Bool.and_eq_true] at h1
      refine mem_ready.2 ⟨hun, o, ho, fun e hem hb => ?_⟩
      have h2 := Array.all_eq_true_iff_forall_mem.1 h1.2 e hem
      simp only [hb, Bool.not_true, Bool.false_or, Bool.and_eq_true, decide_eq_true_eq, Bool.not_eq_true'] at h2
      cases hl : s.getD e.on false with
      | true => rfl
      | false =>
        exfalso
        have hs : e.on < s.size := by rw [inv.size]; omega
        have hnf : e.on ∉ fl := fun h => by
          have : fl.contains e.on = true := List.contains_iff_mem.2 h
          rw [h2.2] at this
          cases this
        exact hx ⟨e.on, h2.1, hnf, getD_in hs hl⟩
end
section
variable {P : Program} {ops : Array Oper} {md : Region.Mode} {n : Nat} {ks : List (Tmp × Kind)} {w0 : World} {a0 : Act}
theorem tree_fl {Q : Act → World → Prop} {R : Exit → Act → World → Prop} {g : Nat} {fl : List Nat} (hsel : Region.noSelect ops = true) (hB : headB md ops n = true) (hn : n ≤ ops.size) (hF : floatB md ops n fl = true) (hE : edgesB md ops n fl = true) (hK : kindB ops ks fl = true)
    (hR : ∀ c a w x v, R (.panic c) (a.put (some x) v) w → R (.panic c) a w)
    {L : List Oper} (hL : ∀ j, j < n → L[j]? = ops[j]?) (hLn : L.length = n) (ht : tree P ops ks w0 Q L bare a0) (hQ : ∀ a w, Q a w → wpAny P md ops R g (canon n ops.size) a w) :
    ∀ (m : Nat) (s : Array Bool) (a : Act) (w : World) (u : Nat → Value), Inv P ops md n ks w0 a0 s a w u → cnt s n = m → wpAny P md ops R (m + g) s a w
  | 0, s, a, w, u, inv, hc => by
    have hall := cnt_zero n hc
    obtain ⟨b, F, h, br⟩ := reach hsel hB inv hL hLn ht n (Nat.le_refl _)
    rw [List.drop_of_length_le (by omega)] at h
    have hba : b = a := by
      have e1 : b.tmps = a.tmps := by
        apply Array.ext_getElem?
        intro d
        by_cases hx : ∃ j p, j < n ∧ ops[j]? = some p ∧ p.dst = some d
        · obtain ⟨j, p, hj, hp, hd⟩ := hx
          rw [br.slot j p d hj hp (hall j hj) hd, inv.slot j p d hj hp (hall j hj) hd]
        · rw [br.rest d (fun j p hj hp hd => hx ⟨j, p, hj, hp, hd⟩), inv.rest d (fun j p hj hp _ hd => hx ⟨j, p, hj, hp, hd⟩)]
      have e2 : b.defers = a.defers := br.defers.trans inv.defers.symm
      cases b; cases a
      simp only at e1 e2
      rw [e1, e2]
    rw [hba] at h
    have hq : Q a w := h w inv.grow (fun d => by
      by_cases hx : ∃ j p, j < n ∧ ops[j]? = some p ∧ p.dst = some d
      · obtain ⟨j, p, hj, hp, hd⟩ := hx
        exact br.told j p d hj hp (hall j hj) hd w (told_now inv hj hp (hall j hj))
      · exact br.free d (fun j p hj hp hd => hx ⟨j, p, hj, hp, hd⟩) w)
    rw [Nat.zero_add, canon_eq hn inv.head.size hall (fun j h1 h2 => inv.head.tail j h1 h2)]
    exact hQ a w hq
  | m + 1, s, a, w, u, inv, hc => by
    have e : m + 1 + g = m + g + 1 := by omega
    rw [e]
    obtain ⟨i0, hi0, hf0, hlow⟩ := cnt_pos (s := s) n (by omega)
    have hs0 : i0 < s.size := by rw [inv.head.size]; omega
    obtain ⟨o0, ho0⟩ := head_op hB hi0
    have hr0 : i0 ∈ Region.ready md ops s := mem_ready.2 ⟨getD_in hs0 hf0, o0, ho0, fun e he hb => hlow e.on (head_edges hB hi0 ho0 e he hb)⟩
    -- what each ready operation of the head does
    have one : ∀ i, i ∈ Region.ready md ops s → i < n → ∃ o, ops[i]? = some o ∧ (∀ v w', Step w0.heap.size w w' → Good P ops n ks w0 u o a w' v → wpAny P md ops R (m + g) (s.setIfInBounds i true) (a.put o.dst v) w') ∧
        ∃ b : Act, (execOp b.eval o = execOp a.eval o) ∧ (Region.wanted o (yielded ops b.tmps) = Region.wanted o (yielded ops a.tmps)) ∧ ∃ F : Facts, (∀ d ∈ o.looksAt ops, F d w) ∧ tree P ops ks w0 Q (o :: L.drop (i + 1)) F b ∧
        (∀ d, d ∈ o.looksAt ops → ∀ j p, j < n → ops[j]? = some p → p.dst = some d → Told ops ks p a w (u j)) := fun i hi hin => by
      obtain ⟨hun, o, ho, hall⟩ := mem_ready.1 hi
      have hset : Settled ops n s o := settled_of hB hin ho hall
      obtain ⟨b, F, h, br⟩ := reach hsel hB inv hL hLn ht i (by omega)
      have hd : L.drop i = o :: L.drop (i + 1) := by
        have h1 : L[i]? = some o := by rw [hL i hin]; exact ho
        obtain ⟨hlt, he⟩ := List.getElem?_eq_some_iff.1 h1
        rw [List.drop_eq_getElem_cons hlt, he]
      rw [hd] at h
      obtain ⟨hexec, hwant⟩ := exec_agree o (Region.noSelect_spec hsel i o · · ho) (looks_agree hB inv hin ho hset br)
      have hfw := facts_of hB hin ho hset br (W := w) (fun d hm j p hj hp hpd => told_now inv hj hp (hset j p d hj hp hpd hm))
      have hcs : cnt (s.setIfInBounds i true) n = m := by
        have := cnt_set (s := s) (i := i) (by rw [inv.head.size]; omega) (getD_both hun) n hin
        omega
      exact ⟨o, ho, fun v w' hg hgood => tree_fl hsel hB hn hF hE hK hR hL hLn ht hQ m _ _ _ _ (inv_next hsel hB inv hin ho hi hg hgood) hcs, b, hexec.symm ▸ rfl, hwant.symm ▸ rfl, F, hfw, h, fun d hm j p hj hp hpd => told_now inv hj hp (hset j p d hj hp hpd hm)⟩
    rcases float_turn hF hE inv.head hn hi0 (getD_in hs0 hf0) with hT | ⟨hif, hir⟩
    · refine ⟨fun h => (by rw [h] at hr0; cases hr0), fun i hi => ?_⟩
      have hin : i < n := hT i hi
      obtain ⟨o, ho, next, b, hexec, hwant, F, hfw, h, htold⟩ := one i hi hin
      unfold tree at h
      unfold wpOp
      simp only [ho]
      by_cases hw : Region.wanted o (yielded ops b.tmps) = true
      · rw [if_pos hw] at h
        rw [hwant] at hw
        rw [if_pos hw]
        refine .inl ?_
        have hgd : ∀ v w', (match kindOf ks o with
            | .none => ∃ W, Rel.Grow w0 W ∧ (∀ d, d ∈ o.looksAt ops → ∀ j p, j < n → ops[j]? = some p → p.dst = some d → Told ops ks p a W (u j)) ∧ (execOp a.eval o).run P W = .ok (.value v) W
            | .some (.const c) => v = c
            | .some (.any V _) => V v w') → Good P ops n ks w0 u o a w' v := fun v w' hx => by
          unfold Good
          rw [if_pos hw]
          exact hx
        cases hkd : kindOf ks o with
        | none =>
          rw [hkd] at h
          obtain ⟨_, v, hv, _⟩ := h
          have hrun := hv w inv.grow hfw
          rw [hexec] at hrun
          unfold Oper.wp
          rw [hrun]
          exact next v w (Step.refl _ _) (hgd v w (by
            rw [hkd]
            exact ⟨w, inv.grow, htold, hrun⟩))
        | some kd =>
          rw [hkd] at h
          cases kd with
          | const c =>
            have hr := h.1 w inv.grow hfw
            unfold stepAt at hr
            rw [hexec] at hr
            exact wp_of_rel hr (fun v w' hg hv => next v w' hg (hgd v w' (by rw [hkd]; exact hv)))
          | any V hV =>
            have hr := h.1 w inv.grow hfw
            unfold stepAt at hr
            rw [hexec] at hr
            exact wp_of_rel hr (fun v w' hg hv => next v w' hg (hgd v w' (by rw [hkd]; exact hv)))
      · rw [hwant] at hw
        rw [if_neg hw]
        exact next undef w (Step.refl _ _) (by unfold Good; rw [if_neg hw])
    · obtain ⟨o, ho, next, b, hexec, hwant, F, hfw, h, htold⟩ := one i0 hir hi0
      have hfl := List.all_eq_true.1 hF i0 hif
      rw [ho] at hfl
      simp only [Bool.and_eq_true, decide_eq_true_eq] at hfl
      obtain ⟨⟨_, hfree⟩, hplain, _⟩ := hfl
      obtain ⟨x, hx⟩ : ∃ x, o.dst = some x := Option.isSome_iff_exists.1 (by simp only [plainOp, Bool.and_eq_true] at hplain; exact hplain.1)
      unfold tree at h
      have fin : ∀ v, Yields P ops o v a → wpAny P md ops R (m + g) (s.setIfInBounds i0 true) (a.put o.dst v) w → wpAny P md ops R (m + g + 1) s a w := fun v hy hn' =>
        wpAny_take ho hsel (free_all inv.head hir hfree) (List.contains_iff_mem.2 hir) (by rw [hx]; exact fun c a w => hR c a w x v) hy hn'
      by_cases hw : Region.wanted o (yielded ops b.tmps) = true
      · rw [if_pos hw] at h
        rw [hwant] at hw
        cases hkd : kindOf ks o with
        | none =>
          rw [hkd] at h
          obtain ⟨_, v, hv, _⟩ := h
          have hrun := hv w inv.grow hfw
          rw [hexec] at hrun
          exact fin v (.inl ⟨hw, plain_run hplain hrun⟩) (next v w (Step.refl _ _) (by
            unfold Good
            rw [if_pos hw, hkd]
            exact ⟨w, inv.grow, htold, hrun⟩))
        | some kd =>
          exfalso
          have h1 := List.all_eq_true.1 hK i0 hif
          rw [ho] at h1
          simp only [hkd] at h1
          cases h1
      · rw [hwant] at hw
        exact fin undef (.inr ⟨by simpa using hw, rfl⟩) (next undef w (Step.refl _ _) (by unfold Good; rw [if_neg hw]))
/-- The region's law. -/
theorem wp_region_fl {id : Nat} {Q : Exit → Act → World → Prop} {a : Act} {w : World} {l : List Oper} (n : Nat) (fl : List Nat) (ks : List (Tmp × Kind)) (hm : P.follows .mixedOrders = true) (hB : okF .any l.toArray n fl = true) (hK : kindB l.toArray ks fl = true)
    (hR : ∀ c a w x v, Q (.panic c) (a.put (some x) v) w → Q (.panic c) a w)
    (h : tree P l.toArray ks w.drew (fun a' W => wpList P l.toArray Q (l.drop n) a' W) (l.take n) bare a) : (Code.region id l.toArray true).wp P Q a w := by
  simp only [okF, Bool.and_eq_true, decide_eq_true_eq] at hB
  obtain ⟨⟨⟨⟨⟨hsel, hhead⟩, hn⟩, hF⟩, hE⟩, hseq⟩ := hB
  have hnl : n ≤ l.length := by simpa using hn
  have inv0 : Inv P l.toArray .any n ks w.drew a (Array.replicate l.toArray.size false) a w.drew (fun _ => undef) :=
    ⟨⟨by simp, fun j oj _ hl => (by rw [getD_replicate_false] at hl; cases hl), fun t _ ht => getD_in (by simpa using ht) (getD_replicate_false _ _)⟩, Rel.Grow.refl _, rfl, rfl, fun _ _ => rfl, fun j o d _ _ hl => (by rw [getD_replicate_false] at hl; cases hl), fun j o _ _ hl => (by rw [getD_replicate_false] at hl; cases hl)⟩
  have hc : ∀ m, cnt (Array.replicate l.toArray.size false) m = m := fun m => by
    induction m with
    | zero => rfl
    | succ m ih => rw [cnt, ih, getD_replicate_false]; rfl
  refine wp_region_any hm ?_
  have hdl : (l.drop n).length = l.toArray.size - n := by simp
  have := tree_fl (g := l.toArray.size - n) (R := Q) hsel hhead hn hF hE hK hR (L := l.take n) (fun j hj => by simp [hj]) (by simp; omega) h (fun a' w' hq => by
    have h2 := wpAny_of_seq (md := .any) (Q' := Q) (l.drop n) n (canon n l.toArray.size) a' w' (fun j => by simp [List.getElem?_drop]) (by rw [hdl]; exact hseq) hq
    rwa [hdl] at h2) n _ _ _ _ inv0 (hc n)
  rw [show n + (l.toArray.size - n) = l.toArray.size by omega] at this
  exact this
end
end RelG
end Go.Proofs.YtpakdcgcgekcfaaDoor

/-
  Words for drawn regions that make a mode: a new block, a tuple's parts.
-/
set_option linter.unusedSimpArgs false
set_option linter.unusedVariables false
namespace Go.Proofs.YtpakdcgcgekcfaaDoor
open Go.RowKit

/-- A tuple's part. -/
def cV (v : Value) (i : Nat) : Value := match v with
  | .tuple vs => vs.getD i undef
  | _ => undef
theorem exec_extract {P : Program} {o : Oper} {a : Act} {W : World} (x : Operand) (i : Nat) (ho : o.op = .extract x i) (v : Value) (hx : a.eval x = v) (h : ∃ vs y, v = .tuple vs ∧ vs[i]? = some y) : (execOp a.eval o).run P W = .ok (.value (cV v i)) W := by
  obtain ⟨vs, y, rfl, hy⟩ := h
  unfold execOp
  simp only [ho, hx]
  rw [Sem.run_bind]
  simp [Instr.extract, hy, cV, Result.andThen, Array.getD_eq_getD_getElem?]
namespace Aes
open Otp R1 Fuse Sha
/-- A block for a mode that was just made. -/
def NewM (B : Nat) (ZM : Array Value) (v : Value) (W : World) : Prop := ∃ g, v = .pointer (some ⟨g, 0, none⟩) ∧ B ≤ g ∧ Blk W g 96 ZM
theorem NewM.grow {B : Nat} {ZM : Array Value} : ∀ v W W', Rel.Grow W W' → NewM B ZM v W → NewM B ZM v W' := fun _ _ _ h ⟨g, h1, h2, h3⟩ => ⟨g, h1, h2, h3.next h rfl⟩
theorem rel_newM {o : Oper} {a : Act} {B : Nat} {W : World} {ZM : Array Value} (hZ : Tryd.zeroCells96 = ZM) (ho : o.op = .alloc 96) (hB : B ≤ W.heap.size) : RelG.relAt Tryd.prog o a W (NewM B ZM) := by
  subst hZ
  have hz := Tryd.zeroValue96
  have hs := Tryd.sizeOf96
  unfold RelG.relAt execOp
  simp only [ho]
  go_simp
  exact ⟨Rel.Grow.alloc _ _, W.heap.size, rfl, hB, Blk.new _ _ _⟩
/-- A mode, and no error. -/
def MnV (m : Md) (v : Value) (W : World) : Prop := ∃ A L c, v = .tuple #[.agg (mV A L c m).toArray, .int .i64 0] ∧ KeyV W W.heap.size m.key A L c
theorem MnV.grow {m : Md} : ∀ v W W', Rel.Grow W W' → MnV m v W → MnV m v W' := fun _ _ _ h ⟨A, L, c, h1, h2⟩ => ⟨A, L, c, h1, h2.next h⟩
theorem MnV.part {m : Md} {v : Value} {W : World} (h : MnV m v W) : (∃ vs y, v = .tuple vs ∧ vs[0]? = some y) ∧ ∃ vs y, v = .tuple vs ∧ vs[1]? = some y := by
  obtain ⟨A, L, c, rfl, _⟩ := h
  exact ⟨⟨_, _, rfl, rfl⟩, ⟨_, _, rfl, rfl⟩⟩
theorem mnv_call {f : FuncId} {args : Array Value} {W : World} {m : Md} (h : Calls Tryd.prog f args W (MnOut W m)) : Calls Tryd.prog f args W (fun e w'' => ∃ v, e = .returned v ∧ Rel.Grow W w'' ∧ MnV m v w'') :=
  Calls.mono h fun _ _ ⟨A, L, c, he, hk, hB⟩ => ⟨_, he, hB, A, L, c, rfl, hk⟩
theorem u8_no (z : Int) (l : List Nat) : ∀ v, v ∈ (l.map fun x => Value.int .u8 ((x : Nat) : Int)) → v = Value.int .u32 z → False := fun v h e => by
  obtain ⟨_, _, hx⟩ := List.mem_map.1 h
  rw [e] at hx
  cases hx
theorem app_no {v : Value} {z : Int} {a b : List Value} (ha : v ∈ a → v = Value.int .u32 z → False) (hb : v ∈ b → v = Value.int .u32 z → False) : v ∈ a ++ b → v = Value.int .u32 z → False := fun h e => (List.mem_append.1 h).elim (fun h => ha h e) (fun h => hb h e)
theorem cons_no {v x : Value} {z : Int} {a : List Value} (hx : x ≠ Value.int .u32 z) (ha : v ∈ a → v = Value.int .u32 z → False) : v ∈ x :: a → v = Value.int .u32 z → False := fun h e => (List.mem_cons.1 h).elim (fun h => hx (h ▸ e)) (fun h => ha h e)
theorem zM_no (z : Int) : ∀ v, v ∈ zM → v = Value.int .u32 z → False := fun v => by
  rw [zM, mC, zK, mT]
  exact app_no (app_no (cons_no (by simp) (u8_no z _ v)) (u8_no z _ v)) (cons_no (by simp) (cons_no (by simp) (u8_no z _ v)))
theorem KeyV.apart {W : World} {B g : Nat} {key : List Nat} {A : Option Addr} {L c : Nat} {ZM : Array Value} (h : KeyV W B key A L c) (hZ : zM.toArray = ZM) (hb : Blk W g 96 ZM) : ∀ ad : Addr, A = some ad → ad.block ∉ [g] := fun ad had hx => by
  have hl : 0 < ((kWords key).map wd).length := by rw [List.length_map]; have := h.good.count.2; omega
  have hn := h.nats
  generalize (kWords key).map wd = l at *
  obtain ⟨_, b, off, h1, h2, h3⟩ := hn 0 l[0] (List.getElem?_eq_getElem hl)
  rw [had] at h1
  cases h1
  simp only [List.mem_singleton] at hx
  subst hx
  rw [hb.cell, ← hZ, List.getElem?_toArray] at h3
  exact zM_no _ _ (List.mem_of_getElem? h3) rfl
end Aes
end Go.Proofs.YtpakdcgcgekcfaaDoor

/-
  law04: key, and whole.
-/
set_option linter.unusedSimpArgs false
set_option linter.unusedVariables false
namespace Go.Proofs.YtpakdcgcgekcfaaDoor
open Go.RowKit

namespace Aes
open Otp R1 Fuse Sha
/-- A slice of the call's own, or a nil one. -/
theorem own_cut {w : World} {base : Nat} {v : Value} {l : List Nat} (h : OwnB w base v l) (hb : ∀ x ∈ l, x < 256) : ∃ A c, v = .slice A l.length c ∧ l.length ≤ c ∧ (A = none → c = 0) ∧ Nats .u8 256 w w.heap.size A l := by
  obtain ⟨A, c, h1, h2, h3, h4⟩ := own_nats h hb
  refine ⟨A, c, h1, h2, fun h0 => ?_, h3⟩
  subst h0
  rcases h.2 with ⟨h5, _⟩ | ⟨q, cap, cur, h5, _⟩
  · rw [h1] at h5
    injection h5
  · rw [h1] at h5
    injection h5 with h6
    cases h6
theorem cut_byte {w : World} {B : Nat} {A : Option Addr} {l : List Nat} (h : Nats .u8 256 w B A l) (k : Nat) : ∀ x ∈ l.take k, x < 256 := fun x hx => by
  obtain ⟨i, hi⟩ := List.mem_iff_getElem?.1 (List.mem_of_mem_take hx)
  exact (h i x hi).1
/-- What the law has of a kind and a key: a mode, or the zero mode and an error. -/
def ArgOut (right : Prop) (ZM : Array Value) (st : List Nat) (w : World) (e : Ending) (w' : World) : Prop := ∃ (CL : List Value) (E : Int), e = .returned (.tuple #[.agg CL.toArray, .int .i64 E]) ∧ M2F ZM CL ∧ Below w.heap.size w w' ∧
  (∀ W, Below w'.heap.size w' W → Calls Tryd.prog 56 #[.agg CL.toArray, .slice none 0 0] W (fun e w'' => ∃ (CQ : List Value) (A : Option Addr) (c : Nat), e = .returned (.tuple #[.agg CQ.toArray, .slice A 0 c, .int .i64 0]) ∧ M2F ZM CQ ∧ Below W.heap.size W w'')) ∧
  (right → E = 0 ∧ ∀ W, Calls Tryd.prog 61 #[.agg CL.toArray] W (BkOut W st)) ∧ (¬ right → E = 1)
theorem arg_any (kind : Int) (A : Option Addr) (n c : Nat) (p st : List Nat) (w : World) (hpl : p.length = n) (hnm : n ≤ maxLen) (hz : Nats .u8 256 w w.heap.size A p) (hsl : st.length = 16) (hsb : ∀ x ∈ st, x < 256) :
    Calls Tryd.prog 55 #[.int .i64 kind, .bool false, .slice A n c, .agg (b8 st)] w (ArgOut (0 ≤ kind ∧ kind ≤ 2 ∧ (n = 16 ∨ n = 32)) zM.toArray st w) := by
  have hpb : ∀ x ∈ p, x < 256 := fun x hx => by
    obtain ⟨i, hi⟩ := List.mem_iff_getElem?.1 hx
    exact (hz i x hi).1
  have hbad : ∀ w', Below w.heap.size w w' → ¬ (0 ≤ kind ∧ kind ≤ 2 ∧ (n = 16 ∨ n = 32)) → ArgOut (0 ≤ kind ∧ kind ≤ 2 ∧ (n = 16 ∨ n = 32)) zM.toArray st w (.returned (.tuple #[.agg zM.toArray, .int .i64 1])) w' := fun w' hB hr =>
    ⟨zM, 1, rfl, zM_f, hB, fun W _ => Calls.mono (run_zero none 0 0 0 [] W rfl rfl (by decide) (Nat.le_refl _) (fun i z hz => by simp at hz)) (fun e w'' ⟨v, h1, h2, h3⟩ => by
      obtain ⟨A2, c2, rfl, _, _⟩ := own_nats h2 (by simp)
      exact ⟨zM, A2, c2, by rw [h1]; rfl, zM_f, h3⟩), fun h => absurd h hr, fun _ => rfl⟩
  by_cases hk : n = 16 ∨ n = 32
  · have hg : KeyG p := ⟨by rcases hk with h | h <;> simp [hpl, h], hpb⟩
    by_cases hr : 0 ≤ kind ∧ kind ≤ 2
    · have hok : (⟨p, kind.toNat, false, st⟩ : Md).Ok := ⟨hg, show kind.toNat ≤ 2 by omega, hsl, hsb⟩
      refine Calls.mono (mnew_any A n c kind ⟨p, kind.toNat, false, st⟩ w hok (show kind = (kind.toNat : Int) by omega) hpl.symm hz) (fun e w' ⟨A1, L1, c1, h1, h2, h3⟩ => ?_)
      refine ⟨_, 0, h1, m2f A1 L1 c1 hsl, h3, fun W hW => ?_, fun _ => ⟨rfl, fun W => mat_any _ A1 L1 c1 ⟨p, kind.toNat, false, st⟩ W (mvF A1 L1 c1 ⟨p, kind.toNat, false, st⟩ hsl) hsl⟩, fun h => absurd ⟨hr.1, hr.2, hk⟩ h⟩
      refine Calls.mono (run_any A1 L1 c1 ⟨p, kind.toNat, false, st⟩ none 0 0 0 [] W hok (h2.next hW) rfl rfl (by decide) (Nat.le_refl _) (fun i z hz => by simp at hz)) (fun e w'' ⟨v, h4, h5, h6⟩ => ?_)
      obtain ⟨A2, c2, rfl, _, _⟩ := own_nats (l := []) h5 (by simp)
      exact ⟨_, A2, c2, by rw [h4]; rfl, m2f A1 L1 c1 hsl, h6⟩
    · exact Calls.mono (mnew_badkind A n c p kind false st w hg hpl.symm hz (by omega) hsl) (fun e w' ⟨h1, h2⟩ => by rw [h1]; exact hbad w' h2 (fun h => hr ⟨h.1, h.2.1⟩))
  · exact Calls.mono (mnew_badkey A n c kind false st w (by omega) (by omega) hnm hsl) (fun e w' ⟨h1, h2⟩ => by rw [h1]; exact hbad w' h2 (fun h => hk h.2.2))
set_option maxRecDepth 100000 in
set_option maxHeartbeats 1000000 in
theorem key_any (p : List Nat) (long : Bool) (w : World) (hp : p.length = 32) (hb : ∀ x ∈ p, x < 256) :
    Calls Tryd.prog 57 #[.agg (b8 p), .bool long] w (BytesOut w (p.take (if long then 32 else 16))) := by
  obtain ⟨w1, hw1⟩ : ∃ W, W = w.alloc (.cells (b8 p) 22) := ⟨_, rfl⟩
  have HW := wall hw1
  have HB1 := wall (show Below w.heap.size w w1 by rw [hw1]; exact (Below.refl _ w).alloc (Nat.le_refl _) _)
  have HN1 := wall (show Nats .u8 256 w1 w1.heap.size (some ⟨w.heap.size, 0, none⟩) p by rw [hw1]; exact nats_b8 (Blk.new _ _ _) hb)
  have HP := wall hp
  have hs := Slot.run_slice_arr_all' (P := Tryd.prog) 22 5 32 Tryd.underlying22 (fun _ => by kernel_rfl) w.heap.size 0 (by decide)
  clear hw1 hp hb
  cases long with
  | false =>
    go_enter Tryd.func57, Tryd.ntmps57
    go_upto_region 1 with fail
    rw [← HW.out]
    clear HW
    go_wp2_with fail
    (with_reducible refine (cut_any (some ⟨w.heap.size, 0, none⟩) 32 32 p 16 16 w1 HP.out (by decide) rfl (by decide) HN1.out).mono ?_); rintro e w3 ⟨v3, rfl, hO3, hB3⟩
    go_wp2_with fail
    go_light
    go_ret
    exact ⟨_, rfl, own_less hO3 HB1.out.size, below_then HB1.out hB3 (Nat.le_refl _)⟩
  | true =>
    go_enter Tryd.func57, Tryd.ntmps57
    go_upto_region 1 with fail
    rw [← HW.out]
    clear HW
    go_wp2_with fail
    (with_reducible refine (cut_any (some ⟨w.heap.size, 0, none⟩) 32 32 p 32 32 w1 HP.out (by decide) rfl (by decide) HN1.out).mono ?_); rintro e w3 ⟨v3, rfl, hO3, hB3⟩
    go_wp2_with fail
    go_light
    go_ret
    exact ⟨_, rfl, own_less hO3 HB1.out.size, below_then HB1.out hB3 (Nat.le_refl _)⟩
set_option maxRecDepth 100000 in
set_option maxHeartbeats 1000000 in
theorem whole_any (A : Option Addr) (len cap : Nat) (l : List Nat) (m : Int) (k : Nat) (w : World) (hl : l.length = len) (hm : len ≤ maxLen) (hmk : m = k) (hk : k ≤ 1000) (hz : Nats .u8 256 w w.heap.size A l) :
    Calls Tryd.prog 54 #[.slice A len cap, .int .i64 m] w (BytesOut w (l.take (16 * min (len / 16) k))) := by
  subst hmk
  have HZ := wall hz
  have HM := wall hm
  simp only [maxLen] at hm
  have hq : (len : Int).tdiv 16 = ((len / 16 : Nat) : Int) := by rw [Int.tdiv_eq_ediv_of_nonneg (by omega)]; omega
  have hq2 : (len : Int) / 16 = ((len / 16 : Nat) : Int) := by omega
  have hqm : len / 16 ≤ 9223372036854775807 := by omega
  obtain ⟨q, hq'⟩ : ∃ q, len / 16 = q := ⟨_, rfl⟩
  rw [hq'] at hq hqm hq2 ⊢
  clear hq' hz
  go_enter Tryd.func54, Tryd.ntmps54
  go_wp2_with fail
  (with_reducible refine (cut_any A len cap l (16 * min (q : Int) (k : Int)) (16 * min q k) w hl HM.out (by omega) (by omega) HZ.out).mono ?_); rintro e w3 ⟨v3, rfl, hO3, hB3⟩
  go_wp2_with fail
  go_light
  go_ret
  exact ⟨_, rfl, hO3, hB3⟩
end Aes
end Go.Proofs.YtpakdcgcgekcfaaDoor

/-
  SlotHides: an act, and few.
-/
set_option linter.unusedSimpArgs false
set_option linter.unusedVariables false
namespace Go.Proofs.YtpakdcgcgekcfaaDoor
open Go.RowKit

namespace Slot
open Otp R1 Sha Aes
/-- An act of the law. -/
structure Ac where
  d : Nat
  h : Int
  t : Int
  k : Int
  key : List Nat
  lb : ByteArray
  A : Option Addr
  n : Nat
  c : Nat
def acL (a : Ac) : List Value := .int .u8 (a.d : Int) :: .int .i64 a.h :: .int .i64 a.t :: .int .i64 a.k :: (v8 a.key ++ [.string a.lb, .slice a.A a.n a.c])
theorem acL_length {a : Ac} (h : a.key.length = 32) : (acL a).length = 38 := by simp [acL, v8_length, h]
theorem act_info : (Tryd.prog.info? 81).map (·.size) = some 38 := by kernel_rfl
theorem acL_info {a : Ac} (h : a.key.length = 32) : (Tryd.prog.info? 81).map (·.size) = some (acL a).toArray.size := by rw [List.size_toArray, acL_length h]; exact act_info
theorem acL_one (a : Ac) : (acL a).toArray.all (·.oneCell') = true := by
  rw [Array.all_eq_true_iff_forall_mem]
  intro v hv
  simp only [acL, List.mem_toArray, List.mem_cons, List.mem_append, List.not_mem_nil, or_false] at hv
  rcases hv with rfl | rfl | rfl | rfl | h | rfl | rfl <;> first | rfl | skip
  obtain ⟨_, _, rfl⟩ := List.mem_map.1 h
  rfl
theorem acL_lb {a : Ac} (h : a.key.length = 32) : (acL a)[36]? = some (.string a.lb) := by
  show (v8 a.key ++ [.string a.lb, .slice a.A a.n a.c])[32]? = _
  rw [List.getElem?_append_right (by rw [v8_length, h]; exact Nat.le_refl _), v8_length, h]
  rfl
theorem acL_p {a : Ac} (h : a.key.length = 32) : (acL a)[37]? = some (.slice a.A a.n a.c) := by
  show (v8 a.key ++ [.string a.lb, .slice a.A a.n a.c])[33]? = _
  rw [List.getElem?_append_right (by rw [v8_length, h]; decide), v8_length, h]
  rfl
theorem acL_key {a : Ac} (h : a.key.length = 32) : ∀ (j : Nat) (v : Value), (v8 a.key)[j]? = some v → (acL a)[4 + j]? = some v := fun j v hv => by
  show (Value.int .u8 (a.d : Int) :: Value.int .i64 a.h :: Value.int .i64 a.t :: Value.int .i64 a.k :: (v8 a.key ++ [Value.string a.lb, Value.slice a.A a.n a.c]))[4 + j]? = _
  rw [show 4 + j = j + 1 + 1 + 1 + 1 by omega]
  simp only [List.getElem?_cons_succ]
  rw [List.getElem?_append_left ((List.getElem?_eq_some_iff.1 hv).1)]
  exact hv
theorem acL_set {a : Ac} (h : a.key.length = 32) (lb : ByteArray) (A : Option Addr) (n c : Nat) : ((acL a).set 36 (.string lb)).set 37 (.slice A n c) = acL { a with lb := lb, A := A, n := n, c := c } := by
  show Value.int .u8 (a.d : Int) :: Value.int .i64 a.h :: Value.int .i64 a.t :: Value.int .i64 a.k :: (((v8 a.key ++ [Value.string a.lb, Value.slice a.A a.n a.c]).set 32 (.string lb)).set 33 (.slice A n c)) = _
  rw [List.set_append_right _ _ (by rw [v8_length, h]; exact Nat.le_refl _), List.set_append_right _ _ (by rw [v8_length, h]; decide), v8_length, h]
  rfl
def zAct : Ac := ⟨0, 0, 0, 0, List.replicate 32 0, ByteArray.empty, none, 0, 0⟩
/-- A string of at most 30 bytes; bytes. -/
def StrV (m : Nat) (v : Value) (_ : World) : Prop := ∃ s : ByteArray, v = .string s ∧ s.size ≤ m
theorem StrV.grow {m : Nat} : ∀ v W W', Rel.Grow W W' → StrV m v W → StrV m v W' := fun _ _ _ _ h => h
def BytV (B : Nat) (l : List Nat) (v : Value) (W : World) : Prop := ∃ A c, v = .slice A l.length c ∧ l.length ≤ c ∧ (A = none → c = 0) ∧ Nats .u8 256 W W.heap.size A l ∧ OwnB W B (.slice A l.length c) l
theorem BytV.grow {B : Nat} {l : List Nat} : ∀ v W W', Rel.Grow W W' → BytV B l v W → BytV B l v W' := fun _ _ _ h ⟨A, c, h1, h2, h3, h4, h5⟩ => ⟨A, c, h1, h2, h3, (h4.below h).more (Below.size h), own_grow _ _ _ h h5⟩
theorem bytv_call {f : FuncId} {args : Array Value} {W : World} {B : Nat} {l : List Nat} (hb : ∀ x ∈ l, x < 256) (hBW : B ≤ W.heap.size) (h : Calls Tryd.prog f args W (BytesOut W l)) : Calls Tryd.prog f args W (fun e w'' => ∃ v, e = .returned v ∧ Rel.Grow W w'' ∧ BytV B l v w'') :=
  Calls.mono h fun _ _ ⟨v, he, ho, hB⟩ => by
    obtain ⟨A', c', rfl, h1, h2, h3⟩ := own_cut ho hb
    exact ⟨_, he, hB, A', c', rfl, h1, h2, h3, own_less ho hBW⟩
theorem own_ge {W : World} {B n c : Nat} {A : Option Addr} {l : List Nat} (h : OwnB W B (.slice A n c) l) : ∀ ad : Addr, A = some ad → B ≤ ad.block := fun ad had => by
  subst had
  rcases h.2 with ⟨h0, _⟩ | ⟨q, cap, cur, hv, hb, _⟩
  · cases h0
  · cases hv
    exact hb
theorem own_ne {W : World} {B n c g : Nat} {A : Option Addr} {l : List Nat} {t : TypeId} {cs : Array Value} (h : OwnB W B (.slice A n c) l) (hb : Blk W g t cs) (ht : 5 ≠ t) : ∀ ad : Addr, A = some ad → ad.block ∉ [g] := fun ad had hx => by
  subst had
  simp only [List.mem_singleton] at hx
  rcases h.2 with ⟨h0, _⟩ | ⟨q, cap, cur, hv, _, hq, _⟩
  · cases h0
  · cases hv
    simp only at hx
    subst hx
    exact ht (Blk.eq (show Blk W q 5 cur from hq) hb).1
/-- What few hands back. -/
def FewOut (a : Ac) (p : List Nat) (w : World) (e : Ending) (w' : World) : Prop := ∃ (lb : ByteArray) (A : Option Addr) (c : Nat), e = .returned (.agg (acL { a with lb := lb, A := A, n := p.length, c := c }).toArray) ∧ lb.size ≤ 30 ∧ p.length ≤ c ∧ (A = none → c = 0) ∧ Nats .u8 256 w' w'.heap.size A p ∧ Below w.heap.size w w' ∧ ∀ ad, A = some ad → w.heap.size ≤ ad.block
set_option maxRecDepth 100000 in
set_option maxHeartbeats 4000000 in
theorem few_any (a : Ac) (p : List Nat) (w : World) (hk : a.key.length = 32) (hl : a.lb.size ≤ maxLen) (hp : p.length = a.n) (hn : a.n ≤ maxLen) (hz : Nats .u8 256 w w.heap.size a.A p) :
    Calls Tryd.prog 44 #[.agg (acL a).toArray] w (FewOut a (p.take 60) w) := by
  obtain ⟨AL, hAL⟩ : ∃ x, acL a = x := ⟨_, rfl⟩
  have HI := wall (show (Tryd.prog.info? 81).map (·.size) = some AL.toArray.size by rw [← hAL]; exact acL_info hk)
  have HAE := wall hAL
  have HLB := wall (show AL[36]? = some (.string a.lb) by rw [← hAL]; exact acL_lb hk)
  have HPP := wall (show AL[37]? = some (.slice a.A a.n a.c) by rw [← hAL]; exact acL_p hk)
  have HLEN := wall (show AL.length = 38 by rw [← hAL]; exact acL_length hk)
  have HZ := wall hz
  have HLS := wall hl
  have HPN := wall (And.intro hp hn)
  have HK := wall hk
  have hqb := cut_byte hz 60
  have HCUT := wall (fun W (q : Below w.heap.size w W) => bytv_call hqb (B := w.heap.size) q.size (cut_any a.A a.n a.c p 60 60 W hp hn rfl (by decide) ((hz.below q).more q.size)))
  obtain ⟨q8, hq8⟩ : ∃ x, p.take 60 = x := ⟨_, rfl⟩
  rw [hq8] at HCUT ⊢
  obtain ⟨ZA, hZA⟩ : ∃ x, (acL zAct).toArray = x := ⟨_, rfl⟩
  have HZA := wall hZA
  have HZS := wall (show ZA.size = 38 by rw [← hZA]; rfl)
  obtain ⟨w1, hw1⟩ : ∃ W, W = (w.alloc (.cells AL.toArray 81)).alloc (.cells ZA 81) := ⟨_, rfl⟩
  have HW := wall hw1
  have HB1 := wall (show Below w.heap.size w w1 by rw [hw1]; exact ((Below.refl _ w).alloc (Nat.le_refl _) _).alloc (by simp) _)
  have HK1 := wall (show Blk w1 w.heap.size 81 AL.toArray by rw [hw1]; exact (Blk.new _ _ _).alloc _)
  have HR1 := wall (show Blk w1 (w.heap.size + 1) 81 ZA by rw [hw1]; exact blk_new' (by simp))
  rw [hAL]
  clear hw1 hz hl hp hn hk hZA hAL hq8 hqb
  obtain ⟨d, h, t, k, key, lb, A, n, c⟩ := a
  simp only at HLB HPP HZ HLS HPN HK HCUT
  go_enter Tryd.func44, Tryd.ntmps44
  go_upto_region 1 with fail
  change Code.wp _ _ _ _ ((w.alloc (.cells AL.toArray 81)).alloc (.cells (acL zAct).toArray 81))
  rw [HZA.out]
  rw [← HW.out]
  clear HW HZA
  refine RelG.wp_region_rel 7 [(5, .any (StrV 30) StrV.grow), (8, .any (BytV w.heap.size q8) BytV.grow)] (by kernel_rfl) (by kernel_rfl) ?_
  simp only [List.take_succ_cons, List.take_zero, List.drop_succ_cons, List.drop_zero, Act.put, List.setIfInBounds_toArray, List.set_cons_zero, List.set_cons_succ]
  (refine RelG.tree_quiet rfl rfl rfl (fun K hK => ?_); go_big_quiet_op; refine hK _ ?_; clear hK K)
  have HC36 := wall (fun W (q : Rel.Grow w1.drew W) => show W.cell? ⟨w.heap.size, 36, none⟩ = some (.string lb) by
    have := (q.blk HK1.out.drew).cell 36
    rw [this]
    simpa using HLB.out)
  have HC37 := wall (fun W (q : Rel.Grow w1.drew W) => show W.cell? ⟨w.heap.size, 37, none⟩ = some (.slice A n c) by
    have := (q.blk HK1.out.drew).cell 37
    rw [this]
    simpa using HPP.out)
  refine RelG.tree_pure rfl rfl rfl (.string lb) (fun W hW _ => by (have hc := HC36.out W hW; unfold execOp; go_simp)) ?_
  simp only [Act.put, List.setIfInBounds_toArray, List.set_cons_zero, List.set_cons_succ]
  refine RelG.tree_rel rfl (StrV 30) StrV.grow rfl (fun W hW _ => ?_) (fun v5 => ?_)
  · clear hW
    unfold RelG.relAt; go_simp; show Calls _ _ _ _ _
    exact Calls.mono (text_any lb 30 30 W rfl (by decide) HLS.out) fun e w' ⟨s, h1, h2, h3⟩ => ⟨_, h1, by rw [← h3]; exact Rel.Grow.refl _, s, rfl, h2⟩
  simp only [Act.put, List.setIfInBounds_toArray, List.set_cons_zero, List.set_cons_succ]
  (refine RelG.tree_quiet rfl rfl rfl (fun K hK => ?_); go_big_quiet_op; refine hK _ ?_; clear hK K)
  refine RelG.tree_pure rfl rfl rfl (.slice A n c) (fun W hW _ => by (have hc := HC37.out W hW; unfold execOp; go_simp)) ?_
  simp only [Act.put, List.setIfInBounds_toArray, List.set_cons_zero, List.set_cons_succ]
  refine RelG.tree_rel rfl (BytV w.heap.size q8) BytV.grow rfl (fun W hW _ => ?_) (fun v8 => ?_)
  · have hq := below_then HB1.out hW.undrew (Nat.le_refl _)
    clear hW
    unfold RelG.relAt; go_simp; show Calls _ _ _ _ _
    exact HCUT.out W hq
  simp only [Act.put, List.setIfInBounds_toArray, List.set_cons_zero, List.set_cons_succ]
  (refine RelG.tree_quiet rfl rfl rfl (fun K hK => ?_); go_big_quiet_op; refine hK _ ?_; clear hK K)
  intro W hW hF
  obtain ⟨s5, rfl, hs5⟩ : StrV 30 v5 W := hF 5
  obtain ⟨A8, c8, rfl, hc8, hA8, hN8, hO8⟩ : BytV w.heap.size q8 v8 W := hF 8
  have HKW := wall (hW.blk HK1.out.drew)
  have HRW := wall (hW.blk HR1.out.drew)
  have HBW := wall (below_then HB1.out hW.undrew (Nat.le_refl _))
  have HN8 := wall hN8
  have HX := wall (And.intro hs5 (And.intro hc8 hA8))
  clear hW hF hs5 hc8 hA8 hN8 HC36 HC37
  have hc36 : W.cell? ⟨w.heap.size, 36, none⟩ = some (.string lb) := by
    rw [HKW.out.cell 36]
    simpa using HLB.out
  have hc37 : W.cell? ⟨w.heap.size, 37, none⟩ = some (.slice A n c) := by
    rw [HKW.out.cell 37]
    simpa using HPP.out
  have hf36 := HKW.out.frozen 36
  have hf37 := HKW.out.frozen 37
  have HO8 := wall hO8
  have HGE := wall (own_ge hO8)
  have HAP := wall (fun ad (had : A8 = some ad) => And.intro (own_ne hO8 HKW.out (by decide) ad had) (own_ne hO8 HRW.out (by decide) ad had))
  obtain ⟨n8, hn8⟩ : ∃ x, q8.length = x := ⟨_, rfl⟩
  rw [hn8] at HO8 HX ⊢
  have HN := wall hn8
  clear hO8 hn8
  go_upto_region 2 with fail
  obtain ⟨w2, hw2⟩ : ∃ V, V = (W.setCell ⟨w.heap.size, 36, none⟩ (.string s5)).setCell ⟨w.heap.size, 37, none⟩ (.slice A8 n8 c8) := ⟨_, rfl⟩
  have hk2 : Blk w2 w.heap.size 81 (acL ⟨d, h, t, k, key, s5, A8, n8, c8⟩).toArray := by
    have := ((HKW.out.set 36 (.string s5)).set 37 (.slice A8 n8 c8))
    rw [← hw2] at this
    simp only [List.setIfInBounds_toArray] at this
    rw [← HAE.out, acL_set HK.out] at this
    exact this
  have hf2 : Frm [w.heap.size] W w2 := by
    rw [hw2]
    exact ((Frm.refl _ W).setCell (p := ⟨w.heap.size, 36, none⟩) (.inl (by simp)) _).setCell (p := ⟨w.heap.size, 37, none⟩) (.inl (by simp)) _
  rw [← hw2]
  have HK2 := wall hk2
  have HR2 := wall (HRW.out.frm hf2 (by simp))
  have HF2 := wall hf2
  have HI2 := wall (acL_info (a := ⟨d, h, t, k, key, s5, A8, n8, c8⟩) HK.out)
  have HO2 := wall (acL_one ⟨d, h, t, k, key, s5, A8, n8, c8⟩)
  have HL2 := wall (acL_length (a := ⟨d, h, t, k, key, s5, A8, n8, c8⟩) HK.out)
  obtain ⟨A2, hA2⟩ : ∃ x, acL ⟨d, h, t, k, key, s5, A8, n8, c8⟩ = x := ⟨_, rfl⟩
  have HE2 := wall hA2
  rw [hA2] at HK2 HI2 HO2 HL2
  clear hw2 hk2 hf2 hc36 hc37 hf36 hf37 HKW HRW hA2 HAE HLB HPP
  go_wp2_with (first | refine wpList_load_row rfl 81 _ rfl w.heap.size rfl 81 A2.toArray (0, 0) _ HK2.out Tryd.underlying81 rfl HI2.out ?_ | (refine wpList_set_row rfl 81 (.tmp 2) (.tmp 11) rfl (w.heap.size + 1) A2.toArray rfl rfl 81 ZA HR2.out HI2.out (by rw [HZS.out, List.size_toArray, HL2.out]) HO2.out ?_; intro w3 K3 F3))
  have HF3 := wall F3
  have hap := HAP.out
  clear F3
  go_light
  exact bodyPost_ret (v := .agg A2.toArray) (results_cell_row Tryd.results44 _ _ (w.heap.size + 1) 81 A2.toArray (0, 0) _ rfl K3 Tryd.underlying81 rfl HI2.out) rfl ⟨s5, A8, c8, by rw [HN.out, HE2.out], HX.out.1, by rw [HN.out]; exact HX.out.2.1, HX.out.2.2, (nats_other ((nats_other HN8.out (Nat.le_refl _) HF2.out (fun ad had => (hap ad had).1)).more HF2.out.size) (Nat.le_refl _) HF3.out (fun ad had => (hap ad had).2)).more HF3.out.size, Below.frm (Below.frm HBW.out HF2.out (Nat.le_refl _) (fun x hx => by simp at hx; omega)) HF3.out (Nat.le_refl _) (fun x hx => by simp at hx; omega), HGE.out⟩
end Slot
end Go.Proofs.YtpakdcgcgekcfaaDoor

/-
  SlotHides: the reference's slots; in, Has.
-/
set_option linter.unusedSimpArgs false
set_option linter.unusedVariables false
namespace Go.Proofs.YtpakdcgcgekcfaaDoor
open Go.RowKit

namespace Slot
open Otp R1 Sha Aes
/-- The reference's slots. -/
structure Xs where
  ks : List Int
  ys : List Nat
  lk : Bool
  dd : Bool
def xsL (x : Xs) : List Value := x.ks.map (Value.int .i64) ++ (v8 x.ys ++ [.bool x.lk, .bool x.dd])
structure Xs.Ok (x : Xs) : Prop where
  kl : x.ks.length = 8
  yl : x.ys.length = 256
  yb : ∀ y ∈ x.ys, y < 256
def kx (x : Xs) (h : Int) : Int := x.ks[h.toNat]?.getD 0
def yx (x : Xs) (i : Nat) : List Nat := (x.ys.drop (32 * i)).take 32
section
variable {x : Xs}
theorem Xs.Ok.size (h : x.Ok) : (xsL x).length = 266 := by simp [xsL, h.kl, v8_length, h.yl]
theorem Xs.Ok.kindAt (h : x.Ok) {i : Nat} (hi : i < 8) : (xsL x)[i]? = some (.int .i64 (kx x (i : Int))) := by
  obtain ⟨k, hk⟩ : ∃ k, x.ks[i]? = some k := ⟨_, List.getElem?_eq_getElem (by rw [h.kl]; exact hi)⟩
  unfold xsL kx
  rw [List.getElem?_append_left (by rw [List.length_map, h.kl]; exact hi), List.getElem?_map, Int.toNat_natCast, hk]
  rfl
theorem Xs.Ok.keyAt (h : x.Ok) {i : Nat} (hi : i < 8) : ∀ (j : Nat) (v : Value), (v8 (yx x i))[j]? = some v → (xsL x)[8 + i * 32 + j]? = some v := fun j v hv => by
  have hj : j < (v8 (yx x i)).length := (List.getElem?_eq_some_iff.1 hv).1
  rw [v8_length, yx, List.length_take, List.length_drop, h.yl] at hj
  unfold xsL
  rw [List.getElem?_append_right (by rw [List.length_map, h.kl]; omega), List.length_map, h.kl, List.getElem?_append_left (by rw [v8_length, h.yl]; omega)]
  rw [show 8 + i * 32 + j - 8 = 32 * i + j by omega]
  simpa [v8, yx, List.getElem?_take, List.getElem?_drop, show j < 32 by omega] using hv
theorem Xs.Ok.lockAt (h : x.Ok) : (xsL x)[264]? = some (.bool x.lk) := by
  unfold xsL
  rw [List.getElem?_append_right (by rw [List.length_map, h.kl]; decide), List.length_map, h.kl, List.getElem?_append_right (by rw [v8_length, h.yl]; decide), v8_length, h.yl]
  rfl
theorem Xs.Ok.deadAt (h : x.Ok) : (xsL x)[265]? = some (.bool x.dd) := by
  unfold xsL
  rw [List.getElem?_append_right (by rw [List.length_map, h.kl]; decide), List.length_map, h.kl, List.getElem?_append_right (by rw [v8_length, h.yl]; decide), v8_length, h.yl]
  rfl
theorem Xs.Ok.yx (h : x.Ok) {i : Nat} (hi : i < 8) : (yx x i).length = 32 ∧ ∀ y ∈ Slot.yx x i, y < 256 :=
  ⟨by rw [Slot.yx, List.length_take, List.length_drop, h.yl]; omega, fun y hy => h.yb y (List.mem_of_mem_drop (List.mem_of_mem_take hy))⟩
theorem Xs.Ok.setK (h : x.Ok) {i : Nat} (hi : i < 8) (k : Int) : (xsL x).set i (.int .i64 k) = xsL { x with ks := x.ks.set i k } ∧ Xs.Ok { x with ks := x.ks.set i k } := by
  refine ⟨?_, by rw [List.length_set]; exact h.kl, h.yl, h.yb⟩
  unfold xsL
  rw [List.set_append_left _ _ (by rw [List.length_map, h.kl]; exact hi), List.map_set]
theorem Xs.Ok.setY (h : x.Ok) {i : Nat} (hi : i < 8) {y : List Nat} (hy : y.length = 32) (hb : ∀ z ∈ y, z < 256) : splice (xsL x) (8 + i * 32) (v8 y) = xsL { x with ys := splice x.ys (32 * i) y } ∧ Xs.Ok { x with ys := splice x.ys (32 * i) y } := by
  refine ⟨?_, h.kl, by rw [length_splice _ _ _ (by rw [h.yl, hy]; omega)]; exact h.yl, fun z hz => ?_⟩
  · unfold xsL splice
    rw [List.take_append, List.take_of_length_le (by rw [List.length_map, h.kl]; omega), List.length_map, h.kl, List.drop_append, List.drop_of_length_le (by rw [List.length_map, h.kl, v8_length, hy]; omega), List.length_map, h.kl, List.nil_append]
    rw [show 8 + i * 32 - 8 = 32 * i by omega, List.take_append_of_le_length (by rw [v8_length, h.yl]; omega), v8_length, hy, show 8 + i * 32 + 32 - 8 = 32 * i + 32 by omega, List.drop_append_of_le_length (by rw [v8_length, h.yl]; omega)]
    simp [v8, List.map_take, List.map_drop, List.append_assoc, hy]
  · unfold splice at hz
    rcases List.mem_append.1 hz with hz | hz
    · exact h.yb z (List.mem_of_mem_take hz)
    · rcases List.mem_append.1 hz with hz | hz
      · exact hb z hz
      · exact h.yb z (List.mem_of_mem_drop hz)
end
structure Sx (w : World) (g : Nat) (x : Xs) : Prop where
  ok : x.Ok
  blk : Blk w g 78 (xsL x).toArray
section
variable {w w' : World} {g : Nat} {x : Xs}
theorem Sx.old (h : Sx w g x) (hb : Below w.heap.size w w') : Sx w' g x := ⟨h.ok, h.blk.next hb rfl⟩
theorem Sx.frm {S : List Nat} (h : Sx w g x) (hf : Frm S w w') (hg : g ∉ S) : Sx w' g x := ⟨h.ok, h.blk.frm hf hg⟩
theorem Sx.cellAt (h : Sx w g x) {i : Nat} {v : Value} (hv : (xsL x)[i]? = some v) : w.cell? ⟨g, i, none⟩ = some v := by
  rw [h.blk.cell i]
  simpa using hv
end
theorem in_any (h : Int) (w : World) : Calls Tryd.prog 87 #[.int .i64 h] w (fun e w' => e = .returned (.bool (inR h)) ∧ w = w') := by
  by_cases h1 : 0 ≤ h
  · by_cases h2 : h < 8
    · rw [inR_t h1 h2]
      go_enter Tryd.func87, Tryd.ntmps87
      go_wp2_with fail
      go_light
      go_ret
      exact ⟨rfl, rfl⟩
    · rw [inR_f (by omega)]
      have e : decide (h < 8) = false := decide_eq_false h2
      go_enter Tryd.func87, Tryd.ntmps87
      go_wp2_with fail
      go_light
      go_ret
      exact ⟨rfl, rfl⟩
  · rw [inR_f (by omega)]
    have e : decide (0 ≤ h) = false := decide_eq_false h1
    go_enter Tryd.func87, Tryd.ntmps87
    go_wp2_with fail
    go_light
    go_ret
    exact ⟨rfl, rfl⟩
def hasE (x : Xs) (h : Int) : Nat := if x.dd then 17 else if inR h = false then 1 else if kx x h = 0 then 3 else 0
/-- A digest and a number. -/
def DigN (w : World) (E : Int) (e : Ending) (w' : World) : Prop := ∃ D : List Nat, e = .returned (.tuple #[.agg (b8 D), .int .i64 E]) ∧ D.length = 32 ∧ (∀ y ∈ D, y < 256) ∧ Below w.heap.size w w'
set_option maxRecDepth 100000 in
set_option maxHeartbeats 1000000 in
theorem has_any (g : Nat) (x : Xs) (h : Int) (w : World) (hS : Sx w g x) : Calls Tryd.prog 88 #[.pointer (some ⟨g, 0, none⟩), .int .i64 h] w (DigN w (hasE x h)) := by
  obtain ⟨W1, hW1⟩ : ∃ W, W = w.alloc (.cells (b8 (List.replicate 32 0)) 23) := ⟨_, rfl⟩
  have HW1 := Lib.hid hW1
  have HB1 := Lib.hid (show Below w.heap.size w W1 by rw [hW1]; exact (Below.refl _ w).alloc (Nat.le_refl _) _)
  have HR1 := Lib.hid (show Blk W1 w.heap.size 23 (b8 (List.replicate 32 0)) by rw [hW1]; exact Blk.new _ _ _)
  have HS1 := Lib.hid (hS.old HB1.out)
  have HSD := Lib.hid (show (Tryd.prog.info? 23).map (·.size) = some (b8 (List.replicate 32 0)).size by rw [b8_size]; exact dig_info)
  have hcd := HS1.out.cellAt HS1.out.ok.deadAt
  have HZ := Lib.hid (show ∀ y ∈ List.replicate 32 0, y < 256 from fun y hy => by rw [(List.mem_replicate.1 hy).2]; decide)
  clear hW1 hS
  by_cases h1 : x.dd = true
  · rw [hasE, if_pos h1]
    rw [h1] at hcd
    clear h1
    go_enter Tryd.func88, Tryd.ntmps88
    go_upto_region 1 with fail
    change Code.wp _ _ _ _ (w.alloc (.cells (b8 (List.replicate 32 0)) 23))
    rw [← HW1.out]
    go_wp2_with (refine wpList_store_row rfl 23 (.tmp 4) _ rfl w.heap.size (b8 (List.replicate 32 0)) rfl rfl 23 (b8 (List.replicate 32 0)) HR1.out HSD.out rfl (b8_one _) ?_)
    have hb := setRow_heap _ _ _ (b8 (List.replicate 32 0)) _ _ HR1.out
    have hB := below_setRow HB1.out (Nat.le_refl _) (b8 (List.replicate 32 0))
    go_light
    exact bodyPost_ret (v := .tuple #[.agg (b8 (List.replicate 32 0)), .int .i64 17]) (dig_end Tryd.results88 w.heap.size 17 (List.replicate 32 0) rfl rfl hb (by rw [List.length_replicate])) rfl ⟨_, rfl, by rw [List.length_replicate], HZ.out, hB⟩
  · rw [Bool.not_eq_true] at h1
    rw [hasE, if_neg (by rw [h1]; decide)]
    rw [h1] at hcd
    clear h1
    by_cases h2 : inR h = false
    · rw [if_pos h2]
      have HI := Lib.hid h2
      clear h2
      go_enter Tryd.func88, Tryd.ntmps88
      go_upto_region 1 with fail
      change Code.wp _ _ _ _ (w.alloc (.cells (b8 (List.replicate 32 0)) 23))
      rw [← HW1.out]
      go_wp2_with fail
      (with_reducible refine (in_any h W1).mono ?_); rintro e w2 ⟨rfl, rfl⟩
      rw [HI.out]
      go_wp2_with (refine wpList_store_row rfl 23 (.tmp 4) _ rfl w.heap.size (b8 (List.replicate 32 0)) rfl rfl 23 (b8 (List.replicate 32 0)) HR1.out HSD.out rfl (b8_one _) ?_)
      have hb := setRow_heap _ _ _ (b8 (List.replicate 32 0)) _ _ HR1.out
      have hB := below_setRow HB1.out (Nat.le_refl _) (b8 (List.replicate 32 0))
      go_light
      exact bodyPost_ret (v := .tuple #[.agg (b8 (List.replicate 32 0)), .int .i64 1]) (dig_end Tryd.results88 w.heap.size 1 (List.replicate 32 0) rfl rfl hb (by rw [List.length_replicate])) rfl ⟨_, rfl, by rw [List.length_replicate], HZ.out, hB⟩
    · rw [if_neg h2]
      rw [Bool.not_eq_false] at h2
      have hin : 0 ≤ h ∧ h < 8 := of_decide_eq_true h2
      obtain ⟨i, rfl⟩ : ∃ i : Nat, h = i := ⟨h.toNat, by omega⟩
      have hi : i < 8 := by omega
      have hck := HS1.out.cellAt (HS1.out.ok.kindAt hi)
      have HI := Lib.hid h2
      by_cases h3 : kx x (i : Int) = 0
      · rw [if_pos h3]
        rw [h3] at hck
        clear h2 h3 hin
        go_enter Tryd.func88, Tryd.ntmps88
        go_upto_region 1 with fail
        change Code.wp _ _ _ _ (w.alloc (.cells (b8 (List.replicate 32 0)) 23))
        rw [← HW1.out]
        go_wp2_with fail
        (with_reducible refine (in_any (i : Int) W1).mono ?_); rintro e w2 ⟨rfl, rfl⟩
        rw [HI.out]
        go_wp2_with (refine wpList_store_row rfl 23 (.tmp 4) _ rfl w.heap.size (b8 (List.replicate 32 0)) rfl rfl 23 (b8 (List.replicate 32 0)) HR1.out HSD.out rfl (b8_one _) ?_)
        have hb := setRow_heap _ _ _ (b8 (List.replicate 32 0)) _ _ HR1.out
        have hB := below_setRow HB1.out (Nat.le_refl _) (b8 (List.replicate 32 0))
        go_light
        exact bodyPost_ret (v := .tuple #[.agg (b8 (List.replicate 32 0)), .int .i64 3]) (dig_end Tryd.results88 w.heap.size 3 (List.replicate 32 0) rfl rfl hb (by rw [List.length_replicate])) rfl ⟨_, rfl, by rw [List.length_replicate], HZ.out, hB⟩
      · rw [if_neg h3]
        have hne : ¬ kx x (i : Int) = 0 := h3
        have hne2 : (kx x (i : Int) == 0) = false := by rw [beq_eq_false_iff_ne]; exact h3
        obtain ⟨hyl, hyb⟩ := HS1.out.ok.yx hi
        have HRG := Lib.hid (show W1.rangeAt g (8 + i * 32) (b8 (yx x i)).toList from fun j v hv => HS1.out.cellAt (HS1.out.ok.keyAt hi j v (by simpa [b8, v8] using hv)))
        obtain ⟨D, hD⟩ : ∃ D, yx x i = D := ⟨_, rfl⟩
        rw [hD] at hyl hyb HRG
        have HYL := Lib.hid (And.intro hyl hyb)
        have HSY := Lib.hid (show (Tryd.prog.info? 23).map (·.size) = some (b8 D).size by rw [b8_size, hyl]; exact dig_info)
        have HZY := Lib.hid (show (b8 (List.replicate 32 0)).size = (b8 D).size by rw [b8_size, b8_size, hyl]; rfl)
        clear h2 h3 hin hyl hyb hD
        go_enter Tryd.func88, Tryd.ntmps88
        go_upto_region 1 with fail
        change Code.wp _ _ _ _ (w.alloc (.cells (b8 (List.replicate 32 0)) 23))
        rw [← HW1.out]
        go_wp2_with fail
        (with_reducible refine (in_any (i : Int) W1).mono ?_); rintro e w2 ⟨rfl, rfl⟩
        rw [HI.out]
        go_wp2_with (first | refine wpList_load_arr rfl 23 _ rfl g (8 + i * 32) rfl (b8 D) _ HRG.out Tryd.underlying23 rfl HSY.out ?_ | refine wpList_store_row rfl 23 (.tmp 4) _ rfl w.heap.size (b8 D) rfl rfl 23 (b8 (List.replicate 32 0)) HR1.out HSY.out HZY.out (b8_one _) ?_)
        have hb := setRow_heap _ _ _ (b8 D) _ _ HR1.out
        have hB := below_setRow HB1.out (Nat.le_refl _) (b8 D)
        go_light
        exact bodyPost_ret (v := .tuple #[.agg (b8 D), .int .i64 0]) (dig_end Tryd.results88 w.heap.size 0 D rfl rfl hb HYL.out.1) rfl ⟨_, rfl, HYL.out.1, HYL.out.2, hB⟩
end Slot
end Go.Proofs.YtpakdcgcgekcfaaDoor

/-
  SlotHides: the reference's Do: locking, killing, laying.
-/
set_option linter.unusedSimpArgs false
set_option linter.unusedVariables false
namespace Go.Proofs.YtpakdcgcgekcfaaDoor
open Go.RowKit

namespace Slot
open Otp R1 Sha Aes
def z32 : List Nat := List.replicate 32 0
theorem z32_ok : z32.length = 32 ∧ ∀ y ∈ z32, y < 256 := ⟨by rw [z32, List.length_replicate], fun y hy => by rw [(List.mem_replicate.1 hy).2]; decide⟩
theorem mod7 (d m : Nat) (h : d % 7 = m) : (d : Int).tmod 7 = (m : Int) ∧ (d : Int) % 7 = (m : Int) := ⟨by rw [Int.tmod_eq_emod_of_nonneg (by omega)]; omega, by omega⟩
/-- The cells of an act, in a block. -/
structure Acb (w : World) (b : Nat) (a : Ac) : Prop where
  d : w.cell? ⟨b, 0, none⟩ = some (.int .u8 (a.d : Int))
  h : w.cell? ⟨b, 1, none⟩ = some (.int .i64 a.h)
  t : w.cell? ⟨b, 2, none⟩ = some (.int .i64 a.t)
  k : w.cell? ⟨b, 3, none⟩ = some (.int .i64 a.k)
  lb : w.cell? ⟨b, 36, none⟩ = some (.string a.lb)
  p : w.cell? ⟨b, 37, none⟩ = some (.slice a.A a.n a.c)
  key : w.rangeAt b 4 (b8 a.key).toList
theorem acb_of {w : World} {b : Nat} {a : Ac} (h : Blk w b 81 (acL a).toArray) (hk : a.key.length = 32) : Acb w b a :=
  ⟨by rw [h.cell 0]; rfl, by rw [h.cell 1]; rfl, by rw [h.cell 2]; rfl, by rw [h.cell 3]; rfl, by rw [h.cell 36]; simpa using acL_lb hk, by rw [h.cell 37]; simpa using acL_p hk, fun j v hv => by rw [h.cell]; simpa using acL_key hk j v (by simpa [b8, v8] using hv)⟩
/-- What Do hands back: a sum, a number, the slots behind it. -/
def DoOut (w : World) (g : Nat) (E : Int) (ks : List Int) (lk dd : Bool) (e : Ending) (w' : World) : Prop := ∃ (D ys : List Nat), e = .returned (.tuple #[.agg (b8 D), .int .i64 E]) ∧ D.length = 32 ∧ Sx w' g ⟨ks, ys, lk, dd⟩ ∧ Frm [g] w w'
theorem xs_lock {x : Xs} (h : x.Ok) (b : Bool) : (xsL x).set 264 (.bool b) = xsL { x with lk := b } := by
  unfold xsL
  rw [List.set_append_right _ _ (by rw [List.length_map, h.kl]; decide), List.length_map, h.kl, List.set_append_right _ _ (by rw [v8_length, h.yl]; decide), v8_length, h.yl]
  rfl
theorem xs_dead {x : Xs} (h : x.Ok) (b : Bool) : (xsL x).set 265 (.bool b) = xsL { x with dd := b } := by
  unfold xsL
  rw [List.set_append_right _ _ (by rw [List.length_map, h.kl]; decide), List.length_map, h.kl, List.set_append_right _ _ (by rw [v8_length, h.yl]; decide), v8_length, h.yl]
  rfl
theorem Xs.Ok.flags {x : Xs} (h : x.Ok) (a b : Bool) : Xs.Ok { x with lk := a, dd := b } := ⟨h.kl, h.yl, h.yb⟩
/-- Do under way: the act's box, room for the sum. -/
structure Dw (W : World) (g : Nat) (x : Xs) (a : Ac) (R : List Nat) (w : World) : Prop where
  act : Blk w W.heap.size 81 (acL a).toArray
  res : Blk w (W.heap.size + 1) 23 (b8 R)
  sx : Sx w g x
  frm : Frm [g] W w
  lt : g < W.heap.size
section
variable {W w w' : World} {g : Nat} {x : Xs} {a : Ac} {R : List Nat}
theorem Dw.old (h : Dw W g x a R w) (hb : Below w.heap.size w w') : Dw W g x a R w' := ⟨h.act.next hb rfl, h.res.next hb rfl, h.sx.old hb, h.frm.trans' (Frm.of_below (S := []) hb) (fun _ hx => by simp at hx), h.lt⟩
theorem Dw.start (hS : Sx W g x) : Dw W g x a z32 ((W.alloc (.cells (acL a).toArray 81)).alloc (.cells (b8 z32) 23)) := by
  have hb : Below W.heap.size W ((W.alloc (.cells (acL a).toArray 81)).alloc (.cells (b8 z32) 23)) := ((Below.refl _ W).alloc (Nat.le_refl _) _).alloc (by simp) _
  exact ⟨(Blk.new _ _ _).alloc _, blk_new' (by simp), hS.old hb, Frm.of_below hb, hS.blk.lt⟩
theorem Dw.put (h : Dw W g x a R w) {D : List Nat} (hf : Frm [W.heap.size + 1] w w') (hk : Blk w' (W.heap.size + 1) 23 (b8 D)) : Dw W g x a D w' := by
  have := h.lt
  exact ⟨h.act.frm hf (by simp), hk, h.sx.frm hf (by simp; omega), h.frm.trans' hf (fun x hx hl => by simp at hx; omega), h.lt⟩
theorem Dw.set (h : Dw W g x a R w) {x' : Xs} (hf : Frm [g] w w') (hk : Sx w' g x') : Dw W g x' a R w' := by
  have := h.lt
  exact ⟨h.act.frm hf (by simp; omega), h.res.frm hf (by simp; omega), hk, h.frm.trans' hf (fun x hx _ => hx), h.lt⟩
end
theorem do_end {W w : World} {g : Nat} {x : Xs} {a : Ac} {D : List Nat} {tmps : Array Value} (E : Int) (h : Dw W g x a D w) (hl : D.length = 32) (h1 : tmps.getD 4 undef = .pointer (some ⟨W.heap.size + 1, 0, none⟩)) (h2 : tmps.getD 5 undef = .int .i64 E) :
    bodyPost Tryd.prog Tryd.f45 (DoOut W g E x.ks x.lk x.dd) .ret ⟨tmps, []⟩ w :=
  bodyPost_ret (v := .tuple #[.agg (b8 D), .int .i64 E]) (dig_end Tryd.results45 (W.heap.size + 1) E D h1 h2 h.res hl) rfl ⟨D, x.ys, rfl, hl, h.sx, h.frm⟩
theorem z32_info : (Tryd.prog.info? 23).map (·.size) = some (b8 z32).size := by rw [b8_size, z32_ok.1]; exact dig_info
set_option maxRecDepth 100000 in
set_option maxHeartbeats 1000000 in
theorem do_lock (g : Nat) (x : Xs) (a : Ac) (w : World) (hS : Sx w g x) (hk : a.key.length = 32) (hm : a.d % 7 = 5) :
    Calls Tryd.prog 45 #[.pointer (some ⟨g, 0, none⟩), .agg (acL a).toArray] w (DoOut w g 0 x.ks true x.dd) := by
  obtain ⟨AL, hAL⟩ : ∃ y, (acL a).toArray = y := ⟨_, rfl⟩
  obtain ⟨W1, hW1⟩ : ∃ W, W = (w.alloc (.cells AL 81)).alloc (.cells (b8 z32) 23) := ⟨_, rfl⟩
  have HW1 := wall hW1
  have HD := wall (show Dw w g x a z32 W1 by rw [hW1, ← hAL]; exact Dw.start hS)
  have HZI := wall z32_info
  have hcd := (acb_of HD.out.act hk).d
  obtain ⟨e1, e2⟩ := mod7 a.d 5 hm
  have hlk := HD.out.sx.cellAt HD.out.sx.ok.lockAt
  have hfk := HD.out.sx.blk.frozen 264
  have hgl := HD.out.sx.blk.lt
  rw [hAL]
  clear hW1 hAL hS hk hm
  go_enter Tryd.func45, Tryd.ntmps45
  go_upto_region 1 with fail
  change Code.wp _ _ _ _ ((w.alloc (.cells AL 81)).alloc (.cells (b8 z32) 23))
  rw [← HW1.out]
  go_upto_region 31 with fail
  have HD2 := wall (show Dw w g { x with lk := true } a z32 (W1.setCell ⟨g, 264, none⟩ (.bool true)) from
    HD.out.set ((Frm.refl _ _).setCell (p := ⟨g, 264, none⟩) (.inl (by simp)) _) ⟨HD.out.sx.ok.flags _ _, by
      have := HD.out.sx.blk.set 264 (.bool true)
      simp only [List.setIfInBounds_toArray] at this
      rw [xs_lock HD.out.sx.ok] at this
      exact this⟩)
  generalize W1.setCell ⟨g, 264, none⟩ (.bool true) = W2 at *
  clear HD hcd e1 e2 hlk hfk HW1
  go_wp2_with (refine wpList_set_row rfl 23 (.tmp 4) (.tmp 133) rfl (w.heap.size + 1) (b8 z32) rfl rfl 23 (b8 z32) HD2.out.res HZI.out rfl (b8_one _) ?_; intro w3 K3 F3)
  have HD3 := wall (HD2.out.put F3 K3)
  clear K3 F3 HD2
  go_light
  exact do_end 0 HD3.out z32_ok.1 rfl rfl
def z8 : List Int := List.replicate 8 0
theorem xs_kinds {x : Xs} (h : x.Ok) : splice (xsL x) 0 (z8.map (Value.int .i64)) = xsL { x with ks := z8 } ∧ Xs.Ok { x with ks := z8 } := by
  refine ⟨?_, rfl, h.yl, h.yb⟩
  have hz : (z8.map (Value.int .i64)).length = 8 := rfl
  unfold splice xsL
  rw [List.take_zero, List.nil_append, hz, List.drop_append, List.drop_of_length_le (by rw [List.length_map, h.kl]; decide), List.nil_append, List.length_map, h.kl, show 0 + 8 - 8 = 0 from rfl, List.drop_zero]
set_option maxRecDepth 100000 in
set_option maxHeartbeats 1000000 in
theorem do_kill (g : Nat) (x : Xs) (a : Ac) (w : World) (hS : Sx w g x) (hk : a.key.length = 32) (hm : a.d % 7 = 6) :
    Calls Tryd.prog 45 #[.pointer (some ⟨g, 0, none⟩), .agg (acL a).toArray] w (DoOut w g 0 z8 x.lk true) := by
  obtain ⟨AL, hAL⟩ : ∃ y, (acL a).toArray = y := ⟨_, rfl⟩
  obtain ⟨W1, hW1⟩ : ∃ W, W = (w.alloc (.cells AL 81)).alloc (.cells (b8 z32) 23) := ⟨_, rfl⟩
  have HW1 := wall hW1
  have HD := wall (show Dw w g x a z32 W1 by rw [hW1, ← hAL]; exact Dw.start hS)
  have HZI := wall z32_info
  have hcd := (acb_of HD.out.act hk).d
  obtain ⟨e1, e2⟩ := mod7 a.d 6 hm
  have hlk := HD.out.sx.cellAt HD.out.sx.ok.deadAt
  have hfk := HD.out.sx.blk.frozen 265
  have hgl := HD.out.sx.blk.lt
  have HKI := wall (show (Tryd.prog.info? 75).map (·.size) = some (z8.map (Value.int .i64)).toArray.size by kernel_rfl)
  have HKO := wall (all_oneCell_toArray (cs := z8.map (Value.int .i64)) (fun v hv => by
    obtain ⟨_, _, rfl⟩ := List.mem_map.1 hv
    rfl))
  rw [hAL]
  clear hW1 hAL hS hk hm
  go_enter Tryd.func45, Tryd.ntmps45
  go_upto_region 1 with fail
  change Code.wp _ _ _ _ ((w.alloc (.cells AL 81)).alloc (.cells (b8 z32) 23))
  rw [← HW1.out]
  go_upto_region 34 with fail
  have HD2 := wall (show Dw w g { x with dd := true } a z32 (W1.setCell ⟨g, 265, none⟩ (.bool true)) from
    HD.out.set ((Frm.refl _ _).setCell (p := ⟨g, 265, none⟩) (.inl (by simp)) _) ⟨HD.out.sx.ok.flags _ _, by
      have := HD.out.sx.blk.set 265 (.bool true)
      simp only [List.setIfInBounds_toArray] at this
      rw [xs_dead HD.out.sx.ok] at this
      exact this⟩)
  generalize W1.setCell ⟨g, 265, none⟩ (.bool true) = W2 at *
  clear HD hcd e1 e2 hlk hfk HW1
  have HFT := wall (show 0 + (z8.map (Value.int .i64)).toArray.size ≤ (xsL { x with dd := true }).length by rw [HD2.out.sx.ok.size]; decide)
  go_upto_region 35 with (refine wpList_store_frm rfl 75 (.tmp 142) (.tmp 140) rfl g 0 (z8.map (Value.int .i64)).toArray rfl rfl 78 (xsL { x with dd := true }) HD2.out.sx.blk HFT.out HKI.out HKO.out ?_; intro w2 K2 F2)
  have HD3 := wall (show Dw w g { x with ks := z8, dd := true } a z32 w2 from HD2.out.set F2 ⟨(xs_kinds HD2.out.sx.ok).2, by
    have := K2
    rw [List.toList_toArray, (xs_kinds HD2.out.sx.ok).1] at this
    exact this⟩)
  clear K2 F2 HD2 HFT
  go_wp2_with (refine wpList_set_row rfl 23 (.tmp 4) (.tmp 143) rfl (w.heap.size + 1) (b8 z32) rfl rfl 23 (b8 z32) HD3.out.res HZI.out rfl (b8_one _) ?_; intro w3 K3 F3)
  have HD4 := wall (HD3.out.put F3 K3)
  clear K3 F3 HD3
  go_light
  exact do_end 0 HD4.out z32_ok.1 rfl rfl
end Slot
end Go.Proofs.YtpakdcgcgekcfaaDoor

/-
  A load of one cell, in a drawn walk.
-/
set_option linter.unusedSimpArgs false
set_option linter.unusedVariables false
namespace Go.Proofs.YtpakdcgcgekcfaaDoor
open Go.RowKit

namespace Rel
theorem exec_load1 {P : Program} {o : Oper} {a : Act} {W : World} (ty : TypeId) (x : Operand) (ho : o.op = .load ty x) (b off : Nat) (hx : a.eval x = .pointer (some ⟨b, off, none⟩)) (v : Value) (hag : ∀ w, (isAgg ty).run P w = .ok false w) (hc : W.cell? ⟨b, off, none⟩ = some v) :
    (execOp a.eval o).run P W = .ok (.value v) W := by
  unfold execOp
  simp only [ho, hx]
  have h1 : (loadVar ty ⟨b, off, none⟩).run P W = .ok v W := by
    unfold loadVar
    rw [Sem.run_bind, hag]
    simp [Result.andThen, hc]
  have h2 : (Instr.loadAt ty (.pointer (some ⟨b, off, none⟩))).run P W = .ok v W := by
    unfold Instr.loadAt
    rw [Sem.run_bind]
    simp only [Instr.sureAddr, Sem.run_pure, Result.andThen]
    exact h1
  rw [Sem.run_bind, h2]
  simp [Result.andThen]
end Rel
end Go.Proofs.YtpakdcgcgekcfaaDoor

/-
  SlotHides: the reference's Do: laying.
-/
set_option linter.unusedSimpArgs false
set_option linter.unusedVariables false
namespace Go.Proofs.YtpakdcgcgekcfaaDoor
open Go.RowKit

namespace Slot
open Otp R1 Sha Aes
theorem lay_keep {W : World} {g b i o n : Nat} {u h k : Value} {KL : List Value} (hne : g ≠ b) (h1 : W.cell? ⟨b, 1, none⟩ = some h) (h2 : W.cell? ⟨b, 3, none⟩ = some k) (h3 : W.rangeAt b 4 KL) (h4 : W.there g o n) :
    (W.setCell ⟨g, i, none⟩ u).drew.cell? ⟨b, 1, none⟩ = some h ∧ (W.setCell ⟨g, i, none⟩ u).drew.cell? ⟨b, 3, none⟩ = some k ∧ (W.setCell ⟨g, i, none⟩ u).drew.rangeAt b 4 KL ∧ (W.setCell ⟨g, i, none⟩ u).drew.there g o n := by
  have hc : ∀ j, (W.setCell ⟨g, i, none⟩ u).drew.cell? ⟨b, j, none⟩ = W.cell? ⟨b, j, none⟩ := fun j => World.cell?_setCell_other _ _ _ _ (fun e => hne (congrArg Addr.block e))
  refine ⟨(hc 1).trans h1, (hc 3).trans h2, fun j v hv => (hc _).trans (h3 j v hv), fun j hj => ?_⟩
  obtain ⟨a1, a2⟩ := h4 j hj
  refine ⟨World.isSome_setCells g [u] i W _ a1, ?_⟩
  have := World.frozen?_setCells g [u] i W ⟨g, o + j, none⟩
  exact this.trans a2
theorem lay_keeps {W : World} {g b o o' n : Nat} {vs : List Value} {h k : Value} {KL : List Value} (hne : g ≠ b) (hq : W.cell? ⟨b, 1, none⟩ = some h ∧ W.cell? ⟨b, 3, none⟩ = some k ∧ W.rangeAt b 4 KL ∧ W.there g o n) :
    (W.setCells g o' vs).cell? ⟨b, 1, none⟩ = some h ∧ (W.setCells g o' vs).cell? ⟨b, 3, none⟩ = some k ∧ (W.setCells g o' vs).rangeAt b 4 KL ∧ (W.setCells g o' vs).there g o n := by
  obtain ⟨h1, h2, h3, h4⟩ := hq
  have hc : ∀ j, (W.setCells g o' vs).cell? ⟨b, j, none⟩ = W.cell? ⟨b, j, none⟩ := fun j => World.cell?_setCells_out g vs o' W ⟨b, j, none⟩ (fun hb _ => absurd hb.symm hne)
  exact ⟨(hc 1).trans h1, (hc 3).trans h2, fun j v hv => (hc _).trans (h3 j v hv), World.there_setCells h4 _ _ _⟩
def layR (x : Xs) (h k : Int) : Nat := if x.dd then 17 else if inR h = false ∨ k < 1 ∨ 3 < k then 1 else if x.lk = true ∧ k = 1 then 12 else if kx x h ≠ 0 then 13 else 0
def layK (x : Xs) (h k : Int) : List Int := if layR x h k = 0 then x.ks.set h.toNat k else x.ks
set_option maxRecDepth 100000 in
set_option maxHeartbeats 4000000 in
theorem do_lay (g : Nat) (x : Xs) (a : Ac) (w : World) (hS : Sx w g x) (hk : a.key.length = 32) (hkb : ∀ y ∈ a.key, y < 256) (hm : a.d % 7 < 2) :
    Calls Tryd.prog 45 #[.pointer (some ⟨g, 0, none⟩), .agg (acL a).toArray] w (DoOut w g (layR x a.h a.k) (layK x a.h a.k) x.lk x.dd) := by
  obtain ⟨AL, hAL⟩ : ∃ y, (acL a).toArray = y := ⟨_, rfl⟩
  obtain ⟨W1, hW1⟩ : ∃ W, W = (w.alloc (.cells AL 81)).alloc (.cells (b8 z32) 23) := ⟨_, rfl⟩
  have HW1 := wall hW1
  have HD := wall (show Dw w g x a z32 W1 by rw [hW1, ← hAL]; exact Dw.start hS)
  have HZI := wall z32_info
  have hac := acb_of HD.out.act hk
  have hcd := hac.d
  have hch := hac.h
  have hck := hac.k
  obtain ⟨m, hmm⟩ : ∃ m, a.d % 7 = m := ⟨_, rfl⟩
  obtain ⟨e1, e2⟩ := mod7 a.d m hmm
  have hm2 : (m : Int) < 2 := by omega
  have n2 : ((m : Int) == 2) = false := by rw [beq_eq_false_iff_ne]; omega
  have n3 : ((m : Int) == 3) = false := by rw [beq_eq_false_iff_ne]; omega
  have n4 : ((m : Int) == 4) = false := by rw [beq_eq_false_iff_ne]; omega
  have n5 : ((m : Int) == 5) = false := by rw [beq_eq_false_iff_ne]; omega
  have n6 : ((m : Int) == 6) = false := by rw [beq_eq_false_iff_ne]; omega
  have hdd := HD.out.sx.cellAt HD.out.sx.ok.deadAt
  have hll := HD.out.sx.cellAt HD.out.sx.ok.lockAt
  have HKL := wall (And.intro hk hkb)
  have hgl := HD.out.sx.blk.lt
  have HGL := wall HD.out.lt
  rw [hAL]
  obtain ⟨d, h, t, k, key, lb, A, n, c⟩ := a
  simp only at hcd hch hck e1 e2 HKL ⊢
  clear hW1 hAL hS hk hm hkb hmm hac
  by_cases h1 : x.dd = true
  · have HE := wall (show layR x h k = 17 by rw [layR, if_pos h1])
    have HL := wall (show layK x h k = x.ks by rw [layK, HE.out]; rfl)
    rw [HE.out, HL.out]
    rw [h1] at hdd
    clear h1 hll HE HL
    go_enter Tryd.func45, Tryd.ntmps45
    go_upto_region 1 with fail
    change Code.wp _ _ _ _ ((w.alloc (.cells AL 81)).alloc (.cells (b8 z32) 23))
    rw [← HW1.out]
    go_wp2_with (refine wpList_set_row rfl 23 (.tmp 4) (.tmp 149) rfl (w.heap.size + 1) (b8 z32) rfl rfl 23 (b8 z32) HD.out.res HZI.out rfl (b8_one _) ?_; intro w3 K3 F3)
    have HD3 := wall (HD.out.put F3 K3)
    clear K3 F3 HD
    go_light
    exact do_end 17 HD3.out z32_ok.1 rfl rfl
  · rw [Bool.not_eq_true] at h1
    have h1' : ¬ x.dd = true := by rw [h1]; decide
    have H1 := wall h1'
    rw [h1] at hdd
    clear h1 h1'
    by_cases h2 : inR h = false
    · have HE := wall (show layR x h k = 1 by rw [layR, if_neg H1.out, if_pos (.inl h2)])
      have HL := wall (show layK x h k = x.ks by rw [layK, HE.out]; rfl)
      rw [HE.out, HL.out]
      have HI := wall h2
      clear h2 hll HE HL
      go_enter Tryd.func45, Tryd.ntmps45
      go_upto_region 1 with fail
      change Code.wp _ _ _ _ ((w.alloc (.cells AL 81)).alloc (.cells (b8 z32) 23))
      rw [← HW1.out]
      go_wp2_with fail
      (with_reducible refine (in_any h W1).mono ?_); rintro e w2 ⟨rfl, rfl⟩
      rw [HI.out]
      go_wp2_with (refine wpList_set_row rfl 23 (.tmp 4) (.tmp 165) rfl (w.heap.size + 1) (b8 z32) rfl rfl 23 (b8 z32) HD.out.res HZI.out rfl (b8_one _) ?_; intro w3 K3 F3)
      have HD3 := wall (HD.out.put F3 K3)
      clear K3 F3 HD
      go_light
      exact do_end 1 HD3.out z32_ok.1 rfl rfl
    · rw [Bool.not_eq_false] at h2
      have HI := wall h2
      have hin : 0 ≤ h ∧ h < 8 := of_decide_eq_true h2
      obtain ⟨i, rfl⟩ : ∃ i : Nat, h = i := ⟨h.toNat, by omega⟩
      have hi : i < 8 := by omega
      have hi8 : (i : Int) < 8 := by omega
      clear h2 hin
      by_cases h3 : k < 1 ∨ 3 < k
      · have HE := wall (show layR x (i : Int) k = 1 by rw [layR, if_neg H1.out, if_pos (.inr h3)])
        have HL := wall (show layK x (i : Int) k = x.ks by rw [layK, HE.out]; rfl)
        rw [HE.out, HL.out]
        clear HE HL hll
        by_cases h4 : k < 1
        all_goals
          (try have hk3 : k > 3 := by omega)
          (try have hk3' : 3 < k := by omega)
          clear h3
          go_enter Tryd.func45, Tryd.ntmps45
          go_upto_region 1 with fail
          change Code.wp _ _ _ _ ((w.alloc (.cells AL 81)).alloc (.cells (b8 z32) 23))
          rw [← HW1.out]
          go_wp2_with fail
          (with_reducible refine (in_any (i : Int) W1).mono ?_); rintro e w2 ⟨rfl, rfl⟩
          rw [HI.out]
          go_wp2_with (refine wpList_set_row rfl 23 (.tmp 4) (.tmp 165) rfl (w.heap.size + 1) (b8 z32) rfl rfl 23 (b8 z32) HD.out.res HZI.out rfl (b8_one _) ?_; intro w3 K3 F3)
          have HD3 := wall (HD.out.put F3 K3)
          clear K3 F3 HD
          go_light
          exact do_end 1 HD3.out z32_ok.1 rfl rfl
      · have hk1 : ¬ k < 1 := by omega
        have hk3 : ¬ 3 < k := by omega
        have hk3' : ¬ k > 3 := by omega
        by_cases h4 : x.lk = true ∧ k = 1
        · obtain ⟨hl, hk⟩ := h4
          have HE := wall (show layR x (i : Int) k = 12 by rw [layR, if_neg H1.out, if_neg (by rw [HI.out]; simp only [Bool.true_eq_false, false_or]; exact h3), if_pos ⟨hl, hk⟩])
          have HL := wall (show layK x (i : Int) k = x.ks by rw [layK, HE.out]; rfl)
          rw [HE.out, HL.out]
          rw [hl] at hll
          subst hk
          clear HE HL hl h3
          go_enter Tryd.func45, Tryd.ntmps45
          go_upto_region 1 with fail
          change Code.wp _ _ _ _ ((w.alloc (.cells AL 81)).alloc (.cells (b8 z32) 23))
          rw [← HW1.out]
          go_wp2_with fail
          (with_reducible refine (in_any (i : Int) W1).mono ?_); rintro e w2 ⟨rfl, rfl⟩
          rw [HI.out]
          go_wp2_with (refine wpList_set_row rfl 23 (.tmp 4) (.tmp 176) rfl (w.heap.size + 1) (b8 z32) rfl rfl 23 (b8 z32) HD.out.res HZI.out rfl (b8_one _) ?_; intro w3 K3 F3)
          have HD3 := wall (HD.out.put F3 K3)
          clear K3 F3 HD
          go_light
          exact do_end 12 HD3.out z32_ok.1 rfl rfl
        · have hb33 : x.lk = false ∨ (x.lk = true ∧ (k == 1) = false) := by
            cases hl : x.lk
            · exact .inl rfl
            · exact .inr ⟨rfl, by rw [beq_eq_false_iff_ne]; exact fun h => h4 ⟨hl, h⟩⟩
          have hkk := HD.out.sx.cellAt (HD.out.sx.ok.kindAt hi)
          have hkf := HD.out.sx.blk.frozen i
          by_cases h5 : kx x (i : Int) = 0
          · have HE := wall (show layR x (i : Int) k = 0 by rw [layR, if_neg H1.out, if_neg (by rw [HI.out]; simp only [Bool.true_eq_false, false_or]; exact h3), if_neg h4, if_neg (by rw [h5]; decide)])
            have HL := wall (show layK x (i : Int) k = x.ks.set i k by rw [layK, HE.out, if_pos rfl, Int.toNat_natCast])
            rw [HE.out, HL.out]
            rw [h5] at hkk
            have H5 := wall h5
            clear HE HL h3 h4 h5
            rcases hb33 with hl | ⟨hl, hkb1⟩
            all_goals
              rw [hl] at hll
              clear hl
              go_enter Tryd.func45, Tryd.ntmps45
              go_upto_region 1 with fail
              change Code.wp _ _ _ _ ((w.alloc (.cells AL 81)).alloc (.cells (b8 z32) 23))
              rw [← HW1.out]
              go_wp2_with fail
              (with_reducible refine (in_any (i : Int) W1).mono ?_); rintro e w2 ⟨rfl, rfl⟩
              rw [HI.out]
              go_upto_region 42 with fail
              refine RelG.wp_region_rel 8 [(181, .const (.pointer (some ⟨g, 0, none⟩)))] (by kernel_rfl) (by kernel_rfl) ?_
              simp only [List.take_succ_cons, List.take_zero, List.drop_succ_cons, List.drop_zero, Act.put, List.setIfInBounds_toArray, List.set_cons_zero, List.set_cons_succ]
              repeat (first | (refine RelG.tree_quiet rfl rfl rfl (fun K hK => ?_); go_big_quiet_op; refine hK _ ?_; clear hK K) | (refine RelG.tree_const rfl (.pointer (some ⟨g, 0, none⟩)) rfl (fun W hW _ => by (unfold RelG.relAt; go_simp; exact ⟨Rel.Grow.refl _, rfl⟩)) ?_; simp only [Act.put, List.setIfInBounds_toArray, List.set_cons_zero, List.set_cons_succ]) | (refine RelG.tree_pure rfl rfl rfl (.int .i64 (i : Int)) (fun W hW _ => Rel.exec_load1 _ _ rfl w.heap.size 1 rfl _ (fun _ => by kernel_rfl) (acb_of (HD.out.old hW.undrew).act HKL.out.1).h) ?_; simp only [Act.put, List.setIfInBounds_toArray, List.set_cons_zero, List.set_cons_succ]) | (refine RelG.tree_pure rfl rfl rfl (.int .i64 0) (fun W hW _ => Rel.exec_load1 _ _ rfl g i rfl _ (fun _ => by kernel_rfl) (H5.out ▸ (HD.out.old hW.undrew).sx.cellAt ((HD.out.old hW.undrew).sx.ok.kindAt hi))) ?_; simp only [Act.put, List.setIfInBounds_toArray, List.set_cons_zero, List.set_cons_succ]))
              intro W hW _
              have HD2 := wall (HD.out.old hW.undrew)
              clear hW HD
              go_wp2_with fail
              have hac2 := acb_of HD2.out.act HKL.out.1
              have hb1 := hac2.h
              have hb3 := hac2.k
              have hb4 := hac2.key
              have hgk := HD2.out.sx.cellAt (HD2.out.sx.ok.kindAt hi)
              have hgf := HD2.out.sx.blk.frozen i
              have hth : W.there g (8 + i * 32) 32 := fun j hj => by
                refine ⟨?_, HD2.out.sx.blk.frozen _⟩
                rw [HD2.out.sx.blk.cell]
                rw [List.getElem?_toArray, List.getElem?_eq_getElem (by rw [HD2.out.sx.ok.size]; omega)]
                rfl
              have hu := Tryd.underlying23
              have hii : (Tryd.prog.info? 23).map (·.size) = some (v8 key).length := by rw [v8_length, HKL.out.1]; kernel_rfl
              have hil : (v8 key).length = 32 := by rw [v8_length, HKL.out.1]
              have hio : ∀ v ∈ v8 key, v.oneCell' = true := fun v hv => by
                obtain ⟨_, _, rfl⟩ := List.mem_map.1 hv
                rfl
              have HGN := HGL.out
              have hgb : g ≠ w.heap.size := by omega
              go_region_held3 (fun w' => w'.cell? ⟨w.heap.size, 1, none⟩ = some (.int .i64 (i : Int)) ∧ w'.cell? ⟨w.heap.size, 3, none⟩ = some (.int .i64 k) ∧ w'.rangeAt w.heap.size 4 (v8 key) ∧ w'.there g (8 + i * 32) 32) (first | (exact lay_keep hgb hb1 hb3 hb4 hth) | (exact lay_keeps hgb (lay_keep hgb hb1 hb3 hb4 hth)) | go_keep_ranges | go_keep) (fail)
              have hk1 := HD2.out.sx.ok.setK hi k
              have hb1' : Blk (W.setCell ⟨g, i, none⟩ (.int .i64 k)) g 78 (xsL { x with ks := x.ks.set i k }).toArray := by
                have := HD2.out.sx.blk.set i (.int .i64 k)
                simp only [List.setIfInBounds_toArray] at this
                rw [hk1.1] at this
                exact this
              have hk2 := hk1.2.setY hi HKL.out.1 HKL.out.2
              have hb2' : Blk ((W.setCell ⟨g, i, none⟩ (.int .i64 k)).drew.setCells g (8 + i * 32) (v8 key)) g 78 (xsL { x with ks := x.ks.set i k, ys := splice x.ys (32 * i) key }).toArray := by
                have := blk_setCells (v8 key) (8 + i * 32) (xsL { x with ks := x.ks.set i k }) _ (Blk.drew hb1') (by rw [hil, hk1.2.size]; omega)
                rw [hk2.1] at this
                exact this
              have HD3 := wall (HD2.out.set (x' := { x with ks := x.ks.set i k, ys := splice x.ys (32 * i) key }) (show Frm [g] W ((W.setCell ⟨g, i, none⟩ (.int .i64 k)).drew.setCells g (8 + i * 32) (v8 key)) from
                frm_setCells (v8 key) (8 + i * 32) W _ _ (((Frm.refl _ W).setCell (p := ⟨g, i, none⟩) (.inl (by simp)) _).drew) (.inl (by simp))) ⟨hk2.2, hb2'⟩)
              generalize (W.setCell ⟨g, i, none⟩ (.int .i64 k)).drew.setCells g (8 + i * 32) (v8 key) = W4 at *
              clear HD2 hk1 hb1' hk2 hb2' hac2 hb1 hb3 hb4 hgk hgf hth hu hii hil hio
              go_wp2_with (refine wpList_set_row rfl 23 (.tmp 4) (.tmp 203) rfl (w.heap.size + 1) (b8 z32) rfl rfl 23 (b8 z32) HD3.out.res HZI.out rfl (b8_one _) ?_; intro w3 K3 F3)
              have HD4 := wall (HD3.out.put F3 K3)
              clear K3 F3 HD3
              go_light
              exact do_end 0 HD4.out z32_ok.1 rfl rfl
          · have HE := wall (show layR x (i : Int) k = 13 by rw [layR, if_neg H1.out, if_neg (by rw [HI.out]; simp only [Bool.true_eq_false, false_or]; exact h3), if_neg h4, if_pos h5])
            have HL := wall (show layK x (i : Int) k = x.ks by rw [layK, HE.out]; rfl)
            rw [HE.out, HL.out]
            have hne : (kx x (i : Int) != 0) = true := by rw [bne_iff_ne]; exact h5
            clear HE HL h3 h4
            rcases hb33 with hl | ⟨hl, hkb1⟩
            all_goals
              rw [hl] at hll
              clear hl
              go_enter Tryd.func45, Tryd.ntmps45
              go_upto_region 1 with fail
              change Code.wp _ _ _ _ ((w.alloc (.cells AL 81)).alloc (.cells (b8 z32) 23))
              rw [← HW1.out]
              go_wp2_with fail
              (with_reducible refine (in_any (i : Int) W1).mono ?_); rintro e w2 ⟨rfl, rfl⟩
              rw [HI.out]
              go_upto_region 42 with fail
              refine RelG.wp_region_rel 8 [(181, .const (.pointer (some ⟨g, 0, none⟩)))] (by kernel_rfl) (by kernel_rfl) ?_
              simp only [List.take_succ_cons, List.take_zero, List.drop_succ_cons, List.drop_zero, Act.put, List.setIfInBounds_toArray, List.set_cons_zero, List.set_cons_succ]
              repeat (first | (refine RelG.tree_quiet rfl rfl rfl (fun K hK => ?_); go_big_quiet_op; refine hK _ ?_; clear hK K) | (refine RelG.tree_const rfl (.pointer (some ⟨g, 0, none⟩)) rfl (fun W hW _ => by (unfold RelG.relAt; go_simp; exact ⟨Rel.Grow.refl _, rfl⟩)) ?_; simp only [Act.put, List.setIfInBounds_toArray, List.set_cons_zero, List.set_cons_succ]) | (refine RelG.tree_pure rfl rfl rfl (.int .i64 (i : Int)) (fun W hW _ => Rel.exec_load1 _ _ rfl w.heap.size 1 rfl _ (fun _ => by kernel_rfl) (acb_of (HD.out.old hW.undrew).act HKL.out.1).h) ?_; simp only [Act.put, List.setIfInBounds_toArray, List.set_cons_zero, List.set_cons_succ]) | (refine RelG.tree_pure rfl rfl rfl (.int .i64 (kx x (i : Int))) (fun W hW _ => Rel.exec_load1 _ _ rfl g i rfl _ (fun _ => by kernel_rfl) ((HD.out.old hW.undrew).sx.cellAt ((HD.out.old hW.undrew).sx.ok.kindAt hi))) ?_; simp only [Act.put, List.setIfInBounds_toArray, List.set_cons_zero, List.set_cons_succ]))
              intro W hW _
              have HD2 := wall (HD.out.old hW.undrew)
              clear hW HD
              go_wp2_with (refine wpList_set_row rfl 23 (.tmp 4) (.tmp 186) rfl (w.heap.size + 1) (b8 z32) rfl rfl 23 (b8 z32) HD2.out.res HZI.out rfl (b8_one _) ?_; intro w3 K3 F3)
              have HD3 := wall (HD2.out.put F3 K3)
              clear K3 F3 HD2
              go_light
              exact do_end 13 HD3.out z32_ok.1 rfl rfl
end Slot
end Go.Proofs.YtpakdcgcgekcfaaDoor

/-
  The reference's Join (curtilageref01): bytes behind bytes.
-/
set_option linter.unusedSimpArgs false
set_option linter.unusedVariables false
namespace Go.Proofs.YtpakdcgcgekcfaaDoor
open Go.RowKit

namespace R1
/-- A part: where it lies (block, offset), its capacity, its bytes. -/
structure Part where
  g : Nat
  o : Nat
  c : Nat
  l : List Nat
def joinB (ps : List Part) : List Nat := ps.flatMap (·.l)
theorem joinB_le : ∀ (ps : List Part) (n : Nat), (∀ p ∈ ps, p.l.length ≤ n) → (joinB ps).length ≤ n * ps.length
  | [], _, _ => by simp [joinB]
  | p :: ps, n, h => by
    have h1 := joinB_le ps n (fun q hq => h q (by simp [hq]))
    have h2 := h p (by simp)
    simp only [joinB, List.flatMap_cons, List.length_append, List.length_cons, Nat.mul_succ] at h1 ⊢
    omega
theorem joinB_snoc (ps : List Part) (p : Part) : joinB (ps ++ [p]) = joinB ps ++ p.l := by simp [joinB]
set_option maxRecDepth 100000 in
set_option maxHeartbeats 1000000 in
theorem join_any (J jo len cap : Nat) (ps : List Part) (w : World) (hlen : ps.length = len) (hl : len ≤ 8) (hJ : J < w.heap.size)
    (hc : ∀ (i : Nat) (p : Part), ps[i]? = some p → w.cell? ⟨J, jo + i, none⟩ = some (.slice (some ⟨p.g, p.o, none⟩) p.l.length p.c))
    (hn : ∀ p ∈ ps, p.l.length ≤ 64 ∧ Nats .u8 256 w w.heap.size (some ⟨p.g, p.o, none⟩) p.l) :
    Calls Tryd.prog 31 #[.slice (some ⟨J, jo, none⟩) len cap] w (BytesOut w (joinB ps)) := by
  obtain ⟨i0, hi0, hz0, hz1, hz2⟩ := info_row u8_info
  have HI := Lib.hid hi0
  have HI1 := Lib.hid hz0
  have HI2 := Lib.hid hz1
  have HI3 := Lib.hid hz2
  have HN := Lib.hid hn
  have HC := Lib.hid hc
  subst hlen
  clear hi0 hz0 hz1 hz2 hn hc
  go_enter Tryd.func31, Tryd.ntmps31
  go_wp2_with fail
  go_loopg [3, 8] ps.length (fun g s3 s8 wr => ∃ i : Nat, i + g = ps.length ∧ s8 = .int .i64 (i : Int) ∧ OwnB wr w.heap.size s3 (joinB (ps.take i)) ∧ Below w.heap.size w wr)
  case atStart => exact ⟨0, by omega, rfl, World.ownsRow_nil _ _ _ _, Below.refl _ _⟩
  case round =>
    obtain ⟨i, hg, rfl, hO, hB⟩ := hrel
    have HG := Lib.hid hg
    have hig : i ≤ ps.length := by omega
    have HB := Lib.hid hB
    have HO := Lib.hid hO
    have hwl : w.heap.size ≤ wr.heap.size := hB.size
    clear hg hB hO
    by_cases hlt : i < ps.length
    · obtain ⟨p, hx⟩ : ∃ p, ps[i]? = some p := ⟨_, List.getElem?_eq_getElem hlt⟩
      have hcx := (HB.out.cell (p := ⟨J, jo + i, none⟩) hJ).trans (HC.out i p hx)
      obtain ⟨hp64, hpn⟩ := HN.out p (List.mem_of_getElem? hx)
      have hsrc := nats_src (hpn.below HB.out)
      have HS := Lib.hid hsrc
      have HT := Lib.hid (take_snoc hx)
      have hlen : (joinB (ps.take i)).length ≤ 64 * i := by
        have := joinB_le (ps.take i) 64 (fun q hq => (HN.out q (List.mem_of_mem_take hq)).1)
        rw [List.length_take] at this
        omega
      have HL := Lib.hid hlen
      obtain ⟨pg, po, pc, pl⟩ := p
      simp only [] at hcx hp64 HS HT
      have HM := Lib.hid (show (pl.map fun x => Value.int .u8 ((x : Nat) : Int)).length = pl.length by simp)
      clear hx hlen hpn hsrc
      go_wp2_with (at_builtin; refine wpList_append_src rfl (.tmp 12) (.tmp 13) 53 rfl w.heap.size 5 i0 (.int .u8 0) 1 Tryd.underlying53 HI.out HI1.out HI2.out HI3.out rfl _ _ _ rfl HO.out _ _ _ (pl.map fun x => Value.int .u8 ((x : Nat) : Int)) rfl HM.out HS.out (by simp) ?c2 ?c3 ?c4 hwl ?_)
      case c2 =>
        intro u hu
        obtain ⟨a, _, rfl⟩ := List.mem_map.1 hu
        rfl
      case c3 => have := HL.out; simp only [maxLen]; omega
      case c4 => have := HL.out; omega
      intro v2 w2 hO2 hg2 _
      have HB2 := Lib.hid (HB.out.grown hg2 hwl (fun k hk => (World.ownsRow.lt HO.out k hk).1))
      have HO2 := Lib.hid hO2
      clear hO2 hg2
      go_wp2_with fail
      go_light
      go_roundg (ps.length - (i + 1))
      case measure => have := HG.out; omega
      case rel =>
        refine ⟨i + 1, by omega, by go_num, ?_, HB2.out⟩
        have h2 := HO2.out
        unfold OwnB
        rw [HT.out, joinB_snoc, List.length_append, List.map_append]
        exact h2
    · have : i = ps.length := by omega
      subst this
      have HT := Lib.hid (show ps.take ps.length = ps from List.take_length)
      go_wp2_with fail
      go_light
      go_ret
      have hOO := HO.out
      rw [HT.out] at hOO
      exact ⟨_, rfl, hOO, HB.out⟩
end R1
end Go.Proofs.YtpakdcgcgekcfaaDoor

/-
  The reference's Join of any parts, and its Sum by a key (curtilageref01, curtilageref02).
-/
set_option linter.unusedSimpArgs false
set_option linter.unusedVariables false
namespace Go.Proofs.YtpakdcgcgekcfaaDoor
open Go.RowKit

namespace Mac
open Otp R1 Sha
set_option maxRecDepth 100000 in
set_option maxHeartbeats 1000000 in
theorem joinp_any (PA : Option Addr) (pn pc : Nat) (ps : List (List Nat)) (w : World) (hpn : ps.length = pn) (hpm : pn ≤ 1000000) (hP : Parts w w.heap.size PA ps) (hm : ps.flatten.length ≤ 900000) :
    Calls Tryd.prog 31 #[.slice PA pn pc] w (BytesOut w ps.flatten) := by
  subst hpn
  have HP := wall hP
  have HM := wall hm
  clear hP hm
  go_enter Tryd.func31, Tryd.ntmps31
  go_wp2_with fail
  go_loopg [3, 8] ps.length (fun g s3 s8 wr => ∃ i : Nat, i + g = ps.length ∧ s8 = .int .i64 (i : Int) ∧ Wall (OwnB wr w.heap.size s3 (ps.take i).flatten) ∧ Wall (Below w.heap.size w wr))
  case atStart => exact ⟨0, by omega, rfl, wall (World.ownsRow_nil _ _ _ _), wall (Below.refl _ _)⟩
  case round =>
    obtain ⟨i, hg, rfl, HO, HB⟩ := hrel
    have HG := wall hg
    have hig : i ≤ ps.length := by omega
    have hwl : w.heap.size ≤ wr.heap.size := HB.out.size
    clear hg
    by_cases hlt : i < ps.length
    · obtain ⟨p, hp⟩ : ∃ p, ps[i]? = some p := ⟨_, List.getElem?_eq_getElem hlt⟩
      obtain ⟨J, off, v, rfl, hJ, hcv, hBN⟩ := (HP.out.below HB.out) i p hp
      obtain ⟨Ap, cp, rfl, hcp, hnil, hN⟩ := hBN
      have HNP := wall hN
      have HNI := wall hnil
      have HFL := wall (flatten_take_snoc hp)
      have HSZ := wall (mem_flatten_le hp)
      clear hp hnil hN
      go_wp2_with (at_builtin; refine wpList_append_bytes rfl (.tmp 12) (.tmp 13) rfl w.heap.size _ _ rfl HO.out Ap p.length cp p rfl rfl ⟨_, HNP.out⟩ HNI.out (by have := HSZ.out; have := HM.out; omega) hwl ?_)
      intro v2 w2 hO2 hB2
      have HO2 := wall hO2
      have HB2 := wall (HB.out.trans hB2)
      clear hO2 hB2
      go_wp2_with fail
      go_light
      go_roundg (ps.length - (i + 1))
      case measure => have := HG.out; omega
      case rel => exact ⟨i + 1, by omega, by go_num, wall (by rw [HFL.out]; exact HO2.out), HB2⟩
    · have : i = ps.length := by omega
      subst this
      have HT := wall (show ps.take ps.length = ps from List.take_length)
      go_wp2_with fail
      go_light
      go_ret
      have hOO := HO.out
      rw [HT.out] at hOO
      exact ⟨_, rfl, hOO, HB.out⟩
def JoinOut (W : World) (l : List Nat) (e : Ending) (w' : World) : Prop := ∃ A n c, e = .returned (.slice A n c) ∧ l.length = n ∧ n ≤ c ∧ (A = .none → c = 0) ∧ Nats .u8 256 w' w'.heap.size A l ∧ Below W.heap.size W w'
theorem join_out {w W : World} {l : List Nat} {e : Ending} {w' : World} (hb : ∀ x ∈ l, x < 256) (h : BytesOut W l e w') (hw : Below w.heap.size w W) : JoinOut w l e w' := by
  obtain ⟨v, he, hO, hB⟩ := h
  obtain ⟨A, c, rfl, hc, hN, _⟩ := own_nats hO hb
  exact ⟨A, l.length, c, he, rfl, hc, own_nil hO, hN, below_then hw hB (Nat.le_refl _)⟩
theorem join_new2 (W : World) (v1 v2 : Value) (p1 p2 : List Nat) (h1 : BytesN W W.heap.size p1 v1) (h2 : BytesN W W.heap.size p2 v2) (hm : p1.length + p2.length ≤ 900000) :
    Calls Tryd.prog 31 #[.slice (some ⟨W.heap.size, 0, none⟩) 2 2] (W.alloc (.cells #[v1, v2] 53)) (JoinOut W (p1 ++ p2)) := by
  have hP := parts_new (t := 53) W [v1, v2] [p1, p2] rfl (fun i p v hp hv => by
    match i, hp, hv with
    | 0, hp, hv => cases hp; cases hv; exact h1
    | 1, hp, hv => cases hp; cases hv; exact h2)
  have hf : [p1, p2].flatten = p1 ++ p2 := by simp
  have h := joinp_any (some ⟨W.heap.size, 0, none⟩) 2 2 [p1, p2] (W.alloc (.cells #[v1, v2] 53)) rfl (by decide) hP (by rw [hf, List.length_append]; exact hm)
  rw [hf] at h
  exact h.mono fun e w' h => join_out (sub_byte (bytesN_byte h1) (bytesN_byte h2)) h ((Below.refl _ W).alloc (Nat.le_refl _) _)
theorem join_new3 (W : World) (v1 v2 v3 : Value) (p1 p2 p3 : List Nat) (h1 : BytesN W W.heap.size p1 v1) (h2 : BytesN W W.heap.size p2 v2) (h3 : BytesN W W.heap.size p3 v3) (hm : p1.length + p2.length + p3.length ≤ 900000) :
    Calls Tryd.prog 31 #[.slice (some ⟨W.heap.size, 0, none⟩) 3 3] (W.alloc (.cells #[v1, v2, v3] 53)) (JoinOut W (p1 ++ p2 ++ p3)) := by
  have hP := parts_new (t := 53) W [v1, v2, v3] [p1, p2, p3] rfl (fun i p v hp hv => by
    match i, hp, hv with
    | 0, hp, hv => cases hp; cases hv; exact h1
    | 1, hp, hv => cases hp; cases hv; exact h2
    | 2, hp, hv => cases hp; cases hv; exact h3)
  have hf : [p1, p2, p3].flatten = p1 ++ p2 ++ p3 := by simp
  have h := joinp_any (some ⟨W.heap.size, 0, none⟩) 3 3 [p1, p2, p3] (W.alloc (.cells #[v1, v2, v3] 53)) rfl (by decide) hP (by rw [hf, List.length_append, List.length_append]; exact hm)
  rw [hf] at h
  exact h.mono fun e w' h => join_out (sub_byte (sub_byte (bytesN_byte h1) (bytesN_byte h2)) (bytesN_byte h3)) h ((Below.refl _ W).alloc (Nat.le_refl _) _)
theorem bytesN_b8 {w : World} {g n : Nat} {t : TypeId} {l : List Nat} (h : Blk w g t (b8 l)) (hb : ∀ x ∈ l, x < 256) (hn : l.length = n) : BytesN w w.heap.size l (.slice (some ⟨g, 0, .none⟩) n n) :=
  BytesN.of hn (Nat.le_refl _) (fun h => by cases h) (nats_b8 h hb)
theorem set_take_drop {α : Type} {a z : List α} {i : Nat} {y : α} (hi : i < z.length) (ha : a[i]? = some y) : (a.take i ++ z.drop i).set i y = a.take (i + 1) ++ z.drop (i + 1) := by
  have hl : (a.take i).length = i := by rw [List.length_take]; have := (List.getElem?_eq_some_iff.1 ha).1; omega
  rw [take_snoc ha, List.set_append_right _ _ (by omega), hl, Nat.sub_self, List.drop_eq_getElem_cons hi, List.set_cons_zero, List.append_assoc]
  rfl
theorem made8 (k : Nat) : madeCells #[Value.int .u8 0] k = b8 (List.replicate k 0) := by
  apply Array.ext_getElem?
  intro t
  by_cases ht : t < k
  · rw [made_get _ _ _ ht (by decide), b8_at (x := 0) (by simp [ht])]
    simp [Nat.mod_one]
  · rw [Array.getElem?_eq_none (by simp [madeCells]; omega), Array.getElem?_eq_none (by simp [b8]; omega)]
set_option maxRecDepth 100000 in
set_option maxHeartbeats 8000000 in
theorem r2sum_any (k p : List Nat) (A : Option Addr) (len cap : Nat) (PA : Option Addr) (pn pc : Nat) (w : World) (hl : k.length = len) (h64 : len ≤ 64) (hz : Nats .u8 256 w w.heap.size A k) (hp : BytesN w w.heap.size p (.slice PA pn pc)) (hpm : p.length ≤ 700000) :
    Calls Tryd.prog 40 #[.slice A len cap, .slice PA pn pc] w (DigOut w (macB k p)) := by
  obtain ⟨i0, hi0, hz0, hz1, hz2⟩ := info_row u8_info
  have hmk := fun W => run_make_rowN (P := Tryd.prog) 53 5 i0 _ Tryd.underlying53 hi0 hz0 .i64 .i64 64 64 (Nat.le_refl _) (by rw [hz2]; omega) (by omega) W
  have e64 : ((64 : Nat) : Int) = 64 := rfl
  have emk := made8 64
  rw [hz1] at hmk
  simp only [Nat.mul_one, e64] at hmk
  rw [show (Value.int IntKind.u8 0).cells = #[Value.int .u8 0] from rfl, emk] at hmk
  obtain ⟨zz, hzz⟩ : ∃ z, List.replicate 64 0 = z := ⟨_, rfl⟩
  rw [hzz] at hmk
  have HZL := wall (show zz.length = 64 by rw [← hzz, List.length_replicate])
  have hni : ¬ ((len : Int) > 64) := by omega
  have HN := wall hz
  have HP := wall hp
  clear hi0 hz0 hz1 hz2 e64 emk hz hp hzz
  go_enter Tryd.func40, Tryd.ntmps40
  obtain ⟨W1, hW1⟩ : ∃ W, W = w.alloc (.cells (b8 (List.replicate 32 0)) 23) := ⟨_, rfl⟩
  have K0 := wall (show Blk W1 w.heap.size 23 (b8 (List.replicate 32 0)) by rw [hW1]; exact Blk.new _ _ _)
  have HB := wall (show Below w.heap.size w W1 by rw [hW1]; exact (Below.refl _ w).alloc (Nat.le_refl _) _)
  have HW1 := wall hW1
  clear hW1
  go_upto_region 1 with fail
  change Code.wp _ _ _ _ (w.alloc (.cells (b8 (List.replicate 32 0)) 23))
  rw [← HW1.out]
  clear HW1
  go_upto_region 4 with fail
  have hw1 : w.heap.size < W1.heap.size := K0.out.lt
  go_cut [6, 7] (fun s6 s7 w' => ∃ g6 g7 : Nat, s6 = .slice (some ⟨g6, 0, none⟩) 64 64 ∧ s7 = .slice (some ⟨g7, 0, none⟩) 64 64 ∧ g6 ≠ g7 ∧ w.heap.size < g6 ∧ w.heap.size < g7 ∧ Wall (Blk w' g6 5 (b8 zz)) ∧ Wall (Blk w' g7 5 (b8 zz)) ∧ Wall (Below W1.heap.size W1 w'))
  case first =>
    have e1 := wall (show Blk (((W1.alloc (.cells (b8 zz) 5)).alloc (.cells (b8 zz) 5)).drew) W1.heap.size 5 (b8 zz) from ((Blk.new _ _ _).alloc _).drew)
    have e2 := wall (show Blk (((W1.alloc (.cells (b8 zz) 5)).alloc (.cells (b8 zz) 5)).drew) (W1.heap.size + 1) 5 (b8 zz) from Blk.drew (blk_new' (by simp)))
    have e3 := wall (show Below W1.heap.size W1 (((W1.alloc (.cells (b8 zz) 5)).alloc (.cells (b8 zz) 5)).drew) from (((Below.refl _ W1).alloc (Nat.le_refl _) _).alloc (by simp) _).drew)
    go_region
    all_goals go_wp2_with fail
    all_goals go_meet
    all_goals first | exact ⟨_, _, rfl, rfl, by omega, by omega, by omega, e1, e2, e3⟩ | exact ⟨_, _, rfl, rfl, by omega, by omega, by omega, e2, e1, e3⟩
  case rest =>
    obtain ⟨g6, g7, rfl, rfl, hne, hg6, hg7, K6, K7, HB1⟩ := hcut
    have KR := wall (K0.out.next HB1.out rfl)
    have HB2 := wall (below_then HB.out HB1.out (Nat.le_refl _))
    clear hmk HB1 K0 HB
    obtain ⟨w2, rfl⟩ : ∃ wo : World, wo = wc := ⟨_, rfl⟩
    obtain ⟨kb, hkb⟩ : ∃ x, keyB k = x := ⟨_, rfl⟩
    obtain ⟨ip, hip⟩ : ∃ x, ipad k = x := ⟨_, rfl⟩
    obtain ⟨op, hop⟩ : ∃ x, opad k = x := ⟨_, rfl⟩
    have HIL := wall (show ip.length = 64 by rw [← hip]; exact ipad_length k)
    have HOL := wall (show op.length = 64 by rw [← hop]; exact opad_length k)
    have hkB : ∀ x ∈ k, x < 256 := fun x hx => by
      obtain ⟨i, hi⟩ := List.mem_iff_getElem?.1 hx
      exact (HN.out i x hi).1
    have HIB := wall (show ∀ x ∈ ip, x < 256 by rw [← hip]; exact turn_byte (by decide) (keyB_byte hkB))
    have HOB := wall (show ∀ x ∈ op, x < 256 by rw [← hop]; exact turn_byte (by decide) (keyB_byte hkB))
    have HKB := wall (show kb = k ++ List.replicate (64 - len) 0 by rw [← hkb, keyB, if_neg (by omega), hl])
    have HIA := wall (show ∀ i x, kb[i]? = some x → ip[i]? = some (x ^^^ 54) from fun i x h => by rw [← hip, ipad, hkb, List.getElem?_map, h]; rfl)
    have HOA := wall (show ∀ i x, kb[i]? = some x → op[i]? = some (x ^^^ 92) from fun i x h => by rw [← hop, opad, hkb, List.getElem?_map, h]; rfl)
    have HHI := wall hip
    have HHO := wall hop
    have HL := wall hl
    clear hkb hip hop hkB hl
    have K6' := wall (show Blk w2 g6 5 (b8 (ip.take 0 ++ zz.drop 0)) by simpa using K6.out)
    have K7' := wall (show Blk w2 g7 5 (b8 (op.take 0 ++ zz.drop 0)) by simpa using K7.out)
    clear K6 K7
    go_wp2_with fail
    go_loopg [21] 64 (fun gm s21 wr => ∃ i : Nat, i + gm = 64 ∧ s21 = .int .i64 (i : Int) ∧ Wall (Blk wr w.heap.size 23 (b8 (List.replicate 32 0))) ∧ Wall (Blk wr g6 5 (b8 (ip.take i ++ zz.drop i))) ∧ Wall (Blk wr g7 5 (b8 (op.take i ++ zz.drop i))) ∧ Wall (Below w.heap.size w wr))
    case atStart => exact ⟨0, by omega, rfl, KR, K6', K7', HB2⟩
    case round =>
      clear KR K6' K7' HB2
      obtain ⟨i, hg, rfl, KR, K6, K7, HB⟩ := hrel
      have HG := wall hg
      have hi : i ≤ 64 := by omega
      clear hg
      by_cases hlt : i < 64
      · have htl : (ip.take i).length = i := by rw [List.length_take, HIL.out]; omega
        have htl2 : (op.take i).length = i := by rw [List.length_take, HOL.out]; omega
        have hfr6 : wr.frozen? ⟨g6, i, none⟩ = false := K6.out.frozen _
        have hfr7 : wr.frozen? ⟨g7, i, none⟩ = false := K7.out.frozen _
        obtain ⟨old6, hold6⟩ : ∃ v, wr.cell? ⟨g6, i, none⟩ = some v := by
          rw [K6.out.cell]
          refine ⟨_, Array.getElem?_eq_getElem (i := i) ?_⟩
          rw [b8_size, List.length_append, List.length_drop, htl, HZL.out]
          omega
        obtain ⟨old7, hold7⟩ : ∃ v, wr.cell? ⟨g7, i, none⟩ = some v := by
          rw [K7.out.cell]
          refine ⟨_, Array.getElem?_eq_getElem (i := i) ?_⟩
          rw [b8_size, List.length_append, List.length_drop, htl2, HZL.out]
          omega
        have hs6 := K6.out.lt
        have hs7 := K7.out.lt
        by_cases hil : i < len
        · obtain ⟨x, hx⟩ : ∃ x, k[i]? = some x := ⟨_, List.getElem?_eq_getElem (by have := HL.out; omega)⟩
          obtain ⟨hxM, bb, oo, hAe, hbb, hcx⟩ := (HN.out.below HB.out) i x hx
          have hkx : kb[i]? = some x := by rw [HKB.out, List.getElem?_append_left (by have := HL.out; omega)]; exact hx
          obtain ⟨y6, hy6⟩ : ∃ y, x ^^^ 54 = y := ⟨_, rfl⟩
          obtain ⟨y7, hy7⟩ : ∃ y, x ^^^ 92 = y := ⟨_, rfl⟩
          have b6 : bits .xor .u8 (x : Int) 54 = (y6 : Int) := by rw [← hy6]; exact u8_xor_nat x 54 hxM (by decide)
          have b7 : bits .xor .u8 (x : Int) 92 = (y7 : Int) := by rw [← hy7]; exact u8_xor_nat x 92 hxM (by decide)
          have HS6 := wall (set_take_drop (z := zz) (by rw [HZL.out]; exact hlt) (show ip[i]? = some y6 by rw [← hy6]; exact HIA.out i x hkx))
          have HS7 := wall (set_take_drop (z := zz) (by rw [HZL.out]; exact hlt) (show op[i]? = some y7 by rw [← hy7]; exact HOA.out i x hkx))
          subst hAe
          clear hx hkx hy6 hy7 htl htl2
          go_wp2_with fail
          go_light
          go_roundg (64 - (i + 1))
          case measure => have := HG.out; omega
          case rel =>
            refine ⟨i + 1, by have := HG.out; omega, by go_num, wall ?_, wall ?_, wall ?_, wall ?_⟩
            · exact ((KR.out.far' _ _ (by omega) _).far' _ _ (by omega) _)
            · have := (K6.out.set i (.int .u8 (y6 : Int))).far' g7 i (by omega) (.int .u8 (y7 : Int))
              rw [b8_set, HS6.out] at this
              exact this
            · have := (K7.out.far' g6 i (by omega) (.int .u8 (y6 : Int))).set i (.int .u8 (y7 : Int))
              rw [b8_set, HS7.out] at this
              exact this
            · exact (HB.out.setCell (p := ⟨g6, i, none⟩) (by show w.heap.size ≤ g6; omega) _).setCell (p := ⟨g7, i, none⟩) (by show w.heap.size ≤ g7; omega) _
        · have hkx : kb[i]? = some 0 := by
            rw [HKB.out, List.getElem?_append_right (by have := HL.out; omega), HL.out, List.getElem?_replicate, if_pos (by omega)]
          have b6 : bits .xor .u8 0 54 = 54 := by decide
          have b7 : bits .xor .u8 0 92 = 92 := by decide
          have HS6 := wall (set_take_drop (z := zz) (by rw [HZL.out]; exact hlt) (show ip[i]? = some 54 from HIA.out i 0 hkx))
          have HS7 := wall (set_take_drop (z := zz) (by rw [HZL.out]; exact hlt) (show op[i]? = some 92 from HOA.out i 0 hkx))
          clear hkx htl htl2
          go_wp2_with fail
          go_light
          go_roundg (64 - (i + 1))
          case measure => have := HG.out; omega
          case rel =>
            refine ⟨i + 1, by have := HG.out; omega, by go_num, wall ?_, wall ?_, wall ?_, wall ?_⟩
            · exact ((KR.out.far' _ _ (by omega) _).far' _ _ (by omega) _)
            · have := (K6.out.set i (.int .u8 ((54 : Nat) : Int))).far' g7 i (by omega) (.int .u8 92)
              rw [b8_set, HS6.out] at this
              exact this
            · have := (K7.out.far' g6 i (by omega) (.int .u8 54)).set i (.int .u8 ((92 : Nat) : Int))
              rw [b8_set, HS7.out] at this
              exact this
            · exact (HB.out.setCell (p := ⟨g6, i, none⟩) (by show w.heap.size ≤ g6; omega) _).setCell (p := ⟨g7, i, none⟩) (by show w.heap.size ≤ g7; omega) _
      · have hi64 : i = 64 := by omega
        have hni' : ¬ ((i : Int) < 64) := by omega
        replace K6 := wall (show Blk wr g6 5 (b8 ip) by
          have := K6.out
          rw [hi64, List.take_of_length_le (by rw [HIL.out]; omega), List.drop_of_length_le (by rw [HZL.out]; omega), List.append_nil] at this
          exact this)
        replace K7 := wall (show Blk wr g7 5 (b8 op) by
          have := K7.out
          rw [hi64, List.take_of_length_le (by rw [HOL.out]; omega), List.drop_of_length_le (by rw [HZL.out]; omega), List.append_nil] at this
          exact this)
        obtain ⟨d, hd⟩ : ∃ x, sumB (ip ++ p) = x := ⟨_, rfl⟩
        obtain ⟨r, hr⟩ : ∃ x, sumB (op ++ d) = x := ⟨_, rfl⟩
        have HRE := wall (show macB k p = r by rw [macB_pads, HHI.out, HHO.out, hd]; exact hr)
        have HDL := wall (show d.length = 32 by rw [← hd]; exact sumB_length _)
        have HDB := wall (show ∀ x ∈ d, x < 256 by rw [← hd]; exact sumB_byte _)
        have HRL := wall (show r.length = 32 by rw [← hr]; exact sumB_length _)
        have HPB := wall (bytesN_byte HP.out)
        have HIPB := wall (sub_byte HIB.out HPB.out)
        have HODB := wall (sub_byte HOB.out HDB.out)
        have HPM := wall hpm
        have HD := wall hd
        have HR := wall hr
        clear hi64 hlt HIA HOA HKB hpm hd hr
        obtain ⟨gO, rfl⟩ : ∃ q : Nat, q = gk := ⟨_, rfl⟩
        obtain ⟨wO, rfl⟩ : ∃ q : World, q = wr := ⟨_, rfl⟩
        have HJ1 := wall (join_new2 wO _ _ ip p (bytesN_b8 K6.out HIB.out HIL.out) ((HP.out.below HB.out).more HB.out.size) (by rw [HIL.out]; have := HPM.out; omega))
        go_wp2_with fail
        (with_reducible refine HJ1.out.mono ?_); rintro e w3 ⟨A3, n3, c3, rfl, hn3, hc3, hnil3, hN3, hB3⟩
        replace hn3 := wall hn3
        have K73 := wall (K7.out.next hB3 rfl)
        have KR3 := wall (KR.out.next hB3 rfl)
        have HB3 := wall (below_then HB.out hB3 (Nat.le_refl _))
        have HS1 := wall (rsum_any A3 n3 c3 (ip ++ p) w3 hn3.out (by rw [← hn3.out, List.length_append, HIL.out]; have := HPM.out; omega) hN3)
        rw [HD.out] at HS1
        clear hB3 hnil3 hN3 K6 K7 KR HB HJ1
        go_wp2_with fail
        (with_reducible refine HS1.out.mono ?_); rintro e w4 ⟨rfl, hB4⟩
        have K74 := wall (K73.out.next hB4 rfl)
        have KR4 := wall (KR3.out.next hB4 rfl)
        have HB4 := wall (below_then HB3.out hB4 (Nat.le_refl _))
        clear hB4 K73 KR3 HB3 HS1
        have HSD := wall (show (Tryd.prog.info? 23).map (·.size) = some (b8 d).size by rw [b8_size, HDL.out]; exact dig_info)
        have HZD := wall (show (b8 (List.replicate 32 0)).size = (b8 d).size by rw [b8_size, b8_size, HDL.out]; rfl)
        go_upto_region 14 with (refine wpList_new_row rfl 23 (.tmp 10) (.tmp 47) rfl w4.heap.size (b8 d) rfl rfl 23 (b8 (List.replicate 32 0)) (Blk.new _ _ _) HSD.out HZD.out (b8_one _) w4.heap.size w4 ((Below.refl _ w4).alloc (Nat.le_refl _) _) (Nat.le_refl _) ?_; intro w5 KD hB5)
        have KD := wall KD.out
        have K75 := wall (K74.out.next hB5 rfl)
        have KR5 := wall (KR4.out.next hB5 rfl)
        have HB5 := wall (below_then HB4.out hB5 (Nat.le_refl _))
        clear hB5 K74 KR4 HB4
        have hsl := run_slice_arr_all (P := Tryd.prog) 23 5 32 Tryd.underlying23 (fun _ => by kernel_rfl) w4.heap.size 0 (by decide)
        have HJ2 := wall (join_new2 w5 _ _ op d (bytesN_b8 K75.out HOB.out HOL.out) (bytesN_b8 KD.out HDB.out HDL.out) (by rw [HOL.out, HDL.out]; decide))
        go_wp2_with fail
        (with_reducible refine HJ2.out.mono ?_); rintro e w6 ⟨A6, n6, c6, rfl, hn6, hc6, hnil6, hN6, hB6⟩
        replace hn6 := wall hn6
        have KR6 := wall (KR5.out.next hB6 rfl)
        have HB6 := wall (below_then HB5.out hB6 (Nat.le_refl _))
        have HS2 := wall (rsum_any A6 n6 c6 (op ++ d) w6 hn6.out (by rw [← hn6.out, List.length_append, HOL.out, HDL.out]; decide) hN6)
        rw [HR.out] at HS2
        clear hB6 hnil6 hN6 K75 KD KR5 HB5 HJ2 hsl
        go_wp2_with fail
        (with_reducible refine HS2.out.mono ?_); rintro e w7 ⟨rfl, hB7⟩
        have KR7 := wall (KR6.out.next hB7 rfl)
        have HB7 := wall (below_then HB6.out hB7 (Nat.le_refl _))
        clear hB7 KR6 HB6 HS2
        have HSR := wall (show (Tryd.prog.info? 23).map (·.size) = some (b8 r).size by rw [b8_size, HRL.out]; exact dig_info)
        have HZR := wall (show (b8 (List.replicate 32 0)).size = (b8 r).size by rw [b8_size, b8_size, HRL.out]; rfl)
        go_wp2_with (refine wpList_store_row rfl 23 (.tmp 4) _ rfl w.heap.size (b8 r) rfl rfl 23 (b8 (List.replicate 32 0)) KR7.out HSR.out HZR.out (b8_one _) ?_)
        have hb := setRow_heap _ _ _ (b8 r) _ _ KR7.out
        have hB := below_setRow HB7.out (Nat.le_refl _) (b8 r)
        go_light
        exact bodyPost_ret (v := .agg (b8 r)) (results_cell_row Tryd.results40 _ _ w.heap.size 23 (b8 r) (0, 0) _ rfl hb Tryd.underlying23 rfl HSR.out) rfl ⟨by rw [HRE.out], hB⟩
end Mac
end Go.Proofs.YtpakdcgcgekcfaaDoor

/-
  The reference's Derive (curtilageref02).
-/
set_option linter.unusedSimpArgs false
set_option linter.unusedVariables false
namespace Go.Proofs.YtpakdcgcgekcfaaDoor
open Go.RowKit

namespace Mac
open Otp R1 Sha
theorem own_join {w W : World} {l : List Nat} {v : Value} (h : OwnB W w.heap.size v l) (hb : ∀ x ∈ l, x < 256) : ∃ A n c, v = .slice A n c ∧ l.length = n ∧ n ≤ c ∧ (A = .none → c = 0) ∧ Nats .u8 256 W W.heap.size A l := by
  obtain ⟨A, c, rfl, hc, hN, _⟩ := own_nats h hb
  exact ⟨A, l.length, c, rfl, rfl, hc, own_nil h, hN⟩
set_option maxRecDepth 100000 in
set_option maxHeartbeats 8000000 in
theorem r2derive_any (k : List Nat) (A : Option Addr) (len cap : Nat) (s : ByteArray) (ps : List (List Nat)) (PA : Option Addr) (pn pc : Nat) (w : World) (hl : k.length = len) (h64 : len ≤ 64) (hz : Nats .u8 256 w w.heap.size A k)
    (hs : s.size ≤ 100000) (hpn : ps.length = pn) (hpm : pn ≤ 1000) (hP : Parts w w.heap.size PA ps) (hm : ps.flatten.length ≤ 100000) :
    Calls Tryd.prog 38 #[.slice A len cap, .string s, .slice PA pn pc] w (DigOut w (deriveB k (sB s) ps)) := by
  subst hpn
  obtain ⟨r, hr⟩ : ∃ x, deriveB k (sB s) ps = x := ⟨_, rfl⟩
  obtain ⟨lb, hlb⟩ : ∃ x, sB s = x := ⟨_, rfl⟩
  obtain ⟨n1, hn1⟩ : ∃ x, numB s.size 4 = x := ⟨_, rfl⟩
  obtain ⟨n2, hn2⟩ : ∃ x, numB ps.length 4 = x := ⟨_, rfl⟩
  obtain ⟨c3, hc3⟩ : ∃ x, n1 ++ lb ++ n2 = x := ⟨_, rfl⟩
  rw [hr]
  have HN1L := wall (show n1.length = 4 by rw [← hn1]; exact numB_length _ _)
  have HN2L := wall (show n2.length = 4 by rw [← hn2]; exact numB_length _ _)
  have HN1B := wall (show ∀ x ∈ n1, x < 256 by rw [← hn1]; exact numB_byte _ _)
  have HN2B := wall (show ∀ x ∈ n2, x < 256 by rw [← hn2]; exact numB_byte _ _)
  have HLL := wall (show lb.length = s.size by rw [← hlb]; exact sB_length s)
  have HLB := wall (show ∀ x ∈ lb, x < 256 by rw [← hlb]; exact sB_byte s)
  have HC3L := wall (show c3.length = 8 + s.size by rw [← hc3, List.length_append, List.length_append, HN1L.out, HLL.out, HN2L.out]; omega)
  have HC3B := wall (show ∀ x ∈ c3, x < 256 by rw [← hc3]; exact sub_byte (sub_byte HN1B.out HLB.out) HN2B.out)
  have HR := wall (show macB k (c3 ++ partsB ps) = r by
    rw [← hr, deriveB, hlb, hn2, ← hc3, show numB lb.length 4 = n1 by rw [HLL.out]; exact hn1])
  have HRL := wall (show r.length = 32 by rw [← hr]; exact deriveB_length _ _ _)
  have HNU1 := wall (fun W => num_any (s.size : Int) 4 s.size 4 W rfl rfl (by omega) (by decide))
  have HNU2 := wall (fun W => num_any (ps.length : Int) 4 ps.length 4 W rfl rfl (by omega) (by decide))
  rw [hn1] at HNU1
  rw [hn2] at HNU2
  have HN := wall hz
  have HP := wall hP
  have HM := wall hm
  have HPB := wall (parts_byte hP)
  have HLBE := wall hlb
  have HC3 := wall hc3
  have HL := wall hl
  clear hz hP hm hr hlb hn1 hn2 hc3 hl
  obtain ⟨W1, hW1⟩ : ∃ W, W = w.alloc (.cells (b8 (List.replicate 32 0)) 23) := ⟨_, rfl⟩
  have K0 := wall (show Blk W1 w.heap.size 23 (b8 (List.replicate 32 0)) by rw [hW1]; exact Blk.new _ _ _)
  have HB := wall (show Below w.heap.size w W1 by rw [hW1]; exact (Below.refl _ w).alloc (Nat.le_refl _) _)
  have HW1 := wall hW1
  clear hW1
  go_enter Tryd.func38, Tryd.ntmps38
  go_upto_region 1 with fail
  change Code.wp _ _ _ _ (w.alloc (.cells (b8 (List.replicate 32 0)) 23))
  rw [← HW1.out]
  clear HW1
  go_wp2_with fail
  (with_reducible refine (HNU1.out _).mono ?_); rintro e w2 ⟨v2, rfl, hO2, hB2⟩
  obtain ⟨A2, m2, cp2, rfl, hm2, hcp2, hni2, hN2⟩ := own_join hO2 HN1B.out
  have HP2 := wall (BytesN.of hm2 hcp2 hni2 hN2)
  have K2 := wall (K0.out.next hB2 rfl)
  have HB2 := wall (below_then HB.out hB2 (Nat.le_refl _))
  clear hO2 hm2 hcp2 hni2 hN2 hB2 K0 HB HNU1
  go_wp2_with (refine wpList_convert_str rfl 9 53 5 (.tmp 14) rfl Tryd.underlying9 Tryd.underlying53 Tryd.underlying5 s rfl ?_; intro v3 w3 hv3 hB3)
  rw [HLBE.out] at hv3
  obtain ⟨A3, m3, cp3, rfl, hv3⟩ := hv3.form
  have HP3 := wall hv3
  have HP23 := wall ((HP2.out.below hB3).more hB3.size)
  have K3 := wall (K2.out.next hB3 rfl)
  have HB3 := wall (below_then HB2.out hB3 (Nat.le_refl _))
  clear hv3 hB3 K2 HB2 HP2
  (with_reducible refine (HNU2.out _).mono ?_); rintro e w4 ⟨v4, rfl, hO4, hB4⟩
  obtain ⟨A4, m4, cp4, rfl, hm4, hcp4, hni4, hN4⟩ := own_join hO4 HN2B.out
  have HP4 := wall (BytesN.of hm4 hcp4 hni4 hN4)
  have HP24 := wall ((HP23.out.below hB4).more hB4.size)
  have HP34 := wall ((HP3.out.below hB4).more hB4.size)
  have K4 := wall (K3.out.next hB4 rfl)
  have HB4 := wall (below_then HB3.out hB4 (Nat.le_refl _))
  clear hO4 hm4 hcp4 hni4 hN4 hB4 K3 HB3 HP3 HP23 HNU2
  have HJ := wall (join_new3 w4 _ _ _ n1 lb n2 HP24.out HP34.out HP4.out (by rw [HN1L.out, HLL.out, HN2L.out]; omega))
  rw [HC3.out] at HJ
  go_wp2_with fail
  (with_reducible refine HJ.out.mono ?_); rintro e w5 ⟨A5, m5, cp5, rfl, hm5, hcp5, hni5, hN5, hB5⟩
  have HP5 := wall (show BytesN w5 w5.heap.size (c3 ++ partsB (ps.take 0)) (.slice A5 m5 cp5) by
    rw [List.take_zero, show partsB [] = [] from rfl, List.append_nil]
    exact BytesN.of hm5 hcp5 hni5 hN5)
  have K5 := wall (K4.out.next hB5 rfl)
  have HB5 := wall (below_then HB4.out hB5 (Nat.le_refl _))
  clear hm5 hcp5 hni5 hN5 hB5 K4 HB4 HP4 HP24 HP34 HJ
  go_wp2_with fail
  go_loopg [7, 24] ps.length (fun gm s7 s24 wr => ∃ (i : Nat) (B : Option Addr) (m c : Nat), i + gm = ps.length ∧ s24 = .int .i64 (i : Int) ∧ s7 = .slice B m c ∧ Wall (BytesN wr wr.heap.size (c3 ++ partsB (ps.take i)) (.slice B m c)) ∧ Wall (Blk wr w.heap.size 23 (b8 (List.replicate 32 0))) ∧ Wall (Below w.heap.size w wr))
  case atStart => exact ⟨0, A5, m5, cp5, by omega, rfl, rfl, HP5, K5, HB5⟩
  case round =>
    clear HP5 K5 HB5
    obtain ⟨i, B, m, c, hg, rfl, rfl, HQ, K, HB⟩ := hrel
    have HG := wall hg
    have hi : i ≤ ps.length := by omega
    clear hg
    by_cases hlt : i < ps.length
    · obtain ⟨p, hp⟩ : ∃ p, ps[i]? = some p := ⟨_, List.getElem?_eq_getElem hlt⟩
      obtain ⟨J, off, v, rfl, hJ, hcv, hBN⟩ := (HP.out.below HB.out) i p hp
      have HBN := wall (hBN.more HB.out.size)
      obtain ⟨Ap, cp, rfl, hcp, hnil, hN⟩ := hBN
      have HFL := wall (partsB_take hp)
      have hsz := mem_flatten_le hp
      have hpl : p.length ≤ 100000 := by have := HM.out; omega
      obtain ⟨cur, hcur⟩ : ∃ c, c3 ++ partsB (ps.take i) = c := ⟨_, rfl⟩
      have HCL := wall (show cur.length ≤ 300000 by
        rw [← hcur, List.length_append, HC3L.out, partsB_length, List.length_take]
        have := HM.out
        omega)
      rw [hcur] at HQ
      obtain ⟨nb, hnb⟩ : ∃ x, numB p.length 4 = x := ⟨_, rfl⟩
      obtain ⟨d2, hd2⟩ : ∃ x, cur ++ nb ++ p = x := ⟨_, rfl⟩
      have HD2 := wall (show c3 ++ partsB (ps.take (i + 1)) = d2 by
        rw [HFL.out, ← hd2, ← hcur, hnb]
        simp only [List.append_assoc])
      have HNB := wall (show ∀ x ∈ nb, x < 256 by rw [← hnb]; exact numB_byte _ _)
      have HNL := wall (show nb.length = 4 by rw [← hnb]; exact numB_length _ _)
      have HNU := wall (fun W => num_any (p.length : Int) 4 p.length 4 W rfl rfl (by omega) (by decide))
      rw [hnb] at HNU
      have HD2E := wall hd2
      clear hp hnil hN hcur hnb hd2 HFL hsz
      go_wp2_with fail
      (with_reducible refine (HNU.out _).mono ?_); rintro e w6 ⟨v6, rfl, hO6, hB6⟩
      obtain ⟨A6, m6, cp6, rfl, hm6, hcp6, hni6, hN6⟩ := own_join hO6 HNB.out
      have HP6 := wall (BytesN.of hm6 hcp6 hni6 hN6)
      have HQ6 := wall ((HQ.out.below hB6).more hB6.size)
      have HBN6 := wall ((HBN.out.below hB6).more hB6.size)
      have K6 := wall (K.out.next hB6 rfl)
      have HB6 := wall (below_then HB.out hB6 (Nat.le_refl _))
      clear hO6 hm6 hcp6 hni6 hN6 hB6 K HB HQ HBN HNU
      have HJ := wall (join_new3 w6 _ _ _ cur nb p HQ6.out HP6.out HBN6.out (by have := HCL.out; rw [HNL.out]; omega))
      rw [HD2E.out] at HJ
      go_wp2_with fail
      (with_reducible refine HJ.out.mono ?_); rintro e w7 ⟨A7, m7, cp7, rfl, hm7, hcp7, hni7, hN7, hB7⟩
      have HP7 := wall (BytesN.of hm7 hcp7 hni7 hN7)
      have K7 := wall (K6.out.next hB7 rfl)
      have HB7 := wall (below_then HB6.out hB7 (Nat.le_refl _))
      clear hm7 hcp7 hni7 hN7 hB7 K6 HB6 HQ6 HP6 HBN6 HJ
      go_wp2_with fail
      go_light
      go_roundg (ps.length - (i + 1))
      case measure => have := HG.out; omega
      case rel => exact ⟨i + 1, A7, m7, cp7, by have := HG.out; omega, by go_num, rfl, wall (by rw [HD2.out]; exact HP7.out), K7, HB7⟩
    · have hil : i = ps.length := by omega
      subst hil
      have hni : ¬ (((ps.length : Nat) : Int) < ((ps.length : Nat) : Int)) := by omega
      rw [List.take_length] at HQ
      obtain ⟨tot, htot⟩ : ∃ x, c3 ++ partsB ps = x := ⟨_, rfl⟩
      rw [htot] at HQ HR
      have HTL := wall (show tot.length ≤ 700000 by
        rw [← htot, List.length_append, HC3L.out, partsB_length]
        have := HM.out
        omega)
      have HSU := wall (r2sum_any k tot A len cap B m c wr HL.out h64 ((HN.out.below HB.out).more HB.out.size) HQ.out HTL.out)
      rw [HR.out] at HSU
      have HS := wall (show (Tryd.prog.info? 23).map (·.size) = some (b8 r).size by rw [b8_size, HRL.out]; exact dig_info)
      have HZ := wall (show (b8 (List.replicate 32 0)).size = (b8 r).size by rw [b8_size, b8_size, HRL.out]; rfl)
      clear hlt htot
      go_wp2_with fail
      (with_reducible refine HSU.out.mono ?_); rintro e w8 ⟨rfl, hB8⟩
      have K8 := wall (K.out.next hB8 rfl)
      have HB8 := wall (below_then HB.out hB8 (Nat.le_refl _))
      clear hB8 K HB HSU HQ
      go_wp2_with (refine wpList_store_row rfl 23 (.tmp 6) _ rfl w.heap.size (b8 r) rfl rfl 23 (b8 (List.replicate 32 0)) K8.out HS.out HZ.out (b8_one _) ?_)
      have hb := setRow_heap _ _ _ (b8 r) _ _ K8.out
      have hB := below_setRow HB8.out (Nat.le_refl _) (b8 r)
      go_light
      exact bodyPost_ret (v := .agg (b8 r)) (results_cell_row Tryd.results38 _ _ w.heap.size 23 (b8 r) (0, 0) _ rfl hb Tryd.underlying23 rfl HS.out) rfl ⟨rfl, hB⟩
end Mac
end Go.Proofs.YtpakdcgcgekcfaaDoor

/-
  SlotHides: the reference's Do: a sum.
-/
set_option linter.unusedSimpArgs false
set_option linter.unusedVariables false
namespace Go.Proofs.YtpakdcgcgekcfaaDoor
open Go.RowKit

namespace Slot
open Otp R1 Sha Aes
set_option maxRecDepth 100000 in
set_option maxHeartbeats 4000000 in
theorem do_mac (g : Nat) (x : Xs) (a : Ac) (p : List Nat) (w : World) (hS : Sx w g x) (hk : a.key.length = 32) (hm : a.d % 7 = 3) (hp : p.length = a.n) (hpm : p.length ≤ 1000) (hc : a.n ≤ a.c) (hnil : a.A = none → a.c = 0) (hz : Nats .u8 256 w w.heap.size a.A p) :
    Calls Tryd.prog 45 #[.pointer (some ⟨g, 0, none⟩), .agg (acL a).toArray] w (DoOut w g (hasE x a.h) x.ks x.lk x.dd) := by
  obtain ⟨AL, hAL⟩ : ∃ y, (acL a).toArray = y := ⟨_, rfl⟩
  obtain ⟨W1, hW1⟩ : ∃ W, W = (w.alloc (.cells AL 81)).alloc (.cells (b8 z32) 23) := ⟨_, rfl⟩
  have HW1 := wall hW1
  have HD := wall (show Dw w g x a z32 W1 by rw [hW1, ← hAL]; exact Dw.start hS)
  have HZI := wall z32_info
  have hac := acb_of HD.out.act hk
  have hcd := hac.d
  have hch := hac.h
  obtain ⟨e1, e2⟩ := mod7 a.d 3 hm
  have HKL := wall hk
  have HP := wall (And.intro hp (And.intro hpm (And.intro hc hnil)))
  have HNP := wall (fun W (q : Frm [g] w W) (hg : g ∉ []) => trivial)
  have HB1 := wall (show Below w.heap.size w W1 by rw [hW1]; exact ((Below.refl _ w).alloc (Nat.le_refl _) _).alloc (by simp) _)
  have HZ := wall hz
  rw [hAL]
  obtain ⟨d, h, t, k, key, lb, A, n, c⟩ := a
  simp only at hcd hch e1 e2 HKL HP HZ ⊢
  have HH := wall (fun W (q : Sx W g x) => has_any g x h W q)
  obtain ⟨E, hE⟩ : ∃ E, hasE x h = E := ⟨_, rfl⟩
  rw [hE] at HH ⊢
  clear hW1 hAL hS hk hm hac hp hpm hc hnil hz HNP hE
  go_enter Tryd.func45, Tryd.ntmps45
  go_upto_region 1 with fail
  change Code.wp _ _ _ _ ((w.alloc (.cells AL 81)).alloc (.cells (b8 z32) 23))
  rw [← HW1.out]
  go_wp2_with fail
  (with_reducible refine (HH.out W1 HD.out.sx).mono ?_); rintro e w2 ⟨D, rfl, hDl, hDb, hB2⟩
  have HD2 := wall (HD.out.old hB2)
  have HB2 := wall (below_then HB1.out hB2 (Nat.le_refl _))
  have HDL := wall (And.intro hDl hDb)
  have HDI := wall (show (Tryd.prog.info? 23).map (·.size) = some (b8 D).size by rw [b8_size, hDl]; exact dig_info)
  have HDZ := wall (show (b8 z32).size = (b8 D).size by rw [b8_size, b8_size, z32_ok.1, hDl])
  clear hB2 hDl hDb HD HB1 hcd hch HW1
  go_upto_region 16 with (refine wpList_new_row rfl 23 (.tmp 8) (.tmp 85) rfl w2.heap.size (b8 D) rfl rfl 23 (b8 z32) (Blk.new _ _ _) HDI.out HDZ.out (b8_one _) w2.heap.size w2 ((Below.refl _ w2).alloc (Nat.le_refl _) _) (Nat.le_refl _) ?_; intro w3 K3 B3)
  have HD3 := wall (HD2.out.old B3.out)
  have HB3 := wall (below_then HB2.out B3.out (Nat.le_refl _))
  have HK3 := wall K3.out
  clear K3 B3 HD2 HB2
  by_cases h0 : E = 0
  · subst h0
    have hs := run_slice_arr_all' (P := Tryd.prog) 23 5 32 Tryd.underlying23 (fun _ => by kernel_rfl) w2.heap.size 0 (by decide)
    have HSL := wall hs
    obtain ⟨M, hM⟩ : ∃ M, macB D p = M := ⟨_, rfl⟩
    have HML := wall (show M.length = 32 by rw [← hM]; exact macB_length _ _)
    have HMI := wall (show (Tryd.prog.info? 23).map (·.size) = some (b8 M).size by rw [b8_size, HML.out]; exact dig_info)
    have HMZ := wall (show (b8 z32).size = (b8 M).size by rw [b8_size, b8_size, z32_ok.1, HML.out])
    have HSUM := wall (fun W (q : Nats .u8 256 W W.heap.size (some ⟨w2.heap.size, 0, none⟩) D) (r : Nats .u8 256 W W.heap.size A p) => Mac.r2sum_any D p (some ⟨w2.heap.size, 0, none⟩) 32 32 A n c W HDL.out.1 (by decide) q (BytesN.of HP.out.1 HP.out.2.2.1 HP.out.2.2.2 r) (by have := HP.out.2.1; omega))
    rw [hM] at HSUM
    clear hs hM
    go_wp2_with fail
    refine RelG.wp_region_rel 4 [(94, .const (.agg (b8 M)))] (by kernel_rfl) (by kernel_rfl) ?_
    simp only [List.take_succ_cons, List.take_zero, List.drop_succ_cons, List.drop_zero, Act.put, List.setIfInBounds_toArray, List.set_cons_zero, List.set_cons_succ]
    refine RelG.tree_pure rfl rfl rfl (.slice (some ⟨w2.heap.size, 0, none⟩) 32 32) (fun W hW _ => Rel.exec_slice _ _ _ _ rfl _ (HSL.out W)) ?_
    simp only [Act.put, List.setIfInBounds_toArray, List.set_cons_zero, List.set_cons_succ]
    (refine RelG.tree_quiet rfl rfl rfl (fun K hK => ?_); go_big_quiet_op; refine hK _ ?_; clear hK K)
    refine RelG.tree_pure rfl rfl rfl (.slice A n c) (fun W hW _ => Rel.exec_load1 _ _ rfl w.heap.size 37 rfl _ (fun _ => by kernel_rfl) (acb_of (HD3.out.old hW.undrew).act HKL.out).p) ?_
    simp only [Act.put, List.setIfInBounds_toArray, List.set_cons_zero, List.set_cons_succ]
    refine RelG.tree_const rfl (.agg (b8 M)) rfl (fun W hW _ => ?_) ?_
    · have hq := nats_b8 (hW.blk HK3.out.drew) HDL.out.2
      have hb := below_then HB3.out hW.undrew (Nat.le_refl _)
      have hr := (HZ.out.below hb).more hb.size
      unfold RelG.relAt; go_simp; show Calls _ _ _ _ _
      exact const_call (HSUM.out W hq hr)
    simp only [Act.put, List.setIfInBounds_toArray, List.set_cons_zero, List.set_cons_succ]
    intro W hW _
    have HD4 := wall (HD3.out.old hW.undrew)
    clear hW HD3
    go_wp2_with (refine wpList_set_row rfl 23 (.tmp 4) (.tmp 94) rfl (w.heap.size + 1) (b8 M) rfl rfl 23 (b8 z32) HD4.out.res HMI.out HMZ.out (b8_one _) ?_; intro w5 K5 F5)
    have HD5 := wall (HD4.out.put F5 K5)
    clear K5 F5 HD4
    go_light
    exact do_end 0 HD5.out HML.out rfl rfl
  · have hne : (((E : Nat) : Int) != 0) = true := by rw [bne_iff_ne]; omega
    go_wp2_with (refine wpList_set_row rfl 23 (.tmp 4) (.tmp 89) rfl (w.heap.size + 1) (b8 z32) rfl rfl 23 (b8 z32) HD3.out.res HZI.out rfl (b8_one _) ?_; intro w5 K5 F5)
    have HD5 := wall (HD3.out.put F5 K5)
    clear K5 F5 HD3
    go_light
    exact do_end (E : Int) HD5.out z32_ok.1 rfl rfl
end Slot
end Go.Proofs.YtpakdcgcgekcfaaDoor

/-
  SlotHides: the reference's Do: wiping.
-/
set_option linter.unusedSimpArgs false
set_option linter.unusedVariables false
namespace Go.Proofs.YtpakdcgcgekcfaaDoor
open Go.RowKit

namespace Slot
open Otp R1 Sha Aes
def wpK (x : Xs) (h : Int) : Xs := if inR h = true ∧ kx x h ≠ 0 then { x with ks := x.ks.set h.toNat 0 } else x
def wpN (x : Xs) (h : Int) : Nat := if inR h = true ∧ kx x h ≠ 0 then 1 else 0
def wS (x : Xs) (h t : Int) : Nat → Xs × Nat
  | 0 => (x, 0)
  | 1 => (wpK x h, 0 + wpN x h)
  | _ => (wpK (wpK x h) t, 0 + wpN x h + wpN (wpK x h) t)
theorem wS_step (x : Xs) (h t : Int) {i : Nat} (hi : i < 2) {z : Int} (hz : [h, t][i]? = some z) : wS x h t (i + 1) = (wpK (wS x h t i).1 z, (wS x h t i).2 + wpN (wS x h t i).1 z) := by
  match i, hi, hz with
  | 0, _, hz => obtain rfl : h = z := by simpa using hz
                rfl
  | 1, _, hz => obtain rfl : t = z := by simpa using hz
                rfl
theorem wS_le (x : Xs) (h t : Int) {i : Nat} (hi : i ≤ 2) : (wS x h t i).2 ≤ 2 := by
  have : ∀ y z, wpN y z ≤ 1 := fun y z => by unfold wpN; split <;> omega
  match i, hi with
  | 0, _ => exact Nat.zero_le _
  | 1, _ => have := this x h; simp only [wS]; omega
  | 2, _ => have a := this x h; have b := this (wpK x h) t; simp only [wS]; omega
theorem wS_flags (x : Xs) (h t : Int) (i : Nat) : (wS x h t i).1.lk = x.lk ∧ (wS x h t i).1.dd = x.dd := by
  have : ∀ y z, (wpK y z).lk = y.lk ∧ (wpK y z).dd = y.dd := fun y z => by unfold wpK; split <;> exact ⟨rfl, rfl⟩
  match i with
  | 0 => exact ⟨rfl, rfl⟩
  | 1 => exact this x h
  | _ + 2 => exact ⟨(this _ t).1.trans (this x h).1, (this _ t).2.trans (this x h).2⟩
set_option maxRecDepth 100000 in
set_option maxHeartbeats 4000000 in
theorem do_wipe (g : Nat) (x : Xs) (a : Ac) (w : World) (hS : Sx w g x) (hk : a.key.length = 32) (hm : a.d % 7 = 4) :
    Calls Tryd.prog 45 #[.pointer (some ⟨g, 0, none⟩), .agg (acL a).toArray] w (DoOut w g ((wS x a.h a.t 2).2 : Nat) (wS x a.h a.t 2).1.ks x.lk x.dd) := by
  obtain ⟨AL, hAL⟩ : ∃ y, (acL a).toArray = y := ⟨_, rfl⟩
  obtain ⟨W1, hW1⟩ : ∃ W, W = (w.alloc (.cells AL 81)).alloc (.cells (b8 z32) 23) := ⟨_, rfl⟩
  have HW1 := wall hW1
  have HD := wall (show Dw w g x a z32 W1 by rw [hW1, ← hAL]; exact Dw.start hS)
  have HZI := wall z32_info
  have hac := acb_of HD.out.act hk
  have hcd := hac.d
  have hch := hac.h
  have hct := hac.t
  obtain ⟨e1, e2⟩ := mod7 a.d 4 hm
  rw [hAL]
  have HWL := wall (fun i (hi : i ≤ 2) => wS_le x a.h a.t hi)
  have HWF := wall (fun i => wS_flags x a.h a.t i)
  have HWS := wall (fun i (hi : i < 2) z (hz : [a.h, a.t][i]? = some z) => wS_step x a.h a.t hi hz)
  have HW0 := wall (show wS x a.h a.t 0 = (x, 0) from rfl)
  obtain ⟨ws, hws⟩ : ∃ f, wS x a.h a.t = f := ⟨_, rfl⟩
  rw [hws] at HWL HWF HWS HW0 ⊢
  have HF2 := wall (HWF.out 2)
  obtain ⟨d, h, t, k, key, lb, A, n, c⟩ := a
  simp only at hcd hch hct e1 e2 HWS ⊢
  rw [← HF2.out.1, ← HF2.out.2]
  obtain ⟨ad, had⟩ : ∃ y : Ac, ⟨d, h, t, k, key, lb, A, n, c⟩ = y := ⟨_, rfl⟩
  rw [had] at HD
  clear hW1 hAL hS hk hm hac hws had
  go_enter Tryd.func45, Tryd.ntmps45
  go_upto_region 1 with fail
  change Code.wp _ _ _ _ ((w.alloc (.cells AL 81)).alloc (.cells (b8 z32) 23))
  rw [← HW1.out]
  go_wp2_with fail
  obtain ⟨W2, hW2⟩ : ∃ V, V = W1.alloc (.cells #[.int .i64 h, .int .i64 t] 3) := ⟨_, rfl⟩
  have HL2 := wall (show Blk W2 W1.heap.size 3 #[.int .i64 h, .int .i64 t] by rw [hW2]; exact Blk.new _ _ _)
  have HD2 := wall (show Dw w g x ad z32 W2 from HD.out.old (by rw [hW2]; exact (Below.refl _ _).alloc (Nat.le_refl _) _))
  have HGL := wall (show g < W1.heap.size ∧ w.heap.size + 1 < W1.heap.size from ⟨HD.out.sx.blk.lt, HD.out.res.lt⟩)
  rw [← hW2]
  obtain ⟨gl, hgl⟩ : ∃ y, W1.heap.size = y := ⟨_, rfl⟩
  rw [hgl] at HL2 HGL ⊢
  clear hW2 hgl HD HW1 hcd hch hct e1 e2
  go_loopg [10, 103] 2 (fun gm s10 s103 wr => ∃ i : Nat, i + gm = 2 ∧ s103 = .int .i64 (i : Int) ∧ s10 = .int .i64 (((ws i).2 : Nat) : Int) ∧ Wall (Dw w g (ws i).1 ad z32 wr) ∧ Wall (Blk wr gl 3 #[.int .i64 h, .int .i64 t]))
  case atStart => exact ⟨0, by omega, rfl, by rw [HW0.out]; rfl, by rw [HW0.out]; exact HD2, HL2⟩
  case round =>
    clear HD2 HL2
    obtain ⟨i, hg, rfl, rfl, HD, HL⟩ := hrel
    have HG := wall hg
    have hi : i ≤ 2 := by omega
    clear hg
    by_cases hlt : i < 2
    · obtain ⟨z, hz⟩ : ∃ z, [h, t][i]? = some z := ⟨_, List.getElem?_eq_getElem hlt⟩
      have hcz : wr.cell? ⟨gl, i, none⟩ = some (.int .i64 z) := by
        rw [HL.out.cell]
        match i, hlt, hz with
        | 0, _, hz => obtain rfl : h = z := by simpa using hz
                      rfl
        | 1, _, hz => obtain rfl : t = z := by simpa using hz
                      rfl
      have hst := HWS.out i hlt z hz
      have hn2 := HWL.out i hi
      have hlt' : (i : Int) < 2 := by omega
      obtain ⟨y, hy⟩ : ∃ y, (ws i).1 = y := ⟨_, rfl⟩
      obtain ⟨nn, hnn⟩ : ∃ y, (ws i).2 = y := ⟨_, rfl⟩
      rw [hy, hnn] at hst
      rw [hy] at HD
      rw [hnn] at hn2 ⊢
      clear hz hy hnn
      by_cases hin : inR z = true
      · have HI := wall hin
        have hir : 0 ≤ z ∧ z < 8 := of_decide_eq_true hin
        obtain ⟨j, rfl⟩ : ∃ j : Nat, z = j := ⟨z.toNat, by omega⟩
        have hj : j < 8 := by omega
        have hj8 : (j : Int) < 8 := by omega
        have hck := HD.out.sx.cellAt (HD.out.sx.ok.kindAt hj)
        have hcf := HD.out.sx.blk.frozen j
        by_cases hk0 : kx y (j : Int) = 0
        · have HST := wall (show ws (i + 1) = (y, nn) by
            rw [hst]
            unfold wpK wpN
            rw [if_neg (fun h => h.2 hk0), if_neg (fun h => h.2 hk0)]
            rfl)
          rw [hk0] at hck
          clear hst hin hir hk0
          go_wp2_with fail
          (with_reducible refine (in_any (j : Int) wr).mono ?_); rintro e w2 ⟨rfl, rfl⟩
          rw [HI.out]
          go_wp2_with fail
          go_light
          go_roundg (2 - (i + 1))
          case measure => have := HG.out; omega
          case rel => exact ⟨i + 1, by omega, by go_num, by rw [HST.out], by rw [HST.out]; exact HD, HL⟩
        · have HST := wall (show ws (i + 1) = ({ y with ks := y.ks.set j 0 }, nn + 1) by
            rw [hst]
            unfold wpK wpN
            rw [if_pos ⟨hin, hk0⟩, if_pos ⟨hin, hk0⟩]
            rfl)
          have hne : (kx y (j : Int) != 0) = true := by rw [bne_iff_ne]; exact hk0
          have HDN := wall (show Dw w g { y with ks := y.ks.set j 0 } ad z32 (wr.setCell ⟨g, j, none⟩ (.int .i64 0)) from
            HD.out.set ((Frm.refl _ _).setCell (p := ⟨g, j, none⟩) (.inl (by simp)) _) ⟨(HD.out.sx.ok.setK hj 0).2, by
              have := HD.out.sx.blk.set j (.int .i64 0)
              simp only [List.setIfInBounds_toArray] at this
              rw [(HD.out.sx.ok.setK hj 0).1] at this
              exact this⟩)
          have HLN := wall (show Blk (wr.setCell ⟨g, j, none⟩ (.int .i64 0)) gl 3 #[.int .i64 h, .int .i64 t] from HL.out.frm ((Frm.refl wr (S := [g])).setCell (p := ⟨g, j, none⟩) (.inl (by simp)) _) (by have := HGL.out; simp; omega))
          clear hst hin hir hk0
          go_wp2_with fail
          (with_reducible refine (in_any (j : Int) wr).mono ?_); rintro e w2 ⟨rfl, rfl⟩
          rw [HI.out]
          go_wp2_with fail
          go_light
          go_roundg (2 - (i + 1))
          case measure => have := HG.out; omega
          case rel => exact ⟨i + 1, by omega, by go_num, by rw [HST.out]; go_num, by rw [HST.out]; exact HDN, HLN⟩
      · have HST := wall (show ws (i + 1) = (y, nn) by
          rw [hst]
          unfold wpK wpN
          rw [if_neg (fun h => hin h.1), if_neg (fun h => hin h.1)]
          rfl)
        rw [Bool.not_eq_true] at hin
        have HI := wall hin
        clear hst hin
        go_wp2_with fail
        (with_reducible refine (in_any z wr).mono ?_); rintro e w2 ⟨rfl, rfl⟩
        rw [HI.out]
        go_wp2_with fail
        go_light
        go_roundg (2 - (i + 1))
        case measure => have := HG.out; omega
        case rel => exact ⟨i + 1, by omega, by go_num, by rw [HST.out], by rw [HST.out]; exact HD, HL⟩
    · have hi2 : i = 2 := by omega
      subst hi2
      clear HG hlt
      go_wp2_with (refine wpList_set_row rfl 23 (.tmp 4) (.tmp 126) rfl (w.heap.size + 1) (b8 z32) rfl rfl 23 (b8 z32) HD.out.res HZI.out rfl (b8_one _) ?_; intro w3 K3 F3)
      have HD3 := wall (HD.out.put F3 K3)
      clear K3 F3 HD
      go_light
      exact do_end _ HD3.out z32_ok.1 rfl rfl
end Slot
end Go.Proofs.YtpakdcgcgekcfaaDoor
