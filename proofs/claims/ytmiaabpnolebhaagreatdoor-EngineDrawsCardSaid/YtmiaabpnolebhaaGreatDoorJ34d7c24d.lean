/-
  Texts of this claim, joined: Rel, OwnB, RelUse, RelG, RelLate, RelPur, RelF.
-/
import Derived.StillTail
import Derived.Deep.Quiet
import Derived.Lib.QuietBelow
import Derived.Test.YtmiaabpnolebhaaGreatDoorProg
import Derived.Test.YtmiaabpnolebhaaGreatDoorJ192fccce
import Derived.Deep.LoopGhost
import Derived.RegionTactic
import Derived.Laws.Cover3
set_option linter.unusedSimpArgs false
set_option linter.unusedVariables false
/-
  A drawn region whose operations read, reckon, or call what makes memory: one walk in the text's order serves every order. What a call hands back need not be one value: it is told by a predicate ('Kind.any') that later growth of memory does not break; an operation may use what is told of the slots that it looks at, and of the world as it stood at the region's head. A tail in one forced order (a store, an append) may follow.
-/
namespace Go.Proofs.YtmiaabpnolebhaaGreatDoor
open Go Go.RowKit

namespace Rel
/-- Memory has grown. -/
def Grow (W W' : World) : Prop := Below W.heap.size W W'
theorem Grow.refl (W : World) : Grow W W := Below.refl _ _
theorem Grow.trans {a b c : World} (h : Grow a b) (k : Grow b c) : Grow a c := Below.trans h (Below.mono k (Below.size h))
/-- What was there reads the same (a block's mark may have turned). -/
structure Soft (W W' : World) : Prop where
  size : W.heap.size ≤ W'.heap.size
  cell : ∀ (p : Addr) (v : Value), W.cell? p = some v → W'.cell? p = some v
  shape : ∀ (g : Nat) (x : TypeId × Nat), W.shape? g = some x → W'.shape? g = some x
  mark : ∀ (g : Nat) (cs : Array Value) (t : TypeId) (fr : Nat × Nat), t ≠ 5 → W.heap[g]? = some (.cells cs t fr) → W'.heap[g]? = some (.cells cs t fr)
theorem Soft.refl (W : World) : Soft W W := ⟨Nat.le_refl _, fun _ _ h => h, fun _ _ h => h, fun _ _ _ _ _ h => h⟩
theorem Soft.trans {a b c : World} (h : Soft a b) (k : Soft b c) : Soft a c := ⟨Nat.le_trans h.size k.size, fun p v x => k.cell p v (h.cell p v x), fun g x y => k.shape g x (h.shape g x y), fun g cs t fr n y => k.mark g cs t fr n (h.mark g cs t fr n y)⟩
theorem Grow.soft {W W' : World} (h : Grow W W') : Soft W W' := by
  have lt : ∀ {k : Nat} {o : Obj}, W.heap[k]? = some o → k < W.heap.size := fun h => (Array.getElem?_eq_some_iff.1 h).1
  refine ⟨Below.size h, fun p v hp => ?_, fun g x hg => ?_, fun g cs t fr _ hg => (Below.block h _ (lt hg)).trans hg⟩
  · unfold World.cell? at hp ⊢
    cases ho : W.heap[p.block]? with
    | none => rw [ho] at hp; cases hp
    | some o => rw [Below.block h _ (lt ho)]; exact hp
  · unfold World.shape? at hg ⊢
    cases ho : W.heap[g]? with
    | none => rw [ho] at hg; cases hg
    | some o => rw [Below.block h _ (lt ho)]; exact hg
/-- One operation's doing: what is older than B stands, all else reads the same. -/
structure Step (B : Nat) (W W' : World) : Prop where
  old : Below B W W'
  soft : Soft W W'
theorem Step.refl (B : Nat) (W : World) : Step B W W := ⟨Below.refl _ _, Soft.refl _⟩
theorem Step.of {B : Nat} {W W' : World} (hB : B ≤ W.heap.size) (h : Grow W W') : Step B W W' := ⟨Below.mono h hB, h.soft⟩
/-- What an operation's value is: a constant; or told by a predicate. -/
inductive Kind where
  | const (c : Value)
  | any (V : Value → World → Prop) (h : ∀ v W W', Soft W W' → V v W → V v W')
def kindOf (ks : List (Tmp × Kind)) (o : Oper) : Option Kind := match o.dst with
  | some d => ks.lookup d
  | none => none
/-- Operations that are walked as they stand. -/
def pureOp (o : Oper) : Bool := match o.op with
  | .move _ | .assign _ | .pick _ _ _ | .build _ _ | .load _ _ | .binOp _ _ _ _ _ | .unOp _ _ _ | .convert _ _ _ | .slice _ _ _ _ _ | .fieldAddr _ _ _ | .field _ _ _ | .indexAddr _ _ _ | .index _ _ _ | .extract _ _ | .sliceToArrayPointer _ _ => true
  | _ => false
section
variable {P : Program} {ops : Array Oper} {md : Region.Mode}
theorem value_of_pure {o : Oper} {ρ : Operand → Value} {w w' : World} {n : Next} (hp : pureOp o = true) (h : (execOp ρ o).run P w = .ok n w') : ∃ u, n = .value u := by
  have key : ∀ (s : Sem Value), (do let x ← s; pure (Next.value x) : Sem Next).run P w = .ok n w' → ∃ u, n = .value u := fun s hs => by
    rw [Sem.run_bind] at hs
    cases hr : s.run P w with
    | ok x w1 => rw [hr] at hs; simp [Result.andThen] at hs; exact ⟨x, hs.1.symm⟩
    | halt x w1 => rw [hr] at hs; simp [Result.andThen] at hs
  obtain ⟨dst, op, type, pos, after, guard⟩ := o
  cases op <;> simp only [pureOp, Bool.false_eq_true] at hp <;> simp only [execOp] at h
  case move x => simp at h; exact ⟨_, h.1.symm⟩
  case assign x => simp at h; exact ⟨_, h.1.symm⟩
  case pick c x y =>
    rw [Sem.run_bind] at h
    cases hr : (asBool (ρ c)).run P w with
    | ok b w1 => rw [hr] at h; simp [Result.andThen] at h; exact ⟨_, h.1.symm⟩
    | halt b w1 => rw [hr] at h; simp [Result.andThen] at h
  all_goals exact key _ h
/-- An operation that may make memory, or call. -/
def relUpon (P : Program) (W : World) (V : Value → World → Prop) : Result Next → Prop
  | .ok (.value v) w' => Grow W w' ∧ V v w'
  | .ok .skip w' => Grow W w' ∧ V undef w'
  | .ok (.enter f args) w' => Calls P f args w' (fun e w'' => ∃ v, e = .returned v ∧ Grow W w'' ∧ V v w'')
  | _ => False
def relAt (P : Program) (o : Oper) (a : Act) (W : World) (V : Value → World → Prop) : Prop := relUpon P W V ((execOp a.eval o).run P W)
def stepUpon (P : Program) (B : Nat) (W : World) (V : Value → World → Prop) : Result Next → Prop
  | .ok (.value v) w' => Step B W w' ∧ V v w'
  | .ok .skip w' => Step B W w' ∧ V undef w'
  | .ok (.enter f args) w' => Calls P f args w' (fun e w'' => ∃ v, e = .returned v ∧ Step B W w'' ∧ V v w'')
  | _ => False
def stepAt (P : Program) (B : Nat) (o : Oper) (a : Act) (W : World) (V : Value → World → Prop) : Prop := stepUpon P B W V ((execOp a.eval o).run P W)
theorem stepAt.of {P : Program} {B : Nat} {o : Oper} {a : Act} {W : World} {V : Value → World → Prop} (hB : B ≤ W.heap.size) (h : relAt P o a W V) : stepAt P B o a W V := by
  unfold relAt at h
  unfold stepAt
  generalize (execOp a.eval o).run P W = r at *
  cases r with
  | ok x w1 =>
    cases x <;> simp only [relUpon] at h <;> simp only [stepUpon]
    case value v => exact ⟨Step.of hB h.1, h.2⟩
    case skip => exact ⟨Step.of hB h.1, h.2⟩
    case enter f args => exact Calls.mono h fun e w'' ⟨v, he, hg, hV⟩ => ⟨v, he, Step.of hB hg, hV⟩
  | halt x w1 => simp only [relUpon] at h
/-- What is told of slots. -/
abbrev Facts := Tmp → World → Prop
def Facts.put (F : Facts) (d : Option Tmp) (p : World → Prop) : Facts := fun x => match d with
  | some y => if x = y then p else F x
  | none => F x
def bare : Facts := fun _ _ => True
/-- The walk in the text's order. -/
def tree (P : Program) (ops : Array Oper) (ks : List (Tmp × Kind)) (w0 : World) (Q : Act → World → Prop) : List Oper → Facts → Act → Prop
  | [], F, a => ∀ W, Grow w0 W → (∀ d, F d W) → Q a W
  | o :: rest, F, a => if Region.wanted o (yielded ops a.tmps) then
      match kindOf ks o with
      | .none => pureOp o = true ∧ ∃ v, (∀ W, Grow w0 W → (∀ d, d ∈ o.looksAt ops → F d W) → (execOp a.eval o).run P W = .ok (.value v) W) ∧ tree P ops ks w0 Q rest F (a.put o.dst v)
      | .some (.const c) => (∀ W, Grow w0 W → (∀ d, d ∈ o.looksAt ops → F d W) → stepAt P w0.heap.size o a W (fun v _ => v = c)) ∧ tree P ops ks w0 Q rest F (a.put o.dst c)
      | .some (.any V _) => (∀ W, Grow w0 W → (∀ d, d ∈ o.looksAt ops → F d W) → stepAt P w0.heap.size o a W V) ∧ ∀ v, tree P ops ks w0 Q rest (F.put o.dst (V v)) (a.put o.dst v)
    else tree P ops ks w0 Q rest F (a.put o.dst undef)
/-- The region's form: edges lead back; each slot is written once; what is looked at is there, or waited for. -/
def headB (md : Region.Mode) (ops : Array Oper) (n : Nat) : Bool :=
  (List.range n).all fun i => match ops[i]? with
    | .none => false
    | .some o => (o.after.all fun e => !Region.binds md e || decide (e.on < i)) &&
      (List.range n).all fun j => match ops[j]? with
        | .none => false
        | .some p => match p.dst with
          | .none => true
          | .some d => (decide (i = j) || (o.dst != .some d)) && (!(o.looksAt ops).contains d || (decide (j < i) && Region.waitsFor md ops i j))
def canon (n m : Nat) : Array Bool := (List.replicate n true ++ List.replicate (m - n) false).toArray
def tailB (md : Region.Mode) (ops : Array Oper) (n : Nat) : Bool := decide (n = ops.size) || (decide (n < ops.size) && Region.sinkB md ops n && Region.chainB md ops n)
def okB (md : Region.Mode) (ops : Array Oper) (n : Nat) : Bool := Region.noSelect ops && headB md ops n && tailB md ops n && Region.seqB md ops (ops.size - n) n (canon n ops.size)
def cnt (s : Array Bool) : Nat → Nat
  | 0 => 0
  | m + 1 => cnt s m + (if s.getD m false then 0 else 1)
theorem cnt_far {s : Array Bool} {i : Nat} : ∀ m, m ≤ i → cnt (s.setIfInBounds i true) m = cnt s m
  | 0, _ => rfl
  | m + 1, h => by rw [cnt, cnt, cnt_far m (by omega), getD_set_ne false (by omega)]
theorem cnt_set {s : Array Bool} {i : Nat} (hs : i < s.size) (hf : s.getD i false = false) : ∀ m, i < m → cnt (s.setIfInBounds i true) m + 1 = cnt s m
  | m + 1, h => by
    by_cases him : i = m
    · subst him
      have e : (s.setIfInBounds i true).getD i false = true := by simp [hs]
      rw [cnt, cnt, cnt_far i (Nat.le_refl _), e, hf]
      simp
    · rw [cnt, cnt, getD_set_ne false him, ← cnt_set hs hf m (by omega)]
      omega
theorem cnt_zero {s : Array Bool} : ∀ m, cnt s m = 0 → ∀ j, j < m → s.getD j false = true
  | m + 1, h, j, hj => by
    rw [cnt] at h
    by_cases hjm : j = m
    · subst hjm
      cases he : s.getD j false
      · rw [he] at h; simp at h
      · rfl
    · exact cnt_zero m (by omega) j (by omega)
theorem cnt_pos {s : Array Bool} : ∀ m, 0 < cnt s m → ∃ i, i < m ∧ s.getD i false = false ∧ ∀ j, j < i → s.getD j false = true
  | m + 1, h => by
    by_cases h0 : 0 < cnt s m
    · obtain ⟨i, hi, hf, ha⟩ := cnt_pos m h0
      exact ⟨i, by omega, hf, ha⟩
    · refine ⟨m, by omega, ?_, cnt_zero m (by omega)⟩
      rw [cnt] at h
      cases he : s.getD m false
      · rfl
      · rw [he] at h; simp at h; omega
theorem head_edges {n i : Nat} {o : Oper} (h : headB md ops n = true) (hi : i < n) (ho : ops[i]? = some o) : ∀ e ∈ o.after, Region.binds md e = true → e.on < i := fun e he hb => by
  have h1 := List.all_eq_true.1 h i (List.mem_range.2 hi)
  simp only [ho, Bool.and_eq_true] at h1
  have h2 := Array.all_eq_true_iff_forall_mem.1 h1.1 e he
  simpa [hb] using h2
theorem head_apart {n i j : Nat} {o p : Oper} {d : Tmp} (h : headB md ops n = true) (hi : i < n) (ho : ops[i]? = some o) (hj : j < n) (hp : ops[j]? = some p) (hd : p.dst = some d) :
    (i ≠ j → o.dst ≠ some d) ∧ (d ∈ o.looksAt ops → j < i ∧ Region.waitsFor md ops i j = true) := by
  have h1 := List.all_eq_true.1 h i (List.mem_range.2 hi)
  simp only [ho, Bool.and_eq_true] at h1
  have h2 := List.all_eq_true.1 h1.2 j (List.mem_range.2 hj)
  simp only [hp, hd, Bool.or_eq_true, decide_eq_true_eq, Bool.and_eq_true, bne_iff_ne, Bool.not_eq_true'] at h2
  refine ⟨fun hij => h2.1.resolve_left hij, fun hm => ?_⟩
  rcases h2.2 with h3 | h3
  · simp [hm] at h3
  · exact h3
theorem head_op {n i : Nat} (h : headB md ops n = true) (hi : i < n) : ∃ o, ops[i]? = some o := by
  have h1 := List.all_eq_true.1 h i (List.mem_range.2 hi)
  cases ho : ops[i]? with
  | none => simp [ho] at h1
  | some o => exact ⟨o, rfl⟩
theorem exec_agree {a b : Act} (o : Oper) (hs : ∀ cs b, o.op ≠ .select cs b) (h : ∀ d, d ∈ o.looksAt ops → b.tmps[d]? = a.tmps[d]?) : execOp b.eval o = execOp a.eval o ∧ Region.wanted o (yielded ops b.tmps) = Region.wanted o (yielded ops a.tmps) := by
  refine ⟨execOp_congr o hs fun x hx => ?_, ?_⟩
  · cases x with
    | tmp d =>
      have := h d (List.mem_append_left _ (List.mem_filterMap.2 ⟨.tmp d, by simpa using hx, rfl⟩))
      simp [Act.eval, this]
    | _ => rfl
  · unfold Region.wanted
    cases hg : o.guard with
    | none => rfl
    | some gw =>
      obtain ⟨g, want⟩ := gw
      have hy : yielded ops b.tmps g = yielded ops a.tmps g := by
        unfold yielded
        cases ht : (ops[g]?).bind (·.dst) with
        | none => rfl
        | some t =>
          have := h t (by simp [Oper.looksAt, hg, ht])
          simp [this]
      simp only [hy]
end
section
variable (P : Program) (ops : Array Oper) (md : Region.Mode) (n : Nat) (ks : List (Tmp × Kind)) (w0 : World) (a0 : Act)
/-- What is told of an executed operation's slot. -/
def Told (p : Oper) (a : Act) (W : World) (v : Value) : Prop := ∀ V h, kindOf ks p = some (.any V h) → Region.wanted p (yielded ops a.tmps) = true → V v W
def Good (u : Nat → Value) (o : Oper) (a : Act) (w : World) (v : Value) : Prop :=
  if Region.wanted o (yielded ops a.tmps) then
    match kindOf ks o with
    | .none => ∃ W, Grow w0 W ∧ (∀ d, d ∈ o.looksAt ops → ∀ j p, j < n → ops[j]? = some p → p.dst = some d → Told ops ks p a W (u j)) ∧ (execOp a.eval o).run P W = .ok (.value v) W
    | .some (.const c) => v = c
    | .some (.any V _) => V v w
  else v = undef
structure Inv (s : Array Bool) (a : Act) (w : World) (u : Nat → Value) : Prop where
  head : HeadInv md ops n s
  grow : Grow w0 w
  defers : a.defers = a0.defers
  size : a.tmps.size = a0.tmps.size
  rest : ∀ d, (∀ j o, j < n → ops[j]? = some o → s.getD j false = true → o.dst ≠ some d) → a.tmps[d]? = a0.tmps[d]?
  slot : ∀ j o d, j < n → ops[j]? = some o → s.getD j false = true → o.dst = some d → a.tmps[d]? = (a0.tmps.setIfInBounds d (u j))[d]?
  good : ∀ j o, j < n → ops[j]? = some o → s.getD j false = true → Good P ops n ks w0 u o a w (u j)
structure Br (s : Array Bool) (a : Act) (u : Nat → Value) (k : Nat) (b : Act) (F : Facts) : Prop where
  defers : b.defers = a0.defers
  size : b.tmps.size = a0.tmps.size
  rest : ∀ d, (∀ j o, j < k → ops[j]? = some o → o.dst ≠ some d) → b.tmps[d]? = a0.tmps[d]?
  slot : ∀ j o d, j < k → ops[j]? = some o → s.getD j false = true → o.dst = some d → b.tmps[d]? = (a0.tmps.setIfInBounds d (u j))[d]?
  free : ∀ d, (∀ j o, j < k → ops[j]? = some o → o.dst ≠ some d) → ∀ W, F d W
  told : ∀ j o d, j < k → ops[j]? = some o → s.getD j false = true → o.dst = some d → ∀ W, Told ops ks o a W (u j) → F d W
end
section
variable {P : Program} {ops : Array Oper} {md : Region.Mode} {n : Nat} {ks : List (Tmp × Kind)} {w0 : World} {a0 : Act} {s : Array Bool} {a : Act} {w : World} {u : Nat → Value}
theorem put_get (a : Act) (x : Option Tmp) (v : Value) (d : Tmp) (h : x ≠ some d) : (a.put x v).tmps[d]? = a.tmps[d]? := by
  cases x with
  | none => rfl
  | some y => simp [Act.put, Array.getElem?_setIfInBounds_ne (show y ≠ d from fun e => h (by rw [e]))]
theorem put_size (a : Act) (x : Option Tmp) (v : Value) : (a.put x v).tmps.size = a.tmps.size := by cases x <;> simp [Act.put]
theorem put_defers (a : Act) (x : Option Tmp) (v : Value) : (a.put x v).defers = a.defers := by cases x <;> rfl
theorem put_self (a : Act) (v : Value) (d : Tmp) (hs : a.tmps.size = a0.tmps.size) : (a.put (some d) v).tmps[d]? = (a0.tmps.setIfInBounds d v)[d]? := by
  simp only [Act.put, Array.getElem?_setIfInBounds, hs]
  simp
theorem waits_done {i j : Nat} {o : Oper} (ho : ops[i]? = some o) (hw : Region.waitsFor md ops i j = true) (h : ∀ e ∈ o.after, Region.binds md e = true → s.getD e.on false = true) : s.getD j false = true := by
  obtain ⟨o', ho', e, he, hb, hon⟩ := Region.waitsFor_spec hw
  rw [ho] at ho'
  cases ho'
  rw [← hon]
  exact h e he hb
/-- Every slot that an operation looks at is settled. -/
def Settled (ops : Array Oper) (n : Nat) (s : Array Bool) (o : Oper) : Prop := ∀ j p d, j < n → ops[j]? = some p → p.dst = some d → d ∈ o.looksAt ops → s.getD j false = true
theorem settled_of (hB : headB md ops n = true) {i : Nat} {o : Oper} (hi : i < n) (ho : ops[i]? = some o) (h : ∀ e ∈ o.after, Region.binds md e = true → s.getD e.on false = true) : Settled ops n s o :=
  fun _ _ _ hj hp hd hm => waits_done ho ((head_apart hB hi ho hj hp hd).2 hm).2 h
theorem looks_agree (hB : headB md ops n = true) (inv : Inv P ops md n ks w0 a0 s a w u) {i : Nat} {o : Oper} (hi : i < n) (ho : ops[i]? = some o) (hset : Settled ops n s o) {b : Act} {F : Facts} (br : Br ops ks a0 s a u i b F) :
    ∀ d, d ∈ o.looksAt ops → b.tmps[d]? = a.tmps[d]? := fun d hm => by
  by_cases h : ∃ j p, j < n ∧ ops[j]? = some p ∧ p.dst = some d
  · obtain ⟨j, p, hj, hp, hd⟩ := h
    have hex := hset j p d hj hp hd hm
    have hlt := ((head_apart hB hi ho hj hp hd).2 hm).1
    rw [br.slot j p d hlt hp hex hd, inv.slot j p d hj hp hex hd]
  · rw [br.rest d (fun j p hj hp hd => h ⟨j, p, by omega, hp, hd⟩), inv.rest d (fun j p hj hp _ hd => h ⟨j, p, hj, hp, hd⟩)]
theorem facts_of (hB : headB md ops n = true) {i : Nat} {o : Oper} (hi : i < n) (ho : ops[i]? = some o) (hset : Settled ops n s o) {b : Act} {F : Facts} (br : Br ops ks a0 s a u i b F) {W : World}
    (h : ∀ d, d ∈ o.looksAt ops → ∀ j p, j < n → ops[j]? = some p → p.dst = some d → Told ops ks p a W (u j)) : ∀ d, d ∈ o.looksAt ops → F d W := fun d hm => by
  by_cases hx : ∃ j p, j < n ∧ ops[j]? = some p ∧ p.dst = some d
  · obtain ⟨j, p, hj, hp, hd⟩ := hx
    exact br.told j p d ((head_apart hB hi ho hj hp hd).2 hm).1 hp (hset j p d hj hp hd hm) hd W (h d hm j p hj hp hd)
  · exact br.free d (fun j p hj hp hd => hx ⟨j, p, by omega, hp, hd⟩) W
theorem told_now (inv : Inv P ops md n ks w0 a0 s a w u) {j : Nat} {p : Oper} (hj : j < n) (hp : ops[j]? = some p) (hex : s.getD j false = true) : Told ops ks p a w (u j) := fun V h hk hw => by
  have := inv.good j p hj hp hex
  unfold Good at this
  rw [if_pos hw, hk] at this
  exact this
theorem br_next {k : Nat} {o : Oper} (hB : headB md ops n = true) (hk : k < n) (ho : ops[k]? = some o) {b : Act} {F F' : Facts} (br : Br ops ks a0 s a u k b F) (v : Value)
    (h1 : s.getD k false = true → v = u k) (h2 : ∀ d, o.dst ≠ some d → F' d = F d) (h3 : ∀ d, s.getD k false = true → o.dst = some d → ∀ W, Told ops ks o a W (u k) → F' d W) : Br ops ks a0 s a u (k + 1) (b.put o.dst v) F' := by
  have hne : ∀ d, (∀ j p, j < k + 1 → ops[j]? = some p → p.dst ≠ some d) → o.dst ≠ some d := fun d h => h k o (by omega) ho
  have hlow : ∀ d, (∀ j p, j < k + 1 → ops[j]? = some p → p.dst ≠ some d) → ∀ j p, j < k → ops[j]? = some p → p.dst ≠ some d := fun d h j p hj hp => h j p (by omega) hp
  refine ⟨by rw [put_defers]; exact br.defers, by rw [put_size]; exact br.size, fun d h => by rw [put_get _ _ _ _ (hne d h)]; exact br.rest d (hlow d h), fun j p d hj hp hex hd => ?_, fun d h W => by rw [h2 d (hne d h)]; exact br.free d (hlow d h) W, fun j p d hj hp hex hd W ht => ?_⟩
  · by_cases hjk : j = k
    · subst hjk
      rw [ho] at hp
      cases hp
      rw [hd, h1 hex]
      exact put_self _ _ _ br.size
    · have hdk : o.dst ≠ some d := (head_apart hB hk ho (show j < n by omega) hp hd).1 (fun e => hjk e.symm)
      rw [put_get _ _ _ _ hdk]
      exact br.slot j p d (by omega) hp hex hd
  · by_cases hjk : j = k
    · subst hjk
      rw [ho] at hp
      cases hp
      exact h3 d hex hd W ht
    · have hdk : o.dst ≠ some d := (head_apart hB hk ho (show j < n by omega) hp hd).1 (fun e => hjk e.symm)
      rw [h2 d hdk]
      exact br.told j p d (by omega) hp hex hd W ht
theorem br_step {Q : Act → World → Prop} (hsel : Region.noSelect ops = true) (hB : headB md ops n = true) (inv : Inv P ops md n ks w0 a0 s a w u) {k : Nat} {o : Oper} {rest : List Oper} (hk : k < n) (ho : ops[k]? = some o) {b : Act} {F : Facts} (br : Br ops ks a0 s a u k b F)
    (ht : tree P ops ks w0 Q (o :: rest) F b) : ∃ b' F', tree P ops ks w0 Q rest F' b' ∧ Br ops ks a0 s a u (k + 1) b' F' := by
  have hfree : ∀ d, o.dst = some d → ∀ W, F d W := fun d hd W => br.free d (fun j p hj hp hpd => (head_apart hB hk ho (show j < n by omega) hp hpd).1 (by omega) hd) W
  unfold tree at ht
  cases hex : s.getD k false with
  | false =>
    have nx : ∀ {p : Prop}, s.getD k false = true → p := fun h => by rw [hex] at h; cases h
    by_cases hw : Region.wanted o (yielded ops b.tmps) = true
    · rw [if_pos hw] at ht
      cases hkd : kindOf ks o with
      | none =>
        rw [hkd] at ht
        obtain ⟨_, v, _, h⟩ := ht
        exact ⟨_, F, h, br_next hB hk ho br v (fun h => nx h) (fun _ _ => rfl) (fun _ h => nx h)⟩
      | some kd =>
        rw [hkd] at ht
        cases kd with
        | const c => exact ⟨_, F, ht.2, br_next hB hk ho br c (fun h => nx h) (fun _ _ => rfl) (fun _ h => nx h)⟩
        | any V hV => exact ⟨_, _, ht.2 undef, br_next hB hk ho br undef (fun h => nx h) (fun d hd => by
            funext W
            unfold Facts.put
            cases hod : o.dst with
            | none => rfl
            | some y => simp only []; rw [if_neg (fun e => hd (by rw [hod, e]))]) (fun _ h => nx h)⟩
    · rw [if_neg hw] at ht
      exact ⟨_, F, ht, br_next hB hk ho br undef (fun h => nx h) (fun _ _ => rfl) (fun _ h => nx h)⟩
  | true =>
    have hset := settled_of (s := s) hB hk ho (inv.head.closed k o ho hex)
    obtain ⟨hexec, hwant⟩ := exec_agree o (Region.noSelect_spec hsel k o · · ho) (looks_agree hB inv hk ho hset br)
    have hg := inv.good k o hk ho hex
    unfold Good at hg
    by_cases hw : Region.wanted o (yielded ops b.tmps) = true
    · rw [if_pos hw] at ht
      rw [hwant] at hw
      rw [if_pos hw] at hg
      cases hkd : kindOf ks o with
      | none =>
        rw [hkd] at ht hg
        obtain ⟨_, v, hv, h⟩ := ht
        obtain ⟨W, hgW, hfW, hrW⟩ := hg
        have hrun := hv W hgW (facts_of hB hk ho hset br hfW)
        rw [hexec, hrW] at hrun
        have hvu : v = u k := by injection hrun with h1; injection h1 with h2; exact h2.symm
        exact ⟨_, F, h, br_next hB hk ho br v (fun _ => hvu) (fun _ _ => rfl) (fun d _ hd W _ => hfree d hd W)⟩
      | some kd =>
        rw [hkd] at ht hg
        cases kd with
        | const c => exact ⟨_, F, ht.2, br_next hB hk ho br c (fun _ => hg.symm) (fun _ _ => rfl) (fun d _ hd W _ => hfree d hd W)⟩
        | any V hV => exact ⟨_, _, ht.2 (u k), br_next hB hk ho br (u k) (fun _ => rfl) (fun d hd => by
            funext W
            unfold Facts.put
            cases hod : o.dst with
            | none => rfl
            | some y => simp only []; rw [if_neg (fun e => hd (by rw [hod, e]))]) (fun d _ hd W htold => by
            unfold Facts.put
            rw [hd]
            simp only [if_pos]
            exact htold V hV hkd hw)⟩
    · rw [if_neg hw] at ht
      rw [hwant] at hw
      rw [if_neg hw] at hg
      exact ⟨_, F, ht, br_next hB hk ho br undef (fun _ => hg.symm) (fun _ _ => rfl) (fun d _ hd W _ => hfree d hd W)⟩
theorem reach {Q : Act → World → Prop} (hsel : Region.noSelect ops = true) (hB : headB md ops n = true) (inv : Inv P ops md n ks w0 a0 s a w u) {L : List Oper} (hL : ∀ j, j < n → L[j]? = ops[j]?) (hLn : L.length = n) (ht : tree P ops ks w0 Q L bare a0) :
    ∀ k, k ≤ n → ∃ b F, tree P ops ks w0 Q (L.drop k) F b ∧ Br ops ks a0 s a u k b F
  | 0, _ => ⟨a0, bare, by simpa using ht, rfl, rfl, fun _ _ => rfl, fun j _ _ hj => absurd hj (by omega), fun _ _ _ => trivial, fun j _ _ hj => absurd hj (by omega)⟩
  | k + 1, hk => by
    obtain ⟨b, F, h, br⟩ := reach hsel hB inv hL hLn ht k (by omega)
    obtain ⟨o, ho⟩ := head_op hB (show k < n by omega)
    have hd : L.drop k = o :: L.drop (k + 1) := by
      have h1 : L[k]? = some o := by rw [hL k (by omega)]; exact ho
      obtain ⟨hlt, he⟩ := List.getElem?_eq_some_iff.1 h1
      rw [List.drop_eq_getElem_cons hlt, he]
    rw [hd] at h
    exact br_step hsel hB inv (by omega) ho br h
theorem inv_next (hsel : Region.noSelect ops = true) (hB : headB md ops n = true) (inv : Inv P ops md n ks w0 a0 s a w u) {i : Nat} {o : Oper} (hi : i < n) (ho : ops[i]? = some o) (hr : i ∈ Region.ready md ops s) {v : Value} {w' : World} (hg : Step w0.heap.size w w')
    (hgood : Good P ops n ks w0 u o a w' v) : Inv P ops md n ks w0 a0 (s.setIfInBounds i true) (a.put o.dst v) w' (fun j => if j = i then v else u j) := by
  have hun : s.getD i false = false := getD_both (mem_ready.1 hr).1
  have hset : ∀ j, j ≠ i → (s.setIfInBounds i true).getD j false = true → s.getD j false = true := fun j hj h => by rwa [getD_set_ne false (Ne.symm hj)] at h
  -- an executed operation looks not at the new slot
  have hlook : ∀ j p, j < n → ops[j]? = some p → s.getD j false = true → ∀ d, o.dst = some d → d ∉ p.looksAt ops := fun j p hj hp hex d hd hm => by
    have h1 := waits_done (s := s) hp ((head_apart hB hj hp hi ho hd).2 hm).2 (inv.head.closed j p hp hex)
    rw [hun] at h1
    cases h1
  have hself : ∀ d, o.dst = some d → d ∉ o.looksAt ops := fun d hd hm => by
    have := ((head_apart hB hi ho hi ho hd).2 hm).1
    omega
  have htold : ∀ j p, j < n → ops[j]? = some p → s.getD j false = true → ∀ W, Told ops ks p a W (u j) → Told ops ks p (a.put o.dst v) W (if j = i then v else u j) := fun j p hj hp hex W h V hV hk hw => by
    have hji : j ≠ i := fun e => by rw [e, hun] at hex; cases hex
    rw [wanted_put p a o.dst v (hlook j p hj hp hex)] at hw
    rw [if_neg hji]
    exact h V hV hk hw
  have hgoodp : ∀ p, (∀ d, o.dst = some d → d ∉ p.looksAt ops) → (∀ cs b, p.op ≠ .select cs b) → Settled ops n s p → ∀ x, Good P ops n ks w0 u p a w' x → Good P ops n ks w0 (fun j => if j = i then v else u j) p (a.put o.dst v) w' x := fun p hp hsp hsett x h => by
    unfold Good at h ⊢
    rw [wanted_put p a o.dst v hp]
    by_cases hw : Region.wanted p (yielded ops a.tmps) = true
    · rw [if_pos hw] at h ⊢
      cases hkd : kindOf ks p with
      | none =>
        rw [hkd] at h
        simp only at h ⊢
        obtain ⟨W, h1, h2, h3⟩ := h
        refine ⟨W, h1, fun d hm j q hj hq hd => htold j q hj hq (hsett j q d hj hq hd hm) W (h2 d hm j q hj hq hd), ?_⟩
        rw [execOp_put p hsp a o.dst v hp]
        exact h3
      | some kd =>
        rw [hkd] at h
        cases kd <;> exact h
    · rw [if_neg hw] at h ⊢
      exact h
  refine ⟨inv.head.set hr hi, Below.trans inv.grow hg.old, by rw [put_defers]; exact inv.defers, by rw [put_size]; exact inv.size, fun d h => ?_, fun j p d hj hp hex hd => ?_, fun j p hj hp hex => ?_⟩
  · have hlt : i < s.size := by rw [inv.head.size]; exact (Array.getElem?_eq_some_iff.1 ho).1
    rw [put_get _ _ _ _ (h i o hi ho (by simp [hlt]))]
    exact inv.rest d (fun j p hj hp hex => h j p hj hp (getD_set_true hex))
  · by_cases hji : j = i
    · subst hji
      rw [ho] at hp
      cases hp
      rw [hd]
      simp only [if_pos]
      exact put_self _ _ _ inv.size
    · rw [put_get _ _ _ _ ((head_apart hB hi ho hj hp hd).1 (fun e => hji e.symm))]
      simp only [if_neg hji]
      exact inv.slot j p d hj hp (hset j hji hex) hd
  · by_cases hji : j = i
    · subst hji
      rw [ho] at hp
      cases hp
      simp only [if_pos]
      exact hgoodp o hself (Region.noSelect_spec hsel j o · · ho) (settled_of hB hi ho (mem_ready.1 hr |>.2.elim fun o' h => by
        have e := h.1
        rw [ho] at e
        cases e
        exact h.2)) v hgood
    · have hex' := hset j hji hex
      simp only [if_neg hji]
      refine hgoodp p (hlook j p hj hp hex') (Region.noSelect_spec hsel j p · · hp) (settled_of hB hj hp (inv.head.closed j p hp hex')) (u j) ?_
      have h := inv.good j p hj hp hex'
      unfold Good at h ⊢
      by_cases hw : Region.wanted p (yielded ops a.tmps) = true
      · rw [if_pos hw] at h ⊢
        cases hkd : kindOf ks p with
        | none => rw [hkd] at h; exact h
        | some kd =>
          rw [hkd] at h
          cases kd with
          | const c => exact h
          | any V hV => exact hV _ _ _ hg.soft h
      · rw [if_neg hw] at h ⊢
        exact h
theorem wp_of_rel {B : Nat} {o : Oper} {V : Value → World → Prop} {R : Exit → Act → World → Prop} {K : Act → World → Prop} (h : stepAt P B o a w V) (hK : ∀ v w', Step B w w' → V v w' → K (a.put o.dst v) w') : o.wp P a w K R := by
  unfold stepAt at h
  unfold Oper.wp
  generalize (execOp a.eval o).run P w = r at *
  cases r with
  | ok x w1 =>
    cases x <;> simp only [stepUpon] at h <;> simp only [Oper.upon]
    case value v => exact hK _ _ h.1 h.2
    case skip => exact hK _ _ h.1 h.2
    case enter f args => exact Calls.mono h fun e w'' ⟨v, he, hg, hV⟩ => by subst he; exact hK _ _ hg hV
  | halt x w1 => simp only [stepUpon] at h
theorem canon_eq {s : Array Bool} {m : Nat} (hn : n ≤ m) (hs : s.size = m) (h1 : ∀ j, j < n → s.getD j false = true) (h2 : ∀ j, n ≤ j → j < m → s.getD j true = false) : s = canon n m := by
  apply Array.ext_getElem?
  intro j
  unfold canon
  have e : (List.replicate n true ++ List.replicate (m - n) false).toArray[j]? = (List.replicate n true ++ List.replicate (m - n) false)[j]? := by rw [List.getElem?_toArray]
  rw [e]
  by_cases hj : j < m
  · have hjs : j < s.size := by omega
    rw [Array.getElem?_eq_getElem hjs]
    by_cases hjn : j < n
    · have := h1 j hjn
      simp only [Array.getD_eq_getD_getElem?, Array.getElem?_eq_getElem hjs, Option.getD_some] at this
      rw [this, List.getElem?_append_left (by rw [List.length_replicate]; exact hjn), List.getElem?_replicate, if_pos hjn]
    · have := h2 j (by omega) hj
      simp only [Array.getD_eq_getD_getElem?, Array.getElem?_eq_getElem hjs, Option.getD_some] at this
      rw [this, List.getElem?_append_right (by rw [List.length_replicate]; omega), List.length_replicate, List.getElem?_replicate, if_pos (by omega)]
  · rw [Array.getElem?_eq_none (by omega), List.getElem?_eq_none (by rw [List.length_append, List.length_replicate, List.length_replicate]; omega)]
theorem tree_any {Q : Act → World → Prop} {R : Exit → Act → World → Prop} {g : Nat} (hsel : Region.noSelect ops = true) (hB : headB md ops n = true) (hn : n ≤ ops.size) (hT : ∀ s, HeadInv md ops n s → ∀ i, i < n → s.getD i true = false → ∀ t, t ∈ Region.ready md ops s → t < n)
    {L : List Oper} (hL : ∀ j, j < n → L[j]? = ops[j]?) (hLn : L.length = n) (ht : tree P ops ks w0 Q L bare a0) (hQ : ∀ a w, Q a w → wpAny P md ops R g (canon n ops.size) a w) :
    ∀ (m : Nat) (s : Array Bool) (a : Act) (w : World) (u : Nat → Value), Inv P ops md n ks w0 a0 s a w u → cnt s n = m → wpAny P md ops R (m + g) s a w
  | 0, s, a, w, u, inv, hc => by
    have hall := cnt_zero n hc
    obtain ⟨b, F, h, br⟩ := reach hsel hB inv hL hLn ht n (Nat.le_refl _)
    rw [List.drop_of_length_le (by omega)] at h
    have hba : b = a := by
      have e1 : b.tmps = a.tmps := by
        apply Array.ext_getElem?
        intro d
        by_cases hx : ∃ j p, j < n ∧ ops[j]? = some p ∧ p.dst = some d
        · obtain ⟨j, p, hj, hp, hd⟩ := hx
          rw [br.slot j p d hj hp (hall j hj) hd, inv.slot j p d hj hp (hall j hj) hd]
        · rw [br.rest d (fun j p hj hp hd => hx ⟨j, p, hj, hp, hd⟩), inv.rest d (fun j p hj hp _ hd => hx ⟨j, p, hj, hp, hd⟩)]
      have e2 : b.defers = a.defers := br.defers.trans inv.defers.symm
      cases b; cases a
      simp only at e1 e2
      rw [e1, e2]
    rw [hba] at h
    have hq : Q a w := h w inv.grow (fun d => by
      by_cases hx : ∃ j p, j < n ∧ ops[j]? = some p ∧ p.dst = some d
      · obtain ⟨j, p, hj, hp, hd⟩ := hx
        exact br.told j p d hj hp (hall j hj) hd w (told_now inv hj hp (hall j hj))
      · exact br.free d (fun j p hj hp hd => hx ⟨j, p, hj, hp, hd⟩) w)
    rw [Nat.zero_add, canon_eq hn inv.head.size hall (fun j h1 h2 => inv.head.tail j h1 h2)]
    exact hQ a w hq
  | m + 1, s, a, w, u, inv, hc => by
    have e : m + 1 + g = m + g + 1 := by omega
    rw [e]
    obtain ⟨i0, hi0, hf0, hlow⟩ := cnt_pos (s := s) n (by omega)
    have hs0 : i0 < s.size := by rw [inv.head.size]; omega
    obtain ⟨o0, ho0⟩ := head_op hB hi0
    have hr0 : i0 ∈ Region.ready md ops s := mem_ready.2 ⟨getD_in hs0 hf0, o0, ho0, fun e he hb => hlow e.on (head_edges hB hi0 ho0 e he hb)⟩
    refine ⟨fun h => (by rw [h] at hr0; cases hr0), fun i hi => ?_⟩
    have hin : i < n := hT s inv.head i0 hi0 (getD_in hs0 hf0) i hi
    obtain ⟨hun, o, ho, hall⟩ := mem_ready.1 hi
    have hset : Settled ops n s o := settled_of hB hin ho hall
    obtain ⟨b, F, h, br⟩ := reach hsel hB inv hL hLn ht i (by omega)
    have hd : L.drop i = o :: L.drop (i + 1) := by
      have h1 : L[i]? = some o := by rw [hL i hin]; exact ho
      obtain ⟨hlt, he⟩ := List.getElem?_eq_some_iff.1 h1
      rw [List.drop_eq_getElem_cons hlt, he]
    rw [hd] at h
    obtain ⟨hexec, hwant⟩ := exec_agree o (Region.noSelect_spec hsel i o · · ho) (looks_agree hB inv hin ho hset br)
    have hfw := facts_of hB hin ho hset br (W := w) (fun d hm j p hj hp hpd => told_now inv hj hp (hset j p d hj hp hpd hm))
    have hcs : cnt (s.setIfInBounds i true) n = m := by
      have := cnt_set (s := s) (i := i) (by rw [inv.head.size]; omega) (getD_both hun) n hin
      omega
    have next : ∀ v w', Step w0.heap.size w w' → Good P ops n ks w0 u o a w' v → wpAny P md ops R (m + g) (s.setIfInBounds i true) (a.put o.dst v) w' := fun v w' hg hgood =>
      tree_any hsel hB hn hT hL hLn ht hQ m _ _ _ _ (inv_next hsel hB inv hin ho hi hg hgood) hcs
    unfold tree at h
    unfold wpOp
    simp only [ho]
    by_cases hw : Region.wanted o (yielded ops b.tmps) = true
    · rw [if_pos hw] at h
      rw [hwant] at hw
      rw [if_pos hw]
      refine .inl ?_
      have hgd : ∀ v w', (match kindOf ks o with
          | .none => ∃ W, Grow w0 W ∧ (∀ d, d ∈ o.looksAt ops → ∀ j p, j < n → ops[j]? = some p → p.dst = some d → Told ops ks p a W (u j)) ∧ (execOp a.eval o).run P W = .ok (.value v) W
          | .some (.const c) => v = c
          | .some (.any V _) => V v w') → Good P ops n ks w0 u o a w' v := fun v w' hx => by
        unfold Good
        rw [if_pos hw]
        exact hx
      cases hkd : kindOf ks o with
      | none =>
        rw [hkd] at h
        obtain ⟨_, v, hv, _⟩ := h
        have hrun := hv w inv.grow hfw
        rw [hexec] at hrun
        unfold Oper.wp
        rw [hrun]
        exact next v w (Step.refl _ _) (hgd v w (by
          rw [hkd]
          exact ⟨w, inv.grow, fun d hm j p hj hp hpd => told_now inv hj hp (hset j p d hj hp hpd hm), hrun⟩))
      | some kd =>
        rw [hkd] at h
        cases kd with
        | const c =>
          have hr := h.1 w inv.grow hfw
          unfold stepAt at hr
          rw [hexec] at hr
          exact wp_of_rel hr (fun v w' hg hv => next v w' hg (hgd v w' (by rw [hkd]; exact hv)))
        | any V hV =>
          have hr := h.1 w inv.grow hfw
          unfold stepAt at hr
          rw [hexec] at hr
          exact wp_of_rel hr (fun v w' hg hv => next v w' hg (hgd v w' (by rw [hkd]; exact hv)))
    · rw [hwant] at hw
      rw [if_neg hw]
      exact next undef w (Step.refl _ _) (by unfold Good; rw [if_neg hw])
/-- The region's law: n operations in whatever order, then a tail in one order. -/
theorem wp_region_rel {id : Nat} {Q : Exit → Act → World → Prop} {a : Act} {w : World} {l : List Oper} (n : Nat) (ks : List (Tmp × Kind)) (hm : P.follows .mixedOrders = true) (hB : okB .any l.toArray n = true)
    (h : tree P l.toArray ks w.drew (fun a' W => wpList P l.toArray Q (l.drop n) a' W) (l.take n) bare a) : (Code.region id l.toArray true).wp P Q a w := by
  simp only [okB, Bool.and_eq_true] at hB
  obtain ⟨⟨⟨hsel, hhead⟩, htail⟩, hseq⟩ := hB
  have hn : n ≤ l.toArray.size := by
    simp only [tailB, Bool.or_eq_true, decide_eq_true_eq, Bool.and_eq_true] at htail
    omega
  have hnl : n ≤ l.length := by simpa using hn
  have hT : ∀ s, HeadInv .any l.toArray n s → ∀ i, i < n → s.getD i true = false → ∀ t, t ∈ Region.ready .any l.toArray s → t < n := fun s inv i hi hun t ht => by
    simp only [tailB, Bool.or_eq_true, decide_eq_true_eq, Bool.and_eq_true] at htail
    rcases htail with h1 | ⟨⟨h1, h2⟩, h3⟩
    · obtain ⟨_, o, ho, _⟩ := mem_ready.1 ht
      have := (Array.getElem?_eq_some_iff.1 ho).1
      omega
    · rcases Nat.lt_or_ge t n with h4 | h4
      · exact h4
      · exact absurd ht (tail_waits h2 h3 h1 inv _ i rfl hi hun t h4)
  have inv0 : Inv P l.toArray .any n ks w.drew a (Array.replicate l.toArray.size false) a w.drew (fun _ => undef) :=
    ⟨⟨by simp, fun j oj _ hl => (by rw [getD_replicate_false] at hl; cases hl), fun t _ ht => getD_in (by simpa using ht) (getD_replicate_false _ _)⟩, Grow.refl _, rfl, rfl, fun _ _ => rfl, fun j o d _ _ hl => (by rw [getD_replicate_false] at hl; cases hl), fun j o _ _ hl => (by rw [getD_replicate_false] at hl; cases hl)⟩
  have hc : ∀ m, cnt (Array.replicate l.toArray.size false) m = m := fun m => by
    induction m with
    | zero => rfl
    | succ m ih => rw [cnt, ih, getD_replicate_false]; rfl
  refine wp_region_any hm ?_
  have hdl : (l.drop n).length = l.toArray.size - n := by simp
  have := tree_any (g := l.toArray.size - n) (R := Q) hsel hhead hn hT (L := l.take n) (fun j hj => by simp [hj]) (by simp; omega) h (fun a' w' hq => by
    have h2 := wpAny_of_seq (md := .any) (Q' := Q) (l.drop n) n (canon n l.toArray.size) a' w' (fun j => by simp [List.getElem?_drop]) (by rw [hdl]; exact hseq) hq
    rwa [hdl] at h2) n _ _ _ _ inv0 (hc n)
  rw [show n + (l.toArray.size - n) = l.toArray.size by omega] at this
  exact this
/-! ### Steps -/
theorem tree_skip {Q : Act → World → Prop} {o : Oper} {rest : List Oper} {F : Facts} (hw : Region.wanted o (yielded ops a.tmps) = false) (h : tree P ops ks w0 Q rest F (a.put o.dst undef)) : tree P ops ks w0 Q (o :: rest) F a := by
  unfold tree
  rw [if_neg (by rw [hw]; exact Bool.false_ne_true)]
  exact h
/-- An operation as it stands, in a class of worlds: the quiet walk's own step serves. -/
theorem tree_quiet {Q : Act → World → Prop} {o : Oper} {rest : List Oper} {F : Facts} (hw : Region.wanted o (yielded ops a.tmps) = true) (hk : kindOf ks o = .none) (hp : pureOp o = true)
    (h : ∀ K : Act → Prop, (∀ a', tree P ops ks w0 Q rest F a' → K a') → o.quiet P a (fun w' => ∃ p : Regrown, w' = Sort.grow (redrawn w0 p.d) p.os) K) : tree P ops ks w0 Q (o :: rest) F a := by
  unfold tree
  rw [if_pos hw, hk]
  obtain ⟨v, hv, hn⟩ := h _ (fun _ h => h)
  refine ⟨hp, v, fun W hg _ => ?_, hn⟩
  have hq := hv W (regrown_of_below hg)
  unfold Oper.quietAt at hq
  generalize hr : (execOp a.eval o).run P W = r at *
  cases r with
  | ok x w1 =>
    obtain ⟨y, rfl⟩ := value_of_pure hp hr
    simp only [Oper.quietUpon] at hq
    rw [hq.1, hq.2]
  | halt x w1 => simp only [Oper.quietUpon] at hq
theorem tree_pure {Q : Act → World → Prop} {o : Oper} {rest : List Oper} {F : Facts} (hw : Region.wanted o (yielded ops a.tmps) = true) (hk : kindOf ks o = .none) (hp : pureOp o = true) (v : Value)
    (h : ∀ W, Grow w0 W → (∀ d, d ∈ o.looksAt ops → F d W) → (execOp a.eval o).run P W = .ok (.value v) W) (hn : tree P ops ks w0 Q rest F (a.put o.dst v)) : tree P ops ks w0 Q (o :: rest) F a := by
  unfold tree
  rw [if_pos hw, hk]
  exact ⟨hp, v, h, hn⟩
theorem tree_const {Q : Act → World → Prop} {o : Oper} {rest : List Oper} {F : Facts} (hw : Region.wanted o (yielded ops a.tmps) = true) (c : Value) (hk : kindOf ks o = some (.const c))
    (h : ∀ W, Grow w0 W → (∀ d, d ∈ o.looksAt ops → F d W) → relAt P o a W (fun v _ => v = c)) (hn : tree P ops ks w0 Q rest F (a.put o.dst c)) : tree P ops ks w0 Q (o :: rest) F a := by
  unfold tree
  rw [if_pos hw, hk]
  exact ⟨fun W hW hF => stepAt.of (Below.size hW) (h W hW hF), hn⟩
theorem tree_rel {Q : Act → World → Prop} {o : Oper} {rest : List Oper} {F : Facts} (hw : Region.wanted o (yielded ops a.tmps) = true) (V : Value → World → Prop) (hV : ∀ v W W', Soft W W' → V v W → V v W') (hk : kindOf ks o = some (.any V hV))
    (h : ∀ W, Grow w0 W → (∀ d, d ∈ o.looksAt ops → F d W) → relAt P o a W V) (hn : ∀ v, tree P ops ks w0 Q rest (F.put o.dst (V v)) (a.put o.dst v)) : tree P ops ks w0 Q (o :: rest) F a := by
  unfold tree
  rw [if_pos hw, hk]
  exact ⟨fun W hW hF => stepAt.of (Below.size hW) (h W hW hF), hn⟩
/-- The same, where an operation turns a new block's mark. -/
theorem tree_step {Q : Act → World → Prop} {o : Oper} {rest : List Oper} {F : Facts} (hw : Region.wanted o (yielded ops a.tmps) = true) (V : Value → World → Prop) (hV : ∀ v W W', Soft W W' → V v W → V v W') (hk : kindOf ks o = some (.any V hV))
    (h : ∀ W, Grow w0 W → (∀ d, d ∈ o.looksAt ops → F d W) → stepAt P w0.heap.size o a W V) (hn : ∀ v, tree P ops ks w0 Q rest (F.put o.dst (V v)) (a.put o.dst v)) : tree P ops ks w0 Q (o :: rest) F a := by
  unfold tree
  rw [if_pos hw, hk]
  exact ⟨h, hn⟩
/-- A row that an operation has made: its cells, in a block that is new since B. -/
def Lit8 (B : Nat) (t : TypeId) (cs : List Value) (v : Value) (W : World) : Prop := ∃ g, v = .slice (some ⟨g, 0, none⟩) cs.length cs.length ∧ B ≤ g ∧ g < W.heap.size ∧ W.shape? g = some (t, cs.length) ∧ ∀ (i : Nat) (x : Value), cs[i]? = some x → W.cell? ⟨g, i, none⟩ = some x
theorem Lit8.soft {B : Nat} {t : TypeId} {cs : List Value} : ∀ v W W', Soft W W' → Lit8 B t cs v W → Lit8 B t cs v W' := fun _ _ _ h ⟨g, h1, h2, h3, h4, h5⟩ =>
  ⟨g, h1, h2, Nat.lt_of_lt_of_le h3 h.size, h.shape _ _ h4, fun i x hx => h.cell _ _ (h5 i x hx)⟩
theorem alloc_at (W : World) (o : Obj) : (W.alloc o).heap[W.heap.size]? = some o := by
  show (W.heap.push o)[W.heap.size]? = some o
  simp
theorem lit8_new {B : Nat} {t : TypeId} {W : World} (cs : List Value) (hB : B ≤ W.heap.size) : Lit8 B t cs (.slice (some ⟨W.heap.size, 0, none⟩) cs.length cs.length) (W.alloc (.cells cs.toArray t)) := by
  refine ⟨W.heap.size, rfl, hB, by simp, ?_, fun i x hx => ?_⟩
  · unfold World.shape?
    rw [alloc_at]
    rfl
  · unfold World.cell?
    rw [alloc_at]
    simpa using hx
def fzO (n : Nat) : Obj → Obj
  | .cells c elem (lo, hi) => .cells c elem (if lo == hi then (n, n + 1) else (min lo n, max hi (n + 1)))
  | o => o
theorem freeze_heap (W : World) (g n : Nat) : (W.freeze ⟨g, n, none⟩ 1).heap = W.heap.modify g (fzO n) := by
  unfold World.freeze
  rw [if_neg (by decide)]
  dsimp only
  congr 1
theorem freeze_at (W : World) (g n k : Nat) : (W.freeze ⟨g, n, none⟩ 1).heap[k]? = if g = k then (W.heap[k]?).map (fzO n) else W.heap[k]? := by
  rw [freeze_heap]
  exact Array.getElem?_modify
theorem freeze_rest (W : World) (g n : Nat) : (W.freeze ⟨g, n, none⟩ 1).os = W.os ∧ (W.freeze ⟨g, n, none⟩ 1).tape = W.tape ∧ (W.freeze ⟨g, n, none⟩ 1).output = W.output := by
  unfold World.freeze
  rw [if_neg (by decide)]
  exact ⟨rfl, rfl, rfl⟩
theorem freeze_step {B g n : Nat} {W : World} (hB : B ≤ g) (hu : ∀ cs t fr, W.heap[g]? = some (.cells cs t fr) → t = 5) : Step B W (W.freeze ⟨g, n, none⟩ 1) := by
  obtain ⟨h1, h2, h3⟩ := freeze_rest W g n
  refine ⟨⟨h1, h2, h3, by rw [freeze_heap]; simp, fun k hk => ?_⟩, ⟨by rw [freeze_heap]; simp, fun p v hp => ?_, fun k x hx => ?_, fun k cs t fr hn hx => ?_⟩⟩
  · rw [freeze_at, if_neg (by omega)]
  · unfold World.cell? at hp ⊢
    rw [freeze_at]
    by_cases h : g = p.block
    · rw [if_pos h]
      cases ho : W.heap[p.block]? with
      | none => rw [ho] at hp; cases hp
      | some o =>
        rw [ho] at hp
        cases o <;> first | exact hp | cases hp
    · rw [if_neg h]
      exact hp
  · unfold World.shape? at hx ⊢
    rw [freeze_at]
    by_cases h : g = k
    · rw [if_pos h]
      cases ho : W.heap[k]? with
      | none => rw [ho] at hx; cases hx
      | some o =>
        rw [ho] at hx
        cases o <;> first | exact hx | cases hx
    · rw [if_neg h]
      exact hx
  · rw [freeze_at]
    by_cases h : g = k
    · subst h
      exact absurd (hu cs t fr hx) hn
    · rw [if_neg h]
      exact hx
/-- A constant string's bytes: the row's mark turns, its value goes on. -/
theorem stepAt_const {B : Nat} {t e : TypeId} {o : Oper} {cs : List Value} {x : Operand} {W : World} (ho : o.op = .convert t t x) (ht : P.underlying t = some (.slice e)) (he : P.underlying e = some (.int .u8)) (v : Value) (hx : a.eval x = v) (h : Lit8 B e cs v W) (he8 : e = 5 := by rfl) :
    stepAt P B o a W (Lit8 B e cs) := by
  obtain ⟨g, rfl, hB, hlt, hs, hc⟩ := h
  have hr : (Go.convert t t (.slice (some ⟨g, 0, none⟩) cs.length cs.length)).run P W = .ok (.slice (some ⟨g, 0, none⟩) cs.length cs.length) (W.freeze ⟨g, cs.length, none⟩ 1) := by
    simp [Go.convert, run_underlying ht, run_underlying he, markStringish, hs]
  unfold stepAt execOp
  simp only [ho, hx]
  rw [Sem.run_bind, hr]
  simp only [Result.andThen_ok, Sem.run_pure, stepUpon]
  have hst : Step B W (W.freeze ⟨g, cs.length, none⟩ 1) := freeze_step hB (fun c t fr hg => by
    unfold World.shape? at hs
    rw [hg] at hs
    simp at hs
    rw [hs.1, he8])
  exact ⟨hst, Lit8.soft _ _ _ hst.soft ⟨g, rfl, hB, hlt, hs, hc⟩⟩
theorem Grow.alloc (W : World) (o : Obj) : Grow W (W.alloc o) := (Below.refl _ W).alloc (Nat.le_refl _) _
end
end Rel
end Go.Proofs.YtmiaabpnolebhaaGreatDoor

/-
  Bytes of one's own: what the reference hands back.
-/
namespace Go.Proofs.YtmiaabpnolebhaaGreatDoor
open Go.RowKit

namespace R1
/-- Bytes of one's own. -/
def OwnB (w : World) (base : Nat) (v : Value) (l : List Nat) : Prop := w.ownsRow base 5 1 v l.length (l.map fun x => Value.int .u8 ((x : Nat) : Int))
theorem u8_info : (Tryz.prog.info? 5).map (fun i => (i.zero, i.size, i.bytes)) = some (some (.int .u8 0), 1, 1) := by kernel_rfl
def BytesOut (w : World) (l : List Nat) (e : Ending) (w' : World) : Prop := ∃ v, e = .returned v ∧ OwnB w' w.heap.size v l ∧ Below w.heap.size w w'
end R1
end Go.Proofs.YtmiaabpnolebhaaGreatDoor

/-
  Words for the drawn regions' walk (Rel): bytes that a call hands back; arrays by value.
-/
namespace Go.Proofs.YtmiaabpnolebhaaGreatDoor
open Go.RowKit

namespace R1
/-- A slice that reads as bytes. -/
def Bytes (l : List Nat) (v : Value) (W : World) : Prop := ∃ A c, v = .slice A l.length c ∧ l.length ≤ c ∧ Nats .u8 256 W W.heap.size A l
theorem nats_soft {k : IntKind} {M : Nat} {W W' : World} {A : Option Addr} {l : List Nat} (h : Rel.Soft W W') (hN : Nats k M W W.heap.size A l) : Nats k M W' W'.heap.size A l := fun i z hz => by
  obtain ⟨h1, b, off, h2, h3, h4⟩ := hN i z hz
  exact ⟨h1, b, off, h2, Nat.lt_of_lt_of_le h3 h.size, h.cell _ _ h4⟩
theorem Bytes.grow {l : List Nat} : ∀ (v : Value) (W W' : World), Rel.Soft W W' → Bytes l v W → Bytes l v W' := fun _ _ _ h ⟨A, c, h1, h2, h3⟩ => ⟨A, c, h1, h2, nats_soft h h3⟩
theorem own_nats {w : World} {base : Nat} {v : Value} {l : List Nat} (h : OwnB w base v l) (hb : ∀ x ∈ l, x < 256) :
    ∃ A c, v = .slice A l.length c ∧ l.length ≤ c ∧ Nats .u8 256 w w.heap.size A l ∧ ∀ ad : Addr, A = some ad → base ≤ ad.block := by
  have h' : w.ownsRow base 5 1 v l.length ((l.map fun x => ((x : Nat) : Int)).map (Value.int .u8)) := by
    simpa [OwnB, List.map_map, Function.comp_def] using h
  obtain ⟨_, A, c, rfl, hc, hi, hA⟩ := own_ints h' (fun z hz => by
    obtain ⟨x, hx, rfl⟩ := List.mem_map.1 hz
    have := hb x hx
    have hw : ∀ n : Fin 256, (Lit.int .u8 ((n.val : Nat) : Int)).wf = true := by decide +kernel
    exact hw ⟨x, this⟩)
  refine ⟨A, c, rfl, hc, fun i z hz => ?_, hA⟩
  obtain ⟨_, b, off, h1, h2, h3⟩ := hi i z (by simp [hz])
  exact ⟨hb z (List.mem_of_getElem? hz), b, off, h1, h2, h3⟩
theorem own_bytes {w : World} {base : Nat} {v : Value} {l : List Nat} (h : OwnB w base v l) (hb : ∀ x ∈ l, x < 256) : Bytes l v w :=
  let ⟨A, c, h1, h2, h3, _⟩ := own_nats h hb
  ⟨A, c, h1, h2, h3⟩
/-- A call that hands back bytes, in the drawn walk. -/
theorem bytes_call {P : Program} {f : FuncId} {args : Array Value} {W : World} {l : List Nat} (h : Calls P f args W (BytesOut W l)) (hb : ∀ x ∈ l, x < 256) : Calls P f args W (fun e w'' => ∃ v, e = .returned v ∧ Rel.Grow W w'' ∧ Bytes l v w'') :=
  h.mono fun _ _ ⟨v, he, ho, hB⟩ => ⟨v, he, hB, own_bytes ho hb⟩
theorem const_call {P : Program} {f : FuncId} {args : Array Value} {W : World} {c : Value} (h : Calls P f args W (fun e w' => e = .returned c ∧ Below W.heap.size W w')) : Calls P f args W (fun e w'' => ∃ v, e = .returned v ∧ Rel.Grow W w'' ∧ v = c) :=
  h.mono fun _ _ ⟨he, hB⟩ => ⟨c, he, hB, rfl⟩
end R1
theorem nats_far {k : IntKind} {M : Nat} {w : World} {B : Nat} {A : Option Addr} {l : List Nat} (h : Nats k M w B A l) {g : Nat} (hne : ∀ ad : Addr, A = some ad → ad.block ≠ g) (i : Nat) (u : Value) : Nats k M (w.setCell ⟨g, i, none⟩ u) B A l := fun j z hz => by
  obtain ⟨h1, b, off, h2, h3, h4⟩ := h j z hz
  refine ⟨h1, b, off, h2, h3, ?_⟩
  rw [← h4]
  exact World.cell?_of_block (Below.heap_setCell w ⟨g, i, none⟩ u b (hne _ h2))
namespace Rel
theorem exec_load {P : Program} {o : Oper} {a : Act} {W : World} (ty : TypeId) (x : Operand) (ho : o.op = .load ty x) (b off : Nat) (hx : a.eval x = .pointer (some ⟨b, off, none⟩)) (cs : Array Value) (d : TypeDesc) (hc : W.rangeAt b off cs.toList) (hu : P.underlying ty = some d) (hd : d.isRow = true) (hi : (P.info? ty).map (·.size) = some cs.size) :
    (execOp a.eval o).run P W = .ok (.value (.agg cs)) W := by
  unfold execOp
  simp only [ho, hx]
  rw [Sem.run_bind, run_loadAt_mid W b off ty cs.toList d hc hu hd (by simpa using hi)]
  simp [Result.andThen]
theorem exec_field {P : Program} {o : Oper} {a : Act} {W : World} (ty : TypeId) (x : Operand) (i : Nat) (ho : o.op = .field ty x i) (v v' : Value) (hx : a.eval x = v) (h : (Instr.field ty v i).run P W = .ok v' W) : (execOp a.eval o).run P W = .ok (.value v') W := by
  unfold execOp
  simp only [ho, hx]
  rw [Sem.run_bind, h]
  simp [Result.andThen]
theorem exec_build {P : Program} {o : Oper} {a : Act} {W : World} (t : TypeId) (parts : List (Nat × Operand)) (ho : o.op = .build t parts.toArray) (cells : Array Value) (h : P.built t (parts.map fun p => (p.1, a.eval p.2)) = some cells) : (execOp a.eval o).run P W = .ok (.value (.agg cells)) W := by
  have h' : P.built t (parts.toArray.map fun (i, x) => (i, a.eval x)).toList = some cells := by
    rw [← h]
    congr 1
    simp
  unfold execOp
  simp only [ho]
  rw [Sem.run_bind, run_build W t _ cells h']
  simp [Result.andThen]
theorem Grow.blk {w W : World} {g : Nat} {t : TypeId} {cs : Array Value} (h : Grow w W) (k : Blk w g t cs) : Blk W g t cs := k.next h rfl
theorem Grow.undrew {w W : World} (h : Grow w.drew W) : Below w.heap.size w W := by
  have h' : Below w.drew.heap.size w.drew W := h
  exact ⟨h'.os, h'.tape, h'.output, h'.size, h'.block⟩
end Rel
end Go.Proofs.YtmiaabpnolebhaaGreatDoor

/-
  Rel once more, where no block's mark turns: what is told of a slot need only stand under growth of memory.
-/
namespace Go.Proofs.YtmiaabpnolebhaaGreatDoor
open Go Go.RowKit

namespace RelG
/-- One operation's doing: what is older than B stands, all else reads the same. -/
structure Step (B : Nat) (W W' : World) : Prop where
  old : Below B W W'
  soft : Rel.Grow W W'
theorem Step.refl (B : Nat) (W : World) : Step B W W := ⟨Below.refl _ _, Rel.Grow.refl _⟩
theorem Step.of {B : Nat} {W W' : World} (hB : B ≤ W.heap.size) (h : Rel.Grow W W') : Step B W W' := ⟨Below.mono h hB, h⟩
/-- What an operation's value is: a constant; or told by a predicate. -/
inductive Kind where
  | const (c : Value)
  | any (V : Value → World → Prop) (h : ∀ v W W', Rel.Grow W W' → V v W → V v W')
def kindOf (ks : List (Tmp × Kind)) (o : Oper) : Option Kind := match o.dst with
  | some d => ks.lookup d
  | none => none
/-- Operations that are walked as they stand. -/
def pureOp (o : Oper) : Bool := match o.op with
  | .move _ | .assign _ | .pick _ _ _ | .build _ _ | .load _ _ | .binOp _ _ _ _ _ | .unOp _ _ _ | .convert _ _ _ | .slice _ _ _ _ _ | .fieldAddr _ _ _ | .field _ _ _ | .indexAddr _ _ _ | .index _ _ _ | .extract _ _ | .sliceToArrayPointer _ _ => true
  | _ => false
section
variable {P : Program} {ops : Array Oper} {md : Region.Mode}
theorem value_of_pure {o : Oper} {ρ : Operand → Value} {w w' : World} {n : Next} (hp : pureOp o = true) (h : (execOp ρ o).run P w = .ok n w') : ∃ u, n = .value u := by
  have key : ∀ (s : Sem Value), (do let x ← s; pure (Next.value x) : Sem Next).run P w = .ok n w' → ∃ u, n = .value u := fun s hs => by
    rw [Sem.run_bind] at hs
    cases hr : s.run P w with
    | ok x w1 => rw [hr] at hs; simp [Result.andThen] at hs; exact ⟨x, hs.1.symm⟩
    | halt x w1 => rw [hr] at hs; simp [Result.andThen] at hs
  obtain ⟨dst, op, type, pos, after, guard⟩ := o
  cases op <;> simp only [pureOp, Bool.false_eq_true] at hp <;> simp only [execOp] at h
  case move x => simp at h; exact ⟨_, h.1.symm⟩
  case assign x => simp at h; exact ⟨_, h.1.symm⟩
  case pick c x y =>
    rw [Sem.run_bind] at h
    cases hr : (asBool (ρ c)).run P w with
    | ok b w1 => rw [hr] at h; simp [Result.andThen] at h; exact ⟨_, h.1.symm⟩
    | halt b w1 => rw [hr] at h; simp [Result.andThen] at h
  all_goals exact key _ h
/-- An operation that may make memory, or call. -/
def relUpon (P : Program) (W : World) (V : Value → World → Prop) : Result Next → Prop
  | .ok (.value v) w' => Rel.Grow W w' ∧ V v w'
  | .ok .skip w' => Rel.Grow W w' ∧ V undef w'
  | .ok (.enter f args) w' => Calls P f args w' (fun e w'' => ∃ v, e = .returned v ∧ Rel.Grow W w'' ∧ V v w'')
  | _ => False
def relAt (P : Program) (o : Oper) (a : Act) (W : World) (V : Value → World → Prop) : Prop := relUpon P W V ((execOp a.eval o).run P W)
def stepUpon (P : Program) (B : Nat) (W : World) (V : Value → World → Prop) : Result Next → Prop
  | .ok (.value v) w' => Step B W w' ∧ V v w'
  | .ok .skip w' => Step B W w' ∧ V undef w'
  | .ok (.enter f args) w' => Calls P f args w' (fun e w'' => ∃ v, e = .returned v ∧ Step B W w'' ∧ V v w'')
  | _ => False
def stepAt (P : Program) (B : Nat) (o : Oper) (a : Act) (W : World) (V : Value → World → Prop) : Prop := stepUpon P B W V ((execOp a.eval o).run P W)
theorem stepAt.of {P : Program} {B : Nat} {o : Oper} {a : Act} {W : World} {V : Value → World → Prop} (hB : B ≤ W.heap.size) (h : relAt P o a W V) : stepAt P B o a W V := by
  unfold relAt at h
  unfold stepAt
  generalize (execOp a.eval o).run P W = r at *
  cases r with
  | ok x w1 =>
    cases x <;> simp only [relUpon] at h <;> simp only [stepUpon]
    case value v => exact ⟨Step.of hB h.1, h.2⟩
    case skip => exact ⟨Step.of hB h.1, h.2⟩
    case enter f args => exact Calls.mono h fun e w'' ⟨v, he, hg, hV⟩ => ⟨v, he, Step.of hB hg, hV⟩
  | halt x w1 => simp only [relUpon] at h
/-- What is told of slots. -/
abbrev Facts := Tmp → World → Prop
def Facts.put (F : Facts) (d : Option Tmp) (p : World → Prop) : Facts := fun x => match d with
  | some y => if x = y then p else F x
  | none => F x
def bare : Facts := fun _ _ => True
/-- The walk in the text's order. -/
def tree (P : Program) (ops : Array Oper) (ks : List (Tmp × Kind)) (w0 : World) (Q : Act → World → Prop) : List Oper → Facts → Act → Prop
  | [], F, a => ∀ W, Rel.Grow w0 W → (∀ d, F d W) → Q a W
  | o :: rest, F, a => if Region.wanted o (yielded ops a.tmps) then
      match kindOf ks o with
      | .none => pureOp o = true ∧ ∃ v, (∀ W, Rel.Grow w0 W → (∀ d, d ∈ o.looksAt ops → F d W) → (execOp a.eval o).run P W = .ok (.value v) W) ∧ tree P ops ks w0 Q rest F (a.put o.dst v)
      | .some (.const c) => (∀ W, Rel.Grow w0 W → (∀ d, d ∈ o.looksAt ops → F d W) → stepAt P w0.heap.size o a W (fun v _ => v = c)) ∧ tree P ops ks w0 Q rest F (a.put o.dst c)
      | .some (.any V _) => (∀ W, Rel.Grow w0 W → (∀ d, d ∈ o.looksAt ops → F d W) → stepAt P w0.heap.size o a W V) ∧ ∀ v, tree P ops ks w0 Q rest (F.put o.dst (V v)) (a.put o.dst v)
    else tree P ops ks w0 Q rest F (a.put o.dst undef)
/-- The region's form: edges lead back; each slot is written once; what is looked at is there, or waited for. -/
def headB (md : Region.Mode) (ops : Array Oper) (n : Nat) : Bool :=
  (List.range n).all fun i => match ops[i]? with
    | .none => false
    | .some o => (o.after.all fun e => !Region.binds md e || decide (e.on < i)) &&
      (List.range n).all fun j => match ops[j]? with
        | .none => false
        | .some p => match p.dst with
          | .none => true
          | .some d => (decide (i = j) || (o.dst != .some d)) && (!(o.looksAt ops).contains d || (decide (j < i) && Region.waitsFor md ops i j))
def canon (n m : Nat) : Array Bool := (List.replicate n true ++ List.replicate (m - n) false).toArray
def tailB (md : Region.Mode) (ops : Array Oper) (n : Nat) : Bool := decide (n = ops.size) || (decide (n < ops.size) && Region.sinkB md ops n && Region.chainB md ops n)
def okB (md : Region.Mode) (ops : Array Oper) (n : Nat) : Bool := Region.noSelect ops && headB md ops n && tailB md ops n && Region.seqB md ops (ops.size - n) n (canon n ops.size)
def cnt (s : Array Bool) : Nat → Nat
  | 0 => 0
  | m + 1 => cnt s m + (if s.getD m false then 0 else 1)
theorem cnt_far {s : Array Bool} {i : Nat} : ∀ m, m ≤ i → cnt (s.setIfInBounds i true) m = cnt s m
  | 0, _ => rfl
  | m + 1, h => by rw [cnt, cnt, cnt_far m (by omega), getD_set_ne false (by omega)]
theorem cnt_set {s : Array Bool} {i : Nat} (hs : i < s.size) (hf : s.getD i false = false) : ∀ m, i < m → cnt (s.setIfInBounds i true) m + 1 = cnt s m
  | m + 1, h => by
    by_cases him : i = m
    · subst him
      have e : (s.setIfInBounds i true).getD i false = true := by simp [hs]
      rw [cnt, cnt, cnt_far i (Nat.le_refl _), e, hf]
      simp
    · rw [cnt, cnt, getD_set_ne false him, ← cnt_set hs hf m (by omega)]
      omega
theorem cnt_zero {s : Array Bool} : ∀ m, cnt s m = 0 → ∀ j, j < m → s.getD j false = true
  | m + 1, h, j, hj => by
    rw [cnt] at h
    by_cases hjm : j = m
    · subst hjm
      cases he : s.getD j false
      · rw [he] at h; simp at h
      · rfl
    · exact cnt_zero m (by omega) j (by omega)
theorem cnt_pos {s : Array Bool} : ∀ m, 0 < cnt s m → ∃ i, i < m ∧ s.getD i false = false ∧ ∀ j, j < i → s.getD j false = true
  | m + 1, h => by
    by_cases h0 : 0 < cnt s m
    · obtain ⟨i, hi, hf, ha⟩ := cnt_pos m h0
      exact ⟨i, by omega, hf, ha⟩
    · refine ⟨m, by omega, ?_, cnt_zero m (by omega)⟩
      rw [cnt] at h
      cases he : s.getD m false
      · rfl
      · rw [he] at h; simp at h; omega
theorem head_edges {n i : Nat} {o : Oper} (h : headB md ops n = true) (hi : i < n) (ho : ops[i]? = some o) : ∀ e ∈ o.after, Region.binds md e = true → e.on < i := fun e he hb => by
  have h1 := List.all_eq_true.1 h i (List.mem_range.2 hi)
  simp only [ho, Bool.and_eq_true] at h1
  have h2 := Array.all_eq_true_iff_forall_mem.1 h1.1 e he
  simpa [hb] using h2
theorem head_apart {n i j : Nat} {o p : Oper} {d : Tmp} (h : headB md ops n = true) (hi : i < n) (ho : ops[i]? = some o) (hj : j < n) (hp : ops[j]? = some p) (hd : p.dst = some d) :
    (i ≠ j → o.dst ≠ some d) ∧ (d ∈ o.looksAt ops → j < i ∧ Region.waitsFor md ops i j = true) := by
  have h1 := List.all_eq_true.1 h i (List.mem_range.2 hi)
  simp only [ho, Bool.and_eq_true] at h1
  have h2 := List.all_eq_true.1 h1.2 j (List.mem_range.2 hj)
  simp only [hp, hd, Bool.or_eq_true, decide_eq_true_eq, Bool.and_eq_true, bne_iff_ne, Bool.not_eq_true'] at h2
  refine ⟨fun hij => h2.1.resolve_left hij, fun hm => ?_⟩
  rcases h2.2 with h3 | h3
  · simp [hm] at h3
  · exact h3
theorem head_op {n i : Nat} (h : headB md ops n = true) (hi : i < n) : ∃ o, ops[i]? = some o := by
  have h1 := List.all_eq_true.1 h i (List.mem_range.2 hi)
  cases ho : ops[i]? with
  | none => simp [ho] at h1
  | some o => exact ⟨o, rfl⟩
theorem exec_agree {a b : Act} (o : Oper) (hs : ∀ cs b, o.op ≠ .select cs b) (h : ∀ d, d ∈ o.looksAt ops → b.tmps[d]? = a.tmps[d]?) : execOp b.eval o = execOp a.eval o ∧ Region.wanted o (yielded ops b.tmps) = Region.wanted o (yielded ops a.tmps) := by
  refine ⟨execOp_congr o hs fun x hx => ?_, ?_⟩
  · cases x with
    | tmp d =>
      have := h d (List.mem_append_left _ (List.mem_filterMap.2 ⟨.tmp d, by simpa using hx, rfl⟩))
      simp [Act.eval, this]
    | _ => rfl
  · unfold Region.wanted
    cases hg : o.guard with
    | none => rfl
    | some gw =>
      obtain ⟨g, want⟩ := gw
      have hy : yielded ops b.tmps g = yielded ops a.tmps g := by
        unfold yielded
        cases ht : (ops[g]?).bind (·.dst) with
        | none => rfl
        | some t =>
          have := h t (by simp [Oper.looksAt, hg, ht])
          simp [this]
      simp only [hy]
end
section
variable (P : Program) (ops : Array Oper) (md : Region.Mode) (n : Nat) (ks : List (Tmp × Kind)) (w0 : World) (a0 : Act)
/-- What is told of an executed operation's slot. -/
def Told (p : Oper) (a : Act) (W : World) (v : Value) : Prop := ∀ V h, kindOf ks p = some (.any V h) → Region.wanted p (yielded ops a.tmps) = true → V v W
def Good (u : Nat → Value) (o : Oper) (a : Act) (w : World) (v : Value) : Prop :=
  if Region.wanted o (yielded ops a.tmps) then
    match kindOf ks o with
    | .none => ∃ W, Rel.Grow w0 W ∧ (∀ d, d ∈ o.looksAt ops → ∀ j p, j < n → ops[j]? = some p → p.dst = some d → Told ops ks p a W (u j)) ∧ (execOp a.eval o).run P W = .ok (.value v) W
    | .some (.const c) => v = c
    | .some (.any V _) => V v w
  else v = undef
structure Inv (s : Array Bool) (a : Act) (w : World) (u : Nat → Value) : Prop where
  head : HeadInv md ops n s
  grow : Rel.Grow w0 w
  defers : a.defers = a0.defers
  size : a.tmps.size = a0.tmps.size
  rest : ∀ d, (∀ j o, j < n → ops[j]? = some o → s.getD j false = true → o.dst ≠ some d) → a.tmps[d]? = a0.tmps[d]?
  slot : ∀ j o d, j < n → ops[j]? = some o → s.getD j false = true → o.dst = some d → a.tmps[d]? = (a0.tmps.setIfInBounds d (u j))[d]?
  good : ∀ j o, j < n → ops[j]? = some o → s.getD j false = true → Good P ops n ks w0 u o a w (u j)
structure Br (s : Array Bool) (a : Act) (u : Nat → Value) (k : Nat) (b : Act) (F : Facts) : Prop where
  defers : b.defers = a0.defers
  size : b.tmps.size = a0.tmps.size
  rest : ∀ d, (∀ j o, j < k → ops[j]? = some o → o.dst ≠ some d) → b.tmps[d]? = a0.tmps[d]?
  slot : ∀ j o d, j < k → ops[j]? = some o → s.getD j false = true → o.dst = some d → b.tmps[d]? = (a0.tmps.setIfInBounds d (u j))[d]?
  free : ∀ d, (∀ j o, j < k → ops[j]? = some o → o.dst ≠ some d) → ∀ W, F d W
  told : ∀ j o d, j < k → ops[j]? = some o → s.getD j false = true → o.dst = some d → ∀ W, Told ops ks o a W (u j) → F d W
end
section
variable {P : Program} {ops : Array Oper} {md : Region.Mode} {n : Nat} {ks : List (Tmp × Kind)} {w0 : World} {a0 : Act} {s : Array Bool} {a : Act} {w : World} {u : Nat → Value}
theorem put_get (a : Act) (x : Option Tmp) (v : Value) (d : Tmp) (h : x ≠ some d) : (a.put x v).tmps[d]? = a.tmps[d]? := by
  cases x with
  | none => rfl
  | some y => simp [Act.put, Array.getElem?_setIfInBounds_ne (show y ≠ d from fun e => h (by rw [e]))]
theorem put_size (a : Act) (x : Option Tmp) (v : Value) : (a.put x v).tmps.size = a.tmps.size := by cases x <;> simp [Act.put]
theorem put_defers (a : Act) (x : Option Tmp) (v : Value) : (a.put x v).defers = a.defers := by cases x <;> rfl
theorem put_self (a : Act) (v : Value) (d : Tmp) (hs : a.tmps.size = a0.tmps.size) : (a.put (some d) v).tmps[d]? = (a0.tmps.setIfInBounds d v)[d]? := by
  simp only [Act.put, Array.getElem?_setIfInBounds, hs]
  simp
theorem waits_done {i j : Nat} {o : Oper} (ho : ops[i]? = some o) (hw : Region.waitsFor md ops i j = true) (h : ∀ e ∈ o.after, Region.binds md e = true → s.getD e.on false = true) : s.getD j false = true := by
  obtain ⟨o', ho', e, he, hb, hon⟩ := Region.waitsFor_spec hw
  rw [ho] at ho'
  cases ho'
  rw [← hon]
  exact h e he hb
/-- Every slot that an operation looks at is settled. -/
def Settled (ops : Array Oper) (n : Nat) (s : Array Bool) (o : Oper) : Prop := ∀ j p d, j < n → ops[j]? = some p → p.dst = some d → d ∈ o.looksAt ops → s.getD j false = true
theorem settled_of (hB : headB md ops n = true) {i : Nat} {o : Oper} (hi : i < n) (ho : ops[i]? = some o) (h : ∀ e ∈ o.after, Region.binds md e = true → s.getD e.on false = true) : Settled ops n s o :=
  fun _ _ _ hj hp hd hm => waits_done ho ((head_apart hB hi ho hj hp hd).2 hm).2 h
theorem looks_agree (hB : headB md ops n = true) (inv : Inv P ops md n ks w0 a0 s a w u) {i : Nat} {o : Oper} (hi : i < n) (ho : ops[i]? = some o) (hset : Settled ops n s o) {b : Act} {F : Facts} (br : Br ops ks a0 s a u i b F) :
    ∀ d, d ∈ o.looksAt ops → b.tmps[d]? = a.tmps[d]? := fun d hm => by
  by_cases h : ∃ j p, j < n ∧ ops[j]? = some p ∧ p.dst = some d
  · obtain ⟨j, p, hj, hp, hd⟩ := h
    have hex := hset j p d hj hp hd hm
    have hlt := ((head_apart hB hi ho hj hp hd).2 hm).1
    rw [br.slot j p d hlt hp hex hd, inv.slot j p d hj hp hex hd]
  · rw [br.rest d (fun j p hj hp hd => h ⟨j, p, by omega, hp, hd⟩), inv.rest d (fun j p hj hp _ hd => h ⟨j, p, hj, hp, hd⟩)]
theorem facts_of (hB : headB md ops n = true) {i : Nat} {o : Oper} (hi : i < n) (ho : ops[i]? = some o) (hset : Settled ops n s o) {b : Act} {F : Facts} (br : Br ops ks a0 s a u i b F) {W : World}
    (h : ∀ d, d ∈ o.looksAt ops → ∀ j p, j < n → ops[j]? = some p → p.dst = some d → Told ops ks p a W (u j)) : ∀ d, d ∈ o.looksAt ops → F d W := fun d hm => by
  by_cases hx : ∃ j p, j < n ∧ ops[j]? = some p ∧ p.dst = some d
  · obtain ⟨j, p, hj, hp, hd⟩ := hx
    exact br.told j p d ((head_apart hB hi ho hj hp hd).2 hm).1 hp (hset j p d hj hp hd hm) hd W (h d hm j p hj hp hd)
  · exact br.free d (fun j p hj hp hd => hx ⟨j, p, by omega, hp, hd⟩) W
theorem told_now (inv : Inv P ops md n ks w0 a0 s a w u) {j : Nat} {p : Oper} (hj : j < n) (hp : ops[j]? = some p) (hex : s.getD j false = true) : Told ops ks p a w (u j) := fun V h hk hw => by
  have := inv.good j p hj hp hex
  unfold Good at this
  rw [if_pos hw, hk] at this
  exact this
theorem br_next {k : Nat} {o : Oper} (hB : headB md ops n = true) (hk : k < n) (ho : ops[k]? = some o) {b : Act} {F F' : Facts} (br : Br ops ks a0 s a u k b F) (v : Value)
    (h1 : s.getD k false = true → v = u k) (h2 : ∀ d, o.dst ≠ some d → F' d = F d) (h3 : ∀ d, s.getD k false = true → o.dst = some d → ∀ W, Told ops ks o a W (u k) → F' d W) : Br ops ks a0 s a u (k + 1) (b.put o.dst v) F' := by
  have hne : ∀ d, (∀ j p, j < k + 1 → ops[j]? = some p → p.dst ≠ some d) → o.dst ≠ some d := fun d h => h k o (by omega) ho
  have hlow : ∀ d, (∀ j p, j < k + 1 → ops[j]? = some p → p.dst ≠ some d) → ∀ j p, j < k → ops[j]? = some p → p.dst ≠ some d := fun d h j p hj hp => h j p (by omega) hp
  refine ⟨by rw [put_defers]; exact br.defers, by rw [put_size]; exact br.size, fun d h => by rw [put_get _ _ _ _ (hne d h)]; exact br.rest d (hlow d h), fun j p d hj hp hex hd => ?_, fun d h W => by rw [h2 d (hne d h)]; exact br.free d (hlow d h) W, fun j p d hj hp hex hd W ht => ?_⟩
  · by_cases hjk : j = k
    · subst hjk
      rw [ho] at hp
      cases hp
      rw [hd, h1 hex]
      exact put_self _ _ _ br.size
    · have hdk : o.dst ≠ some d := (head_apart hB hk ho (show j < n by omega) hp hd).1 (fun e => hjk e.symm)
      rw [put_get _ _ _ _ hdk]
      exact br.slot j p d (by omega) hp hex hd
  · by_cases hjk : j = k
    · subst hjk
      rw [ho] at hp
      cases hp
      exact h3 d hex hd W ht
    · have hdk : o.dst ≠ some d := (head_apart hB hk ho (show j < n by omega) hp hd).1 (fun e => hjk e.symm)
      rw [h2 d hdk]
      exact br.told j p d (by omega) hp hex hd W ht
theorem br_step {Q : Act → World → Prop} (hsel : Region.noSelect ops = true) (hB : headB md ops n = true) (inv : Inv P ops md n ks w0 a0 s a w u) {k : Nat} {o : Oper} {rest : List Oper} (hk : k < n) (ho : ops[k]? = some o) {b : Act} {F : Facts} (br : Br ops ks a0 s a u k b F)
    (ht : tree P ops ks w0 Q (o :: rest) F b) : ∃ b' F', tree P ops ks w0 Q rest F' b' ∧ Br ops ks a0 s a u (k + 1) b' F' := by
  have hfree : ∀ d, o.dst = some d → ∀ W, F d W := fun d hd W => br.free d (fun j p hj hp hpd => (head_apart hB hk ho (show j < n by omega) hp hpd).1 (by omega) hd) W
  unfold tree at ht
  cases hex : s.getD k false with
  | false =>
    have nx : ∀ {p : Prop}, s.getD k false = true → p := fun h => by rw [hex] at h; cases h
    by_cases hw : Region.wanted o (yielded ops b.tmps) = true
    · rw [if_pos hw] at ht
      cases hkd : kindOf ks o with
      | none =>
        rw [hkd] at ht
        obtain ⟨_, v, _, h⟩ := ht
        exact ⟨_, F, h, br_next hB hk ho br v (fun h => nx h) (fun _ _ => rfl) (fun _ h => nx h)⟩
      | some kd =>
        rw [hkd] at ht
        cases kd with
        | const c => exact ⟨_, F, ht.2, br_next hB hk ho br c (fun h => nx h) (fun _ _ => rfl) (fun _ h => nx h)⟩
        | any V hV => exact ⟨_, _, ht.2 undef, br_next hB hk ho br undef (fun h => nx h) (fun d hd => by
            funext W
            unfold Facts.put
            cases hod : o.dst with
            | none => rfl
            | some y => simp only []; rw [if_neg (fun e => hd (by rw [hod, e]))]) (fun _ h => nx h)⟩
    · rw [if_neg hw] at ht
      exact ⟨_, F, ht, br_next hB hk ho br undef (fun h => nx h) (fun _ _ => rfl) (fun _ h => nx h)⟩
  | true =>
    have hset := settled_of (s := s) hB hk ho (inv.head.closed k o ho hex)
    obtain ⟨hexec, hwant⟩ := exec_agree o (Region.noSelect_spec hsel k o · · ho) (looks_agree hB inv hk ho hset br)
    have hg := inv.good k o hk ho hex
    unfold Good at hg
    by_cases hw : Region.wanted o (yielded ops b.tmps) = true
    · rw [if_pos hw] at ht
      rw [hwant] at hw
      rw [if_pos hw] at hg
      cases hkd : kindOf ks o with
      | none =>
        rw [hkd] at ht hg
        obtain ⟨_, v, hv, h⟩ := ht
        obtain ⟨W, hgW, hfW, hrW⟩ := hg
        have hrun := hv W hgW (facts_of hB hk ho hset br hfW)
        rw [hexec, hrW] at hrun
        have hvu : v = u k := by injection hrun with h1; injection h1 with h2; exact h2.symm
        exact ⟨_, F, h, br_next hB hk ho br v (fun _ => hvu) (fun _ _ => rfl) (fun d _ hd W _ => hfree d hd W)⟩
      | some kd =>
        rw [hkd] at ht hg
        cases kd with
        | const c => exact ⟨_, F, ht.2, br_next hB hk ho br c (fun _ => hg.symm) (fun _ _ => rfl) (fun d _ hd W _ => hfree d hd W)⟩
        | any V hV => exact ⟨_, _, ht.2 (u k), br_next hB hk ho br (u k) (fun _ => rfl) (fun d hd => by
            funext W
            unfold Facts.put
            cases hod : o.dst with
            | none => rfl
            | some y => simp only []; rw [if_neg (fun e => hd (by rw [hod, e]))]) (fun d _ hd W htold => by
            unfold Facts.put
            rw [hd]
            simp only [if_pos]
            exact htold V hV hkd hw)⟩
    · rw [if_neg hw] at ht
      rw [hwant] at hw
      rw [if_neg hw] at hg
      exact ⟨_, F, ht, br_next hB hk ho br undef (fun _ => hg.symm) (fun _ _ => rfl) (fun d _ hd W _ => hfree d hd W)⟩
theorem reach {Q : Act → World → Prop} (hsel : Region.noSelect ops = true) (hB : headB md ops n = true) (inv : Inv P ops md n ks w0 a0 s a w u) {L : List Oper} (hL : ∀ j, j < n → L[j]? = ops[j]?) (hLn : L.length = n) (ht : tree P ops ks w0 Q L bare a0) :
    ∀ k, k ≤ n → ∃ b F, tree P ops ks w0 Q (L.drop k) F b ∧ Br ops ks a0 s a u k b F
  | 0, _ => ⟨a0, bare, by simpa using ht, rfl, rfl, fun _ _ => rfl, fun j _ _ hj => absurd hj (by omega), fun _ _ _ => trivial, fun j _ _ hj => absurd hj (by omega)⟩
  | k + 1, hk => by
    obtain ⟨b, F, h, br⟩ := reach hsel hB inv hL hLn ht k (by omega)
    obtain ⟨o, ho⟩ := head_op hB (show k < n by omega)
    have hd : L.drop k = o :: L.drop (k + 1) := by
      have h1 : L[k]? = some o := by rw [hL k (by omega)]; exact ho
      obtain ⟨hlt, he⟩ := List.getElem?_eq_some_iff.1 h1
      rw [List.drop_eq_getElem_cons hlt, he]
    rw [hd] at h
    exact br_step hsel hB inv (by omega) ho br h
theorem inv_next (hsel : Region.noSelect ops = true) (hB : headB md ops n = true) (inv : Inv P ops md n ks w0 a0 s a w u) {i : Nat} {o : Oper} (hi : i < n) (ho : ops[i]? = some o) (hr : i ∈ Region.ready md ops s) {v : Value} {w' : World} (hg : Step w0.heap.size w w')
    (hgood : Good P ops n ks w0 u o a w' v) : Inv P ops md n ks w0 a0 (s.setIfInBounds i true) (a.put o.dst v) w' (fun j => if j = i then v else u j) := by
  have hun : s.getD i false = false := getD_both (mem_ready.1 hr).1
  have hset : ∀ j, j ≠ i → (s.setIfInBounds i true).getD j false = true → s.getD j false = true := fun j hj h => by rwa [getD_set_ne false (Ne.symm hj)] at h
  -- an executed operation looks not at the new slot
  have hlook : ∀ j p, j < n → ops[j]? = some p → s.getD j false = true → ∀ d, o.dst = some d → d ∉ p.looksAt ops := fun j p hj hp hex d hd hm => by
    have h1 := waits_done (s := s) hp ((head_apart hB hj hp hi ho hd).2 hm).2 (inv.head.closed j p hp hex)
    rw [hun] at h1
    cases h1
  have hself : ∀ d, o.dst = some d → d ∉ o.looksAt ops := fun d hd hm => by
    have := ((head_apart hB hi ho hi ho hd).2 hm).1
    omega
  have htold : ∀ j p, j < n → ops[j]? = some p → s.getD j false = true → ∀ W, Told ops ks p a W (u j) → Told ops ks p (a.put o.dst v) W (if j = i then v else u j) := fun j p hj hp hex W h V hV hk hw => by
    have hji : j ≠ i := fun e => by rw [e, hun] at hex; cases hex
    rw [wanted_put p a o.dst v (hlook j p hj hp hex)] at hw
    rw [if_neg hji]
    exact h V hV hk hw
  have hgoodp : ∀ p, (∀ d, o.dst = some d → d ∉ p.looksAt ops) → (∀ cs b, p.op ≠ .select cs b) → Settled ops n s p → ∀ x, Good P ops n ks w0 u p a w' x → Good P ops n ks w0 (fun j => if j = i then v else u j) p (a.put o.dst v) w' x := fun p hp hsp hsett x h => by
    unfold Good at h ⊢
    rw [wanted_put p a o.dst v hp]
    by_cases hw : Region.wanted p (yielded ops a.tmps) = true
    · rw [if_pos hw] at h ⊢
      cases hkd : kindOf ks p with
      | none =>
        rw [hkd] at h
        simp only at h ⊢
        obtain ⟨W, h1, h2, h3⟩ := h
        refine ⟨W, h1, fun d hm j q hj hq hd => htold j q hj hq (hsett j q d hj hq hd hm) W (h2 d hm j q hj hq hd), ?_⟩
        rw [execOp_put p hsp a o.dst v hp]
        exact h3
      | some kd =>
        rw [hkd] at h
        cases kd <;> exact h
    · rw [if_neg hw] at h ⊢
      exact h
  refine ⟨inv.head.set hr hi, Below.trans inv.grow hg.old, by rw [put_defers]; exact inv.defers, by rw [put_size]; exact inv.size, fun d h => ?_, fun j p d hj hp hex hd => ?_, fun j p hj hp hex => ?_⟩
  · have hlt : i < s.size := by rw [inv.head.size]; exact (Array.getElem?_eq_some_iff.1 ho).1
    rw [put_get _ _ _ _ (h i o hi ho (by simp [hlt]))]
    exact inv.rest d (fun j p hj hp hex => h j p hj hp (getD_set_true hex))
  · by_cases hji : j = i
    · subst hji
      rw [ho] at hp
      cases hp
      rw [hd]
      simp only [if_pos]
      exact put_self _ _ _ inv.size
    · rw [put_get _ _ _ _ ((head_apart hB hi ho hj hp hd).1 (fun e => hji e.symm))]
      simp only [if_neg hji]
      exact inv.slot j p d hj hp (hset j hji hex) hd
  · by_cases hji : j = i
    · subst hji
      rw [ho] at hp
      cases hp
      simp only [if_pos]
      exact hgoodp o hself (Region.noSelect_spec hsel j o · · ho) (settled_of hB hi ho (mem_ready.1 hr |>.2.elim fun o' h => by
        have e := h.1
        rw [ho] at e
        cases e
        exact h.2)) v hgood
    · have hex' := hset j hji hex
      simp only [if_neg hji]
      refine hgoodp p (hlook j p hj hp hex') (Region.noSelect_spec hsel j p · · hp) (settled_of hB hj hp (inv.head.closed j p hp hex')) (u j) ?_
      have h := inv.good j p hj hp hex'
      unfold Good at h ⊢
      by_cases hw : Region.wanted p (yielded ops a.tmps) = true
      · rw [if_pos hw] at h ⊢
        cases hkd : kindOf ks p with
        | none => rw [hkd] at h; exact h
        | some kd =>
          rw [hkd] at h
          cases kd with
          | const c => exact h
          | any V hV => exact hV _ _ _ hg.soft h
      · rw [if_neg hw] at h ⊢
        exact h
theorem wp_of_rel {B : Nat} {o : Oper} {V : Value → World → Prop} {R : Exit → Act → World → Prop} {K : Act → World → Prop} (h : stepAt P B o a w V) (hK : ∀ v w', Step B w w' → V v w' → K (a.put o.dst v) w') : o.wp P a w K R := by
  unfold stepAt at h
  unfold Oper.wp
  generalize (execOp a.eval o).run P w = r at *
  cases r with
  | ok x w1 =>
    cases x <;> simp only [stepUpon] at h <;> simp only [Oper.upon]
    case value v => exact hK _ _ h.1 h.2
    case skip => exact hK _ _ h.1 h.2
    case enter f args => exact Calls.mono h fun e w'' ⟨v, he, hg, hV⟩ => by subst he; exact hK _ _ hg hV
  | halt x w1 => simp only [stepUpon] at h
theorem canon_eq {s : Array Bool} {m : Nat} (hn : n ≤ m) (hs : s.size = m) (h1 : ∀ j, j < n → s.getD j false = true) (h2 : ∀ j, n ≤ j → j < m → s.getD j true = false) : s = canon n m := by
  apply Array.ext_getElem?
  intro j
  unfold canon
  have e : (List.replicate n true ++ List.replicate (m - n) false).toArray[j]? = (List.replicate n true ++ List.replicate (m - n) false)[j]? := by rw [List.getElem?_toArray]
  rw [e]
  by_cases hj : j < m
  · have hjs : j < s.size := by omega
    rw [Array.getElem?_eq_getElem hjs]
    by_cases hjn : j < n
    · have := h1 j hjn
      simp only [Array.getD_eq_getD_getElem?, Array.getElem?_eq_getElem hjs, Option.getD_some] at this
      rw [this, List.getElem?_append_left (by rw [List.length_replicate]; exact hjn), List.getElem?_replicate, if_pos hjn]
    · have := h2 j (by omega) hj
      simp only [Array.getD_eq_getD_getElem?, Array.getElem?_eq_getElem hjs, Option.getD_some] at this
      rw [this, List.getElem?_append_right (by rw [List.length_replicate]; omega), List.length_replicate, List.getElem?_replicate, if_pos (by omega)]
  · rw [Array.getElem?_eq_none (by omega), List.getElem?_eq_none (by rw [List.length_append, List.length_replicate, List.length_replicate]; omega)]
theorem tree_any {Q : Act → World → Prop} {R : Exit → Act → World → Prop} {g : Nat} (hsel : Region.noSelect ops = true) (hB : headB md ops n = true) (hn : n ≤ ops.size) (hT : ∀ s, HeadInv md ops n s → ∀ i, i < n → s.getD i true = false → ∀ t, t ∈ Region.ready md ops s → t < n)
    {L : List Oper} (hL : ∀ j, j < n → L[j]? = ops[j]?) (hLn : L.length = n) (ht : tree P ops ks w0 Q L bare a0) (hQ : ∀ a w, Q a w → wpAny P md ops R g (canon n ops.size) a w) :
    ∀ (m : Nat) (s : Array Bool) (a : Act) (w : World) (u : Nat → Value), Inv P ops md n ks w0 a0 s a w u → cnt s n = m → wpAny P md ops R (m + g) s a w
  | 0, s, a, w, u, inv, hc => by
    have hall := cnt_zero n hc
    obtain ⟨b, F, h, br⟩ := reach hsel hB inv hL hLn ht n (Nat.le_refl _)
    rw [List.drop_of_length_le (by omega)] at h
    have hba : b = a := by
      have e1 : b.tmps = a.tmps := by
        apply Array.ext_getElem?
        intro d
        by_cases hx : ∃ j p, j < n ∧ ops[j]? = some p ∧ p.dst = some d
        · obtain ⟨j, p, hj, hp, hd⟩ := hx
          rw [br.slot j p d hj hp (hall j hj) hd, inv.slot j p d hj hp (hall j hj) hd]
        · rw [br.rest d (fun j p hj hp hd => hx ⟨j, p, hj, hp, hd⟩), inv.rest d (fun j p hj hp _ hd => hx ⟨j, p, hj, hp, hd⟩)]
      have e2 : b.defers = a.defers := br.defers.trans inv.defers.symm
      cases b; cases a
      simp only at e1 e2
      rw [e1, e2]
    rw [hba] at h
    have hq : Q a w := h w inv.grow (fun d => by
      by_cases hx : ∃ j p, j < n ∧ ops[j]? = some p ∧ p.dst = some d
      · obtain ⟨j, p, hj, hp, hd⟩ := hx
        exact br.told j p d hj hp (hall j hj) hd w (told_now inv hj hp (hall j hj))
      · exact br.free d (fun j p hj hp hd => hx ⟨j, p, hj, hp, hd⟩) w)
    rw [Nat.zero_add, canon_eq hn inv.head.size hall (fun j h1 h2 => inv.head.tail j h1 h2)]
    exact hQ a w hq
  | m + 1, s, a, w, u, inv, hc => by
    have e : m + 1 + g = m + g + 1 := by omega
    rw [e]
    obtain ⟨i0, hi0, hf0, hlow⟩ := cnt_pos (s := s) n (by omega)
    have hs0 : i0 < s.size := by rw [inv.head.size]; omega
    obtain ⟨o0, ho0⟩ := head_op hB hi0
    have hr0 : i0 ∈ Region.ready md ops s := mem_ready.2 ⟨getD_in hs0 hf0, o0, ho0, fun e he hb => hlow e.on (head_edges hB hi0 ho0 e he hb)⟩
    refine ⟨fun h => (by rw [h] at hr0; cases hr0), fun i hi => ?_⟩
    have hin : i < n := hT s inv.head i0 hi0 (getD_in hs0 hf0) i hi
    obtain ⟨hun, o, ho, hall⟩ := mem_ready.1 hi
    have hset : Settled ops n s o := settled_of hB hin ho hall
    obtain ⟨b, F, h, br⟩ := reach hsel hB inv hL hLn ht i (by omega)
    have hd : L.drop i = o :: L.drop (i + 1) := by
      have h1 : L[i]? = some o := by rw [hL i hin]; exact ho
      obtain ⟨hlt, he⟩ := List.getElem?_eq_some_iff.1 h1
      rw [List.drop_eq_getElem_cons hlt, he]
    rw [hd] at h
    obtain ⟨hexec, hwant⟩ := exec_agree o (Region.noSelect_spec hsel i o · · ho) (looks_agree hB inv hin ho hset br)
    have hfw := facts_of hB hin ho hset br (W := w) (fun d hm j p hj hp hpd => told_now inv hj hp (hset j p d hj hp hpd hm))
    have hcs : cnt (s.setIfInBounds i true) n = m := by
      have := cnt_set (s := s) (i := i) (by rw [inv.head.size]; omega) (getD_both hun) n hin
      omega
    have next : ∀ v w', Step w0.heap.size w w' → Good P ops n ks w0 u o a w' v → wpAny P md ops R (m + g) (s.setIfInBounds i true) (a.put o.dst v) w' := fun v w' hg hgood =>
      tree_any hsel hB hn hT hL hLn ht hQ m _ _ _ _ (inv_next hsel hB inv hin ho hi hg hgood) hcs
    unfold tree at h
    unfold wpOp
    simp only [ho]
    by_cases hw : Region.wanted o (yielded ops b.tmps) = true
    · rw [if_pos hw] at h
      rw [hwant] at hw
      rw [if_pos hw]
      refine .inl ?_
      have hgd : ∀ v w', (match kindOf ks o with
          | .none => ∃ W, Rel.Grow w0 W ∧ (∀ d, d ∈ o.looksAt ops → ∀ j p, j < n → ops[j]? = some p → p.dst = some d → Told ops ks p a W (u j)) ∧ (execOp a.eval o).run P W = .ok (.value v) W
          | .some (.const c) => v = c
          | .some (.any V _) => V v w') → Good P ops n ks w0 u o a w' v := fun v w' hx => by
        unfold Good
        rw [if_pos hw]
        exact hx
      cases hkd : kindOf ks o with
      | none =>
        rw [hkd] at h
        obtain ⟨_, v, hv, _⟩ := h
        have hrun := hv w inv.grow hfw
        rw [hexec] at hrun
        unfold Oper.wp
        rw [hrun]
        exact next v w (Step.refl _ _) (hgd v w (by
          rw [hkd]
          exact ⟨w, inv.grow, fun d hm j p hj hp hpd => told_now inv hj hp (hset j p d hj hp hpd hm), hrun⟩))
      | some kd =>
        rw [hkd] at h
        cases kd with
        | const c =>
          have hr := h.1 w inv.grow hfw
          unfold stepAt at hr
          rw [hexec] at hr
          exact wp_of_rel hr (fun v w' hg hv => next v w' hg (hgd v w' (by rw [hkd]; exact hv)))
        | any V hV =>
          have hr := h.1 w inv.grow hfw
          unfold stepAt at hr
          rw [hexec] at hr
          exact wp_of_rel hr (fun v w' hg hv => next v w' hg (hgd v w' (by rw [hkd]; exact hv)))
    · rw [hwant] at hw
      rw [if_neg hw]
      exact next undef w (Step.refl _ _) (by unfold Good; rw [if_neg hw])
/-- The region's law: n operations in whatever order, then a tail in one order. -/
theorem wp_region_rel {id : Nat} {Q : Exit → Act → World → Prop} {a : Act} {w : World} {l : List Oper} (n : Nat) (ks : List (Tmp × Kind)) (hm : P.follows .mixedOrders = true) (hB : okB .any l.toArray n = true)
    (h : tree P l.toArray ks w.drew (fun a' W => wpList P l.toArray Q (l.drop n) a' W) (l.take n) bare a) : (Code.region id l.toArray true).wp P Q a w := by
  simp only [okB, Bool.and_eq_true] at hB
  obtain ⟨⟨⟨hsel, hhead⟩, htail⟩, hseq⟩ := hB
  have hn : n ≤ l.toArray.size := by
    simp only [tailB, Bool.or_eq_true, decide_eq_true_eq, Bool.and_eq_true] at htail
    omega
  have hnl : n ≤ l.length := by simpa using hn
  have hT : ∀ s, HeadInv .any l.toArray n s → ∀ i, i < n → s.getD i true = false → ∀ t, t ∈ Region.ready .any l.toArray s → t < n := fun s inv i hi hun t ht => by
    simp only [tailB, Bool.or_eq_true, decide_eq_true_eq, Bool.and_eq_true] at htail
    rcases htail with h1 | ⟨⟨h1, h2⟩, h3⟩
    · obtain ⟨_, o, ho, _⟩ := mem_ready.1 ht
      have := (Array.getElem?_eq_some_iff.1 ho).1
      omega
    · rcases Nat.lt_or_ge t n with h4 | h4
      · exact h4
      · exact absurd ht (tail_waits h2 h3 h1 inv _ i rfl hi hun t h4)
  have inv0 : Inv P l.toArray .any n ks w.drew a (Array.replicate l.toArray.size false) a w.drew (fun _ => undef) :=
    ⟨⟨by simp, fun j oj _ hl => (by rw [getD_replicate_false] at hl; cases hl), fun t _ ht => getD_in (by simpa using ht) (getD_replicate_false _ _)⟩, Rel.Grow.refl _, rfl, rfl, fun _ _ => rfl, fun j o d _ _ hl => (by rw [getD_replicate_false] at hl; cases hl), fun j o _ _ hl => (by rw [getD_replicate_false] at hl; cases hl)⟩
  have hc : ∀ m, cnt (Array.replicate l.toArray.size false) m = m := fun m => by
    induction m with
    | zero => rfl
    | succ m ih => rw [cnt, ih, getD_replicate_false]; rfl
  refine wp_region_any hm ?_
  have hdl : (l.drop n).length = l.toArray.size - n := by simp
  have := tree_any (g := l.toArray.size - n) (R := Q) hsel hhead hn hT (L := l.take n) (fun j hj => by simp [hj]) (by simp; omega) h (fun a' w' hq => by
    have h2 := wpAny_of_seq (md := .any) (Q' := Q) (l.drop n) n (canon n l.toArray.size) a' w' (fun j => by simp [List.getElem?_drop]) (by rw [hdl]; exact hseq) hq
    rwa [hdl] at h2) n _ _ _ _ inv0 (hc n)
  rw [show n + (l.toArray.size - n) = l.toArray.size by omega] at this
  exact this
/-! ### Steps -/
theorem tree_skip {Q : Act → World → Prop} {o : Oper} {rest : List Oper} {F : Facts} (hw : Region.wanted o (yielded ops a.tmps) = false) (h : tree P ops ks w0 Q rest F (a.put o.dst undef)) : tree P ops ks w0 Q (o :: rest) F a := by
  unfold tree
  rw [if_neg (by rw [hw]; exact Bool.false_ne_true)]
  exact h
/-- An operation as it stands, in a class of worlds: the quiet walk's own step serves. -/
theorem tree_quiet {Q : Act → World → Prop} {o : Oper} {rest : List Oper} {F : Facts} (hw : Region.wanted o (yielded ops a.tmps) = true) (hk : kindOf ks o = .none) (hp : pureOp o = true)
    (h : ∀ K : Act → Prop, (∀ a', tree P ops ks w0 Q rest F a' → K a') → o.quiet P a (fun w' => ∃ p : Regrown, w' = Sort.grow (redrawn w0 p.d) p.os) K) : tree P ops ks w0 Q (o :: rest) F a := by
  unfold tree
  rw [if_pos hw, hk]
  obtain ⟨v, hv, hn⟩ := h _ (fun _ h => h)
  refine ⟨hp, v, fun W hg _ => ?_, hn⟩
  have hq := hv W (regrown_of_below hg)
  unfold Oper.quietAt at hq
  generalize hr : (execOp a.eval o).run P W = r at *
  cases r with
  | ok x w1 =>
    obtain ⟨y, rfl⟩ := value_of_pure hp hr
    simp only [Oper.quietUpon] at hq
    rw [hq.1, hq.2]
  | halt x w1 => simp only [Oper.quietUpon] at hq
theorem tree_pure {Q : Act → World → Prop} {o : Oper} {rest : List Oper} {F : Facts} (hw : Region.wanted o (yielded ops a.tmps) = true) (hk : kindOf ks o = .none) (hp : pureOp o = true) (v : Value)
    (h : ∀ W, Rel.Grow w0 W → (∀ d, d ∈ o.looksAt ops → F d W) → (execOp a.eval o).run P W = .ok (.value v) W) (hn : tree P ops ks w0 Q rest F (a.put o.dst v)) : tree P ops ks w0 Q (o :: rest) F a := by
  unfold tree
  rw [if_pos hw, hk]
  exact ⟨hp, v, h, hn⟩
theorem tree_const {Q : Act → World → Prop} {o : Oper} {rest : List Oper} {F : Facts} (hw : Region.wanted o (yielded ops a.tmps) = true) (c : Value) (hk : kindOf ks o = some (.const c))
    (h : ∀ W, Rel.Grow w0 W → (∀ d, d ∈ o.looksAt ops → F d W) → relAt P o a W (fun v _ => v = c)) (hn : tree P ops ks w0 Q rest F (a.put o.dst c)) : tree P ops ks w0 Q (o :: rest) F a := by
  unfold tree
  rw [if_pos hw, hk]
  exact ⟨fun W hW hF => stepAt.of (Below.size hW) (h W hW hF), hn⟩
theorem tree_rel {Q : Act → World → Prop} {o : Oper} {rest : List Oper} {F : Facts} (hw : Region.wanted o (yielded ops a.tmps) = true) (V : Value → World → Prop) (hV : ∀ v W W', Rel.Grow W W' → V v W → V v W') (hk : kindOf ks o = some (.any V hV))
    (h : ∀ W, Rel.Grow w0 W → (∀ d, d ∈ o.looksAt ops → F d W) → relAt P o a W V) (hn : ∀ v, tree P ops ks w0 Q rest (F.put o.dst (V v)) (a.put o.dst v)) : tree P ops ks w0 Q (o :: rest) F a := by
  unfold tree
  rw [if_pos hw, hk]
  exact ⟨fun W hW hF => stepAt.of (Below.size hW) (h W hW hF), hn⟩
/-- The same, where an operation turns a new block's mark. -/
theorem tree_step {Q : Act → World → Prop} {o : Oper} {rest : List Oper} {F : Facts} (hw : Region.wanted o (yielded ops a.tmps) = true) (V : Value → World → Prop) (hV : ∀ v W W', Rel.Grow W W' → V v W → V v W') (hk : kindOf ks o = some (.any V hV))
    (h : ∀ W, Rel.Grow w0 W → (∀ d, d ∈ o.looksAt ops → F d W) → stepAt P w0.heap.size o a W V) (hn : ∀ v, tree P ops ks w0 Q rest (F.put o.dst (V v)) (a.put o.dst v)) : tree P ops ks w0 Q (o :: rest) F a := by
  unfold tree
  rw [if_pos hw, hk]
  exact ⟨h, hn⟩
end
end RelG
end Go.Proofs.YtmiaabpnolebhaaGreatDoor

/-
  Rel, its tail in whatever order: the head's walk hands the rest over as it stands; the rest is taken (what looks at no memory), or forced.
-/
namespace Go.Proofs.YtmiaabpnolebhaaGreatDoor
open Go Go.RowKit

namespace Rel
section
variable {P : Program} {ops : Array Oper} {md : Region.Mode}
def lateB (md : Region.Mode) (ops : Array Oper) (n : Nat) : Bool := Region.sinkB md ops n && (List.range ops.size).all fun t => decide (t ≤ n) || (List.range n).all fun i => Region.waitsFor md ops t i
def lateOk (md : Region.Mode) (ops : Array Oper) (n : Nat) : Bool := Region.noSelect ops && headB md ops n && decide (n < ops.size) && lateB md ops n
theorem sink_waits {n : Nat} {listed : Array Bool} (hs : Region.sinkB md ops n = true) (inv : HeadInv md ops n listed) (hn : n < ops.size) :
    ∀ (d i : Nat), n - i = d → i < n → listed.getD i true = false → n ∉ Region.ready md ops listed := by
  intro d
  induction d using Nat.strongRecOn with
  | _ d ih =>
    intro i hd hi hun hr
    obtain ⟨_, ot, hot, hall⟩ := mem_ready.1 hr
    have h1 := List.all_eq_true.1 hs i (List.mem_range.2 hi)
    obtain ⟨j, hj, hj2⟩ := List.any_eq_true.1 h1
    simp only [Bool.and_eq_true, decide_eq_true_eq] at hj2
    obtain ⟨oj, hoj, e, he, hb, hon⟩ := Region.waitsFor_spec hj2.2
    have hjle : j ≤ n := by have := List.mem_range.1 hj; omega
    by_cases hjt : j = n
    · subst hjt
      have : oj = ot := Option.some.inj (hoj.symm.trans hot)
      subst this
      have h2 := hall e he hb
      rw [hon, getD_both hun] at h2
      cases h2
    · cases hl : listed.getD j false with
      | true =>
        have h2 := inv.closed j oj hoj hl e he hb
        rw [hon, getD_both hun] at h2
        cases h2
      | false =>
        have hjs : j < listed.size := by rw [inv.size]; omega
        exact ih (n - j) (by omega) j rfl (by omega) (getD_in hjs hl) hr
theorem late_waits {n : Nat} {listed : Array Bool} (hl : lateB md ops n = true) (inv : HeadInv md ops n listed) (hn : n < ops.size) (i : Nat) (hi : i < n) (hun : listed.getD i true = false) (t : Nat) (ht : n ≤ t) : t ∉ Region.ready md ops listed := by
  simp only [lateB, Bool.and_eq_true] at hl
  by_cases htn : t = n
  · subst htn
    exact sink_waits hl.1 inv hn _ i rfl hi hun
  · intro hr
    obtain ⟨_, ot, hot, hall⟩ := mem_ready.1 hr
    have htlt : t < ops.size := (Array.getElem?_eq_some_iff.1 hot).1
    have h1 := List.all_eq_true.1 hl.2 t (List.mem_range.2 htlt)
    simp only [Bool.or_eq_true, decide_eq_true_eq] at h1
    rcases h1 with h1 | h1
    · omega
    · obtain ⟨o', ho', e, he, hb, hon⟩ := Region.waitsFor_spec (List.all_eq_true.1 h1 i (List.mem_range.2 hi))
      have : o' = ot := Option.some.inj (ho'.symm.trans hot)
      subst this
      have h2 := hall e he hb
      rw [hon, getD_both hun] at h2
      cases h2
theorem wp_region_rel_late {id : Nat} {Q : Exit → Act → World → Prop} {a : Act} {w : World} {l : List Oper} (n : Nat) (ks : List (Tmp × Kind)) (hm : P.follows .mixedOrders = true) (hB : lateOk .any l.toArray n = true)
    (h : tree P l.toArray ks w.drew (fun a' W => wpAny P .any l.toArray Q (l.length - n) (canon n l.length) a' W) (l.take n) bare a) : (Code.region id l.toArray true).wp P Q a w := by
  simp only [lateOk, Bool.and_eq_true, decide_eq_true_eq] at hB
  obtain ⟨⟨⟨hsel, hhead⟩, hlt⟩, hlate⟩ := hB
  have hsz : l.toArray.size = l.length := by simp
  have hnl : n ≤ l.length := by omega
  have hT : ∀ s, HeadInv .any l.toArray n s → ∀ i, i < n → s.getD i true = false → ∀ t, t ∈ Region.ready .any l.toArray s → t < n := fun s inv i hi hun t ht => by
    rcases Nat.lt_or_ge t n with h4 | h4
    · exact h4
    · exact absurd ht (late_waits hlate inv hlt i hi hun t h4)
  have inv0 : Inv P l.toArray .any n ks w.drew a (Array.replicate l.toArray.size false) a w.drew (fun _ => undef) :=
    ⟨⟨by simp, fun j oj _ hl => (by rw [getD_replicate_false] at hl; cases hl), fun t _ ht => getD_in (by simpa using ht) (getD_replicate_false _ _)⟩, Grow.refl _, rfl, rfl, fun _ _ => rfl, fun j o d _ _ hl => (by rw [getD_replicate_false] at hl; cases hl), fun j o _ _ hl => (by rw [getD_replicate_false] at hl; cases hl)⟩
  have hc : ∀ m, cnt (Array.replicate l.toArray.size false) m = m := fun m => by
    induction m with
    | zero => rfl
    | succ m ih => rw [cnt, ih, getD_replicate_false]; rfl
  refine wp_region_any hm ?_
  have := tree_any (g := l.length - n) (R := Q) hsel hhead (by omega) hT (L := l.take n) (fun j hj => by simp [hj]) (by simp; omega) h (fun a' w' hq => by rw [hsz]; exact hq) n _ _ _ _ inv0 (hc n)
  rw [show n + (l.length - n) = l.toArray.size by omega] at this
  exact this
def seqI (md : Region.Mode) (ops : Array Oper) : List Nat → Array Bool → Bool
  | [], s => (Region.ready md ops s).isEmpty
  | i :: r, s => decide (Region.ready md ops s = [i]) && seqI md ops r (s.setIfInBounds i true)
theorem wpAny_of_idx {Q' : Exit → Act → World → Prop} : ∀ (L : List (Nat × Oper)) (listed : Array Bool) (a : Act) (w : World), (∀ p ∈ L, ops[p.1]? = some p.2) →
    seqI md ops (L.map (·.1)) listed = true → wpList P ops Q' (L.map (·.2)) a w → wpAny P md ops Q' L.length listed a w
  | [], _, _, _, _, hB, h => ⟨by simpa [seqI] using hB, h⟩
  | (k, o) :: l, listed, a, w, hl, hB, h => by
    have h0 : ops[k]? = some o := hl (k, o) (by simp)
    simp only [List.map_cons, seqI, Bool.and_eq_true, decide_eq_true_eq] at hB
    refine ⟨fun h1 => (by rw [hB.1] at h1; cases h1), fun i hi => ?_⟩
    rw [hB.1] at hi
    have hik : i = k := by simpa using hi
    subst hik
    have hw : wpOp P ops Q' i (wpList P ops Q' (l.map (·.2))) a w := by unfold wpOp; simp only [h0]; exact h
    exact wpOp_mono (fun a' w' h' => wpAny_of_idx l _ a' w' (fun p hp => hl p (by simp [hp])) hB.2 h') hw
/-- A tail of three: the middle one looks at no memory and is taken first. -/
theorem tail_mid {Q : Exit → Act → World → Prop} {a : Act} {w : World} {s : Array Bool} {i j k : Nat} {oi oj ok : Oper} (v : Value) (hi : ops[i]? = some oi) (hj : ops[j]? = some oj) (hk : ops[k]? = some ok) (hs : Region.noSelect ops = true)
    (hf : Region.free md ops s j = true) (hr : (Region.ready md ops s).contains j = true) (hq : seqI md ops [i, k] (s.setIfInBounds j true) = true) (hQ : ∀ c a w, Q (.panic c) (a.put oj.dst v) w → Q (.panic c) a w)
    (hw : Region.wanted oj (yielded ops a.tmps) = true) (hy : ∀ w, (execOp a.eval oj).run P w = .ok (.value v) w) (h : wpList P ops Q [oi, ok] (a.put oj.dst v) w) : wpAny P md ops Q 3 s a w :=
  wpAny_take hj hs hf hr hQ (.inl ⟨hw, hy⟩) (wpAny_of_idx [(i, oi), (k, ok)] _ _ _ (fun p hp => by simp at hp; rcases hp with rfl | rfl; exact hi; exact hk) hq h)
end
end Rel
end Go.Proofs.YtmiaabpnolebhaaGreatDoor

/-
  Rel: a head whose last operation all others lead to, and which whatever follows waits for; then plain values taken first, then what is forced.
-/
namespace Go.Proofs.YtmiaabpnolebhaaGreatDoor
open Go Go.RowKit

theorem run_slice_h1 {P : Program} (t e : TypeId) (ht : P.underlying t = some (.slice e)) (hs : ∀ w, (sizeOf e).run P w = .ok 1 w) (A : Option Addr) (len cap hi : Nat) (kh : IntKind) (h : Int) (hh : h = hi) (h1 : 0 < cap) (h2 : hi ≤ cap) (w : World) :
    (Instr.sliceAt t (.slice A len cap) none (some (.int kh h)) none).run P w = .ok (.slice A hi cap) w := by
  have he : P.elem t = e := by simp [Program.elem, ht]
  have ht' : P.underlying t = some (.slice (P.elem t)) := by rw [he]; exact ht
  subst hh
  rw [run_sliceAt_slice w t _ _ _ _ ht', run_slice_h w t A len cap ht' kh hi (by omega) (by omega), he, hs]
  have hne : ¬ cap = 0 := by omega
  cases A <;> simp [Result.andThen, sliced, hne, Go.WideShapes.add_plain, Addr.add]
theorem nats_range {k : IntKind} {M : Nat} {w : World} {B : Nat} {A : Option Addr} {l : List Nat} (h : Nats k M w B A l) (n : Nat) (h0 : 0 < n) (hn : n ≤ l.length) : ∃ b off, A = some ⟨b, off, none⟩ ∧ b < B ∧ w.rangeAt b off ((l.take n).map fun x => Value.int k ((x : Nat) : Int)) := by
  obtain ⟨_, b, off, rfl, hb, _⟩ := h 0 l[0] (List.getElem?_eq_getElem (by omega))
  refine ⟨b, off, rfl, hb, fun j v hv => ?_⟩
  rw [List.getElem?_map, List.getElem?_take] at hv
  split at hv
  · cases hx : l[j]? with
    | none => rw [hx] at hv; cases hv
    | some x =>
      rw [hx] at hv
      obtain ⟨_, b', off', hA, _, hc⟩ := h j x hx
      cases hA
      rw [← Option.some.inj hv]
      exact hc
  · cases hv
namespace Rel
section
variable {P : Program} {ops : Array Oper} {md : Region.Mode}
def pinB (md : Region.Mode) (ops : Array Oper) (m : Nat) : Bool := Region.sinkB md ops m && (List.range ops.size).all fun t => decide (t ≤ m) || Region.waitsFor md ops t m
def pinOk (md : Region.Mode) (ops : Array Oper) (m : Nat) : Bool := Region.noSelect ops && headB md ops (m + 1) && decide (m + 1 < ops.size) && pinB md ops m
theorem sink_open {m : Nat} {listed : Array Bool} (hs : Region.sinkB md ops m = true) (inv : HeadInv md ops (m + 1) listed) (hm : m < ops.size) :
    ∀ (d i : Nat), m - i = d → i ≤ m → listed.getD i true = false → listed.getD m true = false := by
  intro d
  induction d using Nat.strongRecOn with
  | _ d ih =>
    intro i hd hi hun
    by_cases him : i = m
    · rw [him] at hun; exact hun
    have h1 := List.all_eq_true.1 hs i (List.mem_range.2 (by omega))
    obtain ⟨j, hj, hj2⟩ := List.any_eq_true.1 h1
    simp only [Bool.and_eq_true, decide_eq_true_eq] at hj2
    obtain ⟨oj, hoj, e, he, hb, hon⟩ := Region.waitsFor_spec hj2.2
    have hjle : j ≤ m := by have := List.mem_range.1 hj; omega
    have hjs : j < listed.size := by rw [inv.size]; omega
    cases hl : listed.getD j false with
    | true =>
      have h2 := inv.closed j oj hoj hl e he hb
      rw [hon, getD_both hun] at h2
      cases h2
    | false => exact ih (m - j) (by omega) j rfl hjle (getD_in hjs hl)
theorem wp_region_rel_pin {id : Nat} {Q : Exit → Act → World → Prop} {a : Act} {w : World} {l : List Oper} (m : Nat) (ks : List (Tmp × Kind)) (hm : P.follows .mixedOrders = true) (hB : pinOk .any l.toArray m = true)
    (h : tree P l.toArray ks w.drew (fun a' W => wpAny P .any l.toArray Q (l.length - (m + 1)) (canon (m + 1) l.length) a' W) (l.take (m + 1)) bare a) : (Code.region id l.toArray true).wp P Q a w := by
  simp only [pinOk, Bool.and_eq_true, decide_eq_true_eq] at hB
  obtain ⟨⟨⟨hsel, hhead⟩, hlt⟩, hpin⟩ := hB
  have hsz : l.toArray.size = l.length := by simp
  have hnl : m + 1 ≤ l.length := by omega
  simp only [pinB, Bool.and_eq_true] at hpin
  have hT : ∀ s, HeadInv .any l.toArray (m + 1) s → ∀ i, i < m + 1 → s.getD i true = false → ∀ t, t ∈ Region.ready .any l.toArray s → t < m + 1 := fun s inv i hi hun t ht => by
    rcases Nat.lt_or_ge t (m + 1) with h4 | h4
    · exact h4
    · exfalso
      have ho := sink_open hpin.1 inv (by omega) _ i rfl (by omega) hun
      obtain ⟨_, ot, hot, hall⟩ := mem_ready.1 ht
      have htlt : t < l.toArray.size := (Array.getElem?_eq_some_iff.1 hot).1
      have h1 := List.all_eq_true.1 hpin.2 t (List.mem_range.2 htlt)
      simp only [Bool.or_eq_true, decide_eq_true_eq] at h1
      rcases h1 with h1 | h1
      · omega
      · obtain ⟨o', ho', e, he, hb, hon⟩ := Region.waitsFor_spec h1
        have : o' = ot := Option.some.inj (ho'.symm.trans hot)
        subst this
        have h2 := hall e he hb
        rw [hon, getD_both ho] at h2
        cases h2
  have inv0 : Inv P l.toArray .any (m + 1) ks w.drew a (Array.replicate l.toArray.size false) a w.drew (fun _ => undef) :=
    ⟨⟨by simp, fun j oj _ hl => (by rw [getD_replicate_false] at hl; cases hl), fun t _ ht => getD_in (by simpa using ht) (getD_replicate_false _ _)⟩, Grow.refl _, rfl, rfl, fun _ _ => rfl, fun j o d _ _ hl => (by rw [getD_replicate_false] at hl; cases hl), fun j o _ _ hl => (by rw [getD_replicate_false] at hl; cases hl)⟩
  have hc : ∀ m, cnt (Array.replicate l.toArray.size false) m = m := fun m => by
    induction m with
    | zero => rfl
    | succ m ih => rw [cnt, ih, getD_replicate_false]; rfl
  refine wp_region_any hm ?_
  have := tree_any (g := l.length - (m + 1)) (R := Q) hsel hhead (by omega) hT (L := l.take (m + 1)) (fun j hj => by simp [hj]) (by simp; omega) h (fun a' w' hq => by rw [hsz]; exact hq) (m + 1) _ _ _ _ inv0 (hc (m + 1))
  rw [show m + 1 + (l.length - (m + 1)) = l.toArray.size by omega] at this
  exact this
/-- A plain value is taken. -/
theorem take_val {Q : Exit → Act → World → Prop} {a : Act} {w : World} {f : Nat} {s : Array Bool} (j : Nat) {o : Oper} (v : Value) (hj : ops[j]? = some o) (hs : Region.noSelect ops = true) (hf : Region.free md ops s j = true) (hr : (Region.ready md ops s).contains j = true)
    (hQ : ∀ c a w, Q (.panic c) (a.put o.dst v) w → Q (.panic c) a w) (hw : Region.wanted o (yielded ops a.tmps) = true) (hy : ∀ w, (execOp a.eval o).run P w = .ok (.value v) w) (h : wpAny P md ops Q f (s.setIfInBounds j true) (a.put o.dst v) w) : wpAny P md ops Q (f + 1) s a w :=
  wpAny_take hj hs hf hr hQ (.inl ⟨hw, hy⟩) h
theorem take_at {Q : Exit → Act → World → Prop} {ts : Array Value} {df : List Deferred} {w : World} {f : Nat} {s : Array Bool} (j : Nat) (d : Tmp) {o : Oper} (v : Value) (hj : ops[j]? = some o) (hd : o.dst = some d) (hs : Region.noSelect ops = true) (hf : Region.free md ops s j = true) (hr : (Region.ready md ops s).contains j = true)
    (hQ : ∀ c a w, Q (.panic c) (a.put (some d) v) w → Q (.panic c) a w) (hw : Region.wanted o (yielded ops ts) = true) (hy : ∀ w, (execOp (⟨ts, df⟩ : Act).eval o).run P w = .ok (.value v) w) (h : wpAny P md ops Q f (s.setIfInBounds j true) ⟨ts.setIfInBounds d v, df⟩ w) : wpAny P md ops Q (f + 1) s ⟨ts, df⟩ w :=
  take_val j v hj hs hf hr (by rw [hd]; exact hQ) hw hy (by rw [hd]; exact h)
theorem rest_idx {Q' : Exit → Act → World → Prop} {a : Act} {w : World} {f : Nat} {s : Array Bool} (L : List (Nat × Oper)) (hf : f = L.length) (hl : ∀ p ∈ L, ops[p.1]? = some p.2) (hB : seqI md ops (L.map (·.1)) s = true) (h : wpList P ops Q' (L.map (·.2)) a w) : wpAny P md ops Q' f s a w := by
  subst hf
  exact wpAny_of_idx L s a w hl hB h
theorem exec_arr {o : Oper} {a : Act} {W : World} (arr e : TypeId) (x : Operand) (ho : o.op = .sliceToArrayPointer arr x) (n : Nat) (ad : Option Addr) (len cap : Nat) (hx : a.eval x = .slice ad len cap) (hu : P.underlying arr = some (.array n e)) (hn : n ≤ len) : (execOp a.eval o).run P W = .ok (.value (.pointer ad)) W := by
  unfold execOp
  simp only [ho, hx]
  rw [Sem.run_bind, run_arrayAt W arr e n ad len cap hu hn]
  simp [Result.andThen]
theorem exec_slice {o : Oper} {a : Act} {W : World} (t : TypeId) (x : Operand) (lo hi : Option Operand) (ho : o.op = .slice t x lo hi none) (v : Value) (h : (Instr.sliceAt t (a.eval x) (lo.map a.eval) (hi.map a.eval) none).run P W = .ok v W) : (execOp a.eval o).run P W = .ok (.value v) W := by
  unfold execOp
  simp only [ho]
  rw [Sem.run_bind]
  simp only [Option.map_none] at h ⊢
  rw [h]
  simp [Result.andThen]
end
end Rel
end Go.Proofs.YtmiaabpnolebhaaGreatDoor

/-
  RelG, some of whose head's operations are plain values that may be taken late: they are taken as soon as they can be.
-/
namespace Go.Proofs.YtmiaabpnolebhaaGreatDoor
open Go Go.RowKit

namespace RelG
/-- Values that no memory tells. -/
def plainOp (o : Oper) : Bool := o.dst.isSome && match o.op with
  | .move _ | .assign _ | .extract _ _ => true
  | _ => false
section
variable {P : Program} {ops : Array Oper} {md : Region.Mode} {n : Nat}
theorem plain_run {o : Oper} {ρ : Operand → Value} {w : World} {v : Value} (hp : plainOp o = true) (h : (execOp ρ o).run P w = .ok (.value v) w) : ∀ w', (execOp ρ o).run P w' = .ok (.value v) w' := fun w' => by
  obtain ⟨dst, op, type, pos, after, guard⟩ := o
  cases op <;> simp only [plainOp, Bool.and_false, Bool.false_eq_true] at hp <;> simp only [execOp] at h ⊢
  case move x => simp at h ⊢; exact h
  case assign x => simp at h ⊢; exact h
  case extract x i =>
    rw [Sem.run_bind] at h ⊢
    generalize ρ x = y at *
    cases y <;> simp [Instr.extract, Result.andThen] at h ⊢
    rename_i vs
    cases hx : vs[i]? with
    | none => rw [hx] at h; simp at h
    | some z => rw [hx] at h; simp at h ⊢; exact h
/-- What an operation waits for, through others. -/
def leadsB (md : Region.Mode) (ops : Array Oper) (k : Nat) : Nat → Nat → Bool
  | 0, _ => false
  | f + 1, j => match ops[j]? with
    | none => false
    | some o => o.after.any fun e => Region.binds md e && (e.on == k || leadsB md ops k f e.on)
def behind (md : Region.Mode) (ops : Array Oper) (j : Nat) : Array Bool := ((List.range ops.size).map fun k => leadsB md ops k ops.size j).toArray
theorem leads_listed {s : Array Bool} (inv : HeadInv md ops n s) {k : Nat} : ∀ (f j : Nat) (o : Oper), ops[j]? = some o → (∀ e ∈ o.after, Region.binds md e = true → s.getD e.on false = true) → leadsB md ops k f j = true → s.getD k false = true
  | 0, _, _, _, _, h => by cases h
  | f + 1, j, o, ho, hall, h => by
    rw [leadsB, ho] at h
    simp only [Array.any_eq_true'] at h
    obtain ⟨e, he, hb⟩ := h
    simp only [Bool.and_eq_true, Bool.or_eq_true, beq_iff_eq] at hb
    obtain ⟨hb1, hb2⟩ := hb
    have hl := hall e he hb1
    rcases hb2 with hk | hk
    · rw [← hk]; exact hl
    · cases ho2 : ops[e.on]? with
      | none =>
        cases f with
        | zero => cases hk
        | succ f => rw [leadsB, ho2] at hk; cases hk
      | some o2 => exact leads_listed inv f e.on o2 ho2 (fun e2 he2 hb3 => inv.closed e.on o2 ho2 hl e2 he2 hb3) hk
def floatB (md : Region.Mode) (ops : Array Oper) (n : Nat) (fl : List Nat) : Bool :=
  fl.all fun j => decide (j < n) && Region.free md ops (behind md ops j) j && match ops[j]? with
    | none => false
    | some o => plainOp o && o.after.all fun e => !Region.binds md e || (decide (e.on < n) && !fl.contains e.on)
def kindB (ops : Array Oper) (ks : List (Tmp × Kind)) (fl : List Nat) : Bool := fl.all fun j => match ops[j]? with
  | none => false
  | some o => (kindOf ks o).isNone
def edgesB (md : Region.Mode) (ops : Array Oper) (n : Nat) (fl : List Nat) : Bool :=
  (List.range ops.size).all fun t => decide (t < n) || (List.range n).all fun i => fl.contains i || Region.waitsFor md ops t i || leadsB md ops i ops.size t
def okF (md : Region.Mode) (ops : Array Oper) (n : Nat) (fl : List Nat) : Bool := Region.noSelect ops && headB md ops n && decide (n ≤ ops.size) && floatB md ops n fl && edgesB md ops n fl && Region.seqB md ops (ops.size - n) n (canon n ops.size)
theorem free_all {j : Nat} {s : Array Bool} (inv : HeadInv md ops n s) (hr : j ∈ Region.ready md ops s) (h : Region.free md ops (behind md ops j) j = true) : Region.free md ops s j = true := by
  obtain ⟨_, oj, hoj, hall⟩ := mem_ready.1 hr
  unfold Region.free at h ⊢
  rw [hoj] at h ⊢
  simp only [List.all_eq_true, List.mem_range] at h ⊢
  intro k hk
  have := h k hk
  simp only [Bool.or_eq_true] at this ⊢
  rcases this with (h1 | h1) | h1
  · exact .inl (.inl h1)
  · refine .inl (.inr ?_)
    have h2 : leadsB md ops k ops.size j = true := by
      simpa [behind, Array.getD_eq_getD_getElem?, hk] using h1
    have h3 := leads_listed inv _ j oj hoj hall h2
    cases hx : s.getD k true with
    | true => rfl
    | false => rw [getD_both hx] at h3; cases h3
  · exact .inr h1
theorem float_turn {fl : List Nat} {s : Array Bool} (hf : floatB md ops n fl = true) (he : edgesB md ops n fl = true) (inv : HeadInv md ops n s) (hn : n ≤ ops.size) {i : Nat} (hi : i < n) (hun : s.getD i true = false) :
    (∀ t, t ∈ Region.ready md ops s → t < n) ∨ (i ∈ fl ∧ i ∈ Region.ready md ops s) := by
  by_cases hx : ∃ k, k < n ∧ k ∉ fl ∧ s.getD k true = false
  · obtain ⟨k, hk, hkf, hku⟩ := hx
    refine .inl (fun t ht => ?_)
    rcases Nat.lt_or_ge t n with h4 | h4
    · exact h4
    · exfalso
      obtain ⟨_, ot, hot, hall⟩ := mem_ready.1 ht
      have htlt : t < ops.size := (Array.getElem?_eq_some_iff.1 hot).1
      have h1 := List.all_eq_true.1 he t (List.mem_range.2 htlt)
      simp only [Bool.or_eq_true, decide_eq_true_eq] at h1
      rcases h1 with h1 | h1
      · omega
      · have h2 := List.all_eq_true.1 h1 k (List.mem_range.2 hk)
        simp only [Bool.or_eq_true, List.contains_iff_mem] at h2
        rcases h2 with (h2 | h2) | h2
        · exact hkf h2
        · obtain ⟨o', ho', e, hem, hb, hon⟩ := Region.waitsFor_spec h2
          have : o' = ot := Option.some.inj (ho'.symm.trans hot)
          subst this
          have h3 := hall e hem hb
          rw [hon, getD_both hku] at h3
          cases h3
        · have h3 := leads_listed inv _ t ot hot hall h2
          rw [getD_both hku] at h3
          cases h3
  · have hif : i ∈ fl := by
      by_cases h : i ∈ fl
      · exact h
      · exact absurd ⟨i, hi, h, hun⟩ hx
    refine .inr ⟨hif, ?_⟩
    have h1 := List.all_eq_true.1 hf i hif
    simp only [Bool.and_eq_true, decide_eq_true_eq] at h1
    obtain ⟨⟨_, _⟩, h1⟩ := h1
    cases ho : ops[i]? with
    | none => rw [ho] at h1; simp at h1
    | some o =>
      rw [ho] at h1
      simp only [Bool.and_eq_true] at h1
      refine mem_ready.2 ⟨hun, o, ho, fun e hem hb => ?_⟩
      have h2 := Array.all_eq_true_iff_forall_mem.1 h1.2 e hem
      simp only [hb, Bool.not_true, Bool.false_or, Bool.and_eq_true, decide_eq_true_eq, Bool.not_eq_true'] at h2
      cases hl : s.getD e.on false with
      | true => rfl
      | false =>
        exfalso
        have hs : e.on < s.size := by rw [inv.size]; omega
        have hnf : e.on ∉ fl := fun h => by
          have : fl.contains e.on = true := List.contains_iff_mem.2 h
          rw [h2.2] at this
          cases this
        exact hx ⟨e.on, h2.1, hnf, getD_in hs hl⟩
end
section
variable {P : Program} {ops : Array Oper} {md : Region.Mode} {n : Nat} {ks : List (Tmp × Kind)} {w0 : World} {a0 : Act}
theorem tree_fl {Q : Act → World → Prop} {R : Exit → Act → World → Prop} {g : Nat} {fl : List Nat} (hsel : Region.noSelect ops = true) (hB : headB md ops n = true) (hn : n ≤ ops.size) (hF : floatB md ops n fl = true) (hE : edgesB md ops n fl = true) (hK : kindB ops ks fl = true)
    (hR : ∀ c a w x v, R (.panic c) (a.put (some x) v) w → R (.panic c) a w)
    {L : List Oper} (hL : ∀ j, j < n → L[j]? = ops[j]?) (hLn : L.length = n) (ht : tree P ops ks w0 Q L bare a0) (hQ : ∀ a w, Q a w → wpAny P md ops R g (canon n ops.size) a w) :
    ∀ (m : Nat) (s : Array Bool) (a : Act) (w : World) (u : Nat → Value), Inv P ops md n ks w0 a0 s a w u → cnt s n = m → wpAny P md ops R (m + g) s a w
  | 0, s, a, w, u, inv, hc => by
    have hall := cnt_zero n hc
    obtain ⟨b, F, h, br⟩ := reach hsel hB inv hL hLn ht n (Nat.le_refl _)
    rw [List.drop_of_length_le (by omega)] at h
    have hba : b = a := by
      have e1 : b.tmps = a.tmps := by
        apply Array.ext_getElem?
        intro d
        by_cases hx : ∃ j p, j < n ∧ ops[j]? = some p ∧ p.dst = some d
        · obtain ⟨j, p, hj, hp, hd⟩ := hx
          rw [br.slot j p d hj hp (hall j hj) hd, inv.slot j p d hj hp (hall j hj) hd]
        · rw [br.rest d (fun j p hj hp hd => hx ⟨j, p, hj, hp, hd⟩), inv.rest d (fun j p hj hp _ hd => hx ⟨j, p, hj, hp, hd⟩)]
      have e2 : b.defers = a.defers := br.defers.trans inv.defers.symm
      cases b; cases a
      simp only at e1 e2
      rw [e1, e2]
    rw [hba] at h
    have hq : Q a w := h w inv.grow (fun d => by
      by_cases hx : ∃ j p, j < n ∧ ops[j]? = some p ∧ p.dst = some d
      · obtain ⟨j, p, hj, hp, hd⟩ := hx
        exact br.told j p d hj hp (hall j hj) hd w (told_now inv hj hp (hall j hj))
      · exact br.free d (fun j p hj hp hd => hx ⟨j, p, hj, hp, hd⟩) w)
    rw [Nat.zero_add, canon_eq hn inv.head.size hall (fun j h1 h2 => inv.head.tail j h1 h2)]
    exact hQ a w hq
  | m + 1, s, a, w, u, inv, hc => by
    have e : m + 1 + g = m + g + 1 := by omega
    rw [e]
    obtain ⟨i0, hi0, hf0, hlow⟩ := cnt_pos (s := s) n (by omega)
    have hs0 : i0 < s.size := by rw [inv.head.size]; omega
    obtain ⟨o0, ho0⟩ := head_op hB hi0
    have hr0 : i0 ∈ Region.ready md ops s := mem_ready.2 ⟨getD_in hs0 hf0, o0, ho0, fun e he hb => hlow e.on (head_edges hB hi0 ho0 e he hb)⟩
    -- what each ready operation of the head does
    have one : ∀ i, i ∈ Region.ready md ops s → i < n → ∃ o, ops[i]? = some o ∧ (∀ v w', Step w0.heap.size w w' → Good P ops n ks w0 u o a w' v → wpAny P md ops R (m + g) (s.setIfInBounds i true) (a.put o.dst v) w') ∧
        ∃ b : Act, (execOp b.eval o = execOp a.eval o) ∧ (Region.wanted o (yielded ops b.tmps) = Region.wanted o (yielded ops a.tmps)) ∧ ∃ F : Facts, (∀ d ∈ o.looksAt ops, F d w) ∧ tree P ops ks w0 Q (o :: L.drop (i + 1)) F b ∧
        (∀ d, d ∈ o.looksAt ops → ∀ j p, j < n → ops[j]? = some p → p.dst = some d → Told ops ks p a w (u j)) := fun i hi hin => by
      obtain ⟨hun, o, ho, hall⟩ := mem_ready.1 hi
      have hset : Settled ops n s o := settled_of hB hin ho hall
      obtain ⟨b, F, h, br⟩ := reach hsel hB inv hL hLn ht i (by omega)
      have hd : L.drop i = o :: L.drop (i + 1) := by
        have h1 : L[i]? = some o := by rw [hL i hin]; exact ho
        obtain ⟨hlt, he⟩ := List.getElem?_eq_some_iff.1 h1
        rw [List.drop_eq_getElem_cons hlt, he]
      rw [hd] at h
      obtain ⟨hexec, hwant⟩ := exec_agree o (Region.noSelect_spec hsel i o · · ho) (looks_agree hB inv hin ho hset br)
      have hfw := facts_of hB hin ho hset br (W := w) (fun d hm j p hj hp hpd => told_now inv hj hp (hset j p d hj hp hpd hm))
      have hcs : cnt (s.setIfInBounds i true) n = m := by
        have := cnt_set (s := s) (i := i) (by rw [inv.head.size]; omega) (getD_both hun) n hin
        omega
      exact ⟨o, ho, fun v w' hg hgood => tree_fl hsel hB hn hF hE hK hR hL hLn ht hQ m _ _ _ _ (inv_next hsel hB inv hin ho hi hg hgood) hcs, b, hexec.symm ▸ rfl, hwant.symm ▸ rfl, F, hfw, h, fun d hm j p hj hp hpd => told_now inv hj hp (hset j p d hj hp hpd hm)⟩
    rcases float_turn hF hE inv.head hn hi0 (getD_in hs0 hf0) with hT | ⟨hif, hir⟩
    · refine ⟨fun h => (by rw [h] at hr0; cases hr0), fun i hi => ?_⟩
      have hin : i < n := hT i hi
      obtain ⟨o, ho, next, b, hexec, hwant, F, hfw, h, htold⟩ := one i hi hin
      unfold tree at h
      unfold wpOp
      simp only [ho]
      by_cases hw : Region.wanted o (yielded ops b.tmps) = true
      · rw [if_pos hw] at h
        rw [hwant] at hw
        rw [if_pos hw]
        refine .inl ?_
        have hgd : ∀ v w', (match kindOf ks o with
            | .none => ∃ W, Rel.Grow w0 W ∧ (∀ d, d ∈ o.looksAt ops → ∀ j p, j < n → ops[j]? = some p → p.dst = some d → Told ops ks p a W (u j)) ∧ (execOp a.eval o).run P W = .ok (.value v) W
            | .some (.const c) => v = c
            | .some (.any V _) => V v w') → Good P ops n ks w0 u o a w' v := fun v w' hx => by
          unfold Good
          rw [if_pos hw]
          exact hx
        cases hkd : kindOf ks o with
        | none =>
          rw [hkd] at h
          obtain ⟨_, v, hv, _⟩ := h
          have hrun := hv w inv.grow hfw
          rw [hexec] at hrun
          unfold Oper.wp
          rw [hrun]
          exact next v w (Step.refl _ _) (hgd v w (by
            rw [hkd]
            exact ⟨w, inv.grow, htold, hrun⟩))
        | some kd =>
          rw [hkd] at h
          cases kd with
          | const c =>
            have hr := h.1 w inv.grow hfw
            unfold stepAt at hr
            rw [hexec] at hr
            exact wp_of_rel hr (fun v w' hg hv => next v w' hg (hgd v w' (by rw [hkd]; exact hv)))
          | any V hV =>
            have hr := h.1 w inv.grow hfw
            unfold stepAt at hr
            rw [hexec] at hr
            exact wp_of_rel hr (fun v w' hg hv => next v w' hg (hgd v w' (by rw [hkd]; exact hv)))
      · rw [hwant] at hw
        rw [if_neg hw]
        exact next undef w (Step.refl _ _) (by unfold Good; rw [if_neg hw])
    · obtain ⟨o, ho, next, b, hexec, hwant, F, hfw, h, htold⟩ := one i0 hir hi0
      have hfl := List.all_eq_true.1 hF i0 hif
      rw [ho] at hfl
      simp only [Bool.and_eq_true, decide_eq_true_eq] at hfl
      obtain ⟨⟨_, hfree⟩, hplain, _⟩ := hfl
      obtain ⟨x, hx⟩ : ∃ x, o.dst = some x := Option.isSome_iff_exists.1 (by simp only [plainOp, Bool.and_eq_true] at hplain; exact hplain.1)
      unfold tree at h
      have fin : ∀ v, Yields P ops o v a → wpAny P md ops R (m + g) (s.setIfInBounds i0 true) (a.put o.dst v) w → wpAny P md ops R (m + g + 1) s a w := fun v hy hn' =>
        wpAny_take ho hsel (free_all inv.head hir hfree) (List.contains_iff_mem.2 hir) (by rw [hx]; exact fun c a w => hR c a w x v) hy hn'
      by_cases hw : Region.wanted o (yielded ops b.tmps) = true
      · rw [if_pos hw] at h
        rw [hwant] at hw
        cases hkd : kindOf ks o with
        | none =>
          rw [hkd] at h
          obtain ⟨_, v, hv, _⟩ := h
          have hrun := hv w inv.grow hfw
          rw [hexec] at hrun
          exact fin v (.inl ⟨hw, plain_run hplain hrun⟩) (next v w (Step.refl _ _) (by
            unfold Good
            rw [if_pos hw, hkd]
            exact ⟨w, inv.grow, htold, hrun⟩))
        | some kd =>
          exfalso
          have h1 := List.all_eq_true.1 hK i0 hif
          rw [ho] at h1
          simp only [hkd] at h1
          cases h1
      · rw [hwant] at hw
        exact fin undef (.inr ⟨by simpa using hw, rfl⟩) (next undef w (Step.refl _ _) (by unfold Good; rw [if_neg hw]))
/-- The region's law. -/
theorem wp_region_fl {id : Nat} {Q : Exit → Act → World → Prop} {a : Act} {w : World} {l : List Oper} (n : Nat) (fl : List Nat) (ks : List (Tmp × Kind)) (hm : P.follows .mixedOrders = true) (hB : okF .any l.toArray n fl = true) (hK : kindB l.toArray ks fl = true)
    (hR : ∀ c a w x v, Q (.panic c) (a.put (some x) v) w → Q (.panic c) a w)
    (h : tree P l.toArray ks w.drew (fun a' W => wpList P l.toArray Q (l.drop n) a' W) (l.take n) bare a) : (Code.region id l.toArray true).wp P Q a w := by
  simp only [okF, Bool.and_eq_true, decide_eq_true_eq] at hB
  obtain ⟨⟨⟨⟨⟨hsel, hhead⟩, hn⟩, hF⟩, hE⟩, hseq⟩ := hB
  have hnl : n ≤ l.length := by simpa using hn
  have inv0 : Inv P l.toArray .any n ks w.drew a (Array.replicate l.toArray.size false) a w.drew (fun _ => undef) :=
    ⟨⟨by simp, fun j oj _ hl => (by rw [getD_replicate_false] at hl; cases hl), fun t _ ht => getD_in (by simpa using ht) (getD_replicate_false _ _)⟩, Rel.Grow.refl _, rfl, rfl, fun _ _ => rfl, fun j o d _ _ hl => (by rw [getD_replicate_false] at hl; cases hl), fun j o _ _ hl => (by rw [getD_replicate_false] at hl; cases hl)⟩
  have hc : ∀ m, cnt (Array.replicate l.toArray.size false) m = m := fun m => by
    induction m with
    | zero => rfl
    | succ m ih => rw [cnt, ih, getD_replicate_false]; rfl
  refine wp_region_any hm ?_
  have hdl : (l.drop n).length = l.toArray.size - n := by simp
  have := tree_fl (g := l.toArray.size - n) (R := Q) hsel hhead hn hF hE hK hR (L := l.take n) (fun j hj => by simp [hj]) (by simp; omega) h (fun a' w' hq => by
    have h2 := wpAny_of_seq (md := .any) (Q' := Q) (l.drop n) n (canon n l.toArray.size) a' w' (fun j => by simp [List.getElem?_drop]) (by rw [hdl]; exact hseq) hq
    rwa [hdl] at h2) n _ _ _ _ inv0 (hc n)
  rw [show n + (l.toArray.size - n) = l.toArray.size by omega] at this
  exact this
end
end RelG
end Go.Proofs.YtmiaabpnolebhaaGreatDoor
