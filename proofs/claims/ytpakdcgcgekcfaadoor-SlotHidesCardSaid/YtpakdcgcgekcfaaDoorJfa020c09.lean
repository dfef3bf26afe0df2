/-
  Texts of this claim, joined: Rel, RelUse, Buf, Parts, SlotA, SlotB, Fill, SlotC, AppMake, NewRow, ShaSpread.
-/
import Derived.StillTail
import Derived.Deep.Quiet
import Derived.Lib.QuietBelow
import Derived.BigQuiet
import Derived.Test.YtpakdcgcgekcfaaDoorProg
import Derived.Test.YtpakdcgcgekcfaaDoorJ81216201
import Derived.Deep.MidRow
import Derived.Laws.Tables
import Derived.Lib.ConvBytes
import Derived.Lib.SlBytesConst
import Derived.Test.YtpakdcgcgekcfaaDoorJ788900e0
import Derived.Deep.LoopGhost
import Derived.Laws.Rows
import Derived.Laws.CopyOwn
import Derived.IntWalk
import Derived.Laws.AppendOwn
import Derived.StillTailTactics
import Derived.Deep.QuietTactic
set_option linter.unusedVariables false
/-
  A drawn region whose operations read, reckon, or call what makes memory: one walk in the text's order serves every order. What a call hands back need not be one value: it is told by a predicate ('Kind.any') that later growth of memory does not break; an operation may use what is told of the slots that it looks at, and of the world as it stood at the region's head. A tail in one forced order (a store, an append) may follow.
-/
set_option linter.unusedSimpArgs false
set_option linter.unusedVariables false
namespace Go.Proofs.YtpakdcgcgekcfaaDoor
open Go Go.RowKit

namespace Rel
/-- Memory has grown. -/
def Grow (W W' : World) : Prop := Below W.heap.size W W'
theorem Grow.refl (W : World) : Grow W W := Below.refl _ _
theorem Grow.trans {a b c : World} (h : Grow a b) (k : Grow b c) : Grow a c := Below.trans h (Below.mono k (Below.size h))
/-- What was there reads the same (a block's mark may have turned). -/
structure Soft (W W' : World) : Prop where
  size : W.heap.size ≤ W'.heap.size
  cell : ∀ (p : Addr) (v : Value), W.cell? p = some v → W'.cell? p = some v
  shape : ∀ (g : Nat) (x : TypeId × Nat), W.shape? g = some x → W'.shape? g = some x
theorem Soft.refl (W : World) : Soft W W := ⟨Nat.le_refl _, fun _ _ h => h, fun _ _ h => h⟩
theorem Soft.trans {a b c : World} (h : Soft a b) (k : Soft b c) : Soft a c := ⟨Nat.le_trans h.size k.size, fun p v x => k.cell p v (h.cell p v x), fun g x y => k.shape g x (h.shape g x y)⟩
theorem Grow.soft {W W' : World} (h : Grow W W') : Soft W W' := by
  have lt : ∀ {k : Nat} {o : Obj}, W.heap[k]? = some o → k < W.heap.size := fun h => (Array.getElem?_eq_some_iff.1 h).1
  refine ⟨Below.size h, fun p v hp => ?_, fun g x hg => ?_⟩
  · unfold World.cell? at hp ⊢
    cases ho : W.heap[p.block]? with
    | none => rw [ho] at hp; cases hp
    | some o => rw [Below.block h _ (lt ho)]; exact hp
  · unfold World.shape? at hg ⊢
    cases ho : W.heap[g]? with
    | none => rw [ho] at hg; cases hg
    | some o => rw [Below.block h _ (lt ho)]; exact hg
/-- One operation's doing: what is older than B stands, all else reads the same. -/
structure Step (B : Nat) (W W' : World) : Prop where
  old : Below B W W'
  soft : Soft W W'
theorem Step.refl (B : Nat) (W : World) : Step B W W := ⟨Below.refl _ _, Soft.refl _⟩
theorem Step.of {B : Nat} {W W' : World} (hB : B ≤ W.heap.size) (h : Grow W W') : Step B W W' := ⟨Below.mono h hB, h.soft⟩
/-- What an operation's value is: a constant; or told by a predicate. -/
inductive Kind where
  | const (c : Value)
  | any (V : Value → World → Prop) (h : ∀ v W W', Soft W W' → V v W → V v W')
def kindOf (ks : List (Tmp × Kind)) (o : Oper) : Option Kind := match o.dst with
  | some d => ks.lookup d
  | none => none
/-- Operations that are walked as they stand. -/
def pureOp (o : Oper) : Bool := match o.op with
  | .move _ | .assign _ | .pick _ _ _ | .build _ _ | .load _ _ | .binOp _ _ _ _ _ | .unOp _ _ _ | .convert _ _ _ | .slice _ _ _ _ _ | .fieldAddr _ _ _ | .field _ _ _ | .indexAddr _ _ _ | .index _ _ _ | .extract _ _ | .sliceToArrayPointer _ _ => true
  | _ => false
section
variable {P : Program} {ops : Array Oper} {md : Region.Mode}
theorem value_of_pure {o : Oper} {ρ : Operand → Value} {w w' : World} {n : Next} (hp : pureOp o = true) (h : (execOp ρ o).run P w = .ok n w') : ∃ u, n = .value u := by
  have key : ∀ (s : Sem Value), (do let x ← s; pure (Next.value x) : Sem Next).run P w = .ok n w' → ∃ u, n = .value u := fun s hs => by
    rw [Sem.run_bind] at hs
    cases hr : s.run P w with
    | ok x w1 => rw [hr] at hs; simp [Result.andThen] at hs; exact ⟨x, hs.1.symm⟩
    | halt x w1 => rw [hr] at hs; simp [Result.andThen] at hs
  obtain ⟨dst, op, type, pos, after, guard⟩ := o
  cases op <;> simp only [pureOp, Bool.false_eq_true] at hp <;> simp only [execOp] at h
  case move x => simp at h; exact ⟨_, h.1.symm⟩
  case assign x => simp at h; exact ⟨_, h.1.symm⟩
  case pick c x y =>
    rw [Sem.run_bind] at h
    cases hr : (asBool (ρ c)).run P w with
    | ok b w1 => rw [hr] at h; simp [Result.andThen] at h; exact ⟨_, h.1.symm⟩
    | halt b w1 => rw [hr] at h; simp [Result.andThen] at h
  all_goals exact key _ h
/-- An operation that may make memory, or call. -/
def relUpon (P : Program) (W : World) (V : Value → World → Prop) : Result Next → Prop
  | .ok (.value v) w' => Grow W w' ∧ V v w'
  | .ok .skip w' => Grow W w' ∧ V undef w'
  | .ok (.enter f args) w' => Calls P f args w' (fun e w'' => ∃ v, e = .returned v ∧ Grow W w'' ∧ V v w'')
  | _ => False
def relAt (P : Program) (o : Oper) (a : Act) (W : World) (V : Value → World → Prop) : Prop := relUpon P W V ((execOp a.eval o).run P W)
def stepUpon (P : Program) (B : Nat) (W : World) (V : Value → World → Prop) : Result Next → Prop
  | .ok (.value v) w' => Step B W w' ∧ V v w'
  | .ok .skip w' => Step B W w' ∧ V undef w'
  | .ok (.enter f args) w' => Calls P f args w' (fun e w'' => ∃ v, e = .returned v ∧ Step B W w'' ∧ V v w'')
  | _ => False
def stepAt (P : Program) (B : Nat) (o : Oper) (a : Act) (W : World) (V : Value → World → Prop) : Prop := stepUpon P B W V ((execOp a.eval o).run P W)
theorem stepAt.of {P : Program} {B : Nat} {o : Oper} {a : Act} {W : World} {V : Value → World → Prop} (hB : B ≤ W.heap.size) (h : relAt P o a W V) : stepAt P B o a W V := by
  unfold relAt at h
  unfold stepAt
  generalize (execOp a.eval o).run P W = r at *
  cases r with
  | ok x w1 =>
    cases x <;> simp only [relUpon] at h <;> simp only [stepUpon]
    case value v => exact ⟨Step.of hB h.1, h.2⟩
    case skip => exact ⟨Step.of hB h.1, h.2⟩
    case enter f args => exact Calls.mono h fun e w'' ⟨v, he, hg, hV⟩ => ⟨v, he, Step.of hB hg, hV⟩
  | halt x w1 => simp only [relUpon] at h
/-- What is told of slots. -/
abbrev Facts := Tmp → World → Prop
def Facts.put (F : Facts) (d : Option Tmp) (p : World → Prop) : Facts := fun x => match d with
  | some y => if x = y then p else F x
  | none => F x
def bare : Facts := fun _ _ => True
/-- The walk in the text's order. -/
def tree (P : Program) (ops : Array Oper) (ks : List (Tmp × Kind)) (w0 : World) (Q : Act → World → Prop) : List Oper → Facts → Act → Prop
  | [], F, a => ∀ W, Grow w0 W → (∀ d, F d W) → Q a W
  | o :: rest, F, a => if Region.wanted o (yielded ops a.tmps) then
      match kindOf ks o with
      | .none => pureOp o = true ∧ ∃ v, (∀ W, Grow w0 W → (∀ d, d ∈ o.looksAt ops → F d W) → (execOp a.eval o).run P W = .ok (.value v) W) ∧ tree P ops ks w0 Q rest F (a.put o.dst v)
      | .some (.const c) => (∀ W, Grow w0 W → (∀ d, d ∈ o.looksAt ops → F d W) → stepAt P w0.heap.size o a W (fun v _ => v = c)) ∧ tree P ops ks w0 Q rest F (a.put o.dst c)
      | .some (.any V _) => (∀ W, Grow w0 W → (∀ d, d ∈ o.looksAt ops → F d W) → stepAt P w0.heap.size o a W V) ∧ ∀ v, tree P ops ks w0 Q rest (F.put o.dst (V v)) (a.put o.dst v)
    else tree P ops ks w0 Q rest F (a.put o.dst undef)
/-- The region's form: edges lead back; each slot is written once; what is looked at is there, or waited for. -/
def headB (md : Region.Mode) (ops : Array Oper) (n : Nat) : Bool :=
  (List.range n).all fun i => match ops[i]? with
    | .none => false
    | .some o => (o.after.all fun e => !Region.binds md e || decide (e.on < i)) &&
      (List.range n).all fun j => match ops[j]? with
        | .none => false
        | .some p => match p.dst with
          | .none => true
          | .some d => (decide (i = j) || (o.dst != .some d)) && (!(o.looksAt ops).contains d || (decide (j < i) && Region.waitsFor md ops i j))
def canon (n m : Nat) : Array Bool := (List.replicate n true ++ List.replicate (m - n) false).toArray
def tailB (md : Region.Mode) (ops : Array Oper) (n : Nat) : Bool := decide (n = ops.size) || (decide (n < ops.size) && Region.sinkB md ops n && Region.chainB md ops n)
def okB (md : Region.Mode) (ops : Array Oper) (n : Nat) : Bool := Region.noSelect ops && headB md ops n && tailB md ops n && Region.seqB md ops (ops.size - n) n (canon n ops.size)
def cnt (s : Array Bool) : Nat → Nat
  | 0 => 0
  | m + 1 => cnt s m + (if s.getD m false then 0 else 1)
theorem cnt_far {s : Array Bool} {i : Nat} : ∀ m, m ≤ i → cnt (s.setIfInBounds i true) m = cnt s m
  | 0, _ => rfl
  | m + 1, h => by rw [cnt, cnt, cnt_far m (by omega), getD_set_ne false (by omega)]
theorem cnt_set {s : Array Bool} {i : Nat} (hs : i < s.size) (hf : s.getD i false = false) : ∀ m, i < m → cnt (s.setIfInBounds i true) m + 1 = cnt s m
  | m + 1, h => by
    by_cases him : i = m
    · subst him
      have e : (s.setIfInBounds i true).getD i false = true := by simp [hs]
      rw [cnt, cnt, cnt_far i (Nat.le_refl _), e, hf]
      simp
    · rw [cnt, cnt, getD_set_ne false him, ← cnt_set hs hf m (by omega)]
      omega
theorem cnt_zero {s : Array Bool} : ∀ m, cnt s m = 0 → ∀ j, j < m → s.getD j false = true
  | m + 1, h, j, hj => by
    rw [cnt] at h
    by_cases hjm : j = m
    · subst hjm
      cases he : s.getD j false
      · rw [he] at h; simp at h
      · rfl
    · exact cnt_zero m (by omega) j (by omega)
theorem cnt_pos {s : Array Bool} : ∀ m, 0 < cnt s m → ∃ i, i < m ∧ s.getD i false = false ∧ ∀ j, j < i → s.getD j false = true
  | m + 1, h => by
    by_cases h0 : 0 < cnt s m
    · obtain ⟨i, hi, hf, ha⟩ := cnt_pos m h0
      exact ⟨i, by omega, hf, ha⟩
    · refine ⟨m, by omega, ?_, cnt_zero m (by omega)⟩
      rw [cnt] at h
      cases he : s.getD m false
      · rfl
      · rw [he] at h; simp at h; omega
theorem head_edges {n i : Nat} {o : Oper} (h : headB md ops n = true) (hi : i < n) (ho : ops[i]? = some o) : ∀ e ∈ o.after, Region.binds md e = true → e.on < i := fun e he hb => by
  have h1 := List.all_eq_true.1 h i (List.mem_range.2 hi)
  simp only [ho, Bool.and_eq_true] at h1
  have h2 := Array.all_eq_true_iff_forall_mem.1 h1.1 e he
  simpa [hb] using h2
theorem head_apart {n i j : Nat} {o p : Oper} {d : Tmp} (h : headB md ops n = true) (hi : i < n) (ho : ops[i]? = some o) (hj : j < n) (hp : ops[j]? = some p) (hd : p.dst = some d) :
    (i ≠ j → o.dst ≠ some d) ∧ (d ∈ o.looksAt ops → j < i ∧ Region.waitsFor md ops i j = true) := by
  have h1 := List.all_eq_true.1 h i (List.mem_range.2 hi)
  simp only [ho, Bool.and_eq_true] at h1
  have h2 := List.all_eq_true.1 h1.2 j (List.mem_range.2 hj)
  simp only [hp, hd, Bool.or_eq_true, decide_eq_true_eq, Bool.and_eq_true, bne_iff_ne, Bool.not_eq_true'] at h2
  refine ⟨fun hij => h2.1.resolve_left hij, fun hm => ?_⟩
  rcases h2.2 with h3 | h3
  · simp [hm] at h3
  · exact h3
theorem head_op {n i : Nat} (h : headB md ops n = true) (hi : i < n) : ∃ o, ops[i]? = some o := by
  have h1 := List.all_eq_true.1 h i (List.mem_range.2 hi)
  cases ho : ops[i]? with
  | none => simp [ho] at h1
  | some o => exact ⟨o, rfl⟩
theorem exec_agree {a b : Act} (o : Oper) (hs : ∀ cs b, o.op ≠ .select cs b) (h : ∀ d, d ∈ o.looksAt ops → b.tmps[d]? = a.tmps[d]?) : execOp b.eval o = execOp a.eval o ∧ Region.wanted o (yielded ops b.tmps) = Region.wanted o (yielded ops a.tmps) := by
  refine ⟨execOp_congr o hs fun x hx => ?_, ?_⟩
  · cases x with
    | tmp d =>
      have := h d (List.mem_append_left _ (List.mem_filterMap.2 ⟨.tmp d, by simpa using hx, rfl⟩))
      simp [Act.eval, this]
    | _ => rfl
  · unfold Region.wanted
    cases hg : o.guard with
    | none => rfl
    | some gw =>
      obtain ⟨g, want⟩ := gw
      have hy : yielded ops b.tmps g = yielded ops a.tmps g := by
        unfold yielded
        cases ht : (ops[g]?).bind (·.dst) with
        | none => rfl
        | some t =>
          have := h t (by simp [Oper.looksAt, hg, ht])
          simp [this]
      simp only [hy]
end
section
variable (P : Program) (ops : Array Oper) (md : Region.Mode) (n : Nat) (ks : List (Tmp × Kind)) (w0 : World) (a0 : Act)
/-- What is told of an executed operation's slot. -/
def Told (p : Oper) (a : Act) (W : World) (v : Value) : Prop := ∀ V h, kindOf ks p = some (.any V h) → Region.wanted p (yielded ops a.tmps) = true → V v W
def Good (u : Nat → Value) (o : Oper) (a : Act) (w : World) (v : Value) : Prop :=
  if Region.wanted o (yielded ops a.tmps) then
    match kindOf ks o with
    | .none => ∃ W, Grow w0 W ∧ (∀ d, d ∈ o.looksAt ops → ∀ j p, j < n → ops[j]? = some p → p.dst = some d → Told ops ks p a W (u j)) ∧ (execOp a.eval o).run P W = .ok (.value v) W
    | .some (.const c) => v = c
    | .some (.any V _) => V v w
  else v = undef
structure Inv (s : Array Bool) (a : Act) (w : World) (u : Nat → Value) : Prop where
  head : HeadInv md ops n s
  grow : Grow w0 w
  defers : a.defers = a0.defers
  size : a.tmps.size = a0.tmps.size
  rest : ∀ d, (∀ j o, j < n → ops[j]? = some o → s.getD j false = true → o.dst ≠ some d) → a.tmps[d]? = a0.tmps[d]?
  slot : ∀ j o d, j < n → ops[j]? = some o → s.getD j false = true → o.dst = some d → a.tmps[d]? = (a0.tmps.setIfInBounds d (u j))[d]?
  good : ∀ j o, j < n → ops[j]? = some o → s.getD j false = true → Good P ops n ks w0 u o a w (u j)
structure Br (s : Array Bool) (a : Act) (u : Nat → Value) (k : Nat) (b : Act) (F : Facts) : Prop where
  defers : b.defers = a0.defers
  size : b.tmps.size = a0.tmps.size
  rest : ∀ d, (∀ j o, j < k → ops[j]? = some o → o.dst ≠ some d) → b.tmps[d]? = a0.tmps[d]?
  slot : ∀ j o d, j < k → ops[j]? = some o → s.getD j false = true → o.dst = some d → b.tmps[d]? = (a0.tmps.setIfInBounds d (u j))[d]?
  free : ∀ d, (∀ j o, j < k → ops[j]? = some o → o.dst ≠ some d) → ∀ W, F d W
  told : ∀ j o d, j < k → ops[j]? = some o → s.getD j false = true → o.dst = some d → ∀ W, Told ops ks o a W (u j) → F d W
end
section
variable {P : Program} {ops : Array Oper} {md : Region.Mode} {n : Nat} {ks : List (Tmp × Kind)} {w0 : World} {a0 : Act} {s : Array Bool} {a : Act} {w : World} {u : Nat → Value}
theorem put_get (a : Act) (x : Option Tmp) (v : Value) (d : Tmp) (h : x ≠ some d) : (a.put x v).tmps[d]? = a.tmps[d]? := by
  cases x with
  | none => rfl
  | some y => simp [Act.put, Array.getElem?_setIfInBounds_ne (show y ≠ d from fun e => h (by rw [e]))]
theorem put_size (a : Act) (x : Option Tmp) (v : Value) : (a.put x v).tmps.size = a.tmps.size := by cases x <;> simp [Act.put]
theorem put_defers (a : Act) (x : Option Tmp) (v : Value) : (a.put x v).defers = a.defers := by cases x <;> rfl
theorem put_self (a : Act) (v : Value) (d : Tmp) (hs : a.tmps.size = a0.tmps.size) : (a.put (some d) v).tmps[d]? = (a0.tmps.setIfInBounds d v)[d]? := by
  simp only [Act.put, Array.getElem?_setIfInBounds, hs]
  simp
theorem waits_done {i j : Nat} {o : Oper} (ho : ops[i]? = some o) (hw : Region.waitsFor md ops i j = true) (h : ∀ e ∈ o.after, Region.binds md e = true → s.getD e.on false = true) : s.getD j false = true := by
  obtain ⟨o', ho', e, he, hb, hon⟩ := Region.waitsFor_spec hw
  rw [ho] at ho'
  cases ho'
  rw [← hon]
  exact h e he hb
/-- Every slot that an operation looks at is settled. -/
def Settled (ops : Array Oper) (n : Nat) (s : Array Bool) (o : Oper) : Prop := ∀ j p d, j < n → ops[j]? = some p → p.dst = some d → d ∈ o.looksAt ops → s.getD j false = true
theorem settled_of (hB : headB md ops n = true) {i : Nat} {o : Oper} (hi : i < n) (ho : ops[i]? = some o) (h : ∀ e ∈ o.after, Region.binds md e = true → s.getD e.on false = true) : Settled ops n s o :=
  fun _ _ _ hj hp hd hm => waits_done ho ((head_apart hB hi ho hj hp hd).2 hm).2 h
theorem looks_agree (hB : headB md ops n = true) (inv : Inv P ops md n ks w0 a0 s a w u) {i : Nat} {o : Oper} (hi : i < n) (ho : ops[i]? = some o) (hset : Settled ops n s o) {b : Act} {F : Facts} (br : Br ops ks a0 s a u i b F) :
    ∀ d, d ∈ o.looksAt ops → b.tmps[d]? = a.tmps[d]? := fun d hm => by
  by_cases h : ∃ j p, j < n ∧ ops[j]? = some p ∧ p.dst = some d
  · obtain ⟨j, p, hj, hp, hd⟩ := h
    have hex := hset j p d hj hp hd hm
    have hlt := ((head_apart hB hi ho hj hp hd).2 hm).1
    rw [br.slot j p d hlt hp hex hd, inv.slot j p d hj hp hex hd]
  · rw [br.rest d (fun j p hj hp hd => h ⟨j, p, by omega, hp, hd⟩), inv.rest d (fun j p hj hp _ hd => h ⟨j, p, hj, hp, hd⟩)]
theorem facts_of (hB : headB md ops n = true) {i : Nat} {o : Oper} (hi : i < n) (ho : ops[i]? = some o) (hset : Settled ops n s o) {b : Act} {F : Facts} (br : Br ops ks a0 s a u i b F) {W : World}
    (h : ∀ d, d ∈ o.looksAt ops → ∀ j p, j < n → ops[j]? = some p → p.dst = some d → Told ops ks p a W (u j)) : ∀ d, d ∈ o.looksAt ops → F d W := fun d hm => by
  by_cases hx : ∃ j p, j < n ∧ ops[j]? = some p ∧ p.dst = some d
  · obtain ⟨j, p, hj, hp, hd⟩ := hx
    exact br.told j p d ((head_apart hB hi ho hj hp hd).2 hm).1 hp (hset j p d hj hp hd hm) hd W (h d hm j p hj hp hd)
  · exact br.free d (fun j p hj hp hd => hx ⟨j, p, by omega, hp, hd⟩) W
theorem told_now (inv : Inv P ops md n ks w0 a0 s a w u) {j : Nat} {p : Oper} (hj : j < n) (hp : ops[j]? = some p) (hex : s.getD j false = true) : Told ops ks p a w (u j) := fun V h hk hw => by
  have := inv.good j p hj hp hex
  unfold Good at this
  rw [if_pos hw, hk] at this
  exact this
theorem br_next {k : Nat} {o : Oper} (hB : headB md ops n = true) (hk : k < n) (ho : ops[k]? = some o) {b : Act} {F F' : Facts} (br : Br ops ks a0 s a u k b F) (v : Value)
    (h1 : s.getD k false = true → v = u k) (h2 : ∀ d, o.dst ≠ some d → F' d = F d) (h3 : ∀ d, s.getD k false = true → o.dst = some d → ∀ W, Told ops ks o a W (u k) → F' d W) : Br ops ks a0 s a u (k + 1) (b.put o.dst v) F' := by
  have hne : ∀ d, (∀ j p, j < k + 1 → ops[j]? = some p → p.dst ≠ some d) → o.dst ≠ some d := fun d h => h k o (by omega) ho
  have hlow : ∀ d, (∀ j p, j < k + 1 → ops[j]? = some p → p.dst ≠ some d) → ∀ j p, j < k → ops[j]? = some p → p.dst ≠ some d := fun d h j p hj hp => h j p (by omega) hp
  refine ⟨by rw [put_defers]; exact br.defers, by rw [put_size]; exact br.size, fun d h => by rw [put_get _ _ _ _ (hne d h)]; exact br.rest d (hlow d h), fun j p d hj hp hex hd => ?_, fun d h W => by rw [h2 d (hne d h)]; exact br.free d (hlow d h) W, fun j p d hj hp hex hd W ht => ?_⟩
  · by_cases hjk : j = k
    · subst hjk
      rw [ho] at hp
      cases hp
      rw [hd, h1 hex]
      exact put_self _ _ _ br.size
    · have hdk : o.dst ≠ some d := (head_apart hB hk ho (show j < n by omega) hp hd).1 (fun e => hjk e.symm)
      rw [put_get _ _ _ _ hdk]
      exact br.slot j p d (by omega) hp hex hd
  · by_cases hjk : j = k
    · subst hjk
      rw [ho] at hp
      cases hp
      exact h3 d hex hd W ht
    · have hdk : o.dst ≠ some d := (head_apart hB hk ho (show j < n by omega) hp hd).1 (fun e => hjk e.symm)
      rw [h2 d hdk]
      exact br.told j p d (by omega) hp hex hd W ht
theorem br_step {Q : Act → World → Prop} (hsel : Region.noSelect ops = true) (hB : headB md ops n = true) (inv : Inv P ops md n ks w0 a0 s a w u) {k : Nat} {o : Oper} {rest : List Oper} (hk : k < n) (ho : ops[k]? = some o) {b : Act} {F : Facts} (br : Br ops ks a0 s a u k b F)
    (ht : tree P ops ks w0 Q (o :: rest) F b) : ∃ b' F', tree P ops ks w0 Q rest F' b' ∧ Br ops ks a0 s a u (k + 1) b' F' := by
  have hfree : ∀ d, o.dst = some d → ∀ W, F d W := fun d hd W => br.free d (fun j p hj hp hpd => (head_apart hB hk ho (show j < n by omega) hp hpd).1 (by omega) hd) W
  unfold tree at ht
  cases hex : s.getD k false with
  | false =>
    have nx : ∀ {p : Prop}, s.getD k false = true → p := fun h => by rw [hex] at h; cases h
    by_cases hw : Region.wanted o (yielded ops b.tmps) = true
    · rw [if_pos hw] at ht
      cases hkd : kindOf ks o with
      | none =>
        rw [hkd] at ht
        obtain ⟨_, v, _, h⟩ := ht
        exact ⟨_, F, h, br_next hB hk ho br v (fun h => nx h) (fun _ _ => rfl) (fun _ h => nx h)⟩
      | some kd =>
        rw [hkd] at ht
        cases kd with
        | const c => exact ⟨_, F, ht.2, br_next hB hk ho br c (fun h => nx h) (fun _ _ => rfl) (fun _ h => nx h)⟩
        | any V hV => exact ⟨_, _, ht.2 undef, br_next hB hk ho br undef (fun h => nx h) (fun d hd => by
            funext W
            unfold Facts.put
            cases hod : o.dst with
            | none => rfl
            | some y => simp only []; rw [if_neg (fun e => hd (by rw [hod, e]))]) (fun _ h => nx h)⟩
    · rw [if_neg hw] at ht
      exact ⟨_, F, ht, br_next hB hk ho br undef (fun h => nx h) (fun _ _ => rfl) (fun _ h => nx h)⟩
  | true =>
    have hset := settled_of (s := s) hB hk ho (inv.head.closed k o ho hex)
    obtain ⟨hexec, hwant⟩ := exec_agree o (Region.noSelect_spec hsel k o · · ho) (looks_agree hB inv hk ho hset br)
    have hg := inv.good k o hk ho hex
    unfold Good at hg
    by_cases hw : Region.wanted o (yielded ops b.tmps) = true
    · rw [if_pos hw] at ht
      rw [hwant] at hw
      rw [if_pos hw] at hg
      cases hkd : kindOf ks o with
      | none =>
        rw [hkd] at ht hg
        obtain ⟨_, v, hv, h⟩ := ht
        obtain ⟨W, hgW, hfW, hrW⟩ := hg
        have hrun := hv W hgW (facts_of hB hk ho hset br hfW)
        rw [hexec, hrW] at hrun
        have hvu : v = u k := by injection hrun with h1; injection h1 with h2; exact h2.symm
        exact ⟨_, F, h, br_next hB hk ho br v (fun _ => hvu) (fun _ _ => rfl) (fun d _ hd W _ => hfree d hd W)⟩
      | some kd =>
        rw [hkd] at ht hg
        cases kd with
        | const c => exact ⟨_, F, ht.2, br_next hB hk ho br c (fun _ => hg.symm) (fun _ _ => rfl) (fun d _ hd W _ => hfree d hd W)⟩
        | any V hV => exact ⟨_, _, ht.2 (u k), br_next hB hk ho br (u k) (fun _ => rfl) (fun d hd => by
            funext W
            unfold Facts.put
            cases hod : o.dst with
            | none => rfl
            | some y => simp only []; rw [if_neg (fun e => hd (by rw [hod, e]))]) (fun d _ hd W htold => by
            unfold Facts.put
            rw [hd]
            simp only [if_pos]
            exact htold V hV hkd hw)⟩
    · rw [if_neg hw] at ht
      rw [hwant] at hw
      rw [if_neg hw] at hg
      exact ⟨_, F, ht, br_next hB hk ho br undef (fun _ => hg.symm) (fun _ _ => rfl) (fun d _ hd W _ => hfree d hd W)⟩
theorem reach {Q : Act → World → Prop} (hsel : Region.noSelect ops = true) (hB : headB md ops n = true) (inv : Inv P ops md n ks w0 a0 s a w u) {L : List Oper} (hL : ∀ j, j < n → L[j]? = ops[j]?) (hLn : L.length = n) (ht : tree P ops ks w0 Q L bare a0) :
    ∀ k, k ≤ n → ∃ b F, tree P ops ks w0 Q (L.drop k) F b ∧ Br ops ks a0 s a u k b F
  | 0, _ => ⟨a0, bare, by simpa using ht, rfl, rfl, fun _ _ => rfl, fun j _ _ hj => absurd hj (by omega), fun _ _ _ => trivial, fun j _ _ hj => absurd hj (by omega)⟩
  | k + 1, hk => by
    obtain ⟨b, F, h, br⟩ := reach hsel hB inv hL hLn ht k (by omega)
    obtain ⟨o, ho⟩ := head_op hB (show k < n by omega)
    have hd : L.drop k = o :: L.drop (k + 1) := by
      have h1 : L[k]? = some o := by rw [hL k (by omega)]; exact ho
      obtain ⟨hlt, he⟩ := List.getElem?_eq_some_iff.1 h1
      rw [List.drop_eq_getElem_cons hlt, he]
    rw [hd] at h
    exact br_step hsel hB inv (by omega) ho br h
theorem inv_next (hsel : Region.noSelect ops = true) (hB : headB md ops n = true) (inv : Inv P ops md n ks w0 a0 s a w u) {i : Nat} {o : Oper} (hi : i < n) (ho : ops[i]? = some o) (hr : i ∈ Region.ready md ops s) {v : Value} {w' : World} (hg : Step w0.heap.size w w')
    (hgood : Good P ops n ks w0 u o a w' v) : Inv P ops md n ks w0 a0 (s.setIfInBounds i true) (a.put o.dst v) w' (fun j => if j = i then v else u j) := by
  have hun : s.getD i false = false := getD_both (mem_ready.1 hr).1
  have hset : ∀ j, j ≠ i → (s.setIfInBounds i true).getD j false = true → s.getD j false = true := fun j hj h => by rwa [getD_set_ne false (Ne.symm hj)] at h
  -- an executed operation looks not at the new slot
  have hlook : ∀ j p, j < n → ops[j]? = some p → s.getD j false = true → ∀ d, o.dst = some d → d ∉ p.looksAt ops := fun j p hj hp hex d hd hm => by
    have h1 := waits_done (s := s) hp ((head_apart hB hj hp hi ho hd).2 hm).2 (inv.head.closed j p hp hex)
    rw [hun] at h1
    cases h1
  have hself : ∀ d, o.dst = some d → d ∉ o.looksAt ops := fun d hd hm => by
    have := ((head_apart hB hi ho hi ho hd).2 hm).1
    omega
  have htold : ∀ j p, j < n → ops[j]? = some p → s.getD j false = true → ∀ W, Told ops ks p a W (u j) → Told ops ks p (a.put o.dst v) W (if j = i then v else u j) := fun j p hj hp hex W h V hV hk hw => by
    have hji : j ≠ i := fun e => by rw [e, hun] at hex; cases hex
    rw [wanted_put p a o.dst v (hlook j p hj hp hex)] at hw
    rw [if_neg hji]
    exact h V hV hk hw
  have hgoodp : ∀ p, (∀ d, o.dst = some d → d ∉ p.looksAt ops) → (∀ cs b, p.op ≠ .select cs b) → Settled ops n s p → ∀ x, Good P ops n ks w0 u p a w' x → Good P ops n ks w0 (fun j => if j = i then v else u j) p (a.put o.dst v) w' x := fun p hp hsp hsett x h => by
    unfold Good at h ⊢
    rw [wanted_put p a o.dst v hp]
    by_cases hw : Region.wanted p (yielded ops a.tmps) = true
    · rw [if_pos hw] at h ⊢
      cases hkd : kindOf ks p with
      | none =>
        rw [hkd] at h
        simp only at h ⊢
        obtain ⟨W, h1, h2, h3⟩ := h
        refine ⟨W, h1, fun d hm j q hj hq hd => htold j q hj hq (hsett j q d hj hq hd hm) W (h2 d hm j q hj hq hd), ?_⟩
        rw [execOp_put p hsp a o.dst v hp]
        exact h3
      | some kd =>
        rw [hkd] at h
        cases kd <;> exact h
    · rw [if_neg hw] at h ⊢
      exact h
  refine ⟨inv.head.set hr hi, Below.trans inv.grow hg.old, by rw [put_defers]; exact inv.defers, by rw [put_size]; exact inv.size, fun d h => ?_, fun j p d hj hp hex hd => ?_, fun j p hj hp hex => ?_⟩
  · have hlt : i < s.size := by rw [inv.head.size]; exact (Array.getElem?_eq_some_iff.1 ho).1
    rw [put_get _ _ _ _ (h i o hi ho (by simp [hlt]))]
    exact inv.rest d (fun j p hj hp hex => h j p hj hp (getD_set_true hex))
  · by_cases hji : j = i
    · subst hji
      rw [ho] at hp
      cases hp
      rw [hd]
      simp only [if_pos]
      exact put_self _ _ _ inv.size
    · rw [put_get _ _ _ _ ((head_apart hB hi ho hj hp hd).1 (fun e => hji e.symm))]
      simp only [if_neg hji]
      exact inv.slot j p d hj hp (hset j hji hex) hd
  · by_cases hji : j = i
    · subst hji
      rw [ho] at hp
      cases hp
      simp only [if_pos]
      exact hgoodp o hself (Region.noSelect_spec hsel j o · · ho) (settled_of hB hi ho (mem_ready.1 hr |>.2.elim fun o' h => by
        have e := h.1
        rw [ho] at e
        cases e
        exact h.2)) v hgood
    · have hex' := hset j hji hex
      simp only [if_neg hji]
      refine hgoodp p (hlook j p hj hp hex') (Region.noSelect_spec hsel j p · · hp) (settled_of hB hj hp (inv.head.closed j p hp hex')) (u j) ?_
      have h := inv.good j p hj hp hex'
      unfold Good at h ⊢
      by_cases hw : Region.wanted p (yielded ops a.tmps) = true
      · rw [if_pos hw] at h ⊢
        cases hkd : kindOf ks p with
        | none => rw [hkd] at h; exact h
        | some kd =>
          rw [hkd] at h
          cases kd with
          | const c => exact h
          | any V hV => exact hV _ _ _ hg.soft h
      · rw [if_neg hw] at h ⊢
        exact h
theorem wp_of_rel {B : Nat} {o : Oper} {V : Value → World → Prop} {R : Exit → Act → World → Prop} {K : Act → World → Prop} (h : stepAt P B o a w V) (hK : ∀ v w', Step B w w' → V v w' → K (a.put o.dst v) w') : o.wp P a w K R := by
  unfold stepAt at h
  unfold Oper.wp
  generalize (execOp a.eval o).run P w = r at *
  cases r with
  | ok x w1 =>
    cases x <;> simp only [stepUpon] at h <;> simp only [Oper.upon]
    case value v => exact hK _ _ h.1 h.2
    case skip => exact hK _ _ h.1 h.2
    case enter f args => exact Calls.mono h fun e w'' ⟨v, he, hg, hV⟩ => by subst he; exact hK _ _ hg hV
  | halt x w1 => simp only [stepUpon] at h
theorem canon_eq {s : Array Bool} {m : Nat} (hn : n ≤ m) (hs : s.size = m) (h1 : ∀ j, j < n → s.getD j false = true) (h2 : ∀ j, n ≤ j → j < m → s.getD j true = false) : s = canon n m := by
  apply Array.ext_getElem?
  intro j
  unfold canon
  have e : (List.replicate n true ++ List.replicate (m - n) false).toArray[j]? = (List.replicate n true ++ List.replicate (m - n) false)[j]? := by rw [List.getElem?_toArray]
  rw [e]
  by_cases hj : j < m
  · have hjs : j < s.size := by omega
    rw [Array.getElem?_eq_getElem hjs]
    by_cases hjn : j < n
    · have := h1 j hjn
      simp only [Array.getD_eq_getD_getElem?, Array.getElem?_eq_getElem hjs, Option.getD_some] at this
      rw [this, List.getElem?_append_left (by rw [List.length_replicate]; exact hjn), List.getElem?_replicate, if_pos hjn]
    · have := h2 j (by omega) hj
      simp only [Array.getD_eq_getD_getElem?, Array.getElem?_eq_getElem hjs, Option.getD_some] at this
      rw [this, List.getElem?_append_right (by rw [List.length_replicate]; omega), List.length_replicate, List.getElem?_replicate, if_pos (by omega)]
  · rw [Array.getElem?_eq_none (by omega), List.getElem?_eq_none (by rw [List.length_append, List.length_replicate, List.length_replicate]; omega)]
theorem tree_any {Q : Act → World → Prop} {R : Exit → Act → World → Prop} {g : Nat} (hsel : Region.noSelect ops = true) (hB : headB md ops n = true) (hn : n ≤ ops.size) (hT : ∀ s, HeadInv md ops n s → ∀ i, i < n → s.getD i true = false → ∀ t, t ∈ Region.ready md ops s → t < n)
    {L : List Oper} (hL : ∀ j, j < n → L[j]? = ops[j]?) (hLn : L.length = n) (ht : tree P ops ks w0 Q L bare a0) (hQ : ∀ a w, Q a w → wpAny P md ops R g (canon n ops.size) a w) :
    ∀ (m : Nat) (s : Array Bool) (a : Act) (w : World) (u : Nat → Value), Inv P ops md n ks w0 a0 s a w u → cnt s n = m → wpAny P md ops R (m + g) s a w
  | 0, s, a, w, u, inv, hc => by
    have hall := cnt_zero n hc
    obtain ⟨b, F, h, br⟩ := reach hsel hB inv hL hLn ht n (Nat.le_refl _)
    rw [List.drop_of_length_le (by omega)] at h
    have hba : b = a := by
      have e1 : b.tmps = a.tmps := by
        apply Array.ext_getElem?
        intro d
        by_cases hx : ∃ j p, j < n ∧ ops[j]? = some p ∧ p.dst = some d
        · obtain ⟨j, p, hj, hp, hd⟩ := hx
          rw [br.slot j p d hj hp (hall j hj) hd, inv.slot j p d hj hp (hall j hj) hd]
        · rw [br.rest d (fun j p hj hp hd => hx ⟨j, p, hj, hp, hd⟩), inv.rest d (fun j p hj hp _ hd => hx ⟨j, p, hj, hp, hd⟩)]
      have e2 : b.defers = a.defers := br.defers.trans inv.defers.symm
      cases b; cases a
      simp only at e1 e2
      rw [e1, e2]
    rw [hba] at h
    have hq : Q a w := h w inv.grow (fun d => by
      by_cases hx : ∃ j p, j < n ∧ ops[j]? = some p ∧ p.dst = some d
      · obtain ⟨j, p, hj, hp, hd⟩ := hx
        exact br.told j p d hj hp (hall j hj) hd w (told_now inv hj hp (hall j hj))
      · exact br.free d (fun j p hj hp hd => hx ⟨j, p, hj, hp, hd⟩) w)
    rw [Nat.zero_add, canon_eq hn inv.head.size hall (fun j h1 h2 => inv.head.tail j h1 h2)]
    exact hQ a w hq
  | m + 1, s, a, w, u, inv, hc => by
    have e : m + 1 + g = m + g + 1 := by omega
    rw [e]
    obtain ⟨i0, hi0, hf0, hlow⟩ := cnt_pos (s := s) n (by omega)
    have hs0 : i0 < s.size := by rw [inv.head.size]; omega
    obtain ⟨o0, ho0⟩ := head_op hB hi0
    have hr0 : i0 ∈ Region.ready md ops s := mem_ready.2 ⟨getD_in hs0 hf0, o0, ho0, fun e he hb => hlow e.on (head_edges hB hi0 ho0 e he hb)⟩
    refine ⟨fun h => (by rw [h] at hr0; cases hr0), fun i hi => ?_⟩
    have hin : i < n := hT s inv.head i0 hi0 (getD_in hs0 hf0) i hi
    obtain ⟨hun, o, ho, hall⟩ := mem_ready.1 hi
    have hset : Settled ops n s o := settled_of hB hin ho hall
    obtain ⟨b, F, h, br⟩ := reach hsel hB inv hL hLn ht i (by omega)
    have hd : L.drop i = o :: L.drop (i + 1) := by
      have h1 : L[i]? = some o := by rw [hL i hin]; exact ho
      obtain ⟨hlt, he⟩ := List.getElem?_eq_some_iff.1 h1
      rw [List.drop_eq_getElem_cons hlt, he]
    rw [hd] at h
    obtain ⟨hexec, hwant⟩ := exec_agree o (Region.noSelect_spec hsel i o · · ho) (looks_agree hB inv hin ho hset br)
    have hfw := facts_of hB hin ho hset br (W := w) (fun d hm j p hj hp hpd => told_now inv hj hp (hset j p d hj hp hpd hm))
    have hcs : cnt (s.setIfInBounds i true) n = m := by
      have := cnt_set (s := s) (i := i) (by rw [inv.head.size]; omega) (getD_both hun) n hin
      omega
    have next : ∀ v w', Step w0.heap.size w w' → Good P ops n ks w0 u o a w' v → wpAny P md ops R (m + g) (s.setIfInBounds i true) (a.put o.dst v) w' := fun v w' hg hgood =>
      tree_any hsel hB hn hT hL hLn ht hQ m _ _ _ _ (inv_next hsel hB inv hin ho hi hg hgood) hcs
    unfold tree at h
    unfold wpOp
    simp only [ho]
    by_cases hw : Region.wanted o (yielded ops b.tmps) = true
    · rw [if_pos hw] at h
      rw [hwant] at hw
      rw [if_pos hw]
      refine .inl ?_
      have hgd : ∀ v w', (match kindOf ks o with
          | .none => ∃ W, Grow w0 W ∧ (∀ d, d ∈ o.looksAt ops → ∀ j p, j < n → ops[j]? = some p → p.dst = some d → Told ops ks p a W (u j)) ∧ (execOp a.eval o).run P W = .ok (.value v) W
          | .some (.const c) => v = c
          | .some (.any V _) => V v w') → Good P ops n ks w0 u o a w' v := fun v w' hx => by
        unfold Good
        rw [if_pos hw]
        exact hx
      cases hkd : kindOf ks o with
      | none =>
        rw [hkd] at h
        obtain ⟨_, v, hv, _⟩ := h
        have hrun := hv w inv.grow hfw
        rw [hexec] at hrun
        unfold Oper.wp
        rw [hrun]
        exact next v w (Step.refl _ _) (hgd v w (by
          rw [hkd]
          exact ⟨w, inv.grow, fun d hm j p hj hp hpd => told_now inv hj hp (hset j p d hj hp hpd hm), hrun⟩))
      | some kd =>
        rw [hkd] at h
        cases kd with
        | const c =>
          have hr := h.1 w inv.grow hfw
          unfold stepAt at hr
          rw [hexec] at hr
          exact wp_of_rel hr (fun v w' hg hv => next v w' hg (hgd v w' (by rw [hkd]; exact hv)))
        | any V hV =>
          have hr := h.1 w inv.grow hfw
          unfold stepAt at hr
          rw [hexec] at hr
          exact wp_of_rel hr (fun v w' hg hv => next v w' hg (hgd v w' (by rw [hkd]; exact hv)))
    · rw [hwant] at hw
      rw [if_neg hw]
      exact next undef w (Step.refl _ _) (by unfold Good; rw [if_neg hw])
/-- The region's law: n operations in whatever order, then a tail in one order. -/
theorem wp_region_rel {id : Nat} {Q : Exit → Act → World → Prop} {a : Act} {w : World} {l : List Oper} (n : Nat) (ks : List (Tmp × Kind)) (hm : P.follows .mixedOrders = true) (hB : okB .any l.toArray n = true)
    (h : tree P l.toArray ks w.drew (fun a' W => wpList P l.toArray Q (l.drop n) a' W) (l.take n) bare a) : (Code.region id l.toArray true).wp P Q a w := by
  simp only [okB, Bool.and_eq_true] at hB
  obtain ⟨⟨⟨hsel, hhead⟩, htail⟩, hseq⟩ := hB
  have hn : n ≤ l.toArray.size := by
    simp only [tailB, Bool.or_eq_true, decide_eq_true_eq, Bool.and_eq_true] at htail
    omega
  have hnl : n ≤ l.length := by simpa using hn
  have hT : ∀ s, HeadInv .any l.toArray n s → ∀ i, i < n → s.getD i true = false → ∀ t, t ∈ Region.ready .any l.toArray s → t < n := fun s inv i hi hun t ht => by
    simp only [tailB, Bool.or_eq_true, decide_eq_true_eq, Bool.and_eq_true] at htail
    rcases htail with h1 | ⟨⟨h1, h2⟩, h3⟩
    · obtain ⟨_, o, ho, _⟩ := mem_ready.1 ht
      have := (Array.getElem?_eq_some_iff.1 ho).1
      omega
    · rcases Nat.lt_or_ge t n with h4 | h4
      · exact h4
      · exact absurd ht (tail_waits h2 h3 h1 inv _ i rfl hi hun t h4)
  have inv0 : Inv P l.toArray .any n ks w.drew a (Array.replicate l.toArray.size false) a w.drew (fun _ => undef) :=
    ⟨⟨by simp, fun j oj _ hl => (by rw [getD_replicate_false] at hl; cases hl), fun t _ ht => getD_in (by simpa using ht) (getD_replicate_false _ _)⟩, Grow.refl _, rfl, rfl, fun _ _ => rfl, fun j o d _ _ hl => (by rw [getD_replicate_false] at hl; cases hl), fun j o _ _ hl => (by rw [getD_replicate_false] at hl; cases hl)⟩
  have hc : ∀ m, cnt (Array.replicate l.toArray.size false) m = m := fun m => by
    induction m with
    | zero => rfl
    | succ m ih => rw [cnt, ih, getD_replicate_false]; rfl
  refine wp_region_any hm ?_
  have hdl : (l.drop n).length = l.toArray.size - n := by simp
  have := tree_any (g := l.toArray.size - n) (R := Q) hsel hhead hn hT (L := l.take n) (fun j hj => by simp [hj]) (by simp; omega) h (fun a' w' hq => by
    have h2 := wpAny_of_seq (md := .any) (Q' := Q) (l.drop n) n (canon n l.toArray.size) a' w' (fun j => by simp [List.getElem?_drop]) (by rw [hdl]; exact hseq) hq
    rwa [hdl] at h2) n _ _ _ _ inv0 (hc n)
  rw [show n + (l.toArray.size - n) = l.toArray.size by omega] at this
  exact this
/-! ### Steps -/
theorem tree_skip {Q : Act → World → Prop} {o : Oper} {rest : List Oper} {F : Facts} (hw : Region.wanted o (yielded ops a.tmps) = false) (h : tree P ops ks w0 Q rest F (a.put o.dst undef)) : tree P ops ks w0 Q (o :: rest) F a := by
  unfold tree
  rw [if_neg (by rw [hw]; exact Bool.false_ne_true)]
  exact h
/-- An operation as it stands, in a class of worlds: the quiet walk's own step serves. -/
theorem tree_quiet {Q : Act → World → Prop} {o : Oper} {rest : List Oper} {F : Facts} (hw : Region.wanted o (yielded ops a.tmps) = true) (hk : kindOf ks o = .none) (hp : pureOp o = true)
    (h : ∀ K : Act → Prop, (∀ a', tree P ops ks w0 Q rest F a' → K a') → o.quiet P a (fun w' => ∃ p : Regrown, w' = Sort.grow (redrawn w0 p.d) p.os) K) : tree P ops ks w0 Q (o :: rest) F a := by
  unfold tree
  rw [if_pos hw, hk]
  obtain ⟨v, hv, hn⟩ := h _ (fun _ h => h)
  refine ⟨hp, v, fun W hg _ => ?_, hn⟩
  have hq := hv W (regrown_of_below hg)
  unfold Oper.quietAt at hq
  generalize hr : (execOp a.eval o).run P W = r at *
  cases r with
  | ok x w1 =>
    obtain ⟨y, rfl⟩ := value_of_pure hp hr
    simp only [Oper.quietUpon] at hq
    rw [hq.1, hq.2]
  | halt x w1 => simp only [Oper.quietUpon] at hq
theorem tree_pure {Q : Act → World → Prop} {o : Oper} {rest : List Oper} {F : Facts} (hw : Region.wanted o (yielded ops a.tmps) = true) (hk : kindOf ks o = .none) (hp : pureOp o = true) (v : Value)
    (h : ∀ W, Grow w0 W → (∀ d, d ∈ o.looksAt ops → F d W) → (execOp a.eval o).run P W = .ok (.value v) W) (hn : tree P ops ks w0 Q rest F (a.put o.dst v)) : tree P ops ks w0 Q (o :: rest) F a := by
  unfold tree
  rw [if_pos hw, hk]
  exact ⟨hp, v, h, hn⟩
theorem tree_const {Q : Act → World → Prop} {o : Oper} {rest : List Oper} {F : Facts} (hw : Region.wanted o (yielded ops a.tmps) = true) (c : Value) (hk : kindOf ks o = some (.const c))
    (h : ∀ W, Grow w0 W → (∀ d, d ∈ o.looksAt ops → F d W) → relAt P o a W (fun v _ => v = c)) (hn : tree P ops ks w0 Q rest F (a.put o.dst c)) : tree P ops ks w0 Q (o :: rest) F a := by
  unfold tree
  rw [if_pos hw, hk]
  exact ⟨fun W hW hF => stepAt.of (Below.size hW) (h W hW hF), hn⟩
theorem tree_rel {Q : Act → World → Prop} {o : Oper} {rest : List Oper} {F : Facts} (hw : Region.wanted o (yielded ops a.tmps) = true) (V : Value → World → Prop) (hV : ∀ v W W', Soft W W' → V v W → V v W') (hk : kindOf ks o = some (.any V hV))
    (h : ∀ W, Grow w0 W → (∀ d, d ∈ o.looksAt ops → F d W) → relAt P o a W V) (hn : ∀ v, tree P ops ks w0 Q rest (F.put o.dst (V v)) (a.put o.dst v)) : tree P ops ks w0 Q (o :: rest) F a := by
  unfold tree
  rw [if_pos hw, hk]
  exact ⟨fun W hW hF => stepAt.of (Below.size hW) (h W hW hF), hn⟩
/-- The same, where an operation turns a new block's mark. -/
theorem tree_step {Q : Act → World → Prop} {o : Oper} {rest : List Oper} {F : Facts} (hw : Region.wanted o (yielded ops a.tmps) = true) (V : Value → World → Prop) (hV : ∀ v W W', Soft W W' → V v W → V v W') (hk : kindOf ks o = some (.any V hV))
    (h : ∀ W, Grow w0 W → (∀ d, d ∈ o.looksAt ops → F d W) → stepAt P w0.heap.size o a W V) (hn : ∀ v, tree P ops ks w0 Q rest (F.put o.dst (V v)) (a.put o.dst v)) : tree P ops ks w0 Q (o :: rest) F a := by
  unfold tree
  rw [if_pos hw, hk]
  exact ⟨h, hn⟩
/-- A row that an operation has made: its cells, in a block that is new since B. -/
def Lit8 (B : Nat) (t : TypeId) (cs : List Value) (v : Value) (W : World) : Prop := ∃ g, v = .slice (some ⟨g, 0, none⟩) cs.length cs.length ∧ B ≤ g ∧ g < W.heap.size ∧ W.shape? g = some (t, cs.length) ∧ ∀ (i : Nat) (x : Value), cs[i]? = some x → W.cell? ⟨g, i, none⟩ = some x
theorem Lit8.soft {B : Nat} {t : TypeId} {cs : List Value} : ∀ v W W', Soft W W' → Lit8 B t cs v W → Lit8 B t cs v W' := fun _ _ _ h ⟨g, h1, h2, h3, h4, h5⟩ =>
  ⟨g, h1, h2, Nat.lt_of_lt_of_le h3 h.size, h.shape _ _ h4, fun i x hx => h.cell _ _ (h5 i x hx)⟩
theorem alloc_at (W : World) (o : Obj) : (W.alloc o).heap[W.heap.size]? = some o := by
  show (W.heap.push o)[W.heap.size]? = some o
  simp
theorem lit8_new {B : Nat} {t : TypeId} {W : World} (cs : List Value) (hB : B ≤ W.heap.size) : Lit8 B t cs (.slice (some ⟨W.heap.size, 0, none⟩) cs.length cs.length) (W.alloc (.cells cs.toArray t)) := by
  refine ⟨W.heap.size, rfl, hB, by simp, ?_, fun i x hx => ?_⟩
  · unfold World.shape?
    rw [alloc_at]
    rfl
  · unfold World.cell?
    rw [alloc_at]
    simpa using hx
def fzO (n : Nat) : Obj → Obj
  | .cells c elem (lo, hi) => .cells c elem (if lo == hi then (n, n + 1) else (min lo n, max hi (n + 1)))
  | o => o
theorem freeze_heap (W : World) (g n : Nat) : (W.freeze ⟨g, n, none⟩ 1).heap = W.heap.modify g (fzO n) := by
  unfold World.freeze
  rw [if_neg (by decide)]
  dsimp only
  congr 1
theorem freeze_at (W : World) (g n k : Nat) : (W.freeze ⟨g, n, none⟩ 1).heap[k]? = if g = k then (W.heap[k]?).map (fzO n) else W.heap[k]? := by
  rw [freeze_heap]
  exact Array.getElem?_modify
theorem freeze_rest (W : World) (g n : Nat) : (W.freeze ⟨g, n, none⟩ 1).os = W.os ∧ (W.freeze ⟨g, n, none⟩ 1).tape = W.tape ∧ (W.freeze ⟨g, n, none⟩ 1).output = W.output := by
  unfold World.freeze
  rw [if_neg (by decide)]
  exact ⟨rfl, rfl, rfl⟩
theorem freeze_step {B g n : Nat} {W : World} (hB : B ≤ g) : Step B W (W.freeze ⟨g, n, none⟩ 1) := by
  obtain ⟨h1, h2, h3⟩ := freeze_rest W g n
  refine ⟨⟨h1, h2, h3, by rw [freeze_heap]; simp, fun k hk => ?_⟩, ⟨by rw [freeze_heap]; simp, fun p v hp => ?_, fun k x hx => ?_⟩⟩
  · rw [freeze_at, if_neg (by omega)]
  · unfold World.cell? at hp ⊢
    rw [freeze_at]
    by_cases h : g = p.block
    · rw [if_pos h]
      cases ho : W.heap[p.block]? with
      | none => rw [ho] at hp; cases hp
      | some o =>
        rw [ho] at hp
        cases o <;> first | exact hp | cases hp
    · rw [if_neg h]
      exact hp
  · unfold World.shape? at hx ⊢
    rw [freeze_at]
    by_cases h : g = k
    · rw [if_pos h]
      cases ho : W.heap[k]? with
      | none => rw [ho] at hx; cases hx
      | some o =>
        rw [ho] at hx
        cases o <;> first | exact hx | cases hx
    · rw [if_neg h]
      exact hx
/-- A constant string's bytes: the row's mark turns, its value goes on. -/
theorem stepAt_const {B : Nat} {t e : TypeId} {o : Oper} {cs : List Value} {x : Operand} {W : World} (ho : o.op = .convert t t x) (ht : P.underlying t = some (.slice e)) (he : P.underlying e = some (.int .u8)) (v : Value) (hx : a.eval x = v) (h : Lit8 B e cs v W) :
    stepAt P B o a W (Lit8 B e cs) := by
  obtain ⟨g, rfl, hB, hlt, hs, hc⟩ := h
  have hr : (Go.convert t t (.slice (some ⟨g, 0, none⟩) cs.length cs.length)).run P W = .ok (.slice (some ⟨g, 0, none⟩) cs.length cs.length) (W.freeze ⟨g, cs.length, none⟩ 1) := by
    simp [Go.convert, run_underlying ht, run_underlying he, markStringish, hs]
  unfold stepAt execOp
  simp only [ho, hx]
  rw [Sem.run_bind, hr]
  simp only [Result.andThen_ok, Sem.run_pure, stepUpon]
  have hst : Step B W (W.freeze ⟨g, cs.length, none⟩ 1) := freeze_step hB
  exact ⟨hst, Lit8.soft _ _ _ hst.soft ⟨g, rfl, hB, hlt, hs, hc⟩⟩
theorem Grow.alloc (W : World) (o : Obj) : Grow W (W.alloc o) := (Below.refl _ W).alloc (Nat.le_refl _) _
end
end Rel
end Go.Proofs.YtpakdcgcgekcfaaDoor

/-
  Words for the drawn regions' walk (Rel): bytes that a call hands back; arrays by value.
-/
set_option linter.unusedSimpArgs false
set_option linter.unusedVariables false
namespace Go.Proofs.YtpakdcgcgekcfaaDoor
open Go.RowKit

namespace R1
/-- A slice that reads as bytes. -/
def Bytes (l : List Nat) (v : Value) (W : World) : Prop := ∃ A c, v = .slice A l.length c ∧ l.length ≤ c ∧ Nats .u8 256 W W.heap.size A l
theorem nats_soft {k : IntKind} {M : Nat} {W W' : World} {A : Option Addr} {l : List Nat} (h : Rel.Soft W W') (hN : Nats k M W W.heap.size A l) : Nats k M W' W'.heap.size A l := fun i z hz => by
  obtain ⟨h1, b, off, h2, h3, h4⟩ := hN i z hz
  exact ⟨h1, b, off, h2, Nat.lt_of_lt_of_le h3 h.size, h.cell _ _ h4⟩
theorem Bytes.grow {l : List Nat} : ∀ (v : Value) (W W' : World), Rel.Soft W W' → Bytes l v W → Bytes l v W' := fun _ _ _ h ⟨A, c, h1, h2, h3⟩ => ⟨A, c, h1, h2, nats_soft h h3⟩
theorem own_nats {w : World} {base : Nat} {v : Value} {l : List Nat} (h : OwnB w base v l) (hb : ∀ x ∈ l, x < 256) :
    ∃ A c, v = .slice A l.length c ∧ l.length ≤ c ∧ Nats .u8 256 w w.heap.size A l ∧ ∀ ad : Addr, A = some ad → base ≤ ad.block := by
  have h' : w.ownsRow base 5 1 v l.length ((l.map fun x => ((x : Nat) : Int)).map (Value.int .u8)) := by
    simpa [OwnB, List.map_map, Function.comp_def] using h
  obtain ⟨_, A, c, rfl, hc, hi, hA⟩ := own_ints h' (fun z hz => by
    obtain ⟨x, hx, rfl⟩ := List.mem_map.1 hz
    have := hb x hx
    have hw : ∀ n : Fin 256, (Lit.int .u8 ((n.val : Nat) : Int)).wf = true := by decide +kernel
    exact hw ⟨x, this⟩)
  refine ⟨A, c, rfl, hc, fun i z hz => ?_, hA⟩
  obtain ⟨_, b, off, h1, h2, h3⟩ := hi i z (by simp [hz])
  exact ⟨hb z (List.mem_of_getElem? hz), b, off, h1, h2, h3⟩
theorem own_bytes {w : World} {base : Nat} {v : Value} {l : List Nat} (h : OwnB w base v l) (hb : ∀ x ∈ l, x < 256) : Bytes l v w :=
  let ⟨A, c, h1, h2, h3, _⟩ := own_nats h hb
  ⟨A, c, h1, h2, h3⟩
/-- A call that hands back bytes, in the drawn walk. -/
theorem bytes_call {P : Program} {f : FuncId} {args : Array Value} {W : World} {l : List Nat} (h : Calls P f args W (BytesOut W l)) (hb : ∀ x ∈ l, x < 256) : Calls P f args W (fun e w'' => ∃ v, e = .returned v ∧ Rel.Grow W w'' ∧ Bytes l v w'') :=
  h.mono fun _ _ ⟨v, he, ho, hB⟩ => ⟨v, he, hB, own_bytes ho hb⟩
theorem const_call {P : Program} {f : FuncId} {args : Array Value} {W : World} {c : Value} (h : Calls P f args W (fun e w' => e = .returned c ∧ Below W.heap.size W w')) : Calls P f args W (fun e w'' => ∃ v, e = .returned v ∧ Rel.Grow W w'' ∧ v = c) :=
  h.mono fun _ _ ⟨he, hB⟩ => ⟨c, he, hB, rfl⟩
end R1
theorem nats_far {k : IntKind} {M : Nat} {w : World} {B : Nat} {A : Option Addr} {l : List Nat} (h : Nats k M w B A l) {g : Nat} (hne : ∀ ad : Addr, A = some ad → ad.block ≠ g) (i : Nat) (u : Value) : Nats k M (w.setCell ⟨g, i, none⟩ u) B A l := fun j z hz => by
  obtain ⟨h1, b, off, h2, h3, h4⟩ := h j z hz
  refine ⟨h1, b, off, h2, h3, ?_⟩
  rw [← h4]
  exact World.cell?_of_block (Below.heap_setCell w ⟨g, i, none⟩ u b (hne _ h2))
namespace Rel
theorem exec_load {P : Program} {o : Oper} {a : Act} {W : World} (ty : TypeId) (x : Operand) (ho : o.op = .load ty x) (b off : Nat) (hx : a.eval x = .pointer (some ⟨b, off, none⟩)) (cs : Array Value) (d : TypeDesc) (hc : W.rangeAt b off cs.toList) (hu : P.underlying ty = some d) (hd : d.isRow = true) (hi : (P.info? ty).map (·.size) = some cs.size) :
    (execOp a.eval o).run P W = .ok (.value (.agg cs)) W := by
  unfold execOp
  simp only [ho, hx]
  rw [Sem.run_bind, run_loadAt_mid W b off ty cs.toList d hc hu hd (by simpa using hi)]
  simp [Result.andThen]
theorem exec_field {P : Program} {o : Oper} {a : Act} {W : World} (ty : TypeId) (x : Operand) (i : Nat) (ho : o.op = .field ty x i) (v v' : Value) (hx : a.eval x = v) (h : (Instr.field ty v i).run P W = .ok v' W) : (execOp a.eval o).run P W = .ok (.value v') W := by
  unfold execOp
  simp only [ho, hx]
  rw [Sem.run_bind, h]
  simp [Result.andThen]
theorem exec_build {P : Program} {o : Oper} {a : Act} {W : World} (t : TypeId) (parts : List (Nat × Operand)) (ho : o.op = .build t parts.toArray) (cells : Array Value) (h : P.built t (parts.map fun p => (p.1, a.eval p.2)) = some cells) : (execOp a.eval o).run P W = .ok (.value (.agg cells)) W := by
  have h' : P.built t (parts.toArray.map fun (i, x) => (i, a.eval x)).toList = some cells := by
    rw [← h]
    congr 1
    simp
  unfold execOp
  simp only [ho]
  rw [Sem.run_bind, run_build W t _ cells h']
  simp [Result.andThen]
theorem Grow.blk {w W : World} {g : Nat} {t : TypeId} {cs : Array Value} (h : Grow w W) (k : Blk w g t cs) : Blk W g t cs := k.next h rfl
theorem Grow.undrew {w W : World} (h : Grow w.drew W) : Below w.heap.size w W := by
  have h' : Below w.drew.heap.size w.drew W := h
  exact ⟨h'.os, h'.tape, h'.output, h'.size, h'.block⟩
end Rel
end Go.Proofs.YtpakdcgcgekcfaaDoor

/-
  Bytes of the call's own: a byte behind them, others behind them.
-/
set_option linter.unusedSimpArgs false
set_option linter.unusedVariables false
namespace Go.Proofs.YtpakdcgcgekcfaaDoor
open Go.RowKit

namespace R1
theorem wpList_append_byte {ops : Array Oper} {rest : List Oper} {o : Oper} {a : Act} {W : World} {Q : Exit → Act → World → Prop} (hgd : o.guard = none) (s x : Operand) (ho : o.op = .call { callee := .builtin .append, args := #[s, x], argTypes := #[53, 53] })
    (B : Nat) (v : Value) (l : List Nat) (hs : a.eval s = v) (hO : OwnB W B v l) (y : Nat) (hx : a.eval x = .slice (some ⟨W.heap.size, 0, none⟩) 1 1) (hl : l.length ≤ 1000000) (hB : B ≤ W.heap.size)
    (h : ∀ v' w', OwnB w' B v' (l ++ [y]) → Below B W w' → wpList Tryd.prog ops Q rest (a.put o.dst v') w') : wpList Tryd.prog ops Q (o :: rest) a (W.alloc (.cells #[.int .u8 (y : Int)] 5)) := by
  obtain ⟨i0, hi0, hz0, hz1, hz2⟩ := info_row u8_info
  refine wpList_append_own _ hgd s x 53 ho B 5 i0 (.int .u8 0) 1 1 Tryd.underlying53 hi0 hz0 hz1 hz2 rfl (by decide) v _ _ hs (hO.alloc _) ⟨W.heap.size, 0, none⟩ 1 1 [.int .u8 (y : Int)] hx rfl (by simpa using cell_one_new W (.int .u8 (y : Int)) 5) (fun u hu => by simp at hu; subst hu; rfl) (by simp only [maxLen]; omega) (by omega) (by simp; omega) (fun v1 w1 hO1 hg1 _ => ?_)
  refine h v1 w1 ?_ ((((Below.refl W.heap.size W).alloc (Nat.le_refl _) _).mono hB).grown hg1 (by simp; omega) (fun k hk => (World.ownsRow.lt hO k hk).1))
  unfold OwnB
  rw [List.length_append, List.map_append]
  exact hO1
theorem wpList_append_bytes {ops : Array Oper} {rest : List Oper} {o : Oper} {a : Act} {W : World} {Q : Exit → Act → World → Prop} (hgd : o.guard = none) (s x : Operand) (ho : o.op = .call { callee := .builtin .append, args := #[s, x], argTypes := #[53, 53] })
    (B : Nat) (v : Value) (l : List Nat) (hs : a.eval s = v) (hO : OwnB W B v l) (A : Option Addr) (n c : Nat) (l' : List Nat) (hx : a.eval x = .slice A n c) (hn : l'.length = n) (hN : ∃ B', Nats .u8 256 W B' A l') (hnil : A = none → c = 0) (hl : l.length + n ≤ 1000000) (hB : B ≤ W.heap.size)
    (h : ∀ v' w', OwnB w' B v' (l ++ l') → Below B W w' → wpList Tryd.prog ops Q rest (a.put o.dst v') w') : wpList Tryd.prog ops Q (o :: rest) a W := by
  obtain ⟨i0, hi0, hz0, hz1, hz2⟩ := info_row u8_info
  obtain ⟨B', hN⟩ := hN
  refine wpList_append_src hgd s x 53 ho B 5 i0 (.int .u8 0) 1 Tryd.underlying53 hi0 hz0 hz1 hz2 rfl v _ _ hs hO A n c (l'.map fun x => Value.int .u8 ((x : Nat) : Int)) hx (by simpa using hn) (nats_src hN) hnil (fun u hu => by obtain ⟨_, _, rfl⟩ := List.mem_map.1 hu; rfl) (by simp only [maxLen]; omega) (by omega) hB (fun v1 w1 hO1 hg1 _ => ?_)
  refine h v1 w1 ?_ ((Below.refl B W).grown hg1 hB (fun k hk => (World.ownsRow.lt hO k hk).1))
  unfold OwnB
  rw [List.length_append, List.map_append, hn]
  exact hO1
theorem own_nil {w : World} {B : Nat} {l : List Nat} {A : Option Addr} {n c : Nat} (h : OwnB w B (.slice A n c) l) : A = none → c = 0 := fun hA => by
  rcases h.2 with ⟨h1, _⟩ | ⟨g, cap, cur, h1, _⟩
  · cases h1; rfl
  · cases h1; cases hA
end R1
end Go.Proofs.YtpakdcgcgekcfaaDoor

/-
  Slices of bytes in a slice; a string's bytes.
-/
set_option linter.unusedSimpArgs false
set_option linter.unusedVariables false
namespace Go.Proofs.YtpakdcgcgekcfaaDoor
open Go.RowKit

namespace R1
/-- A slice's value as bytes, with what an append asks of it. -/
def BytesN (w : World) (B : Nat) (p : List Nat) (v : Value) : Prop := ∃ A c, v = .slice A p.length c ∧ p.length ≤ c ∧ (A = none → c = 0) ∧ Nats .u8 256 w B A p
/-- A slice of byte slices. -/
def Parts (w : World) (B : Nat) (A : Option Addr) (ps : List (List Nat)) : Prop := ∀ (i : Nat) (p : List Nat), ps[i]? = some p → ∃ J off v, A = some ⟨J, off, none⟩ ∧ J < B ∧ w.cell? ⟨J, off + i, none⟩ = some v ∧ BytesN w B p v
theorem BytesN.below {w w' : World} {B : Nat} {p : List Nat} {v : Value} (h : BytesN w B p v) (hb : Below B w w') : BytesN w' B p v := let ⟨A, c, h1, h2, h3, h4⟩ := h; ⟨A, c, h1, h2, h3, h4.below hb⟩
theorem BytesN.more {w : World} {B B' : Nat} {p : List Nat} {v : Value} (h : BytesN w B p v) (hB : B ≤ B') : BytesN w B' p v := let ⟨A, c, h1, h2, h3, h4⟩ := h; ⟨A, c, h1, h2, h3, h4.more hB⟩
theorem Parts.below {w w' : World} {B : Nat} {A : Option Addr} {ps : List (List Nat)} (h : Parts w B A ps) (hb : Below B w w') : Parts w' B A ps := fun i p hp => by
  obtain ⟨J, off, v, h1, h2, h3, h4⟩ := h i p hp
  exact ⟨J, off, v, h1, h2, (hb.cell (p := ⟨J, off + i, none⟩) h2).trans h3, h4.below hb⟩
theorem Parts.more {w : World} {B B' : Nat} {A : Option Addr} {ps : List (List Nat)} (h : Parts w B A ps) (hB : B ≤ B') : Parts w B' A ps := fun i p hp => by
  obtain ⟨J, off, v, h1, h2, h3, h4⟩ := h i p hp
  exact ⟨J, off, v, h1, by omega, h3, h4.more hB⟩
theorem Parts.nil (w : World) (B : Nat) (A : Option Addr) : Parts w B A [] := fun i p h => by simp at h
theorem BytesN.of {w : World} {p : List Nat} {A : Option Addr} {n c : Nat} (hn : p.length = n) (hc : n ≤ c) (hnil : A = none → c = 0) (h : Nats .u8 256 w w.heap.size A p) : BytesN w w.heap.size p (.slice A n c) := by subst hn; exact ⟨A, c, rfl, hc, hnil, h⟩
theorem BytesN.form {w : World} {B : Nat} {p : List Nat} {v : Value} (h : BytesN w B p v) : ∃ A n c, v = .slice A n c ∧ BytesN w B p (.slice A n c) := let ⟨A, c, h1, _⟩ := h; ⟨A, p.length, c, h1, h1 ▸ h⟩
theorem own_bytesN {w : World} {base : Nat} {v : Value} {l : List Nat} (h : OwnB w base v l) (hb : ∀ x ∈ l, x < 256) : BytesN w w.heap.size l v := by
  obtain ⟨A, c, rfl, hc, hN, _⟩ := own_nats h hb
  exact ⟨A, c, rfl, hc, own_nil h, hN⟩
/-- A slice literal of byte slices. -/
theorem parts_new {t : TypeId} (w : World) (vs : List Value) (ps : List (List Nat)) (hl : vs.length = ps.length) (h : ∀ (i : Nat) (p : List Nat) (v : Value), ps[i]? = some p → vs[i]? = some v → BytesN w w.heap.size p v) : Parts (w.alloc (.cells vs.toArray t)) (w.alloc (.cells vs.toArray t)).heap.size (some ⟨w.heap.size, 0, none⟩) ps := fun i p hp => by
  obtain ⟨v, hv⟩ : ∃ v, vs[i]? = some v := ⟨_, List.getElem?_eq_getElem (by have := (List.getElem?_eq_some_iff.1 hp).1; omega)⟩
  refine ⟨w.heap.size, 0, v, rfl, by simp, ?_, ((h i p v hp hv).below ((Below.refl _ w).alloc (Nat.le_refl _) _)).more (by simp)⟩
  rw [Nat.zero_add, (Blk.new w t vs.toArray).cell]
  simpa using hv
/-- A string's bytes. -/
def sB (s : ByteArray) : List Nat := s.data.toList.map (·.toNat)
theorem sB_length (s : ByteArray) : (sB s).length = s.size := by
  unfold sB
  rw [List.length_map]
  rfl
theorem sB_byte (s : ByteArray) : ∀ x ∈ sB s, x < 256 := fun x h => by
  obtain ⟨b, _, rfl⟩ := List.mem_map.1 h
  exact b.toNat_lt
theorem wpList_convert_str {P : Program} {w : World} {ops : Array Oper} {rest : List Oper} {o : Oper} {a : Act} {Q : Exit → Act → World → Prop} (hgd : o.guard = none) (src dst e : TypeId) (x : Operand) (ho : o.op = .convert src dst x) (hs : P.underlying src = some .string) (hd : P.underlying dst = some (.slice e)) (he : P.underlying e = some (.int .u8))
    (s : ByteArray) (hx : a.eval x = .string s) (h : ∀ v w', BytesN w' w'.heap.size (sB s) v → Below w.heap.size w w' → wpList P ops Q rest (a.put o.dst v) w') : wpList P ops Q (o :: rest) a w := by
  refine wpList_plain hgd fun K hK => ?_
  have hr := Lib.run_convert_string_bytes (P := P) w src dst e s hs hd he
  unfold Oper.wp execOp
  simp only [ho, hx]
  rw [Sem.run_bind, hr]
  simp only [Result.andThen_ok, Sem.run_pure, Oper.upon_value]
  refine hK _ _ (h _ _ ?_ ⟨rfl, rfl, rfl, by rw [Lib.bytesWorld_size]; omega, fun k hk => Lib.bytesWorld_at_old w e s k hk⟩)
  refine ⟨some ⟨w.heap.size, 0, none⟩, grownCap w s.size 0 e, by rw [sB_length], by rw [sB_length]; exact grownCap_ge _ _ _ _, (fun h => by cases h), fun i z hz => ?_⟩
  have hlt : i < s.size := by rw [← sB_length]; exact (List.getElem?_eq_some_iff.1 hz).1
  refine ⟨sB_byte s z (List.mem_of_getElem? hz), w.heap.size, 0, rfl, by rw [Lib.bytesWorld_size]; omega, ?_⟩
  rw [Nat.zero_add, Lib.bytesWorld_cell w e s i hlt]
  have : z = (s.data.toList.getD i 0).toNat := by
    simp only [sB, List.getElem?_map] at hz
    cases hq : s.data.toList[i]? with
    | none => rw [hq] at hz; cases hz
    | some b => rw [hq] at hz; cases hz; simp [List.getD, hq]
  rw [this]
end R1
end Go.Proofs.YtpakdcgcgekcfaaDoor

/-
  Package slot: a chip's places, plain and in memory; may, Kind, key.
-/
set_option linter.unusedSimpArgs false
set_option linter.unusedVariables false
namespace Go.Proofs.YtpakdcgcgekcfaaDoor
open Go.RowKit

namespace Slot
open Otp R1 Sha
theorem flat_len {n : Nat} : ∀ (L : List (List Value)), (∀ r ∈ L, r.length = n) → L.flatten.length = n * L.length
  | [], _ => by simp
  | r :: L, h => by
    have h1 := flat_len L (fun q hq => h q (List.mem_cons_of_mem _ hq))
    have h2 := h r (by simp)
    simp only [List.flatten_cons, List.length_append, List.length_cons, h1, h2, Nat.mul_succ]
    omega
theorem flat_get {n : Nat} : ∀ (L : List (List Value)), (∀ r ∈ L, r.length = n) → ∀ (h : Nat) (r : List Value), L[h]? = some r → ∀ (j : Nat) (v : Value), r[j]? = some v → L.flatten[n * h + j]? = some v
  | r :: L, hl, 0, q, hq, j, v, hv => by
    simp at hq
    subst hq
    rw [List.flatten_cons, Nat.mul_zero, Nat.zero_add, List.getElem?_append_left (List.getElem?_eq_some_iff.1 hv).1]
    exact hv
  | r :: L, hl, h + 1, q, hq, j, v, hv => by
    have h1 := flat_get L (fun q hq => hl q (List.mem_cons_of_mem _ hq)) h q (by simpa using hq) j v hv
    have h2 := hl r (by simp)
    rw [List.flatten_cons, List.getElem?_append_right (by rw [h2, Nat.mul_succ]; omega), h2, show n * (h + 1) + j - n = n * h + j by rw [Nat.mul_succ]; omega]
    exact h1
theorem flat_splice {n : Nat} (Z : List Value) : ∀ (L : List (List Value)), (∀ r ∈ L, r.length = n) → ∀ (h : Nat) (r : List Value), h < L.length → r.length = n → splice (L.flatten ++ Z) (n * h) r = (L.set h r).flatten ++ Z
  | q :: L, hl, 0, r, _, hr => by
    have h2 := hl q (by simp)
    unfold splice
    rw [Nat.mul_zero, List.take_zero, List.nil_append, Nat.zero_add, List.set_cons_zero, List.flatten_cons, List.flatten_cons, List.append_assoc, List.drop_append, List.drop_of_length_le (by omega), List.nil_append, show r.length - q.length = 0 by omega, List.drop_zero, List.append_assoc]
  | q :: L, hl, h + 1, r, hh, hr => by
    have h1 := flat_splice Z L (fun q hq => hl q (List.mem_cons_of_mem _ hq)) h r (by simpa using hh) hr
    have h2 := hl q (by simp)
    rw [List.set_cons_succ, List.flatten_cons, List.flatten_cons, List.append_assoc, List.append_assoc, ← h1]
    unfold splice
    rw [List.take_append, List.drop_append, List.take_of_length_le (by rw [h2, Nat.mul_succ]; omega), List.drop_of_length_le (by rw [h2, Nat.mul_succ]; omega), h2, List.nil_append, List.append_assoc, show n * (h + 1) - n = n * h by rw [Nat.mul_succ]; omega, show n * (h + 1) + r.length - n = n * h + r.length by rw [Nat.mul_succ]; omega]
/-- A chip's places (kind, key); locked, dead. -/
structure Slt where
  rs : List (Nat × List Nat)
  lk : Bool
  dd : Bool
def row (p : Nat × List Nat) : List Value := .int .i64 (p.1 : Int) :: v8 p.2
def slC (s : Slt) : List Value := (s.rs.map row).flatten ++ [.bool s.lk, .bool s.dd]
structure Slt.Ok (s : Slt) : Prop where
  len : s.rs.length = 8
  key : ∀ p ∈ s.rs, p.2.length = 32
  byte : ∀ p ∈ s.rs, ∀ x ∈ p.2, x < 256
  kind : ∀ p ∈ s.rs, p.1 ≤ 3
theorem Slt.Ok.rows {s : Slt} (h : s.Ok) : ∀ r ∈ s.rs.map row, r.length = 33 := fun r hr => by
  obtain ⟨p, hp, rfl⟩ := List.mem_map.1 hr
  simp [row, v8_length, h.key p hp]
theorem Slt.Ok.size {s : Slt} (h : s.Ok) : (slC s).length = 266 := by
  unfold slC
  rw [List.length_append, flat_len _ h.rows, List.length_map, h.len]
  rfl
theorem Slt.Ok.kindAt {s : Slt} (h : s.Ok) {i : Nat} {p : Nat × List Nat} (hp : s.rs[i]? = some p) : (slC s)[33 * i]? = some (.int .i64 (p.1 : Int)) := by
  have h1 := flat_get _ h.rows i (row p) (by rw [List.getElem?_map, hp]; rfl) 0 (.int .i64 (p.1 : Int)) rfl
  unfold slC
  rw [Nat.add_zero] at h1
  rw [List.getElem?_append_left (List.getElem?_eq_some_iff.1 h1).1]
  exact h1
theorem Slt.Ok.keyAt {s : Slt} (h : s.Ok) {i : Nat} {p : Nat × List Nat} (hp : s.rs[i]? = some p) : ∀ (j : Nat) (v : Value), (v8 p.2)[j]? = some v → (slC s)[33 * i + 1 + j]? = some v := fun j v hv => by
  have h1 := flat_get _ h.rows i (row p) (by rw [List.getElem?_map, hp]; rfl) (j + 1) v (by simpa [row] using hv)
  unfold slC
  rw [show 33 * i + 1 + j = 33 * i + (j + 1) by omega, List.getElem?_append_left (List.getElem?_eq_some_iff.1 h1).1]
  exact h1
theorem Slt.Ok.lockAt {s : Slt} (h : s.Ok) : (slC s)[264]? = some (.bool s.lk) := by
  unfold slC
  rw [List.getElem?_append_right (by rw [flat_len _ h.rows, List.length_map, h.len]; decide), flat_len _ h.rows, List.length_map, h.len]
  rfl
theorem Slt.Ok.deadAt {s : Slt} (h : s.Ok) : (slC s)[265]? = some (.bool s.dd) := by
  unfold slC
  rw [List.getElem?_append_right (by rw [flat_len _ h.rows, List.length_map, h.len]; decide), flat_len _ h.rows, List.length_map, h.len]
  rfl
/-- A place is laid. -/
def Slt.put (s : Slt) (i : Nat) (p : Nat × List Nat) : Slt := { s with rs := s.rs.set i p }
theorem Slt.Ok.splice {s : Slt} (h : s.Ok) {i : Nat} (hi : i < 8) {p : Nat × List Nat} (hp : p.2.length = 32) : Go.splice (slC s) (33 * i) (row p) = slC (s.put i p) := by
  unfold slC Slt.put
  rw [flat_splice _ _ h.rows i (row p) (by rw [List.length_map, h.len]; exact hi) (by simp [row, v8_length, hp]), List.map_set]
theorem Slt.Ok.put {s : Slt} (h : s.Ok) (i : Nat) {p : Nat × List Nat} (hp : p.2.length = 32) (hb : ∀ x ∈ p.2, x < 256) (hk : p.1 ≤ 3) : (s.put i p).Ok := by
  refine ⟨by simp [Slt.put, h.len], fun q hq => ?_, fun q hq => ?_, fun q hq => ?_⟩ <;> rcases List.mem_or_eq_of_mem_set hq with h1 | rfl
  · exact h.key q h1
  · exact hp
  · exact h.byte q h1
  · exact hb
  · exact h.kind q h1
  · exact hk
/-- It lies in memory. -/
structure Sl (w : World) (g : Nat) (s : Slt) : Prop where
  ok : s.Ok
  blk : Blk w g 140 (slC s).toArray
section
variable {w w' : World} {g : Nat} {s : Slt}
theorem Sl.lt (h : Sl w g s) : g < w.heap.size := h.blk.lt
theorem Sl.old (h : Sl w g s) (hb : Below w.heap.size w w') : Sl w' g s := ⟨h.ok, h.blk.next hb rfl⟩
theorem Sl.frm {S : List Nat} (h : Sl w g s) (hf : Frm S w w') (hg : g ∉ S) : Sl w' g s := ⟨h.ok, h.blk.frm hf hg⟩
theorem Sl.cellAt (h : Sl w g s) {i : Nat} {v : Value} (hv : (slC s)[i]? = some v) : w.cell? ⟨g, i, none⟩ = some v := by
  rw [h.blk.cell]
  simpa using hv
end
def inR (h : Int) : Bool := decide (0 ≤ h ∧ h < 8)
theorem inR_t {h : Int} (h1 : 0 ≤ h) (h2 : h < 8) : inR h = true := by simp [inR, h1, h2]
theorem inR_f {h : Int} (h1 : ¬ (0 ≤ h ∧ h < 8)) : inR h = false := by simp only [inR, decide_eq_false_iff_not]; exact h1
/-- Why nothing can be done with some places. -/
def mayE (s : Slt) (l : List Int) : Nat := if s.dd then 17 else if l.all inR then 0 else 1
set_option maxHeartbeats 1000000 in
theorem within_any (A : Option Addr) (n c : Nat) (h : Int) (b : Bool) (w : World) (hb : decide (0 ≤ h ∧ h < (n : Int)) = b) : Calls Tryd.prog 103 #[.slice A n c, .int .i64 h] w (fun e w' => e = .returned (.bool b) ∧ w = w') := by
  by_cases h0 : 0 ≤ h
  · have g0 : (h ≥ 0) = True := by simp [h0]
    by_cases h1 : h < (n : Int)
    · obtain rfl : b = true := by rw [← hb]; simp [h0, h1]
      clear hb
      go_enter Tryd.func103, Tryd.ntmps103
      go_wp2_with fail
      go_light
      go_ret
      exact ⟨rfl, rfl⟩
    · obtain rfl : b = false := by rw [← hb]; simp [h1]
      clear hb
      go_enter Tryd.func103, Tryd.ntmps103
      go_wp2_with fail
      go_light
      go_ret
      exact ⟨rfl, rfl⟩
  · obtain rfl : b = false := by rw [← hb]; simp [h0]
    have g0 : ¬ (h ≥ 0) := h0
    clear hb
    go_enter Tryd.func103, Tryd.ntmps103
    go_wp2_with fail
    go_light
    go_ret
    exact ⟨rfl, rfl⟩
theorem run_slice_arr_all' {P : Program} (t e : TypeId) (N : Nat) (ht : P.underlying t = some (.array N e)) (hs : ∀ w, (sizeOf e).run P w = .ok 1 w) (b o : Nat) (h3 : 0 < N) (w : World) :
    (Instr.sliceAt t (.pointer (some ⟨b, o, none⟩)) none none none).run P w = .ok (.slice (some ⟨b, o, none⟩) N N) w := by
  have hn : P.arrayLen t = N := by simp [Program.arrayLen, ht]
  have he : P.elem t = e := by simp [Program.elem, ht]
  have ht' : P.underlying t = some (.array (P.arrayLen t) (P.elem t)) := by rw [hn, he]; exact ht
  rw [run_sliceAt_array_all w t ⟨b, o, none⟩ ht', he, hs, hn]
  have hne : ¬ N = 0 := by omega
  simp [Result.andThen, slicedAt, hne, Go.WideShapes.add_plain]
theorem run_slice_places (g : Nat) (w : World) : (Instr.sliceAt 138 (.pointer (some ⟨g, 0, none⟩)) none none none).run Tryd.prog w = .ok (.slice (some ⟨g, 0, none⟩) 8 8) w := by
  have hn : Tryd.prog.arrayLen 138 = 8 := by kernel_rfl
  have he : Tryd.prog.elem 138 = 137 := by kernel_rfl
  have ht' : Tryd.prog.underlying 138 = some (.array (Tryd.prog.arrayLen 138) (Tryd.prog.elem 138)) := by kernel_rfl
  have hs : (sizeOf (Tryd.prog.elem 138)).run Tryd.prog w = .ok 33 w := by rw [he]; kernel_rfl
  rw [run_sliceAt_array_all w 138 ⟨g, 0, none⟩ ht', hs, hn]
  simp [Result.andThen, slicedAt, Go.WideShapes.add_plain]
set_option maxRecDepth 100000 in
set_option maxHeartbeats 1000000 in
theorem may_any (g : Nat) (s : Slt) (A : Option Addr) (l : List Int) (n c : Nat) (w : World) (hS : Sl w g s) (hl : l.length = n) (hn : n ≤ 1000000) (hz : Ints .i64 w w.heap.size A l) :
    Calls Tryd.prog 81 #[.pointer (some ⟨g, 0, none⟩), .slice A n c] w (fun e w' => e = .returned (.int .i64 (mayE s l : Int)) ∧ w = w') := by
  subst hl
  obtain ⟨E, hE⟩ : ∃ E, mayE s l = E := ⟨_, rfl⟩
  rw [hE]
  have hcd : w.cell? ⟨g, 265, none⟩ = some (.bool s.dd) := hS.cellAt hS.ok.deadAt
  have HN := Lib.hid hz
  have hsl := run_slice_places g
  cases hdd : s.dd with
  | true =>
    obtain rfl : E = 17 := by rw [← hE]; simp [mayE, hdd]
    rw [hdd] at hcd
    clear hE hdd hz
    go_enter Tryd.func81, Tryd.ntmps81
    go_wp2_with fail
    go_light
    go_ret
    exact ⟨rfl, rfl⟩
  | false =>
    have HE := Lib.hid (show E = if l.all inR then 0 else 1 by rw [← hE]; simp [mayE, hdd])
    rw [hdd] at hcd
    clear hE hdd hz
    go_enter Tryd.func81, Tryd.ntmps81
    go_wp2_with fail
    go_loopg [17] l.length (fun gm s17 wr => ∃ i : Nat, i + gm = l.length ∧ s17 = .int .i64 (i : Int) ∧ Hid ((l.take i).all inR = true) ∧ wr = w)
    case atStart => exact ⟨0, by omega, rfl, Lib.hid rfl, rfl⟩
    case round =>
      obtain ⟨i, hg, rfl, HA, rfl⟩ := hrel
      have HG := Lib.hid hg
      have hi : i ≤ l.length := by omega
      clear hg
      by_cases hlt : i < l.length
      · obtain ⟨z, hx⟩ : ∃ z, l[i]? = some z := ⟨_, List.getElem?_eq_getElem hlt⟩
        obtain ⟨_, b, off, rfl, hb, hcx⟩ := HN.out i z hx
        have HT := Lib.hid (take_snoc hx)
        have HX := Lib.hid hx
        clear hx
        cases hin : inR z with
        | true =>
          have HI := Lib.hid (show decide (0 ≤ z ∧ z < ((8 : Nat) : Int)) = true from hin)
          have HIN := Lib.hid hin
          clear hin
          go_wp2_with fail
          (with_reducible refine (within_any _ _ _ _ true _ HI.out).mono ?_); rintro e w2 ⟨rfl, rfl⟩
          go_wp2_with fail
          go_light
          go_roundg (l.length - (i + 1))
          case measure => have := HG.out; omega
          case rel => exact ⟨i + 1, by omega, by go_num, Lib.hid (by rw [HT.out, List.all_append, HA.out]; simp [HIN.out]), rfl⟩
        | false =>
          have HI := Lib.hid (show decide (0 ≤ z ∧ z < ((8 : Nat) : Int)) = false from hin)
          have HE1 := Lib.hid (show E = 1 by
            rw [HE.out, if_neg]
            intro h
            have := List.all_eq_true.1 h z (List.mem_of_getElem? HX.out)
            rw [hin] at this
            cases this)
          clear hin
          go_wp2_with fail
          (with_reducible refine (within_any _ _ _ _ false _ HI.out).mono ?_); rintro e w2 ⟨rfl, rfl⟩
          go_wp2_with fail
          go_light
          go_ret
          exact ⟨by rw [HE1.out]; rfl, rfl⟩
      · have hil : i = l.length := by omega
        subst hil
        have HE0 := Lib.hid (show E = 0 by
          have := HA.out
          rw [List.take_length] at this
          rw [HE.out, if_pos this])
        go_wp2_with fail
        go_light
        go_ret
        exact ⟨by rw [HE0.out]; rfl, rfl⟩
set_option maxHeartbeats 1000000 in
theorem may_nil (A : Option Addr) (n c : Nat) (w : World) : Calls Tryd.prog 81 #[.pointer none, .slice A n c] w (fun e w' => e = .returned (.int .i64 3) ∧ w = w') := by
  go_enter Tryd.func81, Tryd.ntmps81
  go_wp2_with fail
  go_light
  go_ret
  exact ⟨rfl, rfl⟩
end Slot
end Go.Proofs.YtpakdcgcgekcfaaDoor

/-
  Package slot: Kind, key.
-/
set_option linter.unusedSimpArgs false
set_option linter.unusedVariables false
namespace Go.Proofs.YtpakdcgcgekcfaaDoor
open Go.RowKit

namespace Slot
open Otp R1 Sha
def wfI (h : Int) : Prop := (Lit.int .i64 h).wf = true
theorem ints_one (w : World) (h : Int) (hw : wfI h) : Ints .i64 (w.alloc (.cells #[.int .i64 h] 3)) (w.alloc (.cells #[.int .i64 h] 3)).heap.size (some ⟨w.heap.size, 0, none⟩) [h] :=
  (ints_new w [h] _ rfl (fun z hz => by simp at hz; subst hz; exact hw)).more (by simp)
theorem ints_two (w : World) (h k : Int) (hw : wfI h) (kw : wfI k) : Ints .i64 (w.alloc (.cells #[.int .i64 h, .int .i64 k] 3)) (w.alloc (.cells #[.int .i64 h, .int .i64 k] 3)).heap.size (some ⟨w.heap.size, 0, none⟩) [h, k] :=
  (ints_new w [h, k] _ rfl (fun z hz => by simp at hz; rcases hz with rfl | rfl; exact hw; exact kw)).more (by simp)
/-- A place's kind. -/
def kindE (s : Slt) (h : Int) : Nat := if mayE s [h] = 0 then (s.rs[h.toNat]?.getD (0, [])).1 else 0
theorem mayE_le (s : Slt) (l : List Int) : mayE s l ≤ 17 := by
  unfold mayE
  split
  · decide
  · split <;> decide
theorem mayE_zero {s : Slt} {h : Int} (hm : mayE s [h] = 0) : s.dd = false ∧ 0 ≤ h ∧ h < 8 := by
  unfold mayE at hm
  split at hm
  · cases hm
  · split at hm
    · rename_i h1 h2
      simp [inR] at h2
      exact ⟨by simpa using h1, h2⟩
    · cases hm
theorem row_at {s : Slt} (hk : s.Ok) {i : Nat} (hi : i < 8) : ∃ p, s.rs[i]? = some p ∧ p.2.length = 32 ∧ (∀ x ∈ p.2, x < 256) ∧ p.1 ≤ 3 := by
  have hl : i < s.rs.length := by rw [hk.len]; exact hi
  have hm := List.getElem_mem hl
  exact ⟨s.rs[i], List.getElem?_eq_getElem hl, hk.key _ hm, hk.byte _ hm, hk.kind _ hm⟩
def IntBelow (w : World) (z : Int) (e : Ending) (w' : World) : Prop := e = .returned (.int .i64 z) ∧ Below w.heap.size w w'
set_option maxRecDepth 100000 in
set_option maxHeartbeats 1000000 in
theorem kind_any (g : Nat) (s : Slt) (h : Int) (w : World) (hS : Sl w g s) (hw : wfI h) :
    Calls Tryd.prog 41 #[.pointer (some ⟨g, 0, none⟩), .int .i64 h] w (IntBelow w (kindE s h)) := by
  have HM := Lib.hid (may_any g s _ [h] 1 1 _ (hS.old ((Below.refl _ w).alloc (Nat.le_refl _) (.cells #[.int .i64 h] 3))) rfl (by decide) (ints_one w h hw))
  have HB := Lib.hid ((Below.refl _ w).alloc (Nat.le_refl _) (.cells #[.int .i64 h] 3))
  obtain ⟨E, hE⟩ : ∃ E, mayE s [h] = E := ⟨_, rfl⟩
  rw [hE] at HM
  by_cases h0 : E = 0
  · subst h0
    obtain ⟨hdd, h1, h2⟩ := mayE_zero hE
    obtain ⟨i, rfl⟩ : ∃ i : Nat, h = i := ⟨h.toNat, by omega⟩
    obtain ⟨p, hp, _, _, _⟩ := row_at hS.ok (show i < 8 by omega)
    have HK := Lib.hid (show kindE s (i : Int) = p.1 by rw [kindE, if_pos hE, Int.toNat_natCast, hp]; rfl)
    have hck : (w.alloc (.cells #[.int .i64 (i : Int)] 3)).cell? ⟨g, i * 33, none⟩ = some (.int .i64 (p.1 : Int)) := (hS.old HB.out).cellAt (by rw [Nat.mul_comm]; exact hS.ok.kindAt hp)
    have hi8 : (i : Int) < 8 := h2
    rw [HK.out]
    clear hE hdd hp h1 h2 hS hw
    go_enter Tryd.func41, Tryd.ntmps41
    go_wp2_with fail
    (with_reducible refine HM.out.mono ?_); rintro e w2 ⟨rfl, rfl⟩
    go_wp2_with fail
    go_light
    go_ret
    exact ⟨rfl, HB.out⟩
  · have HK := Lib.hid (show kindE s h = 0 by rw [kindE, hE, if_neg h0])
    have hne : (((E : Nat) : Int) != 0) = true := by rw [bne_iff_ne]; omega
    rw [HK.out]
    clear hE hS hw
    go_enter Tryd.func41, Tryd.ntmps41
    go_wp2_with fail
    (with_reducible refine HM.out.mono ?_); rintro e w2 ⟨rfl, rfl⟩
    go_wp2_with fail
    go_light
    go_ret
    exact ⟨rfl, HB.out⟩
set_option maxHeartbeats 1000000 in
theorem kind_nil (h : Int) (w : World) : Calls Tryd.prog 41 #[.pointer none, .int .i64 h] w (IntBelow w 0) := by
  have HB := Lib.hid ((Below.refl _ w).alloc (Nat.le_refl _) (.cells #[.int .i64 h] 3))
  go_enter Tryd.func41, Tryd.ntmps41
  go_wp2_with fail
  (with_reducible refine (may_nil _ _ _ _).mono ?_); rintro e w2 ⟨rfl, rfl⟩
  go_wp2_with fail
  go_light
  go_ret
  exact ⟨rfl, HB.out⟩
/-- A place's key: why not, or the key. -/
def keyE (s : Slt) (h : Int) : Nat := if mayE s [h] ≠ 0 then mayE s [h] else if kindE s h = 0 then 3 else 0
def keyOf (s : Slt) (h : Int) : List Nat := (s.rs[h.toNat]?.getD (0, [])).2
def KeyOut (w : World) (E : Nat) (k : List Nat) (e : Ending) (w' : World) : Prop := ∃ A n c, e = .returned (.tuple #[.slice A n c, .int .i64 (E : Int)]) ∧ (E = 0 → n = 32 ∧ n ≤ c ∧ k.length = 32 ∧ Nats .u8 256 w' w'.heap.size A k) ∧ Below w.heap.size w w'
set_option maxRecDepth 100000 in
set_option maxHeartbeats 2000000 in
theorem key_any (g : Nat) (s : Slt) (h : Int) (w : World) (hS : Sl w g s) (hw : wfI h) :
    Calls Tryd.prog 82 #[.pointer (some ⟨g, 0, none⟩), .int .i64 h] w (KeyOut w (keyE s h) (keyOf s h)) := by
  have HM := Lib.hid (may_any g s _ [h] 1 1 _ (hS.old ((Below.refl _ w).alloc (Nat.le_refl _) (.cells #[.int .i64 h] 3))) rfl (by decide) (ints_one w h hw))
  have HB := Lib.hid ((Below.refl _ w).alloc (Nat.le_refl _) (.cells #[.int .i64 h] 3))
  obtain ⟨E, hE⟩ : ∃ E, mayE s [h] = E := ⟨_, rfl⟩
  rw [hE] at HM
  by_cases h0 : E = 0
  · subst h0
    obtain ⟨hdd, h1, h2⟩ := mayE_zero hE
    obtain ⟨i, rfl⟩ : ∃ i : Nat, h = i := ⟨h.toNat, by omega⟩
    obtain ⟨p, hp, hpl, hpb, hp3⟩ := row_at hS.ok (show i < 8 by omega)
    have hkd : kindE s (i : Int) = p.1 := by rw [kindE, if_pos hE, Int.toNat_natCast, hp]; rfl
    have HKO := Lib.hid (show keyOf s (i : Int) = p.2 by rw [keyOf, Int.toNat_natCast, hp]; rfl)
    have HS2 := Lib.hid (hS.old HB.out)
    have hck : (w.alloc (.cells #[.int .i64 (i : Int)] 3)).cell? ⟨g, i * 33, none⟩ = some (.int .i64 (p.1 : Int)) := HS2.out.cellAt (by rw [Nat.mul_comm]; exact hS.ok.kindAt hp)
    have hi8 : (i : Int) < 8 := h2
    have HNK := Lib.hid (show Nats .u8 256 (w.alloc (.cells #[.int .i64 (i : Int)] 3)) (w.alloc (.cells #[.int .i64 (i : Int)] 3)).heap.size (some ⟨g, i * 33 + 1, none⟩) p.2 from fun j z hz =>
      ⟨hpb z (List.mem_of_getElem? hz), g, i * 33 + 1, rfl, HS2.out.lt, HS2.out.cellAt (by rw [Nat.mul_comm]; exact hS.ok.keyAt hp j _ (by simp [v8, hz]))⟩)
    have hsl := run_slice_arr_all' (P := Tryd.prog) 23 5 32 Tryd.underlying23 (fun _ => by kernel_rfl) g (i * 33 + 1) (by decide)
    by_cases hk0 : p.1 = 0
    · have HK := Lib.hid (show keyE s (i : Int) = 3 by rw [keyE, hE, hkd, hk0]; rfl)
      rw [HK.out]
      rw [hk0] at hck
      clear hE hdd hp h1 h2 hS hw hkd hk0 hsl
      go_enter Tryd.func82, Tryd.ntmps82
      go_wp2_with fail
      (with_reducible refine HM.out.mono ?_); rintro e w2 ⟨rfl, rfl⟩
      go_wp2_with fail
      go_light
      go_ret2
      exact ⟨_, _, _, rfl, (fun h => by cases h), HB.out⟩
    · have HK := Lib.hid (show keyE s (i : Int) = 0 by rw [keyE, hE, hkd, if_neg (by decide), if_neg hk0])
      rw [HK.out, HKO.out]
      have hne : (((p.1 : Nat) : Int) == 0) = false := by rw [beq_eq_false_iff_ne]; omega
      clear hE hdd hp h1 h2 hS hw hkd hk0
      go_enter Tryd.func82, Tryd.ntmps82
      go_wp2_with fail
      (with_reducible refine HM.out.mono ?_); rintro e w2 ⟨rfl, rfl⟩
      go_wp2_with fail
      go_light
      go_ret2
      exact ⟨_, _, _, rfl, fun _ => ⟨rfl, Nat.le_refl _, hpl, HNK.out⟩, HB.out⟩
  · have HK := Lib.hid (show keyE s h = E by rw [keyE, hE, if_pos h0])
    have hne : (((E : Nat) : Int) != 0) = true := by rw [bne_iff_ne]; omega
    rw [HK.out]
    clear hE hS hw
    go_enter Tryd.func82, Tryd.ntmps82
    go_wp2_with fail
    (with_reducible refine HM.out.mono ?_); rintro e w2 ⟨rfl, rfl⟩
    go_wp2_with fail
    go_light
    go_ret2
    exact ⟨_, _, _, rfl, fun h => absurd h h0, HB.out⟩
set_option maxHeartbeats 1000000 in
theorem key_nil (h : Int) (w : World) : Calls Tryd.prog 82 #[.pointer none, .int .i64 h] w (KeyOut w 3 []) := by
  have HB := Lib.hid ((Below.refl _ w).alloc (Nat.le_refl _) (.cells #[.int .i64 h] 3))
  go_enter Tryd.func82, Tryd.ntmps82
  go_wp2_with fail
  (with_reducible refine (may_nil _ _ _ _).mono ?_); rintro e w2 ⟨rfl, rfl⟩
  go_wp2_with fail
  go_light
  go_ret2
  exact ⟨_, _, _, rfl, (fun h => by cases h), HB.out⟩
end Slot
end Go.Proofs.YtpakdcgcgekcfaaDoor

/-
  Aggregates out of parts. No program in sight.
-/
set_option linter.unusedSimpArgs false
set_option linter.unusedVariables false
namespace Go.Proofs.YtpakdcgcgekcfaaDoor
open Go.RowKit

theorem fold_put (off : Nat) : ∀ (cs : List Value) (j : Nat) (L : Array Value), off + j + cs.length ≤ L.size → (cs.zipIdx j).foldl (fun (a : Array Value) (p : Value × Nat) => a.setIfInBounds (off + p.2) p.1) L = (splice L.toList (off + j) cs).toArray
  | [], j, L, _ => by simp [splice]
  | v :: r, j, L, h => by
    rw [List.zipIdx_cons, List.foldl_cons]
    simp only [List.length_cons] at h
    have := fold_put off r (j + 1) (L.setIfInBounds (off + j) v) (by simp; omega)
    rw [this]
    have e : (L.setIfInBounds (off + j) v).toList = L.toList.set (off + j) v := by simp
    rw [e, show off + (j + 1) = off + j + 1 by omega, splice_cons (by simp; omega)]
/-- A part of many cells goes in. -/
theorem fill_part (place : Nat → Option (Nat × Nat)) (cells : List Value) (i : Nat) (cs : List Value) (rest : List (Nat × Value)) (off : Nat) (hp : place i = some (off, cs.length)) (hf : off + cs.length ≤ cells.length) :
    Instr.fill place cells.toArray ((i, .agg cs.toArray) :: rest) = Instr.fill place (splice cells off cs).toArray rest := by
  have hc : (Value.agg cs.toArray).cells = cs.toArray := rfl
  have := fold_put off cs 0 cells.toArray (by simpa using hf)
  simp only [Nat.add_zero] at this
  have hz : (cs.toArray.zipIdx.foldl (fun (a : Array Value) (p : Value × Nat) => a.setIfInBounds (off + p.2) p.1) cells.toArray) = (cs.zipIdx 0).foldl (fun (a : Array Value) (p : Value × Nat) => a.setIfInBounds (off + p.2) p.1) cells.toArray := by
    rw [← Array.foldl_toList]
    congr 1
    simp
  rw [Instr.fill]
  rw [hp]
  simp only [hc]
  have h1 : ¬ ((decide (cs.toArray.size ≠ cs.length) || decide (off + cs.toArray.size > cells.toArray.size)) = true) := by
    simp
    omega
  rw [if_neg h1]
  congr 1
  exact hz.trans this
/-- A part of one cell. -/
theorem fill_one (place : Nat → Option (Nat × Nat)) (cells : List Value) (i : Nat) (v : Value) (rest : List (Nat × Value)) (off : Nat) (hv : v.cells = #[v]) (hp : place i = some (off, 1)) (hf : off < cells.length) :
    Instr.fill place cells.toArray ((i, v) :: rest) = Instr.fill place (cells.set off v).toArray rest := by
  rw [Instr.fill]
  rw [hp]
  simp only [hv]
  have h1 : ¬ ((decide ((#[v] : Array Value).size ≠ 1) || decide (off + (#[v] : Array Value).size > cells.toArray.size)) = true) := by
    simp
    omega
  rw [if_neg h1]
  congr 1
  simp [Array.zipIdx]
theorem splice_two (Z A B : List Value) (h : Z.length = A.length + B.length) : splice (splice Z 0 A) A.length B = A ++ B := by
  unfold splice
  simp [h]
end Go.Proofs.YtpakdcgcgekcfaaDoor

/-
  Package slot: Lay, Lock, Locked, Dead.
-/
set_option linter.unusedSimpArgs false
set_option linter.unusedVariables false
namespace Go.Proofs.YtpakdcgcgekcfaaDoor
open Go.RowKit

namespace Slot
open Otp R1 Sha
def layE (s : Slt) (h kind : Int) : Nat := if mayE s [h] ≠ 0 then mayE s [h] else if kind < 1 ∨ 3 < kind then 1 else if s.lk = true ∧ kind = 1 then 12 else if kindE s h ≠ 0 then 13 else 0
def laySt (s : Slt) (h kind : Int) (key : List Nat) : Slt := if layE s h kind = 0 then s.put h.toNat (kind.toNat, key) else s
/-- A call that may write into the chip's places. -/
def WrOut (w : World) (g : Nat) (z : Int) (s' : Slt) (e : Ending) (w' : World) : Prop := e = .returned (.int .i64 z) ∧ Sl w' g s' ∧ Frm [g] w w'
theorem place_info : (Tryd.prog.info? 137).map (·.size) = some 33 := by kernel_rfl
theorem place_built (k : Nat) (y : List Nat) (hy : y.length = 32) : Tryd.prog.built 137 [(0, .int .i64 (k : Int)), (1, .agg (b8 y))] = some (row (k, y)).toArray := by
  have h : Tryd.prog.built 137 [(0, .int .i64 (k : Int)), (1, .agg (b8 y))] = Instr.fill ((#[(0, 1), (1, 32)] : Array (Nat × Nat))[·]?) (Value.int .i64 0 :: v8 (List.replicate 32 0)).toArray [(0, .int .i64 (k : Int)), (1, .agg (b8 y))] := by kernel_rfl
  have hz : (Value.int .i64 0 :: v8 (List.replicate 32 0)).length = 33 := rfl
  have hp := fill_part ((#[(0, 1), (1, 32)] : Array (Nat × Nat))[·]?) ((Value.int .i64 0 :: v8 (List.replicate 32 0)).set 0 (.int .i64 (k : Int))) 1 (v8 y) [] 1 (by rw [v8_length, hy]; rfl) (by rw [List.length_set, hz, v8_length, hy]; decide)
  rw [h, fill_one _ _ 0 (.int .i64 (k : Int)) _ 0 rfl rfl (by decide)]
  have hs : splice ((Value.int .i64 0 :: v8 (List.replicate 32 0)).set 0 (.int .i64 (k : Int))) 1 (v8 y) = row (k, y) := by
    unfold splice
    rw [List.drop_of_length_le (by rw [List.length_set, hz, v8_length, hy]; decide), List.append_nil, List.set_cons_zero, List.take_succ_cons, List.take_zero]
    rfl
  rw [hs] at hp
  exact hp
theorem row_one (p : Nat × List Nat) : ∀ v ∈ row p, v.oneCell' = true := fun v hv => by
  rcases List.mem_cons.1 hv with rfl | hv
  · rfl
  · obtain ⟨_, _, rfl⟩ := List.mem_map.1 hv
    rfl
theorem row_size {p : Nat × List Nat} (h : p.2.length = 32) : (row p).toArray.size = 33 := by simp [row, v8_length, h]
set_option maxRecDepth 100000 in
set_option maxHeartbeats 4000000 in
theorem lay_any (g : Nat) (s : Slt) (h kind : Int) (key : List Nat) (w : World) (hS : Sl w g s) (hw : wfI h) (hkl : key.length = 32) (hkb : ∀ x ∈ key, x < 256) :
    Calls Tryd.prog 35 #[.pointer (some ⟨g, 0, none⟩), .int .i64 h, .int .i64 kind, .agg (b8 key)] w (WrOut w g (layE s h kind) (laySt s h kind key)) := by
  obtain ⟨W1, hW1⟩ : ∃ W, W = w.alloc (.cells (b8 key) 23) := ⟨_, rfl⟩
  have HB1 := Lib.hid (show Below w.heap.size w W1 by rw [hW1]; exact (Below.refl _ w).alloc (Nat.le_refl _) _)
  have HK1 := Lib.hid (show Blk W1 w.heap.size 23 (b8 key) by rw [hW1]; exact Blk.new _ _ _)
  have HW1 := Lib.hid hW1
  obtain ⟨W2, hW2⟩ : ∃ W, W = W1.alloc (.cells #[.int .i64 h] 3) := ⟨_, rfl⟩
  have HW2 := Lib.hid hW2
  have HB2 := Lib.hid (show Below w.heap.size w W2 by rw [hW2]; exact HB1.out.alloc HB1.out.size _)
  have HK2 := Lib.hid (show Blk W2 w.heap.size 23 (b8 key) by rw [hW2]; exact HK1.out.alloc _)
  have HS2 := Lib.hid (hS.old HB2.out)
  have HM := Lib.hid (may_any g s (some ⟨W1.heap.size, 0, none⟩) [h] 1 1 W2 HS2.out rfl (by decide) (by rw [hW2]; exact ints_one W1 h hw))
  obtain ⟨E, hE⟩ : ∃ E, mayE s [h] = E := ⟨_, rfl⟩
  rw [hE] at HM
  have hok := HS2.out.ok
  have HEND := Lib.hid (show Frm [g] w W2 from Frm.of_below HB2.out)
  clear hW1 hW2 hS
  by_cases h0 : E = 0
  · subst h0
    obtain ⟨hdd, h1, h2⟩ := mayE_zero hE
    obtain ⟨i, rfl⟩ : ∃ i : Nat, h = i := ⟨h.toNat, by omega⟩
    obtain ⟨p, hp, hpl, hpb, hp3⟩ := row_at hok (show i < 8 by omega)
    have hkd : kindE s (i : Int) = p.1 := by rw [kindE, if_pos hE, Int.toNat_natCast, hp]; rfl
    have hck : W2.cell? ⟨g, i * 33, none⟩ = some (.int .i64 (p.1 : Int)) := HS2.out.cellAt (by rw [Nat.mul_comm]; exact hok.kindAt hp)
    have hcl : W2.cell? ⟨g, 264, none⟩ = some (.bool s.lk) := HS2.out.cellAt hok.lockAt
    have hi8 : (i : Int) < 8 := h2
    by_cases hkr : kind < 1 ∨ 3 < kind
    · have HE := Lib.hid (show layE s (i : Int) kind = 1 by rw [layE, hE, if_neg (by decide), if_pos hkr])
      have HL := Lib.hid (show laySt s (i : Int) kind key = s by rw [laySt, HE.out]; rfl)
      rw [HE.out, HL.out]
      clear hE hdd hp h1 h2 hw hkd hck hcl HE HL hok
      by_cases hk1 : kind < 1
      all_goals
        (try have hk3 : kind > 3 := by omega)
        go_enter Tryd.func35, Tryd.ntmps35
        go_upto_region 1 with fail
        change Code.wp _ _ _ _ (w.alloc (.cells (b8 key) 23))
        rw [← HW1.out]
        go_upto_region 2 with (go_at_call 81; change Calls _ _ _ (W1.alloc (.cells #[.int .i64 (i : Int)] 3)) _; rw [← HW2.out]; (with_reducible refine HM.out.mono ?_); rintro e w2 ⟨rfl, rfl⟩)
        go_wp2_with fail
        go_light
        go_ret
        exact ⟨rfl, HS2.out, HEND.out⟩
    · have hk1 : ¬ kind < 1 := by omega
      have hk3 : ¬ kind > 3 := by omega
      by_cases hlk : s.lk = true ∧ kind = 1
      · obtain ⟨hl, hk⟩ := hlk
        have HE := Lib.hid (show layE s (i : Int) kind = 12 by rw [layE, hE, if_neg (by decide), if_neg hkr, if_pos ⟨hl, hk⟩])
        have HL := Lib.hid (show laySt s (i : Int) kind key = s by rw [laySt, HE.out]; rfl)
        rw [HE.out, HL.out]
        rw [hl] at hcl
        subst hk
        clear hE hdd hp h1 h2 hw hkd hck hl HE HL hok hkr hk1 hk3
        go_enter Tryd.func35, Tryd.ntmps35
        go_upto_region 1 with fail
        change Code.wp _ _ _ _ (w.alloc (.cells (b8 key) 23))
        rw [← HW1.out]
        go_upto_region 2 with (go_at_call 81; change Calls _ _ _ (W1.alloc (.cells #[.int .i64 (i : Int)] 3)) _; rw [← HW2.out]; (with_reducible refine HM.out.mono ?_); rintro e w2 ⟨rfl, rfl⟩)
        go_wp2_with fail
        go_light
        go_ret
        exact ⟨rfl, HS2.out, HEND.out⟩
      · have hb33 : s.lk = false ∨ (s.lk = true ∧ (kind == 1) = false) := by
          cases hl : s.lk
          · exact .inl rfl
          · exact .inr ⟨rfl, by rw [beq_eq_false_iff_ne]; exact fun h => hlk ⟨hl, h⟩⟩
        by_cases hkk : p.1 = 0
        · have HE := Lib.hid (show layE s (i : Int) kind = 0 by rw [layE, hE, if_neg (by decide), if_neg hkr, if_neg hlk, hkd, hkk]; rfl)
          obtain ⟨kn, rfl⟩ : ∃ n : Nat, kind = n := ⟨kind.toNat, by omega⟩
          have HL := Lib.hid (show laySt s (i : Int) (kn : Int) key = s.put i (kn, key) by rw [laySt, HE.out, if_pos rfl]; rfl)
          rw [HE.out, HL.out]
          rw [hkk] at hck
          have HSP := Lib.hid (show splice (slC s) (i * 33) (row (kn, key)).toArray.toList = slC (s.put i (kn, key)) by
            rw [Nat.mul_comm]
            exact hok.splice (by omega) hkl)
          have HOK := Lib.hid (hok.put i (p := (kn, key)) hkl hkb (by simp only; omega))
          have HSZ := Lib.hid (show (Tryd.prog.info? 137).map (·.size) = some (row (kn, key)).toArray.size by rw [row_size hkl]; exact place_info)
          have HFT := Lib.hid (show i * 33 + (row (kn, key)).toArray.size ≤ (slC s).length by rw [row_size hkl, hok.size]; omega)
          have HSK := Lib.hid (show (Tryd.prog.info? 23).map (·.size) = some (b8 key).size by rw [b8_size, hkl]; exact dig_info)
          have HPB := Lib.hid (place_built kn key hkl)
          clear hE hdd hp h1 h2 hw hkd HE HL hok hkr hlk hkl hkb
          rcases hb33 with hl | ⟨hl, hkb1⟩
          all_goals
            rw [hl] at hcl
            clear hl
            go_enter Tryd.func35, Tryd.ntmps35
            go_upto_region 1 with fail
            change Code.wp _ _ _ _ (w.alloc (.cells (b8 key) 23))
            rw [← HW1.out]
            go_upto_region 2 with (go_at_call 81; change Calls _ _ _ (W1.alloc (.cells #[.int .i64 (i : Int)] 3)) _; rw [← HW2.out]; (with_reducible refine HM.out.mono ?_); rintro e w2 ⟨rfl, rfl⟩)
            go_wp2_with fail
            refine Rel.wp_region_rel 8 [(48, .const (.pointer (some ⟨g, 0, none⟩)))] (by kernel_rfl) (by kernel_rfl) ?_
            simp only [List.take_succ_cons, List.take_zero, List.drop_succ_cons, List.drop_zero, Act.put, List.setIfInBounds_toArray, List.set_cons_zero, List.set_cons_succ]
            repeat (refine Rel.tree_quiet rfl rfl rfl (fun K hK => ?_); go_big_quiet_op; refine hK _ ?_; clear hK K)
            refine Rel.tree_pure rfl rfl rfl (.agg (b8 key)) (fun W hW _ => Rel.exec_load _ _ rfl w.heap.size 0 rfl _ _ (Blk.range (hW.blk HK2.out.drew)) Tryd.underlying23 rfl HSK.out) ?_
            simp only [Act.put, List.setIfInBounds_toArray, List.set_cons_zero, List.set_cons_succ]
            refine Rel.tree_pure rfl rfl rfl (.agg (row (kn, key)).toArray) (fun W hW _ => Rel.exec_build _ _ rfl _ HPB.out) ?_
            simp only [Act.put, List.setIfInBounds_toArray, List.set_cons_zero, List.set_cons_succ]
            refine Rel.tree_const rfl (.pointer (some ⟨g, 0, none⟩)) rfl (fun W hW _ => ?_) ?_
            · unfold Rel.relAt; go_simp; exact ⟨Rel.Grow.refl _, rfl⟩
            simp only [Act.put, List.setIfInBounds_toArray, List.set_cons_zero, List.set_cons_succ]
            repeat (refine Rel.tree_quiet rfl rfl rfl (fun K hK => ?_); go_big_quiet_op; refine hK _ ?_; clear hK K)
            intro W hW _
            have KS := Lib.hid (hW.blk HS2.out.blk.drew)
            have HBW := Lib.hid (below_then HB2.out hW.undrew (Nat.le_refl _))
            clear hW
            go_wp2_with (refine wpList_store_frm rfl 137 (.tmp 50) (.tmp 47) rfl g (i * 33) (row (kn, key)).toArray rfl rfl 140 (slC s) KS.out HFT.out HSZ.out (all_oneCell_toArray (row_one _)) ?_; intro w7 K7 F7)
            rw [HSP.out] at K7
            go_light
            go_ret
            exact ⟨rfl, ⟨HOK.out, K7⟩, (Frm.of_below HBW.out).trans' F7 (fun x hx _ => hx)⟩
        · have HE := Lib.hid (show layE s (i : Int) kind = 13 by rw [layE, hE, if_neg (by decide), if_neg hkr, if_neg hlk, hkd, if_pos hkk])
          have HL := Lib.hid (show laySt s (i : Int) kind key = s by rw [laySt, HE.out]; rfl)
          rw [HE.out, HL.out]
          have hne : (((p.1 : Nat) : Int) != 0) = true := by rw [bne_iff_ne]; omega
          clear hE hdd hp h1 h2 hw hkd HE HL hok hkr hlk
          rcases hb33 with hl | ⟨hl, hkb1⟩
          all_goals
            rw [hl] at hcl
            clear hl
            go_enter Tryd.func35, Tryd.ntmps35
            go_upto_region 1 with fail
            change Code.wp _ _ _ _ (w.alloc (.cells (b8 key) 23))
            rw [← HW1.out]
            go_upto_region 2 with (go_at_call 81; change Calls _ _ _ (W1.alloc (.cells #[.int .i64 (i : Int)] 3)) _; rw [← HW2.out]; (with_reducible refine HM.out.mono ?_); rintro e w2 ⟨rfl, rfl⟩)
            go_wp2_with fail
            go_light
            go_ret
            exact ⟨rfl, HS2.out, HEND.out⟩
  · have HE := Lib.hid (show layE s h kind = E by rw [layE, hE, if_pos h0])
    have HL := Lib.hid (show laySt s h kind key = s by rw [laySt, HE.out, if_neg h0])
    have hne : (((E : Nat) : Int) != 0) = true := by rw [bne_iff_ne]; omega
    rw [HE.out, HL.out]
    clear hE hw HE HL hok
    go_enter Tryd.func35, Tryd.ntmps35
    go_upto_region 1 with fail
    change Code.wp _ _ _ _ (w.alloc (.cells (b8 key) 23))
    rw [← HW1.out]
    go_upto_region 2 with (go_at_call 81; change Calls _ _ _ (W1.alloc (.cells #[.int .i64 h] 3)) _; rw [← HW2.out]; (with_reducible refine HM.out.mono ?_); rintro e w2 ⟨rfl, rfl⟩)
    go_wp2_with fail
    go_light
    go_ret
    exact ⟨rfl, HS2.out, HEND.out⟩
set_option maxHeartbeats 1000000 in
theorem lay_nil (h kind : Int) (key : List Nat) (w : World) : Calls Tryd.prog 35 #[.pointer none, .int .i64 h, .int .i64 kind, .agg (b8 key)] w (IntBelow w 3) := by
  have HB := Lib.hid (((Below.refl _ w).alloc (Nat.le_refl _) (.cells (b8 key) 23)).alloc (by simp) (.cells #[.int .i64 h] 3))
  go_enter Tryd.func35, Tryd.ntmps35
  go_wp2_with fail
  (with_reducible refine (may_nil _ _ _ _).mono ?_); rintro e w2 ⟨rfl, rfl⟩
  go_wp2_with fail
  go_light
  go_ret
  exact ⟨rfl, HB.out⟩
end Slot
end Go.Proofs.YtpakdcgcgekcfaaDoor

/-
  append(s, make([]T, n)...): noughts behind a row of the call's own. No program in sight.
-/
set_option linter.unusedSimpArgs false
set_option linter.unusedVariables false
namespace Go.Proofs.YtpakdcgcgekcfaaDoor
open Go.RowKit

theorem zeroCells_one (z : Value) (m : Nat) : Builtin.zeroCells #[z] m = (List.replicate m z).toArray := by
  apply Array.ext_getElem?
  intro j
  simp only [Builtin.zeroCells]
  by_cases h : j < m
  · simp [h, Nat.mod_one]
  · rw [Array.getElem?_eq_none (by simp; omega), Array.getElem?_eq_none (by simp; omega)]
set_option maxHeartbeats 1000000 in
theorem run_append_zeros {P : Program} (w : World) (base : Nat) (t u ty e : TypeId) (i : TypeInfo) (z : Value) (ku kx : IntKind) (bytes : Nat) (ht : P.underlying t = some (.slice e)) (hu : P.underlying u = some (.int ku)) (hi : P.info? e = some i) (hz : i.zero = some z)
    (hsize : i.size = 1) (hby : i.bytes = bytes) (hzc : z.cells = #[z]) (hz1 : z.oneCell' = true) (v : Value) (n : Nat) (xs : List Value) (hown : w.ownsRow base e 1 v n xs) (hn : 0 < n) (x : Int) (m : Nat) (hx : x = m) (hm : m ≤ 1000000)
    (h63 : n + m ≤ maxLen) (hbytes : (n + m) * bytes ≤ 140737488355328) (hbase : base ≤ w.heap.size) :
    ∃ v' w', (Builtin.append_ #[t, u] ty #[v, .int kx x]).run P w = .ok v' w' ∧ w'.ownsRow base e 1 v' (n + m) (xs ++ List.replicate m z) ∧ w.grownBy w' v.ownBlock ∧ (v'.ownBlock = v.ownBlock ∨ v'.ownBlock = some w.heap.size) := by
  subst hby
  subst hx
  have hwr : IntKind.i64.wrap (m : Int) = (m : Int) := IntWalk.i64_in _ (by omega)
  have h63' : n + m ≤ 9223372036854775807 := by simp only [maxLen] at h63; omega
  have hl48 : ¬ (2 ^ 48 < (m : Int) * (i.bytes : Int)) := by
    have h : ((m * i.bytes : Nat) : Int) ≤ 140737488355328 := by
      have : m * i.bytes ≤ (n + m) * i.bytes := Nat.mul_le_mul_right _ (by omega)
      omega
    rw [Int.natCast_mul] at h
    omega
  have hl48' : ¬ (281474976710656 < (m : Int) * (i.bytes : Int)) := by simpa using hl48
  have hm0 : ¬ ((m : Int) < 0) := by omega
  rcases hown.2 with ⟨rfl, rfl⟩ | ⟨g, cap, cur, rfl, hbg, hg, hnc, hcm, hcs, htake⟩
  · omega
  · have hap : ((if m * i.size = 0 then pure #[] else do pure (Builtin.zeroCells (← zeroValue e).cells m)) : Sem (Array Value)).run P w = .ok (List.replicate m z).toArray w := by
      by_cases h : m = 0
      · subst h; simp
      · simp [hsize, h, zeroValue, typeInfo, hi, hz, hzc, zeroCells_one]
    have hap' : ((if m * i.size = 0 then pure #[] else do pure (Builtin.zeroCells (← zeroValue e).cells m)) : Sem (Array Value)).run P w.drew = .ok (List.replicate m z).toArray w.drew := by
      by_cases h : m = 0
      · subst h; simp
      · simp [hsize, h, zeroValue, typeInfo, hi, hz, hzc, zeroCells_one]
    by_cases hroom : n + m ≤ cap
    · have hst := run_storeCells_at P g n e (List.replicate m z) 0 cur w hg (by simp; omega) (fun v hv => by obtain ⟨_, rfl⟩ := List.mem_replicate.1 hv; exact hz1)
      simp only [Nat.add_zero, List.length_replicate] at hst
      refine ⟨.slice (some ⟨g, 0, none⟩) (n + m) cap, w.setRow g (cur.toList.take n ++ List.replicate m z ++ cur.toList.drop (n + m)).toArray, ?_, ⟨by simp [hown.1], .inr ⟨g, cap, _, rfl, hbg, setRow_heap w g cur _ e _ hg, hroom, hcm, ?_, ?_⟩⟩, ⟨rfl, rfl, rfl, by simp, fun k _ hk => setRow_other w g k _ (fun e => hk (by simp [Value.ownBlock, e]))⟩, .inl rfl⟩
      · by_cases h : m = 0
        · subst h
          simp only [List.replicate_zero] at hst
          have hw0 : IntKind.i64.wrap 0 = 0 := by decide
          simp [Builtin.append_, run_underlying ht, run_underlying hu, sizeOf, typeInfo, hi, asInt, asIntOf, hw0, hsize, hnc, Addr.add_lit, hst]
        · simp [Builtin.append_, run_underlying ht, run_underlying hu, sizeOf, typeInfo, zeroValue, hi, hz, asInt, asIntOf, hwr, hm0, hl48', hsize, h, hroom, hzc, zeroCells_one, Addr.add_lit, hst]
      · simp
        omega
      · have hxl : xs.length = n := by have := hown.1; omega
        simp only [Nat.mul_one] at htake ⊢
        rw [List.toList_toArray, htake]
        rw [List.take_append_of_le_length (by simp; omega), List.take_of_length_le (by simp; omega)]
    · have hh : ∀ j u, xs[j]? = some u → w.cell? ((⟨g, 0, none⟩ : Addr).add j) = some u := hown.cells (g := g) rfl
      have hfo := run_firstCells_some (P := P) w.drew 1 n ⟨g, 0, none⟩ n cap xs (by have := hown.1; omega) (by simpa using hh)
      have hfit := growslice_fits (old := cap) (bytes := i.bytes) (need := n + m) (by omega) hbytes
      have h48' : ¬ (281474976710656 < Builtin.nextslicecap (n + m) cap * i.bytes) := by omega
      have h63'' : ¬ (9223372036854775807 < ((n : Int) + (m : Int))) := by omega
      have hm1 : m ≠ 0 := by omega
      have hge := grownCap_ge w (n + m) cap e
      have hcm2 : grownCap w (n + m) cap e ≤ maxLen := grownCap_le_maxLen w (n + m) cap e h63
      refine ⟨.slice (some ⟨w.heap.size, 0, none⟩) (n + m) (grownCap w (n + m) cap e), w.drew.alloc (.cells (xs.toArray ++ (List.replicate m z).toArray ++ Builtin.zeroCells z.cells (grownCap w (n + m) cap e - (n + m))) e), ?_, ⟨by simp [hown.1], .inr ⟨w.heap.size, _, _, rfl, hbase, heap_alloc_new w.drew _, hge, hcm2, ?_, ?_⟩⟩, ⟨rfl, rfl, rfl, by simp, fun k hk _ => Below.heap_alloc w.drew _ k hk⟩, .inr rfl⟩
      · simp [Builtin.append_, run_underlying ht, run_underlying hu, sizeOf, typeInfo, zeroValue, hi, hz, asInt, asIntOf, hwr, hm0, hl48', hsize, hroom, h63'', h48', hm1, Question.forced, hfo, newRow, grownCap, hzc, zeroCells_one]
      · simp only [Array.size_append, List.size_toArray, size_zeroCells, hown.1, List.length_replicate, hzc]
        simp
        omega
      · have hxl : xs.length = n := by have := hown.1; omega
        simp only [Array.toList_append, Nat.mul_one]
        rw [List.take_append_of_le_length (by simp; omega), List.take_of_length_le (by simp; omega)]
theorem wpList_append_zeros {P : Program} {w : World} {ops : Array Oper} {rest : List Oper} {o : Oper} {a : Act} {Q : Exit → Act → World → Prop} (hgd : o.guard = none) (s x : Operand) (t u : TypeId)
    (ho : o.op = .call { callee := .builtin .append, args := #[s, x], argTypes := #[t, u] })
    (base : Nat) (e : TypeId) (i : TypeInfo) (z : Value) (ku kx : IntKind) (bytes : Nat) (ht : P.underlying t = some (.slice e)) (hu : P.underlying u = some (.int ku)) (hi : P.info? e = some i) (hz : i.zero = some z)
    (hsize : i.size = 1) (hby : i.bytes = bytes) (hzc : z.cells = #[z]) (hz1 : z.oneCell' = true) (v : Value) (n : Nat) (xs : List Value) (hs : a.eval s = v) (hown : w.ownsRow base e 1 v n xs) (hn : 0 < n) (xi : Int) (m : Nat) (hxe : a.eval x = .int kx xi) (hx : xi = m) (hm : m ≤ 1000000)
    (h63 : n + m ≤ maxLen) (hbytes : (n + m) * bytes ≤ 140737488355328) (hbase : base ≤ w.heap.size)
    (h : ∀ v' w', w'.ownsRow base e 1 v' (n + m) (xs ++ List.replicate m z) → w.grownBy w' v.ownBlock → (v'.ownBlock = v.ownBlock ∨ v'.ownBlock = some w.heap.size) → wpList P ops Q rest (a.put o.dst v') w') : wpList P ops Q (o :: rest) a w := by
  obtain ⟨v', w', hr, h2, h3, h4⟩ := run_append_zeros (P := P) w base t u o.type e i z ku kx bytes ht hu hi hz hsize hby hzc hz1 v n xs hown hn xi m hx hm h63 hbytes hbase
  refine wpList_plain hgd fun K hK => ?_
  unfold Oper.wp execOp
  simp only [ho, resolve, invoke, builtin, Sem.run_bind, Sem.run_pure, Result.andThen_ok, List.map_toArray, List.map_cons, List.map_nil, hs, hxe, hr]
  exact hK _ _ (h v' w' h2 h3 h4)
end Go.Proofs.YtpakdcgcgekcfaaDoor

/-
  An array stored into a new block.
-/
set_option linter.unusedSimpArgs false
set_option linter.unusedVariables false
namespace Go.Proofs.YtpakdcgcgekcfaaDoor
open Go.RowKit

namespace Otp
/-- An array stored into a new block. -/
theorem wpList_new_row {P : Program} {ops : Array Oper} {rest : List Oper} {o : Oper} {a : Act} {w : World} {Q : Exit → Act → World → Prop} (hgd : o.guard = none) (ty : TypeId) (x y : Operand) (ho : o.op = .store ty x y)
    (g : Nat) (cells : Array Value) (hx : a.eval x = .pointer (some ⟨g, 0, none⟩)) (hy : a.eval y = .agg cells)
    (t : TypeId) (old : Array Value) (hg : Blk w g t old) (hi : (P.info? ty).map (·.size) = some cells.size)
    (hold : old.size = cells.size) (h1 : cells.all (·.oneCell') = true) (B : Nat) (w0 : World) (hb : Below B w0 w) (hBg : B ≤ g)
    (h : ∀ w', Hid (Blk w' g t cells) → Hid (Below B w0 w') → wpList P ops Q rest (a.put o.dst undef) w') : wpList P ops Q (o :: rest) a w :=
  wpList_store_row hgd ty x y ho g cells hx hy t old hg hi hold h1 (h _ (Lib.hid (setRow_heap _ _ _ cells _ _ hg)) (Lib.hid (below_setRow hb hBg cells)))
/-- An array stored into a block. -/
theorem wpList_set_row {P : Program} {ops : Array Oper} {rest : List Oper} {o : Oper} {a : Act} {w : World} {Q : Exit → Act → World → Prop} (hgd : o.guard = none) (ty : TypeId) (x y : Operand) (ho : o.op = .store ty x y)
    (g : Nat) (cells : Array Value) (hx : a.eval x = .pointer (some ⟨g, 0, none⟩)) (hy : a.eval y = .agg cells)
    (t : TypeId) (old : Array Value) (hg : Blk w g t old) (hi : (P.info? ty).map (·.size) = some cells.size)
    (hold : old.size = cells.size) (h1 : cells.all (·.oneCell') = true)
    (h : ∀ w', Hid (Blk w' g t cells) → Hid (Frm [g] w w') → wpList P ops Q rest (a.put o.dst undef) w') : wpList P ops Q (o :: rest) a w :=
  wpList_store_row hgd ty x y ho g cells hx hy t old hg hi hold h1 (h _ (Lib.hid (setRow_heap _ _ _ cells _ _ hg)) (Lib.hid (frm_setRow w cells)))
end Otp
end Go.Proofs.YtpakdcgcgekcfaaDoor

/-
  Package sha: spread.
-/
set_option linter.unusedSimpArgs false
set_option linter.unusedVariables false
namespace Go.Proofs.YtpakdcgcgekcfaaDoor
open Go.RowKit

namespace Sha
open Otp R1
theorem sched_info : (Tryd.prog.info? 44).map (·.size) = some 64 := by kernel_rfl
theorem c32_one (l : List Nat) : (c32 l).all (·.oneCell') = true := all_oneCell_toArray (fun v hv => by
  obtain ⟨a, _, rfl⟩ := List.mem_map.1 hv
  rfl)
theorem c32_size (l : List Nat) : (c32 l).size = l.length := by simp [c32]
theorem rot_to (k x : Int) (n y r : Nat) (w : World) (hk : k = -(n : Int)) (hx : x = y) (hy : y < 4294967296) (h0 : 0 < n) (h1 : n < 32) (hr : rotr y n = r) :
    Calls Tryd.prog 111 #[.int .u32 x, .int .i64 k] w fun e w' => e = .returned (.int .u32 (r : Int)) ∧ w = w' := by
  subst hr
  exact rot_any k x n y w hk hx hy h0 h1
set_option maxRecDepth 100000 in
set_option maxHeartbeats 4000000 in
theorem spread_any (bs : List Nat) (w : World) (hl : bs.length = 64) (hb : ∀ x ∈ bs, x < 256) :
    Calls Tryd.prog 138 #[.agg (b8 bs)] w (fun e w' => e = .returned (.agg (c32 (sched bs))) ∧ Below w.heap.size w w') := by
  have HL := Lib.hid hl
  have HBB := Lib.hid hb
  have HWL := Lib.hid (show (words4 bs).length = 16 by rw [words4_length, hl])
  obtain ⟨res, hres⟩ : ∃ r, sched bs = r := ⟨_, rfl⟩
  rw [hres]
  have HE0 := wall hres
  clear hl hb hres
  go_enter Tryd.func138, Tryd.ntmps138
  go_wp2_with fail
  go_loopg [4, 10] 16 (fun g s4 s10 wr => ∃ i : Nat, i + g = 16 ∧ s10 = .int .i64 (i : Int) ∧ Hid (Blk wr w.heap.size 173 (b8 bs)) ∧ Hid (Blk wr (w.heap.size + 1) 44 (c32 (List.replicate 64 0))) ∧ Hid (Blk wr (w.heap.size + 1 + 1) 44 (c32 ((words4 bs).take i ++ List.replicate (64 - i) 0))) ∧ Hid (Below w.heap.size w wr))
  case atStart =>
    refine ⟨0, by omega, rfl, Lib.hid ?_, Lib.hid ?_, Lib.hid ?_, Lib.hid ?_⟩
    · exact ((Blk.new w _ _).alloc _).alloc _
    · exact Blk.alloc (blk_new' (by simp)) _
    · exact blk_new' (by simp)
    · exact (((Below.refl _ w).alloc (Nat.le_refl _) _).alloc (by simp) _).alloc (by simp; omega) _
  case round =>
    obtain ⟨i, hg, rfl, HK, HZ, HW, HB⟩ := hrel
    have HG := Lib.hid hg
    have hi : i ≤ 16 := by omega
    clear hg
    by_cases hlt : i < 16
    · have hx : ∀ j, j < 4 → ∃ x, bs[4 * i + j]? = some x := fun j hj => ⟨_, List.getElem?_eq_getElem (by have := HL.out; omega)⟩
      obtain ⟨x0, h0⟩ := hx 0 (by omega)
      obtain ⟨x1, h1⟩ := hx 1 (by omega)
      obtain ⟨x2, h2⟩ := hx 2 (by omega)
      obtain ⟨x3, h3⟩ := hx 3 (by omega)
      have G0 := Lib.hid (show wr.cell? ⟨w.heap.size, 4 * i, none⟩ = some (.int .u8 (x0 : Int)) by rw [HK.out.cell]; exact b8_at h0)
      have G1 := Lib.hid (show wr.cell? ⟨w.heap.size, 4 * i + 1, none⟩ = some (.int .u8 (x1 : Int)) by rw [HK.out.cell]; exact b8_at h1)
      have G2 := Lib.hid (show wr.cell? ⟨w.heap.size, 4 * i + 2, none⟩ = some (.int .u8 (x2 : Int)) by rw [HK.out.cell]; exact b8_at h2)
      have G3 := Lib.hid (show wr.cell? ⟨w.heap.size, 4 * i + 3, none⟩ = some (.int .u8 (x3 : Int)) by rw [HK.out.cell]; exact b8_at h3)
      have b0 := HBB.out x0 (List.mem_of_getElem? h0)
      have b1 := HBB.out x1 (List.mem_of_getElem? h1)
      have b2 := HBB.out x2 (List.mem_of_getElem? h2)
      have b3 := HBB.out x3 (List.mem_of_getElem? h3)
      have hwx := words4_get bs i x0 x1 x2 x3 h0 h1 h2 h3
      have HX := Lib.hid (show ((words4 bs).take i ++ List.replicate (64 - i) 0).set i (be4 x0 x1 x2 x3) = (words4 bs).take (i + 1) ++ List.replicate (64 - (i + 1)) 0 by
        rw [take_snoc hwx, List.set_append_right _ _ (by rw [List.length_take]; omega), List.length_take, Nat.min_eq_left (by have := HWL.out; omega), show i - i = 0 by omega, show 64 - i = 64 - (i + 1) + 1 by omega, List.replicate_succ, List.set_cons_zero, List.append_assoc]
        rfl)
      have hfr : wr.frozen? ⟨w.heap.size + 1 + 1, i, none⟩ = false := HW.out.frozen i
      have hold : ∃ v, wr.cell? ⟨w.heap.size + 1 + 1, i, none⟩ = some v := by
        rw [HW.out.cell]
        refine ⟨_, Array.getElem?_eq_getElem (i := i) ?_⟩
        rw [c32_size, List.length_append, List.length_replicate, List.length_take]
        have := HWL.out
        omega
      obtain ⟨old, hold⟩ := hold
      have hsz := HW.out.lt
      have hsl := run_slice_arr (P := Tryd.prog) 173 5 64 Tryd.underlying173 (fun _ => by kernel_rfl) w.heap.size (4 * i) (4 * i + 4) .i64 .i64 (4 * (i : Int)) (4 * (i : Int) + 4) (by omega) (by omega) (by omega) (by omega) (by omega)
      rw [show 4 * i + 4 - 4 * i = 4 by omega] at hsl
      clear hx h0 h1 h2 h3 hwx
      go_wp2_with fail
      (with_reducible refine (word_any _ _ _ x0 x1 x2 x3 _ b0 b1 b2 b3 G0.out G1.out G2.out G3.out).mono ?_); rintro e w2 ⟨rfl, n, rfl⟩
      generalize be4 x0 x1 x2 x3 = y at *
      go_wp2_with fail
      go_light
      go_roundg (16 - (i + 1))
      case measure => have := HG.out; omega
      case rel =>
        refine ⟨i + 1, by have := HG.out; omega, by go_num, Lib.hid ?_, Lib.hid ?_, Lib.hid ?_, Lib.hid ?_⟩
        · exact (HK.out.far' _ _ (by omega) _)
        · exact (HZ.out.far' _ _ (by omega) _)
        · have := HW.out.set i (.int .u32 (y : Int))
          rw [c32_set, HX.out] at this
          exact this
        · exact Below.drewN (HB.out.setCell (p := ⟨w.heap.size + 1 + 1, i, none⟩) (by show w.heap.size ≤ w.heap.size + 1 + 1; omega) _) n
    · have : i = 16 := by omega
      subst this
      have HW0 : Hid (Blk wr (w.heap.size + 1 + 1) 44 (c32 (sc (words4 bs) 0 ++ List.replicate (48 - 0) 0))) := by
        have := HW.out
        rw [List.take_of_length_le (by have := HWL.out; omega)] at this
        exact Lib.hid this
      have HWB := Lib.hid (words4_lt bs HBB.out)
      clear HW HL HBB
      have HE := wall (HE0.out.symm.trans (sched_eq bs))
      clear HE0
      generalize words4 bs = ws at *
      obtain ⟨gO, rfl⟩ : ∃ q : Nat, q = gk := ⟨_, rfl⟩
      obtain ⟨wO, rfl⟩ : ∃ q : World, q = wr := ⟨_, rfl⟩
      go_wp2_with fail
      go_loopg [5, 6, 7, 8, 9] 48 (fun g s5 s6 s7 s8 s9 wr => ∃ k : Nat, k + g = 48 ∧ s5 = .int .i64 ((16 + k : Nat) : Int) ∧ Hid (Blk wr (w.heap.size + 1) 44 (c32 (List.replicate 64 0))) ∧ Hid (Blk wr (w.heap.size + 1 + 1) 44 (c32 (sc ws k ++ List.replicate (48 - k) 0))) ∧ Hid (Below w.heap.size w wr))
      case atStart => exact ⟨0, by omega, rfl, HZ, HW0, HB⟩
      case round =>
        clear HZ HW0 HB HK
        obtain ⟨k, hg, rfl, HZ, HW, HB⟩ := hrel
        have HG := Lib.hid hg
        have hk : k ≤ 48 := by omega
        clear hg
        have hln : (sc ws k).length = 16 + k := by rw [sc_length, HWL.out]
        by_cases hlt : k < 48
        · have hx : ∀ j, j < 16 → ∃ x, (sc ws k)[k + j]? = some x ∧ x < 4294967296 ∧ wr.cell? ⟨w.heap.size + 1 + 1, k + j, none⟩ = some (.int .u32 (x : Int)) := fun j hj => by
            obtain ⟨x, hx⟩ : ∃ x, (sc ws k)[k + j]? = some x := ⟨_, List.getElem?_eq_getElem (by omega)⟩
            refine ⟨x, hx, sc_word ws HWB.out k x (List.mem_of_getElem? hx), ?_⟩
            rw [HW.out.cell]
            exact c32_at (by rw [List.getElem?_append_left (by omega)]; exact hx)
          obtain ⟨a, ha, haM, hca⟩ := hx 0 (by omega)
          obtain ⟨b, hb, hbM, hcb⟩ := hx 1 (by omega)
          obtain ⟨c, hc, hcM, hcc⟩ := hx 9 (by omega)
          obtain ⟨d, hd, hdM, hcd⟩ := hx 14 (by omega)
          have ha' : (sc ws k)[k]? = some a := ha
          have hca' : wr.cell? ⟨w.heap.size + 1 + 1, k, none⟩ = some (.int .u32 (a : Int)) := hca
          have HN := Lib.hid (sc_next ha' hb hc hd)
          have hset : (sc ws k ++ List.replicate (48 - k) 0).set (16 + k) (nxt a b c d) = sc ws (k + 1) ++ List.replicate (48 - (k + 1)) 0 := by
            rw [HN.out, List.set_append_right _ _ (by omega), hln, show 16 + k - (16 + k) = 0 by omega, show 48 - k = 48 - (k + 1) + 1 by omega, List.replicate_succ, List.set_cons_zero, List.append_assoc]
            rfl
          have HSET := Lib.hid hset
          obtain ⟨old, hold⟩ : ∃ v, wr.cell? ⟨w.heap.size + 1 + 1, 16 + k, none⟩ = some v := by
            rw [HW.out.cell]
            refine ⟨_, Array.getElem?_eq_getElem (i := 16 + k) ?_⟩
            rw [c32_size, List.length_append, List.length_replicate, hln]
            omega
          have hfr : wr.frozen? ⟨w.heap.size + 1 + 1, 16 + k, none⟩ = false := HW.out.frozen _
          have hsz := HW.out.lt
          clear hx ha ha' hca hb hc hd hset hln
          obtain ⟨r7, h7⟩ : ∃ r, rotr b 7 = r := ⟨_, rfl⟩
          obtain ⟨r18, h18⟩ : ∃ r, rotr b 18 = r := ⟨_, rfl⟩
          obtain ⟨r17, h17⟩ : ∃ r, rotr d 17 = r := ⟨_, rfl⟩
          obtain ⟨r19, h19⟩ : ∃ r, rotr d 19 = r := ⟨_, rfl⟩
          have l7 : r7 < 4294967296 := by rw [← h7]; exact rotr_lt hbM (by decide)
          have l18 : r18 < 4294967296 := by rw [← h18]; exact rotr_lt hbM (by decide)
          have l17 : r17 < 4294967296 := by rw [← h17]; exact rotr_lt hdM (by decide)
          have l19 : r19 < 4294967296 := by rw [← h19]; exact rotr_lt hdM (by decide)
          obtain ⟨q0, hq0⟩ : ∃ q, r7 ^^^ r18 = q := ⟨_, rfl⟩
          obtain ⟨q1, hq1⟩ : ∃ q, r17 ^^^ r19 = q := ⟨_, rfl⟩
          have lq0 : q0 < 4294967296 := by rw [← hq0]; exact xor_lt l7 l18
          have lq1 : q1 < 4294967296 := by rw [← hq1]; exact xor_lt l17 l19
          obtain ⟨u0, hu0⟩ : ∃ q, s0 b = q := ⟨_, rfl⟩
          obtain ⟨u1, hu1⟩ : ∃ q, s1 d = q := ⟨_, rfl⟩
          have lu0 : u0 < 4294967296 := by rw [← hu0]; unfold s0; exact xor_lt (xor_lt (rotr_lt hbM (by decide)) (rotr_lt hbM (by decide))) (Nat.lt_of_le_of_lt (Nat.div_le_self _ _) hbM)
          have lu1 : u1 < 4294967296 := by rw [← hu1]; unfold s1; exact xor_lt (xor_lt (rotr_lt hdM (by decide)) (rotr_lt hdM (by decide))) (Nat.lt_of_le_of_lt (Nat.div_le_self _ _) hdM)
          have x0 : bits .xor .u32 (r7 : Int) (r18 : Int) = (q0 : Int) := by rw [u32_xor_nat _ _ l7 l18, hq0]
          have x1 : bits .xor .u32 (r17 : Int) (r19 : Int) = (q1 : Int) := by rw [u32_xor_nat _ _ l17 l19, hq1]
          have y0 : bits .xor .u32 (q0 : Int) ((b : Int) / 8) = (u0 : Int) := by
            rw [show (b : Int) / 8 = ((b / 2 ^ 3 : Nat) : Int) by simp, u32_xor_nat _ _ lq0 (Nat.lt_of_le_of_lt (Nat.div_le_self _ _) hbM), ← hq0, ← h7, ← h18, ← hu0]
            rfl
          have y1 : bits .xor .u32 (q1 : Int) ((d : Int) / 1024) = (u1 : Int) := by
            rw [show (d : Int) / 1024 = ((d / 2 ^ 10 : Nat) : Int) by simp, u32_xor_nat _ _ lq1 (Nat.lt_of_le_of_lt (Nat.div_le_self _ _) hdM), ← hq1, ← h17, ← h19, ← hu1]
            rfl
          obtain ⟨y, hy⟩ : ∃ q, nxt a b c d = q := ⟨_, rfl⟩
          have z0 : ((a : Int) + (u0 : Int) + (c : Int) + (u1 : Int)) % 4294967296 = (y : Int) := by
            rw [← hy, ← hu0, ← hu1]
            unfold nxt
            simp
          rw [hy] at HSET
          have H7 := Lib.hid h7
          have H18 := Lib.hid h18
          have H17 := Lib.hid h17
          have H19 := Lib.hid h19
          clear h7 h18 h17 h19 hq0 hq1 hu0 hu1 hy HN
          have i15 : IntKind.i64.wrap (16 + (k : Int) - 15) = (k : Int) + 1 := by rw [IntWalk.i64_in _ (by omega)]; omega
          have i2 : IntKind.i64.wrap (16 + (k : Int) - 2) = (k : Int) + 14 := by rw [IntWalk.i64_in _ (by omega)]; omega
          have i16 : IntKind.i64.wrap (16 + (k : Int) - 16) = (k : Int) := by rw [IntWalk.i64_in _ (by omega)]; omega
          have i7 : IntKind.i64.wrap (16 + (k : Int) - 7) = (k : Int) + 9 := by rw [IntWalk.i64_in _ (by omega)]; omega
          go_wp2_with fail
          go_quiet (fail)
          have qa : (wr.drewN nq).cell? ⟨w.heap.size + 1 + 1, k, none⟩ = some (.int .u32 (a : Int)) := hca'
          have qc : (wr.drewN nq).cell? ⟨w.heap.size + 1 + 1, k + 9, none⟩ = some (.int .u32 (c : Int)) := hcc
          have qo : (wr.drewN nq).cell? ⟨w.heap.size + 1 + 1, 16 + k, none⟩ = some old := hold
          have qf : (wr.drewN nq).frozen? ⟨w.heap.size + 1 + 1, 16 + k, none⟩ = false := hfr
          have QZ := Lib.hid (HZ.out.drewN nq)
          have QW := Lib.hid (HW.out.drewN nq)
          have QB := Lib.hid (Below.drewN HB.out nq)
          generalize wr.drewN nq = wq at *
          clear hca' hcb hcc hcd hold hfr HZ HW HB hsz
          go_wp2_with fail
          (with_reducible refine (rot_to (-7) _ 7 b r7 _ (by decide) rfl hbM (by omega) (by omega) H7.out).mono ?_); rintro e w2 ⟨rfl, rfl⟩
          go_wp2_with fail
          (with_reducible refine (rot_to (-18) _ 18 b r18 _ (by decide) rfl hbM (by omega) (by omega) H18.out).mono ?_); rintro e w2 ⟨rfl, rfl⟩
          go_wp2_with fail
          (with_reducible refine (rot_to (-17) _ 17 d r17 _ (by decide) rfl hdM (by omega) (by omega) H17.out).mono ?_); rintro e w2 ⟨rfl, rfl⟩
          go_wp2_with fail
          (with_reducible refine (rot_to (-19) _ 19 d r19 _ (by decide) rfl hdM (by omega) (by omega) H19.out).mono ?_); rintro e w2 ⟨rfl, rfl⟩
          go_wp2_with fail
          have b64 : (k : Int) < 64 := by omega
          have b9 : (k : Int) + 9 < 64 := by omega
          have b16 : (16 : Int) + (k : Int) < 64 := by omega
          have hk64 : k < 64 := by omega
          have n9 : (0 : Int) ≤ (k : Int) + 9 := by omega
          have t9 : ((k : Int) + 9).toNat = k + 9 := by omega
          have n16 : (0 : Int) ≤ 16 + (k : Int) := by omega
          have t16 : (16 + (k : Int)).toNat = 16 + k := by omega
          go_still_tail 15, (by kernel_rfl)
          change wpList _ _ _ _ _ wq.drew
          go_wp2_with fail
          go_light
          go_roundg (48 - (k + 1))
          case measure => have := HG.out; omega
          case rel =>
            refine ⟨k + 1, by have := HG.out; omega, by go_num, Lib.hid ?_, Lib.hid ?_, Lib.hid ?_⟩
            · exact (QZ.out.far' _ _ (by omega) _)
            · have := QW.out.set (16 + k) (.int .u32 (y : Int))
              rw [c32_set, HSET.out] at this
              exact this
            · exact Below.drewN (QB.out.setCell (p := ⟨w.heap.size + 1 + 1, 16 + k, none⟩) (by show w.heap.size ≤ w.heap.size + 1 + 1; omega) _) 1
        · have hk48 : k = 48 := by omega
          have hln2 : res.length = 64 := by rw [HE.out, ← hk48, hln, hk48]
          have hnl : ¬ (16 + (k : Int) < 64) := by omega
          have HW8 : Hid (Blk wr (w.heap.size + 1 + 1) 44 (c32 res)) := by
            have := HW.out
            rw [hk48, show 48 - 48 = 0 from rfl, List.replicate_zero, List.append_nil, ← HE.out] at this
            exact Lib.hid this
          have HS := Lib.hid (show (Tryd.prog.info? 44).map (·.size) = some (c32 res).size by rw [c32_size, hln2]; exact sched_info)
          have HZS := Lib.hid (show (c32 (List.replicate 64 0)).size = (c32 res).size by rw [c32_size, c32_size, hln2]; rfl)
          have HO := Lib.hid (c32_one res)
          clear HW hln hln2 hk48
          go_upto_region 14 with fail
          go_wp2_with (first | refine wpList_load_row rfl 44 _ rfl (w.heap.size + 1 + 1) rfl 44 (c32 res) (0, 0) _ HW8.out Tryd.underlying44 rfl HS.out ?_ | refine wpList_store_row rfl 44 (.tmp 2) _ rfl (w.heap.size + 1) (c32 res) rfl rfl 44 (c32 (List.replicate 64 0)) HZ.out HS.out HZS.out HO.out ?_)
          have hb := setRow_heap _ _ _ (c32 res) _ _ HZ.out
          have hB := below_setRow HB.out (show w.heap.size ≤ w.heap.size + 1 by omega) (c32 res)
          go_light
          exact bodyPost_ret (v := .agg (c32 res)) (results_cell_row Tryd.results138 _ _ (w.heap.size + 1) 44 (c32 res) (0, 0) _ rfl hb Tryd.underlying44 rfl HS.out) rfl ⟨rfl, hB⟩
end Sha
end Go.Proofs.YtpakdcgcgekcfaaDoor
