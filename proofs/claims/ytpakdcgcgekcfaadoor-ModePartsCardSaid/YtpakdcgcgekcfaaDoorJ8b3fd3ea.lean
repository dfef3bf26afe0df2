/-
  Texts of this claim, joined: AesMul, Cells, Rel, RelUse, Idx, Buf, R1Num, R1, WordsB, OtpLife, FuseOf1, OtpOps, OtpKey, OtpRow, OtpDo, OtpAwake.
-/
import Derived.Test.YtpakdcgcgekcfaaDoorProg
import Derived.Test.YtpakdcgcgekcfaaDoorJ52d9bedf
import Derived.Deep.LoopGhost
import Derived.Laws.BitsAllLaws
import Derived.IntWalk
import Derived.Laws.Rows
import Derived.Laws.ResultCell
import Derived.StillTail
import Derived.Deep.Quiet
import Derived.Lib.QuietBelow
import Derived.BigQuiet
import Derived.Deep.MidRow
import Derived.Laws.Tables
import Derived.Laws.PanicsMore
import Derived.Lib.BitFns
import Derived.Deep.AppendLies
import Derived.Deep.RegionLaw
import Derived.Deep.RegionWith
import Derived.Deep.CutRange
import Derived.Deep.CutBlock
import Derived.Deep.DeepCutAuto
import Derived.RegionTactic
import Derived.BigRegion
set_option linter.unusedVariables false
/-
  Package aes: twice, Mul, boxes.
-/
set_option linter.unusedSimpArgs false
set_option linter.unusedVariables false
namespace Go.Proofs.YtpakdcgcgekcfaaDoor
open Go.RowKit

namespace Aes
set_option maxHeartbeats 1000000 in
theorem twice_any (a : Int) (x : Nat) (w : World) (ha : a = x) (hx : x < 256) : Calls Tryd.prog 112 #[.int .u8 a] w (fun e w' => e = .returned (.int .u8 (xt x : Int)) ∧ w = w') := by
  subst ha
  have h1 : bits .xor .u8 ((x : Int) * 2 % 256) ((x : Int) / 128 * 27) = ((xt x : Nat) : Int) := by
    rw [show (x : Int) * 2 % 256 = ((x * 2 % 256 : Nat) : Int) by simp, show (x : Int) / 128 * 27 = ((x / 128 * 27 : Nat) : Int) by simp, u8_xor_nat _ _ (Nat.mod_lt _ (by decide)) (by omega)]
    rfl
  go_enter Tryd.func112, Tryd.ntmps112
  go_wp2_with fail
  go_light
  go_ret
  exact ⟨by rw [← h1]; rfl, rfl⟩
theorem mulP_zero : ∀ (f p a : Nat), mulP f p a 0 = p
  | 0, _, _ => rfl
  | f + 1, p, a => by
    rw [mulP, show (0 : Nat) % 2 = 0 from rfl, Nat.mul_zero, Nat.xor_zero, show (0 : Nat) / 2 = 0 from rfl]
    exact mulP_zero f p _
set_option maxHeartbeats 1000000 in
theorem mul_any (a b : Int) (x y : Nat) (w : World) (ha : a = x) (hb : b = y) (hx : x < 256) (hy : y < 256) : Calls Tryd.prog 132 #[.int .u8 a, .int .u8 b] w (fun e w' => e = .returned (.int .u8 (gm x y : Int)) ∧ w = w') := by
  subst ha hb
  obtain ⟨R, hR⟩ : ∃ R, gm x y = R := ⟨_, rfl⟩
  rw [hR]
  have HR := Lib.hid hR
  clear hR
  go_enter Tryd.func132, Tryd.ntmps132
  go_wp2_with fail
  go_loopg [0, 1, 5] 8 (fun g s0 s1 s5 wr => ∃ (p a b : Nat), s5 = .int .u8 (p : Int) ∧ s0 = .int .u8 (a : Int) ∧ s1 = .int .u8 (b : Int) ∧ p < 256 ∧ a < 256 ∧ b < 256 ∧ Hid (b < 2 ^ g) ∧ Hid (mulP g p a b = R) ∧ wr = w)
  case atStart => exact ⟨0, x, y, rfl, rfl, rfl, by decide, hx, hy, Lib.hid hy, HR, rfl⟩
  case round =>
    obtain ⟨p, a, b, rfl, rfl, rfl, hp, ha, hb, HB, HM, rfl⟩ := hrel
    by_cases h0 : b = 0
    · subst h0
      have HP := Lib.hid (show p = R by have := HM.out; rwa [mulP_zero] at this)
      go_wp2_with fail
      go_light
      go_ret
      exact ⟨by rw [HP.out]; rfl, rfl⟩
    · obtain ⟨g', rfl⟩ : ∃ g', gk = g' + 1 := by
        cases gk with
        | zero => have := HB.out; simp at this; omega
        | succ g => exact ⟨g, rfl⟩
      obtain ⟨q, hq⟩ : ∃ q, b % 2 = q := ⟨_, rfl⟩
      obtain ⟨m, hm⟩ : ∃ m, a * q = m := ⟨_, rfl⟩
      obtain ⟨p', hp'⟩ : ∃ z, p ^^^ m = z := ⟨_, rfl⟩
      have hq2 : q < 2 := by omega
      have hm2 : m < 256 := by
        rcases (show q = 0 ∨ q = 1 by omega) with h | h <;> subst h <;> omega
      have hpp : p' < 256 := by rw [← hp']; exact xor8 hp hm2
      have e1 : bits .and .u8 (b : Int) 1 = (q : Int) := by
        rw [show (1 : Int) = ((1 : Nat) : Int) from rfl, u8_and_nat _ _ hb (by decide), Nat.and_one_is_mod, hq]
      have e2 : IntKind.u8.wrap ((a : Int) * (q : Int)) = (m : Int) := by
        rw [← Int.natCast_mul, hm]
        exact IntWalk.u8_in _ (by omega)
      have e3 : bits .xor .u8 (p : Int) (m : Int) = (p' : Int) := by rw [u8_xor_nat _ _ hp hm2, hp']
      have HB' := Lib.hid (show b / 2 < 2 ^ g' by have := HB.out; rw [Nat.pow_succ] at this; omega)
      have HM' := Lib.hid (show mulP g' p' (xt a) (b / 2) = R by have := HM.out; rw [mulP, hq, hm, hp'] at this; exact this)
      have hbne : ((b : Int) != 0) = true := by rw [bne_iff_ne]; omega
      clear hq hm hp' HB HM
      go_wp2_with fail
      (with_reducible refine (twice_any _ a _ rfl ha).mono ?_); rintro e w2 ⟨rfl, rfl⟩
      go_wp2_with fail
      go_light
      go_roundg g'
      case measure => omega
      case rel => exact ⟨p', xt a, b / 2, rfl, rfl, by go_num, hpp, xt_lt ha, by omega, HB', HM', rfl⟩
end Aes
end Go.Proofs.YtpakdcgcgekcfaaDoor

/-
  Results in cells: two; one and two slots.
-/
set_option linter.unusedSimpArgs false
set_option linter.unusedVariables false
namespace Go.Proofs.YtpakdcgcgekcfaaDoor
open Go.RowKit

section
variable {P : Program}
theorem results_two {fn : Func} {p q : Tmp} {ty tz : TypeId} (h : fn.results = #[.cell p ty, .cell q tz]) (tmps : Array Value) (w : World) (g k : Nat) (t u : TypeId) (cs ds : Array Value) (d e : TypeDesc)
    (hp : tmps.getD p undef = .pointer (some ⟨g, 0, none⟩)) (hq : tmps.getD q undef = .pointer (some ⟨k, 0, none⟩)) (hg : Blk w g t cs) (hk : Blk w k u ds)
    (hu : P.underlying ty = some d) (hd : (match d with | .struct _ | .array _ _ => true | _ => false) = true) (hi : (P.info? ty).map (·.size) = some cs.size)
    (hv : P.underlying tz = some e) (he : (match e with | .struct _ | .array _ _ => true | _ => false) = true) (hj : (P.info? tz).map (·.size) = some ds.size) :
    (results fn tmps).run P w = .ok (.tuple #[.agg cs, .agg ds]) w := by
  have hp' : tmps[p]?.getD undef = .pointer (some ⟨g, 0, none⟩) := by simpa using hp
  have hq' : tmps[q]?.getD undef = .pointer (some ⟨k, 0, none⟩) := by simpa using hq
  simp [results, h, hp', hq', asAddr, Sem.run_bind, Result.andThen, run_loadVar_row w g t ty cs (0, 0) d hg hu hd hi, run_loadVar_row w k u tz ds (0, 0) e hk hv he hj]
theorem results_one_slot {fn : Func} {p q : Tmp} {ty : TypeId} (h : fn.results = #[.cell p ty, .tmp q]) (tmps : Array Value) (w : World) (g : Nat) (t : TypeId) (cs : Array Value) (d : TypeDesc) (v : Value)
    (hp : tmps.getD p undef = .pointer (some ⟨g, 0, none⟩)) (hq : tmps.getD q undef = v) (hg : Blk w g t cs)
    (hu : P.underlying ty = some d) (hd : (match d with | .struct _ | .array _ _ => true | _ => false) = true) (hi : (P.info? ty).map (·.size) = some cs.size) :
    (results fn tmps).run P w = .ok (.tuple #[.agg cs, v]) w := by
  have hp' : tmps[p]?.getD undef = .pointer (some ⟨g, 0, none⟩) := by simpa using hp
  have hq' : tmps[q]?.getD undef = v := by simpa using hq
  simp [results, h, hp', hq', asAddr, Sem.run_bind, Result.andThen, run_loadVar_row w g t ty cs (0, 0) d hg hu hd hi]
theorem results_two_slots {fn : Func} {p q r : Tmp} {ty : TypeId} (h : fn.results = #[.cell p ty, .tmp q, .tmp r]) (tmps : Array Value) (w : World) (g : Nat) (t : TypeId) (cs : Array Value) (d : TypeDesc) (v u : Value)
    (hp : tmps.getD p undef = .pointer (some ⟨g, 0, none⟩)) (hq : tmps.getD q undef = v) (hr : tmps.getD r undef = u) (hg : Blk w g t cs)
    (hu : P.underlying ty = some d) (hd : (match d with | .struct _ | .array _ _ => true | _ => false) = true) (hi : (P.info? ty).map (·.size) = some cs.size) :
    (results fn tmps).run P w = .ok (.tuple #[.agg cs, v, u]) w := by
  have hp' : tmps[p]?.getD undef = .pointer (some ⟨g, 0, none⟩) := by simpa using hp
  have hq' : tmps[q]?.getD undef = v := by simpa using hq
  have hr' : tmps[r]?.getD undef = u := by simpa using hr
  simp [results, h, hp', hq', hr', asAddr, Sem.run_bind, Result.andThen, run_loadVar_row w g t ty cs (0, 0) d hg hu hd hi]
end
end Go.Proofs.YtpakdcgcgekcfaaDoor

/-
  A drawn region whose operations read, reckon, or call what makes memory: one walk in the text's order serves every order. What a call hands back need not be one value: it is told by a predicate ('Kind.any') that later growth of memory does not break; an operation may use what is told of the slots that it looks at, and of the world as it stood at the region's head. A tail in one forced order (a store, an append) may follow.
-/
set_option linter.unusedSimpArgs false
set_option linter.unusedVariables false
namespace Go.Proofs.YtpakdcgcgekcfaaDoor
open Go Go.RowKit

namespace Rel
/-- Memory has grown. -/
def Grow (W W' : World) : Prop := Below W.heap.size W W'
theorem Grow.refl (W : World) : Grow W W := Below.refl _ _
theorem Grow.trans {a b c : World} (h : Grow a b) (k : Grow b c) : Grow a c := Below.trans h (Below.mono k (Below.size h))
/-- What was there reads the same (a block's mark may have turned). -/
structure Soft (W W' : World) : Prop where
  size : W.heap.size ≤ W'.heap.size
  cell : ∀ (p : Addr) (v : Value), W.cell? p = some v → W'.cell? p = some v
  shape : ∀ (g : Nat) (x : TypeId × Nat), W.shape? g = some x → W'.shape? g = some x
theorem Soft.refl (W : World) : Soft W W := ⟨Nat.le_refl _, fun _ _ h => h, fun _ _ h => h⟩
theorem Soft.trans {a b c : World} (h : Soft a b) (k : Soft b c) : Soft a c := ⟨Nat.le_trans h.size k.size, fun p v x => k.cell p v (h.cell p v x), fun g x y => k.shape g x (h.shape g x y)⟩
theorem Grow.soft {W W' : World} (h : Grow W W') : Soft W W' := by
  have lt : ∀ {k : Nat} {o : Obj}, W.heap[k]? = some o → k < W.heap.size := fun h => (Array.getElem?_eq_some_iff.1 h).1
  refine ⟨Below.size h, fun p v hp => ?_, fun g x hg => ?_⟩
  · unfold World.cell? at hp ⊢
    cases ho : W.heap[p.block]? with
    | none => rw [ho] at hp; cases hp
    | some o => rw [Below.block h _ (lt ho)]; exact hp
  · unfold World.shape? at hg ⊢
    cases ho : W.heap[g]? with
    | none => rw [ho] at hg; cases hg
    | some o => rw [Below.block h _ (lt ho)]; exact hg
/-- One operation's doing: what is older than B stands, all else reads the same. -/
structure Step (B : Nat) (W W' : World) : Prop where
  old : Below B W W'
  soft : Soft W W'
theorem Step.refl (B : Nat) (W : World) : Step B W W := ⟨Below.refl _ _, Soft.refl _⟩
theorem Step.of {B : Nat} {W W' : World} (hB : B ≤ W.heap.size) (h : Grow W W') : Step B W W' := ⟨Below.mono h hB, h.soft⟩
/-- What an operation's value is: a constant; or told by a predicate. -/
inductive Kind where
  | const (c : Value)
  | any (V : Value → World → Prop) (h : ∀ v W W', Soft W W' → V v W → V v W')
def kindOf (ks : List (Tmp × Kind)) (o : Oper) : Option Kind := match o.dst with
  | some d => ks.lookup d
  | none => none
/-- Operations that are walked as they stand. -/
def pureOp (o : Oper) : Bool := match o.op with
  | .move _ | .assign _ | .pick _ _ _ | .build _ _ | .load _ _ | .binOp _ _ _ _ _ | .unOp _ _ _ | .convert _ _ _ | .slice _ _ _ _ _ | .fieldAddr _ _ _ | .field _ _ _ | .indexAddr _ _ _ | .index _ _ _ | .extract _ _ | .sliceToArrayPointer _ _ => true
  | _ => false
section
variable {P : Program} {ops : Array Oper} {md : Region.Mode}
theorem value_of_pure {o : Oper} {ρ : Operand → Value} {w w' : World} {n : Next} (hp : pureOp o = true) (h : (execOp ρ o).run P w = .ok n w') : ∃ u, n = .value u := by
  have key : ∀ (s : Sem Value), (do let x ← s; pure (Next.value x) : Sem Next).run P w = .ok n w' → ∃ u, n = .value u := fun s hs => by
    rw [Sem.run_bind] at hs
    cases hr : s.run P w with
    | ok x w1 => rw [hr] at hs; simp [Result.andThen] at hs; exact ⟨x, hs.1.symm⟩
    | halt x w1 => rw [hr] at hs; simp [Result.andThen] at hs
  obtain ⟨dst, op, type, pos, after, guard⟩ := o
  cases op <;> simp only [pureOp, Bool.false_eq_true] at hp <;> simp only [execOp] at h
  case move x => simp at h; exact ⟨_, h.1.symm⟩
  case assign x => simp at h; exact ⟨_, h.1.symm⟩
  case pick c x y =>
    rw [Sem.run_bind] at h
    cases hr : (asBool (ρ c)).run P w with
    | ok b w1 => rw [hr] at h; simp [Result.andThen] at h; exact ⟨_, h.1.symm⟩
    | halt b w1 => rw [hr] at h; simp [Result.andThen] at h
  all_goals exact key _ h
/-- An operation that may make memory, or call. -/
def relUpon (P : Program) (W : World) (V : Value → World → Prop) : Result Next → Prop
  | .ok (.value v) w' => Grow W w' ∧ V v w'
  | .ok .skip w' => Grow W w' ∧ V undef w'
  | .ok (.enter f args) w' => Calls P f args w' (fun e w'' => ∃ v, e = .returned v ∧ Grow W w'' ∧ V v w'')
  | _ => False
def relAt (P : Program) (o : Oper) (a : Act) (W : World) (V : Value → World → Prop) : Prop := relUpon P W V ((execOp a.eval o).run P W)
def stepUpon (P : Program) (B : Nat) (W : World) (V : Value → World → Prop) : Result Next → Prop
  | .ok (.value v) w' => Step B W w' ∧ V v w'
  | .ok .skip w' => Step B W w' ∧ V undef w'
  | .ok (.enter f args) w' => Calls P f args w' (fun e w'' => ∃ v, e = .returned v ∧ Step B W w'' ∧ V v w'')
  | _ => False
def stepAt (P : Program) (B : Nat) (o : Oper) (a : Act) (W : World) (V : Value → World → Prop) : Prop := stepUpon P B W V ((execOp a.eval o).run P W)
theorem stepAt.of {P : Program} {B : Nat} {o : Oper} {a : Act} {W : World} {V : Value → World → Prop} (hB : B ≤ W.heap.size) (h : relAt P o a W V) : stepAt P B o a W V := by
  unfold relAt at h
  unfold stepAt
  generalize (execOp a.eval o).run P W = r at *
  cases r with
  | ok x w1 =>
    cases x <;> simp only [relUpon] at h <;> simp only [stepUpon]
    case value v => exact ⟨Step.of hB h.1, h.2⟩
    case skip => exact ⟨Step.of hB h.1, h.2⟩
    case enter f args => exact Calls.mono h fun e w'' ⟨v, he, hg, hV⟩ => ⟨v, he, Step.of hB hg, hV⟩
  | halt x w1 => simp only [relUpon] at h
/-- What is told of slots. -/
abbrev Facts := Tmp → World → Prop
def Facts.put (F : Facts) (d : Option Tmp) (p : World → Prop) : Facts := fun x => match d with
  | some y => if x = y then p else F x
  | none => F x
def bare : Facts := fun _ _ => True
/-- The walk in the text's order. -/
def tree (P : Program) (ops : Array Oper) (ks : List (Tmp × Kind)) (w0 : World) (Q : Act → World → Prop) : List Oper → Facts → Act → Prop
  | [], F, a => ∀ W, Grow w0 W → (∀ d, F d W) → Q a W
  | o :: rest, F, a => if Region.wanted o (yielded ops a.tmps) then
      match kindOf ks o with
      | .none => pureOp o = true ∧ ∃ v, (∀ W, Grow w0 W → (∀ d, d ∈ o.looksAt ops → F d W) → (execOp a.eval o).run P W = .ok (.value v) W) ∧ tree P ops ks w0 Q rest F (a.put o.dst v)
      | .some (.const c) => (∀ W, Grow w0 W → (∀ d, d ∈ o.looksAt ops → F d W) → stepAt P w0.heap.size o a W (fun v _ => v = c)) ∧ tree P ops ks w0 Q rest F (a.put o.dst c)
      | .some (.any V _) => (∀ W, Grow w0 W → (∀ d, d ∈ o.looksAt ops → F d W) → stepAt P w0.heap.size o a W V) ∧ ∀ v, tree P ops ks w0 Q rest (F.put o.dst (V v)) (a.put o.dst v)
    else tree P ops ks w0 Q rest F (a.put o.dst undef)
/-- The region's form: edges lead back; each slot is written once; what is looked at is there, or waited for. -/
def headB (md : Region.Mode) (ops : Array Oper) (n : Nat) : Bool :=
  (List.range n).all fun i => match ops[i]? with
    | .none => false
    | .some o => (o.after.all fun e => !Region.binds md e || decide (e.on < i)) &&
      (List.range n).all fun j => match ops[j]? with
        | .none => false
        | .some p => match p.dst with
          | .none => true
          | .some d => (decide (i = j) || (o.dst != .some d)) && (!(o.looksAt ops).contains d || (decide (j < i) && Region.waitsFor md ops i j))
def canon (n m : Nat) : Array Bool := (List.replicate n true ++ List.replicate (m - n) false).toArray
def tailB (md : Region.Mode) (ops : Array Oper) (n : Nat) : Bool := decide (n = ops.size) || (decide (n < ops.size) && Region.sinkB md ops n && Region.chainB md ops n)
def okB (md : Region.Mode) (ops : Array Oper) (n : Nat) : Bool := Region.noSelect ops && headB md ops n && tailB md ops n && Region.seqB md ops (ops.size - n) n (canon n ops.size)
def cnt (s : Array Bool) : Nat → Nat
  | 0 => 0
  | m + 1 => cnt s m + (if s.getD m false then 0 else 1)
theorem cnt_far {s : Array Bool} {i : Nat} : ∀ m, m ≤ i → cnt (s.setIfInBounds i true) m = cnt s m
  | 0, _ => rfl
  | m + 1, h => by rw [cnt, cnt, cnt_far m (by omega), getD_set_ne false (by omega)]
theorem cnt_set {s : Array Bool} {i : Nat} (hs : i < s.size) (hf : s.getD i false = false) : ∀ m, i < m → cnt (s.setIfInBounds i true) m + 1 = cnt s m
  | m + 1, h => by
    by_cases him : i = m
    · subst him
      have e : (s.setIfInBounds i true).getD i false = true := by simp [hs]
      rw [cnt, cnt, cnt_far i (Nat.le_refl _), e, hf]
      simp
    · rw [cnt, cnt, getD_set_ne false him, ← cnt_set hs hf m (by omega)]
      omega
theorem cnt_zero {s : Array Bool} : ∀ m, cnt s m = 0 → ∀ j, j < m → s.getD j false = true
  | m + 1, h, j, hj => by
    rw [cnt] at h
    by_cases hjm : j = m
    · subst hjm
      cases he : s.getD j false
      · rw [he] at h; simp at h
      · rfl
    · exact cnt_zero m (by omega) j (by omega)
theorem cnt_pos {s : Array Bool} : ∀ m, 0 < cnt s m → ∃ i, i < m ∧ s.getD i false = false ∧ ∀ j, j < i → s.getD j false = true
  | m + 1, h => by
    by_cases h0 : 0 < cnt s m
    · obtain ⟨i, hi, hf, ha⟩ := cnt_pos m h0
      exact ⟨i, by omega, hf, ha⟩
    · refine ⟨m, by omega, ?_, cnt_zero m (by omega)⟩
      rw [cnt] at h
      cases he : s.getD m false
      · rfl
      · rw [he] at h; simp at h; omega
theorem head_edges {n i : Nat} {o : Oper} (h : headB md ops n = true) (hi : i < n) (ho : ops[i]? = some o) : ∀ e ∈ o.after, Region.binds md e = true → e.on < i := fun e he hb => by
  have h1 := List.all_eq_true.1 h i (List.mem_range.2 hi)
  simp only [ho, Bool.and_eq_true] at h1
  have h2 := Array.all_eq_true_iff_forall_mem.1 h1.1 e he
  simpa [hb] using h2
theorem head_apart {n i j : Nat} {o p : Oper} {d : Tmp} (h : headB md ops n = true) (hi : i < n) (ho : ops[i]? = some o) (hj : j < n) (hp : ops[j]? = some p) (hd : p.dst = some d) :
    (i ≠ j → o.dst ≠ some d) ∧ (d ∈ o.looksAt ops → j < i ∧ Region.waitsFor md ops i j = true) := by
  have h1 := List.all_eq_true.1 h i (List.mem_range.2 hi)
  simp only [ho, Bool.and_eq_true] at h1
  have h2 := List.all_eq_true.1 h1.2 j (List.mem_range.2 hj)
  simp only [hp, hd, Bool.or_eq_true, decide_eq_true_eq, Bool.and_eq_true, bne_iff_ne, Bool.not_eq_true'] at h2
  refine ⟨fun hij => h2.1.resolve_left hij, fun hm => ?_⟩
  rcases h2.2 with h3 | h3
  · simp [hm] at h3
  · exact h3
theorem head_op {n i : Nat} (h : headB md ops n = true) (hi : i < n) : ∃ o, ops[i]? = some o := by
  have h1 := List.all_eq_true.1 h i (List.mem_range.2 hi)
  cases ho : ops[i]? with
  | none => simp [ho] at h1
  | some o => exact ⟨o, rfl⟩
theorem exec_agree {a b : Act} (o : Oper) (hs : ∀ cs b, o.op ≠ .select cs b) (h : ∀ d, d ∈ o.looksAt ops → b.tmps[d]? = a.tmps[d]?) : execOp b.eval o = execOp a.eval o ∧ Region.wanted o (yielded ops b.tmps) = Region.wanted o (yielded ops a.tmps) := by
  refine ⟨execOp_congr o hs fun x hx => ?_, ?_⟩
  · cases x with
    | tmp d =>
      have := h d (List.mem_append_left _ (List.mem_filterMap.2 ⟨.tmp d, by simpa using hx, rfl⟩))
      simp [Act.eval, this]
    | _ => rfl
  · unfold Region.wanted
    cases hg : o.guard with
    | none => rfl
    | some gw =>
      obtain ⟨g, want⟩ := gw
      have hy : yielded ops b.tmps g = yielded ops a.tmps g := by
        unfold yielded
        cases ht : (ops[g]?).bind (·.dst) with
        | none => rfl
        | some t =>
          have := h t (by simp [Oper.looksAt, hg, ht])
          simp [this]
      simp only [hy]
end
section
variable (P : Program) (ops : Array Oper) (md : Region.Mode) (n : Nat) (ks : List (Tmp × Kind)) (w0 : World) (a0 : Act)
/-- What is told of an executed operation's slot. -/
def Told (p : Oper) (a : Act) (W : World) (v : Value) : Prop := ∀ V h, kindOf ks p = some (.any V h) → Region.wanted p (yielded ops a.tmps) = true → V v W
def Good (u : Nat → Value) (o : Oper) (a : Act) (w : World) (v : Value) : Prop :=
  if Region.wanted o (yielded ops a.tmps) then
    match kindOf ks o with
    | .none => ∃ W, Grow w0 W ∧ (∀ d, d ∈ o.looksAt ops → ∀ j p, j < n → ops[j]? = some p → p.dst = some d → Told ops ks p a W (u j)) ∧ (execOp a.eval o).run P W = .ok (.value v) W
    | .some (.const c) => v = c
    | .some (.any V _) => V v w
  else v = undef
structure Inv (s : Array Bool) (a : Act) (w : World) (u : Nat → Value) : Prop where
  head : HeadInv md ops n s
  grow : Grow w0 w
  defers : a.defers = a0.defers
  size : a.tmps.size = a0.tmps.size
  rest : ∀ d, (∀ j o, j < n → ops[j]? = some o → s.getD j false = true → o.dst ≠ some d) → a.tmps[d]? = a0.tmps[d]?
  slot : ∀ j o d, j < n → ops[j]? = some o → s.getD j false = true → o.dst = some d → a.tmps[d]? = (a0.tmps.setIfInBounds d (u j))[d]?
  good : ∀ j o, j < n → ops[j]? = some o → s.getD j false = true → Good P ops n ks w0 u o a w (u j)
structure Br (s : Array Bool) (a : Act) (u : Nat → Value) (k : Nat) (b : Act) (F : Facts) : Prop where
  defers : b.defers = a0.defers
  size : b.tmps.size = a0.tmps.size
  rest : ∀ d, (∀ j o, j < k → ops[j]? = some o → o.dst ≠ some d) → b.tmps[d]? = a0.tmps[d]?
  slot : ∀ j o d, j < k → ops[j]? = some o → s.getD j false = true → o.dst = some d → b.tmps[d]? = (a0.tmps.setIfInBounds d (u j))[d]?
  free : ∀ d, (∀ j o, j < k → ops[j]? = some o → o.dst ≠ some d) → ∀ W, F d W
  told : ∀ j o d, j < k → ops[j]? = some o → s.getD j false = true → o.dst = some d → ∀ W, Told ops ks o a W (u j) → F d W
end
section
variable {P : Program} {ops : Array Oper} {md : Region.Mode} {n : Nat} {ks : List (Tmp × Kind)} {w0 : World} {a0 : Act} {s : Array Bool} {a : Act} {w : World} {u : Nat → Value}
theorem put_get (a : Act) (x : Option Tmp) (v : Value) (d : Tmp) (h : x ≠ some d) : (a.put x v).tmps[d]? = a.tmps[d]? := by
  cases x with
  | none => rfl
  | some y => simp [Act.put, Array.getElem?_setIfInBounds_ne (show y ≠ d from fun e => h (by rw [e]))]
theorem put_size (a : Act) (x : Option Tmp) (v : Value) : (a.put x v).tmps.size = a.tmps.size := by cases x <;> simp [Act.put]
theorem put_defers (a : Act) (x : Option Tmp) (v : Value) : (a.put x v).defers = a.defers := by cases x <;> rfl
theorem put_self (a : Act) (v : Value) (d : Tmp) (hs : a.tmps.size = a0.tmps.size) : (a.put (some d) v).tmps[d]? = (a0.tmps.setIfInBounds d v)[d]? := by
  simp only [Act.put, Array.getElem?_setIfInBounds, hs]
  simp
theorem waits_done {i j : Nat} {o : Oper} (ho : ops[i]? = some o) (hw : Region.waitsFor md ops i j = true) (h : ∀ e ∈ o.after, Region.binds md e = true → s.getD e.on false = true) : s.getD j false = true := by
  obtain ⟨o', ho', e, he, hb, hon⟩ := Region.waitsFor_spec hw
  rw [ho] at ho'
  cases ho'
  rw [← hon]
  exact h e he hb
/-- Every slot that an operation looks at is settled. -/
def Settled (ops : Array Oper) (n : Nat) (s : Array Bool) (o : Oper) : Prop := ∀ j p d, j < n → ops[j]? = some p → p.dst = some d → d ∈ o.looksAt ops → s.getD j false = true
theorem settled_of (hB : headB md ops n = true) {i : Nat} {o : Oper} (hi : i < n) (ho : ops[i]? = some o) (h : ∀ e ∈ o.after, Region.binds md e = true → s.getD e.on false = true) : Settled ops n s o :=
  fun _ _ _ hj hp hd hm => waits_done ho ((head_apart hB hi ho hj hp hd).2 hm).2 h
theorem looks_agree (hB : headB md ops n = true) (inv : Inv P ops md n ks w0 a0 s a w u) {i : Nat} {o : Oper} (hi : i < n) (ho : ops[i]? = some o) (hset : Settled ops n s o) {b : Act} {F : Facts} (br : Br ops ks a0 s a u i b F) :
    ∀ d, d ∈ o.looksAt ops → b.tmps[d]? = a.tmps[d]? := fun d hm => by
  by_cases h : ∃ j p, j < n ∧ ops[j]? = some p ∧ p.dst = some d
  · obtain ⟨j, p, hj, hp, hd⟩ := h
    have hex := hset j p d hj hp hd hm
    have hlt := ((head_apart hB hi ho hj hp hd).2 hm).1
    rw [br.slot j p d hlt hp hex hd, inv.slot j p d hj hp hex hd]
  · rw [br.rest d (fun j p hj hp hd => h ⟨j, p, by omega, hp, hd⟩), inv.rest d (fun j p hj hp _ hd => h ⟨j, p, hj, hp, hd⟩)]
theorem facts_of (hB : headB md ops n = true) {i : Nat} {o : Oper} (hi : i < n) (ho : ops[i]? = some o) (hset : Settled ops n s o) {b : Act} {F : Facts} (br : Br ops ks a0 s a u i b F) {W : World}
    (h : ∀ d, d ∈ o.looksAt ops → ∀ j p, j < n → ops[j]? = some p → p.dst = some d → Told ops ks p a W (u j)) : ∀ d, d ∈ o.looksAt ops → F d W := fun d hm => by
  by_cases hx : ∃ j p, j < n ∧ ops[j]? = some p ∧ p.dst = some d
  · obtain ⟨j, p, hj, hp, hd⟩ := hx
    exact br.told j p d ((head_apart hB hi ho hj hp hd).2 hm).1 hp (hset j p d hj hp hd hm) hd W (h d hm j p hj hp hd)
  · exact br.free d (fun j p hj hp hd => hx ⟨j, p, by omega, hp, hd⟩) W
theorem told_now (inv : Inv P ops md n ks w0 a0 s a w u) {j : Nat} {p : Oper} (hj : j < n) (hp : ops[j]? = some p) (hex : s.getD j false = true) : Told ops ks p a w (u j) := fun V h hk hw => by
  have := inv.good j p hj hp hex
  unfold Good at this
  rw [if_pos hw, hk] at this
  exact this
theorem br_next {k : Nat} {o : Oper} (hB : headB md ops n = true) (hk : k < n) (ho : ops[k]? = some o) {b : Act} {F F' : Facts} (br : Br ops ks a0 s a u k b F) (v : Value)
    (h1 : s.getD k false = true → v = u k) (h2 : ∀ d, o.dst ≠ some d → F' d = F d) (h3 : ∀ d, s.getD k false = true → o.dst = some d → ∀ W, Told ops ks o a W (u k) → F' d W) : Br ops ks a0 s a u (k + 1) (b.put o.dst v) F' := by
  have hne : ∀ d, (∀ j p, j < k + 1 → ops[j]? = some p → p.dst ≠ some d) → o.dst ≠ some d := fun d h => h k o (by omega) ho
  have hlow : ∀ d, (∀ j p, j < k + 1 → ops[j]? = some p → p.dst ≠ some d) → ∀ j p, j < k → ops[j]? = some p → p.dst ≠ some d := fun d h j p hj hp => h j p (by omega) hp
  refine ⟨by rw [put_defers]; exact br.defers, by rw [put_size]; exact br.size, fun d h => by rw [put_get _ _ _ _ (hne d h)]; exact br.rest d (hlow d h), fun j p d hj hp hex hd => ?_, fun d h W => by rw [h2 d (hne d h)]; exact br.free d (hlow d h) W, fun j p d hj hp hex hd W ht => ?_⟩
  · by_cases hjk : j = k
    · subst hjk
      rw [ho] at hp
      cases hp
      rw [hd, h1 hex]
      exact put_self _ _ _ br.size
    · have hdk : o.dst ≠ some d := (head_apart hB hk ho (show j < n by omega) hp hd).1 (fun e => hjk e.symm)
      rw [put_get _ _ _ _ hdk]
      exact br.slot j p d (by omega) hp hex hd
  · by_cases hjk : j = k
    · subst hjk
      rw [ho] at hp
      cases hp
      exact h3 d hex hd W ht
    · have hdk : o.dst ≠ some d := (head_apart hB hk ho (show j < n by omega) hp hd).1 (fun e => hjk e.symm)
      rw [h2 d hdk]
      exact br.told j p d (by omega) hp hex hd W ht
theorem br_step {Q : Act → World → Prop} (hsel : Region.noSelect ops = true) (hB : headB md ops n = true) (inv : Inv P ops md n ks w0 a0 s a w u) {k : Nat} {o : Oper} {rest : List Oper} (hk : k < n) (ho : ops[k]? = some o) {b : Act} {F : Facts} (br : Br ops ks a0 s a u k b F)
    (ht : tree P ops ks w0 Q (o :: rest) F b) : ∃ b' F', tree P ops ks w0 Q rest F' b' ∧ Br ops ks a0 s a u (k + 1) b' F' := by
  have hfree : ∀ d, o.dst = some d → ∀ W, F d W := fun d hd W => br.free d (fun j p hj hp hpd => (head_apart hB hk ho (show j < n by omega) hp hpd).1 (by omega) hd) W
  unfold tree at ht
  cases hex : s.getD k false with
  | false =>
    have nx : ∀ {p : Prop}, s.getD k false = true → p := fun h => by rw [hex] at h; cases h
    by_cases hw : Region.wanted o (yielded ops b.tmps) = true
    · rw [if_pos hw] at ht
      cases hkd : kindOf ks o with
      | none =>
        rw [hkd] at ht
        obtain ⟨_, v, _, h⟩ := ht
        exact ⟨_, F, h, br_next hB hk ho br v (fun h => nx h) (fun _ _ => rfl) (fun _ h => nx h)⟩
      | some kd =>
        rw [hkd] at ht
        cases kd with
        | const c => exact ⟨_, F, ht.2, br_next hB hk ho br c (fun h => nx h) (fun _ _ => rfl) (fun _ h => nx h)⟩
        | any V hV => exact ⟨_, _, ht.2 undef, br_next hB hk ho br undef (fun h => nx h) (fun d hd => by
            funext W
            unfold Facts.put
            cases hod : o.dst with
            | none => rfl
            | some y => simp only []; rw [if_neg (fun e => hd (by rw [hod, e]))]) (fun _ h => nx h)⟩
    · rw [if_neg hw] at ht
      exact ⟨_, F, ht, br_next hB hk ho br undef (fun h => nx h) (fun _ _ => rfl) (fun _ h => nx h)⟩
  | true =>
    have hset := settled_of (s := s) hB hk ho (inv.head.closed k o ho hex)
    obtain ⟨hexec, hwant⟩ := exec_agree o (Region.noSelect_spec hsel k o · · ho) (looks_agree hB inv hk ho hset br)
    have hg := inv.good k o hk ho hex
    unfold Good at hg
    by_cases hw : Region.wanted o (yielded ops b.tmps) = true
    · rw [if_pos hw] at ht
      rw [hwant] at hw
      rw [if_pos hw] at hg
      cases hkd : kindOf ks o with
      | none =>
        rw [hkd] at ht hg
        obtain ⟨_, v, hv, h⟩ := ht
        obtain ⟨W, hgW, hfW, hrW⟩ := hg
        have hrun := hv W hgW (facts_of hB hk ho hset br hfW)
        rw [hexec, hrW] at hrun
        have hvu : v = u k := by injection hrun with h1; injection h1 with h2; exact h2.symm
        exact ⟨_, F, h, br_next hB hk ho br v (fun _ => hvu) (fun _ _ => rfl) (fun d _ hd W _ => hfree d hd W)⟩
      | some kd =>
        rw [hkd] at ht hg
        cases kd with
        | const c => exact ⟨_, F, ht.2, br_next hB hk ho br c (fun _ => hg.symm) (fun _ _ => rfl) (fun d _ hd W _ => hfree d hd W)⟩
        | any V hV => exact ⟨_, _, ht.2 (u k), br_next hB hk ho br (u k) (fun _ => rfl) (fun d hd => by
            funext W
            unfold Facts.put
            cases hod : o.dst with
            | none => rfl
            | some y => simp only []; rw [if_neg (fun e => hd (by rw [hod, e]))]) (fun d _ hd W htold => by
            unfold Facts.put
            rw [hd]
            simp only [if_pos]
            exact htold V hV hkd hw)⟩
    · rw [if_neg hw] at ht
      rw [hwant] at hw
      rw [if_neg hw] at hg
      exact ⟨_, F, ht, br_next hB hk ho br undef (fun _ => hg.symm) (fun _ _ => rfl) (fun d _ hd W _ => hfree d hd W)⟩
theorem reach {Q : Act → World → Prop} (hsel : Region.noSelect ops = true) (hB : headB md ops n = true) (inv : Inv P ops md n ks w0 a0 s a w u) {L : List Oper} (hL : ∀ j, j < n → L[j]? = ops[j]?) (hLn : L.length = n) (ht : tree P ops ks w0 Q L bare a0) :
    ∀ k, k ≤ n → ∃ b F, tree P ops ks w0 Q (L.drop k) F b ∧ Br ops ks a0 s a u k b F
  | 0, _ => ⟨a0, bare, by simpa using ht, rfl, rfl, fun _ _ => rfl, fun j _ _ hj => absurd hj (by omega), fun _ _ _ => trivial, fun j _ _ hj => absurd hj (by omega)⟩
  | k + 1, hk => by
    obtain ⟨b, F, h, br⟩ := reach hsel hB inv hL hLn ht k (by omega)
    obtain ⟨o, ho⟩ := head_op hB (show k < n by omega)
    have hd : L.drop k = o :: L.drop (k + 1) := by
      have h1 : L[k]? = some o := by rw [hL k (by omega)]; exact ho
      obtain ⟨hlt, he⟩ := List.getElem?_eq_some_iff.1 h1
      rw [List.drop_eq_getElem_cons hlt, he]
    rw [hd] at h
    exact br_step hsel hB inv (by omega) ho br h
theorem inv_next (hsel : Region.noSelect ops = true) (hB : headB md ops n = true) (inv : Inv P ops md n ks w0 a0 s a w u) {i : Nat} {o : Oper} (hi : i < n) (ho : ops[i]? = some o) (hr : i ∈ Region.ready md ops s) {v : Value} {w' : World} (hg : Step w0.heap.size w w')
    (hgood : Good P ops n ks w0 u o a w' v) : Inv P ops md n ks w0 a0 (s.setIfInBounds i true) (a.put o.dst v) w' (fun j => if j = i then v else u j) := by
  have hun : s.getD i false = false := getD_both (mem_ready.1 hr).1
  have hset : ∀ j, j ≠ i → (s.setIfInBounds i true).getD j false = true → s.getD j false = true := fun j hj h => by rwa [getD_set_ne false (Ne.symm hj)] at h
  -- an executed operation looks not at the new slot
  have hlook : ∀ j p, j < n → ops[j]? = some p → s.getD j false = true → ∀ d, o.dst = some d → d ∉ p.looksAt ops := fun j p hj hp hex d hd hm => by
    have h1 := waits_done (s := s) hp ((head_apart hB hj hp hi ho hd).2 hm).2 (inv.head.closed j p hp hex)
    rw [hun] at h1
    cases h1
  have hself : ∀ d, o.dst = some d → d ∉ o.looksAt ops := fun d hd hm => by
    have := ((head_apart hB hi ho hi ho hd).2 hm).1
    omega
  have htold : ∀ j p, j < n → ops[j]? = some p → s.getD j false = true → ∀ W, Told ops ks p a W (u j) → Told ops ks p (a.put o.dst v) W (if j = i then v else u j) := fun j p hj hp hex W h V hV hk hw => by
    have hji : j ≠ i := fun e => by rw [e, hun] at hex; cases hex
    rw [wanted_put p a o.dst v (hlook j p hj hp hex)] at hw
    rw [if_neg hji]
    exact h V hV hk hw
  have hgoodp : ∀ p, (∀ d, o.dst = some d → d ∉ p.looksAt ops) → (∀ cs b, p.op ≠ .select cs b) → Settled ops n s p → ∀ x, Good P ops n ks w0 u p a w' x → Good P ops n ks w0 (fun j => if j = i then v else u j) p (a.put o.dst v) w' x := fun p hp hsp hsett x h => by
    unfold Good at h ⊢
    rw [wanted_put p a o.dst v hp]
    by_cases hw : Region.wanted p (yielded ops a.tmps) = true
    · rw [if_pos hw] at h ⊢
      cases hkd : kindOf ks p with
      | none =>
        rw [hkd] at h
        simp only at h ⊢
        obtain ⟨W, h1, h2, h3⟩ := h
        refine ⟨W, h1, fun d hm j q hj hq hd => htold j q hj hq (hsett j q d hj hq hd hm) W (h2 d hm j q hj hq hd), ?_⟩
        rw [execOp_put p hsp a o.dst v hp]
        exact h3
      | some kd =>
        rw [hkd] at h
        cases kd <;> exact h
    · rw [if_neg hw] at h ⊢
      exact h
  refine ⟨inv.head.set hr hi, Below.trans inv.grow hg.old, by rw [put_defers]; exact inv.defers, by rw [put_size]; exact inv.size, fun d h => ?_, fun j p d hj hp hex hd => ?_, fun j p hj hp hex => ?_⟩
  · have hlt : i < s.size := by rw [inv.head.size]; exact (Array.getElem?_eq_some_iff.1 ho).1
    rw [put_get _ _ _ _ (h i o hi ho (by simp [hlt]))]
    exact inv.rest d (fun j p hj hp hex => h j p hj hp (getD_set_true hex))
  · by_cases hji : j = i
    · subst hji
      rw [ho] at hp
      cases hp
      rw [hd]
      simp only [if_pos]
      exact put_self _ _ _ inv.size
    · rw [put_get _ _ _ _ ((head_apart hB hi ho hj hp hd).1 (fun e => hji e.symm))]
      simp only [if_neg hji]
      exact inv.slot j p d hj hp (hset j hji hex) hd
  · by_cases hji : j = i
    · subst hji
      rw [ho] at hp
      cases hp
      simp only [if_pos]
      exact hgoodp o hself (Region.noSelect_spec hsel j o · · ho) (settled_of hB hi ho (mem_ready.1 hr |>.2.elim fun o' h => by
        have e := h.1
        rw [ho] at e
        cases e
        exact h.2)) v hgood
    · have hex' := hset j hji hex
      simp only [if_neg hji]
      refine hgoodp p (hlook j p hj hp hex') (Region.noSelect_spec hsel j p · · hp) (settled_of hB hj hp (inv.head.closed j p hp hex')) (u j) ?_
      have h := inv.good j p hj hp hex'
      unfold Good at h ⊢
      by_cases hw : Region.wanted p (yielded ops a.tmps) = true
      · rw [if_pos hw] at h ⊢
        cases hkd : kindOf ks p with
        | none => rw [hkd] at h; exact h
        | some kd =>
          rw [hkd] at h
          cases kd with
          | const c => exact h
          | any V hV => exact hV _ _ _ hg.soft h
      · rw [if_neg hw] at h ⊢
        exact h
theorem wp_of_rel {B : Nat} {o : Oper} {V : Value → World → Prop} {R : Exit → Act → World → Prop} {K : Act → World → Prop} (h : stepAt P B o a w V) (hK : ∀ v w', Step B w w' → V v w' → K (a.put o.dst v) w') : o.wp P a w K R := by
  unfold stepAt at h
  unfold Oper.wp
  generalize (execOp a.eval o).run P w = r at *
  cases r with
  | ok x w1 =>
    cases x <;> simp only [stepUpon] at h <;> simp only [Oper.upon]
    case value v => exact hK _ _ h.1 h.2
    case skip => exact hK _ _ h.1 h.2
    case enter f args => exact Calls.mono h fun e w'' ⟨v, he, hg, hV⟩ => by subst he; exact hK _ _ hg hV
  | halt x w1 => simp only [stepUpon] at h
theorem canon_eq {s : Array Bool} {m : Nat} (hn : n ≤ m) (hs : s.size = m) (h1 : ∀ j, j < n → s.getD j false = true) (h2 : ∀ j, n ≤ j → j < m → s.getD j true = false) : s = canon n m := by
  apply Array.ext_getElem?
  intro j
  unfold canon
  have e : (List.replicate n true ++ List.replicate (m - n) false).toArray[j]? = (List.replicate n true ++ List.replicate (m - n) false)[j]? := by rw [List.getElem?_toArray]
  rw [e]
  by_cases hj : j < m
  · have hjs : j < s.size := by omega
    rw [Array.getElem?_eq_getElem hjs]
    by_cases hjn : j < n
    · have := h1 j hjn
      simp only [Array.getD_eq_getD_getElem?, Array.getElem?_eq_getElem hjs, Option.getD_some] at this
      rw [this, List.getElem?_append_left (by rw [List.length_replicate]; exact hjn), List.getElem?_replicate, if_pos hjn]
    · have := h2 j (by omega) hj
      simp only [Array.getD_eq_getD_getElem?, Array.getElem?_eq_getElem hjs, Option.getD_some] at this
      rw [this, List.getElem?_append_right (by rw [List.length_replicate]; omega), List.length_replicate, List.getElem?_replicate, if_pos (by omega)]
  · rw [Array.getElem?_eq_none (by omega), List.getElem?_eq_none (by rw [List.length_append, List.length_replicate, List.length_replicate]; omega)]
theorem tree_any {Q : Act → World → Prop} {R : Exit → Act → World → Prop} {g : Nat} (hsel : Region.noSelect ops = true) (hB : headB md ops n = true) (hn : n ≤ ops.size) (hT : ∀ s, HeadInv md ops n s → ∀ i, i < n → s.getD i true = false → ∀ t, t ∈ Region.ready md ops s → t < n)
    {L : List Oper} (hL : ∀ j, j < n → L[j]? = ops[j]?) (hLn : L.length = n) (ht : tree P ops ks w0 Q L bare a0) (hQ : ∀ a w, Q a w → wpAny P md ops R g (canon n ops.size) a w) :
    ∀ (m : Nat) (s : Array Bool) (a : Act) (w : World) (u : Nat → Value), Inv P ops md n ks w0 a0 s a w u → cnt s n = m → wpAny P md ops R (m + g) s a w
  | 0, s, a, w, u, inv, hc => by
    have hall := cnt_zero n hc
    obtain ⟨b, F, h, br⟩ := reach hsel hB inv hL hLn ht n (Nat.le_refl _)
    rw [List.drop_of_length_le (by omega)] at h
    have hba : b = a := by
      have e1 : b.tmps = a.tmps := by
        apply Array.ext_getElem?
        intro d
        by_cases hx : ∃ j p, j < n ∧ ops[j]? = some p ∧ p.dst = some d
        · obtain ⟨j, p, hj, hp, hd⟩ := hx
          rw [br.slot j p d hj hp (hall j hj) hd, inv.slot j p d hj hp (hall j hj) hd]
        · rw [br.rest d (fun j p hj hp hd => hx ⟨j, p, hj, hp, hd⟩), inv.rest d (fun j p hj hp _ hd => hx ⟨j, p, hj, hp, hd⟩)]
      have e2 : b.defers = a.defers := br.defers.trans inv.defers.symm
      cases b; cases a
      simp only at e1 e2
      rw [e1, e2]
    rw [hba] at h
    have hq : Q a w := h w inv.grow (fun d => by
      by_cases hx : ∃ j p, j < n ∧ ops[j]? = some p ∧ p.dst = some d
      · obtain ⟨j, p, hj, hp, hd⟩ := hx
        exact br.told j p d hj hp (hall j hj) hd w (told_now inv hj hp (hall j hj))
      · exact br.free d (fun j p hj hp hd => hx ⟨j, p, hj, hp, hd⟩) w)
    rw [Nat.zero_add, canon_eq hn inv.head.size hall (fun j h1 h2 => inv.head.tail j h1 h2)]
    exact hQ a w hq
  | m + 1, s, a, w, u, inv, hc => by
    have e : m + 1 + g = m + g + 1 := by omega
    rw [e]
    obtain ⟨i0, hi0, hf0, hlow⟩ := cnt_pos (s := s) n (by omega)
    have hs0 : i0 < s.size := by rw [inv.head.size]; omega
    obtain ⟨o0, ho0⟩ := head_op hB hi0
    have hr0 : i0 ∈ Region.ready md ops s := mem_ready.2 ⟨getD_in hs0 hf0, o0, ho0, fun e he hb => hlow e.on (head_edges hB hi0 ho0 e he hb)⟩
    refine ⟨fun h => (by rw [h] at hr0; cases hr0), fun i hi => ?_⟩
    have hin : i < n := hT s inv.head i0 hi0 (getD_in hs0 hf0) i hi
    obtain ⟨hun, o, ho, hall⟩ := mem_ready.1 hi
    have hset : Settled ops n s o := settled_of hB hin ho hall
    obtain ⟨b, F, h, br⟩ := reach hsel hB inv hL hLn ht i (by omega)
    have hd : L.drop i = o :: L.drop (i + 1) := by
      have h1 : L[i]? = some o := by rw [hL i hin]; exact ho
      obtain ⟨hlt, he⟩ := List.getElem?_eq_some_iff.1 h1
      rw [List.drop_eq_getElem_cons hlt, he]
    rw [hd] at h
    obtain ⟨hexec, hwant⟩ := exec_agree o (Region.noSelect_spec hsel i o · · ho) (looks_agree hB inv hin ho hset br)
    have hfw := facts_of hB hin ho hset br (W := w) (fun d hm j p hj hp hpd => told_now inv hj hp (hset j p d hj hp hpd hm))
    have hcs : cnt (s.setIfInBounds i true) n = m := by
      have := cnt_set (s := s) (i := i) (by rw [inv.head.size]; omega) (getD_both hun) n hin
      omega
    have next : ∀ v w', Step w0.heap.size w w' → Good P ops n ks w0 u o a w' v → wpAny P md ops R (m + g) (s.setIfInBounds i true) (a.put o.dst v) w' := fun v w' hg hgood =>
      tree_any hsel hB hn hT hL hLn ht hQ m _ _ _ _ (inv_next hsel hB inv hin ho hi hg hgood) hcs
    unfold tree at h
    unfold wpOp
    simp only [ho]
    by_cases hw : Region.wanted o (yielded ops b.tmps) = true
    · rw [if_pos hw] at h
      rw [hwant] at hw
      rw [if_pos hw]
      refine .inl ?_
      have hgd : ∀ v w', (match kindOf ks o with
          | .none => ∃ W, Grow w0 W ∧ (∀ d, d ∈ o.looksAt ops → ∀ j p, j < n → ops[j]? = some p → p.dst = some d → Told ops ks p a W (u j)) ∧ (execOp a.eval o).run P W = .ok (.value v) W
          | .some (.const c) => v = c
          | .some (.any V _) => V v w') → Good P ops n ks w0 u o a w' v := fun v w' hx => by
        unfold Good
        rw [if_pos hw]
        exact hx
      cases hkd : kindOf ks o with
      | none =>
        rw [hkd] at h
        obtain ⟨_, v, hv, _⟩ := h
        have hrun := hv w inv.grow hfw
        rw [hexec] at hrun
        unfold Oper.wp
        rw [hrun]
        exact next v w (Step.refl _ _) (hgd v w (by
          rw [hkd]
          exact ⟨w, inv.grow, fun d hm j p hj hp hpd => told_now inv hj hp (hset j p d hj hp hpd hm), hrun⟩))
      | some kd =>
        rw [hkd] at h
        cases kd with
        | const c =>
          have hr := h.1 w inv.grow hfw
          unfold stepAt at hr
          rw [hexec] at hr
          exact wp_of_rel hr (fun v w' hg hv => next v w' hg (hgd v w' (by rw [hkd]; exact hv)))
        | any V hV =>
          have hr := h.1 w inv.grow hfw
          unfold stepAt at hr
          rw [hexec] at hr
          exact wp_of_rel hr (fun v w' hg hv => next v w' hg (hgd v w' (by rw [hkd]; exact hv)))
    · rw [hwant] at hw
      rw [if_neg hw]
      exact next undef w (Step.refl _ _) (by unfold Good; rw [if_neg hw])
/-- The region's law: n operations in whatever order, then a tail in one order. -/
theorem wp_region_rel {id : Nat} {Q : Exit → Act → World → Prop} {a : Act} {w : World} {l : List Oper} (n : Nat) (ks : List (Tmp × Kind)) (hm : P.follows .mixedOrders = true) (hB : okB .any l.toArray n = true)
    (h : tree P l.toArray ks w.drew (fun a' W => wpList P l.toArray Q (l.drop n) a' W) (l.take n) bare a) : (Code.region id l.toArray true).wp P Q a w := by
  simp only [okB, Bool.and_eq_true] at hB
  obtain ⟨⟨⟨hsel, hhead⟩, htail⟩, hseq⟩ := hB
  have hn : n ≤ l.toArray.size := by
    simp only [tailB, Bool.or_eq_true, decide_eq_true_eq, Bool.and_eq_true] at htail
    omega
  have hnl : n ≤ l.length := by simpa using hn
  have hT : ∀ s, HeadInv .any l.toArray n s → ∀ i, i < n → s.getD i true = false → ∀ t, t ∈ Region.ready .any l.toArray s → t < n := fun s inv i hi hun t ht => by
    simp only [tailB, Bool.or_eq_true, decide_eq_true_eq, Bool.and_eq_true] at htail
    rcases htail with h1 | ⟨⟨h1, h2⟩, h3⟩
    · obtain ⟨_, o, ho, _⟩ := mem_ready.1 ht
      have := (Array.getElem?_eq_some_iff.1 ho).1
      omega
    · rcases Nat.lt_or_ge t n with h4 | h4
      · exact h4
      · exact absurd ht (tail_waits h2 h3 h1 inv _ i rfl hi hun t h4)
  have inv0 : Inv P l.toArray .any n ks w.drew a (Array.replicate l.toArray.size false) a w.drew (fun _ => undef) :=
    ⟨⟨by simp, fun j oj _ hl => (by rw [getD_replicate_false] at hl; cases hl), fun t _ ht => getD_in (by simpa using ht) (getD_replicate_false _ _)⟩, Grow.refl _, rfl, rfl, fun _ _ => rfl, fun j o d _ _ hl => (by rw [getD_replicate_false] at hl; cases hl), fun j o _ _ hl => (by rw [getD_replicate_false] at hl; cases hl)⟩
  have hc : ∀ m, cnt (Array.replicate l.toArray.size false) m = m := fun m => by
    induction m with
    | zero => rfl
    | succ m ih => rw [cnt, ih, getD_replicate_false]; rfl
  refine wp_region_any hm ?_
  have hdl : (l.drop n).length = l.toArray.size - n := by simp
  have := tree_any (g := l.toArray.size - n) (R := Q) hsel hhead hn hT (L := l.take n) (fun j hj => by simp [hj]) (by simp; omega) h (fun a' w' hq => by
    have h2 := wpAny_of_seq (md := .any) (Q' := Q) (l.drop n) n (canon n l.toArray.size) a' w' (fun j => by simp [List.getElem?_drop]) (by rw [hdl]; exact hseq) hq
    rwa [hdl] at h2) n _ _ _ _ inv0 (hc n)
  rw [show n + (l.toArray.size - n) = l.toArray.size by omega] at this
  exact this
/-! ### Steps -/
theorem tree_skip {Q : Act → World → Prop} {o : Oper} {rest : List Oper} {F : Facts} (hw : Region.wanted o (yielded ops a.tmps) = false) (h : tree P ops ks w0 Q rest F (a.put o.dst undef)) : tree P ops ks w0 Q (o :: rest) F a := by
  unfold tree
  rw [if_neg (by rw [hw]; exact Bool.false_ne_true)]
  exact h
/-- An operation as it stands, in a class of worlds: the quiet walk's own step serves. -/
theorem tree_quiet {Q : Act → World → Prop} {o : Oper} {rest : List Oper} {F : Facts} (hw : Region.wanted o (yielded ops a.tmps) = true) (hk : kindOf ks o = .none) (hp : pureOp o = true)
    (h : ∀ K : Act → Prop, (∀ a', tree P ops ks w0 Q rest F a' → K a') → o.quiet P a (fun w' => ∃ p : Regrown, w' = Sort.grow (redrawn w0 p.d) p.os) K) : tree P ops ks w0 Q (o :: rest) F a := by
  unfold tree
  rw [if_pos hw, hk]
  obtain ⟨v, hv, hn⟩ := h _ (fun _ h => h)
  refine ⟨hp, v, fun W hg _ => ?_, hn⟩
  have hq := hv W (regrown_of_below hg)
  unfold Oper.quietAt at hq
  generalize hr : (execOp a.eval o).run P W = r at *
  cases r with
  | ok x w1 =>
    obtain ⟨y, rfl⟩ := value_of_pure hp hr
    simp only [Oper.quietUpon] at hq
    rw [hq.1, hq.2]
  | halt x w1 => simp only [Oper.quietUpon] at hq
theorem tree_pure {Q : Act → World → Prop} {o : Oper} {rest : List Oper} {F : Facts} (hw : Region.wanted o (yielded ops a.tmps) = true) (hk : kindOf ks o = .none) (hp : pureOp o = true) (v : Value)
    (h : ∀ W, Grow w0 W → (∀ d, d ∈ o.looksAt ops → F d W) → (execOp a.eval o).run P W = .ok (.value v) W) (hn : tree P ops ks w0 Q rest F (a.put o.dst v)) : tree P ops ks w0 Q (o :: rest) F a := by
  unfold tree
  rw [if_pos hw, hk]
  exact ⟨hp, v, h, hn⟩
theorem tree_const {Q : Act → World → Prop} {o : Oper} {rest : List Oper} {F : Facts} (hw : Region.wanted o (yielded ops a.tmps) = true) (c : Value) (hk : kindOf ks o = some (.const c))
    (h : ∀ W, Grow w0 W → (∀ d, d ∈ o.looksAt ops → F d W) → relAt P o a W (fun v _ => v = c)) (hn : tree P ops ks w0 Q rest F (a.put o.dst c)) : tree P ops ks w0 Q (o :: rest) F a := by
  unfold tree
  rw [if_pos hw, hk]
  exact ⟨fun W hW hF => stepAt.of (Below.size hW) (h W hW hF), hn⟩
theorem tree_rel {Q : Act → World → Prop} {o : Oper} {rest : List Oper} {F : Facts} (hw : Region.wanted o (yielded ops a.tmps) = true) (V : Value → World → Prop) (hV : ∀ v W W', Soft W W' → V v W → V v W') (hk : kindOf ks o = some (.any V hV))
    (h : ∀ W, Grow w0 W → (∀ d, d ∈ o.looksAt ops → F d W) → relAt P o a W V) (hn : ∀ v, tree P ops ks w0 Q rest (F.put o.dst (V v)) (a.put o.dst v)) : tree P ops ks w0 Q (o :: rest) F a := by
  unfold tree
  rw [if_pos hw, hk]
  exact ⟨fun W hW hF => stepAt.of (Below.size hW) (h W hW hF), hn⟩
/-- The same, where an operation turns a new block's mark. -/
theorem tree_step {Q : Act → World → Prop} {o : Oper} {rest : List Oper} {F : Facts} (hw : Region.wanted o (yielded ops a.tmps) = true) (V : Value → World → Prop) (hV : ∀ v W W', Soft W W' → V v W → V v W') (hk : kindOf ks o = some (.any V hV))
    (h : ∀ W, Grow w0 W → (∀ d, d ∈ o.looksAt ops → F d W) → stepAt P w0.heap.size o a W V) (hn : ∀ v, tree P ops ks w0 Q rest (F.put o.dst (V v)) (a.put o.dst v)) : tree P ops ks w0 Q (o :: rest) F a := by
  unfold tree
  rw [if_pos hw, hk]
  exact ⟨h, hn⟩
/-- A row that an operation has made: its cells, in a block that is new since B. -/
def Lit8 (B : Nat) (t : TypeId) (cs : List Value) (v : Value) (W : World) : Prop := ∃ g, v = .slice (some ⟨g, 0, none⟩) cs.length cs.length ∧ B ≤ g ∧ g < W.heap.size ∧ W.shape? g = some (t, cs.length) ∧ ∀ (i : Nat) (x : Value), cs[i]? = some x → W.cell? ⟨g, i, none⟩ = some x
theorem Lit8.soft {B : Nat} {t : TypeId} {cs : List Value} : ∀ v W W', Soft W W' → Lit8 B t cs v W → Lit8 B t cs v W' := fun _ _ _ h ⟨g, h1, h2, h3, h4, h5⟩ =>
  ⟨g, h1, h2, Nat.lt_of_lt_of_le h3 h.size, h.shape _ _ h4, fun i x hx => h.cell _ _ (h5 i x hx)⟩
theorem alloc_at (W : World) (o : Obj) : (W.alloc o).heap[W.heap.size]? = some o := by
  show (W.heap.push o)[W.heap.size]? = some o
  simp
theorem lit8_new {B : Nat} {t : TypeId} {W : World} (cs : List Value) (hB : B ≤ W.heap.size) : Lit8 B t cs (.slice (some ⟨W.heap.size, 0, none⟩) cs.length cs.length) (W.alloc (.cells cs.toArray t)) := by
  refine ⟨W.heap.size, rfl, hB, by simp, ?_, fun i x hx => ?_⟩
  · unfold World.shape?
    rw [alloc_at]
    rfl
  · unfold World.cell?
    rw [alloc_at]
    simpa using hx
def fzO (n : Nat) : Obj → Obj
  | .cells c elem (lo, hi) => .cells c elem (if lo == hi then (n, n + 1) else (min lo n, max hi (n + 1)))
  | o => o
theorem freeze_heap (W : World) (g n : Nat) : (W.freeze ⟨g, n, none⟩ 1).heap = W.heap.modify g (fzO n) := by
  unfold World.freeze
  rw [if_neg (by decide)]
  dsimp only
  congr 1
theorem freeze_at (W : World) (g n k : Nat) : (W.freeze ⟨g, n, none⟩ 1).heap[k]? = if g = k then (W.heap[k]?).map (fzO n) else W.heap[k]? := by
  rw [freeze_heap]
  exact Array.getElem?_modify
theorem freeze_rest (W : World) (g n : Nat) : (W.freeze ⟨g, n, none⟩ 1).os = W.os ∧ (W.freeze ⟨g, n, none⟩ 1).tape = W.tape ∧ (W.freeze ⟨g, n, none⟩ 1).output = W.output := by
  unfold World.freeze
  rw [if_neg (by decide)]
  exact ⟨rfl, rfl, rfl⟩
theorem freeze_step {B g n : Nat} {W : World} (hB : B ≤ g) : Step B W (W.freeze ⟨g, n, none⟩ 1) := by
  obtain ⟨h1, h2, h3⟩ := freeze_rest W g n
  refine ⟨⟨h1, h2, h3, by rw [freeze_heap]; simp, fun k hk => ?_⟩, ⟨by rw [freeze_heap]; simp, fun p v hp => ?_, fun k x hx => ?_⟩⟩
  · rw [freeze_at, if_neg (by omega)]
  · unfold World.cell? at hp ⊢
    rw [freeze_at]
    by_cases h : g = p.block
    · rw [if_pos h]
      cases ho : W.heap[p.block]? with
      | none => rw [ho] at hp; cases hp
      | some o =>
        rw [ho] at hp
        cases o <;> first | exact hp | cases hp
    · rw [if_neg h]
      exact hp
  · unfold World.shape? at hx ⊢
    rw [freeze_at]
    by_cases h : g = k
    · rw [if_pos h]
      cases ho : W.heap[k]? with
      | none => rw [ho] at hx; cases hx
      | some o =>
        rw [ho] at hx
        cases o <;> first | exact hx | cases hx
    · rw [if_neg h]
      exact hx
/-- A constant string's bytes: the row's mark turns, its value goes on. -/
theorem stepAt_const {B : Nat} {t e : TypeId} {o : Oper} {cs : List Value} {x : Operand} {W : World} (ho : o.op = .convert t t x) (ht : P.underlying t = some (.slice e)) (he : P.underlying e = some (.int .u8)) (v : Value) (hx : a.eval x = v) (h : Lit8 B e cs v W) :
    stepAt P B o a W (Lit8 B e cs) := by
  obtain ⟨g, rfl, hB, hlt, hs, hc⟩ := h
  have hr : (Go.convert t t (.slice (some ⟨g, 0, none⟩) cs.length cs.length)).run P W = .ok (.slice (some ⟨g, 0, none⟩) cs.length cs.length) (W.freeze ⟨g, cs.length, none⟩ 1) := by
    simp [Go.convert, run_underlying ht, run_underlying he, markStringish, hs]
  unfold stepAt execOp
  simp only [ho, hx]
  rw [Sem.run_bind, hr]
  simp only [Result.andThen_ok, Sem.run_pure, stepUpon]
  have hst : Step B W (W.freeze ⟨g, cs.length, none⟩ 1) := freeze_step hB
  exact ⟨hst, Lit8.soft _ _ _ hst.soft ⟨g, rfl, hB, hlt, hs, hc⟩⟩
theorem Grow.alloc (W : World) (o : Obj) : Grow W (W.alloc o) := (Below.refl _ W).alloc (Nat.le_refl _) _
end
end Rel
end Go.Proofs.YtpakdcgcgekcfaaDoor

/-
  Words for the drawn regions' walk (Rel): bytes that a call hands back; arrays by value.
-/
set_option linter.unusedSimpArgs false
set_option linter.unusedVariables false
namespace Go.Proofs.YtpakdcgcgekcfaaDoor
open Go.RowKit

namespace R1
/-- A slice that reads as bytes. -/
def Bytes (l : List Nat) (v : Value) (W : World) : Prop := ∃ A c, v = .slice A l.length c ∧ l.length ≤ c ∧ Nats .u8 256 W W.heap.size A l
theorem nats_soft {k : IntKind} {M : Nat} {W W' : World} {A : Option Addr} {l : List Nat} (h : Rel.Soft W W') (hN : Nats k M W W.heap.size A l) : Nats k M W' W'.heap.size A l := fun i z hz => by
  obtain ⟨h1, b, off, h2, h3, h4⟩ := hN i z hz
  exact ⟨h1, b, off, h2, Nat.lt_of_lt_of_le h3 h.size, h.cell _ _ h4⟩
theorem Bytes.grow {l : List Nat} : ∀ (v : Value) (W W' : World), Rel.Soft W W' → Bytes l v W → Bytes l v W' := fun _ _ _ h ⟨A, c, h1, h2, h3⟩ => ⟨A, c, h1, h2, nats_soft h h3⟩
theorem own_nats {w : World} {base : Nat} {v : Value} {l : List Nat} (h : OwnB w base v l) (hb : ∀ x ∈ l, x < 256) :
    ∃ A c, v = .slice A l.length c ∧ l.length ≤ c ∧ Nats .u8 256 w w.heap.size A l ∧ ∀ ad : Addr, A = some ad → base ≤ ad.block := by
  have h' : w.ownsRow base 5 1 v l.length ((l.map fun x => ((x : Nat) : Int)).map (Value.int .u8)) := by
    simpa [OwnB, List.map_map, Function.comp_def] using h
  obtain ⟨_, A, c, rfl, hc, hi, hA⟩ := own_ints h' (fun z hz => by
    obtain ⟨x, hx, rfl⟩ := List.mem_map.1 hz
    have := hb x hx
    have hw : ∀ n : Fin 256, (Lit.int .u8 ((n.val : Nat) : Int)).wf = true := by decide +kernel
    exact hw ⟨x, this⟩)
  refine ⟨A, c, rfl, hc, fun i z hz => ?_, hA⟩
  obtain ⟨_, b, off, h1, h2, h3⟩ := hi i z (by simp [hz])
  exact ⟨hb z (List.mem_of_getElem? hz), b, off, h1, h2, h3⟩
theorem own_bytes {w : World} {base : Nat} {v : Value} {l : List Nat} (h : OwnB w base v l) (hb : ∀ x ∈ l, x < 256) : Bytes l v w :=
  let ⟨A, c, h1, h2, h3, _⟩ := own_nats h hb
  ⟨A, c, h1, h2, h3⟩
/-- A call that hands back bytes, in the drawn walk. -/
theorem bytes_call {P : Program} {f : FuncId} {args : Array Value} {W : World} {l : List Nat} (h : Calls P f args W (BytesOut W l)) (hb : ∀ x ∈ l, x < 256) : Calls P f args W (fun e w'' => ∃ v, e = .returned v ∧ Rel.Grow W w'' ∧ Bytes l v w'') :=
  h.mono fun _ _ ⟨v, he, ho, hB⟩ => ⟨v, he, hB, own_bytes ho hb⟩
theorem const_call {P : Program} {f : FuncId} {args : Array Value} {W : World} {c : Value} (h : Calls P f args W (fun e w' => e = .returned c ∧ Below W.heap.size W w')) : Calls P f args W (fun e w'' => ∃ v, e = .returned v ∧ Rel.Grow W w'' ∧ v = c) :=
  h.mono fun _ _ ⟨he, hB⟩ => ⟨c, he, hB, rfl⟩
end R1
theorem nats_far {k : IntKind} {M : Nat} {w : World} {B : Nat} {A : Option Addr} {l : List Nat} (h : Nats k M w B A l) {g : Nat} (hne : ∀ ad : Addr, A = some ad → ad.block ≠ g) (i : Nat) (u : Value) : Nats k M (w.setCell ⟨g, i, none⟩ u) B A l := fun j z hz => by
  obtain ⟨h1, b, off, h2, h3, h4⟩ := h j z hz
  refine ⟨h1, b, off, h2, h3, ?_⟩
  rw [← h4]
  exact World.cell?_of_block (Below.heap_setCell w ⟨g, i, none⟩ u b (hne _ h2))
namespace Rel
theorem exec_load {P : Program} {o : Oper} {a : Act} {W : World} (ty : TypeId) (x : Operand) (ho : o.op = .load ty x) (b off : Nat) (hx : a.eval x = .pointer (some ⟨b, off, none⟩)) (cs : Array Value) (d : TypeDesc) (hc : W.rangeAt b off cs.toList) (hu : P.underlying ty = some d) (hd : d.isRow = true) (hi : (P.info? ty).map (·.size) = some cs.size) :
    (execOp a.eval o).run P W = .ok (.value (.agg cs)) W := by
  unfold execOp
  simp only [ho, hx]
  rw [Sem.run_bind, run_loadAt_mid W b off ty cs.toList d hc hu hd (by simpa using hi)]
  simp [Result.andThen]
theorem exec_field {P : Program} {o : Oper} {a : Act} {W : World} (ty : TypeId) (x : Operand) (i : Nat) (ho : o.op = .field ty x i) (v v' : Value) (hx : a.eval x = v) (h : (Instr.field ty v i).run P W = .ok v' W) : (execOp a.eval o).run P W = .ok (.value v') W := by
  unfold execOp
  simp only [ho, hx]
  rw [Sem.run_bind, h]
  simp [Result.andThen]
theorem exec_build {P : Program} {o : Oper} {a : Act} {W : World} (t : TypeId) (parts : List (Nat × Operand)) (ho : o.op = .build t parts.toArray) (cells : Array Value) (h : P.built t (parts.map fun p => (p.1, a.eval p.2)) = some cells) : (execOp a.eval o).run P W = .ok (.value (.agg cells)) W := by
  have h' : P.built t (parts.toArray.map fun (i, x) => (i, a.eval x)).toList = some cells := by
    rw [← h]
    congr 1
    simp
  unfold execOp
  simp only [ho]
  rw [Sem.run_bind, run_build W t _ cells h']
  simp [Result.andThen]
theorem Grow.blk {w W : World} {g : Nat} {t : TypeId} {cs : Array Value} (h : Grow w W) (k : Blk w g t cs) : Blk W g t cs := k.next h rfl
theorem Grow.undrew {w W : World} (h : Grow w.drew W) : Below w.heap.size w W := by
  have h' : Below w.drew.heap.size w.drew W := h
  exact ⟨h'.os, h'.tape, h'.output, h'.size, h'.block⟩
end Rel
end Go.Proofs.YtpakdcgcgekcfaaDoor

/-
  An element of an array by value. No program in sight.
-/
set_option linter.unusedSimpArgs false
set_option linter.unusedVariables false
namespace Go.Proofs.YtpakdcgcgekcfaaDoor
open Go.RowKit

theorem run_index_arr {P : Program} (t e : TypeId) (N : Nat) (ht : P.underlying t = some (.array N e)) (hs : ∀ w, (sizeOf e).run P w = .ok 1 w) (ha : ∀ w, (isAgg e).run P w = .ok false w) (cs : Array Value) (kl : IntKind) (l : Int) (j : Nat) (hj : l = j) (hlt : j < N) (v : Value) (hv : cs[j]? = some v) (w : World) :
    (Instr.index t (.agg cs) (.int kl l)).run P w = .ok v w := by
  subst hj
  have h1 : (0 : Int) ≤ (j : Int) ∧ (j : Int) < (N : Int) := by omega
  simp [Instr.index, run_underlying ht, asIntOf, h1, go_sem, hs, hv, hlt, ha]
end Go.Proofs.YtpakdcgcgekcfaaDoor

/-
  Bytes of the call's own: a byte behind them, others behind them.
-/
set_option linter.unusedSimpArgs false
set_option linter.unusedVariables false
namespace Go.Proofs.YtpakdcgcgekcfaaDoor
open Go.RowKit

namespace R1
theorem wpList_append_byte {ops : Array Oper} {rest : List Oper} {o : Oper} {a : Act} {W : World} {Q : Exit → Act → World → Prop} (hgd : o.guard = none) (s x : Operand) (ho : o.op = .call { callee := .builtin .append, args := #[s, x], argTypes := #[53, 53] })
    (B : Nat) (v : Value) (l : List Nat) (hs : a.eval s = v) (hO : OwnB W B v l) (y : Nat) (hx : a.eval x = .slice (some ⟨W.heap.size, 0, none⟩) 1 1) (hl : l.length ≤ 1000000) (hB : B ≤ W.heap.size)
    (h : ∀ v' w', OwnB w' B v' (l ++ [y]) → Below B W w' → wpList Tryd.prog ops Q rest (a.put o.dst v') w') : wpList Tryd.prog ops Q (o :: rest) a (W.alloc (.cells #[.int .u8 (y : Int)] 5)) := by
  obtain ⟨i0, hi0, hz0, hz1, hz2⟩ := info_row u8_info
  refine wpList_append_own _ hgd s x 53 ho B 5 i0 (.int .u8 0) 1 1 Tryd.underlying53 hi0 hz0 hz1 hz2 rfl (by decide) v _ _ hs (hO.alloc _) ⟨W.heap.size, 0, none⟩ 1 1 [.int .u8 (y : Int)] hx rfl (by simpa using cell_one_new W (.int .u8 (y : Int)) 5) (fun u hu => by simp at hu; subst hu; rfl) (by simp only [maxLen]; omega) (by omega) (by simp; omega) (fun v1 w1 hO1 hg1 _ => ?_)
  refine h v1 w1 ?_ ((((Below.refl W.heap.size W).alloc (Nat.le_refl _) _).mono hB).grown hg1 (by simp; omega) (fun k hk => (World.ownsRow.lt hO k hk).1))
  unfold OwnB
  rw [List.length_append, List.map_append]
  exact hO1
theorem wpList_append_bytes {ops : Array Oper} {rest : List Oper} {o : Oper} {a : Act} {W : World} {Q : Exit → Act → World → Prop} (hgd : o.guard = none) (s x : Operand) (ho : o.op = .call { callee := .builtin .append, args := #[s, x], argTypes := #[53, 53] })
    (B : Nat) (v : Value) (l : List Nat) (hs : a.eval s = v) (hO : OwnB W B v l) (A : Option Addr) (n c : Nat) (l' : List Nat) (hx : a.eval x = .slice A n c) (hn : l'.length = n) (hN : ∃ B', Nats .u8 256 W B' A l') (hnil : A = none → c = 0) (hl : l.length + n ≤ 1000000) (hB : B ≤ W.heap.size)
    (h : ∀ v' w', OwnB w' B v' (l ++ l') → Below B W w' → wpList Tryd.prog ops Q rest (a.put o.dst v') w') : wpList Tryd.prog ops Q (o :: rest) a W := by
  obtain ⟨i0, hi0, hz0, hz1, hz2⟩ := info_row u8_info
  obtain ⟨B', hN⟩ := hN
  refine wpList_append_src hgd s x 53 ho B 5 i0 (.int .u8 0) 1 Tryd.underlying53 hi0 hz0 hz1 hz2 rfl v _ _ hs hO A n c (l'.map fun x => Value.int .u8 ((x : Nat) : Int)) hx (by simpa using hn) (nats_src hN) hnil (fun u hu => by obtain ⟨_, _, rfl⟩ := List.mem_map.1 hu; rfl) (by simp only [maxLen]; omega) (by omega) hB (fun v1 w1 hO1 hg1 _ => ?_)
  refine h v1 w1 ?_ ((Below.refl B W).grown hg1 hB (fun k hk => (World.ownsRow.lt hO k hk).1))
  unfold OwnB
  rw [List.length_append, List.map_append, hn]
  exact hO1
theorem own_nil {w : World} {B : Nat} {l : List Nat} {A : Option Addr} {n c : Nat} (h : OwnB w B (.slice A n c) l) : A = none → c = 0 := fun hA => by
  rcases h.2 with ⟨h1, _⟩ | ⟨g, cap, cur, h1, _⟩
  · cases h1; rfl
  · cases h1; cases hA
end R1
end Go.Proofs.YtpakdcgcgekcfaaDoor

/-
  The reference's Num (curtilageref01): a number's bytes, the highest first.
-/
set_option linter.unusedSimpArgs false
set_option linter.unusedVariables false
namespace Go.Proofs.YtpakdcgcgekcfaaDoor
open Go.RowKit

namespace R1
/-- A number's bytes, the highest first. -/
def numB (n : Nat) : Nat → List Nat
  | 0 => []
  | k + 1 => n / 256 ^ k % 256 :: numB n k
theorem numB_length (n : Nat) : ∀ k, (numB n k).length = k
  | 0 => rfl
  | k + 1 => by simp [numB, numB_length n k]
theorem numB_at (n : Nat) : ∀ (k t : Nat), t < k → (numB n k)[t]? = some (n / 256 ^ (k - 1 - t) % 256)
  | k + 1, 0, _ => by simp [numB]
  | k + 1, t + 1, h => by
    rw [numB, List.getElem?_cons_succ, numB_at n k t (by omega)]
    congr 4
    omega
def c8 (l : List Nat) : Array Value := (l.map fun x => Value.int .u8 ((x : Nat) : Int)).toArray
theorem c8_at {l : List Nat} {i x : Nat} (h : l[i]? = some x) : (c8 l)[i]? = some (.int .u8 (x : Int)) := by simp [c8, h]
theorem c8_set (l : List Nat) (i y : Nat) : (c8 l).setIfInBounds i (.int .u8 (y : Int)) = c8 (l.set i y) := by
  unfold c8
  rw [List.map_set]
  simp
theorem ownB_blk {w : World} {B g : Nat} {l : List Nat} (h : Blk w g 5 (c8 l)) (hB : B ≤ g) (hm : l.length ≤ maxLen) : OwnB w B (.slice (some ⟨g, 0, none⟩) l.length l.length) l := by
  refine ⟨by simp, .inr ⟨g, l.length, c8 l, rfl, hB, h, Nat.le_refl _, hm, by simp [c8], ?_⟩⟩
  have : (l.map fun x => Value.int .u8 ((x : Nat) : Int)).length = l.length := by simp
  simp only [c8, List.toList_toArray, Nat.mul_one]
  rw [← this, List.take_length]
set_option maxRecDepth 100000 in
set_option maxHeartbeats 1000000 in
theorem num_any (z kz : Int) (n k : Nat) (w : World) (hkz : kz = k) (hz : z = n) (hn : z < 18446744073709551616) (hk : k ≤ 64) :
    Calls Tryd.prog 84 #[.int .u64 z, .int .i64 kz] w (BytesOut w (numB n k)) := by
  subst hkz
  obtain ⟨i0, hi0, hz0, hz1, hz2⟩ := info_row u8_info
  have hmk := fun W => run_make_rowN (P := Tryd.prog) 53 5 i0 _ Tryd.underlying53 hi0 hz0 .i64 .i64 k k (Nat.le_refl _) (by rw [hz2]; omega) (by omega) W
  rw [hz1] at hmk
  simp only [Nat.mul_one] at hmk
  have HZ := Lib.hid hz
  have h0 : 0 ≤ z := by omega
  clear hi0 hz0 hz1 hz2 hz
  go_enter Tryd.func84, Tryd.ntmps84
  go_wp2_with fail
  go_loopg [6, 0] k (fun g s6 s0 wr => ∃ (i q : Nat) (zi zq : Int) (cur : List Nat), i = g ∧ i ≤ k ∧ zi + 1 = i ∧ zq = q ∧ s6 = .int .i64 zi ∧ s0 = .int .u64 zq ∧ zq < 18446744073709551616 ∧ Hid (q = n / 256 ^ (k - i)) ∧ cur.length = k ∧ Hid (∀ t, i ≤ t → cur[t]? = (numB n k)[t]?) ∧ Hid (Blk wr w.heap.size 5 (c8 cur)) ∧ Hid (Below w.heap.size w wr))
  case atStart =>
    refine ⟨k, n, _, z, List.replicate k 0, rfl, Nat.le_refl _, by go_num, HZ.out, rfl, rfl, hn, Lib.hid (by simp), by simp, Lib.hid (fun t ht => ?_), Lib.hid ?_, Lib.hid ?_⟩
    · rw [List.getElem?_eq_none (by simpa using ht), List.getElem?_eq_none (by rw [numB_length]; exact ht)]
    · have : madeCells #[Value.int .u8 0] k = c8 (List.replicate k 0) := by
        apply Array.ext_getElem?
        intro t
        by_cases ht : t < k
        · rw [made_get _ _ _ ht (by decide), c8_at (x := 0) (by simp [ht])]
          simp [Nat.mod_one]
        · rw [Array.getElem?_eq_none (by simp [madeCells]; omega), Array.getElem?_eq_none (by simp [c8]; omega)]
      rw [this]
      exact Blk.new w _ _
    · exact (Below.refl _ w).alloc (Nat.le_refl _) _
  case round =>
    obtain ⟨i, q, zi, zq, cur, rfl, hik, hzi, hzq, rfl, rfl, hqM, HQ, hcl, HC, HW, HB⟩ := hrel
    have HCL := Lib.hid hcl
    clear hcl
    by_cases hlt : 0 < i
    · obtain ⟨m, rfl⟩ : ∃ m, i = m + 1 := ⟨i - 1, by omega⟩
      have hm : zi = m := by omega
      subst hm
      clear hzi
      obtain ⟨old, ho⟩ : ∃ old, cur[m]? = some old := ⟨_, List.getElem?_eq_getElem (by have := HCL.out; omega)⟩
      have hold : wr.cell? ⟨w.heap.size, m, none⟩ = some (.int .u8 (old : Int)) := by rw [HW.out.cell, c8_at ho]
      have hfr : wr.frozen? ⟨w.heap.size, m, none⟩ = false := HW.out.frozen m
      have hsz := HW.out.lt
      have HQZ := Lib.hid hzq
      have hq0 : 0 ≤ zq := by omega
      clear hzq ho
      go_wp2_with fail
      go_light
      go_roundg m
      case measure => omega
      case rel =>
        refine ⟨m, q / 256, _, _, cur.set m (q % 256), rfl, by omega, by go_num, ?_, rfl, rfl, by omega, Lib.hid ?_, by rw [List.length_set]; exact HCL.out, Lib.hid (fun t ht => ?_), Lib.hid ?_, Lib.hid ?_⟩
        · have := HQZ.out; omega
        · rw [HQ.out, Nat.div_div_eq_div_mul, show k - m = k - (m + 1) + 1 by omega, Nat.pow_succ]
        · by_cases hmt : m = t
          · subst hmt
            rw [List.getElem?_set_self (by have := HCL.out; omega), numB_at n k m (by omega), HQ.out, show k - 1 - m = k - (m + 1) by omega]
          · rw [List.getElem?_set_ne hmt]
            exact HC.out t (by omega)
        · have := HW.out.set m (.int .u8 ((q % 256 : Nat) : Int))
          rw [c8_set] at this
          rw [show zq % 256 = ((q % 256 : Nat) : Int) by have := HQZ.out; omega]
          exact this
        · exact HB.out.setCell (p := ⟨w.heap.size, m, none⟩) (Nat.le_refl _) _
    · have hi0 : i = 0 := by omega
      subst hi0
      have hm : zi = -1 := by omega
      subst hm
      have e : cur = numB n k := by
        apply List.ext_getElem?
        intro t
        exact HC.out t (Nat.zero_le _)
      clear hzi hzq
      go_wp2_with fail
      go_light
      go_ret
      subst e
      have := ownB_blk HW.out (Nat.le_refl _) (by rw [numB_length]; simp only [maxLen]; omega)
      rw [numB_length] at this
      exact ⟨_, rfl, this, HB.out⟩
end R1
end Go.Proofs.YtpakdcgcgekcfaaDoor

/-
  The reference's Value (curtilageref01): a number of at most four bytes, the highest first.
-/
set_option linter.unusedSimpArgs false
set_option linter.unusedVariables false
namespace Go.Proofs.YtpakdcgcgekcfaaDoor
open Go.RowKit

namespace R1
def beVal (l : List Nat) : Nat := l.foldl (fun a b => 256 * a + b) 0
theorem beVal_snoc (l : List Nat) (x : Nat) : beVal (l ++ [x]) = 256 * beVal l + x := by simp [beVal]
set_option maxHeartbeats 1000000 in
theorem value_any (A : Option Addr) (len cap : Nat) (l : List Nat) (w : World) (B : Nat) (hl : l.length = len) (hm : len ≤ 4) (hz : Nats .u8 256 w B A l) :
    Calls Tryd.prog 125 #[.slice A len cap] w fun e w' => e = .returned (.int .u64 ((beVal l : Nat) : Int)) ∧ w = w' := by
  have HN := Lib.hid hz
  subst hl
  clear hz
  go_enter Tryd.func125, Tryd.ntmps125
  go_wp2_with fail
  go_loopg [3, 8] l.length (fun g s3 s8 wr => ∃ i : Nat, i + g = l.length ∧ s8 = .int .i64 (i : Int) ∧ ∃ v : Nat, s3 = .int .u64 (v : Int) ∧ v = beVal (l.take i) ∧ v < 256 ^ i ∧ wr = w)
  case atStart => exact ⟨0, by omega, rfl, 0, rfl, rfl, by decide, rfl⟩
  case round =>
    obtain ⟨i, hg, rfl, v, rfl, hv, hvb, rfl⟩ := hrel
    have HG := Lib.hid hg
    have HV := Lib.hid hv
    have hig : i ≤ l.length := by omega
    clear hg hv
    by_cases hlt : i < l.length
    · obtain ⟨x, hx⟩ : ∃ x, l[i]? = some x := ⟨_, List.getElem?_eq_getElem hlt⟩
      obtain ⟨hxM, g0, off, rfl, hg0, hcx⟩ := HN.out i x hx
      have HS := Lib.hid (show beVal (l.take (i + 1)) = 256 * v + x by rw [take_snoc hx, beVal_snoc, HV.out])
      have hvc : v < 16777216 := Nat.lt_of_lt_of_le hvb (Nat.le_trans (Nat.pow_le_pow_right (by decide) (show i ≤ 3 by omega)) (by decide))
      have HB := Lib.hid (show 256 * v + x < 256 ^ (i + 1) by rw [Nat.pow_succ]; omega)
      clear hx hvb
      go_wp2_with fail
      go_light
      go_roundg (l.length - (i + 1))
      case measure => have := HG.out; omega
      case rel => exact ⟨i + 1, by omega, by go_num, 256 * v + x, by go_num, HS.out.symm, HB.out, rfl⟩
    · have : i = l.length := by omega
      subst this
      have hvl := HV.out
      rw [List.take_length] at hvl
      have HV2 := Lib.hid hvl
      clear hvl HV
      go_wp2_with fail
      go_light
      go_ret
      exact ⟨by rw [HV2.out]; rfl, rfl⟩
end R1
end Go.Proofs.YtpakdcgcgekcfaaDoor

/-
  Words as bytes: plain.
-/
set_option linter.unusedSimpArgs false
set_option linter.unusedVariables false
namespace Go.Proofs.YtpakdcgcgekcfaaDoor
open Go.RowKit

namespace Otp
open R1
/-- The bytes of words. -/
def wordsB (l : List Nat) : List Nat := l.flatMap fun x => numB x 4
theorem wordsB_length : ∀ l : List Nat, (wordsB l).length = 4 * l.length
  | [] => rfl
  | x :: l => by
    have := wordsB_length l
    simp only [wordsB, List.flatMap_cons, List.length_append, numB_length, List.length_cons] at this ⊢
    omega
theorem wordsB_snoc (l : List Nat) (x : Nat) : wordsB (l ++ [x]) = wordsB l ++ numB x 4 := by simp [wordsB]
end Otp
end Go.Proofs.YtpakdcgcgekcfaaDoor

/-
  Package otp: on, Life; math/bits.OnesCount8.
-/
set_option linter.unusedSimpArgs false
set_option linter.unusedVariables false
namespace Go.Proofs.YtpakdcgcgekcfaaDoor
open Go.RowKit

namespace Otp
open Fuse
variable {w w' : World} {c p b : Nat} {vs : List Nat} {ls : List Bool} {sd : Bool}
set_option maxHeartbeats 4000000 in
set_option maxRecDepth 100000 in
theorem ones8 (x : Int) (w : World) (h0 : 0 ≤ x) (h1 : x ≤ 255) :
    Calls Tryd.prog 100 #[.int .u8 x] w fun e w' => e = .returned (.int .i64 (Lib.onesCount x.toNat)) ∧ w' = w := by
  have e := Lib.pop8_int x h0 h1
  have e1 : wrap64 (Lib.pop8 x) = (Lib.onesCount x.toNat : Int) := by
    rw [← e]
    generalize Lib.pop8 x = q
    simp only [wrap64]
  go_enter Tryd.func100, Tryd.ntmps100
  go_wp2
  rw [e1]
  go_ret
  exact ⟨rfl, rfl⟩
theorem ones8_nat (x : Int) (k : Nat) (w : World) (hx : x = k) (h1 : k ≤ 255) :
    Calls Tryd.prog 100 #[.int .u8 x] w fun e w' => e = .returned (.int .i64 ((Lib.onesCount k : Nat) : Int)) ∧ w = w' := by
  subst hx
  exact (ones8 k w (by omega) (by omega)).mono fun e w' h => ⟨h.1, h.2.symm⟩
/-- Are five of a field's eight bits set? -/
def onB (x i : Nat) : Bool := decide (5 ≤ Lib.onesCount (x / 2 ^ (8 * i) % 256))
theorem field_int (y k : Nat) : (y : Int) / 2 ^ (8 * k) % 256 = ((y / 2 ^ (8 * k) % 256 : Nat) : Int) := by simp
set_option maxHeartbeats 400000 in
theorem on_any (x i : Int) (y k : Nat) (w : World) (hx : x = y) (hi : i = k) (_ : y < 4294967296) (hk : k < 4) :
    Calls Tryd.prog 71 #[.int .u32 x, .int .i64 i] w fun e w' => e = .returned (.bool (onB y k)) ∧ w = w' := by
  subst hx
  subst hi
  have hm : Lib.onesCount (y / 2 ^ (8 * k) % 256) ≤ 8 := Lib.onesCount_le8 ⟨_, Nat.mod_lt _ (by decide)⟩
  unfold onB
  go_enter Tryd.func71, Tryd.ntmps71
  go_wp2_with fail
  (with_reducible refine (ones8_nat _ (y / 2 ^ (8 * k) % 256) _ (field_int y k) (by omega)).mono ?_); rintro e w' ⟨rfl, rfl⟩
  go_wp2_with fail
  go_light
  go_ret
  exact ⟨by simp; omega, rfl⟩
def lifeN (x : Nat) : Nat → Nat
  | 0 => 0
  | i + 1 => if onB x i = true then i + 1 else lifeN x i
/-- The last life that was reached. -/
def life (vs : List Nat) : Nat := lifeN (vs[0]?.getD 0) 4
theorem lifeN_le (x : Nat) : ∀ n, lifeN x n ≤ n
  | 0 => by simp [lifeN]
  | i + 1 => by
    have := lifeN_le x i
    simp only [lifeN]
    split <;> omega
set_option maxHeartbeats 1000000 in
theorem life_any (w : World) (h : Cz w c p b vs ls sd) : Calls Tryd.prog 26 #[.pointer (some ⟨c, 0, none⟩)] w
    fun e w' => e = .returned (.int .i64 ((life vs : Nat) : Int)) ∧ Below w.heap.size w w' := by
  obtain ⟨x, hx⟩ : ∃ x, vs[0]? = some x := ⟨_, List.getElem?_eq_getElem (by have := h.len; omega)⟩
  have hxM := h.fz.word _ _ hx
  have hlf : life vs = lifeN x 4 := by simp [life, hx]
  rw [hlf]
  have H := Lib.hid h
  have HX := Lib.hid hx
  clear h hlf hx
  go_enter Tryd.func26, Tryd.ntmps26
  go_wp2_with fail
  go_loopg [3, 5] 4 (fun g s3 s5 wr => ∃ i : Nat, i + g = 4 ∧ s5 = .int .i64 (i : Int) ∧ s3 = .int .i64 ((lifeN x i : Nat) : Int) ∧ Below w.heap.size w wr)
  case atStart => exact ⟨0, by omega, rfl, rfl, Below.refl _ _⟩
  case round =>
    obtain ⟨i, hg, rfl, rfl, hB⟩ := hrel
    have HG := Lib.hid hg
    have hig : i ≤ 4 := by omega
    have HB := Lib.hid hB
    clear hg hB
    have hle := lifeN_le x i
    by_cases hlt : i < 4
    · have hC := H.out.old HB.out
      have HC := Lib.hid hC
      clear hC
      go_wp2_with fail
      (with_reducible refine (all_any _ HC.out).mono ?_); rintro e w1 ⟨v, rfl, hO, hB⟩
      obtain ⟨A1, cp, rfl, hc1, hc2, -⟩ := hO.form HC.out.fz.word
      obtain ⟨g1, rfl, hg1, hg2, hco, -⟩ := hO.at_ HX.out
      have hvl : vs.length = 64 := HC.out.len
      rw [hvl] at hc1 ⊢
      have hB1 := below_then HB.out hB (Nat.le_refl _)
      have HB1 := Lib.hid hB1
      clear hB1 hB hO
      go_wp2_with fail
      (with_reducible refine (on_any _ _ x i _ rfl rfl hxM hlt).mono ?_); rintro e w2 ⟨rfl, rfl⟩
      have HS := Lib.hid (show lifeN x (i + 1) = if onB x i = true then i + 1 else lifeN x i from rfl)
      generalize onB x i = o at *
      cases o with
      | true =>
        go_wp2_with fail
        go_light
        go_roundg (4 - (i + 1))
        case measure => have := HG.out; omega
        case rel => exact ⟨i + 1, by omega, by go_num, by rw [HS.out]; go_num, HB1.out⟩
      | false =>
        go_wp2_with fail
        go_light
        go_roundg (4 - (i + 1))
        case measure => have := HG.out; omega
        case rel => exact ⟨i + 1, by omega, by go_num, by rw [HS.out]; rfl, HB1.out⟩
    · have : i = 4 := by omega
      subst this
      go_wp2_with fail
      go_light
      go_ret
      exact ⟨rfl, HB.out⟩
end Otp
end Go.Proofs.YtpakdcgcgekcfaaDoor

/-
  Contracts of package fuse, more: Of; a nil array.
-/
set_option linter.unusedSimpArgs false
set_option linter.unusedVariables false
namespace Go.Proofs.YtpakdcgcgekcfaaDoor
open Go.RowKit

namespace Fuse
def OfOut (w : World) (zs : List Nat) (e : Ending) (w' : World) : Prop :=
  ∃ p b, e = .returned (.tuple #[.pointer (some ⟨p, 0, none⟩), .int .i64 0]) ∧ Fz w' p b zs (List.replicate zs.length false) ∧ w.heap.size ≤ b ∧ w.heap.size ≤ p ∧ Below w.heap.size w w'

theorem set_zero (zs : List Nat) (i n x : Nat) (hi : i < n) (hn : zs.length = n) (hx : zs[i]? = some x) : (zs.take i ++ List.replicate (n - i) 0).set i x = zs.take (i + 1) ++ List.replicate (n - (i + 1)) 0 := by
  rw [take_snoc hx, List.set_append]
  have hlen : (zs.take i).length = i := by rw [List.length_take]; omega
  rw [hlen, if_neg (by omega), Nat.sub_self]
  have e : n - i = (n - (i + 1)) + 1 := by omega
  rw [e, List.replicate_succ]
  simp

set_option maxHeartbeats 1000000 in
theorem of_any (a : Option Addr) (n c : Nat) (zs : List Nat) (w : World) (hz : Nats .u32 4294967296 w w.heap.size a zs) (hl : zs.length = n) (hn : n ≤ 4096) :
    Calls Tryd.prog 74 #[.slice a n c] w (OfOut w zs) := by
  have HZ := Lib.hid hz
  have HL := Lib.hid hl
  clear hz hl
  go_enter Tryd.func74, Tryd.ntmps74
  go_wp2_with fail
  (with_reducible refine (new_any (n : Int) _ (by omega) (by omega)).mono ?_); rintro e w1 ⟨rfl, hf, hb, hs⟩
  simp only [Int.toNat_natCast] at hf
  have hpq : w.heap.size + 1 < w1.heap.size := by omega
  clear hs
  have HF := Lib.hid hf
  have HB := Lib.hid hb
  clear hf hb
  generalize hp : w.heap.size + 1 = p at *
  have hwp : w.heap.size ≤ p := by omega
  clear hp
  go_wp2_with fail
  go_loopg [19] n (fun g s19 wr => ∃ i : Nat, i + g = n ∧ s19 = .int .i64 (i : Int) ∧ Fz wr p w.heap.size (zs.take i ++ List.replicate (n - i) 0) (List.replicate n false) ∧ Frm [w.heap.size] w1 wr)
  case atStart => exact ⟨0, by omega, rfl, HF.out, Frm.refl _ _⟩
  case round =>
    obtain ⟨i, hg, rfl, hF, hFr⟩ := hrel
    have HG := Lib.hid hg
    have HFr := Lib.hid hFr
    have HFF := Lib.hid hF
    have hig : i ≤ n := by omega
    clear hg hFr
    by_cases hlt : i < n
    · obtain ⟨x, hx⟩ : ∃ x, zs[i]? = some x := ⟨_, List.getElem?_eq_getElem (by have := HL.out; omega)⟩
      obtain ⟨hx2, b, off, rfl, hbl, hcell⟩ := HZ.out i x hx
      have hcell' : wr.cell? ⟨b, off + i, none⟩ = some (.int .u32 (x : Int)) :=
        (World.cell?_of_block (a := ⟨b, off + i, none⟩) (HFr.out.block b (by omega) (by simp; omega))).trans ((HB.out.cell (p := ⟨b, off + i, none⟩) hbl).trans hcell)
      have hlen : (zs.take i ++ List.replicate (n - i) 0).length = n := by
        have := HL.out
        rw [List.length_append, List.length_take, List.length_replicate]; omega
      have hsz := set_zero zs i n x hlt HL.out hx
      have HSZ := Lib.hid hsz
      generalize hcur : zs.take i ++ List.replicate (n - i) 0 = cur at *
      have hk : i < cur.length := by omega
      obtain ⟨cc, hcc, hp0⟩ := hF.cell0
      have hfr := (hF.cellv hk).2
      obtain ⟨x0, l0, _, _, _, hv, _⟩ := hF.at_ hk
      have hset := Lib.hid (hF.set hk x hx2)
      have hm4 := hF.most
      rw [hlen] at hp0
      clear hcur hcell hx hF hsz hlen hk
      go_wp2_with fail
      go_light
      go_roundg (n - (i + 1))
      case measure => have := HG.out; omega
      case rel =>
        refine ⟨i + 1, by omega, by go_num, ?_, HFr.out.trans ((Frm.refl _ _).setCell (.inl (by simp)) _)⟩
        rw [← HSZ.out]
        exact hset.out
    · go_wp2_with fail
      go_light
      go_ret2
      have : i = n := by omega
      subst this
      have hzl := HL.out
      have e : zs.take i ++ List.replicate (i - i) 0 = zs := by rw [← hzl, List.take_length]; simp
      have h2 := HFF.out
      rw [e] at h2
      refine ⟨p, w.heap.size, rfl, by rw [hzl]; exact h2, Nat.le_refl _, hwp, Below.frm HB.out HFr.out (Nat.le_refl _) (by simp)⟩

set_option maxHeartbeats 400000 in
theorem of_bad (a : Option Addr) (n c : Nat) (w : World) (hn : 4096 < n) (hm : n ≤ 9223372036854775807) : Calls Tryd.prog 74 #[.slice a n c] w fun e w' => e = .returned (.tuple #[.pointer none, .int .i64 1]) ∧ w = w' := by
  go_enter Tryd.func74, Tryd.ntmps74
  go_wp2_with fail
  (with_reducible refine (new_bad (n : Int) _ (by omega)).mono ?_); rintro e w1 ⟨rfl, rfl⟩
  go_wp2_with fail
  go_light
  go_ret2
  exact ⟨rfl, rfl⟩

/-! A nil array. -/
end Fuse
end Go.Proofs.YtpakdcgcgekcfaaDoor

/-
  Package otp: Of, at, Kill, ToLife, Tear.
-/
set_option linter.unusedSimpArgs false
set_option linter.unusedVariables false
namespace Go.Proofs.YtpakdcgcgekcfaaDoor
open Go.RowKit

namespace Otp
open Fuse
variable {w w' : World} {c p b : Nat} {vs : List Nat} {ls : List Bool} {sd : Bool}
def OfCz (w : World) (vs : List Nat) (e : Ending) (w' : World) : Prop := ∃ c p b, e = .returned (.tuple #[.pointer (some ⟨c, 0, none⟩), .int .i64 0]) ∧ Cz w' c p b vs f64 false ∧ w.heap.size ≤ c ∧ w.heap.size ≤ p ∧ w.heap.size ≤ b ∧ Below w.heap.size w w'
set_option maxHeartbeats 400000 in
theorem of_chip (A : Option Addr) (len cap : Nat) (zs : List Nat) (w : World) (hz : Nats .u32 4294967296 w w.heap.size A zs) (hl : zs.length = 64) (hn : len = 64) :
    Calls Tryd.prog 21 #[.slice A len cap] w (OfCz w zs) := by
  have HZ := Lib.hid hz
  subst hn
  clear hz
  go_enter Tryd.func21, Tryd.ntmps21
  go_wp2_with fail
  (with_reducible refine (of_any A 64 cap zs _ HZ.out hl (by decide)).mono ?_); rintro e w1 ⟨p, b, rfl, hz, hb, hp, hB⟩
  have HZ1 := Lib.hid hz
  have HB := Lib.hid hB
  have hbl : w.heap.size ≤ w1.heap.size := hB.size
  clear hz hB
  go_wp2_with fail
  go_light
  go_ret2
  have hz := HZ1.out
  rw [hl] at hz
  refine ⟨_, p, b, rfl, ⟨hz.frm ((Frm.refl [] _).alloc _) (by simp) (by simp), hl, ?_⟩, hbl, hp, hb, HB.out.alloc hbl _⟩
  exact Blk.new _ _ _
theorem nats_one (w : World) (t : TypeId) (z : Int) (y : Nat) (hz : z = y) (hy : y < 4294967296) : Nats .u32 4294967296 (w.alloc (.cells #[.int .u32 z] t)) (w.alloc (.cells #[.int .u32 z] t)).heap.size (some ⟨w.heap.size, 0, none⟩) [y] := by
  subst hz
  exact nats_blk (t := t) (l := [y]) (Blk.new w t _) (fun i x h => by
    have := List.mem_of_getElem? h
    simp only [List.mem_singleton] at this
    subst this
    exact hy)
theorem toOut_alloc {w : World} {o : Obj} {er : Int} {l : List (Nat × Nat)} {e : Ending} {w' : World} (h : ToOut (w.alloc o) er l e w') : ToOut w er l e w' := by
  obtain ⟨v, rfl, hO, hB⟩ := h
  exact ⟨v, rfl, ownW_le hO (by simp), ((Below.refl _ w).alloc (Nat.le_refl _) o).trans (hB.mono (by simp))⟩
theorem toOut_old {w w1 : World} (h1 : Below w.heap.size w w1) {er : Int} {l : List (Nat × Nat)} {e : Ending} {w' : World} (h : ToOut w1 er l e w') : ToOut w er l e w' := by
  obtain ⟨v, rfl, hO, hB⟩ := h
  exact ⟨v, rfl, ownW_le hO h1.size, below_then h1 hB (Nat.le_refl _)⟩
def atE (i : Int) : Int := if 0 ≤ i ∧ i < 4 then 0 else 1
def atV (i : Int) : Int := if 0 ≤ i ∧ i < 4 then 27 + 9 * i else 0
theorem at_in (i : Int) (w : World) (h0 : 0 ≤ i) (h1 : i < 4) : Calls Tryd.prog 67 #[.int .i64 i] w fun e w' => e = .returned (.tuple #[.int .i64 (27 + 9 * i), .int .i64 0]) ∧ w = w' := by
  go_enter Tryd.func67, Tryd.ntmps67
  go_wp2
  go_light
  go_ret2
  exact ⟨rfl, rfl⟩
theorem at_out (i : Int) (w : World) (h : i < 0 ∨ 4 ≤ i) : Calls Tryd.prog 67 #[.int .i64 i] w fun e w' => e = .returned (.tuple #[.int .i64 0, .int .i64 1]) ∧ w = w' := by
  by_cases h0 : i < 0
  · clear h
    go_enter Tryd.func67, Tryd.ntmps67
    go_wp2
    go_light
    go_ret2
    exact ⟨rfl, rfl⟩
  · have h1 : 4 ≤ i := by omega
    clear h
    go_enter Tryd.func67, Tryd.ntmps67
    go_wp2
    go_light
    go_ret2
    exact ⟨rfl, rfl⟩
def klL (vs : List Nat) (i : Int) : List (Nat × Nat) := if 0 ≤ i ∧ i < 4 then planOf vs (35 + 9 * i.toNat) [65280] else []
set_option maxHeartbeats 400000 in
theorem kill_any (i : Int) (w : World) (h : Cz w c p b vs ls sd) :
    Calls Tryd.prog 20 #[.pointer (some ⟨c, 0, none⟩), .int .i64 i] w (ToOut w (atE i) (klL vs i)) := by
  have H := Lib.hid h
  clear h
  by_cases h0 : 0 ≤ i ∧ i < 4
  · have e1 : atE i = 0 := by simp [atE, h0]
    have e2 : klL vs i = planOf vs (35 + 9 * i.toNat) [65280] := by simp [klL, h0]
    rw [e1, e2]
    clear e1 e2
    obtain ⟨h0, h1⟩ := h0
    obtain ⟨k, rfl⟩ := Int.eq_ofNat_of_zero_le h0
    rw [Int.toNat_natCast]
    go_enter Tryd.func20, Tryd.ntmps20
    go_wp2_with fail
    (with_reducible refine (at_in _ _ h0 h1).mono ?_); rintro e w1 ⟨rfl, rfl⟩
    go_wp2_with fail
    (with_reducible refine (plan_any (27 + 9 * (k : Int) + 8) (35 + 9 * k) _ 1 1 [65280] _ (H.out.alloc _) (by omega) rfl (by simp; omega) (nats_one w 43 65280 65280 (by decide) (by decide))).mono ?_); rintro e w2 ⟨v, rfl, hO, hB⟩
    have HO := Lib.hid hO
    have HB := Lib.hid hB
    clear hO hB
    go_wp2_with fail
    go_light
    go_ret2
    exact toOut_alloc ⟨_, rfl, HO.out, HB.out⟩
  · have e1 : atE i = 1 := by simp only [atE, if_neg h0]
    have e2 : klL vs i = [] := by simp only [klL, if_neg h0]
    rw [e1, e2]
    clear e1 e2
    go_enter Tryd.func20, Tryd.ntmps20
    go_wp2_with fail
    (with_reducible refine (at_out _ _ (by omega)).mono ?_); rintro e w1 ⟨rfl, rfl⟩
    go_wp2_with fail
    go_light
    go_ret2
    exact ⟨_, rfl, World.ownsRow_nil _ _ _ _, Below.refl _ _⟩
def tlE (vs : List Nat) (i : Int) : Int := if i < 1 ∨ 4 < i then 1 else if i ≤ life vs then 14 else 0
def tlL (vs : List Nat) (i : Int) : List (Nat × Nat) := if tlE vs i = 0 then planOf vs 0 [255 * 2 ^ (8 * (i.toNat - 1))] else []
set_option maxHeartbeats 1000000 in
theorem tolife_1 (w : World) (h : Cz w c p b vs ls sd) (h2 : ¬ ((1 : Int) ≤ life vs)) :
    Calls Tryd.prog 76 #[.pointer (some ⟨c, 0, none⟩), .int .i64 1] w (ToOut w 0 (planOf vs 0 [255])) := by
  have H := Lib.hid h
  clear h
  have hl4 : life vs ≤ 4 := lifeN_le _ _
  go_enter Tryd.func76, Tryd.ntmps76
  go_wp2_with fail
  (with_reducible refine (life_any _ H.out).mono ?_); rintro e w1 ⟨rfl, hB⟩
  have HB := Lib.hid hB
  have HC := Lib.hid (H.out.old hB)
  clear hB
  generalize life vs = lf at *
  go_wp2_with fail
  (with_reducible refine (plan_any 0 0 _ 1 1 [255] _ (HC.out.alloc _) rfl rfl (by simp) (nats_one w1 43 255 255 (by decide) (by decide))).mono ?_); rintro e w2 ⟨v, rfl, hO, hB⟩
  have HT := Lib.hid (toOut_old HB.out (toOut_alloc (er := 0) (l := _) ⟨v, rfl, hO, hB⟩))
  clear hO hB
  go_wp2_with fail
  go_light
  go_ret2
  exact HT.out
set_option maxHeartbeats 1000000 in
theorem tolife_2 (w : World) (h : Cz w c p b vs ls sd) (h2 : ¬ ((2 : Int) ≤ life vs)) :
    Calls Tryd.prog 76 #[.pointer (some ⟨c, 0, none⟩), .int .i64 2] w (ToOut w 0 (planOf vs 0 [65280])) := by
  have H := Lib.hid h
  clear h
  have hl4 : life vs ≤ 4 := lifeN_le _ _
  go_enter Tryd.func76, Tryd.ntmps76
  go_wp2_with fail
  (with_reducible refine (life_any _ H.out).mono ?_); rintro e w1 ⟨rfl, hB⟩
  have HB := Lib.hid hB
  have HC := Lib.hid (H.out.old hB)
  clear hB
  generalize life vs = lf at *
  go_wp2_with fail
  (with_reducible refine (plan_any 0 0 _ 1 1 [65280] _ (HC.out.alloc _) rfl rfl (by simp) (nats_one w1 43 65280 65280 (by decide) (by decide))).mono ?_); rintro e w2 ⟨v, rfl, hO, hB⟩
  have HT := Lib.hid (toOut_old HB.out (toOut_alloc (er := 0) (l := _) ⟨v, rfl, hO, hB⟩))
  clear hO hB
  go_wp2_with fail
  go_light
  go_ret2
  exact HT.out
set_option maxHeartbeats 1000000 in
theorem tolife_3 (w : World) (h : Cz w c p b vs ls sd) (h2 : ¬ ((3 : Int) ≤ life vs)) :
    Calls Tryd.prog 76 #[.pointer (some ⟨c, 0, none⟩), .int .i64 3] w (ToOut w 0 (planOf vs 0 [16711680])) := by
  have H := Lib.hid h
  clear h
  have hl4 : life vs ≤ 4 := lifeN_le _ _
  go_enter Tryd.func76, Tryd.ntmps76
  go_wp2_with fail
  (with_reducible refine (life_any _ H.out).mono ?_); rintro e w1 ⟨rfl, hB⟩
  have HB := Lib.hid hB
  have HC := Lib.hid (H.out.old hB)
  clear hB
  generalize life vs = lf at *
  go_wp2_with fail
  (with_reducible refine (plan_any 0 0 _ 1 1 [16711680] _ (HC.out.alloc _) rfl rfl (by simp) (nats_one w1 43 16711680 16711680 (by decide) (by decide))).mono ?_); rintro e w2 ⟨v, rfl, hO, hB⟩
  have HT := Lib.hid (toOut_old HB.out (toOut_alloc (er := 0) (l := _) ⟨v, rfl, hO, hB⟩))
  clear hO hB
  go_wp2_with fail
  go_light
  go_ret2
  exact HT.out
set_option maxHeartbeats 1000000 in
theorem tolife_4 (w : World) (h : Cz w c p b vs ls sd) (h2 : ¬ ((4 : Int) ≤ life vs)) :
    Calls Tryd.prog 76 #[.pointer (some ⟨c, 0, none⟩), .int .i64 4] w (ToOut w 0 (planOf vs 0 [4278190080])) := by
  have H := Lib.hid h
  clear h
  have hl4 : life vs ≤ 4 := lifeN_le _ _
  go_enter Tryd.func76, Tryd.ntmps76
  go_wp2_with fail
  (with_reducible refine (life_any _ H.out).mono ?_); rintro e w1 ⟨rfl, hB⟩
  have HB := Lib.hid hB
  have HC := Lib.hid (H.out.old hB)
  clear hB
  generalize life vs = lf at *
  go_wp2_with fail
  (with_reducible refine (plan_any 0 0 _ 1 1 [4278190080] _ (HC.out.alloc _) rfl rfl (by simp) (nats_one w1 43 4278190080 4278190080 (by decide) (by decide))).mono ?_); rintro e w2 ⟨v, rfl, hO, hB⟩
  have HT := Lib.hid (toOut_old HB.out (toOut_alloc (er := 0) (l := _) ⟨v, rfl, hO, hB⟩))
  clear hO hB
  go_wp2_with fail
  go_light
  go_ret2
  exact HT.out
set_option maxHeartbeats 2000000 in
theorem tolife_any (i : Int) (w : World) (h : Cz w c p b vs ls sd) :
    Calls Tryd.prog 76 #[.pointer (some ⟨c, 0, none⟩), .int .i64 i] w (ToOut w (tlE vs i) (tlL vs i)) := by
  have H := Lib.hid h
  clear h
  by_cases h0 : i < 1
  · have e1 : tlE vs i = 1 := by simp [tlE, h0]
    have e2 : tlL vs i = [] := by simp [tlL, e1]
    rw [e1, e2]
    clear e1 e2
    go_enter Tryd.func76, Tryd.ntmps76
    go_wp2_with fail
    go_light
    go_ret2
    exact ⟨_, rfl, World.ownsRow_nil _ _ _ _, Below.refl _ _⟩
  by_cases h1 : 4 < i
  · have e1 : tlE vs i = 1 := by simp [tlE, h1]
    have e2 : tlL vs i = [] := by simp [tlL, e1]
    rw [e1, e2]
    clear e1 e2
    go_enter Tryd.func76, Tryd.ntmps76
    go_wp2_with fail
    go_light
    go_ret2
    exact ⟨_, rfl, World.ownsRow_nil _ _ _ _, Below.refl _ _⟩
  have hl4 : life vs ≤ 4 := lifeN_le _ _
  by_cases h2 : i ≤ life vs
  · have e1 : tlE vs i = 14 := by simp only [tlE, if_pos h2]; rw [if_neg (by omega)]
    have e2 : tlL vs i = [] := by simp [tlL, e1]
    rw [e1, e2]
    clear e1 e2
    go_enter Tryd.func76, Tryd.ntmps76
    go_wp2_with fail
    (with_reducible refine (life_any _ H.out).mono ?_); rintro e w1 ⟨rfl, hB⟩
    have HB := Lib.hid hB
    clear hB
    go_wp2_with fail
    go_light
    go_ret2
    exact ⟨_, rfl, World.ownsRow_nil _ _ _ _, HB.out⟩
  · have e1 : tlE vs i = 0 := by simp only [tlE, if_neg h2]; rw [if_neg (by omega)]
    have e2 : tlL vs i = planOf vs 0 [255 * 2 ^ (8 * (i.toNat - 1))] := by simp only [tlL, e1, if_true]
    rw [e1, e2]
    clear e1 e2
    have h14 : i = 1 ∨ i = 2 ∨ i = 3 ∨ i = 4 := by omega
    rcases h14 with rfl | rfl | rfl | rfl
    · exact tolife_1 w H.out h2
    · exact tolife_2 w H.out h2
    · exact tolife_3 w H.out h2
    · exact tolife_4 w H.out h2
end Otp
end Go.Proofs.YtpakdcgcgekcfaaDoor

/-
  Package otp: ToKey.
-/
set_option linter.unusedSimpArgs false
set_option linter.unusedVariables false
namespace Go.Proofs.YtpakdcgcgekcfaaDoor
open Go.RowKit

namespace Otp
open Fuse
variable {w w' : World} {c p b : Nat} {vs : List Nat} {ls : List Bool} {sd : Bool}
theorem own32_le {w : World} {B B' : Nat} {v : Value} {l : List Nat} (h : Own32 w B v l) (hB : B' ≤ B) : Own32 w B' v l := by
  refine ⟨h.1, ?_⟩
  rcases h.2 with h0 | ⟨g, cap, cur, hv, hg, rest⟩
  · exact .inl h0
  · exact .inr ⟨g, cap, cur, hv, Nat.le_trans hB hg, rest⟩
theorem own32_next {w wx w' : World} {B : Nat} {v : Value} {l : List Nat} (h : Own32 w B v l) (hB : Below wx.heap.size wx w') (hx : wx.heap = w.heap) : Own32 w' B v l := by
  refine ⟨h.1, ?_⟩
  rcases h.2 with h0 | ⟨g, cap, cur, hv, hg, hh, rest⟩
  · exact .inl h0
  · exact .inr ⟨g, cap, cur, hv, hg, Blk.next (w := w) (t := 43) (cs := cur) hh hB hx, rest⟩
theorem nats_at {k : IntKind} {M : Nat} {w wx : World} {B : Nat} {A : Option Addr} {l : List Nat} (h : Nats k M w B A l) (hB : B ≤ w.heap.size) (hx : wx.heap = w.heap) : Nats k M wx wx.heap.size A l := fun i z hz => by
  obtain ⟨h1, b, off, h2, h3, h4⟩ := h i z hz
  refine ⟨h1, b, off, h2, by rw [hx]; omega, ?_⟩
  rw [← h4]
  simp [World.cell?, hx]
theorem own32_news {w wx : World} {B g n c : Nat} {l : List Nat} (h : Own32 w B (.slice (some ⟨g, 0, none⟩) n c) l) (hx : wx.heap = w.heap) : ∀ (j : Nat) (u : Value), (l.map fun x => Value.int .u32 ((x : Nat) : Int))[j]? = some u → wx.cell? ((⟨g, 0, none⟩ : Addr).add j) = some u := fun j u hu => by
  rw [List.getElem?_map] at hu
  cases hz : l[j]? with
  | none => rw [hz] at hu; cases hu
  | some x =>
    rw [hz] at hu
    obtain rfl := Option.some.inj hu
    obtain ⟨g', hg', _, _, hc, _⟩ := h.at_ hz
    cases hg'
    rw [Go.WideShapes.add_plain, Nat.zero_add, ← hc]
    simp [World.cell?, hx]
theorem own32_at {w wx : World} {B : Nat} {v : Value} {l : List Nat} (h : Own32 w B v l) (hx : wx.heap = w.heap) : wx.ownsRow B 43 1 v l.length (l.map fun x => Value.int .u32 ((x : Nat) : Int)) := by
  refine ⟨h.1, ?_⟩
  rcases h.2 with h0 | ⟨g, cap, cur, hv, hg, hh, rest⟩
  · exact .inl h0
  · exact .inr ⟨g, cap, cur, hv, hg, by rw [hx]; exact hh, rest⟩
theorem own32_some {w : World} {B : Nat} {v : Value} {l : List Nat} (h : Own32 w B v l) (hl : 0 < l.length) : ∃ g c, v = .slice (some ⟨g, 0, none⟩) l.length c ∧ l.length ≤ c ∧ c ≤ maxLen := by
  rcases h.2 with ⟨_, h0⟩ | ⟨g, cap, cur, hv, hg, hh, hc, hm, rest⟩
  · omega
  · exact ⟨g, cap, hv, hc, hm⟩
theorem own32_one (l : List Nat) : ∀ u ∈ l.map fun x => Value.int .u32 ((x : Nat) : Int), u.oneCell' = true := by
  intro u hu
  simp only [List.mem_map] at hu
  obtain ⟨x, _, rfl⟩ := hu
  rfl
theorem tk_len {k n L N : Nat} (h1 : k = L / 4) (h2 : n = N / 4) (h3 : L = 56) (h4 : N = 16) : k + n ≤ maxLen := by
  have : maxLen = 9223372036854775807 := rfl
  omega
theorem tk_bytes {k n L N : Nat} (h1 : k = L / 4) (h2 : n = N / 4) (h3 : L = 56) (h4 : N = 16) : (k + n) * 4 ≤ 140737488355328 := by omega
def tkW (l ns : List Nat) : List Nat := words4 l ++ words4 ns
/-- Is a bit set that may not be? -/
def badF (vs : List Nat) : Nat → List Nat → Bool
  | _, [] => false
  | f, v :: r => decide ((vs[f]?.getD 0) &&& (4294967295 - v) ≠ 0) || badF vs (f + 1) r
def tkE (vs l ns : List Nat) : Int := if l.length ≠ 56 then 1 else if life vs ≠ 0 then 14 else if badF vs 9 (tkW l ns) = true then 11 else 0
def tkL (vs l ns : List Nat) : List (Nat × Nat) := if tkE vs l ns = 0 then planOf vs 9 (tkW l ns) else []
theorem badF_append (vs : List Nat) : ∀ (f : Nat) (l r : List Nat), badF vs f (l ++ r) = (badF vs f l || badF vs (f + l.length) r)
  | f, [], r => by simp [badF]
  | f, x :: l, r => by
    simp only [List.cons_append, badF, badF_append vs (f + 1) l r, List.length_cons, Bool.or_assoc]
    rw [show f + 1 + l.length = f + (l.length + 1) by omega]
theorem badF_snoc (vs : List Nat) (f : Nat) (l : List Nat) {i x old : Nat} (hx : l[i]? = some x) (ho : vs[f + i]? = some old) : badF vs f (l.take (i + 1)) = (badF vs f (l.take i) || decide (old &&& (4294967295 - x) ≠ 0)) := by
  have hi : i < l.length := (List.getElem?_eq_some_iff.1 hx).1
  rw [take_snoc hx, badF_append, List.length_take, Nat.min_eq_left (by omega)]
  simp [badF, ho]
theorem badF_hit (vs : List Nat) (f : Nat) (l : List Nat) {i x old : Nat} (hx : l[i]? = some x) (ho : vs[f + i]? = some old) (hb : old &&& (4294967295 - x) ≠ 0) : badF vs f l = true := by
  rw [← List.take_append_drop (i + 1) l, badF_append, badF_snoc vs f l hx ho]
  simp [hb]
set_option maxRecDepth 100000 in
set_option maxHeartbeats 800000 in
theorem tokey_any (A : Option Addr) (len cap : Nat) (l ns : List Nat) (w : World) (h : Cz w c p b vs ls sd) (hl : l.length = len) (hlc : len ≤ cap) (hcm : cap ≤ maxLen) (hz : Nats .u8 256 w w.heap.size A l) (hn : ns.length = 16) (hnb : ∀ x ∈ ns, x < 256) :
    Calls Tryd.prog 77 #[.pointer (some ⟨c, 0, none⟩), .slice A len cap, .agg (b8 ns)] w (ToOut w (tkE vs l ns) (tkL vs l ns)) := by
  have H := Lib.hid h
  have HZ := Lib.hid hz
  have HN := Lib.hid hn
  have HNB := Lib.hid hnb
  have HCM := Lib.hid hcm
  subst hl
  clear h hz hn hnb hcm
  by_cases h56 : l.length = 56
  · by_cases hlf : life vs = 0
    · have hE : tkE vs l ns = if badF vs 9 (tkW l ns) = true then 11 else 0 := by unfold tkE; rw [if_neg (by omega), if_neg (by omega)]
      have HE := Lib.hid hE
      have HL0 := Lib.hid hlf
      have H56 := Lib.hid h56
      rw [h56] at hlc ⊢
      clear hE hlf h56
      obtain ⟨er, her⟩ : ∃ er, tkE vs l ns = er := ⟨_, rfl⟩
      have HER := Lib.hid her
      have HTL := Lib.hid (show er = 0 → tkL vs l ns = planOf vs 9 (tkW l ns) from fun h => by unfold tkL; rw [her, if_pos h])
      have HTN := Lib.hid (show er ≠ 0 → tkL vs l ns = [] from fun h => by unfold tkL; rw [her, if_neg h])
      rw [her] at HE ⊢
      clear her
      have HW1 := Lib.hid (words4_length l)
      have HW2 := Lib.hid (words4_length ns)
      obtain ⟨i0, hi0, hz0, hz1, hz2⟩ := info_row u32_info
      have HI := Lib.hid hi0
      have HI1 := Lib.hid hz0
      have HI2 := Lib.hid hz1
      have HI3 := Lib.hid hz2
      clear hi0 hz0 hz1 hz2
      go_enter Tryd.func77, Tryd.ntmps77
      go_wp2_with fail
      (with_reducible refine (life_any _ (H.out.alloc _)).mono ?_); rintro e w1 ⟨rfl, hB⟩
      rw [HL0.out]
      have HK := Lib.hid ((Blk.new w 50 (b8 ns)).below hB (by simp))
      have HB := Lib.hid (((Below.refl _ w).alloc (Nat.le_refl _) _).trans (hB.mono (by simp)))
      clear hB
      go_upto_region 7 with fail
      go_cut [8] (fun v w' => Hid (Own32 w' w.heap.size v (tkW l ns)) ∧ Hid (Below w.heap.size w w'))
      case first =>
        go_region_law (first
          | (go_simp; go_at_call 102; (with_reducible refine (number_any A 56 cap l _ H56.out hlc HCM.out (by have := H56.out; omega) (by exact nats_at (HZ.out.below HB.out) HB.out.size rfl)).mono ?_); rintro e w2 ⟨v1, rfl, hO, hB⟩; have HK := Lib.hid (HK.out.next hB rfl); have HO1 := Lib.hid (own32_le hO HB.out.size); (try have HO2 := Lib.hid (own32_next HO2.out hB rfl)); have HB := Lib.hid (below_nxt HB.out hB (Nat.le_refl _) rfl rfl rfl rfl); clear hO hB)
          | (go_simp; go_at_call 102; (with_reducible refine (number_any (some ⟨w.heap.size, 0, none⟩) 16 16 ns _ HN.out (by decide) (by decide) (by have := HN.out; omega) (by exact nats_at (nats_b8 HK.out HNB.out) (Nat.le_refl _) rfl)).mono ?_); rintro e w2 ⟨v2, rfl, hO, hB⟩; obtain ⟨g2, c2, rfl, hc2, hm2⟩ := own32_some hO (by have h1 := HW2.out; have h2 := HN.out; omega); have HK := Lib.hid (HK.out.next hB rfl); have HO2 := Lib.hid (own32_le hO HB.out.size); (try have HO1 := Lib.hid (own32_next HO1.out hB rfl)); have HB := Lib.hid (below_nxt HB.out hB (Nat.le_refl _) rfl rfl rfl rfl); clear hO hB)
          | (refine step_append_lies _ (by rfl) _ _ _ (by rfl) w.heap.size 43 i0 _ 1 4 Tryd.underlying37 HI.out HI1.out HI2.out HI3.out rfl (by omega) v1 _ ((words4 l).map fun x => Value.int .u32 ((x : Nat) : Int)) (by rfl) (by exact own32_at HO1.out rfl) ⟨g2, 0, none⟩ (words4 ns).length c2 ((words4 ns).map fun x => Value.int .u32 ((x : Nat) : Int)) (by rfl) (by simp) (by exact own32_news HO2.out rfl) (by exact own32_one _) (by have h1 := HW2.out; have h2 := HN.out; omega) (by exact tk_len HW1.out HW2.out H56.out HN.out) (by exact tk_bytes HW1.out HW2.out H56.out HN.out) (by exact HB.out.size) _ rfl ?_; intro g4 c4 w4 hown4 hgrow4 hat4 hlt4))
        all_goals go_wp2_with fail
        all_goals go_meet
        all_goals refine ⟨Lib.hid ?_, Lib.hid (HB.out.grown hgrow4 HB.out.size (fun k hk => (World.ownsRow.lt HO1.out k hk).1))⟩
        all_goals (unfold Own32 tkW; rw [List.length_append, List.map_append]; exact hown4)
      case rest =>
        obtain ⟨HO, HB2⟩ := hcut
        have hlw : (tkW l ns).length = 18 := by
          unfold tkW
          rw [List.length_append, words4_length, words4_length]
          have h1 := H56.out
          have h2 := HN.out
          omega
        have hwb : ∀ (i x : Nat), (tkW l ns)[i]? = some x → x < 4294967296 := fun i x hx => by
          have hm := List.mem_of_getElem? hx
          unfold tkW at hm
          rw [List.mem_append] at hm
          rcases hm with hm | hm
          · exact words4_lt l (fun y hy => by
              obtain ⟨j, hj, rfl⟩ := List.getElem_of_mem hy
              exact (HZ.out j _ (List.getElem?_eq_getElem hj)).1) x hm
          · exact words4_lt ns HNB.out x hm
        generalize tkW l ns = ws at *
        generalize tkL vs l ns = tl at *
        clear HER HW1 HW2 HL0 HI HI1 HI2 HI3 HK HB HN HNB H56 HCM
        obtain ⟨g8, c8, hv8, hc8, hm8⟩ := own32_some HO.out (by omega)
        have HLW := Lib.hid hlw
        have HWB := Lib.hid hwb
        rw [hlw] at hv8 hc8
        subst hv8
        obtain ⟨wo, rfl⟩ : ∃ wo : World, wo = wc := ⟨_, rfl⟩
        have HH := Lib.hid (H.out.old HB2.out)
        have hwl := HB2.out.size
        clear hlw hwb hm8
        go_wp2_with fail
        go_loopg [9, 10, 29] 18 (fun g s9 s10 s29 wr => ∃ i : Nat, i + g = 18 ∧ s29 = .int .i64 (i : Int) ∧ Hid (badF vs 9 (ws.take i) = false) ∧ Hid (Below wo.heap.size wo wr))
        case atStart => exact ⟨0, by omega, rfl, Lib.hid rfl, Lib.hid (Below.refl _ _)⟩
        case round =>
          obtain ⟨i, hg, rfl, HF, HB3⟩ := hrel
          have HG := Lib.hid hg
          have hi : i ≤ 18 := by omega
          clear hg
          have HO3 := Lib.hid (own32_next HO.out HB3.out rfl)
          have HB4 := Lib.hid (below_then HB2.out HB3.out (Nat.le_refl _))
          have HC := Lib.hid (HH.out.old HB3.out)
          by_cases hlt : i < 18
          · obtain ⟨x, hx⟩ : ∃ x, ws[i]? = some x := ⟨_, List.getElem?_eq_getElem (by have := HLW.out; omega)⟩
            obtain ⟨g', hg', -, hgl, hcx, -⟩ := HO3.out.at_ hx
            cases hg'
            obtain ⟨old, ho⟩ : ∃ old, vs[9 + i]? = some old := ⟨_, List.getElem?_eq_getElem (by have := H.out.len; omega)⟩
            have hoM := H.out.fz.word _ _ ho
            have hxM := HWB.out i x hx
            have HS := Lib.hid (badF_snoc vs 9 ws hx ho)
            have HT := Lib.hid (badF_hit vs 9 ws hx ho)
            have HOO := Lib.hid ho
            clear hx ho
            go_wp2_with fail
            (with_reducible refine (all_any _ HC.out).mono ?_); rintro e w5 ⟨v, rfl, hO5, hB5⟩
            obtain ⟨A5, cp5, rfl, hc5, hm5, -⟩ := hO5.form HC.out.fz.word
            obtain ⟨g5, rfl, hg5, hg6, hco, -⟩ := hO5.at_ HOO.out
            have hvl : vs.length = 64 := HC.out.len
            rw [hvl] at hc5 ⊢
            have HB5 := Lib.hid (below_then HB3.out hB5 (Nat.le_refl _))
            have hb1 := u32_andNot_nat old x hoM (by omega)
            clear hO5 hB5
            by_cases hz : old &&& (4294967295 - x) = 0
            · rw [hz] at hb1
              have HS2 := Lib.hid (show badF vs 9 (ws.take (i + 1)) = false by rw [HS.out, HF.out, hz]; rfl)
              clear hz
              go_wp2_with fail
              go_light
              go_roundg (18 - (i + 1))
              case measure => have := HG.out; omega
              case rel => exact ⟨i + 1, by omega, by go_num, HS2, HB5⟩
            · have HE11 := Lib.hid (show er = 11 by rw [HE.out, if_pos (HT.out hz)])
              have hne : (((old &&& (4294967295 - x) : Nat) : Int) != 0) = true := by rw [bne_iff_ne]; omega
              have HL9 := Lib.hid (HTN.out (by rw [HE11.out]; decide))
              clear hz
              generalize old &&& (4294967295 - x) = y at *
              go_wp2_with fail
              go_light
              go_ret2
              rw [HL9.out, HE11.out]
              exact ⟨_, rfl, World.ownsRow_nil _ _ _ _, below_then HB2.out HB5.out (Nat.le_refl _)⟩
          · have : i = 18 := by omega
            subst this
            have hbad := HF.out
            rw [List.take_of_length_le (by have := HLW.out; omega)] at hbad
            have HE0 := Lib.hid (show er = 0 by rw [HE.out, hbad]; rfl)
            have HL9 := Lib.hid (HTL.out HE0.out)
            have HN9 := Lib.hid (show Nats .u32 4294967296 wr wr.heap.size (some ⟨g8, 0, none⟩) ws from fun j z hz => by
              obtain ⟨g', hg', -, hgl, hcx, -⟩ := HO3.out.at_ hz
              cases hg'
              exact ⟨HWB.out j z hz, g8, 0, rfl, hgl, by rw [Nat.zero_add]; exact hcx⟩)
            clear hbad
            go_wp2_with fail
            (with_reducible refine (plan_any 9 9 _ 18 c8 ws _ HC.out rfl HLW.out (by have := HLW.out; omega) HN9.out).mono ?_); rintro e w6 ⟨v, rfl, hO6, hB6⟩
            have HT6 := Lib.hid (toOut_old HB4.out (er := 0) (l := _) ⟨v, rfl, hO6, hB6⟩)
            clear hO6 hB6
            go_wp2_with fail
            go_light
            go_ret2
            rw [HL9.out, HE0.out]
            exact HT6.out
    · have e1 : tkE vs l ns = 14 := by unfold tkE; rw [if_neg (by omega), if_pos hlf]
      have e2 : tkL vs l ns = [] := by simp [tkL, e1]
      rw [e1, e2, h56]
      have hle : life vs ≤ 4 := lifeN_le _ _
      have hne : (((life vs : Nat) : Int) != 0) = true := by rw [bne_iff_ne]; omega
      clear e1 e2 hlf h56
      go_enter Tryd.func77, Tryd.ntmps77
      go_wp2_with fail
      (with_reducible refine (life_any _ (H.out.alloc _)).mono ?_); rintro e w1 ⟨rfl, hB⟩
      have HB := Lib.hid (((Below.refl _ w).alloc (Nat.le_refl _) _).trans (hB.mono (by simp)))
      clear hB
      generalize life vs = lf at *
      go_wp2_with fail
      go_light
      go_ret2
      exact ⟨_, rfl, World.ownsRow_nil _ _ _ _, HB.out⟩
  · have e1 : tkE vs l ns = 1 := by unfold tkE; rw [if_pos h56]
    have e2 : tkL vs l ns = [] := by simp [tkL, e1]
    rw [e1, e2]
    have hne : (((l.length : Nat) : Int) != 56) = true := by rw [bne_iff_ne]; omega
    clear e1 e2 h56
    go_enter Tryd.func77, Tryd.ntmps77
    go_wp2_with fail
    go_light
    go_ret2
    exact ⟨_, rfl, World.ownsRow_nil _ _ _ _, (Below.refl _ w).alloc (Nat.le_refl _) _⟩
end Otp
end Go.Proofs.YtpakdcgcgekcfaaDoor

/-
  Package otp: ToRow.
-/
set_option linter.unusedSimpArgs false
set_option linter.unusedVariables false
namespace Go.Proofs.YtpakdcgcgekcfaaDoor
open Go.RowKit

namespace Otp
open Fuse
variable {w w' : World} {c p b : Nat} {vs : List Nat} {ls : List Bool} {sd : Bool}
/-- The words of a row. -/
def rowW (vs : List Nat) (k : Nat) : List Nat := (vs.drop (27 + 9 * k)).take 9
def rowZ (vs : List Nat) (k : Nat) : Bool := (rowW vs k).all fun x => decide (x = 0)
def trE (vs : List Nat) (i : Int) : Int := if 0 ≤ i ∧ i < 4 then (if rowZ vs i.toNat = true then 0 else 14) else 1
def numb : Nat → List Nat → List (Nat × Nat)
  | _, [] => []
  | f, x :: r => (f, x) :: numb (f + 1) r
theorem numb_append : ∀ (f : Nat) (l r : List Nat), numb f (l ++ r) = numb f l ++ numb (f + l.length) r
  | f, [], r => by simp [numb]
  | f, x :: l, r => by
    simp only [List.cons_append, numb, numb_append (f + 1) l r, List.length_cons]
    rw [show f + 1 + l.length = f + (l.length + 1) by omega]
theorem numb_length : ∀ (f : Nat) (l : List Nat), (numb f l).length = l.length
  | _, [] => rfl
  | f, x :: l => by simp [numb, numb_length (f + 1) l]
theorem numb_snoc (f : Nat) (l : List Nat) {i x : Nat} (hx : l[i]? = some x) : numb f (l.take (i + 1)) = numb f (l.take i) ++ [(f + i, x)] := by
  have hi : i < l.length := (List.getElem?_eq_some_iff.1 hx).1
  rw [take_snoc hx, numb_append, List.length_take, Nat.min_eq_left (by omega)]
  rfl
def rowL (k : Nat) (ws : List Nat) : List (Nat × Nat) := (35 + 9 * k, 16711680) :: numb (27 + 9 * k) ws ++ [(35 + 9 * k, 16711935)]
def trL (vs : List Nat) (i : Int) (ds : List Nat) : List (Nat × Nat) := if trE vs i = 0 then rowL i.toNat (words4 ds) else []
theorem rowZ_snoc (vs : List Nat) (k : Nat) {j x : Nat} (hx : (rowW vs k)[j]? = some x) : ((rowW vs k).take (j + 1)).all (fun x => decide (x = 0)) = (((rowW vs k).take j).all (fun x => decide (x = 0)) && decide (x = 0)) := by
  rw [take_snoc hx, List.all_append]
  simp
theorem rowZ_hit (vs : List Nat) (k : Nat) {j x : Nat} (hx : (rowW vs k)[j]? = some x) (h : x ≠ 0) : rowZ vs k = false := by
  unfold rowZ
  rw [List.all_eq_false]
  exact ⟨x, List.mem_of_getElem? hx, by simpa using h⟩
/-- A literal list of one Write. -/
theorem ownW_one (w : World) (z u : Int) (x y : Nat) (B : Nat) (hB : B ≤ w.heap.size) (hz : z = x) (hu : u = y) : OwnW (w.alloc (.cells #[.int .i64 z, .int .u32 u] 58)) B (.slice (some ⟨w.heap.size, 0, none⟩) 1 1) [(x, y)] := by
  subst hz; subst hu
  refine ⟨rfl, .inr ⟨w.heap.size, 1, #[.int .i64 (x : Int), .int .u32 (y : Int)], rfl, hB, Blk.new w _ _, Nat.le_refl _, by simp [maxLen], rfl, rfl⟩⟩
set_option maxHeartbeats 2000000 in
theorem torow_out (i : Int) (ds : List Nat) (w : World) (h : Cz w c p b vs ls sd) (hi : i < 0 ∨ 4 ≤ i) :
    Calls Tryd.prog 17 #[.pointer (some ⟨c, 0, none⟩), .int .i64 i, .agg (b8 ds)] w (ToOut w 1 []) := by
  have H := Lib.hid h
  have HI := Lib.hid hi
  clear h hi
  go_enter Tryd.func17, Tryd.ntmps17
  go_wp2_with fail
  (with_reducible refine (at_out _ _ HI.out).mono ?_); rintro e w1 ⟨rfl, rfl⟩
  go_wp2_with fail
  go_light
  go_ret2
  exact ⟨_, rfl, World.ownsRow_nil _ _ _ _, (Below.refl _ w).alloc (Nat.le_refl _) _⟩
set_option maxRecDepth 100000 in
set_option maxHeartbeats 1000000 in
theorem torow_in (k : Nat) (ds : List Nat) (w : World) (h : Cz w c p b vs ls sd) (hk : k < 4) (hl : ds.length = 32) (hd : ∀ x ∈ ds, x < 256) :
    Calls Tryd.prog 17 #[.pointer (some ⟨c, 0, none⟩), .int .i64 (k : Int), .agg (b8 ds)] w (ToOut w (if rowZ vs k = true then 0 else 14) (if rowZ vs k = true then rowL k (words4 ds) else [])) := by
  have H := Lib.hid h
  have HL := Lib.hid hl
  have HD := Lib.hid hd
  clear h hl hd
  obtain ⟨er, her⟩ : ∃ er : Int, (if rowZ vs k = true then 0 else 14) = er := ⟨_, rfl⟩
  obtain ⟨rl, hrl⟩ : ∃ rl, (if rowZ vs k = true then rowL k (words4 ds) else []) = rl := ⟨_, rfl⟩
  rw [her, hrl]
  have HE := Lib.hid her
  have HR := Lib.hid hrl
  clear her hrl
  go_enter Tryd.func17, Tryd.ntmps17
  go_wp2_with fail
  (with_reducible refine (at_in _ _ (by omega) (by omega)).mono ?_); rintro e w1 ⟨rfl, rfl⟩
  have HK := Lib.hid (Blk.new w 23 (b8 ds))
  go_wp2_with fail
  (with_reducible refine (all_any _ (H.out.alloc _)).mono ?_); rintro e w1 ⟨v, rfl, hO, hB⟩
  obtain ⟨g1, c1, rfl, hc1, hm1⟩ := own32_some hO (by have := H.out.len; omega)
  have HO := Lib.hid (own32_le hO (show w.heap.size ≤ _ by simp))
  have HK1 := Lib.hid (HK.out.below hB (by simp))
  have HC1 := Lib.hid ((H.out.alloc _).old hB)
  have HB := Lib.hid (((Below.refl _ w).alloc (Nat.le_refl _) _).trans (hB.mono (by simp)))
  have hvl : vs.length = 64 := H.out.len
  rw [hvl] at hc1 HO ⊢
  have HVL := Lib.hid hvl
  clear hO hB hvl HK hm1
  go_wp2_with fail
  rw [show 27 + 9 * k + 9 - (27 + 9 * k) = 9 by omega]
  have hrw : (rowW vs k).length = 9 := by unfold rowW; rw [List.length_take, List.length_drop]; have := HVL.out; omega
  have hrg : ∀ j, j < 9 → (rowW vs k)[j]? = vs[27 + 9 * k + j]? := fun j hj => by unfold rowW; rw [List.getElem?_take, if_pos hj, List.getElem?_drop]
  have HRW := Lib.hid hrw
  have HRG := Lib.hid hrg
  clear hrw hrg
  go_loopg [11, 34] 9 (fun g s11 s34 wr => ∃ j : Nat, j + g = 9 ∧ s34 = .int .i64 (j : Int) ∧ Hid (((rowW vs k).take j).all (fun x => decide (x = 0)) = true) ∧ wr = w1)
  case atStart => exact ⟨0, by omega, rfl, Lib.hid rfl, rfl⟩
  case round =>
    obtain ⟨j, hg, rfl, HZ, rfl⟩ := hrel
    have HG := Lib.hid hg
    have hj : j ≤ 9 := by omega
    clear hg
    by_cases hlt : j < 9
    · obtain ⟨x, hx⟩ : ∃ x, (rowW vs k)[j]? = some x := ⟨_, List.getElem?_eq_getElem (by have := HRW.out; omega)⟩
      obtain ⟨g', hg', -, hgl, hcx, -⟩ := HO.out.at_ (HRG.out j hlt ▸ hx)
      cases hg'
      have HS := Lib.hid (rowZ_snoc vs k hx)
      have HT := Lib.hid (rowZ_hit vs k hx)
      have hxM : x < 4294967296 := H.out.fz.word _ _ (HRG.out j hlt ▸ hx)
      clear hx
      by_cases hz : x = 0
      · subst hz
        have HS2 := Lib.hid (show ((rowW vs k).take (j + 1)).all (fun x => decide (x = 0)) = true by rw [HS.out, HZ.out]; rfl)
        go_wp2_with fail
        go_light
        go_roundg (9 - (j + 1))
        case measure => have := HG.out; omega
        case rel => exact ⟨j + 1, by omega, by go_num, HS2, rfl⟩
      · have hne : (((x : Nat) : Int) != 0) = true := by rw [bne_iff_ne]; omega
        have HF := Lib.hid (HT.out hz)
        clear hz
        have HE2 := Lib.hid (show er = 14 by rw [← HE.out, HF.out]; rfl)
        have HR2 := Lib.hid (show rl = [] by rw [← HR.out, HF.out]; rfl)
        go_wp2_with fail
        go_light
        go_ret2
        rw [HE2.out, HR2.out]
        exact ⟨_, rfl, World.ownsRow_nil _ _ _ _, HB.out⟩
    · have : j = 9 := by omega
      subst this
      have hZ : rowZ vs k = true := by
        have := HZ.out
        rw [List.take_of_length_le (by have := HRW.out; omega)] at this
        exact this
      have HE2 := Lib.hid (show er = 0 by rw [← HE.out, hZ]; rfl)
      have HR2 := Lib.hid (show rl = rowL k (words4 ds) by rw [← HR.out, hZ]; rfl)
      have hwl := HB.out.size
      have HSZ := Lib.hid (show (Tryd.prog.info? 23).map (·.size) = some (b8 ds).size by
        rw [show (b8 ds).size = 32 by simp [b8, HL.out]]
        kernel_rfl)
      have HO1 := Lib.hid (ownW_one wr (27 + 9 * (k : Int) + 8) 16711680 (35 + 9 * k) 16711680 w.heap.size hwl (by omega) rfl)
      have HWL := Lib.hid (show (words4 ds).length = 8 by rw [words4_length, HL.out])
      have HWM := Lib.hid (fun x hx => words4_lt ds HD.out x hx)
      have HWA := Lib.hid (fun w' => words_arr ds w' HL.out HD.out)
      generalize words4 ds = ws at *
      clear hZ HZ
      go_wp2_with (refine wpList_load_row rfl 23 _ rfl w.heap.size rfl 23 (b8 ds) (0, 0) _ (HK1.out.alloc _) Tryd.underlying23 rfl HSZ.out ?_)
      (with_reducible refine (HWA.out _).mono ?_); rintro e w2 ⟨rfl, hB⟩
      have HO2 := Lib.hid (own_frm (S := []) HO1.out (Frm.of_below hB) (fun y hy => by simp at hy))
      have HB2 := Lib.hid (below_nxt (HB.out.alloc HB.out.size (.cells #[.int .i64 (27 + 9 * (k : Int) + 8), .int .u32 16711680] 58)) hB (Nat.le_refl _) rfl rfl rfl rfl)
      clear hB
      go_wp2_with fail
      have HR3 := Lib.hid (show rl = (35 + 9 * k, 16711680) :: numb (27 + 9 * k) ws ++ [(35 + 9 * k, 16711935)] from HR2.out)
      obtain ⟨i0, hi0, hz0, hz1, hz2⟩ := info_row write_info
      have HI := Lib.hid hi0
      have HI1 := Lib.hid hz0
      have HI2 := Lib.hid hz1
      have HI3 := Lib.hid hz2
      have HO3 := Lib.hid (show OwnW w2 w.heap.size (.slice (some ⟨wr.heap.size, 0, none⟩) 1 1) ((35 + 9 * k, 16711680) :: numb (27 + 9 * k) (ws.take 0)) from HO2.out)
      clear hi0 hz0 hz1 hz2 HO1 HO2 HO HK1 HE HR HR2 HSZ HWA HC1 HVL HRW HRG HL HD H HG
      generalize Value.slice (some ⟨wr.heap.size, 0, none⟩) 1 1 = v0 at *
      obtain ⟨gO, rfl⟩ : ∃ q, q = gk := ⟨_, rfl⟩
      obtain ⟨wO, rfl⟩ : ∃ q, q = wr := ⟨_, rfl⟩
      go_loopg [12, 13, 14, 47] 8 (fun g s12 s13 s14 s47 wr => ∃ j : Nat, j + g = 8 ∧ s47 = .int .i64 (j : Int) ∧ Hid (OwnW wr w.heap.size s12 ((35 + 9 * k, 16711680) :: numb (27 + 9 * k) (ws.take j))) ∧ Hid (Below w.heap.size w wr))
      case atStart => exact ⟨0, by omega, rfl, HO3, HB2⟩
      case round =>
        clear HO3
        obtain ⟨j, hg, rfl, HO, HB⟩ := hrel
        have HG := Lib.hid hg
        have hj : j ≤ 8 := by omega
        have hwl := HB.out.size
        clear hg
        by_cases hlt : j < 8
        · obtain ⟨x, hx⟩ : ∃ x, ws[j]? = some x := ⟨_, List.getElem?_eq_getElem (by have := HWL.out; omega)⟩
          have hxM := HWM.out x (List.mem_of_getElem? hx)
          have hix := run_index_arr (P := Tryd.prog) 118 43 8 Tryd.underlying118 (fun _ => by kernel_rfl) (fun _ => by kernel_rfl) (c32 ws) .i64 (j : Int) j rfl hlt _ (c32_at hx)
          have HS := Lib.hid (numb_snoc (27 + 9 * k) ws hx)
          have hlen : (numb (27 + 9 * k) (ws.take j)).length = j := by rw [numb_length, List.length_take]; have := HWL.out; omega
          have HLN := Lib.hid hlen
          have E27 := Lib.hid (show (27 : Int) + 9 * (k : Int) + (j : Int) = ((27 + 9 * k + j : Nat) : Int) by omega)
          clear hx hlen
          go_wp2_with (at_builtin; refine wpList_append_own _ rfl (.tmp 51) (.tmp 57) 27 rfl w.heap.size 58 i0 (.agg #[.int .i64 0, .int .u32 0]) 2 16 Tryd.underlying27 HI.out HI1.out HI2.out HI3.out rfl (by decide) _ _ _ rfl (HO.out.alloc _) ⟨wr.heap.size, 0, none⟩ 1 1 [.int .i64 (27 + 9 * (k : Int) + (j : Int)), .int .u32 (x : Int)] rfl rfl ?c1 ?c2 ?c3 ?c4 ?c5 ?_)
          case c1 => exact cells_new _ _ _ rfl _
          case c2 => intro u hu; simp at hu; rcases hu with rfl | rfl <;> rfl
          case c3 => rw [List.length_cons, HLN.out]; simp only [maxLen]; omega
          case c4 => rw [List.length_cons, HLN.out]; omega
          case c5 => simp; omega
          · intro v1 w3 hO1 hg1 _
            have hB1 := (HB.out.alloc hwl (.cells #[.int .i64 (27 + 9 * (k : Int) + (j : Int)), .int .u32 (x : Int)] 58)).grown hg1 (by simp; omega) (fun k hk => (World.ownsRow.lt HO.out k hk).1)
            have HO2 := Lib.hid hO1
            have HB3 := Lib.hid hB1
            clear hO1 hB1 hg1
            go_wp2_with fail
            go_light
            go_roundg (8 - (j + 1))
            case measure => have := HG.out; omega
            case rel =>
              refine ⟨j + 1, by omega, by go_num, Lib.hid ?_, HB3⟩
              have h2 := HO2.out
              rw [E27.out] at h2
              unfold OwnW
              rw [HS.out, ← List.cons_append, wcells_append, List.length_append]
              exact h2
        · have : j = 8 := by omega
          subst this
          have HO4 := Lib.hid (show OwnW wr w.heap.size _ ((35 + 9 * k, 16711680) :: numb (27 + 9 * k) ws) by
            have h2 := HO.out
            rw [List.take_of_length_le (by have := HWL.out; omega)] at h2
            exact h2)
          have hlen : ((35 + 9 * k, 16711680) :: numb (27 + 9 * k) ws).length = 9 := by rw [List.length_cons, numb_length, HWL.out]
          have HLN := Lib.hid hlen
          have E35 := Lib.hid (show (27 : Int) + 9 * (k : Int) + 8 = ((35 + 9 * k : Nat) : Int) by omega)
          clear hlen HO
          generalize (35 + 9 * k, 16711680) :: numb (27 + 9 * k) ws = L9 at *
          go_wp2_with (at_builtin; refine wpList_append_own _ rfl (.tmp 60) (.tmp 64) 27 rfl w.heap.size 58 i0 (.agg #[.int .i64 0, .int .u32 0]) 2 16 Tryd.underlying27 HI.out HI1.out HI2.out HI3.out rfl (by decide) _ _ _ rfl (HO4.out.alloc _) ⟨wr.heap.size, 0, none⟩ 1 1 [.int .i64 (27 + 9 * (k : Int) + 8), .int .u32 16711935] rfl rfl ?d1 ?d2 ?d3 ?d4 ?d5 ?_)
          case d1 => exact cells_new _ _ _ rfl _
          case d2 => intro u hu; simp at hu; rcases hu with rfl | rfl <;> rfl
          case d3 => rw [HLN.out]; simp only [maxLen]; omega
          case d4 => rw [HLN.out]; omega
          case d5 => simp; omega
          · intro v1 w3 hO1 hg1 _
            have hB1 := (HB.out.alloc hwl (.cells #[.int .i64 (27 + 9 * (k : Int) + 8), .int .u32 16711935] 58)).grown hg1 (by simp; omega) (fun k hk => (World.ownsRow.lt HO4.out k hk).1)
            have HO5 := Lib.hid hO1
            have HB3 := Lib.hid hB1
            clear hO1 hB1 hg1
            go_wp2_with fail
            go_light
            go_ret2
            rw [HE2.out, HR3.out]
            refine ⟨_, rfl, ?_, HB3.out⟩
            have h2 := HO5.out
            rw [E35.out] at h2
            unfold OwnW
            rw [wcells_append, List.length_append]
            exact h2
theorem torow_any (i : Int) (ds : List Nat) (w : World) (h : Cz w c p b vs ls sd) (hl : ds.length = 32) (hd : ∀ x ∈ ds, x < 256) :
    Calls Tryd.prog 17 #[.pointer (some ⟨c, 0, none⟩), .int .i64 i, .agg (b8 ds)] w (ToOut w (trE vs i) (trL vs i ds)) := by
  by_cases h0 : 0 ≤ i ∧ i < 4
  · obtain ⟨k, rfl⟩ := Int.eq_ofNat_of_zero_le h0.1
    have := torow_in k ds w h (by omega) hl hd
    have e1 : trE vs (k : Int) = if rowZ vs k = true then 0 else 14 := by unfold trE; rw [if_pos h0]; simp
    have e2 : trL vs (k : Int) ds = if rowZ vs k = true then rowL k (words4 ds) else [] := by
      unfold trL
      rw [e1]
      cases rowZ vs k <;> simp
    rw [e1, e2]
    exact this
  · have e1 : trE vs i = 1 := by unfold trE; rw [if_neg h0]
    have e2 : trL vs i ds = [] := by unfold trL; rw [e1]; rfl
    rw [e1, e2]
    exact torow_out i ds w h (by omega)
end Otp
end Go.Proofs.YtpakdcgcgekcfaaDoor

/-
  Package otp: Do.
-/
set_option linter.unusedSimpArgs false
set_option linter.unusedVariables false
namespace Go.Proofs.YtpakdcgcgekcfaaDoor
open Go.RowKit

namespace Otp
open Fuse
variable {w w' : World} {c p b : Nat} {vs : List Nat} {ls : List Bool} {sd : Bool}
/-- What Do answers, and leaves. -/
def doL (vs : List Nat) : List (Nat × Nat) → Int × List Nat
  | [] => (0, vs)
  | x :: r => if cutE vs x.1 x.2 = 0 then doL (cutV vs x.1 x.2 4294967295) r else (cutE vs x.1 x.2, vs)
theorem cutV_length (vs : List Nat) (i : Int) (v g : Nat) : (cutV vs i v g).length = vs.length := by
  unfold cutV; split <;> simp
theorem OwnW.at_ {w : World} {base : Nat} {v : Value} {l : List (Nat × Nat)} (h : OwnW w base v l) : ∃ A cp, v = .slice A l.length cp ∧ l.length ≤ cp ∧ cp ≤ maxLen ∧
    ∀ (i x y : Nat), l[i]? = some (x, y) → ∃ g, A = some ⟨g, 0, none⟩ ∧ base ≤ g ∧ g < w.heap.size ∧ w.cell? ⟨g, i * 2, none⟩ = some (.int .i64 (x : Int)) ∧ w.cell? ⟨g, i * 2 + 1, none⟩ = some (.int .u32 (y : Int)) := by
  have h' := h
  rcases h.2 with ⟨hv, hn⟩ | ⟨g, cap, cur, hv, hg, hh, hc, hm, hs, ht⟩
  · refine ⟨none, 0, by rw [hv, hn], by omega, by simp [maxLen], fun i x y hx => ?_⟩
    have := (List.getElem?_eq_some_iff.1 hx).1
    omega
  · refine ⟨_, cap, hv, hc, hm, fun i x y hx => ⟨g, rfl, hg, Blk.lt (w := w) (t := 58) (cs := cur) hh, ?_, ?_⟩⟩
    · subst hv
      have hi := (List.getElem?_eq_some_iff.1 hx).1
      have := World.ownsRow.cellAt h' (i * 2) (by omega)
      rw [this]
      exact (wcells_at l i x y hx).1
    · subst hv
      have hi := (List.getElem?_eq_some_iff.1 hx).1
      have := World.ownsRow.cellAt h' (i * 2 + 1) (by omega)
      rw [this]
      exact (wcells_at l i x y hx).2

def DoOut (w : World) (c p b : Nat) (ls : List Bool) (sd : Bool) (r : Int × List Nat) (e : Ending) (w' : World) : Prop := e = .returned (.int .i64 r.1) ∧ Cz w' c p b r.2 ls sd ∧ Frm [b] w w'

set_option maxHeartbeats 2000000 in
theorem do_any (v : Value) (B : Nat) (l : List (Nat × Nat)) (w : World) (h : Cz w c p b vs ls sd) (hO : OwnW w B v l) (hB : b < B) (hM : ∀ x ∈ l, x.2 < 4294967296) (hI : ∀ x ∈ l, x.1 < 64) :
    Calls Tryd.prog 18 #[.pointer (some ⟨c, 0, none⟩), v] w (DoOut w c p b ls sd (doL vs l)) := by
  obtain ⟨A, cp, rfl, hl1, hl2, -⟩ := hO.at_
  have H := Lib.hid h
  have HO := Lib.hid hO
  have HM := Lib.hid hM
  have HI := Lib.hid hI
  clear h hO hM hI
  simp only [maxLen] at hl2
  go_enter Tryd.func18, Tryd.ntmps18
  go_wp2_with fail
  go_loopg [12] l.length (fun g s12 wr => ∃ i : Nat, i + g = l.length ∧ s12 = .int .i64 (i : Int) ∧ ∃ cur, doL vs l = doL cur (l.drop i) ∧ Cz wr c p b cur ls sd ∧ Frm [b] w wr)
  case atStart => exact ⟨0, by omega, rfl, vs, rfl, H.out, Frm.refl _ _⟩
  case round =>
    obtain ⟨i, hg, rfl, cur, hd, hC, hF⟩ := hrel
    have HG := Lib.hid hg
    have hig : i ≤ l.length := by omega
    have HF := Lib.hid hF
    have HD := Lib.hid hd
    have HC := Lib.hid hC
    clear hg hC hF hd
    by_cases hlt : i < l.length
    · obtain ⟨⟨x, y⟩, hx⟩ : ∃ x, l[i]? = some x := ⟨_, List.getElem?_eq_getElem hlt⟩
      have hO1 : OwnW wr B (.slice A l.length cp) l := own_frm HO.out HF.out (fun z hz => by simp at hz; omega)
      obtain ⟨A', cp', hv, -, -, hat⟩ := hO1.at_
      simp only [Value.slice.injEq] at hv
      obtain ⟨rfl, -, -⟩ := hv
      obtain ⟨g0, rfl, hg0, hg1, hc0, hc1⟩ := hat i x y hx
      have hmem := List.mem_of_getElem? hx
      have hyM := HM.out _ hmem
      have hxI := HI.out _ hmem
      simp only at hyM hxI
      have hdr : l.drop i = (x, y) :: l.drop (i + 1) := by
        obtain ⟨h1, h2⟩ := List.getElem?_eq_some_iff.1 hx
        rw [List.drop_eq_getElem_cons h1, h2]
      have hd := HD.out
      rw [hdr, doL] at hd
      have HD2 := Lib.hid hd
      have hcc := HC.out.cell.1
      have hcl := HC.out.head.lt
      have HCa := Lib.hid (fun o => HC.out.alloc o)
      clear hd hdr hx hO1 hat hmem
      have HFa := Lib.hid (show Fz (wr.alloc (.cells #[.int .i64 (x : Int), .int .u32 (y : Int)] 58)) p b cur ls from (HCa.out _).fz)
      go_upto_region 6 with fail
      go_cut [7] (fun v w' => v = .int .i64 (cutE cur (x : Int) y) ∧ Fz w' p b (cutV cur (x : Int) y 4294967295) ls ∧ Frm [b] wr w')
      case first =>
        go_region_with (go_at_call 70; (with_reducible refine (program_any (x : Int) (y : Int) _ HFa.out.drew (by omega) (by omega)).mono ?_); rintro e w2 ⟨rfl, hz2, hf2⟩; rw [Int.toNat_natCast] at hz2 ⊢)
        all_goals go_wp2_with fail
        all_goals go_meet
        all_goals exact ⟨rfl, hz2, ((Frm.refl [b] wr).alloc _).drew.trans hf2⟩
      case rest =>
        obtain ⟨rfl, hz2, hf2⟩ := hcut
        obtain ⟨w2, rfl⟩ : ∃ wo : World, wo = wc := ⟨_, rfl⟩
        obtain ⟨n1, n2, n3⟩ := HC.out.nes
        have hc2 : Cz w2 c p b (cutV cur (x : Int) y 4294967295) ls sd := ⟨hz2, by rw [cutV_length]; exact HC.out.len, HC.out.head.frm hf2 (by simpa using n2)⟩
        have hf3 := HF.out.trans hf2
        have HC2 := Lib.hid hc2
        have HF3 := Lib.hid hf3
        have hd := HD2.out
        clear hz2 hf2 hc2 hf3
        by_cases h0 : cutE cur (x : Int) y = 0
        · rw [if_pos h0] at hd
          rw [h0]
          have HD3 := Lib.hid hd
          clear hd h0
          go_wp2_with fail
          go_light
          go_roundg (l.length - (i + 1))
          case measure => have := HG.out; omega
          case rel => exact ⟨i + 1, by omega, by go_num, _, HD3.out, HC2.out, HF3.out⟩
        · have hv : cutV cur (x : Int) y 4294967295 = cur := by simp [cutV, h0]
          rw [if_neg h0] at hd
          rw [hv] at HC2
          have HD3 := Lib.hid hd
          clear hd hv
          have hne : (cutE cur (x : Int) y != 0) = true := by simpa using h0
          generalize cutE cur (x : Int) y = ce at *
          go_wp2_with fail
          go_light
          go_ret
          show DoOut _ _ _ _ _ _ _ _ _
          rw [HD3.out]
          exact ⟨rfl, HC2.out, HF3.out⟩
    · have : i = l.length := by omega
      subst this
      have hd := HD.out
      rw [List.drop_length, doL] at hd
      have HD := Lib.hid hd
      clear hd
      go_wp2_with fail
      go_light
      go_ret
      show DoOut _ _ _ _ _ _ _ _ _
      rw [HD.out]
      exact ⟨rfl, HC.out, HF.out⟩
end Otp
end Go.Proofs.YtpakdcgcgekcfaaDoor

/-
  The law package's 'awake' (otp).
-/
set_option linter.unusedSimpArgs false
set_option linter.unusedVariables false
namespace Go.Proofs.YtpakdcgcgekcfaaDoor
open Go.RowKit

namespace Otp
open Fuse
variable {w w' : World} {c p b : Nat} {vs : List Nat} {ls : List Bool} {sd : Bool}
theorem tocounter_to (n : Int) (er : Int) (l : List (Nat × Nat)) (w : World) (h : Cz w c p b vs ls sd) (hT : Tab w) (he : tcE vs n = er) (hl : tcL vs n = l) :
    Calls Tryd.prog 65 #[.pointer (some ⟨c, 0, none⟩), .int .i64 n] w (ToOut w er l) := by
  subst he; subst hl
  exact tocounter_any n w h hT
theorem counter_to (n : Nat) (w : World) (h : Cz w c p b vs ls sd) (hT : Tab w) (hn : counter vs = n) : Calls Tryd.prog 27 #[.pointer (some ⟨c, 0, none⟩)] w
    fun e w' => e = .returned (.int .i64 ((n : Nat) : Int)) ∧ Below w.heap.size w w' := by
  subst hn
  exact counter_any w h hT
theorem life_to (n : Nat) (w : World) (h : Cz w c p b vs ls sd) (hn : life vs = n) : Calls Tryd.prog 26 #[.pointer (some ⟨c, 0, none⟩)] w
    fun e w' => e = .returned (.int .i64 ((n : Nat) : Int)) ∧ Below w.heap.size w w' := by
  subst hn
  exact life_any w h
theorem do_to (v : Value) (B : Nat) (l : List (Nat × Nat)) (w : World) (er : Int) (vs' : List Nat) (h : Cz w c p b vs ls sd) (hO : OwnW w B v l) (hB : b < B) (hM : ∀ x ∈ l, x.2 < 4294967296) (hI : ∀ x ∈ l, x.1 < 64) (hd : doL vs l = (er, vs')) :
    Calls Tryd.prog 18 #[.pointer (some ⟨c, 0, none⟩), v] w fun e w' => e = .returned (.int .i64 er) ∧ Cz w' c p b vs' ls sd ∧ Frm [b] w w' := by
  have := do_any v B l w h hO hB hM hI
  rw [hd] at this
  exact this
/-- The chip's words behind a counter of n. -/
def cv (n : Nat) : List Nat := [0] ++ lw n ++ List.replicate 55 0
theorem cv0 : z64 = cv 0 := by decide +kernel
theorem aw1 : tcE (cv 0) 3 = 0 ∧ tcL (cv 0) 3 = [(1, 7)] := by decide +kernel
theorem aw2 : doL (cv 0) [(1, 7)] = (0, cv 3) := by decide +kernel
theorem aw3 : counter (cv 3) = 3 ∧ life (cv 3) = 0 := by decide +kernel

set_option maxHeartbeats 1000000 in
theorem awake_any (w : World) (hT : Tab w) : Calls Tryd.prog 15 #[] w (TrueBelow w) := by
  have HT := Lib.hid hT
  clear hT
  go_enter Tryd.func15, Tryd.ntmps15
  go_wp2_with fail
  (with_reducible refine (new_chip _).mono ?_); rintro e w1 ⟨c, p, b, rfl, hC, hc, hp, hb, hB⟩
  rw [cv0] at hC
  have HC := Lib.hid hC
  have HB := Lib.hid hB
  have HT1 := Lib.hid (HT.out.old hB)
  have hbl := hC.fz.ltb
  have hpl := hC.fz.ltp
  have hcl := hC.head.lt
  clear hC hB
  go_wp2_with fail
  (with_reducible refine (tocounter_to 3 0 [(1, 7)] _ HC.out HT1.out aw1.1 aw1.2).mono ?_); rintro e w2 ⟨v, rfl, hO, hB⟩
  have HC2 := Lib.hid (HC.out.old hB)
  have HT2 := Lib.hid (HT1.out.old hB)
  have HB2 := Lib.hid (below_then HB.out hB (Nat.le_refl _))
  have hwl := hB.size
  have HO := Lib.hid hO
  obtain ⟨A, cp, rfl, hc1, hc2, hat⟩ := hO.at_
  obtain ⟨g, rfl, hg1, hg2, hx, hy⟩ := hat 0 1 7 rfl
  simp only [Nat.zero_mul, Nat.zero_add, List.length_cons, List.length_nil] at hx hy hc1 HO ⊢
  clear hB hO hat
  go_wp2_with fail
  (with_reducible refine (do_to _ w1.heap.size [(1, 7)] _ 0 (cv 3) HC2.out HO.out hbl (by simp) (by simp) aw2).mono ?_); rintro e w3 ⟨rfl, hC, hF⟩
  have HC3 := Lib.hid hC
  have HT3 := Lib.hid (HT2.out.frm hF (by have := HT1.out.lt; have := HT.out.lt; simp; omega))
  have HB3 := Lib.hid (Below.frm HB2.out hF (by have := HB2.out.size; omega) (by simpa using hb))
  clear hC hF
  go_wp2_with fail
  (with_reducible refine (counter_to 3 _ HC3.out HT3.out aw3.1).mono ?_); rintro e w4 ⟨rfl, hB⟩
  have HC4 := Lib.hid (HC3.out.old hB)
  have HB4 := Lib.hid (below_then HB3.out hB (Nat.le_refl _))
  clear hB
  go_wp2_with fail
  (with_reducible refine (life_to 0 _ HC4.out aw3.2).mono ?_); rintro e w5 ⟨rfl, hB⟩
  have HB5 := Lib.hid (below_then HB4.out hB (Nat.le_refl _))
  clear hB
  go_wp2_with fail
  go_light
  go_ret
  exact ⟨rfl, HB5.out⟩
end Otp
end Go.Proofs.YtpakdcgcgekcfaaDoor
