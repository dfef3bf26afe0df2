/-
  Words for the drawn regions' walk (Rel): bytes that a call hands back; arrays by value.
-/
import Derived.Test.YtgmomkinbfajkaaDoorProg
import Derived.Test.YtgmomkinbfajkaaDoorMem
import Derived.Test.YtgmomkinbfajkaaDoorNext
import Derived.Test.YtgmomkinbfajkaaDoorMid
import Derived.Test.YtgmomkinbfajkaaDoorRel
import Derived.Test.YtgmomkinbfajkaaDoorOwnB
import Derived.Deep.MidRow
import Derived.Laws.Tables
set_option linter.unusedSimpArgs false
set_option linter.unusedVariables false
namespace Go.Proofs.YtgmomkinbfajkaaDoor
open Go.RowKit

namespace R1
/-- A slice that reads as bytes. -/
def Bytes (l : List Nat) (v : Value) (W : World) : Prop := ∃ A c, v = .slice A l.length c ∧ l.length ≤ c ∧ Nats .u8 256 W W.heap.size A l
theorem nats_soft {k : IntKind} {M : Nat} {W W' : World} {A : Option Addr} {l : List Nat} (h : Rel.Soft W W') (hN : Nats k M W W.heap.size A l) : Nats k M W' W'.heap.size A l := fun i z hz => by
  obtain ⟨h1, b, off, h2, h3, h4⟩ := hN i z hz
  exact ⟨h1, b, off, h2, Nat.lt_of_lt_of_le h3 h.size, h.cell _ _ h4⟩
theorem Bytes.grow {l : List Nat} : ∀ (v : Value) (W W' : World), Rel.Soft W W' → Bytes l v W → Bytes l v W' := fun _ _ _ h ⟨A, c, h1, h2, h3⟩ => ⟨A, c, h1, h2, nats_soft h h3⟩
theorem own_nats {w : World} {base : Nat} {v : Value} {l : List Nat} (h : OwnB w base v l) (hb : ∀ x ∈ l, x < 256) :
    ∃ A c, v = .slice A l.length c ∧ l.length ≤ c ∧ Nats .u8 256 w w.heap.size A l ∧ ∀ ad : Addr, A = some ad → base ≤ ad.block := by
  have h' : w.ownsRow base 5 1 v l.length ((l.map fun x => ((x : Nat) : Int)).map (Value.int .u8)) := by
    simpa [OwnB, List.map_map, Function.comp_def] using h
  obtain ⟨_, A, c, rfl, hc, hi, hA⟩ := own_ints h' (fun z hz => by
    obtain ⟨x, hx, rfl⟩ := List.mem_map.1 hz
    have := hb x hx
    have hw : ∀ n : Fin 256, (Lit.int .u8 ((n.val : Nat) : Int)).wf = true := by decide +kernel
    exact hw ⟨x, this⟩)
  refine ⟨A, c, rfl, hc, fun i z hz => ?_, hA⟩
  obtain ⟨_, b, off, h1, h2, h3⟩ := hi i z (by simp [hz])
  exact ⟨hb z (List.mem_of_getElem? hz), b, off, h1, h2, h3⟩
theorem own_bytes {w : World} {base : Nat} {v : Value} {l : List Nat} (h : OwnB w base v l) (hb : ∀ x ∈ l, x < 256) : Bytes l v w :=
  let ⟨A, c, h1, h2, h3, _⟩ := own_nats h hb
  ⟨A, c, h1, h2, h3⟩
/-- A call that hands back bytes, in the drawn walk. -/
theorem bytes_call {P : Program} {f : FuncId} {args : Array Value} {W : World} {l : List Nat} (h : Calls P f args W (BytesOut W l)) (hb : ∀ x ∈ l, x < 256) : Calls P f args W (fun e w'' => ∃ v, e = .returned v ∧ Rel.Grow W w'' ∧ Bytes l v w'') :=
  h.mono fun _ _ ⟨v, he, ho, hB⟩ => ⟨v, he, hB, own_bytes ho hb⟩
theorem const_call {P : Program} {f : FuncId} {args : Array Value} {W : World} {c : Value} (h : Calls P f args W (fun e w' => e = .returned c ∧ Below W.heap.size W w')) : Calls P f args W (fun e w'' => ∃ v, e = .returned v ∧ Rel.Grow W w'' ∧ v = c) :=
  h.mono fun _ _ ⟨he, hB⟩ => ⟨c, he, hB, rfl⟩
end R1
theorem nats_far {k : IntKind} {M : Nat} {w : World} {B : Nat} {A : Option Addr} {l : List Nat} (h : Nats k M w B A l) {g : Nat} (hne : ∀ ad : Addr, A = some ad → ad.block ≠ g) (i : Nat) (u : Value) : Nats k M (w.setCell ⟨g, i, none⟩ u) B A l := fun j z hz => by
  obtain ⟨h1, b, off, h2, h3, h4⟩ := h j z hz
  refine ⟨h1, b, off, h2, h3, ?_⟩
  rw [← h4]
  exact World.cell?_of_block (Below.heap_setCell w ⟨g, i, none⟩ u b (hne _ h2))
namespace Rel
theorem exec_load {P : Program} {o : Oper} {a : Act} {W : World} (ty : TypeId) (x : Operand) (ho : o.op = .load ty x) (b off : Nat) (hx : a.eval x = .pointer (some ⟨b, off, none⟩)) (cs : Array Value) (d : TypeDesc) (hc : W.rangeAt b off cs.toList) (hu : P.underlying ty = some d) (hd : d.isRow = true) (hi : (P.info? ty).map (·.size) = some cs.size) :
    (execOp a.eval o).run P W = .ok (.value (.agg cs)) W := by
  unfold execOp
  simp only [ho, hx]
  rw [Sem.run_bind, run_loadAt_mid W b off ty cs.toList d hc hu hd (by simpa using hi)]
  simp [Result.andThen]
theorem exec_field {P : Program} {o : Oper} {a : Act} {W : World} (ty : TypeId) (x : Operand) (i : Nat) (ho : o.op = .field ty x i) (v v' : Value) (hx : a.eval x = v) (h : (Instr.field ty v i).run P W = .ok v' W) : (execOp a.eval o).run P W = .ok (.value v') W := by
  unfold execOp
  simp only [ho, hx]
  rw [Sem.run_bind, h]
  simp [Result.andThen]
theorem exec_build {P : Program} {o : Oper} {a : Act} {W : World} (t : TypeId) (parts : List (Nat × Operand)) (ho : o.op = .build t parts.toArray) (cells : Array Value) (h : P.built t (parts.map fun p => (p.1, a.eval p.2)) = some cells) : (execOp a.eval o).run P W = .ok (.value (.agg cells)) W := by
  have h' : P.built t (parts.toArray.map fun (i, x) => (i, a.eval x)).toList = some cells := by
    rw [← h]
    congr 1
    simp
  unfold execOp
  simp only [ho]
  rw [Sem.run_bind, run_build W t _ cells h']
  simp [Result.andThen]
theorem Grow.blk {w W : World} {g : Nat} {t : TypeId} {cs : Array Value} (h : Grow w W) (k : Blk w g t cs) : Blk W g t cs := k.next h rfl
theorem Grow.undrew {w W : World} (h : Grow w.drew W) : Below w.heap.size w W := by
  have h' : Below w.drew.heap.size w.drew W := h
  exact ⟨h'.os, h'.tape, h'.output, h'.size, h'.block⟩
end Rel
end Go.Proofs.YtgmomkinbfajkaaDoor
