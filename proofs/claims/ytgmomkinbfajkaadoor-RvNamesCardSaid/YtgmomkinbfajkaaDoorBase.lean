/-
  Words of every text: a wall around a fact; bytes as cells. No program in sight.
-/
import Derived.Test.YtgmomkinbfajkaaDoorMem
import Derived.Test.YtgmomkinbfajkaaDoorNext
import Derived.Deep.MidRow
set_option linter.unusedSimpArgs false
set_option linter.unusedVariables false
namespace Go.Proofs.YtgmomkinbfajkaaDoor
open Go.RowKit

theorem Blk.range {w : World} {g : Nat} {t : TypeId} {cs : Array Value} (h : Blk w g t cs) : w.rangeAt g 0 cs.toList := fun j v hv => by
  rw [Nat.zero_add, h.cell]
  simpa using hv
namespace Sha
/-- A fact behind a wall (a structure: it cannot be unfolded). -/
structure Wall (p : Prop) : Prop where
  out : p
theorem wall {p : Prop} (h : p) : Wall p := ⟨h⟩
def v8 (l : List Nat) : List Value := l.map fun x => Value.int .u8 ((x : Nat) : Int)
def v32 (l : List Nat) : List Value := l.map fun x => Value.int .u32 ((x : Nat) : Int)
theorem v8_length (l : List Nat) : (v8 l).length = l.length := by simp [v8]
theorem v32_length (l : List Nat) : (v32 l).length = l.length := by simp [v32]
theorem v8_append (a b : List Nat) : v8 (a ++ b) = v8 a ++ v8 b := by simp [v8]
end Sha
namespace Otp
/-- Bytes as cells. -/
def b8 (l : List Nat) : Array Value := (l.map fun x => Value.int .u8 ((x : Nat) : Int)).toArray
theorem b8_at {l : List Nat} {i x : Nat} (h : l[i]? = some x) : (b8 l)[i]? = some (.int .u8 (x : Int)) := by simp [b8, h]
theorem nats_b8 {w : World} {L : Nat} {t : TypeId} {l : List Nat} (h : Blk w L t (b8 l)) (hw : ∀ x ∈ l, x < 256) : Nats .u8 256 w w.heap.size (some ⟨L, 0, none⟩) l := fun i z hz =>
  ⟨hw z (List.mem_of_getElem? hz), L, 0, rfl, h.lt, by rw [Nat.zero_add, h.cell, b8_at hz]⟩
theorem b8_one (l : List Nat) : (b8 l).all (·.oneCell') = true := all_oneCell_toArray (fun v hv => by
  obtain ⟨a, _, rfl⟩ := List.mem_map.1 hv
  rfl)
theorem b8_size (l : List Nat) : (b8 l).size = l.length := by simp [b8]
/-- A whole array out of a block, in a place that is guarded. -/
theorem load_mid_g {P : Program} {ops : Array Oper} {rest : List Oper} {op : Oper} {a : Act} {w : World} {Q : Exit → Act → World → Prop} (hw : Region.wanted op (yielded ops a.tmps) = true) (ty : TypeId) (x : Operand) (ho : op.op = .load ty x)
    (b o : Nat) (hx : a.eval x = .pointer (some ⟨b, o, none⟩)) (cs : List Value) (d : TypeDesc) (hc : w.rangeAt b o cs) (hu : P.underlying ty = some d) (hd : d.isRow = true) (hi : (P.info? ty).map (·.size) = some cs.length)
    (h : wpList P ops Q rest (a.put op.dst (.agg cs.toArray)) w) : wpList P ops Q (op :: rest) a w :=
  wpList_step fun K hK => by
    rw [if_pos hw]
    exact wp_load_mid ty x ho b o hx cs d hc hu hd hi (hK _ _ h)
/-- A whole array out of a block, its cells as a list. -/
theorem load_row_g {P : Program} {ops : Array Oper} {rest : List Oper} {op : Oper} {a : Act} {w : World} {Q : Exit → Act → World → Prop} (hw : Region.wanted op (yielded ops a.tmps) = true) (ty : TypeId) (x : Operand) (ho : op.op = .load ty x)
    (b : Nat) (hx : a.eval x = .pointer (some ⟨b, 0, none⟩)) (t : TypeId) (cs : Array Value) (d : TypeDesc) (hc : Blk w b t cs) (hu : P.underlying ty = some d) (hd : d.isRow = true) (hi : (P.info? ty).map (·.size) = some cs.size)
    (h : wpList P ops Q rest (a.put op.dst (.agg cs)) w) : wpList P ops Q (op :: rest) a w :=
  load_mid_g hw ty x ho b 0 hx cs.toList d (Blk.range hc) hu hd (by simpa using hi) (by simpa using h)
end Otp
end Go.Proofs.YtgmomkinbfajkaaDoor
