/-
  copy onto bytes that lie in a block; an array's end as a slice; four bytes of a word.
-/
import Derived.Test.YtpakdcgcgekcfaaDoorMem
import Derived.Test.YtpakdcgcgekcfaaDoorNext
import Derived.Test.YtpakdcgcgekcfaaDoorShaWord
import Derived.Test.YtpakdcgcgekcfaaDoorWordsB
import Derived.Test.YtpakdcgcgekcfaaDoorRowD
import Derived.Laws.CopyOwn
import Derived.Deep.MidRow
import Derived.Laws.Rows
import Derived.Laws.ResultCell
namespace Go.Proofs.YtpakdcgcgekcfaaDoor
open Go.RowKit

namespace Otp
open Fuse R1
/-- An array's end, as a slice. -/
theorem run_slice_arr_l {P : Program} (t e : TypeId) (N : Nat) (ht : P.underlying t = some (.array N e)) (hs : ∀ w, (sizeOf e).run P w = .ok 1 w) (b lo : Nat) (kl : IntKind) (l : Int) (hl : l = lo) (h3 : lo < N) (w : World) :
    (Instr.sliceAt t (.pointer (some ⟨b, 0, none⟩)) (some (.int kl l)) none none).run P w = .ok (.slice (some ⟨b, lo, none⟩) (N - lo) (N - lo)) w := by
  have hn : P.arrayLen t = N := by simp [Program.arrayLen, ht]
  have he : P.elem t = e := by simp [Program.elem, ht]
  have ht' : P.underlying t = some (.array (P.arrayLen t) (P.elem t)) := by rw [hn, he]; exact ht
  rw [run_sliceAt_array_l w t ⟨b, 0, none⟩ ht' kl l (by omega) (by rw [hn]; omega), he, hs, hn]
  subst hl
  have hne : ¬ N = lo := by omega
  simp [Result.andThen, slicedAt, hne, Go.WideShapes.add_plain]
theorem numB_four (x : Nat) (hm : x < 4294967296) : ((numB x 4).map fun y => Value.int .u8 ((y : Nat) : Int)) = [Value.int .u8 ((x : Int) / 16777216), Value.int .u8 ((x : Int) / 65536 % 256), Value.int .u8 ((x : Int) / 256 % 256), Value.int .u8 ((x : Int) % 256)] := by
  have e : x / 16777216 % 256 = x / 16777216 := Nat.mod_eq_of_lt (by omega)
  simp [numB, e]
theorem b8_list (l : List Nat) : (l.map fun y => Value.int .u8 ((y : Nat) : Int)).toArray = b8 l := rfl
theorem map_splice {α β : Type} (f : α → β) (L : List α) (o : Nat) (cs : List α) : (splice L o cs).map f = splice (L.map f) o (cs.map f) := by
  simp [splice, List.map_take, List.map_drop]
theorem wpList_copy_b8 {P : Program} {w : World} {ops : Array Oper} {rest : List Oper} {o : Oper} {a : Act} {Q : Exit → Act → World → Prop} (hgd : o.guard = none) (d s : Operand) (dT sT : TypeId)
    (ho : o.op = .call { callee := .builtin .copy, args := #[d, s], argTypes := #[dT, sT] }) (elem : TypeId) (hu : P.underlying dT = some (.slice elem)) (hsz : (P.info? elem).map (·.size) = some 1)
    (dp sp : Option Addr) (dLen dCap sLen sCap : Nat) (hd : a.eval d = .slice dp dLen dCap) (hs : a.eval s = .slice sp sLen sCap)
    (g off : Nat) (t : TypeId) (cur : List Nat) (hg : Blk w g t (b8 cur)) (cs : List Nat) (hn : cs.length = Nat.min sLen dLen)
    (hpos : 0 < cs.length → dp = some ⟨g, off, none⟩ ∧ ∃ ad, sp = some ad ∧ ∀ j (v : Value), (cs.map fun y => Value.int .u8 ((y : Nat) : Int))[j]? = some v → w.cell? (ad.add j) = some v)
    (hfit : off + cs.length ≤ cur.length) (B : Nat) (w0 : World) (hb : Below B w0 w) (hBg : B ≤ g)
    (h : ∀ w', Hid (Blk w' g t (b8 (splice cur off cs))) → Hid (Below B w0 w') → wpList P ops Q rest (a.put o.dst (goInt cs.length)) w') :
    wpList P ops Q (o :: rest) a w := by
  have hl : (cs.map fun y => Value.int .u8 ((y : Nat) : Int)).length = cs.length := by simp
  refine wpList_copy_splice hgd d s dT sT ho elem hu hsz dp sp dLen dCap sLen sCap hd hs g off (cur.map fun y => Value.int .u8 ((y : Nat) : Int)) t hg (cs.map fun y => Value.int .u8 ((y : Nat) : Int)) (by rw [hl]; exact hn) (by rw [hl]; exact hpos) (by rw [hl]; simpa using hfit) (fun v hv => ?_) B w0 hb hBg (fun w' h1 h2 => ?_)
  · obtain ⟨x, _, rfl⟩ := List.mem_map.1 hv
    rfl
  · have := h w' (Lib.hid (by unfold b8; rw [map_splice]; exact h1.out)) (Lib.hid h2)
    rw [hl]
    exact this
theorem splice_length {L : List Nat} {o : Nat} {cs : List Nat} (h : o + cs.length ≤ L.length) : (splice L o cs).length = L.length := length_splice L o cs h
/-- The next part, behind those that are there already. -/
theorem splice_next (a cs : List Nat) (n : Nat) (h : cs.length ≤ n) : splice (a ++ List.replicate n 0) a.length cs = (a ++ cs) ++ List.replicate (n - cs.length) 0 := by
  unfold splice
  rw [List.take_append_of_le_length (Nat.le_refl _), List.take_of_length_le (Nat.le_refl _), List.drop_append, List.drop_of_length_le (by omega), List.nil_append, List.drop_replicate, List.append_assoc]
  congr 3
  omega
/-- A whole array out of a block, in a place that is guarded. -/
theorem load_mid_g {P : Program} {ops : Array Oper} {rest : List Oper} {op : Oper} {a : Act} {w : World} {Q : Exit → Act → World → Prop} (hw : Region.wanted op (yielded ops a.tmps) = true) (ty : TypeId) (x : Operand) (ho : op.op = .load ty x)
    (b o : Nat) (hx : a.eval x = .pointer (some ⟨b, o, none⟩)) (cs : List Value) (d : TypeDesc) (hc : w.rangeAt b o cs) (hu : P.underlying ty = some d) (hd : d.isRow = true) (hi : (P.info? ty).map (·.size) = some cs.length)
    (h : wpList P ops Q rest (a.put op.dst (.agg cs.toArray)) w) : wpList P ops Q (op :: rest) a w :=
  wpList_step fun K hK => by
    rw [if_pos hw]
    exact wp_load_mid ty x ho b o hx cs d hc hu hd hi (hK _ _ h)
theorem Blk.range {w : World} {g : Nat} {t : TypeId} {cs : Array Value} (h : Blk w g t cs) : w.rangeAt g 0 cs.toList := fun j v hv => by
  rw [Nat.zero_add, h.cell]
  simpa using hv
/-- A whole array out of a block, its cells as a list. -/
theorem load_row_g {P : Program} {ops : Array Oper} {rest : List Oper} {op : Oper} {a : Act} {w : World} {Q : Exit → Act → World → Prop} (hw : Region.wanted op (yielded ops a.tmps) = true) (ty : TypeId) (x : Operand) (ho : op.op = .load ty x)
    (b : Nat) (hx : a.eval x = .pointer (some ⟨b, 0, none⟩)) (t : TypeId) (cs : Array Value) (d : TypeDesc) (hc : Blk w b t cs) (hu : P.underlying ty = some d) (hd : d.isRow = true) (hi : (P.info? ty).map (·.size) = some cs.size)
    (h : wpList P ops Q rest (a.put op.dst (.agg cs)) w) : wpList P ops Q (op :: rest) a w :=
  load_mid_g hw ty x ho b 0 hx cs.toList d (Blk.range hc) hu hd (by simpa using hi) (by simpa using h)
end Otp
end Go.Proofs.YtpakdcgcgekcfaaDoor
