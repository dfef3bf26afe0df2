/-
  Parts of a block: stores of many cells into its middle, copies onto it; a slice of a slice. No program in sight.
-/
import Derived.Test.YtgmomkinbfajkaaDoorMem
import Derived.Test.YtgmomkinbfajkaaDoorNext
import Derived.Laws.CopyOwn
import Derived.Deep.MidRow
import Derived.Laws.Slices
set_option linter.unusedSimpArgs false
set_option linter.unusedVariables false
namespace Go.Proofs.YtgmomkinbfajkaaDoor
open Go.RowKit

theorem splice_cons {L : List Value} {o : Nat} {v : Value} {r : List Value} (h : o + (r.length + 1) ≤ L.length) : splice (L.set o v) (o + 1) r = splice L o (v :: r) := by
  unfold splice
  have e1 : (L.set o v).take (o + 1) = L.take o ++ [v] := by
    rw [List.take_succ_eq_append_getElem (by rw [List.length_set]; omega), List.take_set_of_le (Nat.le_refl _), List.getElem_set_self]
  have e2 : (L.set o v).drop (o + 1 + r.length) = L.drop (o + (r.length + 1)) := by
    rw [List.drop_set_of_lt (by omega), show o + 1 + r.length = o + (r.length + 1) by omega]
  rw [e1, e2, List.append_assoc]
  rfl
theorem blk_setCells {g : Nat} {t : TypeId} : ∀ (cs : List Value) (o : Nat) (L : List Value) (w : World), Blk w g t L.toArray → o + cs.length ≤ L.length → Blk (w.setCells g o cs) g t (splice L o cs).toArray
  | [], o, L, w, h, _ => by simpa [World.setCells, splice] using h
  | v :: r, o, L, w, h, hf => by
    have h1 := h.set o v
    simp only [List.setIfInBounds_toArray] at h1
    have h2 := blk_setCells r (o + 1) (L.set o v) _ h1 (by simp only [List.length_cons, List.length_set] at hf ⊢; omega)
    rw [splice_cons (by simpa using hf)] at h2
    exact h2
theorem frm_setCells {g : Nat} : ∀ (cs : List Value) (o : Nat) (w0 w : World) (S : List Nat), Frm S w0 w → (g ∈ S ∨ w0.heap.size ≤ g) → Frm S w0 (w.setCells g o cs)
  | [], _, _, _, _, h, _ => h
  | v :: r, o, w0, w, S, h, hg => frm_setCells r (o + 1) w0 _ S (h.setCell (p := ⟨g, o, none⟩) hg v) hg
theorem frm_setRow {g : Nat} (w : World) (cs : Array Value) : Frm [g] w (w.setRow g cs) :=
  ⟨rfl, rfl, rfl, by simp, fun k _ hk => setRow_other w g k cs (by simpa using hk)⟩

section
variable {P : Program} {w : World} {ops : Array Oper} {rest : List Oper} {a : Act} {Q : Exit → Act → World → Prop}
/-- A store of many cells into a block's middle. -/
theorem wpList_store_frm {op : Oper} (hgd : op.guard = none) (ty : TypeId) (x y : Operand) (ho : op.op = .store ty x y)
    (g o : Nat) (cells : Array Value) (hx : a.eval x = .pointer (some ⟨g, o, none⟩)) (hy : a.eval y = .agg cells) (t : TypeId) (L : List Value) (hg : Blk w g t L.toArray) (hfit : o + cells.size ≤ L.length)
    (hi : (P.info? ty).map (·.size) = some cells.size) (h1 : cells.all (·.oneCell') = true)
    (h : ∀ w', Blk w' g t (splice L o cells.toList).toArray → Frm [g] w w' → wpList P ops Q rest (a.put op.dst undef) w') : wpList P ops Q (op :: rest) a w :=
  wpList_store_mid hgd ty x y ho g o cells hx hy (fun j hj => ⟨by
    rw [hg.cell]
    simp
    omega, hg.frozen _⟩) hi h1 (h _ (blk_setCells cells.toList o L w hg (by simpa using hfit)) (frm_setCells _ _ _ _ _ (Frm.refl _ _) (.inl (by simp))))
/-- copy onto a block's middle. -/
theorem wpList_copy_frm {o : Oper} (hgd : o.guard = none) (d s : Operand) (dT sT : TypeId)
    (ho : o.op = .call { callee := .builtin .copy, args := #[d, s], argTypes := #[dT, sT] }) (elem : TypeId) (hu : P.underlying dT = some (.slice elem)) (hsz : (P.info? elem).map (·.size) = some 1)
    (dp sp : Option Addr) (dLen dCap sLen sCap : Nat) (hd : a.eval d = .slice dp dLen dCap) (hs : a.eval s = .slice sp sLen sCap)
    (g off : Nat) (t : TypeId) (cur : List Value) (hg : Blk w g t cur.toArray) (cs : List Value) (k : Nat) (hk : cs.length = k) (hn : k = Nat.min sLen dLen)
    (hpos : 0 < k → dp = some ⟨g, off, none⟩ ∧ ∃ ad, sp = some ad ∧ ∀ j (v : Value), cs[j]? = some v → w.cell? (ad.add j) = some v)
    (hfit : off + k ≤ cur.length) (h1 : ∀ v ∈ cs, v.oneCell' = true)
    (h : ∀ w', Blk w' g t (splice cur off cs).toArray → Frm [g] w w' → wpList P ops Q rest (a.put o.dst (.int .i64 (k : Int))) w') :
    wpList P ops Q (o :: rest) a w := by
  subst hk
  by_cases h0 : cs.length = 0
  · obtain rfl : cs = [] := List.eq_nil_of_length_eq_zero h0
    refine wpList_copy_nothing hgd d s dT sT ho elem hu hsz dp sp dLen dCap sLen sCap hd hs (by simpa using hn.symm) ?_
    exact h w (by simpa [splice] using hg) (Frm.refl _ _)
  · obtain ⟨rfl, ad, rfl, hsrc⟩ := hpos (by omega)
    refine wpList_copy_own hgd d s dT sT ho elem hu hsz g off dLen dCap ad sLen sCap hd hs cur.toArray t hg cs hn hsrc (by simpa using hfit) h1 ?_
    exact h _ (show _ = _ by simpa [splice] using setRow_heap w g _ _ t _ hg) (frm_setRow w _)
end

theorem splice_right {α : Type} {L : List α} {o : Nat} {cs : List α} {i : Nat} (hf : o + cs.length ≤ L.length) (hi : o + cs.length ≤ i) : (splice L o cs)[i]? = L[i]? := by
  unfold splice
  have h1 : (L.take o).length = o := by rw [List.length_take]; omega
  rw [List.getElem?_append_right (by omega), h1, List.getElem?_append_right (by omega), List.getElem?_drop, show o + cs.length + (i - o - cs.length) = i by omega]
/-- A row out of a block's middle. -/
theorem wpList_load_arr {P : Program} {w : World} {ops : Array Oper} {rest : List Oper} {a : Act} {Q : Exit → Act → World → Prop} {op : Oper} (hgd : op.guard = none) (ty : TypeId) (x : Operand) (ho : op.op = .load ty x)
    (b o : Nat) (hx : a.eval x = .pointer (some ⟨b, o, none⟩)) (cs : Array Value) (d : TypeDesc) (hc : w.rangeAt b o cs.toList) (hu : P.underlying ty = some d) (hd : d.isRow = true) (hi : (P.info? ty).map (·.size) = some cs.size)
    (h : wpList P ops Q rest (a.put op.dst (.agg cs)) w) : wpList P ops Q (op :: rest) a w :=
  wpList_load_mid hgd ty x ho b o hx cs.toList d hc hu hd (by simpa using hi) (by simpa using h)
theorem Blk.rangeAt {w : World} {g : Nat} {t : TypeId} {L : List Value} (h : Blk w g t L.toArray) (o : Nat) (cs : List Value) (hc : ∀ (j : Nat) (v : Value), cs[j]? = some v → L[o + j]? = some v) : w.rangeAt g o cs := fun j v hv => by
  rw [h.cell]
  simpa using hc j v hv

/-- Where a slice's rest lies. -/
def slA (A : Option Addr) (k cap : Nat) : Option Addr := if cap = k then A else A.map (·.add k)
theorem run_slice_l1 {P : Program} (t e : TypeId) (ht : P.underlying t = some (.slice e)) (hs : ∀ w, (sizeOf e).run P w = .ok 1 w) (A : Option Addr) (len cap k : Nat) (kl : IntKind) (l : Int) (hl : l = k) (hk : k ≤ len) (w : World) :
    (Instr.sliceAt t (.slice A len cap) (some (.int kl l)) none none).run P w = .ok (.slice (slA A k cap) (len - k) (cap - k)) w := by
  have he : P.elem t = e := by simp [Program.elem, ht]
  have ht' : P.underlying t = some (.slice (P.elem t)) := by rw [he]; exact ht
  subst hl
  rw [run_sliceAt_slice w t _ _ _ _ ht', run_slice_l w t A len cap ht' kl k (by omega) (by omega), he, hs]
  simp [Result.andThen, sliced, slA]
theorem run_slice_lh1 {P : Program} (t e : TypeId) (ht : P.underlying t = some (.slice e)) (hs : ∀ w, (sizeOf e).run P w = .ok 1 w) (A : Option Addr) (len cap lo hi : Nat) (kl kh : IntKind) (l h : Int) (hl : l = lo) (hh : h = hi) (h1 : lo ≤ hi) (h2 : hi ≤ cap) (w : World) :
    (Instr.sliceAt t (.slice A len cap) (some (.int kl l)) (some (.int kh h)) none).run P w = .ok (.slice (slA A lo cap) (hi - lo) (cap - lo)) w := by
  have he : P.elem t = e := by simp [Program.elem, ht]
  have ht' : P.underlying t = some (.slice (P.elem t)) := by rw [he]; exact ht
  subst hl; subst hh
  rw [run_sliceAt_slice w t _ _ _ _ ht', run_slice_lh w t A len cap ht' kl kh lo hi (by omega) (by omega) (by omega), he, hs]
  simp [Result.andThen, sliced, slA]
theorem nats_take {k : IntKind} {M : Nat} {w : World} {B : Nat} {A : Option Addr} {l : List Nat} (h : Nats k M w B A l) (n : Nat) : Nats k M w B A (l.take n) := fun j z hz => by
  rw [List.getElem?_take] at hz
  split at hz
  · exact h j z hz
  · cases hz
theorem nats_slA {k : IntKind} {M : Nat} {w : World} {B : Nat} {A : Option Addr} {l : List Nat} (h : Nats k M w B A l) {i cap : Nat} (hc : l.length ≤ cap) : Nats k M w B (slA A i cap) (l.drop i) := fun j z hz => by
  rw [List.getElem?_drop] at hz
  obtain ⟨h1, b, off, rfl, h3, h4⟩ := h (i + j) z hz
  have hlt : i + j < l.length := (List.getElem?_eq_some_iff.1 hz).1
  refine ⟨h1, b, off + i, ?_, h3, by rw [← h4, Nat.add_assoc]⟩
  have hne : ¬ cap = i := by omega
  simp [slA, hne, Go.WideShapes.add_plain]
/-- .. and of an array in a block's middle. -/
theorem run_slice_arr_lo {P : Program} (t e : TypeId) (N : Nat) (ht : P.underlying t = some (.array N e)) (hs : ∀ w, (sizeOf e).run P w = .ok 1 w) (b o lo : Nat) (kl : IntKind) (l : Int) (hl : l = lo) (h3 : lo < N) (w : World) :
    (Instr.sliceAt t (.pointer (some ⟨b, o, none⟩)) (some (.int kl l)) none none).run P w = .ok (.slice (some ⟨b, o + lo, none⟩) (N - lo) (N - lo)) w := by
  have hn : P.arrayLen t = N := by simp [Program.arrayLen, ht]
  have he : P.elem t = e := by simp [Program.elem, ht]
  have ht' : P.underlying t = some (.array (P.arrayLen t) (P.elem t)) := by rw [hn, he]; exact ht
  rw [run_sliceAt_array_l w t ⟨b, o, none⟩ ht' kl l (by omega) (by rw [hn]; omega), he, hs, hn]
  subst hl
  have hne : ¬ N = lo := by omega
  simp [Result.andThen, slicedAt, hne, Go.WideShapes.add_plain]
end Go.Proofs.YtgmomkinbfajkaaDoor
