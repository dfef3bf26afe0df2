/-
  Texts of this claim, joined: Mem, Next, Mid, Bytes, Base, Fill, From.
-/
import Derived.WalkKit
import Derived.WalkSpells
import Derived.WalkLawsBesides
import Derived.Deep.QuietTactic
import Derived.BigQuiet
import Derived.Lib.Hide
import Derived.Laws.BitsAllLaws
import Derived.ProofKit
import Derived.OpenShut
import Derived.Maps.AppendAt
import Derived.Laws.AppendOwnNone
import Derived.Laws.MakeOwn
import Derived.Laws.Entries
import Derived.Deep.Light
import Derived.Outline
import Derived.Deep.Slices
import Derived.WideShapes
import Derived.Laws.CopyOwn
import Derived.Deep.MidRow
import Derived.Laws.Slices
import Derived.Laws.Tables
set_option linter.unusedSimpArgs false
set_option linter.unusedVariables false
/-
  Words for memory: a block that is known whole ('Blk'), a world in which only some blocks have turned ('Frm'), and what a law's row asks at its end. No program in sight.
-/
namespace Go.Proofs.YtmiaabpnolebhaaGreatDoor
open Go.RowKit

/-- Block g of the world is just these cells, of element type t; none is frozen. -/
def Blk (w : World) (g : Nat) (t : TypeId) (cs : Array Value) : Prop := w.heap[g]? = some (.cells cs t (0, 0))

/-- w' is w with new blocks, and writes into blocks of the list alone. -/
structure Frm (S : List Nat) (w w' : World) : Prop where
  os : w'.os = w.os
  tape : w'.tape = w.tape
  output : w'.output = w.output
  size : w.heap.size ≤ w'.heap.size
  block : ∀ k, k < w.heap.size → k ∉ S → w'.heap[k]? = w.heap[k]?

section
variable {w w' w'' : World} {g : Nat} {t : TypeId} {cs : Array Value} {S T : List Nat}

theorem Frm.refl (S : List Nat) (w : World) : Frm S w w := ⟨rfl, rfl, rfl, Nat.le_refl _, fun _ _ _ => rfl⟩
theorem Frm.trans (h : Frm S w w') (k : Frm S w' w'') : Frm S w w'' :=
  ⟨k.os.trans h.os, k.tape.trans h.tape, k.output.trans h.output, Nat.le_trans h.size k.size, fun i hi hn => (k.block i (Nat.lt_of_lt_of_le hi h.size) hn).trans (h.block i hi hn)⟩
theorem Frm.mono (h : Frm S w w') (hs : ∀ x, x ∈ S → x < w.heap.size → x ∈ T) : Frm T w w' := ⟨h.os, h.tape, h.output, h.size, fun k hk hn => h.block k hk (fun hx => hn (hs k hx hk))⟩
/-- Blocks that are new since w may be written, too. -/
theorem Frm.trans' (h : Frm S w w') (k : Frm T w' w'') (hs : ∀ x, x ∈ T → x < w.heap.size → x ∈ S) : Frm S w w'' :=
  ⟨k.os.trans h.os, k.tape.trans h.tape, k.output.trans h.output, Nat.le_trans h.size k.size, fun i hi hn => (k.block i (Nat.lt_of_lt_of_le hi h.size) (fun hx => hn (hs i hx hi))).trans (h.block i hi hn)⟩
theorem Frm.drew (h : Frm S w w') : Frm S w w'.drew := ⟨h.os, h.tape, h.output, h.size, h.block⟩
theorem Frm.drewN (h : Frm S w w') (n : Nat) : Frm S w (w'.drewN n) := ⟨h.os, h.tape, h.output, h.size, h.block⟩
theorem Frm.alloc (h : Frm S w w') (o : Obj) : Frm S w (w'.alloc o) :=
  h.trans ⟨rfl, rfl, rfl, by simp, fun k hk _ => Below.heap_alloc _ _ _ hk⟩
theorem Frm.setCell (h : Frm S w w') {p : Addr} (hp : p.block ∈ S ∨ w.heap.size ≤ p.block) (u : Value) : Frm S w (w'.setCell p u) :=
  ⟨h.os, h.tape, h.output, by simpa [World.setCell] using h.size, fun k hk hn => (Below.heap_setCell _ _ _ _ (by rintro rfl; rcases hp with hp | hp; exact hn hp; omega)).trans (h.block k hk hn)⟩
theorem Frm.grown (h : Frm S w w') {row : Option Nat} (hg : w'.grownBy w'' row) (hr : ∀ k, row = some k → k < w.heap.size → k ∈ S) : Frm S w w'' :=
  ⟨hg.os.trans h.os, hg.tape.trans h.tape, hg.output.trans h.output, Nat.le_trans h.size hg.size, fun k hk hn => (hg.block k (Nat.lt_of_lt_of_le hk h.size) (fun e => hn (hr k e.symm hk))).trans (h.block k hk hn)⟩
theorem Frm.of_below (h : Below w.heap.size w w') : Frm S w w' := ⟨h.os, h.tape, h.output, h.size, fun k hk _ => h.block k hk⟩
theorem Frm.below (h : Frm S w w') {B : Nat} (hB : B ≤ w.heap.size) (hs : ∀ x, x ∈ S → B ≤ x) : Below B w w' :=
  ⟨h.os, h.tape, h.output, h.size, fun k hk => h.block k (by omega) (fun hx => by have := hs k hx; omega)⟩
theorem Frm.below_nil (h : Frm [] w w') : Below w.heap.size w w' := h.below (Nat.le_refl _) (fun _ hx => by simp at hx)
/-- From the outer call's start on: everything that an inner call wrote is new. -/
theorem Below.frm {B : Nat} (h : Below B w w') (k : Frm S w' w'') (hB : B ≤ w.heap.size) (hs : ∀ x, x ∈ S → B ≤ x) : Below B w w'' :=
  h.trans (k.below (Nat.le_trans hB h.size) hs)

theorem Blk.lt (h : Blk w g t cs) : g < w.heap.size := by
  rcases Nat.lt_or_ge g w.heap.size with hlt | hge
  · exact hlt
  · unfold Blk at h; rw [Array.getElem?_eq_none hge] at h; cases h
theorem Blk.cell (h : Blk w g t cs) (i : Nat) : w.cell? ⟨g, i, none⟩ = cs[i]? := cell_of_row w g i cs t (0, 0) h
theorem Blk.frozen (h : Blk w g t cs) (i : Nat) : w.frozen? ⟨g, i, none⟩ = false := by
  unfold Blk at h
  simp [World.frozen?, h]
theorem Blk.new (w : World) (t : TypeId) (cs : Array Value) : Blk (w.alloc (.cells cs t)) w.heap.size t cs := by
  show (w.heap.push _)[w.heap.size]? = _
  simp
theorem Blk.drew (h : Blk w g t cs) : Blk w.drew g t cs := h
theorem Blk.drewN (h : Blk w g t cs) (n : Nat) : Blk (w.drewN n) g t cs := h
theorem Blk.alloc (h : Blk w g t cs) (o : Obj) : Blk (w.alloc o) g t cs := (Below.heap_alloc w o g h.lt).trans h
theorem Blk.set (h : Blk w g t cs) (i : Nat) (u : Value) : Blk (w.setCell ⟨g, i, none⟩ u) g t (cs.setIfInBounds i u) := by
  unfold Blk at h ⊢
  simp [World.setCell, Array.getElem?_modify, h]
theorem Blk.far (h : Blk w g t cs) {p : Addr} (hp : g ≠ p.block) (u : Value) : Blk (w.setCell p u) g t cs := (Below.heap_setCell w p u g hp).trans h
theorem Blk.far' (h : Blk w g t cs) (b i : Nat) (hp : g ≠ b) (u : Value) : Blk (w.setCell ⟨b, i, none⟩ u) g t cs := h.far (p := ⟨b, i, none⟩) hp u
theorem Blk.below {B : Nat} (h : Blk w g t cs) (hb : Below B w w') (hg : g < B) : Blk w' g t cs := (hb.block g hg).trans h
theorem Blk.frm (h : Blk w g t cs) (hb : Frm S w w') (hg : g ∉ S) : Blk w' g t cs := (hb.block g h.lt hg).trans h
theorem Blk.eq {t' : TypeId} {cs' : Array Value} (h : Blk w g t cs) (h' : Blk w g t' cs') : t = t' ∧ cs = cs' := by
  unfold Blk at h h'
  rw [h] at h'
  simp at h'
  exact ⟨h'.2, h'.1⟩
theorem Blk.ne {g' : Nat} {t' : TypeId} {cs' : Array Value} (h : Blk w g t cs) (h' : Blk w g' t' cs') (hne : t ≠ t') : g ≠ g' := by
  rintro rfl
  exact hne (h.eq h').1
end

theorem Below.drewN {B : Nat} {a w : World} (h : Below B a w) (n : Nat) : Below B a (w.drewN n) := below_drewN h n
theorem below_then {B : Nat} {a w w' : World} (h : Below B a w) (k : Below w.heap.size w w') (hB : B ≤ a.heap.size) : Below B a w' := h.trans (k.mono (Nat.le_trans hB h.size))
/-- What was there reads as it did: the walk takes both as rules. -/
theorem oldCells {W w1 : World} (hb : Below W.heap.size W w1) : (∀ b o, b < W.heap.size → w1.cell? ⟨b, o, none⟩ = W.cell? ⟨b, o, none⟩) ∧ (∀ b o, b < W.heap.size → w1.frozen? ⟨b, o, none⟩ = W.frozen? ⟨b, o, none⟩) :=
  ⟨fun b o h => hb.cell (p := ⟨b, o, none⟩) h, fun b o h => hb.frozen (p := ⟨b, o, none⟩) h⟩

theorem run_make_rowN {P : Program} (t e : TypeId) (i : TypeInfo) (z : Value) (ht : P.underlying t = some (.slice e)) (hi : P.info? e = some i) (hz : i.zero = some z)
    (kl kc : IntKind) (n c : Nat) (hnc : n ≤ c) (hbytes : i.bytes * c ≤ 281474976710656) (h63 : c ≤ 9223372036854775807) (w : World) :
    (Instr.makeSlice t (.int kl (n : Int)) (.int kc (c : Int))).run P w = .ok (.slice (some ⟨w.heap.size, 0, none⟩) n c) (w.alloc (.cells (madeCells z.cells (c * i.size)) e)) := by
  have hb : (i.bytes : Int) * (c : Int) ≤ 281474976710656 := by
    have h : ((i.bytes * c : Nat) : Int) ≤ 281474976710656 := by omega
    rwa [Int.natCast_mul] at h
  have hr := run_make (P := P) w t e i z ht hi hz kl kc n c (by omega) (by omega) hb (by omega)
  simp only [Int.toNat_natCast] at hr
  exact hr
theorem made_get (z : Array Value) (n i : Nat) (h : i < n) (hz : 0 < z.size) : (madeCells z n)[i]? = z[i % z.size]? := by
  have hm : i % z.size < z.size := Nat.mod_lt _ hz
  simp [madeCells, h, hm]
/-- A type's row of the table. -/
theorem info_row {P : Program} {e : TypeId} {z : Value} {size bytes : Nat} (h : (P.info? e).map (fun i => (i.zero, i.size, i.bytes)) = some (some z, size, bytes)) : ∃ i, P.info? e = some i ∧ i.zero = some z ∧ i.size = size ∧ i.bytes = bytes := by
  cases hi : P.info? e with
  | none => rw [hi] at h; cases h
  | some i =>
    rw [hi] at h
    simp at h
    exact ⟨i, rfl, h.1, h.2.1, h.2.2⟩

theorem cell_lt {w : World} {b i : Nat} {v : Value} (h : w.cell? ⟨b, i, none⟩ = some v) : b < w.heap.size := by
  rcases Nat.lt_or_ge b w.heap.size with h1 | h1
  · exact h1
  · unfold World.cell? at h
    rw [Array.getElem?_eq_none h1] at h
    cases h
theorem take_snoc {α : Type} {l : List α} {i : Nat} {x : α} (h : l[i]? = some x) : l.take (i + 1) = l.take i ++ [x] := by
  obtain ⟨hi, rfl⟩ := List.getElem?_eq_some_iff.1 h
  exact List.take_succ_eq_append_getElem hi
/-- What a law's walk shows. -/
def TrueBelow (w : World) (e : Ending) (w' : World) : Prop := e = .returned (.bool true) ∧ Below w.heap.size w w'

/-- A slice of integers that came in: its elements; asked of below block B. -/
def Ints (k : IntKind) (w : World) (B : Nat) (a : Option Addr) (zs : List Int) : Prop :=
  ∀ (i : Nat) (z : Int), zs[i]? = some z → (Lit.int k z).wf = true ∧ ∃ b off, a = some ⟨b, off, none⟩ ∧ b < B ∧ w.cell? ⟨b, off + i, none⟩ = some (.int k z)
/-- Likewise of an unsigned kind, as numbers below M. -/
def Nats (k : IntKind) (M : Nat) (w : World) (B : Nat) (a : Option Addr) (zs : List Nat) : Prop :=
  ∀ (i : Nat) (z : Nat), zs[i]? = some z → z < M ∧ ∃ b off, a = some ⟨b, off, none⟩ ∧ b < B ∧ w.cell? ⟨b, off + i, none⟩ = some (.int k (z : Int))
theorem Ints.below {k : IntKind} {w w' : World} {B : Nat} {a : Option Addr} {zs : List Int} (h : Ints k w B a zs) (hb : Below B w w') : Ints k w' B a zs := fun i z hz => by
  obtain ⟨h1, b, off, h2, h3, h4⟩ := h i z hz
  exact ⟨h1, b, off, h2, h3, (hb.cell (p := ⟨b, off + i, none⟩) h3).trans h4⟩
theorem Nats.below {k : IntKind} {M : Nat} {w w' : World} {B : Nat} {a : Option Addr} {zs : List Nat} (h : Nats k M w B a zs) (hb : Below B w w') : Nats k M w' B a zs := fun i z hz => by
  obtain ⟨h1, b, off, h2, h3, h4⟩ := h i z hz
  exact ⟨h1, b, off, h2, h3, (hb.cell (p := ⟨b, off + i, none⟩) h3).trans h4⟩
theorem Nats.frm {k : IntKind} {M : Nat} {w w' : World} {B : Nat} {a : Option Addr} {zs : List Nat} {S : List Nat} (h : Nats k M w B a zs) (hb : Frm S w w') (hB : B ≤ w.heap.size) (hs : ∀ x, x ∈ S → B ≤ x) : Nats k M w' B a zs :=
  h.below (hb.below hB hs)

theorem own_frm {t : TypeId} {w w' : World} {base n size : Nat} {v : Value} {xs : List Value} {S : List Nat} (h : w.ownsRow base t size v n xs) (hf : Frm S w w') (hS : ∀ x, x ∈ S → x < base) : w'.ownsRow base t size v n xs := by
  refine ⟨h.1, ?_⟩
  rcases h.2 with h0 | ⟨g, cap, cur, hv, hg, hh, hc, hm, hs, ht⟩
  · exact .inl h0
  · exact .inr ⟨g, cap, cur, hv, hg, (hf.block g (Blk.lt (w := w) (t := t) (cs := cur) hh) (fun hx => by have := hS g hx; omega)).trans hh, hc, hm, hs, ht⟩
/-- A row of integers of the call's own reads as such. -/
theorem own_ints {k : IntKind} {t : TypeId} {w : World} {base n : Nat} {v : Value} {zs : List Int} (h : w.ownsRow base t 1 v n (zs.map (Value.int k))) (hw : ∀ z ∈ zs, (Lit.int k z).wf = true) :
    n = zs.length ∧ ∃ A c, v = .slice A n c ∧ n ≤ c ∧ Ints k w w.heap.size A zs ∧ ∀ ad : Addr, A = some ad → base ≤ ad.block := by
  have hn : n = zs.length := by have := h.1; simp at this; omega
  refine ⟨hn, ?_⟩
  rcases h.2 with ⟨rfl, h0⟩ | ⟨g, cap, cur, rfl, hg, hh, hc, hm, hs, ht⟩
  · refine ⟨none, 0, by rw [h0], by omega, fun i z hz => ?_, fun ad h => by cases h⟩
    have : zs = [] := List.eq_nil_of_length_eq_zero (by omega)
    rw [this] at hz; simp at hz
  · refine ⟨some ⟨g, 0, none⟩, cap, rfl, hc, fun i z hz => ⟨hw z (List.mem_of_getElem? hz), g, 0, rfl, ?_, ?_⟩, fun ad h => by cases h; exact hg⟩
    · exact Blk.lt (w := w) (t := t) (cs := cur) hh
    · have hi : i < zs.length := (List.getElem?_eq_some_iff.1 hz).1
      have := World.ownsRow.cellAt h i (by omega)
      rw [Nat.zero_add, this, List.getElem?_map, hz]
      rfl

/-- A literal slice of integers. -/
theorem ints_new {k : IntKind} {t : TypeId} (w : World) (zs : List Int) (cs : Array Value) (hcs : cs = (zs.map (Value.int k)).toArray) (hw : ∀ z ∈ zs, (Lit.int k z).wf = true) : Ints k (w.alloc (.cells cs t)) (w.heap.size + 1) (some ⟨w.heap.size, 0, none⟩) zs := fun i z hz => by
  refine ⟨hw z (List.mem_of_getElem? hz), w.heap.size, 0, rfl, by omega, ?_⟩
  rw [(Blk.new w t cs).cell, hcs]
  simp [hz]

theorem Nats.more {k : IntKind} {M : Nat} {w : World} {B B' : Nat} {a : Option Addr} {zs : List Nat} (h : Nats k M w B a zs) (hB : B ≤ B') : Nats k M w B' a zs := fun i z hz => by
  obtain ⟨h1, b, off, h2, h3, h4⟩ := h i z hz
  exact ⟨h1, b, off, h2, by omega, h4⟩
theorem Ints.more {k : IntKind} {w : World} {B B' : Nat} {a : Option Addr} {zs : List Int} (h : Ints k w B a zs) (hB : B ≤ B') : Ints k w B' a zs := fun i z hz => by
  obtain ⟨h1, b, off, h2, h3, h4⟩ := h i z hz
  exact ⟨h1, b, off, h2, by omega, h4⟩

/-- append onto a row of the call's own, the source a slice of one-cell elements, nil or not. -/
theorem wpList_append_src {P : Program} {w : World} {ops : Array Oper} {rest : List Oper} {o : Oper} {a : Act} {Q : Exit → Act → World → Prop} (hgd : o.guard = none) (s x : Operand) (t : TypeId)
    (ho : o.op = .call { callee := .builtin .append, args := #[s, x], argTypes := #[t, t] })
    (base : Nat) (e : TypeId) (i : TypeInfo) (z : Value) (bytes : Nat) (ht : P.underlying t = some (.slice e)) (hi : P.info? e = some i) (hz : i.zero = some z)
    (hsize : i.size = 1) (hby : i.bytes = bytes) (hzs : z.cells.size = 1)
    (v : Value) (n : Nat) (xs : List Value) (hs : a.eval s = v) (hown : w.ownsRow base e 1 v n xs)
    (A : Option Addr) (m c : Nat) (news : List Value) (hx : a.eval x = .slice A m c) (hl : news.length = m) (hsrc : ∀ (j : Nat) (u : Value), news[j]? = some u → ∃ ad, A = some ad ∧ w.cell? (ad.add j) = some u) (hnil : A = none → c = 0)
    (h1 : ∀ u ∈ news, u.oneCell' = true) (h63 : n + m ≤ maxLen) (hbytes : (n + m) * bytes ≤ 140737488355328) (hbase : base ≤ w.heap.size)
    (h : ∀ v' w', w'.ownsRow base e 1 v' (n + m) (xs ++ news) → w.grownBy w' v.ownBlock → (v'.ownBlock = v.ownBlock ∨ v'.ownBlock = some w.heap.size) → wpList P ops Q rest (a.put o.dst v') w') : wpList P ops Q (o :: rest) a w := by
  cases A with
  | none =>
    have hm : news = [] := by
      cases news with
      | nil => rfl
      | cons u us => obtain ⟨ad, h, _⟩ := hsrc 0 u rfl; cases h
    subst hm
    have hm0 : m = 0 := by simpa using hl.symm
    subst hm0
    have hc := hnil rfl
    subst hc
    exact wpList_append_own_none hgd s x t ho base e i 1 ht hi v n xs hs hown hx (h v w (by simpa using hown) (World.grownBy.refl w _) (.inl rfl))
  | some ad =>
    exact wpList_append_own_at w hgd s x t ho base e i z 1 bytes ht hi hz hsize hby hzs (by decide) v n xs hs hown ad m c news hx (by omega) (fun j u hu => by obtain ⟨ad', h, hc⟩ := hsrc j u hu; cases h; exact hc) h1 h63 hbytes hbase (fun v' w' h2 h3 _ h5 => h v' w' h2 h3 h5)
theorem nats_src {k : IntKind} {M : Nat} {w : World} {B : Nat} {A : Option Addr} {zs : List Nat} (h : Nats k M w B A zs) : ∀ (j : Nat) (u : Value), (zs.map fun x => Value.int k ((x : Nat) : Int))[j]? = some u → ∃ ad, A = some ad ∧ w.cell? (ad.add j) = some u := fun j u hu => by
  rw [List.getElem?_map] at hu
  cases hz : zs[j]? with
  | none => rw [hz] at hu; cases hu
  | some x =>
    rw [hz] at hu
    obtain rfl := Option.some.inj hu
    obtain ⟨_, b, off, rfl, _, hc⟩ := h j x hz
    exact ⟨_, rfl, by rw [Go.WideShapes.add_plain]; exact hc⟩
theorem Nats.take {k : IntKind} {M : Nat} {w : World} {B : Nat} {A : Option Addr} {zs : List Nat} (h : Nats k M w B A zs) (n : Nat) : Nats k M w B A (zs.take n) := fun i z hz => by
  rw [List.getElem?_take] at hz
  split at hz
  · exact h i z hz
  · cases hz

theorem Below.frm' {w w' : World} (h : Below w.heap.size w w') : Frm [] w w' := Frm.of_below h

/-- The end of a law's row, where of the world behind the call 'Below' alone is known. -/
theorem law_post {H : Type} {enc : TypeId × Value → H} {P : Program} {f : Func} {s : ChangeSpec} {apart fresh handsOn again : Bool} {W W' : World} {args : Array Value} {v : Value} {ds gs : List (DataW H)} {before pa pv : List MemPlace}
    (hW : DataW.Whole enc P f.params.toList s.vars apart W args.toList ds gs before)
    (hres : ∀ (b : Nat) (sp : Nat → Bool) (hd : Bool), DataW.TrodAll enc P W' b sp hd f.resultTypes.toList (v.resultList f.resultTypes.size) (s.fn H (ds ++ gs)).results [])
    (hargs : ∀ sp : Nat → Bool, (∀ p ∈ before, sp p.block = true) → DataW.TrodAll enc P W' 0 sp true f.params.toList args.toList (s.fn H (ds ++ gs)).args pa)
    (hvars : ∀ sp : Nat → Bool, (∀ p ∈ before, sp p.block = true) → DataW.TrodVars enc P W' sp s.vars (s.fn H (ds ++ gs)).vars pv)
    (hps : before = pa ++ pv) (hb : Below W.heap.size W W')
    (hok : ∀ (j : Nat) (t : TypeId) (r : Value), f.resultTypes[j]? = some t → (v.resultList f.resultTypes.size)[j]? = some r → Value.okWide P W' .any 0 t r) :
    s.post enc P f apart fresh handsOn again W args v W' := by
  have hlt : ∀ p ∈ before, p.block < W.heap.size := fun p hp => hW.lt p hp
  have hold : ∀ p ∈ before, (fun b => decide (b < W.heap.size)) p.block = true := fun p hp => by simpa using hlt p hp
  refine ⟨ds, gs, before, [], pa, pv, hW, hres _ _ _, hargs _ hold, hvars _ hold, World.keptBut_mono (fun p hp => ⟨hp, ?_⟩) (hb.frame (· ∈ before)), fun _ => ?_⟩
  · rw [hps, List.mem_append] at hp
    exact Or.inr hp
  · obtain ⟨_, _, _, _, _, hz, hn⟩ := hW
    refine ⟨hok, _, _, ([] ++ pa) ++ pv, ⟨[] ++ pa, pv, Go.ChangeShapes.trodAll_append (hargs _ (fun _ _ => rfl)) (hres _ _ _), hvars _ (fun _ _ => rfl), rfl, ?_, ?_⟩, ?_⟩
    · intro b off hp
      have hin : MemPlace.cell b off ∈ before := by rw [hps]; simpa using hp
      rw [hb.frozen (hlt _ hin)]
      exact hz b off hin
    · intro ha
      have := hn ha
      rw [hps] at this
      simpa using this
    · intro p hp _
      rw [hps]
      simpa using hp

end Go.Proofs.YtmiaabpnolebhaaGreatDoor

/-
  Blocks and worlds carried over a call that begins in a world alike (drawn from, or not). No program in sight.
-/
namespace Go.Proofs.YtmiaabpnolebhaaGreatDoor
open Go.RowKit

theorem Blk.next {w wx w' : World} {g : Nat} {t : TypeId} {cs : Array Value} (h : Blk w g t cs) (hB : Below wx.heap.size wx w') (hx : wx.heap = w.heap) : Blk w' g t cs := by
  have hl : g < wx.heap.size := by rw [hx]; exact h.lt
  have h' : Blk wx g t cs := by unfold Blk at h ⊢; rw [hx]; exact h
  exact h'.below hB hl
theorem below_nxt {B : Nat} {W w wx w' : World} (h : Below B W w) (hB : Below wx.heap.size wx w') (h0 : B ≤ W.heap.size) (hx : wx.heap = w.heap) (h1 : wx.os = w.os) (h2 : wx.tape = w.tape) (h3 : wx.output = w.output) : Below B W w' := by
  have h' : Below B W wx := ⟨h1.trans h.os, h2.trans h.tape, h3.trans h.output, by rw [hx]; exact h.size, fun k hk => by rw [hx]; exact h.block k hk⟩
  exact below_then h' hB h0
theorem blk_new' {w : World} {t : TypeId} {cs : Array Value} {n : Nat} (hn : w.heap.size = n) : Blk (w.alloc (.cells cs t)) n t cs := by
  subst hn
  exact Blk.new w t cs
/-- A part of an array of one-cell elements, as a slice. -/
theorem run_slice_arr {P : Program} (t e : TypeId) (N : Nat) (ht : P.underlying t = some (.array N e)) (hs : ∀ w, (sizeOf e).run P w = .ok 1 w) (b lo hi : Nat) (kl kh : IntKind) (l h : Int) (hl : l = lo) (hh : h = hi) (h1 : lo ≤ hi) (h2 : hi ≤ N) (h3 : lo < N) (w : World) :
    (Instr.sliceAt t (.pointer (some ⟨b, 0, none⟩)) (some (.int kl l)) (some (.int kh h)) none).run P w = .ok (.slice (some ⟨b, lo, none⟩) (hi - lo) (N - lo)) w := by
  have hn : P.arrayLen t = N := by simp [Program.arrayLen, ht]
  have he : P.elem t = e := by simp [Program.elem, ht]
  have ht' : P.underlying t = some (.array (P.arrayLen t) (P.elem t)) := by rw [hn, he]; exact ht
  rw [run_sliceAt_array_lh w t ⟨b, 0, none⟩ ht' kl kh l h (by omega) (by omega) (by rw [hn]; omega), he, hs, hn]
  subst hl; subst hh
  have hne : ¬ N = lo := by omega
  simp [Result.andThen, slicedAt, hne, Go.WideShapes.add_plain]
theorem nats_step {k : IntKind} {M : Nat} {w w' : World} {A : Option Addr} {l : List Nat} (h : Nats k M w w.heap.size A l) (hB : Below w.heap.size w w') : Nats k M w' w'.heap.size A l := (h.below hB).more hB.size
theorem ret2i {k l : IntKind} {a b a' b' : Int} (h1 : a = a') (h2 : b = b') : Ending.returned (.tuple #[.int k a, .int l b]) = .returned (.tuple #[.int k a', .int l b']) := by rw [h1, h2]
theorem ret1i {k : IntKind} {a a' : Int} (h1 : a = a') : Ending.returned (.int k a) = .returned (.int k a') := by rw [h1]
end Go.Proofs.YtmiaabpnolebhaaGreatDoor

/-
  Parts of a block: stores of many cells into its middle, copies onto it; a slice of a slice. No program in sight.
-/
namespace Go.Proofs.YtmiaabpnolebhaaGreatDoor
open Go.RowKit

theorem splice_cons {L : List Value} {o : Nat} {v : Value} {r : List Value} (h : o + (r.length + 1) ≤ L.length) : splice (L.set o v) (o + 1) r = splice L o (v :: r) := by
  unfold splice
  have e1 : (L.set o v).take (o + 1) = L.take o ++ [v] := by
    rw [List.take_succ_eq_append_getElem (by rw [List.length_set]; omega), List.take_set_of_le (Nat.le_refl _), List.getElem_set_self]
  have e2 : (L.set o v).drop (o + 1 + r.length) = L.drop (o + (r.length + 1)) := by
    rw [List.drop_set_of_lt (by omega), show o + 1 + r.length = o + (r.length + 1) by omega]
  rw [e1, e2, List.append_assoc]
  rfl
theorem blk_setCells {g : Nat} {t : TypeId} : ∀ (cs : List Value) (o : Nat) (L : List Value) (w : World), Blk w g t L.toArray → o + cs.length ≤ L.length → Blk (w.setCells g o cs) g t (splice L o cs).toArray
  | [], o, L, w, h, _ => by simpa [World.setCells, splice] using h
  | v :: r, o, L, w, h, hf => by
    have h1 := h.set o v
    simp only [List.setIfInBounds_toArray] at h1
    have h2 := blk_setCells r (o + 1) (L.set o v) _ h1 (by simp only [List.length_cons, List.length_set] at hf ⊢; omega)
    rw [splice_cons (by simpa using hf)] at h2
    exact h2
theorem frm_setCells {g : Nat} : ∀ (cs : List Value) (o : Nat) (w0 w : World) (S : List Nat), Frm S w0 w → (g ∈ S ∨ w0.heap.size ≤ g) → Frm S w0 (w.setCells g o cs)
  | [], _, _, _, _, h, _ => h
  | v :: r, o, w0, w, S, h, hg => frm_setCells r (o + 1) w0 _ S (h.setCell (p := ⟨g, o, none⟩) hg v) hg
theorem frm_setRow {g : Nat} (w : World) (cs : Array Value) : Frm [g] w (w.setRow g cs) :=
  ⟨rfl, rfl, rfl, by simp, fun k _ hk => setRow_other w g k cs (by simpa using hk)⟩

section
variable {P : Program} {w : World} {ops : Array Oper} {rest : List Oper} {a : Act} {Q : Exit → Act → World → Prop}
/-- A store of many cells into a block's middle. -/
theorem wpList_store_frm {op : Oper} (hgd : op.guard = none) (ty : TypeId) (x y : Operand) (ho : op.op = .store ty x y)
    (g o : Nat) (cells : Array Value) (hx : a.eval x = .pointer (some ⟨g, o, none⟩)) (hy : a.eval y = .agg cells) (t : TypeId) (L : List Value) (hg : Blk w g t L.toArray) (hfit : o + cells.size ≤ L.length)
    (hi : (P.info? ty).map (·.size) = some cells.size) (h1 : cells.all (·.oneCell') = true)
    (h : ∀ w', Blk w' g t (splice L o cells.toList).toArray → Frm [g] w w' → wpList P ops Q rest (a.put op.dst undef) w') : wpList P ops Q (op :: rest) a w :=
  wpList_store_mid hgd ty x y ho g o cells hx hy (fun j hj => ⟨by
    rw [hg.cell]
    simp
    omega, hg.frozen _⟩) hi h1 (h _ (blk_setCells cells.toList o L w hg (by simpa using hfit)) (frm_setCells _ _ _ _ _ (Frm.refl _ _) (.inl (by simp))))
/-- copy onto a block's middle. -/
theorem wpList_copy_frm {o : Oper} (hgd : o.guard = none) (d s : Operand) (dT sT : TypeId)
    (ho : o.op = .call { callee := .builtin .copy, args := #[d, s], argTypes := #[dT, sT] }) (elem : TypeId) (hu : P.underlying dT = some (.slice elem)) (hsz : (P.info? elem).map (·.size) = some 1)
    (dp sp : Option Addr) (dLen dCap sLen sCap : Nat) (hd : a.eval d = .slice dp dLen dCap) (hs : a.eval s = .slice sp sLen sCap)
    (g off : Nat) (t : TypeId) (cur : List Value) (hg : Blk w g t cur.toArray) (cs : List Value) (k : Nat) (hk : cs.length = k) (hn : k = Nat.min sLen dLen)
    (hpos : 0 < k → dp = some ⟨g, off, none⟩ ∧ ∃ ad, sp = some ad ∧ ∀ j (v : Value), cs[j]? = some v → w.cell? (ad.add j) = some v)
    (hfit : off + k ≤ cur.length) (h1 : ∀ v ∈ cs, v.oneCell' = true)
    (h : ∀ w', Blk w' g t (splice cur off cs).toArray → Frm [g] w w' → wpList P ops Q rest (a.put o.dst (.int .i64 (k : Int))) w') :
    wpList P ops Q (o :: rest) a w := by
  subst hk
  by_cases h0 : cs.length = 0
  · obtain rfl : cs = [] := List.eq_nil_of_length_eq_zero h0
    refine wpList_copy_nothing hgd d s dT sT ho elem hu hsz dp sp dLen dCap sLen sCap hd hs (by simpa using hn.symm) ?_
    exact h w (by simpa [splice] using hg) (Frm.refl _ _)
  · obtain ⟨rfl, ad, rfl, hsrc⟩ := hpos (by omega)
    refine wpList_copy_own hgd d s dT sT ho elem hu hsz g off dLen dCap ad sLen sCap hd hs cur.toArray t hg cs hn hsrc (by simpa using hfit) h1 ?_
    exact h _ (show _ = _ by simpa [splice] using setRow_heap w g _ _ t _ hg) (frm_setRow w _)
end

theorem splice_right {α : Type} {L : List α} {o : Nat} {cs : List α} {i : Nat} (hf : o + cs.length ≤ L.length) (hi : o + cs.length ≤ i) : (splice L o cs)[i]? = L[i]? := by
  unfold splice
  have h1 : (L.take o).length = o := by rw [List.length_take]; omega
  rw [List.getElem?_append_right (by omega), h1, List.getElem?_append_right (by omega), List.getElem?_drop, show o + cs.length + (i - o - cs.length) = i by omega]
/-- A row out of a block's middle. -/
theorem wpList_load_arr {P : Program} {w : World} {ops : Array Oper} {rest : List Oper} {a : Act} {Q : Exit → Act → World → Prop} {op : Oper} (hgd : op.guard = none) (ty : TypeId) (x : Operand) (ho : op.op = .load ty x)
    (b o : Nat) (hx : a.eval x = .pointer (some ⟨b, o, none⟩)) (cs : Array Value) (d : TypeDesc) (hc : w.rangeAt b o cs.toList) (hu : P.underlying ty = some d) (hd : d.isRow = true) (hi : (P.info? ty).map (·.size) = some cs.size)
    (h : wpList P ops Q rest (a.put op.dst (.agg cs)) w) : wpList P ops Q (op :: rest) a w :=
  wpList_load_mid hgd ty x ho b o hx cs.toList d hc hu hd (by simpa using hi) (by simpa using h)
theorem Blk.rangeAt {w : World} {g : Nat} {t : TypeId} {L : List Value} (h : Blk w g t L.toArray) (o : Nat) (cs : List Value) (hc : ∀ (j : Nat) (v : Value), cs[j]? = some v → L[o + j]? = some v) : w.rangeAt g o cs := fun j v hv => by
  rw [h.cell]
  simpa using hc j v hv

/-- Where a slice's rest lies. -/
def slA (A : Option Addr) (k cap : Nat) : Option Addr := if cap = k then A else A.map (·.add k)
theorem run_slice_l1 {P : Program} (t e : TypeId) (ht : P.underlying t = some (.slice e)) (hs : ∀ w, (sizeOf e).run P w = .ok 1 w) (A : Option Addr) (len cap k : Nat) (kl : IntKind) (l : Int) (hl : l = k) (hk : k ≤ len) (w : World) :
    (Instr.sliceAt t (.slice A len cap) (some (.int kl l)) none none).run P w = .ok (.slice (slA A k cap) (len - k) (cap - k)) w := by
  have he : P.elem t = e := by simp [Program.elem, ht]
  have ht' : P.underlying t = some (.slice (P.elem t)) := by rw [he]; exact ht
  subst hl
  rw [run_sliceAt_slice w t _ _ _ _ ht', run_slice_l w t A len cap ht' kl k (by omega) (by omega), he, hs]
  simp [Result.andThen, sliced, slA]
theorem run_slice_lh1 {P : Program} (t e : TypeId) (ht : P.underlying t = some (.slice e)) (hs : ∀ w, (sizeOf e).run P w = .ok 1 w) (A : Option Addr) (len cap lo hi : Nat) (kl kh : IntKind) (l h : Int) (hl : l = lo) (hh : h = hi) (h1 : lo ≤ hi) (h2 : hi ≤ cap) (w : World) :
    (Instr.sliceAt t (.slice A len cap) (some (.int kl l)) (some (.int kh h)) none).run P w = .ok (.slice (slA A lo cap) (hi - lo) (cap - lo)) w := by
  have he : P.elem t = e := by simp [Program.elem, ht]
  have ht' : P.underlying t = some (.slice (P.elem t)) := by rw [he]; exact ht
  subst hl; subst hh
  rw [run_sliceAt_slice w t _ _ _ _ ht', run_slice_lh w t A len cap ht' kl kh lo hi (by omega) (by omega) (by omega), he, hs]
  simp [Result.andThen, sliced, slA]
theorem nats_take {k : IntKind} {M : Nat} {w : World} {B : Nat} {A : Option Addr} {l : List Nat} (h : Nats k M w B A l) (n : Nat) : Nats k M w B A (l.take n) := fun j z hz => by
  rw [List.getElem?_take] at hz
  split at hz
  · exact h j z hz
  · cases hz
theorem nats_slA {k : IntKind} {M : Nat} {w : World} {B : Nat} {A : Option Addr} {l : List Nat} (h : Nats k M w B A l) {i cap : Nat} (hc : l.length ≤ cap) : Nats k M w B (slA A i cap) (l.drop i) := fun j z hz => by
  rw [List.getElem?_drop] at hz
  obtain ⟨h1, b, off, rfl, h3, h4⟩ := h (i + j) z hz
  have hlt : i + j < l.length := (List.getElem?_eq_some_iff.1 hz).1
  refine ⟨h1, b, off + i, ?_, h3, by rw [← h4, Nat.add_assoc]⟩
  have hne : ¬ cap = i := by omega
  simp [slA, hne, Go.WideShapes.add_plain]
/-- .. and of an array in a block's middle. -/
theorem run_slice_arr_lo {P : Program} (t e : TypeId) (N : Nat) (ht : P.underlying t = some (.array N e)) (hs : ∀ w, (sizeOf e).run P w = .ok 1 w) (b o lo : Nat) (kl : IntKind) (l : Int) (hl : l = lo) (h3 : lo < N) (w : World) :
    (Instr.sliceAt t (.pointer (some ⟨b, o, none⟩)) (some (.int kl l)) none none).run P w = .ok (.slice (some ⟨b, o + lo, none⟩) (N - lo) (N - lo)) w := by
  have hn : P.arrayLen t = N := by simp [Program.arrayLen, ht]
  have he : P.elem t = e := by simp [Program.elem, ht]
  have ht' : P.underlying t = some (.array (P.arrayLen t) (P.elem t)) := by rw [hn, he]; exact ht
  rw [run_sliceAt_array_l w t ⟨b, o, none⟩ ht' kl l (by omega) (by rw [hn]; omega), he, hs, hn]
  subst hl
  have hne : ¬ N = lo := by omega
  simp [Result.andThen, slicedAt, hne, Go.WideShapes.add_plain]
end Go.Proofs.YtmiaabpnolebhaaGreatDoor

/-
  Bytes as words, in plain Lean: four bytes, the highest first.
-/
namespace Go.Proofs.YtmiaabpnolebhaaGreatDoor
open Go.RowKit

/-- Four bytes as a word, the highest first. -/
def be4 (a b c d : Nat) : Nat := ((a * 256 + b) * 256 + c) * 256 + d
theorem be4_lt {a b c d : Nat} (ha : a < 256) (hb : b < 256) (hc : c < 256) (hd : d < 256) : be4 a b c d < 4294967296 := by unfold be4; omega
theorem or_add {x y i : Nat} (h : y < 2 ^ i) : (2 ^ i * x) ||| y = 2 ^ i * x + y := (Nat.two_pow_add_eq_or_of_lt h x).symm
theorem be4_or {a b c d : Nat} (hb : b < 256) (hc : c < 256) (hd : d < 256) : ((a * 16777216 ||| b * 65536) ||| c * 256) ||| d = be4 a b c d := by
  have e1 : (a * 16777216 ||| b * 65536) = 65536 * (256 * a + b) := by
    have := or_add (x := a) (y := b * 65536) (i := 24) (by omega)
    rw [show a * 16777216 = 2 ^ 24 * a by omega, this]; omega
  have e2 : (65536 * (256 * a + b) ||| c * 256) = 256 * (256 * (256 * a + b) + c) := by
    have := or_add (x := 256 * a + b) (y := c * 256) (i := 16) (by omega)
    rw [show 65536 * (256 * a + b) = 2 ^ 16 * (256 * a + b) by omega, this]; omega
  have e3 : (256 * (256 * (256 * a + b) + c) ||| d) = be4 a b c d := by
    have := or_add (x := 256 * (256 * a + b) + c) (y := d) (i := 8) (by omega)
    rw [show 256 * (256 * (256 * a + b) + c) = 2 ^ 8 * (256 * (256 * a + b) + c) by omega, this]; unfold be4; omega
  rw [e1, e2, e3]
/-- The words of a list of bytes, four by four; what is left over is dropped. -/
def words4 : List Nat → List Nat
  | a :: b :: c :: d :: r => be4 a b c d :: words4 r
  | _ => []
theorem words4_length : ∀ l : List Nat, (words4 l).length = l.length / 4
  | a :: b :: c :: d :: r => by
    simp only [words4, List.length_cons, words4_length r]
    omega
  | [] => by simp [words4]
  | [_] => by simp [words4]
  | [_, _] => by simp [words4]
  | [_, _, _] => by simp [words4]
theorem words4_lt : ∀ l : List Nat, (∀ x ∈ l, x < 256) → ∀ x ∈ words4 l, x < 4294967296
  | a :: b :: c :: d :: r, h, x, hx => by
    simp only [words4, List.mem_cons] at hx
    rcases hx with rfl | hx
    · exact be4_lt (h a (by simp)) (h b (by simp)) (h c (by simp)) (h d (by simp))
    · exact words4_lt r (fun y hy => h y (by simp [hy])) x hx
  | [], _, x, hx => by simp [words4] at hx
  | [_], _, x, hx => by simp [words4] at hx
  | [_, _], _, x, hx => by simp [words4] at hx
  | [_, _, _], _, x, hx => by simp [words4] at hx
theorem words4_four (l r : List Nat) (i : Nat) (h : l.length = 4 * i) : words4 (l ++ r) = words4 l ++ words4 r := by
  induction i generalizing l with
  | zero => have : l = [] := List.eq_nil_of_length_eq_zero (by omega); subst this; simp [words4]
  | succ i ih =>
    match l, h with
    | a :: b :: c :: d :: l', h =>
      simp only [List.length_cons] at h
      simp only [List.cons_append, words4, ih l' (by omega)]
    | [], h => simp at h
    | [_], h => simp at h; omega
    | [_, _], h => simp at h; omega
    | [_, _, _], h => simp at h; omega
theorem words4_get : ∀ (l : List Nat) (i a b c d : Nat), l[4 * i]? = some a → l[4 * i + 1]? = some b → l[4 * i + 2]? = some c → l[4 * i + 3]? = some d → (words4 l)[i]? = some (be4 a b c d)
  | x0 :: x1 :: x2 :: x3 :: r, 0, a, b, c, d, h0, h1, h2, h3 => by
    simp at h0 h1 h2 h3
    subst h0; subst h1; subst h2; subst h3
    simp [words4]
  | x0 :: x1 :: x2 :: x3 :: r, i + 1, a, b, c, d, h0, h1, h2, h3 => by
    rw [words4, List.getElem?_cons_succ]
    refine words4_get r i a b c d ?_ ?_ ?_ ?_
    · rw [show 4 * (i + 1) = 4 * i + 4 by omega] at h0; simpa using h0
    · rw [show 4 * (i + 1) + 1 = 4 * i + 1 + 4 by omega] at h1; simpa using h1
    · rw [show 4 * (i + 1) + 2 = 4 * i + 2 + 4 by omega] at h2; simpa using h2
    · rw [show 4 * (i + 1) + 3 = 4 * i + 3 + 4 by omega] at h3; simpa using h3
  | [], i, a, b, c, d, h0, _, _, _ => by simp at h0
  | [_], i, a, b, c, d, _, h1, _, _ => by simp at h1
  | [_, _], i, a, b, c, d, _, _, h2, _ => by simp at h2
  | [_, _, _], i, a, b, c, d, _, _, _, h3 => by simp at h3
theorem words4_take_snoc (l : List Nat) (i a b c d : Nat) (h0 : l[4 * i]? = some a) (h1 : l[4 * i + 1]? = some b) (h2 : l[4 * i + 2]? = some c) (h3 : l[4 * i + 3]? = some d) :
    words4 (l.take (4 * (i + 1))) = words4 (l.take (4 * i)) ++ [be4 a b c d] := by
  have hl : 4 * i + 3 < l.length := (List.getElem?_eq_some_iff.1 h3).1
  have e : l.take (4 * (i + 1)) = l.take (4 * i) ++ [a, b, c, d] := by
    rw [show 4 * (i + 1) = 4 * i + 3 + 1 by omega, take_snoc h3, show 4 * i + 3 = 4 * i + 2 + 1 by omega, take_snoc h2, show 4 * i + 2 = 4 * i + 1 + 1 by omega, take_snoc h1, take_snoc h0]
    simp
  rw [e, words4_four _ _ i (by rw [List.length_take]; omega)]
  simp [words4]
end Go.Proofs.YtmiaabpnolebhaaGreatDoor

/-
  Words of every text: a wall around a fact; bytes as cells. No program in sight.
-/
namespace Go.Proofs.YtmiaabpnolebhaaGreatDoor
open Go.RowKit

theorem Blk.range {w : World} {g : Nat} {t : TypeId} {cs : Array Value} (h : Blk w g t cs) : w.rangeAt g 0 cs.toList := fun j v hv => by
  rw [Nat.zero_add, h.cell]
  simpa using hv
namespace Sha
/-- A fact behind a wall (a structure: it cannot be unfolded). -/
structure Wall (p : Prop) : Prop where
  out : p
theorem wall {p : Prop} (h : p) : Wall p := ⟨h⟩
def v8 (l : List Nat) : List Value := l.map fun x => Value.int .u8 ((x : Nat) : Int)
def v32 (l : List Nat) : List Value := l.map fun x => Value.int .u32 ((x : Nat) : Int)
theorem v8_length (l : List Nat) : (v8 l).length = l.length := by simp [v8]
theorem v32_length (l : List Nat) : (v32 l).length = l.length := by simp [v32]
theorem v8_append (a b : List Nat) : v8 (a ++ b) = v8 a ++ v8 b := by simp [v8]
end Sha
namespace Otp
/-- Bytes as cells. -/
def b8 (l : List Nat) : Array Value := (l.map fun x => Value.int .u8 ((x : Nat) : Int)).toArray
theorem b8_at {l : List Nat} {i x : Nat} (h : l[i]? = some x) : (b8 l)[i]? = some (.int .u8 (x : Int)) := by simp [b8, h]
theorem nats_b8 {w : World} {L : Nat} {t : TypeId} {l : List Nat} (h : Blk w L t (b8 l)) (hw : ∀ x ∈ l, x < 256) : Nats .u8 256 w w.heap.size (some ⟨L, 0, none⟩) l := fun i z hz =>
  ⟨hw z (List.mem_of_getElem? hz), L, 0, rfl, h.lt, by rw [Nat.zero_add, h.cell, b8_at hz]⟩
theorem b8_one (l : List Nat) : (b8 l).all (·.oneCell') = true := all_oneCell_toArray (fun v hv => by
  obtain ⟨a, _, rfl⟩ := List.mem_map.1 hv
  rfl)
theorem b8_size (l : List Nat) : (b8 l).size = l.length := by simp [b8]
/-- A whole array out of a block, in a place that is guarded. -/
theorem load_mid_g {P : Program} {ops : Array Oper} {rest : List Oper} {op : Oper} {a : Act} {w : World} {Q : Exit → Act → World → Prop} (hw : Region.wanted op (yielded ops a.tmps) = true) (ty : TypeId) (x : Operand) (ho : op.op = .load ty x)
    (b o : Nat) (hx : a.eval x = .pointer (some ⟨b, o, none⟩)) (cs : List Value) (d : TypeDesc) (hc : w.rangeAt b o cs) (hu : P.underlying ty = some d) (hd : d.isRow = true) (hi : (P.info? ty).map (·.size) = some cs.length)
    (h : wpList P ops Q rest (a.put op.dst (.agg cs.toArray)) w) : wpList P ops Q (op :: rest) a w :=
  wpList_step fun K hK => by
    rw [if_pos hw]
    exact wp_load_mid ty x ho b o hx cs d hc hu hd hi (hK _ _ h)
/-- A whole array out of a block, its cells as a list. -/
theorem load_row_g {P : Program} {ops : Array Oper} {rest : List Oper} {op : Oper} {a : Act} {w : World} {Q : Exit → Act → World → Prop} (hw : Region.wanted op (yielded ops a.tmps) = true) (ty : TypeId) (x : Operand) (ho : op.op = .load ty x)
    (b : Nat) (hx : a.eval x = .pointer (some ⟨b, 0, none⟩)) (t : TypeId) (cs : Array Value) (d : TypeDesc) (hc : Blk w b t cs) (hu : P.underlying ty = some d) (hd : d.isRow = true) (hi : (P.info? ty).map (·.size) = some cs.size)
    (h : wpList P ops Q rest (a.put op.dst (.agg cs)) w) : wpList P ops Q (op :: rest) a w :=
  load_mid_g hw ty x ho b 0 hx cs.toList d (Blk.range hc) hu hd (by simpa using hi) (by simpa using h)
end Otp
end Go.Proofs.YtmiaabpnolebhaaGreatDoor

/-
  Aggregates out of parts. No program in sight.
-/
namespace Go.Proofs.YtmiaabpnolebhaaGreatDoor
open Go.RowKit

theorem fold_put (off : Nat) : ∀ (cs : List Value) (j : Nat) (L : Array Value), off + j + cs.length ≤ L.size → (cs.zipIdx j).foldl (fun (a : Array Value) (p : Value × Nat) => a.setIfInBounds (off + p.2) p.1) L = (splice L.toList (off + j) cs).toArray
  | [], j, L, _ => by simp [splice]
  | v :: r, j, L, h => by
    rw [List.zipIdx_cons, List.foldl_cons]
    simp only [List.length_cons] at h
    have := fold_put off r (j + 1) (L.setIfInBounds (off + j) v) (by simp; omega)
    rw [this]
    have e : (L.setIfInBounds (off + j) v).toList = L.toList.set (off + j) v := by simp
    rw [e, show off + (j + 1) = off + j + 1 by omega, splice_cons (by simp; omega)]
/-- A part of many cells goes in. -/
theorem fill_part (place : Nat → Option (Nat × Nat)) (cells : List Value) (i : Nat) (cs : List Value) (rest : List (Nat × Value)) (off : Nat) (hp : place i = some (off, cs.length)) (hf : off + cs.length ≤ cells.length) :
    Instr.fill place cells.toArray ((i, .agg cs.toArray) :: rest) = Instr.fill place (splice cells off cs).toArray rest := by
  have hc : (Value.agg cs.toArray).cells = cs.toArray := rfl
  have := fold_put off cs 0 cells.toArray (by simpa using hf)
  simp only [Nat.add_zero] at this
  have hz : (cs.toArray.zipIdx.foldl (fun (a : Array Value) (p : Value × Nat) => a.setIfInBounds (off + p.2) p.1) cells.toArray) = (cs.zipIdx 0).foldl (fun (a : Array Value) (p : Value × Nat) => a.setIfInBounds (off + p.2) p.1) cells.toArray := by
    rw [← Array.foldl_toList]
    congr 1
    simp
  rw [Instr.fill]
  rw [hp]
  simp only [hc]
  have h1 : ¬ ((decide (cs.toArray.size ≠ cs.length) || decide (off + cs.toArray.size > cells.toArray.size)) = true) := by
    simp
    omega
  rw [if_neg h1]
  congr 1
  exact hz.trans this
/-- A part of one cell. -/
theorem fill_one (place : Nat → Option (Nat × Nat)) (cells : List Value) (i : Nat) (v : Value) (rest : List (Nat × Value)) (off : Nat) (hv : v.cells = #[v]) (hp : place i = some (off, 1)) (hf : off < cells.length) :
    Instr.fill place cells.toArray ((i, v) :: rest) = Instr.fill place (cells.set off v).toArray rest := by
  rw [Instr.fill]
  rw [hp]
  simp only [hv]
  have h1 : ¬ ((decide ((#[v] : Array Value).size ≠ 1) || decide (off + (#[v] : Array Value).size > cells.toArray.size)) = true) := by
    simp
    omega
  rw [if_neg h1]
  congr 1
  simp [Array.zipIdx]
theorem splice_two (Z A B : List Value) (h : Z.length = A.length + B.length) : splice (splice Z 0 A) A.length B = A ++ B := by
  unfold splice
  simp [h]
end Go.Proofs.YtmiaabpnolebhaaGreatDoor

/-
  What stands from a world on, under growth.
-/
namespace Go.Proofs.YtmiaabpnolebhaaGreatDoor
open Go.RowKit

/-- What is told of each world that has grown out of w. -/
def From (w : World) (F : World → Prop) : Prop := ∀ W, Below w.heap.size w W → F W
section
variable {w w' : World} {F G : World → Prop}
theorem From.now (h : From w F) : F w := h w (Below.refl _ _)
theorem From.at (h : From w F) {W : World} (hb : Below w.heap.size w W) : F W := h W hb
theorem From.next (h : From w F) (hB : Below w.heap.size w w') : From w' F := fun W k => h W (below_then hB k (Nat.le_refl _))
theorem From.and (h : From w F) (g : From w G) : From w (fun W => F W ∧ G W) := fun W k => ⟨h W k, g W k⟩
theorem From.mono (h : From w F) (g : ∀ W, F W → G W) : From w G := fun W k => g W (h W k)
theorem From.below {B : Nat} {w0 : World} (h : Below B w0 w) (hB : B ≤ w0.heap.size) : From w (fun W => Below B w0 W) := fun _ k => below_then h k hB
theorem From.blk {g : Nat} {t : TypeId} {cs : Array Value} (h : Blk w g t cs) : From w (fun W => Blk W g t cs) := fun _ k => h.next k rfl
theorem From.nats {k : IntKind} {M : Nat} {A : Option Addr} {l : List Nat} (h : Nats k M w w.heap.size A l) : From w (fun W => Nats k M W W.heap.size A l) := fun _ hB => (h.below hB).more hB.size
theorem range_frm {S : List Nat} {g o : Nat} {l : List Value} (h : w.rangeAt g o l) (hf : Frm S w w') (hg : g < w.heap.size) (hS : g ∉ S) : w'.rangeAt g o l := fun j v hv => by
  rw [← h j v hv]
  exact World.cell?_of_block (hf.block g hg hS)
end
theorem range_below {w w' : World} {B g o : Nat} {l : List Value} (h : w.rangeAt g o l) (hg : g < B) (hb : Below B w w') : w'.rangeAt g o l := fun j v hv => (hb.cell (p := ⟨g, o + j, none⟩) hg).trans (h j v hv)
end Go.Proofs.YtmiaabpnolebhaaGreatDoor
