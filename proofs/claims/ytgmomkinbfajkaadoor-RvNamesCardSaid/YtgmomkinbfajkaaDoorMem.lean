/-
  Words for memory: a block that is known whole ('Blk'), a world in which only some blocks have turned ('Frm'), and what a law's row asks at its end. No program in sight.
-/
import Derived.WalkKit
import Derived.WalkSpells
import Derived.WalkLawsBesides
import Derived.Deep.QuietTactic
import Derived.BigQuiet
import Derived.Lib.Hide
import Derived.Laws.BitsAllLaws
import Derived.ProofKit
import Derived.OpenShut
import Derived.Maps.AppendAt
import Derived.Laws.AppendOwnNone
import Derived.Laws.MakeOwn
import Derived.Laws.Entries
import Derived.Deep.Light
import Derived.Outline
set_option linter.unusedSimpArgs false
set_option linter.unusedVariables false
namespace Go.Proofs.YtgmomkinbfajkaaDoor
open Go.RowKit

/-- Block g of the world is just these cells, of element type t; none is frozen. -/
def Blk (w : World) (g : Nat) (t : TypeId) (cs : Array Value) : Prop := w.heap[g]? = some (.cells cs t (0, 0))

/-- w' is w with new blocks, and writes into blocks of the list alone. -/
structure Frm (S : List Nat) (w w' : World) : Prop where
  os : w'.os = w.os
  tape : w'.tape = w.tape
  output : w'.output = w.output
  size : w.heap.size ≤ w'.heap.size
  block : ∀ k, k < w.heap.size → k ∉ S → w'.heap[k]? = w.heap[k]?

section
variable {w w' w'' : World} {g : Nat} {t : TypeId} {cs : Array Value} {S T : List Nat}

theorem Frm.refl (S : List Nat) (w : World) : Frm S w w := ⟨rfl, rfl, rfl, Nat.le_refl _, fun _ _ _ => rfl⟩
theorem Frm.trans (h : Frm S w w') (k : Frm S w' w'') : Frm S w w'' :=
  ⟨k.os.trans h.os, k.tape.trans h.tape, k.output.trans h.output, Nat.le_trans h.size k.size, fun i hi hn => (k.block i (Nat.lt_of_lt_of_le hi h.size) hn).trans (h.block i hi hn)⟩
theorem Frm.mono (h : Frm S w w') (hs : ∀ x, x ∈ S → x < w.heap.size → x ∈ T) : Frm T w w' := ⟨h.os, h.tape, h.output, h.size, fun k hk hn => h.block k hk (fun hx => hn (hs k hx hk))⟩
/-- Blocks that are new since w may be written, too. -/
theorem Frm.trans' (h : Frm S w w') (k : Frm T w' w'') (hs : ∀ x, x ∈ T → x < w.heap.size → x ∈ S) : Frm S w w'' :=
  ⟨k.os.trans h.os, k.tape.trans h.tape, k.output.trans h.output, Nat.le_trans h.size k.size, fun i hi hn => (k.block i (Nat.lt_of_lt_of_le hi h.size) (fun hx => hn (hs i hx hi))).trans (h.block i hi hn)⟩
theorem Frm.drew (h : Frm S w w') : Frm S w w'.drew := ⟨h.os, h.tape, h.output, h.size, h.block⟩
theorem Frm.drewN (h : Frm S w w') (n : Nat) : Frm S w (w'.drewN n) := ⟨h.os, h.tape, h.output, h.size, h.block⟩
theorem Frm.alloc (h : Frm S w w') (o : Obj) : Frm S w (w'.alloc o) :=
  h.trans ⟨rfl, rfl, rfl, by simp, fun k hk _ => Below.heap_alloc _ _ _ hk⟩
theorem Frm.setCell (h : Frm S w w') {p : Addr} (hp : p.block ∈ S ∨ w.heap.size ≤ p.block) (u : Value) : Frm S w (w'.setCell p u) :=
  ⟨h.os, h.tape, h.output, by simpa [World.setCell] using h.size, fun k hk hn => (Below.heap_setCell _ _ _ _ (by rintro rfl; rcases hp with hp | hp; exact hn hp; omega)).trans (h.block k hk hn)⟩
theorem Frm.grown (h : Frm S w w') {row : Option Nat} (hg : w'.grownBy w'' row) (hr : ∀ k, row = some k → k < w.heap.size → k ∈ S) : Frm S w w'' :=
  ⟨hg.os.trans h.os, hg.tape.trans h.tape, hg.output.trans h.output, Nat.le_trans h.size hg.size, fun k hk hn => (hg.block k (Nat.lt_of_lt_of_le hk h.size) (fun e => hn (hr k e.symm hk))).trans (h.block k hk hn)⟩
theorem Frm.of_below (h : Below w.heap.size w w') : Frm S w w' := ⟨h.os, h.tape, h.output, h.size, fun k hk _ => h.block k hk⟩
theorem Frm.below (h : Frm S w w') {B : Nat} (hB : B ≤ w.heap.size) (hs : ∀ x, x ∈ S → B ≤ x) : Below B w w' :=
  ⟨h.os, h.tape, h.output, h.size, fun k hk => h.block k (by omega) (fun hx => by have := hs k hx; omega)⟩
theorem Frm.below_nil (h : Frm [] w w') : Below w.heap.size w w' := h.below (Nat.le_refl _) (fun _ hx => by simp at hx)
/-- From the outer call's start on: everything that an inner call wrote is new. -/
theorem Below.frm {B : Nat} (h : Below B w w') (k : Frm S w' w'') (hB : B ≤ w.heap.size) (hs : ∀ x, x ∈ S → B ≤ x) : Below B w w'' :=
  h.trans (k.below (Nat.le_trans hB h.size) hs)

theorem Blk.lt (h : Blk w g t cs) : g < w.heap.size := by
  rcases Nat.lt_or_ge g w.heap.size with hlt | hge
  · exact hlt
  · unfold Blk at h; rw [Array.getElem?_eq_none hge] at h; cases h
theorem Blk.cell (h : Blk w g t cs) (i : Nat) : w.cell? ⟨g, i, none⟩ = cs[i]? := cell_of_row w g i cs t (0, 0) h
theorem Blk.frozen (h : Blk w g t cs) (i : Nat) : w.frozen? ⟨g, i, none⟩ = false := by
  unfold Blk at h
  simp [World.frozen?, h]
theorem Blk.new (w : World) (t : TypeId) (cs : Array Value) : Blk (w.alloc (.cells cs t)) w.heap.size t cs := by
  show (w.heap.push _)[w.heap.size]? = _
  simp
theorem Blk.drew (h : Blk w g t cs) : Blk w.drew g t cs := h
theorem Blk.drewN (h : Blk w g t cs) (n : Nat) : Blk (w.drewN n) g t cs := h
theorem Blk.alloc (h : Blk w g t cs) (o : Obj) : Blk (w.alloc o) g t cs := (Below.heap_alloc w o g h.lt).trans h
theorem Blk.set (h : Blk w g t cs) (i : Nat) (u : Value) : Blk (w.setCell ⟨g, i, none⟩ u) g t (cs.setIfInBounds i u) := by
  unfold Blk at h ⊢
  simp [World.setCell, Array.getElem?_modify, h]
theorem Blk.far (h : Blk w g t cs) {p : Addr} (hp : g ≠ p.block) (u : Value) : Blk (w.setCell p u) g t cs := (Below.heap_setCell w p u g hp).trans h
theorem Blk.far' (h : Blk w g t cs) (b i : Nat) (hp : g ≠ b) (u : Value) : Blk (w.setCell ⟨b, i, none⟩ u) g t cs := h.far (p := ⟨b, i, none⟩) hp u
theorem Blk.below {B : Nat} (h : Blk w g t cs) (hb : Below B w w') (hg : g < B) : Blk w' g t cs := (hb.block g hg).trans h
theorem Blk.frm (h : Blk w g t cs) (hb : Frm S w w') (hg : g ∉ S) : Blk w' g t cs := (hb.block g h.lt hg).trans h
theorem Blk.eq {t' : TypeId} {cs' : Array Value} (h : Blk w g t cs) (h' : Blk w g t' cs') : t = t' ∧ cs = cs' := by
  unfold Blk at h h'
  rw [h] at h'
  simp at h'
  exact ⟨h'.2, h'.1⟩
theorem Blk.ne {g' : Nat} {t' : TypeId} {cs' : Array Value} (h : Blk w g t cs) (h' : Blk w g' t' cs') (hne : t ≠ t') : g ≠ g' := by
  rintro rfl
  exact hne (h.eq h').1
end

theorem Below.drewN {B : Nat} {a w : World} (h : Below B a w) (n : Nat) : Below B a (w.drewN n) := below_drewN h n
theorem below_then {B : Nat} {a w w' : World} (h : Below B a w) (k : Below w.heap.size w w') (hB : B ≤ a.heap.size) : Below B a w' := h.trans (k.mono (Nat.le_trans hB h.size))
/-- What was there reads as it did: the walk takes both as rules. -/
theorem oldCells {W w1 : World} (hb : Below W.heap.size W w1) : (∀ b o, b < W.heap.size → w1.cell? ⟨b, o, none⟩ = W.cell? ⟨b, o, none⟩) ∧ (∀ b o, b < W.heap.size → w1.frozen? ⟨b, o, none⟩ = W.frozen? ⟨b, o, none⟩) :=
  ⟨fun b o h => hb.cell (p := ⟨b, o, none⟩) h, fun b o h => hb.frozen (p := ⟨b, o, none⟩) h⟩

theorem run_make_rowN {P : Program} (t e : TypeId) (i : TypeInfo) (z : Value) (ht : P.underlying t = some (.slice e)) (hi : P.info? e = some i) (hz : i.zero = some z)
    (kl kc : IntKind) (n c : Nat) (hnc : n ≤ c) (hbytes : i.bytes * c ≤ 281474976710656) (h63 : c ≤ 9223372036854775807) (w : World) :
    (Instr.makeSlice t (.int kl (n : Int)) (.int kc (c : Int))).run P w = .ok (.slice (some ⟨w.heap.size, 0, none⟩) n c) (w.alloc (.cells (madeCells z.cells (c * i.size)) e)) := by
  have hb : (i.bytes : Int) * (c : Int) ≤ 281474976710656 := by
    have h : ((i.bytes * c : Nat) : Int) ≤ 281474976710656 := by omega
    rwa [Int.natCast_mul] at h
  have hr := run_make (P := P) w t e i z ht hi hz kl kc n c (by omega) (by omega) hb (by omega)
  simp only [Int.toNat_natCast] at hr
  exact hr
theorem made_get (z : Array Value) (n i : Nat) (h : i < n) (hz : 0 < z.size) : (madeCells z n)[i]? = z[i % z.size]? := by
  have hm : i % z.size < z.size := Nat.mod_lt _ hz
  simp [madeCells, h, hm]
/-- A type's row of the table. -/
theorem info_row {P : Program} {e : TypeId} {z : Value} {size bytes : Nat} (h : (P.info? e).map (fun i => (i.zero, i.size, i.bytes)) = some (some z, size, bytes)) : ∃ i, P.info? e = some i ∧ i.zero = some z ∧ i.size = size ∧ i.bytes = bytes := by
  cases hi : P.info? e with
  | none => rw [hi] at h; cases h
  | some i =>
    rw [hi] at h
    simp at h
    exact ⟨i, rfl, h.1, h.2.1, h.2.2⟩

theorem cell_lt {w : World} {b i : Nat} {v : Value} (h : w.cell? ⟨b, i, none⟩ = some v) : b < w.heap.size := by
  rcases Nat.lt_or_ge b w.heap.size with h1 | h1
  · exact h1
  · unfold World.cell? at h
    rw [Array.getElem?_eq_none h1] at h
    cases h
theorem take_snoc {α : Type} {l : List α} {i : Nat} {x : α} (h : l[i]? = some x) : l.take (i + 1) = l.take i ++ [x] := by
  obtain ⟨hi, rfl⟩ := List.getElem?_eq_some_iff.1 h
  exact List.take_succ_eq_append_getElem hi
/-- What a law's walk shows. -/
def TrueBelow (w : World) (e : Ending) (w' : World) : Prop := e = .returned (.bool true) ∧ Below w.heap.size w w'

/-- A slice of integers that came in: its elements; asked of below block B. -/
def Ints (k : IntKind) (w : World) (B : Nat) (a : Option Addr) (zs : List Int) : Prop :=
  ∀ (i : Nat) (z : Int), zs[i]? = some z → (Lit.int k z).wf = true ∧ ∃ b off, a = some ⟨b, off, none⟩ ∧ b < B ∧ w.cell? ⟨b, off + i, none⟩ = some (.int k z)
/-- Likewise of an unsigned kind, as numbers below M. -/
def Nats (k : IntKind) (M : Nat) (w : World) (B : Nat) (a : Option Addr) (zs : List Nat) : Prop :=
  ∀ (i : Nat) (z : Nat), zs[i]? = some z → z < M ∧ ∃ b off, a = some ⟨b, off, none⟩ ∧ b < B ∧ w.cell? ⟨b, off + i, none⟩ = some (.int k (z : Int))
theorem Ints.below {k : IntKind} {w w' : World} {B : Nat} {a : Option Addr} {zs : List Int} (h : Ints k w B a zs) (hb : Below B w w') : Ints k w' B a zs := fun i z hz => by
  obtain ⟨h1, b, off, h2, h3, h4⟩ := h i z hz
  exact ⟨h1, b, off, h2, h3, (hb.cell (p := ⟨b, off + i, none⟩) h3).trans h4⟩
theorem Nats.below {k : IntKind} {M : Nat} {w w' : World} {B : Nat} {a : Option Addr} {zs : List Nat} (h : Nats k M w B a zs) (hb : Below B w w') : Nats k M w' B a zs := fun i z hz => by
  obtain ⟨h1, b, off, h2, h3, h4⟩ := h i z hz
  exact ⟨h1, b, off, h2, h3, (hb.cell (p := ⟨b, off + i, none⟩) h3).trans h4⟩
theorem Nats.frm {k : IntKind} {M : Nat} {w w' : World} {B : Nat} {a : Option Addr} {zs : List Nat} {S : List Nat} (h : Nats k M w B a zs) (hb : Frm S w w') (hB : B ≤ w.heap.size) (hs : ∀ x, x ∈ S → B ≤ x) : Nats k M w' B a zs :=
  h.below (hb.below hB hs)

theorem own_frm {t : TypeId} {w w' : World} {base n size : Nat} {v : Value} {xs : List Value} {S : List Nat} (h : w.ownsRow base t size v n xs) (hf : Frm S w w') (hS : ∀ x, x ∈ S → x < base) : w'.ownsRow base t size v n xs := by
  refine ⟨h.1, ?_⟩
  rcases h.2 with h0 | ⟨g, cap, cur, hv, hg, hh, hc, hm, hs, ht⟩
  · exact .inl h0
  · exact .inr ⟨g, cap, cur, hv, hg, (hf.block g (Blk.lt (w := w) (t := t) (cs := cur) hh) (fun hx => by have := hS g hx; omega)).trans hh, hc, hm, hs, ht⟩
/-- A row of integers of the call's own reads as such. -/
theorem own_ints {k : IntKind} {t : TypeId} {w : World} {base n : Nat} {v : Value} {zs : List Int} (h : w.ownsRow base t 1 v n (zs.map (Value.int k))) (hw : ∀ z ∈ zs, (Lit.int k z).wf = true) :
    n = zs.length ∧ ∃ A c, v = .slice A n c ∧ n ≤ c ∧ Ints k w w.heap.size A zs ∧ ∀ ad : Addr, A = some ad → base ≤ ad.block := by
  have hn : n = zs.length := by have := h.1; simp at this; omega
  refine ⟨hn, ?_⟩
  rcases h.2 with ⟨rfl, h0⟩ | ⟨g, cap, cur, rfl, hg, hh, hc, hm, hs, ht⟩
  · refine ⟨none, 0, by rw [h0], by omega, fun i z hz => ?_, fun ad h => by cases h⟩
    have : zs = [] := List.eq_nil_of_length_eq_zero (by omega)
    rw [this] at hz; simp at hz
  · refine ⟨some ⟨g, 0, none⟩, cap, rfl, hc, fun i z hz => ⟨hw z (List.mem_of_getElem? hz), g, 0, rfl, ?_, ?_⟩, fun ad h => by cases h; exact hg⟩
    · exact Blk.lt (w := w) (t := t) (cs := cur) hh
    · have hi : i < zs.length := (List.getElem?_eq_some_iff.1 hz).1
      have := World.ownsRow.cellAt h i (by omega)
      rw [Nat.zero_add, this, List.getElem?_map, hz]
      rfl

/-- A literal slice of integers. -/
theorem ints_new {k : IntKind} {t : TypeId} (w : World) (zs : List Int) (cs : Array Value) (hcs : cs = (zs.map (Value.int k)).toArray) (hw : ∀ z ∈ zs, (Lit.int k z).wf = true) : Ints k (w.alloc (.cells cs t)) (w.heap.size + 1) (some ⟨w.heap.size, 0, none⟩) zs := fun i z hz => by
  refine ⟨hw z (List.mem_of_getElem? hz), w.heap.size, 0, rfl, by omega, ?_⟩
  rw [(Blk.new w t cs).cell, hcs]
  simp [hz]

theorem Nats.more {k : IntKind} {M : Nat} {w : World} {B B' : Nat} {a : Option Addr} {zs : List Nat} (h : Nats k M w B a zs) (hB : B ≤ B') : Nats k M w B' a zs := fun i z hz => by
  obtain ⟨h1, b, off, h2, h3, h4⟩ := h i z hz
  exact ⟨h1, b, off, h2, by omega, h4⟩
theorem Ints.more {k : IntKind} {w : World} {B B' : Nat} {a : Option Addr} {zs : List Int} (h : Ints k w B a zs) (hB : B ≤ B') : Ints k w B' a zs := fun i z hz => by
  obtain ⟨h1, b, off, h2, h3, h4⟩ := h i z hz
  exact ⟨h1, b, off, h2, by omega, h4⟩

/-- append onto a row of the call's own, the source a slice of one-cell elements, nil or not. -/
theorem wpList_append_src {P : Program} {w : World} {ops : Array Oper} {rest : List Oper} {o : Oper} {a : Act} {Q : Exit → Act → World → Prop} (hgd : o.guard = none) (s x : Operand) (t : TypeId)
    (ho : o.op = .call { callee := .builtin .append, args := #[s, x], argTypes := #[t, t] })
    (base : Nat) (e : TypeId) (i : TypeInfo) (z : Value) (bytes : Nat) (ht : P.underlying t = some (.slice e)) (hi : P.info? e = some i) (hz : i.zero = some z)
    (hsize : i.size = 1) (hby : i.bytes = bytes) (hzs : z.cells.size = 1)
    (v : Value) (n : Nat) (xs : List Value) (hs : a.eval s = v) (hown : w.ownsRow base e 1 v n xs)
    (A : Option Addr) (m c : Nat) (news : List Value) (hx : a.eval x = .slice A m c) (hl : news.length = m) (hsrc : ∀ (j : Nat) (u : Value), news[j]? = some u → ∃ ad, A = some ad ∧ w.cell? (ad.add j) = some u) (hnil : A = none → c = 0)
    (h1 : ∀ u ∈ news, u.oneCell' = true) (h63 : n + m ≤ maxLen) (hbytes : (n + m) * bytes ≤ 140737488355328) (hbase : base ≤ w.heap.size)
    (h : ∀ v' w', w'.ownsRow base e 1 v' (n + m) (xs ++ news) → w.grownBy w' v.ownBlock → (v'.ownBlock = v.ownBlock ∨ v'.ownBlock = some w.heap.size) → wpList P ops Q rest (a.put o.dst v') w') : wpList P ops Q (o :: rest) a w := by
  cases A with
  | none =>
    have hm : news = [] := by
      cases news with
      | nil => rfl
      | cons u us => obtain ⟨ad, h, _⟩ := hsrc 0 u rfl; cases h
    subst hm
    have hm0 : m = 0 := by simpa using hl.symm
    subst hm0
    have hc := hnil rfl
    subst hc
    exact wpList_append_own_none hgd s x t ho base e i 1 ht hi v n xs hs hown hx (h v w (by simpa using hown) (World.grownBy.refl w _) (.inl rfl))
  | some ad =>
    exact wpList_append_own_at w hgd s x t ho base e i z 1 bytes ht hi hz hsize hby hzs (by decide) v n xs hs hown ad m c news hx (by omega) (fun j u hu => by obtain ⟨ad', h, hc⟩ := hsrc j u hu; cases h; exact hc) h1 h63 hbytes hbase (fun v' w' h2 h3 _ h5 => h v' w' h2 h3 h5)
theorem nats_src {k : IntKind} {M : Nat} {w : World} {B : Nat} {A : Option Addr} {zs : List Nat} (h : Nats k M w B A zs) : ∀ (j : Nat) (u : Value), (zs.map fun x => Value.int k ((x : Nat) : Int))[j]? = some u → ∃ ad, A = some ad ∧ w.cell? (ad.add j) = some u := fun j u hu => by
  rw [List.getElem?_map] at hu
  cases hz : zs[j]? with
  | none => rw [hz] at hu; cases hu
  | some x =>
    rw [hz] at hu
    obtain rfl := Option.some.inj hu
    obtain ⟨_, b, off, rfl, _, hc⟩ := h j x hz
    exact ⟨_, rfl, by rw [Go.WideShapes.add_plain]; exact hc⟩
theorem Nats.take {k : IntKind} {M : Nat} {w : World} {B : Nat} {A : Option Addr} {zs : List Nat} (h : Nats k M w B A zs) (n : Nat) : Nats k M w B A (zs.take n) := fun i z hz => by
  rw [List.getElem?_take] at hz
  split at hz
  · exact h i z hz
  · cases hz

theorem Below.frm' {w w' : World} (h : Below w.heap.size w w') : Frm [] w w' := Frm.of_below h

/-- The end of a law's row, where of the world behind the call 'Below' alone is known. -/
theorem law_post {H : Type} {enc : TypeId × Value → H} {P : Program} {f : Func} {s : ChangeSpec} {apart fresh handsOn again : Bool} {W W' : World} {args : Array Value} {v : Value} {ds gs : List (DataW H)} {before pa pv : List MemPlace}
    (hW : DataW.Whole enc P f.params.toList s.vars apart W args.toList ds gs before)
    (hres : ∀ (b : Nat) (sp : Nat → Bool) (hd : Bool), DataW.TrodAll enc P W' b sp hd f.resultTypes.toList (v.resultList f.resultTypes.size) (s.fn H (ds ++ gs)).results [])
    (hargs : ∀ sp : Nat → Bool, (∀ p ∈ before, sp p.block = true) → DataW.TrodAll enc P W' 0 sp true f.params.toList args.toList (s.fn H (ds ++ gs)).args pa)
    (hvars : ∀ sp : Nat → Bool, (∀ p ∈ before, sp p.block = true) → DataW.TrodVars enc P W' sp s.vars (s.fn H (ds ++ gs)).vars pv)
    (hps : before = pa ++ pv) (hb : Below W.heap.size W W')
    (hok : ∀ (j : Nat) (t : TypeId) (r : Value), f.resultTypes[j]? = some t → (v.resultList f.resultTypes.size)[j]? = some r → Value.okWide P W' .any 0 t r) :
    s.post enc P f apart fresh handsOn again W args v W' := by
  have hlt : ∀ p ∈ before, p.block < W.heap.size := fun p hp => hW.lt p hp
  have hold : ∀ p ∈ before, (fun b => decide (b < W.heap.size)) p.block = true := fun p hp => by simpa using hlt p hp
  refine ⟨ds, gs, before, [], pa, pv, hW, hres _ _ _, hargs _ hold, hvars _ hold, World.keptBut_mono (fun p hp => ⟨hp, ?_⟩) (hb.frame (· ∈ before)), fun _ => ?_⟩
  · rw [hps, List.mem_append] at hp
    exact Or.inr hp
  · obtain ⟨_, _, _, _, _, hz, hn⟩ := hW
    refine ⟨hok, _, _, ([] ++ pa) ++ pv, ⟨[] ++ pa, pv, Go.ChangeShapes.trodAll_append (hargs _ (fun _ _ => rfl)) (hres _ _ _), hvars _ (fun _ _ => rfl), rfl, ?_, ?_⟩, ?_⟩
    · intro b off hp
      have hin : MemPlace.cell b off ∈ before := by rw [hps]; simpa using hp
      rw [hb.frozen (hlt _ hin)]
      exact hz b off hin
    · intro ha
      have := hn ha
      rw [hps] at this
      simpa using this
    · intro p hp _
      rw [hps]
      simpa using hp

end Go.Proofs.YtgmomkinbfajkaaDoor
