/-
  Texts of this claim, joined: Mem, Frame, FrameW, Next, Mid, Bytes, Fuse, Fuse2, Fuse3, FuseWords, OtpNum, Tz, Otp, OtpPlan, OtpCtr, OtpTo, ShaWord, R1Cut.
-/
import Derived.WalkKit
import Derived.WalkSpells
import Derived.WalkLawsBesides
import Derived.Deep.QuietTactic
import Derived.BigQuiet
import Derived.Lib.Hide
import Derived.Laws.BitsAllLaws
import Derived.ProofKit
import Derived.OpenShut
import Derived.Maps.AppendAt
import Derived.Laws.AppendOwnNone
import Derived.Laws.MakeOwn
import Derived.Laws.Entries
import Derived.Deep.Light
import Derived.Outline
import Derived.ChangeOld
import Derived.ChangeArms
import Derived.DataReads
import Derived.Deep.Slices
import Derived.ShutString
import Derived.WideShapes
import Derived.Laws.CopyOwn
import Derived.Deep.MidRow
import Derived.Laws.Slices
import Derived.Test.YtpakdcgcgekcfaaDoorProg
import Derived.Deep.LoopGhost
import Derived.Deep.RegionHeld3
import Derived.Deep.AppendLies
import Derived.Shelf.Spec.TrailingZeros
import Derived.RegionTactic
import Derived.Laws.Rows
set_option linter.unusedVariables false
/-
  Words for memory: a block that is known whole ('Blk'), a world in which only some blocks have turned ('Frm'), and what a law's row asks at its end. No program in sight.
-/
set_option linter.unusedSimpArgs false
set_option linter.unusedVariables false
namespace Go.Proofs.YtpakdcgcgekcfaaDoor
open Go.RowKit

/-- Block g of the world is just these cells, of element type t; none is frozen. -/
def Blk (w : World) (g : Nat) (t : TypeId) (cs : Array Value) : Prop := w.heap[g]? = some (.cells cs t (0, 0))

/-- w' is w with new blocks, and writes into blocks of the list alone. -/
structure Frm (S : List Nat) (w w' : World) : Prop where
  os : w'.os = w.os
  tape : w'.tape = w.tape
  output : w'.output = w.output
  size : w.heap.size ≤ w'.heap.size
  block : ∀ k, k < w.heap.size → k ∉ S → w'.heap[k]? = w.heap[k]?

section
variable {w w' w'' : World} {g : Nat} {t : TypeId} {cs : Array Value} {S T : List Nat}

theorem Frm.refl (S : List Nat) (w : World) : Frm S w w := ⟨rfl, rfl, rfl, Nat.le_refl _, fun _ _ _ => rfl⟩
theorem Frm.trans (h : Frm S w w') (k : Frm S w' w'') : Frm S w w'' :=
  ⟨k.os.trans h.os, k.tape.trans h.tape, k.output.trans h.output, Nat.le_trans h.size k.size, fun i hi hn => (k.block i (Nat.lt_of_lt_of_le hi h.size) hn).trans (h.block i hi hn)⟩
theorem Frm.mono (h : Frm S w w') (hs : ∀ x, x ∈ S → x < w.heap.size → x ∈ T) : Frm T w w' := ⟨h.os, h.tape, h.output, h.size, fun k hk hn => h.block k hk (fun hx => hn (hs k hx hk))⟩
/-- Blocks that are new since w may be written, too. -/
theorem Frm.trans' (h : Frm S w w') (k : Frm T w' w'') (hs : ∀ x, x ∈ T → x < w.heap.size → x ∈ S) : Frm S w w'' :=
  ⟨k.os.trans h.os, k.tape.trans h.tape, k.output.trans h.output, Nat.le_trans h.size k.size, fun i hi hn => (k.block i (Nat.lt_of_lt_of_le hi h.size) (fun hx => hn (hs i hx hi))).trans (h.block i hi hn)⟩
theorem Frm.drew (h : Frm S w w') : Frm S w w'.drew := ⟨h.os, h.tape, h.output, h.size, h.block⟩
theorem Frm.drewN (h : Frm S w w') (n : Nat) : Frm S w (w'.drewN n) := ⟨h.os, h.tape, h.output, h.size, h.block⟩
theorem Frm.alloc (h : Frm S w w') (o : Obj) : Frm S w (w'.alloc o) :=
  h.trans ⟨rfl, rfl, rfl, by simp, fun k hk _ => Below.heap_alloc _ _ _ hk⟩
theorem Frm.setCell (h : Frm S w w') {p : Addr} (hp : p.block ∈ S ∨ w.heap.size ≤ p.block) (u : Value) : Frm S w (w'.setCell p u) :=
  ⟨h.os, h.tape, h.output, by simpa [World.setCell] using h.size, fun k hk hn => (Below.heap_setCell _ _ _ _ (by rintro rfl; rcases hp with hp | hp; exact hn hp; omega)).trans (h.block k hk hn)⟩
theorem Frm.grown (h : Frm S w w') {row : Option Nat} (hg : w'.grownBy w'' row) (hr : ∀ k, row = some k → k < w.heap.size → k ∈ S) : Frm S w w'' :=
  ⟨hg.os.trans h.os, hg.tape.trans h.tape, hg.output.trans h.output, Nat.le_trans h.size hg.size, fun k hk hn => (hg.block k (Nat.lt_of_lt_of_le hk h.size) (fun e => hn (hr k e.symm hk))).trans (h.block k hk hn)⟩
theorem Frm.of_below (h : Below w.heap.size w w') : Frm S w w' := ⟨h.os, h.tape, h.output, h.size, fun k hk _ => h.block k hk⟩
theorem Frm.below (h : Frm S w w') {B : Nat} (hB : B ≤ w.heap.size) (hs : ∀ x, x ∈ S → B ≤ x) : Below B w w' :=
  ⟨h.os, h.tape, h.output, h.size, fun k hk => h.block k (by omega) (fun hx => by have := hs k hx; omega)⟩
theorem Frm.below_nil (h : Frm [] w w') : Below w.heap.size w w' := h.below (Nat.le_refl _) (fun _ hx => by simp at hx)
/-- From the outer call's start on: everything that an inner call wrote is new. -/
theorem Below.frm {B : Nat} (h : Below B w w') (k : Frm S w' w'') (hB : B ≤ w.heap.size) (hs : ∀ x, x ∈ S → B ≤ x) : Below B w w'' :=
  h.trans (k.below (Nat.le_trans hB h.size) hs)

theorem Blk.lt (h : Blk w g t cs) : g < w.heap.size := by
  rcases Nat.lt_or_ge g w.heap.size with hlt | hge
  · exact hlt
  · unfold Blk at h; rw [Array.getElem?_eq_none hge] at h; cases h
theorem Blk.cell (h : Blk w g t cs) (i : Nat) : w.cell? ⟨g, i, none⟩ = cs[i]? := cell_of_row w g i cs t (0, 0) h
theorem Blk.frozen (h : Blk w g t cs) (i : Nat) : w.frozen? ⟨g, i, none⟩ = false := by
  unfold Blk at h
  simp [World.frozen?, h]
theorem Blk.new (w : World) (t : TypeId) (cs : Array Value) : Blk (w.alloc (.cells cs t)) w.heap.size t cs := by
  show (w.heap.push _)[w.heap.size]? = _
  simp
theorem Blk.drew (h : Blk w g t cs) : Blk w.drew g t cs := h
theorem Blk.drewN (h : Blk w g t cs) (n : Nat) : Blk (w.drewN n) g t cs := h
theorem Blk.alloc (h : Blk w g t cs) (o : Obj) : Blk (w.alloc o) g t cs := (Below.heap_alloc w o g h.lt).trans h
theorem Blk.set (h : Blk w g t cs) (i : Nat) (u : Value) : Blk (w.setCell ⟨g, i, none⟩ u) g t (cs.setIfInBounds i u) := by
  unfold Blk at h ⊢
  simp [World.setCell, Array.getElem?_modify, h]
theorem Blk.far (h : Blk w g t cs) {p : Addr} (hp : g ≠ p.block) (u : Value) : Blk (w.setCell p u) g t cs := (Below.heap_setCell w p u g hp).trans h
theorem Blk.far' (h : Blk w g t cs) (b i : Nat) (hp : g ≠ b) (u : Value) : Blk (w.setCell ⟨b, i, none⟩ u) g t cs := h.far (p := ⟨b, i, none⟩) hp u
theorem Blk.below {B : Nat} (h : Blk w g t cs) (hb : Below B w w') (hg : g < B) : Blk w' g t cs := (hb.block g hg).trans h
theorem Blk.frm (h : Blk w g t cs) (hb : Frm S w w') (hg : g ∉ S) : Blk w' g t cs := (hb.block g h.lt hg).trans h
theorem Blk.eq {t' : TypeId} {cs' : Array Value} (h : Blk w g t cs) (h' : Blk w g t' cs') : t = t' ∧ cs = cs' := by
  unfold Blk at h h'
  rw [h] at h'
  simp at h'
  exact ⟨h'.2, h'.1⟩
theorem Blk.ne {g' : Nat} {t' : TypeId} {cs' : Array Value} (h : Blk w g t cs) (h' : Blk w g' t' cs') (hne : t ≠ t') : g ≠ g' := by
  rintro rfl
  exact hne (h.eq h').1
end

theorem Below.drewN {B : Nat} {a w : World} (h : Below B a w) (n : Nat) : Below B a (w.drewN n) := below_drewN h n
theorem below_then {B : Nat} {a w w' : World} (h : Below B a w) (k : Below w.heap.size w w') (hB : B ≤ a.heap.size) : Below B a w' := h.trans (k.mono (Nat.le_trans hB h.size))
/-- What was there reads as it did: the walk takes both as rules. -/
theorem oldCells {W w1 : World} (hb : Below W.heap.size W w1) : (∀ b o, b < W.heap.size → w1.cell? ⟨b, o, none⟩ = W.cell? ⟨b, o, none⟩) ∧ (∀ b o, b < W.heap.size → w1.frozen? ⟨b, o, none⟩ = W.frozen? ⟨b, o, none⟩) :=
  ⟨fun b o h => hb.cell (p := ⟨b, o, none⟩) h, fun b o h => hb.frozen (p := ⟨b, o, none⟩) h⟩

theorem run_make_rowN {P : Program} (t e : TypeId) (i : TypeInfo) (z : Value) (ht : P.underlying t = some (.slice e)) (hi : P.info? e = some i) (hz : i.zero = some z)
    (kl kc : IntKind) (n c : Nat) (hnc : n ≤ c) (hbytes : i.bytes * c ≤ 281474976710656) (h63 : c ≤ 9223372036854775807) (w : World) :
    (Instr.makeSlice t (.int kl (n : Int)) (.int kc (c : Int))).run P w = .ok (.slice (some ⟨w.heap.size, 0, none⟩) n c) (w.alloc (.cells (madeCells z.cells (c * i.size)) e)) := by
  have hb : (i.bytes : Int) * (c : Int) ≤ 281474976710656 := by
    have h : ((i.bytes * c : Nat) : Int) ≤ 281474976710656 := by omega
    rwa [Int.natCast_mul] at h
  have hr := run_make (P := P) w t e i z ht hi hz kl kc n c (by omega) (by omega) hb (by omega)
  simp only [Int.toNat_natCast] at hr
  exact hr
theorem made_get (z : Array Value) (n i : Nat) (h : i < n) (hz : 0 < z.size) : (madeCells z n)[i]? = z[i % z.size]? := by
  have hm : i % z.size < z.size := Nat.mod_lt _ hz
  simp [madeCells, h, hm]
/-- A type's row of the table. -/
theorem info_row {P : Program} {e : TypeId} {z : Value} {size bytes : Nat} (h : (P.info? e).map (fun i => (i.zero, i.size, i.bytes)) = some (some z, size, bytes)) : ∃ i, P.info? e = some i ∧ i.zero = some z ∧ i.size = size ∧ i.bytes = bytes := by
  cases hi : P.info? e with
  | none => rw [hi] at h; cases h
  | some i =>
    rw [hi] at h
    simp at h
    exact ⟨i, rfl, h.1, h.2.1, h.2.2⟩

theorem cell_lt {w : World} {b i : Nat} {v : Value} (h : w.cell? ⟨b, i, none⟩ = some v) : b < w.heap.size := by
  rcases Nat.lt_or_ge b w.heap.size with h1 | h1
  · exact h1
  · unfold World.cell? at h
    rw [Array.getElem?_eq_none h1] at h
    cases h
theorem take_snoc {α : Type} {l : List α} {i : Nat} {x : α} (h : l[i]? = some x) : l.take (i + 1) = l.take i ++ [x] := by
  obtain ⟨hi, rfl⟩ := List.getElem?_eq_some_iff.1 h
  exact List.take_succ_eq_append_getElem hi
/-- What a law's walk shows. -/
def TrueBelow (w : World) (e : Ending) (w' : World) : Prop := e = .returned (.bool true) ∧ Below w.heap.size w w'

/-- A slice of integers that came in: its elements; asked of below block B. -/
def Ints (k : IntKind) (w : World) (B : Nat) (a : Option Addr) (zs : List Int) : Prop :=
  ∀ (i : Nat) (z : Int), zs[i]? = some z → (Lit.int k z).wf = true ∧ ∃ b off, a = some ⟨b, off, none⟩ ∧ b < B ∧ w.cell? ⟨b, off + i, none⟩ = some (.int k z)
/-- Likewise of an unsigned kind, as numbers below M. -/
def Nats (k : IntKind) (M : Nat) (w : World) (B : Nat) (a : Option Addr) (zs : List Nat) : Prop :=
  ∀ (i : Nat) (z : Nat), zs[i]? = some z → z < M ∧ ∃ b off, a = some ⟨b, off, none⟩ ∧ b < B ∧ w.cell? ⟨b, off + i, none⟩ = some (.int k (z : Int))
theorem Ints.below {k : IntKind} {w w' : World} {B : Nat} {a : Option Addr} {zs : List Int} (h : Ints k w B a zs) (hb : Below B w w') : Ints k w' B a zs := fun i z hz => by
  obtain ⟨h1, b, off, h2, h3, h4⟩ := h i z hz
  exact ⟨h1, b, off, h2, h3, (hb.cell (p := ⟨b, off + i, none⟩) h3).trans h4⟩
theorem Nats.below {k : IntKind} {M : Nat} {w w' : World} {B : Nat} {a : Option Addr} {zs : List Nat} (h : Nats k M w B a zs) (hb : Below B w w') : Nats k M w' B a zs := fun i z hz => by
  obtain ⟨h1, b, off, h2, h3, h4⟩ := h i z hz
  exact ⟨h1, b, off, h2, h3, (hb.cell (p := ⟨b, off + i, none⟩) h3).trans h4⟩
theorem Nats.frm {k : IntKind} {M : Nat} {w w' : World} {B : Nat} {a : Option Addr} {zs : List Nat} {S : List Nat} (h : Nats k M w B a zs) (hb : Frm S w w') (hB : B ≤ w.heap.size) (hs : ∀ x, x ∈ S → B ≤ x) : Nats k M w' B a zs :=
  h.below (hb.below hB hs)

theorem own_frm {t : TypeId} {w w' : World} {base n size : Nat} {v : Value} {xs : List Value} {S : List Nat} (h : w.ownsRow base t size v n xs) (hf : Frm S w w') (hS : ∀ x, x ∈ S → x < base) : w'.ownsRow base t size v n xs := by
  refine ⟨h.1, ?_⟩
  rcases h.2 with h0 | ⟨g, cap, cur, hv, hg, hh, hc, hm, hs, ht⟩
  · exact .inl h0
  · exact .inr ⟨g, cap, cur, hv, hg, (hf.block g (Blk.lt (w := w) (t := t) (cs := cur) hh) (fun hx => by have := hS g hx; omega)).trans hh, hc, hm, hs, ht⟩
/-- A row of integers of the call's own reads as such. -/
theorem own_ints {k : IntKind} {t : TypeId} {w : World} {base n : Nat} {v : Value} {zs : List Int} (h : w.ownsRow base t 1 v n (zs.map (Value.int k))) (hw : ∀ z ∈ zs, (Lit.int k z).wf = true) :
    n = zs.length ∧ ∃ A c, v = .slice A n c ∧ n ≤ c ∧ Ints k w w.heap.size A zs ∧ ∀ ad : Addr, A = some ad → base ≤ ad.block := by
  have hn : n = zs.length := by have := h.1; simp at this; omega
  refine ⟨hn, ?_⟩
  rcases h.2 with ⟨rfl, h0⟩ | ⟨g, cap, cur, rfl, hg, hh, hc, hm, hs, ht⟩
  · refine ⟨none, 0, by rw [h0], by omega, fun i z hz => ?_, fun ad h => by cases h⟩
    have : zs = [] := List.eq_nil_of_length_eq_zero (by omega)
    rw [this] at hz; simp at hz
  · refine ⟨some ⟨g, 0, none⟩, cap, rfl, hc, fun i z hz => ⟨hw z (List.mem_of_getElem? hz), g, 0, rfl, ?_, ?_⟩, fun ad h => by cases h; exact hg⟩
    · exact Blk.lt (w := w) (t := t) (cs := cur) hh
    · have hi : i < zs.length := (List.getElem?_eq_some_iff.1 hz).1
      have := World.ownsRow.cellAt h i (by omega)
      rw [Nat.zero_add, this, List.getElem?_map, hz]
      rfl

/-- A literal slice of integers. -/
theorem ints_new {k : IntKind} {t : TypeId} (w : World) (zs : List Int) (cs : Array Value) (hcs : cs = (zs.map (Value.int k)).toArray) (hw : ∀ z ∈ zs, (Lit.int k z).wf = true) : Ints k (w.alloc (.cells cs t)) (w.heap.size + 1) (some ⟨w.heap.size, 0, none⟩) zs := fun i z hz => by
  refine ⟨hw z (List.mem_of_getElem? hz), w.heap.size, 0, rfl, by omega, ?_⟩
  rw [(Blk.new w t cs).cell, hcs]
  simp [hz]

theorem Nats.more {k : IntKind} {M : Nat} {w : World} {B B' : Nat} {a : Option Addr} {zs : List Nat} (h : Nats k M w B a zs) (hB : B ≤ B') : Nats k M w B' a zs := fun i z hz => by
  obtain ⟨h1, b, off, h2, h3, h4⟩ := h i z hz
  exact ⟨h1, b, off, h2, by omega, h4⟩
theorem Ints.more {k : IntKind} {w : World} {B B' : Nat} {a : Option Addr} {zs : List Int} (h : Ints k w B a zs) (hB : B ≤ B') : Ints k w B' a zs := fun i z hz => by
  obtain ⟨h1, b, off, h2, h3, h4⟩ := h i z hz
  exact ⟨h1, b, off, h2, by omega, h4⟩

/-- append onto a row of the call's own, the source a slice of one-cell elements, nil or not. -/
theorem wpList_append_src {P : Program} {w : World} {ops : Array Oper} {rest : List Oper} {o : Oper} {a : Act} {Q : Exit → Act → World → Prop} (hgd : o.guard = none) (s x : Operand) (t : TypeId)
    (ho : o.op = .call { callee := .builtin .append, args := #[s, x], argTypes := #[t, t] })
    (base : Nat) (e : TypeId) (i : TypeInfo) (z : Value) (bytes : Nat) (ht : P.underlying t = some (.slice e)) (hi : P.info? e = some i) (hz : i.zero = some z)
    (hsize : i.size = 1) (hby : i.bytes = bytes) (hzs : z.cells.size = 1)
    (v : Value) (n : Nat) (xs : List Value) (hs : a.eval s = v) (hown : w.ownsRow base e 1 v n xs)
    (A : Option Addr) (m c : Nat) (news : List Value) (hx : a.eval x = .slice A m c) (hl : news.length = m) (hsrc : ∀ (j : Nat) (u : Value), news[j]? = some u → ∃ ad, A = some ad ∧ w.cell? (ad.add j) = some u) (hnil : A = none → c = 0)
    (h1 : ∀ u ∈ news, u.oneCell' = true) (h63 : n + m ≤ maxLen) (hbytes : (n + m) * bytes ≤ 140737488355328) (hbase : base ≤ w.heap.size)
    (h : ∀ v' w', w'.ownsRow base e 1 v' (n + m) (xs ++ news) → w.grownBy w' v.ownBlock → (v'.ownBlock = v.ownBlock ∨ v'.ownBlock = some w.heap.size) → wpList P ops Q rest (a.put o.dst v') w') : wpList P ops Q (o :: rest) a w := by
  cases A with
  | none =>
    have hm : news = [] := by
      cases news with
      | nil => rfl
      | cons u us => obtain ⟨ad, h, _⟩ := hsrc 0 u rfl; cases h
    subst hm
    have hm0 : m = 0 := by simpa using hl.symm
    subst hm0
    have hc := hnil rfl
    subst hc
    exact wpList_append_own_none hgd s x t ho base e i 1 ht hi v n xs hs hown hx (h v w (by simpa using hown) (World.grownBy.refl w _) (.inl rfl))
  | some ad =>
    exact wpList_append_own_at w hgd s x t ho base e i z 1 bytes ht hi hz hsize hby hzs (by decide) v n xs hs hown ad m c news hx (by omega) (fun j u hu => by obtain ⟨ad', h, hc⟩ := hsrc j u hu; cases h; exact hc) h1 h63 hbytes hbase (fun v' w' h2 h3 _ h5 => h v' w' h2 h3 h5)
theorem nats_src {k : IntKind} {M : Nat} {w : World} {B : Nat} {A : Option Addr} {zs : List Nat} (h : Nats k M w B A zs) : ∀ (j : Nat) (u : Value), (zs.map fun x => Value.int k ((x : Nat) : Int))[j]? = some u → ∃ ad, A = some ad ∧ w.cell? (ad.add j) = some u := fun j u hu => by
  rw [List.getElem?_map] at hu
  cases hz : zs[j]? with
  | none => rw [hz] at hu; cases hu
  | some x =>
    rw [hz] at hu
    obtain rfl := Option.some.inj hu
    obtain ⟨_, b, off, rfl, _, hc⟩ := h j x hz
    exact ⟨_, rfl, by rw [Go.WideShapes.add_plain]; exact hc⟩
theorem Nats.take {k : IntKind} {M : Nat} {w : World} {B : Nat} {A : Option Addr} {zs : List Nat} (h : Nats k M w B A zs) (n : Nat) : Nats k M w B A (zs.take n) := fun i z hz => by
  rw [List.getElem?_take] at hz
  split at hz
  · exact h i z hz
  · cases hz

theorem Below.frm' {w w' : World} (h : Below w.heap.size w w') : Frm [] w w' := Frm.of_below h

/-- The end of a law's row, where of the world behind the call 'Below' alone is known. -/
theorem law_post {H : Type} {enc : TypeId × Value → H} {P : Program} {f : Func} {s : ChangeSpec} {apart fresh handsOn again : Bool} {W W' : World} {args : Array Value} {v : Value} {ds gs : List (DataW H)} {before pa pv : List MemPlace}
    (hW : DataW.Whole enc P f.params.toList s.vars apart W args.toList ds gs before)
    (hres : ∀ (b : Nat) (sp : Nat → Bool) (hd : Bool), DataW.TrodAll enc P W' b sp hd f.resultTypes.toList (v.resultList f.resultTypes.size) (s.fn H (ds ++ gs)).results [])
    (hargs : ∀ sp : Nat → Bool, (∀ p ∈ before, sp p.block = true) → DataW.TrodAll enc P W' 0 sp true f.params.toList args.toList (s.fn H (ds ++ gs)).args pa)
    (hvars : ∀ sp : Nat → Bool, (∀ p ∈ before, sp p.block = true) → DataW.TrodVars enc P W' sp s.vars (s.fn H (ds ++ gs)).vars pv)
    (hps : before = pa ++ pv) (hb : Below W.heap.size W W')
    (hok : ∀ (j : Nat) (t : TypeId) (r : Value), f.resultTypes[j]? = some t → (v.resultList f.resultTypes.size)[j]? = some r → Value.okWide P W' .any 0 t r) :
    s.post enc P f apart fresh handsOn again W args v W' := by
  have hlt : ∀ p ∈ before, p.block < W.heap.size := fun p hp => hW.lt p hp
  have hold : ∀ p ∈ before, (fun b => decide (b < W.heap.size)) p.block = true := fun p hp => by simpa using hlt p hp
  refine ⟨ds, gs, before, [], pa, pv, hW, hres _ _ _, hargs _ hold, hvars _ hold, World.keptBut_mono (fun p hp => ⟨hp, ?_⟩) (hb.frame (· ∈ before)), fun _ => ?_⟩
  · rw [hps, List.mem_append] at hp
    exact Or.inr hp
  · obtain ⟨_, _, _, _, _, hz, hn⟩ := hW
    refine ⟨hok, _, _, ([] ++ pa) ++ pv, ⟨[] ++ pa, pv, Go.ChangeShapes.trodAll_append (hargs _ (fun _ _ => rfl)) (hres _ _ _), hvars _ (fun _ _ => rfl), rfl, ?_, ?_⟩, ?_⟩
    · intro b off hp
      have hin : MemPlace.cell b off ∈ before := by rw [hps]; simpa using hp
      rw [hb.frozen (hlt _ hin)]
      exact hz b off hin
    · intro ha
      have := hn ha
      rw [hps] at this
      simpa using this
    · intro p hp _
      rw [hps]
      simpa using hp

end Go.Proofs.YtpakdcgcgekcfaaDoor

/-
  What a law's arguments read as: 'flat' types (whose cells are all integers or bools), by value and as elements of a slice; and that all arguments read behind the call as they did. No program in sight.
-/
set_option linter.unusedSimpArgs false
set_option linter.unusedVariables false
namespace Go.Proofs.YtpakdcgcgekcfaaDoor
open Go.RowKit

/-- A cell's kind: an integer's, or none: a bool. -/
def fit1 : Option IntKind → Value → Prop
  | none, v => ∃ b, v = .bool b
  | some k, v => ∃ n, v = .int k n ∧ (Lit.int k n).wf = true
def Fits : List (Option IntKind) → List Value → Prop
  | [], [] => True
  | k :: ks, v :: vs => fit1 k v ∧ Fits ks vs
  | _, _ => False

theorem Fits.append : ∀ {a b : List (Option IntKind)} {x y : List Value}, Fits a x → Fits b y → Fits (a ++ b) (x ++ y)
  | [], _, [], _, _, h => h
  | _ :: _, _, _ :: _, _, h, h' => ⟨h.1, Fits.append h.2 h'⟩
theorem Fits.length : ∀ {a : List (Option IntKind)} {x : List Value}, Fits a x → x.length = a.length
  | [], [], _ => rfl
  | _ :: _, _ :: _, h => by simp [Fits.length h.2]
theorem Fits.cons {k : Option IntKind} {ks : List (Option IntKind)} {l : List Value} (h : Fits (k :: ks) l) : ∃ v vs, l = v :: vs ∧ fit1 k v ∧ Fits ks vs := by
  cases l with
  | nil => exact h.elim
  | cons v vs => exact ⟨v, vs, rfl, h.1, h.2⟩
theorem Fits.nil {l : List Value} (h : Fits [] l) : l = [] := by
  cases l with
  | nil => rfl
  | cons v vs => exact h.elim
theorem Fits.get : ∀ {a : List (Option IntKind)} {x : List Value}, Fits a x → ∀ (i : Nat) (k : Option IntKind), a[i]? = some k → ∃ v, x[i]? = some v ∧ fit1 k v
  | _ :: _, _ :: _, h, 0, _, hk => by simp at hk; subst hk; exact ⟨_, rfl, h.1⟩
  | _ :: _, _ :: _, h, i + 1, k, hk => by simpa using Fits.get h.2 i k (by simpa using hk)
theorem Fits.flatten : ∀ {l : List (List (Option IntKind))} {cs : List Value}, cs.length = l.flatten.length →
    (∀ (i : Nat) (a : List (Option IntKind)), l[i]? = some a → Fits a ((cs.drop (l.take i).flatten.length).take a.length)) → Fits l.flatten cs
  | [], cs, hl, _ => by
    obtain rfl : cs = [] := List.eq_nil_of_length_eq_zero (by simpa using hl)
    trivial
  | a :: l, cs, hl, h => by
    have h0 := h 0 a rfl
    simp at h0
    have ih := Fits.flatten (l := l) (cs := cs.drop a.length) (by simp at hl ⊢; omega) (fun i b hb => by
      have := h (i + 1) b (by simpa using hb)
      simpa [List.drop_drop] using this)
    have := h0.append ih
    simpa using this
theorem Fits.all_int : ∀ {k : IntKind} {n : Nat} {x : List Value}, Fits (List.replicate n (some k)) x → ∃ zs : List Int, x = zs.map (.int k) ∧ zs.length = n ∧ ∀ z ∈ zs, (Lit.int k z).wf = true
  | k, 0, [], _ => ⟨[], rfl, rfl, by simp⟩
  | k, n + 1, v :: vs, h => by
    obtain ⟨⟨z, rfl, hz⟩, h2⟩ := h
    obtain ⟨zs, rfl, hl, hw⟩ := Fits.all_int h2
    exact ⟨z :: zs, rfl, by simp [hl], by simpa using ⟨hz, hw⟩⟩

/-- The kinds of a type's cells, where they are all integers or bools. -/
def flat (P : Program) : Nat → TypeId → Option (List (Option IntKind))
  | 0, _ => none
  | m + 1, t => match P.underlying t with
    | some .bool => some [none]
    | some (.int k) => some [some k]
    | some (.struct fs) => match fs.toList.mapM (fun f => flat P m f.type) with
      | some l => if l.flatten.length = P.cellsOf t ∧ ((List.range fs.size).all fun i => match fs[i]?, l[i]? with | some f, some a => f.offset == (l.take i).flatten.length && a.length == P.cellsOf f.type | _, _ => false) = true then some l.flatten else none
      | none => none
    | some (.array n e) => match flat P m e with
      | some a => if a.length = P.cellsOf e ∧ n * a.length = P.cellsOf t then some (List.replicate n a).flatten else none
      | none => none
    | _ => none

theorem flatten_replicate_len {α : Type} (a : List α) : ∀ n, (List.replicate n a).flatten.length = n * a.length
  | 0 => by simp
  | n + 1 => by simp

section
variable {H : Type} {enc : TypeId × Value → H} {P : Program} {w : World} {base : Nat} {spare : Nat → Bool} {held : Bool}
theorem flat_fits : ∀ {m : Nat} {t : TypeId} {ks : List (Option IntKind)} {fuel : Nat} {cs : List Value} {x : DataW H × List MemPlace},
    flat P m t = some ks → DataW.trod enc P w base spare held fuel t cs = some x → Fits ks cs := by
  intro m
  induction m with
  | zero => intro t ks fuel cs x h; simp [flat] at h
  | succ m ih =>
    intro t ks fuel cs x h hx
    unfold flat at h
    split at h
    · rename_i ht
      cases h
      cases fuel with
      | zero => simp [DataW.trod] at hx
      | succ n =>
        unfold DataW.trod at hx
        rw [ht] at hx
        split at hx <;> simp_all [Fits, fit1]
    · rename_i k ht
      cases h
      cases fuel with
      | zero => simp [DataW.trod] at hx
      | succ n =>
        unfold DataW.trod at hx
        rw [ht] at hx
        split at hx <;> simp_all [Fits, fit1]
    · rename_i fs ht
      obtain ⟨xs, n, _, _, hlen, _, hf⟩ := DataW.trod_struct ht hx
      split at h
      · rename_i l hl
        split at h
        · rename_i hc
          cases h
          refine Fits.flatten (by rw [hlen, hc.1]) (fun i a ha => ?_)
          have hi : i < l.length := (List.getElem?_eq_some_iff.1 ha).1
          have hif : i < fs.size := by have := mapM_some_length hl; simp at this; omega
          have hfi : fs[i]? = some fs[i] := Array.getElem?_eq_getElem hif
          have hall := List.all_eq_true.1 hc.2 i (by simpa using hif)
          rw [hfi, ha] at hall
          simp only [Bool.and_eq_true, beq_iff_eq] at hall
          have hfl := mapM_some_get hl i fs[i] (by simp [hfi])
          rw [ha] at hfl
          have ht' := hf i fs[i] hfi
          rw [hall.1, ← hall.2] at ht'
          have hxi : i < xs.length := by omega
          rw [List.getElem?_eq_getElem hxi] at ht'
          exact ih hfl ht'
        · cases h
      · cases h
    · rename_i k e ht
      obtain ⟨xs, n, _, _, hlen, hxl, hf⟩ := DataW.trod_array ht hx
      split at h
      · rename_i a ha
        split at h
        · rename_i hc
          cases h
          refine Fits.flatten (by rw [hlen, flatten_replicate_len, hc.2]) (fun i b hb => ?_)
          obtain ⟨hi, rfl⟩ := List.getElem?_eq_some_iff.1 hb
          have hik : i < k := by simpa using hi
          have ht' := hf i hik
          rw [List.getElem?_eq_getElem (by omega)] at ht'
          have hb2 : (List.replicate k a)[i] = a := by simp
          rw [hb2, List.take_replicate, flatten_replicate_len, Nat.min_eq_left (by omega), hc.1]
          exact ih ha ht'
        · cases h
      · cases h
    · cases h

/-- A slice of flat elements that came in: nil, or a row of 'cap' elements of 'size' cells (the first 'len' are its own, the rest spare). -/
def RowsOf (w : World) (size : Nat) (ks : List (Option IntKind)) (a : Option Addr) (len cap : Nat) (rows : List (List Value)) : Prop :=
  (a = none ∧ len = 0 ∧ cap = 0 ∧ rows = []) ∨
  ∃ x, a = some x ∧ len ≤ cap ∧ cap ≤ maxLen ∧ rows.length = cap ∧ ∀ (i : Nat) (r : List Value), rows[i]? = some r → Fits ks r ∧ ∀ (j : Nat) (v : Value), r[j]? = some v → w.cell? (x.add (i * size + j)) = some v

theorem rows_ints {w : World} {k : IntKind} {a : Option Addr} {len cap : Nat} {rows : List (List Value)} (h : RowsOf w 1 [some k] a len cap rows) : ∃ zs : List Int, zs.length = len ∧ len ≤ cap ∧ cap ≤ maxLen ∧ Ints k w w.heap.size a zs := by
  rcases h with ⟨rfl, rfl, rfl, rfl⟩ | ⟨x, rfl, hl, hm, hr, hx⟩
  · exact ⟨[], rfl, Nat.le_refl _, Nat.zero_le _, fun i z hz => by simp at hz⟩
  · have hone : ∀ i, i < cap → ∃ z : Int, (Lit.int k z).wf = true ∧ w.cell? (x.add i) = some (.int k z) := fun i hi => by
      obtain ⟨hf, hc⟩ := hx i (rows[i]'(by omega)) (List.getElem?_eq_getElem _)
      obtain ⟨v, vs, e, ⟨z, rfl, hz⟩, _⟩ := Fits.cons hf
      have := hc 0 (.int k z) (by rw [e]; rfl)
      exact ⟨z, hz, by simpa using this⟩
    have hone' : ∀ i, ∃ z : Int, i < cap → (Lit.int k z).wf = true ∧ w.cell? (x.add i) = some (.int k z) := fun i => by
      rcases Nat.lt_or_ge i cap with h | h
      · obtain ⟨z, hz⟩ := hone i h
        exact ⟨z, fun _ => hz⟩
      · exact ⟨0, fun h' => absurd h' (by omega)⟩
    obtain ⟨f, hf⟩ : ∃ f : Nat → Int, ∀ i, i < cap → (Lit.int k (f i)).wf = true ∧ w.cell? (x.add i) = some (.int k (f i)) := ⟨fun i => Classical.choose (hone' i), fun i => Classical.choose_spec (hone' i)⟩
    refine ⟨(List.range len).map f, by simp, hl, hm, fun i z hz => ?_⟩
    have hi : i < len := by have := (List.getElem?_eq_some_iff.1 hz).1; simpa using this
    rw [List.getElem?_map, List.getElem?_range hi] at hz
    obtain rfl := Option.some.inj hz
    obtain ⟨h1, h2⟩ := hf i (by omega)
    obtain ⟨_, h20⟩ := hf 0 (by omega)
    obtain ⟨b, off, spot⟩ := x
    have hspot : spot = none := by simpa [Addr.add] using World.cell?_spot h20
    subst hspot
    rw [Go.WideShapes.add_plain] at h2
    exact ⟨h1, b, off, rfl, cell_lt h2, h2⟩
theorem ints_nats {k : IntKind} {w : World} {B M : Nat} {a : Option Addr} {zs : List Int} (hM : ∀ z : Int, (Lit.int k z).wf = true → 0 ≤ z ∧ z < M) (h : Ints k w B a zs) : Nats k M w B a (zs.map Int.toNat) := fun i z hz => by
  rw [List.getElem?_map] at hz
  cases hzi : zs[i]? with
  | none => rw [hzi] at hz; cases hz
  | some y =>
    rw [hzi] at hz
    obtain rfl := Option.some.inj hz
    obtain ⟨h1, b, off, h2, h3, h4⟩ := h i y hzi
    obtain ⟨h5, h6⟩ := hM y h1
    exact ⟨by omega, b, off, h2, h3, by rw [h4, Int.toNat_of_nonneg h5]⟩

theorem open_flat {r : Reach} {b0 : Nat} {t : TypeId} {m : Nat} {ks : List (Option IntKind)} {v : Value} {d : DataW H} {p : List MemPlace} (hfl : flat P m t = some ks) (hs : (∃ fs, P.underlying t = some (.struct fs)) ∨ ∃ n e, P.underlying t = some (.array n e))
    (hv : Value.okWide P w r b0 t v) (h : DataW.Trod enc P w base spare held t v d p) : ∃ cs, v = .agg cs ∧ Fits ks cs.toList := by
  obtain ⟨cs, rfl⟩ : ∃ cs, v = .agg cs := by
    rcases hs with ⟨fs, hs⟩ | ⟨n, e, hs⟩
    · obtain ⟨cs, h, _⟩ := WideShapes.okWide_struct hs hv; exact ⟨cs, h⟩
    · simp only [Value.okWide, hs] at hv
      obtain ⟨cs, h, _⟩ := hv
      exact ⟨cs, h⟩
  obtain ⟨fuel, hf⟩ := h
  exact ⟨cs, rfl, flat_fits hfl (by simpa [Value.cells] using hf)⟩

theorem open_rows {t e : TypeId} {m fuel size : Nat} {ks : List (Option IntKind)} {a : Option Addr} {len cap : Nat} {x : DataW H × List MemPlace} (ht : P.underlying t = some (.slice e)) (hfl : flat P m e = some ks) (hsz : P.cellsOf e = size)
    (h : DataW.trod enc P w base (fun _ => true) held fuel t [.slice a len cap] = some x) : ∃ rows, RowsOf w size ks a len cap rows := by
  rcases Go.Deep.open_slice ht h with ⟨h0, _⟩ | ⟨a', len', cap', mm, n, D, Pl, hcs, _, hl, hm, hmm, _, hi⟩
  · simp at h0
    obtain ⟨rfl, rfl, rfl⟩ := h0
    exact ⟨[], .inl ⟨rfl, rfl, rfl, rfl⟩⟩
  · simp at hcs
    obtain ⟨rfl, rfl, rfl⟩ := hcs
    simp at hmm
    subst hmm
    have hex : ∀ i, ∃ r, i < mm → (Fits ks r ∧ ∀ (j : Nat) (v : Value), r[j]? = some v → w.cell? (a'.add (i * size + j)) = some v) := fun i => by
      rcases Nat.lt_or_ge i mm with hlt | hge
      · obtain ⟨cs', hc, ht'⟩ := hi i hlt
        obtain ⟨_, hcl, hat⟩ := World.cells?_some hc
        refine ⟨cs', fun _ => ⟨flat_fits hfl ht', fun j v hv => ?_⟩⟩
        have hj : j < cs'.length := (List.getElem?_eq_some_iff.1 hv).1
        have h2 := hat j (by omega)
        rw [Go.Deep.add_add] at h2
        rw [hsz] at h2
        rw [h2, hv]
      · exact ⟨[], fun h => absurd h (by omega)⟩
    refine ⟨(List.range mm).map fun i => Classical.choose (hex i), .inr ⟨a', rfl, hl, hm, by simp, fun i r hr => ?_⟩⟩
    have hlt : i < mm := by have := (List.getElem?_eq_some_iff.1 hr).1; simpa using this
    have hr' : r = Classical.choose (hex i) := by
      rw [List.getElem?_map, List.getElem?_range hlt] at hr
      exact (Option.some.inj hr).symm
    rw [hr']
    exact Classical.choose_spec (hex i) hlt

theorem trodAll_below (hl : laidOutB P = true) {W W' : World} (hb : Below W.heap.size W W') : ∀ {ts : List TypeId} {vs : List Value} {ds : List (DataW H)} {ps : List MemPlace},
    (ts.all fun t => P.readableRec t && decide (t < P.types.size)) = true → DataW.TrodAll enc P W 0 (fun _ => true) true ts vs ds ps → DataW.TrodAll enc P W' 0 (fun b => decide (b < W.heap.size)) true ts vs ds ps
  | [], vs, ds, ps, _, h => by
    cases vs with
    | nil => cases ds with
      | nil => exact h
      | cons _ _ => simp [DataW.TrodAll] at h
    | cons _ _ => simp [DataW.TrodAll] at h
  | t :: ts, vs, ds, ps, ha, h => by
    simp only [List.all_cons, Bool.and_eq_true, decide_eq_true_eq] at ha
    obtain ⟨v, vs', d, ds', p, q, rfl, rfl, rfl, h0, h1⟩ := ChangeShapes.trodAll_cons h
    have lt0 : ∀ x ∈ p, x.block < W.heap.size := by obtain ⟨m, hm⟩ := h0; exact DataW.trod_lt m _ _ _ hm
    exact trodAll_cons_mk (Below.trod hl ha.1.1 ha.1.2 h0 hb lt0) (trodAll_below hl hb ha.2 h1)

/-- A law's end: true, and nothing that was there has turned. -/
theorem law_end {fn : Func} {s : ChangeSpec} {tb : TypeId} {W W' : World} {args : Array Value} {ds gs : List (DataW H)} {before : List MemPlace} {e : Ending} (hl : laidOutB P = true)
    (hts : (fn.params.toList.all fun t => P.readableRec t && decide (t < P.types.size)) = true) (hW : DataW.Whole enc P fn.params.toList s.vars false W args.toList ds gs before) (hvars : s.vars = [])
    (hres : fn.resultTypes = #[tb]) (htb : P.underlying tb = some .bool) (hspec : gs = [] → (s.fn H (ds ++ gs)) = { results := [.lit (.bool true)], args := ds }) (he : e = .returned (.bool true)) (hb : Below W.heap.size W W') :
    ∃ v, e = .returned v ∧ s.post enc P fn false true false false W args v W' := by
  have hW' := hW
  obtain ⟨p, q, hA, hV, hpq, hfz, hnd⟩ := hW
  rw [hvars] at hV
  obtain ⟨rfl, rfl⟩ := ChangeShapes.trodVars_none hV
  have hs := hspec rfl
  refine ⟨_, he, ds, [], before, [], p, [], hW', ?_, ?_, ?_, hb.frame _, fun h => by cases h⟩
  · rw [hs, hres]
    exact ChangeShapes.trodAll_mk1 (RowKit.shut_bool htb true)
  · rw [hs]
    exact trodAll_below hl hb hts hA
  · rw [hvars, hs]
    rfl
end
end Go.Proofs.YtpakdcgcgekcfaaDoor

/-
  What a law's arguments read as, wider: types whose cells are integers, bools, strings and slices of integers; slices of such. No program in sight.
-/
set_option linter.unusedSimpArgs false
set_option linter.unusedVariables false
namespace Go.Proofs.YtpakdcgcgekcfaaDoor
open Go.RowKit

/-- A cell's kind. -/
inductive Kd where
  | bool
  | int (k : IntKind)
  | str
  | sl (k : IntKind)
def fitW (w : World) : Kd → Value → Prop
  | .bool, v => ∃ b, v = .bool b
  | .int k, v => ∃ n, v = .int k n ∧ (Lit.int k n).wf = true
  | .str, v => ∃ s : ByteArray, v = .string s ∧ s.size ≤ maxLen
  | .sl k, v => ∃ (a : Option Addr) (len cap : Nat) (zs : List Int), v = .slice a len cap ∧ zs.length = len ∧ len ≤ cap ∧ cap ≤ maxLen ∧ Ints k w w.heap.size a zs
def FitsW (w : World) : List Kd → List Value → Prop
  | [], [] => True
  | k :: ks, v :: vs => fitW w k v ∧ FitsW w ks vs
  | _, _ => False
theorem FitsW.append {w : World} : ∀ {a b : List Kd} {x y : List Value}, FitsW w a x → FitsW w b y → FitsW w (a ++ b) (x ++ y)
  | [], _, [], _, _, h => h
  | _ :: _, _, _ :: _, _, h, h' => ⟨h.1, FitsW.append h.2 h'⟩
theorem FitsW.cons {w : World} {k : Kd} {ks : List Kd} {l : List Value} (h : FitsW w (k :: ks) l) : ∃ v vs, l = v :: vs ∧ fitW w k v ∧ FitsW w ks vs := by
  cases l with
  | nil => exact h.elim
  | cons v vs => exact ⟨v, vs, rfl, h.1, h.2⟩
theorem FitsW.nil {w : World} {l : List Value} (h : FitsW w [] l) : l = [] := by
  cases l with
  | nil => rfl
  | cons v vs => exact h.elim
theorem FitsW.split {w : World} : ∀ {a b : List Kd} {x : List Value}, FitsW w (a ++ b) x → ∃ y z, x = y ++ z ∧ FitsW w a y ∧ FitsW w b z
  | [], _, x, h => ⟨[], x, rfl, trivial, h⟩
  | k :: a, b, v :: x, h => by
    obtain ⟨y, z, rfl, h1, h2⟩ := FitsW.split (a := a) (b := b) h.2
    exact ⟨v :: y, z, rfl, ⟨h.1, h1⟩, h2⟩
theorem FitsW.all_int {w : World} : ∀ {k : IntKind} {n : Nat} {x : List Value}, FitsW w (List.replicate n (.int k)) x → ∃ zs : List Int, x = zs.map (.int k) ∧ zs.length = n ∧ ∀ z ∈ zs, (Lit.int k z).wf = true
  | k, 0, [], _ => ⟨[], rfl, rfl, by simp⟩
  | k, n + 1, v :: vs, h => by
    obtain ⟨⟨z, rfl, hz⟩, h2⟩ := h
    obtain ⟨zs, rfl, hl, hw⟩ := FitsW.all_int h2
    exact ⟨z :: zs, rfl, by simp [hl], by simpa using ⟨hz, hw⟩⟩
theorem FitsW.flatten {w : World} : ∀ {l : List (List Kd)} {cs : List Value}, cs.length = l.flatten.length →
    (∀ (i : Nat) (a : List Kd), l[i]? = some a → FitsW w a ((cs.drop (l.take i).flatten.length).take a.length)) → FitsW w l.flatten cs
  | [], cs, hl, _ => by
    obtain rfl : cs = [] := List.eq_nil_of_length_eq_zero (by simpa using hl)
    trivial
  | a :: l, cs, hl, h => by
    have h0 := h 0 a rfl
    simp at h0
    have ih := FitsW.flatten (w := w) (l := l) (cs := cs.drop a.length) (by simp at hl ⊢; omega) (fun i b hb => by
      have := h (i + 1) b (by simpa using hb)
      simpa [List.drop_drop] using this)
    have := h0.append ih
    simpa using this
/-- The kinds of a type's cells. -/
def flatW (P : Program) : Nat → TypeId → Option (List Kd)
  | 0, _ => none
  | m + 1, t => match P.underlying t with
    | some .bool => some [.bool]
    | some (.int k) => some [.int k]
    | some .string => some [.str]
    | some (.slice e) => match P.underlying e with
      | some (.int k) => if P.cellsOf e = 1 then some [.sl k] else none
      | _ => none
    | some (.struct fs) => match fs.toList.mapM (fun f => flatW P m f.type) with
      | some l => if l.flatten.length = P.cellsOf t ∧ ((List.range fs.size).all fun i => match fs[i]?, l[i]? with | some f, some a => f.offset == (l.take i).flatten.length && a.length == P.cellsOf f.type | _, _ => false) = true then some l.flatten else none
      | none => none
    | some (.array n e) => match flatW P m e with
      | some a => if a.length = P.cellsOf e ∧ n * a.length = P.cellsOf t then some (List.replicate n a).flatten else none
      | none => none
    | _ => none
section
variable {H : Type} {enc : TypeId × Value → H} {P : Program} {w : World} {base : Nat} {held : Bool}
theorem flatW_fits : ∀ {m : Nat} {t : TypeId} {ks : List Kd} {fuel : Nat} {cs : List Value} {x : DataW H × List MemPlace},
    flatW P m t = some ks → DataW.trod enc P w base (fun _ => true) held fuel t cs = some x → FitsW w ks cs := by
  intro m
  induction m with
  | zero => intro t ks fuel cs x h; simp [flatW] at h
  | succ m ih =>
    intro t ks fuel cs x h hx
    unfold flatW at h
    split at h
    · rename_i ht
      cases h
      cases fuel with
      | zero => simp [DataW.trod] at hx
      | succ n =>
        unfold DataW.trod at hx
        rw [ht] at hx
        split at hx <;> simp_all [FitsW, fitW]
    · rename_i k ht
      cases h
      cases fuel with
      | zero => simp [DataW.trod] at hx
      | succ n =>
        unfold DataW.trod at hx
        rw [ht] at hx
        split at hx <;> simp_all [FitsW, fitW]
    · rename_i ht
      cases h
      obtain ⟨s, rfl, rfl, hw⟩ := DataW.trod_string ht hx
      exact ⟨⟨s, rfl, hw⟩, trivial⟩
    · rename_i e ht
      split at h
      · rename_i k he
        split at h
        · rename_i hc
          cases h
          have hfl : flat P 1 e = some [some k] := by simp [flat, he]
          have hcs : ∃ a len cap, cs = [.slice a len cap] := by
            rcases Go.Deep.open_slice ht hx with ⟨h0, _⟩ | ⟨a', len', cap', mm, n, D, Pl, hcs, _⟩
            · exact ⟨_, _, _, h0⟩
            · exact ⟨_, _, _, hcs⟩
          obtain ⟨a, len, cap, rfl⟩ := hcs
          obtain ⟨rows, hr⟩ := open_rows ht hfl hc hx
          obtain ⟨zs, h1, h2, h3, h4⟩ := rows_ints hr
          exact ⟨⟨a, len, cap, zs, rfl, h1, h2, h3, h4⟩, trivial⟩
        · cases h
      · cases h
    · rename_i fs ht
      obtain ⟨xs, n, _, _, hlen, _, hf⟩ := DataW.trod_struct ht hx
      split at h
      · rename_i l hl
        split at h
        · rename_i hc
          cases h
          refine FitsW.flatten (by rw [hlen, hc.1]) (fun i a ha => ?_)
          have hi : i < l.length := (List.getElem?_eq_some_iff.1 ha).1
          have hif : i < fs.size := by have := mapM_some_length hl; simp at this; omega
          have hfi : fs[i]? = some fs[i] := Array.getElem?_eq_getElem hif
          have hall := List.all_eq_true.1 hc.2 i (by simpa using hif)
          rw [hfi, ha] at hall
          simp only [Bool.and_eq_true, beq_iff_eq] at hall
          have hfl := mapM_some_get hl i fs[i] (by simp [hfi])
          rw [ha] at hfl
          have ht' := hf i fs[i] hfi
          rw [hall.1, ← hall.2] at ht'
          have hxi : i < xs.length := by omega
          rw [List.getElem?_eq_getElem hxi] at ht'
          exact ih hfl ht'
        · cases h
      · cases h
    · rename_i k e ht
      obtain ⟨xs, n, _, _, hlen, hxl, hf⟩ := DataW.trod_array ht hx
      split at h
      · rename_i a ha
        split at h
        · rename_i hc
          cases h
          have hrl : ∀ n, (List.replicate n a).flatten.length = n * a.length := flatten_replicate_len a
          refine FitsW.flatten (by rw [hlen, hrl, hc.2]) (fun i b hb => ?_)
          obtain ⟨hi, rfl⟩ := List.getElem?_eq_some_iff.1 hb
          have hik : i < k := by simpa using hi
          have ht' := hf i hik
          rw [List.getElem?_eq_getElem (by omega)] at ht'
          have hb2 : (List.replicate k a)[i] = a := by simp
          rw [hb2, List.take_replicate, hrl, Nat.min_eq_left (by omega), hc.1]
          exact ih ha ht'
        · cases h
      · cases h
    · cases h
/-- A slice of such elements that came in. -/
def RowsW (w : World) (size : Nat) (ks : List Kd) (a : Option Addr) (len cap : Nat) (rows : List (List Value)) : Prop :=
  rows.length = len ∧ len ≤ cap ∧ cap ≤ maxLen ∧ ∀ (i : Nat) (r : List Value), rows[i]? = some r → FitsW w ks r ∧ ∃ b off, a = some ⟨b, off, none⟩ ∧ ∀ (j : Nat) (v : Value), r[j]? = some v → b < w.heap.size ∧ w.cell? ⟨b, off + (i * size + j), none⟩ = some v
theorem open_rowsW {t e : TypeId} {m fuel size : Nat} {ks : List Kd} {a : Option Addr} {len cap : Nat} {x : DataW H × List MemPlace} (ht : P.underlying t = some (.slice e)) (hfl : flatW P m e = some ks) (hsz : P.cellsOf e = size) (hne : ks ≠ [])
    (h : DataW.trod enc P w base (fun _ => true) held fuel t [.slice a len cap] = some x) : ∃ rows, RowsW w size ks a len cap rows := by
  rcases Go.Deep.open_slice ht h with ⟨h0, _⟩ | ⟨a', len', cap', mm, n, D, Pl, hcs, _, hl, hm, hmm, _, hi⟩
  · simp at h0
    obtain ⟨rfl, rfl, rfl⟩ := h0
    exact ⟨[], rfl, Nat.le_refl _, Nat.zero_le _, fun i r hr => by simp at hr⟩
  · simp at hcs
    obtain ⟨rfl, rfl, rfl⟩ := hcs
    simp at hmm
    subst hmm
    have hex : ∀ i, ∃ r, i < mm → (FitsW w ks r ∧ ∀ (j : Nat) (v : Value), r[j]? = some v → w.cell? (a'.add (i * size + j)) = some v) := fun i => by
      rcases Nat.lt_or_ge i mm with hlt | hge
      · obtain ⟨cs', hc, ht'⟩ := hi i hlt
        obtain ⟨_, hcl, hat⟩ := World.cells?_some hc
        refine ⟨cs', fun _ => ⟨flatW_fits hfl ht', fun j v hv => ?_⟩⟩
        have hj : j < cs'.length := (List.getElem?_eq_some_iff.1 hv).1
        have h2 := hat j (by omega)
        rw [Go.Deep.add_add] at h2
        rw [hsz] at h2
        rw [h2, hv]
      · exact ⟨[], fun h => absurd h (by omega)⟩
    have hfirst : ∀ {r : List Value}, FitsW w ks r → ∃ v0, r[0]? = some v0 := fun {r} h1 => by
      match ks, hne, h1 with
      | k :: ks', _, h1 =>
        obtain ⟨v, vs, e, _⟩ := FitsW.cons h1
        exact ⟨v, by rw [e]; rfl⟩
    have hspot : 0 < mm → a'.spot = none := fun h0 => by
      obtain ⟨r, hr⟩ := hex 0
      obtain ⟨h1, h2⟩ := hr h0
      obtain ⟨v0, hv0⟩ := hfirst h1
      have h20 := h2 0 v0 hv0
      have := World.cell?_spot h20
      simpa [Addr.add] using this
    refine ⟨(List.range len).map fun i => Classical.choose (hex i), by simp, hl, hm, fun i r hr => ?_⟩
    have hlt : i < len := by have := (List.getElem?_eq_some_iff.1 hr).1; simpa using this
    have hr' : r = Classical.choose (hex i) := by
      rw [List.getElem?_map, List.getElem?_range hlt] at hr
      exact (Option.some.inj hr).symm
    rw [hr']
    obtain ⟨h1, h2⟩ := Classical.choose_spec (hex i) (by omega)
    refine ⟨h1, ?_⟩
    have hsp := hspot (by omega)
    obtain ⟨b, off, spot⟩ := a'
    simp only at hsp
    subst hsp
    refine ⟨b, off, rfl, fun j v hv => ?_⟩
    have := h2 j v hv
    rw [Go.WideShapes.add_plain] at this
    exact ⟨cell_lt this, this⟩
/-- A slice of strings. -/
def Strs (w : World) (B : Nat) (a : Option Addr) (ss : List ByteArray) : Prop := ∀ (i : Nat) (s : ByteArray), ss[i]? = some s → s.size ≤ maxLen ∧ ∃ b off, a = some ⟨b, off, none⟩ ∧ b < B ∧ w.cell? ⟨b, off + i, none⟩ = some (.string s)
theorem rows_strs {w : World} {a : Option Addr} {len cap : Nat} {rows : List (List Value)} (h : RowsW w 1 [.str] a len cap rows) : ∃ ss : List ByteArray, ss.length = len ∧ len ≤ cap ∧ cap ≤ maxLen ∧ Strs w w.heap.size a ss := by
  obtain ⟨h1, h2, h3, h4⟩ := h
  have hone : ∀ i, i < len → ∃ s : ByteArray, s.size ≤ maxLen ∧ ∃ b off, a = some ⟨b, off, none⟩ ∧ b < w.heap.size ∧ w.cell? ⟨b, off + i, none⟩ = some (.string s) := fun i hi => by
    obtain ⟨hf, b, off, e, hc⟩ := h4 i (rows[i]'(by omega)) (List.getElem?_eq_getElem _)
    obtain ⟨v, vs, e1, ⟨s, rfl, hs⟩, _⟩ := FitsW.cons hf
    obtain ⟨hlt, hcell⟩ := hc 0 (.string s) (by rw [e1]; rfl)
    exact ⟨s, hs, b, off, e, hlt, by simpa using hcell⟩
  have hone' : ∀ i, ∃ s : ByteArray, i < len → s.size ≤ maxLen ∧ ∃ b off, a = some ⟨b, off, none⟩ ∧ b < w.heap.size ∧ w.cell? ⟨b, off + i, none⟩ = some (.string s) := fun i => by
    rcases Nat.lt_or_ge i len with h | h
    · obtain ⟨s, hs⟩ := hone i h
      exact ⟨s, fun _ => hs⟩
    · exact ⟨ByteArray.empty, fun h' => absurd h' (by omega)⟩
  refine ⟨(List.range len).map fun i => Classical.choose (hone' i), by simp, h2, h3, fun i s hs => ?_⟩
  have hi : i < len := by have := (List.getElem?_eq_some_iff.1 hs).1; simpa using this
  rw [List.getElem?_map, List.getElem?_range hi] at hs
  obtain rfl := Option.some.inj hs
  exact Classical.choose_spec (hone' i) hi
end
end Go.Proofs.YtpakdcgcgekcfaaDoor

/-
  Blocks and worlds carried over a call that begins in a world alike (drawn from, or not). No program in sight.
-/
set_option linter.unusedSimpArgs false
set_option linter.unusedVariables false
namespace Go.Proofs.YtpakdcgcgekcfaaDoor
open Go.RowKit

theorem Blk.next {w wx w' : World} {g : Nat} {t : TypeId} {cs : Array Value} (h : Blk w g t cs) (hB : Below wx.heap.size wx w') (hx : wx.heap = w.heap) : Blk w' g t cs := by
  have hl : g < wx.heap.size := by rw [hx]; exact h.lt
  have h' : Blk wx g t cs := by unfold Blk at h ⊢; rw [hx]; exact h
  exact h'.below hB hl
theorem below_nxt {B : Nat} {W w wx w' : World} (h : Below B W w) (hB : Below wx.heap.size wx w') (h0 : B ≤ W.heap.size) (hx : wx.heap = w.heap) (h1 : wx.os = w.os) (h2 : wx.tape = w.tape) (h3 : wx.output = w.output) : Below B W w' := by
  have h' : Below B W wx := ⟨h1.trans h.os, h2.trans h.tape, h3.trans h.output, by rw [hx]; exact h.size, fun k hk => by rw [hx]; exact h.block k hk⟩
  exact below_then h' hB h0
theorem blk_new' {w : World} {t : TypeId} {cs : Array Value} {n : Nat} (hn : w.heap.size = n) : Blk (w.alloc (.cells cs t)) n t cs := by
  subst hn
  exact Blk.new w t cs
/-- A part of an array of one-cell elements, as a slice. -/
theorem run_slice_arr {P : Program} (t e : TypeId) (N : Nat) (ht : P.underlying t = some (.array N e)) (hs : ∀ w, (sizeOf e).run P w = .ok 1 w) (b lo hi : Nat) (kl kh : IntKind) (l h : Int) (hl : l = lo) (hh : h = hi) (h1 : lo ≤ hi) (h2 : hi ≤ N) (h3 : lo < N) (w : World) :
    (Instr.sliceAt t (.pointer (some ⟨b, 0, none⟩)) (some (.int kl l)) (some (.int kh h)) none).run P w = .ok (.slice (some ⟨b, lo, none⟩) (hi - lo) (N - lo)) w := by
  have hn : P.arrayLen t = N := by simp [Program.arrayLen, ht]
  have he : P.elem t = e := by simp [Program.elem, ht]
  have ht' : P.underlying t = some (.array (P.arrayLen t) (P.elem t)) := by rw [hn, he]; exact ht
  rw [run_sliceAt_array_lh w t ⟨b, 0, none⟩ ht' kl kh l h (by omega) (by omega) (by rw [hn]; omega), he, hs, hn]
  subst hl; subst hh
  have hne : ¬ N = lo := by omega
  simp [Result.andThen, slicedAt, hne, Go.WideShapes.add_plain]
theorem nats_step {k : IntKind} {M : Nat} {w w' : World} {A : Option Addr} {l : List Nat} (h : Nats k M w w.heap.size A l) (hB : Below w.heap.size w w') : Nats k M w' w'.heap.size A l := (h.below hB).more hB.size
theorem ret2i {k l : IntKind} {a b a' b' : Int} (h1 : a = a') (h2 : b = b') : Ending.returned (.tuple #[.int k a, .int l b]) = .returned (.tuple #[.int k a', .int l b']) := by rw [h1, h2]
theorem ret1i {k : IntKind} {a a' : Int} (h1 : a = a') : Ending.returned (.int k a) = .returned (.int k a') := by rw [h1]
end Go.Proofs.YtpakdcgcgekcfaaDoor

/-
  Parts of a block: stores of many cells into its middle, copies onto it; a slice of a slice. No program in sight.
-/
set_option linter.unusedSimpArgs false
set_option linter.unusedVariables false
namespace Go.Proofs.YtpakdcgcgekcfaaDoor
open Go.RowKit

theorem splice_cons {L : List Value} {o : Nat} {v : Value} {r : List Value} (h : o + (r.length + 1) ≤ L.length) : splice (L.set o v) (o + 1) r = splice L o (v :: r) := by
  unfold splice
  have e1 : (L.set o v).take (o + 1) = L.take o ++ [v] := by
    rw [List.take_succ_eq_append_getElem (by rw [List.length_set]; omega), List.take_set_of_le (Nat.le_refl _), List.getElem_set_self]
  have e2 : (L.set o v).drop (o + 1 + r.length) = L.drop (o + (r.length + 1)) := by
    rw [List.drop_set_of_lt (by omega), show o + 1 + r.length = o + (r.length + 1) by omega]
  rw [e1, e2, List.append_assoc]
  rfl
theorem blk_setCells {g : Nat} {t : TypeId} : ∀ (cs : List Value) (o : Nat) (L : List Value) (w : World), Blk w g t L.toArray → o + cs.length ≤ L.length → Blk (w.setCells g o cs) g t (splice L o cs).toArray
  | [], o, L, w, h, _ => by simpa [World.setCells, splice] using h
  | v :: r, o, L, w, h, hf => by
    have h1 := h.set o v
    simp only [List.setIfInBounds_toArray] at h1
    have h2 := blk_setCells r (o + 1) (L.set o v) _ h1 (by simp only [List.length_cons, List.length_set] at hf ⊢; omega)
    rw [splice_cons (by simpa using hf)] at h2
    exact h2
theorem frm_setCells {g : Nat} : ∀ (cs : List Value) (o : Nat) (w0 w : World) (S : List Nat), Frm S w0 w → (g ∈ S ∨ w0.heap.size ≤ g) → Frm S w0 (w.setCells g o cs)
  | [], _, _, _, _, h, _ => h
  | v :: r, o, w0, w, S, h, hg => frm_setCells r (o + 1) w0 _ S (h.setCell (p := ⟨g, o, none⟩) hg v) hg
theorem frm_setRow {g : Nat} (w : World) (cs : Array Value) : Frm [g] w (w.setRow g cs) :=
  ⟨rfl, rfl, rfl, by simp, fun k _ hk => setRow_other w g k cs (by simpa using hk)⟩

section
variable {P : Program} {w : World} {ops : Array Oper} {rest : List Oper} {a : Act} {Q : Exit → Act → World → Prop}
/-- A store of many cells into a block's middle. -/
theorem wpList_store_frm {op : Oper} (hgd : op.guard = none) (ty : TypeId) (x y : Operand) (ho : op.op = .store ty x y)
    (g o : Nat) (cells : Array Value) (hx : a.eval x = .pointer (some ⟨g, o, none⟩)) (hy : a.eval y = .agg cells) (t : TypeId) (L : List Value) (hg : Blk w g t L.toArray) (hfit : o + cells.size ≤ L.length)
    (hi : (P.info? ty).map (·.size) = some cells.size) (h1 : cells.all (·.oneCell') = true)
    (h : ∀ w', Blk w' g t (splice L o cells.toList).toArray → Frm [g] w w' → wpList P ops Q rest (a.put op.dst undef) w') : wpList P ops Q (op :: rest) a w :=
  wpList_store_mid hgd ty x y ho g o cells hx hy (fun j hj => ⟨by
    rw [hg.cell]
    simp
    omega, hg.frozen _⟩) hi h1 (h _ (blk_setCells cells.toList o L w hg (by simpa using hfit)) (frm_setCells _ _ _ _ _ (Frm.refl _ _) (.inl (by simp))))
/-- copy onto a block's middle. -/
theorem wpList_copy_frm {o : Oper} (hgd : o.guard = none) (d s : Operand) (dT sT : TypeId)
    (ho : o.op = .call { callee := .builtin .copy, args := #[d, s], argTypes := #[dT, sT] }) (elem : TypeId) (hu : P.underlying dT = some (.slice elem)) (hsz : (P.info? elem).map (·.size) = some 1)
    (dp sp : Option Addr) (dLen dCap sLen sCap : Nat) (hd : a.eval d = .slice dp dLen dCap) (hs : a.eval s = .slice sp sLen sCap)
    (g off : Nat) (t : TypeId) (cur : List Value) (hg : Blk w g t cur.toArray) (cs : List Value) (k : Nat) (hk : cs.length = k) (hn : k = Nat.min sLen dLen)
    (hpos : 0 < k → dp = some ⟨g, off, none⟩ ∧ ∃ ad, sp = some ad ∧ ∀ j (v : Value), cs[j]? = some v → w.cell? (ad.add j) = some v)
    (hfit : off + k ≤ cur.length) (h1 : ∀ v ∈ cs, v.oneCell' = true)
    (h : ∀ w', Blk w' g t (splice cur off cs).toArray → Frm [g] w w' → wpList P ops Q rest (a.put o.dst (.int .i64 (k : Int))) w') :
    wpList P ops Q (o :: rest) a w := by
  subst hk
  by_cases h0 : cs.length = 0
  · obtain rfl : cs = [] := List.eq_nil_of_length_eq_zero h0
    refine wpList_copy_nothing hgd d s dT sT ho elem hu hsz dp sp dLen dCap sLen sCap hd hs (by simpa using hn.symm) ?_
    exact h w (by simpa [splice] using hg) (Frm.refl _ _)
  · obtain ⟨rfl, ad, rfl, hsrc⟩ := hpos (by omega)
    refine wpList_copy_own hgd d s dT sT ho elem hu hsz g off dLen dCap ad sLen sCap hd hs cur.toArray t hg cs hn hsrc (by simpa using hfit) h1 ?_
    exact h _ (show _ = _ by simpa [splice] using setRow_heap w g _ _ t _ hg) (frm_setRow w _)
end

theorem splice_right {α : Type} {L : List α} {o : Nat} {cs : List α} {i : Nat} (hf : o + cs.length ≤ L.length) (hi : o + cs.length ≤ i) : (splice L o cs)[i]? = L[i]? := by
  unfold splice
  have h1 : (L.take o).length = o := by rw [List.length_take]; omega
  rw [List.getElem?_append_right (by omega), h1, List.getElem?_append_right (by omega), List.getElem?_drop, show o + cs.length + (i - o - cs.length) = i by omega]
/-- A row out of a block's middle. -/
theorem wpList_load_arr {P : Program} {w : World} {ops : Array Oper} {rest : List Oper} {a : Act} {Q : Exit → Act → World → Prop} {op : Oper} (hgd : op.guard = none) (ty : TypeId) (x : Operand) (ho : op.op = .load ty x)
    (b o : Nat) (hx : a.eval x = .pointer (some ⟨b, o, none⟩)) (cs : Array Value) (d : TypeDesc) (hc : w.rangeAt b o cs.toList) (hu : P.underlying ty = some d) (hd : d.isRow = true) (hi : (P.info? ty).map (·.size) = some cs.size)
    (h : wpList P ops Q rest (a.put op.dst (.agg cs)) w) : wpList P ops Q (op :: rest) a w :=
  wpList_load_mid hgd ty x ho b o hx cs.toList d hc hu hd (by simpa using hi) (by simpa using h)
theorem Blk.rangeAt {w : World} {g : Nat} {t : TypeId} {L : List Value} (h : Blk w g t L.toArray) (o : Nat) (cs : List Value) (hc : ∀ (j : Nat) (v : Value), cs[j]? = some v → L[o + j]? = some v) : w.rangeAt g o cs := fun j v hv => by
  rw [h.cell]
  simpa using hc j v hv

/-- Where a slice's rest lies. -/
def slA (A : Option Addr) (k cap : Nat) : Option Addr := if cap = k then A else A.map (·.add k)
theorem run_slice_l1 {P : Program} (t e : TypeId) (ht : P.underlying t = some (.slice e)) (hs : ∀ w, (sizeOf e).run P w = .ok 1 w) (A : Option Addr) (len cap k : Nat) (kl : IntKind) (l : Int) (hl : l = k) (hk : k ≤ len) (w : World) :
    (Instr.sliceAt t (.slice A len cap) (some (.int kl l)) none none).run P w = .ok (.slice (slA A k cap) (len - k) (cap - k)) w := by
  have he : P.elem t = e := by simp [Program.elem, ht]
  have ht' : P.underlying t = some (.slice (P.elem t)) := by rw [he]; exact ht
  subst hl
  rw [run_sliceAt_slice w t _ _ _ _ ht', run_slice_l w t A len cap ht' kl k (by omega) (by omega), he, hs]
  simp [Result.andThen, sliced, slA]
theorem run_slice_lh1 {P : Program} (t e : TypeId) (ht : P.underlying t = some (.slice e)) (hs : ∀ w, (sizeOf e).run P w = .ok 1 w) (A : Option Addr) (len cap lo hi : Nat) (kl kh : IntKind) (l h : Int) (hl : l = lo) (hh : h = hi) (h1 : lo ≤ hi) (h2 : hi ≤ cap) (w : World) :
    (Instr.sliceAt t (.slice A len cap) (some (.int kl l)) (some (.int kh h)) none).run P w = .ok (.slice (slA A lo cap) (hi - lo) (cap - lo)) w := by
  have he : P.elem t = e := by simp [Program.elem, ht]
  have ht' : P.underlying t = some (.slice (P.elem t)) := by rw [he]; exact ht
  subst hl; subst hh
  rw [run_sliceAt_slice w t _ _ _ _ ht', run_slice_lh w t A len cap ht' kl kh lo hi (by omega) (by omega) (by omega), he, hs]
  simp [Result.andThen, sliced, slA]
theorem nats_take {k : IntKind} {M : Nat} {w : World} {B : Nat} {A : Option Addr} {l : List Nat} (h : Nats k M w B A l) (n : Nat) : Nats k M w B A (l.take n) := fun j z hz => by
  rw [List.getElem?_take] at hz
  split at hz
  · exact h j z hz
  · cases hz
theorem nats_slA {k : IntKind} {M : Nat} {w : World} {B : Nat} {A : Option Addr} {l : List Nat} (h : Nats k M w B A l) {i cap : Nat} (hc : l.length ≤ cap) : Nats k M w B (slA A i cap) (l.drop i) := fun j z hz => by
  rw [List.getElem?_drop] at hz
  obtain ⟨h1, b, off, rfl, h3, h4⟩ := h (i + j) z hz
  have hlt : i + j < l.length := (List.getElem?_eq_some_iff.1 hz).1
  refine ⟨h1, b, off + i, ?_, h3, by rw [← h4, Nat.add_assoc]⟩
  have hne : ¬ cap = i := by omega
  simp [slA, hne, Go.WideShapes.add_plain]
/-- .. and of an array in a block's middle. -/
theorem run_slice_arr_lo {P : Program} (t e : TypeId) (N : Nat) (ht : P.underlying t = some (.array N e)) (hs : ∀ w, (sizeOf e).run P w = .ok 1 w) (b o lo : Nat) (kl : IntKind) (l : Int) (hl : l = lo) (h3 : lo < N) (w : World) :
    (Instr.sliceAt t (.pointer (some ⟨b, o, none⟩)) (some (.int kl l)) none none).run P w = .ok (.slice (some ⟨b, o + lo, none⟩) (N - lo) (N - lo)) w := by
  have hn : P.arrayLen t = N := by simp [Program.arrayLen, ht]
  have he : P.elem t = e := by simp [Program.elem, ht]
  have ht' : P.underlying t = some (.array (P.arrayLen t) (P.elem t)) := by rw [hn, he]; exact ht
  rw [run_sliceAt_array_l w t ⟨b, o, none⟩ ht' kl l (by omega) (by rw [hn]; omega), he, hs, hn]
  subst hl
  have hne : ¬ N = lo := by omega
  simp [Result.andThen, slicedAt, hne, Go.WideShapes.add_plain]
end Go.Proofs.YtpakdcgcgekcfaaDoor

/-
  Bytes as words, in plain Lean: four bytes, the highest first.
-/
set_option linter.unusedSimpArgs false
set_option linter.unusedVariables false
namespace Go.Proofs.YtpakdcgcgekcfaaDoor
open Go.RowKit

/-- Four bytes as a word, the highest first. -/
def be4 (a b c d : Nat) : Nat := ((a * 256 + b) * 256 + c) * 256 + d
theorem be4_lt {a b c d : Nat} (ha : a < 256) (hb : b < 256) (hc : c < 256) (hd : d < 256) : be4 a b c d < 4294967296 := by unfold be4; omega
theorem or_add {x y i : Nat} (h : y < 2 ^ i) : (2 ^ i * x) ||| y = 2 ^ i * x + y := (Nat.two_pow_add_eq_or_of_lt h x).symm
theorem be4_or {a b c d : Nat} (hb : b < 256) (hc : c < 256) (hd : d < 256) : ((a * 16777216 ||| b * 65536) ||| c * 256) ||| d = be4 a b c d := by
  have e1 : (a * 16777216 ||| b * 65536) = 65536 * (256 * a + b) := by
    have := or_add (x := a) (y := b * 65536) (i := 24) (by omega)
    rw [show a * 16777216 = 2 ^ 24 * a by omega, this]; omega
  have e2 : (65536 * (256 * a + b) ||| c * 256) = 256 * (256 * (256 * a + b) + c) := by
    have := or_add (x := 256 * a + b) (y := c * 256) (i := 16) (by omega)
    rw [show 65536 * (256 * a + b) = 2 ^ 16 * (256 * a + b) by omega, this]; omega
  have e3 : (256 * (256 * (256 * a + b) + c) ||| d) = be4 a b c d := by
    have := or_add (x := 256 * (256 * a + b) + c) (y := d) (i := 8) (by omega)
    rw [show 256 * (256 * (256 * a + b) + c) = 2 ^ 8 * (256 * (256 * a + b) + c) by omega, this]; unfold be4; omega
  rw [e1, e2, e3]
/-- The words of a list of bytes, four by four; what is left over is dropped. -/
def words4 : List Nat → List Nat
  | a :: b :: c :: d :: r => be4 a b c d :: words4 r
  | _ => []
theorem words4_length : ∀ l : List Nat, (words4 l).length = l.length / 4
  | a :: b :: c :: d :: r => by
    simp only [words4, List.length_cons, words4_length r]
    omega
  | [] => by simp [words4]
  | [_] => by simp [words4]
  | [_, _] => by simp [words4]
  | [_, _, _] => by simp [words4]
theorem words4_lt : ∀ l : List Nat, (∀ x ∈ l, x < 256) → ∀ x ∈ words4 l, x < 4294967296
  | a :: b :: c :: d :: r, h, x, hx => by
    simp only [words4, List.mem_cons] at hx
    rcases hx with rfl | hx
    · exact be4_lt (h a (by simp)) (h b (by simp)) (h c (by simp)) (h d (by simp))
    · exact words4_lt r (fun y hy => h y (by simp [hy])) x hx
  | [], _, x, hx => by simp [words4] at hx
  | [_], _, x, hx => by simp [words4] at hx
  | [_, _], _, x, hx => by simp [words4] at hx
  | [_, _, _], _, x, hx => by simp [words4] at hx
theorem words4_four (l r : List Nat) (i : Nat) (h : l.length = 4 * i) : words4 (l ++ r) = words4 l ++ words4 r := by
  induction i generalizing l with
  | zero => have : l = [] := List.eq_nil_of_length_eq_zero (by omega); subst this; simp [words4]
  | succ i ih =>
    match l, h with
    | a :: b :: c :: d :: l', h =>
      simp only [List.length_cons] at h
      simp only [List.cons_append, words4, ih l' (by omega)]
    | [], h => simp at h
    | [_], h => simp at h; omega
    | [_, _], h => simp at h; omega
    | [_, _, _], h => simp at h; omega
theorem words4_get : ∀ (l : List Nat) (i a b c d : Nat), l[4 * i]? = some a → l[4 * i + 1]? = some b → l[4 * i + 2]? = some c → l[4 * i + 3]? = some d → (words4 l)[i]? = some (be4 a b c d)
  | x0 :: x1 :: x2 :: x3 :: r, 0, a, b, c, d, h0, h1, h2, h3 => by
    simp at h0 h1 h2 h3
    subst h0; subst h1; subst h2; subst h3
    simp [words4]
  | x0 :: x1 :: x2 :: x3 :: r, i + 1, a, b, c, d, h0, h1, h2, h3 => by
    rw [words4, List.getElem?_cons_succ]
    refine words4_get r i a b c d ?_ ?_ ?_ ?_
    · rw [show 4 * (i + 1) = 4 * i + 4 by omega] at h0; simpa using h0
    · rw [show 4 * (i + 1) + 1 = 4 * i + 1 + 4 by omega] at h1; simpa using h1
    · rw [show 4 * (i + 1) + 2 = 4 * i + 2 + 4 by omega] at h2; simpa using h2
    · rw [show 4 * (i + 1) + 3 = 4 * i + 3 + 4 by omega] at h3; simpa using h3
  | [], i, a, b, c, d, h0, _, _, _ => by simp at h0
  | [_], i, a, b, c, d, _, h1, _, _ => by simp at h1
  | [_, _], i, a, b, c, d, _, _, h2, _ => by simp at h2
  | [_, _, _], i, a, b, c, d, _, _, _, h3 => by simp at h3
theorem words4_take_snoc (l : List Nat) (i a b c d : Nat) (h0 : l[4 * i]? = some a) (h1 : l[4 * i + 1]? = some b) (h2 : l[4 * i + 2]? = some c) (h3 : l[4 * i + 3]? = some d) :
    words4 (l.take (4 * (i + 1))) = words4 (l.take (4 * i)) ++ [be4 a b c d] := by
  have hl : 4 * i + 3 < l.length := (List.getElem?_eq_some_iff.1 h3).1
  have e : l.take (4 * (i + 1)) = l.take (4 * i) ++ [a, b, c, d] := by
    rw [show 4 * (i + 1) = 4 * i + 3 + 1 by omega, take_snoc h3, show 4 * i + 3 = 4 * i + 2 + 1 by omega, take_snoc h2, show 4 * i + 2 = 4 * i + 1 + 1 by omega, take_snoc h1, take_snoc h0]
    simp
  rw [e, words4_four _ _ i (by rw [List.length_take]; omega)]
  simp [words4]
end Go.Proofs.YtpakdcgcgekcfaaDoor

/-
  Contracts of package fuse: an Array in memory ('Fz': its words, which are locked), and what New, there, Read, Cut, Program, Lock, Locked, Len make of it.
-/
set_option linter.unusedSimpArgs false
set_option linter.unusedVariables false
namespace Go.Proofs.YtpakdcgcgekcfaaDoor
open Go.RowKit

namespace Fuse
/-- The array behind pointer p: its words lie in block b; vs: the words, ls: which are locked. -/
structure Fz (w : World) (p b : Nat) (vs : List Nat) (ls : List Bool) : Prop where
  len : ls.length = vs.length
  most : vs.length ≤ 4096
  word : ∀ (i : Nat) (x : Nat), vs[i]? = some x → x < 4294967296
  head : ∃ c, vs.length ≤ c ∧ Blk w p 127 #[.slice (some ⟨b, 0, none⟩) vs.length c]
  row : ∃ cs, Blk w b 129 cs ∧ (∀ (i : Nat) (x : Nat), vs[i]? = some x → cs[i * 2]? = some (.int .u32 (x : Int))) ∧ (∀ (i : Nat) (x : Bool), ls[i]? = some x → cs[i * 2 + 1]? = some (.bool x))

variable {w w' : World} {p b : Nat} {vs : List Nat} {ls : List Bool}
theorem Fz.ne (h : Fz w p b vs ls) : p ≠ b := by
  obtain ⟨c, _, h1⟩ := h.head
  obtain ⟨cs, h2, _⟩ := h.row
  exact h1.ne h2 (by decide)
theorem Fz.frm {S : List Nat} (h : Fz w p b vs ls) (hf : Frm S w w') (hp : p ∉ S) (hb : b ∉ S) : Fz w' p b vs ls := by
  obtain ⟨c, hc, h1⟩ := h.head
  obtain ⟨cs, h2, h3, h4⟩ := h.row
  exact ⟨h.len, h.most, h.word, ⟨c, hc, h1.frm hf hp⟩, ⟨cs, h2.frm hf hb, h3, h4⟩⟩
theorem Fz.drew (h : Fz w p b vs ls) : Fz w.drew p b vs ls := ⟨h.len, h.most, h.word, h.head, h.row⟩
theorem Fz.drewN (h : Fz w p b vs ls) (n : Nat) : Fz (w.drewN n) p b vs ls := ⟨h.len, h.most, h.word, h.head, h.row⟩
theorem Fz.ltp (h : Fz w p b vs ls) : p < w.heap.size := by
  obtain ⟨c, _, h1⟩ := h.head
  exact h1.lt
theorem Fz.ltb (h : Fz w p b vs ls) : b < w.heap.size := by
  obtain ⟨cs, h2, _⟩ := h.row
  exact h2.lt
theorem Fz.below {B : Nat} (h : Fz w p b vs ls) (hf : Below B w w') (hp : p < B) (hb : b < B) : Fz w' p b vs ls := by
  obtain ⟨c, hc, h1⟩ := h.head
  obtain ⟨cs, h2, h3, h4⟩ := h.row
  exact ⟨h.len, h.most, h.word, ⟨c, hc, h1.below hf hp⟩, ⟨cs, h2.below hf hb, h3, h4⟩⟩
theorem Fz.set (h : Fz w p b vs ls) {i : Nat} (hi : i < vs.length) (x : Nat) (hx : x < 4294967296) : Fz (w.setCell ⟨b, i * 2, none⟩ (.int .u32 (x : Int))) p b (vs.set i x) ls := by
  obtain ⟨c, hc, h1⟩ := h.head
  obtain ⟨cs, h2, h3, h4⟩ := h.row
  refine ⟨by simpa using h.len, by simpa using h.most, ?_, ⟨c, by simpa using hc, by simpa using h1.far' b (i * 2) h.ne _⟩, ⟨_, h2.set (i * 2) _, ?_, ?_⟩⟩
  · intro j y hy
    rw [List.getElem?_set] at hy; simp only [hi, if_true] at hy
    split at hy
    · cases hy; exact hx
    · exact h.word j y hy
  · intro j y hy
    rw [List.getElem?_set] at hy; simp only [hi, if_true] at hy
    split at hy
    · rename_i hij
      subst hij
      cases hy
      have := h3 i vs[i] (List.getElem?_eq_getElem hi)
      have hlt := (Array.getElem?_eq_some_iff.1 this).1
      simp [hlt]
    · rw [Array.getElem?_setIfInBounds_ne (by omega)]
      exact h3 j y hy
  · intro j y hy
    rw [Array.getElem?_setIfInBounds_ne (by omega)]
    exact h4 j y hy
theorem Fz.lock (h : Fz w p b vs ls) {i : Nat} (hi : i < vs.length) (x : Bool) : Fz (w.setCell ⟨b, i * 2 + 1, none⟩ (.bool x)) p b vs (ls.set i x) := by
  obtain ⟨c, hc, h1⟩ := h.head
  obtain ⟨cs, h2, h3, h4⟩ := h.row
  refine ⟨by simpa using h.len, h.most, h.word, ⟨c, hc, h1.far' b (i * 2 + 1) h.ne _⟩, ⟨_, h2.set (i * 2 + 1) _, ?_, ?_⟩⟩
  · intro j y hy
    rw [Array.getElem?_setIfInBounds_ne (by omega)]
    exact h3 j y hy
  · intro j y hy
    rw [List.getElem?_set] at hy; simp only [h.len, hi, if_true] at hy
    split at hy
    · rename_i hij
      subst hij
      cases hy
      have := h4 i (ls[i]'(by rw [h.len]; exact hi)) (List.getElem?_eq_getElem _)
      have hlt := (Array.getElem?_eq_some_iff.1 this).1
      simp [hlt]
    · rw [Array.getElem?_setIfInBounds_ne (by omega)]
      exact h4 j y hy

/-- What a walk is told of an array: the head's cell, a word's two cells. -/
theorem Fz.cell0 (h : Fz w p b vs ls) : ∃ c, vs.length ≤ c ∧ w.cell? ⟨p, 0, none⟩ = some (.slice (some ⟨b, 0, none⟩) vs.length c) := by
  obtain ⟨c, hc, h1⟩ := h.head
  exact ⟨c, hc, by rw [h1.cell]; rfl⟩
theorem Fz.cellv (h : Fz w p b vs ls) {i : Nat} (hi : i < vs.length) : w.cell? ⟨b, i * 2, none⟩ = some (.int .u32 ((vs[i] : Nat) : Int)) ∧ w.frozen? ⟨b, i * 2, none⟩ = false := by
  obtain ⟨cs, h2, h3, _⟩ := h.row
  exact ⟨by rw [h2.cell]; exact h3 i _ (List.getElem?_eq_getElem hi), h2.frozen _⟩
theorem Fz.celll (h : Fz w p b vs ls) {i : Nat} (hi : i < vs.length) : w.cell? ⟨b, i * 2 + 1, none⟩ = some (.bool (ls[i]'(by rw [h.len]; exact hi))) ∧ w.frozen? ⟨b, i * 2 + 1, none⟩ = false := by
  obtain ⟨cs, h2, _, h4⟩ := h.row
  exact ⟨by rw [h2.cell]; exact h4 i _ (List.getElem?_eq_getElem _), h2.frozen _⟩

theorem Fz.at_ (h : Fz w p b vs ls) {i : Nat} (hi : i < vs.length) : ∃ x l, vs[i]? = some x ∧ ls[i]? = some l ∧ x < 4294967296 ∧ w.cell? ⟨b, i * 2, none⟩ = some (.int .u32 ((x : Nat) : Int)) ∧ w.cell? ⟨b, i * 2 + 1, none⟩ = some (.bool l) :=
  ⟨vs[i], ls[i]'(by rw [h.len]; exact hi), List.getElem?_eq_getElem hi, List.getElem?_eq_getElem _, h.word i _ (List.getElem?_eq_getElem hi), (h.cellv hi).1, (h.celll hi).1⟩

def inR (vs : List Nat) (i : Int) : Bool := decide (0 ≤ i ∧ i < vs.length)
def thr (vs : List Nat) (i : Int) : Int := if inR vs i = true then 0 else 9

set_option maxHeartbeats 400000 in
theorem there_in (i : Nat) (w : World) (h : Fz w p b vs ls) (hi : i < vs.length) : Calls Tryd.prog 101 #[.pointer (some ⟨p, 0, none⟩), .int .i64 (i : Int)] w fun e w' => e = .returned (.int .i64 0) ∧ w = w' := by
  obtain ⟨c, hc, hp⟩ := h.cell0
  have hm := h.most
  go_enter Tryd.func101, Tryd.ntmps101
  go_wp2
  all_goals go_light
  all_goals go_ret
  all_goals exact ⟨rfl, rfl⟩
set_option maxHeartbeats 400000 in
theorem there_out (i : Int) (w : World) (h : Fz w p b vs ls) (hi : i < 0 ∨ (vs.length : Int) ≤ i) : Calls Tryd.prog 101 #[.pointer (some ⟨p, 0, none⟩), .int .i64 i] w fun e w' => e = .returned (.int .i64 9) ∧ w = w' := by
  obtain ⟨c, hc, hp⟩ := h.cell0
  have hm := h.most
  by_cases h0 : i < 0
  · go_enter Tryd.func101, Tryd.ntmps101
    go_wp2
    all_goals go_light
    all_goals go_ret
    all_goals exact ⟨rfl, rfl⟩
  · have h1 : (vs.length : Int) ≤ i := by omega
    clear hi
    go_enter Tryd.func101, Tryd.ntmps101
    go_wp2
    all_goals go_light
    all_goals go_ret
    all_goals exact ⟨rfl, rfl⟩
set_option maxHeartbeats 400000 in
theorem there_nil (i : Int) (w : World) : Calls Tryd.prog 101 #[.pointer none, .int .i64 i] w fun e w' => e = .returned (.int .i64 3) ∧ w = w' := by
  go_enter Tryd.func101, Tryd.ntmps101
  go_wp2
  all_goals go_light
  all_goals go_ret
  all_goals exact ⟨rfl, rfl⟩
end Fuse
end Go.Proofs.YtpakdcgcgekcfaaDoor

/-
  Contracts of package fuse, more: Read, Cut, Program, Lock, Locked, Len, New.
-/
set_option linter.unusedSimpArgs false
set_option linter.unusedVariables false
namespace Go.Proofs.YtpakdcgcgekcfaaDoor
open Go.RowKit

namespace Fuse
variable {w w' : World} {p b : Nat} {vs : List Nat} {ls : List Bool}

/-- What Read answers. -/
def rdV (vs : List Nat) (ls : List Bool) (i : Int) : Int := if inR vs i = true then (if ls[i.toNat]? = some true then 0 else ((vs[i.toNat]?.getD 0 : Nat) : Int)) else 0
def rdE (vs : List Nat) (ls : List Bool) (i : Int) : Int := if inR vs i = true then (if ls[i.toNat]? = some true then 12 else 0) else 9
theorem inR_cases (vs : List Nat) (i : Int) : (∃ k : Nat, i = k ∧ k < vs.length ∧ inR vs i = true) ∨ ((i < 0 ∨ (vs.length : Int) ≤ i) ∧ inR vs i = false) := by
  by_cases h : 0 ≤ i ∧ i < vs.length
  · obtain ⟨k, rfl⟩ := Int.eq_ofNat_of_zero_le h.1
    exact .inl ⟨k, rfl, by omega, by simp only [inR]; exact decide_eq_true h⟩
  · exact .inr ⟨by omega, by simp only [inR]; exact decide_eq_false h⟩


/-- What Cut answers, and leaves. -/
def cutE (vs : List Nat) (i : Int) (v : Nat) : Int := if inR vs i = true then (if (vs[i.toNat]?.getD 0) &&& (4294967295 - v) = 0 then 0 else 11) else 9
def cutV (vs : List Nat) (i : Int) (v g : Nat) : List Nat := if cutE vs i v = 0 then vs.set i.toNat (vs[i.toNat]?.getD 0 ||| (v &&& g)) else vs

set_option maxHeartbeats 400000 in
theorem cut_any (i v g : Int) (w : World) (h : Fz w p b vs ls) (hv0 : 0 ≤ v) (hv1 : v < 4294967296) (hg0 : 0 ≤ g) (hg1 : g < 4294967296) :
    Calls Tryd.prog 80 #[.pointer (some ⟨p, 0, none⟩), .int .i64 i, .int .u32 v, .int .u32 g] w fun e w' => e = .returned (.int .i64 (cutE vs i v.toNat)) ∧ Fz w' p b (cutV vs i v.toNat g.toNat) ls ∧ Frm [b] w w' := by
  obtain ⟨v, rfl⟩ := Int.eq_ofNat_of_zero_le hv0
  obtain ⟨g, rfl⟩ := Int.eq_ofNat_of_zero_le hg0
  simp only [Int.toNat_natCast]
  rcases inR_cases vs i with ⟨k, rfl, hk, hr⟩ | ⟨ho, hr⟩
  · obtain ⟨c, hc, hp⟩ := h.cell0
    obtain ⟨hv, hf⟩ := h.cellv hk
    have hm := h.most
    have hx := h.word k _ (List.getElem?_eq_getElem hk)
    have b1 := u32_andNot_nat vs[k] v hx (by omega)
    have b2 := u32_and_nat v g (by omega) (by omega)
    have hvg : v &&& g < 4294967296 := Nat.lt_of_le_of_lt Nat.and_le_left (by omega)
    have b3 := u32_or_nat vs[k] (v &&& g) hx hvg
    have hor : vs[k] ||| (v &&& g) < 4294967296 := Nat.or_lt_two_pow (n := 32) hx hvg
    have e1 : cutE vs k v = if vs[k] &&& (4294967295 - v) = 0 then 0 else 11 := by simp [cutE, hr, hk]
    have e2 : cutE vs k v = 0 → cutV vs k v g = vs.set k (vs[k] ||| (v &&& g)) := fun h0 => by simp [cutV, h0, hk]
    have e3 : cutE vs k v ≠ 0 → cutV vs k v g = vs := fun h0 => by simp [cutV, h0]
    have hset := h.set hk (vs[k] ||| (v &&& g)) hor
    generalize cutV vs k v g = cv at *
    generalize cutE vs k v = ce at *
    have E1 := Lib.hid e1
    have E2 := Lib.hid e2
    have E3 := Lib.hid e3
    have HS := Lib.hid hset
    clear e1 e2 e3 hr hset
    generalize hx0 : vs[k] = x0 at *
    clear hx0
    generalize hm0 : x0 &&& (4294967295 - v) = m0 at *
    clear hm0
    by_cases hz : m0 = 0
    · subst hz
      go_enter Tryd.func80, Tryd.ntmps80
      go_wp2_with (go_at_call 101; (with_reducible refine (there_in k _ h hk).mono ?_); rintro e w' ⟨rfl, rfl⟩)
      go_light
      go_ret
      rw [E2.out (by rw [E1.out]; rfl), E1.out]
      exact ⟨rfl, HS.out, (Frm.refl _ _).setCell (.inl (by simp)) _⟩
    · have hz' : ((m0 : Int) != 0) = true := by simp [hz]
      go_enter Tryd.func80, Tryd.ntmps80
      go_wp2_with (go_at_call 101; (with_reducible refine (there_in k _ h hk).mono ?_); rintro e w' ⟨rfl, rfl⟩)
      go_light
      go_ret
      rw [E3.out (by rw [E1.out, if_neg hz]; decide), E1.out, if_neg hz]
      exact ⟨rfl, h, Frm.refl _ _⟩
  · have e1 : cutE vs i v = 9 := by simp [cutE, hr]
    have e2 : cutV vs i v g = vs := by simp [cutV, e1]
    rw [e1, e2]
    clear e1 e2 hr
    go_enter Tryd.func80, Tryd.ntmps80
    go_wp2_with (go_at_call 101; (with_reducible refine (there_out i _ h ho).mono ?_); rintro e w' ⟨rfl, rfl⟩)
    go_light
    go_ret
    exact ⟨rfl, h, Frm.refl _ _⟩

set_option maxHeartbeats 400000 in
theorem program_any (i v : Int) (w : World) (h : Fz w p b vs ls) (hv0 : 0 ≤ v) (hv1 : v < 4294967296) :
    Calls Tryd.prog 70 #[.pointer (some ⟨p, 0, none⟩), .int .i64 i, .int .u32 v] w fun e w' => e = .returned (.int .i64 (cutE vs i v.toNat)) ∧ Fz w' p b (cutV vs i v.toNat 4294967295) ls ∧ Frm [b] w w' := by
  go_enter Tryd.func70, Tryd.ntmps70
  go_wp2_with (go_at_call 80; (with_reducible refine (cut_any i v 4294967295 _ h hv0 hv1 (by omega) (by omega)).mono ?_); rintro e w1 ⟨rfl, hz, hf⟩)
  go_light
  go_ret
  exact ⟨rfl, hz, hf⟩

def lockL (vs : List Nat) (ls : List Bool) (i : Int) : List Bool := if inR vs i = true then ls.set i.toNat true else ls
set_option maxHeartbeats 400000 in
theorem lock_any (i : Int) (w : World) (h : Fz w p b vs ls) :
    Calls Tryd.prog 75 #[.pointer (some ⟨p, 0, none⟩), .int .i64 i] w fun e w' => e = .returned (.int .i64 (thr vs i)) ∧ Fz w' p b vs (lockL vs ls i) ∧ Frm [b] w w' := by
  rcases inR_cases vs i with ⟨k, rfl, hk, hr⟩ | ⟨ho, hr⟩
  · obtain ⟨c, hc, hp⟩ := h.cell0
    obtain ⟨hl, hf⟩ := h.celll hk
    have hm := h.most
    have e1 : thr vs k = 0 := by simp [thr, hr]
    have e2 : lockL vs ls k = ls.set k true := by simp [lockL, hr]
    rw [e1, e2]
    have hset := h.lock hk true
    have HS := Lib.hid hset
    clear e1 e2 hr hset
    go_enter Tryd.func75, Tryd.ntmps75
    go_wp2_with (go_at_call 101; (with_reducible refine (there_in k _ h hk).mono ?_); rintro e w' ⟨rfl, rfl⟩)
    go_light
    go_ret
    exact ⟨rfl, HS.out, (Frm.refl _ _).setCell (.inl (by simp)) _⟩
  · have e1 : thr vs i = 9 := by simp [thr, hr]
    have e2 : lockL vs ls i = ls := by simp [lockL, hr]
    rw [e1, e2]
    clear e1 e2 hr
    go_enter Tryd.func75, Tryd.ntmps75
    go_wp2_with (go_at_call 101; (with_reducible refine (there_out i _ h ho).mono ?_); rintro e w' ⟨rfl, rfl⟩)
    go_light
    go_ret
    exact ⟨rfl, h, Frm.refl _ _⟩

def lockedB (vs : List Nat) (ls : List Bool) (i : Int) : Bool := inR vs i && ls[i.toNat]?.getD false
end Fuse
end Go.Proofs.YtpakdcgcgekcfaaDoor

/-
  Contracts of package fuse, more: New, Len.
-/
set_option linter.unusedSimpArgs false
set_option linter.unusedVariables false
namespace Go.Proofs.YtpakdcgcgekcfaaDoor
open Go.RowKit

namespace Fuse
variable {w w' : World} {p b : Nat} {vs : List Nat} {ls : List Bool}

theorem word_info : (Tryd.prog.info? 129).map (fun i => (i.zero, i.size, i.bytes)) = some (some (.agg #[.int .u32 0, .bool false]), 2, 8) := by kernel_rfl

theorem fz_new (w : World) (n : Nat) (hn : n ≤ 4096) :
    Fz ((w.alloc (.cells (madeCells (#[.int .u32 0, .bool false]) (n * 2)) 129)).alloc (.cells #[.slice (some ⟨w.heap.size, 0, none⟩) n n] 127)) (w.heap.size + 1) w.heap.size (List.replicate n 0) (List.replicate n false) := by
  refine ⟨by simp, by simpa using hn, fun i x hx => ?_, ⟨n, by simp, ?_⟩, ⟨_, (Blk.new w _ _).alloc _, fun i x hx => ?_, fun i x hx => ?_⟩⟩
  · obtain ⟨_, rfl⟩ := List.getElem?_eq_some_iff.1 hx
    simp
  · have := Blk.new (w.alloc (.cells (madeCells (#[.int .u32 0, .bool false]) (n * 2)) 129)) 127 #[.slice (some ⟨w.heap.size, 0, none⟩) n n]
    simpa using this
  · obtain ⟨hl, rfl⟩ := List.getElem?_eq_some_iff.1 hx
    rw [List.length_replicate] at hl
    rw [made_get _ _ _ (by omega) (by decide)]
    simp
  · obtain ⟨hl, rfl⟩ := List.getElem?_eq_some_iff.1 hx
    rw [List.length_replicate] at hl
    rw [made_get _ _ _ (by omega) (by decide)]
    simp [Nat.add_mod]

set_option maxHeartbeats 400000 in
theorem new_nat (n : Nat) (w : World) (hn : n ≤ 4096) : Calls Tryd.prog 66 #[.int .i64 (n : Int)] w fun e w' => e = .returned (.tuple #[.pointer (some ⟨w.heap.size + 1, 0, none⟩), .int .i64 0]) ∧
    Fz w' (w.heap.size + 1) w.heap.size (List.replicate n 0) (List.replicate n false) ∧ Below w.heap.size w w' ∧ w'.heap.size = w.heap.size + 2 := by
  obtain ⟨i, hi, hz, hsz, hby⟩ := info_row word_info
  have hmk := fun W => run_make_rowN (P := Tryd.prog) 125 129 i _ Tryd.underlying125 hi hz .i64 .i64 n n (Nat.le_refl _) (by rw [hby]; omega) (by omega) W
  rw [hsz] at hmk
  have hF := Lib.hid (fz_new w n hn)
  clear hi hz hsz hby
  go_enter Tryd.func66, Tryd.ntmps66
  go_wp2
  go_light
  go_ret2
  exact ⟨rfl, hF.out, ((Below.refl _ _).alloc (Nat.le_refl _) _).alloc (by simp) _, by simp⟩

theorem new_any (n : Int) (w : World) (h0 : 0 ≤ n) (h1 : n ≤ 4096) : Calls Tryd.prog 66 #[.int .i64 n] w fun e w' => e = .returned (.tuple #[.pointer (some ⟨w.heap.size + 1, 0, none⟩), .int .i64 0]) ∧
    Fz w' (w.heap.size + 1) w.heap.size (List.replicate n.toNat 0) (List.replicate n.toNat false) ∧ Below w.heap.size w w' ∧ w'.heap.size = w.heap.size + 2 := by
  obtain ⟨n, rfl⟩ := Int.eq_ofNat_of_zero_le h0
  exact new_nat n w (by omega)
set_option maxHeartbeats 400000 in
theorem new_bad (n : Int) (w : World) (h : n < 0 ∨ 4096 < n) : Calls Tryd.prog 66 #[.int .i64 n] w fun e w' => e = .returned (.tuple #[.pointer none, .int .i64 1]) ∧ w = w' := by
  by_cases h0 : n < 0
  · clear h
    go_enter Tryd.func66, Tryd.ntmps66
    go_wp2
    go_light
    go_ret2
    exact ⟨rfl, rfl⟩
  · have h1 : 4096 < n := by omega
    clear h
    go_enter Tryd.func66, Tryd.ntmps66
    go_wp2
    go_light
    go_ret2
    exact ⟨rfl, rfl⟩

end Fuse
end Go.Proofs.YtpakdcgcgekcfaaDoor

/-
  Contracts of package fuse, more: Words.
-/
set_option linter.unusedSimpArgs false
set_option linter.unusedVariables false
namespace Go.Proofs.YtpakdcgcgekcfaaDoor
open Go.RowKit

namespace Fuse
variable {p b : Nat} {vs : List Nat} {ls : List Bool}
/-- A slice of words of the call's own. -/
def Own32 (w : World) (base : Nat) (v : Value) (vs : List Nat) : Prop := w.ownsRow base 43 1 v vs.length (vs.map fun x => Value.int .u32 ((x : Nat) : Int))
theorem Own32.form {w : World} {base : Nat} {v : Value} {vs : List Nat} (h : Own32 w base v vs) (hw : ∀ (i x : Nat), vs[i]? = some x → x < 4294967296) : ∃ A c, v = .slice A vs.length c ∧ vs.length ≤ c ∧ c ≤ maxLen ∧ Nats .u32 4294967296 w w.heap.size A vs := by
  rcases h.2 with ⟨rfl, hn⟩ | ⟨g, cap, cur, rfl, hg, hh, hc, hm, hs, ht⟩
  · refine ⟨none, 0, by rw [hn], by omega, by simp, fun i z hz => ?_⟩
    have : vs = [] := List.eq_nil_of_length_eq_zero hn
    rw [this] at hz; simp at hz
  · refine ⟨some ⟨g, 0, none⟩, cap, rfl, hc, hm, fun i z hz => ⟨hw i z hz, g, 0, rfl, ?_, ?_⟩⟩
    · exact Blk.lt (w := w) (t := 43) (cs := cur) hh
    · have hi : i < vs.length := (List.getElem?_eq_some_iff.1 hz).1
      have := World.ownsRow.cellAt h i (by omega)
      rw [Nat.zero_add, this, List.getElem?_map, hz]
      rfl

theorem Own32.at_ {w : World} {base : Nat} {A : Option Addr} {n c : Nat} {vs : List Nat} (h : Own32 w base (.slice A n c) vs) {i x : Nat} (hx : vs[i]? = some x) :
    ∃ g, A = some ⟨g, 0, none⟩ ∧ base ≤ g ∧ g < w.heap.size ∧ w.cell? ⟨g, i, none⟩ = some (.int .u32 (x : Int)) ∧ w.frozen? ⟨g, i, none⟩ = false ∧ ∀ y : Nat, Own32 (w.setCell ⟨g, i, none⟩ (.int .u32 (y : Int))) base (.slice A n c) (vs.set i y) := by
  have hi : i < vs.length := (List.getElem?_eq_some_iff.1 hx).1
  have h' := h
  rcases h.2 with ⟨hv, hn⟩ | ⟨g, cap, cur, hv, hg, hh, hc, hm, hs, ht⟩
  · omega
  · simp only [Value.slice.injEq] at hv
    obtain ⟨rfl, rfl, rfl⟩ := hv
    refine ⟨g, rfl, hg, Blk.lt (w := w) (t := 43) (cs := cur) hh, ?_, Blk.frozen (w := w) (t := 43) (cs := cur) hh i, fun y => ?_⟩
    · have := World.ownsRow.cellAt h' i (by omega)
      rw [this, List.getElem?_map, hx]
      rfl
    · have := (World.ownsRow.stored h' i (.int .u32 (y : Int))).1
      unfold Own32
      rw [List.length_set, List.map_set]
      exact this

theorem Own32.nilc {w : World} {base : Nat} {A : Option Addr} {n c : Nat} {vs : List Nat} (h : Own32 w base (.slice A n c) vs) : (A = none → c = 0) ∧ ∃ S : List Nat, (∀ ad : Addr, A = some ad → ad.block ∈ S) ∧ ∀ x, x ∈ S → base ≤ x ∧ x < w.heap.size := by
  rcases h.2 with ⟨hv, hn⟩ | ⟨g, cap, cur, hv, hg, hh, hc, hm, hs, ht⟩
  · simp only [Value.slice.injEq] at hv
    exact ⟨fun _ => hv.2.2, [], ⟨(fun ad h => by rw [hv.1] at h; cases h), by simp⟩⟩
  · simp only [Value.slice.injEq] at hv
    obtain ⟨rfl, rfl, rfl⟩ := hv
    exact ⟨(fun h => by cases h), [g], (fun ad h => by cases h; simp), fun x hx => by simp at hx; subst hx; exact ⟨hg, Blk.lt (w := w) (t := 43) (cs := cur) hh⟩⟩

theorem Own32.drewN {w : World} {base : Nat} {v : Value} {vs : List Nat} (h : Own32 w base v vs) (n : Nat) : Own32 (w.drewN n) base v vs := h
theorem Own32.drew {w : World} {base : Nat} {v : Value} {vs : List Nat} (h : Own32 w base v vs) : Own32 w.drew base v vs := h

theorem u32_info : (Tryd.prog.info? 43).map (fun i => (i.zero, i.size, i.bytes)) = some (some (.int .u32 0), 1, 4) := by kernel_rfl

def WordsOut (w : World) (vs : List Nat) (e : Ending) (w' : World) : Prop := ∃ v, e = .returned v ∧ Own32 w' w.heap.size v vs ∧ Below w.heap.size w w'

set_option maxHeartbeats 1000000 in
theorem words_any (w : World) (h : Fz w p b vs ls) : Calls Tryd.prog 22 #[.pointer (some ⟨p, 0, none⟩)] w (WordsOut w vs) := by
  obtain ⟨i0, hi0, hz0, hz1, hz2⟩ := info_row u32_info
  obtain ⟨c, hc, hp⟩ := h.cell0
  have hm := h.most
  have HI := Lib.hid hi0
  have HI1 := Lib.hid hz0
  have HI2 := Lib.hid hz1
  have HI3 := Lib.hid hz2
  have H := Lib.hid h
  clear hi0 hz0 hz1 hz2 h
  go_enter Tryd.func22, Tryd.ntmps22
  go_wp2_with fail
  go_loopg [3, 13] vs.length (fun g s3 s13 wr => ∃ i : Nat, i + g = vs.length ∧ s13 = .int .i64 (i : Int) ∧ Own32 wr w.heap.size s3 (vs.take i) ∧ Below w.heap.size w wr)
  case atStart => exact ⟨0, by omega, rfl, World.ownsRow_nil _ _ _ _, Below.refl _ _⟩
  case round =>
    obtain ⟨i, hg, rfl, hO, hB⟩ := hrel
    have HG := Lib.hid hg
    have hig : i ≤ vs.length := by omega
    have HB := Lib.hid hB
    have HO := Lib.hid hO
    clear hg hB hO
    by_cases hlt : i < vs.length
    · have hF := H.out.below HB.out H.out.ltp H.out.ltb
      obtain ⟨x, lx, hx, hlx, hx2, hv, hl⟩ := hF.at_ hlt
      have HX := Lib.hid hx
      have HT := Lib.hid (take_snoc hx)
      have hwl : w.heap.size ≤ wr.heap.size := HB.out.size
      have hbl : b < wr.heap.size := hF.ltb
      clear hF hx hlx
      go_wp2_with (at_builtin; refine wpList_append_own _ rfl (.tmp 17) (.tmp 20) 37 rfl w.heap.size 43 i0 (.int .u32 0) 1 4 Tryd.underlying37 HI.out HI1.out HI2.out HI3.out rfl (by decide) _ _ _ rfl ((HO.out.alloc _).alloc _) ⟨wr.heap.size + 1, 0, none⟩ 1 1 [.int .u32 (x : Int)] rfl rfl ?c1 ?c2 ?c3 ?c4 ?c5 ?_)
      case c1 =>
        have h1 := cell_one_new (wr.alloc (.cells #[.int .u32 (x : Int), .bool lx] 129)) (.int .u32 (x : Int)) 43
        simpa using h1
      case c2 => intro u hu; simp at hu; subst hu; rfl
      case c3 => simp only [List.length_take, maxLen]; omega
      case c4 => simp only [List.length_take]; omega
      case c5 => simp; omega
      · intro v1 w1 hO1 hg1 _
        have hB1 := ((HB.out.alloc HB.out.size (.cells #[.int .u32 (x : Int), .bool lx] 129)).alloc (by simp; omega) (.cells #[.int .u32 (x : Int)] 43)).grown hg1 (by simp; omega) (fun k hk => (World.ownsRow.lt HO.out k hk).1)
        have HO1 := Lib.hid hO1
        have HB1 := Lib.hid hB1
        clear hO1 hB1 hg1
        go_wp2_with fail
        go_light
        go_roundg (vs.length - (i + 1))
        case measure => have := HG.out; omega
        case rel =>
          refine ⟨i + 1, by omega, by go_num, ?_, HB1.out⟩
          have h2 := HO1.out
          unfold Own32
          rw [HT.out]
          have hmin : min i vs.length = i := Nat.min_eq_left hig
          simpa [hmin] using h2
    · go_wp2_with fail
      go_light
      have : i = vs.length := by omega
      subst this
      go_ret
      have hOO := HO.out
      rw [List.take_length] at hOO
      exact ⟨_, rfl, hOO, HB.out⟩
end Fuse
end Go.Proofs.YtpakdcgcgekcfaaDoor

/-
  Package otp: number: words of bytes.
-/
set_option linter.unusedSimpArgs false
set_option linter.unusedVariables false
namespace Go.Proofs.YtpakdcgcgekcfaaDoor
open Go.RowKit

namespace Otp
open Fuse
theorem u32_be4 {a b c d : Nat} (ha : a < 256) (hb : b < 256) (hc : c < 256) (hd : d < 256) :
    bits .or .u32 (bits .or .u32 (bits .or .u32 ((a : Int) * 16777216) ((b : Int) * 65536)) ((c : Int) * 256)) (d : Int) = ((be4 a b c d : Nat) : Int) := by
  have e1 : bits .or .u32 ((a : Int) * 16777216) ((b : Int) * 65536) = (((a * 16777216 ||| b * 65536) : Nat) : Int) := by
    have := u32_or_nat (a * 16777216) (b * 65536) (by omega) (by omega)
    simpa using this
  have h1 : (a * 16777216 ||| b * 65536) < 4294967296 := Nat.or_lt_two_pow (n := 32) (by omega) (by omega)
  have e2 : bits .or .u32 (((a * 16777216 ||| b * 65536) : Nat) : Int) ((c : Int) * 256) = ((((a * 16777216 ||| b * 65536) ||| c * 256) : Nat) : Int) := by
    have := u32_or_nat (a * 16777216 ||| b * 65536) (c * 256) h1 (by omega)
    simpa using this
  have h2 : ((a * 16777216 ||| b * 65536) ||| c * 256) < 4294967296 := Nat.or_lt_two_pow (n := 32) h1 (by omega)
  rw [e1, e2, u32_or_nat _ _ h2 (by omega), be4_or hb hc hd]
/-- The rest of a slice behind its first four elements. -/
theorem nats_four {w : World} {B : Nat} {g off : Nat} {l : List Nat} (h : Nats .u8 256 w B (some ⟨g, off, none⟩) l) : Nats .u8 256 w B (some ⟨g, off + 4, none⟩) (l.drop 4) := fun i z hz => by
  rw [List.getElem?_drop] at hz
  obtain ⟨h1, b, o, h2, h3, h4⟩ := h _ _ hz
  cases h2
  exact ⟨h1, _, _, rfl, h3, by rw [← h4]; congr 2; omega⟩
theorem own_far {w : World} {base g : Nat} {v : Value} {l : List Nat} (h : Own32 w base v l) (hg : g < base) {o : Nat} : some (⟨g, o, none⟩ : Addr).block ≠ v.ownBlock := fun e => by
  have := (World.ownsRow.lt h g e.symm).1
  omega
theorem num_len {k i n c L : Nat} (h : k = i) (h2 : n + 4 * i ≤ L) (h3 : c ≤ maxLen) (h4 : L ≤ c) : k + 1 ≤ maxLen := by
  have : maxLen = 9223372036854775807 := rfl
  omega
theorem num_bytes {k i n L : Nat} (h : k = i) (h2 : n + 4 * i ≤ L) (h3 : L ≤ 1000000000) : (k + 1) * 4 ≤ 140737488355328 := by omega
set_option maxRecDepth 100000 in
set_option maxHeartbeats 4000000 in
theorem number_any (A : Option Addr) (len cap : Nat) (l : List Nat) (w : World) (hl : l.length = len) (hlc : len ≤ cap) (hcm : cap ≤ maxLen) (hlm : l.length ≤ 1000000000) (hz : Nats .u8 256 w w.heap.size A l) :
    Calls Tryd.prog 102 #[.slice A len cap] w (WordsOut w (words4 l)) := by
  obtain ⟨i0, hi0, hz0, hz1, hz2⟩ := info_row u32_info
  have HI := Lib.hid hi0
  have HI1 := Lib.hid hz0
  have HI2 := Lib.hid hz1
  have HI3 := Lib.hid hz2
  have HZ := Lib.hid hz
  subst hl
  have HCM := Lib.hid hcm
  have HLM := Lib.hid hlm
  clear hcm hlm
  clear hi0 hz0 hz1 hz2 hz
  go_enter Tryd.func102, Tryd.ntmps102
  go_wp2_with fail
  go_loopg [0, 3] (l.length / 4) (fun g s0 s3 wr => ∃ (i n c : Nat) (a : Option Addr), i + g = l.length / 4 ∧ n + 4 * i = l.length ∧ n ≤ c ∧ Hid (c ≤ maxLen) ∧ s0 = .slice a n c ∧ Hid (Nats .u8 256 w w.heap.size a (l.drop (4 * i))) ∧ Own32 wr w.heap.size s3 (words4 (l.take (4 * i))) ∧ Below w.heap.size w wr)
  case atStart => exact ⟨0, l.length, cap, A, by omega, by omega, hlc, HCM, rfl, HZ, World.ownsRow_nil _ _ _ _, Below.refl _ _⟩
  case round =>
    obtain ⟨i, n, c, a, hg, hn, hnc, HC, rfl, HZ2, hO, hB⟩ := hrel
    have HG := Lib.hid hg
    have HN := Lib.hid hn
    have hig : n + 4 * i ≤ l.length := by omega
    have HB := Lib.hid hB
    have HO := Lib.hid hO
    have hwl : w.heap.size ≤ wr.heap.size := hB.size
    clear hg hB hO hn
    by_cases hlt : 4 ≤ n
    · have hln : (l.drop (4 * i)).length = n := by rw [List.length_drop]; have := HN.out; omega
      have hg4 : ∀ j, j < 4 → ∃ x, (l.drop (4 * i))[j]? = some x := fun j hj => ⟨_, List.getElem?_eq_getElem (by omega)⟩
      obtain ⟨x0, h0⟩ := hg4 0 (by omega)
      obtain ⟨x1, h1⟩ := hg4 1 (by omega)
      obtain ⟨x2, h2⟩ := hg4 2 (by omega)
      obtain ⟨x3, h3⟩ := hg4 3 (by omega)
      have HZ3 := HZ2.out.below HB.out
      obtain ⟨b0, g0, off, rfl, hg0, hc0⟩ := HZ3 0 x0 h0
      obtain ⟨b1, g1, off1, ha1, -, hc1⟩ := HZ3 1 x1 h1
      cases ha1
      obtain ⟨b2, g1, off1, ha1, -, hc2⟩ := HZ3 2 x2 h2
      cases ha1
      obtain ⟨b3, g1, off1, ha1, -, hc3⟩ := HZ3 3 x3 h3
      cases ha1
      rw [Nat.add_zero] at hc0
      have HT := Lib.hid (words4_take_snoc l i x0 x1 x2 x3 (by rw [List.getElem?_drop] at h0; exact h0) (by rw [List.getElem?_drop] at h1; exact h1) (by rw [List.getElem?_drop] at h2; exact h2) (by rw [List.getElem?_drop] at h3; exact h3))
      have hor := u32_be4 b0 b1 b2 b3
      have hbe := be4_lt b0 b1 b2 b3
      have HH := Lib.hid hln
      have hn4 : (4 : Int) ≤ (n : Int) := by omega
      have hn1 : (0 : Int) < (n : Int) := by omega
      have hn2 : (1 : Int) < (n : Int) := by omega
      have hn3 : (2 : Int) < (n : Int) := by omega
      have hn5 : (3 : Int) < (n : Int) := by omega
      have hm1 : 0 < n := by omega
      have hm2 : 1 < n := by omega
      have hm3 : 2 < n := by omega
      have hm4 : 3 < n := by omega
      clear hln hg4 h0 h1 h2 h3 HZ3 hlt
      go_wp2_with fail
      have k0 : IntKind.u32.wrap (x0 : Int) = x0 := IntWalk.u32_in _ (by omega)
      have k1 : IntKind.u32.wrap (x1 : Int) = x1 := IntWalk.u32_in _ (by omega)
      have k2 : IntKind.u32.wrap (x2 : Int) = x2 := IntWalk.u32_in _ (by omega)
      have k3 : IntKind.u32.wrap (x3 : Int) = x3 := IntWalk.u32_in _ (by omega)
      have k4 : IntKind.u32.wrap ((x0 : Int) * 16777216) = (x0 : Int) * 16777216 := IntWalk.u32_in _ (by omega)
      have k5 : IntKind.u32.wrap ((x1 : Int) * 65536) = (x1 : Int) * 65536 := IntWalk.u32_in _ (by omega)
      have k6 : IntKind.u32.wrap ((x2 : Int) * 256) = (x2 : Int) * 256 := IntWalk.u32_in _ (by omega)
      have hlen : (words4 (l.take (4 * i))).length = i := by rw [words4_length, List.length_take]; have := HN.out; omega
      have HL := Lib.hid hlen
      generalize be4 x0 x1 x2 x3 = y at *
      clear hlen
      go_region_held3 (fun w' => w'.cell? ⟨g0, off, none⟩ = some (.int .u8 (x0 : Int)) ∧ w'.cell? ⟨g0, off + 1, none⟩ = some (.int .u8 (x1 : Int)) ∧ w'.cell? ⟨g0, off + 2, none⟩ = some (.int .u8 (x2 : Int)) ∧ w'.cell? ⟨g0, off + 3, none⟩ = some (.int .u8 (x3 : Int)))
        (first
          | go_keep
          | (go_split_ands
             refine ⟨?_, ?_, ?_, ?_⟩
             · (rw [hgrow.cell_far _ (by simp; omega) (own_far HO.out hg0)]; assumption)
             · (rw [hgrow.cell_far _ (by simp; omega) (own_far HO.out hg0)]; assumption)
             · (rw [hgrow.cell_far _ (by simp; omega) (own_far HO.out hg0)]; assumption)
             · (rw [hgrow.cell_far _ (by simp; omega) (own_far HO.out hg0)]; assumption)))
        ((refine step_append_lies _ (by rfl) _ _ _ (by rfl) w.heap.size 43 i0 _ 1 4 Tryd.underlying37 HI.out HI1.out HI2.out HI3.out rfl (by omega) _ _ _ (by rfl) ((HO.out.alloc _).drew)
            ⟨wr.heap.size, 0, none⟩ 1 1 [.int .u32 (y : Int)] (by rfl) (by rfl) (World.news_of_block (cs := #[.int .u32 (y : Int)]) (t := 43) (fr := (0, 0)) (heap_alloc_new wr _)) (by simp [Value.oneCell'])
            (by omega) (num_len HL.out hig HCM.out hlc) (num_bytes HL.out hig HLM.out) (by simp; omega) (wr.heap.size + 1) (by simp) ?_; intro gg cap1 w1 hown1 hgrow hat hlt1))
      have hB1 := ((HB.out.alloc HB.out.size (.cells #[.int .u32 (y : Int)] 43)).drew).grown hgrow (by simp; omega) (fun k hk => (World.ownsRow.lt HO.out k hk).1)
      have h2 : Own32 w1 w.heap.size (.slice (some ⟨gg, 0, none⟩) ((words4 (l.take (4 * i))).length + 1) cap1) (words4 (l.take (4 * (i + 1)))) := by
        unfold Own32
        rw [HT.out, List.length_append, List.map_append]
        exact hown1
      have HO1 := Lib.hid h2
      have HB1 := Lib.hid hB1
      have HD := Lib.hid (show (l.drop (4 * i)).drop 4 = l.drop (4 * (i + 1)) by rw [List.drop_drop]; congr 1)
      generalize Value.slice (some ⟨gg, 0, none⟩) ((words4 (l.take (4 * i))).length + 1) cap1 = v3 at *
      clear k0 k1 k2 k3 k4 k5 k6 hor hown1 hgrow hat hB1 h2
      by_cases hc4 : c = 4
      · have HE := Lib.hid (show Nats .u8 256 w w.heap.size (some ⟨g0, off, none⟩) (l.drop (4 * (i + 1))) by
          have : l.drop (4 * (i + 1)) = [] := List.drop_eq_nil_of_le (by have := HN.out; omega)
          rw [this]
          intro j z hz
          simp at hz)
        subst hc4
        have hn44 : n = 4 := by omega
        subst hn44
        go_wp2_with fail
        go_light
        go_roundg (l.length / 4 - (i + 1))
        case measure => have := HG.out; omega
        case rel => exact ⟨i + 1, 0, 0, some ⟨g0, off, none⟩, by omega, by have := HN.out; omega, by omega, Lib.hid (by simp [maxLen]), rfl, HE, HO1.out, HB1.out⟩
      · have HE := Lib.hid (show Nats .u8 256 w w.heap.size (some ⟨g0, off + 4, none⟩) (l.drop (4 * (i + 1))) by
          have := nats_four HZ2.out
          rw [HD.out] at this
          exact this)
        have hc5 : 4 < c := by omega
        clear hc4
        go_wp2_with fail
        go_light
        go_roundg (l.length / 4 - (i + 1))
        case measure => have := HG.out; omega
        case rel => exact ⟨i + 1, n - 4, c - 4, some ⟨g0, off + 4, none⟩, by omega, by have := HN.out; omega, by omega, Lib.hid (by have := HC.out; omega), rfl, HE, HO1.out, HB1.out⟩
    · have HI9 := Lib.hid (show i = l.length / 4 by have := HN.out; omega)
      have hlt2 : (n : Int) < 4 := by omega
      clear hlt
      go_wp2_with fail
      go_light
      go_ret
      have e : words4 (l.take (4 * i)) = words4 l := by
        have hs := words4_four (l.take (4 * i)) (l.drop (4 * i)) i (by rw [List.length_take]; have := HN.out; omega)
        rw [List.take_append_drop] at hs
        have h0 : (words4 (l.drop (4 * i))).length = 0 := by rw [words4_length, List.length_drop]; have := HN.out; omega
        rw [hs, List.eq_nil_of_length_eq_zero h0, List.append_nil]
      have h2 := HO.out
      rw [e] at h2
      exact ⟨_, rfl, h2, HB.out⟩
end Otp
end Go.Proofs.YtpakdcgcgekcfaaDoor

/-
  math/bits.TrailingZeros32 in this program: the kit's arithmetic (Lib.ctz), the table in its variable.
-/
set_option linter.unusedSimpArgs false
set_option linter.unusedVariables false
namespace Go.Proofs.YtpakdcgcgekcfaaDoor
open Go.RowKit

namespace Otp
/-- The table's variable holds what its initialiser lays. -/
def Tab (w : World) : Prop := TabAt 0 Lib.deBruijn32tab w
theorem Tab.below {B : Nat} {w w' : World} (h : Tab w) (hb : Below B w w') (hB : 0 < B) : Tab w' := fun j hj => (World.cell?_of_block (hb.block _ hB)).trans (h j hj)
theorem Tab.lt {w : World} (h : Tab w) : 0 < w.heap.size := cell_lt (h 0 (by decide))
theorem Tab.old {w w' : World} (h : Tab w) (hb : Below w.heap.size w w') : Tab w' := h.below hb h.lt
theorem Tab.frm {S : List Nat} {w w' : World} (h : Tab w) (hf : Frm S w w') (hS : 0 ∉ S) : Tab w' := fun j hj => (World.cell?_of_block (hf.block _ h.lt hS)).trans (h j hj)

set_option maxHeartbeats 1000000 in
theorem tz32_core (x k idx : Nat) (w : World) (hx0 : ((x : Int) == 0) = false)
    (key : bits BinOp.and IntKind.u32 (x : Int) (-(x : Int) % 4294967296) * 125613361 % 4294967296 / 134217728 = (idx : Int))
    (hi : idx < 32) (hk : k < 32) (hcell : w.cell? ⟨0, idx, none⟩ = some (.int .u8 k)) :
    Calls Tryd.prog 78 #[.int .u32 x] w fun e w' => e = .returned (.int .i64 k) ∧ w = w' := by
  go_enter Tryd.func78, Tryd.ntmps78
  go_wp2_with (simp only [key])
  go_light
  go_ret
  exact ⟨rfl, rfl⟩
theorem tz32_zero (w : World) :
    Calls Tryd.prog 78 #[.int .u32 0] w fun e w' => e = .returned (.int .i64 32) ∧ w = w' := by
  go_enter Tryd.func78, Tryd.ntmps78
  go_wp2
  go_light
  go_ret
  exact ⟨rfl, rfl⟩
/-- TrailingZeros32, every x. -/
theorem tz32 (a : Int) (x : Nat) (w : World) (ha : a = x) (hx : x < 4294967296) (hT : Tab w) :
    Calls Tryd.prog 78 #[.int .u32 a] w fun e w' => e = .returned (.int .i64 ((Lib.ctz 32 x : Nat) : Int)) ∧ w = w' := by
  subst ha
  by_cases hx0 : x = 0
  · subst hx0
    exact tz32_zero w
  · obtain ⟨hlow, hk⟩ := Lib.lowest_bit 32 x hx0 hx
    obtain ⟨hi, htab⟩ := Lib.deBruijn32_at _ hk
    have hcell := hT _ hi
    rw [htab] at hcell
    exact tz32_core x _ _ w (by simp; omega) (tz32_key x _ hx hx0 hlow) hi hk hcell
end Otp
end Go.Proofs.YtpakdcgcgekcfaaDoor

/-
  Package otp: a chip in memory ('Cz'); New, all, Counter.
-/
set_option linter.unusedSimpArgs false
set_option linter.unusedVariables false
namespace Go.Proofs.YtpakdcgcgekcfaaDoor
open Go.RowKit

namespace Otp
open Fuse
structure Cz (w : World) (c p b : Nat) (vs : List Nat) (ls : List Bool) (sd : Bool) : Prop where
  fz : Fz w p b vs ls
  len : vs.length = 64
  head : Blk w c 41 #[.pointer (some ⟨p, 0, none⟩), .bool sd]

variable {w w' : World} {c p b : Nat} {vs : List Nat} {ls : List Bool} {sd : Bool}
theorem Cz.frm {S : List Nat} (h : Cz w c p b vs ls sd) (hf : Frm S w w') (hc : c ∉ S) (hp : p ∉ S) (hb : b ∉ S) : Cz w' c p b vs ls sd := ⟨h.fz.frm hf hp hb, h.len, h.head.frm hf hc⟩
theorem Cz.below {B : Nat} (h : Cz w c p b vs ls sd) (hf : Below B w w') (hc : c < B) (hp : p < B) (hb : b < B) : Cz w' c p b vs ls sd := ⟨h.fz.below hf hp hb, h.len, h.head.below hf hc⟩
theorem Cz.old (h : Cz w c p b vs ls sd) (hf : Below w.heap.size w w') : Cz w' c p b vs ls sd := h.below hf h.head.lt h.fz.ltp h.fz.ltb
theorem Cz.drewN (h : Cz w c p b vs ls sd) (n : Nat) : Cz (w.drewN n) c p b vs ls sd := ⟨h.fz.drewN n, h.len, h.head⟩
theorem Cz.drew (h : Cz w c p b vs ls sd) : Cz w.drew c p b vs ls sd := ⟨h.fz.drew, h.len, h.head⟩
theorem Cz.alloc (h : Cz w c p b vs ls sd) (o : Obj) : Cz (w.alloc o) c p b vs ls sd := h.frm ((Frm.refl [] w).alloc o) (by simp) (by simp) (by simp)
theorem Cz.nes (h : Cz w c p b vs ls sd) : c ≠ p ∧ c ≠ b ∧ p ≠ b := by
  obtain ⟨_, _, h1⟩ := h.fz.head
  obtain ⟨_, h2, _⟩ := h.fz.row
  exact ⟨h.head.ne h1 (by decide), h.head.ne h2 (by decide), h.fz.ne⟩
theorem Cz.cell (h : Cz w c p b vs ls sd) : w.cell? ⟨c, 0, none⟩ = some (.pointer (some ⟨p, 0, none⟩)) ∧ w.cell? ⟨c, 1, none⟩ = some (.bool sd) :=
  ⟨by rw [h.head.cell]; rfl, by rw [h.head.cell]; rfl⟩

set_option maxHeartbeats 400000 in
theorem all_any (w : World) (h : Cz w c p b vs ls sd) : Calls Tryd.prog 68 #[.pointer (some ⟨c, 0, none⟩)] w (WordsOut w vs) := by
  obtain ⟨hc0, hc1⟩ := h.cell
  have H := Lib.hid h
  clear h
  go_enter Tryd.func68, Tryd.ntmps68
  go_wp2_with fail
  (with_reducible refine (words_any _ H.out.fz).mono ?_); rintro e w1 ⟨v, rfl, hO, hB⟩
  have HO := Lib.hid hO
  have HB := Lib.hid hB
  clear hO hB
  go_wp2_with fail
  go_light
  go_ret
  exact ⟨_, rfl, HO.out, HB.out⟩

def z64 : List Nat := List.replicate 64 0
def f64 : List Bool := List.replicate 64 false
def NewOut (w : World) (e : Ending) (w' : World) : Prop := ∃ c p b, e = .returned (.pointer (some ⟨c, 0, none⟩)) ∧ Cz w' c p b z64 f64 false ∧ w.heap.size ≤ c ∧ w.heap.size ≤ p ∧ w.heap.size ≤ b ∧ Below w.heap.size w w'
set_option maxHeartbeats 400000 in
theorem new_chip (w : World) : Calls Tryd.prog 16 #[] w (NewOut w) := by
  go_enter Tryd.func16, Tryd.ntmps16
  go_wp2_with fail
  (with_reducible refine (new_any 64 _ (by decide) (by decide)).mono ?_); rintro e w1 ⟨rfl, hz, hb, hs⟩
  have HZ := Lib.hid hz
  have HB := Lib.hid hb
  have hbl : w.heap.size ≤ w1.heap.size := hb.size
  clear hz hb hs
  go_wp2_with fail
  go_light
  go_ret
  have hz : Fz w1 (w.heap.size + 1) w.heap.size z64 f64 := HZ.out
  refine ⟨_, _, _, rfl, ⟨hz.frm ((Frm.refl [] _).alloc _) (by simp) (by simp), by decide, ?_⟩, hbl, by omega, by omega, HB.out.alloc hbl _⟩
  exact Blk.new _ _ _
end Otp
end Go.Proofs.YtpakdcgcgekcfaaDoor

/-
  Package otp: plan: what is to be programmed so that words are as they should be.
-/
set_option linter.unusedSimpArgs false
set_option linter.unusedVariables false
namespace Go.Proofs.YtpakdcgcgekcfaaDoor
open Go.RowKit

namespace Otp
open Fuse
variable {w w' : World} {c p b : Nat} {vs : List Nat} {ls : List Bool} {sd : Bool}
/-- The cells of a list of Writes. -/
def wcells (l : List (Nat × Nat)) : List Value := l.flatMap fun x => [.int .i64 ((x.1 : Nat) : Int), .int .u32 ((x.2 : Nat) : Int)]
theorem wcells_length (l : List (Nat × Nat)) : (wcells l).length = l.length * 2 := by
  induction l with
  | nil => rfl
  | cons x r ih => simp only [wcells, List.flatMap_cons, List.length_append, List.length_cons, List.length_nil] at *; omega
theorem wcells_append (l r : List (Nat × Nat)) : wcells (l ++ r) = wcells l ++ wcells r := by simp [wcells]
theorem wcells_at (l : List (Nat × Nat)) : ∀ (i a v : Nat), l[i]? = some (a, v) → (wcells l)[i * 2]? = some (.int .i64 (a : Int)) ∧ (wcells l)[i * 2 + 1]? = some (.int .u32 (v : Int)) := by
  induction l with
  | nil => intro i a v h; simp at h
  | cons x r ih =>
    intro i a v h
    cases i with
    | zero =>
      simp only [List.getElem?_cons_zero, Option.some.injEq] at h
      subst h
      exact ⟨rfl, rfl⟩
    | succ j =>
      have := ih j a v (by simpa using h)
      rw [show (j + 1) * 2 = j * 2 + 2 by omega, show j * 2 + 2 + 1 = j * 2 + 1 + 2 by omega]
      exact this
/-- A slice of Writes of one's own. -/
def OwnW (w : World) (base : Nat) (v : Value) (l : List (Nat × Nat)) : Prop := w.ownsRow base 58 2 v l.length (wcells l)
theorem write_info : (Tryd.prog.info? 58).map (fun i => (i.zero, i.size, i.bytes)) = some (some (.agg #[.int .i64 0, .int .u32 0]), 2, 16) := by kernel_rfl

/-- Words as they should be, from one on. -/
def planOf (vs : List Nat) : Nat → List Nat → List (Nat × Nat)
  | _, [] => []
  | f, v :: r => (if (vs[f]?.getD 0) ||| v = (vs[f]?.getD 0) then [] else [(f, (vs[f]?.getD 0) ||| v)]) ++ planOf vs (f + 1) r
theorem planOf_append (vs : List Nat) : ∀ (f : Nat) (l r : List Nat), planOf vs f (l ++ r) = planOf vs f l ++ planOf vs (f + l.length) r
  | f, [], r => by simp [planOf]
  | f, x :: l, r => by
    simp only [List.cons_append, planOf, planOf_append vs (f + 1) l r, List.length_cons, List.append_assoc]
    rw [show f + 1 + l.length = f + (l.length + 1) by omega]
theorem planOf_snoc (vs : List Nat) (f : Nat) (l : List Nat) {i x old : Nat} (hx : l[i]? = some x) (ho : vs[f + i]? = some old) :
    planOf vs f (l.take (i + 1)) = planOf vs f (l.take i) ++ (if old ||| x = old then [] else [(f + i, old ||| x)]) := by
  have hi : i < l.length := (List.getElem?_eq_some_iff.1 hx).1
  rw [take_snoc hx, planOf_append, List.length_take, Nat.min_eq_left (by omega)]
  simp [planOf, ho]
theorem planOf_length (vs : List Nat) : ∀ (f : Nat) (l : List Nat), (planOf vs f l).length ≤ l.length
  | f, [] => by simp [planOf]
  | f, x :: l => by
    have := planOf_length vs (f + 1) l
    simp only [planOf, List.length_append, List.length_cons]
    split <;> simp <;> omega

theorem cells_new (w : World) (news : List Value) (cs : Array Value) (hcs : cs = news.toArray) (t : TypeId) : ∀ (j : Nat) (u : Value), news[j]? = some u → (w.alloc (.cells cs t)).cell? ((⟨w.heap.size, 0, none⟩ : Addr).add j) = some u := by
  intro j u hu
  subst hcs
  have hadd : (⟨w.heap.size, 0, none⟩ : Addr).add j = ⟨w.heap.size, j, none⟩ := by unfold Addr.add; split <;> simp_all
  rw [hadd, (Blk.new w t _).cell j]
  simpa using hu

def PlanOut (w : World) (vs : List Nat) (f : Nat) (l : List Nat) (e : Ending) (w' : World) : Prop := ∃ v, e = .returned v ∧ OwnW w' w.heap.size v (planOf vs f l) ∧ Below w.heap.size w w'

set_option maxHeartbeats 2000000 in
theorem plan_any (from_ : Int) (f : Nat) (A : Option Addr) (len cap : Nat) (l : List Nat) (w : World) (h : Cz w c p b vs ls sd) (hf : from_ = f) (hl : l.length = len) (hfl : f + l.length ≤ 64)
    (hz : Nats .u32 4294967296 w w.heap.size A l) :
    Calls Tryd.prog 73 #[.pointer (some ⟨c, 0, none⟩), .int .i64 from_, .slice A len cap] w (PlanOut w vs f l) := by
  obtain ⟨i0, hi0, hz0, hz1, hz2⟩ := info_row write_info
  subst hf
  subst hl
  have HI := Lib.hid hi0
  have HI1 := Lib.hid hz0
  have HI2 := Lib.hid hz1
  have HI3 := Lib.hid hz2
  have H := Lib.hid h
  have HN := Lib.hid hz
  clear hi0 hz0 hz1 hz2 h hz
  go_enter Tryd.func73, Tryd.ntmps73
  go_wp2_with fail
  go_loopg [7, 13] l.length (fun g s7 s13 wr => ∃ i : Nat, i + g = l.length ∧ s13 = .int .i64 (i : Int) ∧ OwnW wr w.heap.size s7 (planOf vs f (l.take i)) ∧ Below w.heap.size w wr)
  case atStart => exact ⟨0, by omega, rfl, World.ownsRow_nil _ _ _ _, Below.refl _ _⟩
  case round =>
    obtain ⟨i, hg, rfl, hO, hB⟩ := hrel
    have HG := Lib.hid hg
    have hig : i ≤ l.length := by omega
    have HB := Lib.hid hB
    have HO := Lib.hid hO
    clear hg hB hO
    by_cases hlt : i < l.length
    · obtain ⟨x, hx⟩ : ∃ x, l[i]? = some x := ⟨_, List.getElem?_eq_getElem hlt⟩
      obtain ⟨hxM, g0, off, rfl, hg0, hcx⟩ := (HN.out.below HB.out) i x hx
      obtain ⟨old, ho⟩ : ∃ old, vs[f + i]? = some old := ⟨_, List.getElem?_eq_getElem (by have := H.out.len; omega)⟩
      have hoM := H.out.fz.word _ _ ho
      have HS := Lib.hid (planOf_snoc vs f l hx ho)
      have hC := H.out.old HB.out
      have HC := Lib.hid hC
      clear hC hx
      go_wp2_with fail
      (with_reducible refine (all_any _ HC.out).mono ?_); rintro e w1 ⟨v, rfl, hO, hB⟩
      obtain ⟨A1, cp, rfl, hc1, hc2, -⟩ := hO.form HC.out.fz.word
      obtain ⟨g1, rfl, hg1, hg2, hco, -⟩ := hO.at_ ho
      have hvl : vs.length = 64 := HC.out.len
      rw [hvl] at hc1 ⊢
      have b1 := u32_or_nat old x hoM hxM
      have hB1 := below_then HB.out hB (Nat.le_refl _)
      have hO1 : OwnW w1 w.heap.size _ _ := own_frm (S := []) HO.out (Frm.of_below hB) (fun y hy => by simp at hy)
      have HB1 := Lib.hid hB1
      have HO1 := Lib.hid hO1
      have hwl : w.heap.size ≤ w1.heap.size := hB1.size
      have hlen := planOf_length vs f (l.take i)
      rw [List.length_take] at hlen
      clear hB hO hB1 hO1 ho HC
      by_cases hs : old ||| x = old
      · rw [hs] at b1
        have hS := HS.out
        rw [if_pos hs, List.append_nil] at hS
        rw [← hS] at HO1
        clear hs hS
        go_wp2_with fail
        go_light
        go_roundg (l.length - (i + 1))
        case measure => have := HG.out; omega
        case rel => exact ⟨i + 1, by omega, by go_num, HO1.out, HB1.out⟩
      · have hne : (((old ||| x : Nat) : Int) != (old : Int)) = true := by
          simp only [bne_iff_ne, ne_eq, Int.ofNat_inj]
          exact hs
        have hS := HS.out
        rw [if_neg hs] at hS
        have HS := Lib.hid hS
        clear hs hS
        generalize hy : old ||| x = y at *
        clear hy
        go_wp2_with (at_builtin; refine wpList_append_own _ rfl (.tmp 30) (.tmp 38) 27 rfl w.heap.size 58 i0 (.agg #[.int .i64 0, .int .u32 0]) 2 16 Tryd.underlying27 HI.out HI1.out HI2.out HI3.out rfl (by decide) _ _ _ rfl (HO1.out.alloc _) ⟨w1.heap.size, 0, none⟩ 1 1 [.int .i64 ((f : Int) + i), .int .u32 (y : Int)] rfl rfl ?c1 ?c2 ?c3 ?c4 ?c5 ?_)
        case c1 => exact cells_new _ _ _ rfl _
        case c2 => intro u hu; simp at hu; rcases hu with rfl | rfl <;> rfl
        case c3 => simp only [maxLen]; omega
        case c4 => omega
        case c5 => simp; omega
        · intro v1 w2 hO1 hg1 _
          have hB1 := (HB1.out.alloc hwl (.cells #[.int .i64 ((f : Int) + i), .int .u32 (y : Int)] 58)).grown hg1 (by simp; omega) (fun k hk => (World.ownsRow.lt HO1.out k hk).1)
          have HO2 := Lib.hid hO1
          have HB2 := Lib.hid hB1
          clear hO1 hB1 hg1
          go_wp2_with fail
          go_light
          go_roundg (l.length - (i + 1))
          case measure => have := HG.out; omega
          case rel =>
            refine ⟨i + 1, by omega, by go_num, ?_, HB2.out⟩
            have h2 := HO2.out
            unfold OwnW
            rw [HS.out, wcells_append, List.length_append]
            exact h2
    · have : i = l.length := by omega
      subst this
      go_wp2_with fail
      go_light
      go_ret
      have hOO := HO.out
      rw [List.take_length] at hOO
      exact ⟨_, rfl, hOO, HB.out⟩
end Otp
end Go.Proofs.YtpakdcgcgekcfaaDoor

/-
  Package otp: Counter.
-/
set_option linter.unusedSimpArgs false
set_option linter.unusedVariables false
namespace Go.Proofs.YtpakdcgcgekcfaaDoor
open Go.RowKit

namespace Otp
open Fuse
variable {w w' : World} {c p b : Nat} {vs : List Nat} {ls : List Bool} {sd : Bool}
/-- How many bits from the first one on. -/
def ctr : List Nat → Nat
  | [] => 0
  | x :: r => if x = 4294967295 then 32 + ctr r else Lib.ctz 32 (4294967295 - x)
def cwords (vs : List Nat) : List Nat := (vs.drop 1).take 8
def counter (vs : List Nat) : Nat := min (ctr (cwords vs)) 255

theorem xor_full (x : Nat) (hx : x < 4294967296) : 4294967295 ^^^ x = 4294967295 - x := by
  have e : 4294967295 - x = 2 ^ 32 - (x + 1) := by omega
  rw [e]
  apply Nat.eq_of_testBit_eq
  intro i
  rw [Nat.testBit_two_pow_sub_succ (show x < 2 ^ 32 from hx), Nat.testBit_xor, show 4294967295 = 2 ^ 32 - 1 from rfl, Nat.testBit_two_pow_sub_one]
  by_cases hi : i < 32
  · simp [hi]
  · have : x.testBit i = false := Nat.testBit_lt_two_pow (Nat.lt_of_lt_of_le hx (Nat.pow_le_pow_right (n := 2) (by decide) (show 32 ≤ i by omega)))
    simp [hi, this]
theorem not_u32 (x : Nat) (hx : x < 4294967296) : bits .xor .u32 IntKind.u32.max (x : Int) = ((4294967295 - x : Nat) : Int) := by
  rw [show IntKind.u32.max = ((4294967295 : Nat) : Int) by decide, u32_xor_nat _ _ (by decide) hx, xor_full x hx]
theorem cwords_drop (h : vs.length = 64) {i x : Nat} (hi : i < 8) (hx : vs[1 + i]? = some x) : (cwords vs).drop i = x :: (cwords vs).drop (i + 1) := by
  have hl : (cwords vs).length = 8 := by simp [cwords, h]
  have hx' : (cwords vs)[i]? = some x := by
    rw [cwords, List.getElem?_take, if_pos hi, List.getElem?_drop]
    exact hx
  obtain ⟨h1, h2⟩ := List.getElem?_eq_some_iff.1 hx'
  rw [List.drop_eq_getElem_cons h1, h2]
theorem ctr_le : ∀ l : List Nat, ctr l ≤ 32 * l.length
  | [] => by simp [ctr]
  | x :: r => by
    simp only [ctr, List.length_cons]
    have := ctr_le r
    split
    · omega
    · by_cases hx : 4294967295 - x = 0
      · simp [Lib.ctz, hx]; omega
      · have := (Lib.lowest_bit 32 (4294967295 - x) hx (by omega)).2
        omega

set_option maxHeartbeats 1000000 in
theorem counter_any (w : World) (h : Cz w c p b vs ls sd) (hT : Tab w) : Calls Tryd.prog 27 #[.pointer (some ⟨c, 0, none⟩)] w
    fun e w' => e = .returned (.int .i64 ((counter vs : Nat) : Int)) ∧ Below w.heap.size w w' := by
  have H := Lib.hid h
  have HT := Lib.hid hT
  clear h hT
  go_enter Tryd.func27, Tryd.ntmps27
  go_wp2_with fail
  (with_reducible refine (all_any _ H.out).mono ?_); rintro e w1 ⟨v, rfl, hO, hB⟩
  obtain ⟨A, cp, rfl, hc1, hc2, hN⟩ := hO.form H.out.fz.word
  have hl := H.out.len
  obtain ⟨g, rfl, hg1, hg2, -⟩ := hO.at_ (List.getElem?_eq_getElem (show 0 < vs.length by omega))
  have hC : ∀ (i x : Nat), vs[i]? = some x → w1.cell? ⟨g, i, none⟩ = some (.int .u32 (x : Int)) := fun i x hx => by
    obtain ⟨g', hg', _, _, hc, _⟩ := hO.at_ hx
    cases hg'
    exact hc
  have HB := Lib.hid hB
  have HT1 := Lib.hid (HT.out.old hB)
  have HW := Lib.hid H.out.fz.word
  have HC := Lib.hid hC
  clear hO hB hN HT hC
  rw [hl] at hc1 ⊢
  go_wp2_with fail
  go_loopg [3, 11] 8 (fun g s3 s11 wr => ∃ i : Nat, i + g = 8 ∧ s11 = .int .i64 (i : Int) ∧ s3 = .int .i64 ((32 * i : Nat) : Int) ∧ ctr (cwords vs) = 32 * i + ctr ((cwords vs).drop i) ∧ wr = w1)
  case atStart => exact ⟨0, by omega, rfl, rfl, by simp, rfl⟩
  case round =>
    obtain ⟨i, hgi, rfl, rfl, hc, rfl⟩ := hrel
    have HG := Lib.hid hgi
    have hi8 : i ≤ 8 := by omega
    clear hgi
    by_cases hlt : i < 8
    · obtain ⟨x, hx⟩ : ∃ x, vs[1 + i]? = some x := ⟨_, List.getElem?_eq_getElem (by omega)⟩
      have hcx := HC.out _ _ hx
      have hxb := HW.out _ _ hx
      have hd := cwords_drop hl hlt hx
      rw [hd, ctr] at hc
      have Hc := Lib.hid hc
      clear hd hc hx
      go_wp2_with fail
      (with_reducible refine (tz32 _ (4294967295 - x) _ (not_u32 x hxb) (by omega) HT1.out).mono ?_); rintro e w' ⟨rfl, rfl⟩
      by_cases hf : x = 4294967295
      · have hz : Lib.ctz 32 (4294967295 - x) = 32 := by rw [hf]; rfl
        rw [hz]
        have hc2 : ctr (cwords vs) = 32 * (i + 1) + ctr (List.drop (i + 1) (cwords vs)) := by rw [Hc.out, if_pos hf]; omega
        have Hc2 := Lib.hid hc2
        clear hc2 hz hf
        go_wp2_with fail
        go_light
        go_roundg (8 - (i + 1))
        case measure => have := HG.out; omega
        case rel => exact ⟨i + 1, by omega, by go_num, by go_num, Hc2.out, rfl⟩
      · have hk : Lib.ctz 32 (4294967295 - x) < 32 := (Lib.lowest_bit 32 _ (by omega) (by omega)).2
        have hc2 : counter vs = min (32 * i + Lib.ctz 32 (4294967295 - x)) 255 := by rw [counter, Hc.out, if_neg hf]
        generalize Lib.ctz 32 (4294967295 - x) = k at *
        have Hc2 := Lib.hid hc2
        clear hc2 hf Hc
        go_wp2_with fail
        go_light
        go_ret
        rw [Hc2.out]
        exact ⟨by go_num, HB.out⟩
    · have : i = 8 := by omega
      subst this
      have hc2 : counter vs = min 256 255 := by
        rw [counter, hc]
        have : (cwords vs).drop 8 = [] := List.drop_eq_nil_of_le (by simp [cwords]; omega)
        rw [this]; rfl
      have Hc2 := Lib.hid hc2
      clear hc2 hc
      go_wp2_with fail
      go_light
      go_ret
      rw [Hc2.out]
      exact ⟨rfl, HB.out⟩
end Otp
end Go.Proofs.YtpakdcgcgekcfaaDoor

/-
  Package otp: ToCounter.
-/
set_option linter.unusedSimpArgs false
set_option linter.unusedVariables false
namespace Go.Proofs.YtpakdcgcgekcfaaDoor
open Go.RowKit

namespace Otp
open Fuse
variable {w w' : World} {c p b : Nat} {vs : List Nat} {ls : List Bool} {sd : Bool}
/-- The counter's eight words behind n rounds. -/
def lw : Nat → List Nat
  | 0 => List.replicate 8 0
  | i + 1 => (lw i).set (i / 32) (((lw i)[i / 32]?.getD 0) ||| 2 ^ (i % 32))
theorem lw_length : ∀ n, (lw n).length = 8
  | 0 => rfl
  | i + 1 => by simp [lw, lw_length i]
theorem pow_lt (i : Nat) : (2 : Nat) ^ (i % 32) < 4294967296 := by
  have : (2 : Nat) ^ (i % 32) < 2 ^ 32 := Nat.pow_lt_pow_right (by decide) (by omega)
  omega
theorem lw_word : ∀ (n i x : Nat), (lw n)[i]? = some x → x < 4294967296
  | 0, i, x, h => by
    rw [lw] at h
    obtain ⟨_, rfl⟩ := List.getElem?_eq_some_iff.1 h
    rw [List.getElem_replicate]
    decide
  | n + 1, i, x, h => by
    simp only [lw, List.getElem?_set] at h
    split at h
    · split at h
      · cases h
        refine Nat.or_lt_two_pow (n := 32) ?_ (pow_lt n)
        cases hg : (lw n)[n / 32]? with
        | none => simp
        | some y => simpa using lw_word n _ y hg
      · cases h
    · exact lw_word n i x h
def c32 (vs : List Nat) : Array Value := (vs.map fun x => Value.int .u32 ((x : Nat) : Int)).toArray
theorem c32_at {vs : List Nat} {i x : Nat} (h : vs[i]? = some x) : (c32 vs)[i]? = some (.int .u32 (x : Int)) := by simp [c32, h]
theorem c32_set (vs : List Nat) (i y : Nat) : (c32 vs).setIfInBounds i (.int .u32 (y : Int)) = c32 (vs.set i y) := by
  simp [c32, List.map_set]
theorem nats_blk {w : World} {L : Nat} {t : TypeId} {l : List Nat} (h : Blk w L t (c32 l)) (hw : ∀ (i x : Nat), l[i]? = some x → x < 4294967296) : Nats .u32 4294967296 w w.heap.size (some ⟨L, 0, none⟩) l := fun i z hz =>
  ⟨hw i z hz, L, 0, rfl, h.lt, by rw [Nat.zero_add, h.cell, c32_at hz]⟩
theorem pow_mod' (k : Nat) (hk : k < 32) : (2 : Int) ^ k % 4294967296 = ((2 ^ k : Nat) : Int) := by
  have hp : (2 : Nat) ^ k < 2 ^ 32 := Nat.pow_lt_pow_right (by decide) hk
  have e : ((2 : Int) ^ k) = ((2 ^ k : Nat) : Int) := by simp
  rw [e]
  generalize 2 ^ k = x at *
  omega

theorem ownW_le {w : World} {B B' : Nat} {v : Value} {l : List (Nat × Nat)} (h : OwnW w B v l) (hB : B' ≤ B) : OwnW w B' v l := by
  refine ⟨h.1, ?_⟩
  rcases h.2 with h0 | ⟨g, cap, cur, hv, hg, rest⟩
  · exact .inl h0
  · exact .inr ⟨g, cap, cur, hv, Nat.le_trans hB hg, rest⟩

def tcE (vs : List Nat) (n : Int) : Int := if n < 0 ∨ 255 < n then 1 else if n < counter vs then 15 else 0
def tcL (vs : List Nat) (n : Int) : List (Nat × Nat) := if tcE vs n = 0 then planOf vs 1 (lw n.toNat) else []
def ToOut (w : World) (er : Int) (l : List (Nat × Nat)) (e : Ending) (w' : World) : Prop := ∃ v, e = .returned (.tuple #[v, .int .i64 er]) ∧ OwnW w' w.heap.size v l ∧ Below w.heap.size w w'

set_option maxHeartbeats 2000000 in
theorem tocounter_any (n : Int) (w : World) (h : Cz w c p b vs ls sd) (hT : Tab w) :
    Calls Tryd.prog 65 #[.pointer (some ⟨c, 0, none⟩), .int .i64 n] w (ToOut w (tcE vs n) (tcL vs n)) := by
  have H := Lib.hid h
  have HT := Lib.hid hT
  clear h hT
  by_cases h0 : n < 0
  · have e1 : tcE vs n = 1 := by simp [tcE, h0]
    have e2 : tcL vs n = [] := by simp [tcL, e1]
    rw [e1, e2]
    clear e1 e2
    go_enter Tryd.func65, Tryd.ntmps65
    go_wp2_with fail
    go_light
    go_ret2
    exact ⟨_, rfl, World.ownsRow_nil _ _ _ _, Below.refl _ _⟩
  obtain ⟨k, rfl⟩ := Int.eq_ofNat_of_zero_le (show 0 ≤ n by omega)
  by_cases h1 : 255 < k
  · have e1 : tcE vs k = 1 := by simp [tcE]; omega
    have e2 : tcL vs k = [] := by simp [tcL, e1]
    rw [e1, e2]
    clear e1 e2
    go_enter Tryd.func65, Tryd.ntmps65
    go_wp2_with fail
    go_light
    go_ret2
    exact ⟨_, rfl, World.ownsRow_nil _ _ _ _, Below.refl _ _⟩
  by_cases h2 : k < counter vs
  · have e1 : tcE vs k = 15 := by simp [tcE, h2]; omega
    have e2 : tcL vs k = [] := by simp [tcL, e1]
    rw [e1, e2]
    clear e1 e2
    go_enter Tryd.func65, Tryd.ntmps65
    go_wp2_with fail
    (with_reducible refine (counter_any _ H.out HT.out).mono ?_); rintro e w1 ⟨rfl, hB⟩
    have HB := Lib.hid hB
    clear hB
    go_wp2_with fail
    go_light
    go_ret2
    exact ⟨_, rfl, World.ownsRow_nil _ _ _ _, HB.out⟩
  · have e1 : tcE vs k = 0 := by simp [tcE, h2]; omega
    have e2 : tcL vs k = planOf vs 1 (lw k) := by simp [tcL, e1]
    rw [e1, e2]
    clear e1 e2
    go_enter Tryd.func65, Tryd.ntmps65
    go_wp2_with fail
    (with_reducible refine (counter_any _ H.out HT.out).mono ?_); rintro e w1 ⟨rfl, hB⟩
    have HB := Lib.hid hB
    have hwl : w.heap.size ≤ w1.heap.size := hB.size
    clear hB
    go_wp2_with fail
    go_loopg [24] k (fun g s24 wr => ∃ i : Nat, i + g = k ∧ s24 = .int .i64 (i : Int) ∧ Blk wr w1.heap.size 118 (c32 (lw i)) ∧ Below w.heap.size w wr)
    case atStart => exact ⟨0, by omega, rfl, Blk.new _ _ _, HB.out.alloc hwl _⟩
    case round =>
      obtain ⟨i, hg, rfl, hK, hB⟩ := hrel
      have HG := Lib.hid hg
      have hig : i ≤ k := by omega
      have HK := Lib.hid hK
      have HB2 := Lib.hid hB
      clear hg hB hK
      by_cases hlt : i < k
      · obtain ⟨x, hx⟩ : ∃ x, (lw i)[i / 32]? = some x := ⟨_, List.getElem?_eq_getElem (by rw [lw_length]; omega)⟩
        have hxM := lw_word _ _ _ hx
        have hlw : lw (i + 1) = (lw i).set (i / 32) (x ||| 2 ^ (i % 32)) := by simp [lw, hx]
        have hcx : wr.cell? ⟨w1.heap.size, i / 32, none⟩ = some (.int .u32 (x : Int)) := by rw [HK.out.cell, c32_at hx]
        have hfr : wr.frozen? ⟨w1.heap.size, i / 32, none⟩ = false := HK.out.frozen _
        have b3 := u32_or_nat x (2 ^ (i % 32)) hxM (pow_lt i)
        have HLW := Lib.hid hlw
        clear hx hlw
        go_wp2_with fail
        go_region
        go_wp2_with fail
        go_light
        go_roundg (k - (i + 1))
        case measure => have := HG.out; omega
        case rel =>
          refine ⟨i + 1, by omega, by go_num, ?_, ?_⟩
          · have hpm := pow_mod' (i % 32) (by omega)
            rw [hpm, b3, HLW.out, ← c32_set]
            exact (HK.out.set _ _).drew
          · exact (HB2.out.setCell hwl _).drew
      · have : i = k := by omega
        subst this
        have HN := Lib.hid (nats_blk HK.out (lw_word i))
        have HC := Lib.hid (H.out.old HB2.out)
        have hl8 := lw_length i
        go_wp2_with fail
        (with_reducible refine (plan_any 1 1 _ 8 8 (lw i) _ HC.out rfl hl8 (by omega) HN.out).mono ?_); rintro e w2 ⟨v, rfl, hO, hB⟩
        have HO := Lib.hid hO
        have HB3 := Lib.hid hB
        clear hO hB
        go_wp2_with fail
        go_light
        go_ret2
        exact ⟨_, rfl, ownW_le HO.out HB2.out.size, below_then HB2.out HB3.out (Nat.le_refl _)⟩
end Otp
end Go.Proofs.YtpakdcgcgekcfaaDoor

/-
  sha.word, sha.Words: bytes as words.
-/
set_option linter.unusedSimpArgs false
set_option linter.unusedVariables false
namespace Go.Proofs.YtpakdcgcgekcfaaDoor
open Go.RowKit

namespace Otp
open Fuse
/-- Bytes as cells. -/
def b8 (l : List Nat) : Array Value := (l.map fun x => Value.int .u8 ((x : Nat) : Int)).toArray
theorem b8_at {l : List Nat} {i x : Nat} (h : l[i]? = some x) : (b8 l)[i]? = some (.int .u8 (x : Int)) := by simp [b8, h]
theorem nats_b8 {w : World} {L : Nat} {t : TypeId} {l : List Nat} (h : Blk w L t (b8 l)) (hw : ∀ x ∈ l, x < 256) : Nats .u8 256 w w.heap.size (some ⟨L, 0, none⟩) l := fun i z hz =>
  ⟨hw z (List.mem_of_getElem? hz), L, 0, rfl, h.lt, by rw [Nat.zero_add, h.cell, b8_at hz]⟩
set_option maxHeartbeats 1000000 in
theorem word_any (g off : Nat) (cap : Nat) (a b c d : Nat) (w : World) (ha : a < 256) (hb : b < 256) (hc : c < 256) (hd : d < 256)
    (h0 : w.cell? ⟨g, off, none⟩ = some (.int .u8 (a : Int))) (h1 : w.cell? ⟨g, off + 1, none⟩ = some (.int .u8 (b : Int))) (h2 : w.cell? ⟨g, off + 2, none⟩ = some (.int .u8 (c : Int))) (h3 : w.cell? ⟨g, off + 3, none⟩ = some (.int .u8 (d : Int))) :
    Calls Tryd.prog 99 #[.slice (some ⟨g, off, none⟩) 4 cap] w fun e w' => e = .returned (.int .u32 ((be4 a b c d : Nat) : Int)) ∧ ∃ n, w' = w.drewN n := by
  have HO := Lib.hid (u32_be4 ha hb hc hd)
  go_enter Tryd.func99, Tryd.ntmps99
  go_wp2_with fail
  go_quiet (fail)
  go_wp2_with fail
  go_light
  go_ret
  exact ⟨by rw [← HO.out]; rfl, _, rfl⟩
def WordsArr (w : World) (l : List Nat) (e : Ending) (w' : World) : Prop := e = .returned (.agg (c32 l)) ∧ Below w.heap.size w w'
theorem eight {l : List Nat} (h : l.length = 8) : ∃ a b c d e f g k, l = [a, b, c, d, e, f, g, k] := by
  match l, h with
  | [a, b, c, d, e, f, g, k], _ => exact ⟨a, b, c, d, e, f, g, k, rfl⟩
set_option maxRecDepth 100000 in
set_option maxHeartbeats 4000000 in
theorem words_arr (ds : List Nat) (w : World) (hl : ds.length = 32) (hd : ∀ x ∈ ds, x < 256) :
    Calls Tryd.prog 69 #[.agg (b8 ds)] w (WordsArr w (words4 ds)) := by
  have HL := Lib.hid hl
  have HD := Lib.hid hd
  clear hl hd
  go_enter Tryd.func69, Tryd.ntmps69
  go_wp2_with fail
  go_loopg [4, 5] 8 (fun g s4 s5 wr => ∃ (i : Nat) (cur : List Nat), i + g = 8 ∧ s5 = .int .i64 (i : Int) ∧ cur.length = 8 ∧ Hid (∀ j, j < i → cur[j]? = (words4 ds)[j]?) ∧ Hid (Blk wr w.heap.size 23 (b8 ds)) ∧ Hid (Blk wr (w.heap.size + 1) 118 (c32 [0, 0, 0, 0, 0, 0, 0, 0])) ∧ Hid (Blk wr (w.heap.size + 1 + 1) 118 (c32 cur)) ∧ Hid (Below w.heap.size w wr))
  case atStart =>
    refine ⟨0, [0, 0, 0, 0, 0, 0, 0, 0], by omega, rfl, rfl, Lib.hid (fun j hj => absurd hj (by omega)), Lib.hid ?_, Lib.hid ?_, Lib.hid ?_, Lib.hid ?_⟩
    · exact ((Blk.new w _ _).alloc _).alloc _
    · exact Blk.alloc (blk_new' (by simp)) _
    · exact blk_new' (by simp)
    · exact (((Below.refl _ w).alloc (Nat.le_refl _) _).alloc (by simp) _).alloc (by simp; omega) _
  case round =>
    obtain ⟨i, cur, hg, rfl, hcl, HC, HK, HZ, HW, HB⟩ := hrel
    have HG := Lib.hid hg
    have hi : i ≤ 8 := by omega
    have HCL := Lib.hid hcl
    clear hg hcl
    by_cases hlt : i < 8
    · have hx : ∀ j, j < 4 → ∃ x, ds[4 * i + j]? = some x := fun j hj => ⟨_, List.getElem?_eq_getElem (by have := HL.out; omega)⟩
      obtain ⟨x0, h0⟩ := hx 0 (by omega)
      obtain ⟨x1, h1⟩ := hx 1 (by omega)
      obtain ⟨x2, h2⟩ := hx 2 (by omega)
      obtain ⟨x3, h3⟩ := hx 3 (by omega)
      have g0 : wr.cell? ⟨w.heap.size, 4 * i, none⟩ = some (.int .u8 (x0 : Int)) := by rw [HK.out.cell]; exact b8_at h0
      have g1 : wr.cell? ⟨w.heap.size, 4 * i + 1, none⟩ = some (.int .u8 (x1 : Int)) := by rw [HK.out.cell]; exact b8_at h1
      have g2 : wr.cell? ⟨w.heap.size, 4 * i + 2, none⟩ = some (.int .u8 (x2 : Int)) := by rw [HK.out.cell]; exact b8_at h2
      have g3 : wr.cell? ⟨w.heap.size, 4 * i + 3, none⟩ = some (.int .u8 (x3 : Int)) := by rw [HK.out.cell]; exact b8_at h3
      have G0 := Lib.hid g0
      have G1 := Lib.hid g1
      have G2 := Lib.hid g2
      have G3 := Lib.hid g3
      have b0 := HD.out x0 (List.mem_of_getElem? h0)
      have b1 := HD.out x1 (List.mem_of_getElem? h1)
      have b2 := HD.out x2 (List.mem_of_getElem? h2)
      have b3 := HD.out x3 (List.mem_of_getElem? h3)
      have HX := Lib.hid (words4_get ds i x0 x1 x2 x3 h0 h1 h2 h3)
      obtain ⟨old, ho⟩ : ∃ old, cur[i]? = some old := ⟨_, List.getElem?_eq_getElem (by have := HCL.out; omega)⟩
      have hold : wr.cell? ⟨w.heap.size + 1 + 1, i, none⟩ = some (.int .u32 (old : Int)) := by rw [HW.out.cell, c32_at ho]
      have hfr : wr.frozen? ⟨w.heap.size + 1 + 1, i, none⟩ = false := HW.out.frozen i
      have hsz := HW.out.lt
      have hsl := run_slice_arr (P := Tryd.prog) 23 5 32 Tryd.underlying23 (fun _ => by kernel_rfl) w.heap.size (4 * i) (4 * i + 4) .i64 .i64 (4 * (i : Int)) (4 * (i : Int) + 4) (by omega) (by omega) (by omega) (by omega) (by omega)
      rw [show 4 * i + 4 - 4 * i = 4 by omega] at hsl
      clear hx h0 h1 h2 h3 g0 g1 g2 g3 ho
      go_wp2_with fail
      (with_reducible refine (word_any _ _ _ x0 x1 x2 x3 _ b0 b1 b2 b3 G0.out G1.out G2.out G3.out).mono ?_); rintro e w2 ⟨rfl, n, rfl⟩
      generalize be4 x0 x1 x2 x3 = y at *
      go_wp2_with fail
      go_light
      go_roundg (8 - (i + 1))
      case measure => have := HG.out; omega
      case rel =>
        refine ⟨i + 1, cur.set i y, by omega, by go_num, by rw [List.length_set]; exact HCL.out, Lib.hid (fun j hj => ?_), Lib.hid ?_, Lib.hid ?_, Lib.hid ?_, Lib.hid ?_⟩
        · by_cases hji : j = i
          · subst hji
            rw [List.getElem?_set_self (by have := HCL.out; omega), HX.out]
          · rw [List.getElem?_set_ne (fun h => hji h.symm)]
            exact HC.out j (by omega)
        · exact (HK.out.far' _ _ (by omega) _)
        · exact (HZ.out.far' _ _ (by omega) _)
        · have := HW.out.set i (.int .u32 (y : Int))
          rw [c32_set] at this
          exact this
        · exact Below.drewN (HB.out.setCell (p := ⟨w.heap.size + 1 + 1, i, none⟩) (by show w.heap.size ≤ w.heap.size + 1 + 1; omega) _) n
    · have : i = 8 := by omega
      subst this
      have e : cur = words4 ds := by
        apply List.ext_getElem?
        intro j
        by_cases hj : j < 8
        · exact HC.out j hj
        · rw [List.getElem?_eq_none (by have := HCL.out; omega), List.getElem?_eq_none (by rw [words4_length]; have := HL.out; omega)]
      have HE := Lib.hid e.symm
      obtain ⟨y0, y1, y2, y3, y4, y5, y6, y7, rfl⟩ := eight HCL.out
      have c0 : wr.cell? ⟨w.heap.size + 1 + 1, 0, none⟩ = some (.int .u32 (y0 : Int)) := by rw [HW.out.cell]; rfl
      have c1 : wr.cell? ⟨w.heap.size + 1 + 1, 1, none⟩ = some (.int .u32 (y1 : Int)) := by rw [HW.out.cell]; rfl
      have c2 : wr.cell? ⟨w.heap.size + 1 + 1, 2, none⟩ = some (.int .u32 (y2 : Int)) := by rw [HW.out.cell]; rfl
      have c3 : wr.cell? ⟨w.heap.size + 1 + 1, 3, none⟩ = some (.int .u32 (y3 : Int)) := by rw [HW.out.cell]; rfl
      have c4 : wr.cell? ⟨w.heap.size + 1 + 1, 4, none⟩ = some (.int .u32 (y4 : Int)) := by rw [HW.out.cell]; rfl
      have c5 : wr.cell? ⟨w.heap.size + 1 + 1, 5, none⟩ = some (.int .u32 (y5 : Int)) := by rw [HW.out.cell]; rfl
      have c6 : wr.cell? ⟨w.heap.size + 1 + 1, 6, none⟩ = some (.int .u32 (y6 : Int)) := by rw [HW.out.cell]; rfl
      have c7 : wr.cell? ⟨w.heap.size + 1 + 1, 7, none⟩ = some (.int .u32 (y7 : Int)) := by rw [HW.out.cell]; rfl
      have z0 : wr.cell? ⟨w.heap.size + 1, 0, none⟩ = some (.int .u32 0) := by rw [HZ.out.cell]; rfl
      have z1 : wr.cell? ⟨w.heap.size + 1, 1, none⟩ = some (.int .u32 0) := by rw [HZ.out.cell]; rfl
      have z2 : wr.cell? ⟨w.heap.size + 1, 2, none⟩ = some (.int .u32 0) := by rw [HZ.out.cell]; rfl
      have z3 : wr.cell? ⟨w.heap.size + 1, 3, none⟩ = some (.int .u32 0) := by rw [HZ.out.cell]; rfl
      have z4 : wr.cell? ⟨w.heap.size + 1, 4, none⟩ = some (.int .u32 0) := by rw [HZ.out.cell]; rfl
      have z5 : wr.cell? ⟨w.heap.size + 1, 5, none⟩ = some (.int .u32 0) := by rw [HZ.out.cell]; rfl
      have z6 : wr.cell? ⟨w.heap.size + 1, 6, none⟩ = some (.int .u32 0) := by rw [HZ.out.cell]; rfl
      have z7 : wr.cell? ⟨w.heap.size + 1, 7, none⟩ = some (.int .u32 0) := by rw [HZ.out.cell]; rfl
      have hz := HZ.out.frozen
      have hzl := HZ.out.lt
      have hwl := HW.out.lt
      clear e
      go_wp2_with fail
      have hb : Blk _ _ _ _ := (((((((HZ.out.set 0 (.int .u32 (y0 : Int))).set 1 (.int .u32 (y1 : Int))).set 2 (.int .u32 (y2 : Int))).set 3 (.int .u32 (y3 : Int))).set 4 (.int .u32 (y4 : Int))).set 5 (.int .u32 (y5 : Int))).set 6 (.int .u32 (y6 : Int))).set 7 (.int .u32 (y7 : Int))
      have hB : Below w.heap.size w _ := (((((((HB.out.setCell (p := ⟨w.heap.size + 1, 0, none⟩) (by simp) (.int .u32 (y0 : Int))).setCell (p := ⟨w.heap.size + 1, 1, none⟩) (by simp) (.int .u32 (y1 : Int))).setCell (p := ⟨w.heap.size + 1, 2, none⟩) (by simp) (.int .u32 (y2 : Int))).setCell (p := ⟨w.heap.size + 1, 3, none⟩) (by simp) (.int .u32 (y3 : Int))).setCell (p := ⟨w.heap.size + 1, 4, none⟩) (by simp) (.int .u32 (y4 : Int))).setCell (p := ⟨w.heap.size + 1, 5, none⟩) (by simp) (.int .u32 (y5 : Int))).setCell (p := ⟨w.heap.size + 1, 6, none⟩) (by simp) (.int .u32 (y6 : Int))).setCell (p := ⟨w.heap.size + 1, 7, none⟩) (by simp) (.int .u32 (y7 : Int))
      go_light
      exact bodyPost_ret (v := .agg (c32 [y0, y1, y2, y3, y4, y5, y6, y7])) (results_cell_row Tryd.results69 _ _ (w.heap.size + 1) 118 (c32 [y0, y1, y2, y3, y4, y5, y6, y7]) (0, 0) _ rfl hb Tryd.underlying118 rfl (by kernel_rfl)) rfl ⟨by rw [HE.out], hB⟩
end Otp
end Go.Proofs.YtpakdcgcgekcfaaDoor

/-
  The reference's Cut (curtilageref01): the first bytes, apart.
-/
set_option linter.unusedSimpArgs false
set_option linter.unusedVariables false
namespace Go.Proofs.YtpakdcgcgekcfaaDoor
open Go.RowKit

namespace R1
/-- Bytes of one's own. -/
def OwnB (w : World) (base : Nat) (v : Value) (l : List Nat) : Prop := w.ownsRow base 5 1 v l.length (l.map fun x => Value.int .u8 ((x : Nat) : Int))
theorem u8_info : (Tryd.prog.info? 5).map (fun i => (i.zero, i.size, i.bytes)) = some (some (.int .u8 0), 1, 1) := by kernel_rfl
def BytesOut (w : World) (l : List Nat) (e : Ending) (w' : World) : Prop := ∃ v, e = .returned v ∧ OwnB w' w.heap.size v l ∧ Below w.heap.size w w'
set_option maxHeartbeats 1000000 in
theorem cut_any (A : Option Addr) (len cap : Nat) (l : List Nat) (m : Int) (k : Nat) (w : World) (hl : l.length = len) (hm : len ≤ maxLen) (hmk : m = k) (hk : k ≤ 1000000) (hz : Nats .u8 256 w w.heap.size A l) :
    Calls Tryd.prog 47 #[.slice A len cap, .int .i64 m] w (BytesOut w (l.take k)) := by
  obtain ⟨i0, hi0, hz0, hz1, hz2⟩ := info_row u8_info
  have HI := Lib.hid hi0
  have HI1 := Lib.hid hz0
  have HI2 := Lib.hid hz1
  have HI3 := Lib.hid hz2
  have HN := Lib.hid hz
  subst hmk
  subst hl
  simp only [maxLen] at hm
  clear hi0 hz0 hz1 hz2 hz
  go_enter Tryd.func47, Tryd.ntmps47
  go_wp2_with fail
  go_loopg [5, 10] l.length (fun g s5 s10 wr => ∃ i : Nat, i + g = l.length ∧ s10 = .int .i64 (i : Int) ∧ OwnB wr w.heap.size s5 ((l.take k).take i) ∧ Below w.heap.size w wr)
  case atStart => exact ⟨0, by omega, rfl, World.ownsRow_nil _ _ _ _, Below.refl _ _⟩
  case round =>
    obtain ⟨i, hg, rfl, hO, hB⟩ := hrel
    have HG := Lib.hid hg
    have hig : i ≤ l.length := by omega
    have HB := Lib.hid hB
    have HO := Lib.hid hO
    have hwl : w.heap.size ≤ wr.heap.size := hB.size
    clear hg hB hO
    by_cases hlt : i < l.length
    · obtain ⟨x, hx⟩ : ∃ x, l[i]? = some x := ⟨_, List.getElem?_eq_getElem hlt⟩
      obtain ⟨hxM, g0, off, rfl, hg0, hcx⟩ := (HN.out.below HB.out) i x hx
      by_cases hik : i < k
      · have HT := Lib.hid (take_snoc (l := l.take k) (i := i) (x := x) (by rw [List.getElem?_take, if_pos hik]; exact hx))
        have hlen : ((l.take k).take i).length = i := by rw [List.length_take, List.length_take]; omega
        have HL := Lib.hid hlen
        clear hx
        go_wp2_with (at_builtin; refine wpList_append_own _ rfl (.tmp 18) (.tmp 20) 53 rfl w.heap.size 5 i0 (.int .u8 0) 1 1 Tryd.underlying53 HI.out HI1.out HI2.out HI3.out rfl (by decide) _ _ _ rfl (HO.out.alloc _) ⟨wr.heap.size, 0, none⟩ 1 1 [.int .u8 (x : Int)] rfl rfl ?c1 ?c2 ?c3 ?c4 ?c5 ?_)
        case c1 =>
          have h1 := cell_one_new wr (.int .u8 (x : Int)) 5
          simpa using h1
        case c2 => intro u hu; simp at hu; subst hu; rfl
        case c3 => rw [hlen]; simp only [maxLen]; omega
        case c4 => rw [hlen]; omega
        case c5 => simp; omega
        · intro v1 w1 hO1 hg1 _
          have hB1 := (HB.out.alloc hwl (.cells #[.int .u8 (x : Int)] 5)).grown hg1 (by simp; omega) (fun k hk => (World.ownsRow.lt HO.out k hk).1)
          have HO1 := Lib.hid hO1
          have HB1 := Lib.hid hB1
          clear hO1 hB1 hg1
          go_wp2_with fail
          go_light
          go_roundg (l.length - (i + 1))
          case measure => have := HG.out; omega
          case rel =>
            refine ⟨i + 1, by omega, by go_num, ?_, HB1.out⟩
            have h2 := HO1.out
            unfold OwnB
            rw [HT.out, List.length_append, List.map_append, HL.out]
            simpa [List.map_take] using h2
      · have HT := Lib.hid (show (l.take k).take (i + 1) = (l.take k).take i by rw [List.take_of_length_le (show (l.take k).length ≤ i + 1 by rw [List.length_take]; omega), List.take_of_length_le (show (l.take k).length ≤ i by rw [List.length_take]; omega)])
        clear hx
        go_wp2_with fail
        go_light
        go_roundg (l.length - (i + 1))
        case measure => have := HG.out; omega
        case rel => exact ⟨i + 1, by omega, by go_num, by rw [HT.out]; exact HO.out, HB.out⟩
    · have HT := Lib.hid (show (l.take k).take i = l.take k from List.take_of_length_le (by rw [List.length_take]; omega))
      have : i = l.length := by omega
      subst this
      go_wp2_with fail
      go_light
      go_ret
      have hOO := HO.out
      rw [HT.out] at hOO
      exact ⟨_, rfl, hOO, HB.out⟩
end R1
end Go.Proofs.YtpakdcgcgekcfaaDoor
