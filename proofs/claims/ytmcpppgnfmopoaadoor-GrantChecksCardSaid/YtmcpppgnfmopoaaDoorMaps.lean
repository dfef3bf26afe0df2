/-
  Maps of the call's own whose keys are structs or the like, and whose elements may be anything: what such a map holds, as a list of pairs, the latest first. No program in sight.
-/
import Derived.Test.YtmcpppgnfmopoaaDoorMem
import Derived.Maps.OwnOps
import Derived.Maps.Views
import Derived.DeepKeys4
namespace Go.Proofs.YtmcpppgnfmopoaaDoor
open Go.RowKit Go.Maps

/-- Whatever an element is, it reads as itself. -/
def tokR (v : Value) : Option (DataW Value × List MemPlace) := some (.held v, [])
/-- A key's type, and how keys of plain data are typed as values. -/
structure KeyMap {K : Type} (P : Program) (k : TypeId) (ok : K → Bool) (ky : K → Value) : Prop where
  law : Keyed P k
  lit : ∀ x, ok x = true → ∃ kl, keyOf P k (ky x) = some kl
  inj : ∀ x y, ky x = ky y → x = y

section
variable {K : Type} [BEq K] {P : Program} {k : TypeId} {ok : K → Bool} {ky : K → Value} {w w' : World} {b n : Nat} {L : List (K × Value)}

/-- Block b is a map of at most n entries that holds just what the list says (a key's first pair counts). -/
def Mp (P : Program) (k : TypeId) (ok : K → Bool) (ky : K → Value) (w : World) (b n : Nat) (L : List (K × Value)) : Prop :=
  ∃ D : DataW Value, w.ownsMap P k tokR b n D ∧ IsMap D ∧ ∀ x kl d, ok x = true → keyOf P k (ky x) = some kl → D.atKey kl d = (match L.lookup x with | some v => .held v | none => d)

theorem Mp.made (w : World) : Mp P k ok ky (w.alloc (.map #[] 0)) w.heap.size 0 ([] : List (K × Value)) :=
  ⟨.map [], World.ownsMap_made w P k tokR, isMap_empty, fun x kl d _ _ => by simp; rfl⟩
theorem Mp.kept {row : Option Nat} (h : Mp P k ok ky w b n L) (hg : w.grownBy w' row) (hne : some b ≠ row) : Mp P k ok ky w' b n L := by
  obtain ⟨D, h1, h2, h3⟩ := h
  exact ⟨D, h1.kept hg hne, h2, h3⟩
theorem Mp.alloc (h : Mp P k ok ky w b n L) (o : Obj) : Mp P k ok ky (w.alloc o) b n L := h.kept (World.grownBy_alloc w o none) (by simp)
theorem Mp.drew (h : Mp P k ok ky w b n L) : Mp P k ok ky w.drew b n L := h
theorem Mp.drewN (h : Mp P k ok ky w b n L) (m : Nat) : Mp P k ok ky (w.drewN m) b n L := h
theorem Mp.mono (h : Mp P k ok ky w b n L) {m : Nat} (hm : n ≤ m) : Mp P k ok ky w b m L := by
  obtain ⟨D, h1, h2, h3⟩ := h
  exact ⟨D, h1.mono hm, h2, h3⟩
theorem Mp.lt (h : Mp P k ok ky w b n L) : b < w.heap.size := by
  obtain ⟨D, h1, _⟩ := h
  exact h1.lt
theorem Mp.block {S : List Nat} (h : Mp P k ok ky w b n L) (hf : Frm S w w') (hb : b ∉ S) : Mp P k ok ky w' b n L := by
  have hlt := h.lt
  obtain ⟨D, ⟨es, clock, h1, h4⟩, h2, h3⟩ := h
  exact ⟨D, ⟨es, clock, (hf.block b hlt hb).trans h1, h4⟩, h2, h3⟩
theorem Mp.cell (h : Mp P k ok ky w b n L) {p : Addr} (hp : b ≠ p.block) (u : Value) : Mp P k ok ky (w.setCell p u) b n L := by
  obtain ⟨D, ⟨es, clock, h1, h4⟩, h2, h3⟩ := h
  exact ⟨D, ⟨es, clock, (Below.heap_setCell w p u b hp).trans h1, h4⟩, h2, h3⟩

/-- 'm[k]'. -/
theorem Mp.get {t e : TypeId} (h : Mp P k ok ky w b n L) (Km : KeyMap P k ok ky) (ht : P.underlying t = some (.map k e)) {z : Value} (hz : (zeroValue e).run P w = .ok z w) (x : K) (hx : ok x = true) :
    (Instr.lookup t (.map (some b)) (ky x) false).run P w = .ok ((L.lookup x).getD z) w := by
  obtain ⟨D, h1, h2, h3⟩ := h
  obtain ⟨kl, hkl⟩ := Km.lit x hx
  obtain ⟨v, ps, hrun, hv⟩ := h1.lookup Km.law ht hz (zd := .held z) (zp := []) rfl hkl
  rw [h3 x kl _ hx hkl] at hv
  rw [hrun]
  cases hl : L.lookup x with
  | none =>
    rw [hl] at hv
    simp [tokR] at hv
    simp [hv]
  | some u =>
    rw [hl] at hv
    simp [tokR] at hv
    simp [hv]
variable [LawfulBEq K]
/-- 'm[k] = v'. -/
theorem Mp.put {t e : TypeId} (h : Mp P k ok ky w b n L) (Km : KeyMap P k ok ky) (ht : P.underlying t = some (.map k e)) (hn : n < maxLen) (x : K) (hx : ok x = true) (v : Value) :
    ∃ w', (Instr.mapUpdate t (.map (some b)) (ky x) v).run P w = .ok () w' ∧ Mp P k ok ky w' b (n + 1) ((x, v) :: L) ∧ w.grownBy w' (some b) := by
  obtain ⟨D, h1, h2, h3⟩ := h
  obtain ⟨kl, hkl⟩ := Km.lit x hx
  obtain ⟨w', r1, r2, r3⟩ := h1.update Km.law ht hn (val := v) hkl (d := .held v) (ps := []) rfl
  refine ⟨w', r1, ⟨D.put kl (.held v), r2, h2.put kl _, fun y yl d hy hyl => ?_⟩, r3⟩
  by_cases hxy : y = x
  · subst hxy
    rw [hkl] at hyl
    obtain rfl := Option.some.inj hyl
    rw [atKey_put_same h2 (Km.law.key hkl)]
    simp [List.lookup]
  · have hne : yl ≠ kl := by
      rintro rfl
      exact hxy (Km.inj _ _ (Km.law.inj hyl hkl))
    rw [atKey_put_other hne, h3 y yl d hy hyl]
    have : (y == x) = false := by simpa using hxy
    simp [List.lookup, this]
end

theorem wpList_mapUpdate_mp {K : Type} [BEq K] [LawfulBEq K] {P : Program} (w : World) {ops : Array Oper} {rest : List Oper} {o : Oper} {a : Act} {Q : Exit → Act → World → Prop}
    (hg : o.guard = none) (m x v : Operand) (t : TypeId) (hop : o.op = Op.mapUpdate t m x v) (k e : TypeId) (ok : K → Bool) (ky : K → Value) (Km : KeyMap P k ok ky) (ht : P.underlying t = some (.map k e))
    (b n : Nat) (L : List (K × Value)) (hm : a.eval m = .map (some b)) (hown : Mp P k ok ky w b n L) (hn : n < maxLen) (key : K) (hkey : a.eval x = ky key) (hok : ok key = true) (val : Value) (hv : a.eval v = val)
    (hK : ∀ w', Mp P k ok ky w' b (n + 1) ((key, val) :: L) → w.grownBy w' (some b) → wpList P ops Q rest (a.put o.dst undef) w') :
    wpList P ops Q (o :: rest) a w := by
  refine wpList_plain hg fun K' hK' => ?_
  obtain ⟨w', hrun, r1, r2⟩ := hown.put Km ht hn key hok val
  unfold Oper.wp
  simp [execOp, hop, hm, hkey, hv, hrun, Result.andThen]
  exact hK' _ _ (hK w' r1 r2)
theorem wpList_lookup_mp {K : Type} [BEq K] {P : Program} (w : World) {ops : Array Oper} {rest : List Oper} {o : Oper} {a : Act} {Q : Exit → Act → World → Prop}
    (hg : o.guard = none) (m x : Operand) (t : TypeId) (hop : o.op = Op.lookup t m x false) (k e : TypeId) (ok : K → Bool) (ky : K → Value) (Km : KeyMap P k ok ky) (ht : P.underlying t = some (.map k e))
    (z : Value) (hz : (zeroValue e).run P w = .ok z w)
    (b n : Nat) (L : List (K × Value)) (hm : a.eval m = .map (some b)) (hown : Mp P k ok ky w b n L) (key : K) (hkey : a.eval x = ky key) (hok : ok key = true)
    (hK : wpList P ops Q rest (a.put o.dst ((L.lookup key).getD z)) w) :
    wpList P ops Q (o :: rest) a w := by
  refine wpList_plain hg fun K' hK' => ?_
  have hrun := hown.get Km ht hz key hok
  unfold Oper.wp
  simp [execOp, hop, hm, hkey, hrun, Result.andThen]
  exact hK' _ _ hK

/-- Keys that are structs of integers. -/
theorem keyOf_ints {P : Program} {k : TypeId} {cs : Array Value} {ls : List Lit} (hk : P.keyType k = true) (hw : (match P.underlying k with | some (.array _ _) | some (.struct _) => true | _ => false) = true)
    (hf : (Value.agg cs).formed P k = true) (hl : P.keyLits (P.types.size + 1) k cs.toList = some ls) : ∃ kl, keyOf P k (.agg cs) = some kl := by
  unfold keyOf
  split
  · simp [hk, hf, Value.cells, hl]
  · simp [hk, hf, Value.cells, hl]
  · simp_all
end Go.Proofs.YtmcpppgnfmopoaaDoor
