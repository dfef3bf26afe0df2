/-
  Maps of the call's own whose keys are structs or the like, and whose elements may be anything: what such a map holds, as a list of pairs, the latest first. No program in sight.
-/
import Derived.Test.YtmiaabpnolebhaaGreatDoorJ192fccce
import Derived.Maps.OwnOps
import Derived.Maps.Views
import Derived.Maps.RangeWalk
import Derived.DeepKeys4
set_option linter.unusedSimpArgs false
set_option linter.unusedVariables false
namespace Go.Proofs.YtmiaabpnolebhaaGreatDoor
open Go.RowKit Go.Maps

/-- Whatever an element is, it reads as itself. -/
def tokR (v : Value) : Option (DataW Value × List MemPlace) := some (.held v, [])
/-- A key's type, and how keys of plain data are typed as values. -/
structure KeyMap {K : Type} (P : Program) (k : TypeId) (ok : K → Bool) (ky : K → Value) : Prop where
  law : Keyed P k
  lit : ∀ x, ok x = true → ∃ kl, keyOf P k (ky x) = some kl
  inj : ∀ x y, ky x = ky y → x = y

section
variable {K : Type} [BEq K] {P : Program} {k : TypeId} {ok : K → Bool} {ky : K → Value} {w w' : World} {b n : Nat} {L : List (K × Value)}

/-- Block b is a map of at most n entries that holds just what the list says (a key's first pair counts). -/
def Mp (P : Program) (k : TypeId) (ok : K → Bool) (ky : K → Value) (w : World) (b n : Nat) (L : List (K × Value)) : Prop :=
  ∃ D : DataW Value, w.ownsMap P k tokR b n D ∧ IsMap D ∧ (∀ x kl d, ok x = true → keyOf P k (ky x) = some kl → D.atKey kl d = (match L.lookup x with | some v => .held v | none => d)) ∧
    ∀ kl, has D kl = true → ∃ x, ok x = true ∧ keyOf P k (ky x) = some kl

theorem Mp.made (w : World) : Mp P k ok ky (w.alloc (.map #[] 0)) w.heap.size 0 ([] : List (K × Value)) :=
  ⟨.map [], World.ownsMap_made w P k tokR, isMap_empty, fun x kl d _ _ => by simp; rfl, fun kl h => by cases h⟩
theorem Mp.kept {row : Option Nat} (h : Mp P k ok ky w b n L) (hg : w.grownBy w' row) (hne : some b ≠ row) : Mp P k ok ky w' b n L := by
  obtain ⟨D, h1, h2, h3⟩ := h
  exact ⟨D, h1.kept hg hne, h2, h3⟩
theorem Mp.alloc (h : Mp P k ok ky w b n L) (o : Obj) : Mp P k ok ky (w.alloc o) b n L := h.kept (World.grownBy_alloc w o none) (by simp)
theorem Mp.drew (h : Mp P k ok ky w b n L) : Mp P k ok ky w.drew b n L := h
theorem Mp.drewN (h : Mp P k ok ky w b n L) (m : Nat) : Mp P k ok ky (w.drewN m) b n L := h
theorem Mp.mono (h : Mp P k ok ky w b n L) {m : Nat} (hm : n ≤ m) : Mp P k ok ky w b m L := by
  obtain ⟨D, h1, h2, h3⟩ := h
  exact ⟨D, h1.mono hm, h2, h3⟩
theorem Mp.lt (h : Mp P k ok ky w b n L) : b < w.heap.size := by
  obtain ⟨D, h1, _⟩ := h
  exact h1.lt
theorem Mp.block {S : List Nat} (h : Mp P k ok ky w b n L) (hf : Frm S w w') (hb : b ∉ S) : Mp P k ok ky w' b n L := by
  have hlt := h.lt
  obtain ⟨D, ⟨es, clock, h1, h4⟩, h2, h3⟩ := h
  exact ⟨D, ⟨es, clock, (hf.block b hlt hb).trans h1, h4⟩, h2, h3⟩
theorem Mp.cell (h : Mp P k ok ky w b n L) {p : Addr} (hp : b ≠ p.block) (u : Value) : Mp P k ok ky (w.setCell p u) b n L := by
  obtain ⟨D, ⟨es, clock, h1, h4⟩, h2, h3⟩ := h
  exact ⟨D, ⟨es, clock, (Below.heap_setCell w p u b hp).trans h1, h4⟩, h2, h3⟩

/-- 'm[k]'. -/
theorem Mp.get {t e : TypeId} (h : Mp P k ok ky w b n L) (Km : KeyMap P k ok ky) (ht : P.underlying t = some (.map k e)) {z : Value} (hz : (zeroValue e).run P w = .ok z w) (x : K) (hx : ok x = true) :
    (Instr.lookup t (.map (some b)) (ky x) false).run P w = .ok ((L.lookup x).getD z) w := by
  obtain ⟨D, h1, h2, h3, _⟩ := h
  obtain ⟨kl, hkl⟩ := Km.lit x hx
  obtain ⟨v, ps, hrun, hv⟩ := h1.lookup Km.law ht hz (zd := .held z) (zp := []) rfl hkl
  rw [h3 x kl _ hx hkl] at hv
  rw [hrun]
  cases hl : L.lookup x with
  | none =>
    rw [hl] at hv
    simp [tokR] at hv
    simp [hv]
  | some u =>
    rw [hl] at hv
    simp [tokR] at hv
    simp [hv]
variable [LawfulBEq K]
/-- 'm[k] = v'. -/
theorem Mp.put {t e : TypeId} (h : Mp P k ok ky w b n L) (Km : KeyMap P k ok ky) (ht : P.underlying t = some (.map k e)) (hn : n < maxLen) (x : K) (hx : ok x = true) (v : Value) :
    ∃ w', (Instr.mapUpdate t (.map (some b)) (ky x) v).run P w = .ok () w' ∧ Mp P k ok ky w' b (n + 1) ((x, v) :: L) ∧ w.grownBy w' (some b) := by
  obtain ⟨D, h1, h2, h3, h4⟩ := h
  obtain ⟨kl, hkl⟩ := Km.lit x hx
  obtain ⟨w', r1, r2, r3⟩ := h1.update Km.law ht hn (val := v) hkl (d := .held v) (ps := []) rfl
  refine ⟨w', r1, ⟨D.put kl (.held v), r2, h2.put kl _, fun y yl d hy hyl => ?_, fun yl hyl => ?_⟩, r3⟩
  case refine_2 =>
    by_cases hne : yl = kl
    · subst hne
      exact ⟨x, hx, hkl⟩
    · rw [has_put_other hne] at hyl
      exact h4 yl hyl
  by_cases hxy : y = x
  · subst hxy
    rw [hkl] at hyl
    obtain rfl := Option.some.inj hyl
    rw [atKey_put_same h2 (Km.law.key hkl)]
    simp [List.lookup]
  · have hne : yl ≠ kl := by
      rintro rfl
      exact hxy (Km.inj _ _ (Km.law.inj hyl hkl))
    rw [atKey_put_other hne, h3 y yl d hy hyl]
    have : (y == x) = false := by simpa using hxy
    simp [List.lookup, this]
end

/-- 'for k, v := range m' under way: which keys are left. -/
def Ml {K : Type} [BEq K] (P : Program) (k : TypeId) (ok : K → Bool) (ky : K → Value) (w : World) (b r n : Nat) (L : List (K × Value)) (left : K → Bool) (cnt : Nat) : Prop :=
  ∃ (D : DataW Value) (lf : Lit → Bool), w.ranges P k tokR b r n D lf cnt ∧ (∀ x kl d, ok x = true → keyOf P k (ky x) = some kl → D.atKey kl d = (match L.lookup x with | some v => .held v | none => d)) ∧
    (∀ kl, has D kl = true → ∃ x, ok x = true ∧ keyOf P k (ky x) = some kl) ∧ (∀ kl, lf kl = true → has D kl = true) ∧ ∀ x kl, ok x = true → keyOf P k (ky x) = some kl → lf kl = left x
section
variable {K : Type} [BEq K] {P : Program} {k : TypeId} {ok : K → Bool} {ky : K → Value} {w w' : World} {b r n cnt : Nat} {L : List (K × Value)} {left : K → Bool}
theorem Ml.left_eq (h : Ml P k ok ky w b r n L left cnt) : w.rangeLeft b r = cnt := by
  obtain ⟨D, lf, h1, _⟩ := h
  exact h1.left_eq
theorem Ml.kept {row : Option Nat} (h : Ml P k ok ky w b r n L left cnt) (hg : w.grownBy w' row) (hb' : some b ≠ row) (hr' : some r ≠ row) : Ml P k ok ky w' b r n L left cnt := by
  obtain ⟨D, lf, h1, h2⟩ := h
  exact ⟨D, lf, h1.kept hg hb' hr', h2⟩
end
theorem wpList_range_mp {K : Type} [BEq K] [LawfulBEq K] {P : Program} (w : World) {ops : Array Oper} {rest : List Oper} {o : Oper} {a : Act} {Q : Exit → Act → World → Prop}
    (hg : o.guard = none) (m : Operand) (t : TypeId) (hop : o.op = Op.range t m) (k e : TypeId) (ok : K → Bool) (ky : K → Value) (Km : KeyMap P k ok ky) (ht : P.underlying t = some (.map k e))
    (b n : Nat) (L : List (K × Value)) (hm : a.eval m = .map (some b)) (hown : Mp P k ok ky w b n L)
    (hK : ∀ w' cnt, Ml P k ok ky w' b w.heap.size n L (fun x => (L.lookup x).isSome) cnt → w.grownBy w' none → w'.heap.size = w.heap.size + 1 → wpList P ops Q rest (a.put o.dst (.pointer (some ⟨w.heap.size, 0, none⟩))) w') :
    wpList P ops Q (o :: rest) a w := by
  obtain ⟨D, h1, h2, h3, h4⟩ := hown
  refine wpList_range_own w hg m t hop k e Km.law ht tokR b n D hm h1 fun w' hr hg' hs => hK w' _ ⟨D, _, hr, h3, h4, fun kl h => h, fun x kl hx hkl => ?_⟩ hg' hs
  have hq := fun d => h3 x kl d hx hkl
  cases hl : L.lookup x with
  | some v =>
    simp only [hl] at hq
    show has D kl = (L.lookup x).isSome
    rw [hl]
    exact has_true_of_atKey (y := .held v) hq
  | none =>
    simp only [hl] at hq
    show has D kl = (L.lookup x).isSome
    rw [hl]
    exact has_false_of_atKey hq
theorem wpList_next_mp {K : Type} [BEq K] [LawfulBEq K] {P : Program} (w : World) {ops : Array Oper} {rest : List Oper} {o : Oper} {a : Act} {Q : Exit → Act → World → Prop}
    (hg : o.guard = none) (it : Operand) (hop : o.op = Op.next it false) (k : TypeId) (ok : K → Bool) (ky : K → Value) (Km : KeyMap P k ok ky) (b r n : Nat) (L : List (K × Value)) (left : K → Bool) (cnt : Nat)
    (hit : a.eval it = .pointer (some ⟨r, 0, none⟩)) (h : Ml P k ok ky w b r n L left cnt)
    (hDone : (∀ x, ok x = true → left x = false) → wpList P ops Q rest (a.put o.dst (.tuple #[.bool false])) w)
    (hMore : ∀ (x : K) (v : Value) (w' : World) (cnt' : Nat), ok x = true → left x = true → L.lookup x = some v → Ml P k ok ky w' b r n L (fun z => left z && z != x) cnt' → cnt' < cnt →
      w.grownBy w' (some r) → w'.heap.size = w.heap.size → (Instr.entry (.pointer (some ⟨r, 0, none⟩))).run P w' = .ok (.tuple #[ky x, v]) w' → wpList P ops Q rest (a.put o.dst (.tuple #[.bool true, ky x, v])) w') :
    wpList P ops Q (o :: rest) a w := by
  obtain ⟨D, lf, h1, h2, h3, h4, h5⟩ := h
  refine wpList_next_ranges w hg it hop k Km.law tokR (fun v : Value => v) (fun v : Value => v) (fun key _ _ => ⟨key, rfl⟩) (fun v _ _ => ⟨v, rfl⟩) b r n D lf cnt hit h1 (fun _ hl => hDone fun x hx => ?_) (fun key v kl y w' cnt' hkey hlk hR hat hrg hlt hgr hsz hen => ?_)
  · obtain ⟨kl, hkl⟩ := Km.lit x hx
    rw [← h5 x kl hx hkl]
    exact hl kl
  · obtain ⟨x, hx, hkx⟩ := h3 kl (h4 kl hlk)
    obtain rfl := Km.law.inj hkey hkx
    have hv : L.lookup x = some v := by
      have e1 := h2 x kl (.lit (.bool true)) hx hkx
      have e2 := h2 x kl (.lit (.bool false)) hx hkx
      rw [hat] at e1 e2
      cases hl : L.lookup x with
      | none =>
        rw [hl] at e1 e2
        simp only at e1 e2
        rw [e1] at e2
        cases e2
      | some u =>
        rw [hl] at e1
        simp only at e1
        cases hR
        simp only at e1
        cases e1
        rfl
    refine hMore x v w' cnt' hx (by rw [← h5 x kl hx hkx]; exact hlk) hv ⟨D, _, hrg, h2, h3, fun z hz => h4 z (by simp at hz; exact hz.1), fun z zl hz hzl => ?_⟩ hlt hgr hsz hen
    rw [h5 z zl hz hzl]
    congr 1
    by_cases hzx : z = x
    · subst hzx
      rw [hkx] at hzl
      cases hzl
      rw [WideAt.sameKey_self (Km.law.key hkx)]
      simp
    · have hne : zl ≠ kl := by
        rintro rfl
        exact hzx (Km.inj _ _ (Km.law.inj hzl hkx))
      rw [sameKey_ne hne]
      simpa using hzx

theorem wpList_mapUpdate_mp {K : Type} [BEq K] [LawfulBEq K] {P : Program} (w : World) {ops : Array Oper} {rest : List Oper} {o : Oper} {a : Act} {Q : Exit → Act → World → Prop}
    (hg : o.guard = none) (m x v : Operand) (t : TypeId) (hop : o.op = Op.mapUpdate t m x v) (k e : TypeId) (ok : K → Bool) (ky : K → Value) (Km : KeyMap P k ok ky) (ht : P.underlying t = some (.map k e))
    (b n : Nat) (L : List (K × Value)) (hm : a.eval m = .map (some b)) (hown : Mp P k ok ky w b n L) (hn : n < maxLen) (key : K) (hkey : a.eval x = ky key) (hok : ok key = true) (val : Value) (hv : a.eval v = val)
    (hK : ∀ w', Mp P k ok ky w' b (n + 1) ((key, val) :: L) → w.grownBy w' (some b) → wpList P ops Q rest (a.put o.dst undef) w') :
    wpList P ops Q (o :: rest) a w := by
  refine wpList_plain hg fun K' hK' => ?_
  obtain ⟨w', hrun, r1, r2⟩ := hown.put Km ht hn key hok val
  unfold Oper.wp
  simp [execOp, hop, hm, hkey, hv, hrun, Result.andThen]
  exact hK' _ _ (hK w' r1 r2)
theorem wpList_lookup_mp {K : Type} [BEq K] {P : Program} (w : World) {ops : Array Oper} {rest : List Oper} {o : Oper} {a : Act} {Q : Exit → Act → World → Prop}
    (hg : o.guard = none) (m x : Operand) (t : TypeId) (hop : o.op = Op.lookup t m x false) (k e : TypeId) (ok : K → Bool) (ky : K → Value) (Km : KeyMap P k ok ky) (ht : P.underlying t = some (.map k e))
    (z : Value) (hz : (zeroValue e).run P w = .ok z w)
    (b n : Nat) (L : List (K × Value)) (hm : a.eval m = .map (some b)) (hown : Mp P k ok ky w b n L) (key : K) (hkey : a.eval x = ky key) (hok : ok key = true)
    (hK : wpList P ops Q rest (a.put o.dst ((L.lookup key).getD z)) w) :
    wpList P ops Q (o :: rest) a w := by
  refine wpList_plain hg fun K' hK' => ?_
  have hrun := hown.get Km ht hz key hok
  unfold Oper.wp
  simp [execOp, hop, hm, hkey, hrun, Result.andThen]
  exact hK' _ _ hK

/-- Keys that are structs of integers. -/
theorem keyOf_ints {P : Program} {k : TypeId} {cs : Array Value} {ls : List Lit} (hk : P.keyType k = true) (hw : (match P.underlying k with | some (.array _ _) | some (.struct _) => true | _ => false) = true)
    (hf : (Value.agg cs).formed P k = true) (hl : P.keyLits (P.types.size + 1) k cs.toList = some ls) : ∃ kl, keyOf P k (.agg cs) = some kl := by
  unfold keyOf
  split
  · simp [hk, hf, Value.cells, hl]
  · simp [hk, hf, Value.cells, hl]
  · simp_all
end Go.Proofs.YtmiaabpnolebhaaGreatDoor
