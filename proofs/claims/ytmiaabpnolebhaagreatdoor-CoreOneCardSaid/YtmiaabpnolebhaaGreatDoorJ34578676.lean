/-
  Texts of this claim, joined: Maps, MapFill.
-/
import Derived.Maps.OwnOps
import Derived.Maps.Views
import Derived.Maps.RangeWalk
import Derived.DeepKeys4
import Derived.Test.YtmiaabpnolebhaaGreatDoorJ40ced367
set_option linter.unusedSimpArgs false
set_option linter.unusedVariables false
namespace Go.Proofs.YtmiaabpnolebhaaGreatDoor
open Go.RowKit Go.Maps

def tokR (v : Value) : Option (DataW Value × List MemPlace) := some (.held v, [])
structure KeyMap {K : Type} (P : Program) (k : TypeId) (ok : K → Bool) (ky : K → Value) : Prop where
 law : Keyed P k
 lit : ∀ x, ok x = true → ∃ kl, keyOf P k (ky x) = some kl
 inj : ∀ x y, ky x = ky y → x = y

section
variable {K : Type} [BEq K] {P : Program} {k : TypeId} {ok : K → Bool} {ky : K → Value} {w w' : World} {b n : Nat} {L : List (K × Value)}

def Mp (P : Program) (k : TypeId) (ok : K → Bool) (ky : K → Value) (w : World) (b n : Nat) (L : List (K × Value)) : Prop :=
 ∃ D : DataW Value, w.ownsMap P k tokR b n D ∧ IsMap D ∧ (∀ x kl d, ok x = true → keyOf P k (ky x) = some kl → D.atKey kl d = (match L.lookup x with | some v => .held v | none => d)) ∧
  ∀ kl, has D kl = true → ∃ x, ok x = true ∧ keyOf P k (ky x) = some kl

theorem Mp.made (w : World) : Mp P k ok ky (w.alloc (.map #[] 0)) w.heap.size 0 ([] : List (K × Value)) :=
 ⟨.map [], World.ownsMap_made w P k tokR, isMap_empty, fun x kl d _ _ => by simp; rfl, fun kl h => by cases h⟩
theorem Mp.kept {row : Option Nat} (h : Mp P k ok ky w b n L) (hg : w.grownBy w' row) (hne : some b ≠ row) : Mp P k ok ky w' b n L := by
 obtain ⟨D, h1, h2, h3⟩ := h
 exact ⟨D, h1.kept hg hne, h2, h3⟩
theorem Mp.alloc (h : Mp P k ok ky w b n L) (o : Obj) : Mp P k ok ky (w.alloc o) b n L := h.kept (World.grownBy_alloc w o none) (by simp)
theorem Mp.drew (h : Mp P k ok ky w b n L) : Mp P k ok ky w.drew b n L := h
theorem Mp.drewN (h : Mp P k ok ky w b n L) (m : Nat) : Mp P k ok ky (w.drewN m) b n L := h
theorem Mp.mono (h : Mp P k ok ky w b n L) {m : Nat} (hm : n ≤ m) : Mp P k ok ky w b m L := by
 obtain ⟨D, h1, h2, h3⟩ := h
 exact ⟨D, h1.mono hm, h2, h3⟩
theorem Mp.lt (h : Mp P k ok ky w b n L) : b < w.heap.size := by
 obtain ⟨D, h1, _⟩ := h
 exact h1.lt
theorem Mp.block {S : List Nat} (h : Mp P k ok ky w b n L) (hf : Frm S w w') (hb : b ∉ S) : Mp P k ok ky w' b n L := by
 have hlt := h.lt
 obtain ⟨D, ⟨es, clock, h1, h4⟩, h2, h3⟩ := h
 exact ⟨D, ⟨es, clock, (hf.block b hlt hb).trans h1, h4⟩, h2, h3⟩
theorem Mp.cell (h : Mp P k ok ky w b n L) {p : Addr} (hp : b ≠ p.block) (u : Value) : Mp P k ok ky (w.setCell p u) b n L := by
 obtain ⟨D, ⟨es, clock, h1, h4⟩, h2, h3⟩ := h
 exact ⟨D, ⟨es, clock, (Below.heap_setCell w p u b hp).trans h1, h4⟩, h2, h3⟩

theorem Mp.get {t e : TypeId} (h : Mp P k ok ky w b n L) (Km : KeyMap P k ok ky) (ht : P.underlying t = some (.map k e)) {z : Value} (hz : (zeroValue e).run P w = .ok z w) (x : K) (hx : ok x = true) :
  (Instr.lookup t (.map (some b)) (ky x) false).run P w = .ok ((L.lookup x).getD z) w := by
 obtain ⟨D, h1, h2, h3, _⟩ := h
 obtain ⟨kl, hkl⟩ := Km.lit x hx
 obtain ⟨v, ps, hrun, hv⟩ := h1.lookup Km.law ht hz (zd := .held z) (zp := []) rfl hkl
 rw [h3 x kl _ hx hkl] at hv
 rw [hrun]
 cases hl : L.lookup x with
 | none =>
  rw [hl] at hv
  simp [tokR] at hv
  simp [hv]
 | some u =>
  rw [hl] at hv
  simp [tokR] at hv
  simp [hv]
variable [LawfulBEq K]
theorem Mp.put {t e : TypeId} (h : Mp P k ok ky w b n L) (Km : KeyMap P k ok ky) (ht : P.underlying t = some (.map k e)) (hn : n < maxLen) (x : K) (hx : ok x = true) (v : Value) :
  ∃ w', (Instr.mapUpdate t (.map (some b)) (ky x) v).run P w = .ok () w' ∧ Mp P k ok ky w' b (n + 1) ((x, v) :: L) ∧ w.grownBy w' (some b) := by
 obtain ⟨D, h1, h2, h3, h4⟩ := h
 obtain ⟨kl, hkl⟩ := Km.lit x hx
 obtain ⟨w', r1, r2, r3⟩ := h1.update Km.law ht hn (val := v) hkl (d := .held v) (ps := []) rfl
 refine ⟨w', r1, ⟨D.put kl (.held v), r2, h2.put kl _, fun y yl d hy hyl => ?_, fun yl hyl => ?_⟩, r3⟩
 case refine_2 =>
  by_cases hne : yl = kl
  ·subst hne
   exact ⟨x, hx, hkl⟩
  ·rw [has_put_other hne] at hyl
   exact h4 yl hyl
 by_cases hxy : y = x
 ·subst hxy
  rw [hkl] at hyl
  obtain rfl := Option.some.inj hyl
  rw [atKey_put_same h2 (Km.law.key hkl)]
  simp [List.lookup]
 ·have hne : yl ≠ kl := by
   rintro rfl
   exact hxy (Km.inj _ _ (Km.law.inj hyl hkl))
  rw [atKey_put_other hne, h3 y yl d hy hyl]
  have : (y == x) = false := by simpa using hxy
  simp [List.lookup, this]
end

def Ml {K : Type} [BEq K] (P : Program) (k : TypeId) (ok : K → Bool) (ky : K → Value) (w : World) (b r n : Nat) (L : List (K × Value)) (left : K → Bool) (cnt : Nat) : Prop :=
 ∃ (D : DataW Value) (lf : Lit → Bool), w.ranges P k tokR b r n D lf cnt ∧ (∀ x kl d, ok x = true → keyOf P k (ky x) = some kl → D.atKey kl d = (match L.lookup x with | some v => .held v | none => d)) ∧
  (∀ kl, has D kl = true → ∃ x, ok x = true ∧ keyOf P k (ky x) = some kl) ∧ (∀ kl, lf kl = true → has D kl = true) ∧ ∀ x kl, ok x = true → keyOf P k (ky x) = some kl → lf kl = left x
section
variable {K : Type} [BEq K] {P : Program} {k : TypeId} {ok : K → Bool} {ky : K → Value} {w w' : World} {b r n cnt : Nat} {L : List (K × Value)} {left : K → Bool}
theorem Ml.kept {row : Option Nat} (h : Ml P k ok ky w b r n L left cnt) (hg : w.grownBy w' row) (hb' : some b ≠ row) (hr' : some r ≠ row) : Ml P k ok ky w' b r n L left cnt := by
 obtain ⟨D, lf, h1, h2⟩ := h
 exact ⟨D, lf, h1.kept hg hb' hr', h2⟩
end
theorem wpList_range_mp {K : Type} [BEq K] [LawfulBEq K] {P : Program} (w : World) {ops : Array Oper} {rest : List Oper} {o : Oper} {a : Act} {Q : Exit → Act → World → Prop}
  (hg : o.guard = none) (m : Operand) (t : TypeId) (hop : o.op = Op.range t m) (k e : TypeId) (ok : K → Bool) (ky : K → Value) (Km : KeyMap P k ok ky) (ht : P.underlying t = some (.map k e))
  (b n : Nat) (L : List (K × Value)) (hm : a.eval m = .map (some b)) (hown : Mp P k ok ky w b n L)
  (hK : ∀ w' cnt, Ml P k ok ky w' b w.heap.size n L (fun x => (L.lookup x).isSome) cnt → w.grownBy w' none → w'.heap.size = w.heap.size + 1 → wpList P ops Q rest (a.put o.dst (.pointer (some ⟨w.heap.size, 0, none⟩))) w') :
  wpList P ops Q (o :: rest) a w := by
 obtain ⟨D, h1, h2, h3, h4⟩ := hown
 refine wpList_range_own w hg m t hop k e Km.law ht tokR b n D hm h1 fun w' hr hg' hs => hK w' _ ⟨D, _, hr, h3, h4, fun kl h => h, fun x kl hx hkl => ?_⟩ hg' hs
 have hq := fun d => h3 x kl d hx hkl
 cases hl : L.lookup x with
 | some v =>
  simp only [hl] at hq
  show has D kl = (L.lookup x).isSome
  rw [hl]
  exact has_true_of_atKey (y := .held v) hq
 | none =>
  simp only [hl] at hq
  show has D kl = (L.lookup x).isSome
  rw [hl]
  exact has_false_of_atKey hq
theorem wpList_next_mp {K : Type} [BEq K] [LawfulBEq K] {P : Program} (w : World) {ops : Array Oper} {rest : List Oper} {o : Oper} {a : Act} {Q : Exit → Act → World → Prop}
  (hg : o.guard = none) (it : Operand) (hop : o.op = Op.next it false) (k : TypeId) (ok : K → Bool) (ky : K → Value) (Km : KeyMap P k ok ky) (b r n : Nat) (L : List (K × Value)) (left : K → Bool) (cnt : Nat)
  (hit : a.eval it = .pointer (some ⟨r, 0, none⟩)) (h : Ml P k ok ky w b r n L left cnt)
  (hDone : (∀ x, ok x = true → left x = false) → wpList P ops Q rest (a.put o.dst (.tuple #[.bool false])) w)
  (hMore : ∀ (x : K) (v : Value) (w' : World) (cnt' : Nat), ok x = true → left x = true → L.lookup x = some v → Ml P k ok ky w' b r n L (fun z => left z && z != x) cnt' → cnt' < cnt →
   w.grownBy w' (some r) → w'.heap.size = w.heap.size → (Instr.entry (.pointer (some ⟨r, 0, none⟩))).run P w' = .ok (.tuple #[ky x, v]) w' → wpList P ops Q rest (a.put o.dst (.tuple #[.bool true, ky x, v])) w') :
  wpList P ops Q (o :: rest) a w := by
 obtain ⟨D, lf, h1, h2, h3, h4, h5⟩ := h
 refine wpList_next_ranges w hg it hop k Km.law tokR (fun v : Value => v) (fun v : Value => v) (fun key _ _ => ⟨key, rfl⟩) (fun v _ _ => ⟨v, rfl⟩) b r n D lf cnt hit h1 (fun _ hl => hDone fun x hx => ?_) (fun key v kl y w' cnt' hkey hlk hR hat hrg hlt hgr hsz hen => ?_)
 ·obtain ⟨kl, hkl⟩ := Km.lit x hx
  rw [← h5 x kl hx hkl]
  exact hl kl
 ·obtain ⟨x, hx, hkx⟩ := h3 kl (h4 kl hlk)
  obtain rfl := Km.law.inj hkey hkx
  have hv : L.lookup x = some v := by
   have e1 := h2 x kl (.lit (.bool true)) hx hkx
   have e2 := h2 x kl (.lit (.bool false)) hx hkx
   rw [hat] at e1 e2
   cases hl : L.lookup x with
   | none =>
    rw [hl] at e1 e2
    simp only at e1 e2
    rw [e1] at e2
    cases e2
   | some u =>
    rw [hl] at e1
    simp only at e1
    cases hR
    simp only at e1
    cases e1
    rfl
  refine hMore x v w' cnt' hx (by rw [← h5 x kl hx hkx]; exact hlk) hv ⟨D, _, hrg, h2, h3, fun z hz => h4 z (by simp at hz; exact hz.1), fun z zl hz hzl => ?_⟩ hlt hgr hsz hen
  rw [h5 z zl hz hzl]
  congr 1
  by_cases hzx : z = x
  ·subst hzx
   rw [hkx] at hzl
   cases hzl
   rw [WideAt.sameKey_self (Km.law.key hkx)]
   simp
  ·have hne : zl ≠ kl := by
    rintro rfl
    exact hzx (Km.inj _ _ (Km.law.inj hzl hkx))
   rw [sameKey_ne hne]
   simpa using hzx

theorem wpList_mapUpdate_mp {K : Type} [BEq K] [LawfulBEq K] {P : Program} (w : World) {ops : Array Oper} {rest : List Oper} {o : Oper} {a : Act} {Q : Exit → Act → World → Prop}
  (hg : o.guard = none) (m x v : Operand) (t : TypeId) (hop : o.op = Op.mapUpdate t m x v) (k e : TypeId) (ok : K → Bool) (ky : K → Value) (Km : KeyMap P k ok ky) (ht : P.underlying t = some (.map k e))
  (b n : Nat) (L : List (K × Value)) (hm : a.eval m = .map (some b)) (hown : Mp P k ok ky w b n L) (hn : n < maxLen) (key : K) (hkey : a.eval x = ky key) (hok : ok key = true) (val : Value) (hv : a.eval v = val)
  (hK : ∀ w', Mp P k ok ky w' b (n + 1) ((key, val) :: L) → w.grownBy w' (some b) → wpList P ops Q rest (a.put o.dst undef) w') :
  wpList P ops Q (o :: rest) a w := by
 refine wpList_plain hg fun K' hK' => ?_
 obtain ⟨w', hrun, r1, r2⟩ := hown.put Km ht hn key hok val
 unfold Oper.wp
 simp [execOp, hop, hm, hkey, hv, hrun, Result.andThen]
 exact hK' _ _ (hK w' r1 r2)
theorem wpList_lookup_mp {K : Type} [BEq K] {P : Program} (w : World) {ops : Array Oper} {rest : List Oper} {o : Oper} {a : Act} {Q : Exit → Act → World → Prop}
  (hg : o.guard = none) (m x : Operand) (t : TypeId) (hop : o.op = Op.lookup t m x false) (k e : TypeId) (ok : K → Bool) (ky : K → Value) (Km : KeyMap P k ok ky) (ht : P.underlying t = some (.map k e))
  (z : Value) (hz : (zeroValue e).run P w = .ok z w)
  (b n : Nat) (L : List (K × Value)) (hm : a.eval m = .map (some b)) (hown : Mp P k ok ky w b n L) (key : K) (hkey : a.eval x = ky key) (hok : ok key = true)
  (hK : wpList P ops Q rest (a.put o.dst ((L.lookup key).getD z)) w) :
  wpList P ops Q (o :: rest) a w := by
 refine wpList_plain hg fun K' hK' => ?_
 have hrun := hown.get Km ht hz key hok
 unfold Oper.wp
 simp [execOp, hop, hm, hkey, hrun, Result.andThen]
 exact hK' _ _ hK

theorem keyOf_ints {P : Program} {k : TypeId} {cs : Array Value} {ls : List Lit} (hk : P.keyType k = true) (hw : (match P.underlying k with | some (.array _ _) | some (.struct _) => true | _ => false) = true)
  (hf : (Value.agg cs).formed P k = true) (hl : P.keyLits (P.types.size + 1) k cs.toList = some ls) : ∃ kl, keyOf P k (.agg cs) = some kl := by
 unfold keyOf
 split
 ·simp [hk, hf, Value.cells, hl]
 ·simp [hk, hf, Value.cells, hl]
 ·simp_all
end Go.Proofs.YtmiaabpnolebhaaGreatDoor
namespace Go.Proofs.YtmiaabpnolebhaaGreatDoor
open Go.RowKit Go.Maps

theorem Mp.congr {K : Type} [BEq K] {P : Program} {k : TypeId} {ok : K → Bool} {ky : K → Value} {w : World} {b n : Nat} {L L' : List (K × Value)} (h : Mp P k ok ky w b n L) (e : ∀ x, L.lookup x = L'.lookup x) : Mp P k ok ky w b n L' := by
 obtain ⟨D, h1, h2, h3, h4⟩ := h
 exact ⟨D, h1, h2, fun x kl d hx hkl => by rw [h3 x kl d hx hkl, e], h4⟩
theorem lookup_of_mem {K V : Type} [BEq K] [LawfulBEq K] {l : List (K × V)} (hn : (l.map (·.1)).Nodup) {x : K} {v : V} (h : (x, v) ∈ l) : l.lookup x = some v := by
 induction l with
 | nil => cases h
 | cons p l ih =>
  obtain ⟨a, b⟩ := p
  obtain ⟨h1, h2⟩ := List.nodup_cons.1 hn
  rw [List.lookup_cons]
  rcases List.mem_cons.1 h with e | e
  ·cases e
   rw [beq_self_eq_true]
  ·have : (x == a) = false := by
    rw [beq_eq_false_iff_ne]
    rintro rfl
    exact h1 (List.mem_map.2 ⟨(x, v), e, rfl⟩)
   rw [this]
   exact ih h2 e
theorem lookup_not_mem {K V : Type} [BEq K] [LawfulBEq K] {l : List (K × V)} {x : K} (h : ∀ v, (x, v) ∉ l) : l.lookup x = none := by
 induction l with
 | nil => rfl
 | cons p l ih =>
  obtain ⟨a, b⟩ := p
  rw [List.lookup_cons]
  have : (x == a) = false := by
   rw [beq_eq_false_iff_ne]
   rintro rfl
   exact h b (List.mem_cons_self ..)
  rw [this]
  exact ih fun v hv => h v (List.mem_cons_of_mem _ hv)
theorem lookup_perm {K V : Type} [BEq K] [LawfulBEq K] {l m : List (K × V)} (hl : (l.map (·.1)).Nodup) (hm : (m.map (·.1)).Nodup) (h : ∀ p, p ∈ l ↔ p ∈ m) (x : K) : l.lookup x = m.lookup x := by
 by_cases hx : ∃ v, (x, v) ∈ l
 ·obtain ⟨v, hv⟩ := hx
  rw [lookup_of_mem hl hv, lookup_of_mem hm ((h _).1 hv)]
 ·have h1 : ∀ v, (x, v) ∉ l := fun v hv => hx ⟨v, hv⟩
  rw [lookup_not_mem h1, lookup_not_mem fun v hv => h1 v ((h _).2 hv)]

theorem keys_nodup {Q : Type} {J : List Nat} {E : Nat → Q × Value} (inj : ∀ i ∈ J, ∀ j ∈ J, (E i).1 = (E j).1 → i = j) : ∀ {D : List Nat}, D.Nodup → (∀ i ∈ D, i ∈ J) → ((D.map E).map (·.1)).Nodup
 | [], _, _ => List.nodup_nil
 | i :: D, hn, hs => by
  obtain ⟨h1, h2⟩ := List.nodup_cons.1 hn
  refine List.nodup_cons.2 ⟨fun hm => ?_, keys_nodup (D := D) inj h2 fun j hj => hs j (List.mem_cons_of_mem _ hj)⟩
  obtain ⟨p, hp, hpe⟩ := List.mem_map.1 hm
  obtain ⟨j, hj, rfl⟩ := List.mem_map.1 hp
  have := inj j (hs j (List.mem_cons_of_mem _ hj)) i (hs i (List.mem_cons_self ..)) hpe
  exact h1 (this ▸ hj)
section
variable {K : Type} [BEq K] [LawfulBEq K] {P : Program} {k : TypeId} {ok : K → Bool} {ky : K → Value}
structure Fills (P : Program) (ops : Array Oper) (k : TypeId) (ok : K → Bool) (ky : K → Value) (a : Act) (b : Nat) (J T : List Nat) (E : Nat → K × Value) (L0 : Array Bool) : Prop where
 km : KeyMap P k ok ky
 size : L0.size = ops.size
 nd : J.Nodup
 inj : ∀ i ∈ J, ∀ j ∈ J, (E i).1 = (E j).1 → i = j
 jl : ∀ i ∈ J, L0[i]? = some false
 jt : ∀ i, L0[i]? = some false → i ∈ J ∨ i ∈ T
 fill : ∀ i ∈ J, ∃ (o : Oper) (t e : TypeId) (m x v : Operand), ops[i]? = some o ∧ o.guard = none ∧ o.dst = none ∧ o.op = Op.insert t m x v ∧ P.underlying t = some (.map k e) ∧ a.eval m = .map (some b) ∧ a.eval x = ky (E i).1 ∧ a.eval v = (E i).2 ∧ ok (E i).1 = true ∧ ∀ g ∈ o.after, Region.binds .any g = true → L0[g.on]? = some true
 tail : ∀ i ∈ T, ∃ o, ops[i]? = some o ∧ ∀ j ∈ J, ∃ g ∈ o.after, Region.binds .any g = true ∧ g.on = j
def doneL (L0 : Array Bool) : List Nat → Array Bool
 | [] => L0
 | i :: D => (doneL L0 D).setIfInBounds i true
theorem doneL_get (L0 : Array Bool) (j : Nat) : ∀ D, (doneL L0 D)[j]? = if j ∈ D ∧ j < L0.size then some true else L0[j]?
 | [] => by simp [doneL]
 | i :: D => by
  have ih := doneL_get L0 j D
  unfold doneL
  rw [Array.getElem?_setIfInBounds]
  by_cases e : i = j
  ·subst e
   rw [if_pos rfl]
   have hs : ∀ D', (doneL L0 D').size = L0.size := fun D' => by
    induction D' with
    | nil => rfl
    | cons x D' ih => unfold doneL; rw [Array.size_setIfInBounds, ih]
   rw [hs]
   by_cases h : i < L0.size
   ·rw [if_pos h, if_pos ⟨List.mem_cons_self .., h⟩]
   ·rw [if_neg h, if_neg (fun q => h q.2), Array.getElem?_eq_none (by omega)]
  ·rw [if_neg e, ih]
   have : j ∈ i :: D ↔ j ∈ D := by
    rw [List.mem_cons]
    exact ⟨fun h => h.resolve_left fun q => e q.symm, .inr⟩
   simp only [this]
theorem doneL_eq {L0 : Array Bool} {D J : List Nat} (h : ∀ i, i ∈ D ↔ i ∈ J) : doneL L0 D = doneL L0 J := Array.ext_getElem? fun j => by
 rw [doneL_get, doneL_get]
 simp only [h]
theorem getD_of {L : Array Bool} {j : Nat} {v d : Bool} (h : L[j]? = some v) : L.getD j d = v := by
 rw [Array.getD_eq_getD_getElem?, h]
 rfl
theorem of_getD {L : Array Bool} {j : Nat} (h : L.getD j true = false) : L[j]? = some false := by
 rw [Array.getD_eq_getD_getElem?] at h
 cases e : L[j]? with
 | none => rw [e] at h; cases h
 | some v => rw [e] at h; cases v; rfl; cases h
theorem of_getD1 {L : Array Bool} {j : Nat} (h : L.getD j false = true) : L[j]? = some true := by
 rw [Array.getD_eq_getD_getElem?] at h
 cases e : L[j]? with
 | none => rw [e] at h; cases h
 | some v => rw [e] at h; cases v; cases h; rfl
def left (J D : List Nat) : Nat := (J.filter fun j => !decide (j ∈ D)).length
theorem left_zero {J D : List Nat} (h : left J D = 0) {i : Nat} (hi : i ∈ J) : i ∈ D := Classical.byContradiction fun hn => by
 have : i ∈ J.filter fun j => !decide (j ∈ D) := List.mem_filter.2 ⟨hi, by simp [hn]⟩
 rw [List.eq_nil_of_length_eq_zero h] at this
 cases this
theorem left_pos {J D : List Nat} {m : Nat} (h : left J D = m + 1) : ∃ i ∈ J, i ∉ D := by
 unfold left at h
 cases e : J.filter fun j => !decide (j ∈ D) with
 | nil => rw [e] at h; cases h
 | cons i l =>
  have : i ∈ J.filter fun j => !decide (j ∈ D) := by rw [e]; exact List.mem_cons_self ..
  obtain ⟨h1, h2⟩ := List.mem_filter.1 this
  exact ⟨i, h1, by simpa using h2⟩
theorem left_cons {D : List Nat} {i : Nat} (hd : i ∉ D) : ∀ {J : List Nat}, J.Nodup → i ∈ J → left J (i :: D) + 1 = left J D
 | [], _, hi => by cases hi
 | j :: J, hn, hi => by
  obtain ⟨h1, h2⟩ := List.nodup_cons.1 hn
  unfold left
  by_cases e : i = j
  ·subst e
   have hsame : J.filter (fun j => !decide (j ∈ i :: D)) = J.filter fun j => !decide (j ∈ D) := List.filter_congr fun x hx => by
    have : x ≠ i := fun q => h1 (q ▸ hx)
    simp [this]
   rw [List.filter_cons_of_neg (by simp), List.filter_cons_of_pos (by simp [hd]), hsame]
   rfl
  ·have hi' : i ∈ J := (List.mem_cons.1 hi).resolve_left e
   have ih := left_cons hd h2 hi'
   unfold left at ih
   by_cases hj : j ∈ D
   ·rw [List.filter_cons_of_neg (by simp [hj]), List.filter_cons_of_neg (by simp [hj])]
    exact ih
   ·have : ¬ j = i := fun q => e q.symm
    rw [List.filter_cons_of_pos (by simp [hj, this]), List.filter_cons_of_pos (by simp [hj])]
    simp only [List.length_cons]
    omega
theorem fill_any {ops : Array Oper} {a : Act} {b : Nat} {J T : List Nat} {E : Nat → K × Value} {L0 : Array Bool} {Q : Exit → Act → World → Prop} (g : Nat) (hF : Fills P ops k ok ky a b J T E L0) (hm : J.length < maxLen) (w0 : World) (hb0 : w0.heap.size ≤ b)
  (hQ : ∀ (D : List Nat) (w : World), (∀ i, i ∈ D ↔ i ∈ J) → Mp P k ok ky w b J.length (J.map E) → Below w0.heap.size w0 w → wpAny P .any ops Q g (doneL L0 D) a w) :
  ∀ (m : Nat) (D : List Nat) (w : World), D.Nodup → (∀ i ∈ D, i ∈ J) → D.length + m = J.length → left J D = m → Mp P k ok ky w b D.length (D.map E) → Below w0.heap.size w0 w → wpAny P .any ops Q (m + g) (doneL L0 D) a w
 | 0, D, w, hn, hs, hl, hc, hM, hB => by
  have hiff : ∀ i, i ∈ D ↔ i ∈ J := fun i => ⟨hs i, left_zero hc⟩
  have hlen : D.length = J.length := by omega
  rw [Nat.zero_add]
  refine hQ D w hiff ?_ hB
  rw [← hlen]
  exact hM.congr (lookup_perm (keys_nodup hF.inj hn hs) (keys_nodup hF.inj hF.nd fun _ h => h) fun p => by simp [List.mem_map, hiff])
 | m + 1, D, w, hn, hs, hl, hc, hM, hB => by
  have e : m + 1 + g = m + g + 1 := by omega
  rw [e]
  obtain ⟨i0, hi0, hi1⟩ := left_pos hc
  have un : ∀ i, i ∈ J → i ∉ D → (doneL L0 D)[i]? = some false := fun i hi hni => by
   rw [doneL_get, if_neg fun q => hni q.1]
   exact hF.jl i hi
  have old : ∀ j, L0[j]? = some true → (doneL L0 D)[j]? = some true := fun j hj => by
   rw [doneL_get]
   split
   ·rfl
   ·exact hj
  have r0 : i0 ∈ Region.ready .any ops (doneL L0 D) := by
   obtain ⟨o, t, e, mm, x, v, ho, _, _, _, _, _, _, _, _, hw⟩ := hF.fill i0 hi0
   exact mem_ready.2 ⟨getD_of (un i0 hi0 hi1), o, ho, fun gr hg hb => getD_of (old gr.on (hw gr hg hb))⟩
  refine ⟨fun h => (by rw [h] at r0; cases r0), fun i hi => ?_⟩
  obtain ⟨hun, o, ho, hall⟩ := mem_ready.1 hi
  have hun' := of_getD hun
  have hnd : i ∉ D := fun h => by
   rw [doneL_get] at hun'
   have hlt : i < L0.size := by
    have := hF.jl i (hs i h)
    exact (Array.getElem?_eq_some_iff.1 this).1
   rw [if_pos ⟨h, hlt⟩] at hun'
   cases hun'
  have hij : i ∈ J := by
   rw [doneL_get, if_neg fun q => hnd q.1] at hun'
   refine (hF.jt i hun').resolve_right fun ht => ?_
   obtain ⟨o', ho', hj⟩ := hF.tail i ht
   rw [ho] at ho'
   cases ho'
   obtain ⟨gr, hg, hb, he⟩ := hj i0 hi0
   have h1 := of_getD1 (hall gr hg hb)
   rw [he, un i0 hi0 hi1] at h1
   cases h1
  obtain ⟨o', t, te, mm, x, v, ho', hgd, hdst, hop, hund, h1, h2, h3, hok, _⟩ := hF.fill i hij
  rw [ho] at ho'
  cases ho'
  have hDl : D.length < maxLen := by omega
  obtain ⟨w', hrun, hM', hgr⟩ := hM.put hF.km hund hDl (E i).1 hok (E i).2
  have next := fill_any g hF hm w0 hb0 hQ m (i :: D) w' (List.nodup_cons.2 ⟨hnd, hn⟩) (fun j hj => by
   rcases List.mem_cons.1 hj with rfl | h
   ·exact hij
   ·exact hs j h) (by simp only [List.length_cons]; omega) (by have := left_cons hnd hF.nd hij; omega) hM' ⟨hgr.os.trans hB.os, hgr.tape.trans hB.tape, hgr.output.trans hB.output, Nat.le_trans hB.size hgr.size, fun j hj => (hgr.block j (Nat.lt_of_lt_of_le hj hB.size) (fun q => by have := Option.some.inj q; omega)).trans (hB.block j hj)⟩
  unfold wpOp
  rw [ho]
  have hw : Region.wanted o (yielded ops a.tmps) = true := by
   unfold Region.wanted
   rw [hgd]
  simp only [hw, if_true]
  refine .inl ?_
  unfold Oper.wp
  simp [execOp, hop, h1, h2, h3, hrun, Result.andThen, Oper.upon, hdst, Act.put]
  exact next
end
end Go.Proofs.YtmiaabpnolebhaaGreatDoor
