/-
  Texts of this claim, joined: Parts, AppMake.
-/
import Derived.Test.YtmiaabpnolebhaaGreatDoorJ3969933d
import Derived.Lib.ConvBytes
import Derived.Lib.SlBytesConst
import Derived.Laws.AppendOwn
import Derived.IntWalk
set_option linter.unusedSimpArgs false
set_option linter.unusedVariables false
/-
  Slices of bytes in a slice; a string's bytes.
-/
namespace Go.Proofs.YtmiaabpnolebhaaGreatDoor
open Go.RowKit

namespace R1
/-- A slice's value as bytes, with what an append asks of it. -/
def BytesN (w : World) (B : Nat) (p : List Nat) (v : Value) : Prop := ∃ A c, v = .slice A p.length c ∧ p.length ≤ c ∧ (A = none → c = 0) ∧ Nats .u8 256 w B A p
/-- A slice of byte slices. -/
def Parts (w : World) (B : Nat) (A : Option Addr) (ps : List (List Nat)) : Prop := ∀ (i : Nat) (p : List Nat), ps[i]? = some p → ∃ J off v, A = some ⟨J, off, none⟩ ∧ J < B ∧ w.cell? ⟨J, off + i, none⟩ = some v ∧ BytesN w B p v
theorem BytesN.below {w w' : World} {B : Nat} {p : List Nat} {v : Value} (h : BytesN w B p v) (hb : Below B w w') : BytesN w' B p v := let ⟨A, c, h1, h2, h3, h4⟩ := h; ⟨A, c, h1, h2, h3, h4.below hb⟩
theorem BytesN.more {w : World} {B B' : Nat} {p : List Nat} {v : Value} (h : BytesN w B p v) (hB : B ≤ B') : BytesN w B' p v := let ⟨A, c, h1, h2, h3, h4⟩ := h; ⟨A, c, h1, h2, h3, h4.more hB⟩
theorem Parts.below {w w' : World} {B : Nat} {A : Option Addr} {ps : List (List Nat)} (h : Parts w B A ps) (hb : Below B w w') : Parts w' B A ps := fun i p hp => by
  obtain ⟨J, off, v, h1, h2, h3, h4⟩ := h i p hp
  exact ⟨J, off, v, h1, h2, (hb.cell (p := ⟨J, off + i, none⟩) h2).trans h3, h4.below hb⟩
theorem Parts.more {w : World} {B B' : Nat} {A : Option Addr} {ps : List (List Nat)} (h : Parts w B A ps) (hB : B ≤ B') : Parts w B' A ps := fun i p hp => by
  obtain ⟨J, off, v, h1, h2, h3, h4⟩ := h i p hp
  exact ⟨J, off, v, h1, by omega, h3, h4.more hB⟩
theorem Parts.nil (w : World) (B : Nat) (A : Option Addr) : Parts w B A [] := fun i p h => by simp at h
theorem BytesN.of {w : World} {p : List Nat} {A : Option Addr} {n c : Nat} (hn : p.length = n) (hc : n ≤ c) (hnil : A = none → c = 0) (h : Nats .u8 256 w w.heap.size A p) : BytesN w w.heap.size p (.slice A n c) := by subst hn; exact ⟨A, c, rfl, hc, hnil, h⟩
theorem BytesN.form {w : World} {B : Nat} {p : List Nat} {v : Value} (h : BytesN w B p v) : ∃ A n c, v = .slice A n c ∧ BytesN w B p (.slice A n c) := let ⟨A, c, h1, _⟩ := h; ⟨A, p.length, c, h1, h1 ▸ h⟩
theorem own_bytesN {w : World} {base : Nat} {v : Value} {l : List Nat} (h : OwnB w base v l) (hb : ∀ x ∈ l, x < 256) : BytesN w w.heap.size l v := by
  obtain ⟨A, c, rfl, hc, hN, _⟩ := own_nats h hb
  exact ⟨A, c, rfl, hc, own_nil h, hN⟩
/-- A slice literal of byte slices. -/
theorem parts_new {t : TypeId} (w : World) (vs : List Value) (ps : List (List Nat)) (hl : vs.length = ps.length) (h : ∀ (i : Nat) (p : List Nat) (v : Value), ps[i]? = some p → vs[i]? = some v → BytesN w w.heap.size p v) : Parts (w.alloc (.cells vs.toArray t)) (w.alloc (.cells vs.toArray t)).heap.size (some ⟨w.heap.size, 0, none⟩) ps := fun i p hp => by
  obtain ⟨v, hv⟩ : ∃ v, vs[i]? = some v := ⟨_, List.getElem?_eq_getElem (by have := (List.getElem?_eq_some_iff.1 hp).1; omega)⟩
  refine ⟨w.heap.size, 0, v, rfl, by simp, ?_, ((h i p v hp hv).below ((Below.refl _ w).alloc (Nat.le_refl _) _)).more (by simp)⟩
  rw [Nat.zero_add, (Blk.new w t vs.toArray).cell]
  simpa using hv
/-- A string's bytes. -/
def sB (s : ByteArray) : List Nat := s.data.toList.map (·.toNat)
theorem sB_length (s : ByteArray) : (sB s).length = s.size := by
  unfold sB
  rw [List.length_map]
  rfl
theorem sB_byte (s : ByteArray) : ∀ x ∈ sB s, x < 256 := fun x h => by
  obtain ⟨b, _, rfl⟩ := List.mem_map.1 h
  exact b.toNat_lt
theorem wpList_convert_str {P : Program} {w : World} {ops : Array Oper} {rest : List Oper} {o : Oper} {a : Act} {Q : Exit → Act → World → Prop} (hgd : o.guard = none) (src dst e : TypeId) (x : Operand) (ho : o.op = .convert src dst x) (hs : P.underlying src = some .string) (hd : P.underlying dst = some (.slice e)) (he : P.underlying e = some (.int .u8))
    (s : ByteArray) (hx : a.eval x = .string s) (h : ∀ v w', BytesN w' w'.heap.size (sB s) v → Below w.heap.size w w' → wpList P ops Q rest (a.put o.dst v) w') : wpList P ops Q (o :: rest) a w := by
  refine wpList_plain hgd fun K hK => ?_
  have hr := Lib.run_convert_string_bytes (P := P) w src dst e s hs hd he
  unfold Oper.wp execOp
  simp only [ho, hx]
  rw [Sem.run_bind, hr]
  simp only [Result.andThen_ok, Sem.run_pure, Oper.upon_value]
  refine hK _ _ (h _ _ ?_ ⟨rfl, rfl, rfl, by rw [Lib.bytesWorld_size]; omega, fun k hk => Lib.bytesWorld_at_old w e s k hk⟩)
  refine ⟨some ⟨w.heap.size, 0, none⟩, grownCap w s.size 0 e, by rw [sB_length], by rw [sB_length]; exact grownCap_ge _ _ _ _, (fun h => by cases h), fun i z hz => ?_⟩
  have hlt : i < s.size := by rw [← sB_length]; exact (List.getElem?_eq_some_iff.1 hz).1
  refine ⟨sB_byte s z (List.mem_of_getElem? hz), w.heap.size, 0, rfl, by rw [Lib.bytesWorld_size]; omega, ?_⟩
  rw [Nat.zero_add, Lib.bytesWorld_cell w e s i hlt]
  have : z = (s.data.toList.getD i 0).toNat := by
    simp only [sB, List.getElem?_map] at hz
    cases hq : s.data.toList[i]? with
    | none => rw [hq] at hz; cases hz
    | some b => rw [hq] at hz; cases hz; simp [List.getD, hq]
  rw [this]
end R1
end Go.Proofs.YtmiaabpnolebhaaGreatDoor

/-
  append(s, make([]T, n)...): noughts behind a row of the call's own. No program in sight.
-/
namespace Go.Proofs.YtmiaabpnolebhaaGreatDoor
open Go.RowKit

theorem zeroCells_one (z : Value) (m : Nat) : Builtin.zeroCells #[z] m = (List.replicate m z).toArray := by
  apply Array.ext_getElem?
  intro j
  simp only [Builtin.zeroCells]
  by_cases h : j < m
  · simp [h, Nat.mod_one]
  · rw [Array.getElem?_eq_none (by simp; omega), Array.getElem?_eq_none (by simp; omega)]
set_option maxHeartbeats 1000000 in
theorem run_append_zeros {P : Program} (w : World) (base : Nat) (t u ty e : TypeId) (i : TypeInfo) (z : Value) (ku kx : IntKind) (bytes : Nat) (ht : P.underlying t = some (.slice e)) (hu : P.underlying u = some (.int ku)) (hi : P.info? e = some i) (hz : i.zero = some z)
    (hsize : i.size = 1) (hby : i.bytes = bytes) (hzc : z.cells = #[z]) (hz1 : z.oneCell' = true) (v : Value) (n : Nat) (xs : List Value) (hown : w.ownsRow base e 1 v n xs) (hn : 0 < n) (x : Int) (m : Nat) (hx : x = m) (hm : m ≤ 1000000)
    (h63 : n + m ≤ maxLen) (hbytes : (n + m) * bytes ≤ 140737488355328) (hbase : base ≤ w.heap.size) :
    ∃ v' w', (Builtin.append_ #[t, u] ty #[v, .int kx x]).run P w = .ok v' w' ∧ w'.ownsRow base e 1 v' (n + m) (xs ++ List.replicate m z) ∧ w.grownBy w' v.ownBlock ∧ (v'.ownBlock = v.ownBlock ∨ v'.ownBlock = some w.heap.size) := by
  subst hby
  subst hx
  have hwr : IntKind.i64.wrap (m : Int) = (m : Int) := IntWalk.i64_in _ (by omega)
  have h63' : n + m ≤ 9223372036854775807 := by simp only [maxLen] at h63; omega
  have hl48 : ¬ (2 ^ 48 < (m : Int) * (i.bytes : Int)) := by
    have h : ((m * i.bytes : Nat) : Int) ≤ 140737488355328 := by
      have : m * i.bytes ≤ (n + m) * i.bytes := Nat.mul_le_mul_right _ (by omega)
      omega
    rw [Int.natCast_mul] at h
    omega
  have hl48' : ¬ (281474976710656 < (m : Int) * (i.bytes : Int)) := by simpa using hl48
  have hm0 : ¬ ((m : Int) < 0) := by omega
  rcases hown.2 with ⟨rfl, rfl⟩ | ⟨g, cap, cur, rfl, hbg, hg, hnc, hcm, hcs, htake⟩
  · omega
  · have hap : ((if m * i.size = 0 then pure #[] else do pure (Builtin.zeroCells (← zeroValue e).cells m)) : Sem (Array Value)).run P w = .ok (List.replicate m z).toArray w := by
      by_cases h : m = 0
      · subst h; simp
      · simp [hsize, h, zeroValue, typeInfo, hi, hz, hzc, zeroCells_one]
    have hap' : ((if m * i.size = 0 then pure #[] else do pure (Builtin.zeroCells (← zeroValue e).cells m)) : Sem (Array Value)).run P w.drew = .ok (List.replicate m z).toArray w.drew := by
      by_cases h : m = 0
      · subst h; simp
      · simp [hsize, h, zeroValue, typeInfo, hi, hz, hzc, zeroCells_one]
    by_cases hroom : n + m ≤ cap
    · have hst := run_storeCells_at P g n e (List.replicate m z) 0 cur w hg (by simp; omega) (fun v hv => by obtain ⟨_, rfl⟩ := List.mem_replicate.1 hv; exact hz1)
      simp only [Nat.add_zero, List.length_replicate] at hst
      refine ⟨.slice (some ⟨g, 0, none⟩) (n + m) cap, w.setRow g (cur.toList.take n ++ List.replicate m z ++ cur.toList.drop (n + m)).toArray, ?_, ⟨by simp [hown.1], .inr ⟨g, cap, _, rfl, hbg, setRow_heap w g cur _ e _ hg, hroom, hcm, ?_, ?_⟩⟩, ⟨rfl, rfl, rfl, by simp, fun k _ hk => setRow_other w g k _ (fun e => hk (by simp [Value.ownBlock, e]))⟩, .inl rfl⟩
      · by_cases h : m = 0
        · subst h
          simp only [List.replicate_zero] at hst
          have hw0 : IntKind.i64.wrap 0 = 0 := by decide
          simp [Builtin.append_, run_underlying ht, run_underlying hu, sizeOf, typeInfo, hi, asInt, asIntOf, hw0, hsize, hnc, Addr.add_lit, hst]
        · simp [Builtin.append_, run_underlying ht, run_underlying hu, sizeOf, typeInfo, zeroValue, hi, hz, asInt, asIntOf, hwr, hm0, hl48', hsize, h, hroom, hzc, zeroCells_one, Addr.add_lit, hst]
      · simp
        omega
      · have hxl : xs.length = n := by have := hown.1; omega
        simp only [Nat.mul_one] at htake ⊢
        rw [List.toList_toArray, htake]
        rw [List.take_append_of_le_length (by simp; omega), List.take_of_length_le (by simp; omega)]
    · have hh : ∀ j u, xs[j]? = some u → w.cell? ((⟨g, 0, none⟩ : Addr).add j) = some u := hown.cells (g := g) rfl
      have hfo := run_firstCells_some (P := P) w.drew 1 n ⟨g, 0, none⟩ n cap xs (by have := hown.1; omega) (by simpa using hh)
      have hfit := growslice_fits (old := cap) (bytes := i.bytes) (need := n + m) (by omega) hbytes
      have h48' : ¬ (281474976710656 < Builtin.nextslicecap (n + m) cap * i.bytes) := by omega
      have h63'' : ¬ (9223372036854775807 < ((n : Int) + (m : Int))) := by omega
      have hm1 : m ≠ 0 := by omega
      have hge := grownCap_ge w (n + m) cap e
      have hcm2 : grownCap w (n + m) cap e ≤ maxLen := grownCap_le_maxLen w (n + m) cap e h63
      refine ⟨.slice (some ⟨w.heap.size, 0, none⟩) (n + m) (grownCap w (n + m) cap e), w.drew.alloc (.cells (xs.toArray ++ (List.replicate m z).toArray ++ Builtin.zeroCells z.cells (grownCap w (n + m) cap e - (n + m))) e), ?_, ⟨by simp [hown.1], .inr ⟨w.heap.size, _, _, rfl, hbase, heap_alloc_new w.drew _, hge, hcm2, ?_, ?_⟩⟩, ⟨rfl, rfl, rfl, by simp, fun k hk _ => Below.heap_alloc w.drew _ k hk⟩, .inr rfl⟩
      · simp [Builtin.append_, run_underlying ht, run_underlying hu, sizeOf, typeInfo, zeroValue, hi, hz, asInt, asIntOf, hwr, hm0, hl48', hsize, hroom, h63'', h48', hm1, Question.forced, hfo, newRow, grownCap, hzc, zeroCells_one]
      · simp only [Array.size_append, List.size_toArray, size_zeroCells, hown.1, List.length_replicate, hzc]
        simp
        omega
      · have hxl : xs.length = n := by have := hown.1; omega
        simp only [Array.toList_append, Nat.mul_one]
        rw [List.take_append_of_le_length (by simp; omega), List.take_of_length_le (by simp; omega)]
theorem wpList_append_zeros {P : Program} {w : World} {ops : Array Oper} {rest : List Oper} {o : Oper} {a : Act} {Q : Exit → Act → World → Prop} (hgd : o.guard = none) (s x : Operand) (t u : TypeId)
    (ho : o.op = .call { callee := .builtin .append, args := #[s, x], argTypes := #[t, u] })
    (base : Nat) (e : TypeId) (i : TypeInfo) (z : Value) (ku kx : IntKind) (bytes : Nat) (ht : P.underlying t = some (.slice e)) (hu : P.underlying u = some (.int ku)) (hi : P.info? e = some i) (hz : i.zero = some z)
    (hsize : i.size = 1) (hby : i.bytes = bytes) (hzc : z.cells = #[z]) (hz1 : z.oneCell' = true) (v : Value) (n : Nat) (xs : List Value) (hs : a.eval s = v) (hown : w.ownsRow base e 1 v n xs) (hn : 0 < n) (xi : Int) (m : Nat) (hxe : a.eval x = .int kx xi) (hx : xi = m) (hm : m ≤ 1000000)
    (h63 : n + m ≤ maxLen) (hbytes : (n + m) * bytes ≤ 140737488355328) (hbase : base ≤ w.heap.size)
    (h : ∀ v' w', w'.ownsRow base e 1 v' (n + m) (xs ++ List.replicate m z) → w.grownBy w' v.ownBlock → (v'.ownBlock = v.ownBlock ∨ v'.ownBlock = some w.heap.size) → wpList P ops Q rest (a.put o.dst v') w') : wpList P ops Q (o :: rest) a w := by
  obtain ⟨v', w', hr, h2, h3, h4⟩ := run_append_zeros (P := P) w base t u o.type e i z ku kx bytes ht hu hi hz hsize hby hzc hz1 v n xs hown hn xi m hx hm h63 hbytes hbase
  refine wpList_plain hgd fun K hK => ?_
  unfold Oper.wp execOp
  simp only [ho, resolve, invoke, builtin, Sem.run_bind, Sem.run_pure, Result.andThen_ok, List.map_toArray, List.map_cons, List.map_nil, hs, hxe, hr]
  exact hK _ _ (h v' w' h2 h3 h4)
end Go.Proofs.YtmiaabpnolebhaaGreatDoor
