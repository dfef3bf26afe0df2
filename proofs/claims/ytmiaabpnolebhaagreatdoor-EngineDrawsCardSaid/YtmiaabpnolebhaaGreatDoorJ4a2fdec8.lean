/-
  Texts of this claim, joined: SlotA, SlotB.
-/
import Derived.Test.YtmiaabpnolebhaaGreatDoorJd919b9e9
import Derived.Test.YtmiaabpnolebhaaGreatDoorJc950bf80
set_option linter.unusedSimpArgs false
set_option linter.unusedVariables false
/-
  Package slot: a chip's places, plain and in memory; may, Kind, key.
-/
namespace Go.Proofs.YtmiaabpnolebhaaGreatDoor
open Go.RowKit

namespace Slot
open Otp R1 Sha
theorem flat_len {n : Nat} : ∀ (L : List (List Value)), (∀ r ∈ L, r.length = n) → L.flatten.length = n * L.length
  | [], _ => by simp
  | r :: L, h => by
    have h1 := flat_len L (fun q hq => h q (List.mem_cons_of_mem _ hq))
    have h2 := h r (by simp)
    simp only [List.flatten_cons, List.length_append, List.length_cons, h1, h2, Nat.mul_succ]
    omega
theorem flat_get {n : Nat} : ∀ (L : List (List Value)), (∀ r ∈ L, r.length = n) → ∀ (h : Nat) (r : List Value), L[h]? = some r → ∀ (j : Nat) (v : Value), r[j]? = some v → L.flatten[n * h + j]? = some v
  | r :: L, hl, 0, q, hq, j, v, hv => by
    simp at hq
    subst hq
    rw [List.flatten_cons, Nat.mul_zero, Nat.zero_add, List.getElem?_append_left (List.getElem?_eq_some_iff.1 hv).1]
    exact hv
  | r :: L, hl, h + 1, q, hq, j, v, hv => by
    have h1 := flat_get L (fun q hq => hl q (List.mem_cons_of_mem _ hq)) h q (by simpa using hq) j v hv
    have h2 := hl r (by simp)
    rw [List.flatten_cons, List.getElem?_append_right (by rw [h2, Nat.mul_succ]; omega), h2, show n * (h + 1) + j - n = n * h + j by rw [Nat.mul_succ]; omega]
    exact h1
theorem flat_splice {n : Nat} (Z : List Value) : ∀ (L : List (List Value)), (∀ r ∈ L, r.length = n) → ∀ (h : Nat) (r : List Value), h < L.length → r.length = n → splice (L.flatten ++ Z) (n * h) r = (L.set h r).flatten ++ Z
  | q :: L, hl, 0, r, _, hr => by
    have h2 := hl q (by simp)
    unfold splice
    rw [Nat.mul_zero, List.take_zero, List.nil_append, Nat.zero_add, List.set_cons_zero, List.flatten_cons, List.flatten_cons, List.append_assoc, List.drop_append, List.drop_of_length_le (by omega), List.nil_append, show r.length - q.length = 0 by omega, List.drop_zero, List.append_assoc]
  | q :: L, hl, h + 1, r, hh, hr => by
    have h1 := flat_splice Z L (fun q hq => hl q (List.mem_cons_of_mem _ hq)) h r (by simpa using hh) hr
    have h2 := hl q (by simp)
    rw [List.set_cons_succ, List.flatten_cons, List.flatten_cons, List.append_assoc, List.append_assoc, ← h1]
    unfold splice
    rw [List.take_append, List.drop_append, List.take_of_length_le (by rw [h2, Nat.mul_succ]; omega), List.drop_of_length_le (by rw [h2, Nat.mul_succ]; omega), h2, List.nil_append, List.append_assoc, show n * (h + 1) - n = n * h by rw [Nat.mul_succ]; omega, show n * (h + 1) + r.length - n = n * h + r.length by rw [Nat.mul_succ]; omega]
/-- A chip's places (kind, key); locked, dead. -/
structure Slt where
  rs : List (Nat × List Nat)
  lk : Bool
  dd : Bool
def row (p : Nat × List Nat) : List Value := .int .i64 (p.1 : Int) :: v8 p.2
def slC (s : Slt) : List Value := (s.rs.map row).flatten ++ [.bool s.lk, .bool s.dd]
structure Slt.Ok (s : Slt) : Prop where
  len : s.rs.length = 8
  key : ∀ p ∈ s.rs, p.2.length = 32
  byte : ∀ p ∈ s.rs, ∀ x ∈ p.2, x < 256
  kind : ∀ p ∈ s.rs, p.1 ≤ 3
theorem Slt.Ok.rows {s : Slt} (h : s.Ok) : ∀ r ∈ s.rs.map row, r.length = 33 := fun r hr => by
  obtain ⟨p, hp, rfl⟩ := List.mem_map.1 hr
  simp [row, v8_length, h.key p hp]
theorem Slt.Ok.size {s : Slt} (h : s.Ok) : (slC s).length = 266 := by
  unfold slC
  rw [List.length_append, flat_len _ h.rows, List.length_map, h.len]
  rfl
theorem Slt.Ok.kindAt {s : Slt} (h : s.Ok) {i : Nat} {p : Nat × List Nat} (hp : s.rs[i]? = some p) : (slC s)[33 * i]? = some (.int .i64 (p.1 : Int)) := by
  have h1 := flat_get _ h.rows i (row p) (by rw [List.getElem?_map, hp]; rfl) 0 (.int .i64 (p.1 : Int)) rfl
  unfold slC
  rw [Nat.add_zero] at h1
  rw [List.getElem?_append_left (List.getElem?_eq_some_iff.1 h1).1]
  exact h1
theorem Slt.Ok.keyAt {s : Slt} (h : s.Ok) {i : Nat} {p : Nat × List Nat} (hp : s.rs[i]? = some p) : ∀ (j : Nat) (v : Value), (v8 p.2)[j]? = some v → (slC s)[33 * i + 1 + j]? = some v := fun j v hv => by
  have h1 := flat_get _ h.rows i (row p) (by rw [List.getElem?_map, hp]; rfl) (j + 1) v (by simpa [row] using hv)
  unfold slC
  rw [show 33 * i + 1 + j = 33 * i + (j + 1) by omega, List.getElem?_append_left (List.getElem?_eq_some_iff.1 h1).1]
  exact h1
theorem Slt.Ok.lockAt {s : Slt} (h : s.Ok) : (slC s)[264]? = some (.bool s.lk) := by
  unfold slC
  rw [List.getElem?_append_right (by rw [flat_len _ h.rows, List.length_map, h.len]; decide), flat_len _ h.rows, List.length_map, h.len]
  rfl
theorem Slt.Ok.deadAt {s : Slt} (h : s.Ok) : (slC s)[265]? = some (.bool s.dd) := by
  unfold slC
  rw [List.getElem?_append_right (by rw [flat_len _ h.rows, List.length_map, h.len]; decide), flat_len _ h.rows, List.length_map, h.len]
  rfl
/-- A place is laid. -/
def Slt.put (s : Slt) (i : Nat) (p : Nat × List Nat) : Slt := { s with rs := s.rs.set i p }
theorem Slt.Ok.splice {s : Slt} (h : s.Ok) {i : Nat} (hi : i < 8) {p : Nat × List Nat} (hp : p.2.length = 32) : Go.splice (slC s) (33 * i) (row p) = slC (s.put i p) := by
  unfold slC Slt.put
  rw [flat_splice _ _ h.rows i (row p) (by rw [List.length_map, h.len]; exact hi) (by simp [row, v8_length, hp]), List.map_set]
theorem Slt.Ok.put {s : Slt} (h : s.Ok) (i : Nat) {p : Nat × List Nat} (hp : p.2.length = 32) (hb : ∀ x ∈ p.2, x < 256) (hk : p.1 ≤ 3) : (s.put i p).Ok := by
  refine ⟨by simp [Slt.put, h.len], fun q hq => ?_, fun q hq => ?_, fun q hq => ?_⟩ <;> rcases List.mem_or_eq_of_mem_set hq with h1 | rfl
  · exact h.key q h1
  · exact hp
  · exact h.byte q h1
  · exact hb
  · exact h.kind q h1
  · exact hk
/-- It lies in memory. -/
structure Sl (w : World) (g : Nat) (s : Slt) : Prop where
  ok : s.Ok
  blk : Blk w g 239 (slC s).toArray
section
variable {w w' : World} {g : Nat} {s : Slt}
theorem Sl.lt (h : Sl w g s) : g < w.heap.size := h.blk.lt
theorem Sl.old (h : Sl w g s) (hb : Below w.heap.size w w') : Sl w' g s := ⟨h.ok, h.blk.next hb rfl⟩
theorem Sl.frm {S : List Nat} (h : Sl w g s) (hf : Frm S w w') (hg : g ∉ S) : Sl w' g s := ⟨h.ok, h.blk.frm hf hg⟩
theorem Sl.cellAt (h : Sl w g s) {i : Nat} {v : Value} (hv : (slC s)[i]? = some v) : w.cell? ⟨g, i, none⟩ = some v := by
  rw [h.blk.cell]
  simpa using hv
end
def inR (h : Int) : Bool := decide (0 ≤ h ∧ h < 8)
theorem inR_t {h : Int} (h1 : 0 ≤ h) (h2 : h < 8) : inR h = true := by simp [inR, h1, h2]
theorem inR_f {h : Int} (h1 : ¬ (0 ≤ h ∧ h < 8)) : inR h = false := by simp only [inR, decide_eq_false_iff_not]; exact h1
/-- Why nothing can be done with some places. -/
def mayE (s : Slt) (l : List Int) : Nat := if s.dd then 17 else if l.all inR then 0 else 1
set_option maxHeartbeats 1000000 in
theorem within_any (A : Option Addr) (n c : Nat) (h : Int) (b : Bool) (w : World) (hb : decide (0 ≤ h ∧ h < (n : Int)) = b) : Calls Tryz.prog 199 #[.slice A n c, .int .i64 h] w (fun e w' => e = .returned (.bool b) ∧ w = w') := by
  by_cases h0 : 0 ≤ h
  · have g0 : (h ≥ 0) = True := by simp [h0]
    by_cases h1 : h < (n : Int)
    · obtain rfl : b = true := by rw [← hb]; simp [h0, h1]
      clear hb
      go_enter Tryz.func199, Tryz.ntmps199
      go_wp2_with fail
      go_light
      go_ret
      exact ⟨rfl, rfl⟩
    · obtain rfl : b = false := by rw [← hb]; simp [h1]
      clear hb
      go_enter Tryz.func199, Tryz.ntmps199
      go_wp2_with fail
      go_light
      go_ret
      exact ⟨rfl, rfl⟩
  · obtain rfl : b = false := by rw [← hb]; simp [h0]
    have g0 : ¬ (h ≥ 0) := h0
    clear hb
    go_enter Tryz.func199, Tryz.ntmps199
    go_wp2_with fail
    go_light
    go_ret
    exact ⟨rfl, rfl⟩
theorem run_slice_arr_all' {P : Program} (t e : TypeId) (N : Nat) (ht : P.underlying t = some (.array N e)) (hs : ∀ w, (sizeOf e).run P w = .ok 1 w) (b o : Nat) (h3 : 0 < N) (w : World) :
    (Instr.sliceAt t (.pointer (some ⟨b, o, none⟩)) none none none).run P w = .ok (.slice (some ⟨b, o, none⟩) N N) w := by
  have hn : P.arrayLen t = N := by simp [Program.arrayLen, ht]
  have he : P.elem t = e := by simp [Program.elem, ht]
  have ht' : P.underlying t = some (.array (P.arrayLen t) (P.elem t)) := by rw [hn, he]; exact ht
  rw [run_sliceAt_array_all w t ⟨b, o, none⟩ ht', he, hs, hn]
  have hne : ¬ N = 0 := by omega
  simp [Result.andThen, slicedAt, hne, Go.WideShapes.add_plain]
theorem run_slice_places (g : Nat) (w : World) : (Instr.sliceAt 237 (.pointer (some ⟨g, 0, none⟩)) none none none).run Tryz.prog w = .ok (.slice (some ⟨g, 0, none⟩) 8 8) w := by
  have hn : Tryz.prog.arrayLen 237 = 8 := by kernel_rfl
  have he : Tryz.prog.elem 237 = 236 := by kernel_rfl
  have ht' : Tryz.prog.underlying 237 = some (.array (Tryz.prog.arrayLen 237) (Tryz.prog.elem 237)) := by kernel_rfl
  have hs : (sizeOf (Tryz.prog.elem 237)).run Tryz.prog w = .ok 33 w := by rw [he]; kernel_rfl
  rw [run_sliceAt_array_all w 237 ⟨g, 0, none⟩ ht', hs, hn]
  simp [Result.andThen, slicedAt, Go.WideShapes.add_plain]
set_option maxRecDepth 100000 in
set_option maxHeartbeats 1000000 in
theorem may_any (g : Nat) (s : Slt) (A : Option Addr) (l : List Int) (n c : Nat) (w : World) (hS : Sl w g s) (hl : l.length = n) (hn : n ≤ 1000000) (hz : Ints .i64 w w.heap.size A l) :
    Calls Tryz.prog 118 #[.pointer (some ⟨g, 0, none⟩), .slice A n c] w (fun e w' => e = .returned (.int .i64 (mayE s l : Int)) ∧ w = w') := by
  subst hl
  obtain ⟨E, hE⟩ : ∃ E, mayE s l = E := ⟨_, rfl⟩
  rw [hE]
  have hcd : w.cell? ⟨g, 265, none⟩ = some (.bool s.dd) := hS.cellAt hS.ok.deadAt
  have HN := Lib.hid hz
  have hsl := run_slice_places g
  cases hdd : s.dd with
  | true =>
    obtain rfl : E = 17 := by rw [← hE]; simp [mayE, hdd]
    rw [hdd] at hcd
    clear hE hdd hz
    go_enter Tryz.func118, Tryz.ntmps118
    go_wp2_with fail
    go_light
    go_ret
    exact ⟨rfl, rfl⟩
  | false =>
    have HE := Lib.hid (show E = if l.all inR then 0 else 1 by rw [← hE]; simp [mayE, hdd])
    rw [hdd] at hcd
    clear hE hdd hz
    go_enter Tryz.func118, Tryz.ntmps118
    go_wp2_with fail
    go_loopg [17] l.length (fun gm s17 wr => ∃ i : Nat, i + gm = l.length ∧ s17 = .int .i64 (i : Int) ∧ Hid ((l.take i).all inR = true) ∧ wr = w)
    case atStart => exact ⟨0, by omega, rfl, Lib.hid rfl, rfl⟩
    case round =>
      obtain ⟨i, hg, rfl, HA, rfl⟩ := hrel
      have HG := Lib.hid hg
      have hi : i ≤ l.length := by omega
      clear hg
      by_cases hlt : i < l.length
      · obtain ⟨z, hx⟩ : ∃ z, l[i]? = some z := ⟨_, List.getElem?_eq_getElem hlt⟩
        obtain ⟨_, b, off, rfl, hb, hcx⟩ := HN.out i z hx
        have HT := Lib.hid (take_snoc hx)
        have HX := Lib.hid hx
        clear hx
        cases hin : inR z with
        | true =>
          have HI := Lib.hid (show decide (0 ≤ z ∧ z < ((8 : Nat) : Int)) = true from hin)
          have HIN := Lib.hid hin
          clear hin
          go_wp2_with fail
          (with_reducible refine (within_any _ _ _ _ true _ HI.out).mono ?_); rintro e w2 ⟨rfl, rfl⟩
          go_wp2_with fail
          go_light
          go_roundg (l.length - (i + 1))
          case measure => have := HG.out; omega
          case rel => exact ⟨i + 1, by omega, by go_num, Lib.hid (by rw [HT.out, List.all_append, HA.out]; simp [HIN.out]), rfl⟩
        | false =>
          have HI := Lib.hid (show decide (0 ≤ z ∧ z < ((8 : Nat) : Int)) = false from hin)
          have HE1 := Lib.hid (show E = 1 by
            rw [HE.out, if_neg]
            intro h
            have := List.all_eq_true.1 h z (List.mem_of_getElem? HX.out)
            rw [hin] at this
            cases this)
          clear hin
          go_wp2_with fail
          (with_reducible refine (within_any _ _ _ _ false _ HI.out).mono ?_); rintro e w2 ⟨rfl, rfl⟩
          go_wp2_with fail
          go_light
          go_ret
          exact ⟨by rw [HE1.out]; rfl, rfl⟩
      · have hil : i = l.length := by omega
        subst hil
        have HE0 := Lib.hid (show E = 0 by
          have := HA.out
          rw [List.take_length] at this
          rw [HE.out, if_pos this])
        go_wp2_with fail
        go_light
        go_ret
        exact ⟨by rw [HE0.out]; rfl, rfl⟩
set_option maxHeartbeats 1000000 in
theorem may_nil (A : Option Addr) (n c : Nat) (w : World) : Calls Tryz.prog 118 #[.pointer none, .slice A n c] w (fun e w' => e = .returned (.int .i64 3) ∧ w = w') := by
  go_enter Tryz.func118, Tryz.ntmps118
  go_wp2_with fail
  go_light
  go_ret
  exact ⟨rfl, rfl⟩
end Slot
end Go.Proofs.YtmiaabpnolebhaaGreatDoor

/-
  Package slot: Kind, key.
-/
namespace Go.Proofs.YtmiaabpnolebhaaGreatDoor
open Go.RowKit

namespace Slot
open Otp R1 Sha
def wfI (h : Int) : Prop := (Lit.int .i64 h).wf = true
theorem ints_one (w : World) (h : Int) (hw : wfI h) : Ints .i64 (w.alloc (.cells #[.int .i64 h] 3)) (w.alloc (.cells #[.int .i64 h] 3)).heap.size (some ⟨w.heap.size, 0, none⟩) [h] :=
  (ints_new w [h] _ rfl (fun z hz => by simp at hz; subst hz; exact hw)).more (by simp)
theorem ints_two (w : World) (h k : Int) (hw : wfI h) (kw : wfI k) : Ints .i64 (w.alloc (.cells #[.int .i64 h, .int .i64 k] 3)) (w.alloc (.cells #[.int .i64 h, .int .i64 k] 3)).heap.size (some ⟨w.heap.size, 0, none⟩) [h, k] :=
  (ints_new w [h, k] _ rfl (fun z hz => by simp at hz; rcases hz with rfl | rfl; exact hw; exact kw)).more (by simp)
/-- A place's kind. -/
def kindE (s : Slt) (h : Int) : Nat := if mayE s [h] = 0 then (s.rs[h.toNat]?.getD (0, [])).1 else 0
theorem mayE_le (s : Slt) (l : List Int) : mayE s l ≤ 17 := by
  unfold mayE
  split
  · decide
  · split <;> decide
theorem mayE_zero {s : Slt} {h : Int} (hm : mayE s [h] = 0) : s.dd = false ∧ 0 ≤ h ∧ h < 8 := by
  unfold mayE at hm
  split at hm
  · cases hm
  · split at hm
    · rename_i h1 h2
      simp [inR] at h2
      exact ⟨by simpa using h1, h2⟩
    · cases hm
theorem row_at {s : Slt} (hk : s.Ok) {i : Nat} (hi : i < 8) : ∃ p, s.rs[i]? = some p ∧ p.2.length = 32 ∧ (∀ x ∈ p.2, x < 256) ∧ p.1 ≤ 3 := by
  have hl : i < s.rs.length := by rw [hk.len]; exact hi
  have hm := List.getElem_mem hl
  exact ⟨s.rs[i], List.getElem?_eq_getElem hl, hk.key _ hm, hk.byte _ hm, hk.kind _ hm⟩
def IntBelow (w : World) (z : Int) (e : Ending) (w' : World) : Prop := e = .returned (.int .i64 z) ∧ Below w.heap.size w w'
set_option maxRecDepth 100000 in
set_option maxHeartbeats 1000000 in
theorem kind_any (g : Nat) (s : Slt) (h : Int) (w : World) (hS : Sl w g s) (hw : wfI h) :
    Calls Tryz.prog 56 #[.pointer (some ⟨g, 0, none⟩), .int .i64 h] w (IntBelow w (kindE s h)) := by
  have HM := Lib.hid (may_any g s _ [h] 1 1 _ (hS.old ((Below.refl _ w).alloc (Nat.le_refl _) (.cells #[.int .i64 h] 3))) rfl (by decide) (ints_one w h hw))
  have HB := Lib.hid ((Below.refl _ w).alloc (Nat.le_refl _) (.cells #[.int .i64 h] 3))
  obtain ⟨E, hE⟩ : ∃ E, mayE s [h] = E := ⟨_, rfl⟩
  rw [hE] at HM
  by_cases h0 : E = 0
  · subst h0
    obtain ⟨hdd, h1, h2⟩ := mayE_zero hE
    obtain ⟨i, rfl⟩ : ∃ i : Nat, h = i := ⟨h.toNat, by omega⟩
    obtain ⟨p, hp, _, _, _⟩ := row_at hS.ok (show i < 8 by omega)
    have HK := Lib.hid (show kindE s (i : Int) = p.1 by rw [kindE, if_pos hE, Int.toNat_natCast, hp]; rfl)
    have hck : (w.alloc (.cells #[.int .i64 (i : Int)] 3)).cell? ⟨g, i * 33, none⟩ = some (.int .i64 (p.1 : Int)) := (hS.old HB.out).cellAt (by rw [Nat.mul_comm]; exact hS.ok.kindAt hp)
    have hi8 : (i : Int) < 8 := h2
    rw [HK.out]
    clear hE hdd hp h1 h2 hS hw
    go_enter Tryz.func56, Tryz.ntmps56
    go_wp2_with fail
    (with_reducible refine HM.out.mono ?_); rintro e w2 ⟨rfl, rfl⟩
    go_wp2_with fail
    go_light
    go_ret
    exact ⟨rfl, HB.out⟩
  · have HK := Lib.hid (show kindE s h = 0 by rw [kindE, hE, if_neg h0])
    have hne : (((E : Nat) : Int) != 0) = true := by rw [bne_iff_ne]; omega
    rw [HK.out]
    clear hE hS hw
    go_enter Tryz.func56, Tryz.ntmps56
    go_wp2_with fail
    (with_reducible refine HM.out.mono ?_); rintro e w2 ⟨rfl, rfl⟩
    go_wp2_with fail
    go_light
    go_ret
    exact ⟨rfl, HB.out⟩
set_option maxHeartbeats 1000000 in
theorem kind_nil (h : Int) (w : World) : Calls Tryz.prog 56 #[.pointer none, .int .i64 h] w (IntBelow w 0) := by
  have HB := Lib.hid ((Below.refl _ w).alloc (Nat.le_refl _) (.cells #[.int .i64 h] 3))
  go_enter Tryz.func56, Tryz.ntmps56
  go_wp2_with fail
  (with_reducible refine (may_nil _ _ _ _).mono ?_); rintro e w2 ⟨rfl, rfl⟩
  go_wp2_with fail
  go_light
  go_ret
  exact ⟨rfl, HB.out⟩
/-- A place's key: why not, or the key. -/
def keyE (s : Slt) (h : Int) : Nat := if mayE s [h] ≠ 0 then mayE s [h] else if kindE s h = 0 then 3 else 0
def keyOf (s : Slt) (h : Int) : List Nat := (s.rs[h.toNat]?.getD (0, [])).2
def KeyOut (w : World) (E : Nat) (k : List Nat) (e : Ending) (w' : World) : Prop := ∃ A n c, e = .returned (.tuple #[.slice A n c, .int .i64 (E : Int)]) ∧ (E = 0 → n = 32 ∧ n ≤ c ∧ k.length = 32 ∧ Nats .u8 256 w' w'.heap.size A k) ∧ Below w.heap.size w w'
set_option maxRecDepth 100000 in
set_option maxHeartbeats 2000000 in
theorem key_any (g : Nat) (s : Slt) (h : Int) (w : World) (hS : Sl w g s) (hw : wfI h) :
    Calls Tryz.prog 248 #[.pointer (some ⟨g, 0, none⟩), .int .i64 h] w (KeyOut w (keyE s h) (keyOf s h)) := by
  have HM := Lib.hid (may_any g s _ [h] 1 1 _ (hS.old ((Below.refl _ w).alloc (Nat.le_refl _) (.cells #[.int .i64 h] 3))) rfl (by decide) (ints_one w h hw))
  have HB := Lib.hid ((Below.refl _ w).alloc (Nat.le_refl _) (.cells #[.int .i64 h] 3))
  obtain ⟨E, hE⟩ : ∃ E, mayE s [h] = E := ⟨_, rfl⟩
  rw [hE] at HM
  by_cases h0 : E = 0
  · subst h0
    obtain ⟨hdd, h1, h2⟩ := mayE_zero hE
    obtain ⟨i, rfl⟩ : ∃ i : Nat, h = i := ⟨h.toNat, by omega⟩
    obtain ⟨p, hp, hpl, hpb, hp3⟩ := row_at hS.ok (show i < 8 by omega)
    have hkd : kindE s (i : Int) = p.1 := by rw [kindE, if_pos hE, Int.toNat_natCast, hp]; rfl
    have HKO := Lib.hid (show keyOf s (i : Int) = p.2 by rw [keyOf, Int.toNat_natCast, hp]; rfl)
    have HS2 := Lib.hid (hS.old HB.out)
    have hck : (w.alloc (.cells #[.int .i64 (i : Int)] 3)).cell? ⟨g, i * 33, none⟩ = some (.int .i64 (p.1 : Int)) := HS2.out.cellAt (by rw [Nat.mul_comm]; exact hS.ok.kindAt hp)
    have hi8 : (i : Int) < 8 := h2
    have HNK := Lib.hid (show Nats .u8 256 (w.alloc (.cells #[.int .i64 (i : Int)] 3)) (w.alloc (.cells #[.int .i64 (i : Int)] 3)).heap.size (some ⟨g, i * 33 + 1, none⟩) p.2 from fun j z hz =>
      ⟨hpb z (List.mem_of_getElem? hz), g, i * 33 + 1, rfl, HS2.out.lt, HS2.out.cellAt (by rw [Nat.mul_comm]; exact hS.ok.keyAt hp j _ (by simp [v8, hz]))⟩)
    have hsl := run_slice_arr_all' (P := Tryz.prog) 23 5 32 Tryz.underlying23 (fun _ => by kernel_rfl) g (i * 33 + 1) (by decide)
    by_cases hk0 : p.1 = 0
    · have HK := Lib.hid (show keyE s (i : Int) = 3 by rw [keyE, hE, hkd, hk0]; rfl)
      rw [HK.out]
      rw [hk0] at hck
      clear hE hdd hp h1 h2 hS hw hkd hk0 hsl
      go_enter Tryz.func248, Tryz.ntmps248
      go_wp2_with fail
      (with_reducible refine HM.out.mono ?_); rintro e w2 ⟨rfl, rfl⟩
      go_wp2_with fail
      go_light
      go_ret2
      exact ⟨_, _, _, rfl, (fun h => by cases h), HB.out⟩
    · have HK := Lib.hid (show keyE s (i : Int) = 0 by rw [keyE, hE, hkd, if_neg (by decide), if_neg hk0])
      rw [HK.out, HKO.out]
      have hne : (((p.1 : Nat) : Int) == 0) = false := by rw [beq_eq_false_iff_ne]; omega
      clear hE hdd hp h1 h2 hS hw hkd hk0
      go_enter Tryz.func248, Tryz.ntmps248
      go_wp2_with fail
      (with_reducible refine HM.out.mono ?_); rintro e w2 ⟨rfl, rfl⟩
      go_wp2_with fail
      go_light
      go_ret2
      exact ⟨_, _, _, rfl, fun _ => ⟨rfl, Nat.le_refl _, hpl, HNK.out⟩, HB.out⟩
  · have HK := Lib.hid (show keyE s h = E by rw [keyE, hE, if_pos h0])
    have hne : (((E : Nat) : Int) != 0) = true := by rw [bne_iff_ne]; omega
    rw [HK.out]
    clear hE hS hw
    go_enter Tryz.func248, Tryz.ntmps248
    go_wp2_with fail
    (with_reducible refine HM.out.mono ?_); rintro e w2 ⟨rfl, rfl⟩
    go_wp2_with fail
    go_light
    go_ret2
    exact ⟨_, _, _, rfl, fun h => absurd h h0, HB.out⟩
set_option maxHeartbeats 1000000 in
theorem key_nil (h : Int) (w : World) : Calls Tryz.prog 248 #[.pointer none, .int .i64 h] w (KeyOut w 3 []) := by
  have HB := Lib.hid ((Below.refl _ w).alloc (Nat.le_refl _) (.cells #[.int .i64 h] 3))
  go_enter Tryz.func248, Tryz.ntmps248
  go_wp2_with fail
  (with_reducible refine (may_nil _ _ _ _).mono ?_); rintro e w2 ⟨rfl, rfl⟩
  go_wp2_with fail
  go_light
  go_ret2
  exact ⟨_, _, _, rfl, (fun h => by cases h), HB.out⟩
end Slot
end Go.Proofs.YtmiaabpnolebhaaGreatDoor
