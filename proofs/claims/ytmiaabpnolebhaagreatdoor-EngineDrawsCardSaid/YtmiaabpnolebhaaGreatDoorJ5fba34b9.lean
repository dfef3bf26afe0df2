/-
  Texts of this claim, joined: SpcA, SpcB.
-/
import Derived.Test.YtmiaabpnolebhaaGreatDoorBig
import Derived.Test.YtmiaabpnolebhaaGreatDoorJ1dca9515
set_option linter.unusedSimpArgs false
set_option linter.unusedVariables false
/-
  A space (package engine): its cells in one block.
-/
namespace Go.Proofs.YtmiaabpnolebhaaGreatDoor
open Go.RowKit

namespace Spc
open Otp Sha
structure SpV where
  st : Int
  ram : List Nat
  prt : List Nat
  fl : Option Addr
  ch : Option Addr
structure SpV.Ok (v : SpV) : Prop where
  rl : v.ram.length = 8192
  pl : v.prt.length = 64
  rb : ∀ x ∈ v.ram, x < 256
  pb : ∀ x ∈ v.prt, x < 256
def spL (v : SpV) : List Value := .int .i64 v.st :: (v8 v.ram ++ (v8 v.prt ++ [.pointer v.fl, .pointer v.ch]))
def Sp (w : World) (g : Nat) (v : SpV) : Prop := Blk w g 195 (spL v).toArray
theorem v8_get {l : List Nat} {i x : Nat} (h : l[i]? = some x) : (v8 l)[i]? = some (.int .u8 (x : Int)) := by simp [v8, h]
theorem Sp.st {w : World} {g : Nat} {v : SpV} (h : Sp w g v) : w.cell? ⟨g, 0, none⟩ = some (.int .i64 v.st) := by rw [Blk.cell h]; rfl
theorem Sp.ram {w : World} {g : Nat} {v : SpV} (h : Sp w g v) {i x : Nat} (hi : v.ram[i]? = some x) : w.cell? ⟨g, 1 + i, none⟩ = some (.int .u8 (x : Int)) := by
  rw [Blk.cell h, List.getElem?_toArray, Nat.add_comm, spL, List.getElem?_cons_succ, List.getElem?_append_left (by rw [v8_length]; exact (List.getElem?_eq_some_iff.1 hi).1)]
  exact v8_get hi
theorem Sp.prt {w : World} {g : Nat} {v : SpV} (h : Sp w g v) (ho : v.Ok) {i x : Nat} (hi : v.prt[i]? = some x) : w.cell? ⟨g, 8193 + i, none⟩ = some (.int .u8 (x : Int)) := by
  rw [Blk.cell h, List.getElem?_toArray, show 8193 + i = (8192 + i) + 1 by omega, spL, List.getElem?_cons_succ, List.getElem?_append_right (by rw [v8_length, ho.rl]; omega), v8_length, ho.rl, show 8192 + i - 8192 = i by omega, List.getElem?_append_left (by rw [v8_length]; exact (List.getElem?_eq_some_iff.1 hi).1)]
  exact v8_get hi
theorem Sp.fl {w : World} {g : Nat} {v : SpV} (h : Sp w g v) (ho : v.Ok) : w.cell? ⟨g, 8257, none⟩ = some (.pointer v.fl) := by
  rw [Blk.cell h, List.getElem?_toArray, spL, List.getElem?_cons_succ, List.getElem?_append_right (by rw [v8_length, ho.rl]; decide), v8_length, ho.rl, List.getElem?_append_right (by rw [v8_length, ho.pl]; decide), v8_length, ho.pl]
  rfl
theorem Sp.ch {w : World} {g : Nat} {v : SpV} (h : Sp w g v) (ho : v.Ok) : w.cell? ⟨g, 8258, none⟩ = some (.pointer v.ch) := by
  rw [Blk.cell h, List.getElem?_toArray, spL, List.getElem?_cons_succ, List.getElem?_append_right (by rw [v8_length, ho.rl]; decide), v8_length, ho.rl, List.getElem?_append_right (by rw [v8_length, ho.pl]; decide), v8_length, ho.pl]
  rfl
theorem Sp.ramN {w : World} {g : Nat} {v : SpV} (h : Sp w g v) (ho : v.Ok) : Nats .u8 256 w w.heap.size (some ⟨g, 1, none⟩) v.ram := fun i x hx => ⟨ho.rb x (List.mem_of_getElem? hx), g, 1, rfl, Blk.lt h, h.ram hx⟩
theorem Sp.prtN {w : World} {g : Nat} {v : SpV} (h : Sp w g v) (ho : v.Ok) : Nats .u8 256 w w.heap.size (some ⟨g, 8193, none⟩) v.prt := fun i x hx => ⟨ho.pb x (List.mem_of_getElem? hx), g, 8193, rfl, Blk.lt h, h.prt ho hx⟩
theorem Sp.old {w w' : World} {g : Nat} {v : SpV} (h : Sp w g v) (hb : Below w.heap.size w w') : Sp w' g v := Blk.below h hb (Blk.lt h)
/-- Noughts. -/
def isZ : Value → Bool
  | .int .u8 z => decide (z = 0)
  | _ => false
theorem isZ_of {v : Value} (h : isZ v = true) : v = .int .u8 0 := by
  unfold isZ at h
  split at h
  · simp at h; subst h; rfl
  · cases h
def isEnd : List Value → Bool
  | [.pointer none, .pointer none] => true
  | _ => false
theorem isEnd_of {l : List Value} (h : isEnd l = true) : l = [.pointer none, .pointer none] := by
  unfold isEnd at h
  split at h
  · rfl
  · cases h
def isZs : Nat → List Value → Bool
  | 0, l => isEnd l
  | _ + 1, [] => false
  | n + 1, v :: l => isZ v && isZs n l
theorem isZs_of : ∀ (n : Nat) (l : List Value), isZs n l = true → l = v8 (List.replicate n 0) ++ [.pointer none, .pointer none]
  | 0, l, h => by
    rw [isEnd_of h]
    rfl
  | n + 1, [], h => by cases h
  | n + 1, v :: l, h => by
    simp only [isZs, Bool.and_eq_true] at h
    rw [isZ_of h.1, isZs_of n l h.2]
    rfl
def spZ : SpV := ⟨0, List.replicate 8192 0, List.replicate 64 0, none, none⟩
theorem spZ_ok : spZ.Ok := ⟨List.length_replicate, List.length_replicate, fun x hx => by rw [List.eq_of_mem_replicate hx]; decide, fun x hx => by rw [List.eq_of_mem_replicate hx]; decide⟩
def isSpace : Value → Bool
  | .agg cs => match cs.toList with
    | .int .i64 z :: l => decide (z = 0) && isZs 8256 l
    | _ => false
  | _ => false
theorem v8_append (a b : List Nat) : v8 (a ++ b) = v8 a ++ v8 b := by simp [v8]
theorem isSpace_of {v : Value} (h : isSpace v = true) : v = .agg (spL spZ).toArray := by
  unfold isSpace at h
  split at h
  · rename_i cs
    split at h
    · rename_i z l hl
      simp only [Bool.and_eq_true, decide_eq_true_eq] at h
      obtain ⟨rfl, h2⟩ := h
      have h3 := isZs_of _ _ h2
      congr 1
      apply Array.toList_inj.1
      rw [hl, h3]
      show _ = Value.int .i64 0 :: (v8 (List.replicate 8192 0) ++ (v8 (List.replicate 64 0) ++ [.pointer none, .pointer none]))
      rw [← List.append_assoc, ← v8_append, List.replicate_append_replicate]
    · cases h
  · cases h
theorem space_check : ((Tryz.prog.info? 195).bind (·.zero)).map isSpace = some true := by kernel_rfl
theorem space_zero : (Tryz.prog.info? 195).bind (·.zero) = some (.agg (spL spZ).toArray) := by
  have h := space_check
  cases hz : (Tryz.prog.info? 195).bind (·.zero) with
  | none => rw [hz] at h; cases h
  | some v =>
    rw [hz] at h
    rw [isSpace_of (Option.some.inj h)]
end Spc
end Go.Proofs.YtmiaabpnolebhaaGreatDoor

/-
  A space (package engine): writes into its parts; NewSpace.
-/
namespace Go.Proofs.YtmiaabpnolebhaaGreatDoor
open Go.RowKit

namespace Spc
open Otp Sha
theorem splice_cons_shift {α : Type} (a : α) (L cs : List α) (o : Nat) : splice (a :: L) (1 + o) cs = a :: splice L o cs := by
  unfold splice
  rw [show 1 + o = o + 1 by omega, List.take_succ_cons, show o + 1 + cs.length = (o + cs.length) + 1 by omega, List.drop_succ_cons]
  rfl
theorem splice_left {α : Type} (A B cs : List α) (o : Nat) (h : o + cs.length ≤ A.length) : splice (A ++ B) o cs = splice A o cs ++ B := by
  unfold splice
  rw [List.take_append_of_le_length (by omega), List.drop_append_of_le_length h, List.append_assoc, List.append_assoc]
theorem splice_right' {α : Type} (A B cs : List α) (o : Nat) : splice (A ++ B) (A.length + o) cs = A ++ splice B o cs := by
  unfold splice
  rw [List.take_length_add_append, Nat.add_assoc, List.drop_length_add_append, List.append_assoc]
theorem v8_splice (l p : List Nat) (o : Nat) : v8 (splice l o p) = splice (v8 l) o (v8 p) := by
  simp [v8, splice, List.map_take, List.map_drop]
theorem spL_ram {v : SpV} (h : v.Ok) (o : Nat) (p : List Nat) (hp : o + p.length ≤ 8192) : splice (spL v) (1 + o) (v8 p) = spL { v with ram := splice v.ram o p } := by
  unfold spL
  rw [splice_cons_shift, splice_left _ _ _ _ (by rw [v8_length, v8_length, h.rl]; exact hp)]
  simp only [v8_splice]
theorem spL_prt {v : SpV} (h : v.Ok) (o : Nat) (p : List Nat) (hp : o + p.length ≤ 64) : splice (spL v) (8193 + o) (v8 p) = spL { v with prt := splice v.prt o p } := by
  unfold spL
  rw [show 8193 + o = 1 + ((v8 v.ram).length + o) by rw [v8_length, h.rl]; omega, splice_cons_shift, splice_right', splice_left _ _ _ _ (by rw [v8_length, v8_length, h.pl]; exact hp)]
  simp only [v8_splice]
theorem splice_mem {l p : List Nat} {o x : Nat} (h : x ∈ splice l o p) : x ∈ l ∨ x ∈ p := by
  unfold splice at h
  simp only [List.mem_append] at h
  rcases h with h | h | h
  · exact .inl (List.mem_of_mem_take h)
  · exact .inr h
  · exact .inl (List.mem_of_mem_drop h)
theorem SpV.Ok.ram {v : SpV} (h : v.Ok) (o : Nat) (p : List Nat) (hp : o + p.length ≤ 8192) (hb : ∀ x ∈ p, x < 256) : SpV.Ok { v with ram := splice v.ram o p } :=
  ⟨by rw [length_splice _ _ _ (by rw [h.rl]; exact hp)]; exact h.rl, h.pl, fun x hx => (splice_mem hx).elim (h.rb x) (hb x), h.pb⟩
theorem SpV.Ok.prt {v : SpV} (h : v.Ok) (o : Nat) (p : List Nat) (hp : o + p.length ≤ 64) (hb : ∀ x ∈ p, x < 256) : SpV.Ok { v with prt := splice v.prt o p } :=
  ⟨h.rl, by rw [length_splice _ _ _ (by rw [h.pl]; exact hp)]; exact h.pl, h.rb, fun x hx => (splice_mem hx).elim (h.pb x) (hb x)⟩
theorem spL_st (v : SpV) (z : Int) : (spL v).set 0 (.int .i64 z) = spL { v with st := z } := rfl
theorem SpV.Ok.stage {v : SpV} (h : v.Ok) (z : Int) : SpV.Ok { v with st := z } := ⟨h.rl, h.pl, h.rb, h.pb⟩
theorem spL_parts (v : SpV) : spL v = (.int .i64 v.st :: (v8 v.ram ++ v8 v.prt)) ++ [.pointer v.fl, .pointer v.ch] := by simp [spL]
theorem spL_length {v : SpV} (h : v.Ok) : (spL v).length = 8259 := by
  rw [spL_parts]
  simp [v8_length, h.rl, h.pl]
theorem spL_fl {v : SpV} (h : v.Ok) (f : Option Addr) : (spL v).set 8257 (.pointer f) = spL { v with fl := f } := by
  rw [spL_parts, spL_parts, List.set_append_right _ _ (by simp [v8_length, h.rl, h.pl])]
  simp [v8_length, h.rl, h.pl]
theorem spL_ch {v : SpV} (h : v.Ok) (f : Option Addr) : (spL v).set 8258 (.pointer f) = spL { v with ch := f } := by
  rw [spL_parts, spL_parts, List.set_append_right _ _ (by simp [v8_length, h.rl, h.pl])]
  simp [v8_length, h.rl, h.pl]
def spN (f c : Option Addr) : SpV := { spZ with fl := f, ch := c }
theorem spN_ok (f c : Option Addr) : (spN f c).Ok := ⟨spZ_ok.rl, spZ_ok.pl, spZ_ok.rb, spZ_ok.pb⟩
theorem space_built (f c : Option Addr) : Tryz.prog.built 195 [(3, .pointer f), (4, .pointer c)] = some (spL (spN f c)).toArray := by
  obtain ⟨it, hi, hz⟩ := Option.bind_eq_some_iff.1 space_zero
  unfold Program.built
  rw [hi, Tryz.underlying195]
  simp only [hz]
  split
  · rename_i z places h1 h2
    cases h1
    have hp : places = [(0, 1), (1, 8192), (8193, 64), (8257, 1), (8258, 1)] := by
      refine Option.some.inj (h2.symm.trans ?_)
      kernel_rfl
    subst hp
    show Instr.fill _ (spL spZ).toArray _ = _
    have hl := spL_length spZ_ok
    rw [fill_one _ _ 3 _ _ 8257 rfl rfl (by rw [hl]; decide), spL_fl spZ_ok, fill_one _ _ 4 _ _ 8258 rfl rfl (by rw [spL_length (v := { spZ with fl := f }) ⟨spZ_ok.rl, spZ_ok.pl, spZ_ok.rb, spZ_ok.pb⟩]; decide), spL_ch (v := { spZ with fl := f }) ⟨spZ_ok.rl, spZ_ok.pl, spZ_ok.rb, spZ_ok.pb⟩]
    rfl
  · rename_i h
    exact (h _ [(0, 1), (1, 8192), (8193, 64), (8257, 1), (8258, 1)] rfl (by kernel_rfl)).elim
def NewOut (f c : Option Addr) (w : World) (e : Ending) (w' : World) : Prop := ∃ g, e = .returned (.pointer (some ⟨g, 0, none⟩)) ∧ w.heap.size ≤ g ∧ Sp w' g (spN f c) ∧ Below w.heap.size w w'
set_option maxRecDepth 100000 in
set_option maxHeartbeats 2000000 in
theorem newspace_any (f c : Option Addr) (w : World) : Calls Tryz.prog 88 #[.pointer f, .pointer c] w (NewOut f c w) := by
  have HB := wall (space_built f c)
  have HO := wall (show ∀ w' : World, w' = w.alloc (.cells (spL (spN f c)).toArray 195) → Sp w' w.heap.size (spN f c) ∧ Below w.heap.size w w' from fun w' h => by
    subst h
    exact ⟨Blk.new _ _ _, (Below.refl _ _).alloc (Nat.le_refl _) _⟩)
  obtain ⟨Z, hZ⟩ : ∃ z, (spL (spN f c)).toArray = z := ⟨_, rfl⟩
  rw [hZ] at HB HO
  clear hZ
  go_enter Tryz.func88, Tryz.ntmps88
  go_wp2_with (refine wpList_build_row rfl 195 [(3, .tmp 5), (4, .tmp 6)] rfl Z HB.out ?_)
  go_light
  go_ret
  exact ⟨_, rfl, Nat.le_refl _, HO.out _ rfl⟩
end Spc
end Go.Proofs.YtmiaabpnolebhaaGreatDoor
