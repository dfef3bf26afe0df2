/-
  Acts, in memory.
-/
import Derived.Test.YtpakdcgcgekcfaaDoorProg
import Derived.Test.YtpakdcgcgekcfaaDoorMem
import Derived.Test.YtpakdcgcgekcfaaDoorNext
import Derived.Test.YtpakdcgcgekcfaaDoorOtpRise2
import Derived.Test.YtpakdcgcgekcfaaDoorOtpPln
import Derived.Test.YtpakdcgcgekcfaaDoorOtpDo
import Derived.Test.YtpakdcgcgekcfaaDoorOtpLay
import Derived.Test.YtpakdcgcgekcfaaDoorOtpAwake
import Derived.Test.YtpakdcgcgekcfaaDoorOtpAct
import Derived.Test.YtpakdcgcgekcfaaDoorEqDig
import Derived.Test.YtpakdcgcgekcfaaDoorCopyB
import Derived.Deep.LoopGhost
import Derived.Deep.MidRow
import Derived.Deep.RegionWith
import Derived.Deep.CutRange
import Derived.Deep.CutBlock
import Derived.Deep.DeepCutAuto
import Derived.Laws.CopyOwn
import Derived.Laws.Tables
namespace Go.Proofs.YtpakdcgcgekcfaaDoor
open Go.RowKit

namespace Otp
open Fuse
/-- An act. -/
structure ActV where
  d : Nat
  n : Int
  ks : List Nat
  m : Nat
  tn : Bool
  g : Nat
def ActV.ok (t : ActV) : Prop := t.d < 256 ∧ t.ks.length = 32 ∧ (∀ x ∈ t.ks, x < 256) ∧ t.m < 256 ∧ t.g < 4294967296
def ActV.cells (t : ActV) : Array Value := actC (t.d : Int) t.n t.ks (t.m : Int) t.tn (t.g : Int)
theorem ActV.size {t : ActV} (h : t.ok) : t.cells.size = 37 := by
  simp [ActV.cells, actC, b8, h.2.1]
theorem ActV.tail {t : ActV} (h : t.ok) : t.cells[34]? = some (.int .u8 (t.m : Int)) ∧ t.cells[35]? = some (.bool t.tn) ∧ t.cells[36]? = some (.int .u32 (t.g : Int)) := by
  have hs : (#[Value.int .u8 (t.d : Int), .int .i64 t.n] ++ b8 t.ks).size = 34 := by simp [b8, h.2.1]
  refine ⟨?_, ?_, ?_⟩ <;> (unfold ActV.cells actC; rw [Array.getElem?_append_right (by omega), hs]; rfl)
theorem ActV.one (t : ActV) : t.cells.all (·.oneCell') = true := by
  unfold ActV.cells actC
  rw [Array.all_append, Array.all_append, b8_one]
  simp [Value.oneCell']
/-- Acts that came in. -/
def ActsR (w : World) (B : Nat) (A : Option Addr) (l : List ActV) : Prop := ∀ (i : Nat) (t : ActV), l[i]? = some t → t.ok ∧ ∃ g off, A = some ⟨g, off, none⟩ ∧ g < B ∧ w.rangeAt g (off + i * 37) t.cells.toList
theorem ActsR.below {w w' : World} {B : Nat} {A : Option Addr} {l : List ActV} (h : ActsR w B A l) (hb : Below B w w') : ActsR w' B A l := fun i t ht => by
  obtain ⟨h1, g, off, h2, h3, h4⟩ := h i t ht
  exact ⟨h1, g, off, h2, h3, fun j v hv => (hb.cell (p := ⟨g, off + i * 37 + j, none⟩) h3).trans (h4 j v hv)⟩
/-- The first ones of some writes. -/
theorem ownW_take {w : World} {B : Nat} {A : Option Addr} {n cp len : Nat} {l : List (Nat × Nat)} (h : OwnW w B (.slice A len cp) l) (hn : n ≤ l.length) : OwnW w B (.slice A n cp) (l.take n) := by
  have hln : (l.take n).length = n := by rw [List.length_take]; omega
  have hw : wcells (l.take n) = (wcells l).take (n * 2) := by
    have e : wcells l = wcells (l.take n) ++ wcells (l.drop n) := by rw [← wcells_append, List.take_append_drop]
    have hl2 : (wcells (l.take n)).length = n * 2 := by
      have : ∀ q : List (Nat × Nat), (wcells q).length = q.length * 2 := by
        intro q
        induction q with
        | nil => rfl
        | cons x r ih =>
          have : wcells (x :: r) = wcells [x] ++ wcells r := by rw [← wcells_append]; rfl
          rw [this, List.length_append, ih, List.length_cons]
          show 2 + _ = _
          omega
      rw [this, hln]
    have e2 := congrArg (List.take (n * 2)) e
    rw [List.take_append_of_le_length (Nat.le_of_eq hl2.symm), List.take_of_length_le (Nat.le_of_eq hl2)] at e2
    exact e2.symm
  unfold OwnW at h ⊢
  rw [hln, hw]
  obtain ⟨hx, h⟩ := h
  refine ⟨by rw [List.length_take]; have : n * 2 ≤ l.length * 2 := by omega
             omega, ?_⟩
  rcases h with ⟨hv, hl0⟩ | ⟨g, cap, cur, hv, hg, hh, hc, hm, hs, ht⟩
  · simp only [Value.slice.injEq] at hv
    obtain ⟨rfl, rfl, rfl⟩ := hv
    have hn0 : n = 0 := by omega
    subst hn0
    exact .inl ⟨rfl, rfl⟩
  · simp only [Value.slice.injEq] at hv
    obtain ⟨rfl, rfl, rfl⟩ := hv
    refine .inr ⟨g, cp, cur, rfl, hg, hh, by omega, hm, hs, ?_⟩
    rw [← ht, List.take_take, Nat.min_eq_left (by omega)]
theorem own32_nats {w : World} {base n c : Nat} {A : Option Addr} {vs : List Nat} (h : Own32 w base (.slice A n c) vs) (hw : ∀ (i x : Nat), vs[i]? = some x → x < 4294967296) : Nats .u32 4294967296 w w.heap.size A vs := by
  obtain ⟨A', c', hv, -, -, hN⟩ := h.form hw
  simp only [Value.slice.injEq] at hv
  obtain ⟨rfl, -, -⟩ := hv
  exact hN
theorem plan_to {w : World} {c p b : Nat} {vs : List Nat} {ls : List Bool} {sd : Bool} (t : ActV) (C : Array Value) (er : Int) (rl : List (Nat × Nat)) (h : Cz w c p b vs ls sd) (hT : Tab w) (ho : t.ok) (hC : t.cells = C) (hE : plE vs t.d t.n t.ks = er) (hL : plL vs t.d t.n t.ks = rl) :
    Calls Tryd.prog 25 #[.pointer (some ⟨c, 0, none⟩), .agg C] w (ToOut w er rl) := by
  subst hC hE hL
  exact plan_act _ _ _ _ _ _ _ w h hT rfl ho.1 ho.2.1 ho.2.2.1
theorem do_take {w : World} {c p b : Nat} {vs : List Nat} {ls : List Bool} {sd : Bool} (A : Option Addr) (n cp len B : Nat) (l : List (Nat × Nat)) (vs' : List Nat) (h : Cz w c p b vs ls sd) (hO : OwnW w B (.slice A len cp) l) (hn : n ≤ l.length) (hB : b < B) (hM : ∀ x ∈ l, x.1 < 64 ∧ x.2 < 4294967296) (hd : doL vs (l.take n) = (0, vs')) :
    Calls Tryd.prog 18 #[.pointer (some ⟨c, 0, none⟩), .slice A n cp] w fun e w' => e = .returned (.int .i64 0) ∧ Cz w' c p b vs' ls sd ∧ Frm [b] w w' := by
  have := do_any (.slice A n cp) B (l.take n) w h (ownW_take hO hn) hB (fun x hx => (hM x (List.mem_of_mem_take hx)).2) (fun x hx => (hM x (List.mem_of_mem_take hx)).1)
  rw [hd] at this
  exact this
end Otp
end Go.Proofs.YtpakdcgcgekcfaaDoor
