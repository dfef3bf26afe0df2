/-
  An act's cells; the reference over words that lie in a block.
-/
import Derived.Test.YtpakdcgcgekcfaaDoorProg
import Derived.Test.YtpakdcgcgekcfaaDoorMem
import Derived.Test.YtpakdcgcgekcfaaDoorNext
import Derived.Test.YtpakdcgcgekcfaaDoorOtpRow
import Derived.Test.YtpakdcgcgekcfaaDoorOtpLay
import Derived.Test.YtpakdcgcgekcfaaDoorOtpAwake
import Derived.Test.YtpakdcgcgekcfaaDoorR1Cut
import Derived.Deep.LoopGhost
import Derived.Deep.MidRow
import Derived.Deep.QuietTactic
import Derived.BigQuiet
import Derived.Deep.RegionWith
import Derived.Deep.CutRange
import Derived.Deep.CutBlock
import Derived.Deep.DeepCutAuto
namespace Go.Proofs.YtpakdcgcgekcfaaDoor
open Go.RowKit

namespace Otp
open Fuse
/-- The cells of an act. -/
def actC (d n : Int) (ks : List Nat) (m : Int) (tn : Bool) (g : Int) : Array Value := #[.int .u8 d, .int .i64 n] ++ b8 ks ++ #[.int .u8 m, .bool tn, .int .u32 g]
theorem actC_n {d n : Int} {ks : List Nat} {m : Int} {tn : Bool} {g : Int} : (actC d n ks m tn g)[1]? = some (.int .i64 n) := by
  unfold actC
  rw [Array.getElem?_append_left (by simp; omega), Array.getElem?_append_left (by simp)]
  rfl
theorem actC_key {d n : Int} {ks : List Nat} {m : Int} {tn : Bool} {g : Int} (j : Nat) (v : Value) (h : (ks.map fun x => Value.int .u8 ((x : Nat) : Int))[j]? = some v) : (actC d n ks m tn g)[2 + j]? = some v := by
  have hj : j < ks.length := by have := (List.getElem?_eq_some_iff.1 h).1; simpa using this
  unfold actC
  rw [Array.getElem?_append_left (by simp [b8]; omega), Array.getElem?_append_right (by simp)]
  simp only [b8, List.getElem?_toArray]
  rw [show 2 + j - #[Value.int .u8 d, Value.int .i64 n].size = j by simp]
  exact h
theorem zero16 : Value.agg (b8 (List.replicate 16 0)) = .agg #[.int .u8 0, .int .u8 0, .int .u8 0, .int .u8 0, .int .u8 0, .int .u8 0, .int .u8 0, .int .u8 0, .int .u8 0, .int .u8 0, .int .u8 0, .int .u8 0, .int .u8 0, .int .u8 0, .int .u8 0, .int .u8 0] := rfl
def z16 : List Nat := List.replicate 16 0
theorem tokey_zero {w : World} {c p b : Nat} {vs : List Nat} {ls : List Bool} {sd : Bool} (A : Option Addr) (len cap : Nat) (l : List Nat) (h : Cz w c p b vs ls sd) (hl : l.length = len) (hlc : len ≤ cap) (hcm : cap ≤ maxLen) (hz : Nats .u8 256 w w.heap.size A l) :
    Calls Tryd.prog 77 #[.pointer (some ⟨c, 0, none⟩), .slice A len cap, .agg #[.int .u8 0, .int .u8 0, .int .u8 0, .int .u8 0, .int .u8 0, .int .u8 0, .int .u8 0, .int .u8 0, .int .u8 0, .int .u8 0, .int .u8 0, .int .u8 0, .int .u8 0, .int .u8 0, .int .u8 0, .int .u8 0]] w (ToOut w (tkE vs l z16) (tkL vs l z16)) :=
  tokey_any A len cap l (List.replicate 16 0) w h hl hlc hcm hz rfl (by simp)
theorem ownB_form {w : World} {B : Nat} {v : Value} {l : List Nat} (h : R1.OwnB w B v l) (hw : ∀ x ∈ l, x < 256) : ∃ A c, v = .slice A l.length c ∧ l.length ≤ c ∧ c ≤ maxLen ∧ Nats .u8 256 w w.heap.size A l := by
  rcases h.2 with ⟨rfl, hn⟩ | ⟨g, cap, cur, rfl, hg, hh, hc, hm, hs, ht⟩
  · refine ⟨none, 0, by rw [hn], by omega, by simp, fun i z hz => ?_⟩
    have : l = [] := List.eq_nil_of_length_eq_zero hn
    rw [this] at hz; simp at hz
  · refine ⟨some ⟨g, 0, none⟩, cap, rfl, hc, hm, fun i z hz => ⟨hw z (List.mem_of_getElem? hz), g, 0, rfl, ?_, ?_⟩⟩
    · exact Blk.lt (w := w) (t := 5) (cs := cur) hh
    · have hi : i < l.length := (List.getElem?_eq_some_iff.1 hz).1
      have := World.ownsRow.cellAt h i (by omega)
      rw [Nat.zero_add, this, List.getElem?_map, hz]
      rfl
theorem torow_to {c p b : Nat} {vs : List Nat} {ls : List Bool} {sd : Bool} (i : Int) (ds : List Nat) (w : World) (h : Cz w c p b vs ls sd) (hl : ds.length = 32) (hd : ∀ x ∈ ds, x < 256) :
    Calls Tryd.prog 17 #[.pointer (some ⟨c, 0, none⟩), .int .i64 i, .agg (ds.map fun x => Value.int .u8 ((x : Nat) : Int)).toArray] w (ToOut w (trE vs i) (trL vs i ds)) := torow_any i ds w h hl hd
theorem counter_le (zs : List Nat) : counter zs ≤ 255 := Nat.min_le_right _ _
end Otp
end Go.Proofs.YtpakdcgcgekcfaaDoor
