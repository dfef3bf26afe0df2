/-
  The law package's 'awake' (fuse), by the contracts.
-/
import Derived.Test.YtmcpppgnfmopoaaProg
import Derived.Test.YtmcpppgnfmopoaaMem
import Derived.Test.YtmcpppgnfmopoaaFuse3
namespace Go.Proofs.Ytmcpppgnfmopoaa
open Go.RowKit

namespace Fuse
variable {p b : Nat} {vs : List Nat} {ls : List Bool}
theorem cut_to (i v g : Int) (w : World) (e0 : Int) (vs' : List Nat) (h : Fz w p b vs ls) (hv0 : 0 ≤ v) (hv1 : v < 4294967296) (hg0 : 0 ≤ g) (hg1 : g < 4294967296) (he : cutE vs i v.toNat = e0) (hv : cutV vs i v.toNat g.toNat = vs') :
    Calls Try.prog 13 #[.pointer (some ⟨p, 0, none⟩), .int .i64 i, .int .u32 v, .int .u32 g] w fun e w' => e = .returned (.int .i64 e0) ∧ Fz w' p b vs' ls ∧ Frm [b] w w' := by
  subst he; subst hv
  exact cut_any i v g w h hv0 hv1 hg0 hg1
theorem program_to (i v : Int) (w : World) (e0 : Int) (vs' : List Nat) (h : Fz w p b vs ls) (hv0 : 0 ≤ v) (hv1 : v < 4294967296) (he : cutE vs i v.toNat = e0) (hv : cutV vs i v.toNat 4294967295 = vs') :
    Calls Try.prog 15 #[.pointer (some ⟨p, 0, none⟩), .int .i64 i, .int .u32 v] w fun e w' => e = .returned (.int .i64 e0) ∧ Fz w' p b vs' ls ∧ Frm [b] w w' := by
  subst he; subst hv
  exact program_any i v w h hv0 hv1
theorem read_to (i : Int) (w : World) (x e0 : Int) (h : Fz w p b vs ls) (hx : rdV vs ls i = x) (he : rdE vs ls i = e0) :
    Calls Try.prog 14 #[.pointer (some ⟨p, 0, none⟩), .int .i64 i] w fun e w' => e = .returned (.tuple #[.int .u32 x, .int .i64 e0]) ∧ w = w' := by
  subst he; subst hx
  exact read_any i w h

set_option maxHeartbeats 400000 in
theorem awake_any (w : World) : Calls Try.prog 11 #[] w (TrueBelow w) := by
  go_enter Try.func11, Try.ntmps11
  go_wp2_with fail
  (with_reducible refine (new_any 2 _ (by decide) (by decide)).mono ?_); rintro e w1 ⟨rfl, hz, hb, hs⟩
  have hbl : w.heap.size ≤ w1.heap.size := hb.size
  clear hs
  simp only [show (2 : Int).toNat = 2 from rfl, List.replicate] at hz
  generalize hp : w.heap.size + 1 = p at *
  go_wp2_with fail
  (with_reducible refine (program_to 0 5 _ 0 [5, 0] hz (by decide) (by decide) (by decide) (by decide)).mono ?_); rintro e w2 ⟨rfl, hz2, hf2⟩
  go_wp2_with fail
  (with_reducible refine (program_to 0 4 _ 11 [5, 0] hz2 (by decide) (by decide) (by decide) (by decide)).mono ?_); rintro e w3 ⟨rfl, hz3, hf3⟩
  go_wp2_with fail
  (with_reducible refine (cut_to 0 15 8 _ 0 [13, 0] hz3 (by decide) (by decide) (by decide) (by decide) (by decide) (by decide)).mono ?_); rintro e w4 ⟨rfl, hz4, hf4⟩
  go_wp2_with fail
  (with_reducible refine (read_to 0 _ 13 0 hz4 (by decide) (by decide)).mono ?_); rintro e w' ⟨rfl, rfl⟩
  go_wp2_with fail
  go_light
  go_ret
  exact ⟨rfl, Below.frm hb ((hf2.trans hf3).trans hf4) (Nat.le_refl _) (by simp)⟩
end Fuse
end Go.Proofs.Ytmcpppgnfmopoaa
