/-
  Package flash: New, of all its pages.
-/
import Derived.Test.YtfiojpdkbckopaaDoorRep
set_option linter.unusedSimpArgs false
set_option linter.unusedVariables false
namespace Go.Proofs.YtfiojpdkbckopaaDoor
open Go.RowKit

namespace Fla
open Otp Sha R1
/-- A flash's bytes. -/
def Fl (w : World) (f p : Nat) (l : List Nat) : Prop := ∃ T : List Value, Blk w f 94 #[.slice (some ⟨p, 0, none⟩) l.length l.length] ∧ Blk w p 5 (v8 l ++ T).toArray
theorem Fl.below {B : Nat} {w w' : World} {f p : Nat} {l : List Nat} (h : Fl w f p l) (hb : Below B w w') (hf : f < B) (hp : p < B) : Fl w' f p l := by
  obtain ⟨T, h1, h2⟩ := h
  exact ⟨T, h1.below hb hf, h2.below hb hp⟩
theorem Fl.lt {w : World} {f p : Nat} {l : List Nat} (h : Fl w f p l) : f < w.heap.size ∧ p < w.heap.size := by
  obtain ⟨T, h1, h2⟩ := h
  exact ⟨h1.lt, h2.lt⟩
theorem Fl.old {w w' : World} {f p : Nat} {l : List Nat} (h : Fl w f p l) (hb : Below w.heap.size w w') : Fl w' f p l := h.below hb h.lt.1 h.lt.2
def erased : List Nat := List.replicate 10240 255
theorem erased_len : erased.length = 10240 := List.length_replicate
def FlOut (w : World) (e : Ending) (w' : World) : Prop := ∃ f p, e = .returned (.tuple #[.pointer (some ⟨f, 0, none⟩), .int .i64 0]) ∧ w.heap.size ≤ f ∧ w.heap.size ≤ p ∧ Fl w' f p erased ∧ Below w.heap.size w w'
theorem new_ff (w : World) : Nats .u8 256 (w.alloc (.cells #[.int .u8 255] 5)) (w.alloc (.cells #[.int .u8 255] 5)).heap.size (some ⟨w.heap.size, 0, none⟩) [255] := nats_b8 (l := [255]) (Blk.new _ _ _) (by simp)
set_option maxRecDepth 100000 in
set_option maxHeartbeats 2000000 in
theorem flash_new (w : World) : Calls Tryd.prog 19 #[.int .i64 40] w (FlOut w) := by
  have HN := wall (new_ff w)
  have HB0 := wall ((Below.refl _ w).alloc (Nat.le_refl _) (.cells #[.int .u8 255] 5))
  have HR := wall (fun W A c (h : Nats .u8 256 W W.heap.size A [255]) => Rep.repeat_any 255 A c W h)
  unfold Rep.RepOut at HR
  obtain ⟨E, hE⟩ : ∃ E, List.replicate 10240 255 = E := ⟨_, rfl⟩
  have HE := wall hE
  rw [hE] at HR
  clear hE
  go_enter Tryd.func19, Tryd.ntmps19
  go_wp2_with fail
  generalize w.alloc (.cells #[.int .u8 255] 5) = w1 at *
  (with_reducible refine (HR.out _ _ _ HN.out).mono ?_); rintro e w2 ⟨g, T, rfl, hg, hK, hB2⟩
  have HK := wall hK
  have HG := wall hg
  have HB2 := wall (below_then HB0.out hB2 (Nat.le_refl _))
  have HS := wall (HB0.out.size)
  clear hK hg hB2 HN HR HB0
  go_wp2_with fail
  go_light
  go_ret2
  refine ⟨w2.heap.size, g, rfl, HB2.out.size, Nat.le_trans HS.out HG.out, ⟨T, ?_, ?_⟩, HB2.out.alloc HB2.out.size _⟩
  · rw [erased_len]
    exact Blk.new _ _ _
  · show Blk _ g _ (v8 (List.replicate 10240 255) ++ T).toArray
    rw [HE.out]
    exact HK.out.alloc _
end Fla
end Go.Proofs.YtfiojpdkbckopaaDoor
