/-
  Package otp: Seal.
-/
import Derived.Test.YtpakdcgcgekcfaaDoorProg
import Derived.Test.YtpakdcgcgekcfaaDoorMem
import Derived.Test.YtpakdcgcgekcfaaDoorOtp
import Derived.Deep.LoopGhost
namespace Go.Proofs.YtpakdcgcgekcfaaDoor
open Go.RowKit

namespace Otp
open Fuse
variable {w w' : World} {c p b : Nat} {vs : List Nat} {ls : List Bool} {sd : Bool}
def SealOut (w : World) (c p b : Nat) (vs : List Nat) (e : Ending) (w' : World) : Prop := e = .returned (.tuple #[]) ∧ (∃ ls', Cz w' c p b vs ls' true) ∧ Frm [c, b] w w'
set_option maxHeartbeats 1000000 in
theorem seal_any (w : World) (h : Cz w c p b vs ls sd) : Calls Tryd.prog 23 #[.pointer (some ⟨c, 0, none⟩)] w (SealOut w c p b vs) := by
  have hf : w.frozen? ⟨c, 1, none⟩ = false := h.head.frozen 1
  have hc1 := h.cell.2
  have hn := h.nes
  have hF := (Frm.refl [c, b] w).setCell (p := ⟨c, 1, none⟩) (.inl (by simp)) (.bool true)
  have hC : Cz (w.setCell ⟨c, 1, none⟩ (.bool true)) c p b vs ls true := by
    have hf2 : Frm [c] w (w.setCell ⟨c, 1, none⟩ (.bool true)) := (Frm.refl [c] w).setCell (p := ⟨c, 1, none⟩) (.inl (by simp)) _
    exact ⟨h.fz.frm hf2 (by simp; omega) (by simp; omega), h.len, h.head.set 1 (.bool true)⟩
  have HF := Lib.hid hF
  have HC := Lib.hid hC
  clear hF hC hn h
  go_enter Tryd.func23, Tryd.ntmps23
  go_wp2_with fail
  generalize w.setCell ⟨c, 1, none⟩ (.bool true) = w1 at *
  go_loopg [2] 36 (fun g s2 wr => ∃ i : Nat, i + g = 36 ∧ s2 = .int .i64 ((27 + i : Nat) : Int) ∧ ∃ ls', Hid (Cz wr c p b vs ls' true) ∧ Hid (Frm [c, b] w wr))
  case atStart => exact ⟨0, by omega, rfl, ls, HC, HF⟩
  case round =>
    clear HC HF
    obtain ⟨i, hg, rfl, ls', HC, HF⟩ := hrel
    have HG := Lib.hid hg
    have hi : i ≤ 36 := by omega
    clear hg
    have hcc := HC.out.cell.1
    by_cases hlt : i < 36
    · go_wp2_with fail
      (with_reducible refine (lock_any _ _ HC.out.fz).mono ?_); rintro e w2 ⟨rfl, hZ, hF⟩
      have HC2 := Lib.hid (show Cz w2 c p b vs _ true from ⟨hZ, HC.out.len, HC.out.head.frm hF (by have := HC.out.nes; simp; omega)⟩)
      have HF2 := Lib.hid (HF.out.trans' hF (by simp))
      clear hZ hF
      go_wp2_with fail
      go_light
      go_roundg (36 - (i + 1))
      case measure => have := HG.out; omega
      case rel => exact ⟨i + 1, by have := HG.out; omega, by go_num, _, HC2, HF2⟩
    · have : i = 36 := by omega
      subst this
      go_wp2_with fail
      go_light
      go_end0
      exact ⟨rfl, ⟨_, HC.out⟩, HF.out⟩
end Otp
end Go.Proofs.YtpakdcgcgekcfaaDoor
