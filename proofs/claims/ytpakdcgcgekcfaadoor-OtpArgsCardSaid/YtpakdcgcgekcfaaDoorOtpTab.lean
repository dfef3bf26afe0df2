/-
  What a row's list gives: the table of math/bits in its variable.
-/
import Derived.Test.YtpakdcgcgekcfaaDoorProg
import Derived.Test.YtpakdcgcgekcfaaDoorTz
import Derived.Lib.LaidTab
namespace Go.Proofs.YtpakdcgcgekcfaaDoor
open Go.RowKit

namespace Otp
def tabZ : List Int := [0, 1, 28, 2, 29, 14, 24, 3, 30, 22, 20, 15, 25, 17, 4, 8, 31, 27, 13, 23, 21, 19, 16, 7, 26, 12, 18, 6, 11, 5, 10, 9]
theorem gTab : Tryd.prog.globalNamed "math/bits.deBruijn32tab" = some 0 := by kernel_rfl
theorem gTabType : (Tryd.prog.globals[0]?).map (·.type) = some 22 := by kernel_rfl
theorem gTabCells : Tryd.prog.cellsOf 22 = 32 := by kernel_rfl
theorem u8Cells : Tryd.prog.cellsOf 5 = 1 := by kernel_rfl
theorem tab_of {W : World} (h : laidMetH Tryd.prog [("math/bits.deBruijn32tab", Lib.tabData .u8 tabZ)] W) : Tab W := by
  have ht : Lib.TabIs Tryd.prog W "math/bits.deBruijn32tab" .u8 tabZ := Lib.tabIs_of_head (rest := []) gTab gTabType Tryd.underlying22 Tryd.underlying5 u8Cells gTabCells h
  intro j hj
  have h1 := ht.cell gTab j (by simpa [tabZ, Lib.deBruijn32tab] using hj)
  rw [h1]
  have : ∀ k : Fin 32, tabZ.getD k.val 0 = ((Lib.deBruijn32tab.getD k.val 0 : Nat) : Int) := by decide +kernel
  have h2 := this ⟨j, by simpa [Lib.deBruijn32tab] using hj⟩
  simp only at h2
  rw [h2]
end Otp
end Go.Proofs.YtpakdcgcgekcfaaDoor
