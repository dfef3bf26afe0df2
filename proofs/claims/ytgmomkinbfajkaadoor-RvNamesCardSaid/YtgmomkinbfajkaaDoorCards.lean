/-
  DERIVED. GIVEN WITH THE SEED: THE CARDS: each row of YtgmomkinbfajkaaDoorRows.lean that lists a variable, with what it lists TIED to the program's text (the seventh form; the later family's looks); each row that meets fmt, with fmt's text TOLD by the authors' own Lean function (tested against real Go, not proved from fmt's source: count such statements apart). THE CARD IS WHAT COUNTS. Prove the row's statement (the work); the ties are given (YtgmomkinbfajkaaDoorTie.lean); close each card by the builder's one call (the guide's Derived/Test/ToyasCard.lean, 'card_holds'). Laid BY PROGRAM, IN A SANDBOX (cutbox-door.mjs). By AI agents, Wed Nov 11 2026. No macro, syntax, notation, axiom, sorry.
-/
import Derived.Test.YtgmomkinbfajkaaDoorRows
import GoSem.ClaimSeven
namespace Go.Proofs.YtgmomkinbfajkaaDoor
namespace Rows

/-- THE TIED CARD OF 'curtilagelaw19.RvEncodes'. -/
def rvEncodesCard : Claim7 := { stood := { row := rvEncodesRow, standIns := [], harness := (true, "0f41ae3d44776deef7bfa149ca3ce680d016099e8202dd34e7b60561cafb935d"), looks := false }, kinds := [], alts := [], laidByText := true, laidKinds := [.listed, .data], laidTests := true, laidLooks := .later }
def RvEncodesCardSaid : Prop := Claim7.holds Tryd.pinned (.plain (OpenSpec.ofChange rvEncodesSpec)) rvEncodesCard

/-- THE TIED CARD OF 'curtilagelaw19.RvNames'. -/
def rvNamesCard : Claim7 := { stood := { row := rvNamesRow, standIns := [], harness := (true, "0f41ae3d44776deef7bfa149ca3ce680d016099e8202dd34e7b60561cafb935d"), looks := false }, kinds := [], alts := [], laidByText := true, laidKinds := [.listed, .data], laidTests := true, laidLooks := .later }
def RvNamesCardSaid : Prop := Claim7.holds Tryd.pinned (.plain (OpenSpec.ofChange rvNamesSpec)) rvNamesCard

/-- THE TIED CARD OF 'curtilagelaw19.RvWords'. -/
def rvWordsCard : Claim7 := { stood := { row := rvWordsRow, standIns := [], harness := (true, "0f41ae3d44776deef7bfa149ca3ce680d016099e8202dd34e7b60561cafb935d"), looks := false }, kinds := [], alts := [], laidByText := true, laidKinds := [.listed, .data], laidTests := true, laidLooks := .later }
def RvWordsCardSaid : Prop := Claim7.holds Tryd.pinned (.plain (OpenSpec.ofChange rvWordsSpec)) rvWordsCard

/-- THE SECOND FORM's CARD OF 'curtilagelaw19.RvEncodes'. -/
def rvEncodesUptoCard : Claim7 := { stood := { row := rvEncodesUptoRow, standIns := [], harness := (true, "0f41ae3d44776deef7bfa149ca3ce680d016099e8202dd34e7b60561cafb935d"), looks := false }, kinds := [], alts := [], laidByText := true, laidKinds := [.listed, .data], laidTests := true, laidLooks := .later }
def RvEncodesUptoCardSaid : Prop := Claim7.holds Tryd.pinned (.plain (OpenSpec.upto rvEncodesSpec)) rvEncodesUptoCard

/-- THE SECOND FORM's CARD OF 'curtilagelaw19.RvNames'. -/
def rvNamesUptoCard : Claim7 := { stood := { row := rvNamesUptoRow, standIns := [], harness := (true, "0f41ae3d44776deef7bfa149ca3ce680d016099e8202dd34e7b60561cafb935d"), looks := false }, kinds := [], alts := [], laidByText := true, laidKinds := [.listed, .data], laidTests := true, laidLooks := .later }
def RvNamesUptoCardSaid : Prop := Claim7.holds Tryd.pinned (.plain (OpenSpec.upto rvNamesSpec)) rvNamesUptoCard

/-- THE SECOND FORM's CARD OF 'curtilagelaw19.RvWords'. -/
def rvWordsUptoCard : Claim7 := { stood := { row := rvWordsUptoRow, standIns := [], harness := (true, "0f41ae3d44776deef7bfa149ca3ce680d016099e8202dd34e7b60561cafb935d"), looks := false }, kinds := [], alts := [], laidByText := true, laidKinds := [.listed, .data], laidTests := true, laidLooks := .later }
def RvWordsUptoCardSaid : Prop := Claim7.holds Tryd.pinned (.plain (OpenSpec.upto rvWordsSpec)) rvWordsUptoCard
end Rows
end Go.Proofs.YtgmomkinbfajkaaDoor
