/-
  DERIVED. GIVEN WITH THE SEED: THE CARDS: each row of YtenfdhfhfjaipaaDoorRows.lean that lists a variable, with what it lists TIED to the program's text (the seventh form; the later family's looks); each row that meets fmt, with fmt's text TOLD by the authors' own Lean function (tested against real Go, not proved from fmt's source: count such statements apart). THE CARD IS WHAT COUNTS. Prove the row's statement (the work); the ties are given (YtenfdhfhfjaipaaDoorTie.lean); close each card by the builder's one call (the guide's Derived/Test/ToyasCard.lean, 'card_holds'). Laid BY PROGRAM, IN A SANDBOX (cutbox-door.mjs). By AI agents, Wed Nov 11 2026. No macro, syntax, notation, axiom, sorry.
-/
import Derived.Test.YtenfdhfhfjaipaaDoorRows
import GoSem.ClaimSeven
namespace Go.Proofs.YtenfdhfhfjaipaaDoor
namespace Rows

/-- THE TIED CARD OF 'curtilagelaw19.RvEncodes'. -/
def rvEncodesCard : Claim7 := { stood := { row := rvEncodesRow, standIns := [], harness := (true, "9106a0754d685943c3141cb2c68a09e53dd450257aee65f1af0960d00cc7aea1"), looks := false }, kinds := [], alts := [], laidByText := true, laidKinds := [.listed, .data], laidTests := true, laidLooks := .later }
def RvEncodesCardSaid : Prop := Claim7.holds Tryd.pinned (.plain (OpenSpec.ofChange rvEncodesSpec)) rvEncodesCard

/-- THE TIED CARD OF 'curtilagelaw19.RvNames'. -/
def rvNamesCard : Claim7 := { stood := { row := rvNamesRow, standIns := [], harness := (true, "9106a0754d685943c3141cb2c68a09e53dd450257aee65f1af0960d00cc7aea1"), looks := false }, kinds := [], alts := [], laidByText := true, laidKinds := [.listed, .data], laidTests := true, laidLooks := .later }
def RvNamesCardSaid : Prop := Claim7.holds Tryd.pinned (.plain (OpenSpec.ofChange rvNamesSpec)) rvNamesCard

/-- THE TIED CARD OF 'curtilagelaw19.RvWords'. -/
def rvWordsCard : Claim7 := { stood := { row := rvWordsRow, standIns := [], harness := (true, "9106a0754d685943c3141cb2c68a09e53dd450257aee65f1af0960d00cc7aea1"), looks := false }, kinds := [], alts := [], laidByText := true, laidKinds := [.listed, .data], laidTests := true, laidLooks := .later }
def RvWordsCardSaid : Prop := Claim7.holds Tryd.pinned (.plain (OpenSpec.ofChange rvWordsSpec)) rvWordsCard

/-- THE TIED CARD OF 'curtilagelaw19.RvDivides'. -/
def rvDividesCard : Claim7 := { stood := { row := rvDividesRow, standIns := [], harness := (true, "9106a0754d685943c3141cb2c68a09e53dd450257aee65f1af0960d00cc7aea1"), looks := false }, kinds := [], alts := [], laidByText := true, laidKinds := [.listed, .data], laidTests := true, laidLooks := .later }
def RvDividesCardSaid : Prop := Claim7.holds Tryd.pinned (.plain (OpenSpec.ofChange rvDividesSpec)) rvDividesCard

/-- THE TIED CARD OF 'curtilagelaw20.CoreHeld'. -/
def coreHeldCard : Claim7 := { stood := { row := coreHeldRow, standIns := [], harness := (true, "9106a0754d685943c3141cb2c68a09e53dd450257aee65f1af0960d00cc7aea1"), looks := false }, kinds := [], alts := [], laidByText := true, laidKinds := [.data], laidTests := true, laidLooks := .later }
def CoreHeldCardSaid : Prop := Claim7.holds Tryd.pinned (.plain (OpenSpec.ofChange coreHeldSpec)) coreHeldCard

/-- THE TIED CARD OF 'curtilagelaw20.CoreRuns'. -/
def coreRunsCard : Claim7 := { stood := { row := coreRunsRow, standIns := [], harness := (true, "9106a0754d685943c3141cb2c68a09e53dd450257aee65f1af0960d00cc7aea1"), looks := false }, kinds := [], alts := [], laidByText := true, laidKinds := [.data], laidTests := true, laidLooks := .later }
def CoreRunsCardSaid : Prop := Claim7.holds Tryd.pinned (.plain (OpenSpec.ofChange coreRunsSpec)) coreRunsCard

/-- THE TIED CARD OF 'curtilagelaw20.CoreTraps'. -/
def coreTrapsCard : Claim7 := { stood := { row := coreTrapsRow, standIns := [], harness := (true, "9106a0754d685943c3141cb2c68a09e53dd450257aee65f1af0960d00cc7aea1"), looks := false }, kinds := [], alts := [], laidByText := true, laidKinds := [.data], laidTests := true, laidLooks := .later }
def CoreTrapsCardSaid : Prop := Claim7.holds Tryd.pinned (.plain (OpenSpec.ofChange coreTrapsSpec)) coreTrapsCard

/-- THE TIED CARD OF 'curtilagelaw20.CoreTimer'. -/
def coreTimerCard : Claim7 := { stood := { row := coreTimerRow, standIns := [], harness := (true, "9106a0754d685943c3141cb2c68a09e53dd450257aee65f1af0960d00cc7aea1"), looks := false }, kinds := [], alts := [], laidByText := true, laidKinds := [.data], laidTests := true, laidLooks := .later }
def CoreTimerCardSaid : Prop := Claim7.holds Tryd.pinned (.plain (OpenSpec.ofChange coreTimerSpec)) coreTimerCard

/-- THE TIED CARD OF 'curtilagelaw20.CoreAdds'. -/
def coreAddsCard : Claim7 := { stood := { row := coreAddsRow, standIns := [], harness := (true, "9106a0754d685943c3141cb2c68a09e53dd450257aee65f1af0960d00cc7aea1"), looks := false }, kinds := [], alts := [], laidByText := true, laidKinds := [.data], laidTests := true, laidLooks := .later }
def CoreAddsCardSaid : Prop := Claim7.holds Tryd.pinned (.plain (OpenSpec.ofChange coreAddsSpec)) coreAddsCard

/-- THE SECOND FORM's CARD OF 'curtilagelaw19.RvEncodes'. -/
def rvEncodesUptoCard : Claim7 := { stood := { row := rvEncodesUptoRow, standIns := [], harness := (true, "9106a0754d685943c3141cb2c68a09e53dd450257aee65f1af0960d00cc7aea1"), looks := false }, kinds := [], alts := [], laidByText := true, laidKinds := [.listed, .data], laidTests := true, laidLooks := .later }
def RvEncodesUptoCardSaid : Prop := Claim7.holds Tryd.pinned (.plain (OpenSpec.upto rvEncodesSpec)) rvEncodesUptoCard

/-- THE SECOND FORM's CARD OF 'curtilagelaw19.RvNames'. -/
def rvNamesUptoCard : Claim7 := { stood := { row := rvNamesUptoRow, standIns := [], harness := (true, "9106a0754d685943c3141cb2c68a09e53dd450257aee65f1af0960d00cc7aea1"), looks := false }, kinds := [], alts := [], laidByText := true, laidKinds := [.listed, .data], laidTests := true, laidLooks := .later }
def RvNamesUptoCardSaid : Prop := Claim7.holds Tryd.pinned (.plain (OpenSpec.upto rvNamesSpec)) rvNamesUptoCard

/-- THE SECOND FORM's CARD OF 'curtilagelaw19.RvWords'. -/
def rvWordsUptoCard : Claim7 := { stood := { row := rvWordsUptoRow, standIns := [], harness := (true, "9106a0754d685943c3141cb2c68a09e53dd450257aee65f1af0960d00cc7aea1"), looks := false }, kinds := [], alts := [], laidByText := true, laidKinds := [.listed, .data], laidTests := true, laidLooks := .later }
def RvWordsUptoCardSaid : Prop := Claim7.holds Tryd.pinned (.plain (OpenSpec.upto rvWordsSpec)) rvWordsUptoCard

/-- THE SECOND FORM's CARD OF 'curtilagelaw19.RvDivides'. -/
def rvDividesUptoCard : Claim7 := { stood := { row := rvDividesUptoRow, standIns := [], harness := (true, "9106a0754d685943c3141cb2c68a09e53dd450257aee65f1af0960d00cc7aea1"), looks := false }, kinds := [], alts := [], laidByText := true, laidKinds := [.listed, .data], laidTests := true, laidLooks := .later }
def RvDividesUptoCardSaid : Prop := Claim7.holds Tryd.pinned (.plain (OpenSpec.upto rvDividesSpec)) rvDividesUptoCard

/-- THE SECOND FORM's CARD OF 'curtilagelaw20.CoreHeld'. -/
def coreHeldUptoCard : Claim7 := { stood := { row := coreHeldUptoRow, standIns := [], harness := (true, "9106a0754d685943c3141cb2c68a09e53dd450257aee65f1af0960d00cc7aea1"), looks := false }, kinds := [], alts := [], laidByText := true, laidKinds := [.data], laidTests := true, laidLooks := .later }
def CoreHeldUptoCardSaid : Prop := Claim7.holds Tryd.pinned (.plain (OpenSpec.upto coreHeldSpec)) coreHeldUptoCard

/-- THE SECOND FORM's CARD OF 'curtilagelaw20.CoreRuns'. -/
def coreRunsUptoCard : Claim7 := { stood := { row := coreRunsUptoRow, standIns := [], harness := (true, "9106a0754d685943c3141cb2c68a09e53dd450257aee65f1af0960d00cc7aea1"), looks := false }, kinds := [], alts := [], laidByText := true, laidKinds := [.data], laidTests := true, laidLooks := .later }
def CoreRunsUptoCardSaid : Prop := Claim7.holds Tryd.pinned (.plain (OpenSpec.upto coreRunsSpec)) coreRunsUptoCard

/-- THE SECOND FORM's CARD OF 'curtilagelaw20.CoreTraps'. -/
def coreTrapsUptoCard : Claim7 := { stood := { row := coreTrapsUptoRow, standIns := [], harness := (true, "9106a0754d685943c3141cb2c68a09e53dd450257aee65f1af0960d00cc7aea1"), looks := false }, kinds := [], alts := [], laidByText := true, laidKinds := [.data], laidTests := true, laidLooks := .later }
def CoreTrapsUptoCardSaid : Prop := Claim7.holds Tryd.pinned (.plain (OpenSpec.upto coreTrapsSpec)) coreTrapsUptoCard

/-- THE SECOND FORM's CARD OF 'curtilagelaw20.CoreTimer'. -/
def coreTimerUptoCard : Claim7 := { stood := { row := coreTimerUptoRow, standIns := [], harness := (true, "9106a0754d685943c3141cb2c68a09e53dd450257aee65f1af0960d00cc7aea1"), looks := false }, kinds := [], alts := [], laidByText := true, laidKinds := [.data], laidTests := true, laidLooks := .later }
def CoreTimerUptoCardSaid : Prop := Claim7.holds Tryd.pinned (.plain (OpenSpec.upto coreTimerSpec)) coreTimerUptoCard

/-- THE SECOND FORM's CARD OF 'curtilagelaw20.CoreAdds'. -/
def coreAddsUptoCard : Claim7 := { stood := { row := coreAddsUptoRow, standIns := [], harness := (true, "9106a0754d685943c3141cb2c68a09e53dd450257aee65f1af0960d00cc7aea1"), looks := false }, kinds := [], alts := [], laidByText := true, laidKinds := [.data], laidTests := true, laidLooks := .later }
def CoreAddsUptoCardSaid : Prop := Claim7.holds Tryd.pinned (.plain (OpenSpec.upto coreAddsSpec)) coreAddsUptoCard
end Rows
end Go.Proofs.YtenfdhfhfjaipaaDoor
