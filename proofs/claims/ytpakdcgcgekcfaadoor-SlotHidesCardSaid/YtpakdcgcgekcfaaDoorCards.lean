/-
  DERIVED. GIVEN WITH THE SEED: THE CARDS: each row of YtpakdcgcgekcfaaDoorRows.lean that lists a variable, with what it lists TIED to the program's text (the seventh form; the later family's looks); each row that meets fmt, with fmt's text TOLD by the authors' own Lean function (tested against real Go, not proved from fmt's source: count such statements apart). THE CARD IS WHAT COUNTS. Prove the row's statement (the work); the ties are given (YtpakdcgcgekcfaaDoorTie.lean); close each card by the builder's one call (the guide's Derived/Test/ToyasCard.lean, 'card_holds'). Laid BY PROGRAM, IN A SANDBOX (cutbox-door.mjs). By AI agents, Wed Nov 11 2026. No macro, syntax, notation, axiom, sorry.
-/
import Derived.Test.YtpakdcgcgekcfaaDoorRows
import GoSem.ClaimSeven
namespace Go.Proofs.YtpakdcgcgekcfaaDoor
namespace Rows

/-- THE TIED CARD OF 'curtilagelaw11.OtpRows'. -/
def otpRowsCard : Claim7 := { stood := { row := otpRowsRow, standIns := [], harness := (true, "b813687f3b668883e74428c923a2171340df7f5f23df39863de75f517bdab5cc"), looks := false }, kinds := [], alts := [], laidByText := true, laidKinds := [.data], laidTests := true, laidLooks := .later }
def OtpRowsCardSaid : Prop := Claim7.holds Tryd.pinned (.plain (OpenSpec.ofChange otpRowsSpec)) otpRowsCard

/-- THE TIED CARD OF 'curtilagelaw11.OtpReaches'. -/
def otpReachesCard : Claim7 := { stood := { row := otpReachesRow, standIns := [], harness := (true, "b813687f3b668883e74428c923a2171340df7f5f23df39863de75f517bdab5cc"), looks := false }, kinds := [], alts := [], laidByText := true, laidKinds := [.data], laidTests := true, laidLooks := .later }
def OtpReachesCardSaid : Prop := Claim7.holds Tryd.pinned (.plain (OpenSpec.ofChange otpReachesSpec)) otpReachesCard

/-- THE TIED CARD OF 'curtilagelaw11.OtpArgs'. -/
def otpArgsCard : Claim7 := { stood := { row := otpArgsRow, standIns := [], harness := (true, "b813687f3b668883e74428c923a2171340df7f5f23df39863de75f517bdab5cc"), looks := false }, kinds := [], alts := [], laidByText := true, laidKinds := [.data], laidTests := true, laidLooks := .later }
def OtpArgsCardSaid : Prop := Claim7.holds Tryd.pinned (.plain (OpenSpec.ofChange otpArgsSpec)) otpArgsCard

/-- THE TIED CARD OF 'curtilagelaw15.SlotChains'. -/
def slotChainsCard : Claim7 := { stood := { row := slotChainsRow, standIns := [], harness := (true, "b813687f3b668883e74428c923a2171340df7f5f23df39863de75f517bdab5cc"), looks := false }, kinds := [], alts := [], laidByText := true, laidKinds := [.data, .data], laidTests := true, laidLooks := .later }
def SlotChainsCardSaid : Prop := Claim7.holds Tryd.pinned (.plain (OpenSpec.ofChange slotChainsSpec)) slotChainsCard

/-- THE TIED CARD OF 'curtilagelaw15.SlotHides'. -/
def slotHidesCard : Claim7 := { stood := { row := slotHidesRow, standIns := [], harness := (true, "b813687f3b668883e74428c923a2171340df7f5f23df39863de75f517bdab5cc"), looks := false }, kinds := [], alts := [], laidByText := true, laidKinds := [.data, .data], laidTests := true, laidLooks := .later }
def SlotHidesCardSaid : Prop := Claim7.holds Tryd.pinned (.plain (OpenSpec.ofChange slotHidesSpec)) slotHidesCard

/-- THE TIED CARD OF 'curtilagelaw15.SlotNil'. -/
def slotNilCard : Claim7 := { stood := { row := slotNilRow, standIns := [], harness := (true, "b813687f3b668883e74428c923a2171340df7f5f23df39863de75f517bdab5cc"), looks := false }, kinds := [], alts := [], laidByText := true, laidKinds := [.sentinel, .data, .data], laidTests := true, laidLooks := .later }
def SlotNilCardSaid : Prop := Claim7.holds Tryd.pinned (.plain (OpenSpec.ofChange slotNilSpec)) slotNilCard

/-- THE TIED CARD OF 'curtilagelaw04.ModeReach'. -/
def modeReachCard : Claim7 := { stood := { row := modeReachRow, standIns := [], harness := (true, "b813687f3b668883e74428c923a2171340df7f5f23df39863de75f517bdab5cc"), looks := false }, kinds := [], alts := [], laidByText := true, laidKinds := [.sentinel], laidTests := true, laidLooks := .later }
def ModeReachCardSaid : Prop := Claim7.holds Tryd.pinned (.plain (OpenSpec.ofChange modeReachSpec)) modeReachCard

/-- THE TIED CARD OF 'curtilagelaw04.ModeRuns'. -/
def modeRunsCard : Claim7 := { stood := { row := modeRunsRow, standIns := [], harness := (true, "b813687f3b668883e74428c923a2171340df7f5f23df39863de75f517bdab5cc"), looks := false }, kinds := [], alts := [], laidByText := true, laidKinds := [.sentinel], laidTests := true, laidLooks := .later }
def ModeRunsCardSaid : Prop := Claim7.holds Tryd.pinned (.plain (OpenSpec.ofChange modeRunsSpec)) modeRunsCard

/-- THE TIED CARD OF 'curtilagelaw04.ModeParts'. -/
def modePartsCard : Claim7 := { stood := { row := modePartsRow, standIns := [], harness := (true, "b813687f3b668883e74428c923a2171340df7f5f23df39863de75f517bdab5cc"), looks := false }, kinds := [], alts := [], laidByText := true, laidKinds := [.sentinel], laidTests := true, laidLooks := .later }
def ModePartsCardSaid : Prop := Claim7.holds Tryd.pinned (.plain (OpenSpec.ofChange modePartsSpec)) modePartsCard

/-- THE TIED CARD OF 'curtilagelaw04.ModeBack'. -/
def modeBackCard : Claim7 := { stood := { row := modeBackRow, standIns := [], harness := (true, "b813687f3b668883e74428c923a2171340df7f5f23df39863de75f517bdab5cc"), looks := false }, kinds := [], alts := [], laidByText := true, laidKinds := [.sentinel], laidTests := true, laidLooks := .later }
def ModeBackCardSaid : Prop := Claim7.holds Tryd.pinned (.plain (OpenSpec.ofChange modeBackSpec)) modeBackCard

/-- THE TIED CARD OF 'curtilagelaw04.ModeArgs'. -/
def modeArgsCard : Claim7 := { stood := { row := modeArgsRow, standIns := [], harness := (true, "b813687f3b668883e74428c923a2171340df7f5f23df39863de75f517bdab5cc"), looks := false }, kinds := [], alts := [], laidByText := true, laidKinds := [.sentinel], laidTests := true, laidLooks := .later }
def ModeArgsCardSaid : Prop := Claim7.holds Tryd.pinned (.plain (OpenSpec.ofChange modeArgsSpec)) modeArgsCard

/-- THE TIED CARD OF 'curtilagelaw15.SlotCiphers'. -/
def slotCiphersCard : Claim7 := { stood := { row := slotCiphersRow, standIns := [], harness := (true, "b813687f3b668883e74428c923a2171340df7f5f23df39863de75f517bdab5cc"), looks := false }, kinds := [], alts := [], laidByText := true, laidKinds := [.sentinel, .data, .data], laidTests := true, laidLooks := .later }
def SlotCiphersCardSaid : Prop := Claim7.holds Tryd.pinned (.plain (OpenSpec.ofChange slotCiphersSpec)) slotCiphersCard

/-- THE SECOND FORM's CARD OF 'curtilagelaw11.OtpRows'. -/
def otpRowsUptoCard : Claim7 := { stood := { row := otpRowsUptoRow, standIns := [], harness := (true, "b813687f3b668883e74428c923a2171340df7f5f23df39863de75f517bdab5cc"), looks := false }, kinds := [], alts := [], laidByText := true, laidKinds := [.data], laidTests := true, laidLooks := .later }
def OtpRowsUptoCardSaid : Prop := Claim7.holds Tryd.pinned (.plain (OpenSpec.upto otpRowsSpec)) otpRowsUptoCard

/-- THE SECOND FORM's CARD OF 'curtilagelaw11.OtpReaches'. -/
def otpReachesUptoCard : Claim7 := { stood := { row := otpReachesUptoRow, standIns := [], harness := (true, "b813687f3b668883e74428c923a2171340df7f5f23df39863de75f517bdab5cc"), looks := false }, kinds := [], alts := [], laidByText := true, laidKinds := [.data], laidTests := true, laidLooks := .later }
def OtpReachesUptoCardSaid : Prop := Claim7.holds Tryd.pinned (.plain (OpenSpec.upto otpReachesSpec)) otpReachesUptoCard

/-- THE SECOND FORM's CARD OF 'curtilagelaw11.OtpArgs'. -/
def otpArgsUptoCard : Claim7 := { stood := { row := otpArgsUptoRow, standIns := [], harness := (true, "b813687f3b668883e74428c923a2171340df7f5f23df39863de75f517bdab5cc"), looks := false }, kinds := [], alts := [], laidByText := true, laidKinds := [.data], laidTests := true, laidLooks := .later }
def OtpArgsUptoCardSaid : Prop := Claim7.holds Tryd.pinned (.plain (OpenSpec.upto otpArgsSpec)) otpArgsUptoCard

/-- THE SECOND FORM's CARD OF 'curtilagelaw15.SlotChains'. -/
def slotChainsUptoCard : Claim7 := { stood := { row := slotChainsUptoRow, standIns := [], harness := (true, "b813687f3b668883e74428c923a2171340df7f5f23df39863de75f517bdab5cc"), looks := false }, kinds := [], alts := [], laidByText := true, laidKinds := [.data, .data], laidTests := true, laidLooks := .later }
def SlotChainsUptoCardSaid : Prop := Claim7.holds Tryd.pinned (.plain (OpenSpec.upto slotChainsSpec)) slotChainsUptoCard

/-- THE SECOND FORM's CARD OF 'curtilagelaw15.SlotHides'. -/
def slotHidesUptoCard : Claim7 := { stood := { row := slotHidesUptoRow, standIns := [], harness := (true, "b813687f3b668883e74428c923a2171340df7f5f23df39863de75f517bdab5cc"), looks := false }, kinds := [], alts := [], laidByText := true, laidKinds := [.data, .data], laidTests := true, laidLooks := .later }
def SlotHidesUptoCardSaid : Prop := Claim7.holds Tryd.pinned (.plain (OpenSpec.upto slotHidesSpec)) slotHidesUptoCard

/-- THE SECOND FORM's CARD OF 'curtilagelaw15.SlotNil'. -/
def slotNilUptoCard : Claim7 := { stood := { row := slotNilUptoRow, standIns := [], harness := (true, "b813687f3b668883e74428c923a2171340df7f5f23df39863de75f517bdab5cc"), looks := false }, kinds := [], alts := [], laidByText := true, laidKinds := [.sentinel, .data, .data], laidTests := true, laidLooks := .later }
def SlotNilUptoCardSaid : Prop := Claim7.holds Tryd.pinned (.plain (OpenSpec.upto slotNilSpec)) slotNilUptoCard

/-- THE SECOND FORM's CARD OF 'curtilagelaw04.ModeReach'. -/
def modeReachUptoCard : Claim7 := { stood := { row := modeReachUptoRow, standIns := [], harness := (true, "b813687f3b668883e74428c923a2171340df7f5f23df39863de75f517bdab5cc"), looks := false }, kinds := [], alts := [], laidByText := true, laidKinds := [.sentinel], laidTests := true, laidLooks := .later }
def ModeReachUptoCardSaid : Prop := Claim7.holds Tryd.pinned (.plain (OpenSpec.upto modeReachSpec)) modeReachUptoCard

/-- THE SECOND FORM's CARD OF 'curtilagelaw04.ModeRuns'. -/
def modeRunsUptoCard : Claim7 := { stood := { row := modeRunsUptoRow, standIns := [], harness := (true, "b813687f3b668883e74428c923a2171340df7f5f23df39863de75f517bdab5cc"), looks := false }, kinds := [], alts := [], laidByText := true, laidKinds := [.sentinel], laidTests := true, laidLooks := .later }
def ModeRunsUptoCardSaid : Prop := Claim7.holds Tryd.pinned (.plain (OpenSpec.upto modeRunsSpec)) modeRunsUptoCard

/-- THE SECOND FORM's CARD OF 'curtilagelaw04.ModeParts'. -/
def modePartsUptoCard : Claim7 := { stood := { row := modePartsUptoRow, standIns := [], harness := (true, "b813687f3b668883e74428c923a2171340df7f5f23df39863de75f517bdab5cc"), looks := false }, kinds := [], alts := [], laidByText := true, laidKinds := [.sentinel], laidTests := true, laidLooks := .later }
def ModePartsUptoCardSaid : Prop := Claim7.holds Tryd.pinned (.plain (OpenSpec.upto modePartsSpec)) modePartsUptoCard

/-- THE SECOND FORM's CARD OF 'curtilagelaw04.ModeBack'. -/
def modeBackUptoCard : Claim7 := { stood := { row := modeBackUptoRow, standIns := [], harness := (true, "b813687f3b668883e74428c923a2171340df7f5f23df39863de75f517bdab5cc"), looks := false }, kinds := [], alts := [], laidByText := true, laidKinds := [.sentinel], laidTests := true, laidLooks := .later }
def ModeBackUptoCardSaid : Prop := Claim7.holds Tryd.pinned (.plain (OpenSpec.upto modeBackSpec)) modeBackUptoCard

/-- THE SECOND FORM's CARD OF 'curtilagelaw04.ModeArgs'. -/
def modeArgsUptoCard : Claim7 := { stood := { row := modeArgsUptoRow, standIns := [], harness := (true, "b813687f3b668883e74428c923a2171340df7f5f23df39863de75f517bdab5cc"), looks := false }, kinds := [], alts := [], laidByText := true, laidKinds := [.sentinel], laidTests := true, laidLooks := .later }
def ModeArgsUptoCardSaid : Prop := Claim7.holds Tryd.pinned (.plain (OpenSpec.upto modeArgsSpec)) modeArgsUptoCard

/-- THE SECOND FORM's CARD OF 'curtilagelaw15.SlotCiphers'. -/
def slotCiphersUptoCard : Claim7 := { stood := { row := slotCiphersUptoRow, standIns := [], harness := (true, "b813687f3b668883e74428c923a2171340df7f5f23df39863de75f517bdab5cc"), looks := false }, kinds := [], alts := [], laidByText := true, laidKinds := [.sentinel, .data, .data], laidTests := true, laidLooks := .later }
def SlotCiphersUptoCardSaid : Prop := Claim7.holds Tryd.pinned (.plain (OpenSpec.upto slotCiphersSpec)) slotCiphersUptoCard
end Rows
end Go.Proofs.YtpakdcgcgekcfaaDoor
