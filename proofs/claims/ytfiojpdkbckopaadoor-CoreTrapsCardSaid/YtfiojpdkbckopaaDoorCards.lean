/-
  DERIVED. GIVEN WITH THE SEED: THE CARDS: each row of YtfiojpdkbckopaaDoorRows.lean that lists a variable, with what it lists TIED to the program's text (the seventh form; the later family's looks); each row that meets fmt, with fmt's text TOLD by the authors' own Lean function (tested against real Go, not proved from fmt's source: count such statements apart). THE CARD IS WHAT COUNTS. Prove the row's statement (the work); the ties are given (YtfiojpdkbckopaaDoorTie.lean); close each card by the builder's one call (the guide's Derived/Test/ToyasCard.lean, 'card_holds'). Laid BY PROGRAM, IN A SANDBOX (cutbox-door.mjs). By AI agents, Wed Nov 11 2026. No macro, syntax, notation, axiom, sorry.
-/
import Derived.Test.YtfiojpdkbckopaaDoorRows
import GoSem.ClaimSeven
namespace Go.Proofs.YtfiojpdkbckopaaDoor
namespace Rows

/-- THE TIED CARD OF 'curtilagelaw20.CoreHeld'. -/
def coreHeldCard : Claim7 := { stood := { row := coreHeldRow, standIns := [], harness := (true, "e95d46ab973186cb6fc4c9e9b11d9211db83cbfb7dcc9817944fc2ffc2691876"), looks := false }, kinds := [], alts := [], laidByText := true, laidKinds := [.data], laidTests := true, laidLooks := .later }
def CoreHeldCardSaid : Prop := Claim7.holds Tryd.pinned (.plain (OpenSpec.ofChange coreHeldSpec)) coreHeldCard

/-- THE TIED CARD OF 'curtilagelaw20.CoreRuns'. -/
def coreRunsCard : Claim7 := { stood := { row := coreRunsRow, standIns := [], harness := (true, "e95d46ab973186cb6fc4c9e9b11d9211db83cbfb7dcc9817944fc2ffc2691876"), looks := false }, kinds := [], alts := [], laidByText := true, laidKinds := [.data], laidTests := true, laidLooks := .later }
def CoreRunsCardSaid : Prop := Claim7.holds Tryd.pinned (.plain (OpenSpec.ofChange coreRunsSpec)) coreRunsCard

/-- THE TIED CARD OF 'curtilagelaw20.CoreTraps'. -/
def coreTrapsCard : Claim7 := { stood := { row := coreTrapsRow, standIns := [], harness := (true, "e95d46ab973186cb6fc4c9e9b11d9211db83cbfb7dcc9817944fc2ffc2691876"), looks := false }, kinds := [], alts := [], laidByText := true, laidKinds := [.data], laidTests := true, laidLooks := .later }
def CoreTrapsCardSaid : Prop := Claim7.holds Tryd.pinned (.plain (OpenSpec.ofChange coreTrapsSpec)) coreTrapsCard

/-- THE TIED CARD OF 'curtilagelaw20.CoreTimer'. -/
def coreTimerCard : Claim7 := { stood := { row := coreTimerRow, standIns := [], harness := (true, "e95d46ab973186cb6fc4c9e9b11d9211db83cbfb7dcc9817944fc2ffc2691876"), looks := false }, kinds := [], alts := [], laidByText := true, laidKinds := [.data], laidTests := true, laidLooks := .later }
def CoreTimerCardSaid : Prop := Claim7.holds Tryd.pinned (.plain (OpenSpec.ofChange coreTimerSpec)) coreTimerCard

/-- THE TIED CARD OF 'curtilagelaw20.CoreAdds'. -/
def coreAddsCard : Claim7 := { stood := { row := coreAddsRow, standIns := [], harness := (true, "e95d46ab973186cb6fc4c9e9b11d9211db83cbfb7dcc9817944fc2ffc2691876"), looks := false }, kinds := [], alts := [], laidByText := true, laidKinds := [.data], laidTests := true, laidLooks := .later }
def CoreAddsCardSaid : Prop := Claim7.holds Tryd.pinned (.plain (OpenSpec.ofChange coreAddsSpec)) coreAddsCard

/-- THE SECOND FORM's CARD OF 'curtilagelaw20.CoreHeld'. -/
def coreHeldUptoCard : Claim7 := { stood := { row := coreHeldUptoRow, standIns := [], harness := (true, "e95d46ab973186cb6fc4c9e9b11d9211db83cbfb7dcc9817944fc2ffc2691876"), looks := false }, kinds := [], alts := [], laidByText := true, laidKinds := [.data], laidTests := true, laidLooks := .later }
def CoreHeldUptoCardSaid : Prop := Claim7.holds Tryd.pinned (.plain (OpenSpec.upto coreHeldSpec)) coreHeldUptoCard

/-- THE SECOND FORM's CARD OF 'curtilagelaw20.CoreRuns'. -/
def coreRunsUptoCard : Claim7 := { stood := { row := coreRunsUptoRow, standIns := [], harness := (true, "e95d46ab973186cb6fc4c9e9b11d9211db83cbfb7dcc9817944fc2ffc2691876"), looks := false }, kinds := [], alts := [], laidByText := true, laidKinds := [.data], laidTests := true, laidLooks := .later }
def CoreRunsUptoCardSaid : Prop := Claim7.holds Tryd.pinned (.plain (OpenSpec.upto coreRunsSpec)) coreRunsUptoCard

/-- THE SECOND FORM's CARD OF 'curtilagelaw20.CoreTraps'. -/
def coreTrapsUptoCard : Claim7 := { stood := { row := coreTrapsUptoRow, standIns := [], harness := (true, "e95d46ab973186cb6fc4c9e9b11d9211db83cbfb7dcc9817944fc2ffc2691876"), looks := false }, kinds := [], alts := [], laidByText := true, laidKinds := [.data], laidTests := true, laidLooks := .later }
def CoreTrapsUptoCardSaid : Prop := Claim7.holds Tryd.pinned (.plain (OpenSpec.upto coreTrapsSpec)) coreTrapsUptoCard

/-- THE SECOND FORM's CARD OF 'curtilagelaw20.CoreTimer'. -/
def coreTimerUptoCard : Claim7 := { stood := { row := coreTimerUptoRow, standIns := [], harness := (true, "e95d46ab973186cb6fc4c9e9b11d9211db83cbfb7dcc9817944fc2ffc2691876"), looks := false }, kinds := [], alts := [], laidByText := true, laidKinds := [.data], laidTests := true, laidLooks := .later }
def CoreTimerUptoCardSaid : Prop := Claim7.holds Tryd.pinned (.plain (OpenSpec.upto coreTimerSpec)) coreTimerUptoCard

/-- THE SECOND FORM's CARD OF 'curtilagelaw20.CoreAdds'. -/
def coreAddsUptoCard : Claim7 := { stood := { row := coreAddsUptoRow, standIns := [], harness := (true, "e95d46ab973186cb6fc4c9e9b11d9211db83cbfb7dcc9817944fc2ffc2691876"), looks := false }, kinds := [], alts := [], laidByText := true, laidKinds := [.data], laidTests := true, laidLooks := .later }
def CoreAddsUptoCardSaid : Prop := Claim7.holds Tryd.pinned (.plain (OpenSpec.upto coreAddsSpec)) coreAddsUptoCard
end Rows
end Go.Proofs.YtfiojpdkbckopaaDoor
