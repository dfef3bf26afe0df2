/-
  DERIVED. GIVEN WITH THE SEED: THE CARDS: each row of YtmcpppgnfmopoaaDoorRows.lean that lists a variable, with what it lists TIED to the program's text (the seventh form; the later family's looks); each row that meets fmt, with fmt's text TOLD by the authors' own Lean function (tested against real Go, not proved from fmt's source: count such statements apart). THE CARD IS WHAT COUNTS. Prove the row's statement (the work); the ties are given (YtmcpppgnfmopoaaDoorTie.lean); close each card by the builder's one call (the guide's Derived/Test/ToyasCard.lean, 'card_holds'). Laid BY PROGRAM, IN A SANDBOX (cutbox-door.mjs). By AI agents, Wed Nov 11 2026. No macro, syntax, notation, axiom, sorry.
-/
import Derived.Test.YtmcpppgnfmopoaaDoorRows
import GoSem.ClaimSeven
namespace Go.Proofs.YtmcpppgnfmopoaaDoor
namespace Rows

/-- THE TIED CARD OF 'curtilagelaw11.OtpCounts'. -/
def otpCountsCard : Claim7 := { stood := { row := otpCountsRow, standIns := [], harness := (true, "10f1af9928f04baf055fde2001affd2df2602ee4d6f8fb697a44c8440d902134"), looks := false }, kinds := [], alts := [], laidByText := true, laidKinds := [.data], laidTests := true, laidLooks := .later }
def OtpCountsCardSaid : Prop := Claim7.holds Tryd.pinned (.plain (OpenSpec.ofChange otpCountsSpec)) otpCountsCard

/-- THE TIED CARD OF 'curtilagelaw14.GrantLocks'. -/
def grantLocksCard : Claim7 := { stood := { row := grantLocksRow, standIns := [], harness := (true, "10f1af9928f04baf055fde2001affd2df2602ee4d6f8fb697a44c8440d902134"), looks := false }, kinds := [], alts := [], laidByText := true, laidKinds := [.data], laidTests := true, laidLooks := .later }
def GrantLocksCardSaid : Prop := Claim7.holds Tryd.pinned (.plain (OpenSpec.ofChange grantLocksSpec)) grantLocksCard

/-- THE TIED CARD OF 'curtilagelaw14.GrantPlaces'. -/
def grantPlacesCard : Claim7 := { stood := { row := grantPlacesRow, standIns := [], harness := (true, "10f1af9928f04baf055fde2001affd2df2602ee4d6f8fb697a44c8440d902134"), looks := false }, kinds := [], alts := [], laidByText := true, laidKinds := [.data], laidTests := true, laidLooks := .later }
def GrantPlacesCardSaid : Prop := Claim7.holds Tryd.pinned (.plain (OpenSpec.ofChange grantPlacesSpec)) grantPlacesCard

/-- THE TIED CARD OF 'curtilagelaw14.GrantWays'. -/
def grantWaysCard : Claim7 := { stood := { row := grantWaysRow, standIns := [], harness := (true, "10f1af9928f04baf055fde2001affd2df2602ee4d6f8fb697a44c8440d902134"), looks := false }, kinds := [], alts := [], laidByText := true, laidKinds := [.data], laidTests := true, laidLooks := .later }
def GrantWaysCardSaid : Prop := Claim7.holds Tryd.pinned (.plain (OpenSpec.ofChange grantWaysSpec)) grantWaysCard

/-- THE TIED CARD OF 'curtilagelaw14.GrantChecks'. -/
def grantChecksCard : Claim7 := { stood := { row := grantChecksRow, standIns := [], harness := (true, "10f1af9928f04baf055fde2001affd2df2602ee4d6f8fb697a44c8440d902134"), looks := false }, kinds := [], alts := [], laidByText := true, laidKinds := [.data], laidTests := true, laidLooks := .later }
def GrantChecksCardSaid : Prop := Claim7.holds Tryd.pinned (.plain (OpenSpec.ofChange grantChecksSpec)) grantChecksCard

/-- THE TIED CARD OF 'curtilagelaw11.OtpRefuses'. -/
def otpRefusesCard : Claim7 := { stood := { row := otpRefusesRow, standIns := [], harness := (true, "10f1af9928f04baf055fde2001affd2df2602ee4d6f8fb697a44c8440d902134"), looks := false }, kinds := [], alts := [], laidByText := true, laidKinds := [.data], laidTests := true, laidLooks := .later }
def OtpRefusesCardSaid : Prop := Claim7.holds Tryd.pinned (.plain (OpenSpec.ofChange otpRefusesSpec)) otpRefusesCard

/-- THE TIED CARD OF 'curtilagelaw11.OtpRises'. -/
def otpRisesCard : Claim7 := { stood := { row := otpRisesRow, standIns := [], harness := (true, "10f1af9928f04baf055fde2001affd2df2602ee4d6f8fb697a44c8440d902134"), looks := false }, kinds := [], alts := [], laidByText := true, laidKinds := [.data], laidTests := true, laidLooks := .later }
def OtpRisesCardSaid : Prop := Claim7.holds Tryd.pinned (.plain (OpenSpec.ofChange otpRisesSpec)) otpRisesCard

/-- THE SECOND FORM's CARD OF 'curtilagelaw11.OtpCounts'. -/
def otpCountsUptoCard : Claim7 := { stood := { row := otpCountsUptoRow, standIns := [], harness := (true, "10f1af9928f04baf055fde2001affd2df2602ee4d6f8fb697a44c8440d902134"), looks := false }, kinds := [], alts := [], laidByText := true, laidKinds := [.data], laidTests := true, laidLooks := .later }
def OtpCountsUptoCardSaid : Prop := Claim7.holds Tryd.pinned (.plain (OpenSpec.upto otpCountsSpec)) otpCountsUptoCard

/-- THE SECOND FORM's CARD OF 'curtilagelaw14.GrantLocks'. -/
def grantLocksUptoCard : Claim7 := { stood := { row := grantLocksUptoRow, standIns := [], harness := (true, "10f1af9928f04baf055fde2001affd2df2602ee4d6f8fb697a44c8440d902134"), looks := false }, kinds := [], alts := [], laidByText := true, laidKinds := [.data], laidTests := true, laidLooks := .later }
def GrantLocksUptoCardSaid : Prop := Claim7.holds Tryd.pinned (.plain (OpenSpec.upto grantLocksSpec)) grantLocksUptoCard

/-- THE SECOND FORM's CARD OF 'curtilagelaw14.GrantPlaces'. -/
def grantPlacesUptoCard : Claim7 := { stood := { row := grantPlacesUptoRow, standIns := [], harness := (true, "10f1af9928f04baf055fde2001affd2df2602ee4d6f8fb697a44c8440d902134"), looks := false }, kinds := [], alts := [], laidByText := true, laidKinds := [.data], laidTests := true, laidLooks := .later }
def GrantPlacesUptoCardSaid : Prop := Claim7.holds Tryd.pinned (.plain (OpenSpec.upto grantPlacesSpec)) grantPlacesUptoCard

/-- THE SECOND FORM's CARD OF 'curtilagelaw14.GrantWays'. -/
def grantWaysUptoCard : Claim7 := { stood := { row := grantWaysUptoRow, standIns := [], harness := (true, "10f1af9928f04baf055fde2001affd2df2602ee4d6f8fb697a44c8440d902134"), looks := false }, kinds := [], alts := [], laidByText := true, laidKinds := [.data], laidTests := true, laidLooks := .later }
def GrantWaysUptoCardSaid : Prop := Claim7.holds Tryd.pinned (.plain (OpenSpec.upto grantWaysSpec)) grantWaysUptoCard

/-- THE SECOND FORM's CARD OF 'curtilagelaw14.GrantChecks'. -/
def grantChecksUptoCard : Claim7 := { stood := { row := grantChecksUptoRow, standIns := [], harness := (true, "10f1af9928f04baf055fde2001affd2df2602ee4d6f8fb697a44c8440d902134"), looks := false }, kinds := [], alts := [], laidByText := true, laidKinds := [.data], laidTests := true, laidLooks := .later }
def GrantChecksUptoCardSaid : Prop := Claim7.holds Tryd.pinned (.plain (OpenSpec.upto grantChecksSpec)) grantChecksUptoCard

/-- THE SECOND FORM's CARD OF 'curtilagelaw11.OtpRefuses'. -/
def otpRefusesUptoCard : Claim7 := { stood := { row := otpRefusesUptoRow, standIns := [], harness := (true, "10f1af9928f04baf055fde2001affd2df2602ee4d6f8fb697a44c8440d902134"), looks := false }, kinds := [], alts := [], laidByText := true, laidKinds := [.data], laidTests := true, laidLooks := .later }
def OtpRefusesUptoCardSaid : Prop := Claim7.holds Tryd.pinned (.plain (OpenSpec.upto otpRefusesSpec)) otpRefusesUptoCard

/-- THE SECOND FORM's CARD OF 'curtilagelaw11.OtpRises'. -/
def otpRisesUptoCard : Claim7 := { stood := { row := otpRisesUptoRow, standIns := [], harness := (true, "10f1af9928f04baf055fde2001affd2df2602ee4d6f8fb697a44c8440d902134"), looks := false }, kinds := [], alts := [], laidByText := true, laidKinds := [.data], laidTests := true, laidLooks := .later }
def OtpRisesUptoCardSaid : Prop := Claim7.holds Tryd.pinned (.plain (OpenSpec.upto otpRisesSpec)) otpRisesUptoCard
end Rows
end Go.Proofs.YtmcpppgnfmopoaaDoor
