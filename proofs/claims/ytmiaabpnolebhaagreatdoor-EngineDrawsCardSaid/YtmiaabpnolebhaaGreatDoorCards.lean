/-
  DERIVED. GIVEN WITH THE SEED: THE CARDS: each row of YtmiaabpnolebhaaGreatDoorRows.lean that lists a variable, with what it lists TIED to the program's text (the seventh form; the later family's looks); each row that meets fmt, with fmt's text TOLD by the authors' own Lean function (tested against real Go, not proved from fmt's source: count such statements apart). THE CARD IS WHAT COUNTS. Prove the row's statement (the work); the ties are given (YtmiaabpnolebhaaGreatDoorTie.lean); close each card by the builder's one call (the guide's Derived/Test/ToyasCard.lean, 'card_holds'). Laid BY PROGRAM, IN A SANDBOX (cutbox-door.mjs). By AI agents, Wed Nov 11 2026. No macro, syntax, notation, axiom, sorry.
-/
import Derived.Test.YtmiaabpnolebhaaGreatDoorRows
import GoSem.ClaimSeven
namespace Go.Proofs.YtmiaabpnolebhaaGreatDoor
namespace Rows

/-- THE TIED CARD OF 'curtilagelaw23.ChooseLooks'. -/
def chooseLooksCard : Claim7 := { stood := { row := chooseLooksRow, standIns := [], harness := (true, "0e4415aa11397d6dc95d3c1618463d1bf7b9fdf8d4316c2b1423a28b325e319e"), looks := false }, kinds := [], alts := [], laidByText := true, laidKinds := [.data, .data, .data, .data], laidTests := true, laidLooks := .later }
def ChooseLooksCardSaid : Prop := Claim7.holds Tryz.pinned (.plain (OpenSpec.ofChange chooseLooksSpec)) chooseLooksCard

/-- THE TIED CARD OF 'curtilagelaw20.CoreOne'. -/
def coreOneCard : Claim7 := { stood := { row := coreOneRow, standIns := [], harness := (true, "0e4415aa11397d6dc95d3c1618463d1bf7b9fdf8d4316c2b1423a28b325e319e"), looks := false }, kinds := [], alts := [], laidByText := true, laidKinds := [.data], laidTests := true, laidLooks := .later }
def CoreOneCardSaid : Prop := Claim7.holds Tryz.pinned (.plain (OpenSpec.ofChange coreOneSpec)) coreOneCard

/-- THE TIED CARD OF 'curtilagelaw23.ChooseAll'. -/
def chooseAllCard : Claim7 := { stood := { row := chooseAllRow, standIns := [], harness := (true, "0e4415aa11397d6dc95d3c1618463d1bf7b9fdf8d4316c2b1423a28b325e319e"), looks := false }, kinds := [], alts := [], laidByText := true, laidKinds := [.data, .data, .data, .data], laidTests := true, laidLooks := .later }
def ChooseAllCardSaid : Prop := Claim7.holds Tryz.pinned (.plain (OpenSpec.ofChange chooseAllSpec)) chooseAllCard

/-- THE TIED CARD OF 'curtilagelaw18.EngineDraws'. -/
def engineDrawsCard : Claim7 := { stood := { row := engineDrawsRow, standIns := [], harness := (true, "0e4415aa11397d6dc95d3c1618463d1bf7b9fdf8d4316c2b1423a28b325e319e"), looks := false }, kinds := [], alts := [], laidByText := true, laidKinds := [.sentinel, .data, .data, .data], laidTests := true, laidLooks := .later }
def EngineDrawsCardSaid : Prop := Claim7.holds Tryz.pinned (.plain (OpenSpec.ofChange engineDrawsSpec)) engineDrawsCard

/-- THE TIED CARD OF 'curtilagelaw18.EngineBack'. -/
def engineBackCard : Claim7 := { stood := { row := engineBackRow, standIns := [], harness := (true, "0e4415aa11397d6dc95d3c1618463d1bf7b9fdf8d4316c2b1423a28b325e319e"), looks := false }, kinds := [], alts := [], laidByText := true, laidKinds := [.sentinel, .data, .data, .data], laidTests := true, laidLooks := .later }
def EngineBackCardSaid : Prop := Claim7.holds Tryz.pinned (.plain (OpenSpec.ofChange engineBackSpec)) engineBackCard

/-- THE TIED CARD OF 'curtilagelaw18.EngineDoes'. -/
def engineDoesCard : Claim7 := { stood := { row := engineDoesRow, standIns := [], harness := (true, "0e4415aa11397d6dc95d3c1618463d1bf7b9fdf8d4316c2b1423a28b325e319e"), looks := false }, kinds := [], alts := [], laidByText := true, laidKinds := [.sentinel, .data, .data, .data], laidTests := true, laidLooks := .later }
def EngineDoesCardSaid : Prop := Claim7.holds Tryz.pinned (.plain (OpenSpec.ofChange engineDoesSpec)) engineDoesCard

/-- THE SECOND FORM's CARD OF 'curtilagelaw23.ChooseLooks'. -/
def chooseLooksUptoCard : Claim7 := { stood := { row := chooseLooksUptoRow, standIns := [], harness := (true, "0e4415aa11397d6dc95d3c1618463d1bf7b9fdf8d4316c2b1423a28b325e319e"), looks := false }, kinds := [], alts := [], laidByText := true, laidKinds := [.data, .data, .data, .data], laidTests := true, laidLooks := .later }
def ChooseLooksUptoCardSaid : Prop := Claim7.holds Tryz.pinned (.plain (OpenSpec.upto chooseLooksSpec)) chooseLooksUptoCard

/-- THE SECOND FORM's CARD OF 'curtilagelaw20.CoreOne'. -/
def coreOneUptoCard : Claim7 := { stood := { row := coreOneUptoRow, standIns := [], harness := (true, "0e4415aa11397d6dc95d3c1618463d1bf7b9fdf8d4316c2b1423a28b325e319e"), looks := false }, kinds := [], alts := [], laidByText := true, laidKinds := [.data], laidTests := true, laidLooks := .later }
def CoreOneUptoCardSaid : Prop := Claim7.holds Tryz.pinned (.plain (OpenSpec.upto coreOneSpec)) coreOneUptoCard

/-- THE SECOND FORM's CARD OF 'curtilagelaw23.ChooseAll'. -/
def chooseAllUptoCard : Claim7 := { stood := { row := chooseAllUptoRow, standIns := [], harness := (true, "0e4415aa11397d6dc95d3c1618463d1bf7b9fdf8d4316c2b1423a28b325e319e"), looks := false }, kinds := [], alts := [], laidByText := true, laidKinds := [.data, .data, .data, .data], laidTests := true, laidLooks := .later }
def ChooseAllUptoCardSaid : Prop := Claim7.holds Tryz.pinned (.plain (OpenSpec.upto chooseAllSpec)) chooseAllUptoCard

/-- THE SECOND FORM's CARD OF 'curtilagelaw18.EngineDraws'. -/
def engineDrawsUptoCard : Claim7 := { stood := { row := engineDrawsUptoRow, standIns := [], harness := (true, "0e4415aa11397d6dc95d3c1618463d1bf7b9fdf8d4316c2b1423a28b325e319e"), looks := false }, kinds := [], alts := [], laidByText := true, laidKinds := [.sentinel, .data, .data, .data], laidTests := true, laidLooks := .later }
def EngineDrawsUptoCardSaid : Prop := Claim7.holds Tryz.pinned (.plain (OpenSpec.upto engineDrawsSpec)) engineDrawsUptoCard

/-- THE SECOND FORM's CARD OF 'curtilagelaw18.EngineBack'. -/
def engineBackUptoCard : Claim7 := { stood := { row := engineBackUptoRow, standIns := [], harness := (true, "0e4415aa11397d6dc95d3c1618463d1bf7b9fdf8d4316c2b1423a28b325e319e"), looks := false }, kinds := [], alts := [], laidByText := true, laidKinds := [.sentinel, .data, .data, .data], laidTests := true, laidLooks := .later }
def EngineBackUptoCardSaid : Prop := Claim7.holds Tryz.pinned (.plain (OpenSpec.upto engineBackSpec)) engineBackUptoCard

/-- THE SECOND FORM's CARD OF 'curtilagelaw18.EngineDoes'. -/
def engineDoesUptoCard : Claim7 := { stood := { row := engineDoesUptoRow, standIns := [], harness := (true, "0e4415aa11397d6dc95d3c1618463d1bf7b9fdf8d4316c2b1423a28b325e319e"), looks := false }, kinds := [], alts := [], laidByText := true, laidKinds := [.sentinel, .data, .data, .data], laidTests := true, laidLooks := .later }
def EngineDoesUptoCardSaid : Prop := Claim7.holds Tryz.pinned (.plain (OpenSpec.upto engineDoesSpec)) engineDoesUptoCard
end Rows
end Go.Proofs.YtmiaabpnolebhaaGreatDoor
