/-
  DERIVED. GIVEN WITH THE SEED: THE CARDS: each row of YtebaohjeodeaoaaGreatDoorRows.lean that lists a variable, with what it lists TIED to the program's text (the seventh form; the later family's looks); each row that meets fmt, with fmt's text TOLD by the authors' own Lean function (tested against real Go, not proved from fmt's source: count such statements apart). THE CARD IS WHAT COUNTS. Prove the row's statement (the work); the ties are given (YtebaohjeodeaoaaGreatDoorTie.lean); close each card by the builder's one call (the guide's Derived/Test/ToyasCard.lean, 'card_holds'). Laid BY PROGRAM, IN A SANDBOX (cutbox-door.mjs). By AI agents, Wed Nov 11 2026. No macro, syntax, notation, axiom, sorry.
-/
import Derived.Test.YtebaohjeodeaoaaGreatDoorRows
import GoSem.ClaimSeven
namespace Go.Proofs.YtebaohjeodeaoaaGreatDoor
namespace Rows

/-- THE TIED CARD OF 'noonbelllaw16.ResultSurplus'. -/
def resultSurplusCard : Claim7 := { stood := { row := resultSurplusRow, standIns := [], harness := (true, "4fc992e188fc5764929d763f7f3607efd65b6b0b8cf58d7bd749b1d95916e1e9"), looks := true }, kinds := [], alts := [], laidByText := true, laidKinds := [.data, .data, .data, .data, .sentinel, .sentinel, .pinned], laidTests := true, laidLooks := .later }
def ResultSurplusCardSaid : Prop := Claim7.holds Tryz.pinned (.plain (OpenSpec.ofChange resultSurplusSpec)) resultSurplusCard

/-- THE TIED CARD OF 'noonbelllaw20.SettleRents'. -/
def settleRentsCard : Claim7 := { stood := { row := settleRentsRow, standIns := [], harness := (true, "4fc992e188fc5764929d763f7f3607efd65b6b0b8cf58d7bd749b1d95916e1e9"), looks := true }, kinds := [], alts := [], laidByText := true, laidKinds := [.data, .data, .data, .data, .sentinel, .sentinel, .pinned], laidTests := true, laidLooks := .later }
def SettleRentsCardSaid : Prop := Claim7.holds Tryz.pinned (.plain (OpenSpec.ofChange settleRentsSpec)) settleRentsCard

/-- THE TIED CARD OF 'noonbelllaw17.PriceBounds'. -/
def priceBoundsCard : Claim7 := { stood := { row := priceBoundsRow, standIns := [], harness := (true, "4fc992e188fc5764929d763f7f3607efd65b6b0b8cf58d7bd749b1d95916e1e9"), looks := true }, kinds := [], alts := [], laidByText := true, laidKinds := [.data, .data, .data, .data, .sentinel, .sentinel, .pinned], laidTests := true, laidLooks := .later }
def PriceBoundsCardSaid : Prop := Claim7.holds Tryz.pinned (.plain (OpenSpec.ofChange priceBoundsSpec)) priceBoundsCard

/-- THE TIED CARD OF 'noonbelllaw19.LedgerNames'. -/
def ledgerNamesCard : Claim7 := { stood := { row := ledgerNamesRow, standIns := [], harness := (true, "4fc992e188fc5764929d763f7f3607efd65b6b0b8cf58d7bd749b1d95916e1e9"), looks := true }, kinds := [], alts := [], laidByText := true, laidKinds := [.data, .data, .data, .data, .sentinel, .sentinel, .pinned], laidTests := true, laidLooks := .later }
def LedgerNamesCardSaid : Prop := Claim7.holds Tryz.pinned (.plain (OpenSpec.ofChange ledgerNamesSpec)) ledgerNamesCard

/-- THE TIED CARD OF 'noonbelllaw19.LedgerPairs'. -/
def ledgerPairsCard : Claim7 := { stood := { row := ledgerPairsRow, standIns := [], harness := (true, "4fc992e188fc5764929d763f7f3607efd65b6b0b8cf58d7bd749b1d95916e1e9"), looks := true }, kinds := [], alts := [], laidByText := true, laidKinds := [.data, .data, .data, .data, .sentinel, .sentinel, .pinned], laidTests := true, laidLooks := .later }
def LedgerPairsCardSaid : Prop := Claim7.holds Tryz.pinned (.plain (OpenSpec.ofChange ledgerPairsSpec)) ledgerPairsCard

/-- THE TIED CARD OF 'noonbelllaw19.LedgerSums'. -/
def ledgerSumsCard : Claim7 := { stood := { row := ledgerSumsRow, standIns := [], harness := (true, "4fc992e188fc5764929d763f7f3607efd65b6b0b8cf58d7bd749b1d95916e1e9"), looks := true }, kinds := [], alts := [], laidByText := true, laidKinds := [.data, .data, .data, .data, .sentinel, .sentinel, .pinned], laidTests := true, laidLooks := .later }
def LedgerSumsCardSaid : Prop := Claim7.holds Tryz.pinned (.plain (OpenSpec.ofChange ledgerSumsSpec)) ledgerSumsCard

/-- THE TIED CARD OF 'noonbelllaw19.LedgerOrder'. -/
def ledgerOrderCard : Claim7 := { stood := { row := ledgerOrderRow, standIns := [], harness := (true, "4fc992e188fc5764929d763f7f3607efd65b6b0b8cf58d7bd749b1d95916e1e9"), looks := true }, kinds := [], alts := [], laidByText := true, laidKinds := [.data, .data, .data, .data, .sentinel, .sentinel, .pinned], laidTests := true, laidLooks := .later }
def LedgerOrderCardSaid : Prop := Claim7.holds Tryz.pinned (.plain (OpenSpec.ofChange ledgerOrderSpec)) ledgerOrderCard

/-- THE TIED CARD OF 'noonbelllaw19.LedgerScript'. -/
def ledgerScriptCard : Claim7 := { stood := { row := ledgerScriptRow, standIns := [], harness := (true, "4fc992e188fc5764929d763f7f3607efd65b6b0b8cf58d7bd749b1d95916e1e9"), looks := true }, kinds := [], alts := [], laidByText := true, laidKinds := [.data, .data, .data, .data, .sentinel, .sentinel, .pinned], laidTests := true, laidLooks := .later }
def LedgerScriptCardSaid : Prop := Claim7.holds Tryz.pinned (.plain (OpenSpec.ofChange ledgerScriptSpec)) ledgerScriptCard

/-- THE SECOND FORM's CARD OF 'noonbelllaw16.ResultSurplus'. -/
def resultSurplusUptoCard : Claim7 := { stood := { row := resultSurplusUptoRow, standIns := [], harness := (true, "4fc992e188fc5764929d763f7f3607efd65b6b0b8cf58d7bd749b1d95916e1e9"), looks := true }, kinds := [], alts := [], laidByText := true, laidKinds := [.data, .data, .data, .data, .sentinel, .sentinel, .pinned], laidTests := true, laidLooks := .later }
def ResultSurplusUptoCardSaid : Prop := Claim7.holds Tryz.pinned (.plain (OpenSpec.upto resultSurplusSpec)) resultSurplusUptoCard

/-- THE SECOND FORM's CARD OF 'noonbelllaw20.SettleRents'. -/
def settleRentsUptoCard : Claim7 := { stood := { row := settleRentsUptoRow, standIns := [], harness := (true, "4fc992e188fc5764929d763f7f3607efd65b6b0b8cf58d7bd749b1d95916e1e9"), looks := true }, kinds := [], alts := [], laidByText := true, laidKinds := [.data, .data, .data, .data, .sentinel, .sentinel, .pinned], laidTests := true, laidLooks := .later }
def SettleRentsUptoCardSaid : Prop := Claim7.holds Tryz.pinned (.plain (OpenSpec.upto settleRentsSpec)) settleRentsUptoCard

/-- THE SECOND FORM's CARD OF 'noonbelllaw17.PriceBounds'. -/
def priceBoundsUptoCard : Claim7 := { stood := { row := priceBoundsUptoRow, standIns := [], harness := (true, "4fc992e188fc5764929d763f7f3607efd65b6b0b8cf58d7bd749b1d95916e1e9"), looks := true }, kinds := [], alts := [], laidByText := true, laidKinds := [.data, .data, .data, .data, .sentinel, .sentinel, .pinned], laidTests := true, laidLooks := .later }
def PriceBoundsUptoCardSaid : Prop := Claim7.holds Tryz.pinned (.plain (OpenSpec.upto priceBoundsSpec)) priceBoundsUptoCard

/-- THE SECOND FORM's CARD OF 'noonbelllaw19.LedgerNames'. -/
def ledgerNamesUptoCard : Claim7 := { stood := { row := ledgerNamesUptoRow, standIns := [], harness := (true, "4fc992e188fc5764929d763f7f3607efd65b6b0b8cf58d7bd749b1d95916e1e9"), looks := true }, kinds := [], alts := [], laidByText := true, laidKinds := [.data, .data, .data, .data, .sentinel, .sentinel, .pinned], laidTests := true, laidLooks := .later }
def LedgerNamesUptoCardSaid : Prop := Claim7.holds Tryz.pinned (.plain (OpenSpec.upto ledgerNamesSpec)) ledgerNamesUptoCard

/-- THE SECOND FORM's CARD OF 'noonbelllaw19.LedgerPairs'. -/
def ledgerPairsUptoCard : Claim7 := { stood := { row := ledgerPairsUptoRow, standIns := [], harness := (true, "4fc992e188fc5764929d763f7f3607efd65b6b0b8cf58d7bd749b1d95916e1e9"), looks := true }, kinds := [], alts := [], laidByText := true, laidKinds := [.data, .data, .data, .data, .sentinel, .sentinel, .pinned], laidTests := true, laidLooks := .later }
def LedgerPairsUptoCardSaid : Prop := Claim7.holds Tryz.pinned (.plain (OpenSpec.upto ledgerPairsSpec)) ledgerPairsUptoCard

/-- THE SECOND FORM's CARD OF 'noonbelllaw19.LedgerSums'. -/
def ledgerSumsUptoCard : Claim7 := { stood := { row := ledgerSumsUptoRow, standIns := [], harness := (true, "4fc992e188fc5764929d763f7f3607efd65b6b0b8cf58d7bd749b1d95916e1e9"), looks := true }, kinds := [], alts := [], laidByText := true, laidKinds := [.data, .data, .data, .data, .sentinel, .sentinel, .pinned], laidTests := true, laidLooks := .later }
def LedgerSumsUptoCardSaid : Prop := Claim7.holds Tryz.pinned (.plain (OpenSpec.upto ledgerSumsSpec)) ledgerSumsUptoCard

/-- THE SECOND FORM's CARD OF 'noonbelllaw19.LedgerOrder'. -/
def ledgerOrderUptoCard : Claim7 := { stood := { row := ledgerOrderUptoRow, standIns := [], harness := (true, "4fc992e188fc5764929d763f7f3607efd65b6b0b8cf58d7bd749b1d95916e1e9"), looks := true }, kinds := [], alts := [], laidByText := true, laidKinds := [.data, .data, .data, .data, .sentinel, .sentinel, .pinned], laidTests := true, laidLooks := .later }
def LedgerOrderUptoCardSaid : Prop := Claim7.holds Tryz.pinned (.plain (OpenSpec.upto ledgerOrderSpec)) ledgerOrderUptoCard

/-- THE SECOND FORM's CARD OF 'noonbelllaw19.LedgerScript'. -/
def ledgerScriptUptoCard : Claim7 := { stood := { row := ledgerScriptUptoRow, standIns := [], harness := (true, "4fc992e188fc5764929d763f7f3607efd65b6b0b8cf58d7bd749b1d95916e1e9"), looks := true }, kinds := [], alts := [], laidByText := true, laidKinds := [.data, .data, .data, .data, .sentinel, .sentinel, .pinned], laidTests := true, laidLooks := .later }
def LedgerScriptUptoCardSaid : Prop := Claim7.holds Tryz.pinned (.plain (OpenSpec.upto ledgerScriptSpec)) ledgerScriptUptoCard
end Rows
end Go.Proofs.YtebaohjeodeaoaaGreatDoor
