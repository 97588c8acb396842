/-
  DERIVED. GIVEN WITH THE SEED: THE CARDS: each row of YtcpnpoagpnkblaaGreatDoorRows.lean that lists a variable, with what it lists TIED to the program's text (the seventh form; the later family's looks); each row that meets fmt, with fmt's text TOLD by the authors' own Lean function (tested against real Go, not proved from fmt's source: count such statements apart). THE CARD IS WHAT COUNTS. Prove the row's statement (the work); the ties are given (YtcpnpoagpnkblaaGreatDoorTie.lean); close each card by the builder's one call (the guide's Derived/Test/ToyasCard.lean, 'card_holds'). Laid BY PROGRAM, IN A SANDBOX (cutbox-door.mjs). By AI agents, Wed Nov 11 2026. No macro, syntax, notation, axiom, sorry.
-/
import Derived.Test.YtcpnpoagpnkblaaGreatDoorRows
import GoSem.ClaimSeven
namespace Go.Proofs.YtcpnpoagpnkblaaGreatDoor
namespace Rows

/-- THE TIED CARD OF 'noonbelllaw16.ResultTrade'. -/
def resultTradeCard : Claim7 := { stood := { row := resultTradeRow, standIns := [], harness := (true, "f290c670dffc4d9d2f0552831134c40d09e3cda70df39463b33bd75ce59ffc4c"), looks := true }, kinds := [], alts := [], laidByText := true, laidKinds := [.data, .data, .data, .data, .sentinel, .sentinel, .pinned], laidTests := true, laidLooks := .later }
def ResultTradeCardSaid : Prop := Claim7.holds Tryz.pinned (.plain (OpenSpec.ofChange resultTradeSpec)) resultTradeCard

/-- THE TIED CARD OF 'noonbelllaw16.ResultShapes'. -/
def resultShapesCard : Claim7 := { stood := { row := resultShapesRow, standIns := [], harness := (true, "f290c670dffc4d9d2f0552831134c40d09e3cda70df39463b33bd75ce59ffc4c"), looks := true }, kinds := [], alts := [], laidByText := true, laidKinds := [.data, .data, .data, .data, .sentinel, .sentinel, .pinned], laidTests := true, laidLooks := .later }
def ResultShapesCardSaid : Prop := Claim7.holds Tryz.pinned (.plain (OpenSpec.ofChange resultShapesSpec)) resultShapesCard

/-- THE TIED CARD OF 'noonbelllaw16.ResultChecks'. -/
def resultChecksCard : Claim7 := { stood := { row := resultChecksRow, standIns := [], harness := (true, "f290c670dffc4d9d2f0552831134c40d09e3cda70df39463b33bd75ce59ffc4c"), looks := true }, kinds := [], alts := [], laidByText := true, laidKinds := [.data, .data, .data, .data, .sentinel, .sentinel, .pinned], laidTests := true, laidLooks := .later }
def ResultChecksCardSaid : Prop := Claim7.holds Tryz.pinned (.plain (OpenSpec.ofChange resultChecksSpec)) resultChecksCard

/-- THE TIED CARD OF 'noonbelllaw16.ResultSpoilt'. -/
def resultSpoiltCard : Claim7 := { stood := { row := resultSpoiltRow, standIns := [], harness := (true, "f290c670dffc4d9d2f0552831134c40d09e3cda70df39463b33bd75ce59ffc4c"), looks := true }, kinds := [], alts := [], laidByText := true, laidKinds := [.data, .data, .data, .data, .sentinel, .sentinel, .pinned], laidTests := true, laidLooks := .later }
def ResultSpoiltCardSaid : Prop := Claim7.holds Tryz.pinned (.plain (OpenSpec.ofChange resultSpoiltSpec)) resultSpoiltCard

/-- THE TIED CARD OF 'noonbelllaw20.SettleTrade'. -/
def settleTradeCard : Claim7 := { stood := { row := settleTradeRow, standIns := [], harness := (true, "f290c670dffc4d9d2f0552831134c40d09e3cda70df39463b33bd75ce59ffc4c"), looks := true }, kinds := [], alts := [], laidByText := true, laidKinds := [.data, .data, .data, .data, .sentinel, .sentinel, .pinned], laidTests := true, laidLooks := .later }
def SettleTradeCardSaid : Prop := Claim7.holds Tryz.pinned (.plain (OpenSpec.ofChange settleTradeSpec)) settleTradeCard

/-- THE TIED CARD OF 'noonbelllaw20.SettleNone'. -/
def settleNoneCard : Claim7 := { stood := { row := settleNoneRow, standIns := [], harness := (true, "f290c670dffc4d9d2f0552831134c40d09e3cda70df39463b33bd75ce59ffc4c"), looks := true }, kinds := [], alts := [], laidByText := true, laidKinds := [.data, .data, .data, .data, .sentinel, .sentinel, .pinned], laidTests := true, laidLooks := .later }
def SettleNoneCardSaid : Prop := Claim7.holds Tryz.pinned (.plain (OpenSpec.ofChange settleNoneSpec)) settleNoneCard

/-- THE TIED CARD OF 'noonbelllaw20.SettleOwes'. -/
def settleOwesCard : Claim7 := { stood := { row := settleOwesRow, standIns := [], harness := (true, "f290c670dffc4d9d2f0552831134c40d09e3cda70df39463b33bd75ce59ffc4c"), looks := true }, kinds := [], alts := [], laidByText := true, laidKinds := [.data, .data, .data, .data, .sentinel, .sentinel, .pinned], laidTests := true, laidLooks := .later }
def SettleOwesCardSaid : Prop := Claim7.holds Tryz.pinned (.plain (OpenSpec.ofChange settleOwesSpec)) settleOwesCard

/-- THE TIED CARD OF 'noonbelllaw20.SettlePosts'. -/
def settlePostsCard : Claim7 := { stood := { row := settlePostsRow, standIns := [], harness := (true, "f290c670dffc4d9d2f0552831134c40d09e3cda70df39463b33bd75ce59ffc4c"), looks := true }, kinds := [], alts := [], laidByText := true, laidKinds := [.data, .data, .data, .data, .sentinel, .sentinel, .pinned], laidTests := true, laidLooks := .later }
def SettlePostsCardSaid : Prop := Claim7.holds Tryz.pinned (.plain (OpenSpec.ofChange settlePostsSpec)) settlePostsCard

/-- THE TIED CARD OF 'noonbelllaw20.SettleSums'. -/
def settleSumsCard : Claim7 := { stood := { row := settleSumsRow, standIns := [], harness := (true, "f290c670dffc4d9d2f0552831134c40d09e3cda70df39463b33bd75ce59ffc4c"), looks := true }, kinds := [], alts := [], laidByText := true, laidKinds := [.data, .data, .data, .data, .sentinel, .sentinel, .pinned], laidTests := true, laidLooks := .later }
def SettleSumsCardSaid : Prop := Claim7.holds Tryz.pinned (.plain (OpenSpec.ofChange settleSumsSpec)) settleSumsCard

/-- THE SECOND FORM's CARD OF 'noonbelllaw16.ResultTrade'. -/
def resultTradeUptoCard : Claim7 := { stood := { row := resultTradeUptoRow, standIns := [], harness := (true, "f290c670dffc4d9d2f0552831134c40d09e3cda70df39463b33bd75ce59ffc4c"), looks := true }, kinds := [], alts := [], laidByText := true, laidKinds := [.data, .data, .data, .data, .sentinel, .sentinel, .pinned], laidTests := true, laidLooks := .later }
def ResultTradeUptoCardSaid : Prop := Claim7.holds Tryz.pinned (.plain (OpenSpec.upto resultTradeSpec)) resultTradeUptoCard

/-- THE SECOND FORM's CARD OF 'noonbelllaw16.ResultShapes'. -/
def resultShapesUptoCard : Claim7 := { stood := { row := resultShapesUptoRow, standIns := [], harness := (true, "f290c670dffc4d9d2f0552831134c40d09e3cda70df39463b33bd75ce59ffc4c"), looks := true }, kinds := [], alts := [], laidByText := true, laidKinds := [.data, .data, .data, .data, .sentinel, .sentinel, .pinned], laidTests := true, laidLooks := .later }
def ResultShapesUptoCardSaid : Prop := Claim7.holds Tryz.pinned (.plain (OpenSpec.upto resultShapesSpec)) resultShapesUptoCard

/-- THE SECOND FORM's CARD OF 'noonbelllaw16.ResultChecks'. -/
def resultChecksUptoCard : Claim7 := { stood := { row := resultChecksUptoRow, standIns := [], harness := (true, "f290c670dffc4d9d2f0552831134c40d09e3cda70df39463b33bd75ce59ffc4c"), looks := true }, kinds := [], alts := [], laidByText := true, laidKinds := [.data, .data, .data, .data, .sentinel, .sentinel, .pinned], laidTests := true, laidLooks := .later }
def ResultChecksUptoCardSaid : Prop := Claim7.holds Tryz.pinned (.plain (OpenSpec.upto resultChecksSpec)) resultChecksUptoCard

/-- THE SECOND FORM's CARD OF 'noonbelllaw16.ResultSpoilt'. -/
def resultSpoiltUptoCard : Claim7 := { stood := { row := resultSpoiltUptoRow, standIns := [], harness := (true, "f290c670dffc4d9d2f0552831134c40d09e3cda70df39463b33bd75ce59ffc4c"), looks := true }, kinds := [], alts := [], laidByText := true, laidKinds := [.data, .data, .data, .data, .sentinel, .sentinel, .pinned], laidTests := true, laidLooks := .later }
def ResultSpoiltUptoCardSaid : Prop := Claim7.holds Tryz.pinned (.plain (OpenSpec.upto resultSpoiltSpec)) resultSpoiltUptoCard

/-- THE SECOND FORM's CARD OF 'noonbelllaw20.SettleTrade'. -/
def settleTradeUptoCard : Claim7 := { stood := { row := settleTradeUptoRow, standIns := [], harness := (true, "f290c670dffc4d9d2f0552831134c40d09e3cda70df39463b33bd75ce59ffc4c"), looks := true }, kinds := [], alts := [], laidByText := true, laidKinds := [.data, .data, .data, .data, .sentinel, .sentinel, .pinned], laidTests := true, laidLooks := .later }
def SettleTradeUptoCardSaid : Prop := Claim7.holds Tryz.pinned (.plain (OpenSpec.upto settleTradeSpec)) settleTradeUptoCard

/-- THE SECOND FORM's CARD OF 'noonbelllaw20.SettleNone'. -/
def settleNoneUptoCard : Claim7 := { stood := { row := settleNoneUptoRow, standIns := [], harness := (true, "f290c670dffc4d9d2f0552831134c40d09e3cda70df39463b33bd75ce59ffc4c"), looks := true }, kinds := [], alts := [], laidByText := true, laidKinds := [.data, .data, .data, .data, .sentinel, .sentinel, .pinned], laidTests := true, laidLooks := .later }
def SettleNoneUptoCardSaid : Prop := Claim7.holds Tryz.pinned (.plain (OpenSpec.upto settleNoneSpec)) settleNoneUptoCard

/-- THE SECOND FORM's CARD OF 'noonbelllaw20.SettleOwes'. -/
def settleOwesUptoCard : Claim7 := { stood := { row := settleOwesUptoRow, standIns := [], harness := (true, "f290c670dffc4d9d2f0552831134c40d09e3cda70df39463b33bd75ce59ffc4c"), looks := true }, kinds := [], alts := [], laidByText := true, laidKinds := [.data, .data, .data, .data, .sentinel, .sentinel, .pinned], laidTests := true, laidLooks := .later }
def SettleOwesUptoCardSaid : Prop := Claim7.holds Tryz.pinned (.plain (OpenSpec.upto settleOwesSpec)) settleOwesUptoCard

/-- THE SECOND FORM's CARD OF 'noonbelllaw20.SettlePosts'. -/
def settlePostsUptoCard : Claim7 := { stood := { row := settlePostsUptoRow, standIns := [], harness := (true, "f290c670dffc4d9d2f0552831134c40d09e3cda70df39463b33bd75ce59ffc4c"), looks := true }, kinds := [], alts := [], laidByText := true, laidKinds := [.data, .data, .data, .data, .sentinel, .sentinel, .pinned], laidTests := true, laidLooks := .later }
def SettlePostsUptoCardSaid : Prop := Claim7.holds Tryz.pinned (.plain (OpenSpec.upto settlePostsSpec)) settlePostsUptoCard

/-- THE SECOND FORM's CARD OF 'noonbelllaw20.SettleSums'. -/
def settleSumsUptoCard : Claim7 := { stood := { row := settleSumsUptoRow, standIns := [], harness := (true, "f290c670dffc4d9d2f0552831134c40d09e3cda70df39463b33bd75ce59ffc4c"), looks := true }, kinds := [], alts := [], laidByText := true, laidKinds := [.data, .data, .data, .data, .sentinel, .sentinel, .pinned], laidTests := true, laidLooks := .later }
def SettleSumsUptoCardSaid : Prop := Claim7.holds Tryz.pinned (.plain (OpenSpec.upto settleSumsSpec)) settleSumsUptoCard
end Rows
end Go.Proofs.YtcpnpoagpnkblaaGreatDoor
