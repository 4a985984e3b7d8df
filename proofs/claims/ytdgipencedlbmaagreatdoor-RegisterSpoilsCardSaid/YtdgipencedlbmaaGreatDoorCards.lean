/-
  DERIVED. GIVEN WITH THE SEED: THE CARDS: each row of YtdgipencedlbmaaGreatDoorRows.lean that lists a variable, with what it lists TIED to the program's text (the seventh form; the later family's looks); each row that meets fmt, with fmt's text TOLD by the authors' own Lean function (tested against real Go, not proved from fmt's source: count such statements apart). THE CARD IS WHAT COUNTS. Prove the row's statement (the work); the ties are given (YtdgipencedlbmaaGreatDoorTie.lean); close each card by the builder's one call (the guide's Derived/Test/ToyasCard.lean, 'card_holds'). Laid BY PROGRAM, IN A SANDBOX (cutbox-door.mjs). By AI agents, Wed Nov 11 2026. No macro, syntax, notation, axiom, sorry.
-/
import Derived.Test.YtdgipencedlbmaaGreatDoorRows
import GoSem.ClaimSeven
namespace Go.Proofs.YtdgipencedlbmaaGreatDoor
namespace Rows

/-- THE TIED CARD OF 'metrolablaw56.RegisterDoes'. -/
def registerDoesCard : Claim7 := { stood := { row := registerDoesRow, standIns := [], harness := (true, "2fe8104dd77abbbc33e8c302f0b5bb30a732a8e2c1f25cb8337374dfe4ccef1c"), looks := true }, kinds := [], alts := [], laidByText := true, laidKinds := [.data, .data, .data, .data, .sentinel, .sentinel, .pinned], laidTests := true, laidLooks := .later }
def RegisterDoesCardSaid : Prop := Claim7.holds Tryz.pinned (.plain (OpenSpec.ofChange registerDoesSpec)) registerDoesCard

/-- THE TIED CARD OF 'metrolablaw56.RegisterRuns'. -/
def registerRunsCard : Claim7 := { stood := { row := registerRunsRow, standIns := [], harness := (true, "2fe8104dd77abbbc33e8c302f0b5bb30a732a8e2c1f25cb8337374dfe4ccef1c"), looks := true }, kinds := [], alts := [], laidByText := true, laidKinds := [.data, .data, .data, .data, .sentinel, .sentinel, .pinned], laidTests := true, laidLooks := .later }
def RegisterRunsCardSaid : Prop := Claim7.holds Tryz.pinned (.plain (OpenSpec.ofChange registerRunsSpec)) registerRunsCard

/-- THE TIED CARD OF 'metrolablaw56.RegisterSwaps'. -/
def registerSwapsCard : Claim7 := { stood := { row := registerSwapsRow, standIns := [], harness := (true, "2fe8104dd77abbbc33e8c302f0b5bb30a732a8e2c1f25cb8337374dfe4ccef1c"), looks := true }, kinds := [], alts := [], laidByText := true, laidKinds := [.data, .data, .data, .data, .sentinel, .sentinel, .pinned], laidTests := true, laidLooks := .later }
def RegisterSwapsCardSaid : Prop := Claim7.holds Tryz.pinned (.plain (OpenSpec.ofChange registerSwapsSpec)) registerSwapsCard

/-- THE TIED CARD OF 'metrolablaw56.RegisterKeeps'. -/
def registerKeepsCard : Claim7 := { stood := { row := registerKeepsRow, standIns := [], harness := (true, "2fe8104dd77abbbc33e8c302f0b5bb30a732a8e2c1f25cb8337374dfe4ccef1c"), looks := true }, kinds := [], alts := [], laidByText := true, laidKinds := [.data, .data, .data, .data, .sentinel, .sentinel, .pinned], laidTests := true, laidLooks := .later }
def RegisterKeepsCardSaid : Prop := Claim7.holds Tryz.pinned (.plain (OpenSpec.ofChange registerKeepsSpec)) registerKeepsCard

/-- THE TIED CARD OF 'metrolablaw56.RegisterJournals'. -/
def registerJournalsCard : Claim7 := { stood := { row := registerJournalsRow, standIns := [], harness := (true, "2fe8104dd77abbbc33e8c302f0b5bb30a732a8e2c1f25cb8337374dfe4ccef1c"), looks := true }, kinds := [], alts := [], laidByText := true, laidKinds := [.data, .data, .data, .data, .sentinel, .sentinel, .pinned], laidTests := true, laidLooks := .later }
def RegisterJournalsCardSaid : Prop := Claim7.holds Tryz.pinned (.plain (OpenSpec.ofChange registerJournalsSpec)) registerJournalsCard

/-- THE TIED CARD OF 'metrolablaw56.RegisterTexts'. -/
def registerTextsCard : Claim7 := { stood := { row := registerTextsRow, standIns := [], harness := (true, "2fe8104dd77abbbc33e8c302f0b5bb30a732a8e2c1f25cb8337374dfe4ccef1c"), looks := true }, kinds := [], alts := [], laidByText := true, laidKinds := [.data, .data, .data, .data, .sentinel, .sentinel, .pinned], laidTests := true, laidLooks := .later }
def RegisterTextsCardSaid : Prop := Claim7.holds Tryz.pinned (.plain (OpenSpec.ofChange registerTextsSpec)) registerTextsCard

/-- THE TIED CARD OF 'metrolablaw56.RegisterNames'. -/
def registerNamesCard : Claim7 := { stood := { row := registerNamesRow, standIns := [], harness := (true, "2fe8104dd77abbbc33e8c302f0b5bb30a732a8e2c1f25cb8337374dfe4ccef1c"), looks := true }, kinds := [], alts := [], laidByText := true, laidKinds := [.data, .data, .data, .data, .sentinel, .sentinel, .pinned], laidTests := true, laidLooks := .later }
def RegisterNamesCardSaid : Prop := Claim7.holds Tryz.pinned (.plain (OpenSpec.ofChange registerNamesSpec)) registerNamesCard

/-- THE TIED CARD OF 'metrolablaw56.RegisterLoads'. -/
def registerLoadsCard : Claim7 := { stood := { row := registerLoadsRow, standIns := [], harness := (true, "2fe8104dd77abbbc33e8c302f0b5bb30a732a8e2c1f25cb8337374dfe4ccef1c"), looks := true }, kinds := [], alts := [], laidByText := true, laidKinds := [.data, .data, .data, .data, .sentinel, .sentinel, .pinned], laidTests := true, laidLooks := .later }
def RegisterLoadsCardSaid : Prop := Claim7.holds Tryz.pinned (.plain (OpenSpec.ofChange registerLoadsSpec)) registerLoadsCard

/-- THE TIED CARD OF 'metrolablaw56.RegisterTears'. -/
def registerTearsCard : Claim7 := { stood := { row := registerTearsRow, standIns := [], harness := (true, "2fe8104dd77abbbc33e8c302f0b5bb30a732a8e2c1f25cb8337374dfe4ccef1c"), looks := true }, kinds := [], alts := [], laidByText := true, laidKinds := [.data, .data, .data, .data, .sentinel, .sentinel, .pinned], laidTests := true, laidLooks := .later }
def RegisterTearsCardSaid : Prop := Claim7.holds Tryz.pinned (.plain (OpenSpec.ofChange registerTearsSpec)) registerTearsCard

/-- THE TIED CARD OF 'metrolablaw56.RegisterSpoils'. -/
def registerSpoilsCard : Claim7 := { stood := { row := registerSpoilsRow, standIns := [], harness := (true, "2fe8104dd77abbbc33e8c302f0b5bb30a732a8e2c1f25cb8337374dfe4ccef1c"), looks := true }, kinds := [], alts := [], laidByText := true, laidKinds := [.data, .data, .data, .data, .sentinel, .sentinel, .pinned], laidTests := true, laidLooks := .later }
def RegisterSpoilsCardSaid : Prop := Claim7.holds Tryz.pinned (.plain (OpenSpec.ofChange registerSpoilsSpec)) registerSpoilsCard

/-- THE SECOND FORM's CARD OF 'metrolablaw56.RegisterDoes'. -/
def registerDoesUptoCard : Claim7 := { stood := { row := registerDoesUptoRow, standIns := [], harness := (true, "2fe8104dd77abbbc33e8c302f0b5bb30a732a8e2c1f25cb8337374dfe4ccef1c"), looks := true }, kinds := [], alts := [], laidByText := true, laidKinds := [.data, .data, .data, .data, .sentinel, .sentinel, .pinned], laidTests := true, laidLooks := .later }
def RegisterDoesUptoCardSaid : Prop := Claim7.holds Tryz.pinned (.plain (OpenSpec.upto registerDoesSpec)) registerDoesUptoCard

/-- THE SECOND FORM's CARD OF 'metrolablaw56.RegisterRuns'. -/
def registerRunsUptoCard : Claim7 := { stood := { row := registerRunsUptoRow, standIns := [], harness := (true, "2fe8104dd77abbbc33e8c302f0b5bb30a732a8e2c1f25cb8337374dfe4ccef1c"), looks := true }, kinds := [], alts := [], laidByText := true, laidKinds := [.data, .data, .data, .data, .sentinel, .sentinel, .pinned], laidTests := true, laidLooks := .later }
def RegisterRunsUptoCardSaid : Prop := Claim7.holds Tryz.pinned (.plain (OpenSpec.upto registerRunsSpec)) registerRunsUptoCard

/-- THE SECOND FORM's CARD OF 'metrolablaw56.RegisterSwaps'. -/
def registerSwapsUptoCard : Claim7 := { stood := { row := registerSwapsUptoRow, standIns := [], harness := (true, "2fe8104dd77abbbc33e8c302f0b5bb30a732a8e2c1f25cb8337374dfe4ccef1c"), looks := true }, kinds := [], alts := [], laidByText := true, laidKinds := [.data, .data, .data, .data, .sentinel, .sentinel, .pinned], laidTests := true, laidLooks := .later }
def RegisterSwapsUptoCardSaid : Prop := Claim7.holds Tryz.pinned (.plain (OpenSpec.upto registerSwapsSpec)) registerSwapsUptoCard

/-- THE SECOND FORM's CARD OF 'metrolablaw56.RegisterKeeps'. -/
def registerKeepsUptoCard : Claim7 := { stood := { row := registerKeepsUptoRow, standIns := [], harness := (true, "2fe8104dd77abbbc33e8c302f0b5bb30a732a8e2c1f25cb8337374dfe4ccef1c"), looks := true }, kinds := [], alts := [], laidByText := true, laidKinds := [.data, .data, .data, .data, .sentinel, .sentinel, .pinned], laidTests := true, laidLooks := .later }
def RegisterKeepsUptoCardSaid : Prop := Claim7.holds Tryz.pinned (.plain (OpenSpec.upto registerKeepsSpec)) registerKeepsUptoCard

/-- THE SECOND FORM's CARD OF 'metrolablaw56.RegisterJournals'. -/
def registerJournalsUptoCard : Claim7 := { stood := { row := registerJournalsUptoRow, standIns := [], harness := (true, "2fe8104dd77abbbc33e8c302f0b5bb30a732a8e2c1f25cb8337374dfe4ccef1c"), looks := true }, kinds := [], alts := [], laidByText := true, laidKinds := [.data, .data, .data, .data, .sentinel, .sentinel, .pinned], laidTests := true, laidLooks := .later }
def RegisterJournalsUptoCardSaid : Prop := Claim7.holds Tryz.pinned (.plain (OpenSpec.upto registerJournalsSpec)) registerJournalsUptoCard

/-- THE SECOND FORM's CARD OF 'metrolablaw56.RegisterTexts'. -/
def registerTextsUptoCard : Claim7 := { stood := { row := registerTextsUptoRow, standIns := [], harness := (true, "2fe8104dd77abbbc33e8c302f0b5bb30a732a8e2c1f25cb8337374dfe4ccef1c"), looks := true }, kinds := [], alts := [], laidByText := true, laidKinds := [.data, .data, .data, .data, .sentinel, .sentinel, .pinned], laidTests := true, laidLooks := .later }
def RegisterTextsUptoCardSaid : Prop := Claim7.holds Tryz.pinned (.plain (OpenSpec.upto registerTextsSpec)) registerTextsUptoCard

/-- THE SECOND FORM's CARD OF 'metrolablaw56.RegisterNames'. -/
def registerNamesUptoCard : Claim7 := { stood := { row := registerNamesUptoRow, standIns := [], harness := (true, "2fe8104dd77abbbc33e8c302f0b5bb30a732a8e2c1f25cb8337374dfe4ccef1c"), looks := true }, kinds := [], alts := [], laidByText := true, laidKinds := [.data, .data, .data, .data, .sentinel, .sentinel, .pinned], laidTests := true, laidLooks := .later }
def RegisterNamesUptoCardSaid : Prop := Claim7.holds Tryz.pinned (.plain (OpenSpec.upto registerNamesSpec)) registerNamesUptoCard

/-- THE SECOND FORM's CARD OF 'metrolablaw56.RegisterLoads'. -/
def registerLoadsUptoCard : Claim7 := { stood := { row := registerLoadsUptoRow, standIns := [], harness := (true, "2fe8104dd77abbbc33e8c302f0b5bb30a732a8e2c1f25cb8337374dfe4ccef1c"), looks := true }, kinds := [], alts := [], laidByText := true, laidKinds := [.data, .data, .data, .data, .sentinel, .sentinel, .pinned], laidTests := true, laidLooks := .later }
def RegisterLoadsUptoCardSaid : Prop := Claim7.holds Tryz.pinned (.plain (OpenSpec.upto registerLoadsSpec)) registerLoadsUptoCard

/-- THE SECOND FORM's CARD OF 'metrolablaw56.RegisterTears'. -/
def registerTearsUptoCard : Claim7 := { stood := { row := registerTearsUptoRow, standIns := [], harness := (true, "2fe8104dd77abbbc33e8c302f0b5bb30a732a8e2c1f25cb8337374dfe4ccef1c"), looks := true }, kinds := [], alts := [], laidByText := true, laidKinds := [.data, .data, .data, .data, .sentinel, .sentinel, .pinned], laidTests := true, laidLooks := .later }
def RegisterTearsUptoCardSaid : Prop := Claim7.holds Tryz.pinned (.plain (OpenSpec.upto registerTearsSpec)) registerTearsUptoCard

/-- THE SECOND FORM's CARD OF 'metrolablaw56.RegisterSpoils'. -/
def registerSpoilsUptoCard : Claim7 := { stood := { row := registerSpoilsUptoRow, standIns := [], harness := (true, "2fe8104dd77abbbc33e8c302f0b5bb30a732a8e2c1f25cb8337374dfe4ccef1c"), looks := true }, kinds := [], alts := [], laidByText := true, laidKinds := [.data, .data, .data, .data, .sentinel, .sentinel, .pinned], laidTests := true, laidLooks := .later }
def RegisterSpoilsUptoCardSaid : Prop := Claim7.holds Tryz.pinned (.plain (OpenSpec.upto registerSpoilsSpec)) registerSpoilsUptoCard
end Rows
end Go.Proofs.YtdgipencedlbmaaGreatDoor
