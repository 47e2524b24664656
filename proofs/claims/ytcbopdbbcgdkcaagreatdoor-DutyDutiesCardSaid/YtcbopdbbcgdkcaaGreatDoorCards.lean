/-
  DERIVED. GIVEN WITH THE SEED: THE CARDS: each row of YtcbopdbbcgdkcaaGreatDoorRows.lean that lists a variable, with what it lists TIED to the program's text (the seventh form; the later family's looks); each row that meets fmt, with fmt's text TOLD by the authors' own Lean function (tested against real Go, not proved from fmt's source: count such statements apart). THE CARD IS WHAT COUNTS. Prove the row's statement (the work); the ties are given (YtcbopdbbcgdkcaaGreatDoorTie.lean); close each card by the builder's one call (the guide's Derived/Test/ToyasCard.lean, 'card_holds'). Laid BY PROGRAM, IN A SANDBOX (cutbox-door.mjs). By AI agents, Wed Nov 11 2026. No macro, syntax, notation, axiom, sorry.
-/
import Derived.Test.YtcbopdbbcgdkcaaGreatDoorRows
import GoSem.ClaimSeven
namespace Go.Proofs.YtcbopdbbcgdkcaaGreatDoor
namespace Rows

/-- THE TIED CARD OF 'licitlaw39.DutyCases'. -/
def dutyCasesCard : Claim7 := { stood := { row := dutyCasesRow, standIns := [], harness := (true, "63da543f34c0ce6a6d11a1b9f8b50c8666f03b009137d27d5021fc99c15dce85"), looks := true }, kinds := [], alts := [], laidByText := true, laidKinds := [.data, .data, .data, .data, .sentinel, .sentinel, .pinned], laidTests := true, laidLooks := .later }
def DutyCasesCardSaid : Prop := Claim7.holds Tryz.pinned (.plain (OpenSpec.ofChange dutyCasesSpec)) dutyCasesCard

/-- THE TIED CARD OF 'licitlaw39.DutyChoices'. -/
def dutyChoicesCard : Claim7 := { stood := { row := dutyChoicesRow, standIns := [], harness := (true, "63da543f34c0ce6a6d11a1b9f8b50c8666f03b009137d27d5021fc99c15dce85"), looks := true }, kinds := [], alts := [], laidByText := true, laidKinds := [.data, .data, .data, .data, .sentinel, .sentinel, .pinned], laidTests := true, laidLooks := .later }
def DutyChoicesCardSaid : Prop := Claim7.holds Tryz.pinned (.plain (OpenSpec.ofChange dutyChoicesSpec)) dutyChoicesCard

/-- THE TIED CARD OF 'licitlaw39.DutyDuties'. -/
def dutyDutiesCard : Claim7 := { stood := { row := dutyDutiesRow, standIns := [], harness := (true, "63da543f34c0ce6a6d11a1b9f8b50c8666f03b009137d27d5021fc99c15dce85"), looks := true }, kinds := [], alts := [], laidByText := true, laidKinds := [.data, .data, .data, .data, .sentinel, .sentinel, .pinned], laidTests := true, laidLooks := .later }
def DutyDutiesCardSaid : Prop := Claim7.holds Tryz.pinned (.plain (OpenSpec.ofChange dutyDutiesSpec)) dutyDutiesCard

/-- THE TIED CARD OF 'licitlaw39.DutyOrder'. -/
def dutyOrderCard : Claim7 := { stood := { row := dutyOrderRow, standIns := [], harness := (true, "63da543f34c0ce6a6d11a1b9f8b50c8666f03b009137d27d5021fc99c15dce85"), looks := true }, kinds := [], alts := [], laidByText := true, laidKinds := [.data, .data, .data, .data, .sentinel, .sentinel, .pinned], laidTests := true, laidLooks := .later }
def DutyOrderCardSaid : Prop := Claim7.holds Tryz.pinned (.plain (OpenSpec.ofChange dutyOrderSpec)) dutyOrderCard

/-- THE TIED CARD OF 'licitlaw39.DutyParts'. -/
def dutyPartsCard : Claim7 := { stood := { row := dutyPartsRow, standIns := [], harness := (true, "63da543f34c0ce6a6d11a1b9f8b50c8666f03b009137d27d5021fc99c15dce85"), looks := true }, kinds := [], alts := [], laidByText := true, laidKinds := [.data, .data, .data, .data, .sentinel, .sentinel, .pinned], laidTests := true, laidLooks := .later }
def DutyPartsCardSaid : Prop := Claim7.holds Tryz.pinned (.plain (OpenSpec.ofChange dutyPartsSpec)) dutyPartsCard

/-- THE TIED CARD OF 'licitlaw39.DutyClauses'. -/
def dutyClausesCard : Claim7 := { stood := { row := dutyClausesRow, standIns := [], harness := (true, "63da543f34c0ce6a6d11a1b9f8b50c8666f03b009137d27d5021fc99c15dce85"), looks := true }, kinds := [], alts := [], laidByText := true, laidKinds := [.data, .data, .data, .data, .sentinel, .sentinel, .pinned], laidTests := true, laidLooks := .later }
def DutyClausesCardSaid : Prop := Claim7.holds Tryz.pinned (.plain (OpenSpec.ofChange dutyClausesSpec)) dutyClausesCard

/-- THE TIED CARD OF 'licitlaw39.DutyFewer'. -/
def dutyFewerCard : Claim7 := { stood := { row := dutyFewerRow, standIns := [], harness := (true, "63da543f34c0ce6a6d11a1b9f8b50c8666f03b009137d27d5021fc99c15dce85"), looks := true }, kinds := [], alts := [], laidByText := true, laidKinds := [.data, .data, .data, .data, .sentinel, .sentinel, .pinned], laidTests := true, laidLooks := .later }
def DutyFewerCardSaid : Prop := Claim7.holds Tryz.pinned (.plain (OpenSpec.ofChange dutyFewerSpec)) dutyFewerCard

/-- THE TIED CARD OF 'licitlaw39.DutyProduct'. -/
def dutyProductCard : Claim7 := { stood := { row := dutyProductRow, standIns := [], harness := (true, "63da543f34c0ce6a6d11a1b9f8b50c8666f03b009137d27d5021fc99c15dce85"), looks := true }, kinds := [], alts := [], laidByText := true, laidKinds := [.data, .data, .data, .data, .sentinel, .sentinel, .pinned], laidTests := true, laidLooks := .later }
def DutyProductCardSaid : Prop := Claim7.holds Tryz.pinned (.plain (OpenSpec.ofChange dutyProductSpec)) dutyProductCard

/-- THE SECOND FORM's CARD OF 'licitlaw39.DutyCases'. -/
def dutyCasesUptoCard : Claim7 := { stood := { row := dutyCasesUptoRow, standIns := [], harness := (true, "63da543f34c0ce6a6d11a1b9f8b50c8666f03b009137d27d5021fc99c15dce85"), looks := true }, kinds := [], alts := [], laidByText := true, laidKinds := [.data, .data, .data, .data, .sentinel, .sentinel, .pinned], laidTests := true, laidLooks := .later }
def DutyCasesUptoCardSaid : Prop := Claim7.holds Tryz.pinned (.plain (OpenSpec.upto dutyCasesSpec)) dutyCasesUptoCard

/-- THE SECOND FORM's CARD OF 'licitlaw39.DutyChoices'. -/
def dutyChoicesUptoCard : Claim7 := { stood := { row := dutyChoicesUptoRow, standIns := [], harness := (true, "63da543f34c0ce6a6d11a1b9f8b50c8666f03b009137d27d5021fc99c15dce85"), looks := true }, kinds := [], alts := [], laidByText := true, laidKinds := [.data, .data, .data, .data, .sentinel, .sentinel, .pinned], laidTests := true, laidLooks := .later }
def DutyChoicesUptoCardSaid : Prop := Claim7.holds Tryz.pinned (.plain (OpenSpec.upto dutyChoicesSpec)) dutyChoicesUptoCard

/-- THE SECOND FORM's CARD OF 'licitlaw39.DutyDuties'. -/
def dutyDutiesUptoCard : Claim7 := { stood := { row := dutyDutiesUptoRow, standIns := [], harness := (true, "63da543f34c0ce6a6d11a1b9f8b50c8666f03b009137d27d5021fc99c15dce85"), looks := true }, kinds := [], alts := [], laidByText := true, laidKinds := [.data, .data, .data, .data, .sentinel, .sentinel, .pinned], laidTests := true, laidLooks := .later }
def DutyDutiesUptoCardSaid : Prop := Claim7.holds Tryz.pinned (.plain (OpenSpec.upto dutyDutiesSpec)) dutyDutiesUptoCard

/-- THE SECOND FORM's CARD OF 'licitlaw39.DutyOrder'. -/
def dutyOrderUptoCard : Claim7 := { stood := { row := dutyOrderUptoRow, standIns := [], harness := (true, "63da543f34c0ce6a6d11a1b9f8b50c8666f03b009137d27d5021fc99c15dce85"), looks := true }, kinds := [], alts := [], laidByText := true, laidKinds := [.data, .data, .data, .data, .sentinel, .sentinel, .pinned], laidTests := true, laidLooks := .later }
def DutyOrderUptoCardSaid : Prop := Claim7.holds Tryz.pinned (.plain (OpenSpec.upto dutyOrderSpec)) dutyOrderUptoCard

/-- THE SECOND FORM's CARD OF 'licitlaw39.DutyParts'. -/
def dutyPartsUptoCard : Claim7 := { stood := { row := dutyPartsUptoRow, standIns := [], harness := (true, "63da543f34c0ce6a6d11a1b9f8b50c8666f03b009137d27d5021fc99c15dce85"), looks := true }, kinds := [], alts := [], laidByText := true, laidKinds := [.data, .data, .data, .data, .sentinel, .sentinel, .pinned], laidTests := true, laidLooks := .later }
def DutyPartsUptoCardSaid : Prop := Claim7.holds Tryz.pinned (.plain (OpenSpec.upto dutyPartsSpec)) dutyPartsUptoCard

/-- THE SECOND FORM's CARD OF 'licitlaw39.DutyClauses'. -/
def dutyClausesUptoCard : Claim7 := { stood := { row := dutyClausesUptoRow, standIns := [], harness := (true, "63da543f34c0ce6a6d11a1b9f8b50c8666f03b009137d27d5021fc99c15dce85"), looks := true }, kinds := [], alts := [], laidByText := true, laidKinds := [.data, .data, .data, .data, .sentinel, .sentinel, .pinned], laidTests := true, laidLooks := .later }
def DutyClausesUptoCardSaid : Prop := Claim7.holds Tryz.pinned (.plain (OpenSpec.upto dutyClausesSpec)) dutyClausesUptoCard

/-- THE SECOND FORM's CARD OF 'licitlaw39.DutyFewer'. -/
def dutyFewerUptoCard : Claim7 := { stood := { row := dutyFewerUptoRow, standIns := [], harness := (true, "63da543f34c0ce6a6d11a1b9f8b50c8666f03b009137d27d5021fc99c15dce85"), looks := true }, kinds := [], alts := [], laidByText := true, laidKinds := [.data, .data, .data, .data, .sentinel, .sentinel, .pinned], laidTests := true, laidLooks := .later }
def DutyFewerUptoCardSaid : Prop := Claim7.holds Tryz.pinned (.plain (OpenSpec.upto dutyFewerSpec)) dutyFewerUptoCard

/-- THE SECOND FORM's CARD OF 'licitlaw39.DutyProduct'. -/
def dutyProductUptoCard : Claim7 := { stood := { row := dutyProductUptoRow, standIns := [], harness := (true, "63da543f34c0ce6a6d11a1b9f8b50c8666f03b009137d27d5021fc99c15dce85"), looks := true }, kinds := [], alts := [], laidByText := true, laidKinds := [.data, .data, .data, .data, .sentinel, .sentinel, .pinned], laidTests := true, laidLooks := .later }
def DutyProductUptoCardSaid : Prop := Claim7.holds Tryz.pinned (.plain (OpenSpec.upto dutyProductSpec)) dutyProductUptoCard
end Rows
end Go.Proofs.YtcbopdbbcgdkcaaGreatDoor
