/-
  DERIVED. GIVEN WITH THE SEED: THE CARDS: each row of YtaaobpicaaeiiaaGreatDoorRows.lean that lists a variable, with what it lists TIED to the program's text (the seventh form; the later family's looks); each row that meets fmt, with fmt's text TOLD by the authors' own Lean function (tested against real Go, not proved from fmt's source: count such statements apart). THE CARD IS WHAT COUNTS. Prove the row's statement (the work); the ties are given (YtaaobpicaaeiiaaGreatDoorTie.lean); close each card by the builder's one call (the guide's Derived/Test/ToyasCard.lean, 'card_holds'). Laid BY PROGRAM, IN A SANDBOX (cutbox-door.mjs). By AI agents, Wed Nov 11 2026. No macro, syntax, notation, axiom, sorry.
-/
import Derived.Test.YtaaobpicaaeiiaaGreatDoorRows
import GoSem.ClaimSeven
namespace Go.Proofs.YtaaobpicaaeiiaaGreatDoor
namespace Rows

/-- THE TIED CARD OF 'licitlaw33.AlternativeMeans'. -/
def alternativeMeansCard : Claim7 := { stood := { row := alternativeMeansRow, standIns := [], harness := (true, "05528ecb1f82114f6dca13a3e91ca0ce9d9dda0cc341f755f2084d06d7621770"), looks := true }, kinds := [], alts := [], laidByText := true, laidKinds := [.data, .data, .data, .data, .sentinel, .sentinel, .pinned], laidTests := true, laidLooks := .later }
def AlternativeMeansCardSaid : Prop := Claim7.holds Tryz.pinned (.plain (OpenSpec.ofChange alternativeMeansSpec)) alternativeMeansCard

/-- THE TIED CARD OF 'licitlaw33.AlternativeLists'. -/
def alternativeListsCard : Claim7 := { stood := { row := alternativeListsRow, standIns := [], harness := (true, "05528ecb1f82114f6dca13a3e91ca0ce9d9dda0cc341f755f2084d06d7621770"), looks := true }, kinds := [], alts := [], laidByText := true, laidKinds := [.data, .data, .data, .data, .sentinel, .sentinel, .pinned], laidTests := true, laidLooks := .later }
def AlternativeListsCardSaid : Prop := Claim7.holds Tryz.pinned (.plain (OpenSpec.ofChange alternativeListsSpec)) alternativeListsCard

/-- THE TIED CARD OF 'licitlaw33.AlternativeMinimal'. -/
def alternativeMinimalCard : Claim7 := { stood := { row := alternativeMinimalRow, standIns := [], harness := (true, "05528ecb1f82114f6dca13a3e91ca0ce9d9dda0cc341f755f2084d06d7621770"), looks := true }, kinds := [], alts := [], laidByText := true, laidKinds := [.data, .data, .data, .data, .sentinel, .sentinel, .pinned], laidTests := true, laidLooks := .later }
def AlternativeMinimalCardSaid : Prop := Claim7.holds Tryz.pinned (.plain (OpenSpec.ofChange alternativeMinimalSpec)) alternativeMinimalCard

/-- THE TIED CARD OF 'licitlaw33.AlternativeReturns'. -/
def alternativeReturnsCard : Claim7 := { stood := { row := alternativeReturnsRow, standIns := [], harness := (true, "05528ecb1f82114f6dca13a3e91ca0ce9d9dda0cc341f755f2084d06d7621770"), looks := true }, kinds := [], alts := [], laidByText := true, laidKinds := [.data, .data, .data, .data, .sentinel, .sentinel, .pinned], laidTests := true, laidLooks := .later }
def AlternativeReturnsCardSaid : Prop := Claim7.holds Tryz.pinned (.plain (OpenSpec.ofChange alternativeReturnsSpec)) alternativeReturnsCard

/-- THE TIED CARD OF 'licitlaw33.AlternativeParts'. -/
def alternativePartsCard : Claim7 := { stood := { row := alternativePartsRow, standIns := [], harness := (true, "05528ecb1f82114f6dca13a3e91ca0ce9d9dda0cc341f755f2084d06d7621770"), looks := true }, kinds := [], alts := [], laidByText := true, laidKinds := [.data, .data, .data, .data, .sentinel, .sentinel, .pinned], laidTests := true, laidLooks := .later }
def AlternativePartsCardSaid : Prop := Claim7.holds Tryz.pinned (.plain (OpenSpec.ofChange alternativePartsSpec)) alternativePartsCard

/-- THE TIED CARD OF 'licitlaw33.AlternativeCombines'. -/
def alternativeCombinesCard : Claim7 := { stood := { row := alternativeCombinesRow, standIns := [], harness := (true, "05528ecb1f82114f6dca13a3e91ca0ce9d9dda0cc341f755f2084d06d7621770"), looks := true }, kinds := [], alts := [], laidByText := true, laidKinds := [.data, .data, .data, .data, .sentinel, .sentinel, .pinned], laidTests := true, laidLooks := .later }
def AlternativeCombinesCardSaid : Prop := Claim7.holds Tryz.pinned (.plain (OpenSpec.ofChange alternativeCombinesSpec)) alternativeCombinesCard

/-- THE TIED CARD OF 'licitlaw33.AlternativeLaws'. -/
def alternativeLawsCard : Claim7 := { stood := { row := alternativeLawsRow, standIns := [], harness := (true, "05528ecb1f82114f6dca13a3e91ca0ce9d9dda0cc341f755f2084d06d7621770"), looks := true }, kinds := [], alts := [], laidByText := true, laidKinds := [.data, .data, .data, .data, .sentinel, .sentinel, .pinned], laidTests := true, laidLooks := .later }
def AlternativeLawsCardSaid : Prop := Claim7.holds Tryz.pinned (.plain (OpenSpec.ofChange alternativeLawsSpec)) alternativeLawsCard

/-- THE TIED CARD OF 'licitlaw33.AlternativeDecides'. -/
def alternativeDecidesCard : Claim7 := { stood := { row := alternativeDecidesRow, standIns := [], harness := (true, "05528ecb1f82114f6dca13a3e91ca0ce9d9dda0cc341f755f2084d06d7621770"), looks := true }, kinds := [], alts := [], laidByText := true, laidKinds := [.data, .data, .data, .data, .sentinel, .sentinel, .pinned], laidTests := true, laidLooks := .later }
def AlternativeDecidesCardSaid : Prop := Claim7.holds Tryz.pinned (.plain (OpenSpec.ofChange alternativeDecidesSpec)) alternativeDecidesCard

/-- THE SECOND FORM's CARD OF 'licitlaw33.AlternativeMeans'. -/
def alternativeMeansUptoCard : Claim7 := { stood := { row := alternativeMeansUptoRow, standIns := [], harness := (true, "05528ecb1f82114f6dca13a3e91ca0ce9d9dda0cc341f755f2084d06d7621770"), looks := true }, kinds := [], alts := [], laidByText := true, laidKinds := [.data, .data, .data, .data, .sentinel, .sentinel, .pinned], laidTests := true, laidLooks := .later }
def AlternativeMeansUptoCardSaid : Prop := Claim7.holds Tryz.pinned (.plain (OpenSpec.upto alternativeMeansSpec)) alternativeMeansUptoCard

/-- THE SECOND FORM's CARD OF 'licitlaw33.AlternativeLists'. -/
def alternativeListsUptoCard : Claim7 := { stood := { row := alternativeListsUptoRow, standIns := [], harness := (true, "05528ecb1f82114f6dca13a3e91ca0ce9d9dda0cc341f755f2084d06d7621770"), looks := true }, kinds := [], alts := [], laidByText := true, laidKinds := [.data, .data, .data, .data, .sentinel, .sentinel, .pinned], laidTests := true, laidLooks := .later }
def AlternativeListsUptoCardSaid : Prop := Claim7.holds Tryz.pinned (.plain (OpenSpec.upto alternativeListsSpec)) alternativeListsUptoCard

/-- THE SECOND FORM's CARD OF 'licitlaw33.AlternativeMinimal'. -/
def alternativeMinimalUptoCard : Claim7 := { stood := { row := alternativeMinimalUptoRow, standIns := [], harness := (true, "05528ecb1f82114f6dca13a3e91ca0ce9d9dda0cc341f755f2084d06d7621770"), looks := true }, kinds := [], alts := [], laidByText := true, laidKinds := [.data, .data, .data, .data, .sentinel, .sentinel, .pinned], laidTests := true, laidLooks := .later }
def AlternativeMinimalUptoCardSaid : Prop := Claim7.holds Tryz.pinned (.plain (OpenSpec.upto alternativeMinimalSpec)) alternativeMinimalUptoCard

/-- THE SECOND FORM's CARD OF 'licitlaw33.AlternativeReturns'. -/
def alternativeReturnsUptoCard : Claim7 := { stood := { row := alternativeReturnsUptoRow, standIns := [], harness := (true, "05528ecb1f82114f6dca13a3e91ca0ce9d9dda0cc341f755f2084d06d7621770"), looks := true }, kinds := [], alts := [], laidByText := true, laidKinds := [.data, .data, .data, .data, .sentinel, .sentinel, .pinned], laidTests := true, laidLooks := .later }
def AlternativeReturnsUptoCardSaid : Prop := Claim7.holds Tryz.pinned (.plain (OpenSpec.upto alternativeReturnsSpec)) alternativeReturnsUptoCard

/-- THE SECOND FORM's CARD OF 'licitlaw33.AlternativeParts'. -/
def alternativePartsUptoCard : Claim7 := { stood := { row := alternativePartsUptoRow, standIns := [], harness := (true, "05528ecb1f82114f6dca13a3e91ca0ce9d9dda0cc341f755f2084d06d7621770"), looks := true }, kinds := [], alts := [], laidByText := true, laidKinds := [.data, .data, .data, .data, .sentinel, .sentinel, .pinned], laidTests := true, laidLooks := .later }
def AlternativePartsUptoCardSaid : Prop := Claim7.holds Tryz.pinned (.plain (OpenSpec.upto alternativePartsSpec)) alternativePartsUptoCard

/-- THE SECOND FORM's CARD OF 'licitlaw33.AlternativeCombines'. -/
def alternativeCombinesUptoCard : Claim7 := { stood := { row := alternativeCombinesUptoRow, standIns := [], harness := (true, "05528ecb1f82114f6dca13a3e91ca0ce9d9dda0cc341f755f2084d06d7621770"), looks := true }, kinds := [], alts := [], laidByText := true, laidKinds := [.data, .data, .data, .data, .sentinel, .sentinel, .pinned], laidTests := true, laidLooks := .later }
def AlternativeCombinesUptoCardSaid : Prop := Claim7.holds Tryz.pinned (.plain (OpenSpec.upto alternativeCombinesSpec)) alternativeCombinesUptoCard

/-- THE SECOND FORM's CARD OF 'licitlaw33.AlternativeLaws'. -/
def alternativeLawsUptoCard : Claim7 := { stood := { row := alternativeLawsUptoRow, standIns := [], harness := (true, "05528ecb1f82114f6dca13a3e91ca0ce9d9dda0cc341f755f2084d06d7621770"), looks := true }, kinds := [], alts := [], laidByText := true, laidKinds := [.data, .data, .data, .data, .sentinel, .sentinel, .pinned], laidTests := true, laidLooks := .later }
def AlternativeLawsUptoCardSaid : Prop := Claim7.holds Tryz.pinned (.plain (OpenSpec.upto alternativeLawsSpec)) alternativeLawsUptoCard

/-- THE SECOND FORM's CARD OF 'licitlaw33.AlternativeDecides'. -/
def alternativeDecidesUptoCard : Claim7 := { stood := { row := alternativeDecidesUptoRow, standIns := [], harness := (true, "05528ecb1f82114f6dca13a3e91ca0ce9d9dda0cc341f755f2084d06d7621770"), looks := true }, kinds := [], alts := [], laidByText := true, laidKinds := [.data, .data, .data, .data, .sentinel, .sentinel, .pinned], laidTests := true, laidLooks := .later }
def AlternativeDecidesUptoCardSaid : Prop := Claim7.holds Tryz.pinned (.plain (OpenSpec.upto alternativeDecidesSpec)) alternativeDecidesUptoCard
end Rows
end Go.Proofs.YtaaobpicaaeiiaaGreatDoor
