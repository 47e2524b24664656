/-
  DERIVED. GIVEN WITH THE SEED: THE CARDS: each row of YtaneolfnnkppbaaGreatDoorRows.lean that lists a variable, with what it lists TIED to the program's text (the seventh form; the later family's looks); each row that meets fmt, with fmt's text TOLD by the authors' own Lean function (tested against real Go, not proved from fmt's source: count such statements apart). THE CARD IS WHAT COUNTS. Prove the row's statement (the work); the ties are given (YtaneolfnnkppbaaGreatDoorTie.lean); close each card by the builder's one call (the guide's Derived/Test/ToyasCard.lean, 'card_holds'). Laid BY PROGRAM, IN A SANDBOX (cutbox-door.mjs). By AI agents, Wed Nov 11 2026. No macro, syntax, notation, axiom, sorry.
-/
import Derived.Test.YtaneolfnnkppbaaGreatDoorRows
import GoSem.ClaimSeven
namespace Go.Proofs.YtaneolfnnkppbaaGreatDoor
namespace Rows

/-- THE TIED CARD OF 'licitlaw31.CatalogParses'. -/
def catalogParsesCard : Claim7 := { stood := { row := catalogParsesRow, standIns := [], harness := (true, "9fca1d89a4c308ac2bac10425ab80b5e05c873145735035f44480d1859cb9374"), looks := true }, kinds := [], alts := [], laidByText := true, laidKinds := [.data, .data, .data, .data, .sentinel, .sentinel, .pinned], laidTests := true, laidLooks := .later }
def CatalogParsesCardSaid : Prop := Claim7.holds Tryz.pinned (.plain (OpenSpec.ofChange catalogParsesSpec)) catalogParsesCard

/-- THE TIED CARD OF 'licitlaw31.CatalogChecks'. -/
def catalogChecksCard : Claim7 := { stood := { row := catalogChecksRow, standIns := [], harness := (true, "9fca1d89a4c308ac2bac10425ab80b5e05c873145735035f44480d1859cb9374"), looks := true }, kinds := [], alts := [], laidByText := true, laidKinds := [.data, .data, .data, .data, .sentinel, .sentinel, .pinned], laidTests := true, laidLooks := .later }
def CatalogChecksCardSaid : Prop := Claim7.holds Tryz.pinned (.plain (OpenSpec.ofChange catalogChecksSpec)) catalogChecksCard

/-- THE TIED CARD OF 'licitlaw31.CatalogReturns'. -/
def catalogReturnsCard : Claim7 := { stood := { row := catalogReturnsRow, standIns := [], harness := (true, "9fca1d89a4c308ac2bac10425ab80b5e05c873145735035f44480d1859cb9374"), looks := true }, kinds := [], alts := [], laidByText := true, laidKinds := [.data, .data, .data, .data, .sentinel, .sentinel, .pinned], laidTests := true, laidLooks := .later }
def CatalogReturnsCardSaid : Prop := Claim7.holds Tryz.pinned (.plain (OpenSpec.ofChange catalogReturnsSpec)) catalogReturnsCard

/-- THE TIED CARD OF 'licitlaw31.CatalogVersions'. -/
def catalogVersionsCard : Claim7 := { stood := { row := catalogVersionsRow, standIns := [], harness := (true, "9fca1d89a4c308ac2bac10425ab80b5e05c873145735035f44480d1859cb9374"), looks := true }, kinds := [], alts := [], laidByText := true, laidKinds := [.data, .data, .data, .data, .sentinel, .sentinel, .pinned], laidTests := true, laidLooks := .later }
def CatalogVersionsCardSaid : Prop := Claim7.holds Tryz.pinned (.plain (OpenSpec.ofChange catalogVersionsSpec)) catalogVersionsCard

/-- THE TIED CARD OF 'licitlaw31.CatalogApart'. -/
def catalogApartCard : Claim7 := { stood := { row := catalogApartRow, standIns := [], harness := (true, "9fca1d89a4c308ac2bac10425ab80b5e05c873145735035f44480d1859cb9374"), looks := true }, kinds := [], alts := [], laidByText := true, laidKinds := [.data, .data, .data, .data, .sentinel, .sentinel, .pinned], laidTests := true, laidLooks := .later }
def CatalogApartCardSaid : Prop := Claim7.holds Tryz.pinned (.plain (OpenSpec.ofChange catalogApartSpec)) catalogApartCard

/-- THE TIED CARD OF 'licitlaw31.CatalogLooks'. -/
def catalogLooksCard : Claim7 := { stood := { row := catalogLooksRow, standIns := [], harness := (true, "9fca1d89a4c308ac2bac10425ab80b5e05c873145735035f44480d1859cb9374"), looks := true }, kinds := [], alts := [], laidByText := true, laidKinds := [.data, .data, .data, .data, .sentinel, .sentinel, .pinned], laidTests := true, laidLooks := .later }
def CatalogLooksCardSaid : Prop := Claim7.holds Tryz.pinned (.plain (OpenSpec.ofChange catalogLooksSpec)) catalogLooksCard

/-- THE TIED CARD OF 'licitlaw31.CatalogLifts'. -/
def catalogLiftsCard : Claim7 := { stood := { row := catalogLiftsRow, standIns := [], harness := (true, "9fca1d89a4c308ac2bac10425ab80b5e05c873145735035f44480d1859cb9374"), looks := true }, kinds := [], alts := [], laidByText := true, laidKinds := [.data, .data, .data, .data, .sentinel, .sentinel, .pinned], laidTests := true, laidLooks := .later }
def CatalogLiftsCardSaid : Prop := Claim7.holds Tryz.pinned (.plain (OpenSpec.ofChange catalogLiftsSpec)) catalogLiftsCard

/-- THE TIED CARD OF 'licitlaw31.CatalogLines'. -/
def catalogLinesCard : Claim7 := { stood := { row := catalogLinesRow, standIns := [], harness := (true, "9fca1d89a4c308ac2bac10425ab80b5e05c873145735035f44480d1859cb9374"), looks := true }, kinds := [], alts := [], laidByText := true, laidKinds := [.data, .data, .data, .data, .sentinel, .sentinel, .listed, .data, .pinned], laidTests := true, laidLooks := .later }
def CatalogLinesCardSaid : Prop := Claim7.holds Tryz.pinned (.plain (OpenSpec.ofChange catalogLinesSpec)) catalogLinesCard

/-- THE SECOND FORM's CARD OF 'licitlaw31.CatalogParses'. -/
def catalogParsesUptoCard : Claim7 := { stood := { row := catalogParsesUptoRow, standIns := [], harness := (true, "9fca1d89a4c308ac2bac10425ab80b5e05c873145735035f44480d1859cb9374"), looks := true }, kinds := [], alts := [], laidByText := true, laidKinds := [.data, .data, .data, .data, .sentinel, .sentinel, .pinned], laidTests := true, laidLooks := .later }
def CatalogParsesUptoCardSaid : Prop := Claim7.holds Tryz.pinned (.plain (OpenSpec.upto catalogParsesSpec)) catalogParsesUptoCard

/-- THE SECOND FORM's CARD OF 'licitlaw31.CatalogChecks'. -/
def catalogChecksUptoCard : Claim7 := { stood := { row := catalogChecksUptoRow, standIns := [], harness := (true, "9fca1d89a4c308ac2bac10425ab80b5e05c873145735035f44480d1859cb9374"), looks := true }, kinds := [], alts := [], laidByText := true, laidKinds := [.data, .data, .data, .data, .sentinel, .sentinel, .pinned], laidTests := true, laidLooks := .later }
def CatalogChecksUptoCardSaid : Prop := Claim7.holds Tryz.pinned (.plain (OpenSpec.upto catalogChecksSpec)) catalogChecksUptoCard

/-- THE SECOND FORM's CARD OF 'licitlaw31.CatalogReturns'. -/
def catalogReturnsUptoCard : Claim7 := { stood := { row := catalogReturnsUptoRow, standIns := [], harness := (true, "9fca1d89a4c308ac2bac10425ab80b5e05c873145735035f44480d1859cb9374"), looks := true }, kinds := [], alts := [], laidByText := true, laidKinds := [.data, .data, .data, .data, .sentinel, .sentinel, .pinned], laidTests := true, laidLooks := .later }
def CatalogReturnsUptoCardSaid : Prop := Claim7.holds Tryz.pinned (.plain (OpenSpec.upto catalogReturnsSpec)) catalogReturnsUptoCard

/-- THE SECOND FORM's CARD OF 'licitlaw31.CatalogVersions'. -/
def catalogVersionsUptoCard : Claim7 := { stood := { row := catalogVersionsUptoRow, standIns := [], harness := (true, "9fca1d89a4c308ac2bac10425ab80b5e05c873145735035f44480d1859cb9374"), looks := true }, kinds := [], alts := [], laidByText := true, laidKinds := [.data, .data, .data, .data, .sentinel, .sentinel, .pinned], laidTests := true, laidLooks := .later }
def CatalogVersionsUptoCardSaid : Prop := Claim7.holds Tryz.pinned (.plain (OpenSpec.upto catalogVersionsSpec)) catalogVersionsUptoCard

/-- THE SECOND FORM's CARD OF 'licitlaw31.CatalogApart'. -/
def catalogApartUptoCard : Claim7 := { stood := { row := catalogApartUptoRow, standIns := [], harness := (true, "9fca1d89a4c308ac2bac10425ab80b5e05c873145735035f44480d1859cb9374"), looks := true }, kinds := [], alts := [], laidByText := true, laidKinds := [.data, .data, .data, .data, .sentinel, .sentinel, .pinned], laidTests := true, laidLooks := .later }
def CatalogApartUptoCardSaid : Prop := Claim7.holds Tryz.pinned (.plain (OpenSpec.upto catalogApartSpec)) catalogApartUptoCard

/-- THE SECOND FORM's CARD OF 'licitlaw31.CatalogLooks'. -/
def catalogLooksUptoCard : Claim7 := { stood := { row := catalogLooksUptoRow, standIns := [], harness := (true, "9fca1d89a4c308ac2bac10425ab80b5e05c873145735035f44480d1859cb9374"), looks := true }, kinds := [], alts := [], laidByText := true, laidKinds := [.data, .data, .data, .data, .sentinel, .sentinel, .pinned], laidTests := true, laidLooks := .later }
def CatalogLooksUptoCardSaid : Prop := Claim7.holds Tryz.pinned (.plain (OpenSpec.upto catalogLooksSpec)) catalogLooksUptoCard

/-- THE SECOND FORM's CARD OF 'licitlaw31.CatalogLifts'. -/
def catalogLiftsUptoCard : Claim7 := { stood := { row := catalogLiftsUptoRow, standIns := [], harness := (true, "9fca1d89a4c308ac2bac10425ab80b5e05c873145735035f44480d1859cb9374"), looks := true }, kinds := [], alts := [], laidByText := true, laidKinds := [.data, .data, .data, .data, .sentinel, .sentinel, .pinned], laidTests := true, laidLooks := .later }
def CatalogLiftsUptoCardSaid : Prop := Claim7.holds Tryz.pinned (.plain (OpenSpec.upto catalogLiftsSpec)) catalogLiftsUptoCard

/-- THE SECOND FORM's CARD OF 'licitlaw31.CatalogLines'. -/
def catalogLinesUptoCard : Claim7 := { stood := { row := catalogLinesUptoRow, standIns := [], harness := (true, "9fca1d89a4c308ac2bac10425ab80b5e05c873145735035f44480d1859cb9374"), looks := true }, kinds := [], alts := [], laidByText := true, laidKinds := [.data, .data, .data, .data, .sentinel, .sentinel, .listed, .data, .pinned], laidTests := true, laidLooks := .later }
def CatalogLinesUptoCardSaid : Prop := Claim7.holds Tryz.pinned (.plain (OpenSpec.upto catalogLinesSpec)) catalogLinesUptoCard
end Rows
end Go.Proofs.YtaneolfnnkppbaaGreatDoor
