/-
  DERIVED. GIVEN WITH THE SEED: THE CARDS: each row of YtoemmpfcnpdblaaGreatDoorRows.lean that lists a variable, with what it lists TIED to the program's text (the seventh form; the later family's looks); each row that meets fmt, with fmt's text TOLD by the authors' own Lean function (tested against real Go, not proved from fmt's source: count such statements apart). THE CARD IS WHAT COUNTS. Prove the row's statement (the work); the ties are given (YtoemmpfcnpdblaaGreatDoorTie.lean); close each card by the builder's one call (the guide's Derived/Test/ToyasCard.lean, 'card_holds'). Laid BY PROGRAM, IN A SANDBOX (cutbox-door.mjs). By AI agents, Wed Nov 11 2026. No macro, syntax, notation, axiom, sorry.
-/
import Derived.Test.YtoemmpfcnpdblaaGreatDoorRows
import GoSem.ClaimSeven
namespace Go.Proofs.YtoemmpfcnpdblaaGreatDoor
namespace Rows

/-- THE TIED CARD OF 'licitlaw34.EntailDecides'. -/
def entailDecidesCard : Claim7 := { stood := { row := entailDecidesRow, standIns := [], harness := (true, "08f84273c3c4b129a45aa193a7a661ff7cbfa960d0572f61b9896db9fd10f86e"), looks := true }, kinds := [], alts := [], laidByText := true, laidKinds := [.data, .data, .data, .data, .sentinel, .sentinel, .pinned], laidTests := true, laidLooks := .later }
def EntailDecidesCardSaid : Prop := Claim7.holds Tryz.pinned (.plain (OpenSpec.ofChange entailDecidesSpec)) entailDecidesCard

/-- THE TIED CARD OF 'licitlaw34.EntailRelates'. -/
def entailRelatesCard : Claim7 := { stood := { row := entailRelatesRow, standIns := [], harness := (true, "08f84273c3c4b129a45aa193a7a661ff7cbfa960d0572f61b9896db9fd10f86e"), looks := true }, kinds := [], alts := [], laidByText := true, laidKinds := [.data, .data, .data, .data, .sentinel, .sentinel, .pinned], laidTests := true, laidLooks := .later }
def EntailRelatesCardSaid : Prop := Claim7.holds Tryz.pinned (.plain (OpenSpec.ofChange entailRelatesSpec)) entailRelatesCard

/-- THE TIED CARD OF 'licitlaw34.EntailStrict'. -/
def entailStrictCard : Claim7 := { stood := { row := entailStrictRow, standIns := [], harness := (true, "08f84273c3c4b129a45aa193a7a661ff7cbfa960d0572f61b9896db9fd10f86e"), looks := true }, kinds := [], alts := [], laidByText := true, laidKinds := [.data, .data, .data, .data, .sentinel, .sentinel, .pinned], laidTests := true, laidLooks := .later }
def EntailStrictCardSaid : Prop := Claim7.holds Tryz.pinned (.plain (OpenSpec.ofChange entailStrictSpec)) entailStrictCard

/-- THE TIED CARD OF 'licitlaw34.EntailParts'. -/
def entailPartsCard : Claim7 := { stood := { row := entailPartsRow, standIns := [], harness := (true, "08f84273c3c4b129a45aa193a7a661ff7cbfa960d0572f61b9896db9fd10f86e"), looks := true }, kinds := [], alts := [], laidByText := true, laidKinds := [.data, .data, .data, .data, .sentinel, .sentinel, .pinned], laidTests := true, laidLooks := .later }
def EntailPartsCardSaid : Prop := Claim7.holds Tryz.pinned (.plain (OpenSpec.ofChange entailPartsSpec)) entailPartsCard

/-- THE TIED CARD OF 'licitlaw34.EntailMilder'. -/
def entailMilderCard : Claim7 := { stood := { row := entailMilderRow, standIns := [], harness := (true, "08f84273c3c4b129a45aa193a7a661ff7cbfa960d0572f61b9896db9fd10f86e"), looks := true }, kinds := [], alts := [], laidByText := true, laidKinds := [.data, .data, .data, .data, .sentinel, .sentinel, .pinned], laidTests := true, laidLooks := .later }
def EntailMilderCardSaid : Prop := Claim7.holds Tryz.pinned (.plain (OpenSpec.ofChange entailMilderSpec)) entailMilderCard

/-- THE TIED CARD OF 'licitlaw34.EntailMeans'. -/
def entailMeansCard : Claim7 := { stood := { row := entailMeansRow, standIns := [], harness := (true, "08f84273c3c4b129a45aa193a7a661ff7cbfa960d0572f61b9896db9fd10f86e"), looks := true }, kinds := [], alts := [], laidByText := true, laidKinds := [.data, .data, .data, .data, .sentinel, .sentinel, .pinned], laidTests := true, laidLooks := .later }
def EntailMeansCardSaid : Prop := Claim7.holds Tryz.pinned (.plain (OpenSpec.ofChange entailMeansSpec)) entailMeansCard

/-- THE TIED CARD OF 'licitlaw34.EntailSeparates'. -/
def entailSeparatesCard : Claim7 := { stood := { row := entailSeparatesRow, standIns := [], harness := (true, "08f84273c3c4b129a45aa193a7a661ff7cbfa960d0572f61b9896db9fd10f86e"), looks := true }, kinds := [], alts := [], laidByText := true, laidKinds := [.data, .data, .data, .data, .sentinel, .sentinel, .pinned], laidTests := true, laidLooks := .later }
def EntailSeparatesCardSaid : Prop := Claim7.holds Tryz.pinned (.plain (OpenSpec.ofChange entailSeparatesSpec)) entailSeparatesCard

/-- THE TIED CARD OF 'licitlaw34.EntailOrders'. -/
def entailOrdersCard : Claim7 := { stood := { row := entailOrdersRow, standIns := [], harness := (true, "08f84273c3c4b129a45aa193a7a661ff7cbfa960d0572f61b9896db9fd10f86e"), looks := true }, kinds := [], alts := [], laidByText := true, laidKinds := [.data, .data, .data, .data, .sentinel, .sentinel, .pinned], laidTests := true, laidLooks := .later }
def EntailOrdersCardSaid : Prop := Claim7.holds Tryz.pinned (.plain (OpenSpec.ofChange entailOrdersSpec)) entailOrdersCard

/-- THE SECOND FORM's CARD OF 'licitlaw34.EntailDecides'. -/
def entailDecidesUptoCard : Claim7 := { stood := { row := entailDecidesUptoRow, standIns := [], harness := (true, "08f84273c3c4b129a45aa193a7a661ff7cbfa960d0572f61b9896db9fd10f86e"), looks := true }, kinds := [], alts := [], laidByText := true, laidKinds := [.data, .data, .data, .data, .sentinel, .sentinel, .pinned], laidTests := true, laidLooks := .later }
def EntailDecidesUptoCardSaid : Prop := Claim7.holds Tryz.pinned (.plain (OpenSpec.upto entailDecidesSpec)) entailDecidesUptoCard

/-- THE SECOND FORM's CARD OF 'licitlaw34.EntailRelates'. -/
def entailRelatesUptoCard : Claim7 := { stood := { row := entailRelatesUptoRow, standIns := [], harness := (true, "08f84273c3c4b129a45aa193a7a661ff7cbfa960d0572f61b9896db9fd10f86e"), looks := true }, kinds := [], alts := [], laidByText := true, laidKinds := [.data, .data, .data, .data, .sentinel, .sentinel, .pinned], laidTests := true, laidLooks := .later }
def EntailRelatesUptoCardSaid : Prop := Claim7.holds Tryz.pinned (.plain (OpenSpec.upto entailRelatesSpec)) entailRelatesUptoCard

/-- THE SECOND FORM's CARD OF 'licitlaw34.EntailStrict'. -/
def entailStrictUptoCard : Claim7 := { stood := { row := entailStrictUptoRow, standIns := [], harness := (true, "08f84273c3c4b129a45aa193a7a661ff7cbfa960d0572f61b9896db9fd10f86e"), looks := true }, kinds := [], alts := [], laidByText := true, laidKinds := [.data, .data, .data, .data, .sentinel, .sentinel, .pinned], laidTests := true, laidLooks := .later }
def EntailStrictUptoCardSaid : Prop := Claim7.holds Tryz.pinned (.plain (OpenSpec.upto entailStrictSpec)) entailStrictUptoCard

/-- THE SECOND FORM's CARD OF 'licitlaw34.EntailParts'. -/
def entailPartsUptoCard : Claim7 := { stood := { row := entailPartsUptoRow, standIns := [], harness := (true, "08f84273c3c4b129a45aa193a7a661ff7cbfa960d0572f61b9896db9fd10f86e"), looks := true }, kinds := [], alts := [], laidByText := true, laidKinds := [.data, .data, .data, .data, .sentinel, .sentinel, .pinned], laidTests := true, laidLooks := .later }
def EntailPartsUptoCardSaid : Prop := Claim7.holds Tryz.pinned (.plain (OpenSpec.upto entailPartsSpec)) entailPartsUptoCard

/-- THE SECOND FORM's CARD OF 'licitlaw34.EntailMilder'. -/
def entailMilderUptoCard : Claim7 := { stood := { row := entailMilderUptoRow, standIns := [], harness := (true, "08f84273c3c4b129a45aa193a7a661ff7cbfa960d0572f61b9896db9fd10f86e"), looks := true }, kinds := [], alts := [], laidByText := true, laidKinds := [.data, .data, .data, .data, .sentinel, .sentinel, .pinned], laidTests := true, laidLooks := .later }
def EntailMilderUptoCardSaid : Prop := Claim7.holds Tryz.pinned (.plain (OpenSpec.upto entailMilderSpec)) entailMilderUptoCard

/-- THE SECOND FORM's CARD OF 'licitlaw34.EntailMeans'. -/
def entailMeansUptoCard : Claim7 := { stood := { row := entailMeansUptoRow, standIns := [], harness := (true, "08f84273c3c4b129a45aa193a7a661ff7cbfa960d0572f61b9896db9fd10f86e"), looks := true }, kinds := [], alts := [], laidByText := true, laidKinds := [.data, .data, .data, .data, .sentinel, .sentinel, .pinned], laidTests := true, laidLooks := .later }
def EntailMeansUptoCardSaid : Prop := Claim7.holds Tryz.pinned (.plain (OpenSpec.upto entailMeansSpec)) entailMeansUptoCard

/-- THE SECOND FORM's CARD OF 'licitlaw34.EntailSeparates'. -/
def entailSeparatesUptoCard : Claim7 := { stood := { row := entailSeparatesUptoRow, standIns := [], harness := (true, "08f84273c3c4b129a45aa193a7a661ff7cbfa960d0572f61b9896db9fd10f86e"), looks := true }, kinds := [], alts := [], laidByText := true, laidKinds := [.data, .data, .data, .data, .sentinel, .sentinel, .pinned], laidTests := true, laidLooks := .later }
def EntailSeparatesUptoCardSaid : Prop := Claim7.holds Tryz.pinned (.plain (OpenSpec.upto entailSeparatesSpec)) entailSeparatesUptoCard

/-- THE SECOND FORM's CARD OF 'licitlaw34.EntailOrders'. -/
def entailOrdersUptoCard : Claim7 := { stood := { row := entailOrdersUptoRow, standIns := [], harness := (true, "08f84273c3c4b129a45aa193a7a661ff7cbfa960d0572f61b9896db9fd10f86e"), looks := true }, kinds := [], alts := [], laidByText := true, laidKinds := [.data, .data, .data, .data, .sentinel, .sentinel, .pinned], laidTests := true, laidLooks := .later }
def EntailOrdersUptoCardSaid : Prop := Claim7.holds Tryz.pinned (.plain (OpenSpec.upto entailOrdersSpec)) entailOrdersUptoCard
end Rows
end Go.Proofs.YtoemmpfcnpdblaaGreatDoor
