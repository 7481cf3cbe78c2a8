/-
  DERIVED. GIVEN WITH THE SEED: THE CARDS: each row of YtcpmkohlmjakmaaGreatDoorRows.lean that lists a variable, with what it lists TIED to the program's text (the seventh form; the later family's looks); each row that meets fmt, with fmt's text TOLD by the authors' own Lean function (tested against real Go, not proved from fmt's source: count such statements apart). THE CARD IS WHAT COUNTS. Prove the row's statement (the work); the ties are given (YtcpmkohlmjakmaaGreatDoorTie.lean); close each card by the builder's one call (the guide's Derived/Test/ToyasCard.lean, 'card_holds'). Laid BY PROGRAM, IN A SANDBOX (cutbox-door.mjs). By AI agents, Wed Nov 11 2026. No macro, syntax, notation, axiom, sorry.
-/
import Derived.Test.YtcpmkohlmjakmaaGreatDoorRows
import GoSem.ClaimSeven
namespace Go.Proofs.YtcpmkohlmjakmaaGreatDoor
namespace Rows

/-- THE TIED CARD OF 'gussetlaw07.PolyIntegrals'. -/
def polyIntegralsCard : Claim7 := { stood := { row := polyIntegralsRow, standIns := [], harness := (true, "3cdce4b1f83996cc9753b6d0acea57882d437d465b9082b9393bf425bee27954"), looks := false }, kinds := [], alts := [], laidByText := true, laidKinds := [.data, .data], laidTests := true, laidLooks := .later }
def PolyIntegralsCardSaid : Prop := Claim7.holds Tryz.pinned (.plain (OpenSpec.ofChange polyIntegralsSpec)) polyIntegralsCard

/-- THE TIED CARD OF 'gussetlaw07.PolyLinear'. -/
def polyLinearCard : Claim7 := { stood := { row := polyLinearRow, standIns := [], harness := (true, "3cdce4b1f83996cc9753b6d0acea57882d437d465b9082b9393bf425bee27954"), looks := false }, kinds := [], alts := [], laidByText := true, laidKinds := [.data, .data], laidTests := true, laidLooks := .later }
def PolyLinearCardSaid : Prop := Claim7.holds Tryz.pinned (.plain (OpenSpec.ofChange polyLinearSpec)) polyLinearCard

/-- THE TIED CARD OF 'gussetlaw07.PolyParts'. -/
def polyPartsCard : Claim7 := { stood := { row := polyPartsRow, standIns := [], harness := (true, "3cdce4b1f83996cc9753b6d0acea57882d437d465b9082b9393bf425bee27954"), looks := false }, kinds := [], alts := [], laidByText := true, laidKinds := [.data, .data], laidTests := true, laidLooks := .later }
def PolyPartsCardSaid : Prop := Claim7.holds Tryz.pinned (.plain (OpenSpec.ofChange polyPartsSpec)) polyPartsCard

/-- THE TIED CARD OF 'gussetlaw07.PolyHalves'. -/
def polyHalvesCard : Claim7 := { stood := { row := polyHalvesRow, standIns := [], harness := (true, "3cdce4b1f83996cc9753b6d0acea57882d437d465b9082b9393bf425bee27954"), looks := false }, kinds := [], alts := [], laidByText := true, laidKinds := [.data, .data], laidTests := true, laidLooks := .later }
def PolyHalvesCardSaid : Prop := Claim7.holds Tryz.pinned (.plain (OpenSpec.ofChange polyHalvesSpec)) polyHalvesCard

/-- THE TIED CARD OF 'gussetlaw07.PolyValues'. -/
def polyValuesCard : Claim7 := { stood := { row := polyValuesRow, standIns := [], harness := (true, "3cdce4b1f83996cc9753b6d0acea57882d437d465b9082b9393bf425bee27954"), looks := false }, kinds := [], alts := [], laidByText := true, laidKinds := [.data, .data], laidTests := true, laidLooks := .later }
def PolyValuesCardSaid : Prop := Claim7.holds Tryz.pinned (.plain (OpenSpec.ofChange polyValuesSpec)) polyValuesCard

/-- THE SECOND FORM's CARD OF 'gussetlaw07.PolyIntegrals'. -/
def polyIntegralsUptoCard : Claim7 := { stood := { row := polyIntegralsUptoRow, standIns := [], harness := (true, "3cdce4b1f83996cc9753b6d0acea57882d437d465b9082b9393bf425bee27954"), looks := false }, kinds := [], alts := [], laidByText := true, laidKinds := [.data, .data], laidTests := true, laidLooks := .later }
def PolyIntegralsUptoCardSaid : Prop := Claim7.holds Tryz.pinned (.plain (OpenSpec.upto polyIntegralsSpec)) polyIntegralsUptoCard

/-- THE SECOND FORM's CARD OF 'gussetlaw07.PolyLinear'. -/
def polyLinearUptoCard : Claim7 := { stood := { row := polyLinearUptoRow, standIns := [], harness := (true, "3cdce4b1f83996cc9753b6d0acea57882d437d465b9082b9393bf425bee27954"), looks := false }, kinds := [], alts := [], laidByText := true, laidKinds := [.data, .data], laidTests := true, laidLooks := .later }
def PolyLinearUptoCardSaid : Prop := Claim7.holds Tryz.pinned (.plain (OpenSpec.upto polyLinearSpec)) polyLinearUptoCard

/-- THE SECOND FORM's CARD OF 'gussetlaw07.PolyParts'. -/
def polyPartsUptoCard : Claim7 := { stood := { row := polyPartsUptoRow, standIns := [], harness := (true, "3cdce4b1f83996cc9753b6d0acea57882d437d465b9082b9393bf425bee27954"), looks := false }, kinds := [], alts := [], laidByText := true, laidKinds := [.data, .data], laidTests := true, laidLooks := .later }
def PolyPartsUptoCardSaid : Prop := Claim7.holds Tryz.pinned (.plain (OpenSpec.upto polyPartsSpec)) polyPartsUptoCard

/-- THE SECOND FORM's CARD OF 'gussetlaw07.PolyHalves'. -/
def polyHalvesUptoCard : Claim7 := { stood := { row := polyHalvesUptoRow, standIns := [], harness := (true, "3cdce4b1f83996cc9753b6d0acea57882d437d465b9082b9393bf425bee27954"), looks := false }, kinds := [], alts := [], laidByText := true, laidKinds := [.data, .data], laidTests := true, laidLooks := .later }
def PolyHalvesUptoCardSaid : Prop := Claim7.holds Tryz.pinned (.plain (OpenSpec.upto polyHalvesSpec)) polyHalvesUptoCard

/-- THE SECOND FORM's CARD OF 'gussetlaw07.PolyValues'. -/
def polyValuesUptoCard : Claim7 := { stood := { row := polyValuesUptoRow, standIns := [], harness := (true, "3cdce4b1f83996cc9753b6d0acea57882d437d465b9082b9393bf425bee27954"), looks := false }, kinds := [], alts := [], laidByText := true, laidKinds := [.data, .data], laidTests := true, laidLooks := .later }
def PolyValuesUptoCardSaid : Prop := Claim7.holds Tryz.pinned (.plain (OpenSpec.upto polyValuesSpec)) polyValuesUptoCard
end Rows
end Go.Proofs.YtcpmkohlmjakmaaGreatDoor
