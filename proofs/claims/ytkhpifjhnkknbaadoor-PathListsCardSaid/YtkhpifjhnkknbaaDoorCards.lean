/-
  DERIVED. GIVEN WITH THE SEED: THE CARDS: each row of YtkhpifjhnkknbaaDoorRows.lean that lists a variable, with what it lists TIED to the program's text (the seventh form; the later family's looks); each row that meets fmt, with fmt's text TOLD by the authors' own Lean function (tested against real Go, not proved from fmt's source: count such statements apart). THE CARD IS WHAT COUNTS. Prove the row's statement (the work); the ties are given (YtkhpifjhnkknbaaDoorTie.lean); close each card by the builder's one call (the guide's Derived/Test/ToyasCard.lean, 'card_holds'). Laid BY PROGRAM, IN A SANDBOX (cutbox-door.mjs). By AI agents, Wed Nov 11 2026. No macro, syntax, notation, axiom, sorry.
-/
import Derived.Test.YtkhpifjhnkknbaaDoorRows
import GoSem.ClaimSeven
namespace Go.Proofs.YtkhpifjhnkknbaaDoor
namespace Rows

/-- THE TIED CARD OF 'breakwaterlaw07.PathNames'. -/
def pathNamesCard : Claim7 := { stood := { row := pathNamesRow, standIns := [], harness := (true, "ed466fa0af40fe2d2d19c2ac8f57de2d346d026336482c78e76cc0e9d429e15d"), looks := false }, kinds := [], alts := [], laidByText := true, laidKinds := [.data, .pinned], laidTests := true, laidLooks := .later }
def PathNamesCardSaid : Prop := Claim7.holds Tryd.pinned (.plain (OpenSpec.ofChange pathNamesSpec)) pathNamesCard

/-- THE TIED CARD OF 'breakwaterlaw07.PathTells'. -/
def pathTellsCard : Claim7 := { stood := { row := pathTellsRow, standIns := [], harness := (true, "ed466fa0af40fe2d2d19c2ac8f57de2d346d026336482c78e76cc0e9d429e15d"), looks := false }, kinds := [], alts := [], laidByText := true, laidKinds := [.data, .pinned], laidTests := true, laidLooks := .later }
def PathTellsCardSaid : Prop := Claim7.holds Tryd.pinned (.plain (OpenSpec.ofChange pathTellsSpec)) pathTellsCard

/-- THE TIED CARD OF 'breakwaterlaw07.PathLists'. -/
def pathListsCard : Claim7 := { stood := { row := pathListsRow, standIns := [], harness := (true, "ed466fa0af40fe2d2d19c2ac8f57de2d346d026336482c78e76cc0e9d429e15d"), looks := false }, kinds := [], alts := [], laidByText := true, laidKinds := [.data, .pinned], laidTests := true, laidLooks := .later }
def PathListsCardSaid : Prop := Claim7.holds Tryd.pinned (.plain (OpenSpec.ofChange pathListsSpec)) pathListsCard

/-- THE TIED CARD OF 'breakwaterlaw07.PathBack'. -/
def pathBackCard : Claim7 := { stood := { row := pathBackRow, standIns := [], harness := (true, "ed466fa0af40fe2d2d19c2ac8f57de2d346d026336482c78e76cc0e9d429e15d"), looks := false }, kinds := [], alts := [], laidByText := true, laidKinds := [.data, .pinned], laidTests := true, laidLooks := .later }
def PathBackCardSaid : Prop := Claim7.holds Tryd.pinned (.plain (OpenSpec.ofChange pathBackSpec)) pathBackCard

/-- THE TIED CARD OF 'breakwaterlaw07.PathOneForm'. -/
def pathOneFormCard : Claim7 := { stood := { row := pathOneFormRow, standIns := [], harness := (true, "ed466fa0af40fe2d2d19c2ac8f57de2d346d026336482c78e76cc0e9d429e15d"), looks := false }, kinds := [], alts := [], laidByText := true, laidKinds := [.data, .pinned], laidTests := true, laidLooks := .later }
def PathOneFormCardSaid : Prop := Claim7.holds Tryd.pinned (.plain (OpenSpec.ofChange pathOneFormSpec)) pathOneFormCard

/-- THE TIED CARD OF 'breakwaterlaw07.PathApart'. -/
def pathApartCard : Claim7 := { stood := { row := pathApartRow, standIns := [], harness := (true, "ed466fa0af40fe2d2d19c2ac8f57de2d346d026336482c78e76cc0e9d429e15d"), looks := false }, kinds := [], alts := [], laidByText := true, laidKinds := [.data, .pinned], laidTests := true, laidLooks := .later }
def PathApartCardSaid : Prop := Claim7.holds Tryd.pinned (.plain (OpenSpec.ofChange pathApartSpec)) pathApartCard

/-- THE TIED CARD OF 'breakwaterlaw07.PathRefuses'. -/
def pathRefusesCard : Claim7 := { stood := { row := pathRefusesRow, standIns := [], harness := (true, "ed466fa0af40fe2d2d19c2ac8f57de2d346d026336482c78e76cc0e9d429e15d"), looks := false }, kinds := [], alts := [], laidByText := true, laidKinds := [.data, .pinned], laidTests := true, laidLooks := .later }
def PathRefusesCardSaid : Prop := Claim7.holds Tryd.pinned (.plain (OpenSpec.ofChange pathRefusesSpec)) pathRefusesCard

/-- THE TIED CARD OF 'breakwaterlaw07.PathLong'. -/
def pathLongCard : Claim7 := { stood := { row := pathLongRow, standIns := [], harness := (true, "ed466fa0af40fe2d2d19c2ac8f57de2d346d026336482c78e76cc0e9d429e15d"), looks := false }, kinds := [], alts := [], laidByText := true, laidKinds := [.data, .pinned], laidTests := true, laidLooks := .later }
def PathLongCardSaid : Prop := Claim7.holds Tryd.pinned (.plain (OpenSpec.ofChange pathLongSpec)) pathLongCard

/-- THE SECOND FORM's CARD OF 'breakwaterlaw07.PathNames'. -/
def pathNamesUptoCard : Claim7 := { stood := { row := pathNamesUptoRow, standIns := [], harness := (true, "ed466fa0af40fe2d2d19c2ac8f57de2d346d026336482c78e76cc0e9d429e15d"), looks := false }, kinds := [], alts := [], laidByText := true, laidKinds := [.data, .pinned], laidTests := true, laidLooks := .later }
def PathNamesUptoCardSaid : Prop := Claim7.holds Tryd.pinned (.plain (OpenSpec.upto pathNamesSpec)) pathNamesUptoCard

/-- THE SECOND FORM's CARD OF 'breakwaterlaw07.PathTells'. -/
def pathTellsUptoCard : Claim7 := { stood := { row := pathTellsUptoRow, standIns := [], harness := (true, "ed466fa0af40fe2d2d19c2ac8f57de2d346d026336482c78e76cc0e9d429e15d"), looks := false }, kinds := [], alts := [], laidByText := true, laidKinds := [.data, .pinned], laidTests := true, laidLooks := .later }
def PathTellsUptoCardSaid : Prop := Claim7.holds Tryd.pinned (.plain (OpenSpec.upto pathTellsSpec)) pathTellsUptoCard

/-- THE SECOND FORM's CARD OF 'breakwaterlaw07.PathLists'. -/
def pathListsUptoCard : Claim7 := { stood := { row := pathListsUptoRow, standIns := [], harness := (true, "ed466fa0af40fe2d2d19c2ac8f57de2d346d026336482c78e76cc0e9d429e15d"), looks := false }, kinds := [], alts := [], laidByText := true, laidKinds := [.data, .pinned], laidTests := true, laidLooks := .later }
def PathListsUptoCardSaid : Prop := Claim7.holds Tryd.pinned (.plain (OpenSpec.upto pathListsSpec)) pathListsUptoCard

/-- THE SECOND FORM's CARD OF 'breakwaterlaw07.PathBack'. -/
def pathBackUptoCard : Claim7 := { stood := { row := pathBackUptoRow, standIns := [], harness := (true, "ed466fa0af40fe2d2d19c2ac8f57de2d346d026336482c78e76cc0e9d429e15d"), looks := false }, kinds := [], alts := [], laidByText := true, laidKinds := [.data, .pinned], laidTests := true, laidLooks := .later }
def PathBackUptoCardSaid : Prop := Claim7.holds Tryd.pinned (.plain (OpenSpec.upto pathBackSpec)) pathBackUptoCard

/-- THE SECOND FORM's CARD OF 'breakwaterlaw07.PathOneForm'. -/
def pathOneFormUptoCard : Claim7 := { stood := { row := pathOneFormUptoRow, standIns := [], harness := (true, "ed466fa0af40fe2d2d19c2ac8f57de2d346d026336482c78e76cc0e9d429e15d"), looks := false }, kinds := [], alts := [], laidByText := true, laidKinds := [.data, .pinned], laidTests := true, laidLooks := .later }
def PathOneFormUptoCardSaid : Prop := Claim7.holds Tryd.pinned (.plain (OpenSpec.upto pathOneFormSpec)) pathOneFormUptoCard

/-- THE SECOND FORM's CARD OF 'breakwaterlaw07.PathApart'. -/
def pathApartUptoCard : Claim7 := { stood := { row := pathApartUptoRow, standIns := [], harness := (true, "ed466fa0af40fe2d2d19c2ac8f57de2d346d026336482c78e76cc0e9d429e15d"), looks := false }, kinds := [], alts := [], laidByText := true, laidKinds := [.data, .pinned], laidTests := true, laidLooks := .later }
def PathApartUptoCardSaid : Prop := Claim7.holds Tryd.pinned (.plain (OpenSpec.upto pathApartSpec)) pathApartUptoCard

/-- THE SECOND FORM's CARD OF 'breakwaterlaw07.PathRefuses'. -/
def pathRefusesUptoCard : Claim7 := { stood := { row := pathRefusesUptoRow, standIns := [], harness := (true, "ed466fa0af40fe2d2d19c2ac8f57de2d346d026336482c78e76cc0e9d429e15d"), looks := false }, kinds := [], alts := [], laidByText := true, laidKinds := [.data, .pinned], laidTests := true, laidLooks := .later }
def PathRefusesUptoCardSaid : Prop := Claim7.holds Tryd.pinned (.plain (OpenSpec.upto pathRefusesSpec)) pathRefusesUptoCard

/-- THE SECOND FORM's CARD OF 'breakwaterlaw07.PathLong'. -/
def pathLongUptoCard : Claim7 := { stood := { row := pathLongUptoRow, standIns := [], harness := (true, "ed466fa0af40fe2d2d19c2ac8f57de2d346d026336482c78e76cc0e9d429e15d"), looks := false }, kinds := [], alts := [], laidByText := true, laidKinds := [.data, .pinned], laidTests := true, laidLooks := .later }
def PathLongUptoCardSaid : Prop := Claim7.holds Tryd.pinned (.plain (OpenSpec.upto pathLongSpec)) pathLongUptoCard
end Rows
end Go.Proofs.YtkhpifjhnkknbaaDoor
