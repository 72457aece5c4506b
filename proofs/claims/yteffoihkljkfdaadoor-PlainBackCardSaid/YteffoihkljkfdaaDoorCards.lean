/-
  DERIVED. GIVEN WITH THE SEED: THE CARDS: each row of YteffoihkljkfdaaDoorRows.lean that lists a variable, with what it lists TIED to the program's text (the seventh form; the later family's looks); each row that meets fmt, with fmt's text TOLD by the authors' own Lean function (tested against real Go, not proved from fmt's source: count such statements apart). THE CARD IS WHAT COUNTS. Prove the row's statement (the work); the ties are given (YteffoihkljkfdaaDoorTie.lean); close each card by the builder's one call (the guide's Derived/Test/ToyasCard.lean, 'card_holds'). Laid BY PROGRAM, IN A SANDBOX (cutbox-door.mjs). By AI agents, Wed Nov 11 2026. No macro, syntax, notation, axiom, sorry.
-/
import Derived.Test.YteffoihkljkfdaaDoorRows
import GoSem.ClaimSeven
namespace Go.Proofs.YteffoihkljkfdaaDoor
namespace Rows

/-- THE TIED CARD OF 'breakwaterlaw16.PlainNames'. -/
def plainNamesCard : Claim7 := { stood := { row := plainNamesRow, standIns := [], harness := (true, "6500d98ce12c72b63a026778c00b307fdfd51c49811d7e866151e5bf29a9a3dc"), looks := true }, kinds := [], alts := [], laidByText := true, laidKinds := [.data, .pinned], laidTests := true, laidLooks := .later }
def PlainNamesCardSaid : Prop := Claim7.holds Tryd.pinned (.plain (OpenSpec.ofChange plainNamesSpec)) plainNamesCard

/-- THE TIED CARD OF 'breakwaterlaw16.PlainSizes'. -/
def plainSizesCard : Claim7 := { stood := { row := plainSizesRow, standIns := [], harness := (true, "6500d98ce12c72b63a026778c00b307fdfd51c49811d7e866151e5bf29a9a3dc"), looks := true }, kinds := [], alts := [], laidByText := true, laidKinds := [.data, .pinned], laidTests := true, laidLooks := .later }
def PlainSizesCardSaid : Prop := Claim7.holds Tryd.pinned (.plain (OpenSpec.ofChange plainSizesSpec)) plainSizesCard

/-- THE TIED CARD OF 'breakwaterlaw16.PlainKept'. -/
def plainKeptCard : Claim7 := { stood := { row := plainKeptRow, standIns := [], harness := (true, "6500d98ce12c72b63a026778c00b307fdfd51c49811d7e866151e5bf29a9a3dc"), looks := true }, kinds := [], alts := [], laidByText := true, laidKinds := [.data, .pinned], laidTests := true, laidLooks := .later }
def PlainKeptCardSaid : Prop := Claim7.holds Tryd.pinned (.plain (OpenSpec.ofChange plainKeptSpec)) plainKeptCard

/-- THE TIED CARD OF 'breakwaterlaw16.PlainRoom'. -/
def plainRoomCard : Claim7 := { stood := { row := plainRoomRow, standIns := [], harness := (true, "6500d98ce12c72b63a026778c00b307fdfd51c49811d7e866151e5bf29a9a3dc"), looks := true }, kinds := [], alts := [], laidByText := true, laidKinds := [.data, .pinned], laidTests := true, laidLooks := .later }
def PlainRoomCardSaid : Prop := Claim7.holds Tryd.pinned (.plain (OpenSpec.ofChange plainRoomSpec)) plainRoomCard

/-- THE TIED CARD OF 'breakwaterlaw16.PlainBack'. -/
def plainBackCard : Claim7 := { stood := { row := plainBackRow, standIns := [], harness := (true, "6500d98ce12c72b63a026778c00b307fdfd51c49811d7e866151e5bf29a9a3dc"), looks := true }, kinds := [], alts := [], laidByText := true, laidKinds := [.data, .pinned], laidTests := true, laidLooks := .later }
def PlainBackCardSaid : Prop := Claim7.holds Tryd.pinned (.plain (OpenSpec.ofChange plainBackSpec)) plainBackCard

/-- THE TIED CARD OF 'breakwaterlaw16.PlainQuiet'. -/
def plainQuietCard : Claim7 := { stood := { row := plainQuietRow, standIns := [], harness := (true, "6500d98ce12c72b63a026778c00b307fdfd51c49811d7e866151e5bf29a9a3dc"), looks := true }, kinds := [], alts := [], laidByText := true, laidKinds := [.data, .pinned], laidTests := true, laidLooks := .later }
def PlainQuietCardSaid : Prop := Claim7.holds Tryd.pinned (.plain (OpenSpec.ofChange plainQuietSpec)) plainQuietCard

/-- THE SECOND FORM's CARD OF 'breakwaterlaw16.PlainNames'. -/
def plainNamesUptoCard : Claim7 := { stood := { row := plainNamesUptoRow, standIns := [], harness := (true, "6500d98ce12c72b63a026778c00b307fdfd51c49811d7e866151e5bf29a9a3dc"), looks := true }, kinds := [], alts := [], laidByText := true, laidKinds := [.data, .pinned], laidTests := true, laidLooks := .later }
def PlainNamesUptoCardSaid : Prop := Claim7.holds Tryd.pinned (.plain (OpenSpec.upto plainNamesSpec)) plainNamesUptoCard

/-- THE SECOND FORM's CARD OF 'breakwaterlaw16.PlainSizes'. -/
def plainSizesUptoCard : Claim7 := { stood := { row := plainSizesUptoRow, standIns := [], harness := (true, "6500d98ce12c72b63a026778c00b307fdfd51c49811d7e866151e5bf29a9a3dc"), looks := true }, kinds := [], alts := [], laidByText := true, laidKinds := [.data, .pinned], laidTests := true, laidLooks := .later }
def PlainSizesUptoCardSaid : Prop := Claim7.holds Tryd.pinned (.plain (OpenSpec.upto plainSizesSpec)) plainSizesUptoCard

/-- THE SECOND FORM's CARD OF 'breakwaterlaw16.PlainKept'. -/
def plainKeptUptoCard : Claim7 := { stood := { row := plainKeptUptoRow, standIns := [], harness := (true, "6500d98ce12c72b63a026778c00b307fdfd51c49811d7e866151e5bf29a9a3dc"), looks := true }, kinds := [], alts := [], laidByText := true, laidKinds := [.data, .pinned], laidTests := true, laidLooks := .later }
def PlainKeptUptoCardSaid : Prop := Claim7.holds Tryd.pinned (.plain (OpenSpec.upto plainKeptSpec)) plainKeptUptoCard

/-- THE SECOND FORM's CARD OF 'breakwaterlaw16.PlainRoom'. -/
def plainRoomUptoCard : Claim7 := { stood := { row := plainRoomUptoRow, standIns := [], harness := (true, "6500d98ce12c72b63a026778c00b307fdfd51c49811d7e866151e5bf29a9a3dc"), looks := true }, kinds := [], alts := [], laidByText := true, laidKinds := [.data, .pinned], laidTests := true, laidLooks := .later }
def PlainRoomUptoCardSaid : Prop := Claim7.holds Tryd.pinned (.plain (OpenSpec.upto plainRoomSpec)) plainRoomUptoCard

/-- THE SECOND FORM's CARD OF 'breakwaterlaw16.PlainBack'. -/
def plainBackUptoCard : Claim7 := { stood := { row := plainBackUptoRow, standIns := [], harness := (true, "6500d98ce12c72b63a026778c00b307fdfd51c49811d7e866151e5bf29a9a3dc"), looks := true }, kinds := [], alts := [], laidByText := true, laidKinds := [.data, .pinned], laidTests := true, laidLooks := .later }
def PlainBackUptoCardSaid : Prop := Claim7.holds Tryd.pinned (.plain (OpenSpec.upto plainBackSpec)) plainBackUptoCard

/-- THE SECOND FORM's CARD OF 'breakwaterlaw16.PlainQuiet'. -/
def plainQuietUptoCard : Claim7 := { stood := { row := plainQuietUptoRow, standIns := [], harness := (true, "6500d98ce12c72b63a026778c00b307fdfd51c49811d7e866151e5bf29a9a3dc"), looks := true }, kinds := [], alts := [], laidByText := true, laidKinds := [.data, .pinned], laidTests := true, laidLooks := .later }
def PlainQuietUptoCardSaid : Prop := Claim7.holds Tryd.pinned (.plain (OpenSpec.upto plainQuietSpec)) plainQuietUptoCard
end Rows
end Go.Proofs.YteffoihkljkfdaaDoor
