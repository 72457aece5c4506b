/-
  NARROWER THAN 'FOR EVERY INPUT', by the rows' own cells (each row's printed sentence says how): PathNames: laid · PathTells: laid · PathLists: laid · PathBack: laid · PathOneForm: laid · PathApart: laid · PathRefuses: laid · PathLong: laid.
  DERIVED. THE GIVEN ROWS OF THIS SEAT. 8 by the template 'for every input the law returns true; each argument reads behind the call as it read before'; 0 by the template 'total and deterministic' (their statements: YtkhpifjhnkknbaaDoorTotals.lean).
  GIVEN WITH THE SEED: the statements are not yours to turn. If you find one false, say at which input.
  Laid BY PROGRAM, IN A SANDBOX (cutbox-rows.mjs): the forced cells as the released guide's own fill.sh prints them over the translation 662976a2c3dc21f5… (all of the seat's roots in one cut). By AI agents, Wed Nov 11 2026. No macro, syntax, notation, axiom, sorry.
-/
import Derived.Test.YtkhpifjhnkknbaaDoorChecked
import GoSem.PinnedTables
import GoSem.Claim
import GoSem.ClaimJoined
import GoSem.ClaimMapViews
import Derived.JoinedTies
import Derived.KernelRfl
namespace Go.Proofs.YtkhpifjhnkknbaaDoor
/- THE CELL 'sum', in the pinned program and in every row, IS THE sha256 OF THE DUMP (.gsa) THAT YtkhpifjhnkknbaaDoorProg.lean LOADS. Nothing in Lean hashes anything: it is a label: what it is worth is what the hold of that sum in a sandbox is worth. -/
noncomputable def Tryd.pinned : Pinned := { name := "ytkhpifjhnkknbaadoor", sum := "662976a2c3dc21f56adcefdf4a2a4b64d68f72b844e8b29c86b832c8481edec8", checked := Tryd.checked }
namespace Rows
def none {H : Type} : Left H := { results := [], args := [] }

/- WHAT THE LISTED PACKAGE-LEVEL VARIABLES READ AS WHEN THE CALL BEGINS. Each datum BY PROGRAM (the guide's laid-datum.mjs) off the statement by which the dump's own 'gosem.cut.vars' lays the variable. In a bare row this is a premise. The card (YtkhpifjhnkknbaaDoorCards.lean) ties it to the program's text. -/
def laid_unicode_utf8_acceptRanges {H : Type} : DataW H := .agg [.agg [.lit (.int .u8 128), .lit (.int .u8 191)], .agg [.lit (.int .u8 160), .lit (.int .u8 191)], .agg [.lit (.int .u8 128), .lit (.int .u8 159)], .agg [.lit (.int .u8 144), .lit (.int .u8 191)], .agg [.lit (.int .u8 128), .lit (.int .u8 143)], .agg [.lit (.int .u8 0), .lit (.int .u8 0)], .agg [.lit (.int .u8 0), .lit (.int .u8 0)], .agg [.lit (.int .u8 0), .lit (.int .u8 0)], .agg [.lit (.int .u8 0), .lit (.int .u8 0)], .agg [.lit (.int .u8 0), .lit (.int .u8 0)], .agg [.lit (.int .u8 0), .lit (.int .u8 0)], .agg [.lit (.int .u8 0), .lit (.int .u8 0)], .agg [.lit (.int .u8 0), .lit (.int .u8 0)], .agg [.lit (.int .u8 0), .lit (.int .u8 0)], .agg [.lit (.int .u8 0), .lit (.int .u8 0)], .agg [.lit (.int .u8 0), .lit (.int .u8 0)]]
/-- One of Go's own tables, pinned by name: the form's constant. -/
def laid_unicode_utf8_first : DataW Unit := Go.Pinned.utf8First

/-- 'breakwaterlaw07.PathNames': WHATEVER THE INPUT: true; the input reads as it did. -/
def pathNamesSpec : ChangeSpec := { name := "pathNames", fn := fun _ => fun
  | [] => { results := [.lit (.bool true)], args := [] }
  | _ => none }
def pathNamesRow : OpenClaim := { program := "ytkhpifjhnkknbaadoor", sum := "662976a2c3dc21f56adcefdf4a2a4b64d68f72b844e8b29c86b832c8481edec8", func := "breakwater/breakwaterlaw07.PathNames", spec := "pathNames", inPlace := ["internal/bytealg.IndexByteString", "internal/bytealg.IndexString", "internal/bytealg.CountString", "internal/abi.NoEscape", "internal/bytealg.MakeNoZero"], named := ["internal/bytealg.MaxLen", "unicode/utf8.first", "unicode/utf8.acceptRanges"], apart := false, laid := [("unicode/utf8.acceptRanges", laid_unicode_utf8_acceptRanges), ("unicode/utf8.first", laid_unicode_utf8_first)] }
def PathNamesSaid : Prop := pathNamesRow.holds Tryd.pinned (OpenSpec.ofChange pathNamesSpec)

/-- ITS FALSE NEIGHBOUR: 'it returns false'. Refute it at one input. -/
def pathNamesWrong : ChangeSpec := { name := "pathNames", fn := fun _ => fun
  | [] => { results := [.lit (.bool false)], args := [] }
  | _ => none }
def PathNamesWrongFalsely : Prop := pathNamesRow.holds Tryd.pinned (OpenSpec.ofChange pathNamesWrong)

/-- 'breakwaterlaw07.PathTells': WHATEVER THE INPUT: true; the input reads as it did. -/
def pathTellsSpec : ChangeSpec := { name := "pathTells", fn := fun _ => fun
  | [d1, d2] => { results := [.lit (.bool true)], args := [d1, d2] }
  | _ => none }
def pathTellsRow : OpenClaim := { program := "ytkhpifjhnkknbaadoor", sum := "662976a2c3dc21f56adcefdf4a2a4b64d68f72b844e8b29c86b832c8481edec8", func := "breakwater/breakwaterlaw07.PathTells", spec := "pathTells", inPlace := ["internal/bytealg.IndexByteString", "internal/bytealg.IndexString", "internal/bytealg.CountString", "internal/abi.NoEscape", "internal/bytealg.MakeNoZero"], named := ["internal/bytealg.MaxLen", "unicode/utf8.first", "unicode/utf8.acceptRanges"], apart := false, laid := [("unicode/utf8.acceptRanges", laid_unicode_utf8_acceptRanges), ("unicode/utf8.first", laid_unicode_utf8_first)] }
def PathTellsSaid : Prop := pathTellsRow.holds Tryd.pinned (OpenSpec.ofChange pathTellsSpec)

/-- ITS FALSE NEIGHBOUR: 'it returns false'. Refute it at one input. -/
def pathTellsWrong : ChangeSpec := { name := "pathTells", fn := fun _ => fun
  | [d1, d2] => { results := [.lit (.bool false)], args := [d1, d2] }
  | _ => none }
def PathTellsWrongFalsely : Prop := pathTellsRow.holds Tryd.pinned (OpenSpec.ofChange pathTellsWrong)

/-- 'breakwaterlaw07.PathLists': WHATEVER THE INPUT: true; the input reads as it did. -/
def pathListsSpec : ChangeSpec := { name := "pathLists", fn := fun _ => fun
  | [d1, d2] => { results := [.lit (.bool true)], args := [d1, d2] }
  | _ => none }
def pathListsRow : OpenClaim := { program := "ytkhpifjhnkknbaadoor", sum := "662976a2c3dc21f56adcefdf4a2a4b64d68f72b844e8b29c86b832c8481edec8", func := "breakwater/breakwaterlaw07.PathLists", spec := "pathLists", inPlace := ["internal/abi.NoEscape", "internal/bytealg.MakeNoZero", "internal/bytealg.IndexByteString", "internal/bytealg.IndexString", "internal/bytealg.CountString"], named := ["internal/bytealg.MaxLen", "unicode/utf8.first", "unicode/utf8.acceptRanges"], apart := false, laid := [("unicode/utf8.acceptRanges", laid_unicode_utf8_acceptRanges), ("unicode/utf8.first", laid_unicode_utf8_first)] }
def PathListsSaid : Prop := pathListsRow.holds Tryd.pinned (OpenSpec.ofChange pathListsSpec)

/-- ITS FALSE NEIGHBOUR: 'it returns false'. Refute it at one input. -/
def pathListsWrong : ChangeSpec := { name := "pathLists", fn := fun _ => fun
  | [d1, d2] => { results := [.lit (.bool false)], args := [d1, d2] }
  | _ => none }
def PathListsWrongFalsely : Prop := pathListsRow.holds Tryd.pinned (OpenSpec.ofChange pathListsWrong)

/-- 'breakwaterlaw07.PathBack': WHATEVER THE INPUT: true; the input reads as it did. -/
def pathBackSpec : ChangeSpec := { name := "pathBack", fn := fun _ => fun
  | [d1, d2] => { results := [.lit (.bool true)], args := [d1, d2] }
  | _ => none }
def pathBackRow : OpenClaim := { program := "ytkhpifjhnkknbaadoor", sum := "662976a2c3dc21f56adcefdf4a2a4b64d68f72b844e8b29c86b832c8481edec8", func := "breakwater/breakwaterlaw07.PathBack", spec := "pathBack", inPlace := ["internal/abi.NoEscape", "internal/bytealg.MakeNoZero", "internal/bytealg.IndexByteString", "internal/bytealg.IndexString", "internal/bytealg.CountString"], named := ["internal/bytealg.MaxLen", "unicode/utf8.first", "unicode/utf8.acceptRanges"], apart := false, laid := [("unicode/utf8.acceptRanges", laid_unicode_utf8_acceptRanges), ("unicode/utf8.first", laid_unicode_utf8_first)] }
def PathBackSaid : Prop := pathBackRow.holds Tryd.pinned (OpenSpec.ofChange pathBackSpec)

/-- ITS FALSE NEIGHBOUR: 'it returns false'. Refute it at one input. -/
def pathBackWrong : ChangeSpec := { name := "pathBack", fn := fun _ => fun
  | [d1, d2] => { results := [.lit (.bool false)], args := [d1, d2] }
  | _ => none }
def PathBackWrongFalsely : Prop := pathBackRow.holds Tryd.pinned (OpenSpec.ofChange pathBackWrong)

/-- 'breakwaterlaw07.PathOneForm': WHATEVER THE INPUT: true; the input reads as it did. -/
def pathOneFormSpec : ChangeSpec := { name := "pathOneForm", fn := fun _ => fun
  | [d] => { results := [.lit (.bool true)], args := [d] }
  | _ => none }
def pathOneFormRow : OpenClaim := { program := "ytkhpifjhnkknbaadoor", sum := "662976a2c3dc21f56adcefdf4a2a4b64d68f72b844e8b29c86b832c8481edec8", func := "breakwater/breakwaterlaw07.PathOneForm", spec := "pathOneForm", inPlace := ["internal/bytealg.IndexByteString", "internal/bytealg.IndexString", "internal/bytealg.CountString", "internal/abi.NoEscape", "internal/bytealg.MakeNoZero"], named := ["internal/bytealg.MaxLen", "unicode/utf8.first", "unicode/utf8.acceptRanges"], apart := false, laid := [("unicode/utf8.acceptRanges", laid_unicode_utf8_acceptRanges), ("unicode/utf8.first", laid_unicode_utf8_first)] }
def PathOneFormSaid : Prop := pathOneFormRow.holds Tryd.pinned (OpenSpec.ofChange pathOneFormSpec)

/-- ITS FALSE NEIGHBOUR: 'it returns false'. Refute it at one input. -/
def pathOneFormWrong : ChangeSpec := { name := "pathOneForm", fn := fun _ => fun
  | [d] => { results := [.lit (.bool false)], args := [d] }
  | _ => none }
def PathOneFormWrongFalsely : Prop := pathOneFormRow.holds Tryd.pinned (OpenSpec.ofChange pathOneFormWrong)

/-- 'breakwaterlaw07.PathApart': WHATEVER THE INPUT: true; the input reads as it did. -/
def pathApartSpec : ChangeSpec := { name := "pathApart", fn := fun _ => fun
  | [d1, d2] => { results := [.lit (.bool true)], args := [d1, d2] }
  | _ => none }
def pathApartRow : OpenClaim := { program := "ytkhpifjhnkknbaadoor", sum := "662976a2c3dc21f56adcefdf4a2a4b64d68f72b844e8b29c86b832c8481edec8", func := "breakwater/breakwaterlaw07.PathApart", spec := "pathApart", inPlace := ["internal/abi.NoEscape", "internal/bytealg.MakeNoZero", "internal/bytealg.IndexByteString", "internal/bytealg.IndexString", "internal/bytealg.CountString"], named := ["internal/bytealg.MaxLen", "unicode/utf8.first", "unicode/utf8.acceptRanges"], apart := false, laid := [("unicode/utf8.acceptRanges", laid_unicode_utf8_acceptRanges), ("unicode/utf8.first", laid_unicode_utf8_first)] }
def PathApartSaid : Prop := pathApartRow.holds Tryd.pinned (OpenSpec.ofChange pathApartSpec)

/-- ITS FALSE NEIGHBOUR: 'it returns false'. Refute it at one input. -/
def pathApartWrong : ChangeSpec := { name := "pathApart", fn := fun _ => fun
  | [d1, d2] => { results := [.lit (.bool false)], args := [d1, d2] }
  | _ => none }
def PathApartWrongFalsely : Prop := pathApartRow.holds Tryd.pinned (OpenSpec.ofChange pathApartWrong)

/-- 'breakwaterlaw07.PathRefuses': WHATEVER THE INPUT: true; the input reads as it did. -/
def pathRefusesSpec : ChangeSpec := { name := "pathRefuses", fn := fun _ => fun
  | [d1, d2, d3] => { results := [.lit (.bool true)], args := [d1, d2, d3] }
  | _ => none }
def pathRefusesRow : OpenClaim := { program := "ytkhpifjhnkknbaadoor", sum := "662976a2c3dc21f56adcefdf4a2a4b64d68f72b844e8b29c86b832c8481edec8", func := "breakwater/breakwaterlaw07.PathRefuses", spec := "pathRefuses", inPlace := ["internal/abi.NoEscape", "internal/bytealg.MakeNoZero", "internal/bytealg.IndexByteString", "internal/bytealg.IndexString", "internal/bytealg.CountString"], named := ["internal/bytealg.MaxLen", "unicode/utf8.first", "unicode/utf8.acceptRanges"], apart := false, laid := [("unicode/utf8.acceptRanges", laid_unicode_utf8_acceptRanges), ("unicode/utf8.first", laid_unicode_utf8_first)] }
def PathRefusesSaid : Prop := pathRefusesRow.holds Tryd.pinned (OpenSpec.ofChange pathRefusesSpec)

/-- ITS FALSE NEIGHBOUR: 'it returns false'. Refute it at one input. -/
def pathRefusesWrong : ChangeSpec := { name := "pathRefuses", fn := fun _ => fun
  | [d1, d2, d3] => { results := [.lit (.bool false)], args := [d1, d2, d3] }
  | _ => none }
def PathRefusesWrongFalsely : Prop := pathRefusesRow.holds Tryd.pinned (OpenSpec.ofChange pathRefusesWrong)

/-- 'breakwaterlaw07.PathLong': WHATEVER THE INPUT: true; the input reads as it did. -/
def pathLongSpec : ChangeSpec := { name := "pathLong", fn := fun _ => fun
  | [d] => { results := [.lit (.bool true)], args := [d] }
  | _ => none }
def pathLongRow : OpenClaim := { program := "ytkhpifjhnkknbaadoor", sum := "662976a2c3dc21f56adcefdf4a2a4b64d68f72b844e8b29c86b832c8481edec8", func := "breakwater/breakwaterlaw07.PathLong", spec := "pathLong", inPlace := ["internal/abi.NoEscape", "internal/bytealg.MakeNoZero", "internal/bytealg.IndexByteString", "internal/bytealg.IndexString", "internal/bytealg.CountString"], named := ["internal/bytealg.MaxLen", "unicode/utf8.first", "unicode/utf8.acceptRanges"], apart := false, laid := [("unicode/utf8.acceptRanges", laid_unicode_utf8_acceptRanges), ("unicode/utf8.first", laid_unicode_utf8_first)] }
def PathLongSaid : Prop := pathLongRow.holds Tryd.pinned (OpenSpec.ofChange pathLongSpec)

/-- ITS FALSE NEIGHBOUR: 'it returns false'. Refute it at one input. -/
def pathLongWrong : ChangeSpec := { name := "pathLong", fn := fun _ => fun
  | [d] => { results := [.lit (.bool false)], args := [d] }
  | _ => none }
def PathLongWrongFalsely : Prop := pathLongRow.holds Tryd.pinned (OpenSpec.ofChange pathLongWrong)

/- THE SECOND FORM. 'bulk': how many values and letters a reading holds, each counted each time it is reached (what is shared counts as often as it is met; a slice's spare places count too). A statement '..UptoSaid' is the law's where the arguments, and the package variables that the reading takes, are together of bulk at most 1048576: NARROWER than '..Said'. Prove '..Said' where nothing that the law and all that it calls make is longer than what came in: it says more and counts as full. Else prove '..UptoSaid'. A law counts once. -/
mutual
def uptoBulk {H : Type} : DataW H → Nat
  | .lit (.string bytes) => bytes.length + 1
  | .lit _ => 1
  | .nil => 1
  | .ptr d => uptoBulk d + 1
  | .slice elems spare => uptoBulkAll elems + uptoBulkAll spare + 1
  | .agg parts => uptoBulkAll parts + 1
  | .iface _ d => uptoBulk d + 1
  | .map entries => uptoBulkEntries entries + 1
  | .held _ => 1
def uptoBulkAll {H : Type} : List (DataW H) → Nat
  | [] => 0
  | d :: r => uptoBulk d + uptoBulkAll r
def uptoBulkEntries {H : Type} : List (Lit × DataW H) → Nat
  | [] => 0
  | x :: r => uptoBulkEntry x + uptoBulkEntries r
def uptoBulkEntry {H : Type} : Lit × DataW H → Nat
  | (.string bytes, d) => bytes.length + uptoBulk d + 1
  | (_, d) => uptoBulk d + 1
 end
def uptoSmall : (H : Type) → List (DataW H) → Bool := fun _ ds => decide (uptoBulkAll ds ≤ 1048576)
def OpenSpec.upto (s : _root_.Go.ChangeSpec) : _root_.Go.OpenSpec := { _root_.Go.OpenSpec.ofChange s with cond := some uptoSmall }

/-- 'breakwaterlaw07.PathNames', WHERE WHAT IT READS IS OF BULK AT MOST 1048576: true; the input reads as it did. -/
def pathNamesUptoRow : OpenClaim := { program := "ytkhpifjhnkknbaadoor", sum := "662976a2c3dc21f56adcefdf4a2a4b64d68f72b844e8b29c86b832c8481edec8", func := "breakwater/breakwaterlaw07.PathNames", spec := "pathNames", inPlace := ["internal/bytealg.IndexByteString", "internal/bytealg.IndexString", "internal/bytealg.CountString", "internal/abi.NoEscape", "internal/bytealg.MakeNoZero"], named := ["internal/bytealg.MaxLen", "unicode/utf8.first", "unicode/utf8.acceptRanges"], apart := false, laid := [("unicode/utf8.acceptRanges", laid_unicode_utf8_acceptRanges), ("unicode/utf8.first", laid_unicode_utf8_first)], narrowed := true }
def PathNamesUptoSaid : Prop := pathNamesUptoRow.holds Tryd.pinned (OpenSpec.upto pathNamesSpec)

/-- 'breakwaterlaw07.PathTells', WHERE WHAT IT READS IS OF BULK AT MOST 1048576: true; the input reads as it did. -/
def pathTellsUptoRow : OpenClaim := { program := "ytkhpifjhnkknbaadoor", sum := "662976a2c3dc21f56adcefdf4a2a4b64d68f72b844e8b29c86b832c8481edec8", func := "breakwater/breakwaterlaw07.PathTells", spec := "pathTells", inPlace := ["internal/bytealg.IndexByteString", "internal/bytealg.IndexString", "internal/bytealg.CountString", "internal/abi.NoEscape", "internal/bytealg.MakeNoZero"], named := ["internal/bytealg.MaxLen", "unicode/utf8.first", "unicode/utf8.acceptRanges"], apart := false, laid := [("unicode/utf8.acceptRanges", laid_unicode_utf8_acceptRanges), ("unicode/utf8.first", laid_unicode_utf8_first)], narrowed := true }
def PathTellsUptoSaid : Prop := pathTellsUptoRow.holds Tryd.pinned (OpenSpec.upto pathTellsSpec)

/-- 'breakwaterlaw07.PathLists', WHERE WHAT IT READS IS OF BULK AT MOST 1048576: true; the input reads as it did. -/
def pathListsUptoRow : OpenClaim := { program := "ytkhpifjhnkknbaadoor", sum := "662976a2c3dc21f56adcefdf4a2a4b64d68f72b844e8b29c86b832c8481edec8", func := "breakwater/breakwaterlaw07.PathLists", spec := "pathLists", inPlace := ["internal/abi.NoEscape", "internal/bytealg.MakeNoZero", "internal/bytealg.IndexByteString", "internal/bytealg.IndexString", "internal/bytealg.CountString"], named := ["internal/bytealg.MaxLen", "unicode/utf8.first", "unicode/utf8.acceptRanges"], apart := false, laid := [("unicode/utf8.acceptRanges", laid_unicode_utf8_acceptRanges), ("unicode/utf8.first", laid_unicode_utf8_first)], narrowed := true }
def PathListsUptoSaid : Prop := pathListsUptoRow.holds Tryd.pinned (OpenSpec.upto pathListsSpec)

/-- 'breakwaterlaw07.PathBack', WHERE WHAT IT READS IS OF BULK AT MOST 1048576: true; the input reads as it did. -/
def pathBackUptoRow : OpenClaim := { program := "ytkhpifjhnkknbaadoor", sum := "662976a2c3dc21f56adcefdf4a2a4b64d68f72b844e8b29c86b832c8481edec8", func := "breakwater/breakwaterlaw07.PathBack", spec := "pathBack", inPlace := ["internal/abi.NoEscape", "internal/bytealg.MakeNoZero", "internal/bytealg.IndexByteString", "internal/bytealg.IndexString", "internal/bytealg.CountString"], named := ["internal/bytealg.MaxLen", "unicode/utf8.first", "unicode/utf8.acceptRanges"], apart := false, laid := [("unicode/utf8.acceptRanges", laid_unicode_utf8_acceptRanges), ("unicode/utf8.first", laid_unicode_utf8_first)], narrowed := true }
def PathBackUptoSaid : Prop := pathBackUptoRow.holds Tryd.pinned (OpenSpec.upto pathBackSpec)

/-- 'breakwaterlaw07.PathOneForm', WHERE WHAT IT READS IS OF BULK AT MOST 1048576: true; the input reads as it did. -/
def pathOneFormUptoRow : OpenClaim := { program := "ytkhpifjhnkknbaadoor", sum := "662976a2c3dc21f56adcefdf4a2a4b64d68f72b844e8b29c86b832c8481edec8", func := "breakwater/breakwaterlaw07.PathOneForm", spec := "pathOneForm", inPlace := ["internal/bytealg.IndexByteString", "internal/bytealg.IndexString", "internal/bytealg.CountString", "internal/abi.NoEscape", "internal/bytealg.MakeNoZero"], named := ["internal/bytealg.MaxLen", "unicode/utf8.first", "unicode/utf8.acceptRanges"], apart := false, laid := [("unicode/utf8.acceptRanges", laid_unicode_utf8_acceptRanges), ("unicode/utf8.first", laid_unicode_utf8_first)], narrowed := true }
def PathOneFormUptoSaid : Prop := pathOneFormUptoRow.holds Tryd.pinned (OpenSpec.upto pathOneFormSpec)

/-- 'breakwaterlaw07.PathApart', WHERE WHAT IT READS IS OF BULK AT MOST 1048576: true; the input reads as it did. -/
def pathApartUptoRow : OpenClaim := { program := "ytkhpifjhnkknbaadoor", sum := "662976a2c3dc21f56adcefdf4a2a4b64d68f72b844e8b29c86b832c8481edec8", func := "breakwater/breakwaterlaw07.PathApart", spec := "pathApart", inPlace := ["internal/abi.NoEscape", "internal/bytealg.MakeNoZero", "internal/bytealg.IndexByteString", "internal/bytealg.IndexString", "internal/bytealg.CountString"], named := ["internal/bytealg.MaxLen", "unicode/utf8.first", "unicode/utf8.acceptRanges"], apart := false, laid := [("unicode/utf8.acceptRanges", laid_unicode_utf8_acceptRanges), ("unicode/utf8.first", laid_unicode_utf8_first)], narrowed := true }
def PathApartUptoSaid : Prop := pathApartUptoRow.holds Tryd.pinned (OpenSpec.upto pathApartSpec)

/-- 'breakwaterlaw07.PathRefuses', WHERE WHAT IT READS IS OF BULK AT MOST 1048576: true; the input reads as it did. -/
def pathRefusesUptoRow : OpenClaim := { program := "ytkhpifjhnkknbaadoor", sum := "662976a2c3dc21f56adcefdf4a2a4b64d68f72b844e8b29c86b832c8481edec8", func := "breakwater/breakwaterlaw07.PathRefuses", spec := "pathRefuses", inPlace := ["internal/abi.NoEscape", "internal/bytealg.MakeNoZero", "internal/bytealg.IndexByteString", "internal/bytealg.IndexString", "internal/bytealg.CountString"], named := ["internal/bytealg.MaxLen", "unicode/utf8.first", "unicode/utf8.acceptRanges"], apart := false, laid := [("unicode/utf8.acceptRanges", laid_unicode_utf8_acceptRanges), ("unicode/utf8.first", laid_unicode_utf8_first)], narrowed := true }
def PathRefusesUptoSaid : Prop := pathRefusesUptoRow.holds Tryd.pinned (OpenSpec.upto pathRefusesSpec)

/-- 'breakwaterlaw07.PathLong', WHERE WHAT IT READS IS OF BULK AT MOST 1048576: true; the input reads as it did. -/
def pathLongUptoRow : OpenClaim := { program := "ytkhpifjhnkknbaadoor", sum := "662976a2c3dc21f56adcefdf4a2a4b64d68f72b844e8b29c86b832c8481edec8", func := "breakwater/breakwaterlaw07.PathLong", spec := "pathLong", inPlace := ["internal/abi.NoEscape", "internal/bytealg.MakeNoZero", "internal/bytealg.IndexByteString", "internal/bytealg.IndexString", "internal/bytealg.CountString"], named := ["internal/bytealg.MaxLen", "unicode/utf8.first", "unicode/utf8.acceptRanges"], apart := false, laid := [("unicode/utf8.acceptRanges", laid_unicode_utf8_acceptRanges), ("unicode/utf8.first", laid_unicode_utf8_first)], narrowed := true }
def PathLongUptoSaid : Prop := pathLongUptoRow.holds Tryd.pinned (OpenSpec.upto pathLongSpec)

end Rows
end Go.Proofs.YtkhpifjhnkknbaaDoor
