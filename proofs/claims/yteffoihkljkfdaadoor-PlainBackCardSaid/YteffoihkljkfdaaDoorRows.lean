/-
  NARROWER THAN 'FOR EVERY INPUT', by the rows' own cells (each row's printed sentence says how): PlainNames: laid · PlainSizes: laid · PlainKept: laid · PlainRoom: laid · PlainBack: laid · PlainQuiet: laid.
  DERIVED. THE GIVEN ROWS OF THIS SEAT. 6 by the template 'for every input the law returns true; each argument reads behind the call as it read before'; 0 by the template 'total and deterministic' (their statements: YteffoihkljkfdaaDoorTotals.lean).
  GIVEN WITH THE SEED: the statements are not yours to turn. If you find one false, say at which input.
  Laid BY PROGRAM, IN A SANDBOX (cutbox-rows.mjs): the forced cells as the released guide's own fill.sh prints them over the translation ec2a334ddf453cd5… (all of the seat's roots in one cut). By AI agents, Wed Nov 11 2026. No macro, syntax, notation, axiom, sorry.
-/
import Derived.Test.YteffoihkljkfdaaDoorChecked
import GoSem.PinnedTables
import GoSem.Claim
import GoSem.ClaimJoined
import GoSem.ClaimMapViews
import Derived.JoinedTies
import Derived.KernelRfl
namespace Go.Proofs.YteffoihkljkfdaaDoor
/- THE CELL 'sum', in the pinned program and in every row, IS THE sha256 OF THE DUMP (.gsa) THAT YteffoihkljkfdaaDoorProg.lean LOADS. Nothing in Lean hashes anything: it is a label: what it is worth is what the hold of that sum in a sandbox is worth. -/
noncomputable def Tryd.pinned : Pinned := { name := "yteffoihkljkfdaadoor", sum := "ec2a334ddf453cd5e4d52e2ba9eac783669fac4027f47076d5378d56ef49111b", checked := Tryd.checked }
namespace Rows
def none {H : Type} : Left H := { results := [], args := [] }

/- WHAT THE LISTED PACKAGE-LEVEL VARIABLES READ AS WHEN THE CALL BEGINS. Each datum BY PROGRAM (the guide's laid-datum.mjs) off the statement by which the dump's own 'gosem.cut.vars' lays the variable. In a bare row this is a premise. The card (YteffoihkljkfdaaDoorCards.lean) ties it to the program's text. -/
def laid_unicode_utf8_acceptRanges {H : Type} : DataW H := .agg [.agg [.lit (.int .u8 128), .lit (.int .u8 191)], .agg [.lit (.int .u8 160), .lit (.int .u8 191)], .agg [.lit (.int .u8 128), .lit (.int .u8 159)], .agg [.lit (.int .u8 144), .lit (.int .u8 191)], .agg [.lit (.int .u8 128), .lit (.int .u8 143)], .agg [.lit (.int .u8 0), .lit (.int .u8 0)], .agg [.lit (.int .u8 0), .lit (.int .u8 0)], .agg [.lit (.int .u8 0), .lit (.int .u8 0)], .agg [.lit (.int .u8 0), .lit (.int .u8 0)], .agg [.lit (.int .u8 0), .lit (.int .u8 0)], .agg [.lit (.int .u8 0), .lit (.int .u8 0)], .agg [.lit (.int .u8 0), .lit (.int .u8 0)], .agg [.lit (.int .u8 0), .lit (.int .u8 0)], .agg [.lit (.int .u8 0), .lit (.int .u8 0)], .agg [.lit (.int .u8 0), .lit (.int .u8 0)], .agg [.lit (.int .u8 0), .lit (.int .u8 0)]]
/-- One of Go's own tables, pinned by name: the form's constant. -/
def laid_unicode_utf8_first : DataW Unit := Go.Pinned.utf8First

/-- 'breakwaterlaw16.PlainNames': WHATEVER THE INPUT: true; the input reads as it did. -/
def plainNamesSpec : ChangeSpec := { name := "plainNames", fn := fun _ => fun
  | [] => { results := [.lit (.bool true)], args := [] }
  | _ => none }
def plainNamesRow : OpenClaim := { program := "yteffoihkljkfdaadoor", sum := "ec2a334ddf453cd5e4d52e2ba9eac783669fac4027f47076d5378d56ef49111b", func := "breakwater/breakwaterlaw16.PlainNames", spec := "plainNames", inPlace := ["internal/bytealg.IndexByteString", "internal/bytealg.IndexString", "internal/bytealg.CountString", "internal/bytealg.abigen_runtime_cmpstring", "maps.clone"], unfollowed := true, recurses := true, named := ["internal/bytealg.MaxLen", "unicode/utf8.first", "unicode/utf8.acceptRanges"], apart := false, laid := [("unicode/utf8.acceptRanges", laid_unicode_utf8_acceptRanges), ("unicode/utf8.first", laid_unicode_utf8_first)] }
def PlainNamesSaid : Prop := plainNamesRow.holds Tryd.pinned (OpenSpec.ofChange plainNamesSpec)

/-- ITS FALSE NEIGHBOUR: 'it returns false'. Refute it at one input. -/
def plainNamesWrong : ChangeSpec := { name := "plainNames", fn := fun _ => fun
  | [] => { results := [.lit (.bool false)], args := [] }
  | _ => none }
def PlainNamesWrongFalsely : Prop := plainNamesRow.holds Tryd.pinned (OpenSpec.ofChange plainNamesWrong)

/-- 'breakwaterlaw16.PlainSizes': WHATEVER THE INPUT: true; the input reads as it did. -/
def plainSizesSpec : ChangeSpec := { name := "plainSizes", fn := fun _ => fun
  | [d1, d2] => { results := [.lit (.bool true)], args := [d1, d2] }
  | _ => none }
def plainSizesRow : OpenClaim := { program := "yteffoihkljkfdaadoor", sum := "ec2a334ddf453cd5e4d52e2ba9eac783669fac4027f47076d5378d56ef49111b", func := "breakwater/breakwaterlaw16.PlainSizes", spec := "plainSizes", inPlace := ["internal/bytealg.IndexByteString", "internal/bytealg.IndexString", "internal/bytealg.CountString", "internal/bytealg.abigen_runtime_cmpstring", "maps.clone"], unfollowed := true, recurses := true, named := ["internal/bytealg.MaxLen", "unicode/utf8.first", "unicode/utf8.acceptRanges"], apart := false, laid := [("unicode/utf8.acceptRanges", laid_unicode_utf8_acceptRanges), ("unicode/utf8.first", laid_unicode_utf8_first)] }
def PlainSizesSaid : Prop := plainSizesRow.holds Tryd.pinned (OpenSpec.ofChange plainSizesSpec)

/-- ITS FALSE NEIGHBOUR: 'it returns false'. Refute it at one input. -/
def plainSizesWrong : ChangeSpec := { name := "plainSizes", fn := fun _ => fun
  | [d1, d2] => { results := [.lit (.bool false)], args := [d1, d2] }
  | _ => none }
def PlainSizesWrongFalsely : Prop := plainSizesRow.holds Tryd.pinned (OpenSpec.ofChange plainSizesWrong)

/-- 'breakwaterlaw16.PlainKept': WHATEVER THE INPUT: true; the input reads as it did. -/
def plainKeptSpec : ChangeSpec := { name := "plainKept", fn := fun _ => fun
  | [d1, d2] => { results := [.lit (.bool true)], args := [d1, d2] }
  | _ => none }
def plainKeptRow : OpenClaim := { program := "yteffoihkljkfdaadoor", sum := "ec2a334ddf453cd5e4d52e2ba9eac783669fac4027f47076d5378d56ef49111b", func := "breakwater/breakwaterlaw16.PlainKept", spec := "plainKept", inPlace := ["internal/bytealg.IndexByteString", "internal/bytealg.IndexString", "internal/bytealg.CountString", "internal/bytealg.abigen_runtime_cmpstring", "maps.clone"], unfollowed := true, recurses := true, named := ["internal/bytealg.MaxLen", "unicode/utf8.first", "unicode/utf8.acceptRanges"], apart := false, laid := [("unicode/utf8.acceptRanges", laid_unicode_utf8_acceptRanges), ("unicode/utf8.first", laid_unicode_utf8_first)] }
def PlainKeptSaid : Prop := plainKeptRow.holds Tryd.pinned (OpenSpec.ofChange plainKeptSpec)

/-- ITS FALSE NEIGHBOUR: 'it returns false'. Refute it at one input. -/
def plainKeptWrong : ChangeSpec := { name := "plainKept", fn := fun _ => fun
  | [d1, d2] => { results := [.lit (.bool false)], args := [d1, d2] }
  | _ => none }
def PlainKeptWrongFalsely : Prop := plainKeptRow.holds Tryd.pinned (OpenSpec.ofChange plainKeptWrong)

/-- 'breakwaterlaw16.PlainRoom': WHATEVER THE INPUT: true; the input reads as it did. -/
def plainRoomSpec : ChangeSpec := { name := "plainRoom", fn := fun _ => fun
  | [d1, d2] => { results := [.lit (.bool true)], args := [d1, d2] }
  | _ => none }
def plainRoomRow : OpenClaim := { program := "yteffoihkljkfdaadoor", sum := "ec2a334ddf453cd5e4d52e2ba9eac783669fac4027f47076d5378d56ef49111b", func := "breakwater/breakwaterlaw16.PlainRoom", spec := "plainRoom", inPlace := ["internal/bytealg.IndexByteString", "internal/bytealg.IndexString", "internal/bytealg.CountString", "internal/bytealg.abigen_runtime_cmpstring", "maps.clone"], unfollowed := true, recurses := true, named := ["internal/bytealg.MaxLen", "unicode/utf8.first", "unicode/utf8.acceptRanges"], apart := false, laid := [("unicode/utf8.acceptRanges", laid_unicode_utf8_acceptRanges), ("unicode/utf8.first", laid_unicode_utf8_first)] }
def PlainRoomSaid : Prop := plainRoomRow.holds Tryd.pinned (OpenSpec.ofChange plainRoomSpec)

/-- ITS FALSE NEIGHBOUR: 'it returns false'. Refute it at one input. -/
def plainRoomWrong : ChangeSpec := { name := "plainRoom", fn := fun _ => fun
  | [d1, d2] => { results := [.lit (.bool false)], args := [d1, d2] }
  | _ => none }
def PlainRoomWrongFalsely : Prop := plainRoomRow.holds Tryd.pinned (OpenSpec.ofChange plainRoomWrong)

/-- 'breakwaterlaw16.PlainBack': WHATEVER THE INPUT: true; the input reads as it did. -/
def plainBackSpec : ChangeSpec := { name := "plainBack", fn := fun _ => fun
  | [d1, d2, d3] => { results := [.lit (.bool true)], args := [d1, d2, d3] }
  | _ => none }
def plainBackRow : OpenClaim := { program := "yteffoihkljkfdaadoor", sum := "ec2a334ddf453cd5e4d52e2ba9eac783669fac4027f47076d5378d56ef49111b", func := "breakwater/breakwaterlaw16.PlainBack", spec := "plainBack", inPlace := ["internal/bytealg.IndexByteString", "internal/bytealg.IndexString", "internal/bytealg.CountString", "internal/bytealg.abigen_runtime_cmpstring", "maps.clone"], unfollowed := true, recurses := true, named := ["internal/bytealg.MaxLen", "unicode/utf8.first", "unicode/utf8.acceptRanges"], apart := false, laid := [("unicode/utf8.acceptRanges", laid_unicode_utf8_acceptRanges), ("unicode/utf8.first", laid_unicode_utf8_first)] }
def PlainBackSaid : Prop := plainBackRow.holds Tryd.pinned (OpenSpec.ofChange plainBackSpec)

/-- ITS FALSE NEIGHBOUR: 'it returns false'. Refute it at one input. -/
def plainBackWrong : ChangeSpec := { name := "plainBack", fn := fun _ => fun
  | [d1, d2, d3] => { results := [.lit (.bool false)], args := [d1, d2, d3] }
  | _ => none }
def PlainBackWrongFalsely : Prop := plainBackRow.holds Tryd.pinned (OpenSpec.ofChange plainBackWrong)

/-- 'breakwaterlaw16.PlainQuiet': WHATEVER THE INPUT: true; the input reads as it did. -/
def plainQuietSpec : ChangeSpec := { name := "plainQuiet", fn := fun _ => fun
  | [d1, d2, d3] => { results := [.lit (.bool true)], args := [d1, d2, d3] }
  | _ => none }
def plainQuietRow : OpenClaim := { program := "yteffoihkljkfdaadoor", sum := "ec2a334ddf453cd5e4d52e2ba9eac783669fac4027f47076d5378d56ef49111b", func := "breakwater/breakwaterlaw16.PlainQuiet", spec := "plainQuiet", inPlace := ["internal/bytealg.IndexByteString", "internal/bytealg.IndexString", "internal/bytealg.CountString", "internal/bytealg.abigen_runtime_cmpstring", "maps.clone"], unfollowed := true, recurses := true, named := ["internal/bytealg.MaxLen", "unicode/utf8.first", "unicode/utf8.acceptRanges"], apart := false, laid := [("unicode/utf8.acceptRanges", laid_unicode_utf8_acceptRanges), ("unicode/utf8.first", laid_unicode_utf8_first)] }
def PlainQuietSaid : Prop := plainQuietRow.holds Tryd.pinned (OpenSpec.ofChange plainQuietSpec)

/-- ITS FALSE NEIGHBOUR: 'it returns false'. Refute it at one input. -/
def plainQuietWrong : ChangeSpec := { name := "plainQuiet", fn := fun _ => fun
  | [d1, d2, d3] => { results := [.lit (.bool false)], args := [d1, d2, d3] }
  | _ => none }
def PlainQuietWrongFalsely : Prop := plainQuietRow.holds Tryd.pinned (OpenSpec.ofChange plainQuietWrong)

/- THE SECOND FORM. 'bulk': how many values and letters a reading holds, each counted each time it is reached (what is shared counts as often as it is met; a slice's spare places count too). A statement '..UptoSaid' is the law's where the arguments, and the package variables that the reading takes, are together of bulk at most 1048576: NARROWER than '..Said'. Prove '..Said' where nothing that the law and all that it calls make is longer than what came in: it says more and counts as full. Else prove '..UptoSaid'. A law counts once. -/
mutual
def uptoBulk {H : Type} : DataW H → Nat
  | .lit (.string bytes) => bytes.length + 1
  | .lit _ => 1
  | .nil => 1
  | .ptr d => uptoBulk d + 1
  | .slice elems spare => uptoBulkAll elems + uptoBulkAll spare + 1
  | .agg parts => uptoBulkAll parts + 1
  | .iface _ d => uptoBulk d + 1
  | .map entries => uptoBulkEntries entries + 1
  | .held _ => 1
def uptoBulkAll {H : Type} : List (DataW H) → Nat
  | [] => 0
  | d :: r => uptoBulk d + uptoBulkAll r
def uptoBulkEntries {H : Type} : List (Lit × DataW H) → Nat
  | [] => 0
  | x :: r => uptoBulkEntry x + uptoBulkEntries r
def uptoBulkEntry {H : Type} : Lit × DataW H → Nat
  | (.string bytes, d) => bytes.length + uptoBulk d + 1
  | (_, d) => uptoBulk d + 1
 end
def uptoSmall : (H : Type) → List (DataW H) → Bool := fun _ ds => decide (uptoBulkAll ds ≤ 1048576)
def OpenSpec.upto (s : _root_.Go.ChangeSpec) : _root_.Go.OpenSpec := { _root_.Go.OpenSpec.ofChange s with cond := some uptoSmall }

/-- 'breakwaterlaw16.PlainNames', WHERE WHAT IT READS IS OF BULK AT MOST 1048576: true; the input reads as it did. -/
def plainNamesUptoRow : OpenClaim := { program := "yteffoihkljkfdaadoor", sum := "ec2a334ddf453cd5e4d52e2ba9eac783669fac4027f47076d5378d56ef49111b", func := "breakwater/breakwaterlaw16.PlainNames", spec := "plainNames", inPlace := ["internal/bytealg.IndexByteString", "internal/bytealg.IndexString", "internal/bytealg.CountString", "internal/bytealg.abigen_runtime_cmpstring", "maps.clone"], unfollowed := true, recurses := true, named := ["internal/bytealg.MaxLen", "unicode/utf8.first", "unicode/utf8.acceptRanges"], apart := false, laid := [("unicode/utf8.acceptRanges", laid_unicode_utf8_acceptRanges), ("unicode/utf8.first", laid_unicode_utf8_first)], narrowed := true }
def PlainNamesUptoSaid : Prop := plainNamesUptoRow.holds Tryd.pinned (OpenSpec.upto plainNamesSpec)

/-- 'breakwaterlaw16.PlainSizes', WHERE WHAT IT READS IS OF BULK AT MOST 1048576: true; the input reads as it did. -/
def plainSizesUptoRow : OpenClaim := { program := "yteffoihkljkfdaadoor", sum := "ec2a334ddf453cd5e4d52e2ba9eac783669fac4027f47076d5378d56ef49111b", func := "breakwater/breakwaterlaw16.PlainSizes", spec := "plainSizes", inPlace := ["internal/bytealg.IndexByteString", "internal/bytealg.IndexString", "internal/bytealg.CountString", "internal/bytealg.abigen_runtime_cmpstring", "maps.clone"], unfollowed := true, recurses := true, named := ["internal/bytealg.MaxLen", "unicode/utf8.first", "unicode/utf8.acceptRanges"], apart := false, laid := [("unicode/utf8.acceptRanges", laid_unicode_utf8_acceptRanges), ("unicode/utf8.first", laid_unicode_utf8_first)], narrowed := true }
def PlainSizesUptoSaid : Prop := plainSizesUptoRow.holds Tryd.pinned (OpenSpec.upto plainSizesSpec)

/-- 'breakwaterlaw16.PlainKept', WHERE WHAT IT READS IS OF BULK AT MOST 1048576: true; the input reads as it did. -/
def plainKeptUptoRow : OpenClaim := { program := "yteffoihkljkfdaadoor", sum := "ec2a334ddf453cd5e4d52e2ba9eac783669fac4027f47076d5378d56ef49111b", func := "breakwater/breakwaterlaw16.PlainKept", spec := "plainKept", inPlace := ["internal/bytealg.IndexByteString", "internal/bytealg.IndexString", "internal/bytealg.CountString", "internal/bytealg.abigen_runtime_cmpstring", "maps.clone"], unfollowed := true, recurses := true, named := ["internal/bytealg.MaxLen", "unicode/utf8.first", "unicode/utf8.acceptRanges"], apart := false, laid := [("unicode/utf8.acceptRanges", laid_unicode_utf8_acceptRanges), ("unicode/utf8.first", laid_unicode_utf8_first)], narrowed := true }
def PlainKeptUptoSaid : Prop := plainKeptUptoRow.holds Tryd.pinned (OpenSpec.upto plainKeptSpec)

/-- 'breakwaterlaw16.PlainRoom', WHERE WHAT IT READS IS OF BULK AT MOST 1048576: true; the input reads as it did. -/
def plainRoomUptoRow : OpenClaim := { program := "yteffoihkljkfdaadoor", sum := "ec2a334ddf453cd5e4d52e2ba9eac783669fac4027f47076d5378d56ef49111b", func := "breakwater/breakwaterlaw16.PlainRoom", spec := "plainRoom", inPlace := ["internal/bytealg.IndexByteString", "internal/bytealg.IndexString", "internal/bytealg.CountString", "internal/bytealg.abigen_runtime_cmpstring", "maps.clone"], unfollowed := true, recurses := true, named := ["internal/bytealg.MaxLen", "unicode/utf8.first", "unicode/utf8.acceptRanges"], apart := false, laid := [("unicode/utf8.acceptRanges", laid_unicode_utf8_acceptRanges), ("unicode/utf8.first", laid_unicode_utf8_first)], narrowed := true }
def PlainRoomUptoSaid : Prop := plainRoomUptoRow.holds Tryd.pinned (OpenSpec.upto plainRoomSpec)

/-- 'breakwaterlaw16.PlainBack', WHERE WHAT IT READS IS OF BULK AT MOST 1048576: true; the input reads as it did. -/
def plainBackUptoRow : OpenClaim := { program := "yteffoihkljkfdaadoor", sum := "ec2a334ddf453cd5e4d52e2ba9eac783669fac4027f47076d5378d56ef49111b", func := "breakwater/breakwaterlaw16.PlainBack", spec := "plainBack", inPlace := ["internal/bytealg.IndexByteString", "internal/bytealg.IndexString", "internal/bytealg.CountString", "internal/bytealg.abigen_runtime_cmpstring", "maps.clone"], unfollowed := true, recurses := true, named := ["internal/bytealg.MaxLen", "unicode/utf8.first", "unicode/utf8.acceptRanges"], apart := false, laid := [("unicode/utf8.acceptRanges", laid_unicode_utf8_acceptRanges), ("unicode/utf8.first", laid_unicode_utf8_first)], narrowed := true }
def PlainBackUptoSaid : Prop := plainBackUptoRow.holds Tryd.pinned (OpenSpec.upto plainBackSpec)

/-- 'breakwaterlaw16.PlainQuiet', WHERE WHAT IT READS IS OF BULK AT MOST 1048576: true; the input reads as it did. -/
def plainQuietUptoRow : OpenClaim := { program := "yteffoihkljkfdaadoor", sum := "ec2a334ddf453cd5e4d52e2ba9eac783669fac4027f47076d5378d56ef49111b", func := "breakwater/breakwaterlaw16.PlainQuiet", spec := "plainQuiet", inPlace := ["internal/bytealg.IndexByteString", "internal/bytealg.IndexString", "internal/bytealg.CountString", "internal/bytealg.abigen_runtime_cmpstring", "maps.clone"], unfollowed := true, recurses := true, named := ["internal/bytealg.MaxLen", "unicode/utf8.first", "unicode/utf8.acceptRanges"], apart := false, laid := [("unicode/utf8.acceptRanges", laid_unicode_utf8_acceptRanges), ("unicode/utf8.first", laid_unicode_utf8_first)], narrowed := true }
def PlainQuietUptoSaid : Prop := plainQuietUptoRow.holds Tryd.pinned (OpenSpec.upto plainQuietSpec)

end Rows
end Go.Proofs.YteffoihkljkfdaaDoor
