/-
  No cell of these rows narrows 'for every input' (looked for: loops, veiled, ifaces, maps, wideKeys, modest, calm, conditions, laid).
  DERIVED. THE GIVEN ROWS OF THIS SEAT. 8 by the template 'for every input the law returns true; each argument reads behind the call as it read before'; 0 by the template 'total and deterministic' (their statements: YthgiolofnkdfoaaTotals.lean).
  GIVEN WITH THE SEED: the statements are not yours to turn. If you find one false, say at which input.
  Laid BY PROGRAM, IN A SANDBOX (cutbox-rows.mjs): the forced cells as the released guide's own fill.sh prints them over the translation 0eac2552f58d4eb3… (all of the seat's roots in one cut). By AI agents, Wed Nov 11 2026. No macro, syntax, notation, axiom, sorry.
-/
import Derived.Test.YthgiolofnkdfoaaChecked
import GoSem.Claim
import GoSem.ClaimJoined
import GoSem.ClaimMapViews
import Derived.JoinedTies
import Derived.KernelRfl
namespace Go.Proofs.Ythgiolofnkdfoaa
/- THE CELL 'sum', in the pinned program and in every row, IS THE sha256 OF THE DUMP (.gsa) THAT YthgiolofnkdfoaaProg.lean LOADS. Nothing in Lean hashes anything: it is a label: what it is worth is what the hold of that sum in a sandbox is worth. -/
noncomputable def Try.pinned : Pinned := { name := "ythgiolofnkdfoaa", sum := "0eac2552f58d4eb3a5302c7b236738fb292674245494a917ffd2eca00a77d3f2", checked := Try.checked }
namespace Rows
def none {H : Type} : Left H := { results := [], args := [] }

/-- 'breakwaterlaw06.LayoutSlots': WHATEVER THE INPUT: true; the input reads as it did. -/
def layoutSlotsSpec : ChangeSpec := { name := "layoutSlots", fn := fun _ => fun
  | [d1, d2] => { results := [.lit (.bool true)], args := [d1, d2] }
  | _ => none }
def layoutSlotsRow : OpenClaim := { program := "ythgiolofnkdfoaa", sum := "0eac2552f58d4eb3a5302c7b236738fb292674245494a917ffd2eca00a77d3f2", func := "breakwater/breakwaterlaw06.LayoutSlots", spec := "layoutSlots", inPlace := ["internal/bytealg.IndexByteString", "internal/bytealg.IndexString"], unfollowed := true, recurses := true, named := ["internal/bytealg.MaxLen"], apart := false }
def LayoutSlotsSaid : Prop := layoutSlotsRow.holds Try.pinned (OpenSpec.ofChange layoutSlotsSpec)

/-- ITS FALSE NEIGHBOUR: 'it returns false'. Refute it at one input. -/
def layoutSlotsWrong : ChangeSpec := { name := "layoutSlots", fn := fun _ => fun
  | [d1, d2] => { results := [.lit (.bool false)], args := [d1, d2] }
  | _ => none }
def LayoutSlotsWrongFalsely : Prop := layoutSlotsRow.holds Try.pinned (OpenSpec.ofChange layoutSlotsWrong)

/-- 'breakwaterlaw06.LayoutSupers': WHATEVER THE INPUT: true; the input reads as it did. -/
def layoutSupersSpec : ChangeSpec := { name := "layoutSupers", fn := fun _ => fun
  | [d1, d2, d3] => { results := [.lit (.bool true)], args := [d1, d2, d3] }
  | _ => none }
def layoutSupersRow : OpenClaim := { program := "ythgiolofnkdfoaa", sum := "0eac2552f58d4eb3a5302c7b236738fb292674245494a917ffd2eca00a77d3f2", func := "breakwater/breakwaterlaw06.LayoutSupers", spec := "layoutSupers", inPlace := ["internal/bytealg.IndexByteString", "internal/bytealg.IndexString"], unfollowed := true, recurses := true, named := ["internal/bytealg.MaxLen"], apart := false }
def LayoutSupersSaid : Prop := layoutSupersRow.holds Try.pinned (OpenSpec.ofChange layoutSupersSpec)

/-- ITS FALSE NEIGHBOUR: 'it returns false'. Refute it at one input. -/
def layoutSupersWrong : ChangeSpec := { name := "layoutSupers", fn := fun _ => fun
  | [d1, d2, d3] => { results := [.lit (.bool false)], args := [d1, d2, d3] }
  | _ => none }
def LayoutSupersWrongFalsely : Prop := layoutSupersRow.holds Try.pinned (OpenSpec.ofChange layoutSupersWrong)

/-- 'breakwaterlaw06.LayoutParts': WHATEVER THE INPUT: true; the input reads as it did. -/
def layoutPartsSpec : ChangeSpec := { name := "layoutParts", fn := fun _ => fun
  | [d] => { results := [.lit (.bool true)], args := [d] }
  | _ => none }
def layoutPartsRow : OpenClaim := { program := "ythgiolofnkdfoaa", sum := "0eac2552f58d4eb3a5302c7b236738fb292674245494a917ffd2eca00a77d3f2", func := "breakwater/breakwaterlaw06.LayoutParts", spec := "layoutParts", inPlace := ["internal/bytealg.IndexByteString", "internal/bytealg.IndexString"], unfollowed := true, recurses := true, named := ["internal/bytealg.MaxLen"], apart := false }
def LayoutPartsSaid : Prop := layoutPartsRow.holds Try.pinned (OpenSpec.ofChange layoutPartsSpec)

/-- ITS FALSE NEIGHBOUR: 'it returns false'. Refute it at one input. -/
def layoutPartsWrong : ChangeSpec := { name := "layoutParts", fn := fun _ => fun
  | [d] => { results := [.lit (.bool false)], args := [d] }
  | _ => none }
def LayoutPartsWrongFalsely : Prop := layoutPartsRow.holds Try.pinned (OpenSpec.ofChange layoutPartsWrong)

/-- 'breakwaterlaw06.LayoutInodes': WHATEVER THE INPUT: true; the input reads as it did. -/
def layoutInodesSpec : ChangeSpec := { name := "layoutInodes", fn := fun _ => fun
  | [d1, d2] => { results := [.lit (.bool true)], args := [d1, d2] }
  | _ => none }
def layoutInodesRow : OpenClaim := { program := "ythgiolofnkdfoaa", sum := "0eac2552f58d4eb3a5302c7b236738fb292674245494a917ffd2eca00a77d3f2", func := "breakwater/breakwaterlaw06.LayoutInodes", spec := "layoutInodes", inPlace := ["internal/bytealg.IndexByteString", "internal/bytealg.IndexString"], unfollowed := true, recurses := true, named := ["internal/bytealg.MaxLen"], apart := false }
def LayoutInodesSaid : Prop := layoutInodesRow.holds Try.pinned (OpenSpec.ofChange layoutInodesSpec)

/-- ITS FALSE NEIGHBOUR: 'it returns false'. Refute it at one input. -/
def layoutInodesWrong : ChangeSpec := { name := "layoutInodes", fn := fun _ => fun
  | [d1, d2] => { results := [.lit (.bool false)], args := [d1, d2] }
  | _ => none }
def LayoutInodesWrongFalsely : Prop := layoutInodesRow.holds Try.pinned (OpenSpec.ofChange layoutInodesWrong)

/-- 'breakwaterlaw06.LayoutPointers': WHATEVER THE INPUT: true; the input reads as it did. -/
def layoutPointersSpec : ChangeSpec := { name := "layoutPointers", fn := fun _ => fun
  | [d1, d2] => { results := [.lit (.bool true)], args := [d1, d2] }
  | _ => none }
def layoutPointersRow : OpenClaim := { program := "ythgiolofnkdfoaa", sum := "0eac2552f58d4eb3a5302c7b236738fb292674245494a917ffd2eca00a77d3f2", func := "breakwater/breakwaterlaw06.LayoutPointers", spec := "layoutPointers", inPlace := ["internal/bytealg.IndexByteString", "internal/bytealg.IndexString"], unfollowed := true, recurses := true, named := ["internal/bytealg.MaxLen"], apart := false }
def LayoutPointersSaid : Prop := layoutPointersRow.holds Try.pinned (OpenSpec.ofChange layoutPointersSpec)

/-- ITS FALSE NEIGHBOUR: 'it returns false'. Refute it at one input. -/
def layoutPointersWrong : ChangeSpec := { name := "layoutPointers", fn := fun _ => fun
  | [d1, d2] => { results := [.lit (.bool false)], args := [d1, d2] }
  | _ => none }
def LayoutPointersWrongFalsely : Prop := layoutPointersRow.holds Try.pinned (OpenSpec.ofChange layoutPointersWrong)

/-- 'breakwaterlaw06.LayoutBack': WHATEVER THE INPUT: true; the input reads as it did. -/
def layoutBackSpec : ChangeSpec := { name := "layoutBack", fn := fun _ => fun
  | [d] => { results := [.lit (.bool true)], args := [d] }
  | _ => none }
def layoutBackRow : OpenClaim := { program := "ythgiolofnkdfoaa", sum := "0eac2552f58d4eb3a5302c7b236738fb292674245494a917ffd2eca00a77d3f2", func := "breakwater/breakwaterlaw06.LayoutBack", spec := "layoutBack", inPlace := ["internal/bytealg.IndexByteString", "internal/bytealg.IndexString"], unfollowed := true, recurses := true, named := ["internal/bytealg.MaxLen"], apart := false }
def LayoutBackSaid : Prop := layoutBackRow.holds Try.pinned (OpenSpec.ofChange layoutBackSpec)

/-- ITS FALSE NEIGHBOUR: 'it returns false'. Refute it at one input. -/
def layoutBackWrong : ChangeSpec := { name := "layoutBack", fn := fun _ => fun
  | [d] => { results := [.lit (.bool false)], args := [d] }
  | _ => none }
def LayoutBackWrongFalsely : Prop := layoutBackRow.holds Try.pinned (OpenSpec.ofChange layoutBackWrong)

/-- 'breakwaterlaw06.LayoutOne': WHATEVER THE INPUT: true; the input reads as it did. -/
def layoutOneSpec : ChangeSpec := { name := "layoutOne", fn := fun _ => fun
  | [d] => { results := [.lit (.bool true)], args := [d] }
  | _ => none }
def layoutOneRow : OpenClaim := { program := "ythgiolofnkdfoaa", sum := "0eac2552f58d4eb3a5302c7b236738fb292674245494a917ffd2eca00a77d3f2", func := "breakwater/breakwaterlaw06.LayoutOne", spec := "layoutOne", inPlace := ["internal/bytealg.IndexByteString", "internal/bytealg.IndexString"], unfollowed := true, recurses := true, named := ["internal/bytealg.MaxLen"], apart := false }
def LayoutOneSaid : Prop := layoutOneRow.holds Try.pinned (OpenSpec.ofChange layoutOneSpec)

/-- ITS FALSE NEIGHBOUR: 'it returns false'. Refute it at one input. -/
def layoutOneWrong : ChangeSpec := { name := "layoutOne", fn := fun _ => fun
  | [d] => { results := [.lit (.bool false)], args := [d] }
  | _ => none }
def LayoutOneWrongFalsely : Prop := layoutOneRow.holds Try.pinned (OpenSpec.ofChange layoutOneWrong)

/-- 'breakwaterlaw06.LayoutTurned': WHATEVER THE INPUT: true; the input reads as it did. -/
def layoutTurnedSpec : ChangeSpec := { name := "layoutTurned", fn := fun _ => fun
  | [d1, d2, d3] => { results := [.lit (.bool true)], args := [d1, d2, d3] }
  | _ => none }
def layoutTurnedRow : OpenClaim := { program := "ythgiolofnkdfoaa", sum := "0eac2552f58d4eb3a5302c7b236738fb292674245494a917ffd2eca00a77d3f2", func := "breakwater/breakwaterlaw06.LayoutTurned", spec := "layoutTurned", inPlace := ["internal/bytealg.IndexByteString", "internal/bytealg.IndexString"], unfollowed := true, recurses := true, named := ["internal/bytealg.MaxLen"], apart := false }
def LayoutTurnedSaid : Prop := layoutTurnedRow.holds Try.pinned (OpenSpec.ofChange layoutTurnedSpec)

/-- ITS FALSE NEIGHBOUR: 'it returns false'. Refute it at one input. -/
def layoutTurnedWrong : ChangeSpec := { name := "layoutTurned", fn := fun _ => fun
  | [d1, d2, d3] => { results := [.lit (.bool false)], args := [d1, d2, d3] }
  | _ => none }
def LayoutTurnedWrongFalsely : Prop := layoutTurnedRow.holds Try.pinned (OpenSpec.ofChange layoutTurnedWrong)

/- THE SECOND FORM. 'bulk': how many values and letters a reading holds, each counted each time it is reached (what is shared counts as often as it is met; a slice's spare places count too). A statement '..UptoSaid' is the law's where the arguments, and the package variables that the reading takes, are together of bulk at most 1048576: NARROWER than '..Said'. Prove '..Said' where nothing that the law and all that it calls make is longer than what came in: it says more and counts as full. Else prove '..UptoSaid'. A law counts once. -/
mutual
def uptoBulk {H : Type} : DataW H → Nat
  | .lit (.string bytes) => bytes.length + 1
  | .lit _ => 1
  | .nil => 1
  | .ptr d => uptoBulk d + 1
  | .slice elems spare => uptoBulkAll elems + uptoBulkAll spare + 1
  | .agg parts => uptoBulkAll parts + 1
  | .iface _ d => uptoBulk d + 1
  | .map entries => uptoBulkEntries entries + 1
  | .held _ => 1
def uptoBulkAll {H : Type} : List (DataW H) → Nat
  | [] => 0
  | d :: r => uptoBulk d + uptoBulkAll r
def uptoBulkEntries {H : Type} : List (Lit × DataW H) → Nat
  | [] => 0
  | x :: r => uptoBulkEntry x + uptoBulkEntries r
def uptoBulkEntry {H : Type} : Lit × DataW H → Nat
  | (.string bytes, d) => bytes.length + uptoBulk d + 1
  | (_, d) => uptoBulk d + 1
 end
def uptoSmall : (H : Type) → List (DataW H) → Bool := fun _ ds => decide (uptoBulkAll ds ≤ 1048576)
def OpenSpec.upto (s : _root_.Go.ChangeSpec) : _root_.Go.OpenSpec := { _root_.Go.OpenSpec.ofChange s with cond := some uptoSmall }

/-- 'breakwaterlaw06.LayoutSlots', WHERE WHAT IT READS IS OF BULK AT MOST 1048576: true; the input reads as it did. -/
def layoutSlotsUptoRow : OpenClaim := { program := "ythgiolofnkdfoaa", sum := "0eac2552f58d4eb3a5302c7b236738fb292674245494a917ffd2eca00a77d3f2", func := "breakwater/breakwaterlaw06.LayoutSlots", spec := "layoutSlots", inPlace := ["internal/bytealg.IndexByteString", "internal/bytealg.IndexString"], unfollowed := true, recurses := true, named := ["internal/bytealg.MaxLen"], apart := false, narrowed := true }
def LayoutSlotsUptoSaid : Prop := layoutSlotsUptoRow.holds Try.pinned (OpenSpec.upto layoutSlotsSpec)

/-- 'breakwaterlaw06.LayoutSupers', WHERE WHAT IT READS IS OF BULK AT MOST 1048576: true; the input reads as it did. -/
def layoutSupersUptoRow : OpenClaim := { program := "ythgiolofnkdfoaa", sum := "0eac2552f58d4eb3a5302c7b236738fb292674245494a917ffd2eca00a77d3f2", func := "breakwater/breakwaterlaw06.LayoutSupers", spec := "layoutSupers", inPlace := ["internal/bytealg.IndexByteString", "internal/bytealg.IndexString"], unfollowed := true, recurses := true, named := ["internal/bytealg.MaxLen"], apart := false, narrowed := true }
def LayoutSupersUptoSaid : Prop := layoutSupersUptoRow.holds Try.pinned (OpenSpec.upto layoutSupersSpec)

/-- 'breakwaterlaw06.LayoutParts', WHERE WHAT IT READS IS OF BULK AT MOST 1048576: true; the input reads as it did. -/
def layoutPartsUptoRow : OpenClaim := { program := "ythgiolofnkdfoaa", sum := "0eac2552f58d4eb3a5302c7b236738fb292674245494a917ffd2eca00a77d3f2", func := "breakwater/breakwaterlaw06.LayoutParts", spec := "layoutParts", inPlace := ["internal/bytealg.IndexByteString", "internal/bytealg.IndexString"], unfollowed := true, recurses := true, named := ["internal/bytealg.MaxLen"], apart := false, narrowed := true }
def LayoutPartsUptoSaid : Prop := layoutPartsUptoRow.holds Try.pinned (OpenSpec.upto layoutPartsSpec)

/-- 'breakwaterlaw06.LayoutInodes', WHERE WHAT IT READS IS OF BULK AT MOST 1048576: true; the input reads as it did. -/
def layoutInodesUptoRow : OpenClaim := { program := "ythgiolofnkdfoaa", sum := "0eac2552f58d4eb3a5302c7b236738fb292674245494a917ffd2eca00a77d3f2", func := "breakwater/breakwaterlaw06.LayoutInodes", spec := "layoutInodes", inPlace := ["internal/bytealg.IndexByteString", "internal/bytealg.IndexString"], unfollowed := true, recurses := true, named := ["internal/bytealg.MaxLen"], apart := false, narrowed := true }
def LayoutInodesUptoSaid : Prop := layoutInodesUptoRow.holds Try.pinned (OpenSpec.upto layoutInodesSpec)

/-- 'breakwaterlaw06.LayoutPointers', WHERE WHAT IT READS IS OF BULK AT MOST 1048576: true; the input reads as it did. -/
def layoutPointersUptoRow : OpenClaim := { program := "ythgiolofnkdfoaa", sum := "0eac2552f58d4eb3a5302c7b236738fb292674245494a917ffd2eca00a77d3f2", func := "breakwater/breakwaterlaw06.LayoutPointers", spec := "layoutPointers", inPlace := ["internal/bytealg.IndexByteString", "internal/bytealg.IndexString"], unfollowed := true, recurses := true, named := ["internal/bytealg.MaxLen"], apart := false, narrowed := true }
def LayoutPointersUptoSaid : Prop := layoutPointersUptoRow.holds Try.pinned (OpenSpec.upto layoutPointersSpec)

/-- 'breakwaterlaw06.LayoutBack', WHERE WHAT IT READS IS OF BULK AT MOST 1048576: true; the input reads as it did. -/
def layoutBackUptoRow : OpenClaim := { program := "ythgiolofnkdfoaa", sum := "0eac2552f58d4eb3a5302c7b236738fb292674245494a917ffd2eca00a77d3f2", func := "breakwater/breakwaterlaw06.LayoutBack", spec := "layoutBack", inPlace := ["internal/bytealg.IndexByteString", "internal/bytealg.IndexString"], unfollowed := true, recurses := true, named := ["internal/bytealg.MaxLen"], apart := false, narrowed := true }
def LayoutBackUptoSaid : Prop := layoutBackUptoRow.holds Try.pinned (OpenSpec.upto layoutBackSpec)

/-- 'breakwaterlaw06.LayoutOne', WHERE WHAT IT READS IS OF BULK AT MOST 1048576: true; the input reads as it did. -/
def layoutOneUptoRow : OpenClaim := { program := "ythgiolofnkdfoaa", sum := "0eac2552f58d4eb3a5302c7b236738fb292674245494a917ffd2eca00a77d3f2", func := "breakwater/breakwaterlaw06.LayoutOne", spec := "layoutOne", inPlace := ["internal/bytealg.IndexByteString", "internal/bytealg.IndexString"], unfollowed := true, recurses := true, named := ["internal/bytealg.MaxLen"], apart := false, narrowed := true }
def LayoutOneUptoSaid : Prop := layoutOneUptoRow.holds Try.pinned (OpenSpec.upto layoutOneSpec)

/-- 'breakwaterlaw06.LayoutTurned', WHERE WHAT IT READS IS OF BULK AT MOST 1048576: true; the input reads as it did. -/
def layoutTurnedUptoRow : OpenClaim := { program := "ythgiolofnkdfoaa", sum := "0eac2552f58d4eb3a5302c7b236738fb292674245494a917ffd2eca00a77d3f2", func := "breakwater/breakwaterlaw06.LayoutTurned", spec := "layoutTurned", inPlace := ["internal/bytealg.IndexByteString", "internal/bytealg.IndexString"], unfollowed := true, recurses := true, named := ["internal/bytealg.MaxLen"], apart := false, narrowed := true }
def LayoutTurnedUptoSaid : Prop := layoutTurnedUptoRow.holds Try.pinned (OpenSpec.upto layoutTurnedSpec)

end Rows
end Go.Proofs.Ythgiolofnkdfoaa
