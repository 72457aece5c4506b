/-
  No cell of these rows narrows 'for every input' (looked for: loops, veiled, ifaces, maps, wideKeys, modest, calm, conditions, laid).
  DERIVED. THE GIVEN ROWS OF THIS SEAT. 3 by the template 'for every input the law returns true; each argument reads behind the call as it read before'; 0 by the template 'total and deterministic' (their statements: YthioepdgnbdohaaTotals.lean).
  GIVEN WITH THE SEED: the statements are not yours to turn. If you find one false, say at which input.
  Laid BY PROGRAM, IN A SANDBOX (cutbox-rows.mjs): the forced cells as the released guide's own fill.sh prints them over the translation d2eb08fca6eb3187… (all of the seat's roots in one cut). By AI agents, Wed Nov 11 2026. No macro, syntax, notation, axiom, sorry.
-/
import Derived.Test.YthioepdgnbdohaaChecked
import GoSem.Claim
import GoSem.ClaimJoined
import GoSem.ClaimMapViews
import Derived.JoinedTies
import Derived.KernelRfl
namespace Go.Proofs.Ythioepdgnbdohaa
/- THE CELL 'sum', in the pinned program and in every row, IS THE sha256 OF THE DUMP (.gsa) THAT YthioepdgnbdohaaProg.lean LOADS. Nothing in Lean hashes anything: it is a label: what it is worth is what the hold of that sum in a sandbox is worth. -/
noncomputable def Try.pinned : Pinned := { name := "ythioepdgnbdohaa", sum := "d2eb08fca6eb3187332d11938b9d2052a8f0a1c9c69eeb4a60457d7630a141db", checked := Try.checked }
namespace Rows
def none {H : Type} : Left H := { results := [], args := [] }

/-- 'breakwaterlaw12.LookCuts': WHATEVER THE INPUT: true; the input reads as it did. -/
def lookCutsSpec : ChangeSpec := { name := "lookCuts", fn := fun _ => fun
  | [d1, d2] => { results := [.lit (.bool true)], args := [d1, d2] }
  | _ => none }
def lookCutsRow : OpenClaim := { program := "ythioepdgnbdohaa", sum := "d2eb08fca6eb3187332d11938b9d2052a8f0a1c9c69eeb4a60457d7630a141db", func := "breakwater/breakwaterlaw12.LookCuts", spec := "lookCuts", inPlace := ["internal/bytealg.IndexByteString", "internal/bytealg.IndexString"], unfollowed := true, recurses := true, named := ["internal/bytealg.MaxLen"], apart := false }
def LookCutsSaid : Prop := lookCutsRow.holds Try.pinned (OpenSpec.ofChange lookCutsSpec)

/-- ITS FALSE NEIGHBOUR: 'it returns false'. Refute it at one input. -/
def lookCutsWrong : ChangeSpec := { name := "lookCuts", fn := fun _ => fun
  | [d1, d2] => { results := [.lit (.bool false)], args := [d1, d2] }
  | _ => none }
def LookCutsWrongFalsely : Prop := lookCutsRow.holds Try.pinned (OpenSpec.ofChange lookCutsWrong)

/-- 'breakwaterlaw12.LookWrites': WHATEVER THE INPUT: true; the input reads as it did. -/
def lookWritesSpec : ChangeSpec := { name := "lookWrites", fn := fun _ => fun
  | [d] => { results := [.lit (.bool true)], args := [d] }
  | _ => none }
def lookWritesRow : OpenClaim := { program := "ythioepdgnbdohaa", sum := "d2eb08fca6eb3187332d11938b9d2052a8f0a1c9c69eeb4a60457d7630a141db", func := "breakwater/breakwaterlaw12.LookWrites", spec := "lookWrites", inPlace := ["internal/bytealg.IndexByteString", "internal/bytealg.IndexString"], unfollowed := true, recurses := true, named := ["internal/bytealg.MaxLen"], apart := false }
def LookWritesSaid : Prop := lookWritesRow.holds Try.pinned (OpenSpec.ofChange lookWritesSpec)

/-- ITS FALSE NEIGHBOUR: 'it returns false'. Refute it at one input. -/
def lookWritesWrong : ChangeSpec := { name := "lookWrites", fn := fun _ => fun
  | [d] => { results := [.lit (.bool false)], args := [d] }
  | _ => none }
def LookWritesWrongFalsely : Prop := lookWritesRow.holds Try.pinned (OpenSpec.ofChange lookWritesWrong)

/-- 'breakwaterlaw12.LookRefuses': WHATEVER THE INPUT: true; the input reads as it did. -/
def lookRefusesSpec : ChangeSpec := { name := "lookRefuses", fn := fun _ => fun
  | [d] => { results := [.lit (.bool true)], args := [d] }
  | _ => none }
def lookRefusesRow : OpenClaim := { program := "ythioepdgnbdohaa", sum := "d2eb08fca6eb3187332d11938b9d2052a8f0a1c9c69eeb4a60457d7630a141db", func := "breakwater/breakwaterlaw12.LookRefuses", spec := "lookRefuses", inPlace := ["internal/bytealg.IndexByteString", "internal/bytealg.IndexString"], unfollowed := true, recurses := true, named := ["internal/bytealg.MaxLen"], apart := false }
def LookRefusesSaid : Prop := lookRefusesRow.holds Try.pinned (OpenSpec.ofChange lookRefusesSpec)

/-- ITS FALSE NEIGHBOUR: 'it returns false'. Refute it at one input. -/
def lookRefusesWrong : ChangeSpec := { name := "lookRefuses", fn := fun _ => fun
  | [d] => { results := [.lit (.bool false)], args := [d] }
  | _ => none }
def LookRefusesWrongFalsely : Prop := lookRefusesRow.holds Try.pinned (OpenSpec.ofChange lookRefusesWrong)

/- THE SECOND FORM. 'bulk': how many values and letters a reading holds, each counted each time it is reached (what is shared counts as often as it is met; a slice's spare places count too). A statement '..UptoSaid' is the law's where the arguments, and the package variables that the reading takes, are together of bulk at most 1048576: NARROWER than '..Said'. Prove '..Said' where nothing that the law and all that it calls make is longer than what came in: it says more and counts as full. Else prove '..UptoSaid'. A law counts once. -/
mutual
def uptoBulk {H : Type} : DataW H → Nat
  | .lit (.string bytes) => bytes.length + 1
  | .lit _ => 1
  | .nil => 1
  | .ptr d => uptoBulk d + 1
  | .slice elems spare => uptoBulkAll elems + uptoBulkAll spare + 1
  | .agg parts => uptoBulkAll parts + 1
  | .iface _ d => uptoBulk d + 1
  | .map entries => uptoBulkEntries entries + 1
  | .held _ => 1
def uptoBulkAll {H : Type} : List (DataW H) → Nat
  | [] => 0
  | d :: r => uptoBulk d + uptoBulkAll r
def uptoBulkEntries {H : Type} : List (Lit × DataW H) → Nat
  | [] => 0
  | x :: r => uptoBulkEntry x + uptoBulkEntries r
def uptoBulkEntry {H : Type} : Lit × DataW H → Nat
  | (.string bytes, d) => bytes.length + uptoBulk d + 1
  | (_, d) => uptoBulk d + 1
 end
def uptoSmall : (H : Type) → List (DataW H) → Bool := fun _ ds => decide (uptoBulkAll ds ≤ 1048576)
def OpenSpec.upto (s : _root_.Go.ChangeSpec) : _root_.Go.OpenSpec := { _root_.Go.OpenSpec.ofChange s with cond := some uptoSmall }

/-- 'breakwaterlaw12.LookCuts', WHERE WHAT IT READS IS OF BULK AT MOST 1048576: true; the input reads as it did. -/
def lookCutsUptoRow : OpenClaim := { program := "ythioepdgnbdohaa", sum := "d2eb08fca6eb3187332d11938b9d2052a8f0a1c9c69eeb4a60457d7630a141db", func := "breakwater/breakwaterlaw12.LookCuts", spec := "lookCuts", inPlace := ["internal/bytealg.IndexByteString", "internal/bytealg.IndexString"], unfollowed := true, recurses := true, named := ["internal/bytealg.MaxLen"], apart := false, narrowed := true }
def LookCutsUptoSaid : Prop := lookCutsUptoRow.holds Try.pinned (OpenSpec.upto lookCutsSpec)

/-- 'breakwaterlaw12.LookWrites', WHERE WHAT IT READS IS OF BULK AT MOST 1048576: true; the input reads as it did. -/
def lookWritesUptoRow : OpenClaim := { program := "ythioepdgnbdohaa", sum := "d2eb08fca6eb3187332d11938b9d2052a8f0a1c9c69eeb4a60457d7630a141db", func := "breakwater/breakwaterlaw12.LookWrites", spec := "lookWrites", inPlace := ["internal/bytealg.IndexByteString", "internal/bytealg.IndexString"], unfollowed := true, recurses := true, named := ["internal/bytealg.MaxLen"], apart := false, narrowed := true }
def LookWritesUptoSaid : Prop := lookWritesUptoRow.holds Try.pinned (OpenSpec.upto lookWritesSpec)

/-- 'breakwaterlaw12.LookRefuses', WHERE WHAT IT READS IS OF BULK AT MOST 1048576: true; the input reads as it did. -/
def lookRefusesUptoRow : OpenClaim := { program := "ythioepdgnbdohaa", sum := "d2eb08fca6eb3187332d11938b9d2052a8f0a1c9c69eeb4a60457d7630a141db", func := "breakwater/breakwaterlaw12.LookRefuses", spec := "lookRefuses", inPlace := ["internal/bytealg.IndexByteString", "internal/bytealg.IndexString"], unfollowed := true, recurses := true, named := ["internal/bytealg.MaxLen"], apart := false, narrowed := true }
def LookRefusesUptoSaid : Prop := lookRefusesUptoRow.holds Try.pinned (OpenSpec.upto lookRefusesSpec)

end Rows
end Go.Proofs.Ythioepdgnbdohaa
