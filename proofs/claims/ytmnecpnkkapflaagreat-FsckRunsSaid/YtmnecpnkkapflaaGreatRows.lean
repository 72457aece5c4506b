/-
  No cell of these rows narrows 'for every input' (looked for: loops, veiled, ifaces, maps, wideKeys, modest, calm, conditions, laid).
  DERIVED. THE GIVEN ROWS OF THIS SEAT. 8 by the template 'for every input the law returns true; each argument reads behind the call as it read before'; 0 by the template 'total and deterministic' (their statements: YtmnecpnkkapflaaGreatTotals.lean).
  GIVEN WITH THE SEED: the statements are not yours to turn. If you find one false, say at which input.
  Laid BY PROGRAM, IN A SANDBOX (cutbox-rows.mjs): the forced cells as the released guide's own fill.sh prints them over the translation 9c925b37f87df487… (all of the seat's roots in one cut). By AI agents, Wed Nov 11 2026. No macro, syntax, notation, axiom, sorry.
-/
import Derived.Test.YtmnecpnkkapflaaGreatChecked
import GoSem.Claim
import GoSem.ClaimJoined
import GoSem.ClaimMapViews
import Derived.JoinedTies
import Derived.KernelRfl
namespace Go.Proofs.YtmnecpnkkapflaaGreat
/- THE CELL 'sum', in the pinned program and in every row, IS THE sha256 OF THE DUMP (.gsa) THAT YtmnecpnkkapflaaGreatProg.lean LOADS. Nothing in Lean hashes anything: it is a label: what it is worth is what the hold of that sum in a sandbox is worth. -/
noncomputable def Tryz.pinned : Pinned := { name := "ytmnecpnkkapflaagreat", sum := "9c925b37f87df48738aaffdd0ace6e6ebce3d9762210044b05e348f12f3a4a0b", checked := Tryz.checked }
namespace Rows
def none {H : Type} : Left H := { results := [], args := [] }

/-- 'breakwaterlaw13.FsckNames': WHATEVER THE INPUT: true; the input reads as it did. -/
def fsckNamesSpec : ChangeSpec := { name := "fsckNames", fn := fun _ => fun
  | [] => { results := [.lit (.bool true)], args := [] }
  | _ => none }
def fsckNamesRow : OpenClaim := { program := "ytmnecpnkkapflaagreat", sum := "9c925b37f87df48738aaffdd0ace6e6ebce3d9762210044b05e348f12f3a4a0b", func := "breakwater/breakwaterlaw13.FsckNames", spec := "fsckNames", inPlace := ["internal/bytealg.IndexByteString", "internal/bytealg.IndexString", "internal/reflectlite.TypeOf"], unfollowed := true, recurses := true, named := ["internal/bytealg.MaxLen"], apart := false }
def FsckNamesSaid : Prop := fsckNamesRow.holds Tryz.pinned (OpenSpec.ofChange fsckNamesSpec)

/-- ITS FALSE NEIGHBOUR: 'it returns false'. Refute it at one input. -/
def fsckNamesWrong : ChangeSpec := { name := "fsckNames", fn := fun _ => fun
  | [] => { results := [.lit (.bool false)], args := [] }
  | _ => none }
def FsckNamesWrongFalsely : Prop := fsckNamesRow.holds Tryz.pinned (OpenSpec.ofChange fsckNamesWrong)

/-- 'breakwaterlaw13.FsckTwice': WHATEVER THE INPUT: true; the input reads as it did. -/
def fsckTwiceSpec : ChangeSpec := { name := "fsckTwice", fn := fun _ => fun
  | [d] => { results := [.lit (.bool true)], args := [d] }
  | _ => none }
def fsckTwiceRow : OpenClaim := { program := "ytmnecpnkkapflaagreat", sum := "9c925b37f87df48738aaffdd0ace6e6ebce3d9762210044b05e348f12f3a4a0b", func := "breakwater/breakwaterlaw13.FsckTwice", spec := "fsckTwice", inPlace := ["internal/bytealg.IndexByteString", "internal/bytealg.IndexString", "internal/reflectlite.TypeOf"], unfollowed := true, recurses := true, named := ["internal/bytealg.MaxLen"], apart := false }
def FsckTwiceSaid : Prop := fsckTwiceRow.holds Tryz.pinned (OpenSpec.ofChange fsckTwiceSpec)

/-- ITS FALSE NEIGHBOUR: 'it returns false'. Refute it at one input. -/
def fsckTwiceWrong : ChangeSpec := { name := "fsckTwice", fn := fun _ => fun
  | [d] => { results := [.lit (.bool false)], args := [d] }
  | _ => none }
def FsckTwiceWrongFalsely : Prop := fsckTwiceRow.holds Tryz.pinned (OpenSpec.ofChange fsckTwiceWrong)

/-- 'breakwaterlaw13.FsckWell': WHATEVER THE INPUT: true; the input reads as it did. -/
def fsckWellSpec : ChangeSpec := { name := "fsckWell", fn := fun _ => fun
  | [d] => { results := [.lit (.bool true)], args := [d] }
  | _ => none }
def fsckWellRow : OpenClaim := { program := "ytmnecpnkkapflaagreat", sum := "9c925b37f87df48738aaffdd0ace6e6ebce3d9762210044b05e348f12f3a4a0b", func := "breakwater/breakwaterlaw13.FsckWell", spec := "fsckWell", inPlace := ["internal/bytealg.IndexByteString", "internal/bytealg.IndexString", "internal/reflectlite.TypeOf"], unfollowed := true, recurses := true, named := ["internal/bytealg.MaxLen"], apart := false }
def FsckWellSaid : Prop := fsckWellRow.holds Tryz.pinned (OpenSpec.ofChange fsckWellSpec)

/-- ITS FALSE NEIGHBOUR: 'it returns false'. Refute it at one input. -/
def fsckWellWrong : ChangeSpec := { name := "fsckWell", fn := fun _ => fun
  | [d] => { results := [.lit (.bool false)], args := [d] }
  | _ => none }
def FsckWellWrongFalsely : Prop := fsckWellRow.holds Tryz.pinned (OpenSpec.ofChange fsckWellWrong)

/-- 'breakwaterlaw13.FsckTurned': WHATEVER THE INPUT: true; the input reads as it did. -/
def fsckTurnedSpec : ChangeSpec := { name := "fsckTurned", fn := fun _ => fun
  | [d1, d2] => { results := [.lit (.bool true)], args := [d1, d2] }
  | _ => none }
def fsckTurnedRow : OpenClaim := { program := "ytmnecpnkkapflaagreat", sum := "9c925b37f87df48738aaffdd0ace6e6ebce3d9762210044b05e348f12f3a4a0b", func := "breakwater/breakwaterlaw13.FsckTurned", spec := "fsckTurned", inPlace := ["internal/bytealg.IndexByteString", "internal/bytealg.IndexString", "internal/reflectlite.TypeOf"], unfollowed := true, recurses := true, named := ["internal/bytealg.MaxLen"], apart := false }
def FsckTurnedSaid : Prop := fsckTurnedRow.holds Tryz.pinned (OpenSpec.ofChange fsckTurnedSpec)

/-- ITS FALSE NEIGHBOUR: 'it returns false'. Refute it at one input. -/
def fsckTurnedWrong : ChangeSpec := { name := "fsckTurned", fn := fun _ => fun
  | [d1, d2] => { results := [.lit (.bool false)], args := [d1, d2] }
  | _ => none }
def FsckTurnedWrongFalsely : Prop := fsckTurnedRow.holds Tryz.pinned (OpenSpec.ofChange fsckTurnedWrong)

/-- 'breakwaterlaw13.FsckNothing': WHATEVER THE INPUT: true; the input reads as it did. -/
def fsckNothingSpec : ChangeSpec := { name := "fsckNothing", fn := fun _ => fun
  | [d] => { results := [.lit (.bool true)], args := [d] }
  | _ => none }
def fsckNothingRow : OpenClaim := { program := "ytmnecpnkkapflaagreat", sum := "9c925b37f87df48738aaffdd0ace6e6ebce3d9762210044b05e348f12f3a4a0b", func := "breakwater/breakwaterlaw13.FsckNothing", spec := "fsckNothing", inPlace := ["internal/bytealg.IndexByteString", "internal/bytealg.IndexString", "internal/reflectlite.TypeOf"], unfollowed := true, recurses := true, named := ["internal/bytealg.MaxLen"], apart := false }
def FsckNothingSaid : Prop := fsckNothingRow.holds Tryz.pinned (OpenSpec.ofChange fsckNothingSpec)

/-- ITS FALSE NEIGHBOUR: 'it returns false'. Refute it at one input. -/
def fsckNothingWrong : ChangeSpec := { name := "fsckNothing", fn := fun _ => fun
  | [d] => { results := [.lit (.bool false)], args := [d] }
  | _ => none }
def FsckNothingWrongFalsely : Prop := fsckNothingRow.holds Tryz.pinned (OpenSpec.ofChange fsckNothingWrong)

/-- 'breakwaterlaw13.FsckRuns': WHATEVER THE INPUT: true; the input reads as it did. -/
def fsckRunsSpec : ChangeSpec := { name := "fsckRuns", fn := fun _ => fun
  | [d1, d2, d3] => { results := [.lit (.bool true)], args := [d1, d2, d3] }
  | _ => none }
def fsckRunsRow : OpenClaim := { program := "ytmnecpnkkapflaagreat", sum := "9c925b37f87df48738aaffdd0ace6e6ebce3d9762210044b05e348f12f3a4a0b", func := "breakwater/breakwaterlaw13.FsckRuns", spec := "fsckRuns", inPlace := ["internal/bytealg.IndexByteString", "internal/bytealg.IndexString", "internal/reflectlite.TypeOf"], unfollowed := true, recurses := true, named := ["internal/bytealg.MaxLen"], apart := false }
def FsckRunsSaid : Prop := fsckRunsRow.holds Tryz.pinned (OpenSpec.ofChange fsckRunsSpec)

/-- ITS FALSE NEIGHBOUR: 'it returns false'. Refute it at one input. -/
def fsckRunsWrong : ChangeSpec := { name := "fsckRuns", fn := fun _ => fun
  | [d1, d2, d3] => { results := [.lit (.bool false)], args := [d1, d2, d3] }
  | _ => none }
def FsckRunsWrongFalsely : Prop := fsckRunsRow.holds Tryz.pinned (OpenSpec.ofChange fsckRunsWrong)

/-- 'breakwaterlaw13.FsckCut': WHATEVER THE INPUT: true; the input reads as it did. -/
def fsckCutSpec : ChangeSpec := { name := "fsckCut", fn := fun _ => fun
  | [d1, d2] => { results := [.lit (.bool true)], args := [d1, d2] }
  | _ => none }
def fsckCutRow : OpenClaim := { program := "ytmnecpnkkapflaagreat", sum := "9c925b37f87df48738aaffdd0ace6e6ebce3d9762210044b05e348f12f3a4a0b", func := "breakwater/breakwaterlaw13.FsckCut", spec := "fsckCut", inPlace := ["internal/bytealg.IndexByteString", "internal/bytealg.IndexString", "internal/reflectlite.TypeOf"], unfollowed := true, recurses := true, named := ["internal/bytealg.MaxLen"], apart := false }
def FsckCutSaid : Prop := fsckCutRow.holds Tryz.pinned (OpenSpec.ofChange fsckCutSpec)

/-- ITS FALSE NEIGHBOUR: 'it returns false'. Refute it at one input. -/
def fsckCutWrong : ChangeSpec := { name := "fsckCut", fn := fun _ => fun
  | [d1, d2] => { results := [.lit (.bool false)], args := [d1, d2] }
  | _ => none }
def FsckCutWrongFalsely : Prop := fsckCutRow.holds Tryz.pinned (OpenSpec.ofChange fsckCutWrong)

/-- 'breakwaterlaw13.FsckEach': WHATEVER THE INPUT: true; the input reads as it did. -/
def fsckEachSpec : ChangeSpec := { name := "fsckEach", fn := fun _ => fun
  | [d] => { results := [.lit (.bool true)], args := [d] }
  | _ => none }
def fsckEachRow : OpenClaim := { program := "ytmnecpnkkapflaagreat", sum := "9c925b37f87df48738aaffdd0ace6e6ebce3d9762210044b05e348f12f3a4a0b", func := "breakwater/breakwaterlaw13.FsckEach", spec := "fsckEach", inPlace := ["internal/bytealg.IndexByteString", "internal/bytealg.IndexString", "internal/reflectlite.TypeOf"], unfollowed := true, recurses := true, named := ["internal/bytealg.MaxLen"], apart := false }
def FsckEachSaid : Prop := fsckEachRow.holds Tryz.pinned (OpenSpec.ofChange fsckEachSpec)

/-- ITS FALSE NEIGHBOUR: 'it returns false'. Refute it at one input. -/
def fsckEachWrong : ChangeSpec := { name := "fsckEach", fn := fun _ => fun
  | [d] => { results := [.lit (.bool false)], args := [d] }
  | _ => none }
def FsckEachWrongFalsely : Prop := fsckEachRow.holds Tryz.pinned (OpenSpec.ofChange fsckEachWrong)

/- THE SECOND FORM. 'bulk': how many values and letters a reading holds, each counted each time it is reached (what is shared counts as often as it is met; a slice's spare places count too). A statement '..UptoSaid' is the law's where the arguments, and the package variables that the reading takes, are together of bulk at most 1048576: NARROWER than '..Said'. Prove '..Said' where nothing that the law and all that it calls make is longer than what came in: it says more and counts as full. Else prove '..UptoSaid'. A law counts once. -/
mutual
def uptoBulk {H : Type} : DataW H → Nat
  | .lit (.string bytes) => bytes.length + 1
  | .lit _ => 1
  | .nil => 1
  | .ptr d => uptoBulk d + 1
  | .slice elems spare => uptoBulkAll elems + uptoBulkAll spare + 1
  | .agg parts => uptoBulkAll parts + 1
  | .iface _ d => uptoBulk d + 1
  | .map entries => uptoBulkEntries entries + 1
  | .held _ => 1
def uptoBulkAll {H : Type} : List (DataW H) → Nat
  | [] => 0
  | d :: r => uptoBulk d + uptoBulkAll r
def uptoBulkEntries {H : Type} : List (Lit × DataW H) → Nat
  | [] => 0
  | x :: r => uptoBulkEntry x + uptoBulkEntries r
def uptoBulkEntry {H : Type} : Lit × DataW H → Nat
  | (.string bytes, d) => bytes.length + uptoBulk d + 1
  | (_, d) => uptoBulk d + 1
 end
def uptoSmall : (H : Type) → List (DataW H) → Bool := fun _ ds => decide (uptoBulkAll ds ≤ 1048576)
def OpenSpec.upto (s : _root_.Go.ChangeSpec) : _root_.Go.OpenSpec := { _root_.Go.OpenSpec.ofChange s with cond := some uptoSmall }

/-- 'breakwaterlaw13.FsckNames', WHERE WHAT IT READS IS OF BULK AT MOST 1048576: true; the input reads as it did. -/
def fsckNamesUptoRow : OpenClaim := { program := "ytmnecpnkkapflaagreat", sum := "9c925b37f87df48738aaffdd0ace6e6ebce3d9762210044b05e348f12f3a4a0b", func := "breakwater/breakwaterlaw13.FsckNames", spec := "fsckNames", inPlace := ["internal/bytealg.IndexByteString", "internal/bytealg.IndexString", "internal/reflectlite.TypeOf"], unfollowed := true, recurses := true, named := ["internal/bytealg.MaxLen"], apart := false, narrowed := true }
def FsckNamesUptoSaid : Prop := fsckNamesUptoRow.holds Tryz.pinned (OpenSpec.upto fsckNamesSpec)

/-- 'breakwaterlaw13.FsckTwice', WHERE WHAT IT READS IS OF BULK AT MOST 1048576: true; the input reads as it did. -/
def fsckTwiceUptoRow : OpenClaim := { program := "ytmnecpnkkapflaagreat", sum := "9c925b37f87df48738aaffdd0ace6e6ebce3d9762210044b05e348f12f3a4a0b", func := "breakwater/breakwaterlaw13.FsckTwice", spec := "fsckTwice", inPlace := ["internal/bytealg.IndexByteString", "internal/bytealg.IndexString", "internal/reflectlite.TypeOf"], unfollowed := true, recurses := true, named := ["internal/bytealg.MaxLen"], apart := false, narrowed := true }
def FsckTwiceUptoSaid : Prop := fsckTwiceUptoRow.holds Tryz.pinned (OpenSpec.upto fsckTwiceSpec)

/-- 'breakwaterlaw13.FsckWell', WHERE WHAT IT READS IS OF BULK AT MOST 1048576: true; the input reads as it did. -/
def fsckWellUptoRow : OpenClaim := { program := "ytmnecpnkkapflaagreat", sum := "9c925b37f87df48738aaffdd0ace6e6ebce3d9762210044b05e348f12f3a4a0b", func := "breakwater/breakwaterlaw13.FsckWell", spec := "fsckWell", inPlace := ["internal/bytealg.IndexByteString", "internal/bytealg.IndexString", "internal/reflectlite.TypeOf"], unfollowed := true, recurses := true, named := ["internal/bytealg.MaxLen"], apart := false, narrowed := true }
def FsckWellUptoSaid : Prop := fsckWellUptoRow.holds Tryz.pinned (OpenSpec.upto fsckWellSpec)

/-- 'breakwaterlaw13.FsckTurned', WHERE WHAT IT READS IS OF BULK AT MOST 1048576: true; the input reads as it did. -/
def fsckTurnedUptoRow : OpenClaim := { program := "ytmnecpnkkapflaagreat", sum := "9c925b37f87df48738aaffdd0ace6e6ebce3d9762210044b05e348f12f3a4a0b", func := "breakwater/breakwaterlaw13.FsckTurned", spec := "fsckTurned", inPlace := ["internal/bytealg.IndexByteString", "internal/bytealg.IndexString", "internal/reflectlite.TypeOf"], unfollowed := true, recurses := true, named := ["internal/bytealg.MaxLen"], apart := false, narrowed := true }
def FsckTurnedUptoSaid : Prop := fsckTurnedUptoRow.holds Tryz.pinned (OpenSpec.upto fsckTurnedSpec)

/-- 'breakwaterlaw13.FsckNothing', WHERE WHAT IT READS IS OF BULK AT MOST 1048576: true; the input reads as it did. -/
def fsckNothingUptoRow : OpenClaim := { program := "ytmnecpnkkapflaagreat", sum := "9c925b37f87df48738aaffdd0ace6e6ebce3d9762210044b05e348f12f3a4a0b", func := "breakwater/breakwaterlaw13.FsckNothing", spec := "fsckNothing", inPlace := ["internal/bytealg.IndexByteString", "internal/bytealg.IndexString", "internal/reflectlite.TypeOf"], unfollowed := true, recurses := true, named := ["internal/bytealg.MaxLen"], apart := false, narrowed := true }
def FsckNothingUptoSaid : Prop := fsckNothingUptoRow.holds Tryz.pinned (OpenSpec.upto fsckNothingSpec)

/-- 'breakwaterlaw13.FsckRuns', WHERE WHAT IT READS IS OF BULK AT MOST 1048576: true; the input reads as it did. -/
def fsckRunsUptoRow : OpenClaim := { program := "ytmnecpnkkapflaagreat", sum := "9c925b37f87df48738aaffdd0ace6e6ebce3d9762210044b05e348f12f3a4a0b", func := "breakwater/breakwaterlaw13.FsckRuns", spec := "fsckRuns", inPlace := ["internal/bytealg.IndexByteString", "internal/bytealg.IndexString", "internal/reflectlite.TypeOf"], unfollowed := true, recurses := true, named := ["internal/bytealg.MaxLen"], apart := false, narrowed := true }
def FsckRunsUptoSaid : Prop := fsckRunsUptoRow.holds Tryz.pinned (OpenSpec.upto fsckRunsSpec)

/-- 'breakwaterlaw13.FsckCut', WHERE WHAT IT READS IS OF BULK AT MOST 1048576: true; the input reads as it did. -/
def fsckCutUptoRow : OpenClaim := { program := "ytmnecpnkkapflaagreat", sum := "9c925b37f87df48738aaffdd0ace6e6ebce3d9762210044b05e348f12f3a4a0b", func := "breakwater/breakwaterlaw13.FsckCut", spec := "fsckCut", inPlace := ["internal/bytealg.IndexByteString", "internal/bytealg.IndexString", "internal/reflectlite.TypeOf"], unfollowed := true, recurses := true, named := ["internal/bytealg.MaxLen"], apart := false, narrowed := true }
def FsckCutUptoSaid : Prop := fsckCutUptoRow.holds Tryz.pinned (OpenSpec.upto fsckCutSpec)

/-- 'breakwaterlaw13.FsckEach', WHERE WHAT IT READS IS OF BULK AT MOST 1048576: true; the input reads as it did. -/
def fsckEachUptoRow : OpenClaim := { program := "ytmnecpnkkapflaagreat", sum := "9c925b37f87df48738aaffdd0ace6e6ebce3d9762210044b05e348f12f3a4a0b", func := "breakwater/breakwaterlaw13.FsckEach", spec := "fsckEach", inPlace := ["internal/bytealg.IndexByteString", "internal/bytealg.IndexString", "internal/reflectlite.TypeOf"], unfollowed := true, recurses := true, named := ["internal/bytealg.MaxLen"], apart := false, narrowed := true }
def FsckEachUptoSaid : Prop := fsckEachUptoRow.holds Tryz.pinned (OpenSpec.upto fsckEachSpec)

end Rows
end Go.Proofs.YtmnecpnkkapflaaGreat
