/-
  No cell of these rows narrows 'for every input' (looked for: loops, veiled, ifaces, maps, wideKeys, modest, calm, conditions, laid).
  DERIVED. THE GIVEN ROWS OF THIS SEAT. 6 by the template 'for every input the law returns true; each argument reads behind the call as it read before'; 0 by the template 'total and deterministic' (their statements: YthioepdgnbdohaaGreatTotals.lean).
  GIVEN WITH THE SEED: the statements are not yours to turn. If you find one false, say at which input.
  Laid BY PROGRAM, IN A SANDBOX (cutbox-rows.mjs): the forced cells as the released guide's own fill.sh prints them over the translation 282540b1da6ee666… (all of the seat's roots in one cut). By AI agents, Wed Nov 11 2026. No macro, syntax, notation, axiom, sorry.
-/
import Derived.Test.YthioepdgnbdohaaGreatChecked
import GoSem.Claim
import GoSem.ClaimJoined
import GoSem.ClaimMapViews
import Derived.JoinedTies
import Derived.KernelRfl
namespace Go.Proofs.YthioepdgnbdohaaGreat
/- THE CELL 'sum', in the pinned program and in every row, IS THE sha256 OF THE DUMP (.gsa) THAT YthioepdgnbdohaaGreatProg.lean LOADS. Nothing in Lean hashes anything: it is a label: what it is worth is what the hold of that sum in a sandbox is worth. -/
noncomputable def Tryz.pinned : Pinned := { name := "ythioepdgnbdohaagreat", sum := "282540b1da6ee6665ece72dbb40fe84db8cf995fe587b639b7475e0cc0028adb", checked := Tryz.checked }
namespace Rows
def none {H : Type} : Left H := { results := [], args := [] }

/-- 'breakwaterlaw12.LookLooks': WHATEVER THE INPUT: true; the input reads as it did. -/
def lookLooksSpec : ChangeSpec := { name := "lookLooks", fn := fun _ => fun
  | [d] => { results := [.lit (.bool true)], args := [d] }
  | _ => none }
def lookLooksRow : OpenClaim := { program := "ythioepdgnbdohaagreat", sum := "282540b1da6ee6665ece72dbb40fe84db8cf995fe587b639b7475e0cc0028adb", func := "breakwater/breakwaterlaw12.LookLooks", spec := "lookLooks", inPlace := ["internal/bytealg.IndexByteString", "internal/bytealg.IndexString"], unfollowed := true, recurses := true, named := ["internal/bytealg.MaxLen"], apart := false }
def LookLooksSaid : Prop := lookLooksRow.holds Tryz.pinned (OpenSpec.ofChange lookLooksSpec)

/-- ITS FALSE NEIGHBOUR: 'it returns false'. Refute it at one input. -/
def lookLooksWrong : ChangeSpec := { name := "lookLooks", fn := fun _ => fun
  | [d] => { results := [.lit (.bool false)], args := [d] }
  | _ => none }
def LookLooksWrongFalsely : Prop := lookLooksRow.holds Tryz.pinned (OpenSpec.ofChange lookLooksWrong)

/-- 'breakwaterlaw12.LookOwns': WHATEVER THE INPUT: true; the input reads as it did. -/
def lookOwnsSpec : ChangeSpec := { name := "lookOwns", fn := fun _ => fun
  | [d1, d2] => { results := [.lit (.bool true)], args := [d1, d2] }
  | _ => none }
def lookOwnsRow : OpenClaim := { program := "ythioepdgnbdohaagreat", sum := "282540b1da6ee6665ece72dbb40fe84db8cf995fe587b639b7475e0cc0028adb", func := "breakwater/breakwaterlaw12.LookOwns", spec := "lookOwns", inPlace := ["internal/bytealg.IndexByteString", "internal/bytealg.IndexString"], unfollowed := true, recurses := true, named := ["internal/bytealg.MaxLen"], apart := false }
def LookOwnsSaid : Prop := lookOwnsRow.holds Tryz.pinned (OpenSpec.ofChange lookOwnsSpec)

/-- ITS FALSE NEIGHBOUR: 'it returns false'. Refute it at one input. -/
def lookOwnsWrong : ChangeSpec := { name := "lookOwns", fn := fun _ => fun
  | [d1, d2] => { results := [.lit (.bool false)], args := [d1, d2] }
  | _ => none }
def LookOwnsWrongFalsely : Prop := lookOwnsRow.holds Tryz.pinned (OpenSpec.ofChange lookOwnsWrong)

/-- 'breakwaterlaw12.LookWells': WHATEVER THE INPUT: true; the input reads as it did. -/
def lookWellsSpec : ChangeSpec := { name := "lookWells", fn := fun _ => fun
  | [d] => { results := [.lit (.bool true)], args := [d] }
  | _ => none }
def lookWellsRow : OpenClaim := { program := "ythioepdgnbdohaagreat", sum := "282540b1da6ee6665ece72dbb40fe84db8cf995fe587b639b7475e0cc0028adb", func := "breakwater/breakwaterlaw12.LookWells", spec := "lookWells", inPlace := ["internal/bytealg.IndexByteString", "internal/bytealg.IndexString"], unfollowed := true, recurses := true, named := ["internal/bytealg.MaxLen"], apart := false }
def LookWellsSaid : Prop := lookWellsRow.holds Tryz.pinned (OpenSpec.ofChange lookWellsSpec)

/-- ITS FALSE NEIGHBOUR: 'it returns false'. Refute it at one input. -/
def lookWellsWrong : ChangeSpec := { name := "lookWells", fn := fun _ => fun
  | [d] => { results := [.lit (.bool false)], args := [d] }
  | _ => none }
def LookWellsWrongFalsely : Prop := lookWellsRow.holds Tryz.pinned (OpenSpec.ofChange lookWellsWrong)

/-- 'breakwaterlaw12.LookStands': WHATEVER THE INPUT: true; the input reads as it did. -/
def lookStandsSpec : ChangeSpec := { name := "lookStands", fn := fun _ => fun
  | [d] => { results := [.lit (.bool true)], args := [d] }
  | _ => none }
def lookStandsRow : OpenClaim := { program := "ythioepdgnbdohaagreat", sum := "282540b1da6ee6665ece72dbb40fe84db8cf995fe587b639b7475e0cc0028adb", func := "breakwater/breakwaterlaw12.LookStands", spec := "lookStands", inPlace := ["internal/bytealg.IndexByteString", "internal/bytealg.IndexString"], unfollowed := true, recurses := true, named := ["internal/bytealg.MaxLen"], apart := false }
def LookStandsSaid : Prop := lookStandsRow.holds Tryz.pinned (OpenSpec.ofChange lookStandsSpec)

/-- ITS FALSE NEIGHBOUR: 'it returns false'. Refute it at one input. -/
def lookStandsWrong : ChangeSpec := { name := "lookStands", fn := fun _ => fun
  | [d] => { results := [.lit (.bool false)], args := [d] }
  | _ => none }
def LookStandsWrongFalsely : Prop := lookStandsRow.holds Tryz.pinned (OpenSpec.ofChange lookStandsWrong)

/-- 'breakwaterlaw12.LookKeeps': WHATEVER THE INPUT: true; the input reads as it did. -/
def lookKeepsSpec : ChangeSpec := { name := "lookKeeps", fn := fun _ => fun
  | [d] => { results := [.lit (.bool true)], args := [d] }
  | _ => none }
def lookKeepsRow : OpenClaim := { program := "ythioepdgnbdohaagreat", sum := "282540b1da6ee6665ece72dbb40fe84db8cf995fe587b639b7475e0cc0028adb", func := "breakwater/breakwaterlaw12.LookKeeps", spec := "lookKeeps", inPlace := ["internal/bytealg.IndexByteString", "internal/bytealg.IndexString"], unfollowed := true, recurses := true, named := ["internal/bytealg.MaxLen"], apart := false }
def LookKeepsSaid : Prop := lookKeepsRow.holds Tryz.pinned (OpenSpec.ofChange lookKeepsSpec)

/-- ITS FALSE NEIGHBOUR: 'it returns false'. Refute it at one input. -/
def lookKeepsWrong : ChangeSpec := { name := "lookKeeps", fn := fun _ => fun
  | [d] => { results := [.lit (.bool false)], args := [d] }
  | _ => none }
def LookKeepsWrongFalsely : Prop := lookKeepsRow.holds Tryz.pinned (OpenSpec.ofChange lookKeepsWrong)

/-- 'breakwaterlaw12.LookUses': WHATEVER THE INPUT: true; the input reads as it did. -/
def lookUsesSpec : ChangeSpec := { name := "lookUses", fn := fun _ => fun
  | [d] => { results := [.lit (.bool true)], args := [d] }
  | _ => none }
def lookUsesRow : OpenClaim := { program := "ythioepdgnbdohaagreat", sum := "282540b1da6ee6665ece72dbb40fe84db8cf995fe587b639b7475e0cc0028adb", func := "breakwater/breakwaterlaw12.LookUses", spec := "lookUses", inPlace := ["internal/bytealg.IndexByteString", "internal/bytealg.IndexString"], unfollowed := true, recurses := true, named := ["internal/bytealg.MaxLen"], apart := false }
def LookUsesSaid : Prop := lookUsesRow.holds Tryz.pinned (OpenSpec.ofChange lookUsesSpec)

/-- ITS FALSE NEIGHBOUR: 'it returns false'. Refute it at one input. -/
def lookUsesWrong : ChangeSpec := { name := "lookUses", fn := fun _ => fun
  | [d] => { results := [.lit (.bool false)], args := [d] }
  | _ => none }
def LookUsesWrongFalsely : Prop := lookUsesRow.holds Tryz.pinned (OpenSpec.ofChange lookUsesWrong)

/- THE SECOND FORM. 'bulk': how many values and letters a reading holds, each counted each time it is reached (what is shared counts as often as it is met; a slice's spare places count too). A statement '..UptoSaid' is the law's where the arguments, and the package variables that the reading takes, are together of bulk at most 1048576: NARROWER than '..Said'. Prove '..Said' where nothing that the law and all that it calls make is longer than what came in: it says more and counts as full. Else prove '..UptoSaid'. A law counts once. -/
mutual
def uptoBulk {H : Type} : DataW H → Nat
  | .lit (.string bytes) => bytes.length + 1
  | .lit _ => 1
  | .nil => 1
  | .ptr d => uptoBulk d + 1
  | .slice elems spare => uptoBulkAll elems + uptoBulkAll spare + 1
  | .agg parts => uptoBulkAll parts + 1
  | .iface _ d => uptoBulk d + 1
  | .map entries => uptoBulkEntries entries + 1
  | .held _ => 1
def uptoBulkAll {H : Type} : List (DataW H) → Nat
  | [] => 0
  | d :: r => uptoBulk d + uptoBulkAll r
def uptoBulkEntries {H : Type} : List (Lit × DataW H) → Nat
  | [] => 0
  | x :: r => uptoBulkEntry x + uptoBulkEntries r
def uptoBulkEntry {H : Type} : Lit × DataW H → Nat
  | (.string bytes, d) => bytes.length + uptoBulk d + 1
  | (_, d) => uptoBulk d + 1
 end
def uptoSmall : (H : Type) → List (DataW H) → Bool := fun _ ds => decide (uptoBulkAll ds ≤ 1048576)
def OpenSpec.upto (s : _root_.Go.ChangeSpec) : _root_.Go.OpenSpec := { _root_.Go.OpenSpec.ofChange s with cond := some uptoSmall }

/-- 'breakwaterlaw12.LookLooks', WHERE WHAT IT READS IS OF BULK AT MOST 1048576: true; the input reads as it did. -/
def lookLooksUptoRow : OpenClaim := { program := "ythioepdgnbdohaagreat", sum := "282540b1da6ee6665ece72dbb40fe84db8cf995fe587b639b7475e0cc0028adb", func := "breakwater/breakwaterlaw12.LookLooks", spec := "lookLooks", inPlace := ["internal/bytealg.IndexByteString", "internal/bytealg.IndexString"], unfollowed := true, recurses := true, named := ["internal/bytealg.MaxLen"], apart := false, narrowed := true }
def LookLooksUptoSaid : Prop := lookLooksUptoRow.holds Tryz.pinned (OpenSpec.upto lookLooksSpec)

/-- 'breakwaterlaw12.LookOwns', WHERE WHAT IT READS IS OF BULK AT MOST 1048576: true; the input reads as it did. -/
def lookOwnsUptoRow : OpenClaim := { program := "ythioepdgnbdohaagreat", sum := "282540b1da6ee6665ece72dbb40fe84db8cf995fe587b639b7475e0cc0028adb", func := "breakwater/breakwaterlaw12.LookOwns", spec := "lookOwns", inPlace := ["internal/bytealg.IndexByteString", "internal/bytealg.IndexString"], unfollowed := true, recurses := true, named := ["internal/bytealg.MaxLen"], apart := false, narrowed := true }
def LookOwnsUptoSaid : Prop := lookOwnsUptoRow.holds Tryz.pinned (OpenSpec.upto lookOwnsSpec)

/-- 'breakwaterlaw12.LookWells', WHERE WHAT IT READS IS OF BULK AT MOST 1048576: true; the input reads as it did. -/
def lookWellsUptoRow : OpenClaim := { program := "ythioepdgnbdohaagreat", sum := "282540b1da6ee6665ece72dbb40fe84db8cf995fe587b639b7475e0cc0028adb", func := "breakwater/breakwaterlaw12.LookWells", spec := "lookWells", inPlace := ["internal/bytealg.IndexByteString", "internal/bytealg.IndexString"], unfollowed := true, recurses := true, named := ["internal/bytealg.MaxLen"], apart := false, narrowed := true }
def LookWellsUptoSaid : Prop := lookWellsUptoRow.holds Tryz.pinned (OpenSpec.upto lookWellsSpec)

/-- 'breakwaterlaw12.LookStands', WHERE WHAT IT READS IS OF BULK AT MOST 1048576: true; the input reads as it did. -/
def lookStandsUptoRow : OpenClaim := { program := "ythioepdgnbdohaagreat", sum := "282540b1da6ee6665ece72dbb40fe84db8cf995fe587b639b7475e0cc0028adb", func := "breakwater/breakwaterlaw12.LookStands", spec := "lookStands", inPlace := ["internal/bytealg.IndexByteString", "internal/bytealg.IndexString"], unfollowed := true, recurses := true, named := ["internal/bytealg.MaxLen"], apart := false, narrowed := true }
def LookStandsUptoSaid : Prop := lookStandsUptoRow.holds Tryz.pinned (OpenSpec.upto lookStandsSpec)

/-- 'breakwaterlaw12.LookKeeps', WHERE WHAT IT READS IS OF BULK AT MOST 1048576: true; the input reads as it did. -/
def lookKeepsUptoRow : OpenClaim := { program := "ythioepdgnbdohaagreat", sum := "282540b1da6ee6665ece72dbb40fe84db8cf995fe587b639b7475e0cc0028adb", func := "breakwater/breakwaterlaw12.LookKeeps", spec := "lookKeeps", inPlace := ["internal/bytealg.IndexByteString", "internal/bytealg.IndexString"], unfollowed := true, recurses := true, named := ["internal/bytealg.MaxLen"], apart := false, narrowed := true }
def LookKeepsUptoSaid : Prop := lookKeepsUptoRow.holds Tryz.pinned (OpenSpec.upto lookKeepsSpec)

/-- 'breakwaterlaw12.LookUses', WHERE WHAT IT READS IS OF BULK AT MOST 1048576: true; the input reads as it did. -/
def lookUsesUptoRow : OpenClaim := { program := "ythioepdgnbdohaagreat", sum := "282540b1da6ee6665ece72dbb40fe84db8cf995fe587b639b7475e0cc0028adb", func := "breakwater/breakwaterlaw12.LookUses", spec := "lookUses", inPlace := ["internal/bytealg.IndexByteString", "internal/bytealg.IndexString"], unfollowed := true, recurses := true, named := ["internal/bytealg.MaxLen"], apart := false, narrowed := true }
def LookUsesUptoSaid : Prop := lookUsesUptoRow.holds Tryz.pinned (OpenSpec.upto lookUsesSpec)

end Rows
end Go.Proofs.YthioepdgnbdohaaGreat
