/- What the operations do: plain. -/
import Derived.Test.YteffoihkljkfdaaDoorPus
import Derived.Lib.SlicesS
namespace Go.Proofs.YteffoihkljkfdaaDoor
set_option linter.unusedSimpArgs false
set_option linter.unusedVariables false
open Go.RowKit

def emp : ByteArray := ByteArray.mk #[]
def Nd.nil : Nd := ⟨0, 0, 0, 0, fun _ => none, [], fun _ => none⟩
def PS.nd (S : PS) (i : Int) : Nd := (S.nodes i).getD Nd.nil
def PS.put (S : PS) (i : Int) (o : Option Nd) : PS := { S with nodes := fun j => if j = i then o else S.nodes j }
/-- the least inode that is free; 0: none -/
def PS.freeI (S : PS) : Int := ((List.range 513).find? fun (i : Nat) => decide (2 ≤ i) && decide ((i : Int) ≤ S.inodes) && (S.nodes i).isNone).getD 0
def PS.walk (S : PS) : List ByteArray → Int → Int × Int
  | [], i => (i, 0)
  | s :: l, i => if (S.nd i).kind ≠ 2 then (0, 113) else match (S.nd i).names s with
    | none => (0, 110)
    | some j => S.walk l j
structure Last where
  d : Int
  name : ByteArray
  e : Int
def PS.last (S : PS) (l : List ByteArray) : Last :=
  if l = [] then ⟨0, emp, 143⟩ else ⟨(S.walk l.dropLast 1).1, l.getLastD emp, if (S.walk l.dropLast 1).2 = 0 ∧ (S.nd (S.walk l.dropLast 1).1).kind ≠ 2 then 113 else (S.walk l.dropLast 1).2⟩
def moreN (d : Nd) : Nd := { Nd.nil with slots := d.slots ++ [emp] }
/-- the least place of a directory, or what stops it -/
def PS.place (S : PS) (d : Nd) : Int × Int :=
  if 0 ≤ Lib.idxOfS d.slots emp then (Lib.idxOfS d.slots emp, 0) else if d.slots.length = 1068 then (0, 112)
  else if S.free < (moreN d).count - d.count then (0, 80) else (d.slots.length, 0)
def Nd.ins (d : Nd) (name : ByteArray) (i : Int) : ByteArray → Option Int := fun s => if s = name then some i else d.names s
def Nd.set (d : Nd) (k : Int) (name : ByteArray) (i : Int) : Nd :=
  if k = d.slots.length then { d with slots := d.slots ++ [name], size := (d.slots.length + 1) * 128, names := d.ins name i }
  else { d with slots := d.slots.set k.toNat name, names := d.ins name i }
def Nd.clr (d : Nd) (name : ByteArray) : Nd := { d with slots := d.slots.set (Lib.idxOfS d.slots name).toNat emp, names := fun s => if s = name then none else d.names s }
/-- one entry less -/
def PS.less (S : PS) (i : Int) : PS :=
  if (S.nd i).links - 1 = 0 ∨ (S.nd i).kind = 2 then S.put i none else S.put i (some { S.nd i with links := (S.nd i).links - 1 })
structure Sta where
  ino : Int
  kind : Int
  links : Int
  size : Int
  made : Int
  blocks : Int
def Sta.val (s : Sta) : Value := .agg #[.int .i64 s.ino, .int .i64 s.kind, .int .i64 s.links, .int .i64 s.size, .int .i64 s.made, .int .i64 s.blocks]
def Sta.zero : Sta := ⟨0, 0, 0, 0, 0, 0⟩
structure Ans where
  code : Int
  stat : Sta
  data : List Int
  ents : List (ByteArray × Int × Int)
def Ans.err (e : Int) : Ans := ⟨e, Sta.zero, [], []⟩
def PS.stat (S : PS) (i : Int) : Sta := ⟨i, (S.nd i).kind, (S.nd i).links, (S.nd i).size, (S.nd i).made, (S.nd i).count⟩
def freshN (kind made : Int) : Nd := ⟨kind, 1, 0, made, fun _ => none, [], fun _ => none⟩
def PS.make (S : PS) (l : List ByteArray) (kind made : Int) : PS × Ans :=
  if (S.last l).e ≠ 0 then (S, .err (S.last l).e)
  else if ((S.nd (S.last l).d).names (S.last l).name).isSome then (S, .err 111)
  else if S.freeI = 0 then (S, .err 81)
  else if (S.place (S.nd (S.last l).d)).2 ≠ 0 then (S, .err (S.place (S.nd (S.last l).d)).2)
  else
    let T := (S.put S.freeI (some (freshN kind made))).put (S.last l).d (some ((S.nd (S.last l).d).set (S.place (S.nd (S.last l).d)).1 (S.last l).name S.freeI))
    (T, ⟨0, T.stat S.freeI, [], []⟩)
def zero128 : List Int := List.replicate 128 0
/-- a sector with bytes laid over it -/
def lay (off : Int) (data : List Int) (k : Int) (s : List Int) : List Int :=
  (List.range 128).map fun (j : Nat) => if off ≤ 128 * k + j ∧ 128 * k + j < off + data.length then data.getD (128 * k + j - off).toNat 0 else s.getD j 0
/-- is a block touched by bytes? -/
def touched (off len k : Int) : Bool := decide (0 < len ∧ off / 128 ≤ k ∧ k ≤ (off + len - 1) / 128)
def Nd.wrote (n : Nd) (off : Int) (data : List Int) : Nd :=
  { n with data := fun k => if touched off data.length k = true then some (lay off data k ((n.data k).getD zero128)) else n.data k, size := if data = [] then n.size else max n.size (off + data.length) }
def PS.write (S : PS) (i off : Int) (data : List Int) : PS × Int :=
  if off < 0 ∨ 131072 < (data.length : Int) ∨ 136704 - (data.length : Int) < off then (S, 101)
  else if S.free < ((S.nd i).wrote off data).count - (S.nd i).count then (S, 80)
  else (S.put i (some ((S.nd i).wrote off data)), 0)
def Nd.byte (n : Nd) (x : Int) : Int := ((n.data (x / 128)).getD zero128).getD (x % 128).toNat 0
def Nd.read (n : Nd) (off most : Int) : Ans :=
  if off < 0 ∨ most < 0 ∨ 131072 < most then .err 101
  else if n.size ≤ off then .err 0
  else ⟨0, Sta.zero, (List.range (min most (n.size - off)).toNat).map fun (j : Nat) => n.byte (off + j), []⟩
def cutS (size k : Int) (s : List Int) : List Int := if k * 128 + 128 > size then (List.range 128).map fun (j : Nat) => if k * 128 + j < size then s.getD j 0 else 0 else s
def Nd.trunc (n : Nd) (size : Int) : Nd :=
  { n with size := size, data := fun k => if size ≤ k * 128 then none else (n.data k).map (cutS size k) }
end Go.Proofs.YteffoihkljkfdaaDoor
