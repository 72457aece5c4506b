/- The contracts of layout and of the document's answer in one form: a sector and an error, whatever comes in. -/
import Derived.Test.YthgiolofnkdfoaaKno2
import Derived.Test.YthgiolofnkdfoaaIsd
namespace Go.Proofs.Ythgiolofnkdfoaa
set_option linter.unusedSimpArgs false
set_option linter.unusedVariables false
open Go.RowKit

/-- a super's sector and error -/
noncomputable def supR (x y : Int) : List Int × Int := open Classical in if SupMay x y then (supSec x y, 0) else (zl 128, 60)
theorem supR_yes {x y : Int} (h : SupMay x y) : supR x y = (supSec x y, 0) := by unfold supR; rw [if_pos h]
theorem supR_no {x y : Int} (h : ¬ SupMay x y) : supR x y = (zl 128, 60) := by unfold supR; rw [if_neg h]
set_option maxRecDepth 100000 in
theorem supSec_length (x y : Int) : (supSec x y).length = 128 := by simp [supSec]; decide
@[go_sem, simp] theorem supR_length (x y : Int) : (supR x y).1.length = 128 := by
  by_cases h : SupMay x y
  · simp only [supR_yes h]; exact supSec_length x y
  · simp only [supR_no h, zl_length]
noncomputable def supV (x y : Int) : Value := .tuple #[.agg (IV .u8 (supR x y).1), .int .i64 (supR x y).2]
def In64 (x : Int) : Prop := -9223372036854775808 ≤ x ∧ x ≤ 9223372036854775807
theorem lsup_any (x y : Int) (w : World) (hx : In64 x) (hy : In64 y) :
    Calls Try.prog 16 #[.agg #[.int .i64 x, .int .i64 y]] w fun e w' => e = .returned (.tuple #[.agg (IV .u8 (supR x y).1), .int .i64 (supR x y).2]) ∧ Below w.heap.size w w' := by
  by_cases h : SupMay x y
  · simp only [supR_yes h]; exact superSector_ok x y w h
  · simp only [supR_no h]; exact superSector_no x y w h hx.2 hy.2 hx.1 hy.1
theorem rsup_any (x y : Int) (w : World) (hx : In64 x) (hy : In64 y) :
    Calls Try.prog 17 #[.agg #[.int .i64 x, .int .i64 y]] w fun e w' => e = .returned (.tuple #[.agg (IV .u8 (supR x y).1), .int .i64 (supR x y).2]) ∧ Below w.heap.size w w' := by
  by_cases h : SupMay x y
  · simp only [supR_yes h]; exact rsuperSector_ok x y w h
  · simp only [supR_no h]; exact rsuperSector_no x y w h hx.2 hy.2 hx.1 hy.1
/-- what is read of a super's sector -/
noncomputable def rdSupR (s : List Int) : Int × Int × Int := open Classical in
  if SupMay (getB s 4 4) (getB s 8 4) ∧ supSec (getB s 4 4) (getB s 8 4) = s then (getB s 4 4, getB s 8 4, 0) else (0, 0, 60)
theorem rdSupV_eq (s : List Int) : rdSuperV s = .tuple #[.agg #[.int .i64 (rdSupR s).1, .int .i64 (rdSupR s).2.1], .int .i64 (rdSupR s).2.2] := by
  unfold rdSuperV rdSupR
  split <;> rfl
theorem lrdSup_any (s : List Int) (hs : s.length = 128) (hb : Bytes s) (w : World) :
    Calls Try.prog 18 #[.agg (IV .u8 s)] w fun e w' => e = .returned (.tuple #[.agg #[.int .i64 (rdSupR s).1, .int .i64 (rdSupR s).2.1], .int .i64 (rdSupR s).2.2]) ∧ Below w.heap.size w w' := by
  rw [← rdSupV_eq]; exact lreadSuper_any s hs hb w
theorem rrdSup_any (s : List Int) (hs : s.length = 128) (hb : Bytes s) (w : World) :
    Calls Try.prog 19 #[.agg (IV .u8 s)] w fun e w' => e = .returned (.tuple #[.agg #[.int .i64 (rdSupR s).1, .int .i64 (rdSupR s).2.1], .int .i64 (rdSupR s).2.2]) ∧ Below w.heap.size w w' := by
  rw [← rdSupV_eq]; exact rreadSuper_any s hs hb w

/-- an inode's sector and error -/
noncomputable def inoR (l : List Int) : List Int × Int := open Classical in if InoMay l then (inoSec l, 0) else (zl 128, 61)
theorem inoR_yes {l : List Int} (h : InoMay l) : inoR l = (inoSec l, 0) := by unfold inoR; rw [if_pos h]
theorem inoR_no {l : List Int} (h : ¬ InoMay l) : inoR l = (zl 128, 61) := by unfold inoR; rw [if_neg h]
@[go_sem, simp] theorem inoR_length (l : List Int) : (inoR l).1.length = 128 := by
  by_cases h : InoMay l
  · simp only [inoR_yes h]; unfold inoSec; exact inoSecN_length _ _
  · simp only [inoR_no h, zl_length]
theorem lino_any (l : List Int) (hl : l.length = 18) (w : World) :
    Calls Try.prog 22 #[.agg (IV .i64 l)] w fun e w' => e = .returned (.tuple #[.agg (IV .u8 (inoR l).1), .int .i64 (inoR l).2]) ∧ Below w.heap.size w w' := by
  by_cases h : InoMay l
  · simp only [inoR_yes h]; exact linodeSector_ok l hl h w
  · simp only [inoR_no h]; exact linodeSector_no l hl h w
theorem rino_any (l : List Int) (hl : l.length = 18) (w : World) :
    Calls Try.prog 23 #[.agg (IV .i64 l)] w fun e w' => e = .returned (.tuple #[.agg (IV .u8 (inoR l).1), .int .i64 (inoR l).2]) ∧ Below w.heap.size w w' := by
  by_cases h : InoMay l
  · simp only [inoR_yes h]; exact rinodeSector_ok l hl h w
  · simp only [inoR_no h]; exact rinodeSector_no l hl h w
noncomputable def rdInoR (s : List Int) : List Int × Int := open Classical in
  if InoMay (rdIno (getB s 8 8) s) ∧ inoSec (rdIno (getB s 8 8) s) = s then (rdIno (getB s 8 8) s, 0) else (zl 18, 61)
theorem rdInoV_eq (s : List Int) : rdInoV s = .tuple #[.agg (IV .i64 (rdInoR s).1), .int .i64 (rdInoR s).2] := by
  unfold rdInoV rdInoR
  split <;> rfl
@[go_sem, simp] theorem rdInoR_length (s : List Int) : (rdInoR s).1.length = 18 := by
  unfold rdInoR
  split
  · exact rdIno_length _ _
  · simp
theorem lrdIno_any (s : List Int) (hs : s.length = 128) (hb : Bytes s) (w : World) :
    Calls Try.prog 24 #[.agg (IV .u8 s)] w fun e w' => e = .returned (.tuple #[.agg (IV .i64 (rdInoR s).1), .int .i64 (rdInoR s).2]) ∧ Below w.heap.size w w' := by
  rw [← rdInoV_eq]; exact lreadInode_any s hs hb w
theorem rrdIno_any (s : List Int) (hs : s.length = 128) (hb : Bytes s) (w : World) :
    Calls Try.prog 25 #[.agg (IV .u8 s)] w fun e w' => e = .returned (.tuple #[.agg (IV .i64 (rdInoR s).1), .int .i64 (rdInoR s).2]) ∧ Below w.heap.size w w' := by
  rw [← rdInoV_eq]; exact rreadInode_any s hs hb w

/-- pointers' sector and error -/
noncomputable def ptrR (x : List Int) : List Int × Int := open Classical in if PtrMay x then (ptrSecN x 32, 0) else (zl 128, 62)
theorem ptrR_yes {l : List Int} (h : PtrMay l) : ptrR l = (ptrSecN l 32, 0) := by unfold ptrR; rw [if_pos h]
theorem ptrR_no {l : List Int} (h : ¬ PtrMay l) : ptrR l = (zl 128, 62) := by unfold ptrR; rw [if_neg h]
theorem ptrV_eq (x : List Int) : ptrV x = .tuple #[.agg (IV .u8 (ptrR x).1), .int .i64 (ptrR x).2] := by
  by_cases h : PtrMay x
  · simp only [ptrV_yes h, ptrR_yes h]
  · simp only [ptrV_no h, ptrR_no h]
@[go_sem, simp] theorem ptrR_length (l : List Int) : (ptrR l).1.length = 128 := by
  by_cases h : PtrMay l
  · simp only [ptrR_yes h]; exact ptrSecN_length _ _
  · simp only [ptrR_no h, zl_length]
theorem lptr_any (x : List Int) (hx : x.length = 32) (w : World) :
    Calls Try.prog 26 #[.agg (IV .i64 x)] w fun e w' => e = .returned (.tuple #[.agg (IV .u8 (ptrR x).1), .int .i64 (ptrR x).2]) ∧ Below w.heap.size w w' := by
  rw [← ptrV_eq]; exact lpointersSector_any x hx w
theorem rptr_any (x : List Int) (hx : x.length = 32) (w : World) :
    Calls Try.prog 27 #[.agg (IV .i64 x)] w fun e w' => e = .returned (.tuple #[.agg (IV .u8 (ptrR x).1), .int .i64 (ptrR x).2]) ∧ Below w.heap.size w w' := by
  rw [← ptrV_eq]; exact rpointersSector_any x hx w

/-- a slot's -/
theorem lslo_any (x : Int) (s : ByteArray) (w : World) :
    Calls Try.prog 12 #[.agg #[.int .i64 x, .string s]] w fun e w' => e = .returned (.tuple #[.agg (IV .u8 (slotR x s).1), .int .i64 (slotR x s).2]) ∧ Below w.heap.size w w' :=
  lslotSector_any x s w
theorem rslo_any (x : Int) (s : ByteArray) (w : World) (hss : s.size < 4611686018427387904) :
    Calls Try.prog 13 #[.agg #[.int .i64 x, .string s]] w fun e w' => e = .returned (.tuple #[.agg (IV .u8 (slotR x s).1), .int .i64 (slotR x s).2]) ∧ Below w.heap.size w w' :=
  rslotSector_any x s w hss
def rdSloR (s : List Int) : Int × ByteArray × Int := if slotR (getB s 0 4) (rdNm s) = (s, 0) then (getB s 0 4, rdNm s, 0) else (0, { data := #[] }, 63)
theorem rdSlotV_eq (s : List Int) : rdSlotV s = .tuple #[.agg #[.int .i64 (rdSloR s).1, .string (rdSloR s).2.1], .int .i64 (rdSloR s).2.2] := by
  unfold rdSlotV rdSloR
  split <;> rfl
theorem lrdSlo_any (s : List Int) (hs : s.length = 128) (hb : Bytes s) (w : World) :
    Calls Try.prog 14 #[.agg (IV .u8 s)] w fun e w' => e = .returned (.tuple #[.agg #[.int .i64 (rdSloR s).1, .string (rdSloR s).2.1], .int .i64 (rdSloR s).2.2]) ∧ Below w.heap.size w w' := by
  rw [← rdSlotV_eq]; exact lreadSlot_any s hs hb w
theorem rrdSlo_any (s : List Int) (hs : s.length = 128) (hb : Bytes s) (w : World) :
    Calls Try.prog 15 #[.agg (IV .u8 s)] w fun e w' => e = .returned (.tuple #[.agg #[.int .i64 (rdSloR s).1, .string (rdSloR s).2.1], .int .i64 (rdSloR s).2.2]) ∧ Below w.heap.size w w' := by
  rw [← rdSlotV_eq]; exact rreadSlot_any s hs hb w
end Go.Proofs.Ythgiolofnkdfoaa
