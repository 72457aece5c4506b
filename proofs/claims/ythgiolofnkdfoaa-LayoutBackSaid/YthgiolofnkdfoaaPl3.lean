/- The contracts at values that are known: written and read back, zeros read; and the block that holds one thing of each kind. -/
import Derived.Test.YthgiolofnkdfoaaPl2
namespace Go.Proofs.Ythgiolofnkdfoaa
set_option linter.unusedSimpArgs false
set_option linter.unusedVariables false
open Go.RowKit

theorem rdSup_back {x y : Int} (h : SupMay x y) (w : World) :
    Calls Try.prog 18 #[.agg (IV .u8 (supSec x y))] w fun e w' => e = .returned (.tuple #[.agg #[.int .i64 x, .int .i64 y], .int .i64 0]) ∧ Below w.heap.size w w' := by
  have := lrdSup_any (supSec x y) (supSec_length x y) (supSec_bytes x y) w
  rwa [supSec_reads h] at this
theorem rdSup_zero (w : World) :
    Calls Try.prog 18 #[.agg (IV .u8 (zl 128))] w fun e w' => e = .returned (.tuple #[.agg #[.int .i64 0, .int .i64 0], .int .i64 60]) ∧ Below w.heap.size w w' := by
  have := lrdSup_any (zl 128) (zl_length 128) (bytes_zl 128) w
  rwa [sup_zero] at this
theorem rdIno_back {l : List Int} (hl : l.length = 18) (h : InoMay l) (w : World) :
    Calls Try.prog 24 #[.agg (IV .u8 (inoSec l))] w fun e w' => e = .returned (.tuple #[.agg (IV .i64 l), .int .i64 0]) ∧ Below w.heap.size w w' := by
  have hi : (inoSec l).length = 128 := by unfold inoSec; exact inoSecN_length l 18
  have := lrdIno_any (inoSec l) hi (inoSec_bytes l) w
  rwa [inoSec_reads hl h] at this
theorem rdIno_zero (w : World) :
    Calls Try.prog 24 #[.agg (IV .u8 (zl 128))] w fun e w' => e = .returned (.tuple #[.agg (IV .i64 (zl 18)), .int .i64 0]) ∧ Below w.heap.size w w' := by
  have h := lrdIno_any (zl 128) (zl_length 128) (bytes_zl 128) w
  have e1 : (rdInoR (zl 128)).1 = zl 18 := (by rw [ino_zero])
  have e2 : (rdInoR (zl 128)).2 = 0 := by rw [ino_zero]
  rw [e1, e2] at h
  exact h
theorem ptrSec_ok {l : List Int} (hl : l.length = 32) (h : PtrMay l) (w : World) :
    Calls Try.prog 26 #[.agg (IV .i64 l)] w fun e w' => e = .returned (.tuple #[.agg (IV .u8 (ptrSecN l 32)), .int .i64 0]) ∧ Below w.heap.size w w' := by
  have := lptr_any l hl w
  simp only [ptrR_yes h] at this
  exact this
theorem ptrSec_no {l : List Int} (hl : l.length = 32) (h : ¬ PtrMay l) (w : World) :
    Calls Try.prog 26 #[.agg (IV .i64 l)] w fun e w' => e = .returned (.tuple #[.agg (IV .u8 (zl 128)), .int .i64 62]) ∧ Below w.heap.size w w' := by
  have := lptr_any l hl w
  simp only [ptrR_no h] at this
  exact this
theorem rdPtr_back {l : List Int} (hl : l.length = 32) (h : PtrMay l) (w : World) :
    Calls Try.prog 28 #[.agg (IV .u8 (ptrSecN l 32))] w fun e w' => e = .returned (.agg (IV .i64 l)) ∧ Below w.heap.size w w' := by
  have := lreadPointers_any (ptrSecN l 32) (ptrSecN_length l 32) (ptrSecN_bytes l 32 (by omega)) w
  rwa [ptr_back l hl h] at this
theorem sloSec_ok {x : Int} {s : ByteArray} (h : (slotR x s).2 = 0) (w : World) :
    Calls Try.prog 12 #[.agg #[.int .i64 x, .string s]] w fun e w' => e = .returned (.tuple #[.agg (IV .u8 (slotR x s).1), .int .i64 0]) ∧ Below w.heap.size w w' := by
  have := lslo_any x s w
  rwa [h] at this
theorem sloSec_no {x : Int} {s : ByteArray} (h : (slotR x s).2 ≠ 0) (w : World) :
    Calls Try.prog 12 #[.agg #[.int .i64 x, .string s]] w fun e w' => e = .returned (.tuple #[.agg (IV .u8 (zl 128)), .int .i64 63]) ∧ Below w.heap.size w w' := by
  have := lslo_any x s w
  rwa [slot_no h] at this
theorem rdSlo_back {x : Int} {s : ByteArray} (h : (slotR x s).2 = 0) (w : World) :
    Calls Try.prog 14 #[.agg (IV .u8 (slotR x s).1)] w fun e w' => e = .returned (.tuple #[.agg #[.int .i64 x, .string s], .int .i64 0]) ∧ Below w.heap.size w w' := by
  have := lrdSlo_any (slotR x s).1 (slotR_length x s) (slot_bytes x s) w
  rwa [slot_reads h] at this
theorem rdSlo_zero (w : World) :
    Calls Try.prog 14 #[.agg (IV .u8 (zl 128))] w fun e w' => e = .returned (.tuple #[.agg #[.int .i64 0, .string { data := #[] }], .int .i64 0]) ∧ Below w.heap.size w w' := by
  have := lrdSlo_any (zl 128) (zl_length 128) (bytes_zl 128) w
  rwa [slot_zero] at this

/-! what is read of any sector, written again -/
theorem supSec_one {s : List Int} (h : (rdSupR s).2.2 = 0) (w : World) :
    Calls Try.prog 16 #[.agg #[.int .i64 (rdSupR s).1, .int .i64 (rdSupR s).2.1]] w fun e w' => e = .returned (.tuple #[.agg (IV .u8 s), .int .i64 0]) ∧ Below w.heap.size w w' := by
  have h1 := superSector_ok _ _ w (sup_one h).1
  rw [(sup_one h).2] at h1
  exact h1
theorem rdSup_ok {s : List Int} (hs : s.length = 128) (hb : Bytes s) (h : (rdSupR s).2.2 = 0) (w : World) :
    Calls Try.prog 18 #[.agg (IV .u8 s)] w fun e w' => e = .returned (.tuple #[.agg #[.int .i64 (rdSupR s).1, .int .i64 (rdSupR s).2.1], .int .i64 0]) ∧ Below w.heap.size w w' := by
  have h1 := lrdSup_any s hs hb w
  rw [h] at h1
  exact h1
theorem rdSup_bad {s : List Int} (hs : s.length = 128) (hb : Bytes s) (h : (rdSupR s).2.2 ≠ 0) (w : World) :
    Calls Try.prog 18 #[.agg (IV .u8 s)] w fun e w' => e = .returned (.tuple #[.agg #[.int .i64 0, .int .i64 0], .int .i64 60]) ∧ Below w.heap.size w w' := by
  have h1 := lrdSup_any s hs hb w
  rw [rdSup_no h] at h1
  exact h1
theorem inoSec_one {s : List Int} (h : (rdInoR s).2 = 0) (w : World) :
    Calls Try.prog 22 #[.agg (IV .i64 (rdInoR s).1)] w fun e w' => e = .returned (.tuple #[.agg (IV .u8 s), .int .i64 0]) ∧ Below w.heap.size w w' := by
  have h1 := linodeSector_ok (rdInoR s).1 (rdInoR_length s) (ino_one h).1 w
  rw [(ino_one h).2] at h1
  exact h1
theorem rdIno_ok {s : List Int} (hs : s.length = 128) (hb : Bytes s) (h : (rdInoR s).2 = 0) (w : World) :
    Calls Try.prog 24 #[.agg (IV .u8 s)] w fun e w' => e = .returned (.tuple #[.agg (IV .i64 (rdInoR s).1), .int .i64 0]) ∧ Below w.heap.size w w' := by
  have h1 := lrdIno_any s hs hb w
  rw [h] at h1
  exact h1
theorem rdIno_bad {s : List Int} (hs : s.length = 128) (hb : Bytes s) (h : (rdInoR s).2 ≠ 0) (w : World) :
    Calls Try.prog 24 #[.agg (IV .u8 s)] w fun e w' => e = .returned (.tuple #[.agg (IV .i64 (zl 18)), .int .i64 61]) ∧ Below w.heap.size w w' := by
  have h1 := lrdIno_any s hs hb w
  have e1 : (rdInoR s).1 = zl 18 := congrArg Prod.fst (rdIno_no h)
  have e2 : (rdInoR s).2 = 61 := congrArg Prod.snd (rdIno_no h)
  rw [e1, e2] at h1
  exact h1
theorem sloSec_one {s : List Int} (h : (rdSloR s).2.2 = 0) (w : World) :
    Calls Try.prog 12 #[.agg #[.int .i64 (rdSloR s).1, .string (rdSloR s).2.1]] w fun e w' => e = .returned (.tuple #[.agg (IV .u8 s), .int .i64 0]) ∧ Below w.heap.size w w' := by
  have h1 := lslo_any (rdSloR s).1 (rdSloR s).2.1 w
  simp only [slot_one h] at h1
  exact h1
theorem rdSlo_ok {s : List Int} (hs : s.length = 128) (hb : Bytes s) (h : (rdSloR s).2.2 = 0) (w : World) :
    Calls Try.prog 14 #[.agg (IV .u8 s)] w fun e w' => e = .returned (.tuple #[.agg #[.int .i64 (rdSloR s).1, .string (rdSloR s).2.1], .int .i64 0]) ∧ Below w.heap.size w w' := by
  have h1 := lrdSlo_any s hs hb w
  rw [h] at h1
  exact h1
theorem rdSlo_bad {s : List Int} (hs : s.length = 128) (hb : Bytes s) (h : (rdSloR s).2.2 ≠ 0) (w : World) :
    Calls Try.prog 14 #[.agg (IV .u8 s)] w fun e w' => e = .returned (.tuple #[.agg #[.int .i64 0, .string { data := #[] }], .int .i64 63]) ∧ Below w.heap.size w w' := by
  have h1 := lrdSlo_any s hs hb w
  rw [rdSlo_no h] at h1
  exact h1
theorem ptrSec_one {s : List Int} (hs : s.length = 128) (hb : Bytes s) (w : World) :
    Calls Try.prog 26 #[.agg (IV .i64 (rdPtr s))] w fun e w' => e = .returned (.tuple #[.agg (IV .u8 s), .int .i64 0]) ∧ Below w.heap.size w w' := by
  have h1 := lptr_any (rdPtr s) (rdPtr_length s) w
  simp only [ptr_one' hs hb] at h1
  exact h1
theorem inoSec_zero (w : World) :
    Calls Try.prog 22 #[.agg (IV .i64 (zl 18))] w fun e w' => e = .returned (.tuple #[.agg (IV .u8 (zl 128)), .int .i64 0]) ∧ Below w.heap.size w w' := by
  have h1 := inoSec_one (s := zl 128) (by rw [ino_zero]) w
  rwa [show (rdInoR (zl 128)).1 = zl 18 by rw [ino_zero]] at h1
theorem sloSec_zero (w : World) :
    Calls Try.prog 12 #[.agg #[.int .i64 0, .string { data := #[] }]] w fun e w' => e = .returned (.tuple #[.agg (IV .u8 (zl 128)), .int .i64 0]) ∧ Below w.heap.size w w' := by
  have h1 := sloSec_one (s := zl 128) (by rw [slot_zero]) w
  rwa [slot_zero] at h1

/-! the block of one thing of each kind -/
def thiC (x y : Int) (li lp : List Int) (i : Int) (s : ByteArray) : Array Value := ([Value.int .i64 x, Value.int .i64 y] ++ (li.map (Value.int .i64) ++ (lp.map (Value.int .i64) ++ [Value.int .i64 i, Value.string s]))).toArray
theorem thiC_size (x y : Int) {li lp : List Int} (i : Int) (s : ByteArray) (h1 : li.length = 18) (h2 : lp.length = 32) : (thiC x y li lp i s).size = 54 := by simp [thiC, h1, h2]
theorem thi_sup {raw : Result Value} {w : World} {x y : Int} {li lp : List Int} {i : Int} {s : ByteArray} {t : TypeId} {fr : Nat × Nat} (h1 : li.length = 18) (h2 : lp.length = 32) :
    ldRow raw 2 0 w (some (.cells (thiC x y li lp i s) t fr)) = .ok (.agg #[.int .i64 x, .int .i64 y]) w := by
  rw [ldRow_part (by rw [thiC_size x y i s h1 h2]; decide)]
  simp [thiC]
theorem thi_ino {raw : Result Value} {w : World} {x y : Int} {li lp : List Int} {i : Int} {s : ByteArray} {t : TypeId} {fr : Nat × Nat} (h1 : li.length = 18) (h2 : lp.length = 32) :
    ldRow raw 18 2 w (some (.cells (thiC x y li lp i s) t fr)) = .ok (.agg (IV .i64 li)) w := by
  rw [ldRow_part (by rw [thiC_size x y i s h1 h2]; decide)]
  have : (thiC x y li lp i s).extract 2 (2 + 18) = IV .i64 li := by
    simp [thiC, IV, h1]
  rw [this]
theorem thi_ptr {raw : Result Value} {w : World} {x y : Int} {li lp : List Int} {i : Int} {s : ByteArray} {t : TypeId} {fr : Nat × Nat} (h1 : li.length = 18) (h2 : lp.length = 32) :
    ldRow raw 32 20 w (some (.cells (thiC x y li lp i s) t fr)) = .ok (.agg (IV .i64 lp)) w := by
  rw [ldRow_part (by rw [thiC_size x y i s h1 h2]; decide)]
  have : (thiC x y li lp i s).extract 20 (20 + 32) = IV .i64 lp := by
    simp [thiC, IV, h1, h2, List.drop_append]
  rw [this]
theorem thi_slo {raw : Result Value} {w : World} {x y : Int} {li lp : List Int} {i : Int} {s : ByteArray} {t : TypeId} {fr : Nat × Nat} (h1 : li.length = 18) (h2 : lp.length = 32) :
    ldRow raw 2 52 w (some (.cells (thiC x y li lp i s) t fr)) = .ok (.agg #[.int .i64 i, .string s]) w := by
  rw [ldRow_part (by rw [thiC_size x y i s h1 h2]; decide)]
  have : (thiC x y li lp i s).extract 52 (52 + 2) = #[.int .i64 i, .string s] := by
    have e : (li.map (Value.int .i64)).drop 50 = [] := List.drop_eq_nil_of_le (by simp [h1])
    simp [thiC, h1, h2, List.drop_append, e]
  rw [this]
attribute [go_sem] thi_sup thi_ino thi_ptr thi_slo
end Go.Proofs.Ythgiolofnkdfoaa
