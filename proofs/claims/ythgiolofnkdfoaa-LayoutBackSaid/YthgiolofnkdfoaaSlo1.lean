/- Layout: the sector of a slot. -/
import Derived.Test.YthgiolofnkdfoaaNam3
import Derived.Test.YthgiolofnkdfoaaPtr
import Derived.Lib.ConvBytes
namespace Go.Proofs.Ythgiolofnkdfoaa
set_option linter.unusedSimpArgs false
set_option linter.unusedVariables false
open Go.RowKit

def nmL (s : ByteArray) : List Int := s.data.toList.map fun b => (b.toNat : Int)
@[go_sem, simp] theorem nmL_length (s : ByteArray) : (nmL s).length = s.size := by simp [nmL]
theorem nmL_nth (s : ByteArray) (j : Nat) (h : j < s.size) : nth (nmL s) j = ((s[j]'h).toNat : Int) := by
  unfold nth nmL
  rw [List.getElem?_map, Lib.data_getElem? s j h]; rfl
def slotSec (x : Int) (s : ByteArray) : List Int := setB (setB (putL (zl 128) 5 (nmL s)) 0 4 x) 4 1 s.size
def SlotMay (x : Int) (s : ByteArray) : Prop := (1 ≤ x ∧ x ≤ 512) ∧ NameMay s.data.toList
instance (x : Int) (s : ByteArray) : Decidable (SlotMay x s) := by unfold SlotMay; infer_instance
theorem SlotMay.size {x : Int} {s : ByteArray} (h : SlotMay x s) : 1 ≤ s.size ∧ s.size ≤ 40 := by
  have h1 := h.2.1; have h2 := h.2.2.1; rw [len_data] at *; omega
theorem below_bytes {B : Nat} {a w : World} (h : Below B a w) (hB : B ≤ w.heap.size) (e : TypeId) (s : ByteArray) : Below B a (Lib.bytesWorld w e s) := by
  refine h.trans ⟨rfl, rfl, rfl, by rw [Lib.bytesWorld_size]; omega, fun k hk => Lib.bytesWorld_at_old w e s k (by omega)⟩

/-- the sector and the error's number -/
def slotR (x : Int) (s : ByteArray) : List Int × Int :=
  if x = 0 ∧ s.toList = [] then (zl 128, 0) else if SlotMay x s then (slotSec x s, 0) else (zl 128, 63)
def slotV (x : Int) (s : ByteArray) : Value := .tuple #[.agg (IV .u8 (slotR x s).1), .int .i64 (slotR x s).2]

theorem bytesCells_IV (w : World) (e : TypeId) (s : ByteArray) : Lib.bytesCells w e s = IV .u8 (nmL s ++ List.replicate (grownCap w s.size 0 e - s.size) 0) := by
  apply Array.ext'
  simp [Lib.bytesCells, IV, nmL]
theorem hat_bytes (w : World) (e : TypeId) (s : ByteArray) : ∃ fr, hat (Lib.bytesWorld w e s) w.heap.size = some (.cells (IV .u8 (nmL s ++ List.replicate (grownCap w s.size 0 e - s.size) 0)) e fr) :=
  ⟨_, by rw [← bytesCells_IV]; exact Lib.bytesWorld_at_new w e s⟩
theorem hat_bytes_old (w : World) (e : TypeId) (s : ByteArray) {k : Nat} {o : Obj} (h : hat w k = some o) : hat (Lib.bytesWorld w e s) k = some o ∧ k < (Lib.bytesWorld w e s).heap.size :=
  ⟨(Lib.bytesWorld_at_old w e s k (hat_lt h)).trans h, by rw [Lib.bytesWorld_size]; have := hat_lt h; omega⟩

set_option maxHeartbeats 1000000 in
set_option maxRecDepth 100000 in
theorem lslotSector_zero (s : ByteArray) (w : World) (hs : s.toList = []) :
    Calls Try.prog 12 #[.agg #[.int .i64 0, .string s]] w fun e w' => e = .returned (.tuple #[.agg (IV .u8 (zl 128)), .int .i64 0]) ∧ Below w.heap.size w w' := by
  go_enter Try.func12, Try.ntmps12
  go_wp2_with fail
  refine ret_ct row25 rfl (cs := IV .u8 (zl 128)) rfl (hat_alloc_at _ _ _ (by simp)) (by simp) rfl ⟨rfl, ?_⟩
  exact ((Below.refl _ _).alloc (Nat.le_refl _) _).alloc (by simp) _

set_option maxHeartbeats 1000000 in
set_option maxRecDepth 100000 in
theorem lslotSector_no (x : Int) (s : ByteArray) (w : World) (hz : x = 0 → ¬ s.toList = []) (h : ¬ SlotMay x s) :
    Calls Try.prog 12 #[.agg #[.int .i64 x, .string s]] w fun e w' => e = .returned (.tuple #[.agg (IV .u8 (zl 128)), .int .i64 63]) ∧ Below w.heap.size w w' := by
  have H := Lib.hid h
  clear h
  by_cases hx : x = 0
  · subst hx
    have hs := hz rfl
    clear hz
    go_enter Try.func12, Try.ntmps12
    go_wp2_with fail
    refine (lwithin_no _ _ _ _ (by omega)).mono ?_; rintro e w' ⟨rfl, rfl⟩
    go_wp2_with fail
    refine ret_ct row25 rfl (cs := IV .u8 (zl 128)) rfl (hat_alloc_at _ _ _ (by simp)) (by simp) rfl ⟨rfl, ?_⟩
    exact ((Below.refl _ _).alloc (Nat.le_refl _) _).alloc (by simp) _
  · clear hz
    go_enter Try.func12, Try.ntmps12
    go_wp2_with fail
    refine (lwithin_any _ _ _ _).mono ?_; rintro e w' ⟨rfl, rfl⟩
    cases h1 : decide (1 ≤ x ∧ x ≤ 512)
    · go_wp2_with fail
      refine ret_ct row25 rfl (cs := IV .u8 (zl 128)) rfl (hat_alloc_at _ _ _ (by simp)) (by simp) rfl ⟨rfl, ?_⟩
      exact ((Below.refl _ _).alloc (Nat.le_refl _) _).alloc (by simp) _
    · go_wp2_with fail
      refine (lnameMay_any _ _).mono ?_; rintro e w1 ⟨rfl, hb1⟩
      rw [decide_eq_false (fun h => H.out ⟨of_decide_eq_true h1, h⟩)]
      have hb := below_call (((Below.refl w.heap.size w).alloc (Nat.le_refl _) _).alloc (by simp) _) hb1 (by simp; omega)
      obtain ⟨f1, z1⟩ := hop hb1 (k := w.heap.size + 1) (o := .cells (IV .u8 (zl 128)) 25) (by simp [go_sem])
      clear hb1
      go_wp2_with fail
      refine ret_ct row25 rfl (cs := IV .u8 (zl 128)) rfl (hat_setRow_at _ _ _ _ _ _ f1) (by simp) rfl ⟨rfl, ?_⟩
      exact below_setRow hb (by omega) _

set_option maxHeartbeats 1000000 in
set_option maxRecDepth 100000 in
theorem lslotSector_ok (x : Int) (s : ByteArray) (w : World) (h : SlotMay x s) :
    Calls Try.prog 12 #[.agg #[.int .i64 x, .string s]] w fun e w' => e = .returned (.tuple #[.agg (IV .u8 (slotSec x s)), .int .i64 0]) ∧ Below w.heap.size w w' := by
  have hcv := fun w => Lib.run_convert_string_bytes (P := Try.prog) w 9 59 5 s Try.underlying9 Try.underlying59 Try.underlying5
  obtain ⟨s1, s40⟩ := h.size
  have H := Lib.hid h
  obtain ⟨⟨x1, x2⟩, hn⟩ := h
  have hx : ¬ x = 0 := by omega
  clear hn
  go_enter Try.func12, Try.ntmps12
  go_wp2_with fail
  refine (lwithin_yes _ _ _ _ (by omega)).mono ?_; rintro e w' ⟨rfl, rfl⟩
  go_wp2_with fail
  refine (lnameMay_any _ _).mono ?_; rintro e w1 ⟨rfl, hb1⟩
  rw [decide_eq_true H.out.2]
  have hb := below_call (((Below.refl w.heap.size w).alloc (Nat.le_refl _) _).alloc (by simp) _) hb1 (by simp; omega)
  obtain ⟨f0, z0⟩ := hop hb1 (k := w.heap.size) (o := .cells #[.int .i64 x, .string s] 23) (by simp [go_sem])
  obtain ⟨f1, z1⟩ := hop hb1 (k := w.heap.size + 1) (o := .cells (IV .u8 (zl 128)) 25) (by simp [go_sem])
  clear hb1
  go_wp2_with fail
  obtain ⟨fr, fb⟩ := hat_bytes w1 5 s
  have hsp := splice_ok (zl 128) (nmL s) (by simp) 5 w1.heap.size (grownCap w1 s.size 0 5) 5 fr (nmL s ++ List.replicate (grownCap w1 s.size 0 5 - s.size) 0) (Lib.bytesWorld w1 5 s) fb
    (fun j hj => by rw [List.getElem?_append_left hj]) (by simp; omega) (by simp; omega)
  rw [nmL_length] at hsp
  refine hsp.mono ?_; rintro e w2 ⟨rfl, hb2⟩
  clear hsp fb
  have hb := below_call (below_bytes hb (by omega) 5 s) hb2 (by rw [Lib.bytesWorld_size]; omega)
  obtain ⟨f0, z0⟩ := hop hb2 (hat_bytes_old w1 5 s f0).1
  obtain ⟨f1, z1⟩ := hop hb2 (hat_bytes_old w1 5 s f1).1
  clear hb2
  have hpl : (putL (zl 128) 5 (nmL s)).length = 128 := by rw [putL_length _ _ _ (by simp; omega)]; simp
  go_wp2_with fail
  have hb := below_new hb (by omega) (.cells (IV .u8 (putL (zl 128) 5 (nmL s))) 25)
  obtain ⟨f0, z0⟩ := hopA w2 (.cells (IV .u8 (putL (zl 128) 5 (nmL s))) 25) f0
  obtain ⟨f1, z1⟩ := hopA w2 (.cells (IV .u8 (putL (zl 128) 5 (nmL s))) 25) f1
  obtain ⟨f4, z4⟩ := hopN w2 (.cells (IV .u8 (putL (zl 128) 5 (nmL s))) 25)
  generalize w2.alloc (.cells (IV .u8 (putL (zl 128) 5 (nmL s))) 25) = w3 at *
  generalize w2.heap.size = g4 at *
  refine wp_region_vals (by kernel_rfl) 8 (by decide) rfl (fun i => match i with
    | 0 => .agg (IV .u8 (putL (zl 128) 5 (nmL s))) | 1 => .pointer (some ⟨w.heap.size, 0, none⟩) | 2 => .int .i64 x | 3 => .agg (IV .u8 (setB (putL (zl 128) 5 (nmL s)) 0 4 x))
    | 4 => .pointer (some ⟨w.heap.size, 1, none⟩) | 5 => .string s | 6 => .int .i64 s.size | _ => .agg (IV .u8 (slotSec x s))) ?_ ?_
  · intro i o hi ho a' w' hB hS hF
    have hi' : i = 0 ∨ i = 1 ∨ i = 2 ∨ i = 3 ∨ i = 4 ∨ i = 5 ∨ i = 6 ∨ i = 7 := by omega
    rcases hi' with rfl | rfl | rfl | rfl | rfl | rfl | rfl | rfl
    all_goals (have ho' := Option.some.inj ho; subst ho')
    · exact wpOp_load_row 25 128 row25 (.tmp 4) rfl rfl rfl g4 _ ((hS 4 (by decide)).trans rfl) ((hat_below hB z4).trans f4) (by simp [hpl]) ⟨rfl, hB⟩
    · have e1 : gt a' 1 = .pointer (some ⟨w.heap.size, 0, none⟩) := (hS 1 (by decide)).trans rfl
      unfold gt at e1
      refine wpOp_val rfl rfl (v := .pointer (some ⟨w.heap.size, 0, none⟩)) (w1 := w') ?_ ⟨rfl, hB⟩
      simp [go_sem, e1]
    · have e := hF 1 (by decide) _ 30 rfl rfl
      exact wpOp_load_cell 3 celli (.tmp 30) rfl rfl rfl w.heap.size 0 _ _ e ((hat_below hB (hat_lt f0)).trans f0) rfl ⟨rfl, hB⟩
    · have e0 := hF 0 (by decide) _ 29 rfl rfl
      have e2 := hF 2 (by decide) _ 31 rfl rfl
      unfold gt at e0 e2
      refine wpOp_call (f := 34) (args := #[.agg (IV .u8 (putL (zl 128) 5 (nmL s))), .int .i64 0, .int .i64 4, .int .i64 x]) rfl rfl (by simp [go_sem, e0, e2]) (put_ok _ hpl 0 4 x w' (by omega) (by omega) (by omega) (by omega) (by omega) (by omega)) ?_
      rintro e w'' ⟨rfl, hb'⟩
      exact ⟨_, rfl, rfl, below_call hB hb' hB.size⟩
    · have e1 : gt a' 1 = .pointer (some ⟨w.heap.size, 0, none⟩) := (hS 1 (by decide)).trans rfl
      unfold gt at e1
      refine wpOp_val rfl rfl (v := .pointer (some ⟨w.heap.size, 1, none⟩)) (w1 := w') ?_ ⟨rfl, hB⟩
      simp [go_sem, e1]
    · have e := hF 4 (by decide) _ 33 rfl rfl
      exact wpOp_load_cell 9 cells (.tmp 33) rfl rfl rfl w.heap.size 1 _ _ e ((hat_below hB (hat_lt f0)).trans f0) rfl ⟨rfl, hB⟩
    · have e := hF 5 (by decide) _ 34 rfl rfl
      unfold gt at e
      refine wpOp_val rfl rfl (v := .int .i64 s.size) (w1 := w') ?_ ⟨rfl, hB⟩
      simp [go_sem, e]
    · have e0 := hF 3 (by decide) _ 32 rfl rfl
      have e2 := hF 6 (by decide) _ 35 rfl rfl
      unfold gt at e0 e2
      refine wpOp_call (f := 34) (args := #[.agg (IV .u8 (setB (putL (zl 128) 5 (nmL s)) 0 4 x)), .int .i64 4, .int .i64 1, .int .i64 s.size]) rfl rfl (by simp [go_sem, e0, e2]) (put_ok _ (by simp [hpl]) 4 1 s.size w' (by omega) (by omega) (by omega) (by omega) (by omega) (by omega)) ?_
      rintro e w'' ⟨rfl, hb'⟩
      exact ⟨_, rfl, rfl, below_call hB hb' hB.size⟩
  · intro w' hB
    obtain ⟨f1, z1⟩ := hop hB f1
    have hb := below_call hb hB (by omega)
    have hsl : (slotSec x s).length = 128 := by simp [slotSec, hpl]
    clear hB f0 f4 hpl
    simp only [putAll, List.take, List.drop, List.take_succ_cons, List.drop_succ_cons]
    go_wp2_with fail
    refine ret_ct row25 rfl (cs := IV .u8 (slotSec x s)) rfl (hat_setRow_at _ _ _ _ _ _ f1) (by simp [hsl]) rfl ⟨rfl, ?_⟩
    exact below_setRow hb (by omega) _
end Go.Proofs.Ythgiolofnkdfoaa
