/- used, Room: the walks. -/
import Derived.Test.YteffoihkljkfdaaDoorPps
import Derived.Deep.RegionHeld3
namespace Go.Proofs.YteffoihkljkfdaaDoor
set_option linter.unusedSimpArgs false
set_option linter.unusedVariables false
open Go.RowKit

theorem ncount_le {S : PS} (hS : POk S) (i : Int) : 0 ≤ ncount (S.nodes i) ∧ ncount (S.nodes i) ≤ 3000 := by
  cases h : S.nodes i with
  | none => exact ⟨Int.le_refl _, by show (0 : Int) ≤ _; omega⟩
  | some n => exact Nd.count_le (hS.n i n h)
/-- what has been added up -/
def upto (S : PS) (left : Int → Bool) : Int := sumB 513 fun i => if left i = true then 0 else ncount (S.nodes i)
theorem upto_le {S : PS} (hS : POk S) (left : Int → Bool) : 0 ≤ upto S left ∧ upto S left ≤ 513 * 3000 := by
  refine sumB_le (N := 513) (B := 3000) fun k => ?_
  have := ncount_le hS k
  split <;> omega
theorem upto_step {S : PS} {left : Int → Bool} {x : Int} (hx : 0 ≤ x ∧ x < 513) (hl : left x = true) : upto S (fun y => left y && !decide (y = x)) = upto S left + ncount (S.nodes x) := by
  unfold upto
  rw [sumB_step (x := x) (f := fun i => if left i = true then 0 else ncount (S.nodes i)) hx (fun k hk => by simp [hk])]
  simp [hl]
set_option maxHeartbeats 8000000 in
set_option maxRecDepth 100000 in
theorem used_any {w : World} {gp bn c : Nat} {S : PS} {A : Int → NA} {own : Nat → Option (Int × Nat)} (h : PT w gp bn c S A own) (hS : POk S) : Calls Tryd.prog 28 #[.pointer (some ⟨gp, 0, none⟩)] w fun e w' => e = .returned (.int .i64 S.used) ∧ Below w.heap.size w w' := by
  have H := Lib.hid h
  have hp := h.p
  have hpl := hat_lt hp
  have hmo : MO kInt w (.map (some bn)) (some bn) (ptrM S A) c := .inr ⟨bn, rfl, rfl, h.m⟩
  have HMO := Lib.hid hmo
  have HBN := Lib.hid (h.m.lt)
  clear hmo h
  go_enter Tryd.func28, Tryd.ntmps28
  go_wp2_with (first | (at_range; refine wpList_range_mo rfl _ _ rfl Tryd.underlying75 rfl HMO.out ?_; intro w1 cnt hmr hf hs) | fail)
  go_frame
  obtain ⟨r, hr⟩ : ∃ x, x = w.heap.size := ⟨_, rfl⟩
  rw [← hr] at hmr ⊢
  have HR := Lib.hid hr
  have HS := Lib.hid hmr
  have HF1 := Lib.hid hf
  clear hmr hs hr hf
  go_loopw [3] (fun v wr => ∃ (left : Int → Bool) (cnt : Nat), v = .int .i64 (upto S left) ∧ Hid (MRO kInt wr (some bn) r (ptrM S A) c left cnt) ∧ Hid (Fr [] w wr)) (fun _ wr => wr.rangeLeft bn r)
  case atStart =>
    refine ⟨_, cnt, ?_, HS, HF1⟩
    have e : upto S (fun x => (ptrM S A x).isSome) = 0 := by
      unfold upto
      rw [sumB_congr (g := fun _ => 0) (fun k _ _ => by
        unfold ptrM
        cases hq : S.nodes k <;> simp [ncount, hq]), sumB_zero]
    rw [e]
  case round =>
    obtain ⟨left, cnt, rfl, HMR, HF⟩ := hrel
    have hub := upto_le hS left
    go_wp2_with (first | (at_next; refine wpList_next_mo rfl _ rfl rfl HMR.out ?_ ?_) | fail)
    · intro hl0
      have e : upto S left = S.used := by
        unfold upto PS.used
        exact sumB_congr (fun k _ _ => by rw [hl0 k]; rfl)
      have HE := Lib.hid e
      clear hl0 HMR e
      go_wp2_with fail
      go_ret
      exact ⟨by rw [HE.out]; rfl, HF.out.bl⟩
    · intro x v w2 cnt' b hx hl hm hmr hlt hf hs hen hob
      obtain ⟨nd, hnd⟩ : ∃ nd, S.nodes x = some nd := by
        cases hd : S.nodes x with
        | none => unfold ptrM at hm; rw [hd] at hm; cases hm
        | some s => exact ⟨s, rfl⟩
      have hv : v = .pointer (some ⟨(A x).g, 0, none⟩) := by
        unfold ptrM at hm
        rw [hnd] at hm
        exact (Option.some.inj hm).symm
      subst hv
      have hxr := hS.k x (by rw [hnd]; rfl)
      have hxi := hS.i
      have hst := upto_step (S := S) (left := left) (x := x) (by omega) hl
      rw [hnd] at hst
      have hnc := Nd.count_le (hS.n x nd hnd)
      have HF2 := Lib.hid ((((HF.out.mono (ex' := [r]) (by simp)).trans hf).past (ex' := []) (fun g hg => .inr (by simp at hg; rw [hg, HR.out]; exact Nat.le_refl _))))
      have HN := Lib.hid ((H.out.fr HF2.out (by simp)).n x nd hnd)
      have HM2 := Lib.hid hmr
      have HLT := Lib.hid (show w2.rangeLeft bn r = cnt' ∧ wr.rangeLeft bn r = cnt ∧ cnt' < cnt from ⟨hmr.left_eq, HMR.out.left_eq, hlt⟩)
      have HST := Lib.hid hst
      have HK := Lib.hid (hS.n x nd hnd)
      have hen2 : (Instr.entry (.pointer (some ⟨r, 0, none⟩))).run Tryd.prog w2 = .ok (.tuple #[.int .i64 x, .pointer (some ⟨(A x).g, 0, none⟩)]) w2 := hen
      clear hen hmr hf hlt hob hm hl hst hnd
      go_wp2_with fail
      refine (count_any HN.out HK.out).mono ?_; rintro e w3 ⟨rfl, hb3⟩
      have HM3 := Lib.hid (HM2.out.fr (fr_below hb3 []) (by simp) (by simp))
      have HF3 := Lib.hid (HF2.out.trans (fr_below hb3 []))
      have HL3 := Lib.hid (show w3.rangeLeft bn r = cnt' from HM3.out.left_eq)
      clear hb3
      go_wp2_with fail
      go_roundw
      case rel => exact ⟨_, cnt', by rw [HST.out]; rfl, HM3, HF3⟩
      case measure =>
        rw [HL3.out, HLT.out.2.1]
        exact HLT.out.2.2
/-- what a cell holds -/
def cf (w : World) (g i : Nat) : Value := (w.cell? ⟨g, i, none⟩).getD undef
theorem cf_at {w : World} {g i : Nat} {cs : Array Value} {t : TypeId} {fr : Nat × Nat} {v : Value} (h : hat w g = some (.cells cs t fr)) (hv : cs[i]? = some v) : cf w g i = v := by
  unfold cf
  rw [cell_hat h, hv]; rfl
theorem cf3 {w : World} {g : Nat} {a b c : Value} {t : TypeId} (h : hat w g = some (.cells #[a, b, c] t)) : hat w g = some (.cells #[cf w g 0, cf w g 1, cf w g 2] t) := by
  rw [cf_at (i := 0) h rfl, cf_at (i := 1) h rfl, cf_at (i := 2) h rfl]
  exact h
def PS.free (S : PS) : Int := S.sectors - 1 - S.inodes - S.used
def PS.left (S : PS) : Int := S.inodes - (cntB 513 (fun i => (S.nodes i).isSome) : Nat)
theorem PS.used_le {S : PS} (hS : POk S) : 0 ≤ S.used ∧ S.used ≤ 513 * 3000 := by
  refine sumB_le (N := 513) (B := 3000) fun k => ncount_le hS k
def set3 (w : World) (g : Nat) (a b c : Value) : World := ((w.setCell ⟨g, 0, none⟩ a).setCell ⟨g, 1, none⟩ b).setCell ⟨g, 2, none⟩ c
theorem set3_fr (w : World) (g : Nat) (a b c : Value) : Fr [g] w (set3 w g a b c) := ((fr_setCell w g 0 a).trans (fr_setCell _ g 1 b)).trans (fr_setCell _ g 2 c)
theorem set3_at {w : World} {g : Nat} {x y z a b c : Value} {t : TypeId} (h : hat w g = some (.cells #[x, y, z] t)) : hat (set3 w g a b c) g = some (.cells #[a, b, c] t) := by
  unfold set3
  obtain ⟨cs, h1, h2, h3, h4⟩ := hat_setCells g t (0, 0) [a, b, c] 0 w _ h
  have e : w.setCells g 0 [a, b, c] = ((w.setCell ⟨g, 0, none⟩ a).setCell ⟨g, 1, none⟩ b).setCell ⟨g, 2, none⟩ c := rfl
  rw [← e, h1]
  congr 2
  have k : ∀ j, j < 3 → cs[j]? = #[a, b, c][j]? := fun j hj => by
    match j, hj with
    | 0, _ => exact h4 0 _ rfl (by show 0 + 0 < 3; decide)
    | 1, _ => exact h4 1 _ rfl (by show 0 + 1 < 3; decide)
    | 2, _ => exact h4 2 _ rfl (by show 0 + 2 < 3; decide)
  apply Array.ext_getElem?
  intro j
  by_cases hj : j < 3
  · exact k j hj
  · rw [Array.getElem?_eq_none (by rw [h2]; simp; omega), Array.getElem?_eq_none (by simp; omega)]
set_option maxHeartbeats 8000000 in
set_option maxRecDepth 100000 in
theorem room_any {w : World} {gp bn c : Nat} {S : PS} {A : Int → NA} {own : Nat → Option (Int × Nat)} (h : PT w gp bn c S A own) (hS : POk S) : Calls Tryd.prog 13 #[.pointer (some ⟨gp, 0, none⟩)] w fun e w' => e = .returned (.agg #[.int .i64 S.free, .int .i64 0, .int .i64 S.left]) ∧ Below w.heap.size w w' := by
  have H := Lib.hid h
  have hp := h.p
  have hpl := hat_lt hp
  have HLT := Lib.hid (show gp < w.heap.size ∧ bn < w.heap.size from ⟨hpl, h.m.lt⟩)
  have hc := h.cnt hS
  have hx0 : hat (w.alloc (.cells #[.int .i64 0, .int .i64 0, .int .i64 0] 42)) w.heap.size = some (.cells #[.int .i64 0, .int .i64 0, .int .i64 0] 42) := (hopN w _).1
  have hf0 := fr_new w (.cells #[.int .i64 0, .int .i64 0, .int .i64 0] 42) []
  have H0 := Lib.hid (h.fr hf0 (by simp))
  have HF0 := Lib.hid hf0
  have hp0 := H0.out.p
  have m0 := H0.out.m
  have hus := PS.used_le hS
  obtain ⟨hss1, hss2⟩ := hS.s
  obtain ⟨hsi1, hsi2⟩ := hS.i
  obtain ⟨hus1, hus2⟩ := hus
  have HC := Lib.hid hc
  have hcb := cntB_le 513 (fun i => (S.nodes i).isSome)
  rw [← hc] at hcb
  clear hf0 h hc hp hpl
  go_enter Tryd.func13, Tryd.ntmps13
  go_upto_region 1 with fail
  generalize w.alloc (.cells #[.int .i64 0, .int .i64 0, .int .i64 0] 42) = w0 at *
  obtain ⟨gr, hgr⟩ : ∃ x, x = w.heap.size := ⟨_, rfl⟩
  rw [← hgr] at hx0 ⊢
  have hxl := hat_lt hx0
  have hpl := hat_lt hp0
  have HGR := Lib.hid hgr
  clear hgr
  have HPD := Lib.hid (show hat w0.drew gp = some (.cells #[.int .i64 S.sectors, .int .i64 S.inodes, .map (some bn)] 77) from hp0)
  have HXD := Lib.hid (show hat w0.drew gr = some (.cells #[.int .i64 0, .int .i64 0, .int .i64 0] 42) from hx0)
  have HUS := Lib.hid (used_any (H0.out.fr (fr_drew (Fr.refl [] w0)) (by simp)) hS)
  have HD := Lib.hid (H0.out.fr (fr_drew (Fr.refl [] w0)) (by simp))
  have hxc := cf3 hx0
  have HNE := Lib.hid (show gp ≠ gr ∧ bn ≠ gr from by
    have h1 := HGR.out
    have h2 := HLT.out
    omega)
  have hml : (Builtin.len_ #[75] 3 #[.map (some bn)]).run Tryd.prog w0.drew = .ok (.int .i64 c) w0.drew := HD.out.m.len Tryd.underlying75 3
  go_region_held3 (fun w' => hat w' gp = some (.cells #[.int .i64 S.sectors, .int .i64 S.inodes, .map (some bn)] 77) ∧ hat w' gr = some (.cells #[cf w' gr 0, cf w' gr 1, cf w' gr 2] 42) ∧ (Builtin.len_ #[75] 3 #[.map (some bn)]).run Tryd.prog w' = .ok (.int .i64 c) w') (first | assumption | (refine ⟨?_, ?_, ?_⟩; (first | assumption | exact ((set3_fr _ gr _ _ _).block gp (hat_lt p1) (by have := HNE.out.1; simpa using this)).trans p1 | fail); (first | assumption | exact cf3 (set3_at x1) | fail); (first | assumption | exact (MG.fr m1 (set3_fr _ gr _ _ _) (by have := HNE.out.2; simpa using this)).len Tryd.underlying75 3 | fail)))
    (first
      | (with_reducible refine HUS.out.mono ?_; rintro e w1 ⟨rfl, hb1⟩; have p1 := (hop hb1 HPD.out).1; have x1 := cf3 (hop hb1 HXD.out).1; have HB1 := Lib.hid hb1; have m1 := (HD.out.fr (fr_below hb1 []) (by simp)).m; have l1 := m1.len Tryd.underlying75 3)
      | fail)
  have q1 := set3_at (a := .int .i64 S.free) (b := .int .i64 0) (c := .int .i64 S.left) x1
  have e1 : IntKind.i64.wrap (IntKind.i64.wrap (IntKind.i64.wrap (S.sectors - 1) - S.inodes) - S.used) = S.free := by
    unfold PS.free
    rw [IntWalk.i64_in (S.sectors - 1) ⟨by omega, by omega⟩, IntWalk.i64_in (S.sectors - 1 - S.inodes) ⟨by omega, by omega⟩, IntWalk.i64_in _ ⟨by omega, by omega⟩]
  have e2 : IntKind.i64.wrap (S.inodes - c) = S.left := by
    unfold PS.left
    rw [← HC.out, IntWalk.i64_in _ ⟨by omega, by omega⟩]
  rw [e1, e2]
  have q2 : Below w.heap.size w (set3 w1 gr (.int .i64 S.free) (.int .i64 0) (.int .i64 S.left)) := by
    refine Fr.below (ex := [gr]) ?_ (Nat.le_refl _) (by have := HGR.out; simp; omega)
    refine ((fr_drew (Fr.mono HF0.out (ex' := [gr]) (by simp))).trans (fr_below hb1 [gr])).trans (set3_fr _ _ _ _ _)
  have HQ1 := Lib.hid q1
  have HQ2 := Lib.hid q2
  clear q1 q2 e1 e2 x1 m1 l1 hb1 HB1 p1 hx0 hp0 m0 hxc hml HPD HXD HUS HD H0 H hxl hpl
  have e3 : ((w1.setCell { block := gr, off := 0 } (Value.int IntKind.i64 S.free)).setCell { block := gr, off := 1 } (Value.int IntKind.i64 0)).setCell { block := gr, off := 2 } (Value.int IntKind.i64 S.left) = set3 w1 gr (.int .i64 S.free) (.int .i64 0) (.int .i64 S.left) := rfl
  rw [e3]
  generalize set3 w1 gr (.int .i64 S.free) (.int .i64 0) (.int .i64 S.left) = w2 at *
  go_wp2_with fail
  refine ret_c (n := 3) (rowTy Tryd.underlying42 rfl (by kernel_rfl)) rfl (cs := #[.int .i64 S.free, .int .i64 0, .int .i64 S.left]) rfl HQ1.out rfl rfl ⟨rfl, HQ2.out⟩
end Go.Proofs.YteffoihkljkfdaaDoor
