/- stat: the walk. -/
import Derived.Test.YteffoihkljkfdaaDoorPse
namespace Go.Proofs.YteffoihkljkfdaaDoor
set_option linter.unusedSimpArgs false
set_option linter.unusedVariables false
open Go.RowKit

theorem cf6 {w : World} {g : Nat} {a b c d e f : Value} {t : TypeId} (h : hat w g = some (.cells #[a, b, c, d, e, f] t)) : hat w g = some (.cells #[cf w g 0, cf w g 1, cf w g 2, cf w g 3, cf w g 4, cf w g 5] t) := by
  rw [cf_at (i := 0) h rfl, cf_at (i := 1) h rfl, cf_at (i := 2) h rfl, cf_at (i := 3) h rfl, cf_at (i := 4) h rfl, cf_at (i := 5) h rfl]
  exact h
theorem fr_setRow (w : World) (g : Nat) (cs : Array Value) : Fr [g] w (w.setRow g cs) := ⟨rfl, rfl, rfl, by simp, fun k hk hn => hat_setRow _ _ _ _ (by simpa using hn)⟩
set_option maxHeartbeats 8000000 in
set_option maxRecDepth 100000 in
theorem stat_any {w : World} {gp bn c : Nat} {S : PS} {A : Int → NA} {own : Nat → Option (Int × Nat)} (h : PT w gp bn c S A own) (hS : POk S) {i : Int} (hi : (S.nodes i).isSome = true) :
    Calls Tryd.prog 65 #[.pointer (some ⟨gp, 0, none⟩), .int .i64 i] w fun e w' => e = .returned (S.stat i).val ∧ Below w.heap.size w w' := by
  have hn := PS.nd_get hi
  obtain ⟨n, hnn⟩ : ∃ n, n = S.nd i := ⟨_, rfl⟩
  rw [← hnn] at hn
  have HQ := Lib.hid (show S.stat i = ⟨i, n.kind, n.links, n.size, n.made, n.count⟩ by rw [hnn]; rfl)
  obtain ⟨x0, hx0⟩ : ∃ x, x = w.alloc (.cells #[.int .i64 0, .int .i64 0, .int .i64 0, .int .i64 0, .int .i64 0, .int .i64 0] 33) := ⟨_, rfl⟩
  have hg0 : hat x0 w.heap.size = some (.cells #[.int .i64 0, .int .i64 0, .int .i64 0, .int .i64 0, .int .i64 0, .int .i64 0] 33) := by rw [hx0]; exact (hopN w _).1
  have HF0 := Lib.hid (show Fr [] w x0 by rw [hx0]; exact fr_new w _ [])
  have h0 := h.fr HF0.out (by simp)
  have hlk := h0.look_yes hn
  have hp0 := h0.p
  have hpl0 := hat_lt hp0
  have HP := Lib.hid h0
  have HN := Lib.hid (h0.n i n hn)
  have hh0 := HN.out.h
  have hhl0 := hat_lt hh0
  have HLT := Lib.hid (show (A i).g < w.heap.size from hat_lt (h.n i n hn).h)
  have HK := Lib.hid (hS.n i n hn)
  generalize hA : A i = a at *
  clear h hn h0
  have HNN := Lib.hid hnn
  clear hnn
  rw [hx0] at hlk hp0 hpl0 hh0 hhl0 hg0
  go_enter Tryd.func65, Tryd.ntmps65
  go_upto_region 2 with fail
  rw [← hx0] at hlk hp0 hpl0 hh0 hhl0 hg0 ⊢
  clear hx0 hlk hp0 hpl0
  obtain ⟨gr, hgr⟩ : ∃ x, x = w.heap.size := ⟨_, rfl⟩
  rw [← hgr] at hg0 ⊢
  have HGR := Lib.hid hgr
  have hgl := hat_lt hg0
  have HPD := Lib.hid (show hat x0.drew a.g = some (.cells #[.int .i64 n.kind, .int .i64 n.links, .int .i64 n.size, .int .i64 n.made, a.dv, a.sv, a.nv] 74) from hh0)
  have HXD := Lib.hid (show hat x0.drew gr = some (.cells #[.int .i64 0, .int .i64 0, .int .i64 0, .int .i64 0, .int .i64 0, .int .i64 0] 33) from hg0)
  have HUS := Lib.hid (count_any (HN.out.fr (fr_drew (Fr.refl [] x0)) (by simp) (by simp) (by simp) (by simp)) HK.out)
  have hgc := cf6 hg0
  have HNE := Lib.hid (show a.g ≠ gr from by have h1 := HLT.out; omega)
  clear hgr
  go_region_held3 (fun w' => hat w' a.g = some (.cells #[.int .i64 n.kind, .int .i64 n.links, .int .i64 n.size, .int .i64 n.made, a.dv, a.sv, a.nv] 74) ∧ hat w' gr = some (.cells #[cf w' gr 0, cf w' gr 1, cf w' gr 2, cf w' gr 3, cf w' gr 4, cf w' gr 5] 33)) (first | assumption | (refine ⟨?_, ?_⟩; (first | assumption | exact ((fr_setRow _ gr _).block a.g (hat_lt p1) (by have := HNE.out; simpa using this)).trans p1 | fail); (first | assumption | exact cf6 (hat_setRow_at _ _ _ _ _ _ x1) | fail)))
    (first
      | (with_reducible refine HUS.out.mono ?_; rintro e w1 ⟨rfl, hb1⟩; have p1 := (hop hb1 HPD.out).1; have x1 := cf6 (hop hb1 HXD.out).1; have HB1 := Lib.hid hb1)
      | fail)
  have q1 := Lib.hid (hat_setRow_at w1 gr #[.int .i64 i, .int .i64 n.kind, .int .i64 n.links, .int .i64 n.size, .int .i64 n.made, .int .i64 n.count] _ _ _ x1)
  have q2 := Lib.hid (show Below w.heap.size w (w1.setRow gr #[.int .i64 i, .int .i64 n.kind, .int .i64 n.links, .int .i64 n.size, .int .i64 n.made, .int .i64 n.count]) from by
    refine Fr.below (ex := [gr]) ?_ (Nat.le_refl _) (by have := HGR.out; simp; omega)
    exact ((fr_drew (Fr.mono HF0.out (ex' := [gr]) (by simp))).trans (fr_below hb1 [gr])).trans (fr_setRow _ _ _))
  clear x1 hb1 HB1 p1 hg0 hh0 hgc hgl hhl0 HN HUS HPD HXD HP
  generalize w1.setRow gr #[.int .i64 i, .int .i64 n.kind, .int .i64 n.links, .int .i64 n.size, .int .i64 n.made, .int .i64 n.count] = w2 at *
  go_wp2_with fail
  refine ret_c row33 rfl (cs := #[.int .i64 i, .int .i64 n.kind, .int .i64 n.links, .int .i64 n.size, .int .i64 n.made, .int .i64 n.count]) rfl q1.out rfl rfl ⟨by rw [HQ.out]; rfl, q2.out⟩
end Go.Proofs.YteffoihkljkfdaaDoor
