/- Contracts and laws that the claim leans on, laid together in the order in which they build. -/
import Derived.Shelf.SlSortCmp.NoneTotal
import Derived.Test.YteffoihkljkfdaaDoorSh2
import Derived.Test.YteffoihkljkfdaaDoorM02
import Derived.Test.YteffoihkljkfdaaDoorM03
import Derived.Test.YteffoihkljkfdaaDoorM04
import Derived.Test.YteffoihkljkfdaaDoorM05

/- link, make, write, truncate keep what holds: plain. -/
namespace Go.Proofs.YteffoihkljkfdaaDoor
set_option linter.unusedSimpArgs false
set_option linter.unusedVariables false
open Go.RowKit

theorem nd_put_same (S : PS) (i : Int) (n : Nd) : (S.put i (some n)).nd i = n := by unfold PS.nd; rw [PS.put_same]; rfl
theorem nd_put_other (S : PS) {i j : Int} (o : Option Nd) (h : j ≠ i) : (S.put i o).nd j = S.nd j := by unfold PS.nd; rw [PS.put_other _ _ h]
/-- one link more -/
def Nd.more (n : Nd) : Nd := { n with links := n.links + 1 }
/-- a name more of a file -/
def PS.named (S : PS) (d k i : Int) (name : ByteArray) : PS := (S.put i (some (S.nd i).more)).put d (some ((S.nd d).set k name i))
theorem set_names (n : Nd) (k : Int) (name : ByteArray) (i : Int) (s : ByteArray) : (n.set k name i).names s = if s = name then some i else n.names s := by unfold Nd.set; split <;> rfl
theorem set_links (n : Nd) (k : Int) (name : ByteArray) (i : Int) : (n.set k name i).links = n.links ∧ (n.set k name i).kind = n.kind := by unfold Nd.set; split <;> exact ⟨rfl, rfl⟩
theorem named_good {S : PS} (h : Good S) {d i k : Int} {name : ByteArray} (hd : (S.nodes d).isSome = true) (hdk : (S.nd d).kind = 2) (hi : (S.nodes i).isSome = true) (hik : (S.nd i).kind ≠ 2) (hlk : (S.nd i).links < 100)
    (hp : (k = (S.nd d).slots.length ∧ (S.nd d).slots.length < 1068 ∧ emp ∉ (S.nd d).slots) ∨ ∃ j : Nat, k = j ∧ j < (S.nd d).slots.length ∧ (S.nd d).slots = (S.nd d).slots.take j ++ emp :: (S.nd d).slots.drop (j + 1)) (hn : 0 < name.size ∧ name.size ≤ 40) (hf : (S.nd d).names name = none) : Good (S.named d k i name) := by
  have hdi : d ≠ i := fun e => hik (by rw [← e]; exact hdk)
  have hdn := PS.nd_get hd
  have hin := PS.nd_get hi
  have hwi := h.f.n i _ hin
  have hki := h.o.k i hi
  have hkd := h.o.k d hd
  have hii := h.o.i
  have hi1 : i ≠ 1 := fun e => by
    obtain ⟨n, h1, h2⟩ := h.f.root
    rw [e, PS.nd_some h1] at hik
    exact hik h2
  have hm : NWf S (S.nd i).more ∧ NOk (S.nd i).more := ⟨⟨hwi.kd, ⟨by show 1 ≤ (S.nd i).links + 1; have := hwi.lk; omega, by show (S.nd i).links + 1 ≤ 100; omega⟩, hwi.sz, hwi.md, hwi.fl, hwi.dr, hwi.nm, hwi.sn, hwi.nd, hwi.db⟩, ⟨(h.o.n i _ hin).dk, (h.o.n i _ hin).dl, (h.o.n i _ hin).sl⟩⟩
  obtain ⟨o1, f1⟩ := put_wf (n := (S.nd i).more) h.o h.f hi (fun e => e) hm
  have hd1 : (S.put i (some (S.nd i).more)).nd d = S.nd d := nd_put_other S _ hdi
  have hds : ((S.put i (some (S.nd i).more)).nodes d).isSome = true := by rw [PS.put_other _ _ hdi]; exact hd
  have hset := set_wf (S := S.put i (some (S.nd i).more)) (S' := S.put i (some (S.nd i).more)) (d := S.nd d) (i := i) (name := name) (k := k) (f1.n d _ (by rw [PS.put_other _ _ hdi]; exact hdn)) (h.o.n d _ hdn) hdk hp hn hf (by rw [PS.put_same]; rfl) (fun j hj => hj)
  obtain ⟨o2, f2⟩ := put_wf o1 f1 hds (fun e => by rw [(set_links _ _ _ _).2]; exact hdk) hset
  have hcount : ∀ x, (S.named d k i name).namedN x = S.namedN x + (if x = i then 1 else 0) := fun x => by
    unfold PS.named
    rw [namedN_put (by omega), namedN_put (by omega), hd1, namesOf_set (h.f.n d _ hdn) hp hn.1 hf, namesOf_same (n := S.nd i) (n' := (S.nd i).more) rfl rfl]
    omega
  have hT : ∀ j, (S.named d k i name).nodes j = if j = d then some ((S.nd d).set k name i) else if j = i then some (S.nd i).more else S.nodes j := fun j => rfl
  refine ⟨o2, f2, ⟨fun j n hj hj1 => ?_, ?_, fun j n hj hk => ?_⟩, ?_⟩
  · rw [hcount]
    rw [hT] at hj
    by_cases hjd : j = d
    · subst hjd
      rw [if_pos rfl] at hj; cases hj
      rw [if_neg hdi, (set_links _ _ _ _).1, h.l.l j _ hdn hj1]; omega
    · rw [if_neg hjd] at hj
      by_cases hji : j = i
      · subst hji
        rw [if_pos rfl] at hj; cases hj
        rw [if_pos rfl, h.l.l j _ hin hj1]; rfl
      · rw [if_neg hji] at hj
        rw [if_neg hji, h.l.l j n hj hj1]; omega
  · rw [hcount, h.l.r, if_neg (Ne.symm hi1)]; rfl
  · rw [hT] at hj
    by_cases hjd : j = d
    · subst hjd
      rw [if_pos rfl] at hj; cases hj
      rw [(set_links _ _ _ _).1]; exact h.l.d j _ hdn hdk
    · rw [if_neg hjd] at hj
      by_cases hji : j = i
      · subst hji
        rw [if_pos rfl] at hj; cases hj
        have h2 : (S.nd j).kind = 2 := hk
        exact absurd h2 hik
      · rw [if_neg hji] at hj
        exact h.l.d j n hj hk
  · have h1 : Tree (S.put i (some (S.nd i).more)) := put_tree h.t hin rfl (fun _ _ e => e)
    refine tree_sub h1 fun x n s j e1 e2 e3 => ?_
    have hkj : ((S.put i (some (S.nd i).more)).nd j).kind = 2 := by
      by_cases hj : j = d
      · subst hj; rw [hd1]; exact hdk
      · have e : (S.named d k i name).nd j = (S.put i (some (S.nd i).more)).nd j := nd_put_other _ _ hj
        rw [e] at e3; exact e3
    by_cases hx : x = d
    · subst hx
      have e : (S.named x k i name).nodes x = some ((S.nd x).set k name i) := PS.put_same _ _ _
      rw [e] at e1; cases e1
      rw [set_names] at e2
      by_cases hs : s = name
      · rw [if_pos hs] at e2; cases e2
        rw [nd_put_same] at hkj
        exact absurd hkj hik
      · rw [if_neg hs] at e2
        exact ⟨S.nd x, by rw [PS.put_other _ _ hdi]; exact hdn, e2, hkj⟩
    · have e : (S.named d k i name).nodes x = (S.put i (some (S.nd i).more)).nodes x := PS.put_other _ _ hx
      rw [e] at e1
      exact ⟨n, e1, e2, hkj⟩
def PS.link (S : PS) (fr to_ : List ByteArray) : PS × Int :=
  if (S.walk fr 1).2 ≠ 0 then (S, (S.walk fr 1).2)
  else if (S.last to_).e ≠ 0 then (S, (S.last to_).e)
  else if ((S.nd (S.last to_).d).names (S.last to_).name).isSome then (S, 111)
  else if (S.nd (S.walk fr 1).1).kind = 2 then (S, 102)
  else if (S.nd (S.walk fr 1).1).links = 100 then (S, 142)
  else if (S.place (S.nd (S.last to_).d)).2 ≠ 0 then (S, (S.place (S.nd (S.last to_).d)).2)
  else (S.named (S.last to_).d (S.place (S.nd (S.last to_).d)).1 (S.walk fr 1).1 (S.last to_).name, 0)
theorem link_good {S : PS} (h : Good S) {fr to_ : List ByteArray} (hl : ∀ s ∈ to_, 0 < s.size ∧ s.size ≤ 40) : Good (S.link fr to_).1 := by
  unfold PS.link
  split
  · exact h
  · split
    · exact h
    · split
      · exact h
      · split
        · exact h
        · split
          · exact h
          · split
            · exact h
            · rename_i h1 h2 h3 h4 h5 h6
              obtain ⟨a1, a2, a3⟩ := last_ok (S := S) h.f (l := to_) (by omega)
              have hi := walk_there h.f fr 1 (root_there h.f) (by omega)
              have hlk := (h.f.n _ _ (PS.nd_get hi)).lk
              refine named_good h a1 a2 hi h4 (by omega) (place_ok (h.o.n _ _ (PS.nd_get a1)).sl (by omega)) (hl _ a3) ?_
              cases hq : (S.nd (S.last to_).d).names (S.last to_).name with
              | none => rfl
              | some x => rw [hq] at h3; exact absurd rfl h3
/-- a node with other bytes -/
theorem put_good {S : PS} (h : Good S) {i : Int} {n' : Nd} (hi : (S.nodes i).isSome = true) (hk : n'.kind = (S.nd i).kind) (hl : n'.links = (S.nd i).links) (hs : n'.slots = (S.nd i).slots) (hn : n'.names = (S.nd i).names) (hw : NWf S n' ∧ NOk n') : Good (S.put i (some n')) := by
  have hin := PS.nd_get hi
  obtain ⟨o1, f1⟩ := put_wf h.o h.f hi (fun e => by rw [hk]; exact e) hw
  have hki := h.o.k i hi
  have hii := h.o.i
  have hcount : ∀ x, (S.put i (some n')).namedN x = S.namedN x := fun x => by
    rw [namedN_put (by omega), namesOf_same hs hn]; omega
  refine ⟨o1, f1, ⟨fun j n hj hj1 => ?_, by rw [hcount]; exact h.l.r, fun j n hj hk2 => ?_⟩, put_tree h.t hin hk (fun s j e => by rw [hn] at e; exact e)⟩
  · rw [hcount]
    by_cases hji : j = i
    · subst hji
      rw [PS.put_same] at hj; cases hj
      rw [hl]; exact h.l.l j _ hin hj1
    · rw [PS.put_other _ _ hji] at hj
      exact h.l.l j n hj hj1
  · by_cases hji : j = i
    · subst hji
      rw [PS.put_same] at hj; cases hj
      rw [hl]; exact h.l.d j _ hin (by rw [← hk]; exact hk2)
    · rw [PS.put_other _ _ hji] at hj
      exact h.l.d j n hj hk2
theorem write_good {S : PS} (h : Good S) {i : Int} (hi : (S.nodes i).isSome = true) (hk : (S.nd i).kind = 1) {off : Int} {data : List Int} (hd : ∀ b ∈ data, 0 ≤ b ∧ b < 256) : Good (S.write i off data).1 := by
  unfold PS.write
  split
  · exact h
  · split
    · exact h
    · have hn := PS.nd_get hi
      exact put_good h hi rfl rfl rfl rfl (wrote_wf (h.f.n i _ hn) (h.o.n i _ hn) hk (by omega) (by omega) hd)
theorem trunc_good {S : PS} (h : Good S) {i : Int} (hi : (S.nodes i).isSome = true) (hk : (S.nd i).kind = 1) {size : Int} (h0 : 0 ≤ size ∧ size ≤ 136704) : Good (S.put i (some ((S.nd i).trunc size))) := by
  have hn := PS.nd_get hi
  exact put_good h hi rfl rfl rfl rfl (trunc_wf (h.f.n i _ hn) (h.o.n i _ hn) hk h0)
end Go.Proofs.YteffoihkljkfdaaDoor

/- clear: the walk. -/
namespace Go.Proofs.YteffoihkljkfdaaDoor
set_option linter.unusedSimpArgs false
set_option linter.unusedVariables false
open Go.RowKit

def csOf (w : World) (g : Nat) : Array Value := match hat w g with
  | some (.cells cs _ _) => cs
  | _ => #[]
theorem csOf_at {w : World} {g : Nat} {cs : Array Value} {t : TypeId} {fr : Nat × Nat} (h : hat w g = some (.cells cs t fr)) : csOf w g = cs := by unfold csOf; rw [h]
theorem csOf_hat {w : World} {g : Nat} {cs : Array Value} {t : TypeId} (h : hat w g = some (.cells cs t)) : hat w g = some (.cells (csOf w g) t) := by rw [csOf_at h]; exact h
theorem clr_map (n : Nd) (name : ByteArray) : (fun y => if y = name then none else n.namesM y) = (n.clr name).namesM := by
  funext s
  show _ = ((if s = name then none else n.names s)).map _
  unfold Nd.namesM
  split <;> rfl
set_option maxHeartbeats 8000000 in
set_option maxRecDepth 100000 in
theorem clear_any {w : World} {a : NA} {n : Nd} {nb : Nat} (h : NodeAt w a n) (hk : NOk n) (hnb : a.nb = some nb) (hne : nb ≠ a.g) (hsb : ∀ b, a.sb = some b → b ≠ a.g ∧ b ≠ nb) (hdb : ∀ b, a.db = some b → b ≠ a.g ∧ b ≠ nb ∧ ∀ b', a.sb = some b' → b ≠ b')
    {name : ByteArray} (hkn : kStr.ok name) (hm : name ∈ n.slots) :
    Calls Tryd.prog 67 #[.pointer (some ⟨a.g, 0, none⟩), .string name] w fun e w' => e = .returned (.tuple #[]) ∧ ∃ a' : NA, a'.g = a.g ∧ a'.db = a.db ∧ a'.nb = a.nb ∧ a'.sb = a.sb ∧ NodeAt w' a' (n.clr name) ∧ Fr (nb :: a.sb.toList) w w' := by
  have H := Lib.hid h
  obtain ⟨k, hix, hkl, -, -⟩ := idx_at hm
  have hs := h.s
  obtain ⟨g3, o3, c3, cs3, hsv, hob, hb3, hsz⟩ := hs.at (by omega)
  have hh := h.h
  have hnv : a.nv = .map (some nb) := by rw [← hnb]; exact h.m.map
  rw [hsv, hnv] at hh
  have hMG : MG kStr w nb n.namesM a.nc := by
    rcases h.m with ⟨-, h2, -⟩ | ⟨b, -, h2, h3⟩
    · rw [hnb] at h2; cases h2
    · rw [hnb] at h2; cases h2; exact h3
  rw [hsv] at hs
  have hng := hsb g3 hob
  have hgk := hs.setc hkl (.string (ByteArray.mk #[]))
  have hf4 : Fr [g3] w (w.setCell ⟨g3, o3 + k, none⟩ (.string (ByteArray.mk #[]))).drew := fr_drew (fr_setCell _ _ _ _)
  have hm4 := hMG.fr hf4 (by simp; omega)
  obtain ⟨w5, hr5, hm5, ht5⟩ := hm4.del (t := 70) (e := 3) Tryd.underlying70 (x := name) hkn 0
  have hr5 : (Builtin.delete_ #[70, 9] 0 #[.map (some nb), .string name]).run Tryd.prog (w.setCell ⟨g3, o3 + k, none⟩ (.string (ByteArray.mk #[]))).drew = .ok (.tuple #[]) w5 := hr5
  have hf5 := fr_turned ht5
  have hh4 : hat (w.setCell ⟨g3, o3 + k, none⟩ (.string (ByteArray.mk #[]))).drew a.g = some (.cells #[.int .i64 n.kind, .int .i64 n.links, .int .i64 n.size, .int .i64 n.made, a.dv, .slice (some ⟨g3, o3, none⟩) n.slots.length c3, .map (some nb)] 74) := (hat_setCell _ _ _ _ (Ne.symm hng.1)).trans hh
  have HRS := Lib.hid (show ∃ a' : NA, a'.g = a.g ∧ a'.db = a.db ∧ a'.nb = a.nb ∧ a'.sb = a.sb ∧ NodeAt w5 a' (n.clr name) ∧ Fr (nb :: a.sb.toList) w w5 from by
    refine ⟨{ a with sv := .slice (some ⟨g3, o3, none⟩) n.slots.length c3, nv := .map (some nb), nc := if (n.namesM name).isSome then a.nc - 1 else a.nc }, rfl, rfl, rfl, rfl, ⟨?_, ?_, ?_, ?_⟩, ?_⟩
    · exact (hf5.block _ (hat_lt hh4) (by simp; exact Ne.symm hne)).trans hh4
    · exact (h.d.fr hf4 (fun b hb => by simp; exact (hdb b hb).2.2 g3 hob)).fr hf5 (fun b hb => by simp; exact (hdb b hb).2.1)
    · show GRow 9 1 w5 _ a.sb (n.slots.set (Lib.idxOfS n.slots name).toNat emp).length (strC (n.slots.set (Lib.idxOfS n.slots name).toNat emp))
      rw [hix, Int.toNat_natCast, List.length_set]
      exact ((hgk.congr (strC_set n.slots k emp hkl)).fr (fr_drew (Fr.refl [] _)) (by simp)).fr hf5 (fun b hb => by simp; exact (hsb b hb).2)
    · exact .inr ⟨nb, rfl, hnb, by rw [← clr_map]; exact hm5⟩
    · exact ((hf4.mono (by simp [hob])).trans (hf5.mono (by simp))))
  have hixc := idx_g (w := w.drew) (show GRow 9 1 w.drew (.slice (some ⟨g3, o3, none⟩) n.slots.length c3) a.sb n.slots.length (strC n.slots) from by
    have := h.s.fr (fr_drew (Fr.refl [] w)) (by simp)
    rw [hsv] at this; exact this) (by have := hk.sl; omega) name
  rw [hix] at hixc
  have HIX := Lib.hid hixc
  have hkb : o3 + k < cs3.size := by omega
  have hki : (k : Int) < (n.slots.length : Int) := by omega
  have hk0 : (0 : Int) ≤ (k : Int) := by omega
  have hhl := hat_lt hh
  have hb3l := hat_lt hb3
  have hh4l := hat_lt hh4
  have hcs := csOf_hat hb3
  have hcb : o3 + k < (csOf w g3).size := by rw [csOf_at hb3]; exact hkb
  have hg34 : hat (w.setCell ⟨g3, o3 + k, none⟩ (.string (ByteArray.mk #[]))).drew g3 = some (.cells (cs3.setIfInBounds (o3 + k) (.string (ByteArray.mk #[]))) 9) := hat_setCell_at w g3 (o3 + k) _ _ _ _ hb3
  have H4S := Lib.hid (show hat (w.setCell ⟨g3, o3 + k, none⟩ (.string (ByteArray.mk #[]))).drew a.g = some (.cells #[.int .i64 n.kind, .int .i64 n.links, .int .i64 n.size, .int .i64 n.made, a.dv, .slice (some ⟨g3, o3, none⟩) n.slots.length c3, .map (some nb)] 74) ∧ hat (w.setCell ⟨g3, o3 + k, none⟩ (.string (ByteArray.mk #[]))).drew g3 = some (.cells (csOf (w.setCell ⟨g3, o3 + k, none⟩ (.string (ByteArray.mk #[]))).drew g3) 9) ∧ o3 + k < (csOf (w.setCell ⟨g3, o3 + k, none⟩ (.string (ByteArray.mk #[]))).drew g3).size from ⟨hh4, csOf_hat hg34, by rw [csOf_at hg34]; simpa using hkb⟩)
  have HNG := Lib.hid hng.1
  have HB3 := Lib.hid hb3
  have HH := Lib.hid hh
  clear hg34 hf5 ht5 hm5 hm4 hgk hs hMG hix hsv hnv hob hsz hixc h hnb hng hf4
  go_enter Tryd.func67, Tryd.ntmps67
  go_wp2_with fail
  go_region_held3 (fun w' => hat w' a.g = some (.cells #[.int .i64 n.kind, .int .i64 n.links, .int .i64 n.size, .int .i64 n.made, a.dv, .slice (some ⟨g3, o3, none⟩) n.slots.length c3, .map (some nb)] 74) ∧ hat w' g3 = some (.cells (csOf w' g3) 9) ∧ o3 + k < (csOf w' g3).size)
    (first | assumption | (refine ⟨?_, ?_, ?_⟩ <;> assumption) | exact H4S.out | fail)
    (first
      | (with_reducible refine HIX.out.mono ?_; rintro e w1 ⟨rfl, rfl⟩)
      | fail)
  generalize (w.setCell ⟨g3, o3 + k, none⟩ (.string (ByteArray.mk #[]))).drew = w4 at *
  clear hcs hcb hb3 hb3l hh hhl
  go_wp2_with fail
  refine bodyPost_end (results_none rfl _ _ _) rfl ?_
  exact ⟨rfl, HRS.out⟩
end Go.Proofs.YteffoihkljkfdaaDoor

/- less: the walk. -/
namespace Go.Proofs.YteffoihkljkfdaaDoor
set_option linter.unusedSimpArgs false
set_option linter.unusedVariables false
open Go.RowKit

theorem del_pw {w w6 : World} {gp bn c c6 : Nat} {S : PS} {A : Int → NA} {own : Nat → Option (Int × Nat)} (h : PW w gp bn c S A own) {i : Int} (hi : 1 ≤ i) {ex : List Nat} (hS : POk (S.put i none) ∧ PWf (S.put i none)) (hf : Fr ex w w6) (hex : ∀ b ∈ ex, ∃ q, own b = some q ∧ (q.1 = i ∨ b = bn))
    (hm : MG kInt w6 bn (fun y => if y = i then none else ptrM S A y) c6) : PW w6 gp bn c6 (S.put i none) A own ∧ Un own w w6 := by
  have hget : ∀ j n, (S.put i none).nodes j = some n → j ≠ i ∧ S.nodes j = some n := fun j n hj => by
    have hj' : (if j = i then none else S.nodes j) = some n := hj
    split at hj'
    · cases hj'
    · rename_i he; exact ⟨he, hj'⟩
  refine ⟨⟨⟨?_, ?_, fun j n hj => ?_, h.t.op, fun j n hj => ?_⟩, hS.1, hS.2, fun j n hj => ?_⟩, hf.un fun b hb _ => by obtain ⟨q, hq, -⟩ := hex b hb; rw [hq]; simp⟩
  · refine (hf.block gp (hat_lt h.t.p) fun hm => ?_).trans h.t.p
    obtain ⟨q, h1, h2⟩ := hex gp hm
    rw [h.t.op.1] at h1
    cases h1
    rcases h2 with h2 | h2
    · have : (-1 : Int) = i := h2; omega
    · have := h.t.op.1; rw [h2, h.t.op.2] at this; cases this
  · have e : ptrM (S.put i none) A = fun y => if y = i then none else ptrM S A y := by
      funext y
      show ((if y = i then none else S.nodes y)).map _ = _
      split <;> rfl
    rw [e]; exact hm
  · obtain ⟨h1, h2⟩ := hget j n hj
    refine h.t.other h2 hf fun b hb q hq e => ?_
    obtain ⟨q', h3, h4⟩ := hex b hb
    rw [hq] at h3
    cases h3
    rcases h4 with h4 | h4
    · exact h1 (e.symm.trans h4)
    · rw [h4, h.t.op.2] at hq
      cases hq
      have h5 : (-1 : Int) = j := e
      have := h.o.k j (by rw [h2]; rfl)
      omega
  · exact h.t.og j n (hget j n hj).2
  · exact h.h j n (hget j n hj).2
set_option maxHeartbeats 8000000 in
set_option maxRecDepth 100000 in
theorem less_any {w : World} {gp bn c : Nat} {S : PS} {A : Int → NA} {own : Nat → Option (Int × Nat)} (h : PW w gp bn c S A own) {i : Int} (hi : (S.nodes i).isSome = true) (hS : POk (S.less i) ∧ PWf (S.less i)) :
    Calls Tryd.prog 68 #[.pointer (some ⟨gp, 0, none⟩), .int .i64 i] w fun e w' => ∃ own', e = .returned (.tuple #[]) ∧ Mvd w w' gp bn own (S.less i) own' := by
  have H := Lib.hid h
  have hn := PS.nd_get hi
  have hp := h.t.p
  have hpl := hat_lt hp
  have hlk := h.t.look_yes hn
  have hnn := h.t.n i _ hn
  have hh := hnn.h
  have hhl := hat_lt hh
  have hlinks := (h.f.n i _ hn).lk
  obtain ⟨hl1, hl2⟩ := hlinks
  have hgi : gp ≠ (A i).g := fun e => by
    have h1 := h.t.op.1
    rw [e, (h.t.og i _ hn).1] at h1
    cases h1
    have := h.o.k _ hi
    omega
  have hbi : bn ≠ (A i).g := fun e => by
    have h1 := h.t.op.2
    rw [e, (h.t.og i _ hn).1] at h1
    cases h1
  have hw1 : hat (w.setCell ⟨(A i).g, 1, none⟩ (.int .i64 ((S.nd i).links - 1))) (A i).g = some (.cells #[.int .i64 (S.nd i).kind, .int .i64 ((S.nd i).links - 1), .int .i64 (S.nd i).size, .int .i64 (S.nd i).made, (A i).dv, (A i).sv, (A i).nv] 74) := hat_setCell_at _ _ _ _ _ _ _ hh
  have hf1 : Fr [(A i).g] w (w.setCell ⟨(A i).g, 1, none⟩ (.int .i64 ((S.nd i).links - 1))) := fr_setCell _ _ _ _
  have hp1 := (hf1.block gp hpl (by simpa using hgi)).trans hp
  have hm1 := h.t.m.fr hf1 (by simpa using hbi)
  have hlk1 : (Instr.lookup 75 (.map (some bn)) (.int .i64 i) false).run Tryd.prog (w.setCell ⟨(A i).g, 1, none⟩ (.int .i64 ((S.nd i).links - 1))) = .ok (.pointer (some ⟨(A i).g, 0, none⟩)) (w.setCell ⟨(A i).g, 1, none⟩ (.int .i64 ((S.nd i).links - 1))) := by
    have h1 := hm1.lookc (e := 69) Tryd.underlying75 (z := .pointer none) (by kernel_rfl) (x := i) (h.t.m.okey (x := i) (by rw [ptrM_key, hn]; rfl))
    rw [ptrM_key, hn] at h1
    exact h1
  have HM1 := Lib.hid hm1
  have HF1 := Lib.hid hf1
  have HW1 := Lib.hid hw1
  have HNN := Lib.hid hnn
  have HGI := Lib.hid (show gp ≠ (A i).g ∧ bn ≠ (A i).g from ⟨hgi, hbi⟩)
  have hki := h.o.k i hi
  obtain ⟨hk1, hk2⟩ := hki
  have HS := Lib.hid hS
  clear hm1 hf1 hnn h hgi hbi hS
  go_enter Tryd.func68, Tryd.ntmps68
  go_upto_region 1 with fail
  generalize hw1e : w.setCell ⟨(A i).g, 1, none⟩ (.int .i64 ((S.nd i).links - 1)) = w1 at *
  by_cases hdel : (S.nd i).links - 1 = 0 ∨ (S.nd i).kind = 2
  · have hl : S.less i = S.put i none := by unfold PS.less; rw [if_pos hdel]
    obtain ⟨w5, hr5, hm5, ht5⟩ := HM1.out.del (t := 75) (e := 69) Tryd.underlying75 (x := i) (HM1.out.okey (x := i) (by rw [ptrM_key, hn]; rfl)) 0
    have hr5 : (Builtin.delete_ #[75, 3] 0 #[.map (some bn), .int .i64 i]).run Tryd.prog w1 = .ok (.tuple #[]) w5 := hr5
    have HD := Lib.hid (del_pw H.out hk1 (by rw [← hl]; exact HS.out) ((HF1.out.mono (ex' := [(A i).g, bn]) (by simp)).trans ((fr_turned ht5).mono (by simp))) (by
      have hog := H.out.t.og i _ hn
      intro b hb
      simp at hb
      rcases hb with rfl | rfl
      · exact ⟨_, hog.1, .inl rfl⟩
      · exact ⟨_, H.out.t.op.2, .inr rfl⟩) hm5)
    have HL := Lib.hid hl
    clear hm5 ht5 hl
    generalize (S.nd i).links - 1 = L at *
    generalize (S.nd i).kind = K at *
    by_cases hL : L = 0
    · subst hL
      clear hdel
      go_wp2_with fail
      refine bodyPost_end (results_none rfl _ _ _) rfl ?_
      exact ⟨own, rfl, by rw [HL.out]; exact ⟨⟨_, _, HD.out.1⟩, HD.out.2, fun _ _ => rfl⟩⟩
    · have hK : K = 2 := by rcases hdel with h | h; exact absurd h hL; exact h
      subst hK
      clear hdel
      go_wp2_with fail
      refine bodyPost_end (results_none rfl _ _ _) rfl ?_
      exact ⟨own, rfl, by rw [HL.out]; exact ⟨⟨_, _, HD.out.1⟩, HD.out.2, fun _ _ => rfl⟩⟩
  · have hl : S.less i = S.put i (some { S.nd i with links := (S.nd i).links - 1 }) := by unfold PS.less; rw [if_neg hdel]
    have hna : NodeAt w1 (A i) { S.nd i with links := (S.nd i).links - 1 } := by
      have hap := H.out.t.apart hn
      exact ⟨HW1.out, HNN.out.d.fr HF1.out (fun b hb => by simp; exact (hap.2.2 b hb).1), HNN.out.s.fr HF1.out (fun b hb => by simp; exact (hap.2.1 b hb).1), HNN.out.m.fr HF1.out (fun b hb => by simp; exact hap.1 b hb)⟩
    have HD := Lib.hid (upd_pw H.out hn (by rw [← hl]; exact HS.out) HF1.out (by
      have hog := H.out.t.og i _ hn
      intro b hb _
      simp at hb
      subst hb
      exact ⟨_, hog.1, rfl⟩) hna rfl (fun b hb => .inl hb) (fun b hb => .inl hb) (fun b hb => .inl hb) (fun b hb => by
        have hlt := (H.out.t.n i _ hn).lts
        exact ⟨fun h1 => absurd (hlt.2.1 b h1) (by omega), fun h1 => absurd (hlt.2.2.1 b h1) (by omega)⟩) (show ((S.nd i).kind = 2 → (A i).nb.isSome = true) ∧ ((S.nd i).kind = 1 → (A i).db.isSome = true) from H.out.h i _ hn))
    have HL := Lib.hid hl
    clear hna hl
    generalize (S.nd i).links - 1 = L at *
    generalize (S.nd i).kind = K at *
    have hL : ¬ L = 0 := fun h => hdel (.inl h)
    have hK : ¬ K = 2 := fun h => hdel (.inr h)
    have hLb : (L == 0) = false := by simpa using hL
    have hKb : (K == 2) = false := by simpa using hK
    clear hdel
    go_wp2_with fail
    refine bodyPost_end (results_none rfl _ _ _) rfl ?_
    obtain ⟨own', h1, h2, -, h3⟩ := HD.out
    obtain ⟨A', h1⟩ := h1
    exact ⟨rfl, own', by rw [HL.out]; exact ⟨⟨_, _, h1⟩, h3, h2⟩⟩
end Go.Proofs.YteffoihkljkfdaaDoor

/- entry: the walk; names taken away and laid, as steps of a whole plain file system. -/
namespace Go.Proofs.YteffoihkljkfdaaDoor
set_option linter.unusedSimpArgs false
set_option linter.unusedVariables false
open Go.RowKit

theorem results_tmp4 {fn : Func} {t u v x : Tmp} (h : fn.results = #[.tmp t, .tmp u, .tmp v, .tmp x]) (tmps : Array Value) (P : Program) (w : World) :
    (results fn tmps).run P w = .ok (.tuple #[tmps.getD t undef, tmps.getD u undef, tmps.getD v undef, tmps.getD x undef]) w := by
  simp [results, h]
theorem Mvd.trans {w w1 w2 : World} {gp bn : Nat} {own own1 own2 : Nat → Option (Int × Nat)} {S1 S2 : PS} (h : Mvd w w1 gp bn own S1 own1) (h2 : Mvd w1 w2 gp bn own1 S2 own2) : Mvd w w2 gp bn own S2 own2 :=
  ⟨h2.1, h.2.1.trans h.2.2 h2.2.1, fun b hb => (h2.2.2 b (Nat.lt_of_lt_of_le hb h.2.1.size)).trans (h.2.2 b hb)⟩
theorem Mvd.of {w w6 : World} {gp bn c : Nat} {S : PS} {own : Nat → Option (Int × Nat)} {P : (Nat → Option (Int × Nat)) → Prop} (h : ∃ own', (∃ A', PW w6 gp bn c S A' own') ∧ (∀ b, b < w.heap.size → own' b = own b) ∧ P own' ∧ Un own w w6) : ∃ own', Mvd w w6 gp bn own S own' := by
  obtain ⟨own', ⟨A', h1⟩, h2, -, h3⟩ := h
  exact ⟨own', ⟨_, _, h1⟩, h3, h2⟩
theorem clear_at {w : World} {gp bn c : Nat} {S : PS} {A : Int → NA} {own : Nat → Option (Int × Nat)} (h : PW w gp bn c S A own) {d : Int} (hd : (S.nodes d).isSome = true) (hk : (S.nd d).kind = 2) {name : ByteArray} {i : Int} (hn : (S.nd d).names name = some i) :
    Calls Tryd.prog 67 #[.pointer (some ⟨(A d).g, 0, none⟩), .string name] w fun e w' => e = .returned (.tuple #[]) ∧ ∃ own', Mvd w w' gp bn own (S.cleared d name) own' := by
  have hdn := PS.nd_get hd
  have hno := h.t.n d _ hdn
  obtain ⟨nb, hnb⟩ := Option.isSome_iff_exists.1 ((h.h d _ hdn).1 hk)
  obtain ⟨ap1, ap2, ap3⟩ := h.t.apart hdn
  have hog := h.t.og d _ hdn
  have hw := (h.f.n d _ hdn).nm name i hn
  have hlt := hno.lts
  refine (clear_any hno (h.o.n d _ hdn) hnb (ap1 nb hnb) (fun b hb => ⟨(ap2 b hb).1, (ap2 b hb).2 nb hnb⟩) (fun b hb => ⟨(ap3 b hb).1, (ap3 b hb).2.1 nb hnb, (ap3 b hb).2.2⟩) (name := name) (show name.size ≤ maxLen from by unfold maxLen; omega) hw.1).mono ?_
  rintro e w' ⟨rfl, a', h1, h2, h3, h4, h5, h6⟩
  refine ⟨rfl, Mvd.of (upd_pw h hdn (cleared_wf h.o h.f hd hk hn) h6 (fun b hb _ => ?_) h5 h1 (fun b hb => .inl (by rw [← h2]; exact hb)) (fun b hb => .inl (by rw [← h4]; exact hb)) (fun b hb => .inl (by rw [← h3]; exact hb)) (fun b hb => ⟨fun e => ?_, fun e => ?_⟩) ⟨fun _ => by rw [h3, hnb]; rfl, fun e => ?_⟩)⟩
  · simp at hb
    rcases hb with rfl | hb
    · exact ⟨_, hog.2.2.2 _ hnb, rfl⟩
    · exact ⟨_, hog.2.2.1 _ hb, rfl⟩
  · rw [h2] at e; have := hlt.2.1 b e; omega
  · rw [h4] at e; have := hlt.2.2.1 b e; omega
  · have e' : (S.nd d).kind = 1 := e
    omega
theorem set_at {w : World} {gp bn c : Nat} {S : PS} {A : Int → NA} {own : Nat → Option (Int × Nat)} (h : PW w gp bn c S A own) {d : Int} (hd : (S.nodes d).isSome = true) (hk : (S.nd d).kind = 2) {k i : Int} {name : ByteArray} (hkk : k = (S.nd d).slots.length ∧ (S.nd d).slots.length < 1068 ∨ ∃ j : Nat, k = j ∧ j < (S.nd d).slots.length) (hs : name.size ≤ 40) (hi : (S.nodes i).isSome = true)
    (hS : POk (S.put d (some ((S.nd d).set k name i))) ∧ PWf (S.put d (some ((S.nd d).set k name i)))) :
    Calls Tryd.prog 64 #[.pointer (some ⟨(A d).g, 0, none⟩), .int .i64 k, .string name, .int .i64 i] w fun e w' => e = .returned (.tuple #[]) ∧ ∃ own', Mvd w w' gp bn own (S.put d (some ((S.nd d).set k name i))) own' := by
  have hdn := PS.nd_get hd
  have hno := h.t.n d _ hdn
  obtain ⟨nb, hnb⟩ := Option.isSome_iff_exists.1 ((h.h d _ hdn).1 hk)
  obtain ⟨ap1, ap2, ap3⟩ := h.t.apart hdn
  have hog := h.t.og d _ hdn
  have hlt := hno.lts
  have hki := h.o.k i hi
  have hii := h.o.i
  refine (set_any hno (h.o.n d _ hdn) (fun s j e => ((h.f.n d _ hdn).nm s j e).1) hnb (ap1 nb hnb) (fun b hb => ⟨(ap2 b hb).1, (ap2 b hb).2 nb hnb⟩) (fun b hb => ⟨(ap3 b hb).1, (ap3 b hb).2.1 nb hnb, (ap3 b hb).2.2⟩) hkk (name := name) (show name.size ≤ maxLen from by unfold maxLen; omega) (i := i) ⟨by omega, by omega⟩).mono ?_
  rintro e w' ⟨rfl, a', h1, h2, h3, h4, h5, h6⟩
  refine ⟨rfl, Mvd.of (upd_pw h hdn hS h6 (fun b hb _ => ?_) h5 h1 (fun b hb => .inl (by rw [← h2]; exact hb)) (fun b hb => ?_) (fun b hb => .inl (by rw [← h3]; exact hb)) (fun b hb => ⟨fun e => ?_, fun e e2 => ?_⟩) ⟨fun _ => by rw [h3, hnb]; rfl, fun e => ?_⟩)⟩
  · simp at hb
    rcases hb with rfl | rfl | hb
    · exact ⟨_, hog.1, rfl⟩
    · exact ⟨_, hog.2.2.2 _ hnb, rfl⟩
    · exact ⟨_, hog.2.2.1 _ hb, rfl⟩
  · rcases h4 with h4 | ⟨g, h7, h8⟩
    · exact .inl (by rw [← h4]; exact hb)
    · rw [h7] at hb; cases hb; exact .inr h8
  · rw [h2] at e; have := hlt.2.1 b e; omega
  · rw [h3] at e2; have := hlt.2.2.2 b e2; omega
  · rw [(set_links _ _ _ _).2] at e
    omega
set_option maxHeartbeats 8000000 in
set_option maxRecDepth 100000 in
theorem entry_any {w : World} {gp bn c : Nat} {S : PS} {A : Int → NA} {own : Nat → Option (Int × Nat)} (h : PT w gp bn c S A own) (hW : PWf S) {v : Value} {l : List ByteArray} {B : Nat} (hv : Strs w B v l) (hl : ∀ s ∈ l, s.size ≤ 40) :
    Calls Tryd.prog 66 #[.pointer (some ⟨gp, 0, none⟩), v] w fun e w' => e = .returned (.tuple #[.int .i64 (S.entry l).d, .string (S.entry l).name, .int .i64 (S.entry l).i, .int .i64 (S.entry l).e]) ∧ Below w.heap.size w w' := by
  have H := Lib.hid h
  have HV := Lib.hid hv
  clear h hv
  go_enter Tryd.func66, Tryd.ntmps66
  go_wp2_with fail
  refine (last_any H.out hW HV.out hl).mono ?_; rintro e w1 ⟨rfl, hb1⟩
  have HB1 := Lib.hid hb1
  clear hb1
  have HEN : Hid (S.entry l = if (S.last l).e ≠ 0 then ⟨0, emp, 0, (S.last l).e⟩ else match (S.nd (S.last l).d).names (S.last l).name with
    | none => ⟨0, emp, 0, 110⟩
    | some i => ⟨(S.last l).d, (S.last l).name, i, 0⟩) := Lib.hid rfl
  have HLC := Lib.hid (last_code S l)
  have HLO := Lib.hid (fun h => last_ok (S := S) hW (l := l) h)
  generalize S.last l = r at *
  obtain ⟨d, name, e⟩ := r
  simp only at HEN HLC HLO ⊢
  by_cases he : e = 0
  · subst he
    obtain ⟨a1, a2, a3⟩ := HLO.out rfl
    have hn := PS.nd_get a1
    have hT1 := H.out.fr (fr_below HB1.out []) (by simp)
    have hp1 := hT1.p
    have hpl1 := hat_lt hp1
    have hlk := hT1.look_yes hn
    have hh1 := (hT1.n d _ hn).h
    have hhl1 := hat_lt hh1
    have hns := hl _ a3
    cases hnm : (S.nd d).names name with
    | some j =>
      have hln := look_name_yes (hT1.n d _ hn) hnm
      have HQ := Lib.hid (show S.entry l = ⟨d, name, j, 0⟩ by rw [HEN.out, if_neg (by simp), hnm])
      clear hnm hn hT1 a1 a2 a3
      go_wp2_with fail
      refine bodyPost_ret (results_tmp4 rfl _ _ _) rfl ?_
      exact ⟨by rw [HQ.out]; rfl, HB1.out⟩
    | none =>
      have hln := look_name_no (hT1.n d _ hn) (s := name) (by unfold maxLen; omega) hnm
      have HQ := Lib.hid (show S.entry l = ⟨0, emp, 0, 110⟩ by rw [HEN.out, if_neg (by simp), hnm])
      clear hnm hn hT1 a1 a2 a3
      go_wp2_with fail
      refine bodyPost_ret (results_tmp4 rfl _ _ _) rfl ?_
      exact ⟨by rw [HQ.out]; rfl, HB1.out⟩
  · have HQ := Lib.hid (show S.entry l = ⟨0, emp, 0, e⟩ by rw [HEN.out, if_pos (by simpa using he)])
    go_wp2_with fail
    refine bodyPost_ret (results_tmp4 rfl _ _ _) rfl ?_
    exact ⟨by rw [HQ.out]; rfl, HB1.out⟩
end Go.Proofs.YteffoihkljkfdaaDoor

/- truncate: the walk. -/
namespace Go.Proofs.YteffoihkljkfdaaDoor
set_option linter.unusedSimpArgs false
set_option linter.unusedVariables false
open Go.RowKit

/-- cut off, where the range has been -/
def mixM (n : Nd) (size : Int) (left : Int → Bool) : Int → Option Value := fun y => if left y = true then n.dataM y else (n.trunc size).dataM y
theorem truncM_none {n : Nd} {size x : Int} (h : size ≤ x * 128) : (n.trunc size).dataM x = none := by
  show (if size ≤ x * 128 then none else _ : Option (List Int)).map _ = none
  rw [if_pos h]; rfl
theorem truncM_some {n : Nd} {size x : Int} {s : List Int} (h : ¬ size ≤ x * 128) (hs : n.data x = some s) : (n.trunc size).dataM x = some (.agg (IV .u8 (cutS size x s))) := by
  show (if size ≤ x * 128 then none else (n.data x).map (cutS size x) : Option (List Int)).map _ = _
  rw [if_neg h, hs]; rfl
theorem truncM_no {n : Nd} {size x : Int} (hs : n.data x = none) : (n.trunc size).dataM x = none := by
  show (if size ≤ x * 128 then none else (n.data x).map (cutS size x) : Option (List Int)).map _ = _
  rw [hs]
  split <;> rfl
theorem cutS_take {size x : Int} {s : List Int} {f : Nat} (hs : s.length = 128) (hf : (f : Int) = size - x * 128) (h : f < 128) : cutS size x s = s.take f ++ List.replicate (128 - f) 0 := by
  unfold cutS
  rw [if_pos (by omega)]
  apply List.ext_getElem?
  intro j
  by_cases hj : j < 128
  · rw [List.getElem?_map, List.getElem?_range hj, List.getElem?_append, List.length_take]
    show some (if x * 128 + (j : Int) < size then s.getD j 0 else 0) = _
    by_cases hj2 : j < f
    · rw [if_pos (by omega), if_pos (by omega), List.getElem?_take, if_pos hj2, List.getElem?_eq_getElem (by omega), List.getD_eq_getElem?_getD, List.getElem?_eq_getElem (by omega)]; rfl
    · rw [if_neg (by omega), if_neg (by omega), List.getElem?_replicate, if_pos (by omega)]
  · rw [List.getElem?_eq_none (by simp; omega), List.getElem?_eq_none (by simp; omega)]
theorem cutS_all {size x : Int} {s : List Int} (h : ¬ size < x * 128 + 128) : cutS size x s = s := by
  unfold cutS
  rw [if_neg (by omega)]
theorem mix_step {n : Nd} {size x : Int} {left : Int → Bool} {o : Option Value} (ho : (n.trunc size).dataM x = o) : (fun y => if y = x then o else mixM n size left y) = mixM n size (fun y => left y && !decide (y = x)) := by
  funext y
  unfold mixM
  by_cases hy : y = x
  · subst hy
    simp [ho]
  · simp [hy]
theorem mix_same {n : Nd} {size x : Int} {left : Int → Bool} (ho : (n.trunc size).dataM x = n.dataM x) : mixM n size left = mixM n size (fun y => left y && !decide (y = x)) := by
  rw [← mix_step ho]
  funext y
  by_cases hy : y = x
  · subst hy
    rw [if_pos rfl]
    unfold mixM
    split
    · rfl
    · exact ho
  · rw [if_neg hy]
theorem mix_start (n : Nd) (size : Int) : mixM n size (fun y => (n.dataM y).isSome) = n.dataM := by
  funext y
  unfold mixM
  split
  · rfl
  · rename_i h
    cases hd : n.data y with
    | none => rw [truncM_no hd]; unfold Nd.dataM; rw [hd]; rfl
    | some s => exact absurd (show (n.dataM y).isSome = true by unfold Nd.dataM; rw [hd]; rfl) h
theorem mix_end {n : Nd} {size : Int} {left : Int → Bool} (h : ∀ x, left x = false) : mixM n size left = (n.trunc size).dataM := by
  funext y
  unfold mixM
  rw [if_neg (by rw [h y]; simp)]
theorem clear_row {w : World} {g f : Nat} {s : List Int} (h : hat w g = some (.cells (IV .u8 s) 101)) (hs : s.length = 128) (hf : f < 128) : (Builtin.clear_ #[34] 0 #[.slice (some ⟨g, f, none⟩) (128 - f) (128 - f)]).run Tryd.prog w = .ok (.tuple #[]) (w.setCells g f (bytesV (List.replicate (128 - f) 0))) := by
  have hc : ∀ j, j < 128 - f → ∃ v, (IV .u8 s)[f + j]? = some v := fun j hj => ⟨_, Array.getElem?_eq_getElem (by simp [IV]; omega)⟩
  have := Lib.run_clear_slice (P := Tryd.prog) w 34 5 0 (.int .u8 0) Tryd.underlying34 (by intro w; kernel_rfl) (by rfl) (by rfl) g f (128 - f) (128 - f) (by omega) (fun j hj => by
    obtain ⟨v, hv⟩ := hc j hj
    rw [cell?_of_hat, h]
    show ((IV .u8 s)[f + j]?).isSome = true
    rw [hv]; rfl) (fun j hj => by
    simp [World.frozen?, show w.heap[g]? = _ from h])
  rw [this]
  unfold bytesV
  rw [List.map_replicate]
set_option maxHeartbeats 16000000 in
set_option maxRecDepth 100000 in
theorem truncate_any {w : World} {gp bn c : Nat} {S : PS} {A : Int → NA} {own : Nat → Option (Int × Nat)} (h : PW w gp bn c S A own) {i : Int} (hi : (S.nodes i).isSome = true) (hk1 : (S.nd i).kind = 1) {size : Int} :
    Calls Tryd.prog 73 #[.pointer (some ⟨(A i).g, 0, none⟩), .int .i64 size] w fun e w' => e = .returned (.int .i64 (S.truncate i size).2) ∧ ∃ own', Mvd w w' gp bn own (S.truncate i size).1 own' := by
  have H := Lib.hid h
  have HR : Hid (S.truncate i size = if size < 0 ∨ 136704 < size then (S, 101) else (S.put i (some ((S.nd i).trunc size)), 0)) := Lib.hid rfl
  by_cases hbad : size < 0 ∨ 136704 < size
  · have HQ := Lib.hid (show S.truncate i size = (S, 101) by rw [HR.out, if_pos hbad])
    clear h
    by_cases h1 : size < 0
    · clear hbad
      go_enter Tryd.func73, Tryd.ntmps73
      go_wp2_with fail
      go_ret
      rw [HQ.out]
      exact ⟨rfl, own, H.out.stay (Below.refl _ _)⟩
    · have h2 : 136704 < size := by omega
      clear hbad
      go_enter Tryd.func73, Tryd.ntmps73
      go_wp2_with fail
      go_ret
      rw [HQ.out]
      exact ⟨rfl, own, H.out.stay (Below.refl _ _)⟩
  · have HQ := Lib.hid (show S.truncate i size = (S.put i (some ((S.nd i).trunc size)), 0) by rw [HR.out, if_neg hbad])
    have h1 : ¬ size < 0 := by omega
    have h2 : ¬ 136704 < size := by omega
    have h10 : 0 ≤ size := by omega
    have h20 : size ≤ 136704 := by omega
    have hn := PS.nd_get hi
    have hnn := h.t.n i _ hn
    have hok := h.o.n i _ hn
    obtain ⟨db, hdb⟩ := Option.isSome_iff_exists.1 ((h.h i _ hn).2 hk1)
    have hh := hnn.h
    have hhl := hat_lt hh
    have hdv : (A i).dv = .map (some db) := by rw [← hdb]; exact hnn.d.map
    rw [hdv] at hh
    have HNN := Lib.hid hnn
    have HDV := Lib.hid hdv
    have HDB := Lib.hid hdb
    have HH := Lib.hid hh
    have HOK := Lib.hid hok
    have HDG := Lib.hid (show db ≠ (A i).g from ((h.t.apart hn).2.2 db hdb).1)
    have HLT' := Lib.hid (show db < w.heap.size from hnn.lts.2.1 db hdb)
    have HMO := Lib.hid (show MO kInt w (.map (some db)) (some db) (S.nd i).dataM (A i).dc by rw [← hdv, ← hdb]; exact hnn.d)
    have HN := Lib.hid hn
    clear hbad hnn hdv hdb hok h hn
    go_enter Tryd.func73, Tryd.ntmps73
    go_wp2_with (first | (at_range; refine wpList_range_mo rfl _ _ rfl Tryd.underlying71 rfl HMO.out ?_; intro w1 cnt hmr hf hs) | fail)
    obtain ⟨r, hr⟩ : ∃ x, x = w.heap.size := ⟨_, rfl⟩
    rw [← hr] at hmr ⊢
    have HS := Lib.hid (show MRO kInt w1 (some db) r (mixM (S.nd i) size (fun x => ((S.nd i).dataM x).isSome)) (A i).dc (fun x => ((S.nd i).dataM x).isSome) cnt from by rw [mix_start]; exact hmr)
    have HF1 := Lib.hid (hf.mono (ex' := [db]) (by simp))
    have HRR := Lib.hid hr
    clear hmr hs hr hf hh hhl HMO
    go_loopw [5, 6, 7] (fun _ _ _ wr => ∃ (left : Int → Bool) (cnt c : Nat), Hid (MRO kInt wr (some db) r (mixM (S.nd i) size left) c left cnt) ∧ Hid (Fr [db] w wr)) (fun _ _ _ wr => wr.rangeLeft db r)
    case atStart => exact ⟨_, _, _, HS, HF1⟩
    case round =>
      obtain ⟨left, cnt, c1, HMR, HF⟩ := hrel
      go_wp2_with (first | (at_next; refine wpList_next_mo rfl _ rfl rfl HMR.out ?_ ?_) | fail)
      · intro hl0
        have HM0 := Lib.hid (show MO kInt wr (.map (some db)) (some db) ((S.nd i).trunc size).dataM c1 by
          have := HMR.out.mo
          rw [mix_end hl0] at this
          exact this)
        have hh := (HF.out.block _ (hat_lt HH.out) (by have := HDG.out; simp; exact Ne.symm this)).trans HH.out
        have hhl := hat_lt hh
        clear HMR hl0
        have hw2 : hat (wr.setCell ⟨(A i).g, 2, none⟩ (.int .i64 size)) (A i).g = some (.cells #[.int .i64 (S.nd i).kind, .int .i64 (S.nd i).links, .int .i64 size, .int .i64 (S.nd i).made, .map (some db), (A i).sv, (A i).nv] 74) := hat_setCell_at _ _ _ _ _ _ _ hh
        have hf2 : Fr [(A i).g] wr (wr.setCell ⟨(A i).g, 2, none⟩ (.int .i64 size)) := fr_setCell _ _ _ _
        have hap := H.out.t.apart HN.out
        have hlt := HNN.out.lts
        have hf3 := (HF.out.mono (ex' := [db, (A i).g]) (by simp)).trans (hf2.mono (ex' := [db, (A i).g]) (by simp))
        have hna : NodeAt (wr.setCell ⟨(A i).g, 2, none⟩ (.int .i64 size)) { A i with dc := c1 } ((S.nd i).trunc size) := by
          refine ⟨by rw [show ({ A i with dc := c1 } : NA).dv = .map (some db) from HDV.out]; exact hw2, ?_, HNN.out.s.fr hf3 (fun b hb => by simp; exact ⟨fun e => (hap.2.2 db HDB.out).2.2 b hb e.symm, (hap.2.1 b hb).1⟩), HNN.out.m.fr hf3 (fun b hb => by simp; exact ⟨fun e => (hap.2.2 db HDB.out).2.1 b hb e.symm, hap.1 b hb⟩)⟩
          show MO kInt _ (A i).dv (A i).db _ c1
          rw [HDV.out, HDB.out]
          exact HM0.out.fr hf2 (fun b hb => by cases hb; simp; exact HDG.out)
        have HU := Lib.hid (Mvd.of (upd_pw (n' := (S.nd i).trunc size) (a' := { A i with dc := c1 }) H.out HN.out (put_wf H.out.o H.out.f hi (fun e => by have e' : (S.nd i).kind = 2 := e; omega) (trunc_wf (H.out.f.n i _ HN.out) HOK.out hk1 ⟨h10, h20⟩)) hf3 (fun b hb _ => by
          have hog := H.out.t.og i _ HN.out
          simp at hb
          rcases hb with rfl | rfl
          · exact ⟨_, hog.2.1 _ HDB.out, rfl⟩
          · exact ⟨_, hog.1, rfl⟩) hna rfl (fun b hb => .inl hb) (fun b hb => .inl hb) (fun b hb => .inl hb) (fun b hb => ⟨fun h1 => absurd (hlt.2.1 b h1) (by omega), fun h1 => absurd (hlt.2.2.1 b h1) (by omega)⟩) (show ((S.nd i).kind = 2 → (A i).nb.isSome = true) ∧ ((S.nd i).kind = 1 → (A i).db.isSome = true) from H.out.h i _ HN.out)))
        clear hw2 hf2 hf3 hna hap hlt
        go_wp2_with fail
        go_ret
        rw [HQ.out]
        exact ⟨rfl, HU.out⟩
      · intro x v w2 cnt' b hx hl hm hmr hlt hf hs hen hob
        cases hob
        obtain ⟨s, hds, rfl⟩ : ∃ s, (S.nd i).data x = some s ∧ v = .agg (IV .u8 s) := by
          unfold mixM at hm
          rw [if_pos hl] at hm
          unfold Nd.dataM at hm
          cases hd : (S.nd i).data x with
          | none => rw [hd] at hm; cases hm
          | some s => rw [hd] at hm; cases hm; exact ⟨s, rfl, rfl⟩
        have hsl := HOK.out.dl x s hds
        have hxr := HOK.out.dk x (by rw [hds]; rfl)
        obtain ⟨hx0, hx1⟩ := hxr
        have HX := Lib.hid hx
        have HDS := Lib.hid hds
        have HM2 := Lib.hid hmr
        have HLT := Lib.hid hlt
        have HML := Lib.hid (show wr.rangeLeft db r = cnt from HMR.out.left_eq)
        have HF2 := Lib.hid (hf)
        have hen2 : (Instr.entry (.pointer (some ⟨r, 0, none⟩))).run Tryd.prog w2 = .ok (.tuple #[.int .i64 x, .agg (IV .u8 s)]) w2 := hen
        obtain ⟨w3, hw3⟩ : ∃ y, y = w2.alloc (.cells (IV .u8 s) 101) := ⟨_, rfl⟩
        obtain ⟨gs, hgs⟩ : ∃ y, y = w2.heap.size := ⟨_, rfl⟩
        have hfr3 : Fr [] w2 w3 := by rw [hw3]; exact fr_new _ _ _
        have hs3 : hat w3 gs = some (.cells (IV .u8 s) 101) := by rw [hw3, hgs]; exact (hopN w2 _).1
        have hfw3 := (HF.out.mono (ex' := [r, db]) (by simp)).trans (hf.mono (ex' := [r, db]) (by simp)) |>.trans (hfr3.mono (by simp))
        have HF3 := Lib.hid (hfw3.past (ex' := [db]) (fun g hg => by
          have := HRR.out
          simp at hg ⊢
          omega))
        have HGS := Lib.hid (show w.heap.size ≤ gs ∧ r < gs ∧ gs ≠ db from by
          have h3 := HMR.out.lt
          have h4 := HRR.out
          have h5 := HLT'.out
          have h6 := hf.size
          omega)
        have HS3 := Lib.hid hs3
        have HM3 := Lib.hid (show MR kInt w3 db r (mixM (S.nd i) size left) c1 (fun y => left y && !decide (y = x)) cnt' from by
          have h3 := HM2.out.fr hfr3 (by simp) (by simp)
          rcases h3 with ⟨h4, -⟩ | ⟨b, h4, h5⟩
          · cases h4
          · cases h4; exact h5)
        have hg3 := (HF3.out.block _ (hat_lt HH.out) (by have := HDG.out; simp; exact Ne.symm this)).trans HH.out
        have hgl3 := hat_lt hg3
        have hwm : IntKind.i64.wrap (x * 128) = x * 128 := IntWalk.i64_in _ ⟨by omega, by omega⟩
        have HR3 := Lib.hid (show r < w3.heap.size from HM3.out.lt)
        rw [hs] at hgs
        clear hm hmr hlt hf hen hx hds hfw3 hfr3 hs3
        by_cases hca : size ≤ x * 128
        · obtain ⟨w4, cnt4, hr4, hm4, hle4, ht4⟩ := HM3.out.del (t := 71) (e := 101) Tryd.underlying71 (x := x) HX.out 0
          have hr4 : (Builtin.delete_ #[71, 3] 0 #[.map (some db), .int .i64 x]).run Tryd.prog w3 = .ok (.tuple #[]) w4 := hr4
          have e1 : (fun y => (left y && !decide (y = x)) && !decide (y = x)) = fun y => left y && !decide (y = x) := by funext y; cases left y <;> simp
          rw [mix_step (truncM_none hca), e1] at hm4
          have HM4 := Lib.hid (show MRO kInt w4 (some db) r _ _ _ _ from .inr ⟨db, rfl, hm4⟩)
          have HF4 := Lib.hid (HF3.out.trans (fr_turned ht4))
          have HL4 := Lib.hid (show w4.rangeLeft db r < cnt from by rw [hm4.left_eq]; have := HLT.out; omega)
          clear hm4 ht4 hle4
          go_upto_region 7 with fail
          rw [← hw3, ← hgs]
          clear hw3 hgs
          go_wp2_with fail
          go_roundw
          case rel => exact ⟨_, _, _, HM4, HF4⟩
          case measure => rw [HML.out]; exact HL4.out
        · by_cases hcb : size < x * 128 + 128
          · obtain ⟨f, hf⟩ : ∃ f : Nat, (f : Int) = size - x * 128 := ⟨(size - x * 128).toNat, by omega⟩
            have hf128 : f < 128 := by omega
            have hcl := clear_row HS3.out hsl hf128
            have hS4 := set_bytes (k := f) (c := List.replicate (128 - f) 0) HS3.out (by rw [List.length_replicate]; omega)
            rw [List.length_replicate, show f + (128 - f) = 128 by omega, List.drop_eq_nil_of_le (by omega), List.append_nil, ← cutS_take hsl hf hf128] at hS4
            have hf4 : Fr [gs] w3 (w3.setCells gs f (bytesV (List.replicate (128 - f) 0))) := fr_setCells gs _ _ _
            obtain ⟨w4, hw4⟩ : ∃ y, y = w3.setCells gs f (bytesV (List.replicate (128 - f) 0)) := ⟨_, rfl⟩
            rw [← hw4] at hcl hS4 hf4
            have hf4d : Fr [gs] w3 w4.drew := hf4.trans (fr_drew (Fr.refl [gs] w4))
            have hm4 := HM3.out.fr hf4d (by have := HGS.out; simp; omega) (by have := HGS.out; simp; omega)
            have hc4 : c1 < maxLen := by
              have := cnt_le hm4.mg (fun y hy => by
                refine HOK.out.dk y ?_
                unfold mixM at hy
                cases hd : (S.nd i).data y with
                | none =>
                  rw [truncM_no hd] at hy
                  unfold Nd.dataM at hy
                  rw [hd] at hy
                  simp at hy
                | some s => rfl)
              unfold maxLen; omega
            obtain ⟨w5, hr5, hm5, ht5⟩ := hm4.here (t := 71) (e := 101) Tryd.underlying71 hc4 (x := x) HX.out (by
              unfold mixM
              by_cases hlx : left x = true
              · rw [if_pos hlx]; unfold Nd.dataM; rw [HDS.out]; rfl
              · exact absurd hl hlx) (.agg (IV .u8 (cutS size x s)))
            have hr5 : (Instr.mapUpdate 71 (.map (some db)) (.int .i64 x) (.agg (IV .u8 (cutS size x s)))).run Tryd.prog w4.drew = .ok () w5 := hr5
            rw [mix_step (truncM_some hca HDS.out)] at hm5
            have HM5 := Lib.hid (show MRO kInt w5 (some db) r _ _ _ _ from .inr ⟨db, rfl, hm5⟩)
            have HF5 := Lib.hid (((HF3.out.mono (ex' := [db, gs]) (by simp)).trans ((hf4d.mono (by simp)).trans ((fr_turned ht5).mono (by simp)))).past (ex' := [db]) (fun b hb => by have := HGS.out; simp at hb ⊢; omega))
            have HT5 := Lib.hid (fr_turned ht5)
            have HL5 := Lib.hid (show w5.rangeLeft db r < cnt from by rw [hm5.left_eq]; have := HLT.out; omega)
            have hg4 := (hf4.block _ hgl3 (by have h3 := HGS.out; have h4 := hat_lt HH.out; simp; omega)).trans hg3
            have hs2 := fun w => slice_sec (g := gs) hf128 w
            rw [hf] at hs2
            have HS4 := Lib.hid hS4
            have HG4 := Lib.hid hg4
            clear hm5 hm4 ht5 hf4 hf4d hw4
            go_upto_region 7 with fail
            rw [← hw3, ← hgs]
            clear hw3 hgs hg3 hgl3
            go_upto_region 11 with fail
            have hg4l := hat_lt hg4
            have hs4l := hat_lt hS4
            have hsl4 : (cutS size x s).length = 128 := by rw [cutS_take hsl hf hf128, List.length_append, List.length_take, List.length_replicate]; omega
            have hrg : w4.rangeAt gs 0 (IV .u8 (cutS size x s)).toList := fun j v hv => by
              rw [cell?_of_hat, HS4.out]
              show (IV .u8 (cutS size x s))[0 + j]? = some v
              rw [Nat.zero_add]
              simpa using hv
            have HRG := Lib.hid hrg
            have huz := Tryd.underlying101
            have hiz : (Tryd.prog.info? 101).map (·.size) = some (IV .u8 (cutS size x s)).toList.length := by
              rw [show (IV .u8 (cutS size x s)).toList.length = 128 by simp [IV, hsl4]]; kernel_rfl
            have HH4 := Lib.hid (show hat w4.drew (A i).g = some (.cells #[.int .i64 (S.nd i).kind, .int .i64 (S.nd i).links, .int .i64 (S.nd i).size, .int .i64 (S.nd i).made, .map (some db), (A i).sv, (A i).nv] 74) ∧ w4.drew.rangeAt gs 0 (IV .u8 (cutS size x s)).toList from ⟨HG4.out, (World.rangeAt_drew _ _ _ _).2 HRG.out⟩)
            have HH5 := Lib.hid (show hat w5 (A i).g = some (.cells #[.int .i64 (S.nd i).kind, .int .i64 (S.nd i).links, .int .i64 (S.nd i).size, .int .i64 (S.nd i).made, .map (some db), (A i).sv, (A i).nv] 74) ∧ w5.rangeAt gs 0 (IV .u8 (cutS size x s)).toList from ⟨(HT5.out.block _ (hat_lt HH4.out.1) (by have := HDG.out; simp; exact Ne.symm this)).trans HH4.out.1, fun j v hv => by
              have := HH4.out.2 j v hv
              rw [cell?_of_hat] at this ⊢
              rw [HT5.out.block gs (hat_lt HS4.out) (by have := HGS.out; simp; omega)]
              exact this⟩)
            clear hS4 hs4l
            go_region_held3 (fun w' => hat w' (A i).g = some (.cells #[.int .i64 (S.nd i).kind, .int .i64 (S.nd i).links, .int .i64 (S.nd i).size, .int .i64 (S.nd i).made, .map (some db), (A i).sv, (A i).nv] 74) ∧ w'.rangeAt gs 0 (IV .u8 (cutS size x s)).toList)
              (first | exact HH4.out | exact ⟨HG4.out, HRG.out⟩ | exact HH5.out | fail)
              (first | fail | fail)
            clear hg4 hg4l hs2 hcl
            go_wp2_with fail
            go_roundw
            case rel => exact ⟨_, _, _, HM5, HF5⟩
            case measure => rw [HML.out]; exact HL5.out
          · have hm3 := HM3.out
            rw [mix_same (x := x) (by rw [truncM_some hca HDS.out, cutS_all hcb]; unfold Nd.dataM; rw [HDS.out]; rfl)] at hm3
            have HM4 := Lib.hid (show MRO kInt w3 (some db) r _ _ _ _ from .inr ⟨db, rfl, hm3⟩)
            have HL4 := Lib.hid (show w3.rangeLeft db r < cnt from by rw [hm3.left_eq]; have := HLT.out; omega)
            clear hm3
            go_upto_region 7 with fail
            rw [← hw3, ← hgs]
            clear hw3 hgs
            go_wp2_with fail
            go_roundw
            case rel => exact ⟨_, _, _, HM4, HF3⟩
            case measure => rw [HML.out]; exact HL4.out
end Go.Proofs.YteffoihkljkfdaaDoor

/- asks: truncate and fsync of a file. -/
namespace Go.Proofs.YteffoihkljkfdaaDoor
set_option linter.unusedSimpArgs false
set_option linter.unusedVariables false
open Go.RowKit

set_option maxHeartbeats 8000000 in
set_option maxRecDepth 100000 in
theorem asks_trunc {w : World} {gp bn c : Nat} {S : PS} {A : Int → NA} {own : Nat → Option (Int × Nat)} (h : PW w gp bn c S A own) {i : Int} (hi : (S.nodes i).isSome = true) {o : OpV} (hk : o.kind = 8) {dv : Value} (ho : OpAt w own o dv) (hk1 : (S.nd i).kind = 1) :
    Calls Tryd.prog 54 #[.pointer (some ⟨gp, 0, none⟩), .agg (opV o dv), .int .i64 i] w fun e w' => ∃ own' av, e = .returned av ∧ AnsAt w' w.heap.size own' av (.err (S.truncate i o.off).2) ∧ Mvd w w' gp bn own ((S.truncate i o.off).1) own' := by
  have hn := PS.nd_get hi
  have H := Lib.hid h.nrm
  have HO := Lib.hid ho
  obtain ⟨od, hdr, hdn⟩ := ho.d
  obtain ⟨da, dc, rfl⟩ := hdr.slice
  obtain ⟨kind, path, dest, off, len, data, made, pick⟩ := o
  simp only at hk
  subst hk
  have HDR := Lib.hid hdr
  clear ho hdr hdn h
  unfold opV
  simp only at HO HDR ⊢
  obtain ⟨w0, hw0⟩ : ∃ x, x = (w.alloc (.cells #[.int .i64 8, .string path, .string dest, .int .i64 off, .int .i64 len, .slice da data.length dc, .int .i64 made, .int .i64 pick] 40)).alloc (.cells ans0 37) := ⟨_, rfl⟩
  obtain ⟨go, hgo⟩ : ∃ x, x = w.heap.size := ⟨_, rfl⟩
  obtain ⟨ga, hga⟩ : ∃ x, x = go + 1 := ⟨_, rfl⟩
  have hf0 : Fr [] w w0 := by rw [hw0]; exact (fr_new _ _ _).trans (fr_new _ _ _)
  have hop0 : hat w0 go = some (.cells #[.int .i64 8, .string path, .string dest, .int .i64 off, .int .i64 len, .slice da data.length dc, .int .i64 made, .int .i64 pick] 40) := by rw [hw0, hgo]; exact (hopA _ _ (hopN w _).1).1
  have hga0 : hat w0 ga = some (.cells ans0 37) := by
    have e := (hopN (w.alloc (.cells #[.int .i64 8, .string path, .string dest, .int .i64 off, .int .i64 len, .slice da data.length dc, .int .i64 made, .int .i64 pick] 40)) (.cells ans0 37)).1
    rw [show (w.alloc (.cells #[.int .i64 8, .string path, .string dest, .int .i64 off, .int .i64 len, .slice da data.length dc, .int .i64 made, .int .i64 pick] 40)).heap.size = ga by rw [hga, hgo]; simp] at e
    rw [hw0]; exact e
  have HG0 := Lib.hid hga0
  have HF0 := Lib.hid hf0
  have HP0 := Lib.hid (H.out.fr hf0 (by simp))
  have HGE := Lib.hid (show w.heap.size ≤ go ∧ w.heap.size ≤ ga ∧ go < ga from by omega)
  have HO0 := Lib.hid (HO.out.fr (own' := nrm w own) hf0 (by simp) (fun b hb => nrm_lt hb))
  go_enter Tryd.func54, Tryd.ntmps54
  go_upto_region 1 with fail
  have hw0' : w0 = (w.alloc (.cells #[.int .i64 8, .string path, .string dest, .int .i64 off, .int .i64 len, .slice da data.length dc, .int .i64 made, .int .i64 pick] 40)).alloc (.cells #[.int .i64 0, .int .i64 0, .int .i64 0, .int .i64 0, .int .i64 0, .int .i64 0, .int .i64 0, .slice none 0 0, .slice none 0 0, .bool false] 37) := hw0
  rw [← hgo, ← hga]
  rw [← hw0']
  clear hw0' hw0 hf0 hga hgo hga0
  have hp0 := HP0.out.t.p
  have hpl0 := hat_lt hp0
  have hol0 := hat_lt hop0
  have hlk := HP0.out.t.look_yes hn
  have hnn := HP0.out.t.n i _ hn
  have hh := hnn.h
  have hhl := hat_lt hh
  have HNN := Lib.hid hnn
  clear hnn
  have hk2 : ¬ (S.nd i).kind = 2 := by rw [hk1]; decide
  go_wp2_with fail
  refine (truncate_any HP0.out hi hk1 (size := off)).mono ?_; rintro e w1 ⟨rfl, own', hmv⟩
  have hgan : nrm w own ga = none := nrm_ge HGE.out.2.1
  have hg1 := (hmv.2.1.block ga (hat_lt HG0.out) hgan).trans HG0.out
  have HG1 := Lib.hid hg1
  have HGN := Lib.hid ((hmv.2.2 ga (hat_lt HG0.out)).trans hgan)
  have HMV := Lib.hid (hmv.from HF0.out)
  unfold ans0 at hg1
  have hgl1 := hat_lt hg1
  obtain ⟨code, hc⟩ : ∃ x, x = (S.truncate i off).2 := ⟨_, rfl⟩
  rw [← hc]
  have HC := Lib.hid hc.symm
  clear hc
  clear hmv hp0 hpl0 hol0 hlk hh hhl hop0
  go_wp2_with fail
  refine ret_c row37 rfl (cs := #[.int .i64 code, .int .i64 0, .int .i64 0, .int .i64 0, .int .i64 0, .int .i64 0, .int .i64 0, .slice none 0 0, .slice none 0 0, .bool false]) rfl (hat_setRow_at _ _ _ _ _ _ HG1.out) rfl rfl ?_
  exact ⟨own', _, rfl, by show AnsAt _ _ _ _ (.err (S.truncate i off).2); rw [HC.out]; exact ans_err _ _ _ _, HMV.out.then (fr_setRow w1 ga _) (by simp; exact ⟨HGN.out, HGE.out.2.1⟩)⟩
set_option maxHeartbeats 8000000 in
set_option maxRecDepth 100000 in
theorem asks_fsync {w : World} {gp bn c : Nat} {S : PS} {A : Int → NA} {own : Nat → Option (Int × Nat)} (h : PW w gp bn c S A own) {i : Int} (hi : (S.nodes i).isSome = true) {o : OpV} (hk : o.kind = 13) {dv : Value} (ho : OpAt w own o dv) (hk1 : (S.nd i).kind = 1) :
    Calls Tryd.prog 54 #[.pointer (some ⟨gp, 0, none⟩), .agg (opV o dv), .int .i64 i] w fun e w' => ∃ own' av, e = .returned av ∧ AnsAt w' w.heap.size own' av (.err 0) ∧ Mvd w w' gp bn own (S) own' := by
  have hn := PS.nd_get hi
  have H := Lib.hid h.nrm
  have HO := Lib.hid ho
  obtain ⟨od, hdr, hdn⟩ := ho.d
  obtain ⟨da, dc, rfl⟩ := hdr.slice
  obtain ⟨kind, path, dest, off, len, data, made, pick⟩ := o
  simp only at hk
  subst hk
  have HDR := Lib.hid hdr
  clear ho hdr hdn h
  unfold opV
  simp only at HO HDR ⊢
  obtain ⟨w0, hw0⟩ : ∃ x, x = (w.alloc (.cells #[.int .i64 13, .string path, .string dest, .int .i64 off, .int .i64 len, .slice da data.length dc, .int .i64 made, .int .i64 pick] 40)).alloc (.cells ans0 37) := ⟨_, rfl⟩
  obtain ⟨go, hgo⟩ : ∃ x, x = w.heap.size := ⟨_, rfl⟩
  obtain ⟨ga, hga⟩ : ∃ x, x = go + 1 := ⟨_, rfl⟩
  have hf0 : Fr [] w w0 := by rw [hw0]; exact (fr_new _ _ _).trans (fr_new _ _ _)
  have hop0 : hat w0 go = some (.cells #[.int .i64 13, .string path, .string dest, .int .i64 off, .int .i64 len, .slice da data.length dc, .int .i64 made, .int .i64 pick] 40) := by rw [hw0, hgo]; exact (hopA _ _ (hopN w _).1).1
  have hga0 : hat w0 ga = some (.cells ans0 37) := by
    have e := (hopN (w.alloc (.cells #[.int .i64 13, .string path, .string dest, .int .i64 off, .int .i64 len, .slice da data.length dc, .int .i64 made, .int .i64 pick] 40)) (.cells ans0 37)).1
    rw [show (w.alloc (.cells #[.int .i64 13, .string path, .string dest, .int .i64 off, .int .i64 len, .slice da data.length dc, .int .i64 made, .int .i64 pick] 40)).heap.size = ga by rw [hga, hgo]; simp] at e
    rw [hw0]; exact e
  have HG0 := Lib.hid hga0
  have HF0 := Lib.hid hf0
  have HP0 := Lib.hid (H.out.fr hf0 (by simp))
  have HGE := Lib.hid (show w.heap.size ≤ go ∧ w.heap.size ≤ ga ∧ go < ga from by omega)
  have HO0 := Lib.hid (HO.out.fr (own' := nrm w own) hf0 (by simp) (fun b hb => nrm_lt hb))
  go_enter Tryd.func54, Tryd.ntmps54
  go_upto_region 1 with fail
  have hw0' : w0 = (w.alloc (.cells #[.int .i64 13, .string path, .string dest, .int .i64 off, .int .i64 len, .slice da data.length dc, .int .i64 made, .int .i64 pick] 40)).alloc (.cells #[.int .i64 0, .int .i64 0, .int .i64 0, .int .i64 0, .int .i64 0, .int .i64 0, .int .i64 0, .slice none 0 0, .slice none 0 0, .bool false] 37) := hw0
  rw [← hgo, ← hga]
  rw [← hw0']
  clear hw0' hw0 hf0 hga hgo hga0
  have hp0 := HP0.out.t.p
  have hpl0 := hat_lt hp0
  have hol0 := hat_lt hop0
  have hlk := HP0.out.t.look_yes hn
  have hnn := HP0.out.t.n i _ hn
  have hh := hnn.h
  have hhl := hat_lt hh
  have HNN := Lib.hid hnn
  clear hnn
  have hk2 : ¬ (S.nd i).kind = 2 := by rw [hk1]; decide
  have hga := HG0.out
  unfold ans0 at hga
  have hgal := hat_lt hga
  go_wp2_with fail
  refine ret_c row37 rfl (cs := #[.int .i64 0, .int .i64 0, .int .i64 0, .int .i64 0, .int .i64 0, .int .i64 0, .int .i64 0, .slice none 0 0, .slice none 0 0, .bool false]) rfl (hat_setRow_at _ _ _ _ _ _ HG0.out) rfl rfl ?_
  exact ⟨nrm w own, _, rfl, ans_err _ _ _ _, Mvd.then ⟨⟨c, A, HP0.out⟩, (HF0.out).un (by simp), fun b hb => nrm_lt hb⟩ (fr_setRow w0 ga _) (by simp; exact ⟨nrm_ge HGE.out.2.1, HGE.out.2.1⟩)⟩
end Go.Proofs.YteffoihkljkfdaaDoor

/- Texts in their order: plain. -/
namespace Go.Proofs.YteffoihkljkfdaaDoor
set_option linter.unusedSimpArgs false
set_option linter.unusedVariables false
open Go.RowKit Go.Sort

/-- which of two texts is the lesser -/
def cfS (a b : ByteArray) : Int := Lib.compareBytes a.data.toList b.data.toList
theorem cmpB_lt : ∀ a b : List UInt8, (Lib.compareBytes a b < 0) ↔ a < b
  | [], [] => by simp [Lib.compareBytes]
  | [], _ :: _ => by simp [Lib.compareBytes]
  | _ :: _, [] => by simp [Lib.compareBytes]
  | x :: a, y :: b => by
    have ih := cmpB_lt a b
    unfold Lib.compareBytes
    rw [List.cons_lt_cons_iff]
    by_cases h1 : x < y
    · simp [h1]
    · by_cases h2 : y < x
      · have h3 : x ≠ y := fun e => by rw [e] at h2; exact UInt8.lt_irrefl _ h2
        simp [h1, h2, h3]
      · have h3 : x = y := UInt8.le_antisymm (UInt8.not_lt.1 h2) (UInt8.not_lt.1 h1)
        subst h3
        simp [ih, UInt8.lt_irrefl]
theorem lt_str (x y : ByteArray) : ltOf cfS x y = decide (x.data.toList < y.data.toList) := by
  unfold ltOf cfS
  by_cases h : x.data.toList < y.data.toList
  · simp [h, (cmpB_lt _ _).2 h]
  · have h2 : ¬ Lib.compareBytes x.data.toList y.data.toList < 0 := fun e => h ((cmpB_lt _ _).1 e)
    simp [h, h2]
theorem swo_str : SWO (ltOf cfS) where
  irrefl x := by rw [lt_str]; simp [List.lt_irrefl]
  trans x y z h1 h2 := by
    rw [lt_str, decide_eq_true_eq] at *
    exact List.lt_trans h1 h2
  ntrans x y z h1 h2 := by
    rw [lt_str, decide_eq_false_iff_not, List.not_lt] at *
    exact List.le_trans h2 h1
theorem tot_str (x y : ByteArray) (h1 : ltOf cfS x y = false) (h2 : ltOf cfS y x = false) : x = y := by
  rw [lt_str, decide_eq_false_iff_not, List.not_lt] at *
  have h := List.le_antisymm h2 h1
  cases x; cases y
  exact congrArg ByteArray.mk (Array.toList_inj.1 h)
theorem le_str (x y : ByteArray) : leB x y = !(ltOf cfS y x) := rfl
theorem leB_tot (x y : ByteArray) : (leB x y || leB y x) = true := by
  rw [le_str, le_str, lt_str, lt_str]
  by_cases h : y.data.toList < x.data.toList
  · have h2 : ¬ x.data.toList < y.data.toList := fun e => List.lt_irrefl _ (List.lt_trans h e)
    simp [h, h2]
  · simp [h]
theorem leB_trans (x y z : ByteArray) (h1 : leB x y = true) (h2 : leB y z = true) : leB x z = true := by
  rw [le_str, Bool.not_eq_true'] at *
  exact swo_str.ntrans z y x h2 h1
/-- one order alone -/
theorem sort_perm {l l' : List ByteArray} (h : l.Perm l') : l.mergeSort leB = l'.mergeSort leB := by
  refine List.Perm.eq_of_pairwise (le := fun x y => leB x y = true) ?_ (List.pairwise_mergeSort leB_trans leB_tot l) (List.pairwise_mergeSort leB_trans leB_tot l') (((List.mergeSort_perm l leB).trans h).trans (List.mergeSort_perm l' leB).symm)
  intro a b _ _ h1 h2
  rw [le_str, Bool.not_eq_true'] at *
  exact tot_str a b h2 h1
/-- the names of a directory, rising -/
def Nd.sorted (n : Nd) : List ByteArray := (n.slots.filter fun s => decide (0 < s.size)).mergeSort leB
theorem sorted_of {S : PS} {n : Nd} (h : NWf S n) {xs : List ByteArray} (hd : xs.Nodup) (hm : ∀ s, s ∈ xs ↔ (n.names s).isSome = true) : xs.mergeSort leB = n.sorted := by
  refine sort_perm ((List.perm_ext_iff_of_nodup hd h.nd).2 fun s => ?_)
  rw [hm, List.mem_filter]
  constructor
  · intro hs
    cases hj : n.names s with
    | none => rw [hj] at hs; cases hs
    | some j =>
      obtain ⟨a, b, c, d⟩ := h.nm s j hj
      exact ⟨a, by simpa using c⟩
  · rintro ⟨a, b⟩
    exact h.sn s a (by simpa using b)
end Go.Proofs.YteffoihkljkfdaaDoor

/- Entries sorted: slices.SortFunc at a directory's entries. -/
namespace Go.Proofs.YteffoihkljkfdaaDoor
set_option linter.unusedSimpArgs false
set_option linter.unusedVariables false
open Go.RowKit Go.Sort

/-- a name's entry -/
def entS (f : ByteArray → Int × Int) (s : ByteArray) : ByteArray × Int × Int := (s, (f s).1, (f s).2)
def encE (f : ByteArray → Int × Int) (s : ByteArray) : List Value := [.string s, .int .i64 (f s).1, .int .i64 (f s).2]
theorem entC_flat (f : ByteArray → Int × Int) (xs : List ByteArray) {k : Nat} (hk : k < xs.length * 3) : entC (xs.map (entS f)) k = (flatK (encE f) 3 xs.toArray)[k]! := by
  have hq : k / 3 < xs.length := by omega
  rw [get_flatK _ _ _ _ (by simpa using hk)]
  have e1 : xs.toArray[k / 3]! = xs[k / 3] := by rw [getElem!_pos _ _ (by simpa using hq)]; simp
  rw [e1]
  unfold entC
  have e2 : (xs.map (entS f)).getD (k / 3) (emp, 0, 0) = entS f xs[k / 3] := by
    rw [List.getD_eq_getElem?_getD, List.getElem?_map, List.getElem?_eq_getElem hq]; rfl
  rw [e2]
  have h3 : k % 3 = 0 ∨ k % 3 = 1 ∨ k % 3 = 2 := by omega
  rcases h3 with h | h | h
  · simp [h, entS, encE]
  · simp [h, entS, encE]
  · simp [h, entS, encE]
theorem sortK_fr {α : Type} [Inhabited α] (enc : α → List Value) (k : Nat) (w : World) (blk off n : Nat) (d : Array α) (os : Array Obj) : Fr [blk] w (sortWorldK enc k w blk off n d os) := by
  refine ⟨rfl, rfl, rfl, size_sortWorldK_c enc k w blk off n d os, fun b hb hn => ?_⟩
  unfold sortWorldK
  show (grow _ os).heap[b]? = w.heap[b]?
  rw [heap_grow_old _ _ (by rw [size_putRowK]; exact hb)]
  show (w.heap.modify blk _)[b]? = w.heap[b]?
  rw [Array.getElem?_modify, if_neg (fun e => hn (by simp [e]))]
theorem sortK_hat {α : Type} [Inhabited α] (enc : α → List Value) (k : Nat) {w : World} {blk : Nat} (off n : Nat) (d : Array α) (os : Array Obj) {cs : Array Value} {T : TypeId} {fr : Nat × Nat} (h : hat w blk = some (.cells cs T fr)) :
    hat (sortWorldK enc k w blk off n d os) blk = some (.cells (putCells id off (flatK enc k d) cs) T fr) := by
  have hb := hat_lt h
  unfold sortWorldK
  show (grow _ os).heap[blk]? = _
  rw [heap_grow_old _ _ (by rw [size_putRowK]; exact hb)]
  show (w.heap.modify blk _)[blk]? = _
  rw [Array.getElem?_modify, if_pos rfl]
  have h' : w.heap[blk]? = some (.cells cs T fr) := h
  rw [h']; rfl
theorem closure_any (f : ByteArray → Int × Int) (x y : ByteArray) (W : World) : Calls Tryd.prog 81 #[.agg (encE f x).toArray, .agg (encE f y).toArray] W fun e w' => e = .returned (.int .i64 (cfS x y)) ∧ ∃ q os', w' = grow (W.drewN q) os' := by
  unfold encE
  go_enter Tryd.func81, Tryd.ntmps81
  go_wp2_with fail
  refine (Tryd.strings_Compare _ _ _).mono ?_; rintro e w' ⟨rfl, rfl⟩
  go_wp2_with fail
  go_ret
  exact ⟨rfl, 0, _, by rw [alloc_eq_grow, alloc_eq_grow, grow_grow]; rfl⟩
theorem sort_ents {w : World} {g off c : Nat} {ob : Option Nat} {xs : List ByteArray} (f : ByteArray → Int × Int) (h0 : xs ≠ []) (h : GRow 98 3 w (.slice (some ⟨g, off, none⟩) xs.length c) ob xs.length (entC (xs.map (entS f)))) (hl : xs.length ≤ 100000) :
    Calls Tryd.prog 80 #[.slice (some ⟨g, off, none⟩) xs.length c, .func (.func 81) #[] #[]] w fun e w' => e = .returned (.tuple #[]) ∧ GRow 98 3 w' (.slice (some ⟨g, off, none⟩) xs.length c) ob xs.length (entC ((xs.mergeSort leB).map (entS f))) ∧ Fr [g] w w' := by
  rcases h with ⟨h1, -, h2⟩ | ⟨g', off', c', cs, e, hob, hg, hn, hc, hf⟩
  · cases h1
  · injection e with e1 e2 e3
    injection e1 with e1
    injection e1 with e4 e5
    subst e4 e5 e3
    have hH : HoldsK (encE f) 3 w g off xs.toArray := fun j hj => by
      have hj3 : j < xs.length * 3 := by simpa using hj
      refine ⟨?_, ?_⟩
      · rw [cell_hat hg, hf j hj3, entC_flat f xs hj3]; rfl
      · exact frozen_hat hg _
    have eg : ∀ args w, (callFunc 81 args).run Tryd.prog w = .ok (.enter 81 args) w := enters_of Tryd.func81 (by kernel_rfl) rfl
    have hS := AnyQ.slices_SortFunc_total (α := ByteArray) Tryd.sortL 3 Tryd.isAgg98 Tryd.sizeOf98 (encE f) (fun _ => rfl) (fun x v hv => by simp [encE] at hv; rcases hv with rfl | rfl | rfl <;> rfl) cfS swo_str 81 #[] g off c xs.toArray w eg (fun m os dk hs x y => by
      have := closure_any f x y (sortWorldK (encE f) 3 w g off m dk os)
      simpa using this) hH (hat_lt hg) (by simp; omega) tot_str
    change Calls Tryd.prog 80 _ _ _ at hS
    have hle : (fun x y : ByteArray => !(ltOf cfS) y x) = leB := by funext x y; rfl
    rw [hle] at hS
    simp only [List.size_toArray] at hS
    refine hS.mono ?_
    rintro e w' ⟨rfl, n, os, rfl⟩
    have hlen : (xs.mergeSort leB).length = xs.length := List.length_mergeSort _
    refine ⟨rfl, .inr ⟨g, off, c, _, rfl, hob, sortK_hat _ _ _ _ _ _ hg, ?_, ?_, fun k hk => ?_⟩, sortK_fr _ _ _ _ _ _ _ _⟩
    · simp [putCells]; exact hn
    · simp [putCells]; exact hc
    · have hk2 : k < (xs.mergeSort leB).length * 3 := by rw [hlen]; exact hk
      rw [entC_flat f _ hk2]
      unfold putCells
      rw [Array.getElem?_mapIdx, Array.getElem?_eq_getElem (by omega), Option.map_some, if_pos ⟨by omega, by simp; omega⟩]
      congr 1
      show (flatK (encE f) 3 (xs.mergeSort leB).toArray)[off + k - off]! = _
      rw [show off + k - off = k by omega]
end Go.Proofs.YteffoihkljkfdaaDoor

/- unlink, rmdir: the walks. -/
namespace Go.Proofs.YteffoihkljkfdaaDoor
set_option linter.unusedSimpArgs false
set_option linter.unusedVariables false
open Go.RowKit

theorem entry_code (S : PS) (l : List ByteArray) : (S.entry l).e = 0 ∨ (S.entry l).e = 110 ∨ (S.entry l).e = 113 ∨ (S.entry l).e = 143 := by
  unfold PS.entry
  split
  · exact last_code S l
  · split
    · exact .inr (.inl rfl)
    · exact .inl rfl
set_option maxHeartbeats 8000000 in
set_option maxRecDepth 100000 in
theorem unlink_any {w : World} {gp bn c : Nat} {S : PS} {A : Int → NA} {own : Nat → Option (Int × Nat)} (h : PW w gp bn c S A own) (hg : Good S) {v : Value} {l : List ByteArray} {B : Nat} (hv : Strs w B v l) (hl : ∀ s ∈ l, s.size ≤ 40) :
    Calls Tryd.prog 50 #[.pointer (some ⟨gp, 0, none⟩), v] w fun e w' => e = .returned (.int .i64 (S.unlink l).2) ∧ ∃ own', Mvd w w' gp bn own (S.unlink l).1 own' := by
  have H := Lib.hid h
  have HV := Lib.hid hv
  clear h hv
  go_enter Tryd.func50, Tryd.ntmps50
  go_wp2_with fail
  refine (entry_any H.out.t H.out.f HV.out hl).mono ?_; rintro e w1 ⟨rfl, hb1⟩
  have HB1 := Lib.hid hb1
  clear hb1
  have HUN : Hid (S.unlink l = if (S.entry l).e ≠ 0 then (S, (S.entry l).e) else if (S.nd (S.entry l).i).kind = 2 then (S, 102) else (S.taken (S.entry l).d (S.entry l).name (S.entry l).i, 0)) := Lib.hid rfl
  have HEO := Lib.hid (fun h => entry_ok (S := S) H.out.f (l := l) h)
  generalize S.entry l = r at *
  obtain ⟨d, name, i, e⟩ := r
  simp only at HUN HEO ⊢
  by_cases he : e = 0
  · subst he
    obtain ⟨a1, a2, a3, a4⟩ := HEO.out rfl
    have hn := PS.nd_get a4
    have hdn := PS.nd_get a1
    have HP1 := Lib.hid (H.out.fr (fr_below HB1.out []) (by simp))
    have hp1 := HP1.out.t.p
    have hpl1 := hat_lt hp1
    have hlk := HP1.out.t.look_yes hn
    have hlkd := HP1.out.t.look_yes hdn
    have hh1 := (HP1.out.t.n i _ hn).h
    have hhl1 := hat_lt hh1
    have HA := Lib.hid (show (S.nodes d).isSome = true ∧ (S.nd d).kind = 2 ∧ (S.nd d).names name = some i ∧ (S.nodes i).isSome = true from ⟨a1, a2, a3, a4⟩)
    clear hn hdn a1 a2 a3 a4
    by_cases hk : (S.nd i).kind = 2
    · have HQ := Lib.hid (show S.unlink l = (S, 102) by rw [HUN.out, if_neg (by simp), if_pos hk])
      rw [hk] at hh1
      go_wp2_with fail
      go_ret
      rw [HQ.out]
      exact ⟨rfl, own, H.out.stay HB1.out⟩
    · have HQ := Lib.hid (show S.unlink l = (S.taken d name i, 0) by rw [HUN.out, if_neg (by simp), if_neg hk])
      have HK := Lib.hid hk
      have hkb : ((S.nd i).kind == 2) = false := by simpa using hk
      clear hk
      go_wp2_with fail
      refine (clear_at HP1.out HA.out.1 HA.out.2.1 HA.out.2.2.1).mono ?_; rintro e w2 ⟨rfl, own2, hm2⟩
      have HM2 := Lib.hid hm2
      obtain ⟨c2, A2, hp2⟩ := hm2.1
      have HP2 := Lib.hid hp2
      clear hm2 hp2
      have HD := Lib.hid (show i ≠ d from fun e => HK.out (by rw [e]; exact HA.out.2.1))
      have HG := Lib.hid (taken_good hg HA.out.1 HA.out.2.1 HA.out.2.2.1 HD.out (file_empt hg.f HA.out.2.2.2 HK.out))
      go_wp2_with fail
      refine (less_any HP2.out (i := i) (by rw [show (S.cleared d name).nodes i = S.nodes i from PS.put_other _ _ HD.out]; exact HA.out.2.2.2) ⟨HG.out.o, HG.out.f⟩).mono ?_; rintro e w3 ⟨own3, rfl, hm3⟩
      have HM3 := Lib.hid hm3
      clear hm3
      go_wp2_with fail
      go_ret
      rw [HQ.out]
      exact ⟨rfl, own3, ((H.out.stay HB1.out).trans HM2.out).trans HM3.out⟩
  · have HQ := Lib.hid (show S.unlink l = (S, e) by rw [HUN.out, if_pos (by simpa using he)])
    go_wp2_with fail
    go_ret
    rw [HQ.out]
    exact ⟨rfl, own, H.out.stay HB1.out⟩
theorem some_cnt {S : PS} {n : Nd} (hn : NWf S n) {w : World} {a : NA} (h : NodeAt w a n) : (a.nc = 0 ↔ n.some = false) := by
  have hk : ∃ l : List ByteArray, l.Nodup ∧ l.length = a.nc ∧ ∀ x, x ∈ l ↔ (n.namesM x).isSome := by
    rcases h.m with ⟨-, -, h1, h2⟩ | ⟨b, -, -, h1⟩
    · exact ⟨[], by simp, by rw [h2]; rfl, fun x => by simp [h1 x]⟩
    · exact h1.keys
  obtain ⟨l, -, h2, h3⟩ := hk
  have key : ∀ x, (n.namesM x).isSome = (n.names x).isSome := fun x => by unfold Nd.namesM; cases n.names x <;> rfl
  constructor
  · intro h0
    unfold Nd.some
    rw [List.any_eq_false]
    intro s hs hp
    have hp : 0 < s.size := by simpa using hp
    have h4 := hn.sn s hs hp
    have h5 := (h3 s).2 (by rw [key]; exact h4)
    rw [List.eq_nil_of_length_eq_zero (h2.trans h0)] at h5
    cases h5
  · intro h0
    have he := some_no hn h0
    rw [← h2]
    cases l with
    | nil => rfl
    | cons x t =>
      have := (h3 x).1 (.head _)
      rw [key, he x] at this
      cases this
set_option maxHeartbeats 8000000 in
set_option maxRecDepth 100000 in
theorem rmdir_any {w : World} {gp bn c : Nat} {S : PS} {A : Int → NA} {own : Nat → Option (Int × Nat)} (h : PW w gp bn c S A own) (hg : Good S) {v : Value} {l : List ByteArray} {B : Nat} (hv : Strs w B v l) (hl : ∀ s ∈ l, s.size ≤ 40) :
    Calls Tryd.prog 51 #[.pointer (some ⟨gp, 0, none⟩), v] w fun e w' => e = .returned (.int .i64 (S.rmdir l).2) ∧ ∃ own', Mvd w w' gp bn own (S.rmdir l).1 own' := by
  have H := Lib.hid h
  have HV := Lib.hid hv
  clear h hv
  go_enter Tryd.func51, Tryd.ntmps51
  go_wp2_with fail
  refine (entry_any H.out.t H.out.f HV.out hl).mono ?_; rintro e w1 ⟨rfl, hb1⟩
  have HB1 := Lib.hid hb1
  clear hb1
  have HUN : Hid (S.rmdir l = if (S.entry l).e ≠ 0 then (S, (S.entry l).e) else if (S.nd (S.entry l).i).kind ≠ 2 then (S, 113) else if (S.nd (S.entry l).i).some = true then (S, 140) else (S.taken (S.entry l).d (S.entry l).name (S.entry l).i, 0)) := Lib.hid rfl
  have HEO := Lib.hid (fun h => entry_ok (S := S) H.out.f (l := l) h)
  generalize S.entry l = r at *
  obtain ⟨d, name, i, e⟩ := r
  simp only at HUN HEO ⊢
  by_cases he : e = 0
  · subst he
    obtain ⟨a1, a2, a3, a4⟩ := HEO.out rfl
    have hn := PS.nd_get a4
    have hdn := PS.nd_get a1
    have HP1 := Lib.hid (H.out.fr (fr_below HB1.out []) (by simp))
    have hp1 := HP1.out.t.p
    have hpl1 := hat_lt hp1
    have hlk := HP1.out.t.look_yes hn
    have hlkd := HP1.out.t.look_yes hdn
    have hh1 := (HP1.out.t.n i _ hn).h
    have hhl1 := hat_lt hh1
    have HA := Lib.hid (show (S.nodes d).isSome = true ∧ (S.nd d).kind = 2 ∧ (S.nd d).names name = some i ∧ (S.nodes i).isSome = true from ⟨a1, a2, a3, a4⟩)
    by_cases hk : (S.nd i).kind = 2
    · have HK := Lib.hid hk
      obtain ⟨nb, hnb⟩ := Option.isSome_iff_exists.1 ((HP1.out.h i _ hn).1 hk)
      have hln : (Builtin.len_ #[70] 3 #[.map (some nb)]).run Tryd.prog w1 = .ok (.int .i64 (A i).nc) w1 := by
        rcases (HP1.out.t.n i _ hn).m with ⟨-, h2, -⟩ | ⟨b, -, h2, h3⟩
        · rw [hnb] at h2; cases h2
        · rw [hnb] at h2; cases h2; exact h3.len Tryd.underlying70 3
      have hnv : (A i).nv = .map (some nb) := by rw [← hnb]; exact (HP1.out.t.n i _ hn).m.map
      have HSC := Lib.hid (some_cnt (H.out.f.n i _ hn) (HP1.out.t.n i _ hn))
      rw [hk, hnv] at hh1
      clear hn hdn a1 a2 a3 a4 hk hnb hnv
      generalize (A i).nc = nc at *
      by_cases hs : nc = 0
      · subst hs
        have HSN := Lib.hid (HSC.out.1 rfl)
        have HQ := Lib.hid (show S.rmdir l = (S.taken d name i, 0) by rw [HUN.out, if_neg (by simp), if_neg (by simp [HK.out]), if_neg (by simp [HSN.out])])
        go_wp2_with fail
        refine (clear_at HP1.out HA.out.1 HA.out.2.1 HA.out.2.2.1).mono ?_; rintro e w2 ⟨rfl, own2, hm2⟩
        have HM2 := Lib.hid hm2
        obtain ⟨c2, A2, hp2⟩ := hm2.1
        have HP2 := Lib.hid hp2
        clear hm2 hp2
        have HD := Lib.hid (show i ≠ d from hg.loop (PS.nd_get HA.out.1) HA.out.2.2.1 HK.out)
        have HG := Lib.hid (taken_good hg HA.out.1 HA.out.2.1 HA.out.2.2.1 HD.out (some_no (H.out.f.n i _ (PS.nd_get HA.out.2.2.2)) HSN.out))
        go_wp2_with fail
        refine (less_any HP2.out (i := i) (by rw [show (S.cleared d name).nodes i = S.nodes i from PS.put_other _ _ HD.out]; exact HA.out.2.2.2) ⟨HG.out.o, HG.out.f⟩).mono ?_; rintro e w3 ⟨own3, rfl, hm3⟩
        have HM3 := Lib.hid hm3
        clear hm3
        go_wp2_with fail
        go_ret
        rw [HQ.out]
        exact ⟨rfl, own3, ((H.out.stay HB1.out).trans HM2.out).trans HM3.out⟩
      · have HSN := Lib.hid (show (S.nd i).some = true by
          cases hq : (S.nd i).some with
          | false => exact absurd (HSC.out.2 hq) hs
          | true => rfl)
        have HQ := Lib.hid (show S.rmdir l = (S, 140) by rw [HUN.out, if_neg (by simp), if_neg (by simp [HK.out]), if_pos HSN.out])
        have hpos : (0 : Int) < (nc : Int) := by omega
        go_wp2_with fail
        go_ret
        rw [HQ.out]
        exact ⟨rfl, own, H.out.stay HB1.out⟩
    · have HQ := Lib.hid (show S.rmdir l = (S, 113) by rw [HUN.out, if_neg (by simp), if_pos hk])
      have hkb : ((S.nd i).kind != 2) = true := by simpa using hk
      clear hk hn hdn a1 a2 a3 a4
      go_wp2_with fail
      go_ret
      rw [HQ.out]
      exact ⟨rfl, own, H.out.stay HB1.out⟩
  · have HQ := Lib.hid (show S.rmdir l = (S, e) by rw [HUN.out, if_pos (by simpa using he)])
    go_wp2_with fail
    go_ret
    rw [HQ.out]
    exact ⟨rfl, own, H.out.stay HB1.out⟩
end Go.Proofs.YteffoihkljkfdaaDoor

/- under: the walk. -/
namespace Go.Proofs.YteffoihkljkfdaaDoor
set_option linter.unusedSimpArgs false
set_option linter.unusedVariables false
open Go.RowKit

/-- d is i, or lies in it -/
inductive Und (S : PS) (d : Int) : Int → Prop
  | here : Und S d d
  | deep {i k : Int} {s : ByteArray} : (S.nd i).names s = some k → (S.nd k).kind = 2 → Und S d k → Und S d i
noncomputable def PS.under (S : PS) (d i : Int) : Bool := @decide (Und S d i) (Classical.propDecidable _)
theorem under_yes {S : PS} {d i : Int} (h : Und S d i) : S.under d i = true := @decide_eq_true _ (Classical.propDecidable _) h
theorem under_no {S : PS} {d i : Int} (h : ¬ Und S d i) : S.under d i = false := @decide_eq_false _ (Classical.propDecidable _) h
theorem of_under {S : PS} {d i : Int} (h : S.under d i = true) : Und S d i := @of_decide_eq_true _ (Classical.propDecidable _) h
theorem of_under_no {S : PS} {d i : Int} (h : S.under d i = false) : ¬ Und S d i := @of_decide_eq_false _ (Classical.propDecidable _) h
/-- the greatest rank -/
theorem rank_max (r : Int → Nat) (N : Nat) : ∃ M, ∀ i : Int, 0 ≤ i → i < N → r i ≤ M := by
  induction N with
  | zero => exact ⟨0, fun i h1 h2 => by omega⟩
  | succ N ih =>
    obtain ⟨M, h⟩ := ih
    refine ⟨max M (r N), fun i h1 h2 => ?_⟩
    by_cases he : i = N
    · rw [he]; omega
    · have := h i h1 (by omega); omega
set_option maxHeartbeats 8000000 in
set_option maxRecDepth 100000 in
theorem under_n {gp bn c : Nat} {S : PS} {A : Int → NA} {own : Nat → Option (Int × Nat)} (hO : POk S) (hW : PWf S) {r : Int → Nat} {M : Nat} (hr : ∀ d n s j, S.nodes d = some n → n.names s = some j → (S.nd j).kind = 2 → r d < r j) (hM : ∀ i : Int, 0 ≤ i → i < 513 → r i ≤ M) {d : Int} :
    ∀ (n : Nat) (i : Int) (w : World), M - r i < n → (S.nodes i).isSome = true → (S.nd i).kind = 2 → PT w gp bn c S A own → Calls Tryd.prog 69 #[.pointer (some ⟨gp, 0, none⟩), .int .i64 d, .int .i64 i] w fun e w' => e = .returned (.bool (S.under d i)) ∧ Below w.heap.size w w' := by
  intro n
  induction n with
  | zero => intro i w h; omega
  | succ n ih =>
    intro i w hn hi hk h
    have H := Lib.hid h
    have IH := Lib.hid ih
    have hp := h.p
    have hpl := hat_lt hp
    have hin := PS.nd_get hi
    have hlk := h.look_yes hin
    have hno := h.n i _ hin
    have hh := hno.h
    have hhl := hat_lt hh
    have HI := Lib.hid (show S.nodes i = some (S.nd i) ∧ M - r i < n + 1 from ⟨hin, hn⟩)
    have HMX := Lib.hid hM
    have HRK := Lib.hid hr
    clear h ih hn hin hM hr hi
    by_cases hd : d = i
    · subst hd
      have HQ := Lib.hid (under_yes (S := S) (d := d) .here)
      go_enter Tryd.func69, Tryd.ntmps69
      go_wp2_with fail
      go_ret
      rw [HQ.out]
      exact ⟨rfl, Below.refl _ _⟩
    · have HD := Lib.hid hd
      have hdb : (d == i) = false := by simpa using hd
      have hnv := hno.m.map
      have HMO := Lib.hid (show MO kStr w (.map (A i).nb) (A i).nb (S.nd i).namesM (A i).nc by rw [← hnv]; exact hno.m)
      have HLT := Lib.hid hno.lts
      rw [hnv] at hh
      clear hnv hno hd
      go_enter Tryd.func69, Tryd.ntmps69
      go_wp2_with (first | (at_range; refine wpList_range_mo rfl _ _ rfl Tryd.underlying70 rfl HMO.out ?_; intro w1 cnt hmr hf hs) | fail)
      go_frame
      obtain ⟨g, hg⟩ : ∃ x, x = w.heap.size := ⟨_, rfl⟩
      rw [← hg] at hmr ⊢
      have HG := Lib.hid hg
      have HS := Lib.hid (show MRO kStr w1 (A i).nb g (S.nd i).namesM (A i).nc (fun x => ((S.nd i).namesM x).isSome) cnt from hmr)
      have HF1 := Lib.hid hf
      clear hmr hs hg hf hh hhl HMO hlk hp hpl
      go_loopw [8] (fun _ wr => ∃ (left : ByteArray → Bool) (cnt : Nat), Hid (MRO kStr wr (A i).nb g (S.nd i).namesM (A i).nc left cnt) ∧ Hid (∀ s k, (S.nd i).names s = some k → left s = false → (S.nd k).kind = 2 → ¬ Und S d k) ∧ Hid (Fr [] w wr)) (fun _ wr => wr.rangeLeft ((A i).nb.getD 0) g)
      case atStart => exact ⟨_, _, HS, Lib.hid (fun s k h1 h2 _ => by simp [Nd.namesM, h1] at h2), HF1⟩
      case round =>
        obtain ⟨left, cnt, HMR, HB, HF⟩ := hrel
        go_wp2_with (first | (at_next; refine wpList_next_mo rfl _ rfl rfl HMR.out ?_ ?_) | fail)
        · intro hl0
          have HQ := Lib.hid (under_no (S := S) (d := d) (i := i) (fun hu => by
            cases hu with
            | here => exact HD.out rfl
            | deep h1 h2 h3 => exact HB.out _ _ h1 (hl0 _) h2 h3))
          clear HMR hl0
          go_wp2_with fail
          go_ret
          rw [HQ.out]
          exact ⟨rfl, HF.out.bl⟩
        · intro x v w2 cnt' b hx hl hm hmr hlt hf hs hen hob
          obtain ⟨k, hkn, rfl⟩ : ∃ k, (S.nd i).names x = some k ∧ v = .int .i64 k := by
            unfold Nd.namesM at hm
            cases hd : (S.nd i).names x with
            | none => rw [hd] at hm; cases hm
            | some k => rw [hd] at hm; cases hm; exact ⟨k, rfl, rfl⟩
          have hki := ((hW.n i _ HI.out.1).nm x k hkn).2.2.2
          have hkk := PS.nd_get hki
          have HF2 := Lib.hid (((HF.out.mono (ex' := [g]) (by simp)).trans hf).past (ex' := []) (fun b hb => .inr (by have := HG.out; simp at hb; omega)))
          have hT2 := H.out.fr HF2.out (by simp)
          have HT2 := Lib.hid hT2
          have hp2 := hT2.p
          have hpl2 := hat_lt hp2
          have hlk2 := hT2.look_yes hkk
          have hh2 := (hT2.n k _ hkk).h
          have hhl2 := hat_lt hh2
          have hen2 : (Instr.entry (.pointer (some ⟨g, 0, none⟩))).run Tryd.prog w2 = .ok (.tuple #[.string x, .int .i64 k]) w2 := hen
          have HM2 := Lib.hid hmr
          have HML := Lib.hid (show w2.rangeLeft ((A i).nb.getD 0) g = cnt' ∧ wr.rangeLeft ((A i).nb.getD 0) g = cnt ∧ cnt' < cnt from by
            have e1 := hmr
            have e2 := HMR.out
            rw [hob] at e1 e2 ⊢
            exact ⟨e1.left_eq, e2.left_eq, hlt⟩)
          have HOB := Lib.hid hob
          have HKN := Lib.hid (show (S.nd i).names x = some k ∧ (S.nodes k).isSome = true from ⟨hkn, hki⟩)
          have HG2 := Lib.hid (show g < w2.heap.size from by have := HMR.out.lt; rw [hs]; exact this)
          have hB2 : ¬ ((S.nd k).kind = 2 ∧ Und S d k) → ∀ s k', (S.nd i).names s = some k' → (left s && !decide (s = x)) = false → (S.nd k').kind = 2 → ¬ Und S d k' := fun hnu s k' h1 h2 h3 h4 => by
            by_cases hsx : s = x
            · rw [hsx, HKN.out.1] at h1
              cases h1
              exact hnu ⟨h3, h4⟩
            · refine HB.out s k' h1 ?_ h3 h4
              simpa [hsx] using h2
          have HB2 := Lib.hid hB2
          clear hm hmr hlt hf hen hob hx hl hkn hki hkk hT2 hB2
          by_cases hk2 : (S.nd k).kind = 2
          · have HK2 := Lib.hid hk2
            rw [hk2] at hh2
            have hrk := HRK.out i _ x k HI.out.1 HKN.out.1 HK2.out
            have hmx := HMX.out k (by have := hO.k k HKN.out.2; omega) (by have := hO.k k HKN.out.2; have := hO.i; omega)
            have HC := Lib.hid (IH.out k w2 (by have := HI.out.2; omega) HKN.out.2 HK2.out HT2.out)
            clear hk2 hrk hmx
            go_wp2_with fail
            refine HC.out.mono ?_; rintro e w3 ⟨rfl, hb3⟩
            have HF3 := Lib.hid (HF2.out.trans (fr_below hb3 []))
            have HM3 := Lib.hid (HM2.out.fr (fr_below hb3 []) (by simp) (by simp))
            have HML3 := Lib.hid (show w3.rangeLeft ((A i).nb.getD 0) g = cnt' from by
              have e1 := HM3.out
              rw [HOB.out] at e1 ⊢
              exact e1.left_eq)
            clear hb3
            cases hu : S.under d k with
            | true =>
              have HQ := Lib.hid (under_yes (S := S) (d := d) (i := i) (.deep HKN.out.1 HK2.out (of_under hu)))
              clear hu
              go_wp2_with fail
              go_ret
              rw [HQ.out]
              exact ⟨rfl, HF3.out.bl⟩
            | false =>
              have HN := Lib.hid (of_under_no hu)
              clear hu
              go_wp2_with fail
              go_roundw
              case rel => exact ⟨_, cnt', HM3, Lib.hid (HB2.out (fun h => HN.out h.2)), HF3⟩
              case measure =>
                rw [HML3.out, HML.out.2.1]
                exact HML.out.2.2
          · have HN := Lib.hid hk2
            have hkb : ((S.nd k).kind == 2) = false := by simpa using hk2
            clear hk2
            go_wp2_with fail
            go_roundw
            case rel => exact ⟨_, cnt', HM2, Lib.hid (HB2.out (fun h => HN.out h.1)), HF2⟩
            case measure =>
              rw [HML.out.1, HML.out.2.1]
              exact HML.out.2.2
theorem under_any {w : World} {gp bn c : Nat} {S : PS} {A : Int → NA} {own : Nat → Option (Int × Nat)} (h : PT w gp bn c S A own) (hg : Good S) {d i : Int} (hi : (S.nodes i).isSome = true) (hk : (S.nd i).kind = 2) :
    Calls Tryd.prog 69 #[.pointer (some ⟨gp, 0, none⟩), .int .i64 d, .int .i64 i] w fun e w' => e = .returned (.bool (S.under d i)) ∧ Below w.heap.size w w' := by
  obtain ⟨r, hr⟩ := hg.t
  obtain ⟨M, hM⟩ := rank_max r 513
  exact under_n hg.o hg.f hr hM (M - r i + 1) i w (by omega) hi hk h
end Go.Proofs.YteffoihkljkfdaaDoor

/- list: the walk; asks of kind 11. -/
namespace Go.Proofs.YteffoihkljkfdaaDoor
set_option linter.unusedSimpArgs false
set_option linter.unusedVariables false
open Go.RowKit

theorem nodup_len {α : Type} [DecidableEq α] : ∀ (xs l : List α), xs.Nodup → (∀ x ∈ xs, x ∈ l) → xs.length ≤ l.length
  | [], l, _, _ => Nat.zero_le _
  | x :: xs, l, hn, hm => by
    have h1 := hm x (List.mem_cons_self ..)
    have hx := List.nodup_cons.1 hn
    have ih := nodup_len xs (l.erase x) hx.2 (fun y hy => (List.mem_erase_of_ne (fun e => hx.1 (by rw [← e]; exact hy))).2 (hm y (List.mem_cons_of_mem _ hy)))
    rw [List.length_erase_of_mem h1] at ih
    have := List.length_pos_of_mem h1
    simp only [List.length_cons]
    omega
theorem info_ent : ∃ i0 z, Tryd.prog.info? 98 = some i0 ∧ i0.zero = some z ∧ z.cells.size = 3 ∧ i0.size = 3 ∧ i0.bytes = 32 := by
  have h : (Tryd.prog.info? 98).map (fun i => (i.zero, i.size, i.bytes)) = some (some (.agg #[.string (ByteArray.mk #[]), .int .i64 0, .int .i64 0]), 3, 32) := by kernel_rfl
  cases hq : Tryd.prog.info? 98 with
  | none => rw [hq] at h; cases h
  | some inf =>
    rw [hq] at h
    simp at h
    exact ⟨inf, _, rfl, h.1, rfl, h.2.1, h.2.2⟩
/-- one entry more -/
theorem push_e {w : World} {v : Value} {ob : Option Nat} {l : List (ByteArray × Int × Int)} (h : GRow 98 3 w v ob l.length (entC l)) (hl : l.length ≤ 5000) (s : ByteArray) (p q : Int) (ty : TypeId) :
    ∃ a c w2 ob', (Builtin.append_ #[35, 35] ty #[v, .slice (some ⟨w.heap.size, 0, none⟩) 1 1]).run Tryd.prog (w.alloc (.cells #[.string s, .int .i64 p, .int .i64 q] 98)) = .ok (.slice a (l.length + 1) c) w2 ∧
      GRow 98 3 w2 (.slice a (l.length + 1) c) ob' (l ++ [(s, p, q)]).length (entC (l ++ [(s, p, q)])) ∧ Fr ob.toList w w2 ∧ (ob' = ob ∨ ∃ g, ob' = some g ∧ w.heap.size ≤ g) := by
  obtain ⟨inf, z, hi, hz, hzs, his, hib⟩ := info_ent
  have hf1 := fr_new w (.cells #[.string s, .int .i64 p, .int .i64 q] 98) []
  have hb : GRow 98 3 (w.alloc (.cells #[.string s, .int .i64 p, .int .i64 q] 98)) (.slice (some ⟨w.heap.size, 0, none⟩) 1 1) (some w.heap.size) 1 (fun k => if k = 0 then .string s else if k = 1 then .int .i64 p else .int .i64 q) := .inr ⟨w.heap.size, 0, 1, #[.string s, .int .i64 p, .int .i64 q], rfl, rfl, (hopN w _).1, by simp, by simp, fun k hk => by
    have h3 : k = 0 ∨ k = 1 ∨ k = 2 := by omega
    rcases h3 with rfl | rfl | rfl <;> rfl⟩
  obtain ⟨news, hs, hnw⟩ := hb.src (P := Tryd.prog) Tryd.underlying35 (fun k hk => by
    have h3 : k = 0 ∨ k = 1 ∨ k = 2 := by omega
    rcases h3 with rfl | rfl | rfl <;> rfl)
  obtain ⟨v', w2, om', hr, hg, hgr⟩ := run_append_g (P := Tryd.prog) (ST := 35) (sz := 3) Tryd.underlying35 hi hz hzs his hib (h.fr hf1 (by simp)) hs hnw (by omega) (by omega) ty
  obtain ⟨a, c, rfl⟩ := hg.slice
  refine ⟨a, c, w2, om', hr, ?_, (hf1.mono (by simp)).trans hgr.fr, hgr.ob.imp id (fun ⟨g, h1, h2⟩ => ⟨g, h1, Nat.le_trans hf1.size h2⟩)⟩
  rw [List.length_append]
  refine hg.congr fun k hk => ?_
  unfold catF entC
  simp only [List.getD_eq_getElem?_getD]
  by_cases hql : k < l.length * 3
  · rw [if_pos hql, List.getElem?_append_left (by omega)]
  · rw [if_neg hql, List.getElem?_append_right (by omega), show k / 3 - l.length = 0 by omega]
    have h3 : k - l.length * 3 = 0 ∨ k - l.length * 3 = 1 ∨ k - l.length * 3 = 2 := by omega
    have e3 : k % 3 = k - l.length * 3 := by omega
    rw [e3]
    rcases h3 with h | h | h <;> rw [h] <;> rfl
set_option maxRecDepth 100000 in
theorem ins_none (a : Option Addr) (c : Nat) (fv : Value) (w : World) : Calls Tryd.prog 96 #[.slice a 0 c, .int .i64 0, .int .i64 0, fv] w fun e w' => e = .returned (.tuple #[]) ∧ w' = w := by
  go_enter Tryd.func96, Tryd.ntmps96
  go_wp2_with fail
  go_loopw [8] (fun v wr => v = .int .i64 1 ∧ wr = w) (fun _ _ => 0)
  case atStart => exact ⟨rfl, rfl⟩
  case round =>
    obtain ⟨rfl, rfl⟩ := hrel
    go_wp2_with fail
    refine bodyPost_end (results_none rfl _ _ _) rfl ?_
    exact ⟨rfl, rfl⟩
set_option maxRecDepth 100000 in
theorem pdq_none (a : Option Addr) (c : Nat) (lim : Int) (fv : Value) (w : World) : Calls Tryd.prog 90 #[.slice a 0 c, .int .i64 0, .int .i64 0, .int .i64 lim, fv] w fun e w' => e = .returned (.tuple #[]) ∧ w' = w := by
  go_enter Tryd.func90, Tryd.ntmps90
  go_wp2_with fail
  refine wp_loop_rounds 1 ?_
  rw [rounds_succ]
  go_wp2_with fail
  refine (ins_none a c fv w).mono ?_; rintro e w1 ⟨rfl, rfl⟩
  go_wp2_with fail
  (try simp only [Exit.inBlock, Exit.then]); refine bodyPost_ret (results_none rfl _ _ _) rfl ?_
  exact ⟨rfl, rfl⟩
set_option maxRecDepth 100000 in
theorem sort_none (a : Option Addr) (c : Nat) (fv : Value) (w : World) : Calls Tryd.prog 80 #[.slice a 0 c, fv] w fun e w' => e = .returned (.tuple #[]) ∧ w' = w := by
  go_enter Tryd.func80, Tryd.ntmps80
  go_wp2_with fail
  refine (Tryd.bits_Len _ _ (by omega) (by omega)).mono ?_; rintro e w1 ⟨rfl, rfl⟩
  go_wp2_with fail
  refine (pdq_none a c _ fv w1).mono ?_; rintro e w1 ⟨rfl, rfl⟩
  go_wp2_with fail
  refine bodyPost_end (results_none rfl _ _ _) rfl ?_
  exact ⟨rfl, rfl⟩
/-- what the range has listed so far -/
structure LI (w wr : World) (g : Nat) (v : Value) (ob : Option Nat) (n : Nd) (f : ByteArray → Int × Int) (xs : List ByteArray) (left : ByteArray → Bool) : Prop where
  r : GRow 98 3 wr v ob xs.length (entC (xs.map (entS f)))
  nd : xs.Nodup
  m : ∀ s, s ∈ xs ↔ (n.names s).isSome = true ∧ left s = false
  ob : ∀ b, ob = some b → g < b
  fr : Fr [] w wr
  le : xs.length ≤ 1068
def PS.entF (S : PS) (n : Nd) (s : ByteArray) : Int × Int := ((n.names s).getD 0, (S.nd ((n.names s).getD 0)).kind)
theorem ents_eq (S : PS) (n : Nd) : S.ents n = n.sorted.map (entS (S.entF n)) := rfl
def PS.listA (S : PS) (i : Int) : Ans := if (S.nd i).kind ≠ 2 then .err 113 else ⟨0, Sta.zero, [], S.ents (S.nd i)⟩
set_option maxHeartbeats 8000000 in
set_option maxRecDepth 100000 in
theorem list_any {w : World} {gp bn c : Nat} {S : PS} {A : Int → NA} {own : Nat → Option (Int × Nat)} (h : PT w gp bn c S A own) (hO : POk S) (hW : PWf S) {i : Int} (hi : (S.nodes i).isSome = true) :
    Calls Tryd.prog 71 #[.pointer (some ⟨gp, 0, none⟩), .int .i64 i] w fun e w' => ∃ av, e = .returned av ∧ AnsAt w' w.heap.size (fun _ => none) av (S.listA i) ∧ Below w.heap.size w w' := by
  have hn := PS.nd_get hi
  obtain ⟨w0, hw0⟩ : ∃ x, x = w.alloc (.cells ans0 37) := ⟨_, rfl⟩
  obtain ⟨ga, hga⟩ : ∃ x, x = w.heap.size := ⟨_, rfl⟩
  have hf0 : Fr [] w w0 := by rw [hw0]; exact fr_new _ _ _
  have hga0 : hat w0 ga = some (.cells ans0 37) := by rw [hw0, hga]; exact (hopN w _).1
  have hT := h.fr hf0 (by simp)
  have hp0 := hT.p
  have hpl0 := hat_lt hp0
  have hlk := hT.look_yes hn
  have hnn := hT.n i _ hn
  have hh := hnn.h
  have hhl := hat_lt hh
  have HT0 := Lib.hid hT
  have HG0 := Lib.hid hga0
  have HF0 := Lib.hid hf0
  have HGE := Lib.hid (show w.heap.size ≤ ga by omega)
  have HNV := Lib.hid (show (A i).nv = .map (A i).nb from hnn.m.map)
  have HMO := Lib.hid (show MO kStr w0 (.map (A i).nb) (A i).nb (S.nd i).namesM (A i).nc by rw [← HNV.out]; exact hnn.m)
  have HN := Lib.hid hn
  have H := Lib.hid h
  have HB0 := Lib.hid (show ∀ b, (A i).nb = some b → b < w0.heap.size from fun b hb => (hnn.lts).2.2.2 b hb)
  rw [HNV.out] at hh
  clear h hT hnn hf0
  go_enter Tryd.func71, Tryd.ntmps71
  go_upto_region 1 with fail
  have hw0' : w0 = w.alloc (.cells #[.int .i64 0, .int .i64 0, .int .i64 0, .int .i64 0, .int .i64 0, .int .i64 0, .int .i64 0, .slice none 0 0, .slice none 0 0, .bool false] 37) := hw0
  rw [← hw0', ← hga]
  clear hw0' hw0 hga
  by_cases hk2 : (S.nd i).kind = 2
  · have HQ := Lib.hid (show S.listA i = ⟨0, Sta.zero, [], S.ents (S.nd i)⟩ by unfold PS.listA; rw [if_neg (by simpa using hk2)])
    rw [hk2] at hh
    go_wp2_with (first | (at_range; refine wpList_range_mo rfl _ _ rfl Tryd.underlying70 rfl HMO.out ?_; intro w1 cnt hmr hf hs) | fail)
    go_frame
    obtain ⟨r, hr⟩ : ∃ x, x = w0.heap.size := ⟨_, rfl⟩
    rw [← hr] at hmr ⊢
    have HB0 := Lib.hid (show ∀ b, (A i).nb = some b → b < r from fun b hb => by rw [hr]; exact HB0.out b hb)
    have HR := Lib.hid (show w.heap.size ≤ r ∧ r < w1.heap.size by have := HF0.out.size; omega)
    have HS := Lib.hid (show MRO kStr w1 (A i).nb r (S.nd i).namesM (A i).nc (fun x => ((S.nd i).namesM x).isSome) cnt from hmr)
    have HF1 := Lib.hid (HF0.out.trans hf)
    have HG1 := Lib.hid (show hat w1 ga = some (.cells ans0 37) ∧ ga < r from ⟨(hf.block _ (hat_lt HG0.out) (by simp)).trans HG0.out, by have := hat_lt HG0.out; omega⟩)
    clear hmr hs hr hf hga0 hp0 hpl0 hlk hh hhl hk2
    go_loopw [6] (fun v6 wr => ∃ (left : ByteArray → Bool) (cnt : Nat) (xs : List ByteArray) (a : Option Addr) (c : Nat) (ob : Option Nat), v6 = .slice a xs.length c ∧ Hid (MRO kStr wr (A i).nb r (S.nd i).namesM (A i).nc left cnt) ∧ Hid (LI w wr r (.slice a xs.length c) ob (S.nd i) (S.entF (S.nd i)) xs left) ∧ Hid (hat wr ga = some (.cells ans0 37))) (fun _ wr => wr.rangeLeft ((A i).nb.getD 0) r)
    case atStart => exact ⟨_, _, [], none, 0, none, rfl, HS, Lib.hid ⟨.inl ⟨rfl, rfl, rfl⟩, List.nodup_nil, fun s => ⟨fun h => (nomatch h), fun ⟨h1, h2⟩ => by
        unfold Nd.namesM at h2
        cases hq : (S.nd i).names s with
        | none => rw [hq] at h1; cases h1
        | some j => rw [hq] at h2; cases h2⟩, fun b hb => (nomatch hb), HF1.out, Nat.zero_le _⟩, Lib.hid HG1.out.1⟩
    case round =>
      obtain ⟨left, cnt, xs, a, c, ob, rfl, HMR, HL, HGA⟩ := hrel
      go_wp2_with (first | (at_next; refine wpList_next_mo rfl _ rfl rfl HMR.out ?_ ?_) | fail)
      · intro hl0
        have HM := Lib.hid (sorted_of (hW.n i _ HN.out) HL.out.nd (fun s => by rw [HL.out.m]; simp [hl0]))
        clear HMR hl0
        by_cases hx : xs = []
        · subst hx
          have HE := Lib.hid (show S.ents (S.nd i) = [] by rw [ents_eq, ← HM.out]; simp)
          have hg1 := HGA.out
          unfold ans0 at hg1
          have hgl1 := hat_lt hg1
          go_wp2_with fail
          refine (sort_none _ _ _ _).mono ?_; rintro e w2 ⟨rfl, rfl⟩
          go_wp2_with fail
          refine ret_c row37 rfl (cs := #[.int .i64 0, .int .i64 0, .int .i64 0, .int .i64 0, .int .i64 0, .int .i64 0, .int .i64 0, .slice none 0 0, .slice a 0 c, .bool false]) rfl (hat_setRow_at _ _ _ _ _ _ HGA.out) rfl rfl ?_
          have hr0 := HL.out.r
          refine ⟨_, rfl, ?_, ?_⟩
          · rw [HQ.out, HE.out]
            refine ⟨.slice none 0 0, .slice a 0 c, none, ob, rfl, .inl ⟨rfl, rfl, rfl⟩, ?_, fun g hg => ⟨?_, rfl⟩⟩
            · exact hr0.fr (fr_setRow _ ga _) (fun g hg => by have := HL.out.ob g hg; have := HG1.out.2; simp; omega)
            · rcases hg with hg | hg
              · cases hg
              · have := HL.out.ob g hg; have := HR.out.1; omega
          · exact (((HL.out.fr.mono (ex' := [ga]) (by simp)).trans (fr_setRow _ ga _)).past (ex' := []) (fun b hb => .inr (by have := HGE.out; simp at hb; omega))).bl
        · have HX := Lib.hid hx
          have hrr := HL.out.r
          rcases hrr with ⟨-, -, h0⟩ | ⟨g, off, c', cs, e, h2, h3, h4, h5, h6⟩
          · exact absurd (List.length_eq_zero_iff.1 h0) hx
          · injection e with e1 e2 e3
            subst e1 e3
            have HC := Lib.hid (sort_ents (S.entF (S.nd i)) hx HL.out.r (by have := HL.out.le; omega))
            have HOB := Lib.hid (show r < g from HL.out.ob g h2)
            clear h2 h3 h4 h5 h6 hx
            go_wp2_with fail
            refine HC.out.mono ?_; rintro e w2 ⟨rfl, hg2, hf2⟩
            have HG2 := Lib.hid hg2
            have HF2 := Lib.hid (show Fr [] w w2 from ((HL.out.fr.mono (ex' := [g]) (by simp)).trans hf2).past (ex' := []) (fun b hb => .inr (by have := HOB.out; have := HR.out.1; simp at hb; omega)))
            have hg1 := (hf2.block ga (hat_lt HGA.out) (by have := HOB.out; have := HG1.out.2; simp; omega)).trans HGA.out
            have HGA2 := Lib.hid hg1
            unfold ans0 at hg1
            have hgl1 := hat_lt hg1
            clear hg2 hf2
            go_wp2_with fail
            refine ret_c row37 rfl (cs := #[.int .i64 0, .int .i64 0, .int .i64 0, .int .i64 0, .int .i64 0, .int .i64 0, .int .i64 0, .slice none 0 0, .slice (some ⟨g, off, none⟩) xs.length c, .bool false]) rfl (hat_setRow_at _ _ _ _ _ _ HGA2.out) rfl rfl ?_
            refine ⟨_, rfl, ?_, ?_⟩
            · rw [HQ.out, ents_eq, ← HM.out]
              refine ⟨.slice none 0 0, .slice (some ⟨g, off, none⟩) xs.length c, none, ob, ?_, .inl ⟨rfl, rfl, rfl⟩, ?_, fun g hg => ⟨?_, rfl⟩⟩
              · unfold ansV Sta.zero; rfl
              · have hlen : ((xs.mergeSort leB).map (entS (S.entF (S.nd i)))).length = xs.length := by rw [List.length_map, List.length_mergeSort]
                show GRow _ 3 _ _ ob ((xs.mergeSort leB).map (entS (S.entF (S.nd i)))).length _
                rw [hlen]
                exact HG2.out.fr (fr_setRow _ ga _) (fun g hg => by have := HL.out.ob g hg; have := HG1.out.2; simp; omega)
              · rcases hg with hg | hg
                · cases hg
                · have := HL.out.ob g hg; have := HR.out.1; omega
            · exact (((HF2.out.mono (ex' := [ga]) (by simp)).trans (fr_setRow _ ga _)).past (ex' := []) (fun b hb => .inr (by have := HGE.out; simp at hb; omega))).bl
      · intro x v w2 cnt' b hx hl hm hmr hlt hf hs hen hob
        obtain ⟨k, hkn, rfl⟩ : ∃ k, (S.nd i).names x = some k ∧ v = .int .i64 k := by
          unfold Nd.namesM at hm
          cases hd : (S.nd i).names x with
          | none => rw [hd] at hm; cases hm
          | some k => rw [hd] at hm; cases hm; exact ⟨k, rfl, rfl⟩
        have hki := ((hW.n i _ HN.out).nm x k hkn).2.2.2
        have hkk := PS.nd_get hki
        have hfp : Fr [] w w2 := ((HL.out.fr.mono (ex' := [r]) (by simp)).trans hf).past (ex' := []) (fun b hb => .inr (by have := HR.out; simp at hb; omega))
        have HF2 := Lib.hid hfp
        have hT2 := H.out.fr hfp (by simp)
        have hp2 := hT2.p
        have hpl2 := hat_lt hp2
        have hlk2 := hT2.look_yes hkk
        have hh2 := (hT2.n k _ hkk).h
        have hhl2 := hat_lt hh2
        have hen2 : (Instr.entry (.pointer (some ⟨r, 0, none⟩))).run Tryd.prog w2 = .ok (.tuple #[.string x, .int .i64 k]) w2 := hen
        have hrow : GRow 98 3 w2 (.slice a xs.length c) ob (xs.map (entS (S.entF (S.nd i)))).length (entC (xs.map (entS (S.entF (S.nd i))))) := by
          rw [List.length_map]
          exact HL.out.r.fr hf (fun b hb => by have := HL.out.ob b hb; simp; omega)
        obtain ⟨a2, c2, w3, ob', hap, hg3, hf3, hob'⟩ := push_e hrow (by rw [List.length_map]; have := HL.out.le; omega) x k (S.nd k).kind 35
        have he : entS (S.entF (S.nd i)) x = (x, k, (S.nd k).kind) := by unfold entS PS.entF; rw [hkn]; rfl
        have e5 : xs.map (entS (S.entF (S.nd i))) ++ [(x, k, (S.nd k).kind)] = (xs ++ [x]).map (entS (S.entF (S.nd i))) := by rw [List.map_append, ← he]; rfl
        rw [e5] at hg3
        simp only [List.length_map, List.length_append, List.length_singleton] at hap hg3
        have hobl : ∀ b, ob = some b → r < b ∧ b < w2.heap.size := fun b hb => ⟨HL.out.ob b hb, by have := (HL.out.r.lt b hb); omega⟩
        have HAP := Lib.hid hap
        have HF3 := Lib.hid (show Fr [] w w3 from ((hfp.mono (ex' := ob.toList) (by simp)).trans hf3).past (ex' := []) (fun b hb => .inr (by have := hobl b (by simpa using hb); have := HR.out; omega)))
        have HM2 := Lib.hid (hmr.fr hf3 (fun b' hb' hm' => by
          have e1 := hobl b' (by simpa using hm')
          have e2 := HB0.out b' hb'
          omega) (fun hm' => by have := hobl r (by simpa using hm'); omega))
        have HML := Lib.hid (show w3.rangeLeft ((A i).nb.getD 0) r = cnt' ∧ wr.rangeLeft ((A i).nb.getD 0) r = cnt ∧ cnt' < cnt from by
          have e1 := HM2.out
          have e2 := HMR.out
          rw [hob] at e1 e2 ⊢
          exact ⟨e1.left_eq, e2.left_eq, hlt⟩)
        have HGA3 := Lib.hid (show hat w3 ga = some (.cells ans0 37) from (hf3.block ga (by have := hat_lt HGA.out; omega) (fun hm' => by have := hobl ga (by simpa using hm'); have := HG1.out.2; omega)).trans ((hf.block ga (hat_lt HGA.out) (by have := HG1.out.2; simp; omega)).trans HGA.out))
        have hxn : x ∉ xs := fun hm' => by have := ((HL.out.m x).1 hm').2; rw [hl] at this; cases this
        have hnd' : (xs ++ [x]).Nodup := by
          rw [List.nodup_append]
          exact ⟨HL.out.nd, by simp, fun p hp q hq => by simp at hq; subst hq; intro e; subst e; exact hxn hp⟩
        have hmem' : ∀ s, s ∈ xs ++ [x] ↔ ((S.nd i).names s).isSome = true ∧ (left s && !decide (s = x)) = false := fun s => by
          rw [List.mem_append, HL.out.m]
          by_cases hsx : s = x
          · subst hsx
            simp [hkn]
          · simp [hsx]
        have hle' : (xs ++ [x]).length ≤ 1068 := Nat.le_trans (nodup_len _ (S.nd i).slots hnd' (fun s hs => by
          have h1 := ((hmem' s).1 hs).1
          cases hq : (S.nd i).names s with
          | none => rw [hq] at h1; cases h1
          | some j => exact ((hW.n i _ HN.out).nm s j hq).1)) (hO.n i _ HN.out).sl
        have HLI := Lib.hid (show LI w w3 r (.slice a2 (xs ++ [x]).length c2) ob' (S.nd i) (S.entF (S.nd i)) (xs ++ [x]) (fun y => left y && !decide (y = x)) from ⟨by rw [List.length_append, List.length_singleton]; exact hg3, hnd', hmem', fun b hb => by
          rcases hob' with e | ⟨g', e, hge⟩
          · exact HL.out.ob b (by rw [← e]; exact hb)
          · rw [e] at hb; cases hb; have := HR.out.2; have := HMR.out.lt; omega, HF3.out, hle'⟩)
        clear hm hmr hlt hf hen hob hx hl hkn hki hkk hT2 hrow hg3 hf3 hob' he hobl hxn hnd' hmem' hle' hfp hap e5 hs
        go_wp2_with (first | (at_builtin; refine wpList_append_run _ rfl _ _ 35 rfl _ _ rfl rfl _ _ HAP.out ?_) | fail)
        go_roundw
        case rel => exact ⟨_, cnt', xs ++ [x], a2, c2, ob', by rw [List.length_append, List.length_singleton], HM2, HLI, HGA3⟩
        case measure =>
          rw [HML.out.1, HML.out.2.1]
          exact HML.out.2.2
  · have HQ := Lib.hid (show S.listA i = .err 113 by unfold PS.listA; rw [if_pos (by simpa using hk2)])
    have hkb : ((S.nd i).kind != 2) = true := by simpa using hk2
    unfold ans0 at hga0
    have hgal := hat_lt hga0
    go_wp2_with fail
    refine ret_c row37 rfl (cs := #[.int .i64 113, .int .i64 0, .int .i64 0, .int .i64 0, .int .i64 0, .int .i64 0, .int .i64 0, .slice none 0 0, .slice none 0 0, .bool false]) rfl (hat_setRow_at _ _ _ _ _ _ HG0.out) rfl rfl ?_
    exact ⟨_, rfl, by rw [HQ.out]; exact ans_err _ _ _ _, (((HF0.out.mono (ex' := [ga]) (by simp)).trans (fr_setRow _ ga _)).past (ex' := []) (fun b hb => .inr (by have := HGE.out; simp at hb; omega))).bl⟩
set_option maxHeartbeats 8000000 in
set_option maxRecDepth 100000 in
theorem asks_list {w : World} {gp bn c : Nat} {S : PS} {A : Int → NA} {own : Nat → Option (Int × Nat)} (h : PW w gp bn c S A own) {i : Int} (hi : (S.nodes i).isSome = true) {o : OpV} (hk : o.kind = 11) {dv : Value} (ho : OpAt w own o dv) :
    Calls Tryd.prog 54 #[.pointer (some ⟨gp, 0, none⟩), .agg (opV o dv), .int .i64 i] w fun e w' => ∃ own' av, e = .returned av ∧ AnsAt w' w.heap.size own' av ((S.ask o i).2) ∧ Mvd w w' gp bn own ((S.ask o i).1) own' := by
  have hn := PS.nd_get hi
  have H := Lib.hid h.nrm
  have HO := Lib.hid ho
  obtain ⟨od, hdr, hdn⟩ := ho.d
  obtain ⟨da, dc, rfl⟩ := hdr.slice
  obtain ⟨kind, path, dest, off, len, data, made, pick⟩ := o
  simp only at hk
  subst hk
  have HDR := Lib.hid hdr
  clear ho hdr hdn h
  unfold opV
  simp only at HO HDR ⊢
  obtain ⟨w0, hw0⟩ : ∃ x, x = (w.alloc (.cells #[.int .i64 11, .string path, .string dest, .int .i64 off, .int .i64 len, .slice da data.length dc, .int .i64 made, .int .i64 pick] 40)).alloc (.cells ans0 37) := ⟨_, rfl⟩
  obtain ⟨go, hgo⟩ : ∃ x, x = w.heap.size := ⟨_, rfl⟩
  obtain ⟨ga, hga⟩ : ∃ x, x = go + 1 := ⟨_, rfl⟩
  have hf0 : Fr [] w w0 := by rw [hw0]; exact (fr_new _ _ _).trans (fr_new _ _ _)
  have hop0 : hat w0 go = some (.cells #[.int .i64 11, .string path, .string dest, .int .i64 off, .int .i64 len, .slice da data.length dc, .int .i64 made, .int .i64 pick] 40) := by rw [hw0, hgo]; exact (hopA _ _ (hopN w _).1).1
  have hga0 : hat w0 ga = some (.cells ans0 37) := by
    have e := (hopN (w.alloc (.cells #[.int .i64 11, .string path, .string dest, .int .i64 off, .int .i64 len, .slice da data.length dc, .int .i64 made, .int .i64 pick] 40)) (.cells ans0 37)).1
    rw [show (w.alloc (.cells #[.int .i64 11, .string path, .string dest, .int .i64 off, .int .i64 len, .slice da data.length dc, .int .i64 made, .int .i64 pick] 40)).heap.size = ga by rw [hga, hgo]; simp] at e
    rw [hw0]; exact e
  have HG0 := Lib.hid hga0
  have HF0 := Lib.hid hf0
  have HP0 := Lib.hid (H.out.fr hf0 (by simp))
  have HGE := Lib.hid (show w.heap.size ≤ go ∧ w.heap.size ≤ ga ∧ go < ga from by omega)
  have HO0 := Lib.hid (HO.out.fr (own' := nrm w own) hf0 (by simp) (fun b hb => nrm_lt hb))
  go_enter Tryd.func54, Tryd.ntmps54
  go_upto_region 1 with fail
  have hw0' : w0 = (w.alloc (.cells #[.int .i64 11, .string path, .string dest, .int .i64 off, .int .i64 len, .slice da data.length dc, .int .i64 made, .int .i64 pick] 40)).alloc (.cells #[.int .i64 0, .int .i64 0, .int .i64 0, .int .i64 0, .int .i64 0, .int .i64 0, .int .i64 0, .slice none 0 0, .slice none 0 0, .bool false] 37) := hw0
  rw [← hgo, ← hga]
  rw [← hw0']
  clear hw0' hw0 hf0 hga hgo hga0
  have hp0 := HP0.out.t.p
  have hpl0 := hat_lt hp0
  have hol0 := hat_lt hop0
  have hlk := HP0.out.t.look_yes hn
  have hnn := HP0.out.t.n i _ hn
  have hh := hnn.h
  have hhl := hat_lt hh
  have HNN := Lib.hid hnn
  clear hnn
  have HAK := Lib.hid (show S.ask ⟨11, path, dest, off, len, data, made, pick⟩ i = (S, S.listA i) by unfold PS.ask PS.listA; simp; split <;> rfl)
  go_wp2_with fail
  refine (list_any HP0.out.t HP0.out.o HP0.out.f hi).mono ?_; rintro e w1 ⟨av, rfl, ha, hb1⟩
  have hg1 := (hop hb1 HG0.out).1
  have HG1 := Lib.hid hg1
  have HAN := Lib.hid ha
  obtain ⟨dv, ev, od1, oe1, rfl, hd1, he1, -⟩ := ha
  obtain ⟨d1, d2, rfl⟩ := hd1.slice
  obtain ⟨e1, e2, rfl⟩ := he1.slice
  have HB1 := Lib.hid hb1
  unfold ansV at HAN ⊢
  generalize hx : S.listA i = x at *
  clear hx
  obtain ⟨xc, ⟨x1, x2, x3, x4, x5, x6⟩, xd, xe⟩ := x
  simp only at HAN ⊢
  unfold ans0 at hg1
  have hgl1 := hat_lt hg1
  have hone : oneAll #[.int .i64 xc, .int .i64 x1, .int .i64 x2, .int .i64 x3, .int .i64 x4, .int .i64 x5, .int .i64 x6, .slice d1 xd.length d2, .slice e1 xe.length e2, .bool false] = true := by simp [oneAll, Value.oneCell']
  clear hb1 hp0 hpl0 hol0 hlk hh hhl hop0 hd1 he1
  go_wp2_with fail
  refine ret_c row37 rfl (cs := #[.int .i64 xc, .int .i64 x1, .int .i64 x2, .int .i64 x3, .int .i64 x4, .int .i64 x5, .int .i64 x6, .slice d1 xd.length d2, .slice e1 xe.length e2, .bool false]) rfl (hat_setRow_at _ _ _ _ _ _ HG1.out) rfl rfl ?_
  exact ⟨nrm w own, _, rfl, by rw [HAK.out]; exact HAN.out.fr (fr_setRow w1 ga _) (by simp; exact hat_lt HG0.out) (fun b hb => nrm_ge (Nat.le_trans HF0.out.size hb)) HF0.out.size, by rw [HAK.out]; exact Mvd.then ⟨⟨c, A, HP0.out.fr (fr_below HB1.out []) (by simp)⟩, (HF0.out.trans (fr_below HB1.out [])).un (by simp), fun b hb => nrm_lt hb⟩ (fr_setRow w1 ga _) (by simp; exact ⟨nrm_ge HGE.out.2.1, HGE.out.2.1⟩)⟩
end Go.Proofs.YteffoihkljkfdaaDoor
