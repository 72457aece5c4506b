/- Contracts and laws that the claim leans on, laid together in the order in which they build. -/
import Derived.Test.YthioepdgnbdohaaGreatM01
import Derived.Test.YthioepdgnbdohaaGreatM04
import Derived.Test.YthioepdgnbdohaaGreatM10
import Derived.Test.YthioepdgnbdohaaGreatM12
import Derived.Test.YthioepdgnbdohaaGreatM14

/- A region that draws its order: what waits for another waits for all that that one waits for. -/
namespace Go.Proofs.YthioepdgnbdohaaGreat
set_option linter.unusedSimpArgs false
set_option linter.unusedVariables false
open Go.RowKit

/-- does operation i wait for j, by others or by itself? -/
def reachB (ops : Array Oper) : Nat → Nat → Nat → Bool
  | 0, _, _ => false
  | f + 1, i, j => match ops[i]? with | none => false | some o => (Oper.needs o).any fun m => m == j || reachB ops f m j
def regionOkT (ops : Array Oper) (N : Nat) : Bool :=
  (ops.toList.zipIdx.all fun (o, i) => (Oper.needs o).all (· < i) && (i < N || (List.range i).all fun j => reachB ops ops.size i j)) &&
  N ≤ ops.size &&
  ((dsts (ops.toList.take N)).Nodup : Bool)
theorem reach_listed {ops : Array Oper} {L : Array Bool} (hcl : ∀ j oj, ops[j]? = some oj → L.getD j false = true → ∀ m ∈ Oper.needs oj, L.getD m false = true) : ∀ (f i : Nat) (o : Oper) (j : Nat), ops[i]? = some o → (∀ m ∈ Oper.needs o, L.getD m false = true) → reachB ops f i j = true → L.getD j false = true
  | 0, _, _, _, _, _, h => by cases h
  | f + 1, i, o, j, ho, hn, h => by
    unfold reachB at h
    rw [ho] at h
    simp only [List.any_eq_true, Bool.or_eq_true, beq_iff_eq] at h
    obtain ⟨m, hm, rfl | h⟩ := h
    · exact hn m hm
    · cases hom : ops[m]? with
      | none => cases f <;> simp [reachB, hom] at h
      | some om => exact reach_listed hcl f m om j hom (hcl m om hom (hn m hm)) h
section
variable {P : Program} {ops : Array Oper} {N : Nat} {Q : Exit → Act → World → Prop}
theorem regionOkT_spec (h : regionOkT ops N = true) : (∀ i o, ops[i]? = some o → ∀ j ∈ Oper.needs o, j < i) ∧ (∀ i o, ops[i]? = some o → N ≤ i → ∀ j, j < i → reachB ops ops.size i j = true) ∧ N ≤ ops.size ∧ (dsts (ops.toList.take N)).Nodup := by
  unfold regionOkT at h
  simp only [Bool.and_eq_true, List.all_eq_true, decide_eq_true_eq] at h
  obtain ⟨⟨h1, h2⟩, h3⟩ := h
  have key : ∀ i o, ops[i]? = some o → (∀ x ∈ Oper.needs o, x < i) ∧ (i < N ∨ ∀ j < i, reachB ops ops.size i j = true) := by
    intro i o hi
    have := h1 (o, i) (by simp [List.mem_zipIdx_iff_getElem?, hi])
    simpa using this
  refine ⟨fun i o hi => (key i o hi).1, fun i o hi hN j hj => ?_, h2, h3⟩
  rcases (key i o hi).2 with h | h
  · omega
  · exact h j hj

theorem wpAny_tailT (hok : regionOkT ops N = true) : ∀ (fuel k : Nat) (L : Array Bool) (a : Act) (w : World), N ≤ k → k ≤ ops.size → ops.size - k ≤ fuel → L.size = ops.size →
    (∀ j, j < ops.size → L.getD j true = decide (j < k)) → wpList P ops Q (ops.toList.drop k) a w → wpAny P .any ops Q fuel L a w := by
  obtain ⟨hb, ht, -, -⟩ := regionOkT_spec hok
  intro fuel
  induction fuel with
  | zero =>
    intro k L a w hN hk hf hL hLk h
    have : k = ops.size := by omega
    subst this
    refine ⟨?_, by rw [List.drop_of_length_le (by simp)] at h; exact h⟩
    apply List.eq_nil_iff_forall_not_mem.2
    intro i hi
    obtain ⟨o, ho, h1, -⟩ := ready_mem hL hi
    have hlt : i < ops.size := (Array.getElem?_eq_some_iff.1 ho).1
    rw [hLk i hlt] at h1
    simp at h1; omega
  | succ fuel ih =>
    intro k L a w hN hk hf hL hLk h
    refine ⟨?_, ?_⟩
    · intro hr
      by_cases hks : k = ops.size
      · subst hks; rw [List.drop_of_length_le (by simp)] at h; exact h
      · exfalso
        have hlt : k < ops.size := by omega
        have : k ∈ Region.ready .any ops L := by
          refine ready_of (o := ops[k]) (by simp [hlt]) (by rw [hLk k hlt]; simp) ?_
          intro j hj
          have hjk := hb k ops[k] (by simp [hlt]) j hj
          have := hLk j (by omega)
          have hjs : j < L.size := by omega
          simp [hjs] at this ⊢
          rw [this]; simpa using hjk
        rw [hr] at this; simp at this
    · intro i hi
      obtain ⟨o, ho, h1, h2⟩ := ready_mem hL hi
      have hlt : i < ops.size := (Array.getElem?_eq_some_iff.1 ho).1
      have hik : i = k := by
        rw [hLk i hlt] at h1
        simp at h1
        by_cases hgt : k < i
        · exfalso
          have hcl : ∀ j oj, ops[j]? = some oj → L.getD j false = true → ∀ m ∈ Oper.needs oj, L.getD m false = true := by
            intro j oj hj hjL m hm
            have hjs := (Array.getElem?_eq_some_iff.1 hj).1
            have h5 := hLk j hjs
            have hjs' : j < L.size := by omega
            have hmj := hb j oj hj m hm
            have h6 := hLk m (by omega)
            have hms' : m < L.size := by omega
            simp [hjs'] at h5 hjL
            simp [hms'] at h6 ⊢
            rw [hjL] at h5
            rw [h6]
            simp at h5 ⊢
            omega
          have := reach_listed hcl _ i o k ho h2 (ht i o ho (by omega) k hgt)
          have h3 := hLk k (by omega)
          have hks : k < L.size := by omega
          simp [hks] at this h3
          rw [this] at h3; simp at h3
        · omega
      subst hik
      have hd : ops.toList.drop i = o :: ops.toList.drop (i + 1) := by
        rw [List.drop_eq_getElem_cons (by simpa using hlt)]
        congr 1
        have := (Array.getElem?_eq_some_iff.1 ho).2
        simpa using this
      rw [hd] at h
      have hnext : ∀ a w, wpList P ops Q (ops.toList.drop (i + 1)) a w → wpAny P .any ops Q fuel (L.setIfInBounds i true) a w := by
        intro a w h
        refine ih (i + 1) _ a w (by omega) (by omega) (by omega) (by simpa using hL) ?_ h
        intro j hj
        have := hLk j hj
        have hjs : j < L.size := by omega
        by_cases hji : j = i
        · subst hji; simp [hjs]
        · simp [hjs, Array.getElem_setIfInBounds, Ne.symm hji] at this ⊢
          rw [this]
          simp; omega
      unfold wpOp
      simp only [ho]
      unfold wpList at h
      split
      · rename_i hw
        rw [if_pos hw] at h
        exact h.imp (Oper.wp_mono hnext) id
      · rename_i hw
        rw [if_neg hw] at h
        exact hnext _ _ h

theorem wp_region_factsT {id : Nat} {a : Act} {w : World} (hm : P.follows .mixedOrders = true) (N : Nat) (hok : regionOkT ops N = true)
    (hsz : (dsts (ops.toList.take N)).all (· < a.tmps.size) = true)
    (I : World → Prop) (E : World → World → Prop) (G : Nat → Value → World → Prop)
    (h0 : I w.drew)
    (hE : ∀ i v w w', i < N → I w → I w' → E w w' → G i v w → G i v w')
    (hs : ∀ i o, i < N → ops[i]? = some o → ∀ a' w', I w' → SameBut ops N a a' →
      (∀ j ∈ Oper.needs o, ∀ oj d, ops[j]? = some oj → oj.dst = some d → G j (gt a' d) w') →
      wpOp P ops Q i (fun a'' w'' => ∃ v, a'' = a'.put o.dst v ∧ I w'' ∧ E w' w'' ∧ G i v w'') a' w')
    (he : ∀ a' w', I w' → SameBut ops N a a' → (∀ j oj d, j < N → ops[j]? = some oj → oj.dst = some d → G j (gt a' d) w') →
      wpList P ops Q (ops.toList.drop N) a' w') :
    (Code.region id ops true).wp P Q a w := by
  obtain ⟨hb, ht, hNs, hnd⟩ := regionOkT_spec hok
  refine wp_region_any hm ?_
  have key : ∀ (fuel : Nat) (L : Array Bool) (a' : Act) (w' : World), L.size = ops.size → countF L ≤ fuel → (∀ j, N ≤ j → j < ops.size → L.getD j true = false) →
      (∀ j oj, ops[j]? = some oj → L.getD j false = true → ∀ m ∈ Oper.needs oj, L.getD m false = true) → I w' → SameBut ops N a a' → (∀ j oj d, j < N → L.getD j true = true → ops[j]? = some oj → oj.dst = some d → G j (gt a' d) w') → wpAny P .any ops Q fuel L a' w' := by
    intro fuel
    induction fuel with
    | zero =>
      intro L a' w' hL hf htl hcl hI hS hG
      have hall : ∀ j, j < ops.size → L.getD j true = true := by
        intro j hj
        cases hv : L.getD j true with
        | true => rfl
        | false => have := countF_set hv; omega
      have hN : N = ops.size := by
        by_cases h : N < ops.size
        · have := htl N (Nat.le_refl _) h
          rw [hall N h] at this; simp at this
        · omega
      refine wpAny_tailT hok 0 N L a' w' (Nat.le_refl _) (by omega) (by omega) hL (fun j hj => by rw [hall j hj]; simp; omega) ?_
      exact he a' w' hI hS (fun j oj d hj ho hd => hG j oj d hj (hall j (by omega)) ho hd)
    | succ fuel ih =>
      intro L a' w' hL hf htl hcl hI hS hG
      by_cases hall : ∀ j, j < N → L.getD j true = true
      · refine wpAny_tailT hok (fuel + 1) N L a' w' (Nat.le_refl _) hNs ?_ hL ?_ (he a' w' hI hS (fun j oj d hj ho hd => hG j oj d hj (hall j hj) ho hd))
        · -- the rest are all unlisted
          have : ∀ (n : Nat) (l : List Bool), (∀ j, n ≤ j → j < l.length → l[j]? = some false) → l.length - n ≤ l.countP (· == false) := by
            intro n
            induction n with
            | zero =>
              intro l
              induction l with
              | nil => intro _; simp
              | cons b l ihl =>
                intro h
                have h0 := h 0 (Nat.le_refl _) (by simp)
                simp at h0
                subst h0
                have := ihl (fun j _ hj => by have := h (j + 1) (by omega) (by simp; omega); simpa using this)
                simp at this ⊢
                omega
            | succ n ihn =>
              intro l
              cases l with
              | nil => intro _; simp
              | cons b l =>
                intro h
                have := ihn l (fun j hj hjl => by have := h (j + 1) (by omega) (by simp; omega); simpa using this)
                simp [List.countP_cons] at this ⊢
                omega
          have h2 := this N L.toList (fun j hj hjl => by
            have hjs : j < L.size := by simpa using hjl
            have := htl j hj (by omega)
            simp [hjs] at this ⊢
            exact this)
          unfold countF at hf
          simp at h2
          simp at hf
          omega
        · intro j hj
          by_cases hjN : j < N
          · rw [hall j hjN]; simp [hjN]
          · rw [htl j (by omega) hj]; simp [hjN]
      · refine ⟨?_, ?_⟩
        · intro hr
          exfalso
          -- the least unlisted one is ready
          have hex : ∃ j, j < N ∧ L.getD j true = false := by
            false_or_by_contra
            rename_i hne
            apply hall
            intro j hj
            cases hv : L.getD j true with
            | true => rfl
            | false => exact (hne ⟨j, hj, hv⟩).elim
          have least : ∀ n, (∃ j, j < n ∧ j < N ∧ L.getD j true = false) → ∃ j, j < N ∧ L.getD j true = false ∧ ∀ k, k < j → L.getD k true = true := by
            intro n
            induction n with
            | zero => rintro ⟨j, hj, _⟩; omega
            | succ n ihn =>
              rintro ⟨j, hj, hjN, hv⟩
              by_cases hlow : ∃ k, k < j ∧ L.getD k true = false
              · obtain ⟨k, hk, hkv⟩ := hlow
                exact ihn ⟨k, by omega, by omega, hkv⟩
              · refine ⟨j, hjN, hv, fun k hk => ?_⟩
                cases hkv : L.getD k true with
                | true => rfl
                | false => exact (hlow ⟨k, hk, hkv⟩).elim
          obtain ⟨j0, hj0, hv0⟩ := hex
          obtain ⟨j, hjN, hv, hlow⟩ := least (j0 + 1) ⟨j0, by omega, hj0, hv0⟩
          have hlt : j < ops.size := by omega
          have : j ∈ Region.ready .any ops L := by
            refine ready_of (o := ops[j]) (by simp [hlt]) hv ?_
            intro k hk
            have hkj := hb j ops[j] (by simp [hlt]) k hk
            have h3 := hlow k hkj
            have hks : k < L.size := by omega
            simp [hks] at h3 ⊢
            exact h3
          rw [hr] at this; simp at this
        · intro i hi
          obtain ⟨o, ho, h1, h2⟩ := ready_mem hL hi
          have hlt : i < ops.size := (Array.getElem?_eq_some_iff.1 ho).1
          have hiN : i < N := by
            by_cases h : i < N
            · exact h
            · exfalso
              apply hall
              intro j hj
              have := reach_listed hcl _ i o j ho h2 (ht i o ho (by omega) j (by omega))
              have hjs : j < L.size := by omega
              simp [hjs] at this ⊢
              exact this
          refine wpOp_mono ?_ (hs i o hiN ho a' w' hI hS ?_)
          · rintro a'' w'' ⟨v, rfl, hI', hE', hGi⟩
            have hidst : ∀ d, o.dst = some d → d ∈ dsts (ops.toList.take N) := by
              intro d hd
              unfold dsts
              refine List.mem_filterMap.2 ⟨o, ?_, hd⟩
              have hv := (Array.getElem?_eq_some_iff.1 ho).2
              rw [List.mem_take_iff_getElem]
              exact ⟨i, by simp; omega, by simpa using hv⟩
            refine ih _ _ _ (by simpa using hL) (by have := countF_set h1; omega) ?_ ?_ hI' ?_ ?_
            · intro j hj hjs
              have := htl j hj hjs
              have hjs' : j < L.size := by omega
              simp [hjs', Array.getElem_setIfInBounds, show i ≠ j by omega] at this ⊢
              exact this
            · intro j oj hj hjL m hm
              have hms : m < j := hb j oj hj m hm
              have hjs := (Array.getElem?_eq_some_iff.1 hj).1
              have hms' : m < L.size := by omega
              have hjs' : j < L.size := by omega
              have hmL : L.getD m false = true := by
                by_cases hji : j = i
                · subst hji
                  rw [ho] at hj; cases hj
                  exact h2 m hm
                · refine hcl j oj hj ?_ m hm
                  simp [hjs', Array.getElem_setIfInBounds, Ne.symm hji] at hjL ⊢
                  exact hjL
              simp [hms', Array.getElem_setIfInBounds] at hmL ⊢
              exact .inr hmL
            · refine ⟨by rw [size_put]; exact hS.size, by rw [defers_put]; exact hS.defers, ?_⟩
              intro t ht'
              rw [gt_put_ne]
              · exact hS.other t ht'
              · intro e; exact ht' (hidst t e)
            · intro j oj d hj hjL hoj hd
              by_cases hji : j = i
              · subst hji
                rw [ho] at hoj
                have hoe : o = oj := by simpa using hoj
                subst hoe
                rw [hd, gt_put_eq _ _ _ (by rw [hS.size]; simpa using (List.all_eq_true.1 hsz) d (hidst d hd))]
                exact hGi
              · have hjs' : j < L.size := by omega
                have hjL' : L.getD j true = true := by
                  simp [hjs', Array.getElem_setIfInBounds, Ne.symm hji] at hjL ⊢
                  exact hjL
                have hg := hG j oj d hj hjL' hoj hd
                rw [gt_put_ne]
                · exact hE j _ _ _ hj hI hI' hE' hg
                · intro e
                  -- two operations with one slot
                  have hne : ∀ (l : List Oper), (dsts l).Nodup → ∀ (i j : Nat) (oi oj : Oper) (d : Nat), l[i]? = some oi → l[j]? = some oj → oi.dst = some d → oj.dst = some d → i = j := by
                    intro l
                    induction l with
                    | nil => intro _ i j oi oj d hi; simp at hi
                    | cons x l ihl =>
                      intro hnd i j oi oj d hi hj hdi hdj
                      have hnd' : (dsts l).Nodup := by
                        unfold dsts at hnd ⊢
                        rw [List.filterMap_cons] at hnd
                        split at hnd
                        · exact hnd
                        · exact (List.nodup_cons.1 hnd).2
                      have hx : ∀ (j : Nat) (oj : Oper), l[j]? = some oj → oj.dst = some d → x.dst ≠ some d := by
                        intro j oj hj hdj hxd
                        unfold dsts at hnd
                        rw [List.filterMap_cons, hxd] at hnd
                        have := (List.nodup_cons.1 hnd).1
                        apply this
                        exact List.mem_filterMap.2 ⟨oj, List.mem_of_getElem? hj, hdj⟩
                      cases i with
                      | zero =>
                        simp at hi
                        subst hi
                        cases j with
                        | zero => rfl
                        | succ j => simp at hj; exact (hx j oj hj hdj hdi).elim
                      | succ i =>
                        simp at hi
                        cases j with
                        | zero => simp at hj; subst hj; exact (hx i oi hi hdi hdj).elim
                        | succ j => simp at hj; rw [ihl hnd' i j oi oj d hi hj hdi hdj]
                  have := hne (ops.toList.take N) hnd i j o oj d (by simp [List.getElem?_take, hiN, ho]) (by simp [List.getElem?_take, hj, hoj]) e hd
                  exact hji this.symm
          · intro j hj oj d hoj hd
            have hjL := h2 j hj
            have hji := hb i o ho j hj
            have hjs : j < L.size := by omega
            exact hG j oj d (by omega) (by simp [hjs] at hjL ⊢; exact hjL) hoj hd
  refine key ops.size (Array.replicate ops.size false) a { w with drawn := w.drawn + 1 } (by simp) ?_ ?_ ?_ h0 ⟨rfl, rfl, fun _ _ => rfl⟩ ?_
  · have := List.countP_le_length (p := (· == false)) (l := (Array.replicate ops.size false).toList)
    unfold countF; simpa using this
  · intro j _ hj; simp [hj]
  · intro j oj hj hjL
    have hjs := (Array.getElem?_eq_some_iff.1 hj).1
    simp [hjs] at hjL
  · intro j oj d hj hjL
    simp [show j < ops.size by omega] at hjL

theorem wp_region_GT {id : Nat} {a : Act} {w : World} (hm : P.follows .mixedOrders = true) (N : Nat) (hok : regionOkT ops N = true)
    (hsz : (dsts (ops.toList.take N)).all (· < a.tmps.size) = true)
    (I : World → Prop) (E : World → World → Prop) (G : Nat → Value → World → Prop)
    (h0 : I w.drew)
    (hE : ∀ i v w w', i < N → I w → I w' → E w w' → G i v w → G i v w')
    (hs : ∀ i o, i < N → ops[i]? = some o → ∀ a' w', I w' → (∀ t, t ∉ dsts (ops.toList.take N) → gt a' t = gt a t) →
      (∀ j ∈ Oper.needs o, ∀ oj d, ops[j]? = some oj → oj.dst = some d → G j (gt a' d) w') →
      wpOp P ops Q i (fun a'' w'' => ∃ v, a'' = a'.put o.dst v ∧ I w'' ∧ E w' w'' ∧ G i v w'') a' w')
    (he : ∀ val w', I w' → (∀ j oj d, j < N → ops[j]? = some oj → oj.dst = some d → G j (val j) w') →
      wpList P ops Q (ops.toList.drop N) (putAll (ops.toList.take N) 0 val a) w') :
    (Code.region id ops true).wp P Q a w := by
  refine wp_region_factsT hm N hok hsz I E G h0 hE (fun i o hi ho a' w' hI hS hF => hs i o hi ho a' w' hI hS.other hF) ?_
  intro a' w' hI hS hF
  let val : Nat → Value := fun j => match ops[j]? with | some oj => (match oj.dst with | some d => gt a' d | none => undef) | none => undef
  have hval : ∀ j oj d, ops[j]? = some oj → oj.dst = some d → val j = gt a' d := by
    intro j oj d hj hd
    simp only [val, hj, hd]
  have hw := he val w' hI (fun j oj d hj ho hd => by rw [hval j oj d ho hd]; exact hF j oj d hj ho hd)
  have hae : a' = putAll (ops.toList.take N) 0 val a := by
    refine act_ext (by rw [putAll_size]; exact hS.size) (by rw [putAll_defers]; exact hS.defers) (fun t ht => ?_)
    rw [putAll_gt (ops.toList.take N) 0 val a a' t (by rw [← hS.size]; exact ht) (fun j oj d hj hd => by
      rw [Nat.zero_add]
      refine hval j oj d ?_ hd
      rw [List.getElem?_take] at hj
      split at hj
      · simpa using hj
      · simp at hj)]
    split
    · rfl
    · rename_i h; exact hS.other t h
  rw [hae]
  exact hw

end
end Go.Proofs.YthioepdgnbdohaaGreat

/- The laws' own pointers of an inode: lists, a table's row: the walk. -/
namespace Go.Proofs.YthioepdgnbdohaaGreat
set_option linter.unusedSimpArgs false
set_option linter.unusedVariables false
open Go.RowKit

abbrev Pt := Int × Int × Int
/-- the cells of a list of pointers -/
def ptC (l : List Pt) : List Value := l.flatMap fun x => [.int .i64 x.1, .int .i64 x.2.1, .int .i64 x.2.2]
theorem ptC_app (a b : List Pt) : ptC (a ++ b) = ptC a ++ ptC b := by unfold ptC; rw [List.flatMap_append]
theorem ptC_len (l : List Pt) : (ptC l).length = l.length * 3 := by
  unfold ptC
  induction l with
  | nil => rfl
  | cons a l ih => rw [List.flatMap_cons, List.length_append, ih, List.length_cons]; simp; omega
theorem ptC_one (l : List Pt) : ∀ u ∈ ptC l, u.oneCell' = true := by
  intro u hu
  unfold ptC at hu
  rw [List.mem_flatMap] at hu
  obtain ⟨x, -, hu⟩ := hu
  simp at hu
  rcases hu with rfl | rfl | rfl <;> rfl
theorem ptC_get : ∀ (l : List Pt) (k : Nat) (a b c : Int), l[k]? = some (a, b, c) → (ptC l)[k * 3]? = some (.int .i64 a) ∧ (ptC l)[k * 3 + 1]? = some (.int .i64 b) ∧ (ptC l)[k * 3 + 2]? = some (.int .i64 c)
  | [], k, a, b, c, h => by simp at h
  | e :: r, 0, a, b, c, h => by
    simp at h
    subst h
    exact ⟨rfl, rfl, rfl⟩
  | e :: r, k + 1, a, b, c, h => by
    have h2 : r[k]? = some (a, b, c) := by simpa using h
    obtain ⟨x, y, z⟩ := ptC_get r k a b c h2
    have e1 : ptC (e :: r) = [.int .i64 e.1, .int .i64 e.2.1, .int .i64 e.2.2] ++ ptC r := rfl
    rw [e1]
    refine ⟨?_, ?_, ?_⟩
    · rw [List.getElem?_append_right (by show 3 ≤ (k + 1) * 3; omega)]
      rw [show (k + 1) * 3 - [Value.int .i64 e.1, .int .i64 e.2.1, .int .i64 e.2.2].length = k * 3 by show (k + 1) * 3 - 3 = _; omega]
      exact x
    · rw [List.getElem?_append_right (by show 3 ≤ (k + 1) * 3 + 1; omega)]
      rw [show (k + 1) * 3 + 1 - [Value.int .i64 e.1, .int .i64 e.2.1, .int .i64 e.2.2].length = k * 3 + 1 by show (k + 1) * 3 + 1 - 3 = _; omega]
      exact y
    · rw [List.getElem?_append_right (by show 3 ≤ (k + 1) * 3 + 2; omega)]
      rw [show (k + 1) * 3 + 2 - [Value.int .i64 e.1, .int .i64 e.2.1, .int .i64 e.2.2].length = k * 3 + 2 by show (k + 1) * 3 + 2 - 3 = _; omega]
      exact z
/-- the slice v lists pointers; its cells are the call's own -/
def PRow (w : World) (base : Nat) (v : Value) (l : List Pt) : Prop := w.ownsRow base 52 3 v l.length (ptC l)
theorem PRow.nil (w : World) (base : Nat) : PRow w base (.slice none 0 0) [] := ⟨rfl, .inl ⟨rfl, rfl⟩⟩
theorem PRow.below {w w' : World} {base : Nat} {v : Value} {l : List Pt} (h : PRow w base v l) (hb : Below w.heap.size w w') : PRow w' base v l := ownsRow_below h hb
theorem PRow.base {w : World} {b b' : Nat} {v : Value} {l : List Pt} (h : PRow w b v l) (hb : b' ≤ b) : PRow w b' v l := ownsRow_base h hb
theorem PRow.cell {w : World} {base : Nat} {v : Value} {l : List Pt} (h : PRow w base v l) (a : Nat) (i : Nat) (x : Value) (ha : a < base) : PRow (w.setCell ⟨a, i, none⟩ x) base v l := RowKit.ownsRow_setCell_below h (a := ⟨a, i, none⟩) ha x
theorem PRow.sl {w : World} {base : Nat} {v : Value} {l : List Pt} (h : PRow w base v l) : ∃ a c, v = .slice a l.length c := by
  obtain ⟨-, ⟨rfl, hn⟩ | ⟨g, cap, cur, h1, -⟩⟩ := h
  · exact ⟨none, 0, by rw [hn]⟩
  · exact ⟨_, _, h1⟩
theorem PRow.at {w : World} {base : Nat} {v : Value} {l : List Pt} (h : PRow w base v l) (hl : l ≠ []) : ∃ g c cs, v = .slice (some ⟨g, 0, none⟩) l.length c ∧ base ≤ g ∧ hat w g = some (.cells cs 52) ∧ ∀ (j : Nat) (u : Value), (ptC l)[j]? = some u → cs[j]? = some u := by
  obtain ⟨-, ⟨rfl, hn⟩ | ⟨g, cap, cur, h1, h2, h3, h4, h5, h6, h7⟩⟩ := h
  · exact absurd (List.length_eq_zero_iff.1 hn) hl
  · refine ⟨g, cap, cur, h1, h2, h3, fun j u hj => ?_⟩
    rw [← h7, List.getElem?_take] at hj
    split at hj
    · simpa using hj
    · cases hj
theorem Tryz.info52 : (Tryz.prog.info? 52).map (fun i => (i.zero, i.size, i.bytes)) = some (some (.agg #[.int .i64 0, .int .i64 0, .int .i64 0]), 3, 24) := by kernel_rfl
/-- pointers are appended -/
theorem run_append_p {w : World} {base : Nat} {v : Value} {l : List Pt} (h : PRow w base v l) (b c : Nat) (news : List Pt) (hb : ∃ cs, hat w b = some (.cells cs 52) ∧ ∀ (j : Nat) (u : Value), (ptC news)[j]? = some u → cs[j]? = some u) (hn : l.length + news.length ≤ 100000) (hs : base ≤ w.heap.size) (ty : TypeId) :
    ∃ v' w', (Builtin.append_ #[48, 48] ty #[v, .slice (some ⟨b, 0, none⟩) news.length c]).run Tryz.prog w = .ok v' w' ∧ PRow w' base v' (l ++ news) ∧ w.heap.size ≤ w'.heap.size ∧ Below base w w' ∧ ∀ b cs t f, t ≠ 52 → hat w b = some (.cells cs t f) → hat w' b = some (.cells cs t f) := by
  obtain ⟨i0, hi, hz, hz1, hz2⟩ := info_parts Tryz.info52
  obtain ⟨cs, hcs, hall⟩ := hb
  obtain ⟨v', w', h1, h2, h3, -⟩ := run_append_own (P := Tryz.prog) (w := w) base 48 ty 52 i0 _ 3 24 Tryz.underlying48 hi hz hz1 hz2 rfl (by decide) v l.length (ptC l) h ⟨b, 0, none⟩ news.length c (ptC news) (ptC_len news)
    (fun j u hj => by
      have hadd : (⟨b, 0, none⟩ : Addr).add j = ⟨b, j, none⟩ := by unfold Addr.add; split <;> simp_all
      rw [hadd, cell_hat hcs]
      exact hall j u hj) (ptC_one news) (by unfold maxLen; omega) (by omega) hs
  refine ⟨v', w', h1, ?_, h3.size, ?_, fun b cs' t f ht hh => (h3.block b (hat_lt hh) (fun e => ?_)).trans hh⟩
  · unfold PRow
    rw [List.length_append, ptC_app]
    exact h2
  · exact (Below.refl base w).grown h3 hs (fun k hk => Decidable.byContradiction fun hlt => ownsRow_ne h (by omega) hk)
  · obtain ⟨-, ⟨hv, -⟩ | ⟨g', cap, cur, hv, -, h6, -⟩⟩ := h
    · rw [hv] at e; cases e
    · rw [hv] at e
      have e2 : b = g' := Option.some.inj (show some b = some g' from e)
      rw [e2] at hh
      have h7 : hat w g' = some (.cells cur 52 (0, 0)) := h6
      rw [hh] at h7
      injection h7 with h8
      injection h8 with h9 h10
      exact ht h10
/-- a table's pointers -/
def rowL (at' : Int) (ps : List Int) : List Pt := ps.zipIdx.map fun x => (at', (x.2 : Int), x.1)
theorem rowL_len (at' : Int) (ps : List Int) : (rowL at' ps).length = ps.length := by simp [rowL]
theorem rowL_snoc (at' : Int) {ps : List Int} {k : Nat} (h : k < ps.length) : rowL at' (ps.take (k + 1)) = rowL at' (ps.take k) ++ [(at', (k : Int), nth ps k)] := by
  unfold rowL
  rw [List.take_add_one, nth_getElem? h, List.zipIdx_append, List.map_append]
  simp [Nat.min_eq_left (Nat.le_of_lt h)]
/-- a table's blocks are noted -/
def rowB (f : Nat → Int) (from' : Nat) (ps : List Int) (k : Nat) : Nat → Int := fun j => if from' ≤ j ∧ j < from' + k then nth ps (j - from') else f j
theorem rowB_zero (f : Nat → Int) (from' : Nat) (ps : List Int) : rowB f from' ps 0 = f := by
  funext j; unfold rowB; rw [if_neg (by omega)]
theorem rowB_succ (f : Nat → Int) (from' : Nat) (ps : List Int) (k j : Nat) : rowB f from' ps (k + 1) j = if from' + k = j then nth ps k else rowB f from' ps k j := by
  unfold rowB
  by_cases h : from' + k = j
  · rw [if_pos (by omega), if_pos h, show j - from' = k by omega]
  · rw [if_neg h]
    by_cases h2 : from' ≤ j ∧ j < from' + k
    · rw [if_pos (by omega), if_pos h2]
    · rw [if_neg (by omega), if_neg h2]
theorem NumR.congr {w : World} {g N : Nat} {f f' : Nat → Int} (h : NumR w g N f) (he : ∀ j, j < N → f' j = f j) : NumR w g N f' := by
  obtain ⟨cs, h1, h2, h3⟩ := h
  exact ⟨cs, h1, h2, fun j hj => by rw [he j hj]; exact h3 j hj⟩
/-- blocks below B, but those of ex, are as they were -/
structure Lo (ex : List Nat) (B : Nat) (w w' : World) : Prop where
  os : w'.os = w.os
  tape : w'.tape = w.tape
  output : w'.output = w.output
  size : w.heap.size ≤ w'.heap.size
  block : ∀ b, b < B → b ∉ ex → hat w' b = hat w b
theorem Lo.refl (ex : List Nat) (B : Nat) (w : World) : Lo ex B w w := ⟨rfl, rfl, rfl, Nat.le_refl _, fun _ _ _ => rfl⟩
theorem Lo.trans {ex : List Nat} {B : Nat} {a b c : World} (h : Lo ex B a b) (k : Lo ex B b c) : Lo ex B a c := ⟨k.os.trans h.os, k.tape.trans h.tape, k.output.trans h.output, Nat.le_trans h.size k.size, fun i hi hn => (k.block i hi hn).trans (h.block i hi hn)⟩
theorem Lo.of {ex : List Nat} {B : Nat} {w w' : World} (h : Below B w w') : Lo ex B w w' := ⟨h.os, h.tape, h.output, h.size, fun b hb _ => h.block b hb⟩
theorem Lo.fr {ex : List Nat} {B : Nat} {w w' : World} (h : Fr ex w w') (hB : B ≤ w.heap.size) : Lo ex B w w' := ⟨h.os, h.tape, h.output, h.size, fun b hb hn => h.block b (by omega) hn⟩
theorem Lo.to {ex : List Nat} {B : Nat} {w w' : World} (h : Lo ex B w w') (hB : w.heap.size ≤ B) : Fr ex w w' := ⟨h.os, h.tape, h.output, h.size, fun b hb hn => h.block b (by omega) hn⟩
theorem Lo.mono {ex : List Nat} {B B' : Nat} {w w' : World} (h : Lo ex B w w') (hB : B' ≤ B) : Lo ex B' w w' := ⟨h.os, h.tape, h.output, h.size, fun b hb hn => h.block b (by omega) hn⟩
set_option maxHeartbeats 8000000 in
set_option maxRecDepth 100000 in
theorem rowf_w {gi oi N ci n gb cb : Nat} {S : Nat → List Int} (at' from' : Nat) (f : Nat → Int) (w : World) (hS : Secs w gi oi N S) (ha : at' < N) (hN : N ≤ 4096) (hf : from' ≤ 2000) (hn : n ≤ 2000) (hb : NumR w gb n f) :
    Calls Tryz.prog 41 #[.slice (some ⟨gi, oi, none⟩) N ci, .int .i64 at', .int .i64 from', .slice (some ⟨gb, 0, none⟩) n cb] w fun e w' =>
      ∃ v, e = .returned v ∧ PRow w' w.heap.size v (rowL at' (rdPtr (S at'))) ∧ NumR w' gb n (rowB f from' (rdPtr (S at')) 32) ∧ Fr [gb] w w' := by
  obtain ⟨csI, tI, frI, hcI, hlI⟩ := hS.load ha
  obtain ⟨lI, bI⟩ := hS.len ha
  have ha0 : (0 : Int) ≤ (at' : Int) := Int.natCast_nonneg _
  have ha1 : (at' : Int) < (N : Int) := by omega
  have HCALL := Lib.hid (fun W => rreadPointers_any (S at') lI bI W)
  have HNB := Lib.hid hb
  have hpl : (rdPtr (S at')).length = 32 := by simp
  have HPB := Lib.hid (rdPtr_small bI)
  clear lI bI hS hb
  go_enter Tryz.func41, Tryz.ntmps41
  go_wp2_with fail
  refine (HCALL.out _).mono ?_; rintro e w1 ⟨rfl, hb1⟩
  generalize hPS : rdPtr (S at') = ps at *
  have HPS := Lib.hid hPS
  clear hPS
  have hgt := (hopN w1 (.cells (IV .i64 ps) 89)).1
  have hB2 : Below w.heap.size w (w1.alloc (.cells (IV .i64 ps) 89)) := hb1.alloc hb1.size _
  have HF2 := Lib.hid (fr_below hB2 [gb])
  have HNB2 := Lib.hid (HNB.out.same (hat_below hB2 HNB.out.lt))
  have HZ : Hid (w.heap.size ≤ w1.heap.size ∧ gb < w1.heap.size) := Lib.hid ⟨hb1.size, by have := HNB.out.lt; have := hb1.size; omega⟩
  have hz2 : (w1.alloc (.cells (IV .i64 ps) 89)).heap.size = w1.heap.size + 1 := World.size_alloc _ _
  clear hB2 hb1 hcI hlI HCALL HNB
  go_upto_region 3 with fail
  generalize w1.alloc (.cells (IV .i64 ps) 89) = w2 at *
  generalize w1.heap.size = gt at *
  have HZ2 := Lib.hid hz2
  clear hz2
  go_wp2_with fail
  go_loopw [10, 11] (fun v i wr => ∃ k : Nat, i = .int .i64 k ∧ k ≤ 32 ∧ Hid (PRow wr (gt + 1) v (rowL at' (ps.take k))) ∧ Hid (NumR wr gb n (rowB f from' ps k)) ∧ Hid (Lo [gb] (gt + 1) w2 wr)) (fun _ i _ => 32 - (intOf i).toNat)
  case atStart => exact ⟨0, rfl, by omega, Lib.hid (PRow.nil _ _), Lib.hid (by rw [rowB_zero]; exact HNB2.out), Lib.hid (Lo.refl _ _ _)⟩
  case round =>
    obtain ⟨k, rfl, hk, HO, HB, HF⟩ := hrel
    have hgb1 : gb ≠ gt := by have := HZ.out.2; omega
    have hgtr := (HF.out.block gt (by omega) (by simp; exact Ne.symm hgb1)).trans hgt
    have hk0 : (0 : Int) ≤ (k : Int) := Int.natCast_nonneg _
    by_cases hk32 : k < 32
    · have hk1 : (k : Int) < 32 := by omega
      have hcell : (IV .i64 ps)[k]? = some (.int .i64 (nth ps k)) := by rw [IV_get?, nth_getElem? (by omega)]; rfl
      have hB3 : Below wr.heap.size wr (wr.alloc (.cells #[.int .i64 at', .int .i64 k, .int .i64 (nth ps k)] 52)) := (Below.refl _ _).alloc (Nat.le_refl _) _
      have hgn := (hopN wr (.cells #[.int .i64 at', .int .i64 k, .int .i64 (nth ps k)] 52)).1
      have hsz0 : gt + 1 ≤ wr.heap.size := by have := HF.out.size; have := HZ2.out; omega
      obtain ⟨v', w4, hrun, hO4, hz4, hb4, -⟩ := run_append_p (HO.out.below hB3) wr.heap.size 1 [((at' : Int), (k : Int), nth ps k)] ⟨_, hgn, fun j u hj => by simpa [ptC] using hj⟩ (by rw [rowL_len]; simp; omega) (by simp only [World.size_alloc]; omega) 48
      simp only [List.length_singleton] at hrun
      rw [← rowL_snoc at' (by omega)] at hO4
      have hB4 : Below (gt + 1) wr w4 := (hB3.mono hsz0).trans hb4
      have hg4 : hat w4 gt = some (.cells (IV .i64 ps) 89) := (hB4.block gt (by omega)).trans hgtr
      have hg4l := hat_lt hg4
      have HO4 := Lib.hid hO4
      have hN4 := HB.out.same (hB4.block gb (by have := HZ.out.2; omega))
      have HN4 := Lib.hid hN4
      have HF4 : Hid (Lo [gb] (gt + 1) w2 w4) := Lib.hid (HF.out.trans (Lo.of hB4))
      have hgtl := hat_lt hgtr
      obtain ⟨q, hqe⟩ : ∃ q : Nat, q = from' + k := ⟨_, rfl⟩
      have hqs : (from' : Int) + (k : Int) = (q : Int) := by omega
      have hq0 : (0 : Int) ≤ (q : Int) := Int.natCast_nonneg _
      have HQ := Lib.hid hqe
      have hq9 : q ≤ 2032 := by omega
      clear hqe hB3 hB4 hb4 hz4 hO4 hgn
      by_cases hqn : q < n
      · have hqi : (q : Int) < (n : Int) := by omega
        obtain ⟨csB, hBc, hBz, hBall⟩ := hN4
        have hBq := hBall q hqn
        have hBcl := hat_lt hBc
        have HN5 : Hid (NumR (w4.setCell ⟨gb, q, none⟩ (.int .i64 (nth ps k))) gb n (rowB f from' ps (k + 1))) := Lib.hid (HN4.out.put hqn (fun j => by rw [rowB_succ, HQ.out]))
        have HO5 := Lib.hid (HO4.out.cell gb q (.int .i64 (nth ps k)) (by have := HZ.out.2; omega))
        have HF5 : Hid (Lo [gb] (gt + 1) w2 (w4.setCell ⟨gb, q, none⟩ (.int .i64 (nth ps k)))) := Lib.hid (HF4.out.trans (Lo.fr (fr_setCell w4 gb q _) (by omega)))
        clear hBall
        generalize rowB f from' ps k q = old at *
        go_wp2_with (at_builtin; refine wpList_append_run _ rfl (.tmp 21) (.tmp 28) 48 rfl _ _ rfl rfl _ _ hrun ?_)
        go_wp2_with fail
        go_roundw
        case rel => exact ⟨k + 1, by go_num, by omega, HO5, HN5, HF5⟩
        case measure => (show 32 - (k + 1) < 32 - k); omega
      · have hqi : ¬ (q : Int) < (n : Int) := by omega
        have HN5 : Hid (NumR w4 gb n (rowB f from' ps (k + 1))) := Lib.hid (HN4.out.congr (fun j hj => by rw [rowB_succ, if_neg (by have := HQ.out; omega)]))
        clear hN4
        go_wp2_with (at_builtin; refine wpList_append_run _ rfl (.tmp 21) (.tmp 28) 48 rfl _ _ rfl rfl _ _ hrun ?_)
        go_wp2_with fail
        go_roundw
        case rel => exact ⟨k + 1, by go_num, by omega, HO4, HN5, HF4⟩
        case measure => (show 32 - (k + 1) < 32 - k); omega
    · obtain rfl : k = 32 := by omega
      have HO5 : Hid (PRow wr w.heap.size u10 (rowL at' ps)) := Lib.hid (by
        have := HO.out
        rw [List.take_of_length_le (by omega)] at this
        exact this.base (by have := HZ.out.1; omega))
      have HF5 : Hid (Fr [gb] w wr) := Lib.hid (by
        have h1 := HF2.out
        have h2 := HF.out
        exact ⟨h2.os.trans h1.os, h2.tape.trans h1.tape, h2.output.trans h1.output, Nat.le_trans h1.size h2.size, fun b hb hn => (h2.block b (by have := HZ.out.1; omega) hn).trans (h1.block b hb hn)⟩)
      go_wp2_with fail
      go_ret
      exact ⟨_, rfl, by rw [HPS.out]; exact HO5.out, by rw [HPS.out]; exact HB.out, HF5.out⟩
end Go.Proofs.YthioepdgnbdohaaGreat

/- The laws' own pointers of an inode: all of them, and its blocks: the walk. -/
namespace Go.Proofs.YthioepdgnbdohaaGreat
set_option linter.unusedSimpArgs false
set_option linter.unusedVariables false
open Go.RowKit

theorem PRow.fr {w w' : World} {base gb : Nat} {v : Value} {l : List Pt} (h : PRow w base v l) (hf : Fr [gb] w w') (hg : gb < base) : PRow w' base v l := by
  obtain ⟨h0, h | ⟨g, cap, cur, h1, h2, h3, h4⟩⟩ := h
  · exact ⟨h0, .inl h⟩
  · exact ⟨h0, .inr ⟨g, cap, cur, h1, h2, (hf.block g (hat_lt h3) (by simp; omega)).trans h3, h4⟩⟩
/-- an inode's direct pointers -/
def dirP (i : Int) (raw : List Int) (k : Nat) : List Pt := (List.range k).map fun (j : Nat) => (i, (j : Int), nth raw (4 + j))
theorem dirP_succ (i : Int) (raw : List Int) (k : Nat) : dirP i raw (k + 1) = dirP i raw k ++ [(i, (k : Int), nth raw (4 + k))] := by
  unfold dirP; rw [List.range_succ, List.map_append]; rfl
theorem dirP_len (i : Int) (raw : List Int) (k : Nat) : (dirP i raw k).length = k := by simp [dirP]
def hangP (S : Nat → List Int) (p : Int) : List Pt := if p = 0 then [] else rowL p (rdPtr (S p.toNat))
/-- the pointers of the double table, k of them, and what hangs there -/
def dbtP (S : Nat → List Int) (at' : Int) (ps : List Int) : Nat → List Pt
  | 0 => []
  | k + 1 => dbtP S at' ps k ++ (at', (k : Int), nth ps k) :: hangP S (nth ps k)
theorem hangP_len (S : Nat → List Int) (p : Int) : (hangP S p).length ≤ 32 := by
  unfold hangP
  split
  · simp
  · rw [rowL_len]; simp
theorem dbtP_len (S : Nat → List Int) (at' : Int) (ps : List Int) : ∀ k, (dbtP S at' ps k).length ≤ 33 * k
  | 0 => Nat.le_refl _
  | k + 1 => by
    show (dbtP S at' ps k ++ _ :: _).length ≤ _
    have := dbtP_len S at' ps k
    have := hangP_len S (nth ps k)
    simp; omega
def dblA (S : Nat → List Int) (p : Int) : List Pt := if p = 0 then [] else dbtP S p (rdPtr (S p.toNat)) 32
/-- all pointers of an inode -/
def follL (S : Nat → List Int) (i : Int) (raw : List Int) : List Pt := dirP i raw 12 ++ [(i, 12, nth raw 16), (i, 13, nth raw 17)] ++ hangP S (nth raw 16) ++ dblA S (nth raw 17)
/-- its blocks, so far -/
def dirB (raw : List Int) (k j : Nat) : Int := if j < k then nth raw (4 + j) else 0
def hangB (S : Nat → List Int) (f : Nat → Int) (from' : Nat) (p : Int) : Nat → Int := if p = 0 then f else rowB f from' (rdPtr (S p.toNat)) 32
def dblB (S : Nat → List Int) (f : Nat → Int) (ps : List Int) : Nat → Nat → Int
  | 0 => f
  | k + 1 => hangB S (dblB S f ps k) (44 + 32 * k) (nth ps k)
def dblC (S : Nat → List Int) (f : Nat → Int) (p : Int) : Nat → Int := if p = 0 then f else dblB S f (rdPtr (S p.toNat)) 32
theorem dirB_succ (raw : List Int) (k j : Nat) : dirB raw (k + 1) j = if k = j then nth raw (4 + k) else dirB raw k j := by
  unfold dirB
  by_cases h : k = j
  · subst h; rw [if_pos (by omega), if_pos rfl]
  · rw [if_neg h]
    by_cases h2 : j < k
    · rw [if_pos (by omega), if_pos h2]
    · rw [if_neg (by omega), if_neg h2]
theorem dblB_at (S : Nat → List Int) (f : Nat → Int) (ps : List Int) (hf : ∀ j, 44 ≤ j → f j = 0) : ∀ k j, dblB S f ps k j = if 44 ≤ j ∧ j < 44 + 32 * k then hangW S (nth ps ((j - 44) / 32)) ((j - 44) % 32) else f j
  | 0, j => by
    rw [if_neg (by omega)]; rfl
  | k + 1, j => by
    show hangB S (dblB S f ps k) (44 + 32 * k) (nth ps k) j = _
    have ih := dblB_at S f ps hf k j
    unfold hangB
    by_cases hp : nth ps k = 0
    · rw [if_pos hp, ih]
      by_cases h1 : 44 ≤ j ∧ j < 44 + 32 * k
      · rw [if_pos h1, if_pos (by omega)]
      · rw [if_neg h1]
        by_cases h2 : 44 ≤ j ∧ j < 44 + 32 * (k + 1)
        · rw [if_pos h2, hf j h2.1, show (j - 44) / 32 = k by omega]
          unfold hangW
          rw [if_pos hp]
        · rw [if_neg h2]
    · rw [if_neg hp]
      unfold rowB
      by_cases h1 : 44 + 32 * k ≤ j ∧ j < 44 + 32 * k + 32
      · rw [if_pos h1, if_pos (by omega), show (j - 44) / 32 = k by omega]
        unfold hangW
        rw [if_neg hp]
        congr 1
        omega
      · rw [if_neg h1, ih]
        by_cases h2 : 44 ≤ j ∧ j < 44 + 32 * k
        · rw [if_pos h2, if_pos (by omega)]
        · rw [if_neg h2, if_neg (by omega)]
/-- all blocks, in the end -/
def follB (S : Nat → List Int) (raw : List Int) : Nat → Int := dblC S (hangB S (dirB raw 12) 12 (nth raw 16)) (nth raw 17)
theorem follB_is (S : Nat → List Int) (raw : List Int) {j : Nat} (hj : j < 1068) : follB S raw j = blkW S raw j := by
  have hf : ∀ j, 44 ≤ j → hangB S (dirB raw 12) 12 (nth raw 16) j = 0 := fun j h => by
    unfold hangB
    split
    · unfold dirB; rw [if_neg (by omega)]
    · unfold rowB dirB; rw [if_neg (by omega), if_neg (by omega)]
  have hlow : j < 44 → hangB S (dirB raw 12) 12 (nth raw 16) j = if j < 12 then nth raw (4 + j) else hangW S (nth raw 16) (j - 12) := fun h => by
    unfold hangB hangW
    by_cases hp : nth raw 16 = 0
    · rw [if_pos hp, if_pos hp]; rfl
    · rw [if_neg hp, if_neg hp]
      unfold rowB dirB
      by_cases h12 : j < 12
      · rw [if_neg (by omega), if_pos h12, if_pos h12]
      · rw [if_pos (by omega), if_neg h12]
  by_cases h44 : j < 44
  · have e1 : blkW S raw j = if j < 12 then nth raw (4 + j) else hangW S (nth raw 16) (j - 12) := by
      unfold blkW
      by_cases h12 : j < 12
      · rw [if_pos h12, if_pos h12]
      · rw [if_neg h12, if_neg h12, if_pos h44]
    rw [e1, ← hlow h44]
    unfold follB dblC
    by_cases hp : nth raw 17 = 0
    · rw [if_pos hp]
    · rw [if_neg hp, dblB_at S _ _ hf, if_neg (by omega)]
  · have e1 : blkW S raw j = hangW S (if nth raw 17 = 0 then 0 else nth (rdPtr (S (nth raw 17).toNat)) ((j - 44) / 32)) ((j - 44) % 32) := by
      unfold blkW
      rw [if_neg (show ¬ j < 12 by omega), if_neg h44]
    rw [e1]
    unfold follB dblC
    by_cases hp : nth raw 17 = 0
    · rw [if_pos hp, if_pos hp, hf j (by omega)]
      unfold hangW
      rw [if_pos rfl]
    · rw [if_neg hp, if_neg hp, dblB_at S _ _ hf, if_pos (by omega)]
set_option maxHeartbeats 8000000 in
set_option maxRecDepth 100000 in
theorem follow_w {gi oi N ci : Nat} {S : Nat → List Int} (i : Nat) (w : World) (hS : Secs w gi oi N S) (hi : i < N) (hN : N ≤ 4096) {raw : List Int} (hraw : (rdInoR (S i)).1 = raw) (hA : Aims N S raw) (hz0 : 0 ≤ nth raw 2) (hz1 : nth raw 2 ≤ 136704) :
    Calls Tryz.prog 20 #[.slice (some ⟨gi, oi, none⟩) N ci, .int .i64 i] w fun e w' =>
      ∃ v1 gb cb, e = .returned (.tuple #[v1, .slice (some ⟨gb, 0, none⟩) (cntX (nth raw 2)).toNat cb]) ∧ PRow w' w.heap.size v1 (follL S i raw) ∧ NumR w' gb (cntX (nth raw 2)).toNat (follB S raw) ∧ w.heap.size ≤ gb ∧ Below w.heap.size w w' := by
  obtain ⟨csI, tI, frI, hcI, hlI⟩ := hS.load hi
  obtain ⟨lI, bI⟩ := hS.len hi
  have hi0 : (0 : Int) ≤ (i : Int) := Int.natCast_nonneg _
  have hi1 : (i : Int) < (N : Int) := by omega
  have HCALL := Lib.hid (fun W => rrdIno_any (S i) lI bI W)
  rw [hraw] at HCALL
  have hr : raw.length = 18 := hA.r
  have HA := Lib.hid hA
  have HSS := Lib.hid hS
  obtain ⟨n, hn⟩ : ∃ n : Nat, cntX (nth raw 2) = n := ⟨(cntX (nth raw 2)).toNat, by unfold cntX; omega⟩
  have hne : (nth raw 2 + 127) / 128 = (n : Int) := hn
  have hn9 : n ≤ 1068 := by unfold cntX at hn; omega
  rw [hn, Int.toNat_natCast]
  have hgi := hS.lt
  clear lI bI hS hA hn
  go_enter Tryz.func20, Tryz.ntmps20
  go_wp2_with fail
  refine (HCALL.out _).mono ?_; rintro e w1 ⟨rfl, hb1⟩
  have hgx := (hopN w1 (.cells (IV .i64 raw) 45)).1
  have hB2 : Below w.heap.size w (w1.alloc (.cells (IV .i64 raw) 45)) := hb1.alloc hb1.size _
  obtain ⟨w3, hr3, hn3, hb3⟩ := make_numR (w1.alloc (.cells (IV .i64 raw) 45)) n (by omega)
  have hz2 : (w1.alloc (.cells (IV .i64 raw) 45)).heap.size = w1.heap.size + 1 := World.size_alloc _ _
  rw [hz2] at hr3 hn3
  have HB3 := Lib.hid (below_call hB2 hb3 hB2.size)
  have hgx3 := (hop hb3 hgx).1
  have HZ : Hid (w.heap.size ≤ w1.heap.size ∧ w1.heap.size + 2 ≤ w3.heap.size) := Lib.hid ⟨hb1.size, by have := hn3.lt; omega⟩
  have HSS3 := Lib.hid (HSS.out.same (hat_below HB3.out HSS.out.lt))
  have hc2 : (IV .i64 raw)[2]? = some (.int .i64 (nth raw 2)) := by rw [IV_get?, nth_getElem? (by omega)]; rfl
  have hgxl := hat_lt hgx
  have HNM : Hid (NumR w3 (w1.heap.size + 1) n (dirB raw 0)) := Lib.hid hn3
  have HCEL : Hid (∀ j, j < 18 → (IV .i64 raw)[j]? = some (.int .i64 (nth raw j))) := Lib.hid (fun j hj => by rw [IV_get?, nth_getElem? (by omega)]; rfl)
  clear hB2 hb1 hcI hlI HCALL hb3 hn3 hgi hz2
  go_upto_region 5 with fail
  generalize w1.alloc (.cells (IV .i64 raw) 45) = w2 at *
  generalize hgxe : w1.heap.size = gx at *
  generalize hgb : gx + 1 = gb at *
  have HGB : Hid (gb = gx + 1 ∧ w.heap.size ≤ gx ∧ gx + 2 ≤ w3.heap.size) := Lib.hid ⟨hgb.symm, HZ.out.1, HZ.out.2⟩
  have hgbx : gx ≠ gb := by omega
  clear hgb hgxe hgx hgxl hr3 hc2 HZ
  simp only [hne]
  clear hne
  go_wp2_with fail
  go_loopw [10, 11] (fun v kv wr => ∃ k : Nat, kv = .int .i64 k ∧ k ≤ 12 ∧ Hid (PRow wr w3.heap.size v (dirP i raw k)) ∧ Hid (NumR wr gb n (dirB raw k)) ∧ Hid (Lo [gb] w3.heap.size w3 wr)) (fun _ v _ => 12 - (intOf v).toNat)
  case atStart => exact ⟨0, rfl, by omega, Lib.hid (PRow.nil _ _), HNM, Lib.hid (Lo.refl _ _ _)⟩
  case round =>
    obtain ⟨k, rfl, hk, HO, HB, HF⟩ := hrel
    have hgxr := (HF.out.block gx (hat_lt hgx3) (by simpa using hgbx)).trans hgx3
    have hgxrl := hat_lt hgxr
    have hk0 : (0 : Int) ≤ (k : Int) := Int.natCast_nonneg _
    have hsz0 : w3.heap.size ≤ wr.heap.size := HF.out.size
    by_cases hk12 : k < 12
    · have hk1 : (k : Int) < 12 := by omega
      have hcell := HCEL.out (4 + k) (by omega)
      have hB3 : Below wr.heap.size wr (wr.alloc (.cells #[.int .i64 i, .int .i64 k, .int .i64 (nth raw (4 + k))] 52)) := (Below.refl _ _).alloc (Nat.le_refl _) _
      have hgn := (hopN wr (.cells #[.int .i64 i, .int .i64 k, .int .i64 (nth raw (4 + k))] 52)).1
      obtain ⟨v', w4, hrun, hO4, hz4, hb4, -⟩ := run_append_p (HO.out.below hB3) wr.heap.size 1 [((i : Int), (k : Int), nth raw (4 + k))] ⟨_, hgn, fun j u hj => by simpa [ptC] using hj⟩ (by rw [dirP_len]; simp; omega) (by simp only [World.size_alloc]; omega) 48
      simp only [List.length_singleton] at hrun
      rw [← dirP_succ] at hO4
      have hB4 : Below w3.heap.size wr w4 := (hB3.mono hsz0).trans hb4
      have hg4 : hat w4 gx = some (.cells (IV .i64 raw) 45) := (hB4.block gx (hat_lt hgx3)).trans hgxr
      have hg4l := hat_lt hg4
      have HO4 := Lib.hid hO4
      have hN4 := HB.out.same (hB4.block gb (by have := HGB.out; omega))
      have HN4 := Lib.hid hN4
      have HF4 : Hid (Lo [gb] w3.heap.size w3 w4) := Lib.hid (HF.out.trans (Lo.of hB4))
      clear hB3 hB4 hb4 hz4 hO4 hgn
      by_cases hqn : k < n
      · have hqi : (k : Int) < (n : Int) := by omega
        obtain ⟨csB, hBc, hBz, hBall⟩ := hN4
        have hBq := hBall k hqn
        have hBcl := hat_lt hBc
        have HN5 : Hid (NumR (w4.setCell ⟨gb, k, none⟩ (.int .i64 (nth raw (4 + k)))) gb n (dirB raw (k + 1))) := Lib.hid (HN4.out.put hqn (fun j => dirB_succ raw k j))
        have HO5 := Lib.hid (HO4.out.cell gb k (.int .i64 (nth raw (4 + k))) (by have := HGB.out; omega))
        have HF5 : Hid (Lo [gb] w3.heap.size w3 (w4.setCell ⟨gb, k, none⟩ (.int .i64 (nth raw (4 + k))))) := Lib.hid (HF4.out.trans (Lo.fr (fr_setCell w4 gb k _) HF4.out.size))
        clear hBall
        generalize dirB raw k k = old at *
        go_wp2_with (at_builtin; refine wpList_append_run _ rfl (.tmp 32) (.tmp 40) 48 rfl _ _ rfl rfl _ _ hrun ?_)
        go_wp2_with fail
        go_roundw
        case rel => exact ⟨k + 1, by go_num, by omega, HO5, HN5, HF5⟩
        case measure => (show 12 - (k + 1) < 12 - k); omega
      · have hqi : ¬ (k : Int) < (n : Int) := by omega
        have HN5 : Hid (NumR w4 gb n (dirB raw (k + 1))) := Lib.hid (HN4.out.congr (fun j hj => by rw [dirB_succ, if_neg (by omega)]))
        clear hN4
        go_wp2_with (at_builtin; refine wpList_append_run _ rfl (.tmp 32) (.tmp 40) 48 rfl _ _ rfl rfl _ _ hrun ?_)
        go_wp2_with fail
        go_roundw
        case rel => exact ⟨k + 1, by go_num, by omega, HO4, HN5, HF4⟩
        case measure => (show 12 - (k + 1) < 12 - k); omega
    · obtain rfl : k = 12 := by omega
      have hc16 := HCEL.out 16 (by omega)
      have hc17 := HCEL.out 17 (by omega)
      have hB3 : Below wr.heap.size wr (wr.alloc (.cells #[.int .i64 i, .int .i64 12, .int .i64 (nth raw 16), .int .i64 i, .int .i64 13, .int .i64 (nth raw 17)] 52)) := (Below.refl _ _).alloc (Nat.le_refl _) _
      have hgn := (hopN wr (.cells #[.int .i64 i, .int .i64 12, .int .i64 (nth raw 16), .int .i64 i, .int .i64 13, .int .i64 (nth raw 17)] 52)).1
      obtain ⟨v', w4, hrun, hO4, hz4, hb4, -⟩ := run_append_p (HO.out.below hB3) wr.heap.size 2 [((i : Int), (12 : Int), nth raw 16), ((i : Int), (13 : Int), nth raw 17)] ⟨_, hgn, fun j u hj => by simpa [ptC] using hj⟩ (by rw [dirP_len]; simp) (by simp only [World.size_alloc]; omega) 48
      simp only [List.length_cons, List.length_nil, Nat.zero_add, Nat.reduceAdd] at hrun
      have hB4 : Below w3.heap.size wr w4 := (hB3.mono hsz0).trans hb4
      have hg4 : hat w4 gx = some (.cells (IV .i64 raw) 45) := (hB4.block gx (hat_lt hgx3)).trans hgxr
      have hg4l := hat_lt hg4
      have HO4 := Lib.hid hO4
      have HN4 := Lib.hid (HB.out.same (hB4.block gb (by have := HGB.out; omega)))
      have HF4 : Hid (Lo [gb] w3.heap.size w3 w4) := Lib.hid (HF.out.trans (Lo.of hB4))
      have HGI : Hid (gi ≠ gb ∧ gi < w3.heap.size) := Lib.hid ⟨by have := HSS.out.lt; have := HGB.out; omega, HSS3.out.lt⟩
      clear hB3 hB4 hb4 hz4 hO4 hgn
      go_upto_region 12 with (at_builtin; refine wpList_append_run _ rfl (.tmp 52) (.tmp 61) 48 rfl _ _ rfl rfl _ _ hrun ?_)
      clear hrun
      go_upto_if 65 with fail
      go_cut [10] from 14 (fun v wx => Hid (PRow wx w3.heap.size v (dirP i raw 12 ++ [((i : Int), (12 : Int), nth raw 16), ((i : Int), (13 : Int), nth raw 17)] ++ hangP S (nth raw 16))) ∧ Hid (NumR wx gb n (hangB S (dirB raw 12) 12 (nth raw 16))) ∧ Hid (Lo [gb] w3.heap.size w3 wx))
      case first =>
        by_cases h16 : nth raw 16 = 0
        · have d16 : (nth raw 16 != 0) = false := by simpa using h16
          have HO5 : Hid (PRow w4 w3.heap.size v' (dirP i raw 12 ++ [((i : Int), (12 : Int), nth raw 16), ((i : Int), (13 : Int), nth raw 17)] ++ hangP S (nth raw 16))) := Lib.hid (by unfold hangP; rw [if_pos h16, List.append_nil]; exact HO4.out)
          have HN5 : Hid (NumR w4 gb n (hangB S (dirB raw 12) 12 (nth raw 16))) := Lib.hid (by unfold hangB; rw [if_pos h16]; exact HN4.out)
          clear h16
          go_wp2_with fail
          go_meet
          case rel => exact ⟨HO5, HN5, HF4⟩
        · have d16 : (nth raw 16 != 0) = true := by simpa using h16
          obtain ⟨p, hp⟩ := Int.eq_ofNat_of_zero_le HA.out.p16.1
          have hpN : p < N := by have := HA.out.p16.2; omega
          have hSr := HSS3.out.same (HF4.out.block gi HGI.out.2 (by simp; exact HGI.out.1))
          have hcall := rowf_w (ci := ci) (cb := n) p 12 (dirB raw 12) w4 hSr hpN hN (by omega) (by omega) HN4.out
          rw [show ((12 : Nat) : Int) = 12 from rfl] at hcall
          have HC := Lib.hid hcall
          clear hcall
          have HH : Hid (hangP S (nth raw 16) = rowL (p : Int) (rdPtr (S p)) ∧ hangB S (dirB raw 12) 12 (nth raw 16) = rowB (dirB raw 12) 12 (rdPtr (S p)) 32) := Lib.hid (by
            unfold hangP hangB
            rw [if_neg h16, if_neg h16, hp, Int.toNat_natCast]; exact ⟨rfl, rfl⟩)
          rw [hp] at hc16 d16
          clear h16 hSr
          go_wp2_with fail
          refine HC.out.mono ?_; rintro e w5 ⟨v2, rfl, hO5, hN5, hf5⟩
          have hO6 := HO4.out.fr hf5 (by have := HGB.out; omega)
          have hne : rowL (p : Int) (rdPtr (S p)) ≠ [] := fun e => by have := congrArg List.length e; rw [rowL_len] at this; simp at this
          obtain ⟨g2, c2, cs2, e2, -, hg2, hall2⟩ := hO5.at hne
          have hl2 : (rowL (p : Int) (rdPtr (S p))).length = 32 := by rw [rowL_len]; simp
          have hz5 : w3.heap.size ≤ w5.heap.size := by have := HF4.out.size; have := hf5.size; omega
          obtain ⟨v6, w6, hrun, hO7, hz6, hb6, -⟩ := run_append_p hO6 g2 c2 (rowL (p : Int) (rdPtr (S p))) ⟨cs2, hg2, hall2⟩ (by rw [hl2]; simp [dirP_len]) hz5 48
          rw [hl2] at hrun e2
          subst e2
          have HO8 : Hid (PRow w6 w3.heap.size v6 (dirP i raw 12 ++ [((i : Int), (12 : Int), nth raw 16), ((i : Int), (13 : Int), nth raw 17)] ++ hangP S (nth raw 16))) := Lib.hid (by rw [HH.out.1]; exact hO7)
          have HN8 : Hid (NumR w6 gb n (hangB S (dirB raw 12) 12 (nth raw 16))) := Lib.hid (by rw [HH.out.2]; exact hN5.same (hb6.block gb (by have := HGB.out; omega)))
          have HF8 : Hid (Lo [gb] w3.heap.size w3 w6) := Lib.hid ((HF4.out.trans (Lo.fr hf5 HF4.out.size)).trans (Lo.of hb6))
          clear hO6 hO7 hN5 hf5 hb6 hz6 hall2 hg2 hO5 HC
          go_wp2_with (at_builtin; refine wpList_append_run _ rfl (.tmp 66) (.tmp 71) 48 rfl _ _ rfl rfl _ _ hrun ?_)
          go_wp2_with fail
          go_meet
          case rel => exact ⟨HO8, HN8, HF8⟩
      case rest =>
        obtain ⟨HOc, HNc, HFc⟩ := hcut
        have hgxc := (HFc.out.block gx (hat_lt hgx3) (by simpa using hgbx)).trans hgx3
        have hgxcl := hat_lt hgxc
        have HEND : Hid (∀ v W, PRow W w3.heap.size v (follL S i raw) → NumR W gb n (follB S raw) → Lo [gb] w3.heap.size w3 W → ∃ v1 gb' cb, Ending.returned (.tuple #[v, .slice (some ⟨gb, 0, none⟩) n n]) = .returned (.tuple #[v1, .slice (some ⟨gb', 0, none⟩) n cb]) ∧ PRow W w.heap.size v1 (follL S i raw) ∧ NumR W gb' n (follB S raw) ∧ w.heap.size ≤ gb' ∧ Below w.heap.size w W) := Lib.hid (fun v W h1 h2 h3 => ⟨v, gb, n, rfl, h1.base HB3.out.size, h2, by have := HGB.out; omega, HB3.out.trans ⟨h3.os, h3.tape, h3.output, h3.size, fun b hb => h3.block b (by have := HB3.out.size; omega) (by simp; have := HGB.out; omega)⟩⟩)
        by_cases h17 : nth raw 17 = 0
        · have d17 : (nth raw 17 != 0) = false := by simpa using h17
          have HO5 : Hid (PRow wc w3.heap.size u10 (follL S i raw)) := Lib.hid (by unfold follL dblA; rw [if_pos h17, List.append_nil]; exact HOc.out)
          have HN5 : Hid (NumR wc gb n (follB S raw)) := Lib.hid (by unfold follB dblC; rw [if_pos h17]; exact HNc.out)
          clear h17
          go_wp2_with fail
          go_ret2
          exact HEND.out _ _ HO5.out HN5.out HFc.out
        · have d17 : (nth raw 17 != 0) = true := by simpa using h17
          obtain ⟨p, hp⟩ := Int.eq_ofNat_of_zero_le HA.out.p17.1
          have hpN : p < N := by have := HA.out.p17.2; omega
          have HT : Hid (∀ q ∈ rdPtr (S p), q < N) := Lib.hid (by have := HA.out.d h17; rw [hp, Int.toNat_natCast] at this; exact this)
          have HFOL : Hid (follL S i raw = dirP i raw 12 ++ [((i : Int), (12 : Int), nth raw 16), ((i : Int), (13 : Int), nth raw 17)] ++ hangP S (nth raw 16) ++ dbtP S (nth raw 17) (rdPtr (S p)) 32 ∧ follB S raw = dblB S (hangB S (dirB raw 12) 12 (nth raw 16)) (rdPtr (S p)) 32) := Lib.hid (by
            unfold follL follB dblA dblC
            rw [if_neg h17, if_neg h17, hp, Int.toNat_natCast]; exact ⟨rfl, rfl⟩)
          have hSr := HSS3.out.same (HFc.out.block gi HGI.out.2 (by simp; exact HGI.out.1))
          obtain ⟨csP, tP, frP, hcP, hlP⟩ := hSr.load hpN
          obtain ⟨lP, bP⟩ := hSr.len hpN
          have HRP := Lib.hid (fun W => rreadPointers_any (S p) lP bP W)
          have HPB := Lib.hid (rdPtr_small bP)
          have hpl : (rdPtr (S p)).length = 32 := by simp
          have hpi : (p : Int) < (N : Int) := by omega
          have hp0 : (0 : Int) ≤ (p : Int) := Int.natCast_nonneg _
          have hc17' := hc17
          rw [hp] at hc17' d17
          have hcPl := hat_lt hcP
          clear h17 lP bP hSr hc17
          go_wp2_with fail
          refine (HRP.out _).mono ?_; rintro e w5 ⟨rfl, hb5⟩
          generalize hPS : rdPtr (S p) = ps at *
          have hB6 : Below wc.heap.size wc (w5.alloc (.cells (IV .i64 ps) 89)) := hb5.alloc hb5.size _
          have hgt := (hopN w5 (.cells (IV .i64 ps) 89)).1
          have hgx6 := (hop hB6 hgxc).1
          have HO6 := Lib.hid (HOc.out.below hB6)
          have HN6 := Lib.hid (HNc.out.same (hat_below hB6 HNc.out.lt))
          have HF6 : Hid (Lo [gb] w3.heap.size w3 (w5.alloc (.cells (IV .i64 ps) 89))) := Lib.hid (HFc.out.trans (Lo.of (hB6.mono HFc.out.size)))
          clear hB6 hb5 hcP hlP HRP hcPl hgxc hgxcl HOc HNc HFc
          go_upto_region 16 with fail
          generalize w5.alloc (.cells (IV .i64 ps) 89) = w6 at *
          generalize w5.heap.size = gt at *
          have HGTB : Hid (gt ≠ gb) := Lib.hid (by
            obtain ⟨c, hc, -⟩ := HN6.out
            intro e
            subst e
            rw [hgt] at hc
            injection hc with h8
            injection h8 with h9 h10
            exact absurd h10 (by decide))
          have hc17 : (IV .i64 raw)[17]? = some (.int .i64 (nth raw 17)) := by rw [hc17', hp]
          clear hc17'
          go_wp2_with fail
          go_loopw [10, 13] (fun v kv wr => ∃ k : Nat, kv = .int .i64 k ∧ k ≤ 32 ∧ Hid (PRow wr w3.heap.size v (dirP i raw 12 ++ [((i : Int), (12 : Int), nth raw 16), ((i : Int), (13 : Int), nth raw 17)] ++ hangP S (nth raw 16) ++ dbtP S (nth raw 17) ps k)) ∧ Hid (NumR wr gb n (dblB S (hangB S (dirB raw 12) 12 (nth raw 16)) ps k)) ∧ Hid (Lo [gb] w3.heap.size w3 wr) ∧ Hid (hat wr gt = some (.cells (IV .i64 ps) 89))) (fun _ v _ => 32 - (intOf v).toNat)
          case atStart => exact ⟨0, rfl, by omega, Lib.hid (by show PRow _ _ _ (_ ++ []); rw [List.append_nil]; exact HO6.out), HN6, HF6, Lib.hid hgt⟩
          case round =>
            clear HO6 HN6 HF6 hgt hgx6
            obtain ⟨k, rfl, hk, HO, HB, HF, HGT⟩ := hrel
            have hgxr := (HF.out.block gx (hat_lt hgx3) (by simpa using hgbx)).trans hgx3
            have hgxrl := hat_lt hgxr
            have hgtr := HGT.out
            have hgtrl := hat_lt hgtr
            have hk0 : (0 : Int) ≤ (k : Int) := Int.natCast_nonneg _
            have hsz0 : w3.heap.size ≤ wr.heap.size := HF.out.size
            by_cases hk1 : k < 32
            · have hk32 : (k : Int) < 32 := by omega
              have hmem : nth ps k ∈ ps := List.mem_iff_getElem?.2 ⟨k, nth_getElem? (by omega)⟩
              obtain ⟨q, hq⟩ := Int.eq_ofNat_of_zero_le (HPB.out _ hmem).1
              have hqN : q < N := by have := HT.out _ hmem; omega
              have hcell : (IV .i64 ps)[k]? = some (.int .i64 (q : Int)) := by rw [IV_get?, nth_getElem? (by omega), hq]; rfl
              have HQ := Lib.hid hq
              clear hq hmem
              go_wp2_with fail
              refine wp_region_GT (by kernel_rfl) 9 (by decide) rfl (fun W => Below wr.heap.size wr W) (fun W W' => Below W.heap.size W W') (fun i' v W => match i' with | 0 => v = u10 | 1 => v = (.pointer (some ⟨gx, 17, none⟩)) | 2 => v = (.int .i64 (nth raw 17)) | 3 => v = (.int .i64 (k : Int)) | 4 => v = (.int .i64 (k : Int)) | 5 => v = (.pointer (some ⟨gt, k, none⟩)) | 6 => v = (.int .i64 ((q : Int))) | 7 => v = (.agg #[.int .i64 (nth raw 17), .int .i64 (k : Int), .int .i64 ((q : Int))]) | _ => ∃ g, v = .slice (some ⟨g, 0, none⟩) 1 1 ∧ hat W g = some (.cells #[.int .i64 (nth raw 17), .int .i64 (k : Int), .int .i64 ((q : Int))] 52)) ((Below.refl _ _).drew) ?_ ?_ ?_
              · intro i' v wa wb hi _ _ hE5 hG
                have hi' : i' = 0 ∨ i' = 1 ∨ i' = 2 ∨ i' = 3 ∨ i' = 4 ∨ i' = 5 ∨ i' = 6 ∨ i' = 7 ∨ i' = 8 := by omega
                rcases hi' with rfl | rfl | rfl | rfl | rfl | rfl | rfl | rfl | rfl <;> try exact hG
                obtain ⟨g, h1, h2⟩ := hG
                exact ⟨g, h1, (hop hE5 h2).1⟩
              · intro i' o hi ho a' w' hB hS hF
                have hi' : i' = 0 ∨ i' = 1 ∨ i' = 2 ∨ i' = 3 ∨ i' = 4 ∨ i' = 5 ∨ i' = 6 ∨ i' = 7 ∨ i' = 8 := by omega
                have hgx9 := (hop hB hgxr).1
                have hgt9 := (hop hB hgtr).1
                rcases hi' with rfl | rfl | rfl | rfl | rfl | rfl | rfl | rfl | rfl
                all_goals (have ho' := Option.some.inj ho; subst ho')
                · have q10 : a'.tmps[10]?.getD undef = u10 := gtx ((hS 10 (by decide)).trans rfl)
                  refine wpOp_val rfl rfl (v := u10) (w1 := w') ?_ ⟨_, rfl, hB, Below.refl _ _, rfl⟩
                  simp [go_sem, q10]
                · have q6 : a'.tmps[6]?.getD undef = (.pointer (some ⟨gx, 0, none⟩)) := gtx ((hS 6 (by decide)).trans rfl)
                  refine wpOp_val rfl rfl (v := (.pointer (some ⟨gx, 17, none⟩))) (w1 := w') ?_ ⟨_, rfl, hB, Below.refl _ _, rfl⟩
                  simp [go_sem, q6]
                · have q87 : a'.tmps[87]?.getD undef = (.pointer (some ⟨gx, 17, none⟩)) := gtx ((hF 1 (by decide) _ 87 rfl rfl).trans rfl)
                  refine wpOp_val rfl rfl (v := (.int .i64 (nth raw 17))) (w1 := w') ?_ ⟨_, rfl, hB, Below.refl _ _, rfl⟩
                  simp [go_sem, q87, hgx9, hc17]
                · have q13 : a'.tmps[13]?.getD undef = (.int .i64 (k : Int)) := gtx ((hS 13 (by decide)).trans rfl)
                  refine wpOp_val rfl rfl (v := (.int .i64 (k : Int))) (w1 := w') ?_ ⟨_, rfl, hB, Below.refl _ _, rfl⟩
                  simp [go_sem, q13]
                · have q13 : a'.tmps[13]?.getD undef = (.int .i64 (k : Int)) := gtx ((hS 13 (by decide)).trans rfl)
                  refine wpOp_val rfl rfl (v := (.int .i64 (k : Int))) (w1 := w') ?_ ⟨_, rfl, hB, Below.refl _ _, rfl⟩
                  simp [go_sem, q13]
                · have q12 : a'.tmps[12]?.getD undef = (.pointer (some ⟨gt, 0, none⟩)) := gtx ((hS 12 (by decide)).trans rfl)
                  have q90 : a'.tmps[90]?.getD undef = (.int .i64 (k : Int)) := gtx ((hF 4 (by decide) _ 90 rfl rfl).trans rfl)
                  refine wpOp_val rfl rfl (v := (.pointer (some ⟨gt, k, none⟩))) (w1 := w') ?_ ⟨_, rfl, hB, Below.refl _ _, rfl⟩
                  simp [go_sem, q12, q90, hk1, hk0, hk32]
                · have q91 : a'.tmps[91]?.getD undef = (.pointer (some ⟨gt, k, none⟩)) := gtx ((hF 5 (by decide) _ 91 rfl rfl).trans rfl)
                  refine wpOp_val rfl rfl (v := (.int .i64 ((q : Int)))) (w1 := w') ?_ ⟨_, rfl, hB, Below.refl _ _, rfl⟩
                  simp [go_sem, q91, hgt9, hcell]
                · have q88 : a'.tmps[88]?.getD undef = (.int .i64 (nth raw 17)) := gtx ((hF 2 (by decide) _ 88 rfl rfl).trans rfl)
                  have q89 : a'.tmps[89]?.getD undef = (.int .i64 (k : Int)) := gtx ((hF 3 (by decide) _ 89 rfl rfl).trans rfl)
                  have q92 : a'.tmps[92]?.getD undef = (.int .i64 ((q : Int))) := gtx ((hF 6 (by decide) _ 92 rfl rfl).trans rfl)
                  refine wpOp_val rfl rfl (v := (.agg #[.int .i64 (nth raw 17), .int .i64 (k : Int), .int .i64 ((q : Int))])) (w1 := w') ?_ ⟨_, rfl, hB, Below.refl _ _, rfl⟩
                  simp [go_sem, q88, q89, q92]
                · have q93 : a'.tmps[93]?.getD undef = (.agg #[.int .i64 (nth raw 17), .int .i64 (k : Int), .int .i64 ((q : Int))]) := gtx ((hF 7 (by decide) _ 93 rfl rfl).trans rfl)
                  refine wpOp_val rfl rfl (v := .slice (some ⟨w'.heap.size, 0, none⟩) 1 1) (w1 := w'.alloc (.cells #[.int .i64 (nth raw 17), .int .i64 (k : Int), .int .i64 ((q : Int))] 52)) ?_ ⟨_, rfl, below_new hB hB.size _, (Below.refl _ _).alloc (Nat.le_refl _) _, _, rfl, (hopN w' _).1⟩
                  simp [go_sem, q93]
              · intro val w5 hB5 hF
                have y0 := hF 0 _ 86 (by decide) rfl rfl
                have y1 := hF 1 _ 87 (by decide) rfl rfl
                have y2 := hF 2 _ 88 (by decide) rfl rfl
                have y3 := hF 3 _ 89 (by decide) rfl rfl
                have y4 := hF 4 _ 90 (by decide) rfl rfl
                have y5 := hF 5 _ 91 (by decide) rfl rfl
                have y6 := hF 6 _ 92 (by decide) rfl rfl
                have y7 := hF 7 _ 93 (by decide) rfl rfl
                obtain ⟨g5, y8, hg5⟩ := hF 8 _ 94 (by decide) rfl rfl
                simp only [] at y0 y1 y2 y3 y4 y5 y6 y7
                simp only [putAll, List.take, List.drop, List.take_succ_cons, List.drop_succ_cons, y0, y1, y2, y3, y4, y5, y6, y7, y8, Act.put, List.setIfInBounds_toArray, List.set_cons_zero, List.set_cons_succ]
                clear y0 y1 y2 y3 y4 y5 y6 y7 y8 hF
                have hsz5 : w3.heap.size ≤ w5.heap.size := Nat.le_trans hsz0 hB5.size
                obtain ⟨v6, w6', hrun, hO6, hz6, hb6, ht6⟩ := run_append_p (HO.out.below hB5) g5 1 [(nth raw 17, (k : Int), (q : Int))] ⟨_, hg5, fun j u hj => by simpa [ptC] using hj⟩ (by have := dbtP_len S (nth raw 17) ps k; have := hangP_len S (nth raw 16); simp [dirP_len]; omega) hsz5 48
                simp only [List.length_singleton] at hrun
                have hB6 : Below w3.heap.size wr w6' := (hB5.mono hsz0).trans hb6
                have hgx6 : hat w6' gx = some (.cells (IV .i64 raw) 45) := (hB6.block gx (hat_lt hgx3)).trans hgxr
                have hgt6 := ht6 _ _ _ _ (by decide) (hop hB5 hgtr).1
                have HO6 := Lib.hid hO6
                have HN6 := Lib.hid (HB.out.same (hB6.block gb (by have := HGB.out; omega)))
                have HF6 : Hid (Lo [gb] w3.heap.size w3 w6') := Lib.hid (HF.out.trans (Lo.of hB6))
                have hgx6l := hat_lt hgx6
                have hgt6l := hat_lt hgt6
                have HGT6 := Lib.hid hgt6
                clear hB5 hg5 hO6 hz6 hb6 ht6 hB6 hgxr hgxrl hgtr hgtrl HO HB HF HGT
                have hqv := HQ.out
                by_cases hz : q = 0
                · have dz : ((q : Int) != 0) = false := by simp; exact hz
                  have HO7 : Hid (PRow w6' w3.heap.size v6 (dirP i raw 12 ++ [((i : Int), (12 : Int), nth raw 16), ((i : Int), (13 : Int), nth raw 17)] ++ hangP S (nth raw 16) ++ dbtP S (nth raw 17) ps (k + 1))) := Lib.hid (by
                    have := HO6.out
                    show PRow _ _ _ (_ ++ (dbtP S (nth raw 17) ps k ++ (nth raw 17, (k : Int), nth ps k) :: hangP S (nth ps k)))
                    have e : hangP S (nth ps k) = [] := by unfold hangP; rw [HQ.out, hz]; rfl
                    rw [e, HQ.out, ← List.append_assoc]
                    exact this)
                  have HN7 : Hid (NumR w6' gb n (dblB S (hangB S (dirB raw 12) 12 (nth raw 16)) ps (k + 1))) := Lib.hid (by
                    have e : dblB S (hangB S (dirB raw 12) 12 (nth raw 16)) ps (k + 1) = dblB S (hangB S (dirB raw 12) 12 (nth raw 16)) ps k := by
                      show hangB S _ _ (nth ps k) = _
                      unfold hangB
                      rw [if_pos (by rw [HQ.out, hz]; rfl)]
                    rw [e]; exact HN6.out)
                  clear hz
                  go_wp2_with (at_builtin; refine wpList_append_run _ rfl (.tmp 86) (.tmp 94) 48 rfl _ _ rfl rfl _ _ hrun ?_)
                  go_wp2_with fail
                  go_roundw
                  case rel => exact ⟨k + 1, by go_num, by omega, HO7, HN7, HF6, HGT6⟩
                  case measure => (show 32 - (k + 1) < 32 - k); omega
                · have dz : ((q : Int) != 0) = true := by simp; exact hz
                  have hzz : nth ps k ≠ 0 := by rw [HQ.out]; omega
                  obtain ⟨m, hm⟩ : ∃ m : Nat, m = 44 + 32 * k := ⟨_, rfl⟩
                  have hms : (44 : Int) + 32 * (k : Int) = (m : Int) := by omega
                  have hm9 : m ≤ 1100 := by omega
                  have hSr := HSS3.out.same (HF6.out.block gi HGI.out.2 (by simp; exact HGI.out.1))
                  have HC := Lib.hid (rowf_w (ci := ci) (cb := n) q m (dblB S (hangB S (dirB raw 12) 12 (nth raw 16)) ps k) w6' hSr hqN hN (by omega) (by omega) HN6.out)
                  have HH : Hid (hangP S (nth ps k) = rowL (q : Int) (rdPtr (S q)) ∧ dblB S (hangB S (dirB raw 12) 12 (nth raw 16)) ps (k + 1) = rowB (dblB S (hangB S (dirB raw 12) 12 (nth raw 16)) ps k) m (rdPtr (S q)) 32) := Lib.hid (by
                    refine ⟨?_, ?_⟩
                    · unfold hangP
                      rw [if_neg hzz, HQ.out, Int.toNat_natCast]
                    · show hangB S _ _ (nth ps k) = _
                      unfold hangB
                      rw [if_neg hzz, HQ.out, Int.toNat_natCast, hm])
                  clear hm hzz
                  clear hz hSr
                  go_wp2_with (at_builtin; refine wpList_append_run _ rfl (.tmp 86) (.tmp 94) 48 rfl _ _ rfl rfl _ _ hrun ?_)
                  go_wp2_with fail
                  refine HC.out.mono ?_; rintro e w7 ⟨v2, rfl, hO7, hN7, hf7⟩
                  have hO8 := HO6.out.fr hf7 (by have := HGB.out; omega)
                  have hne : rowL (q : Int) (rdPtr (S q)) ≠ [] := fun e => by have := congrArg List.length e; rw [rowL_len] at this; simp at this
                  obtain ⟨g2, c2, cs2, e2, -, hg2, hall2⟩ := hO7.at hne
                  have hl2 : (rowL (q : Int) (rdPtr (S q))).length = 32 := by rw [rowL_len]; simp
                  have hz7 : w3.heap.size ≤ w7.heap.size := by have := HF6.out.size; have := hf7.size; omega
                  obtain ⟨v9, w9, hrun9, hO9, hz9, hb9, ht9⟩ := run_append_p hO8 g2 c2 (rowL (q : Int) (rdPtr (S q))) ⟨cs2, hg2, hall2⟩ (by have := dbtP_len S (nth raw 17) ps k; have := hangP_len S (nth raw 16); rw [hl2]; simp [dirP_len]; omega) hz7 48
                  rw [hl2] at hrun9 e2
                  subst e2
                  have hgt9 := ht9 _ _ _ _ (by decide) ((hf7.block gt hgt6l (by simpa using HGTB.out)).trans hgt6)
                  have HGT9 := Lib.hid hgt9
                  have HO10 : Hid (PRow w9 w3.heap.size v9 (dirP i raw 12 ++ [((i : Int), (12 : Int), nth raw 16), ((i : Int), (13 : Int), nth raw 17)] ++ hangP S (nth raw 16) ++ dbtP S (nth raw 17) ps (k + 1))) := Lib.hid (by
                    show PRow _ _ _ (_ ++ (dbtP S (nth raw 17) ps k ++ (nth raw 17, (k : Int), nth ps k) :: hangP S (nth ps k)))
                    rw [HH.out.1, HQ.out]
                    have h9 := hO9
                    simp only [List.append_assoc] at h9 ⊢
                    exact h9)
                  have HN10 : Hid (NumR w9 gb n (dblB S (hangB S (dirB raw 12) 12 (nth raw 16)) ps (k + 1))) := Lib.hid (by rw [HH.out.2]; exact hN7.same (hb9.block gb (by have := HGB.out; omega)))
                  have HF10 : Hid (Lo [gb] w3.heap.size w3 w9) := Lib.hid ((HF6.out.trans (Lo.fr hf7 HF6.out.size)).trans (Lo.of hb9))
                  clear hO8 hO9 hN7 hf7 hb9 hz9 hall2 hg2 hO7 HC ht9 hgt9
                  go_wp2_with (at_builtin; refine wpList_append_run _ rfl (.tmp 100) (.tmp 109) 48 rfl _ _ rfl rfl _ _ hrun9 ?_)
                  go_wp2_with fail
                  go_roundw
                  case rel => exact ⟨k + 1, by go_num, by omega, HO10, HN10, HF10, HGT9⟩
                  case measure => (show 32 - (k + 1) < 32 - k); omega
            · obtain rfl : k = 32 := by omega
              have HOF : Hid (PRow wr w3.heap.size u10 (follL S i raw)) := Lib.hid (by rw [HFOL.out.1]; exact HO.out)
              have HNF : Hid (NumR wr gb n (follB S raw)) := Lib.hid (by rw [HFOL.out.2]; exact HB.out)
              go_wp2_with fail
              go_ret2
              exact HEND.out _ _ HOF.out HNF.out HF.out
end Go.Proofs.YthioepdgnbdohaaGreat

/- What is in use: the pointers of all inodes are just what a look has claimed: plain laws. -/
namespace Go.Proofs.YthioepdgnbdohaaGreat
set_option linter.unusedSimpArgs false
set_option linter.unusedVariables false
open Go.RowKit

/-- where pointers lead -/
def tosL (l : List Pt) : List Int := l.map fun x => x.2.2
theorem tos_app (a b : List Pt) : tosL (a ++ b) = tosL a ++ tosL b := by unfold tosL; rw [List.map_append]
theorem tos_row (at' : Int) (ps : List Int) : tosL (rowL at' ps) = ps := by
  unfold tosL rowL
  rw [List.map_map]
  apply List.ext_getElem?
  intro i
  simp [List.getElem?_map, List.getElem?_zipIdx]
  cases ps[i]? <;> simp
theorem mem_fRow (base : Int) (S : Nat → List Int) (q : Int) : ∀ (ps : List Int) (k : Nat), q ∈ (fRow base).ps S k ps ↔ q ≠ 0 ∧ q ∈ ps
  | [], k => by
    show q ∈ [] ↔ _
    simp
  | p :: r, k => by
    show q ∈ (if p = 0 then [] else [p]) ++ (fRow base).ps S (k + 1) r ↔ _
    rw [List.mem_append, mem_fRow base S q r (k + 1), List.mem_cons]
    by_cases hp : p = 0
    · rw [if_pos hp]
      constructor
      · rintro (h | h)
        · cases h
        · exact ⟨h.1, .inr h.2⟩
      · rintro ⟨h0, h | h⟩
        · exact absurd (h.trans hp) h0
        · exact .inr ⟨h0, h⟩
    · rw [if_neg hp, List.mem_singleton]
      constructor
      · rintro (h | h)
        · exact ⟨by rw [h]; exact hp, .inl h⟩
        · exact ⟨h.1, .inr h.2⟩
      · rintro ⟨h0, h | h⟩
        · exact .inl h
        · exact .inr ⟨h0, h⟩
theorem mem_hang (S : Nat → List Int) {q : Int} (hq : q ≠ 0) (p : Int) : q ∈ tosL (hangP S p) ↔ p ≠ 0 ∧ q ∈ rdPtr (S p.toNat) := by
  unfold hangP
  split
  · rename_i h
    constructor
    · intro hh; cases hh
    · intro hh; exact absurd h hh.1
  · rename_i h
    rw [tos_row]
    exact ⟨fun hh => ⟨h, hh⟩, fun hh => hh.2⟩
theorem mem_dbt (S : Nat → List Int) {q : Int} (hq : q ≠ 0) (at' : Int) (ps : List Int) : ∀ k, q ∈ tosL (dbtP S at' ps k) ↔ ∃ j, j < k ∧ (q = nth ps j ∨ (nth ps j ≠ 0 ∧ q ∈ rdPtr (S (nth ps j).toNat)))
  | 0 => by
    constructor
    · intro h; cases h
    · rintro ⟨j, h, -⟩; omega
  | k + 1 => by
    show q ∈ tosL (dbtP S at' ps k ++ (at', (k : Int), nth ps k) :: hangP S (nth ps k)) ↔ _
    rw [tos_app, List.mem_append, mem_dbt S hq at' ps k]
    have e : tosL ((at', (k : Int), nth ps k) :: hangP S (nth ps k)) = nth ps k :: tosL (hangP S (nth ps k)) := rfl
    rw [e, List.mem_cons, mem_hang S hq]
    constructor
    · rintro (⟨j, h1, h2⟩ | h)
      · exact ⟨j, by omega, h2⟩
      · exact ⟨k, by omega, h⟩
    · rintro ⟨j, h1, h2⟩
      by_cases hj : j = k
      · subst hj; exact .inr h2
      · exact .inl ⟨j, by omega, h2⟩
theorem mem_fDbl (n : Int) (S : Nat → List Int) {q : Int} (hq : q ≠ 0) : ∀ (ps : List Int) (k : Nat), q ∈ (fDblRow n).ps S k ps ↔ ∃ p ∈ ps, p ≠ 0 ∧ (q = p ∨ q ∈ rdPtr (S p.toNat))
  | [], k => by
    show q ∈ [] ↔ _
    simp
  | p :: r, k => by
    show q ∈ (if p = 0 then [] else p :: (fRow (44 + 32 * (k : Int))).ps S 0 (rdPtr (S p.toNat))) ++ (fDblRow n).ps S (k + 1) r ↔ _
    rw [List.mem_append, mem_fDbl n S hq r (k + 1)]
    by_cases hp : p = 0
    · rw [if_pos hp]
      constructor
      · rintro (h | ⟨p', h1, h2⟩)
        · cases h
        · exact ⟨p', List.mem_cons_of_mem _ h1, h2⟩
      · rintro ⟨p', h1, h2, h3⟩
        rcases List.mem_cons.1 h1 with e | h1
        · exact absurd (e.trans hp) h2
        · exact .inr ⟨p', h1, h2, h3⟩
    · rw [if_neg hp, List.mem_cons, mem_fRow]
      constructor
      · rintro ((h | h) | ⟨p', h1, h2⟩)
        · exact ⟨p, List.mem_cons_self .., hp, .inl h⟩
        · exact ⟨p, List.mem_cons_self .., hp, .inr h.2⟩
        · exact ⟨p', List.mem_cons_of_mem _ h1, h2⟩
      · rintro ⟨p', h1, h2, h3⟩
        rcases List.mem_cons.1 h1 with e | h1
        · subst e
          rcases h3 with h3 | h3
          · exact .inl (.inl h3)
          · exact .inl (.inr ⟨hq, h3⟩)
        · exact .inr ⟨p', h1, h2, h3⟩
/-- the laws' pointers of an inode lead where its pointers do -/
theorem mem_foll (n : Int) (S : Nat → List Int) {raw : List Int} (hr : raw.length = 18) (i : Int) {q : Int} (hq : q ≠ 0) : q ∈ tosL (follL S i raw) ↔ q ∈ inoPs n S raw := by
  have hdir : q ∈ tosL (dirP i raw 12) ↔ q ∈ dirL raw := by
    have e : tosL (dirP i raw 12) = dirL raw := by
      unfold tosL dirP
      rw [List.map_map]
      apply nth_ext
      · unfold dirL; simp [hr]
      · intro k hk
        have hk12 : k < 12 := by simpa using hk
        rw [dirL_nth hr hk12]
        unfold nth
        rw [List.getElem?_map, List.getElem?_range hk12]; rfl
    rw [e]
  unfold follL inoPs
  rw [tos_app, tos_app, tos_app]
  have e2 : tosL [(i, 12, nth raw 16), (i, 13, nth raw 17)] = [nth raw 16, nth raw 17] := rfl
  rw [e2]
  simp only [List.mem_append]
  rw [hdir, mem_hang S hq, mem_fRow]
  have hs : q ∈ (fSgl n).ps S 0 [nth raw 16] ↔ nth raw 16 ≠ 0 ∧ (q = nth raw 16 ∨ q ∈ rdPtr (S (nth raw 16).toNat)) := by
    show q ∈ (if nth raw 16 = 0 then [] else nth raw 16 :: (fRow 12).ps S 0 (rdPtr (S (nth raw 16).toNat))) ++ [] ↔ _
    rw [List.append_nil]
    split
    · rename_i h
      exact ⟨fun hh => (by cases hh), fun hh => absurd h hh.1⟩
    · rename_i h
      rw [List.mem_cons, mem_fRow]
      constructor
      · rintro (hh | hh)
        · exact ⟨h, .inl hh⟩
        · exact ⟨h, .inr hh.2⟩
      · rintro ⟨-, hh | hh⟩
        · exact .inl hh
        · exact .inr ⟨hq, hh⟩
  have hd : q ∈ (fDub n).ps S 0 [nth raw 17] ↔ nth raw 17 ≠ 0 ∧ (q = nth raw 17 ∨ ∃ p ∈ rdPtr (S (nth raw 17).toNat), p ≠ 0 ∧ (q = p ∨ q ∈ rdPtr (S p.toNat))) := by
    show q ∈ (if nth raw 17 = 0 then [] else nth raw 17 :: (fDblRow n).ps S 0 (rdPtr (S (nth raw 17).toNat))) ++ [] ↔ _
    rw [List.append_nil]
    split
    · rename_i h
      exact ⟨fun hh => (by cases hh), fun hh => absurd h hh.1⟩
    · rename_i h
      rw [List.mem_cons, mem_fDbl n S hq]
      exact ⟨fun hh => ⟨h, hh⟩, fun hh => hh.2⟩
  have hda : q ∈ tosL (dblA S (nth raw 17)) ↔ nth raw 17 ≠ 0 ∧ ∃ p ∈ rdPtr (S (nth raw 17).toNat), p ≠ 0 ∧ (q = p ∨ q ∈ rdPtr (S p.toNat)) := by
    unfold dblA
    split
    · rename_i h
      exact ⟨fun hh => (by cases hh), fun hh => absurd h hh.1⟩
    · rename_i h
      rw [mem_dbt S hq]
      constructor
      · rintro ⟨j, h1, h2⟩
        have hm : nth (rdPtr (S (nth raw 17).toNat)) j ∈ rdPtr (S (nth raw 17).toNat) := List.mem_iff_getElem?.2 ⟨j, nth_getElem? (by simp; omega)⟩
        rcases h2 with h2 | h2
        · exact ⟨h, _, hm, by rw [← h2]; exact hq, .inl h2⟩
        · exact ⟨h, _, hm, h2.1, .inr h2.2⟩
      · rintro ⟨-, p, h1, h2, h3⟩
        obtain ⟨j, hj⟩ := List.mem_iff_getElem?.1 h1
        have hj32 := (List.getElem?_eq_some_iff.1 hj).1
        have e : nth (rdPtr (S (nth raw 17).toNat)) j = p := by
          show ((rdPtr (S (nth raw 17).toNat))[j]?).getD 0 = p
          rw [hj]; rfl
        refine ⟨j, by simpa using hj32, ?_⟩
        rw [e]
        rcases h3 with h3 | h3
        · exact .inl h3
        · exact .inr ⟨h2, h3⟩
  rw [hs, hd, hda]
  simp only [List.mem_cons, List.not_mem_nil, or_false]
  constructor
  · rintro (((h | h | h) | h) | h)
    · exact .inl ⟨hq, h⟩
    · exact .inr (.inl ⟨by rw [← h]; exact hq, .inl h⟩)
    · exact .inr (.inr ⟨by rw [← h]; exact hq, .inl h⟩)
    · exact .inr (.inl ⟨h.1, .inr h.2⟩)
    · exact .inr (.inr ⟨h.1, .inr h.2⟩)
  · rintro (h | ⟨h0, h | h⟩ | ⟨h0, h | h⟩)
    · exact .inl (.inl (.inl h.2))
    · exact .inl (.inl (.inr (.inl h)))
    · exact .inl (.inr ⟨h0, h⟩)
    · exact .inl (.inl (.inr (.inr h)))
    · exact .inr ⟨h0, h⟩
/-- what the image's inodes point to is just what the look has claimed -/
theorem uses_cl {X Y : Int} (hY : 0 ≤ Y) {S W : Nat → List Int} {L : Nat → List Ent} {z : LZ} (h : WFin X Y S L z) (ho : OutW X Y S W z) {q : Int} (hq : q ≠ 0) :
    z.st.cl q = true ↔ ∃ i : Nat, 1 ≤ i ∧ (i : Int) ≤ Y ∧ nth (wI W i) 0 ≠ 0 ∧ q ∈ tosL (follL W i (wI W i)) := by
  constructor
  · intro hc
    obtain ⟨i, t, ht, hp⟩ := h.w.pz.un q hc
    obtain ⟨i1, i2⟩ := h.w.ix i t ht
    refine ⟨i, i1, i2, by rw [(wI_size ho ht).1]; exact (ho.yes i t ht).2.1, ?_⟩
    rw [mem_foll (cntX (nth (wI W i) 2)) W (wI_len W i) i hq, (out_pt hY h ho ht).1]
    exact hp
  · rintro ⟨i, i1, i2, hk, hm⟩
    obtain ⟨t, ht⟩ := wI_taken ho i1 i2 hk
    rw [mem_foll (cntX (nth (wI W i) 2)) W (wI_len W i) i hq, (out_pt hY h ho ht).1] at hm
    exact h.w.pz.cl i t ht q hm
/-- the inodes that are told are those of the image -/
theorem uses_T {X Y : Int} {S W : Nat → List Int} {L : Nat → List Ent} {z : LZ} (h : WFin X Y S L z) (ho : OutW X Y S W z) (i : Nat) : (z.T i).isSome = true ↔ 1 ≤ i ∧ (i : Int) ≤ Y ∧ nth (wI W i) 0 ≠ 0 := by
  constructor
  · intro hs
    obtain ⟨t, ht⟩ := Option.isSome_iff_exists.1 hs
    obtain ⟨i1, i2⟩ := h.w.ix i t ht
    exact ⟨i1, i2, by rw [(wI_size ho ht).1]; exact (ho.yes i t ht).2.1⟩
  · rintro ⟨i1, i2, hk⟩
    obtain ⟨t, ht⟩ := wI_taken ho i1 i2 hk
    rw [ht]; rfl
end Go.Proofs.YthioepdgnbdohaaGreat

/- What a look's report says of use: plain, for the law's walk. -/
namespace Go.Proofs.YthioepdgnbdohaaGreat
set_option linter.unusedSimpArgs false
set_option linter.unusedVariables false
open Go.RowKit

/-- the inodes in use -/
noncomputable def inoB (W : Nat → List Int) (p : Int) : Bool := decide (1 ≤ p) && decide (nth (wI W p.toNat) 0 ≠ 0)
/-- where the pointers of the inodes below k lead -/
noncomputable def usedW (W : Nat → List Int) (k : Nat) (q : Int) : Bool := (List.range k).any fun i => decide (1 ≤ i) && decide (nth (wI W i) 0 ≠ 0) && (tosL (follL W i (wI W i))).contains q
theorem usedW_iff {W : Nat → List Int} {k : Nat} {q : Int} : usedW W k q = true ↔ ∃ i, i < k ∧ 1 ≤ i ∧ nth (wI W i) 0 ≠ 0 ∧ q ∈ tosL (follL W i (wI W i)) := by
  unfold usedW
  rw [List.any_eq_true]
  constructor
  · rintro ⟨i, hi, h⟩
    rw [Bool.and_eq_true, Bool.and_eq_true, decide_eq_true_eq, decide_eq_true_eq, List.contains_iff_mem] at h
    exact ⟨i, List.mem_range.1 hi, h.1.1, h.1.2, h.2⟩
  · rintro ⟨i, h1, h2, h3, h4⟩
    refine ⟨i, List.mem_range.2 h1, ?_⟩
    rw [Bool.and_eq_true, Bool.and_eq_true, decide_eq_true_eq, decide_eq_true_eq, List.contains_iff_mem]
    exact ⟨⟨h2, h3⟩, h4⟩
/-- and of the next one's, the first j -/
noncomputable def usedJ (W : Nat → List Int) (k : Nat) (l : List Pt) (j : Nat) (q : Int) : Bool := usedW W k q || ((tosL l).take j).contains q
theorem follL_len (S : Nat → List Int) (i : Int) (raw : List Int) : 1 ≤ (follL S i raw).length ∧ (follL S i raw).length ≤ 2000 := by
  unfold follL
  rw [List.length_append, List.length_append, List.length_append, dirP_len]
  have h1 := hangP_len S (nth raw 16)
  have h2 : (dblA S (nth raw 17)).length ≤ 33 * 32 := by
    unfold dblA
    split
    · simp
    · exact Nat.le_trans (dbtP_len _ _ _ 32) (by omega)
  simp
  omega
/-- what a look says of use -/
structure UsesP (N Yn : Nat) (W : Nat → List Int) (KT KC : List Int) : Prop where
  y1 : 1 ≤ Yn
  yN : Yn < N
  n9 : N ≤ 4096
  sup : (rdSupR (W 0)).2.1 = (Yn : Int)
  aims : ∀ i, 1 ≤ i → i ≤ Yn → nth (wI W i) 0 ≠ 0 → Aims N W (wI W i) ∧ 0 ≤ nth (wI W i) 2 ∧ nth (wI W i) 2 ≤ 136704
  tos : ∀ i, 1 ≤ i → i ≤ Yn → nth (wI W i) 0 ≠ 0 → ∀ q ∈ tosL (follL W i (wI W i)), 0 ≤ q ∧ q < N
  kt : keysN (Yn + 1) (inoB W) = KT
  kc : keysN N (fun q => decide (q ≠ 0) && usedW W (Yn + 1) q) = KC
theorem look_uses {N : Nat} {S : Nat → List Int} (hS : ∀ j, j < N → (S j).length = 128 ∧ Bytes (S j)) (he : lookE N S = 0) : ∃ Yn : Nat, UsesP N Yn (repS (rdSupR (S 0)).2.1 (lookZ N (rdSupR (S 0)).2.1 S)) (keysL fun p => ((lookZ N (rdSupR (S 0)).2.1 S).T p.toNat).isSome) (keysL (lookZ N (rdSupR (S 0)).2.1 S).st.cl) := by
  obtain ⟨h8, h9, hs0, hs1, hr⟩ := lookE_ok he
  have hmay := (sup_one hs0).1
  obtain ⟨hx, hy, hxy⟩ := hmay
  rw [hs1] at hxy
  generalize hYe : (rdSupR (S 0)).2.1 = Y at *
  have hA : ∀ j : Nat, isD N Y j = true → (S j).length = 128 ∧ Bytes (S j) := fun j hj => hS j (by
    unfold isD at hj
    have := of_decide_eq_true hj
    omega)
  obtain ⟨L, h⟩ := look_wz (X := N) hy.1 (by omega) hA hr
  generalize hz : lookZ (N : Int) Y S = z at *
  have ho := out_w h
  have hY : 0 ≤ Y := by omega
  have hW0 : repS Y z 0 = S 0 := by
    rw [repS_else z (by omega)]
    refine h.w.inv.si.un 0 ?_
    cases hb : (bare z.st).cl ((0 : Nat) : Int) with
    | false => rfl
    | true =>
      have := h.w.inv.si.cd _ hb
      unfold isD at this
      have := of_decide_eq_true this
      omega
  generalize repS Y z = W at *
  have hsup : (rdSupR (W 0)).2.1 = Y := by rw [hW0]; exact hYe
  obtain ⟨Yn, rfl⟩ := Int.eq_ofNat_of_zero_le hY
  have hD : ∀ i, 1 ≤ i → i ≤ Yn → nth (wI W i) 0 ≠ 0 → ∀ q ∈ inoPs (cntX (nth (wI W i) 2)) W (wI W i), isD N Yn q = true := fun i i1 i2 hk q hq => by
    obtain ⟨t, ht⟩ := wI_taken ho i1 (by omega) hk
    rw [(out_pt hY h ho ht).1] at hq
    exact ((h.w.pz.ok i t ht).1 q hq).1
  refine ⟨Yn, by omega, by omega, h9, hsup, fun i i1 i2 hk => ?_, fun i i1 i2 hk q hq => ?_, ?_, ?_⟩
  · obtain ⟨t, ht⟩ := wI_taken ho i1 (by omega) hk
    have hc := cnt_le h ht
    rw [(wI_size ho ht).2]
    refine ⟨(aims_of (X := N) hY rfl (by omega) (wI_len W i) (hD i i1 i2 hk)).1, hc.1, hc.2.1⟩
  · by_cases q0 : q = 0
    · subst q0; omega
    · rw [mem_foll (cntX (nth (wI W i) 2)) W (wI_len W i) i q0] at hq
      have := hD i i1 i2 hk q hq
      unfold isD at this
      have := of_decide_eq_true this
      omega
  · refine up_unique _ _ (keysN_up _ _) (keysN_up _ _) fun x => ?_
    rw [mem_keysN, keysL, mem_keysN]
    unfold inoB
    rw [Bool.and_eq_true, decide_eq_true_eq, decide_eq_true_eq]
    constructor
    · rintro ⟨x0, x1, x2, x3⟩
      exact ⟨x0, by omega, (uses_T h ho x.toNat).2 ⟨by omega, by omega, x3⟩⟩
    · rintro ⟨x0, x1, x2⟩
      obtain ⟨a, b, c⟩ := (uses_T h ho x.toNat).1 x2
      exact ⟨x0, by omega, by omega, c⟩
  · refine up_unique _ _ (keysN_up _ _) (keysN_up _ _) fun x => ?_
    rw [mem_keysN, keysL, mem_keysN]
    rw [Bool.and_eq_true, decide_eq_true_eq, usedW_iff]
    constructor
    · rintro ⟨x0, x1, x2, i, i1, i2, i3, i4⟩
      exact ⟨x0, by omega, (uses_cl hY h ho x2).2 ⟨i, i2, by omega, i3, i4⟩⟩
    · rintro ⟨x0, x1, x2⟩
      have hd := h.w.inv.si.cd x x2
      unfold isD at hd
      have := of_decide_eq_true hd
      have x3 : x ≠ 0 := by omega
      obtain ⟨i, i1, i2, i3, i4⟩ := (uses_cl hY h ho x3).1 x2
      exact ⟨x0, by omega, x3, i, by omega, i1, i3, i4⟩
end Go.Proofs.YthioepdgnbdohaaGreat

/- What stood at a pointer's place: the walk. -/
namespace Go.Proofs.YthioepdgnbdohaaGreat
set_option linter.unusedSimpArgs false
set_option linter.unusedVariables false
open Go.RowKit

/-- what stood at a pointer's place: in an inode, or in a table -/
noncomputable def stoodR (S : Nat → List Int) (Y : Int) (x : Pt) : Int :=
  if Y < x.1 then nth (rdPtr (S x.1.toNat)) x.2.1.toNat else if x.2.1 = 12 then nth (rdInoR (S x.1.toNat)).1 16 else if x.2.1 = 13 then nth (rdInoR (S x.1.toNat)).1 17 else nth (rdInoR (S x.1.toNat)).1 (4 + x.2.1.toNat)
set_option maxHeartbeats 8000000 in
set_option maxRecDepth 100000 in
theorem stood_w {gi oi N ci : Nat} {S : Nat → List Int} (a b : Nat) (c Y : Int) (w : World) (hS : Secs w gi oi N S) (ha : a < N) (hN : N ≤ 4096) (hb : if Y < a then b < 32 else b < 14) :
    Calls Tryz.prog 21 #[.slice (some ⟨gi, oi, none⟩) N ci, .int .i64 Y, .agg #[.int .i64 a, .int .i64 b, .int .i64 c]] w fun e w' => e = .returned (.int .i64 (stoodR S Y ((a : Int), (b : Int), c))) ∧ Below w.heap.size w w' := by
  obtain ⟨csI, tI, frI, hcI, hlI⟩ := hS.load ha
  obtain ⟨lI, bI⟩ := hS.len ha
  have ha0 : (0 : Int) ≤ (a : Int) := Int.natCast_nonneg _
  have hb0 : (0 : Int) ≤ (b : Int) := Int.natCast_nonneg _
  have ha1 : (a : Int) < (N : Int) := by omega
  have HCP := Lib.hid (fun W => rreadPointers_any (S a) lI bI W)
  have HCI := Lib.hid (fun W => rrdIno_any (S a) lI bI W)
  clear lI bI
  obtain ⟨res, hres⟩ : ∃ res, stoodR S Y ((a : Int), (b : Int), c) = res := ⟨_, rfl⟩
  rw [hres]
  have HRES := Lib.hid hres
  clear hres
  go_enter Tryz.func21, Tryz.ntmps21
  have hcIl := hat_lt hcI
  have hgb := (hopN w (.cells #[.int .i64 a, .int .i64 b, .int .i64 c] 52)).1
  by_cases hY : Y < (a : Int)
  · have hcI2 := (hopA w (.cells #[.int .i64 a, .int .i64 b, .int .i64 c] 52) hcI).1
    obtain ⟨ps, hps⟩ : ∃ ps, rdPtr (S a) = ps := ⟨_, rfl⟩
    have hpl : ps.length = 32 := by rw [← hps]; simp
    have hst : res = nth ps b := by
      rw [← HRES.out, ← hps]
      unfold stoodR
      simp only [Int.toNat_natCast]
      rw [if_pos hY]
    have HST := Lib.hid hst
    rw [if_pos hY] at hb
    have hb32 : b < 32 := hb
    have hbi : (b : Int) < 32 := by omega
    have hix := fun W => ix89 ps hpl (b : Int) hb0 hbi W
    simp only [Int.toNat_natCast] at hix
    rw [hps] at HCP
    have hB1 : Below w.heap.size w (w.alloc (.cells #[.int .i64 a, .int .i64 b, .int .i64 c] 52)) := (Below.refl _ _).alloc (Nat.le_refl _) _
    have HB1 := Lib.hid hB1
    clear hB1 hst hps
    go_upto_region 2 with fail
    generalize w.alloc (.cells #[.int .i64 a, .int .i64 b, .int .i64 c] 52) = w0 at *
    generalize hgp : w.heap.size = gp at *
    have HGP := Lib.hid hgp
    have hgp0 := hgb
    have hcI0 := hcI2
    clear hgp hgb hcI2
    refine wp_region_vals (by kernel_rfl) 9 (by decide) rfl (fun i => match i with | 0 => (.slice (some ⟨gi, oi, none⟩) N ci) | 1 => (.pointer (some ⟨gp, 0, none⟩)) | 2 => (.int .i64 (a : Int)) | 3 => (.pointer (some ⟨gi, oi + a * 128, none⟩)) | 4 => (.agg (IV .u8 (S a))) | 5 => (.agg (IV .i64 ps)) | 6 => (.pointer (some ⟨gp, 1, none⟩)) | 7 => (.int .i64 (b : Int)) | _ => (.int .i64 (nth ps b))) ?_ ?_
    · intro i' o ho0 ho a' w' hB hS hF
      have hi' : i' = 0 ∨ i' = 1 ∨ i' = 2 ∨ i' = 3 ∨ i' = 4 ∨ i' = 5 ∨ i' = 6 ∨ i' = 7 ∨ i' = 8 := by omega
      have hgp0 := (hop hB hgp0).1
      have hcI0 := (hop hB hcI0).1
      rcases hi' with rfl | rfl | rfl | rfl | rfl | rfl | rfl | rfl | rfl
      all_goals (have ho' := Option.some.inj ho; subst ho')
      · have q0 : a'.tmps[0]?.getD undef = (.slice (some ⟨gi, oi, none⟩) N ci) := gtx ((hS 0 (by decide)).trans rfl)
        refine wpOp_val_g rfl (wanted_free rfl) ?_ ⟨rfl, hB⟩
        simp [go_sem, q0]
      · have q5 : a'.tmps[5]?.getD undef = (.pointer (some ⟨gp, 0, none⟩)) := gtx ((hS 5 (by decide)).trans rfl)
        refine wpOp_val_g rfl (wanted_free rfl) ?_ ⟨rfl, hB⟩
        simp [go_sem, q5]
      · have q14 := gtx (hF 1 (by decide) _ 14 rfl rfl)
        refine wpOp_val_g rfl (wanted_free rfl) ?_ ⟨rfl, hB⟩
        simp [go_sem, q14, hgp0]
      · have q13 := gtx (hF 0 (by decide) _ 13 rfl rfl)
        have q15 := gtx (hF 2 (by decide) _ 15 rfl rfl)
        refine wpOp_val_g rfl (wanted_free rfl) ?_ ⟨rfl, hB⟩
        simp [go_sem, q13, q15, ha0, ha1, ha]
      · have q16 := gtx (hF 3 (by decide) _ 16 rfl rfl)
        refine wpOp_val_g rfl (wanted_free rfl) ?_ ⟨rfl, hB⟩
        simp [go_sem, q16, hcI0, hlI]
      · have q17 := gtx (hF 4 (by decide) _ 17 rfl rfl)
        refine wpOp_call_g (f := 42) (args := #[.agg (IV .u8 (S a))]) rfl (wanted_free rfl) (by simp [go_sem, q17]) (HCP.out _) ?_
        rintro e w'' ⟨rfl, hb'⟩
        exact ⟨_, rfl, rfl, below_call hB hb' hB.size⟩
      · have q5 : a'.tmps[5]?.getD undef = (.pointer (some ⟨gp, 0, none⟩)) := gtx ((hS 5 (by decide)).trans rfl)
        refine wpOp_val_g rfl (wanted_free rfl) ?_ ⟨rfl, hB⟩
        simp [go_sem, q5]
      · have q19 := gtx (hF 6 (by decide) _ 19 rfl rfl)
        refine wpOp_val_g rfl (wanted_free rfl) ?_ ⟨rfl, hB⟩
        simp [go_sem, q19, hgp0]
      · have q18 := gtx (hF 5 (by decide) _ 18 rfl rfl)
        have q20 := gtx (hF 7 (by decide) _ 20 rfl rfl)
        refine wpOp_val_g rfl (wanted_free rfl) ?_ ⟨rfl, hB⟩
        simp [go_sem, q18, q20, hix]
    · intro w5 hB5
      simp only [putAll, List.take, List.drop, List.take_succ_cons, List.drop_succ_cons, Act.put, List.setIfInBounds_toArray, List.set_cons_zero, List.set_cons_succ]
      go_wp2_with fail
      go_ret
      exact ⟨congrArg (fun x => Ending.returned (.int .i64 x)) HST.out.symm, by rw [HGP.out]; exact below_call HB1.out hB5 (by have := HB1.out.size; have := HGP.out; omega)⟩
  · go_wp2_with fail
    refine (HCI.out _).mono ?_; rintro e w1 ⟨rfl, hb1⟩
    have hB0 : Below w.heap.size w (w.alloc (.cells #[.int .i64 a, .int .i64 b, .int .i64 c] 52)) := (Below.refl _ _).alloc (Nat.le_refl _) _
    have hB1 := below_call hB0 hb1 hB0.size
    have hg1 := (hop hb1 hgb).1
    obtain ⟨raw, hraw⟩ : ∃ raw, (rdInoR (S a)).1 = raw := ⟨_, rfl⟩
    have hr18 : raw.length = 18 := by rw [← hraw]; exact rdInoR_length _
    have hst : stoodR S Y ((a : Int), (b : Int), c) = if b = 12 then nth raw 16 else if b = 13 then nth raw 17 else nth raw (4 + b) := by
      unfold stoodR
      simp only [Int.toNat_natCast]
      rw [if_neg (Int.not_lt.2 hY), hraw]
      have e1 : ((b : Int) = 12) = (b = 12) := propext (by omega)
      have e2 : ((b : Int) = 13) = (b = 13) := propext (by omega)
      simp only [e1, e2]
    rw [HRES.out] at hst
    rw [hraw]
    rw [if_neg (Int.not_lt.2 hY)] at hb
    have HST := Lib.hid hst
    have hgx := (hopN w1 (.cells (IV .i64 raw) 45)).1
    have hB2 : Below w.heap.size w (w1.alloc (.cells (IV .i64 raw) 45)) := hB1.alloc hB1.size _
    have hg2 := (hopA w1 (.cells (IV .i64 raw) 45) hg1).1
    have hg1l := hat_lt hg1
    have HB2 := Lib.hid hB2
    clear hB0 hb1 hB1 hB2 hcI hcIl hlI HCI HCP hgb hst
    go_upto_region 4 with fail
    generalize w1.alloc (.cells (IV .i64 raw) 45) = w2 at *
    generalize w1.heap.size = gx at *
    generalize hgp : w.heap.size = gp at *
    have HGP := Lib.hid hgp
    clear hgp
    have hgxl := hat_lt hgx
    have hg2l := hat_lt hg2
    clear hg1
    have hc16 : (IV .i64 raw)[16]? = some (.int .i64 (nth raw 16)) := by rw [IV_get?, nth_getElem? (by omega)]; rfl
    have hc17 : (IV .i64 raw)[17]? = some (.int .i64 (nth raw 17)) := by rw [IV_get?, nth_getElem? (by omega)]; rfl
    have hcb : (IV .i64 raw)[4 + b]? = some (.int .i64 (nth raw (4 + b))) := by rw [IV_get?, nth_getElem? (by omega)]; rfl
    by_cases h12 : b = 12
    · have hst := HST.out
      rw [if_pos h12] at hst
      subst h12
      go_wp2_with fail
      go_ret
      first | exact ⟨rfl, by rw [HGP.out]; exact HB2.out⟩ | exact ⟨congrArg (fun x => Ending.returned (.int .i64 x)) hst.symm, by rw [HGP.out]; exact HB2.out⟩
    · by_cases h13 : b = 13
      · have hst := HST.out
        rw [if_neg h12, if_pos h13] at hst
        subst h13
        go_wp2_with fail
        go_ret
        first | exact ⟨rfl, by rw [HGP.out]; exact HB2.out⟩ | exact ⟨congrArg (fun x => Ending.returned (.int .i64 x)) hst.symm, by rw [HGP.out]; exact HB2.out⟩
      · have hst := HST.out
        rw [if_neg h12, if_neg h13] at hst
        have d12 : ((b : Int) == 12) = false := by simp; omega
        have d13 : ((b : Int) == 13) = false := by simp; omega
        have hb12 : b < 12 := by omega
        have hb12i : (b : Int) < 12 := by omega
        go_wp2_with fail
        go_ret
        first | exact ⟨rfl, by rw [HGP.out]; exact HB2.out⟩ | exact ⟨congrArg (fun x => Ending.returned (.int .i64 x)) hst.symm, by rw [HGP.out]; exact HB2.out⟩
end Go.Proofs.YthioepdgnbdohaaGreat

/- Nothing comes from nowhere: plain, for the law's walk. -/
namespace Go.Proofs.YthioepdgnbdohaaGreat
set_option linter.unusedSimpArgs false
set_option linter.unusedVariables false
open Go.RowKit

theorem mem_rowL {at' : Int} {ps : List Int} {x : Pt} (h : x ∈ rowL at' ps) : ∃ k : Nat, k < ps.length ∧ x = (at', (k : Int), nth ps k) := by
  unfold rowL at h
  obtain ⟨y, hy, rfl⟩ := List.mem_map.1 h
  obtain ⟨k, hk⟩ := List.mem_iff_getElem?.1 hy
  rw [List.getElem?_zipIdx] at hk
  cases hp : ps[k]? with
  | none => rw [hp] at hk; cases hk
  | some p =>
    rw [hp] at hk
    have e : y = (p, 0 + k) := (Option.some.inj hk).symm
    subst e
    refine ⟨k, (List.getElem?_eq_some_iff.1 hp).1, ?_⟩
    show (at', ((0 + k : Nat) : Int), p) = _
    rw [Nat.zero_add]
    congr 2
    show p = (ps[k]?).getD 0
    rw [hp]; rfl
theorem mem_dirP {i : Int} {raw : List Int} {k : Nat} {x : Pt} (h : x ∈ dirP i raw k) : ∃ j : Nat, j < k ∧ x = (i, (j : Int), nth raw (4 + j)) := by
  unfold dirP at h
  obtain ⟨j, hj, rfl⟩ := List.mem_map.1 h
  exact ⟨j, List.mem_range.1 hj, rfl⟩
theorem mem_dbtP {S : Nat → List Int} {at' : Int} {ps : List Int} {x : Pt} : ∀ {k : Nat}, x ∈ dbtP S at' ps k → ∃ j : Nat, j < k ∧ (x = (at', (j : Int), nth ps j) ∨ x ∈ hangP S (nth ps j))
  | 0, h => by cases h
  | k + 1, h => by
    rcases List.mem_append.1 (show x ∈ dbtP S at' ps k ++ (at', (k : Int), nth ps k) :: hangP S (nth ps k) from h) with h | h
    · obtain ⟨j, h1, h2⟩ := mem_dbtP h
      exact ⟨j, by omega, h2⟩
    · rcases List.mem_cons.1 h with h | h
      · exact ⟨k, by omega, .inl h⟩
      · exact ⟨k, by omega, .inr h⟩
theorem mem_hangP {S : Nat → List Int} {p : Int} {x : Pt} (h : x ∈ hangP S p) : p ≠ 0 ∧ ∃ k : Nat, k < 32 ∧ x = (p, (k : Int), nth (rdPtr (S p.toNat)) k) := by
  unfold hangP at h
  split at h
  · cases h
  · rename_i hp
    obtain ⟨k, h1, h2⟩ := mem_rowL h
    exact ⟨hp, k, by simpa using h1, h2⟩
/-- each pointer of an inode: in it, or in a table of it -/
theorem foll_tabs (n : Int) {S : Nat → List Int} {i : Int} {raw : List Int} {x : Pt} (h : x ∈ follL S i raw) :
    (∃ j : Nat, j < 14 ∧ x = (i, (j : Int), nth raw (4 + j))) ∨ ∃ (p : Int) (k : Nat), k < 32 ∧ p ∈ inoTb n S raw ∧ x = (p, (k : Int), nth (rdPtr (S p.toNat)) k) := by
  unfold follL at h
  rcases List.mem_append.1 h with h | h
  · rcases List.mem_append.1 h with h | h
    · rcases List.mem_append.1 h with h | h
      · obtain ⟨j, h1, h2⟩ := mem_dirP h
        exact .inl ⟨j, by omega, h2⟩
      · simp only [List.mem_cons, List.not_mem_nil, or_false] at h
        rcases h with h | h
        · exact .inl ⟨12, by omega, h⟩
        · exact .inl ⟨13, by omega, h⟩
    · obtain ⟨hp, k, h1, h2⟩ := mem_hangP h
      refine .inr ⟨_, k, h1, ?_, h2⟩
      unfold inoTb
      refine List.mem_append_right _ (List.mem_append_left _ ?_)
      show nth raw 16 ∈ (if nth raw 16 = 0 then [] else nth raw 16 :: (fRow 12).tb S 0 (rdPtr (S (nth raw 16).toNat))) ++ []
      rw [if_neg hp]
      simp
  · have hd : ∀ q, q ∈ (if nth raw 17 = 0 then [] else nth raw 17 :: (fDblRow n).tb S 0 (rdPtr (S (nth raw 17).toNat))) ++ [] → q ∈ inoTb n S raw := fun q hq => by
      unfold inoTb
      exact List.mem_append_right _ (List.mem_append_right _ hq)
    unfold dblA at h
    split at h
    · cases h
    · rename_i hp
      rw [if_neg hp] at hd
      obtain ⟨j, h1, h2⟩ := mem_dbtP h
      rcases h2 with h2 | h2
      · exact .inr ⟨_, j, h1, hd _ (by simp), h2⟩
      · obtain ⟨hq, k, h3, h4⟩ := mem_hangP h2
        refine .inr ⟨_, k, h3, hd _ ?_, h4⟩
        rw [List.append_nil]
        refine List.mem_cons_of_mem _ ?_
        have gen : ∀ (ps : List Int) (k0 j : Nat), nth ps j ≠ 0 → nth ps j ∈ (fDblRow n).tb S k0 ps := by
          intro ps
          induction ps with
          | nil => intro k0 j hj; exact absurd rfl hj
          | cons p r ih =>
            intro k0 j hj
            show _ ∈ (if p = 0 then [] else p :: (fRow (44 + 32 * (k0 : Int))).tb S 0 (rdPtr (S p.toNat))) ++ (fDblRow n).tb S (k0 + 1) r
            cases j with
            | zero =>
              rw [nth_cons0] at hj ⊢
              rw [if_neg hj]
              simp
            | succ j =>
              rw [nth_consS] at hj ⊢
              exact List.mem_append_right _ (ih (k0 + 1) j hj)
        exact gen _ 0 j hq
theorem wipe_nth {s : List Int} {k b : Nat} (h : b < k) (hk : k ≤ s.length) : nth (wipeL s k) b = nth s b := by
  unfold wipeL nth
  rw [List.getElem?_append_left (by simp; omega), List.getElem?_take, if_pos h]
/-- what of an image should be stood in it -/
structure KeepsP (N Yn : Nat) (S W : Nat → List Int) : Prop where
  y1 : 1 ≤ Yn
  yN : Yn < N
  n9 : N ≤ 4096
  sup : (rdSupR (S 0)).2.1 = (Yn : Int)
  aims : ∀ i, 1 ≤ i → i ≤ Yn → nth (wI W i) 0 ≠ 0 → Aims N W (wI W i) ∧ 0 ≤ nth (wI W i) 2 ∧ nth (wI W i) 2 ≤ 136704
  ino : ∀ i, 1 ≤ i → i ≤ Yn → nth (wI W i) 0 ≠ 0 → (rdInoR (S i)).2 = 0 ∧ nth (rdInoR (S i)).1 0 = nth (wI W i) 0 ∧ nth (rdInoR (S i)).1 2 = nth (wI W i) 2 ∧ nth (rdInoR (S i)).1 3 = nth (wI W i) 3
  pts : ∀ i, 1 ≤ i → i ≤ Yn → nth (wI W i) 0 ≠ 0 → ∀ (j : Nat) (a b c : Int), (follL W i (wI W i))[j]? = some (a, b, c) → c ≠ 0 → ∃ an bn : Nat, a = an ∧ b = bn ∧ an < N ∧ (if (Yn : Int) < an then bn < 32 else bn < 14) ∧ stoodR S Yn (a, b, c) = c
  blk : ∀ i, 1 ≤ i → i ≤ Yn → nth (wI W i) 0 ≠ 0 → ∀ j : Nat, (j : Int) < cntX (nth (wI W i) 2) → follB W (wI W i) j = 0 ∨ ∃ p : Nat, follB W (wI W i) j = p ∧ p ≠ 0 ∧ p < N ∧ (nth (wI W i) 0 = 2 → W p = zl 128 ∨ W p = S p) ∧ (nth (wI W i) 0 ≠ 2 → ∀ b : Nat, b < 128 → 128 * (j : Int) + b < nth (wI W i) 2 → nth (W p) b = nth (S p) b)
theorem look_keepsP {N : Nat} {S : Nat → List Int} (hS : ∀ j, j < N → (S j).length = 128 ∧ Bytes (S j)) (he : lookE N S = 0) : ∃ Yn : Nat, KeepsP N Yn S (repS (rdSupR (S 0)).2.1 (lookZ N (rdSupR (S 0)).2.1 S)) := by
  obtain ⟨h8, h9, hs0, hs1, hr⟩ := lookE_ok he
  obtain ⟨Yn', hu⟩ := look_uses hS he
  have hmay := (sup_one hs0).1
  obtain ⟨hx, hy, hxy⟩ := hmay
  rw [hs1] at hxy
  generalize hYe : (rdSupR (S 0)).2.1 = Y at *
  have hA : ∀ j : Nat, isD N Y j = true → (S j).length = 128 ∧ Bytes (S j) := fun j hj => hS j (by
    unfold isD at hj
    have := of_decide_eq_true hj
    omega)
  obtain ⟨L, h⟩ := look_wz (X := N) hy.1 (by omega) hA hr
  generalize hz : lookZ (N : Int) Y S = z at *
  have ho := out_w h
  have hY : 0 ≤ Y := by omega
  have hYn : Y = (Yn' : Int) := by
    have hW0 : repS Y z 0 = S 0 := by
      rw [repS_else z (by omega)]
      refine h.w.inv.si.un 0 ?_
      cases hb : (bare z.st).cl ((0 : Nat) : Int) with
      | false => rfl
      | true =>
        have := h.w.inv.si.cd _ hb
        unfold isD at this
        have := of_decide_eq_true this
        omega
    have h1 := hu.sup
    rw [hW0, hYe] at h1
    exact h1
  generalize repS Y z = W at *
  subst hYn
  refine ⟨Yn', hu.y1, hu.yN, hu.n9, hYe, hu.aims, fun i i1 i2 hk => ?_, fun i i1 i2 hk j a b c hj hc => ?_, fun i i1 i2 hk j hj => ?_⟩
  · obtain ⟨t, ht⟩ := wI_taken ho i1 (by omega) hk
    obtain ⟨s1, s2, s3, s4, s5, s6⟩ := h.w.inv.snd i t ht
    obtain ⟨m1, m2⟩ := sound_may s1
    refine ⟨?_, ?_, ?_, ?_⟩
    · unfold soundR at s1
      simp at s1
      exact s1.1
    · rw [(wI_size ho ht).1, s3]
    · rw [(wI_size ho ht).2, s4]
    · rw [(ho.yes i t ht).1, nth_set_ne _ _ (by decide), s5]
  · obtain ⟨t, ht⟩ := wI_taken ho i1 (by omega) hk
    obtain ⟨s1, s2, s3, s4, s5, s6⟩ := h.w.inv.snd i t ht
    have hm := List.mem_of_getElem? hj
    rcases foll_tabs (cntX (nth t.raw 2)) hm with ⟨j', j1, e⟩ | ⟨p, k, k1, k2, e⟩
    · injection e with e1 e2
      injection e2 with e2 e3
      subst e1; subst e2
      have hc2 : c = nth (rdInoR (S i)).1 (4 + j') := by
        rw [(ho.yes i t ht).1, nth_set_ne _ _ (by omega)] at e3
        rcases s6 (4 + j') (by omega) with e4 | e4
        · rw [e3, e4]
        · exact absurd (e3.trans e4) hc
      refine ⟨i, j', rfl, rfl, by have := hu.yN; omega, by rw [if_neg (by omega)]; exact j1, ?_⟩
      unfold stoodR
      simp only [Int.toNat_natCast]
      rw [if_neg (by omega)]
      by_cases h12 : j' = 12
      · subst h12
        rw [if_pos (show ((12 : Nat) : Int) = 12 from rfl)]; exact hc2.symm
      · rw [if_neg (by omega)]
        by_cases h13 : j' = 13
        · subst h13
          rw [if_pos (show ((13 : Nat) : Int) = 13 from rfl)]; exact hc2.symm
        · rw [if_neg (by omega)]
          exact hc2.symm
    · have k3 : p ∈ tbT z.st.S t := by
        rw [← (out_pt hY h ho ht).2.2.2]
        have e0 : inoTb (cntX (nth t.raw 2)) W (wI W i) = inoTb (cntX (nth t.raw 2)) W t.raw := by
          rw [(ho.yes i t ht).1]
          unfold inoTb
          rw [dirL_set, nth_set_ne _ _ (by decide), nth_set_ne _ _ (by decide)]
        rw [← e0]; exact k2
      have hd := ((h.w.pz.ok i t ht).1 p (ino_tp _ _ _ p k3)).1
      obtain ⟨hp, hp0⟩ := isD_nat hY hd
      injection e with e1 e2
      injection e2 with e2 e3
      subst e1; subst e2
      have hdd := hd
      unfold isD at hdd
      have hdd := of_decide_eq_true hdd
      have hf := (h.w.pz.tb i t ht a k3).1
      have hsub := h.w.inv.si.sub a.toNat (by rw [hp]; exact hf)
      have hWa : W a.toNat = z.st.S a.toNat := ho.d _ (by rw [hp]; exact hd)
      refine ⟨a.toNat, k, hp.symm, rfl, by omega, by rw [hp, if_pos (by omega)]; exact k1, ?_⟩
      unfold stoodR
      simp only [Int.toNat_natCast]
      rw [if_pos (by omega)]
      rcases hsub k with e4 | e4
      · rw [e3, hWa]; exact e4.symm
      · exact absurd (e3.trans ((congrArg (fun s => nth (rdPtr s) k) hWa).trans e4)) hc
  · obtain ⟨t, ht⟩ := wI_taken ho i1 (by omega) hk
    obtain ⟨c1, c2, c3, c4⟩ := cnt_le h ht
    obtain ⟨e0, e2⟩ := wI_size ho ht
    have hj8 : j < 1068 := by rw [e2] at hj; unfold cntX at hj; omega
    have hbk := (out_pt hY h ho ht).2.2.1 j hj8
    rw [follB_is W (wI W i) hj8]
    by_cases hp0 : blkW W (wI W i) j = 0
    · exact .inl hp0
    · right
      unfold optI at hbk
      rw [if_neg hp0] at hbk
      generalize blkW W (wI W i) j = p at *
      have hd := (h.w.inv.blk i t _ p ht hbk).1
      have hp := (isD_nat hY hd).1
      have hdd := hd
      unfold isD at hdd
      have hdd := of_decide_eq_true hdd
      have hb := h.w.cz.b i t ht _ p hbk
      have hWp : W p.toNat = z.st.S p.toNat := ho.d _ (by rw [hp]; exact hd)
      have hl := (hA p.toNat (by rw [hp]; exact hd)).1
      refine ⟨p.toNat, hp.symm, by omega, by omega, fun h2 => ?_, fun h2 b b1 b2 => ?_⟩
      · unfold BlkIs at hb
        rw [e0] at h2
        rw [if_pos h2] at hb
        rw [hWp]
        exact hb.symm
      · unfold BlkIs at hb
        rw [e0] at h2
        rw [if_neg h2] at hb
        rw [hWp, hb]
        split
        · rename_i hl2
          refine wipe_nth ?_ (by rw [hl]; omega)
          rw [e2] at b2
          have hj2 := hl2.1
          unfold cntX at hj2
          omega
        · rfl
end Go.Proofs.YthioepdgnbdohaaGreat
