/- A region that draws its order, taken operation by operation: whatever the order, each operation of its first part meets what it needs, and the rest comes behind all of these. -/
import Derived.Test.YteffoihkljkfdaaDoorBk
namespace Go.Proofs.YteffoihkljkfdaaDoor
set_option linter.unusedSimpArgs false
set_option linter.unusedVariables false
open Go.RowKit

/-- what a slot holds -/
def gt (a : Act) (t : Nat) : Value := a.tmps.getD t undef
theorem gtx {a : Act} {t : Nat} {v : Value} (h : gt a t = v) : a.tmps[t]?.getD undef = v := by simpa [gt] using h
theorem gt_put_ne (a : Act) (d : Option Tmp) (v : Value) (t : Nat) (h : d ≠ some t) : gt (a.put d v) t = gt a t := by
  cases d with
  | none => rfl
  | some d =>
    have hn : d ≠ t := fun e => h (by rw [e])
    simp [gt, Act.put, Array.getElem?_setIfInBounds_ne hn]
theorem gt_put_eq (a : Act) (d : Tmp) (v : Value) (h : d < a.tmps.size) : gt (a.put (some d) v) d = v := by
  simp [gt, Act.put, h]
theorem size_put (a : Act) (d : Option Tmp) (v : Value) : (a.put d v).tmps.size = a.tmps.size := by
  cases d <;> simp [Act.put]
theorem defers_put (a : Act) (d : Option Tmp) (v : Value) : (a.put d v).defers = a.defers := by
  cases d <;> rfl

/-- the slots that a region writes -/
def dsts (l : List Oper) : List Nat := l.filterMap (·.dst)
def Oper.needs (o : Oper) : List Nat := (o.after.toList.filter (Region.binds .any ·)).map (·.on)

/-- closed facts on a region: edges lead back; behind the first N each waits for all ahead of it; no slot is written twice in the first part -/
def regionOk (ops : Array Oper) (N : Nat) : Bool :=
  (ops.toList.zipIdx.all fun (o, i) => (Oper.needs o).all (· < i) && (i < N || (List.range i).all fun j => (Oper.needs o).contains j)) &&
  N ≤ ops.size &&
  ((dsts (ops.toList.take N)).Nodup : Bool)

theorem ready_mem {ops : Array Oper} {L : Array Bool} {i : Nat} (hL : L.size = ops.size) (h : i ∈ Region.ready .any ops L) :
    ∃ o, ops[i]? = some o ∧ L.getD i true = false ∧ ∀ j ∈ Oper.needs o, L.getD j false = true := by
  unfold Region.ready at h
  simp only [List.mem_filter, List.mem_range, Bool.and_eq_true, Bool.not_eq_true'] at h
  obtain ⟨hi, h1, h2⟩ := h
  refine ⟨ops[i], by simp [hi], h1, ?_⟩
  intro j hj
  simp only [Array.getElem?_eq_getElem hi, Option.map_some, Option.getD_some, Array.all_eq_true_iff_forall_mem] at h2
  unfold Oper.needs at hj
  simp only [List.mem_map, List.mem_filter, Array.mem_toList_iff] at hj
  obtain ⟨e, ⟨he, hb⟩, rfl⟩ := hj
  have := h2 e he
  simpa [hb] using this

theorem ready_of {ops : Array Oper} {L : Array Bool} {i : Nat} {o : Oper} (hi : ops[i]? = some o) (h1 : L.getD i true = false) (h2 : ∀ j ∈ Oper.needs o, L.getD j false = true) :
    i ∈ Region.ready .any ops L := by
  unfold Region.ready
  have hlt : i < ops.size := (Array.getElem?_eq_some_iff.1 hi).1
  simp only [List.mem_filter, List.mem_range, Bool.and_eq_true, Bool.not_eq_true', hi, Option.map_some, Option.getD_some, Array.all_eq_true_iff_forall_mem]
  refine ⟨hlt, h1, fun e he => ?_⟩
  by_cases hb : Region.binds .any e = true
  · have := h2 e.on (by unfold Oper.needs; simp only [List.mem_map, List.mem_filter, Array.mem_toList_iff]; exact ⟨e, ⟨he, hb⟩, rfl⟩)
    simp [this]
  · simp [hb]

section
variable {P : Program} {ops : Array Oper} {N : Nat} {Q : Exit → Act → World → Prop}

theorem regionOk_spec (h : regionOk ops N = true) : (∀ i o, ops[i]? = some o → ∀ j ∈ Oper.needs o, j < i) ∧ (∀ i o, ops[i]? = some o → N ≤ i → ∀ j, j < i → j ∈ Oper.needs o) ∧ N ≤ ops.size ∧ (dsts (ops.toList.take N)).Nodup := by
  unfold regionOk at h
  simp only [Bool.and_eq_true, List.all_eq_true, decide_eq_true_eq] at h
  obtain ⟨⟨h1, h2⟩, h3⟩ := h
  have key : ∀ i o, ops[i]? = some o → (∀ x ∈ Oper.needs o, x < i) ∧ (i < N ∨ ∀ j < i, j ∈ Oper.needs o) := by
    intro i o hi
    have := h1 (o, i) (by simp [List.mem_zipIdx_iff_getElem?, hi])
    simpa using this
  refine ⟨fun i o hi => (key i o hi).1, fun i o hi hN j hj => ?_, h2, h3⟩
  rcases (key i o hi).2 with h | h
  · omega
  · exact h j hj

/-- behind the first part there is one order -/
theorem wpAny_tail (hok : regionOk ops N = true) : ∀ (fuel k : Nat) (L : Array Bool) (a : Act) (w : World), N ≤ k → k ≤ ops.size → ops.size - k ≤ fuel → L.size = ops.size →
    (∀ j, j < ops.size → L.getD j true = decide (j < k)) → wpList P ops Q (ops.toList.drop k) a w → wpAny P .any ops Q fuel L a w := by
  obtain ⟨hb, ht, -, -⟩ := regionOk_spec hok
  intro fuel
  induction fuel with
  | zero =>
    intro k L a w hN hk hf hL hLk h
    have : k = ops.size := by omega
    subst this
    refine ⟨?_, by rw [List.drop_of_length_le (by simp)] at h; exact h⟩
    apply List.eq_nil_iff_forall_not_mem.2
    intro i hi
    obtain ⟨o, ho, h1, -⟩ := ready_mem hL hi
    have hlt : i < ops.size := (Array.getElem?_eq_some_iff.1 ho).1
    rw [hLk i hlt] at h1
    simp at h1; omega
  | succ fuel ih =>
    intro k L a w hN hk hf hL hLk h
    refine ⟨?_, ?_⟩
    · intro hr
      by_cases hks : k = ops.size
      · subst hks; rw [List.drop_of_length_le (by simp)] at h; exact h
      · exfalso
        have hlt : k < ops.size := by omega
        have : k ∈ Region.ready .any ops L := by
          refine ready_of (o := ops[k]) (by simp [hlt]) (by rw [hLk k hlt]; simp) ?_
          intro j hj
          have hjk := hb k ops[k] (by simp [hlt]) j hj
          have := hLk j (by omega)
          have hjs : j < L.size := by omega
          simp [hjs] at this ⊢
          rw [this]; simpa using hjk
        rw [hr] at this; simp at this
    · intro i hi
      obtain ⟨o, ho, h1, h2⟩ := ready_mem hL hi
      have hlt : i < ops.size := (Array.getElem?_eq_some_iff.1 ho).1
      have hik : i = k := by
        rw [hLk i hlt] at h1
        simp at h1
        by_cases hgt : k < i
        · exfalso
          have := h2 k (ht i o ho (by omega) k hgt)
          have h3 := hLk k (by omega)
          have hks : k < L.size := by omega
          simp [hks] at this h3
          rw [this] at h3; simp at h3
        · omega
      subst hik
      have hd : ops.toList.drop i = o :: ops.toList.drop (i + 1) := by
        rw [List.drop_eq_getElem_cons (by simpa using hlt)]
        congr 1
        have := (Array.getElem?_eq_some_iff.1 ho).2
        simpa using this
      rw [hd] at h
      have hnext : ∀ a w, wpList P ops Q (ops.toList.drop (i + 1)) a w → wpAny P .any ops Q fuel (L.setIfInBounds i true) a w := by
        intro a w h
        refine ih (i + 1) _ a w (by omega) (by omega) (by omega) (by simpa using hL) ?_ h
        intro j hj
        have := hLk j hj
        have hjs : j < L.size := by omega
        by_cases hji : j = i
        · subst hji; simp [hjs]
        · simp [hjs, Array.getElem_setIfInBounds, Ne.symm hji] at this ⊢
          rw [this]
          simp; omega
      unfold wpOp
      simp only [ho]
      unfold wpList at h
      split
      · rename_i hw
        rw [if_pos hw] at h
        exact h.imp (Oper.wp_mono hnext) id
      · rename_i hw
        rw [if_neg hw] at h
        exact hnext _ _ h

def countF (L : Array Bool) : Nat := L.toList.countP (· == false)
theorem countF_set {L : Array Bool} {i : Nat} (h : L.getD i true = false) : countF (L.setIfInBounds i true) + 1 = countF L := by
  have hi : i < L.size := by
    by_cases hi : i < L.size
    · exact hi
    · simp [hi] at h
  have hv : L.toList[i]'(by simpa using hi) = false := by simpa [hi] using h
  unfold countF
  rw [Array.toList_setIfInBounds]
  have h2 := List.take_append_drop i L.toList
  have h3 : L.toList.drop i = false :: L.toList.drop (i + 1) := by
    rw [List.drop_eq_getElem_cons (by simpa using hi), hv]
  have h4 : L.toList.set i true = L.toList.take i ++ true :: L.toList.drop (i + 1) := by
    rw [List.set_eq_take_append_cons_drop, if_pos (by simpa using hi)]
  rw [h4]
  conv => rhs; rw [← h2, h3]
  simp [List.countP_append, List.countP_cons]
  omega

structure SameBut (ops : Array Oper) (N : Nat) (a a' : Act) : Prop where
  size : a'.tmps.size = a.tmps.size
  defers : a'.defers = a.defers
  other : ∀ t, t ∉ dsts (ops.toList.take N) → gt a' t = gt a t

/-- THE LAW: 'G i v w': what operation i's value is good for, wherever it comes to stand in the order. -/
theorem wp_region_facts {id : Nat} {a : Act} {w : World} (hm : P.follows .mixedOrders = true) (N : Nat) (hok : regionOk ops N = true)
    (hsz : (dsts (ops.toList.take N)).all (· < a.tmps.size) = true)
    (I : World → Prop) (E : World → World → Prop) (G : Nat → Value → World → Prop)
    (h0 : I w.drew)
    (hE : ∀ i v w w', i < N → I w → I w' → E w w' → G i v w → G i v w')
    (hs : ∀ i o, i < N → ops[i]? = some o → ∀ a' w', I w' → SameBut ops N a a' →
      (∀ j ∈ Oper.needs o, ∀ oj d, ops[j]? = some oj → oj.dst = some d → G j (gt a' d) w') →
      wpOp P ops Q i (fun a'' w'' => ∃ v, a'' = a'.put o.dst v ∧ I w'' ∧ E w' w'' ∧ G i v w'') a' w')
    (he : ∀ a' w', I w' → SameBut ops N a a' → (∀ j oj d, j < N → ops[j]? = some oj → oj.dst = some d → G j (gt a' d) w') →
      wpList P ops Q (ops.toList.drop N) a' w') :
    (Code.region id ops true).wp P Q a w := by
  obtain ⟨hb, ht, hNs, hnd⟩ := regionOk_spec hok
  refine wp_region_any hm ?_
  have key : ∀ (fuel : Nat) (L : Array Bool) (a' : Act) (w' : World), L.size = ops.size → countF L ≤ fuel → (∀ j, N ≤ j → j < ops.size → L.getD j true = false) →
      I w' → SameBut ops N a a' → (∀ j oj d, j < N → L.getD j true = true → ops[j]? = some oj → oj.dst = some d → G j (gt a' d) w') → wpAny P .any ops Q fuel L a' w' := by
    intro fuel
    induction fuel with
    | zero =>
      intro L a' w' hL hf htl hI hS hG
      have hall : ∀ j, j < ops.size → L.getD j true = true := by
        intro j hj
        cases hv : L.getD j true with
        | true => rfl
        | false => have := countF_set hv; omega
      have hN : N = ops.size := by
        by_cases h : N < ops.size
        · have := htl N (Nat.le_refl _) h
          rw [hall N h] at this; simp at this
        · omega
      refine wpAny_tail hok 0 N L a' w' (Nat.le_refl _) (by omega) (by omega) hL (fun j hj => by rw [hall j hj]; simp; omega) ?_
      exact he a' w' hI hS (fun j oj d hj ho hd => hG j oj d hj (hall j (by omega)) ho hd)
    | succ fuel ih =>
      intro L a' w' hL hf htl hI hS hG
      by_cases hall : ∀ j, j < N → L.getD j true = true
      · refine wpAny_tail hok (fuel + 1) N L a' w' (Nat.le_refl _) hNs ?_ hL ?_ (he a' w' hI hS (fun j oj d hj ho hd => hG j oj d hj (hall j hj) ho hd))
        · -- the rest are all unlisted
          have : ∀ (n : Nat) (l : List Bool), (∀ j, n ≤ j → j < l.length → l[j]? = some false) → l.length - n ≤ l.countP (· == false) := by
            intro n
            induction n with
            | zero =>
              intro l
              induction l with
              | nil => intro _; simp
              | cons b l ihl =>
                intro h
                have h0 := h 0 (Nat.le_refl _) (by simp)
                simp at h0
                subst h0
                have := ihl (fun j _ hj => by have := h (j + 1) (by omega) (by simp; omega); simpa using this)
                simp at this ⊢
                omega
            | succ n ihn =>
              intro l
              cases l with
              | nil => intro _; simp
              | cons b l =>
                intro h
                have := ihn l (fun j hj hjl => by have := h (j + 1) (by omega) (by simp; omega); simpa using this)
                simp [List.countP_cons] at this ⊢
                omega
          have h2 := this N L.toList (fun j hj hjl => by
            have hjs : j < L.size := by simpa using hjl
            have := htl j hj (by omega)
            simp [hjs] at this ⊢
            exact this)
          unfold countF at hf
          simp at h2
          simp at hf
          omega
        · intro j hj
          by_cases hjN : j < N
          · rw [hall j hjN]; simp [hjN]
          · rw [htl j (by omega) hj]; simp [hjN]
      · refine ⟨?_, ?_⟩
        · intro hr
          exfalso
          -- the least unlisted one is ready
          have hex : ∃ j, j < N ∧ L.getD j true = false := by
            false_or_by_contra
            rename_i hne
            apply hall
            intro j hj
            cases hv : L.getD j true with
            | true => rfl
            | false => exact (hne ⟨j, hj, hv⟩).elim
          have least : ∀ n, (∃ j, j < n ∧ j < N ∧ L.getD j true = false) → ∃ j, j < N ∧ L.getD j true = false ∧ ∀ k, k < j → L.getD k true = true := by
            intro n
            induction n with
            | zero => rintro ⟨j, hj, _⟩; omega
            | succ n ihn =>
              rintro ⟨j, hj, hjN, hv⟩
              by_cases hlow : ∃ k, k < j ∧ L.getD k true = false
              · obtain ⟨k, hk, hkv⟩ := hlow
                exact ihn ⟨k, by omega, by omega, hkv⟩
              · refine ⟨j, hjN, hv, fun k hk => ?_⟩
                cases hkv : L.getD k true with
                | true => rfl
                | false => exact (hlow ⟨k, hk, hkv⟩).elim
          obtain ⟨j0, hj0, hv0⟩ := hex
          obtain ⟨j, hjN, hv, hlow⟩ := least (j0 + 1) ⟨j0, by omega, hj0, hv0⟩
          have hlt : j < ops.size := by omega
          have : j ∈ Region.ready .any ops L := by
            refine ready_of (o := ops[j]) (by simp [hlt]) hv ?_
            intro k hk
            have hkj := hb j ops[j] (by simp [hlt]) k hk
            have h3 := hlow k hkj
            have hks : k < L.size := by omega
            simp [hks] at h3 ⊢
            exact h3
          rw [hr] at this; simp at this
        · intro i hi
          obtain ⟨o, ho, h1, h2⟩ := ready_mem hL hi
          have hlt : i < ops.size := (Array.getElem?_eq_some_iff.1 ho).1
          have hiN : i < N := by
            by_cases h : i < N
            · exact h
            · exfalso
              apply hall
              intro j hj
              have := h2 j (ht i o ho (by omega) j (by omega))
              have hjs : j < L.size := by omega
              simp [hjs] at this ⊢
              exact this
          refine wpOp_mono ?_ (hs i o hiN ho a' w' hI hS ?_)
          · rintro a'' w'' ⟨v, rfl, hI', hE', hGi⟩
            have hidst : ∀ d, o.dst = some d → d ∈ dsts (ops.toList.take N) := by
              intro d hd
              unfold dsts
              refine List.mem_filterMap.2 ⟨o, ?_, hd⟩
              have hv := (Array.getElem?_eq_some_iff.1 ho).2
              rw [List.mem_take_iff_getElem]
              exact ⟨i, by simp; omega, by simpa using hv⟩
            refine ih _ _ _ (by simpa using hL) (by have := countF_set h1; omega) ?_ hI' ?_ ?_
            · intro j hj hjs
              have := htl j hj hjs
              have hjs' : j < L.size := by omega
              simp [hjs', Array.getElem_setIfInBounds, show i ≠ j by omega] at this ⊢
              exact this
            · refine ⟨by rw [size_put]; exact hS.size, by rw [defers_put]; exact hS.defers, ?_⟩
              intro t ht'
              rw [gt_put_ne]
              · exact hS.other t ht'
              · intro e; exact ht' (hidst t e)
            · intro j oj d hj hjL hoj hd
              by_cases hji : j = i
              · subst hji
                rw [ho] at hoj
                have hoe : o = oj := by simpa using hoj
                subst hoe
                rw [hd, gt_put_eq _ _ _ (by rw [hS.size]; simpa using (List.all_eq_true.1 hsz) d (hidst d hd))]
                exact hGi
              · have hjs' : j < L.size := by omega
                have hjL' : L.getD j true = true := by
                  simp [hjs', Array.getElem_setIfInBounds, Ne.symm hji] at hjL ⊢
                  exact hjL
                have hg := hG j oj d hj hjL' hoj hd
                rw [gt_put_ne]
                · exact hE j _ _ _ hj hI hI' hE' hg
                · intro e
                  -- two operations with one slot
                  have hne : ∀ (l : List Oper), (dsts l).Nodup → ∀ (i j : Nat) (oi oj : Oper) (d : Nat), l[i]? = some oi → l[j]? = some oj → oi.dst = some d → oj.dst = some d → i = j := by
                    intro l
                    induction l with
                    | nil => intro _ i j oi oj d hi; simp at hi
                    | cons x l ihl =>
                      intro hnd i j oi oj d hi hj hdi hdj
                      have hnd' : (dsts l).Nodup := by
                        unfold dsts at hnd ⊢
                        rw [List.filterMap_cons] at hnd
                        split at hnd
                        · exact hnd
                        · exact (List.nodup_cons.1 hnd).2
                      have hx : ∀ (j : Nat) (oj : Oper), l[j]? = some oj → oj.dst = some d → x.dst ≠ some d := by
                        intro j oj hj hdj hxd
                        unfold dsts at hnd
                        rw [List.filterMap_cons, hxd] at hnd
                        have := (List.nodup_cons.1 hnd).1
                        apply this
                        exact List.mem_filterMap.2 ⟨oj, List.mem_of_getElem? hj, hdj⟩
                      cases i with
                      | zero =>
                        simp at hi
                        subst hi
                        cases j with
                        | zero => rfl
                        | succ j => simp at hj; exact (hx j oj hj hdj hdi).elim
                      | succ i =>
                        simp at hi
                        cases j with
                        | zero => simp at hj; subst hj; exact (hx i oi hi hdi hdj).elim
                        | succ j => simp at hj; rw [ihl hnd' i j oi oj d hi hj hdi hdj]
                  have := hne (ops.toList.take N) hnd i j o oj d (by simp [List.getElem?_take, hiN, ho]) (by simp [List.getElem?_take, hj, hoj]) e hd
                  exact hji this.symm
          · intro j hj oj d hoj hd
            have hjL := h2 j hj
            have hji := hb i o ho j hj
            have hjs : j < L.size := by omega
            exact hG j oj d (by omega) (by simp [hjs] at hjL ⊢; exact hjL) hoj hd
  refine key ops.size (Array.replicate ops.size false) a { w with drawn := w.drawn + 1 } (by simp) ?_ ?_ h0 ⟨rfl, rfl, fun _ _ => rfl⟩ ?_
  · have := List.countP_le_length (p := (· == false)) (l := (Array.replicate ops.size false).toList)
    unfold countF; simpa using this
  · intro j _ hj; simp [hj]
  · intro j oj d hj hjL
    simp [show j < ops.size by omega] at hjL

/-- the values of a region's first part, laid into the frame -/
def putAll : List Oper → Nat → (Nat → Value) → Act → Act
  | [], _, _, a => a
  | o :: l, i, val, a => putAll l (i + 1) val (a.put o.dst (val i))
theorem putAll_size (l : List Oper) : ∀ (i : Nat) (val : Nat → Value) (a : Act), (putAll l i val a).tmps.size = a.tmps.size := by
  induction l with
  | nil => intro i val a; rfl
  | cons o l ih => intro i val a; rw [putAll, ih, size_put]
theorem putAll_defers (l : List Oper) : ∀ (i : Nat) (val : Nat → Value) (a : Act), (putAll l i val a).defers = a.defers := by
  induction l with
  | nil => intro i val a; rfl
  | cons o l ih => intro i val a; rw [putAll, ih, defers_put]
theorem putAll_gt (l : List Oper) : ∀ (i : Nat) (val : Nat → Value) (a a' : Act) (t : Nat), t < a.tmps.size → (∀ j oj d, l[j]? = some oj → oj.dst = some d → val (i + j) = gt a' d) →
    gt (putAll l i val a) t = if t ∈ dsts l then gt a' t else gt a t := by
  induction l with
  | nil => intro i val a a' t _ _; simp [putAll, dsts]
  | cons o l ih =>
    intro i val a a' t ht h
    rw [putAll, ih (i + 1) val _ a' t (by rw [size_put]; exact ht) (fun j oj d hj hd => by have := h (j + 1) oj d (by simpa using hj) hd; rw [← this]; congr 1; omega)]
    by_cases hin : t ∈ dsts l
    · have : t ∈ dsts (o :: l) := by
        unfold dsts at hin ⊢
        rw [List.filterMap_cons]
        split
        · exact hin
        · exact List.mem_cons_of_mem _ hin
      rw [if_pos hin, if_pos this]
    · rw [if_neg hin]
      by_cases hd : o.dst = some t
      · have : t ∈ dsts (o :: l) := by
          unfold dsts
          rw [List.filterMap_cons, hd]
          exact List.mem_cons_self
        rw [if_pos this, hd, gt_put_eq _ _ _ ht]
        have := h 0 o t (by simp) hd
        simpa using this
      · have : t ∉ dsts (o :: l) := by
          unfold dsts at hin ⊢
          rw [List.filterMap_cons]
          split
          · exact hin
          · rename_i d hdd
            rw [List.mem_cons]
            rintro (rfl | h)
            · exact hd hdd
            · exact hin h
        rw [if_neg this, gt_put_ne _ _ _ _ hd]
theorem act_ext {a b : Act} (h1 : a.tmps.size = b.tmps.size) (h2 : a.defers = b.defers) (h3 : ∀ t, t < a.tmps.size → gt a t = gt b t) : a = b := by
  cases a with
  | mk at_ ad =>
    cases b with
    | mk bt bd =>
      simp only at h1 h2
      subst h2
      congr 1
      apply Array.ext h1
      intro i hi hi2
      have := h3 i hi
      simp [gt, hi, hi2] at this
      exact this

/-- THE LAW, with the frame behind the first part written out by what the values are good for. -/
theorem wp_region_G {id : Nat} {a : Act} {w : World} (hm : P.follows .mixedOrders = true) (N : Nat) (hok : regionOk ops N = true)
    (hsz : (dsts (ops.toList.take N)).all (· < a.tmps.size) = true)
    (I : World → Prop) (E : World → World → Prop) (G : Nat → Value → World → Prop)
    (h0 : I w.drew)
    (hE : ∀ i v w w', i < N → I w → I w' → E w w' → G i v w → G i v w')
    (hs : ∀ i o, i < N → ops[i]? = some o → ∀ a' w', I w' → (∀ t, t ∉ dsts (ops.toList.take N) → gt a' t = gt a t) →
      (∀ j ∈ Oper.needs o, ∀ oj d, ops[j]? = some oj → oj.dst = some d → G j (gt a' d) w') →
      wpOp P ops Q i (fun a'' w'' => ∃ v, a'' = a'.put o.dst v ∧ I w'' ∧ E w' w'' ∧ G i v w'') a' w')
    (he : ∀ val w', I w' → (∀ j oj d, j < N → ops[j]? = some oj → oj.dst = some d → G j (val j) w') →
      wpList P ops Q (ops.toList.drop N) (putAll (ops.toList.take N) 0 val a) w') :
    (Code.region id ops true).wp P Q a w := by
  refine wp_region_facts hm N hok hsz I E G h0 hE (fun i o hi ho a' w' hI hS hF => hs i o hi ho a' w' hI hS.other hF) ?_
  intro a' w' hI hS hF
  let val : Nat → Value := fun j => match ops[j]? with | some oj => (match oj.dst with | some d => gt a' d | none => undef) | none => undef
  have hval : ∀ j oj d, ops[j]? = some oj → oj.dst = some d → val j = gt a' d := by
    intro j oj d hj hd
    simp only [val, hj, hd]
  have hw := he val w' hI (fun j oj d hj ho hd => by rw [hval j oj d ho hd]; exact hF j oj d hj ho hd)
  have hae : a' = putAll (ops.toList.take N) 0 val a := by
    refine act_ext (by rw [putAll_size]; exact hS.size) (by rw [putAll_defers]; exact hS.defers) (fun t ht => ?_)
    rw [putAll_gt (ops.toList.take N) 0 val a a' t (by rw [← hS.size]; exact ht) (fun j oj d hj hd => by
      rw [Nat.zero_add]
      refine hval j oj d ?_ hd
      rw [List.getElem?_take] at hj
      split at hj
      · simpa using hj
      · simp at hj)]
    split
    · rfl
    · rename_i h; exact hS.other t h
  rw [hae]
  exact hw

/-- The same where nothing that was there is written in the first part, and each value is known ahead. -/
theorem wp_region_vals {id : Nat} {a : Act} {w : World} (hm : P.follows .mixedOrders = true) (N : Nat) (hok : regionOk ops N = true)
    (hsz : (dsts (ops.toList.take N)).all (· < a.tmps.size) = true) (vals : Nat → Value)
    (hs : ∀ i o, i < N → ops[i]? = some o → ∀ a' w', Below w.heap.size w w' → (∀ t, t ∉ dsts (ops.toList.take N) → gt a' t = gt a t) →
      (∀ j ∈ Oper.needs o, ∀ oj d, ops[j]? = some oj → oj.dst = some d → gt a' d = vals j) →
      wpOp P ops Q i (fun a'' w'' => a'' = a'.put o.dst (vals i) ∧ Below w.heap.size w w'') a' w')
    (he : ∀ w', Below w.heap.size w w' → wpList P ops Q (ops.toList.drop N) (putAll (ops.toList.take N) 0 vals a) w') :
    (Code.region id ops true).wp P Q a w := by
  refine wp_region_G hm N hok hsz (fun w' => Below w.heap.size w w') (fun _ _ => True) (fun i v _ => v = vals i) ((Below.refl _ _).drew) (fun _ _ _ _ _ _ _ _ h => h) ?_ ?_
  · intro i o hi ho a' w' hI hS hF
    refine wpOp_mono ?_ (hs i o hi ho a' w' hI hS hF)
    rintro a'' w'' ⟨h1, h2⟩
    exact ⟨_, h1, h2, trivial, rfl⟩
  · intro val w' hI hF
    have : putAll (ops.toList.take N) 0 val a = putAll (ops.toList.take N) 0 vals a := by
      have key : ∀ (l : List Oper) (i : Nat) (a : Act), (∀ j oj d, l[j]? = some oj → oj.dst = some d → val (i + j) = vals (i + j)) → putAll l i val a = putAll l i vals a := by
        intro l
        induction l with
        | nil => intro i a _; rfl
        | cons o l ih =>
          intro i a h
          have h0 : a.put o.dst (val i) = a.put o.dst (vals i) := by
            cases hd : o.dst with
            | none => rfl
            | some d => have := h 0 o d (by simp) hd; simp at this; rw [this]
          rw [putAll, putAll, h0]
          exact ih (i + 1) _ (fun j oj d hj hd => by have := h (j + 1) oj d (by simpa using hj) hd; rw [show i + 1 + j = i + (j + 1) by omega]; exact this)
      refine key _ 0 a (fun j oj d hj hd => ?_)
      rw [Nat.zero_add]
      rw [List.getElem?_take] at hj
      split at hj
      · rename_i hjN
        exact hF j oj d hjN (by simpa using hj) hd
      · simp at hj
    rw [this]
    exact he w' hI

-- one operation, whatever the frame
theorem wpOp_val {i : Nat} {o : Oper} {K : Act → World → Prop} {a : Act} {w w1 : World} {v : Value} (ho : ops[i]? = some o) (hg : o.guard = none)
    (hr : (execOp a.eval o).run P w = .ok (.value v) w1) (hk : K (a.put o.dst v) w1) : wpOp P ops Q i K a w := by
  unfold wpOp
  simp only [ho]
  rw [if_pos (by simp [Region.wanted, hg])]
  refine .inl ?_
  unfold Oper.wp
  rw [hr]
  exact hk
theorem wpOp_call {i : Nat} {o : Oper} {K : Act → World → Prop} {a : Act} {w : World} {f : FuncId} {args : Array Value} {R : Ending → World → Prop} (ho : ops[i]? = some o) (hg : o.guard = none)
    (hr : (execOp a.eval o).run P w = .ok (.enter f args) w) (hc : Calls P f args w R) (hk : ∀ e w', R e w' → ∃ v, e = .returned v ∧ K (a.put o.dst v) w') : wpOp P ops Q i K a w := by
  unfold wpOp
  simp only [ho]
  rw [if_pos (by simp [Region.wanted, hg])]
  refine .inl ?_
  unfold Oper.wp
  rw [hr]
  refine hc.mono fun e w' hR => ?_
  obtain ⟨v, rfl, hK⟩ := hk e w' hR
  exact hK
theorem wpOp_load_row {i : Nat} {o : Oper} {K : Act → World → Prop} {a : Act} {w : World} (ty n : Nat) (hT : RowTy P ty n) (x : Operand) (ho : ops[i]? = some o) (hg : o.guard = none) (hop : o.op = .load ty x)
    (g : Nat) (cs : Array Value) {t : TypeId} {fr : Nat × Nat} (hx : a.eval x = .pointer (some ⟨g, 0, none⟩)) (hh : hat w g = some (.cells cs t fr)) (hs : cs.size = n) (hk : K (a.put o.dst (.agg cs)) w) : wpOp P ops Q i K a w := by
  refine wpOp_val ho hg ?_ hk
  unfold execOp
  simp only [hop, hx, Instr.loadAt, Instr.sureAddr, Sem.run_bind, Sem.run_pure, Result.andThen_ok, hT.load w g cs t fr hh hs]
theorem wpOp_load_cell {i : Nat} {o : Oper} {K : Act → World → Prop} {a : Act} {w : World} (ty : TypeId) (hT : CellTy P ty) (x : Operand) (ho : ops[i]? = some o) (hg : o.guard = none) (hop : o.op = .load ty x)
    (g off : Nat) (cs : Array Value) (v : Value) {t : TypeId} {fr : Nat × Nat} (hx : a.eval x = .pointer (some ⟨g, off, none⟩)) (hh : hat w g = some (.cells cs t fr)) (hv : cs[off]? = some v) (hk : K (a.put o.dst v) w) : wpOp P ops Q i K a w := by
  refine wpOp_val ho hg ?_ hk
  unfold execOp
  simp only [hop, hx, Instr.loadAt, Instr.sureAddr, Sem.run_bind, Sem.run_pure, Result.andThen_ok, hT.load w ⟨g, off, none⟩ v ((cell_hat hh off).trans hv)]
theorem wpOp_move {i : Nat} {o : Oper} {K : Act → World → Prop} {a : Act} {w : World} (x : Operand) (ho : ops[i]? = some o) (hg : o.guard = none) (hop : o.op = .move x)
    (v : Value) (hx : a.eval x = v) (hk : K (a.put o.dst v) w) : wpOp P ops Q i K a w := by
  refine wpOp_val ho hg ?_ hk
  unfold execOp
  simp only [hop, hx]
  rfl
theorem wpOp_append_grows {i0 : Nat} {o : Oper} {K : Act → World → Prop} {a : Act} {w : World} (ho : ops[i0]? = some o) (hg : o.guard = none) (s x : Operand) (t : TypeId)
    (hop : o.op = Op.call { callee := Callee.builtin Builtin.append, args := #[s, x], argTypes := #[t, t] })
    (e : TypeId) (i : TypeInfo) (z : Value) (size bytes : Nat) (h1 : P.underlying t = some (.slice e)) (h2 : P.info? e = some i) (h3 : i.zero = some z) (h4 : i.size = size) (h5 : i.bytes = bytes) (h6 : z.cells.size = size) (h7 : 0 < size)
    (b : Addr) (n cap : Nat) (olds : List Value) (hs : a.eval s = .slice (some b) n cap) (hlo : olds.length = n * size) (holds : ∀ j u, olds[j]? = some u → w.cell? (b.add j) = some u)
    (ad : Addr) (m c : Nat) (news : List Value) (hx : a.eval x = .slice (some ad) m c) (hn : news.length = m * size) (hc : ∀ j u, news[j]? = some u → w.cell? (ad.add j) = some u)
    (hfull : cap < n + m) (b1 : n + m ≤ maxLen) (b2 : (n + m) * bytes ≤ 140737488355328)
    (hK : ∀ v' w', w'.ownsRow w.heap.size e size v' (n + m) (olds ++ news) → w.grownBy w' none → K (a.put o.dst v') w') : wpOp P ops Q i0 K a w := by
  obtain ⟨v', w', hrun, r1, r2⟩ := run_append_arg_grows (P := P) w t o.type e i z size bytes h1 h2 h3 h4 h5 h6 h7 b n cap olds hlo holds ad m c news hn hc hfull b1 b2
  refine wpOp_val ho hg (v := v') (w1 := w') ?_ (hK v' w' r1 r2)
  simp [execOp, hop, resolve, invoke, builtin, hs, hx, hrun, Result.andThen]
theorem below_grown {w w' : World} (h : w.grownBy w' none) : Below w.heap.size w w' := (Below.refl _ _).grown h (Nat.le_refl _) (fun k hk => by simp at hk)
end
end Go.Proofs.YteffoihkljkfdaaDoor
