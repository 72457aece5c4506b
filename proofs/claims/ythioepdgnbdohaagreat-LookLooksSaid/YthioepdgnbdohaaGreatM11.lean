import Derived.Laws.MakeOwn
import Derived.Test.YthioepdgnbdohaaGreatM04
import Derived.Test.YthioepdgnbdohaaGreatM05
import Derived.Test.YthioepdgnbdohaaGreatM06
import Derived.Test.YthioepdgnbdohaaGreatM07
import Derived.Test.YthioepdgnbdohaaGreatM09
import Derived.Test.YthioepdgnbdohaaGreatM10
namespace Go.Proofs.YthioepdgnbdohaaGreat
set_option maxHeartbeats 16000000
set_option maxRecDepth 1000000
set_option linter.unusedSimpArgs false
set_option linter.unusedVariables false
open Go.RowKit
section
variable {P : Program} {ops : Array Oper} {N : Nat} {Q : Exit → Act → World → Prop}
theorem wp_region_facts_g {γ : Type} {id : Nat} {a : Act} {w : World} (hm : P.follows .mixedOrders = true) (N : Nat) (hok : regionOk ops N = true)
  (hsz : (dsts (ops.toList.take N)).all (· < a.tmps.size) = true)
  (I : γ → World → Prop) (E : γ → World → γ → World → Prop) (G : Nat → Value → γ → World → Prop) (g0 : γ)
  (h0 : I g0 w.drew)
  (hE : ∀ i v g w g' w', i < N → I g w → I g' w' → E g w g' w' → G i v g w → G i v g' w')
  (hs : ∀ i o, i < N → ops[i]? = some o → ∀ a' g w', I g w' → SameBut ops N a a' →
   (∀ j ∈ Oper.needs o, ∀ oj d, ops[j]? = some oj → oj.dst = some d → G j (gt a' d) g w') →
   wpOp P ops Q i (fun a'' w'' => ∃ v g'', a'' = a'.put o.dst v ∧ I g'' w'' ∧ E g w' g'' w'' ∧ G i v g'' w'') a' w')
  (he : ∀ a' g w', I g w' → SameBut ops N a a' → (∀ j oj d, j < N → ops[j]? = some oj → oj.dst = some d → G j (gt a' d) g w') →
   wpList P ops Q (ops.toList.drop N) a' w') :
  (Code.region id ops true).wp P Q a w := by
 obtain ⟨hb, ht, hNs, hnd⟩ := regionOk_spec hok
 refine wp_region_any hm ?_
 have key : ∀ (fuel : Nat) (L : Array Bool) (a' : Act) (g : γ) (w' : World), L.size = ops.size → countF L ≤ fuel → (∀ j, N ≤ j → j < ops.size → L.getD j true = false) →
   I g w' → SameBut ops N a a' → (∀ j oj d, j < N → L.getD j true = true → ops[j]? = some oj → oj.dst = some d → G j (gt a' d) g w') → wpAny P .any ops Q fuel L a' w' := by
  intro fuel
  induction fuel with
  | zero =>
   intro L a' g w' hL hf htl hI hS hG
   have hall : ∀ j, j < ops.size → L.getD j true = true := by
    intro j hj
    cases hv : L.getD j true with
    | true => rfl
    | false => have := countF_set hv; omega
   have hN : N = ops.size := by
    by_cases h : N < ops.size
    ·have := htl N (Nat.le_refl _) h
     rw [hall N h] at this; simp at this
    ·omega
   refine wpAny_tail hok 0 N L a' w' (Nat.le_refl _) (by omega) (by omega) hL (fun j hj => by rw [hall j hj]; simp; omega) ?_
   exact he a' g w' hI hS (fun j oj d hj ho hd => hG j oj d hj (hall j (by omega)) ho hd)
  | succ fuel ih =>
   intro L a' g w' hL hf htl hI hS hG
   by_cases hall : ∀ j, j < N → L.getD j true = true
   ·refine wpAny_tail hok (fuel + 1) N L a' w' (Nat.le_refl _) hNs ?_ hL ?_ (he a' g w' hI hS (fun j oj d hj ho hd => hG j oj d hj (hall j hj) ho hd))
    ·
     have : ∀ (n : Nat) (l : List Bool), (∀ j, n ≤ j → j < l.length → l[j]? = some false) → l.length - n ≤ l.countP (· == false) := by
      intro n
      induction n with
      | zero =>
       intro l
       induction l with
       | nil => intro _; simp
       | cons b l ihl =>
        intro h
        have h0 := h 0 (Nat.le_refl _) (by simp)
        simp at h0
        subst h0
        have := ihl (fun j _ hj => by have := h (j + 1) (by omega) (by simp; omega); simpa using this)
        simp at this ⊢
        omega
      | succ n ihn =>
       intro l
       cases l with
       | nil => intro _; simp
       | cons b l =>
        intro h
        have := ihn l (fun j hj hjl => by have := h (j + 1) (by omega) (by simp; omega); simpa using this)
        simp [List.countP_cons] at this ⊢
        omega
     have h2 := this N L.toList (fun j hj hjl => by
      have hjs : j < L.size := by simpa using hjl
      have := htl j hj (by omega)
      simp [hjs] at this ⊢
      exact this)
     unfold countF at hf
     simp at h2
     simp at hf
     omega
    ·intro j hj
     by_cases hjN : j < N
     ·rw [hall j hjN]; simp [hjN]
     ·rw [htl j (by omega) hj]; simp [hjN]
   ·refine ⟨?_, ?_⟩
    ·intro hr
     exfalso
     have hex : ∃ j, j < N ∧ L.getD j true = false := by
      false_or_by_contra
      rename_i hne
      apply hall
      intro j hj
      cases hv : L.getD j true with
      | true => rfl
      | false => exact (hne ⟨j, hj, hv⟩).elim
     have least : ∀ n, (∃ j, j < n ∧ j < N ∧ L.getD j true = false) → ∃ j, j < N ∧ L.getD j true = false ∧ ∀ k, k < j → L.getD k true = true := by
      intro n
      induction n with
      | zero => rintro ⟨j, hj, _⟩; omega
      | succ n ihn =>
       rintro ⟨j, hj, hjN, hv⟩
       by_cases hlow : ∃ k, k < j ∧ L.getD k true = false
       ·obtain ⟨k, hk, hkv⟩ := hlow
        exact ihn ⟨k, by omega, by omega, hkv⟩
       ·refine ⟨j, hjN, hv, fun k hk => ?_⟩
        cases hkv : L.getD k true with
        | true => rfl
        | false => exact (hlow ⟨k, hk, hkv⟩).elim
     obtain ⟨j0, hj0, hv0⟩ := hex
     obtain ⟨j, hjN, hv, hlow⟩ := least (j0 + 1) ⟨j0, by omega, hj0, hv0⟩
     have hlt : j < ops.size := by omega
     have : j ∈ Region.ready .any ops L := by
      refine ready_of (o := ops[j]) (by simp [hlt]) hv ?_
      intro k hk
      have hkj := hb j ops[j] (by simp [hlt]) k hk
      have h3 := hlow k hkj
      have hks : k < L.size := by omega
      simp [hks] at h3 ⊢
      exact h3
     rw [hr] at this; simp at this
    ·intro i hi
     obtain ⟨o, ho, h1, h2⟩ := ready_mem hL hi
     have hlt : i < ops.size := (Array.getElem?_eq_some_iff.1 ho).1
     have hiN : i < N := by
      by_cases h : i < N
      ·exact h
      ·exfalso
       apply hall
       intro j hj
       have := h2 j (ht i o ho (by omega) j (by omega))
       have hjs : j < L.size := by omega
       simp [hjs] at this ⊢
       exact this
     refine wpOp_mono ?_ (hs i o hiN ho a' g w' hI hS ?_)
     ·rintro a'' w'' ⟨v, g'', rfl, hI', hE', hGi⟩
      have hidst : ∀ d, o.dst = some d → d ∈ dsts (ops.toList.take N) := by
       intro d hd
       unfold dsts
       refine List.mem_filterMap.2 ⟨o, ?_, hd⟩
       have hv := (Array.getElem?_eq_some_iff.1 ho).2
       rw [List.mem_take_iff_getElem]
       exact ⟨i, by simp; omega, by simpa using hv⟩
      refine ih _ _ _ _ (by simpa using hL) (by have := countF_set h1; omega) ?_ hI' ?_ ?_
      ·intro j hj hjs
       have := htl j hj hjs
       have hjs' : j < L.size := by omega
       simp [hjs', Array.getElem_setIfInBounds, show i ≠ j by omega] at this ⊢
       exact this
      ·refine ⟨by rw [size_put]; exact hS.size, by rw [defers_put]; exact hS.defers, ?_⟩
       intro t ht'
       rw [gt_put_ne]
       ·exact hS.other t ht'
       ·intro e; exact ht' (hidst t e)
      ·intro j oj d hj hjL hoj hd
       by_cases hji : j = i
       ·subst hji
        rw [ho] at hoj
        have hoe : o = oj := by simpa using hoj
        subst hoe
        rw [hd, gt_put_eq _ _ _ (by rw [hS.size]; simpa using (List.all_eq_true.1 hsz) d (hidst d hd))]
        exact hGi
       ·have hjs' : j < L.size := by omega
        have hjL' : L.getD j true = true := by
         simp [hjs', Array.getElem_setIfInBounds, Ne.symm hji] at hjL ⊢
         exact hjL
        have hg := hG j oj d hj hjL' hoj hd
        rw [gt_put_ne]
        ·exact hE j _ _ _ _ _ hj hI hI' hE' hg
        ·intro e
         have hne : ∀ (l : List Oper), (dsts l).Nodup → ∀ (i j : Nat) (oi oj : Oper) (d : Nat), l[i]? = some oi → l[j]? = some oj → oi.dst = some d → oj.dst = some d → i = j := by
          intro l
          induction l with
          | nil => intro _ i j oi oj d hi; simp at hi
          | cons x l ihl =>
           intro hnd i j oi oj d hi hj hdi hdj
           have hnd' : (dsts l).Nodup := by
            unfold dsts at hnd ⊢
            rw [List.filterMap_cons] at hnd
            split at hnd
            ·exact hnd
            ·exact (List.nodup_cons.1 hnd).2
           have hx : ∀ (j : Nat) (oj : Oper), l[j]? = some oj → oj.dst = some d → x.dst ≠ some d := by
            intro j oj hj hdj hxd
            unfold dsts at hnd
            rw [List.filterMap_cons, hxd] at hnd
            have := (List.nodup_cons.1 hnd).1
            apply this
            exact List.mem_filterMap.2 ⟨oj, List.mem_of_getElem? hj, hdj⟩
           cases i with
           | zero =>
            simp at hi
            subst hi
            cases j with
            | zero => rfl
            | succ j => simp at hj; exact (hx j oj hj hdj hdi).elim
           | succ i =>
            simp at hi
            cases j with
            | zero => simp at hj; subst hj; exact (hx i oi hi hdi hdj).elim
            | succ j => simp at hj; rw [ihl hnd' i j oi oj d hi hj hdi hdj]
         have := hne (ops.toList.take N) hnd i j o oj d (by simp [List.getElem?_take, hiN, ho]) (by simp [List.getElem?_take, hj, hoj]) e hd
         exact hji this.symm
     ·intro j hj oj d hoj hd
      have hjL := h2 j hj
      have hji := hb i o ho j hj
      have hjs : j < L.size := by omega
      exact hG j oj d (by omega) (by simp [hjs] at hjL ⊢; exact hjL) hoj hd
 refine key ops.size (Array.replicate ops.size false) a g0 { w with drawn := w.drawn + 1 } (by simp) ?_ ?_ h0 ⟨rfl, rfl, fun _ _ => rfl⟩ ?_
 ·have := List.countP_le_length (p := (· == false)) (l := (Array.replicate ops.size false).toList)
  unfold countF; simpa using this
 ·intro j _ hj; simp [hj]
 ·intro j oj d hj hjL
  simp [show j < ops.size by omega] at hjL
theorem wp_region_Gg {γ : Type} {id : Nat} {a : Act} {w : World} (hm : P.follows .mixedOrders = true) (N : Nat) (hok : regionOk ops N = true)
  (hsz : (dsts (ops.toList.take N)).all (· < a.tmps.size) = true)
  (I : γ → World → Prop) (E : γ → World → γ → World → Prop) (G : Nat → Value → γ → World → Prop) (g0 : γ)
  (h0 : I g0 w.drew)
  (hE : ∀ i v g w g' w', i < N → I g w → I g' w' → E g w g' w' → G i v g w → G i v g' w')
  (hs : ∀ i o, i < N → ops[i]? = some o → ∀ a' g w', I g w' → (∀ t, t ∉ dsts (ops.toList.take N) → gt a' t = gt a t) →
   (∀ j ∈ Oper.needs o, ∀ oj d, ops[j]? = some oj → oj.dst = some d → G j (gt a' d) g w') →
   wpOp P ops Q i (fun a'' w'' => ∃ v g'', a'' = a'.put o.dst v ∧ I g'' w'' ∧ E g w' g'' w'' ∧ G i v g'' w'') a' w')
  (he : ∀ val g w', I g w' → (∀ j oj d, j < N → ops[j]? = some oj → oj.dst = some d → G j (val j) g w') →
   wpList P ops Q (ops.toList.drop N) (putAll (ops.toList.take N) 0 val a) w') :
  (Code.region id ops true).wp P Q a w := by
 refine wp_region_facts_g hm N hok hsz I E G g0 h0 hE (fun i o hi ho a' g w' hI hS hF => hs i o hi ho a' g w' hI hS.other hF) ?_
 intro a' g w' hI hS hF
 let val : Nat → Value := fun j => match ops[j]? with | some oj => (match oj.dst with | some d => gt a' d | none => undef) | none => undef
 have hval : ∀ j oj d, ops[j]? = some oj → oj.dst = some d → val j = gt a' d := by
  intro j oj d hj hd
  simp only [val, hj, hd]
 have hw := he val g w' hI (fun j oj d hj ho hd => by rw [hval j oj d ho hd]; exact hF j oj d hj ho hd)
 have hae : a' = putAll (ops.toList.take N) 0 val a := by
  refine act_ext (by rw [putAll_size]; exact hS.size) (by rw [putAll_defers]; exact hS.defers) (fun t ht => ?_)
  rw [putAll_gt (ops.toList.take N) 0 val a a' t (by rw [← hS.size]; exact ht) (fun j oj d hj hd => by
   rw [Nat.zero_add]
   refine hval j oj d ?_ hd
   rw [List.getElem?_take] at hj
   split at hj
   ·simpa using hj
   ·simp at hj)]
  split
  ·rfl
  ·rename_i h; exact hS.other t h
 rw [hae]
 exact hw
end
def rootOk (S : Nat → List Int) : Prop := soundR (S 1) = true ∧ nth (rdInoR (S 1)).1 0 = 2
def LookOut (w w' : World) (N : Nat) (X Y : Int) (S : Nat → List Int) (e : Ending) : Prop :=
 ∃ gw cw v1 v2 v3 o1 o2 o3, e = .returned (.tuple #[.agg #[.slice (some ⟨gw, 0, none⟩) N cw, v1, v2, v3], .int .i64 0]) ∧ WSecs w' gw N (repS Y (lookZ X Y S)) ∧
  QRow w' v1 o1 (writeL N Y (repS Y (lookZ X Y S)) S (lookZ X Y S).st.fm) ∧ QRow w' v2 o2 (keysL fun p => ((lookZ X Y S).T p.toNat).isSome) ∧ QRow w' v3 o3 (keysL (lookZ X Y S).st.cl) ∧
  Below w.heap.size w w' ∧ w.heap.size ≤ gw ∧ OutRows (gw + 1) [o1, o2, o3]
structure Five (N : Nat) (S : Nat → List Int) (w0 w : World) (gw bc bt bf : Nat) : Prop where
 gw0 : w0.heap.size ≤ gw
 bc0 : w0.heap.size ≤ bc
 bt0 : w0.heap.size ≤ bt
 bf0 : w0.heap.size ≤ bf
 ws : WSecs w gw N S
 c : hat w bc = some (.map #[] 0)
 t : hat w bt = some (.map #[] 0)
 f : hat w bf = some (.map #[] 0)
 n1 : gw ≠ bc
 n2 : gw ≠ bt
 n3 : gw ≠ bf
 n4 : bc ≠ bt
 n5 : bc ≠ bf
 n6 : bt ≠ bf
theorem Five.fr {N : Nat} {S : Nat → List Int} {w0 w w' : World} {gw bc bt bf : Nat} (h : Five N S w0 w gw bc bt bf) (hf : Fr [] w w') : Five N S w0 w' gw bc bt bf := by
 obtain ⟨cs, h5, -⟩ := id h.ws
 exact ⟨h.gw0, h.bc0, h.bt0, h.bf0, h.ws.same (hf.block _ (hat_lt h5) (by simp)), (hf.block _ (hat_lt h.c) (by simp)).trans h.c, (hf.block _ (hat_lt h.t) (by simp)).trans h.t, (hf.block _ (hat_lt h.f) (by simp)).trans h.f, h.n1, h.n2, h.n3, h.n4, h.n5, h.n6⟩
def ownG (X Y : Int) (gi oi N ci : Nat) (S : Nat → List Int) (w0 : World) (i : Nat) (v : Value) (own : Nat → Option Nat) (w' : World) : Prop :=
 match i with
 | 0 => v = .agg #[.int .i64 X, .int .i64 Y]
 | 1 => v = .slice (some ⟨gi, oi, none⟩) N ci
 | 2 => v = .slice (some ⟨gi, oi, none⟩) N ci
 | 3 => ∃ g cw, v = .slice (some ⟨g, 0, none⟩) N cw ∧ w0.heap.size ≤ g ∧ WSecs w' g N S ∧ own g = some 3
 | 4 => ∃ b, v = .map (some b) ∧ w0.heap.size ≤ b ∧ hat w' b = some (.map #[] 0) ∧ own b = some 4
 | 5 => ∃ b, v = .map (some b) ∧ w0.heap.size ≤ b ∧ hat w' b = some (.map #[] 0) ∧ own b = some 5
 | 6 => ∃ b, v = .map (some b) ∧ w0.heap.size ≤ b ∧ hat w' b = some (.map #[] 0) ∧ own b = some 6
 | 7 => ∃ gw cw bc bt bf, v = .agg (lkCells X Y (.slice (some ⟨gi, oi, none⟩) N ci) gw N cw bc bt bf .nilFunc) ∧ Five N S w0 w' gw bc bt bf
 | _ => ∃ gl gw cw bc bt bf, v = .pointer (some ⟨gl, 0, none⟩) ∧ hat w' gl = some (.cells (lkCells X Y (.slice (some ⟨gi, oi, none⟩) N ci) gw N cw bc bt bf .nilFunc) 62) ∧ Five N S w0 w' gw bc bt bf ∧ w0.heap.size ≤ gl ∧ gl ∉ [gw, bc, bt, bf]
def ownI (w0 : World) (own : Nat → Option Nat) (w' : World) : Prop := Fr [] w0 w' ∧ ∀ b i, own b = some i → b < w'.heap.size
def ownE (own : Nat → Option Nat) (w : World) (own' : Nat → Option Nat) (w' : World) : Prop := Fr [] w w' ∧ ∀ b i, own b = some i → own' b = some i
def setO (own : Nat → Option Nat) (b i : Nat) : Nat → Option Nat := fun k => if k = b then some i else own k
theorem ownI_set {w0 w w' : World} {own : Nat → Option Nat} (h : ownI w0 own w) (hf : Fr [] w w') {b : Nat} (hb : b < w'.heap.size) (i : Nat) : ownI w0 (setO own b i) w' := by
 refine ⟨h.1.trans hf, fun k j hk => ?_⟩
 unfold setO at hk
 split at hk
 ·rename_i e; subst e; exact hb
 ·exact Nat.lt_of_lt_of_le (h.2 k j hk) hf.size
theorem ownE_set {w0 w w' : World} {own : Nat → Option Nat} (h : ownI w0 own w) (hf : Fr [] w w') {b : Nat} (hb : w.heap.size ≤ b) (i : Nat) : ownE own w (setO own b i) w' := by
 refine ⟨hf, fun k j hk => ?_⟩
 unfold setO
 rw [if_neg (fun e => by have := h.2 k j hk; omega)]
 exact hk
theorem ownI_stay {w0 w w' : World} {own : Nat → Option Nat} (h : ownI w0 own w) (hf : Fr [] w w') : ownI w0 own w' := ⟨h.1.trans hf, fun k j hk => Nat.lt_of_lt_of_le (h.2 k j hk) hf.size⟩
theorem ownG_stays {X Y : Int} {gi oi N ci : Nat} {S : Nat → List Int} {w0 : World} {i : Nat} {v : Value} {own own' : Nat → Option Nat} {w w' : World} (hE : ownE own w own' w') (h : ownG X Y gi oi N ci S w0 i v own w) : ownG X Y gi oi N ci S w0 i v own' w' := by
 unfold ownG at h ⊢
 split at h
 ·exact h
 ·exact h
 ·exact h
 ·obtain ⟨g, cw, h1, h2, h3, h4⟩ := h
  obtain ⟨cs, h5, -⟩ := id h3
  exact ⟨g, cw, h1, h2, h3.same (hE.1.block _ (hat_lt h5) (by simp)), hE.2 _ _ h4⟩
 ·obtain ⟨b, h1, h2, h3, h4⟩ := h
  exact ⟨b, h1, h2, (hE.1.block _ (hat_lt h3) (by simp)).trans h3, hE.2 _ _ h4⟩
 ·obtain ⟨b, h1, h2, h3, h4⟩ := h
  exact ⟨b, h1, h2, (hE.1.block _ (hat_lt h3) (by simp)).trans h3, hE.2 _ _ h4⟩
 ·obtain ⟨b, h1, h2, h3, h4⟩ := h
  exact ⟨b, h1, h2, (hE.1.block _ (hat_lt h3) (by simp)).trans h3, hE.2 _ _ h4⟩
 ·obtain ⟨gw, cw, bc, bt, bf, h1, h2⟩ := h
  exact ⟨gw, cw, bc, bt, bf, h1, h2.fr hE.1⟩
 ·obtain ⟨gl, gw, cw, bc, bt, bf, h1, h3, h2, h4⟩ := h
  exact ⟨gl, gw, cw, bc, bt, bf, h1, (hE.1.block _ (hat_lt h3) (by simp)).trans h3, h2.fr hE.1, h4⟩
theorem MB.of {w : World} {b : Nat} (h : hat w b = some (.map #[] 0)) : MB w b 0 (fun _ => false) := by
 obtain ⟨D, ⟨es, clock, hb, h1⟩, h2⟩ := MB.made w
 have hb2 : hat (w.alloc (.map #[] 0)) w.heap.size = some (.map #[] 0) := (hopN w _).1
 rw [show (w.alloc (.map #[] 0)).heap[w.heap.size]? = some (.map #[] 0) from hb2] at hb
 have hb3 := Option.some.inj hb
 injection hb3 with e1 e2
 subst e1; subst e2
 exact ⟨D, ⟨#[], 0, h, h1⟩, h2⟩
theorem SB.of {w : World} {b : Nat} (h : hat w b = some (.map #[] 0)) : SB w b (fun _ => false) := (MB.of h).tight (fun _ hp => by cases hp)
theorem PB.of {w : World} {b : Nat} (h : hat w b = some (.map #[] 0)) : PB w b (fun _ => none) := by
 obtain ⟨D, ⟨es, clock, hb, h1⟩, h2⟩ := MP.made w
 have hb2 : hat (w.alloc (.map #[] 0)) w.heap.size = some (.map #[] 0) := (hopN w _).1
 rw [show (w.alloc (.map #[] 0)).heap[w.heap.size]? = some (.map #[] 0) from hb2] at hb
 have hb3 := Option.some.inj hb
 injection hb3 with e1 e2
 subst e1; subst e2
 exact MP.tight (n := 0) ⟨D, ⟨#[], 0, h, h1⟩, h2⟩ (fun p hp => by cases hp)
theorem lw_start {N : Nat} {Y : Int} {gi oi ci gl gw cw bc bt bf gr : Nat} {S : Nat → List Int} {w0 w : World} (hm : SupMay N Y) (hgi : gi < w0.heap.size) (hsz : w0.heap.size ≤ w.heap.size) (hS : Secs w gi oi N S) (h5 : Five N S w0 w gw bc bt bf)
  (hgl : hat w gl = some (.cells (lkCells N Y (.slice (some ⟨gi, oi, none⟩) N ci) gw N cw bc bt bf (qfun gr)) 62)) (hgl0 : w0.heap.size ≤ gl) (hgn : gl ∉ [gw, bc, bt, bf]) (hgr : hat w gr = some (.cells #[.slice none 0 0] 24)) (hgr0 : w0.heap.size ≤ gr) (hrn : gr ∉ [gl, gw, bc, bf, bt]) :
  LW ⟨⟨gl, gw, N, bc, bt, bf, 0, cw, N, Y, .slice (some ⟨gi, oi, none⟩) N ci, qfun gr⟩, gr, gi, oi, ci, w0.heap.size, S⟩ none (fun _ => none) (zeroZ S) w := by
 obtain ⟨⟨x1, x2⟩, ⟨y1, y2⟩, xy⟩ := hm
 simp only [List.mem_cons, List.not_mem_nil, or_false, not_or] at hgn
 obtain ⟨g1, g2, g3, g4⟩ := hgn
 refine ⟨⟨x2, by show 0 ≤ Y; omega, rfl, g1, g2, g4, h5.n1, h5.n3, h5.n5, g3, h5.n2, h5.n4, fun e => h5.n6 e.symm⟩, ⟨rfl, hrn, fun g h => (by cases h)⟩, rfl, hS, hgi, fun k hk => ?_, hsz, by show Y < N; omega, ⟨hgl, h5.ws, SB.of h5.c, SB.of h5.f⟩, ⟨_, PB.of h5.t, fun _ => rfl⟩, fun _ _ => rfl, fun i v h => (by cases h), fun i j v u h => (by cases h), ⟨_, hgr, .inl ⟨rfl, rfl, rfl⟩, fun e => (by cases e)⟩, zeroZI _ _ _⟩
 simp only [mineW, List.cons_append, List.nil_append, Option.toList, List.mem_cons, List.not_mem_nil, or_false] at hk
 show w0.heap.size ≤ k
 rcases hk with rfl | rfl | rfl | rfl | rfl | rfl
 ·exact hgl0
 ·exact h5.gw0
 ·exact h5.bc0
 ·exact h5.bf0
 ·exact h5.bt0
 ·exact hgr0
theorem look_good (gi oi N ci : Nat) (S : Nat → List Int) (w : World) (hS : Secs w gi oi N S) (h8 : 8 ≤ N) (hN : N ≤ 4096) (h0 : (rdSupR (S 0)).2.2 = 0) (hX : (rdSupR (S 0)).1 = N) :
  Calls Tryz.prog 10 #[.slice (some ⟨gi, oi, none⟩) N ci] w fun e w' => (rootOk S ∧ LookOut w w' N (rdSupR (S 0)).1 (rdSupR (S 0)).2.1 S e) ∨ (¬ rootOk S ∧ e = .returned (.tuple #[.agg repNil, .int .i64 121]) ∧ Below w.heap.size w w') := by
 obtain ⟨cs, t, fr, hcs, hld⟩ := hS.load (show 0 < N by omega)
 obtain ⟨hl0, hb0⟩ := hS.len (show 0 < N by omega)
 have HRS := Lib.hid (fun W => lrdSup_any (S 0) hl0 hb0 W)
 rw [Nat.zero_mul, Nat.add_zero] at hld
 have hcl := hat_lt hcs
 have hz1 := (hopN w (.cells repNil 26)).1
 have hc1 := (hopA w (.cells repNil 26) hcs).1
 have hf1 := fr_alloc w (.cells repNil 26) []
 have d1 : ¬ (N : Int) < 8 := by omega
 have d2 : ¬ (4096 : Int) < (N : Int) := by omega
 have d3 : (0 : Int) < (N : Int) := by omega
 have HF1 := Lib.hid hf1
 have HMAY := Lib.hid (sup_one h0).1
 obtain ⟨X, Y, er, hR⟩ : ∃ X Y er, rdSupR (S 0) = (X, Y, er) := ⟨_, _, _, rfl⟩
 rw [hR] at HRS HMAY h0 hX
 rw [hR]
 simp only at h0 hX HMAY ⊢
 subst h0
 subst hX
 have HS := Lib.hid hS
 clear hS hf1 hR
 go_enter Tryz.func10, Tryz.ntmps10
 go_wp2_with fail
 generalize hW1 : w.alloc (.cells #[.slice none 0 0, .slice none 0 0, .slice none 0 0, .slice none 0 0] 26) = w1 at *
 refine (HRS.out w1).mono ?_; rintro e w2 ⟨rfl, hb2⟩
 have hz2 := (hop hb2 (show hat w1 w.heap.size = some (.cells repNil 26) by rw [← hW1]; exact (hopN w _).1)).1
 have hgz := hat_lt hz2
 have HF2 := Lib.hid ((show Fr [] w w1 by rw [← hW1]; exact fr_alloc w _ []).trans (fr_below hb2 []))
 have hXn : ((N : Int) != (N : Int)) = false := by simp
 unfold repNil at hz2
 clear hb2 hz1 hc1 hcs hld hW1 HF1 HRS
 go_wp2_with fail
 have hz3 := (hopA w2 (.cells #[.int .i64 (N : Int), .int .i64 Y] 40) hz2).1
 have hs3 := (hopN w2 (.cells #[.int .i64 (N : Int), .int .i64 Y] 40)).1
 have HF3 := Lib.hid (HF2.out.trans (fr_alloc w2 (.cells #[.int .i64 (N : Int), .int .i64 Y] 40) []))
 have hgz3 := hat_lt hs3
 generalize w2.alloc (.cells #[.int .i64 (N : Int), .int .i64 Y] 40) = w3 at *
 clear hz2 HF2
 have HS3 := Lib.hid (HS.out.same (HF3.out.block _ HS.out.lt (by simp)))
 refine wp_region_Gg (by kernel_rfl) 10 (by decide) rfl (ownI w3) ownE (ownG N Y gi oi N ci S w3) (fun _ => none) ⟨fr_drew (Fr.refl [] w3), fun _ _ h => by cases h⟩ ?_ ?_ ?_
 ·intro i v own wa own' wb hi hIa hIb hE hG; exact ownG_stays hE hG
 ·intro i o hi ho a' own w' hI hS hF
  have hi' : i = 0 ∨ i = 1 ∨ i = 2 ∨ i = 3 ∨ i = 4 ∨ i = 5 ∨ i = 6 ∨ i = 7 ∨ i = 8 ∨ i = 9 := by omega
  have hstay : ownE own w' own w' := ⟨Fr.refl _ _, fun _ _ h => h⟩
  have hnew : w'.heap.size < (w'.alloc (.map #[] 0)).heap.size := (hopN w' (.map #[] 0)).2
  have hfa := fr_alloc w' (.map #[] 0) []
  rcases hi' with rfl | rfl | rfl | rfl | rfl | rfl | rfl | rfl | rfl | rfl
  all_goals (have ho' := Option.some.inj ho; subst ho')
  ·exact wpOp_load_row 40 2 row40 (.tmp 4) rfl rfl rfl w2.heap.size _ ((hS 4 (by decide)).trans rfl) ((hI.1.block _ (hat_lt hs3) (by simp)).trans hs3) rfl ⟨_, own, rfl, hI, hstay, rfl⟩
  ·exact wpOp_move (.tmp 0) rfl rfl rfl _ ((hS 0 (by decide)).trans rfl) ⟨_, own, rfl, hI, hstay, rfl⟩
  ·exact wpOp_move (.tmp 0) rfl rfl rfl _ ((hS 0 (by decide)).trans rfl) ⟨_, own, rfl, hI, hstay, rfl⟩
  ·have e0 := gtx (hF 2 (by decide) _ 41 rfl rfl)
   refine wpOp_call (f := 24) (args := #[.slice (some ⟨gi, oi, none⟩) N ci]) rfl rfl (by simp [go_sem, e0]) (clone_any gi oi N ci S w' (HS3.out.same (hI.1.block _ HS3.out.lt (by simp))) (by omega) (by omega)) ?_
   rintro e w'' ⟨g, cw, rfl, hg0, hws, hb⟩
   obtain ⟨csw, hcsw, -⟩ := id hws
   exact ⟨_, rfl, _, setO own g 3, rfl, ownI_set hI (fr_below hb []) (hat_lt hcsw) 3, ownE_set hI (fr_below hb []) hg0 3, g, cw, rfl, Nat.le_trans hI.1.size hg0, hws, by simp [setO]⟩
  ·exact wpOp_val rfl rfl (v := .map (some w'.heap.size)) (w1 := w'.alloc (.map #[] 0)) (by simp [go_sem]) ⟨_, setO own w'.heap.size 4, rfl, ownI_set hI hfa hnew 4, ownE_set hI hfa (Nat.le_refl _) 4, _, rfl, hI.1.size, (hopN w' _).1, by simp [setO]⟩
  ·exact wpOp_val rfl rfl (v := .map (some w'.heap.size)) (w1 := w'.alloc (.map #[] 0)) (by simp [go_sem]) ⟨_, setO own w'.heap.size 5, rfl, ownI_set hI hfa hnew 5, ownE_set hI hfa (Nat.le_refl _) 5, _, rfl, hI.1.size, (hopN w' _).1, by simp [setO]⟩
  ·exact wpOp_val rfl rfl (v := .map (some w'.heap.size)) (w1 := w'.alloc (.map #[] 0)) (by simp [go_sem]) ⟨_, setO own w'.heap.size 6, rfl, ownI_set hI hfa hnew 6, ownE_set hI hfa (Nat.le_refl _) 6, _, rfl, hI.1.size, (hopN w' _).1, by simp [setO]⟩
  ·have e0 := gtx (hF 0 (by decide) _ 39 rfl rfl)
   have e1 := gtx (hF 1 (by decide) _ 40 rfl rfl)
   obtain ⟨gw, cw, e3, hgw0, hws4, o3⟩ := hF 3 (by decide) _ 42 rfl rfl
   obtain ⟨bc, e4, hbc0, hbc4, o4⟩ := hF 4 (by decide) _ 43 rfl rfl
   obtain ⟨bt, e5, hbt0, hbt4, o5⟩ := hF 5 (by decide) _ 44 rfl rfl
   obtain ⟨bf, e6, hbf0, hbf4, o6⟩ := hF 6 (by decide) _ 45 rfl rfl
   have e3 := gtx e3
   have e4 := gtx e4
   have e5 := gtx e5
   have e6 := gtx e6
   have n1 : gw ≠ bc := fun e => by rw [e, o4] at o3; cases o3
   have n2 : gw ≠ bt := fun e => by rw [e, o5] at o3; cases o3
   have n3 : gw ≠ bf := fun e => by rw [e, o6] at o3; cases o3
   have n4 : bc ≠ bt := fun e => by rw [e, o5] at o4; cases o4
   have n5 : bc ≠ bf := fun e => by rw [e, o6] at o4; cases o4
   have n6 : bt ≠ bf := fun e => by rw [e, o6] at o5; cases o5
   exact wpOp_val rfl rfl (v := .agg (lkCells N Y (.slice (some ⟨gi, oi, none⟩) N ci) gw N cw bc bt bf .nilFunc)) (w1 := w') (by simp [go_sem, e0, e1, e3, e4, e5, e6, lkCells]) ⟨_, own, rfl, hI, hstay, gw, cw, bc, bt, bf, rfl, hgw0, hbc0, hbt0, hbf0, hws4, hbc4, hbt4, hbf4, n1, n2, n3, n4, n5, n6⟩
  ·obtain ⟨gw, cw, bc, bt, bf, e7, h5⟩ := hF 7 (by decide) _ 46 rfl rfl
   have e7 := gtx e7
   obtain ⟨csw, hcsw, -⟩ := id h5.ws
   have z0 := hat_lt hcsw
   have z1 := hat_lt h5.c
   have z2 := hat_lt h5.t
   have z3 := hat_lt h5.f
   have hfb := fr_alloc w' (.cells (lkCells N Y (.slice (some ⟨gi, oi, none⟩) N ci) gw N cw bc bt bf .nilFunc) 62) []
   exact wpOp_val rfl rfl (v := .pointer (some ⟨w'.heap.size, 0, none⟩)) (w1 := w'.alloc (.cells (lkCells N Y (.slice (some ⟨gi, oi, none⟩) N ci) gw N cw bc bt bf .nilFunc) 62)) (by simp [go_sem, e7, lkCells]) ⟨_, own, rfl, ownI_stay hI hfb, ⟨hfb, fun _ _ h => h⟩, _, gw, cw, bc, bt, bf, rfl, (hopN w' _).1, h5.fr hfb, hI.1.size, by simp; omega⟩
  ·obtain ⟨gl, gw, cw, bc, bt, bf, e8, h5⟩ := hF 8 (by decide) _ 47 rfl rfl
   have e8 := gtx e8
   exact wpOp_val rfl rfl (v := .pointer (some ⟨gl, 0, none⟩)) (w1 := w') (by simp [go_sem, e8]) ⟨_, own, rfl, hI, hstay, gl, gw, cw, bc, bt, bf, rfl, h5⟩
 ·intro val own w4 hI hF
  obtain ⟨gl, gw, cw, bc, bt, bf, e9, hgl4, h5, hgl0, hgn⟩ := hF 9 _ 6 (by decide) rfl rfl
  have hz4 := (hI.1.block _ (hat_lt hz3) (by simp)).trans hz3
  have HF4 := Lib.hid (HF3.out.trans hI.1)
  have HS4 := Lib.hid (HS3.out.same (hI.1.block _ HS3.out.lt (by simp)))
  have H5 := Lib.hid h5
  have HGN := Lib.hid hgn
  have z34 := hI.1.size
  clear hF hI hs3 hz3 HF3 HS3 HS h5 hgn
  simp only [putAll, List.take, List.drop, List.take_succ_cons, List.drop_succ_cons, e9, Act.put, List.setIfInBounds_toArray, List.set_cons_zero, List.set_cons_succ]
  clear e9
  generalize val 0 = v0
  generalize val 1 = v1
  generalize val 2 = v2
  generalize val 3 = v3
  generalize val 4 = v4
  generalize val 5 = v5
  generalize val 6 = v6
  generalize val 7 = v7
  generalize val 8 = v8
  obtain ⟨⟨x1, x2⟩, ⟨y1, y2⟩, xy⟩ := HMAY.out
  have hcall := sound_yes N Y .nilFunc gi oi N ci S gl gw N cw bc bt bf 1 w4 hgl4 HS4.out (Nat.le_refl _) y1 (by omega) hN
  have HSOUND := Lib.hid (ino_sound (s := S 1))
  have hrl := rdInoR_length (S 1)
  unfold lkCells at hgl4
  go_wp2_with fail
  refine hcall.mono ?_; rintro e w5 ⟨rfl, hb5⟩
  have hgl5 := (hop hb5 hgl4).1
  have hz5 := (hop hb5 hz4).1
  have HF5 := Lib.hid (HF4.out.trans (fr_below hb5 []))
  have HS5 := Lib.hid (HS4.out.same (hat_below hb5 HS4.out.lt))
  have H55 := Lib.hid (H5.out.fr (fr_below hb5 []))
  have z45 := hb5.size
  have hzl5 := hat_lt hz5
  have hgll5 := hat_lt hgl5
  clear hb5 hgl4 hz4 HF4 HS4 H5 hcall
  have hk0 : (IV .i64 (rdInoR (S 1)).1)[0]? = some (.int .i64 (nth (rdInoR (S 1)).1 0)) := by
   rw [IV_get?, nth_getElem? (by omega)]; rfl
  have HRO : Hid (rootOk S ↔ soundR (S 1) = true ∧ nth (rdInoR (S 1)).1 0 = 2) := Lib.hid Iff.rfl
  have HFIN := Lib.hid (hat_put4 hz5 (.slice none 0 0) (.slice none 0 0) (.slice none 0 0) (.slice none 0 0))
  have HBEL := Lib.hid ((((HF5.out.mono (ex' := [w.heap.size]) (by simp)).trans (fr_put4 w5 w.heap.size (.slice none 0 0) (.slice none 0 0) (.slice none 0 0) (.slice none 0 0))).trans (fr_alloc _ (.cells (IV .i64 (rdInoR (S 1)).1) 45) [w.heap.size])).below (B := w.heap.size) (Nat.le_refl _) (by simp))
  generalize hRAW : (rdInoR (S 1)).1 = raw at *
  cases hsd : soundR (S 1) with
  | false =>
   rw [hsd] at HRO
   have hno : ¬ rootOk S := fun h => by have := (HRO.out.1 h).1; cases this
   clear HSOUND
   have HNO := Lib.hid hno
   clear hno hk0
   go_wp2_with fail
   exact ret_ct row26 rfl (cs := repNil) rfl (hopA _ _ HFIN.out).1 rfl rfl (.inr ⟨HNO.out, rfl, HBEL.out⟩)
  | true =>
   cases hkd : (nth raw 0 == 2) with
   | false =>
    have hkn : (nth raw 0 != 2) = true := by simpa using hkd
    have HNO := Lib.hid (show ¬ rootOk S from fun h => by have := (HRO.out.1 h).2; simp [this] at hkd)
    clear HSOUND HRO
    go_wp2_with fail
    exact ret_ct row26 rfl (cs := repNil) rfl (hopA _ _ HFIN.out).1 rfl rfl (.inr ⟨HNO.out, rfl, HBEL.out⟩)
   | true =>
    have hk2 : nth raw 0 = 2 := by simpa using hkd
    have HYES := Lib.hid (HRO.out.2 ⟨hsd, hk2⟩)
    have hkn : (nth raw 0 != 2) = false := by simpa using hkd
    have hld5 : ∀ r w', ldRow r 18 0 w' (some (.cells (IV .i64 raw) 45)) = .ok (.agg (IV .i64 raw)) w' := fun r w' => by rw [ldRow_part (by simp [hrl])]; simp [← hrl]
    obtain ⟨r1, r2, r3⟩ := HSOUND.out hsd
    have R3 := Lib.hid r3
    clear HRO HBEL HFIN HSOUND r3
    go_wp2_with fail
    have hw6 : ∀ (k : Nat) (cs : Array Value) (t : TypeId), hat (w5.setCell ⟨gl, 7, none⟩ (qfun (w5.heap.size + 1))) k = some (.cells cs t) → hat (((w5.setCell ⟨gl, 7, none⟩ (qfun (w5.heap.size + 1))).alloc (.cells (IV .i64 raw) 45)).alloc (.cells #[.slice none 0 0] 24)) k = some (.cells cs t) := fun k cs t h => (hopA _ _ (hopA _ _ h).1).1
    have hgl6 := hw6 gl _ _ (hat_setCell_at w5 gl 7 (qfun (w5.heap.size + 1)) _ _ _ hgl5)
    have hfs : Fr [gl] w5 (((w5.setCell ⟨gl, 7, none⟩ (qfun (w5.heap.size + 1))).alloc (.cells (IV .i64 raw) 45)).alloc (.cells #[.slice none 0 0] 24)) := ((fr_setCell _ _ _ _).trans (fr_alloc _ _ _)).trans (fr_alloc _ _ _)
    have hgr6 : hat (((w5.setCell ⟨gl, 7, none⟩ (qfun (w5.heap.size + 1))).alloc (.cells (IV .i64 raw) 45)).alloc (.cells #[.slice none 0 0] 24)) (w5.heap.size + 1) = some (.cells #[.slice none 0 0] 24) := hat_alloc_at _ _ _ (by simp)
    have h2z : w.heap.size ≠ gl := by omega
    have hz6 := (hfs.block _ (hat_lt hz5) (by simpa using h2z)).trans hz5
    have hgn := HGN.out
    simp only [List.mem_cons, List.not_mem_nil, or_false, not_or] at hgn
    obtain ⟨g1, g2, g3, g4⟩ := hgn
    have h56 : Five N S w3 (((w5.setCell ⟨gl, 7, none⟩ (qfun (w5.heap.size + 1))).alloc (.cells (IV .i64 raw) 45)).alloc (.cells #[.slice none 0 0] 24)) gw bc bt bf := by
     have h := H55.out
     obtain ⟨csw, h5w, -⟩ := id h.ws
     exact ⟨h.gw0, h.bc0, h.bt0, h.bf0, h.ws.same (hfs.block _ (hat_lt h5w) (by simpa using Ne.symm g1)), (hfs.block _ (hat_lt h.c) (by simpa using Ne.symm g2)).trans h.c, (hfs.block _ (hat_lt h.t) (by simpa using Ne.symm g3)).trans h.t, (hfs.block _ (hat_lt h.f) (by simpa using Ne.symm g4)).trans h.f, h.n1, h.n2, h.n3, h.n4, h.n5, h.n6⟩
    have hgi3 : gi < w3.heap.size := by omega
    have hlt5 : w3.heap.size ≤ w5.heap.size := by omega
    have hrn : w5.heap.size + 1 ∉ [gl, gw, bc, bf, bt] := by
     have h := H55.out
     obtain ⟨csw, h5w, -⟩ := id h.ws
     have a1 := hat_lt h5w
     have a2 := hat_lt h.c
     have a3 := hat_lt h.t
     have a4 := hat_lt h.f
     simp only [List.mem_cons, List.not_mem_nil, or_false, not_or]
     omega
    have HLW6 := Lib.hid (lw_start (ci := ci) (cw := cw) (gr := w5.heap.size + 1) HMAY.out hgi3 (Nat.le_trans hlt5 hfs.size) (HS5.out.same (hfs.block _ HS5.out.lt (by simp; omega))) h56 hgl6 hgl0 HGN.out hgr6 (by omega) hrn)
    have HF6 := Lib.hid (((HF5.out.mono (ex' := [gl]) (by simp)).trans hfs).old (ex' := []) (by simp; omega))
    unfold qfun at HLW6 HF6 hz6
    clear h56 hw6 hgl6 hgr6 hfs hz5 hgl5 H55 HS5 HF5
    generalize ((w5.setCell ⟨gl, 7, none⟩ (.func (.func 26) #[] #[.pointer (some ⟨w5.heap.size + 1, 0, none⟩)])).alloc (.cells (IV .i64 raw) 45)).alloc (.cells #[.slice none 0 0] 24) = w6 at *
    generalize w5.heap.size + 1 = gr at *
    generalize hV : (⟨⟨gl, gw, N, bc, bt, bf, 0, cw, N, Y, .slice (some ⟨gi, oi, none⟩) N ci, .func (.func 26) #[] #[.pointer (some ⟨gr, 0, none⟩)]⟩, gr, gi, oi, ci, w3.heap.size, S⟩ : WE) = V at HLW6
    have v1 : gl = V.E.gl := by rw [← hV]
    have v2 : gw = V.E.gw := by rw [← hV]
    have v3 : bt = V.E.bt := by rw [← hV]
    have v4 : gr = V.gr := by rw [← hV]
    have v5 : N = V.E.N := by rw [← hV]
    have v6 : Y = V.E.Y := by rw [← hV]
    have v7 : w3.heap.size = V.G0 := by rw [← hV]
    have v8 : S = V.IMG := by rw [← hV]
    have v9 : cw = V.E.cw := by rw [← hV]
    have v10 : (N : Int) = V.E.X := by rw [← hV]
    have hcall := take_lw HLW6.out 1 raw hrl (Nat.le_refl _) (by rw [← v6]; exact y1) rfl r1 r2 R3.out
    rw [← v1, ← v6, ← v10] at hcall
    refine hcall.mono ?_; rintro e w7 ⟨rfl, ob, B, ⟨gx, bx⟩, hlw7, hmv7, hB⟩
    have hl7 := hlw7.k.look
    unfold lkCells at hl7
    rw [← v1] at hl7
    have hp7 := hlw7.ptr 1 (by omega)
    rw [hB, show ((1 : Nat) : Int) = 1 from rfl] at hp7
    simp only [Option.map_some, ptrOf] at hp7
    have ht7 : (takeZ N Y 1 raw 0 (zeroZ S)).T 1 = some ⟨(takeX N Y raw (zeroZ S).st).1, 0, (takeX N Y raw (zeroZ S).st).2.bk⟩ := by simp [takeZ, updT]
    obtain ⟨t', ht', hgx7, -⟩ := hlw7.yes 1 _ hB
    rw [ht7] at ht'
    obtain rfl := Option.some.inj ht'
    simp only at hgx7
    have hz8 := inC_size (hlw7.zi.t 1 _ ht7).2.2.1 0 bx
    simp only at hz8
    generalize hc8 : inC (takeX N Y raw (zeroZ S).st).1 0 bx = c8 at hgx7 hz8
    have z18 : 18 < c8.size := by omega
    have hlw8 := hlw7.en hB ht7 (n := 1) (by omega) (by omega)
    have hz0 : startZ N Y S = { takeZ N Y 1 raw 0 (zeroZ S) with T := updT (takeZ N Y 1 raw 0 (zeroZ S)).T 1 ⟨(takeX N Y raw (zeroZ S).st).1, 1, (takeX N Y raw (zeroZ S).st).2.bk⟩ } := by rw [← hRAW]; exact startZ_en N Y S
    rw [← hz0] at hlw8
    have hqs : (startZ N Y S).q = [1] := by
     rw [hz0]
     show (if nth raw 0 = 2 then (zeroZ S).q ++ [((1 : Nat) : Int)] else _) = _
     rw [if_pos hk2]; rfl
    have HLW8 := Lib.hid hlw8
    have HQS := Lib.hid hqs
    have HB7 := Lib.hid ((hmv7.below HLW6.out (by simp)).trans ((fr_setCell w7 gx 18 (.int .i64 1)).below (B := V.G0) (Nat.le_trans HLW6.out.sz hmv7.size) (by obtain ⟨t0, -, -, -, h1, -⟩ := hlw7.yes 1 _ hB; simpa using h1)))
    have hq8 := hlw8.q
    rw [hqs, ← v4] at hq8
    have HQ8 := Lib.hid hq8
    have HVV : Hid (gl = V.E.gl ∧ gw = V.E.gw ∧ bt = V.E.bt ∧ gr = V.gr ∧ N = V.E.N ∧ Y = V.E.Y ∧ w3.heap.size = V.G0 ∧ S = V.IMG ∧ cw = V.E.cw ∧ (N : Int) = V.E.X) := Lib.hid ⟨v1, v2, v3, v4, v5, v6, v7, v8, v9, v10⟩
    clear hlw7 hlw8 hmv7 hc8 ht7 hcall hz0 hqs hq8 hB ht' v1 v2 v3 v4 v5 v6 v7 v8 v9 v10 hV
    go_wp2_with fail
    refine (next_some gr ob 1 [] _ HQ8.out).mono ?_; rintro e w9 ⟨rfl, hq9, hf9⟩
    have HLW9 : Hid (LW V ob B { startZ N Y S with q := [] } w9) := Lib.hid (HLW8.out.pop HQS.out (by rw [← HVV.out.2.2.2.1]; exact hq9) (by rw [← HVV.out.2.2.2.1]; exact hf9))
    have HB9 : Hid (Below V.G0 w6 w9) := Lib.hid (HB7.out.trans ((Moved.gr (V := V) (but := []) (ob := ob) (B := B) (by rw [← HVV.out.2.2.2.1]; exact hf9)).below HLW8.out (by simp)))
    have HKB : Hid (∃ v, B 1 = some v) := Lib.hid (by
     obtain ⟨-, t, ht⟩ := HLW8.out.zi.q 1 (by rw [HQS.out]; simp)
     cases hb : B 1 with
     | none =>
      have := HLW8.out.no 1 hb
      have e : (1 : Int).toNat = 1 := rfl
      rw [e, this] at ht; cases ht
     | some v => exact ⟨v, rfl⟩)
    have HLL : Hid (loopZ N Y S 8191 (dirOf N Y S 1 { startZ N Y S with q := [] }) = lookZ N Y S ∧ potZ { startZ N Y S with q := [] } ≤ 8191) := Lib.hid (by
     refine ⟨?_, ?_⟩
     ·unfold lookZ
      rw [loopZ_cons N Y S 8191 (startZ N Y S) 1 [] HQS.out]; rfl
     ·exact Nat.le_of_succ_le_succ (Nat.le_trans (Nat.le_of_eq (pot_pop HQS.out)) HLW8.out.zi.pot))
    clear hq9 hf9 HLW8 HQS HB7 HQ8 hl7 hp7 hgx7 hz8 z18 hk0 hk2 hkn hkd
    go_wp2_with fail
    have H3L : Hid (w.heap.size < w3.heap.size) := Lib.hid (by omega)
    have HZ6 := Lib.hid hz6
    clear hz6 hgz hgz3 z34 z45 hzl5 hgll5 hgl0 hgi3 hlt5 hcl h2z
    go_loopg [11, 12] (potZ { startZ N Y S with q := [] } + 1) (fun g i m wr => ∃ (ob : Option Nat) (B : Nat → Option (Nat × Nat)) (z : LZ), Hid (LW V ob B z wr) ∧ Hid (Below V.G0 w6 wr) ∧
     ((m = .bool true ∧ ∃ (k f : Nat), i = .int .i64 k ∧ k < 4096 ∧ Hid (∃ v, B k = some v) ∧ g = potZ z + 1 ∧ Hid (potZ z ≤ f) ∧ Hid (loopZ N Y S f (dirOf N Y S k z) = lookZ N Y S)) ∨ (m = .bool false ∧ i = .int .i64 0 ∧ g = 0 ∧ Hid (z = lookZ N Y S))))
    case atStart => exact ⟨ob, B, _, HLW9, HB9, .inl ⟨rfl, 1, 8191, rfl, by omega, HKB, rfl, Lib.hid HLL.out.2, Lib.hid HLL.out.1⟩⟩
    case round =>
     obtain ⟨ob1, B1, z1, H1, HB1, hor⟩ := hrel
     clear HLW9 HB9 HKB HLL
     rcases hor with ⟨rfl, k, f, rfl, hk, HK, rfl, HP, HE⟩ | ⟨rfl, rfl, rfl, HE⟩
     ·obtain ⟨v, hv⟩ := HK.out
      have hcall := dir_any H1.out k hk v hv
      rw [← HVV.out.1] at hcall
      have HC := Lib.hid hcall
      clear hcall hv
      go_wp2_with fail
      refine HC.out.mono ?_; rintro e wA ⟨rfl, obA, BA, hlwA, hmvA⟩
      have HMA := Lib.hid (HB1.out.trans (hmvA.below H1.out (by simp)))
      have hpot : potZ (dirOf V.E.X V.E.Y V.IMG k z1) ≤ potZ z1 := pot_dir (by have := hlwA.small; have := hlwA.img4096; omega) _ _ _
      rw [← HVV.out.2.2.2.2.2.2.2.2.2, ← HVV.out.2.2.2.2.2.1, ← HVV.out.2.2.2.2.2.2.2.1] at hlwA hpot
      have HLA := Lib.hid hlwA
      have hqA := hlwA.q
      rw [← HVV.out.2.2.2.1] at hqA
      clear hlwA hmvA HC
      cases hQ : (dirOf N Y S k z1).q with
      | nil =>
       rw [hQ] at hqA
       have HQA := Lib.hid hqA
       have HFI : Hid (dirOf N Y S k z1 = lookZ N Y S) := Lib.hid (by rw [← HE.out, loopZ_nil _ _ _ _ _ hQ])
       clear hqA hpot
       go_wp2_with fail
       refine (next_none gr obA _ HQA.out).mono ?_; rintro e wB ⟨rfl, rfl⟩
       go_wp2_with fail
       go_roundg 0
       case measure => omega
       case rel => exact ⟨obA, BA, _, HLA, HMA, .inr ⟨rfl, rfl, rfl, HFI⟩⟩
      | cons j r =>
       rw [hQ] at hqA
       have HQA := Lib.hid hqA
       obtain ⟨hj0, tj, htj⟩ := HLA.out.zi.q j (by rw [hQ]; simp)
       obtain ⟨jn, rfl⟩ := Int.eq_ofNat_of_zero_le hj0
       have htj : (dirOf N Y S k z1).T jn = some tj := htj
       have hj4 : jn < 4096 := by
        have h1 := (HLA.out.zi.t jn tj htj).2.1
        have h2 : Y = V.E.Y := HVV.out.2.2.2.2.2.1
        omega
       have hpp := pot_pop hQ
       obtain ⟨f', hf'⟩ : ∃ f', f = f' + 1 := ⟨f - 1, by have := HP.out; omega⟩
       have HE2 : Hid (loopZ N Y S f' (dirOf N Y S jn { dirOf N Y S k z1 with q := r }) = lookZ N Y S) := Lib.hid (by rw [← HE.out, hf', loopZ_cons _ _ _ _ _ _ _ hQ]; rfl)
       have HP2 : Hid (potZ { dirOf N Y S k z1 with q := r } ≤ f') := Lib.hid (Nat.le_of_succ_le_succ (Nat.le_trans (Nat.le_of_eq hpp) (Nat.le_trans hpot (Nat.le_trans HP.out (Nat.le_of_eq hf')))))
       have hlt : potZ { dirOf N Y S k z1 with q := r } + 1 < potZ z1 + 1 := Nat.lt_succ_of_le (Nat.le_trans (Nat.le_of_eq hpp) hpot)
       have HKJ : Hid (∃ v, BA jn = some v) := Lib.hid (by
        cases hb : BA jn with
        | none => (have h3 := HLA.out.no jn hb; rw [h3] at htj; cases htj)
        | some v => exact ⟨v, rfl⟩)
       have HQQ := Lib.hid hQ
       clear hqA hpot hpp hj0 htj hQ
       go_wp2_with fail
       refine (next_some gr obA jn r _ HQA.out).mono ?_; rintro e wB ⟨rfl, hqB, hfB⟩
       have HLB := Lib.hid (HLA.out.pop HQQ.out (by rw [← HVV.out.2.2.2.1]; exact hqB) (by rw [← HVV.out.2.2.2.1]; exact hfB))
       have HMB := Lib.hid (HMA.out.trans ((Moved.gr (V := V) (but := []) (ob := obA) (B := BA) (by rw [← HVV.out.2.2.2.1]; exact hfB)).below HLA.out (by simp)))
       clear hqB hfB
       go_wp2_with fail
       go_roundg (potZ { dirOf N Y S k z1 with q := r } + 1)
       case measure => exact hlt
       case rel => exact ⟨obA, BA, _, HLB, HMB, .inl ⟨rfl, jn, f', rfl, hj4, HKJ, rfl, HP2, HE2⟩⟩
     ·have hcall := report_any H1.out
      rw [← HVV.out.1] at hcall
      have HC := Lib.hid hcall
      have hzr : hat wr w.heap.size = _ := (HB1.out.block _ (by rw [← HVV.out.2.2.2.2.2.2.1]; exact H3L.out)).trans HZ6.out
      have HS1 := Lib.hid H1.out.sz
      clear hcall
      go_wp2_with fail
      refine HC.out.mono ?_; rintro e wE ⟨u1, u2, u3, o1, o2, o3, rfl, k1, k2, k3, k4, k5, k6⟩
      have hzE : hat wE w.heap.size = _ := (k5.block _ (by rw [← HVV.out.2.2.2.2.2.2.1]; exact H3L.out)).trans hzr
      have HE1 := Lib.hid (hat_put4 hzE (.slice (some ⟨V.E.gw, 0, none⟩) V.E.N V.E.cw) u1 u2 u3)
      have P4 := fr_put4 wE w.heap.size (.slice (some ⟨V.E.gw, 0, none⟩) V.E.N V.E.cw) u1 u2 u3
      have K := Lib.hid (show _ ∧ _ ∧ _ ∧ _ ∧ _ ∧ _ ∧ _ from ⟨k1, k2, k3, k4, k5, k6, P4⟩)
      clear k1 k2 k3 k4 k5 k6 P4 hzr HC
      obtain ⟨p1, q1, c1, rfl⟩ : ∃ p q c, u1 = .slice p q c := K.out.2.1.sl
      obtain ⟨p2, q2, c2, rfl⟩ : ∃ p q c, u2 = .slice p q c := K.out.2.2.1.sl
      obtain ⟨p3, q3, c3, rfl⟩ : ∃ p q c, u3 = .slice p q c := K.out.2.2.2.1.sl
      go_wp2_with fail
      refine ret_ct row26 rfl (cs := #[.slice (some ⟨V.E.gw, 0, none⟩) V.E.N V.E.cw, .slice p1 q1 c1, .slice p2 q2 c2, .slice p3 q3 c3]) rfl HE1.out rfl rfl (.inl ⟨HYES.out, ?_⟩)
      obtain ⟨k1, k2, k3, k4, k5, k6, P4⟩ := K.out
      obtain ⟨-, e2, -, -, e5, e6, e7, e8, -, -⟩ := HVV.out
      rw [← e5, ← e6, HE.out] at k1
      rw [← e5, ← e6, HE.out, ← e8] at k2
      rw [HE.out] at k3 k4
      rw [← e5] at P4 ⊢
      have hg := H1.out.lo V.E.gw (by simp [mineW])
      have hg2 := H1.out.mlt V.E.gw (by simp [mineW])
      have h3 := H3L.out
      have hs := HS1.out
      have hne : V.E.gw ∉ [w.heap.size] := by simp; omega
      have hqn : ∀ o ∈ [o1, o2, o3], ∀ q, o = some q → q ∉ [w.heap.size] := fun o ho q hq => by
       have := k6.1 o ho q hq
       simp; omega
      obtain ⟨csE, hcE, -⟩ := id k1
      refine ⟨V.E.gw, V.E.cw, _, _, _, o1, o2, o3, rfl, k1.same (P4.block _ (hat_lt hcE) hne), k2.fr P4 (hqn o1 (by simp)), k3.fr P4 (hqn o2 (by simp)), k4.fr P4 (hqn o3 (by simp)), ?_, by omega, fun o ho q hq => ?_, k6.2⟩
      ·have hw6 := HF6.out.size
       have hle : w.heap.size ≤ V.G0 := by omega
       exact (((HF6.out.below (B := w.heap.size) (Nat.le_refl _) (by simp)).trans (HB1.out.mono hle)).trans (k5.mono hle)).trans (P4.below (by have := k5.size; omega) (by simp))
      ·have := k6.1 o ho q hq
       omega
theorem QRow.cell {w : World} {v : Value} {ob : Option Nat} {xs : List Int} (h : QRow w v ob xs) {k : Nat} (hk : k < xs.length) : ∃ g off c cs, v = .slice (some ⟨g, off, none⟩) xs.length c ∧ ob = some g ∧ hat w g = some (.cells cs 3) ∧ cs[off + k]? = some (.int .i64 (nth xs k)) := by
 rcases h with ⟨-, -, rfl⟩ | ⟨g, off, c, cs, rfl, h1, h2, h3, h4, h5⟩
 ·simp at hk
 ·exact ⟨g, off, c, cs, rfl, h1, h2, h5 k _ (by rw [nth_getElem? hk])⟩
theorem ints_any {v1 v2 : Value} {o1 o2 : Option Nat} {xs ys : List Int} {w : World} (h1 : QRow w v1 o1 xs) (h2 : QRow w v2 o2 ys) (hx : xs.length ≤ 100000) (hy : ys.length ≤ 100000) :
  Calls Tryz.prog 17 #[v1, v2] w fun e w' => e = .returned (.bool (decide (xs = ys))) ∧ Fr [] w w' := by
 obtain ⟨a1, c1, e1⟩ := h1.slice
 obtain ⟨a2, c2, e2⟩ := h2.slice
 subst e1 e2
 have H1 := Lib.hid h1
 have H2 := Lib.hid h2
 clear h1 h2
 generalize hM : xs.length = M at *
 generalize hK : ys.length = K at *
 have HM := Lib.hid hM
 have HK := Lib.hid hK
 clear hM hK
 by_cases hMK : M = K
 ·subst hMK
  have d1 : ((M : Int) != (M : Int)) = false := by simp
  have hpost : ∀ (b : Bool) W, Fr [] w W → b = decide (xs = ys) → (fun e w' => e = Ending.returned (.bool (decide (xs = ys))) ∧ Fr [] w w') (.returned (.bool b)) W := fun b W hf hb => ⟨by rw [hb], hf⟩
  have HP := Lib.hid hpost
  clear hpost
  go_enter Tryz.func17, Tryz.ntmps17
  go_wp2_with fail
  go_loopw [5] (fun v wr => ∃ k : Nat, v = .int .i64 k ∧ k ≤ M ∧ Hid (∀ j, j < k → nth xs j = nth ys j) ∧ Hid (Fr [] w wr)) (fun v wr => M - (intOf v).toNat)
  case atStart => exact ⟨0, rfl, Nat.zero_le _, Lib.hid (fun j hj => by omega), Lib.hid (Fr.refl _ _)⟩
  case round =>
   obtain ⟨k, rfl, hk, HE, HF⟩ := hrel
   by_cases hkM : k < M
   ·have hk0 : (0 : Int) ≤ (k : Int) := Int.natCast_nonneg _
    have hk1 : (k : Int) < (M : Int) := by omega
    obtain ⟨g1, f1, cc1, cs1, s1, t1, u1, x1⟩ := (H1.out.fr HF.out (by simp)).cell (k := k) (by rw [HM.out]; exact hkM)
    obtain ⟨g2, f2, cc2, cs2, s2, t2, u2, x2⟩ := (H2.out.fr HF.out (by simp)).cell (k := k) (by rw [HK.out]; exact hkM)
    injection s1 with s1
    injection s2 with s2
    subst s1 s2 t1 t2
    cases hq : (nth xs k == nth ys k) with
    | true =>
     have hqn : (nth xs k != nth ys k) = false := by simpa using hq
     go_wp2_with fail
     go_region
     go_wp2_with fail
     go_roundw
     case rel =>
      refine ⟨k + 1, by go_num, by omega, Lib.hid (fun j hj => ?_), Lib.hid (fr_drew HF.out)⟩
      by_cases hjk : j = k
      ·subst hjk; simpa using hq
      ·exact HE.out j (by omega)
     case measure => (show M - (k + 1) < M - k); omega
    | false =>
     have hqn : (nth xs k != nth ys k) = true := by simpa using hq
     go_wp2_with fail
     go_region
     go_wp2_with fail
     go_ret
     refine HP.out false _ (fr_drew HF.out) ?_
     symm
     rw [decide_eq_false_iff_not]
     intro e
     rw [e] at hq
     simp at hq
   ·obtain rfl : k = M := by omega
    go_wp2_with fail
    go_ret
    refine HP.out true _ HF.out ?_
    symm
    rw [decide_eq_true_eq]
    apply List.ext_getElem?
    intro j
    by_cases hj : j < k
    ·rw [nth_getElem? (by rw [HM.out]; exact hj), nth_getElem? (by rw [HK.out]; exact hj), HE.out j hj]
    ·rw [List.getElem?_eq_none (by rw [HM.out]; omega), List.getElem?_eq_none (by rw [HK.out]; omega)]
 ·have d1 : ((M : Int) != (K : Int)) = true := by simp; omega
  have hne : decide (xs = ys) = false := by
   rw [decide_eq_false_iff_not]
   intro e
   rw [e] at HM
   exact hMK (HM.out.symm.trans HK.out)
  rw [hne]
  go_enter Tryz.func17, Tryz.ntmps17
  go_wp2_with fail
  go_ret
  exact ⟨rfl, Fr.refl _ _⟩
theorem info_secz : ∃ i0 z, Tryz.prog.info? 33 = some i0 ∧ i0.zero = some z ∧ z.cells = IV .u8 (zl 128) ∧ i0.size = 128 ∧ i0.bytes = 128 := by
 have h : (Tryz.prog.info? 33).map (fun i => (i.zero.map (fun z => z.cells), i.size, i.bytes)) = some (some (IV .u8 (zl 128)), 128, 128) := by kernel_rfl
 cases hq : Tryz.prog.info? 33 with
 | none => rw [hq] at h; cases h
 | some inf =>
  rw [hq] at h
  simp only [Option.map_some, Option.some.injEq, Prod.mk.injEq] at h
  obtain ⟨h1, h2, h3⟩ := h
  cases hz : inf.zero with
  | none => rw [hz] at h1; cases h1
  | some z =>
   rw [hz] at h1
   simp only [Option.map_some, Option.some.injEq] at h1
   exact ⟨inf, z, rfl, hz, h1, h2, h3⟩
theorem WSecs.lt {w : World} {g N : Nat} {S : Nat → List Int} (h : WSecs w g N S) : g < w.heap.size := by
 obtain ⟨cs, h1, -⟩ := h; exact hat_lt h1
theorem fold_A : (Array.foldl (fun cs (x : Value × Nat) => cs.setIfInBounds (4 + x.snd) x.fst) (IV .i64 ((((zl 18).set 0 2).set 1 7).set 2 128)) (IV .i64 ((zl 12).set 0 5)).zipIdx 0 12) = IV .i64 exA := by kernel_rfl
theorem fold_B : (Array.foldl (fun cs (x : Value × Nat) => cs.setIfInBounds (4 + x.snd) x.fst) (IV .i64 ((((zl 18).set 0 1).set 1 1).set 2 3)) (IV .i64 ((zl 12).set 0 6)).zipIdx 0 12) = IV .i64 exB := by kernel_rfl
theorem make_secs (w : World) (N : Nat) (hN : N ≤ 4096) : ∃ w', (Instr.makeSlice 22 (.int .i64 N) (.int .i64 N)).run Tryz.prog w = .ok (.slice (some ⟨w.heap.size, 0, none⟩) N N) w' ∧ WSecs w' w.heap.size N (fun _ => zl 128) ∧ Below w.heap.size w w' := by
 obtain ⟨i, z, h1, h2, h3, h4, h5⟩ := info_secz
 have hr := run_make (P := Tryz.prog) w 22 33 i z Tryz.underlying22 h1 h2 .i64 .i64 N N (by omega) (Int.le_refl _) (by rw [h5]; omega) (by omega)
 rw [Int.toNat_natCast, h4, h3] at hr
 refine ⟨_, hr, ⟨_, (hopN w _).1, by rw [size_madeCells]; exact Nat.le_refl _, fun j hj => ⟨zl_length _, bytes_zl _, ?_⟩⟩, (Below.refl _ _).alloc (Nat.le_refl _) _⟩
 apply Array.ext_getElem?
 intro k
 rw [Array.getElem?_extract, IV_get?, size_madeCells]
 by_cases hk : k < 128
 ·rw [if_pos (by omega)]
  have hm : ((IV .u8 (zl 128)).size : Nat) = 128 := by simp
  have hlt : (j * 128 + k) % 128 < 128 := Nat.mod_lt _ (by omega)
  have hz : ∀ n, n < 128 → (IV .u8 (zl 128))[n]! = .int .u8 0 := fun n hn => by
   rw [getElem!_def, IV_get?]
   unfold zl
   rw [List.getElem?_replicate, if_pos hn]; rfl
  unfold madeCells
  rw [Array.getElem?_map, Array.getElem?_range, if_pos (by omega)]
  simp only [Option.map_some, hm, hz _ hlt]
  unfold zl
  rw [List.getElem?_replicate, if_pos hk]; rfl
 ·rw [if_neg (by omega), List.getElem?_eq_none (by simp; omega)]; rfl
theorem exH_bytes : Bytes ((((((zl 128).set 0 104).set 1 101).set 2 108).set 3 108).set 4 111) := by
 have h : ∀ x ∈ ((((((zl 128).set 0 104).set 1 101).set 2 108).set 3 108).set 4 111), 0 ≤ x ∧ x < 256 := by decide +kernel
 exact h
theorem example_any (w : World) : Calls Tryz.prog 22 #[] w fun e w' => ∃ g, e = .returned (.slice (some ⟨g, 0, none⟩) 16 16) ∧ w.heap.size ≤ g ∧ WSecs w' g 16 exS ∧ Below w.heap.size w w' := by
 obtain ⟨w1, hr, hws, hb⟩ := make_secs w 16 (by omega)
 have HWS := Lib.hid hws
 have HB := Lib.hid hb
 have HZ := Lib.hid (Nat.le_refl w.heap.size)
 have hr16 : (Instr.makeSlice 22 (.int .i64 16) (.int .i64 16)).run Tryz.prog w = .ok (.slice (some ⟨w.heap.size, 0, none⟩) 16 16) w1 := hr
 clear hws hb hr
 go_enter Tryz.func22, Tryz.ntmps22
 generalize hg : w.heap.size = g at *
 have HG := Lib.hid hg
 clear hg
 go_wp2_with fail
 have r0 : supR 16 4 = (supSec 16 4, 0) := supR_yes ex_sup
 have r1 : inoR exA = (inoSec exA, 0) := inoR_yes exA_may
 have r2 : inoR exB = (inoSec exB, 0) := inoR_yes exB_may
 have l5 : (slotSec 2 exN).length = 128 := by decide +kernel
 have l0 : (supSec 16 4).length = 128 := supSec_length _ _
 have l1 : (inoSec exA).length = 128 := inoSecN_length _ _
 have l2 : (inoSec exB).length = 128 := inoSecN_length _ _
 refine (rsup_any 16 4 _ ⟨by omega, by omega⟩ ⟨by omega, by omega⟩).mono ?_; rintro e w2 ⟨rfl, hb2⟩
 rw [r0]
 have hwa := HWS.out.same (hat_below hb2 HWS.out.lt)
 obtain ⟨cs, hcs, hsz, -⟩ := id hwa
 have hst : ∀ raw W, stRow raw 128 0 g (IV .u8 (supSec 16 4)) W (some (.cells cs 33 (0, 0))) = .ok () (W.setRow g (splice cs 0 (IV .u8 (supSec 16 4)))) := fun raw W => stRow_part (by omega) (by simp [l0]) (by simp)
 have HWS2 : Hid (WSecs (w2.setRow g (splice cs 0 (IV .u8 (supSec 16 4)))) g 16 (updS (fun _ => zl 128) 0 (supSec 16 4))) := Lib.hid (hwa.store (i := 0) hcs (by omega) (s := (supSec 16 4)) l0 (supSec_bytes _ _))
 have HB2 : Hid (Below g w (w2.setRow g (splice cs 0 (IV .u8 (supSec 16 4))))) := Lib.hid ((HB.out.trans (hb2.mono (Nat.le_of_lt HWS.out.lt))).trans ((fr_setRow w2 g (splice cs 0 (IV .u8 (supSec 16 4)))).below (B := g) (Nat.le_of_lt (hat_lt hcs)) (by simp)))
 have hgl := hat_lt hcs
 clear hwa hb2 HWS HB hr16
 go_wp2_with fail
 clear hst hsz hgl
 generalize w2.setRow g (splice cs 0 (IV .u8 (supSec 16 4))) = w2 at *
 clear hcs
 rw [fold_A]
 refine (rino_any exA (by decide) _).mono ?_; rintro e w3 ⟨rfl, hb2⟩
 rw [r1]
 have hwa := HWS2.out.same (hat_below hb2 HWS2.out.lt)
 obtain ⟨cs, hcs, hsz, -⟩ := id hwa
 have hst : ∀ raw W, stRow raw 128 128 g (IV .u8 (inoSec exA)) W (some (.cells cs 33 (0, 0))) = .ok () (W.setRow g (splice cs 128 (IV .u8 (inoSec exA)))) := fun raw W => stRow_part (by omega) (by simp [l1]) (by simp)
 have HWS3 : Hid (WSecs (w3.setRow g (splice cs 128 (IV .u8 (inoSec exA)))) g 16 (updS (updS (fun _ => zl 128) 0 (supSec 16 4)) 1 (inoSec exA))) := Lib.hid (hwa.store (i := 1) hcs (by omega) (s := (inoSec exA)) l1 (inoSec_bytes _))
 have HB3 : Hid (Below g w (w3.setRow g (splice cs 128 (IV .u8 (inoSec exA))))) := Lib.hid ((HB2.out.trans (hb2.mono (Nat.le_of_lt HWS2.out.lt))).trans ((fr_setRow w3 g (splice cs 128 (IV .u8 (inoSec exA)))).below (B := g) (Nat.le_of_lt (hat_lt hcs)) (by simp)))
 have hgl := hat_lt hcs
 clear hwa hb2 HWS2 HB2
 go_wp2_with fail
 clear hst hsz hgl
 generalize w3.setRow g (splice cs 128 (IV .u8 (inoSec exA))) = w3 at *
 clear hcs
 rw [fold_B]
 refine (rino_any exB (by decide) _).mono ?_; rintro e w4 ⟨rfl, hb2⟩
 rw [r2]
 have hwa := HWS3.out.same (hat_below hb2 HWS3.out.lt)
 obtain ⟨cs, hcs, hsz, -⟩ := id hwa
 have hst : ∀ raw W, stRow raw 128 256 g (IV .u8 (inoSec exB)) W (some (.cells cs 33 (0, 0))) = .ok () (W.setRow g (splice cs 256 (IV .u8 (inoSec exB)))) := fun raw W => stRow_part (by omega) (by simp [l2]) (by simp)
 have HWS4 : Hid (WSecs (w4.setRow g (splice cs 256 (IV .u8 (inoSec exB)))) g 16 (updS (updS (updS (fun _ => zl 128) 0 (supSec 16 4)) 1 (inoSec exA)) 2 (inoSec exB))) := Lib.hid (hwa.store (i := 2) hcs (by omega) (s := (inoSec exB)) l2 (inoSec_bytes _))
 have HB4 : Hid (Below g w (w4.setRow g (splice cs 256 (IV .u8 (inoSec exB))))) := Lib.hid ((HB3.out.trans (hb2.mono (Nat.le_of_lt HWS3.out.lt))).trans ((fr_setRow w4 g (splice cs 256 (IV .u8 (inoSec exB)))).below (B := g) (Nat.le_of_lt (hat_lt hcs)) (by simp)))
 have hgl := hat_lt hcs
 clear hwa hb2 HWS3 HB3
 go_wp2_with fail
 clear hst hsz hgl
 generalize w4.setRow g (splice cs 256 (IV .u8 (inoSec exB))) = w4 at *
 clear hcs
 refine (rslo_any 2 exN _ (by decide)).mono ?_; rintro e w5 ⟨rfl, hb2⟩
 rw [ex_slo]
 have hwa := HWS4.out.same (hat_below hb2 HWS4.out.lt)
 obtain ⟨cs, hcs, hsz, -⟩ := id hwa
 have hst : ∀ raw W, stRow raw 128 640 g (IV .u8 (slotSec 2 exN)) W (some (.cells cs 33 (0, 0))) = .ok () (W.setRow g (splice cs 640 (IV .u8 (slotSec 2 exN)))) := fun raw W => stRow_part (by omega) (by simp [l5]) (by simp)
 have HWS5 : Hid (WSecs (w5.setRow g (splice cs 640 (IV .u8 (slotSec 2 exN)))) g 16 (updS (updS (updS (updS (fun _ => zl 128) 0 (supSec 16 4)) 1 (inoSec exA)) 2 (inoSec exB)) 5 (slotSec 2 exN))) := Lib.hid (hwa.store (i := 5) hcs (by omega) (s := (slotSec 2 exN)) l5 (slotSec_bytes _ _ (by decide)))
 have HB5 : Hid (Below g w (w5.setRow g (splice cs 640 (IV .u8 (slotSec 2 exN))))) := Lib.hid ((HB4.out.trans (hb2.mono (Nat.le_of_lt HWS4.out.lt))).trans ((fr_setRow w5 g (splice cs 640 (IV .u8 (slotSec 2 exN)))).below (B := g) (Nat.le_of_lt (hat_lt hcs)) (by simp)))
 have hgl := hat_lt hcs
 clear hwa hb2 HWS4 HB4
 have hsz2 : 2048 ≤ (splice cs 640 (IV .u8 (slotSec 2 exN))).size := by rw [splice_size _ _ _ (by rw [IV_size, l5]; omega)]; exact hsz
 have hst2 : ∀ raw W, stRow raw 128 768 g (IV .u8 ((((((zl 128).set 0 104).set 1 101).set 2 108).set 3 108).set 4 111)) W (some (.cells (splice cs 640 (IV .u8 (slotSec 2 exN))) 33 (0, 0))) = .ok () (W.setRow g (splice (splice cs 640 (IV .u8 (slotSec 2 exN))) 768 (IV .u8 ((((((zl 128).set 0 104).set 1 101).set 2 108).set 3 108).set 4 111)))) := fun raw W => stRow_part (by omega) (by simp) (by simp)
 have hcs2 : hat (w5.setRow g (splice cs 640 (IV .u8 (slotSec 2 exN)))) g = some (.cells (splice cs 640 (IV .u8 (slotSec 2 exN))) 33) := hat_setRow_at _ _ _ _ _ _ hcs
 have HWS6 : Hid (WSecs ((w5.setRow g (splice cs 640 (IV .u8 (slotSec 2 exN)))).setRow g (splice (splice cs 640 (IV .u8 (slotSec 2 exN))) 768 (IV .u8 ((((((zl 128).set 0 104).set 1 101).set 2 108).set 3 108).set 4 111)))) g 16 exS) := Lib.hid (HWS5.out.store (i := 6) hcs2 (by omega) (s := ((((((zl 128).set 0 104).set 1 101).set 2 108).set 3 108).set 4 111)) (by simp) exH_bytes)
 have HB6 : Hid (Below g w ((w5.setRow g (splice cs 640 (IV .u8 (slotSec 2 exN)))).setRow g (splice (splice cs 640 (IV .u8 (slotSec 2 exN))) 768 (IV .u8 ((((((zl 128).set 0 104).set 1 101).set 2 108).set 3 108).set 4 111))))) := Lib.hid (HB5.out.trans ((fr_setRow (w5.setRow g (splice cs 640 (IV .u8 (slotSec 2 exN)))) g (splice (splice cs 640 (IV .u8 (slotSec 2 exN))) 768 (IV .u8 ((((((zl 128).set 0 104).set 1 101).set 2 108).set 3 108).set 4 111)))).below (B := g) (Nat.le_of_lt (hat_lt hcs2)) (by simp)))
 clear hcs2
 go_wp2_with fail
 go_ret
 exact ⟨g, rfl, Nat.le_refl _, HWS6.out, HB6.out⟩
theorem WSecs.secs {w : World} {g N : Nat} {S : Nat → List Int} (h : WSecs w g N S) : Secs w g 0 N S := by
 obtain ⟨cs, h1, h2, h3⟩ := h
 exact ⟨cs, _, _, h1, by omega, fun i hi => by simpa using h3 i hi⟩
theorem ex_root : rootOk exS := ⟨by unfold soundR; rw [exS_1]; decide, by rw [exS_1]; rfl⟩
theorem QRow.two {w : World} {g : Nat} {a b : Int} (h : hat w g = some (.cells #[.int .i64 a, .int .i64 b] 3)) : QRow w (.slice (some ⟨g, 0, none⟩) 2 2) (some g) [a, b] :=
 .inr ⟨g, 0, 2, _, rfl, rfl, h, Nat.le_refl _, Nat.le_refl _, fun j p hj => by
  rcases j with _ | _ | j
  ·simp at hj; subst hj; rfl
  ·simp at hj; subst hj; rfl
  ·simp at hj⟩
theorem known12_true (w : World) : Calls Tryz.prog 9 #[] w fun e w' => e = .returned (.bool true) ∧ Below w.heap.size w w' := by
 go_enter Tryz.func9, Tryz.ntmps9
 go_wp2_with fail
 refine (example_any _).mono ?_; rintro e w1 ⟨g, rfl, hg0, hws, hb1⟩
 have hcall := look_good g 0 16 16 exS w1 hws.secs (by omega) (by omega) (by rw [exS_0]) (by rw [exS_0]; rfl)
 rw [exS_0] at hcall
 have HC := Lib.hid hcall
 have HB1 := Lib.hid hb1
 clear hws hb1 hcall
 go_wp2_with fail
 refine HC.out.mono ?_; rintro e w2 hor
 rcases hor with ⟨-, gw, cw, v1, v2, v3, o1, o2, o3, rfl, k1, k2, k3, k4, k5, k6, k7⟩ | ⟨h, -⟩
 rotate_left
 ·exact absurd ex_root h
 simp only [ex_look, ex_write, ex_ino, ex_blk] at k1 k2 k3 k4
 obtain ⟨p1, q1, c1, rfl⟩ := k2.sl
 obtain ⟨p2, q2, c2, rfl⟩ := k3.sl
 obtain ⟨p3, q3, c3, rfl⟩ := k4.sl
 have HB2 := Lib.hid (HB1.out.trans (k5.mono HB1.out.size))
 have K1 := Lib.hid k1
 have K2 := Lib.hid k2
 have K3 := Lib.hid k3
 have K4 := Lib.hid k4
 clear HC k1 k2 k3 k4 k5 k6 k7 HB1
 have hfW : Fr [] w2 ((w2.alloc (.cells #[.slice (some ⟨gw, 0, none⟩) 16 cw, .slice p1 q1 c1, .slice p2 q2 c2, .slice p3 q3 c3] 26)).alloc (.cells #[.int .i64 1, .int .i64 6] 3)) := (fr_alloc _ _ _).trans (fr_alloc _ _ _)
 have hR : hat ((w2.alloc (.cells #[.slice (some ⟨gw, 0, none⟩) 16 cw, .slice p1 q1 c1, .slice p2 q2 c2, .slice p3 q3 c3] 26)).alloc (.cells #[.int .i64 1, .int .i64 6] 3)) w2.heap.size = some (.cells #[.slice (some ⟨gw, 0, none⟩) 16 cw, .slice p1 q1 c1, .slice p2 q2 c2, .slice p3 q3 c3] 26) := (hopA _ _ (hopN w2 _).1).1
 have hN : hat ((w2.alloc (.cells #[.slice (some ⟨gw, 0, none⟩) 16 cw, .slice p1 q1 c1, .slice p2 q2 c2, .slice p3 q3 c3] 26)).alloc (.cells #[.int .i64 1, .int .i64 6] 3)) (w2.heap.size + 1) = some (.cells #[.int .i64 1, .int .i64 6] 3) := hat_alloc_at _ _ _ (by simp)
 go_wp2_with fail
 refine (ints_any (K2.out.fr hfW (by simp)) (QRow.two hN) (by simp) (by simp)).mono ?_; rintro e w3 ⟨rfl, hf⟩
 rw [show decide (([1, 6] : List Int) = [1, 6]) = true from by decide]
 have hR : hat w3 w2.heap.size = _ := (hf.block _ (hat_lt hR) (by simp)).trans hR
 have HFw3 := Lib.hid (hfW.trans hf)
 have hzr := hat_lt hR
 generalize hzz : w2.heap.size = zr at *
 clear hfW hN hf hzz
 have hfW : Fr [] w3 (w3.alloc (.cells #[.int .i64 1, .int .i64 2] 3)) := fr_alloc _ _ _
 have hN : hat (w3.alloc (.cells #[.int .i64 1, .int .i64 2] 3)) w3.heap.size = some (.cells #[.int .i64 1, .int .i64 2] 3) := (hopN _ _).1
 go_wp2_with fail
 refine (ints_any (K3.out.fr (HFw3.out.trans hfW) (by simp)) (QRow.two hN) (by simp) (by simp)).mono ?_; rintro e w4 ⟨rfl, hf⟩
 rw [show decide (([1, 2] : List Int) = [1, 2]) = true from by decide]
 have hR : hat w4 zr = _ := ((hfW.trans hf).block _ (hat_lt hR) (by simp)).trans hR
 have HFw4 := Lib.hid ((HFw3.out.trans hfW).trans hf)
 have hzr := hat_lt hR
 clear hfW hN hf HFw3
 have hfW : Fr [] w4 (w4.alloc (.cells #[.int .i64 5, .int .i64 6] 3)) := fr_alloc _ _ _
 have hN : hat (w4.alloc (.cells #[.int .i64 5, .int .i64 6] 3)) w4.heap.size = some (.cells #[.int .i64 5, .int .i64 6] 3) := (hopN _ _).1
 go_wp2_with fail
 refine (ints_any (K4.out.fr (HFw4.out.trans hfW) (by simp)) (QRow.two hN) (by simp) (by simp)).mono ?_; rintro e w5 ⟨rfl, hf⟩
 rw [show decide (([5, 6] : List Int) = [5, 6]) = true from by decide]
 have hR : hat w5 zr = _ := ((hfW.trans hf).block _ (hat_lt hR) (by simp)).trans hR
 have HFw5 := Lib.hid ((HFw4.out.trans hfW).trans hf)
 have hzr := hat_lt hR
 clear hfW hN hf HFw4
 have hwW := K1.out
 obtain ⟨csW, hcsW, hszW, hallW⟩ := hwW
 have hcsW5 := (HFw5.out.block _ (hat_lt hcsW) (by simp)).trans hcsW
 have hld6 : ∀ raw W, ldRow raw 128 768 W (some (.cells csW 33 (0, 0))) = .ok (.agg (IV .u8 ((((zl 128).set 0 104).set 1 101).set 2 108))) W := fun raw W => by
  rw [ldRow_part (by omega), show (768 : Nat) = 6 * 128 from rfl, (hallW 6 (by omega)).2.2, exW_6]
  congr 1
 have hc129 : csW[129]? = some (.int .u8 1) := by
  have h := congrArg (fun a => a[1]?) (hallW 1 (by omega)).2.2
  simp only [Array.getElem?_extract] at h
  rw [if_pos (by omega), IV_get?, exW_1] at h
  rw [show 1 * 128 + 1 = 129 from rfl] at h
  rw [h, show (inoSec exA')[1]? = some 1 from by decide +kernel]; rfl
 have HBF := Lib.hid (HB2.out.trans (HFw5.out.below (B := w.heap.size) HB2.out.size (by simp)))
 clear hallW hszW hcsW K1 K2 K3 K4
 go_wp2_with fail
 go_ret
 exact ⟨rfl, HBF.out⟩
noncomputable def lookE (N : Nat) (S : Nat → List Int) : Int := open Classical in
 if N < 8 ∨ 4096 < N then 120 else if (rdSupR (S 0)).2.2 ≠ 0 ∨ (rdSupR (S 0)).1 ≠ N then 120 else if rootOk S then 0 else 121
theorem lookE_ok {N : Nat} {S : Nat → List Int} (h : lookE N S = 0) : 8 ≤ N ∧ N ≤ 4096 ∧ (rdSupR (S 0)).2.2 = 0 ∧ (rdSupR (S 0)).1 = N ∧ rootOk S := by
 unfold lookE at h
 split at h
 ·cases h
 ·split at h
  ·cases h
  ·split at h
   ·rename_i h1 h2 h3
    refine ⟨by omega, by omega, Decidable.byContradiction fun h4 => h2 (.inl h4), Decidable.byContradiction fun h4 => h2 (.inr h4), h3⟩
   ·cases h
theorem zero_pz (X Y : Int) (S : Nat → List Int) : PZ X Y (zeroZ S) := ⟨fun i t h => (by cases h), fun i t h => (by cases h), fun i t h => (by cases h), fun i t i' t' p h => (by cases h), fun q h => (by cases h), fun i t h => (by cases h), fun i t h => (by cases h)⟩
theorem zero_cz (S : Nat → List Int) : CZ S (zeroZ S) := ⟨fun i t h => (by cases h), fun i t h => (by cases h)⟩
theorem start_wz {X Y : Int} (hY : 1 ≤ Y) {S : Nat → List Int} (hA : ∀ j : Nat, isD X Y j = true → (S j).length = 128 ∧ Bytes (S j)) (hr : rootOk S) : WZ X Y S (fun _ => []) 0 0 (startZ X Y S) := by
 have hs : soundR (S 1) = true := hr.1
 obtain ⟨hi, -, -⟩ := look_inv (by omega) hA hs
 have hp : PZ X Y (startZ X Y S) := (zero_pz X Y S).take (by omega) (zero_i (Y := Y) hA) rfl (rdInoR_length _) 1
 have hc : CZ S (startZ X Y S) := (zero_cz S).take (X := X) (Y := Y) (by omega) (zero_i (Y := Y) hA) rfl (rdInoR_length _) 1
 have hkind : nth (takeX X Y (rdInoR (S 1)).1 (zeroZ S).st).1 0 = nth (rdInoR (S 1)).1 0 := by
  rw [(takeX_parts X Y _ _).1]
  exact (ptrs_nth (X := X) (by omega) _ (rdInoR_length _) _).1 0 (by omega)
 have hT : ∀ i t, (startZ X Y S).T i = some t → i = 1 ∧ t = ⟨(takeX X Y (rdInoR (S 1)).1 (zeroZ S).st).1, 1, (takeX X Y (rdInoR (S 1)).1 (zeroZ S).st).2.bk⟩ := by
  intro i t ht
  have h2 : updT (fun _ => none) 1 ⟨(takeX X Y (rdInoR (S 1)).1 (zeroZ S).st).1, 1, (takeX X Y (rdInoR (S 1)).1 (zeroZ S).st).2.bk⟩ i = some t := ht
  by_cases e : i = 1
  ·subst e
   rw [updT_eq] at h2
   exact ⟨rfl, (Option.some.inj h2).symm⟩
  ·rw [updT_ne _ _ e] at h2; cases h2
 have hq : (startZ X Y S).q = [1] := by
  show (if nth (rdInoR (S 1)).1 0 = 2 then [] ++ [((1 : Nat) : Int)] else []) = _
  rw [if_pos hr.2]; rfl
 refine ⟨hi, hp, hc, fun i e h => (by cases h), fun i => List.nodup_nil, fun i h => absurd rfl h, fun i t ht => ?_, fun j t ht => ?_, fun j t ht => ?_, fun P h1 _ j t ht => ?_, ⟨⟨(takeX X Y (rdInoR (S 1)).1 (zeroZ S).st).1, 1, (takeX X Y (rdInoR (S 1)).1 (zeroZ S).st).2.bk⟩, show updT (fun _ => none) 1 _ 1 = _ from updT_eq _ _ _⟩, fun i t ht _ => ?_⟩
 ·obtain ⟨rfl, -⟩ := hT i t ht
  exact ⟨Nat.le_refl _, hY⟩
 ·obtain ⟨rfl, rfl⟩ := hT j t ht
  rw [if_pos rfl, cntL_zero (fun i e he => by cases he)]; rfl
 ·obtain ⟨rfl, rfl⟩ := hT j t ht
  exact ⟨Int.le_refl _, fun _ => rfl⟩
 ·obtain ⟨rfl, -⟩ := hT j t ht
  exact h1
 ·obtain ⟨rfl, -⟩ := hT i t ht
  unfold doneB
  rw [hq, if_pos (by simp)]
  rfl
structure WFin (X Y : Int) (S : Nat → List Int) (L : Nat → List Ent) (z : LZ) : Prop where
 w : WZ X Y S L 0 0 z
 q : z.q = []
theorem look_wz {X Y : Int} (hY : 1 ≤ Y) (hY9 : Y < 4096) {S : Nat → List Int} (hA : ∀ j : Nat, isD X Y j = true → (S j).length = 128 ∧ Bytes (S j)) (hr : rootOk S) : ∃ L, WFin X Y S L (lookZ X Y S) := by
 obtain ⟨L, h⟩ := loop_wz (by omega) 8192 _ _ (start_wz hY hA hr)
 refine ⟨L, h, ?_⟩
 have hm := sound_may hr.1
 have hb := (inoMay_else hm.2).1 hm.1
 have hz : ZI X Y (startZ X Y S) := (zeroZI X Y S).take (Nat.le_refl 1) hY (by decide) (rdInoR_length _) hb.1.2.2.1.1 hb.1.2.2.1.2 (by decide) (by decide) rfl
 exact loop_over hY9 S 8192 _ hz.pot
theorem dirL_set (raw : List Int) (e : Int) : dirL (raw.set 1 e) = dirL raw := by
 unfold dirL
 rw [List.drop_set_of_lt (by decide)]
theorem inoPs_set (n : Int) (S : Nat → List Int) (raw : List Int) (e : Int) : inoPs n S (raw.set 1 e) = inoPs n S raw := by
 unfold inoPs
 rw [dirL_set, nth_set_ne _ _ (by decide), nth_set_ne _ _ (by decide)]
theorem inoSh_set (n : Int) (S : Nat → List Int) (raw : List Int) (e : Int) : inoSh n S (raw.set 1 e) ↔ inoSh n S raw := by
 unfold inoSh
 rw [dirL_set, nth_set_ne _ _ (by decide), nth_set_ne _ _ (by decide)]
theorem blkW_set (S : Nat → List Int) (raw : List Int) (e : Int) (k : Nat) : blkW S (raw.set 1 e) k = blkW S raw k := by
 unfold blkW
 rw [nth_set_ne _ _ (by omega), nth_set_ne _ _ (by decide), nth_set_ne _ _ (by decide)]
structure OutW (X Y : Int) (S W : Nat → List Int) (z : LZ) : Prop where
 d : ∀ j : Nat, isD X Y j = true → W j = z.st.S j
 yes : ∀ i t, z.T i = some t → wI W i = t.raw.set 1 t.en ∧ nth t.raw 0 ≠ 0 ∧ InoMay (t.raw.set 1 t.en)
 no : ∀ i : Nat, 1 ≤ i → (i : Int) ≤ Y → z.T i = none → wI W i = zl 18
 rd : ∀ i : Nat, 1 ≤ i → (i : Int) ≤ Y → (rdInoR (W i)).2 = 0
theorem out_w {X Y : Int} {S : Nat → List Int} {L : Nat → List Ent} {z : LZ} (h : WFin X Y S L z) : OutW X Y S (repS Y z) z := by
 have hyes : ∀ i t, z.T i = some t → rdInoR (repS Y z i) = (t.raw.set 1 t.en, 0) ∧ InoMay (t.raw.set 1 t.en) ∧ nth t.raw 0 ≠ 0 := fun i t ht => by
  obtain ⟨h1, h2⟩ := h.w.ix i t ht
  rw [repS_ino z h1 h2]
  exact inoW_reads h.w.inv ht
 have hno : ∀ i : Nat, 1 ≤ i → (i : Int) ≤ Y → z.T i = none → rdInoR (repS Y z i) = (zl 18, 0) := fun i h1 h2 ht => by
  rw [repS_ino z h1 h2]
  unfold inoW
  rw [ht]
  exact ino_zero
 refine ⟨fun j hj => repS_else z (isD_not hj), fun i t ht => ?_, fun i h1 h2 ht => ?_, fun i h1 h2 => ?_⟩
 ·obtain ⟨a, b, c⟩ := hyes i t ht
  exact ⟨by rw [wI_yes _ (h.w.ix i t ht).1, a], c, b⟩
 ·rw [wI_yes _ h1, hno i h1 h2 ht]
 ·cases ht : z.T i with
  | none => rw [hno i h1 h2 ht]
  | some t => rw [(hyes i t ht).1]
theorem wI_size {X Y : Int} {S W : Nat → List Int} {z : LZ} (h : OutW X Y S W z) {i : Nat} {t : TI} (ht : z.T i = some t) : nth (wI W i) 0 = nth t.raw 0 ∧ nth (wI W i) 2 = nth t.raw 2 := by
 rw [(h.yes i t ht).1]
 exact ⟨nth_set_ne _ _ (by decide), nth_set_ne _ _ (by decide)⟩
theorem out_pt {X Y : Int} (hY : 0 ≤ Y) {S W : Nat → List Int} {L : Nat → List Ent} {z : LZ} (h : WFin X Y S L z) (ho : OutW X Y S W z) {i : Nat} {t : TI} (ht : z.T i = some t) :
  inoPs (cntX (nth (wI W i) 2)) W (wI W i) = psT z.st.S t ∧ inoSh (cntX (nth (wI W i) 2)) W (wI W i) ∧ (∀ k : Nat, k < 1068 → t.bk k = optI (blkW W (wI W i) k)) ∧ inoTb (cntX (nth t.raw 2)) W t.raw = tbT z.st.S t := by
 obtain ⟨e0, e2⟩ := wI_size ho ht
 obtain ⟨a, b, c, d⟩ := ino_st (cntX (nth t.raw 2)) z.st.S W t.raw (fun q hq => by
  have hd := ((h.w.pz.ok i t ht).1 q (ino_tp _ _ _ q hq)).1
  exact ho.d _ (by rw [(isD_nat hY hd).1]; exact hd))
 rw [e2, (ho.yes i t ht).1, inoPs_set, inoSh_set]
 refine ⟨a, c.2 (h.w.pz.sh i t ht), fun k hk => ?_, b⟩
 rw [h.w.pz.bk i t ht k (Int.natCast_nonneg _) (by omega), blkW_set, ← inoBl_blkW (cntX (nth t.raw 2)) W (h.w.inv.snd i t ht).2.1 k hk, d]
def curL (raw pre : List Int) (k : Nat) : List Int := raw.take 4 ++ (pre ++ raw.drop (4 + k))
theorem curL_len {raw pre : List Int} {k : Nat} (hr : raw.length = 18) (hp : pre.length = k) (hk : k ≤ 14) : (curL raw pre k).length = 18 := by
 unfold curL
 simp [hr, hp]
 omega
theorem curL_at {raw pre : List Int} {k : Nat} (hr : raw.length = 18) (hp : pre.length = k) {j : Nat} (hj : 4 + k ≤ j) : nth (curL raw pre k) j = nth raw j := by
 unfold curL nth
 rw [List.getElem?_append_right (by simp; omega), List.getElem?_append_right (by simp [hr]; omega), List.getElem?_drop]
 congr 2
 simp [hr]; omega
theorem curL_drop {raw : List Int} {k : Nat} (hr : raw.length = 18) (hk : k < 14) : raw.drop (4 + k) = nth raw (4 + k) :: raw.drop (4 + (k + 1)) := drop_cons (nth_getElem? (by omega))
theorem curL_keep {raw pre : List Int} {k : Nat} (hr : raw.length = 18) (hk : k < 14) : curL raw pre k = curL raw (pre ++ [nth raw (4 + k)]) (k + 1) := by
 unfold curL
 rw [curL_drop hr hk]
 simp
theorem curL_set {raw pre : List Int} {k : Nat} (hr : raw.length = 18) (hp : pre.length = k) (hk : k < 14) : (curL raw pre k).set (4 + k) 0 = curL raw (pre ++ [0]) (k + 1) := by
 unfold curL
 rw [curL_drop hr hk, List.set_append_right _ _ (by simp; omega), List.set_append_right _ _ (by simp [hr]; omega)]
 have e : 4 + k - (raw.take 4).length - pre.length = 0 := by simp [hr, hp]
 rw [e]
 simp
theorem dirL_drop {raw : List Int} {k : Nat} (hr : raw.length = 18) (hk : k < 12) : ((raw.drop 4).take 12)[k]? = some (nth raw (4 + k)) := by
 rw [List.getElem?_take, if_pos hk, List.getElem?_drop, nth_getElem? (by omega)]
theorem sift_one {σ : Type} (g : Int → σ → Bool × σ) (kp : Nat → Int → σ → Bool × σ) (base n p : Int) (s : σ) : siftP g kp base 1 n 0 [p] s =
  if p = 0 then ([0], false, s) else if n ≤ base then ([0], false, s) else if (g p s).1 = false then ([0], false, (g p s).2) else if (kp 0 p (g p s).2).1 = false then ([0], false, (kp 0 p (g p s).2).2) else ([p], true, (kp 0 p (g p s).2).2) := by
 rw [siftP_cons]
 have e : base + 1 * ((0 : Nat) : Int) = base := by omega
 rw [e]
 rfl
section
variable {E : REnv} {w w' : World} {o : Option Nat} {l : List Int} {S : Nat → List Int} {cl tk : Int → Bool} {I : Nat → List Int} {en : Nat → Int}
theorem RG.byte (hE : ROk E) (h : RG E w o l S cl tk I en) {p k : Nat} (hp : p < E.N) (hk : k < 128) : RG E (w.setCell ⟨E.gw, p * 128 + k, none⟩ (.int .u8 0)) o l (updS S p ((S p).set k 0)) cl tk I en := by
 obtain ⟨n0, n1, n2, n3, n4, n5⟩ := hE.ne
 have hf := fr_setCell w E.gw (p * 128 + k) (.int .u8 0)
 obtain ⟨t1, t2⟩ := h.turn hE hf (by simp [REnv.bs])
 obtain ⟨v, h1, h2⟩ := h.l
 refine ⟨⟨v, (t2 _ (by simp [REnv.bs]) n0.2.1).trans h1, h2.fr hf (fun q hq => by simpa using t1 q hq)⟩, h.i.same (t2 _ (by simp [REnv.bs]) n1.1), ?_, h.c.same (t2 _ (by simp [REnv.bs]) n2.1.symm), h.t.same (t2 _ (by simp [REnv.bs]) n2.2.1.symm), h.n.same (t2 _ (by simp [REnv.bs]) n2.2.2.1.symm), h.e.same (t2 _ (by simp [REnv.bs]) n2.2.2.2.symm), h.no⟩
 obtain ⟨cs, k1, k2, k3⟩ := h.s
 refine ⟨cs.setIfInBounds (p * 128 + k) (.int .u8 0), hat_setCell_at _ _ _ _ _ _ _ k1, by simpa using k2, fun j hj => ?_⟩
 obtain ⟨m1, m2, m3⟩ := k3 j hj
 by_cases hjp : j = p
 ·subst hjp
  rw [updS_eq]
  refine ⟨by simpa using m1, fun x hx => ?_, ?_⟩
  ·rcases List.mem_or_eq_of_mem_set hx with hx | hx
   ·exact m2 x hx
   ·subst hx; decide
  ·apply Array.ext_getElem?
   intro i
   rw [Array.getElem?_extract, IV_get?, List.getElem?_set]
   have m4 := congrArg (fun a : Array Value => a[i]?) m3
   simp only [Array.getElem?_extract, IV_get?] at m4
   by_cases hi : i < 128
   ·rw [if_pos (by simp; omega), Array.getElem?_setIfInBounds]
    rw [if_pos (by omega)] at m4
    by_cases hik : k = i
    ·subst hik
     rw [if_pos rfl, if_pos (by omega), if_pos rfl, if_pos (by omega)]; rfl
    ·rw [if_neg (by omega), if_neg hik]; exact m4
   ·rw [if_neg (by simp; omega), if_neg (by omega), List.getElem?_eq_none (by omega)]; rfl
 ·rw [updS_ne _ _ hjp]
  refine ⟨m1, m2, ?_⟩
  rw [← m3]
  apply Array.ext_getElem?
  intro i
  rw [Array.getElem?_extract, Array.getElem?_extract]
  by_cases hi : i < 128
  ·rw [if_pos (by simp; omega), if_pos (by omega), Array.getElem?_setIfInBounds, if_neg (by omega)]
  ·rw [if_neg (by simp; omega), if_neg (by omega)]
theorem RG.push (hE : ROk E) (h : RG E w o l S cl tk I en) (hl : l.length ≤ 100000) (i : Int) (ty : TypeId) {v : Value}
  (hv : hat w E.g = some (.cells #[.int .i64 E.X, .int .i64 E.Y, .slice (some ⟨E.gi, E.oi, none⟩) E.N E.ci, .slice (some ⟨E.gw, 0, none⟩) E.N E.cw, .slice (some ⟨E.gc, 0, none⟩) E.N E.cc, .slice (some ⟨E.gt, 0, none⟩) E.M E.ct, .slice (some ⟨E.gn, 0, none⟩) E.M E.cn, .slice (some ⟨E.ge, 0, none⟩) E.M E.ce, v] 76)) :
  ∃ v' w' o', (∃ a n c, v' = .slice a n c) ∧ (Builtin.append_ #[24, 24] ty #[v, .slice (some ⟨w.heap.size, 0, none⟩) 1 1]).run Tryz.prog (w.alloc (.cells #[.int .i64 i] 3)) = .ok v' w' ∧
   hat w' E.g = some (.cells #[.int .i64 E.X, .int .i64 E.Y, .slice (some ⟨E.gi, E.oi, none⟩) E.N E.ci, .slice (some ⟨E.gw, 0, none⟩) E.N E.cw, .slice (some ⟨E.gc, 0, none⟩) E.N E.cc, .slice (some ⟨E.gt, 0, none⟩) E.M E.ct, .slice (some ⟨E.gn, 0, none⟩) E.M E.cn, .slice (some ⟨E.ge, 0, none⟩) E.M E.ce, v] 76) ∧
   RG E (w'.setCell ⟨E.g, 8, none⟩ v') o' (l ++ [i]) S cl tk I en ∧ Fr (E.g :: o.toList) w (w'.setCell ⟨E.g, 8, none⟩ v') ∧ (o' = o ∨ ∃ g, o' = some g ∧ w.heap.size ≤ g) := by
 obtain ⟨v0, hl0, hq⟩ := h.l
 obtain rfl : v0 = v := by
  rw [hv] at hl0
  have := Option.some.inj hl0
  injection this with h9
  injection h9 with h8
  have h7 := congrArg (fun l : List Value => l[8]?) h8
  simp at h7
  exact h7.symm
 obtain ⟨v', w', o', h1, h2, h3, h4⟩ := run_append_q (hq.fr (fr_alloc w (.cells #[.int .i64 i] 3) []) (by simp)) hl i w.heap.size (hopN w _).1 ty
 have hno : ∀ b ∈ E.bs, b ∉ o.toList := fun b hb hm => h.no b (by simpa using hm) hb
 have hsz : (w.alloc (.cells #[.int .i64 i] 3)).heap.size = w.heap.size + 1 := World.size_alloc _ _
 have hf : Fr o.toList w w' := (fr_alloc w _ _).trans h3
 have hg : ∀ b ∈ E.bs, hat w' b = hat w b := fun b hb => hf.block b (h.lts b hb) (hno b hb)
 have h4b : o' = o ∨ ∃ g, o' = some g ∧ w.heap.size ≤ g := by
  rcases h4 with h4 | ⟨g, h4, h5⟩
  ·exact .inl h4
  ·exact .inr ⟨g, h4, by omega⟩
 have hno' : ∀ q, o' = some q → q ∉ E.bs := by
  intro q hq' hm
  rcases h4b with e | ⟨g, e, hg'⟩
  ·exact h.no q (e.symm.trans hq') hm
  ·rw [hq'] at e
   injection e with e
   have := h.lts q hm
   omega
 have hgb : E.g ∈ E.bs := by simp [REnv.bs]
 have hv' : hat w' E.g = _ := (hg _ hgb).trans hl0
 obtain ⟨n0, n1, n2, n3, n4, n5⟩ := hE.ne
 have hc : ∀ b, b ∈ E.bs → b ≠ E.g → hat (w'.setCell ⟨E.g, 8, none⟩ v') b = hat w b := fun b hb hn => (hat_setCell w' ⟨E.g, 8, none⟩ v' b hn).trans (hg b hb)
 refine ⟨v', w', o', h2.sl, h1, hv', ⟨⟨v', ?_, h2.fr (fr_setCell w' E.g 8 v') (fun q hq' hm => by simp at hm; subst hm; exact hno' _ hq' hgb)⟩, h.i.same (hc _ (by simp [REnv.bs]) n0.1.symm), h.s.same (hc _ (by simp [REnv.bs]) n0.2.1.symm), h.c.same (hc _ (by simp [REnv.bs]) n0.2.2.1.symm), h.t.same (hc _ (by simp [REnv.bs]) n0.2.2.2.1.symm), h.n.same (hc _ (by simp [REnv.bs]) n0.2.2.2.2.1.symm), h.e.same (hc _ (by simp [REnv.bs]) n0.2.2.2.2.2.symm), hno'⟩, (hf.mono (by simp +contextual)).trans ((fr_setCell w' E.g 8 v').mono (by simp)), h4b⟩
 exact hat_setCell_at _ _ 8 v' _ _ _ hv'
end
def zerT (s : List Int) (a k : Nat) : List Int := s.take a ++ (zl (k - a) ++ s.drop k)
theorem zerT_zero {s : List Int} {a : Nat} (h : a ≤ s.length) : zerT s a a = s := by
 unfold zerT
 rw [Nat.sub_self]
 exact List.take_append_drop a s
theorem zerT_all {s : List Int} {a : Nat} (h : s.length = 128) : zerT s a 128 = wipeL s a := by
 unfold zerT wipeL
 rw [List.drop_of_length_le (by omega), List.append_nil]
theorem zerT_get {s : List Int} {a k : Nat} (h : s.length = 128) (ha : a ≤ k) (hk : k ≤ 128) (j : Nat) : (zerT s a k)[j]? = if a ≤ j ∧ j < k then some 0 else s[j]? := by
 unfold zerT zl
 have e1 : (s.take a).length = a := by simp [h]; omega
 have e2 : (List.replicate (k - a) (0 : Int)).length = k - a := by simp
 by_cases hja : j < a
 ·rw [List.getElem?_append_left (by omega), List.getElem?_take, if_pos hja, if_neg (by omega)]
 ·rw [List.getElem?_append_right (by omega), e1]
  by_cases hjk : j < k
  ·rw [List.getElem?_append_left (by omega), List.getElem?_replicate, if_pos (by omega), if_pos (by omega)]
  ·rw [List.getElem?_append_right (by omega), e2, List.getElem?_drop, if_neg (by omega)]
   congr 1
   omega
theorem zerT_succ {s : List Int} {a k : Nat} (h : s.length = 128) (ha : a ≤ k) (hk : k < 128) : (zerT s a k).set k 0 = zerT s a (k + 1) := by
 have hlen : k < (zerT s a k).length := by unfold zerT zl; simp [h]; omega
 apply List.ext_getElem?
 intro j
 rw [List.getElem?_set, zerT_get (k := k) h ha (by omega), zerT_get (k := k + 1) h (by omega) (by omega)]
 by_cases hj : k = j
 ·subst hj
  rw [if_pos rfl, if_pos hlen, if_pos (by omega)]
 ·rw [if_neg hj]
  by_cases hc : a ≤ j ∧ j < k
  ·rw [if_pos hc, if_pos (by omega)]
  ·rw [if_neg hc, if_neg (by omega)]
theorem toList_one {a b : ByteArray} (h : a.toList = b.toList) : a = b := by
 rw [Lib.toList_data, Lib.toList_data] at h
 cases a; cases b
 congr 1
 exact Array.toList_inj.1 h
structure NR (S I : Nat → List Int) (M i : Nat) (l : List Ent) (k : Nat) (rch0 rch : Int → Bool) (mo : Bool) : Prop where
 one : rch 1 = true
 low : ∀ P : Nat → Prop, P 1 → Closed (entL S I M) P → ∀ j : Nat, j < M → rch j = true → P j
 dn : ∀ i', 1 ≤ i' → i' < i → dirOkW S I M i'
 ok : EntOk I M (l.take k)
 un : unr M rch ≤ unr M rch0 ∧ (mo = true → unr M rch < unr M rch0)
 cl : mo = false → rch = rch0 ∧ (∀ i', i' < i → rch (i' : Int) = true → ∀ e ∈ entL S I M i', rch e.1 = true) ∧ (rch (i : Int) = true → ∀ e ∈ l.take k, rch e.1 = true)
theorem NR.skip {S I : Nat → List Int} {M i : Nat} {rch0 rch : Int → Bool} {mo : Bool} (h : NR S I M i [] 0 rch0 rch mo) (hk : nth (I i) 0 ≠ 2) : NR S I M (i + 1) [] 0 rch0 rch mo := by
 refine ⟨h.one, h.low, fun i' a b => ?_, h.ok, h.un, fun hm => ⟨(h.cl hm).1, fun i' hi' hr e he => ?_, fun _ e he => (by cases he)⟩⟩
 ·by_cases e : i' = i
  ·subst e; exact fun h2 => absurd h2 hk
  ·exact h.dn i' a (by omega)
 ·by_cases e2 : i' = i
  ·subst e2; rw [entL_no hk] at he; cases he
  ·exact (h.cl hm).2.1 i' (by omega) hr e he
theorem NR.into {S I : Nat → List Int} {M i : Nat} {rch0 rch : Int → Bool} {mo : Bool} (h : NR S I M i [] 0 rch0 rch mo) (l : List Ent) : NR S I M i l 0 rch0 rch mo :=
 ⟨h.one, h.low, h.dn, ⟨fun e he => (by cases he), List.nodup_nil⟩, h.un, fun hm => ⟨(h.cl hm).1, (h.cl hm).2.1, fun _ e he => (by cases he)⟩⟩
theorem NR.over {S I : Nat → List Int} {M i : Nat} {l : List Ent} {rch0 rch : Int → Bool} {mo : Bool} (h : NR S I M i l l.length rch0 rch mo) (h1 : 1 ≤ i) (h2 : i < M) (hk : nth (I i) 0 = 2) (hs : slotsW S (blksW S (I i)) [] = some l) : NR S I M (i + 1) [] 0 rch0 rch mo := by
 have hok := h.ok
 rw [List.take_of_length_le (Nat.le_refl _)] at hok
 refine ⟨h.one, h.low, fun i' a b => ?_, ⟨fun e he => (by cases he), List.nodup_nil⟩, h.un, fun hm => ⟨(h.cl hm).1, fun i' hi' hr e he => ?_, fun _ e he => (by cases he)⟩⟩
 ·by_cases e : i' = i
  ·subst e; exact fun _ => ⟨l, hs, hok⟩
  ·exact h.dn i' a (by omega)
 ·by_cases e2 : i' = i
  ·subst e2
   rw [entL_yes h1 h2 hk hs] at he
   have := (h.cl hm).2.2 hr
   rw [List.take_of_length_le (Nat.le_refl _)] at this
   exact this e he
  ·exact (h.cl hm).2.1 i' (by omega) hr e he
theorem mem_snoc {l : List Ent} {k : Nat} {e e0 : Ent} (hk : l[k]? = some e0) (h : e ∈ l.take (k + 1)) : e ∈ l.take k ∨ e = e0 := by
 rw [List.take_add_one, hk] at h
 rcases List.mem_append.1 h with h | h
 ·exact .inl h
 ·simp at h; exact .inr h
theorem NR.same {S I : Nat → List Int} {M i : Nat} {l : List Ent} {k : Nat} {rch0 rch : Int → Bool} {mo : Bool} (h : NR S I M i l k rch0 rch mo) {x : Nat} {nm : ByteArray} (hk : l[k]? = some ((x : Int), nm)) (hok : EntOk I M (l.take (k + 1))) (hr : rch (i : Int) = true → rch (x : Int) = true) : NR S I M i l (k + 1) rch0 rch mo :=
 ⟨h.one, h.low, h.dn, hok, h.un, fun hm => ⟨(h.cl hm).1, (h.cl hm).2.1, fun hi e he => by
  rcases mem_snoc hk he with he | rfl
  ·exact (h.cl hm).2.2 hi e he
  ·exact hr hi⟩⟩
theorem NR.more {S I : Nat → List Int} {M i : Nat} {l : List Ent} {k : Nat} {rch0 rch : Int → Bool} {mo : Bool} (h : NR S I M i l k rch0 rch mo) {x : Nat} {nm : ByteArray} (hk : l[k]? = some ((x : Int), nm)) (hok : EntOk I M (l.take (k + 1))) (h1 : 1 ≤ i) (h2 : i < M) (hx : x < M) (hd : nth (I i) 0 = 2) (hs : slotsW S (blksW S (I i)) [] = some l)
  (hi : rch (i : Int) = true) (hn : rch (x : Int) = false) : NR S I M i l (k + 1) rch0 (addS rch x) true := by
 refine ⟨by unfold addS; rw [h.one]; rfl, fun P hP hC j hj hr => ?_, h.dn, hok, ⟨?_, fun _ => ?_⟩, fun hm => (by cases hm)⟩
 ·by_cases e : (j : Int) = (x : Int)
  ·have hPi := h.low P hP hC i h2 hi
   have := hC i ((x : Int), nm) hPi (by rw [entL_yes h1 h2 hd hs]; exact List.mem_of_getElem? hk)
   rw [show ((x : Int), nm).1.toNat = x from Int.toNat_natCast x] at this
   obtain rfl : j = x := by omega
   exact this
  ·have e2 : addS rch x j = rch j := by unfold addS; simp [e]
   rw [e2] at hr
   exact h.low P hP hC j hj hr
 ·have := unr_add hx hn; have := h.un.1; omega
 ·have := unr_add hx hn; have := h.un.1; omega
def NamedOut (S I : Nat → List Int) (M : Nat) (w : World) (e : Ending) (w' : World) : Prop :=
 ∃ v1 v2 b, e = .returned (.tuple #[v1, v2, .bool b]) ∧ Below w.heap.size w w' ∧ (b = true ↔ DirsOk S I M) ∧
  (b = true → ∃ gt gr ct cr rch, v1 = .slice (some ⟨gt, 0, none⟩) M ct ∧ v2 = .slice (some ⟨gr, 0, none⟩) M cr ∧ NumR w' gt M (fun j => (cntI (entL S I M) M j : Int)) ∧ Bools w' gr M rch ∧ RchIs (entL S I M) M rch)
end Go.Proofs.YthioepdgnbdohaaGreat
