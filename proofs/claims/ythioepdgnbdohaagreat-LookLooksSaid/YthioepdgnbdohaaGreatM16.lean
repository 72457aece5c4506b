import Derived.Deep.DeepCutAuto
import Derived.Test.YthioepdgnbdohaaGreatM05
import Derived.Test.YthioepdgnbdohaaGreatM07
import Derived.Test.YthioepdgnbdohaaGreatM10
import Derived.Test.YthioepdgnbdohaaGreatM11
import Derived.Test.YthioepdgnbdohaaGreatM15
namespace Go.Proofs.YthioepdgnbdohaaGreat
set_option maxHeartbeats 16000000
set_option maxRecDepth 1000000
set_option linter.unusedSimpArgs false
set_option linter.unusedVariables false
open Go.RowKit
section
variable {P : Program} {ops : Array Oper} {N : Nat} {Q : Exit → Act → World → Prop}
theorem wp_region_facts_h {id : Nat} {a : Act} {w : World} (hm : P.follows .mixedOrders = true) (N : Nat) (hok : regionOk ops N = true)
  (hsz : (dsts (ops.toList.take N)).all (· < a.tmps.size) = true)
  (I : World → Prop) (E : World → World → Prop) (G : Nat → Value → World → Prop) (H : Nat → World → Prop)
  (h0 : I w.drew)
  (hE : ∀ i v w w', i < N → I w → I w' → E w w' → G i v w → G i v w')
  (hH : ∀ i w w', i < N → I w → I w' → E w w' → H i w → H i w')
  (hs : ∀ i o, i < N → ops[i]? = some o → ∀ a' w', I w' → SameBut ops N a a' →
   (∀ j ∈ Oper.needs o, ∀ oj d, ops[j]? = some oj → oj.dst = some d → G j (gt a' d) w') → (∀ j ∈ Oper.needs o, j < N → H j w') →
   wpOp P ops Q i (fun a'' w'' => ∃ v, a'' = a'.put o.dst v ∧ I w'' ∧ E w' w'' ∧ G i v w'' ∧ H i w'') a' w')
  (he : ∀ a' w', I w' → SameBut ops N a a' → (∀ j oj d, j < N → ops[j]? = some oj → oj.dst = some d → G j (gt a' d) w') → (∀ j, j < N → H j w') →
   wpList P ops Q (ops.toList.drop N) a' w') :
  (Code.region id ops true).wp P Q a w := by
 obtain ⟨hb, ht, hNs, hnd⟩ := regionOk_spec hok
 refine wp_region_any hm ?_
 have key : ∀ (fuel : Nat) (L : Array Bool) (a' : Act) (w' : World), L.size = ops.size → countF L ≤ fuel → (∀ j, N ≤ j → j < ops.size → L.getD j true = false) →
   I w' → SameBut ops N a a' → (∀ j oj d, j < N → L.getD j true = true → ops[j]? = some oj → oj.dst = some d → G j (gt a' d) w') → (∀ j, j < N → L.getD j true = true → H j w') → wpAny P .any ops Q fuel L a' w' := by
  intro fuel
  induction fuel with
  | zero =>
   intro L a' w' hL hf htl hI hS hG hHH
   have hall : ∀ j, j < ops.size → L.getD j true = true := by
    intro j hj
    cases hv : L.getD j true with
    | true => rfl
    | false => have := countF_set hv; omega
   have hN : N = ops.size := by
    by_cases h : N < ops.size
    ·have := htl N (Nat.le_refl _) h
     rw [hall N h] at this; simp at this
    ·omega
   refine wpAny_tail hok 0 N L a' w' (Nat.le_refl _) (by omega) (by omega) hL (fun j hj => by rw [hall j hj]; simp; omega) ?_
   exact he a' w' hI hS (fun j oj d hj ho hd => hG j oj d hj (hall j (by omega)) ho hd) (fun j hj => hHH j hj (hall j (by omega)))
  | succ fuel ih =>
   intro L a' w' hL hf htl hI hS hG hHH
   by_cases hall : ∀ j, j < N → L.getD j true = true
   ·refine wpAny_tail hok (fuel + 1) N L a' w' (Nat.le_refl _) hNs ?_ hL ?_ (he a' w' hI hS (fun j oj d hj ho hd => hG j oj d hj (hall j hj) ho hd) (fun j hj => hHH j hj (hall j hj)))
    ·
     have : ∀ (n : Nat) (l : List Bool), (∀ j, n ≤ j → j < l.length → l[j]? = some false) → l.length - n ≤ l.countP (· == false) := by
      intro n
      induction n with
      | zero =>
       intro l
       induction l with
       | nil => intro _; simp
       | cons b l ihl =>
        intro h
        have h0 := h 0 (Nat.le_refl _) (by simp)
        simp at h0
        subst h0
        have := ihl (fun j _ hj => by have := h (j + 1) (by omega) (by simp; omega); simpa using this)
        simp at this ⊢
        omega
      | succ n ihn =>
       intro l
       cases l with
       | nil => intro _; simp
       | cons b l =>
        intro h
        have := ihn l (fun j hj hjl => by have := h (j + 1) (by omega) (by simp; omega); simpa using this)
        simp [List.countP_cons] at this ⊢
        omega
     have h2 := this N L.toList (fun j hj hjl => by
      have hjs : j < L.size := by simpa using hjl
      have := htl j hj (by omega)
      simp [hjs] at this ⊢
      exact this)
     unfold countF at hf
     simp at h2
     simp at hf
     omega
    ·intro j hj
     by_cases hjN : j < N
     ·rw [hall j hjN]; simp [hjN]
     ·rw [htl j (by omega) hj]; simp [hjN]
   ·refine ⟨?_, ?_⟩
    ·intro hr
     exfalso
     have hex : ∃ j, j < N ∧ L.getD j true = false := by
      false_or_by_contra
      rename_i hne
      apply hall
      intro j hj
      cases hv : L.getD j true with
      | true => rfl
      | false => exact (hne ⟨j, hj, hv⟩).elim
     have least : ∀ n, (∃ j, j < n ∧ j < N ∧ L.getD j true = false) → ∃ j, j < N ∧ L.getD j true = false ∧ ∀ k, k < j → L.getD k true = true := by
      intro n
      induction n with
      | zero => rintro ⟨j, hj, _⟩; omega
      | succ n ihn =>
       rintro ⟨j, hj, hjN, hv⟩
       by_cases hlow : ∃ k, k < j ∧ L.getD k true = false
       ·obtain ⟨k, hk, hkv⟩ := hlow
        exact ihn ⟨k, by omega, by omega, hkv⟩
       ·refine ⟨j, hjN, hv, fun k hk => ?_⟩
        cases hkv : L.getD k true with
        | true => rfl
        | false => exact (hlow ⟨k, hk, hkv⟩).elim
     obtain ⟨j0, hj0, hv0⟩ := hex
     obtain ⟨j, hjN, hv, hlow⟩ := least (j0 + 1) ⟨j0, by omega, hj0, hv0⟩
     have hlt : j < ops.size := by omega
     have : j ∈ Region.ready .any ops L := by
      refine ready_of (o := ops[j]) (by simp [hlt]) hv ?_
      intro k hk
      have hkj := hb j ops[j] (by simp [hlt]) k hk
      have h3 := hlow k hkj
      have hks : k < L.size := by omega
      simp [hks] at h3 ⊢
      exact h3
     rw [hr] at this; simp at this
    ·intro i hi
     obtain ⟨o, ho, h1, h2⟩ := ready_mem hL hi
     have hlt : i < ops.size := (Array.getElem?_eq_some_iff.1 ho).1
     have hiN : i < N := by
      by_cases h : i < N
      ·exact h
      ·exfalso
       apply hall
       intro j hj
       have := h2 j (ht i o ho (by omega) j (by omega))
       have hjs : j < L.size := by omega
       simp [hjs] at this ⊢
       exact this
     refine wpOp_mono ?_ (hs i o hiN ho a' w' hI hS ?_ ?_)
     ·rintro a'' w'' ⟨v, rfl, hI', hE', hGi, hHi⟩
      have hidst : ∀ d, o.dst = some d → d ∈ dsts (ops.toList.take N) := by
       intro d hd
       unfold dsts
       refine List.mem_filterMap.2 ⟨o, ?_, hd⟩
       have hv := (Array.getElem?_eq_some_iff.1 ho).2
       rw [List.mem_take_iff_getElem]
       exact ⟨i, by simp; omega, by simpa using hv⟩
      refine ih _ _ _ (by simpa using hL) (by have := countF_set h1; omega) ?_ hI' ?_ ?_ ?_
      ·intro j hj hjs
       have := htl j hj hjs
       have hjs' : j < L.size := by omega
       simp [hjs', Array.getElem_setIfInBounds, show i ≠ j by omega] at this ⊢
       exact this
      ·refine ⟨by rw [size_put]; exact hS.size, by rw [defers_put]; exact hS.defers, ?_⟩
       intro t ht'
       rw [gt_put_ne]
       ·exact hS.other t ht'
       ·intro e; exact ht' (hidst t e)
      ·intro j oj d hj hjL hoj hd
       by_cases hji : j = i
       ·subst hji
        rw [ho] at hoj
        have hoe : o = oj := by simpa using hoj
        subst hoe
        rw [hd, gt_put_eq _ _ _ (by rw [hS.size]; simpa using (List.all_eq_true.1 hsz) d (hidst d hd))]
        exact hGi
       ·have hjs' : j < L.size := by omega
        have hjL' : L.getD j true = true := by
         simp [hjs', Array.getElem_setIfInBounds, Ne.symm hji] at hjL ⊢
         exact hjL
        have hg := hG j oj d hj hjL' hoj hd
        rw [gt_put_ne]
        ·exact hE j _ _ _ hj hI hI' hE' hg
        ·intro e
         have hne : ∀ (l : List Oper), (dsts l).Nodup → ∀ (i j : Nat) (oi oj : Oper) (d : Nat), l[i]? = some oi → l[j]? = some oj → oi.dst = some d → oj.dst = some d → i = j := by
          intro l
          induction l with
          | nil => intro _ i j oi oj d hi; simp at hi
          | cons x l ihl =>
           intro hnd i j oi oj d hi hj hdi hdj
           have hnd' : (dsts l).Nodup := by
            unfold dsts at hnd ⊢
            rw [List.filterMap_cons] at hnd
            split at hnd
            ·exact hnd
            ·exact (List.nodup_cons.1 hnd).2
           have hx : ∀ (j : Nat) (oj : Oper), l[j]? = some oj → oj.dst = some d → x.dst ≠ some d := by
            intro j oj hj hdj hxd
            unfold dsts at hnd
            rw [List.filterMap_cons, hxd] at hnd
            have := (List.nodup_cons.1 hnd).1
            apply this
            exact List.mem_filterMap.2 ⟨oj, List.mem_of_getElem? hj, hdj⟩
           cases i with
           | zero =>
            simp at hi
            subst hi
            cases j with
            | zero => rfl
            | succ j => simp at hj; exact (hx j oj hj hdj hdi).elim
           | succ i =>
            simp at hi
            cases j with
            | zero => simp at hj; subst hj; exact (hx i oi hi hdi hdj).elim
            | succ j => simp at hj; rw [ihl hnd' i j oi oj d hi hj hdi hdj]
         have := hne (ops.toList.take N) hnd i j o oj d (by simp [List.getElem?_take, hiN, ho]) (by simp [List.getElem?_take, hj, hoj]) e hd
         exact hji this.symm
      ·intro j hj hjL
       by_cases hji : j = i
       ·subst hji; exact hHi
       ·have hjs' : j < L.size := by omega
        have hjL' : L.getD j true = true := by
         simp [hjs', Array.getElem_setIfInBounds, Ne.symm hji] at hjL ⊢
         exact hjL
        exact hH j _ _ hj hI hI' hE' (hHH j hj hjL')
     ·intro j hj oj d hoj hd
      have hjL := h2 j hj
      have hji := hb i o ho j hj
      have hjs : j < L.size := by omega
      exact hG j oj d (by omega) (by simp [hjs] at hjL ⊢; exact hjL) hoj hd
     ·intro j hj hjN
      have hjL := h2 j hj
      have hjs : j < L.size := by omega
      exact hHH j hjN (by simp [hjs] at hjL ⊢; exact hjL)
 refine key ops.size (Array.replicate ops.size false) a { w with drawn := w.drawn + 1 } (by simp) ?_ ?_ h0 ⟨rfl, rfl, fun _ _ => rfl⟩ ?_ ?_
 ·have := List.countP_le_length (p := (· == false)) (l := (Array.replicate ops.size false).toList)
  unfold countF; simpa using this
 ·intro j _ hj; simp [hj]
 ·intro j oj d hj hjL
  simp [show j < ops.size by omega] at hjL
 ·intro j hj hjL
  simp [show j < ops.size by omega] at hjL
theorem wp_region_GH {id : Nat} {a : Act} {w : World} (hm : P.follows .mixedOrders = true) (N : Nat) (hok : regionOk ops N = true)
  (hsz : (dsts (ops.toList.take N)).all (· < a.tmps.size) = true)
  (I : World → Prop) (E : World → World → Prop) (G : Nat → Value → World → Prop) (H : Nat → World → Prop)
  (h0 : I w.drew)
  (hE : ∀ i v w w', i < N → I w → I w' → E w w' → G i v w → G i v w')
  (hH : ∀ i w w', i < N → I w → I w' → E w w' → H i w → H i w')
  (hs : ∀ i o, i < N → ops[i]? = some o → ∀ a' w', I w' → (∀ t, t ∉ dsts (ops.toList.take N) → gt a' t = gt a t) →
   (∀ j ∈ Oper.needs o, ∀ oj d, ops[j]? = some oj → oj.dst = some d → G j (gt a' d) w') → (∀ j ∈ Oper.needs o, j < N → H j w') →
   wpOp P ops Q i (fun a'' w'' => ∃ v, a'' = a'.put o.dst v ∧ I w'' ∧ E w' w'' ∧ G i v w'' ∧ H i w'') a' w')
  (he : ∀ val w', I w' → (∀ j oj d, j < N → ops[j]? = some oj → oj.dst = some d → G j (val j) w') → (∀ j, j < N → H j w') →
   wpList P ops Q (ops.toList.drop N) (putAll (ops.toList.take N) 0 val a) w') :
  (Code.region id ops true).wp P Q a w := by
 refine wp_region_facts_h hm N hok hsz I E G H h0 hE hH (fun i o hi ho a' w' hI hS hF hFH => hs i o hi ho a' w' hI hS.other hF hFH) ?_
 intro a' w' hI hS hF hFH
 let val : Nat → Value := fun j => match ops[j]? with | some oj => (match oj.dst with | some d => gt a' d | none => undef) | none => undef
 have hval : ∀ j oj d, ops[j]? = some oj → oj.dst = some d → val j = gt a' d := by
  intro j oj d hj hd
  simp only [val, hj, hd]
 have hw := he val w' hI (fun j oj d hj ho hd => by rw [hval j oj d ho hd]; exact hF j oj d hj ho hd) hFH
 have hae : a' = putAll (ops.toList.take N) 0 val a := by
  refine act_ext (by rw [putAll_size]; exact hS.size) (by rw [putAll_defers]; exact hS.defers) (fun t ht => ?_)
  rw [putAll_gt (ops.toList.take N) 0 val a a' t (by rw [← hS.size]; exact ht) (fun j oj d hj hd => by
   rw [Nat.zero_add]
   refine hval j oj d ?_ hd
   rw [List.getElem?_take] at hj
   split at hj
   ·simpa using hj
   ·simp at hj)]
  split
  ·rfl
  ·rename_i h; exact hS.other t h
 rw [hae]
 exact hw
end
def RLookOut (w w' : World) (N : Nat) (X Y : Int) (S : Nat → List Int) (e : Ending) : Prop :=
 ∃ gw cw v1 v2 v3 o1 o2 o3, e = .returned (.tuple #[.agg #[.slice (some ⟨gw, 0, none⟩) N cw, v1, v2, v3], .int .i64 0]) ∧ WSecs w' gw N (repS Y (lookZ X Y S)) ∧
  QRow w' v1 o1 (writeL N Y (repS Y (lookZ X Y S)) S (lookZ X Y S).st.fm) ∧ QRow w' v2 o2 (keysL fun p => ((lookZ X Y S).T p.toNat).isSome) ∧ QRow w' v3 o3 (keysL (lookZ X Y S).st.cl) ∧
  Below w.heap.size w w' ∧ w.heap.size ≤ gw
noncomputable def repP (Y : Int) (z : LZ) (k : Nat) (j : Nat) : List Int := if 1 ≤ j ∧ j < k then repS Y z j else z.st.S j
theorem repP_one (Y : Int) (z : LZ) : repP Y z 1 = z.st.S := by
 funext j
 unfold repP
 rw [if_neg (by omega)]
theorem repP_succ {Y : Int} {z : LZ} {k : Nat} (h : 1 ≤ k) : repP Y z (k + 1) = updS (repP Y z k) k (repS Y z k) := by
 funext j
 unfold repP updS
 by_cases e : j = k
 ·subst e; rw [if_pos (by omega)]; simp
 ·by_cases h1 : 1 ≤ j ∧ j < k
  ·rw [if_pos (by omega), if_neg e]
   exact (if_pos h1).symm
  ·rw [if_neg (by omega), if_neg e]
   exact (if_neg h1).symm
theorem repP_end {Y : Int} {z : LZ} {M : Nat} (h : (M : Int) = Y + 1) : repP Y z M = repS Y z := by
 funext j
 unfold repP
 by_cases h1 : 1 ≤ j ∧ j < M
 ·rw [if_pos h1]
 ·rw [if_neg h1, repS_else z (by omega)]
theorem QRow.ne {w : World} {v : Value} {o : Option Nat} {xs : List Int} (h : QRow w v o xs) {g : Nat} {cs : Array Value} {t : TypeId} {f : Nat × Nat} (hg : hat w g = some (.cells cs t f)) (ht : t ≠ 3) : ∀ q, o = some q → q ∉ [g] := by
 rintro q rfl hm
 rw [List.mem_singleton] at hm
 subst hm
 rcases h with ⟨-, e, -⟩ | ⟨g, off, c, cs', -, e, h7, -⟩
 ·cases e
 ·have := Option.some.inj e
  subst this
  rw [hg] at h7
  injection h7 with h8
  injection h8 with h9 h10
  exact ht h10
theorem rk_start {E : REnv} (hE : ROk E) {I0 : Nat → List Int} {w w' : World} {o' : Option Nat} (h2 : nth (rdInoR (E.A 1)).1 0 = 2) (h : Tkn E 1 (rdInoR (E.A 1)).1 (zeroZ E.A).st none [] (tkZ (zeroZ E.A).T) I0 (enZ (zeroZ E.A).T) w w' o') : ∃ I, DG E (w'.setCell ⟨E.ge, 1, none⟩ (.int .i64 1)) o' [] (startZ E.X E.Y E.A) I := by
 have hM : 1 < E.M := by have := hE.M; have := hE.Y1; omega
 have hg := (h.g).count hE hM 1
 rw [tkZ_put (Nat.le_refl 1) ⟨(takeX E.X E.Y (rdInoR (E.A 1)).1 (zeroZ E.A).st).1, 1, (takeX E.X E.Y (rdInoR (E.A 1)).1 (zeroZ E.A).st).2.bk⟩] at hg
 have e : (fun j => if 1 = j then (1 : Int) else enZ (zeroZ E.A).T j) = enZ (updT (zeroZ E.A).T 1 ⟨(takeX E.X E.Y (rdInoR (E.A 1)).1 (zeroZ E.A).st).1, 1, (takeX E.X E.Y (rdInoR (E.A 1)).1 (zeroZ E.A).st).2.bk⟩) := (enZ_put (zeroZ E.A).T 1 ⟨(takeX E.X E.Y (rdInoR (E.A 1)).1 (zeroZ E.A).st).1, 1, (takeX E.X E.Y (rdInoR (E.A 1)).1 (zeroZ E.A).st).2.bk⟩).symm
 rw [e] at hg
 refine ⟨fun j => if j = 1 then (takeX E.X E.Y (rdInoR (E.A 1)).1 (zeroZ E.A).st).1 else I0 j, ?_, fun j u hu => ?_⟩
 ·show RG E _ o' ([] ++ (if nth (rdInoR (E.A 1)).1 0 = 2 then [] ++ [((1 : Nat) : Int)] else [])) _ _ _ _ _
  rw [if_pos h2] at hg ⊢
  exact hg
 ·have hu2 : updT (fun _ => none) 1 ⟨(takeX E.X E.Y (rdInoR (E.A 1)).1 (zeroZ E.A).st).1, 1, (takeX E.X E.Y (rdInoR (E.A 1)).1 (zeroZ E.A).st).2.bk⟩ j = some u := hu
  by_cases hj : j = 1
  ·subst hj
   rw [updT_eq] at hu2
   rw [← Option.some.inj hu2]
   exact if_pos rfl
  ·rw [updT_ne _ _ hj] at hu2
   cases hu2
theorem rk_di {E : REnv} (hE : ROk E) (hA : ∀ j : Nat, isD E.X E.Y j = true → (E.A j).length = 128 ∧ Bytes (E.A j)) (hr : rootOk E.A) : DI E [] (startZ E.X E.Y E.A) ∧ (∃ L, WZ E.X E.Y E.A L 0 0 (startZ E.X E.Y E.A)) ∧ potZ (startZ E.X E.Y E.A) ≤ 8192 := by
 have hY0 : 0 ≤ E.Y := by have := hE.Y1; omega
 refine ⟨DI.enter hE (z := zeroZ E.A) ⟨zero_i hA, fun i t h => (by cases h), List.nodup_nil, fun i hi => (by cases hi)⟩ (Nat.le_refl 1) (by have := hE.Y1; omega) (start_enter hr.1), ⟨_, start_wz hE.Y1 hA hr⟩, ?_⟩
 have hm := sound_may hr.1
 have hb := (inoMay_else hm.2).1 hm.1
 exact ((zeroZI E.X E.Y E.A).take (Nat.le_refl 1) hE.Y1 (by decide) (rdInoR_length _) hb.1.2.2.1.1 hb.1.2.2.1.2 (by decide) (by decide) rfl).pot
structure RkI (E : REnv) (o : Option Nat) (done : List Int) (z : LZ) (I : Nat → List Int) (w : World) (gs gx : Nat) (r2 : List Int) (k : Nat) (W : World) : Prop where
 g : RG E W o done (updS (repP E.Y z k) k (zl 128)) z.st.cl (tkZ z.T) I (enZ z.T) ∨ RG E W o done (repP E.Y z (k + 1)) z.st.cl (tkZ z.T) I (enZ z.T)
 x : hat W gx = some (.cells (IV .i64 r2) 45)
 z : hat W w.heap.size = some (.cells #[.slice none 0 0, .slice none 0 0, .slice none 0 0, .slice none 0 0] 26) ∧ hat W gs = some (.cells #[.int .i64 (E.N : Int), .int .i64 E.Y] 40)
 b : Below w.heap.size w W
section
variable {E : REnv} {o : Option Nat} {done : List Int} {z : LZ} {I : Nat → List Int} {w W W' : World} {gs gx : Nat} {r2 : List Int} {k : Nat}
theorem RkI.any (h : RkI E o done z I w gs gx r2 k W) : ∃ S', RG E W o done S' z.st.cl (tkZ z.T) I (enZ z.T) := by
 rcases h.g with h | h <;> exact ⟨_, h⟩
theorem RkI.below (h : RkI E o done z I w gs gx r2 k W) (hb : Below W.heap.size W W') : RkI E o done z I w gs gx r2 k W' :=
 ⟨h.g.imp (fun h => h.below hb) (fun h => h.below hb), (hop hb h.x).1, ⟨(hop hb h.z.1).1, (hop hb h.z.2).1⟩, h.b.trans (hb.mono h.b.size)⟩
theorem RkI.store (hE : ROk E) (hk1 : 1 ≤ k) (hkN : k < E.N) (hms : w.heap.size ≤ E.gw) (hr : repS E.Y z k = (inoR r2).1) (h : RkI E o done z I w gs gx r2 k W) {csx : Array Value} (hcx : hat W E.gw = some (.cells csx 33)) :
  RkI E o done z I w gs gx r2 k (W.setRow E.gw (splice csx (k * 128) (IV .u8 (inoR r2).1))) ∧ RG E (W.setRow E.gw (splice csx (k * 128) (IV .u8 (inoR r2).1))) o done (repP E.Y z (k + 1)) z.st.cl (tkZ z.T) I (enZ z.T) := by
 have hg : RG E (W.setRow E.gw (splice csx (k * 128) (IV .u8 (inoR r2).1))) o done (repP E.Y z (k + 1)) z.st.cl (tkZ z.T) I (enZ z.T) := by
  rcases h.g with h | h
  ·have h := h.store hE hcx hkN (s := (inoR r2).1) (inoR_length _) (inoR_bytes _)
   rw [updS_twice, ← hr, ← repP_succ hk1, hr] at h
   exact h
  ·have h := h.store hE hcx hkN (s := (inoR r2).1) (inoR_length _) (inoR_bytes _)
   rw [repP_succ hk1, updS_twice, ← hr, ← repP_succ hk1, hr] at h
   exact h
 have hf := fr_setRow W E.gw (splice csx (k * 128) (IV .u8 (inoR r2).1))
 have hf' : Fr (E.ms ++ o.toList) W (W.setRow E.gw (splice csx (k * 128) (IV .u8 (inoR r2).1))) := hf.mono (by simp [REnv.ms])
 obtain ⟨S', hS⟩ := h.any
 refine ⟨⟨.inr hg, (hf.block gx (hat_lt h.x) (fun hm => ?_)).trans h.x, ⟨hS.keep hf' h.z.1 (by decide), hS.keep hf' h.z.2 (by decide)⟩, h.b.trans (hf.below h.b.size (fun b hb => by simp at hb; subst hb; exact hms))⟩, hg⟩
 rw [List.mem_singleton] at hm
 have hx := h.x
 rw [hm, hcx] at hx
 injection hx with h8
 injection h8 with h9 h10
 exact absurd h10 (by decide)
end
theorem rlook_good (gi oi N ci : Nat) (S : Nat → List Int) (w : World) (hS : Secs w gi oi N S) (h8 : 8 ≤ N) (hN : N ≤ 4096) (h0 : (rdSupR (S 0)).2.2 = 0) (hX : (rdSupR (S 0)).1 = N) :
  Calls Tryz.prog 11 #[.slice (some ⟨gi, oi, none⟩) N ci] w fun e w' => (rootOk S ∧ RLookOut w w' N (rdSupR (S 0)).1 (rdSupR (S 0)).2.1 S e) ∨ (¬ rootOk S ∧ e = .returned (.tuple #[.agg repNil, .int .i64 121]) ∧ Below w.heap.size w w') := by
 obtain ⟨cs, t, fr, hcs, hld⟩ := hS.load (show 0 < N by omega)
 obtain ⟨hl0, hb0⟩ := hS.len (show 0 < N by omega)
 have HRS := Lib.hid (fun W => rrdSup_any (S 0) hl0 hb0 W)
 rw [Nat.zero_mul, Nat.add_zero] at hld
 have hcl := hat_lt hcs
 have hz1 := (hopN w (.cells repNil 26)).1
 have hc1 := (hopA w (.cells repNil 26) hcs).1
 have hf1 := fr_alloc w (.cells repNil 26) []
 have d1 : ¬ (N : Int) < 8 := by omega
 have d2 : ¬ (4096 : Int) < (N : Int) := by omega
 have d3 : (0 : Int) < (N : Int) := by omega
 have HF1 := Lib.hid hf1
 have HMAY := Lib.hid (sup_one h0).1
 obtain ⟨X, Y, er, hR⟩ : ∃ X Y er, rdSupR (S 0) = (X, Y, er) := ⟨_, _, _, rfl⟩
 rw [hR] at HRS HMAY h0 hX
 rw [hR]
 simp only at h0 hX HMAY ⊢
 subst h0
 subst hX
 have HS := Lib.hid hS
 have HGI : Hid (gi < w.heap.size) := Lib.hid hcl
 clear hS hf1 hR
 go_enter Tryz.func11, Tryz.ntmps11
 go_wp2_with fail
 generalize hW1 : w.alloc (.cells #[.slice none 0 0, .slice none 0 0, .slice none 0 0, .slice none 0 0] 26) = w1 at *
 refine (HRS.out w1).mono ?_; rintro e w2 ⟨rfl, hb2⟩
 have hz2 := (hop hb2 (show hat w1 w.heap.size = some (.cells repNil 26) by rw [← hW1]; exact (hopN w _).1)).1
 have hgz := hat_lt hz2
 have HF2 := Lib.hid ((show Fr [] w w1 by rw [← hW1]; exact fr_alloc w _ []).trans (fr_below hb2 []))
 have hXn : ((N : Int) != (N : Int)) = false := by simp
 unfold repNil at hz2
 clear hb2 hz1 hc1 hcs hld hW1 HF1 HRS
 go_upto_region 6 with fail
 have hz3 := (hopA w2 (.cells #[.int .i64 (N : Int), .int .i64 Y] 40) hz2).1
 have hs3 := (hopN w2 (.cells #[.int .i64 (N : Int), .int .i64 Y] 40)).1
 have HF3 := Lib.hid (HF2.out.trans (fr_alloc w2 (.cells #[.int .i64 (N : Int), .int .i64 Y] 40) []))
 have hgz3 := hat_lt hs3
 generalize w2.alloc (.cells #[.int .i64 (N : Int), .int .i64 Y] 40) = w3 at *
 generalize hgs : w2.heap.size = gs at *
 have HGS : Hid (w.heap.size < gs ∧ gs < w3.heap.size) := Lib.hid ⟨by omega, hgz3⟩
 clear hz2 HF2 hgs hgz hgz3
 have HS3 := Lib.hid (HS.out.same (HF3.out.block _ HS.out.lt (by simp)))
 obtain ⟨M, hM⟩ : ∃ M : Nat, (M : Int) = Y + 1 := ⟨(Y + 1).toNat, by obtain ⟨-, ⟨y1, -⟩, -⟩ := HMAY.out; omega⟩
 have HM := Lib.hid hM
 have hM9 : M ≤ 4096 := by obtain ⟨-, ⟨y1, y2⟩, xy⟩ := HMAY.out; omega
 have hY0 : 0 ≤ Y := by obtain ⟨-, ⟨y1, y2⟩, xy⟩ := HMAY.out; omega
 have hY9 : Y < 4096 := by omega
 have hM0 : 0 ≤ (M : Int) := by omega
 have hwr : IntKind.i64.wrap (Y + 1) = (M : Int) := by rw [IntKind.wrap_i64]; omega
 refine wp_region_Gg (by kernel_rfl) 23 (by decide) rfl (ownI w3) ownE (rkG N Y gs gi oi ci N M S w3) (fun _ => none) ⟨fr_drew (Fr.refl [] w3), fun _ _ h => by cases h⟩ ?_ ?_ ?_
 ·intro i v own wa own' wb hi hIa hIb hE hG; exact rkG_stays hE hG
 ·intro i o hi ho a' own w' hI hS hF
  have hi' : i = 0 ∨ i = 1 ∨ i = 2 ∨ i = 3 ∨ i = 4 ∨ i = 5 ∨ i = 6 ∨ i = 7 ∨ i = 8 ∨ i = 9 ∨ i = 10 ∨ i = 11 ∨ i = 12 ∨ i = 13 ∨ i = 14 ∨ i = 15 ∨ i = 16 ∨ i = 17 ∨ i = 18 ∨ i = 19 ∨ i = 20 ∨ i = 21 ∨ i = 22 := by omega
  have hstay : ownE own w' own w' := ⟨Fr.refl _ _, fun _ _ h => h⟩
  have hss := (hI.1.block _ (hat_lt hs3) (by simp)).trans hs3
  have hS4 : a'.tmps[4]?.getD undef = .pointer (some ⟨gs, 0, none⟩) := gtx ((hS 4 (by decide)).trans rfl)
  have hS0 : a'.tmps[0]?.getD undef = .slice (some ⟨gi, oi, none⟩) N ci := gtx ((hS 0 (by decide)).trans rfl)
  rcases hi' with rfl | rfl | rfl | rfl | rfl | rfl | rfl | rfl | rfl | rfl | rfl | rfl | rfl | rfl | rfl | rfl | rfl | rfl | rfl | rfl | rfl | rfl | rfl
  all_goals (have ho' := Option.some.inj ho; subst ho')
  ·exact wpOp_load_row 40 2 row40 (.tmp 4) rfl rfl rfl gs _ ((hS 4 (by decide)).trans rfl) hss rfl ⟨_, own, rfl, hI, hstay, rfl⟩
  ·exact wpOp_move (.tmp 0) rfl rfl rfl _ ((hS 0 (by decide)).trans rfl) ⟨_, own, rfl, hI, hstay, rfl⟩
  ·have hfa := fr_alloc w' (.cells #[] 33) []
   exact wpOp_val rfl rfl (v := .slice (some ⟨w'.heap.size, 0, none⟩) 0 0) (w1 := w'.alloc (.cells #[] 33)) (by simp [go_sem]) ⟨_, own, rfl, ownI_stay hI hfa, ⟨hfa, fun _ _ h => h⟩, _, rfl⟩
  ·exact wpOp_move (.tmp 0) rfl rfl rfl _ ((hS 0 (by decide)).trans rfl) ⟨_, own, rfl, hI, hstay, rfl⟩
  ·obtain ⟨b0, e2⟩ := hF 2 (by decide) _ 40 rfl rfl
   have f2 : a'.eval (.tmp 40) = .slice (some ⟨b0, 0, none⟩) 0 0 := e2
   have f3 : a'.eval (.tmp 41) = .slice (some ⟨gi, oi, none⟩) N ci := hF 3 (by decide) _ 41 rfl rfl
   obtain ⟨g, cw, w'', hr, hg0, hws, hb⟩ := append_secs gi oi N ci b0 S w' (HS3.out.same (hI.1.block _ HS3.out.lt (by simp))) (by omega) (by omega)
   exact wpOp_val rfl rfl (v := .slice (some ⟨g, 0, none⟩) N cw) (w1 := w'') (by simp [execOp, resolve, invoke, builtin, f2, f3, hr, Result.andThen]) ⟨_, setO own g 4, rfl, ownI_set hI (fr_below hb []) hws.lt2 4, ownE_set hI (fr_below hb []) hg0 4, g, cw, rfl, Nat.le_trans hI.1.size hg0, hws, by simp [setO]⟩
  ·exact wpOp_move (.tmp 0) rfl rfl rfl _ ((hS 0 (by decide)).trans rfl) ⟨_, own, rfl, hI, hstay, rfl⟩
  ·have e5 := gtx (hF 5 (by decide) _ 43 rfl rfl)
   exact wpOp_val rfl rfl (v := .int .i64 N) (w1 := w') (by simp [go_sem, e5]) ⟨_, own, rfl, hI, hstay, rfl⟩
  ·have e6 := gtx (hF 6 (by decide) _ 44 rfl rfl)
   obtain ⟨w'', hr, hn, hb⟩ := make_bools w' N (by omega)
   exact wpOp_val rfl rfl (v := .slice (some ⟨w'.heap.size, 0, none⟩) N N) (w1 := w'') (by simp [go_sem, e6, hr]) ⟨_, setO own w'.heap.size 7, rfl, ownI_set hI (fr_below hb []) hn.lt 7, ownE_set hI (fr_below hb []) (Nat.le_refl _) 7, _, rfl, hI.1.size, hn, by simp [setO]⟩
  ·exact wpOp_val rfl rfl (v := .pointer (some ⟨gs, 1, none⟩)) (w1 := w') (by simp [go_sem, hS4]) ⟨_, own, rfl, hI, hstay, rfl⟩
  ·have e8 := gtx (hF 8 (by decide) _ 46 rfl rfl)
   exact wpOp_val rfl rfl (v := .int .i64 Y) (w1 := w') (by simp [go_sem, e8, hss]) ⟨_, own, rfl, hI, hstay, rfl⟩
  ·have e9 := gtx (hF 9 (by decide) _ 47 rfl rfl)
   exact wpOp_val rfl rfl (v := .int .i64 M) (w1 := w') (by simp [go_sem, e9, hwr]) ⟨_, own, rfl, hI, hstay, rfl⟩
  ·have e10 := gtx (hF 10 (by decide) _ 48 rfl rfl)
   obtain ⟨w'', hr, hn, hb⟩ := make_bools w' M (by omega)
   exact wpOp_val rfl rfl (v := .slice (some ⟨w'.heap.size, 0, none⟩) M M) (w1 := w'') (by simp [go_sem, e10, hr]) ⟨_, setO own w'.heap.size 11, rfl, ownI_set hI (fr_below hb []) hn.lt 11, ownE_set hI (fr_below hb []) (Nat.le_refl _) 11, _, rfl, hI.1.size, hn, by simp [setO]⟩
  ·exact wpOp_val rfl rfl (v := .pointer (some ⟨gs, 1, none⟩)) (w1 := w') (by simp [go_sem, hS4]) ⟨_, own, rfl, hI, hstay, rfl⟩
  ·have e12 := gtx (hF 12 (by decide) _ 50 rfl rfl)
   exact wpOp_val rfl rfl (v := .int .i64 Y) (w1 := w') (by simp [go_sem, e12, hss]) ⟨_, own, rfl, hI, hstay, rfl⟩
  ·have e13 := gtx (hF 13 (by decide) _ 51 rfl rfl)
   exact wpOp_val rfl rfl (v := .int .i64 M) (w1 := w') (by simp [go_sem, e13, hwr]) ⟨_, own, rfl, hI, hstay, rfl⟩
  ·have e14 := gtx (hF 14 (by decide) _ 52 rfl rfl)
   obtain ⟨w'', hr, hn, hb⟩ := make_inos w' M (by omega)
   exact wpOp_val rfl rfl (v := .slice (some ⟨w'.heap.size, 0, none⟩) M M) (w1 := w'') (by simp [go_sem, e14, hr]) ⟨_, setO own w'.heap.size 15, rfl, ownI_set hI (fr_below hb []) hn.lt 15, ownE_set hI (fr_below hb []) (Nat.le_refl _) 15, _, rfl, hI.1.size, hn, by simp [setO]⟩
  ·exact wpOp_val rfl rfl (v := .pointer (some ⟨gs, 1, none⟩)) (w1 := w') (by simp [go_sem, hS4]) ⟨_, own, rfl, hI, hstay, rfl⟩
  ·have e16 := gtx (hF 16 (by decide) _ 54 rfl rfl)
   exact wpOp_val rfl rfl (v := .int .i64 Y) (w1 := w') (by simp [go_sem, e16, hss]) ⟨_, own, rfl, hI, hstay, rfl⟩
  ·have e17 := gtx (hF 17 (by decide) _ 55 rfl rfl)
   exact wpOp_val rfl rfl (v := .int .i64 M) (w1 := w') (by simp [go_sem, e17, hwr]) ⟨_, own, rfl, hI, hstay, rfl⟩
  ·have e18 := gtx (hF 18 (by decide) _ 56 rfl rfl)
   obtain ⟨w'', hr, hn, hb⟩ := make_numR w' M (by omega)
   exact wpOp_val rfl rfl (v := .slice (some ⟨w'.heap.size, 0, none⟩) M M) (w1 := w'') (by simp [go_sem, e18, hr]) ⟨_, setO own w'.heap.size 19, rfl, ownI_set hI (fr_below hb []) hn.lt 19, ownE_set hI (fr_below hb []) (Nat.le_refl _) 19, _, rfl, hI.1.size, hn, by simp [setO]⟩
  ·have e0 := gtx (hF 0 (by decide) _ 38 rfl rfl)
   have e1 := gtx (hF 1 (by decide) _ 39 rfl rfl)
   obtain ⟨gw, cw, e4, hw0, hw1, o4⟩ := hF 4 (by decide) _ 42 rfl rfl
   obtain ⟨gc, e7, hc0, hc1, o7⟩ := hF 7 (by decide) _ 45 rfl rfl
   obtain ⟨gt', e11, ht0, ht1, o11⟩ := hF 11 (by decide) _ 49 rfl rfl
   obtain ⟨gn, e15, hn0, hn1, o15⟩ := hF 15 (by decide) _ 53 rfl rfl
   obtain ⟨ge, e19, he0, he1, o19⟩ := hF 19 (by decide) _ 57 rfl rfl
   have e4 := gtx e4
   have e7 := gtx e7
   have e11 := gtx e11
   have e15 := gtx e15
   have e19 := gtx e19
   have hnd : [gw, gc, gt', gn, ge].Nodup := by
    have k : ∀ {a b i j : Nat}, own a = some i → own b = some j → i ≠ j → a ≠ b := fun ha hb hij e => by
     rw [e, hb] at ha
     exact hij (Option.some.inj ha).symm
    simp only [List.nodup_cons, List.mem_cons, List.not_mem_nil, or_false, not_or, not_false_eq_true, and_true, List.nodup_nil]
    exact ⟨⟨k o4 o7 (by decide), k o4 o11 (by decide), k o4 o15 (by decide), k o4 o19 (by decide)⟩, ⟨k o7 o11 (by decide), k o7 o15 (by decide), k o7 o19 (by decide)⟩, ⟨k o11 o15 (by decide), k o11 o19 (by decide)⟩, k o15 o19 (by decide)⟩
   exact wpOp_val rfl rfl (v := .agg (rlCells N Y gi oi ci N M gw cw gc gt' gn ge)) (w1 := w') (by simp [go_sem, e0, e1, e4, e7, e11, e15, e19, rlCells]) ⟨_, own, rfl, hI, hstay, gw, cw, gc, gt', gn, ge, rfl, ⟨by simp; omega, hw1, hc1, ht1, hn1, he1, hnd⟩⟩
  ·obtain ⟨gw, cw, gc, gt', gn, ge, e20, h6⟩ := hF 20 (by decide) _ 58 rfl rfl
   have e20 := gtx e20
   have hfb := fr_alloc w' (.cells (rlCells N Y gi oi ci N M gw cw gc gt' gn ge) 76) []
   have hlt := h6.lt
   exact wpOp_val rfl rfl (v := .pointer (some ⟨w'.heap.size, 0, none⟩)) (w1 := w'.alloc (.cells (rlCells N Y gi oi ci N M gw cw gc gt' gn ge) 76)) (by simp [go_sem, e20, rlCells]) ⟨_, own, rfl, ownI_stay hI hfb, ⟨hfb, fun _ _ h => h⟩, _, gw, cw, gc, gt', gn, ge, rfl, (hopN w' _).1, h6.fr hfb, hI.1.size, fun hm => Nat.lt_irrefl _ (hlt _ hm)⟩
  ·obtain ⟨g, gw, cw, gc, gt', gn, ge, e21, h6⟩ := hF 21 (by decide) _ 59 rfl rfl
   have e21 := gtx e21
   exact wpOp_val rfl rfl (v := .pointer (some ⟨g, 0, none⟩)) (w1 := w') (by simp [go_sem, e21]) ⟨_, own, rfl, hI, hstay, g, gw, cw, gc, gt', gn, ge, rfl, h6⟩
 ·intro val own w4 hI hF
  obtain ⟨g, gw, cw, gc, gt', gn, ge, e22, hg4, h6, hg0, hgn⟩ := hF 22 _ 6 (by decide) rfl rfl
  have hz4 := (hI.1.block _ (hat_lt hz3) (by simp)).trans hz3
  have hs4 := (hI.1.block _ (hat_lt hs3) (by simp)).trans hs3
  have HF4 := Lib.hid (HF3.out.trans hI.1)
  have hS4 := HS3.out.same (hI.1.block _ HS3.out.lt (by simp))
  have hgi3 : gi < w3.heap.size := by have := HGI.out; have := HF3.out.size; omega
  have hE0 : ∃ E : REnv, (DG E w4 none [] (zeroZ S) (fun _ => zl 18) ∧ ROk E) ∧ (N : Int) = E.X ∧ g = E.g ∧ gi = E.gi ∧ oi = E.oi ∧ N = E.N ∧ ci = E.ci ∧ M = E.M ∧ Y = E.Y ∧ S = E.A ∧ (∀ b ∈ E.ms, w3.heap.size ≤ b) := by
   obtain ⟨-, ⟨y1, y2⟩, xy⟩ := HMAY.out
   exact ⟨_, ⟨rg_zero hS4 hgi3 hg4 h6, rfl, h8, hN, y1, (by show Y < N; omega), hM, rk_nodup hgi3 h6 hg0 hgn⟩, rfl, rfl, rfl, rfl, rfl, rfl, rfl, rfl, rfl, fun b hb => by
    simp only [REnv.ms, List.mem_cons, List.not_mem_nil, or_false] at hb
    rcases hb with rfl | rfl | rfl | rfl | rfl | rfl
    ·exact hg0
    all_goals exact h6.lo _ (by simp)⟩
  have z34 := hI.1.size
  have hgw0 : w3.heap.size ≤ gw := h6.lo gw (by simp)
  simp only [putAll, List.take, List.drop, List.take_succ_cons, List.drop_succ_cons, e22, Act.put, List.setIfInBounds_toArray, List.set_cons_zero, List.set_cons_succ]
  clear hF hI hs3 hz3 HS3 e22 hg4 h6 hgn hgi3 hS4 hwr
  generalize val 0 = x0
  generalize val 1 = x1
  generalize val 2 = x2
  generalize val 3 = x3
  generalize val 4 = x4
  generalize val 5 = x5
  generalize val 6 = x6
  generalize val 7 = x7
  generalize val 8 = x8
  generalize val 9 = x9
  generalize val 10 = x10
  generalize val 11 = x11
  generalize val 12 = x12
  generalize val 13 = x13
  generalize val 14 = x14
  generalize val 15 = x15
  generalize val 16 = x16
  generalize val 17 = x17
  generalize val 18 = x18
  generalize val 19 = x19
  generalize val 20 = x20
  generalize val 21 = x21
  obtain ⟨E, ⟨hDG, hE⟩, hEX, rfl, rfl, rfl, rfl, rfl, rfl, rfl, rfl, hms⟩ := hE0
  have HE := Lib.hid hE
  have HDG := Lib.hid hDG
  have HEX := Lib.hid hEX
  have hY1 := hE.Y1
  have hYN := hE.YN
  have hA : ∀ j : Nat, isD E.X E.Y j = true → (E.A j).length = 128 ∧ Bytes (E.A j) := fun j hj => HS.out.len (by unfold isD at hj; have := of_decide_eq_true hj; omega)
  have HA := Lib.hid hA
  have HMS : Hid (∀ b ∈ E.ms, w.heap.size ≤ b) := Lib.hid (fun b hb => by have := HF3.out.size; have := hms b hb; omega)
  clear hA HF3 HS HGI hg0 hgw0 hms
  have hcall := rsound_any hE 1 (Nat.le_refl 1) hY1 w4 hDG.g
  have HSOUND := Lib.hid (ino_sound (s := E.A 1))
  have hrl := rdInoR_length (E.A 1)
  obtain ⟨v4, hg4, -⟩ := hDG.g.l
  clear hEX hDG hE
  go_wp2_with fail
  refine hcall.mono ?_; rintro e w5 ⟨rfl, hb5⟩
  have hz5 := (hop hb5 hz4).1
  have hs5 := (hop hb5 hs4).1
  have HF5 := Lib.hid (HF4.out.trans (fr_below hb5 []))
  have HDG5 : Hid (DG E w5 none [] (zeroZ E.A) (fun _ => zl 18)) := Lib.hid ⟨HDG.out.g.below hb5, HDG.out.i⟩
  have hzl5 := hat_lt hz5
  have hsl5 := hat_lt hs5
  clear hb5 hg4 hz4 hs4 HF4 HDG hcall
  have hk0 : (IV .i64 (rdInoR (E.A 1)).1)[0]? = some (.int .i64 (nth (rdInoR (E.A 1)).1 0)) := by
   rw [IV_get?, nth_getElem? (by omega)]; rfl
  have HRO : Hid (rootOk E.A ↔ soundR (E.A 1) = true ∧ nth (rdInoR (E.A 1)).1 0 = 2) := Lib.hid Iff.rfl
  have HFIN := Lib.hid (hat_put4 hz5 (.slice none 0 0) (.slice none 0 0) (.slice none 0 0) (.slice none 0 0))
  have HBEL := Lib.hid ((((HF5.out.mono (ex' := [w.heap.size]) (by simp)).trans (fr_put4 w5 w.heap.size (.slice none 0 0) (.slice none 0 0) (.slice none 0 0) (.slice none 0 0))).trans (fr_alloc _ (.cells (IV .i64 (rdInoR (E.A 1)).1) 45) [w.heap.size])).below (B := w.heap.size) (Nat.le_refl _) (by simp))
  have HRAW : Hid ((rdInoR (E.A 1)).1 = (rdInoR (E.A 1)).1) := Lib.hid rfl
  obtain ⟨raw, hRAW⟩ : ∃ r, (rdInoR (E.A 1)).1 = r := ⟨_, rfl⟩
  clear HRAW
  rw [hRAW] at HBEL HRO HSOUND hk0 hrl ⊢
  have HRAW := Lib.hid hRAW
  clear hRAW
  cases hsd : soundR (E.A 1) with
  | false =>
   rw [hsd] at HRO
   have HNO := Lib.hid (show ¬ rootOk E.A from fun h => by have := (HRO.out.1 h).1; cases this)
   clear HSOUND hk0
   go_wp2_with fail
   exact ret_ct row26 rfl (cs := repNil) rfl (hopA _ _ HFIN.out).1 rfl rfl (.inr ⟨HNO.out, rfl, HBEL.out⟩)
  | true =>
   cases hkd : (nth raw 0 == 2) with
   | false =>
    have hkn : (nth raw 0 != 2) = true := by simpa using hkd
    have HNO := Lib.hid (show ¬ rootOk E.A from fun h => by have := (HRO.out.1 h).2; simp [this] at hkd)
    clear HSOUND HRO
    go_wp2_with fail
    exact ret_ct row26 rfl (cs := repNil) rfl (hopA _ _ HFIN.out).1 rfl rfl (.inr ⟨HNO.out, rfl, HBEL.out⟩)
   | true =>
    have hk2 : nth raw 0 = 2 := by simpa using hkd
    have HYES := Lib.hid (HRO.out.2 ⟨hsd, hk2⟩)
    have HKK := Lib.hid hk2
    have hkn : (nth raw 0 != 2) = false := by simpa using hkd
    have hld5 : ∀ r w', ldRow r 18 0 w' (some (.cells (IV .i64 raw) 45)) = .ok (.agg (IV .i64 raw)) w' := fun r w' => by rw [ldRow_part (by simp [hrl])]; simp [← hrl]
    obtain ⟨r1, r2, -⟩ := HSOUND.out hsd
    have hM1 : 1 < E.M := by have := HM.out; omega
    have hi6 := (hopN w5 (.cells (IV .i64 raw) 45)).1
    have hb6 := (Below.refl w5.heap.size w5).alloc (Nat.le_refl _) (.cells (IV .i64 raw) 45)
    have HDG6 : Hid (DG E (w5.alloc (.cells (IV .i64 raw) 45)) none [] (zeroZ E.A) (fun _ => zl 18)) := Lib.hid ⟨HDG5.out.g.below hb6, HDG5.out.i⟩
    have HF6 := Lib.hid (HF5.out.trans (fr_below hb6 []))
    have hz6 := (hop hb6 hz5).1
    have hs6 := (hop hb6 hs5).1
    have hi6l := hat_lt hi6
    clear HRO HBEL HFIN HSOUND hsd hkd hk2 HF5 HDG5 hb6
    go_upto_region 10 with fail
    generalize w5.alloc (.cells (IV .i64 raw) 45) = w6 at *
    clear hz5 hs5 hzl5 hsl5
    have hzl6 := hat_lt hz6
    have hsl6 := hat_lt hs6
    have hTK := rtakes_any HE.out 1 (Nat.le_refl 1) hM1 hrl r1 r2 (zeroZ E.A).st (zero_i HA.out).si (l := []) (by simp) w6 HDG6.out.g
    go_wp2_with fail
    refine hTK.mono ?_; rintro e w7 ⟨rfl, o', hT⟩
    have hff : Fr (E.ms ++ (none : Option Nat).toList) w6 w7 := hT.f.mono (by simp [REnv.ms])
    have hz7 := HDG6.out.g.keep hff hz6 (by decide)
    have hs7 := HDG6.out.g.keep hff hs6 (by decide)
    have HF7 := Lib.hid hff
    have HT7 := Lib.hid hT
    obtain ⟨v7, hl7, -⟩ := hT.g.l
    obtain ⟨cse, hce, -, halle⟩ := hT.g.e
    have hce1 := halle 1 hM1
    have hl7l := hat_lt hl7
    have hcel := hat_lt hce
    have h1M : (1 : Int) < (E.M : Int) := by omega
    clear hT hff hTK hz6 hs6 hzl6 hsl6 hi6 hi6l hld5 hk0 hkn halle r1 r2
    go_upto_region 12 with fail
    have HT8 := Lib.hid (rk_start HE.out (by rw [HRAW.out]; exact HKK.out) (by rw [HRAW.out]; exact HT7.out))
    have hf8 : Fr (E.ms ++ o'.toList) w7 (w7.setCell ⟨E.ge, 1, none⟩ (.int .i64 1)) := (fr_setCell w7 E.ge 1 (.int .i64 1)).mono (by simp [REnv.ms])
    have HZ8 : Hid (hat (w7.setCell ⟨E.ge, 1, none⟩ (.int .i64 1)) w.heap.size = some (.cells #[.slice none 0 0, .slice none 0 0, .slice none 0 0, .slice none 0 0] 26) ∧ hat (w7.setCell ⟨E.ge, 1, none⟩ (.int .i64 1)) gs = some (.cells #[.int .i64 (E.N : Int), .int .i64 E.Y] 40)) := Lib.hid ⟨HT7.out.g.keep hf8 hz7 (by decide), HT7.out.g.keep hf8 hs7 (by decide)⟩
    have HB8 : Hid (Below w.heap.size w (w7.setCell ⟨E.ge, 1, none⟩ (.int .i64 1))) := Lib.hid (((HF6.out.below (Nat.le_refl _) (by simp)).trans (HF7.out.below HF6.out.size (fun b hb => HMS.out b (by simpa using hb)))).trans ((fr_setCell w7 E.ge 1 (.int .i64 1)).below (Nat.le_trans HF6.out.size HF7.out.size) (fun b hb => HMS.out b (by simp at hb; subst hb; simp [REnv.ms]))))
    have HO8 : Hid (OwnB w.heap.size o') := Lib.hid (fun q hq => by
     rcases HT7.out.o with e | ⟨g1, e, h1⟩
     ·rw [e] at hq; cases hq
     ·rw [e] at hq
      have := Option.some.inj hq
      have := HF6.out.size
      omega)
    have HDI8 := Lib.hid (rk_di HE.out HA.out HYES.out)
    clear hz7 hs7 hl7 hl7l hce hcel hce1 hf8 HT7 HF7 HF6 HDG6 h1M
    generalize w7.setCell ⟨E.ge, 1, none⟩ (.int .i64 1) = w8 at *
    go_wp2_with fail
    go_loopw [9] (fun kv wr => ∃ (done : List Int) (z : LZ) (o : Option Nat) (I : Nat → List Int) (f : Nat), kv = .int .i64 done.length ∧ Hid (DG E wr o done z I) ∧ Hid (DI E done z) ∧ Hid (∃ L, WZ E.X E.Y E.A L 0 0 z) ∧ Hid (potZ z ≤ f ∧ loopZ E.X E.Y E.A f z = lookZ E.X E.Y E.A) ∧ Hid (hat wr w.heap.size = some (.cells #[.slice none 0 0, .slice none 0 0, .slice none 0 0, .slice none 0 0] 26) ∧ hat wr gs = some (.cells #[.int .i64 (E.N : Int), .int .i64 E.Y] 40)) ∧ Hid (Below w.heap.size w wr) ∧ Hid (OwnB w.heap.size o)) (fun v _ => 100001 - (intOf v).toNat)
    case atStart =>
     obtain ⟨I, hI⟩ := HT8.out
     exact ⟨[], startZ E.X E.Y E.A, o', I, 8192, rfl, Lib.hid hI, Lib.hid HDI8.out.1, Lib.hid HDI8.out.2.1, Lib.hid ⟨HDI8.out.2.2, rfl⟩, HZ8, HB8, HO8⟩
    case round =>
     obtain ⟨done, z, o, I, f, rfl, HD, HI, HW, HL, HZ, HB, HO⟩ := hrel
     clear HT8 HZ8 HB8 HO8 HDI8
     obtain ⟨vr, hlr, hqr⟩ := HD.out.g.l
     have hlrl := hat_lt hlr
     have hd0 : (0 : Int) ≤ (done.length : Int) := Int.natCast_nonneg _
     cases hQ : z.q with
     | cons c0 r =>
      obtain ⟨hc1, hcY, hcT⟩ := HI.out.rg c0 (by rw [hQ]; simp)
      obtain ⟨c, rfl⟩ := Int.eq_ofNat_of_zero_le (show 0 ≤ c0 by omega)
      rw [Int.toNat_natCast] at hcT
      obtain ⟨t, ht⟩ := Option.isSome_iff_exists.1 hcT
      have hlen := HI.out.len HE.out
      rw [hQ] at hqr hlen
      obtain ⟨gq, off, cq, csq, ev, eo, hgq, hcell⟩ := hqr.cell (k := done.length) (by simp)
      have hnth : nth (done ++ (c : Int) :: r) done.length = (c : Int) := by
       unfold nth
       rw [List.getElem?_append_right (Nat.le_refl _), Nat.sub_self]; rfl
      rw [hnth] at hcell
      rw [ev] at hlr
      have hgql := hat_lt hgq
      have hdl : (done.length : Int) < ((done ++ (c : Int) :: r).length : Int) := by simp; omega
      have hdn : done.length < (done ++ (c : Int) :: r).length := by simp
      have hdl9 : done.length < 100000 := by simp at hlen; omega
      have hDz : DG E wr o (done ++ [(c : Int)]) { z with q := r } I := ⟨by have := HD.out.g; rw [hQ] at this; show RG E wr o ((done ++ [(c : Int)]) ++ r) _ _ _ _ _; rw [List.append_assoc]; exact this, HD.out.i⟩
      have hDI : DI E (done ++ [(c : Int)]) { z with q := r } := ⟨HI.out.inv.pop hQ, HI.out.ix, by have := HI.out.nd; rw [hQ] at this; show ((done ++ [(c : Int)]) ++ r).Nodup; rw [List.append_assoc]; exact this, fun i hi => HI.out.rg i (by rw [hQ]; have hi : i ∈ (done ++ [(c : Int)]) ++ r := hi; rw [List.append_assoc] at hi; exact hi)⟩
      have hPZ : PZ E.X E.Y { z with q := r } := by obtain ⟨L, hW⟩ := HW.out; exact hW.pz.q r
      have hcr : (c : Int) ∉ ({ z with q := r } : LZ).q := by
       have := HI.out.inv.qn
       rw [hQ] at this
       exact (List.nodup_cons.1 this).1
      have HC := Lib.hid (rdir_any HE.out hDI hPZ (t := t) ht hcr wr hDz)
      have HDI2 : Hid (∀ w' o1 I1, Dir2 E (done ++ [(c : Int)]) o (dirOf E.X E.Y E.A c { z with q := r }) wr w' o1 I1 → DI E (done ++ [(c : Int)]) (dirOf E.X E.Y E.A c { z with q := r })) := Lib.hid (fun w' o1 I1 h => h.i)
      have HW2 : Hid (∃ L, WZ E.X E.Y E.A L 0 0 (dirOf E.X E.Y E.A c { z with q := r })) := Lib.hid (by obtain ⟨L, hW⟩ := HW.out; have := dirOf_wz (by omega) hW hQ; rw [Int.toNat_natCast] at this; exact this)
      have HL2 : Hid (∃ f', potZ (dirOf E.X E.Y E.A c { z with q := r }) ≤ f' ∧ loopZ E.X E.Y E.A f' (dirOf E.X E.Y E.A c { z with q := r }) = lookZ E.X E.Y E.A) := Lib.hid (by
       have hpp := pot_pop hQ
       obtain ⟨h1, h2⟩ := HL.out
       obtain ⟨f', rfl⟩ : ∃ f', f = f' + 1 := ⟨f - 1, by omega⟩
       have h3 := pot_dir hY9 E.A c { z with q := r } (X := E.X)
       rw [loopZ_cons _ _ _ _ _ _ _ hQ, Int.toNat_natCast] at h2
       exact ⟨f', by omega, h2⟩)
      clear hDz hDI hPZ hcr hc1 hcY hcT ht hqr hlen hnth HI HW HL
      go_wp2_with fail
      refine HC.out.mono ?_; rintro e w9 ⟨rfl, o1, I1, hd2⟩
      have hD2 := hd2.d
      have HZ9 : Hid (hat w9 w.heap.size = some (.cells #[.slice none 0 0, .slice none 0 0, .slice none 0 0, .slice none 0 0] 26) ∧ hat w9 gs = some (.cells #[.int .i64 (E.N : Int), .int .i64 E.Y] 40)) := Lib.hid ⟨HD.out.g.keep hd2.f HZ.out.1 (by decide), HD.out.g.keep hd2.f HZ.out.2 (by decide)⟩
      have HB9 : Hid (Below w.heap.size w w9) := Lib.hid (HB.out.trans (hd2.f.below HB.out.size (fun b hb => by
       rcases List.mem_append.1 hb with hb | hb
       ·exact HMS.out b hb
       ·exact HO.out b (by simpa using hb))))
      have HO9 : Hid (OwnB w.heap.size o1) := Lib.hid (HO.out.to HB.out.size hd2.o)
      have HD9 := Lib.hid hD2
      have HI9 := Lib.hid hd2.i
      clear hD2 hd2 HC HD HZ HB HO hlr hlrl hgq hgql hcell
      go_wp2_with fail
      go_roundw
      case rel =>
       obtain ⟨f', hf'⟩ := HL2.out
       first | exact ⟨done ++ [(c : Int)], _, o1, I1, f', by simp, HD9, HI9, HW2, Lib.hid hf', HZ9, HB9, HO9⟩ | ((repeat apply Exists.intro); exact ⟨⟨done ++ [(c : Int)], _, o1, I1, f', by simp, HD9, HI9, HW2, Lib.hid hf', HZ9, HB9, HO9⟩, rfl⟩)
      case measure => (show 100001 - (done.length + 1) < 100001 - done.length); omega
     | nil =>
      rw [hQ, List.append_nil] at hqr
      obtain ⟨aq, cq, ev⟩ := hqr.slice
      rw [ev] at hlr
      have hzz : z = lookZ E.X E.Y E.A := by rw [← HL.out.2, loopZ_nil _ _ _ _ _ hQ]
      have HZL := Lib.hid hzz
      have HR : Hid (RG E wr o done z.st.S z.st.cl (tkZ z.T) I (enZ z.T)) := Lib.hid (by have := HD.out.g; rw [hQ, List.append_nil] at this; exact this)
      have HIT := Lib.hid HD.out.i
      clear hqr hzz hQ HL HW HI HD
      obtain ⟨wq, hwq⟩ : ∃ x, x = wr := ⟨_, rfl⟩
      subst hwq
      go_wp2_with fail
      clear hlr hlrl
      go_loopw [10] (fun kv wr => ∃ k : Nat, kv = .int .i64 k ∧ 1 ≤ k ∧ k ≤ E.M ∧ Hid (RG E wr o done (repP E.Y z k) z.st.cl (tkZ z.T) I (enZ z.T)) ∧ Hid (hat wr w.heap.size = some (.cells #[.slice none 0 0, .slice none 0 0, .slice none 0 0, .slice none 0 0] 26) ∧ hat wr gs = some (.cells #[.int .i64 (E.N : Int), .int .i64 E.Y] 40)) ∧ Hid (Below w.heap.size w wr)) (fun v _ => E.M + 1 - (intOf v).toNat)
      case atStart => exact ⟨1, rfl, Nat.le_refl _, by omega, Lib.hid (by rw [repP_one]; exact HR.out), HZ, HB⟩
      case round =>
       obtain ⟨k, rfl, hk1, hkM, HRk, HZk, HBk⟩ := hrel
       have hk0 : (0 : Int) ≤ (k : Int) := Int.natCast_nonneg _
       have hsk := HZk.out.2
       have hskl := hat_lt hsk
       obtain ⟨vk, hlk, -⟩ := HRk.out.l
       have hlkl := hat_lt hlk
       by_cases hkM2 : k < E.M
       ·have hkY : (k : Int) ≤ E.Y := by have := HM.out; omega
        have hkN : k < E.N := by omega
        have hki : (k : Int) < (E.N : Int) := by omega
        have hkm : (k : Int) < (E.M : Int) := by omega
        obtain ⟨csw, hcw, -, -, -⟩ := HRk.out.s.load hkN
        have hcwl := hat_lt hcw
        have hst : ∀ raw w', stRow raw 128 (k * 128) E.gw (IV .u8 (zl 128)) w' (some (.cells csw 33 (0, 0))) = .ok () (w'.setRow E.gw (splice csw (k * 128) (IV .u8 (zl 128)))) := fun raw w' => stRow_part (by obtain ⟨cs', h1, h2, h3⟩ := HRk.out.s; rw [hcw] at h1; injection h1 with h4; injection h4 with h5; subst h5; have := Nat.mul_le_mul_right 128 (show k + 1 ≤ E.N by omega); omega) (by simp) (by simp)
        have HR10 := Lib.hid (HRk.out.store HE.out hcw hkN (s := zl 128) (by simp) (bytes_zl 128))
        have hf10 := fr_setRow wr E.gw (splice csw (k * 128) (IV .u8 (zl 128)))
        have hf10' : Fr (E.ms ++ o.toList) wr (wr.setRow E.gw (splice csw (k * 128) (IV .u8 (zl 128)))) := hf10.mono (by simp [REnv.ms])
        have HZ10 : Hid (hat (wr.setRow E.gw (splice csw (k * 128) (IV .u8 (zl 128)))) w.heap.size = some (.cells #[.slice none 0 0, .slice none 0 0, .slice none 0 0, .slice none 0 0] 26) ∧ hat (wr.setRow E.gw (splice csw (k * 128) (IV .u8 (zl 128)))) gs = some (.cells #[.int .i64 (E.N : Int), .int .i64 E.Y] 40)) := Lib.hid ⟨HRk.out.keep hf10' HZk.out.1 (by decide), HRk.out.keep hf10' HZk.out.2 (by decide)⟩
        have HB10 : Hid (Below w.heap.size w (wr.setRow E.gw (splice csw (k * 128) (IV .u8 (zl 128))))) := Lib.hid (HBk.out.trans (hf10.below HBk.out.size (fun b hb => HMS.out b (by simp at hb; subst hb; simp [REnv.ms]))))
        clear hf10 hf10' HRk HZk HBk
        go_upto_region 20 with fail
        clear hlk hlkl hsk hskl hcw hcwl hst
        generalize wr.setRow E.gw (splice csw (k * 128) (IV .u8 (zl 128))) = w10 at *
        obtain ⟨v10, hl10, -⟩ := HR10.out.l
        have hl10l := hat_lt hl10
        obtain ⟨cst, hct, -, hallt⟩ := HR10.out.t
        have hctk := hallt k hkM2
        have hctl := hat_lt hct
        rw [tkZ_nat] at hctk
        clear hallt
        cases hT : z.T k with
        | none =>
         rw [hT] at hctk
         have hctk2 : cst[k]? = some (.bool false) := hctk
         have HR11 : Hid (RG E w10 o done (repP E.Y z (k + 1)) z.st.cl (tkZ z.T) I (enZ z.T)) := Lib.hid (by rw [repP_succ hk1, repS_ino z hk1 hkY]; unfold inoW; rw [hT]; exact HR10.out)
         clear hctk hT HR10
         go_wp2_with fail
         go_roundw
         case rel => first | exact ⟨k + 1, by go_num, by omega, by omega, HR11, HZ10, HB10⟩ | ((repeat apply Exists.intro); exact ⟨⟨k + 1, by go_num, by omega, by omega, HR11, HZ10, HB10⟩, rfl⟩)
         case measure => (show E.M + 1 - (k + 1) < E.M + 1 - k); omega
        | some t =>
         rw [hT] at hctk
         have hctk2 : cst[k]? = some (.bool true) := hctk
         obtain ⟨csn, hcn, hr18, hldn, -⟩ := HR10.out.n.load hkM2
         rw [HIT.out k t hT] at hr18 hldn
         have hcnl := hat_lt hcn
         obtain ⟨cse, hce, -, halle⟩ := HR10.out.e
         have hcek : cse[k]? = some (.int .i64 t.en) := by have := halle k hkM2; unfold enZ at this; rw [hT] at this; exact this
         have hcel := hat_lt hce
         have HRS : Hid (repS E.Y z k = (inoR (t.raw.set 1 t.en)).1) := Lib.hid (by rw [repS_ino z hk1 hkY]; unfold inoW; rw [hT])
         obtain ⟨raw, hraw⟩ : ∃ r, t.raw = r := ⟨_, rfl⟩
         rw [hraw] at hr18 hldn HRS
         obtain ⟨en, hen⟩ : ∃ r, t.en = r := ⟨_, rfl⟩
         rw [hen] at hcek HRS
         clear hraw hen hctk hT halle
         have hi11 := (hopN w10 (.cells (IV .i64 raw) 45)).1
         have hi12 := (hopN w10 (.cells (IV .i64 (raw.set 1 en)) 45)).1
         have HB12 : Hid (Below w10.heap.size w10 (w10.alloc (.cells (IV .i64 (raw.set 1 en)) 45))) := Lib.hid ((Below.refl _ _).alloc (Nat.le_refl _) _)
         have hce11 := (hopA w10 (.cells (IV .i64 raw) 45) hce).1
         have hl11 := (hopA w10 (.cells (IV .i64 raw) 45) hl10).1
         have hi11l := hat_lt hi11
         go_upto_region 23 with fail
         clear hce11 hl11 hi11 hi11l hl10l hct hctl hctk2 hcn hcnl hce hcel hcek hldn
         generalize w10.alloc (.cells (IV .i64 (raw.set 1 en)) 45) = w12 at *
         obtain ⟨r2, hr2⟩ : ∃ r, raw.set 1 en = r := ⟨_, rfl⟩
         have hr2l : r2.length = 18 := by rw [← hr2]; simpa using hr18
         rw [hr2] at hi12 HRS
         have hld12 : ∀ r w', ldRow r 18 0 w' (some (.cells (IV .i64 r2) 45)) = .ok (.agg (IV .i64 r2)) w' := fun r w' => by rw [ldRow_part (by simp [hr2l])]; simp [← hr2l]
         have HI0 : Hid (RkI E o done z I w gs w10.heap.size r2 k w12) := Lib.hid ⟨.inl (HR10.out.below HB12.out), hi12, ⟨(hop HB12.out HZ10.out.1).1, (hop HB12.out HZ10.out.2).1⟩, HB10.out.trans (HB12.out.mono HB10.out.size)⟩
         clear hr18 hr2 hl10 HR10 HZ10 HB10 HB12 hi12
         refine wp_region_GH (by kernel_rfl) 12 (by decide) rfl (RkI E o done z I w gs w10.heap.size r2 k) (fun W W' => RG E W o done (repP E.Y z (k + 1)) z.st.cl (tkZ z.T) I (enZ z.T) → RG E W' o done (repP E.Y z (k + 1)) z.st.cl (tkZ z.T) I (enZ z.T)) (fun i' v W => match i' with | 0 => v = (.pointer (some ⟨E.g, 0, none⟩)) | 1 => v = (.pointer (some ⟨E.g, 0, none⟩)) | 2 => v = (.pointer (some ⟨E.g, 3, none⟩)) | 3 => v = (.slice (some ⟨E.gw, 0, none⟩) E.N E.cw) | 4 => v = (.int .i64 (k : Int)) | 5 => v = (.agg (IV .i64 r2)) | 6 => v = (.tuple #[.agg (IV .u8 (inoR r2).1), .int .i64 (inoR r2).2]) | 7 => v = (.tuple #[.agg (IV .u8 (inoR r2).1), .int .i64 (inoR r2).2]) | 8 => v = (.agg (IV .u8 (inoR r2).1)) | 9 => v = (.int .i64 (inoR r2).2) | 10 => v = (.pointer (some ⟨E.gw, k * 128, none⟩)) | _ => True) (fun i' W => i' = 11 → RG E W o done (repP E.Y z (k + 1)) z.st.cl (tkZ z.T) I (enZ z.T)) (HI0.out.below (below_drew (Below.refl _ _))) ?_ ?_ ?_ ?_
         ·intro i' v wa wb hi _ _ hE5 hG
          have hi' : i' = 0 ∨ i' = 1 ∨ i' = 2 ∨ i' = 3 ∨ i' = 4 ∨ i' = 5 ∨ i' = 6 ∨ i' = 7 ∨ i' = 8 ∨ i' = 9 ∨ i' = 10 ∨ i' = 11 := by omega
          rcases hi' with rfl | rfl | rfl | rfl | rfl | rfl | rfl | rfl | rfl | rfl | rfl | rfl <;> exact hG
         ·intro i' wa wb hi _ _ hE5 hG e
          exact hE5 (hG e)
         ·intro i' o' hi ho a' w' hBB hS hF hFH
          have hi' : i' = 0 ∨ i' = 1 ∨ i' = 2 ∨ i' = 3 ∨ i' = 4 ∨ i' = 5 ∨ i' = 6 ∨ i' = 7 ∨ i' = 8 ∨ i' = 9 ∨ i' = 10 ∨ i' = 11 := by omega
          obtain ⟨S', hR⟩ := hBB.any
          obtain ⟨vx, hl, -⟩ := hR.l
          rcases hi' with rfl | rfl | rfl | rfl | rfl | rfl | rfl | rfl | rfl | rfl | rfl | rfl
          all_goals (have ho' := Option.some.inj ho; subst ho')
          ·have q6 : a'.tmps[6]?.getD undef = (.pointer (some ⟨E.g, 0, none⟩)) := gtx ((hS 6 (by decide)).trans rfl)
           refine wpOp_val rfl rfl (v := (.pointer (some ⟨E.g, 0, none⟩))) (w1 := w') ?_ ⟨_, rfl, hBB, id, rfl, fun e => (by cases e)⟩
           simp [go_sem, q6]
          ·have q135 : a'.tmps[135]?.getD undef = (.pointer (some ⟨E.g, 0, none⟩)) := gtx ((hF 0 (by decide) _ 135 rfl rfl).trans rfl)
           refine wpOp_val rfl rfl (v := (.pointer (some ⟨E.g, 0, none⟩))) (w1 := w') ?_ ⟨_, rfl, hBB, id, rfl, fun e => (by cases e)⟩
           simp [go_sem, q135]
          ·have q136 : a'.tmps[136]?.getD undef = (.pointer (some ⟨E.g, 0, none⟩)) := gtx ((hF 1 (by decide) _ 136 rfl rfl).trans rfl)
           refine wpOp_val rfl rfl (v := (.pointer (some ⟨E.g, 3, none⟩))) (w1 := w') ?_ ⟨_, rfl, hBB, id, rfl, fun e => (by cases e)⟩
           simp [go_sem, q136]
          ·have q137 : a'.tmps[137]?.getD undef = (.pointer (some ⟨E.g, 3, none⟩)) := gtx ((hF 2 (by decide) _ 137 rfl rfl).trans rfl)
           refine wpOp_val rfl rfl (v := (.slice (some ⟨E.gw, 0, none⟩) E.N E.cw)) (w1 := w') ?_ ⟨_, rfl, hBB, id, rfl, fun e => (by cases e)⟩
           simp [go_sem, q137, hl]
          ·have q10 : a'.tmps[10]?.getD undef = (.int .i64 (k : Int)) := gtx ((hS 10 (by decide)).trans rfl)
           refine wpOp_val rfl rfl (v := (.int .i64 (k : Int))) (w1 := w') ?_ ⟨_, rfl, hBB, id, rfl, fun e => (by cases e)⟩
           simp [go_sem, q10]
          ·have q11 : a'.tmps[11]?.getD undef = (.pointer (some ⟨w10.heap.size, 0, none⟩)) := gtx ((hS 11 (by decide)).trans rfl)
           refine wpOp_val rfl rfl (v := (.agg (IV .i64 r2))) (w1 := w') ?_ ⟨_, rfl, hBB, id, rfl, fun e => (by cases e)⟩
           simp [go_sem, q11, hBB.x, hld12]
          ·have q140 : a'.tmps[140]?.getD undef = (.agg (IV .i64 r2)) := gtx ((hF 5 (by decide) _ 140 rfl rfl).trans rfl)
           refine wpOp_call (f := 34) (args := #[.agg (IV .i64 r2)]) rfl rfl (by simp [go_sem, q140]) (rino_any r2 hr2l w') ?_
           rintro e w'' ⟨rfl, hb'⟩
           exact ⟨_, rfl, _, rfl, hBB.below hb', fun h => h.below hb', rfl, fun e => (by cases e)⟩
          ·have q141 : a'.tmps[141]?.getD undef = (.tuple #[.agg (IV .u8 (inoR r2).1), .int .i64 (inoR r2).2]) := gtx ((hF 6 (by decide) _ 141 rfl rfl).trans rfl)
           refine wpOp_val rfl rfl (v := (.tuple #[.agg (IV .u8 (inoR r2).1), .int .i64 (inoR r2).2])) (w1 := w') ?_ ⟨_, rfl, hBB, id, rfl, fun e => (by cases e)⟩
           simp [go_sem, q141]
          ·have q134 : a'.tmps[134]?.getD undef = (.tuple #[.agg (IV .u8 (inoR r2).1), .int .i64 (inoR r2).2]) := gtx ((hF 7 (by decide) _ 134 rfl rfl).trans rfl)
           refine wpOp_val rfl rfl (v := (.agg (IV .u8 (inoR r2).1))) (w1 := w') ?_ ⟨_, rfl, hBB, id, rfl, fun e => (by cases e)⟩
           simp [go_sem, q134]
          ·have q134 : a'.tmps[134]?.getD undef = (.tuple #[.agg (IV .u8 (inoR r2).1), .int .i64 (inoR r2).2]) := gtx ((hF 7 (by decide) _ 134 rfl rfl).trans rfl)
           refine wpOp_val rfl rfl (v := (.int .i64 (inoR r2).2)) (w1 := w') ?_ ⟨_, rfl, hBB, id, rfl, fun e => (by cases e)⟩
           simp [go_sem, q134]
          ·have q138 : a'.tmps[138]?.getD undef = (.slice (some ⟨E.gw, 0, none⟩) E.N E.cw) := gtx ((hF 3 (by decide) _ 138 rfl rfl).trans rfl)
           have q139 : a'.tmps[139]?.getD undef = (.int .i64 (k : Int)) := gtx ((hF 4 (by decide) _ 139 rfl rfl).trans rfl)
           refine wpOp_val rfl rfl (v := (.pointer (some ⟨E.gw, k * 128, none⟩))) (w1 := w') ?_ ⟨_, rfl, hBB, id, rfl, fun e => (by cases e)⟩
           simp [go_sem, q138, q139, hk0, hki, hkN]
          ·have q144 : a'.tmps[144]?.getD undef = (.pointer (some ⟨E.gw, k * 128, none⟩)) := gtx ((hF 10 (by decide) _ 144 rfl rfl).trans rfl)
           have q142 : a'.tmps[142]?.getD undef = (.agg (IV .u8 (inoR r2).1)) := gtx ((hF 8 (by decide) _ 142 rfl rfl).trans rfl)
           obtain ⟨csx, hcx, -, -, -⟩ := hR.s.load hkN
           have hst2 : ∀ raw w', stRow raw 128 (k * 128) E.gw (IV .u8 (inoR r2).1) w' (some (.cells csx 33 (0, 0))) = .ok () (w'.setRow E.gw (splice csx (k * 128) (IV .u8 (inoR r2).1))) := fun raw w' => stRow_part (by obtain ⟨cs', h1, h2, h3⟩ := hR.s; rw [hcx] at h1; injection h1 with h4; injection h4 with h5; subst h5; have := Nat.mul_le_mul_right 128 (show k + 1 ≤ E.N by omega); omega) (by simp) (by simp)
           obtain ⟨hput, hput2⟩ := hBB.store HE.out hk1 hkN (HMS.out E.gw (by simp [REnv.ms])) HRS.out hcx
           refine wpOp_skip rfl rfl (w1 := w'.setRow E.gw (splice csx (k * 128) (IV .u8 (inoR r2).1))) ?_ ⟨undef, rfl, hput, fun _ => hput2, trivial, fun _ => hput2⟩
           simp [go_sem, q144, q142, hcx, hst2]
         intro val w13 hBB hF hFH
         have y0 := hF 0 _ 135 (by decide) rfl rfl
         have y1 := hF 1 _ 136 (by decide) rfl rfl
         have y2 := hF 2 _ 137 (by decide) rfl rfl
         have y3 := hF 3 _ 138 (by decide) rfl rfl
         have y4 := hF 4 _ 139 (by decide) rfl rfl
         have y5 := hF 5 _ 140 (by decide) rfl rfl
         have y6 := hF 6 _ 141 (by decide) rfl rfl
         have y7 := hF 7 _ 134 (by decide) rfl rfl
         have y8 := hF 8 _ 142 (by decide) rfl rfl
         have y9 := hF 9 _ 143 (by decide) rfl rfl
         have y10 := hF 10 _ 144 (by decide) rfl rfl
         simp only [] at y0 y1 y2 y3 y4 y5 y6 y7 y8 y9 y10
         simp only [putAll, List.take, List.drop, List.take_succ_cons, List.drop_succ_cons, y0, y1, y2, y3, y4, y5, y6, y7, y8, y9, y10, Act.put, List.setIfInBounds_toArray, List.set_cons_zero, List.set_cons_succ]
         clear y0 y1 y2 y3 y4 y5 y6 y7 y8 y9 y10 hF
         have HR14 := Lib.hid (hFH 11 (by decide) rfl)
         have HZ14 := Lib.hid hBB.z
         have HB14 := Lib.hid hBB.b
         clear hFH hBB HI0 HRS hld12
         go_wp2_with fail
         go_roundw
         case rel => first | exact ⟨k + 1, by go_num, by omega, by omega, HR14, HZ14, HB14⟩ | ((repeat apply Exists.intro); exact ⟨⟨k + 1, by go_num, by omega, by omega, HR14, HZ14, HB14⟩, rfl⟩)
         case measure => (show E.M + 1 - (k + 1) < E.M + 1 - k); omega
       ·obtain rfl : k = E.M := by omega
        have hkY : ¬ (E.M : Int) ≤ E.Y := by have := HM.out; omega
        obtain ⟨wq2, hwq2⟩ : ∃ x, x = wr := ⟨_, rfl⟩
        subst hwq2
        have HR2 : Hid (RG E wq2 o done (repS E.Y z) z.st.cl (tkZ z.T) I (enZ z.T)) := Lib.hid (by have := HRk.out; rw [repP_end HM.out] at this; exact this)
        have HWF : Hid (∃ L, WFin E.X E.Y E.A L z) := Lib.hid (by rw [HZL.out]; exact look_wz hY1 hY9 HA.out HYES.out)
        have HAIM : Hid (∀ i : Nat, 1 ≤ i → i < E.M → tkZ z.T i = true → Aims E.N (repS E.Y z) (I i) ∧ ∀ q ∈ tosR (repS E.Y z) (I i), 0 ≤ q ∧ q < E.N) := Lib.hid (fun i h1 h2 h3 => by
         obtain ⟨L, hW⟩ := HWF.out
         rw [tkZ_nat] at h3
         obtain ⟨t, ht⟩ := Option.isSome_iff_exists.1 h3
         rw [HIT.out i t ht]
         exact fin_aims (by omega) HEX.out.symm (by omega) hW (out_w hW) ht)
        have HC := Lib.hid (rreport_any HE.out HAIM.out wq2 HR2.out)
        clear HRk HB HR hlk hlkl
        go_wp2_with fail
        refine HC.out.mono ?_; rintro e wE ⟨u1, u2, u3, o1, o2, o3, rfl, k2, k3, k4, k5⟩
        have hzE : hat wE w.heap.size = _ := (k5.block _ (hat_lt HZk.out.1)).trans HZk.out.1
        have HE1 := Lib.hid (hat_put4 hzE (.slice (some ⟨E.gw, 0, none⟩) E.N E.cw) u1 u2 u3)
        have P4 := fr_put4 wE w.heap.size (.slice (some ⟨E.gw, 0, none⟩) E.N E.cw) u1 u2 u3
        have K := Lib.hid (show _ ∧ _ ∧ _ ∧ _ ∧ _ from ⟨k2, k3, k4, k5, P4⟩)
        have HQN := Lib.hid (show _ ∧ _ ∧ _ from ⟨k2.ne hzE (by decide), k3.ne hzE (by decide), k4.ne hzE (by decide)⟩)
        clear k2 k3 k4 k5 P4 HC
        obtain ⟨p1, q1, c1, rfl⟩ : ∃ p q c, u1 = .slice p q c := K.out.1.sl
        obtain ⟨p2, q2, c2, rfl⟩ : ∃ p q c, u2 = .slice p q c := K.out.2.1.sl
        obtain ⟨p3, q3, c3, rfl⟩ : ∃ p q c, u3 = .slice p q c := K.out.2.2.1.sl
        have hzEl := hat_lt hzE
        go_wp2_with fail
        refine ret_ct row26 rfl (cs := #[.slice (some ⟨E.gw, 0, none⟩) E.N E.cw, .slice p1 q1 c1, .slice p2 q2 c2, .slice p3 q3 c3]) rfl HE1.out rfl rfl (.inl ⟨HYES.out, ?_⟩)
        obtain ⟨k2, k3, k4, k5, P4⟩ := K.out
        obtain ⟨n1, n2, n3⟩ := HQN.out
        obtain ⟨L, hW⟩ := HWF.out
        have hw := HR2.out.s
        rw [← HEX.out] at hW
        rw [fin_write hY1 hW HIT.out HM.out] at k2
        rw [fin_inos hY9 hW HM.out] at k3
        rw [fin_blocks hN hW] at k4
        have hzl := HZL.out
        rw [← HEX.out] at hzl
        have hms := HMS.out E.gw (by simp [REnv.ms])
        have hgz : E.gw ≠ w.heap.size := fun e => by
         obtain ⟨csz, hcsz, -⟩ := hw
         rw [e, HZk.out.1] at hcsz
         injection hcsz with h8
         injection h8 with h9 h10
         exact absurd h10 (by decide)
        have hwE : WSecs wE E.gw E.N (repS E.Y z) := hw.same (k5.block _ hw.lt2)
        unfold RLookOut
        rw [← hzl]
        exact ⟨E.gw, E.cw, _, _, _, o1, o2, o3, rfl, hwE.same (P4.block _ hwE.lt2 (by simpa using hgz)), k2.fr P4 n1, k3.fr P4 n2, k4.fr P4 n3, (HBk.out.trans (k5.mono HBk.out.size)).trans (P4.below (by have := HBk.out.size; have := k5.size; omega) (by simp)), hms⟩
noncomputable def wJ (S : Nat → List Int) (k j : Nat) : List Int := if 1 ≤ j ∧ j < k then (rdInoR (S j)).1 else zl 18
theorem Inos.congr {w : World} {g M : Nat} {I I' : Nat → List Int} (h : Inos w g M I) (he : ∀ i, i < M → I' i = I i) : Inos w g M I' := by
 obtain ⟨cs, h1, h2, h3⟩ := h
 exact ⟨cs, h1, h2, fun i hi => by rw [he i hi]; exact h3 i hi⟩
def Img0 (w : World) (v : Value) (N : Nat) (S : Nat → List Int) : Prop := ∃ a ci, v = .slice a N ci ∧ (0 < N → ∃ gi oi, a = some ⟨gi, oi, none⟩ ∧ Secs w gi oi N S)
theorem Img.zero {w : World} {v : Value} {N : Nat} {S : Nat → List Int} (h : Img w v N S) : Img0 w v N S := by
 obtain ⟨a, ci, h1, -, -, h4⟩ := h
 exact ⟨a, ci, h1, h4⟩
theorem Img0.same {w w' : World} {v : Value} {N : Nat} {S : Nat → List Int} (h : Img0 w v N S) (hf : Fr [] w w') : Img0 w' v N S := by
 obtain ⟨a, ci, h1, h4⟩ := h
 refine ⟨a, ci, h1, fun hN => ?_⟩
 obtain ⟨gi, oi, h5, h6⟩ := h4 hN
 exact ⟨gi, oi, h5, h6.same (hf.block _ h6.lt (by simp))⟩
theorem img0_of {w : World} {g N c : Nat} {S : Nat → List Int} (h : WSecs w g N S) : Img0 w (.slice (some ⟨g, 0, none⟩) N c) N S := ⟨_, _, rfl, fun _ => ⟨g, 0, rfl, h.secs⟩⟩
theorem Img0.len {w : World} {v : Value} {N : Nat} {S : Nat → List Int} (h : Img0 w v N S) : ∀ j, j < N → (S j).length = 128 ∧ Bytes (S j) := fun j hj => by
 obtain ⟨a, ci, -, h4⟩ := h
 obtain ⟨gi, oi, -, h6⟩ := h4 (by omega)
 exact h6.len hj
theorem look_all0 {v : Value} {N : Nat} {S : Nat → List Int} {w : World} (h : Img0 w v N S) :
  Calls Tryz.prog 10 #[v] w fun e w' => Below w.heap.size w w' ∧ ((lookE N S = 0 ∧ LookOut w w' N N (rdSupR (S 0)).2.1 S e) ∨ (lookE N S ≠ 0 ∧ e = .returned (.tuple #[.agg repNil, .int .i64 (lookE N S)]))) := by
 obtain ⟨a, ci, rfl, h3⟩ := h
 by_cases c1 : N < 8 ∨ 4096 < N
 ·have he : lookE N S = 120 := by unfold lookE; rw [if_pos c1]
  refine (look_small a N ci w c1).mono ?_
  rintro e w' ⟨rfl, hb⟩
  exact ⟨hb, .inr ⟨by rw [he]; decide, by rw [he]⟩⟩
 ·obtain ⟨gi, oi, rfl, hS⟩ := h3 (by omega)
  by_cases c2 : (rdSupR (S 0)).2.2 ≠ 0 ∨ (rdSupR (S 0)).1 ≠ N
  ·have he : lookE N S = 120 := by unfold lookE; rw [if_neg c1, if_pos c2]
   refine (look_super gi oi N ci S w hS (by omega) (by omega) c2).mono ?_
   rintro e w' ⟨rfl, hb⟩
   exact ⟨hb, .inr ⟨by rw [he]; decide, by rw [he]⟩⟩
  ·have e1 : (rdSupR (S 0)).2.2 = 0 := Decidable.byContradiction fun h4 => c2 (.inl h4)
   have e2 : (rdSupR (S 0)).1 = N := Decidable.byContradiction fun h4 => c2 (.inr h4)
   refine (look_good gi oi N ci S w hS (by omega) (by omega) e1 e2).mono ?_
   rintro e w' (⟨hr, ho⟩ | ⟨hr, rfl, hb⟩)
   ·rw [e2] at ho
    obtain ⟨gw, cw, v1, v2, v3, o1, o2, o3, k0, k1, k2, k3, k4, k5, k6⟩ := id ho
    exact ⟨k5, .inl ⟨by unfold lookE; rw [if_neg c1, if_neg c2, if_pos hr], ho⟩⟩
   ·have he : lookE N S = 121 := by unfold lookE; rw [if_neg c1, if_neg c2, if_neg hr]
    exact ⟨hb, .inr ⟨by rw [he]; decide, by rw [he]⟩⟩
theorem rlook_small (a : Option Addr) (N c : Nat) (w : World) (h : N < 8 ∨ 4096 < N) :
  Calls Tryz.prog 11 #[.slice a N c] w fun e w' => e = .returned (.tuple #[.agg repNil, .int .i64 120]) ∧ Below w.heap.size w w' := by
 have HF := Lib.hid (hopN w (.cells repNil 26)).1
 have HB := Lib.hid ((Below.refl w.heap.size w).alloc (Nat.le_refl _) (.cells repNil 26))
 cases d1 : decide ((N : Int) < 8) with
 | true =>
  have d2 : (N : Int) < 8 := of_decide_eq_true d1
  clear h
  go_enter Tryz.func11, Tryz.ntmps11
  go_wp2_with fail
  exact ret_ct row26 rfl (cs := repNil) rfl HF.out rfl rfl ⟨rfl, HB.out⟩
 | false =>
  have d2 : ¬ (N : Int) < 8 := of_decide_eq_false d1
  have d3 : (4096 : Int) < (N : Int) := by omega
  clear h
  go_enter Tryz.func11, Tryz.ntmps11
  go_wp2_with fail
  exact ret_ct row26 rfl (cs := repNil) rfl HF.out rfl rfl ⟨rfl, HB.out⟩
theorem rlook_super (gi oi N ci : Nat) (S : Nat → List Int) (w : World) (hS : Secs w gi oi N S) (h8 : 8 ≤ N) (hN : N ≤ 4096) (h : (rdSupR (S 0)).2.2 ≠ 0 ∨ (rdSupR (S 0)).1 ≠ N) :
  Calls Tryz.prog 11 #[.slice (some ⟨gi, oi, none⟩) N ci] w fun e w' => e = .returned (.tuple #[.agg repNil, .int .i64 120]) ∧ Below w.heap.size w w' := by
 obtain ⟨cs, t, fr, hcs, hld⟩ := hS.load (show 0 < N by omega)
 obtain ⟨hl0, hb0⟩ := hS.len (show 0 < N by omega)
 have HRS := Lib.hid (fun W => rrdSup_any (S 0) hl0 hb0 W)
 rw [Nat.zero_mul, Nat.add_zero] at hld
 have hcl := hat_lt hcs
 have hz1 := (hopN w (.cells repNil 26)).1
 have hc1 := (hopA w (.cells repNil 26) hcs).1
 have hf1 := fr_alloc w (.cells repNil 26) []
 have d1 : ¬ (N : Int) < 8 := by omega
 have d2 : ¬ (4096 : Int) < (N : Int) := by omega
 have d3 : (0 : Int) < (N : Int) := by omega
 have HF1 := Lib.hid hf1
 obtain ⟨X, Y, er, hR⟩ : ∃ X Y er, rdSupR (S 0) = (X, Y, er) := ⟨_, _, _, rfl⟩
 rw [hR] at h HRS
 simp only at h
 clear hS hf1 hR
 go_enter Tryz.func11, Tryz.ntmps11
 go_wp2_with fail
 generalize hW1 : w.alloc (.cells #[.slice none 0 0, .slice none 0 0, .slice none 0 0, .slice none 0 0] 26) = w1 at *
 refine (HRS.out w1).mono ?_; rintro e w2 ⟨rfl, hb2⟩
 have hz2 := (hop hb2 (show hat w1 w.heap.size = some (.cells repNil 26) by rw [← hW1]; exact (hopN w _).1)).1
 have hgz := hat_lt hz2
 have HFIN := Lib.hid (hopA (put4 w2 w.heap.size (.slice none 0 0) (.slice none 0 0) (.slice none 0 0) (.slice none 0 0)) (.cells #[.int .i64 X, .int .i64 Y] 40) (hat_put4 hz2 (.slice none 0 0) (.slice none 0 0) (.slice none 0 0) (.slice none 0 0))).1
 have HB := Lib.hid (((((show Fr [] w w1 by rw [← hW1]; exact fr_alloc w _ []).trans (fr_below hb2 [])).mono (ex' := [w.heap.size]) (by simp)).trans (fr_put4 w2 w.heap.size (.slice none 0 0) (.slice none 0 0) (.slice none 0 0) (.slice none 0 0))).trans (fr_alloc _ (.cells #[.int .i64 X, .int .i64 Y] 40) [w.heap.size]) |>.below (B := w.heap.size) (Nat.le_refl _) (by simp))
 unfold repNil at hz2
 clear hb2 hz1 hc1 hcs hld hW1 HF1 HRS
 cases hed : (er == 0) with
 | false =>
  have hedn : (er != 0) = true := by simpa using hed
  clear h
  go_wp2_with fail
  exact ret_ct row26 rfl (cs := repNil) rfl HFIN.out rfl rfl ⟨rfl, HB.out⟩
 | true =>
  have her : er = 0 := by simpa using hed
  have hxn : (X != (N : Int)) = true := by
   rcases h with h | h
   ·exact absurd her h
   ·simpa using h
  have hedn : (er != 0) = false := by simpa using her
  clear h
  go_wp2_with fail
  exact ret_ct row26 rfl (cs := repNil) rfl HFIN.out rfl rfl ⟨rfl, HB.out⟩
theorem rlook_all0 {v : Value} {N : Nat} {S : Nat → List Int} {w : World} (h : Img0 w v N S) :
  Calls Tryz.prog 11 #[v] w fun e w' => Below w.heap.size w w' ∧ ((lookE N S = 0 ∧ RLookOut w w' N N (rdSupR (S 0)).2.1 S e) ∨ (lookE N S ≠ 0 ∧ e = .returned (.tuple #[.agg repNil, .int .i64 (lookE N S)]))) := by
 obtain ⟨a, ci, rfl, h3⟩ := h
 by_cases c1 : N < 8 ∨ 4096 < N
 ·have he : lookE N S = 120 := by unfold lookE; rw [if_pos c1]
  refine (rlook_small a N ci w c1).mono ?_
  rintro e w' ⟨rfl, hb⟩
  exact ⟨hb, .inr ⟨by rw [he]; decide, by rw [he]⟩⟩
 ·obtain ⟨gi, oi, rfl, hS⟩ := h3 (by omega)
  by_cases c2 : (rdSupR (S 0)).2.2 ≠ 0 ∨ (rdSupR (S 0)).1 ≠ N
  ·have he : lookE N S = 120 := by unfold lookE; rw [if_neg c1, if_pos c2]
   refine (rlook_super gi oi N ci S w hS (by omega) (by omega) c2).mono ?_
   rintro e w' ⟨rfl, hb⟩
   exact ⟨hb, .inr ⟨by rw [he]; decide, by rw [he]⟩⟩
  ·have e1 : (rdSupR (S 0)).2.2 = 0 := Decidable.byContradiction fun h4 => c2 (.inl h4)
   have e2 : (rdSupR (S 0)).1 = N := Decidable.byContradiction fun h4 => c2 (.inr h4)
   refine (rlook_good gi oi N ci S w hS (by omega) (by omega) e1 e2).mono ?_
   rintro e w' (⟨hr, ho⟩ | ⟨hr, rfl, hb⟩)
   ·rw [e2] at ho
    obtain ⟨gw, cw, v1, v2, v3, o1, o2, o3, k0, k1, k2, k3, k4, k5, k6⟩ := id ho
    exact ⟨k5, .inl ⟨by unfold lookE; rw [if_neg c1, if_neg c2, if_pos hr], ho⟩⟩
   ·have he : lookE N S = 121 := by unfold lookE; rw [if_neg c1, if_neg c2, if_neg hr]
    exact ⟨hb, .inr ⟨by rw [he]; decide, by rw [he]⟩⟩
def SameOut (N1 N2 : Nat) (S1 S2 : Nat → List Int) (w : World) (e : Ending) (w' : World) : Prop := ∃ b, e = .returned (.bool b) ∧ (b = true ↔ N1 = N2 ∧ ∀ j, j < N1 → S1 j = S2 j) ∧ Fr [] w w'
theorem sectors_any {v1 v2 : Value} {N1 N2 : Nat} {S1 S2 : Nat → List Int} {w : World} (h1 : Img0 w v1 N1 S1) (h2 : Img0 w v2 N2 S2) (hN1 : N1 ≤ 100000) :
  Calls Tryz.prog 13 #[v1, v2] w (SameOut N1 N2 S1 S2 w) := by
 obtain ⟨a1, c1, rfl, H1⟩ := h1
 obtain ⟨a2, c2, rfl, H2⟩ := h2
 have H1 := Lib.hid H1
 have H2 := Lib.hid H2
 by_cases hN : N1 = N2
 ·subst hN
  have d1 : ((N1 : Int) != (N1 : Int)) = false := by simp
  go_enter Tryz.func13, Tryz.ntmps13
  go_wp2_with fail
  go_loopw [5] (fun v wr => ∃ k : Nat, v = .int .i64 k ∧ k ≤ N1 ∧ Hid (Fr [] w wr) ∧ Hid (∀ j, j < k → S1 j = S2 j)) (fun v wr => N1 - (intOf v).toNat)
  case atStart => exact ⟨0, rfl, Nat.zero_le _, Lib.hid (Fr.refl _ _), Lib.hid (fun j h => by omega)⟩
  case round =>
   obtain ⟨k, rfl, hk, HF, HE⟩ := hrel
   by_cases hkN : k < N1
   ·have hk0 : (0 : Int) ≤ (k : Int) := Int.natCast_nonneg _
    have hk1 : (k : Int) < (N1 : Int) := by omega
    obtain ⟨g1, o1, rfl, hs1⟩ := H1.out (by omega)
    obtain ⟨g2, o2, rfl, hs2⟩ := H2.out (by omega)
    have hr1 := hs1.same (HF.out.block _ hs1.lt (by simp))
    have hr2 := hs2.same (HF.out.block _ hs2.lt (by simp))
    obtain ⟨cs1, t1, f1, hc1, hl1⟩ := hr1.load hkN
    obtain ⟨cs2, t2, f2, hc2, hl2⟩ := hr2.load hkN
    have hn1 := (hr1.len hkN).1
    have hn2 := (hr2.len hkN).1
    clear hr1 hr2 hs1 hs2
    by_cases heq : S1 k = S2 k
    ·have hne : decide (S1 k = S2 k) = true := decide_eq_true heq
     have HE2 : Hid (∀ j, j < k + 1 → S1 j = S2 j) := Lib.hid (fun j hj => by
      by_cases e : j = k
      ·subst e; exact heq
      ·exact HE.out j (by omega))
     clear heq
     go_wp2_with fail
     go_region
     go_wp2_with fail
     go_roundw
     case rel => exact ⟨k + 1, by go_num, by omega, Lib.hid (fr_drew HF.out), HE2⟩
     case measure => (show N1 - (k + 1) < N1 - k); omega
    ·have hne : decide (S1 k = S2 k) = false := decide_eq_false heq
     have HNO : Hid (¬ ∀ j, j < N1 → S1 j = S2 j) := Lib.hid (fun h => heq (h k hkN))
     clear heq
     go_wp2_with fail
     go_region
     go_wp2_with fail
     go_ret
     exact ⟨false, rfl, ⟨fun h => (by cases h), fun h => absurd h.2 HNO.out⟩, fr_drew HF.out⟩
   ·obtain rfl : k = N1 := by omega
    go_wp2_with fail
    go_ret
    exact ⟨true, rfl, ⟨fun _ => ⟨rfl, HE.out⟩, fun _ => rfl⟩, HF.out⟩
 ·have d1 : ((N1 : Int) != (N2 : Int)) = true := by simp; omega
  have HNO : Hid (¬ (N1 = N2 ∧ ∀ j, j < N1 → S1 j = S2 j)) := Lib.hid (fun h => hN h.1)
  clear hN
  go_enter Tryz.func13, Tryz.ntmps13
  go_wp2_with fail
  go_ret
  exact ⟨false, rfl, ⟨fun h => (by cases h), fun h => absurd h HNO.out⟩, Fr.refl _ _⟩
structure WellF (X Y : Int) (A : Nat → List Int) : Prop where
 Y1 : 1 ≤ Y
 Y9 : Y < 4096
 ln : ∀ j : Nat, isD X Y j = true → (A j).length = 128 ∧ Bytes (A j)
 rd : ∀ i : Nat, 1 ≤ i → (i : Int) ≤ Y → (rdInoR (A i)).2 = 0
 sh : ∀ i : Nat, 1 ≤ i → (i : Int) ≤ Y → nth (wI A i) 0 ≠ 0 → inoSh (cntX (nth (wI A i) 2)) A (wI A i)
 ok : ∀ i : Nat, 1 ≤ i → (i : Int) ≤ Y → nth (wI A i) 0 ≠ 0 → OkL X Y (fun _ => false) (inoPs (cntX (nth (wI A i) 2)) A (wI A i))
 dj : ∀ i i' : Nat, 1 ≤ i → (i : Int) ≤ Y → 1 ≤ i' → (i' : Int) ≤ Y → nth (wI A i) 0 ≠ 0 → nth (wI A i') 0 ≠ 0 → ∀ p, p ∈ inoPs (cntX (nth (wI A i) 2)) A (wI A i) → p ∈ inoPs (cntX (nth (wI A i') 2)) A (wI A i') → i = i'
 rt : nth (wI A 1) 0 = 2
 dr : DirsOk A (wI A) (Y.toNat + 1)
 al : ∀ i, 1 ≤ i → i < Y.toNat + 1 → nth (wI A i) 0 ≠ 0 → InoOkW A (wI A) (Y.toNat + 1) i
structure BZ (A : Nat → List Int) (z : LZ) : Prop where
 S : z.st.S = A
 t : ∀ i t, z.T i = some t → t.raw = (rdInoR (A i)).1
theorem mem_differL {N : Nat} {S I : Nat → List Int} {sort : Nat → Bool} {x : Int} : x ∈ differL N S I sort ↔ ∃ i : Nat, i < N ∧ x = i ∧ S i ≠ I i ∧ sort i = true := by
 unfold differL
 simp only [List.mem_map, List.mem_filter, List.mem_range, Bool.and_eq_true, decide_eq_true_eq]
 constructor
 ·rintro ⟨i, ⟨h1, h2, h3⟩, rfl⟩; exact ⟨i, h1, rfl, h2, h3⟩
 ·rintro ⟨i, h1, rfl, h2, h3⟩; exact ⟨i, ⟨h1, h2, h3⟩, rfl⟩
theorem differL_nodup (N : Nat) (S I : Nat → List Int) (sort : Nat → Bool) : (differL N S I sort).Nodup := by
 unfold differL
 refine List.Pairwise.map _ (R := fun a b : Nat => a ≠ b) (fun a b h => by omega) ?_
 exact List.Pairwise.filter _ List.nodup_range
def row0 (N : Nat) (Y : Int) (S I : Nat → List Int) (fm : Int → Bool) : List Int := differL N S I (fun i => !decide ((i : Int) ≤ Y) && fm i)
def row1 (N : Nat) (Y : Int) (S I : Nat → List Int) : List Int := differL N S I (fun i => decide ((i : Int) ≤ Y))
def row2 (N : Nat) (Y : Int) (S I : Nat → List Int) (fm : Int → Bool) : List Int := differL N S I (fun i => !decide ((i : Int) ≤ Y) && !fm i)
theorem writeL_rows (N : Nat) (Y : Int) (S I : Nat → List Int) (fm : Int → Bool) : writeL N Y S I fm = row0 N Y S I fm ++ row1 N Y S I ++ row2 N Y S I fm := rfl
theorem mem_row0 {N : Nat} {Y : Int} {S I : Nat → List Int} {fm : Int → Bool} {j : Nat} : (j : Int) ∈ row0 N Y S I fm ↔ j < N ∧ S j ≠ I j ∧ ¬ (j : Int) ≤ Y ∧ fm j = true := by
 unfold row0
 rw [mem_differL]
 constructor
 ·rintro ⟨i, h1, h2, h3, h4⟩
  have : j = i := by omega
  subst this
  simp at h4
  exact ⟨h1, h3, by omega, h4.2⟩
 ·rintro ⟨h1, h2, h3, h4⟩
  exact ⟨j, h1, rfl, h2, by simpa using ⟨by omega, h4⟩⟩
theorem mem_row1 {N : Nat} {Y : Int} {S I : Nat → List Int} {j : Nat} : (j : Int) ∈ row1 N Y S I ↔ j < N ∧ S j ≠ I j ∧ (j : Int) ≤ Y := by
 unfold row1
 rw [mem_differL]
 constructor
 ·rintro ⟨i, h1, h2, h3, h4⟩
  have : j = i := by omega
  subst this
  simp at h4
  exact ⟨h1, h3, h4⟩
 ·rintro ⟨h1, h2, h3⟩
  exact ⟨j, h1, rfl, h2, by simpa using h3⟩
theorem mem_row2 {N : Nat} {Y : Int} {S I : Nat → List Int} {fm : Int → Bool} {j : Nat} : (j : Int) ∈ row2 N Y S I fm ↔ j < N ∧ S j ≠ I j ∧ ¬ (j : Int) ≤ Y ∧ fm j = false := by
 unfold row2
 rw [mem_differL]
 constructor
 ·rintro ⟨i, h1, h2, h3, h4⟩
  have : j = i := by omega
  subst this
  simp at h4
  exact ⟨h1, h3, by omega, h4.2⟩
 ·rintro ⟨h1, h2, h3, h4⟩
  exact ⟨j, h1, rfl, h2, by simpa using ⟨by omega, h4⟩⟩
theorem mem_writeL {N : Nat} {Y : Int} {S I : Nat → List Int} {fm : Int → Bool} {j : Nat} : (j : Int) ∈ writeL N Y S I fm ↔ j < N ∧ S j ≠ I j := by
 rw [writeL_rows, List.mem_append, List.mem_append, mem_row0, mem_row1, mem_row2]
 constructor
 ·rintro ((⟨a, b, -⟩ | ⟨a, b, -⟩) | ⟨a, b, -⟩) <;> exact ⟨a, b⟩
 ·rintro ⟨a, b⟩
  by_cases h : (j : Int) ≤ Y
  ·exact .inl (.inr ⟨a, b, h⟩)
  ·cases hf : fm j with
   | true => exact .inl (.inl ⟨a, b, h, rfl⟩)
   | false => exact .inr ⟨a, b, h, rfl⟩
theorem row_nat {N : Nat} {S I : Nat → List Int} {sort : Nat → Bool} {x : Int} (h : x ∈ differL N S I sort) : ∃ j : Nat, x = j := by
 obtain ⟨i, -, h, -⟩ := mem_differL.1 h; exact ⟨i, h⟩
theorem writeL_nat {N : Nat} {Y : Int} {S I : Nat → List Int} {fm : Int → Bool} {x : Int} (h : x ∈ writeL N Y S I fm) : ∃ j : Nat, x = j := by
 rw [writeL_rows, List.mem_append, List.mem_append] at h
 rcases h with (h | h) | h <;> exact row_nat h
theorem writeL_nodup (N : Nat) (Y : Int) (S I : Nat → List Int) (fm : Int → Bool) : (writeL N Y S I fm).Nodup := by
 rw [writeL_rows, List.nodup_append, List.nodup_append]
 refine ⟨⟨differL_nodup _ _ _ _, differL_nodup _ _ _ _, fun a ha b hb e => ?_⟩, differL_nodup _ _ _ _, fun a ha b hb e => ?_⟩
 ·subst e
  obtain ⟨j, rfl⟩ := row_nat ha
  exact (mem_row0.1 ha).2.2.1 (mem_row1.1 hb).2.2
 ·subst e
  obtain ⟨j, rfl⟩ := row_nat hb
  rw [List.mem_append] at ha
  rcases ha with ha | ha
  ·have h1 := (mem_row0.1 ha).2.2.2
   have h2 := (mem_row2.1 hb).2.2.2
   rw [h1] at h2; cases h2
  ·exact (mem_row2.1 hb).2.2.1 (mem_row1.1 ha).2.2
def cutS (S W : Nat → List Int) (P : List Int) : Nat → List Int := fun j => if (j : Int) ∈ P then W j else S j
structure RepV (w : World) (v0 v1 v2 v3 : Value) (o1 o2 o3 : Option Nat) (N : Nat) (S : Nat → List Int) (xs ys zs : List Int) : Prop where
 i : Img0 w v0 N S
 q1 : QRow w v1 o1 xs
 q2 : QRow w v2 o2 ys
 q3 : QRow w v3 o3 zs
 n0 : N ≤ 4096
 n1 : xs.length ≤ 100000
 n2 : ys.length ≤ 100000
 n3 : zs.length ≤ 100000
theorem RepV.same {w w' : World} {v0 v1 v2 v3 : Value} {o1 o2 o3 : Option Nat} {N : Nat} {S : Nat → List Int} {xs ys zs : List Int} (h : RepV w v0 v1 v2 v3 o1 o2 o3 N S xs ys zs) (hf : Fr [] w w') : RepV w' v0 v1 v2 v3 o1 o2 o3 N S xs ys zs :=
 ⟨h.i.same hf, h.q1.fr hf (fun _ _ => by simp), h.q2.fr hf (fun _ _ => by simp), h.q3.fr hf (fun _ _ => by simp), h.n0, h.n1, h.n2, h.n3⟩
theorem repV_nil (w : World) (S : Nat → List Int) : RepV w (.slice none 0 0) (.slice none 0 0) (.slice none 0 0) (.slice none 0 0) none none none 0 S [] [] [] :=
 ⟨⟨none, 0, rfl, fun h => by omega⟩, .inl ⟨rfl, rfl, rfl⟩, .inl ⟨rfl, rfl, rfl⟩, .inl ⟨rfl, rfl, rfl⟩, by omega, by simp, by simp, by simp⟩
def SameRep (N N' : Nat) (S S' : Nat → List Int) (xs ys zs xs' ys' zs' : List Int) (w : World) (e : Ending) (w' : World) : Prop :=
 ∃ b, e = .returned (.bool b) ∧ (b = true ↔ (N = N' ∧ ∀ j, j < N → S j = S' j) ∧ xs = xs' ∧ ys = ys' ∧ zs = zs') ∧ Below w.heap.size w w'
theorem Fr.bl {w w' : World} (h : Fr [] w w') : Below w.heap.size w w' := h.below (Nat.le_refl _) (by simp)
theorem same_any {a0 a1 a2 a3 b0 b1 b2 b3 : Value} {o1 o2 o3 p1 p2 p3 : Option Nat} {N N' : Nat} {S S' : Nat → List Int} {xs ys zs xs' ys' zs' : List Int} {w : World} (h1 : RepV w a0 a1 a2 a3 o1 o2 o3 N S xs ys zs) (h2 : RepV w b0 b1 b2 b3 p1 p2 p3 N' S' xs' ys' zs') :
  Calls Tryz.prog 12 #[.agg #[a0, a1, a2, a3], .agg #[b0, b1, b2, b3]] w (SameRep N N' S S' xs ys zs xs' ys' zs' w) := by
 have hB1 : Below w.heap.size w (w.alloc (.cells #[a0, a1, a2, a3] 26)) := (Below.refl _ _).alloc (Nat.le_refl _) _
 have hB2 : Below w.heap.size w ((w.alloc (.cells #[a0, a1, a2, a3] 26)).alloc (.cells #[b0, b1, b2, b3] 26)) := hB1.alloc hB1.size _
 have hga := (hopA _ (.cells #[b0, b1, b2, b3] 26) (hopN w (.cells #[a0, a1, a2, a3] 26)).1).1
 have hgb := (hopN (w.alloc (.cells #[a0, a1, a2, a3] 26)) (.cells #[b0, b1, b2, b3] 26)).1
 have H1 := Lib.hid (h1.same (fr_below hB2 []))
 have H2 := Lib.hid (h2.same (fr_below hB2 []))
 have HB2 := Lib.hid hB2
 obtain ⟨x0, n0, c0, e0⟩ : ∃ a n c, a0 = .slice a n c := by obtain ⟨a, c, h, -⟩ := h1.i; exact ⟨a, N, c, h⟩
 obtain ⟨y0, m0, k0, f0⟩ : ∃ a n c, b0 = .slice a n c := by obtain ⟨a, c, h, -⟩ := h2.i; exact ⟨a, N', c, h⟩
 obtain ⟨x1, n1, c1, e1⟩ := h1.q1.sl
 obtain ⟨x2, n2, c2, e2⟩ := h1.q2.sl
 obtain ⟨x3, n3, c3, e3⟩ := h1.q3.sl
 obtain ⟨y1, m1, k1, f1⟩ := h2.q1.sl
 obtain ⟨y2, m2, k2, f2⟩ := h2.q2.sl
 obtain ⟨y3, m3, k3, f3⟩ := h2.q3.sl
 subst e0 f0 e1 e2 e3 f1 f2 f3
 clear h1 h2 hB1 hB2
 go_enter Tryz.func12, Tryz.ntmps12
 go_upto_region 1 with fail
 simp only [World.size_alloc] at *
 generalize ((w.alloc (.cells #[.slice x0 n0 c0, .slice x1 n1 c1, .slice x2 n2 c2, .slice x3 n3 c3] 26)).alloc (.cells #[.slice y0 m0 k0, .slice y1 m1 k1, .slice y2 m2 k2, .slice y3 m3 k3] 26)) = w2 at *
 generalize w.heap.size + 1 = gb at *
 have hgal := hat_lt hga
 have hgbl := hat_lt hgb
 go_wp2_with fail
 refine (sectors_any H1.out.i H2.out.i (by have := H1.out.n0; omega)).mono ?_; rintro e w3 ⟨b, rfl, hb, hf⟩
 have hga3 := (hf.block _ hgal (by simp)).trans hga
 have hgb3 := (hf.block _ hgbl (by simp)).trans hgb
 have HB3 := Lib.hid (HB2.out.trans (hf.below HB2.out.size (by simp)))
 have H13 := Lib.hid (H1.out.same hf)
 have H23 := Lib.hid (H2.out.same hf)
 have hgal3 := hat_lt hga3
 have hgbl3 := hat_lt hgb3
 have HBB := Lib.hid hb
 clear hf hga hgb hgal hgbl hb
 cases b with
 | false =>
  go_wp2_with fail
  go_ret
  exact ⟨false, rfl, ⟨fun h => (by cases h), fun h => HBB.out.2 h.1⟩, HB3.out⟩
 | true =>
  go_wp2_with fail
  refine (ints_any H13.out.q1 H23.out.q1 H13.out.n1 H23.out.n1).mono ?_; rintro e w4 ⟨rfl, hf⟩
  have hga4 := (hf.block _ hgal3 (by simp)).trans hga3
  have hgb4 := (hf.block _ hgbl3 (by simp)).trans hgb3
  have HB4 := Lib.hid (HB3.out.trans (hf.below HB3.out.size (by simp)))
  have H14 := Lib.hid (H13.out.same hf)
  have H24 := Lib.hid (H23.out.same hf)
  have hgal4 := hat_lt hga4
  have hgbl4 := hat_lt hgb4
  clear hf hga3 hgb3 hgal3 hgbl3
  cases d1 : decide (xs = xs') with
  | false =>
   have HD := Lib.hid (of_decide_eq_false d1)
   clear d1
   go_wp2_with fail
   go_ret
   exact ⟨false, rfl, ⟨fun h => (by cases h), fun h => absurd h.2.1 HD.out⟩, HB4.out⟩
  | true =>
   have HD := Lib.hid (of_decide_eq_true d1)
   clear d1
   go_wp2_with fail
   refine (ints_any H14.out.q2 H24.out.q2 H14.out.n2 H24.out.n2).mono ?_; rintro e w5 ⟨rfl, hf⟩
   have hga5 := (hf.block _ hgal4 (by simp)).trans hga4
   have hgb5 := (hf.block _ hgbl4 (by simp)).trans hgb4
   have HB5 := Lib.hid (HB4.out.trans (hf.below HB4.out.size (by simp)))
   have H15 := Lib.hid (H14.out.same hf)
   have H25 := Lib.hid (H24.out.same hf)
   have hgal5 := hat_lt hga5
   have hgbl5 := hat_lt hgb5
   clear hf hga4 hgb4 hgal4 hgbl4
   cases d2 : decide (ys = ys') with
   | false =>
    have HE := Lib.hid (of_decide_eq_false d2)
    clear d2
    go_wp2_with fail
    go_ret
    exact ⟨false, rfl, ⟨fun h => (by cases h), fun h => absurd h.2.2.1 HE.out⟩, HB5.out⟩
   | true =>
    have HE := Lib.hid (of_decide_eq_true d2)
    clear d2
    go_wp2_with fail
    refine (ints_any H15.out.q3 H25.out.q3 H15.out.n3 H25.out.n3).mono ?_; rintro e w6 ⟨rfl, hf⟩
    have HB6 := Lib.hid (HB5.out.trans (hf.below HB5.out.size (by simp)))
    clear hf hga5 hgb5 hgal5 hgbl5
    cases d3 : decide (zs = zs') with
    | false =>
     have HG := Lib.hid (of_decide_eq_false d3)
     clear d3
     go_wp2_with fail
     go_ret
     exact ⟨false, rfl, ⟨fun h => (by cases h), fun h => absurd h.2.2.2 HG.out⟩, HB6.out⟩
    | true =>
     have HG := Lib.hid (of_decide_eq_true d3)
     clear d3
     go_wp2_with fail
     go_ret
     exact ⟨true, rfl, ⟨fun _ => ⟨HBB.out.1 (by first | rfl | trivial), HD.out, HE.out, HG.out⟩, fun _ => rfl⟩, HB6.out⟩
theorem keysN_len (n : Nat) (s : Int → Bool) : (keysN n s).length ≤ n := by
 unfold keysN
 simp only [List.length_map]
 exact Nat.le_trans (List.length_filter_le _ _) (by simp)
theorem writeL_len {N : Nat} (Y : Int) (W S : Nat → List Int) (fm : Int → Bool) : (writeL N Y W S fm).length ≤ N := by
 have hl := (List.Nodup.length_le_of_subset (l₂ := (List.range N).map (fun (i : Nat) => (i : Int))) (writeL_nodup N Y W S fm) (fun x hx => by
  obtain ⟨j, rfl⟩ := writeL_nat hx
  exact List.mem_map.2 ⟨j, List.mem_range.2 (mem_writeL.1 hx).1, rfl⟩))
 simpa using hl
theorem lookLooks_any {v : Value} {N : Nat} {S : Nat → List Int} {w : World} (h : Img w v N S) :
  Calls Tryz.prog 3 #[v] w fun e w' => e = .returned (.bool true) ∧ Below w.heap.size w w' := by
 have HI := Lib.hid h.zero
 obtain ⟨av, ci, rfl, -, -, hsec⟩ := h
 clear hsec
 go_enter Tryz.func3, Tryz.ntmps3
 go_wp2_with fail
 refine (known12_true _).mono ?_; rintro e w1 ⟨rfl, hb1⟩
 have HI1 := Lib.hid (HI.out.same (fr_below hb1 []))
 have HB1 := Lib.hid hb1
 clear hb1
 go_wp2_with fail
 refine (look_all0 HI1.out).mono ?_; rintro e w2 ⟨hb2, hor⟩
 have HB2 := Lib.hid (below_call HB1.out hb2 HB1.out.size)
 have HI2 := Lib.hid (HI1.out.same (fr_below hb2 []))
 clear hb2
 rcases hor with ⟨he, hout⟩ | ⟨hne, rfl⟩
 ·obtain ⟨h8, hN9, -⟩ := lookE_ok he
  obtain ⟨gw, cw, v1, v2, v3, o1, o2, o3, rfl, k1, k2, k3, k4, k5, k6, k7⟩ := hout
  have hwl := writeL_len (N := N) (rdSupR (S 0)).2.1 (repS (rdSupR (S 0)).2.1 (lookZ N (rdSupR (S 0)).2.1 S)) S (lookZ N (rdSupR (S 0)).2.1 S).st.fm
  have hkt := keysN_len 4096 (fun p => ((lookZ N (rdSupR (S 0)).2.1 S).T p.toNat).isSome)
  have hkc := keysN_len 4096 (lookZ N (rdSupR (S 0)).2.1 S).st.cl
  change (keysL _).length ≤ _ at hkt hkc
  obtain ⟨a1, n1, c1, rfl⟩ := k2.sl
  obtain ⟨a2, n2, c2, rfl⟩ := k3.sl
  obtain ⟨a3, n3, c3, rfl⟩ := k4.sl
  have HRP : Hid (RepV w2 (.slice (some ⟨gw, 0, none⟩) N cw) (.slice a1 n1 c1) (.slice a2 n2 c2) (.slice a3 n3 c3) o1 o2 o3 N (repS (rdSupR (S 0)).2.1 (lookZ N (rdSupR (S 0)).2.1 S)) (writeL N (rdSupR (S 0)).2.1 (repS (rdSupR (S 0)).2.1 (lookZ N (rdSupR (S 0)).2.1 S)) S (lookZ N (rdSupR (S 0)).2.1 S).st.fm) (keysL fun p => ((lookZ N (rdSupR (S 0)).2.1 S).T p.toNat).isSome) (keysL (lookZ N (rdSupR (S 0)).2.1 S).st.cl)) := Lib.hid ⟨img0_of k1, k2, k3, k4, by omega, by omega, by omega, by omega⟩
  have HLEN := Lib.hid (show _ ∧ _ ∧ _ from ⟨hwl, hkt, hkc⟩)
  have HE := Lib.hid he
  clear k1 k2 k3 k4 k5 k6 k7 he hwl hkt hkc
  have hB3 : Below w2.heap.size w2 (w2.alloc (.cells #[.slice (some ⟨gw, 0, none⟩) N cw, .slice a1 n1 c1, .slice a2 n2 c2, .slice a3 n3 c3] 26)) := (Below.refl _ _).alloc (Nat.le_refl _) _
  have hg3 := (hopN w2 (.cells #[.slice (some ⟨gw, 0, none⟩) N cw, .slice a1 n1 c1, .slice a2 n2 c2, .slice a3 n3 c3] 26)).1
  have HB3 := Lib.hid (below_call HB2.out hB3 HB2.out.size)
  have HI3 := Lib.hid (HI2.out.same (fr_below hB3 []))
  have HRP3 := Lib.hid (HRP.out.same (fr_below hB3 []))
  clear hB3 HI HI1 HI2 HB1 HB2 HRP
  go_upto_region 5 with fail
  generalize w2.heap.size = g3 at *
  generalize w2.alloc (.cells #[.slice (some ⟨gw, 0, none⟩) N cw, .slice a1 n1 c1, .slice a2 n2 c2, .slice a3 n3 c3] 26) = w3 at *
  go_wp2_with fail
  refine (rlook_all0 HI3.out).mono ?_; rintro e w4 ⟨hb4, hor⟩
  have hg4 := (hop hb4 hg3).1
  have HB4 := Lib.hid (below_call HB3.out hb4 HB3.out.size)
  have HRP4 := Lib.hid (HRP3.out.same (fr_below hb4 []))
  rcases hor with ⟨-, hout⟩ | ⟨hne, -⟩
  rotate_left
  ·exact absurd HE.out hne
  obtain ⟨gw', cw', v1, v2, v3, p1, p2, p3, rfl, k1, k2, k3, k4, -, -⟩ := hout
  obtain ⟨b1, m1, d1, rfl⟩ := k2.sl
  obtain ⟨b2, m2, d2, rfl⟩ := k3.sl
  obtain ⟨b3, m3, d3, rfl⟩ := k4.sl
  have HRQ : Hid (RepV w4 (.slice (some ⟨gw', 0, none⟩) N cw') (.slice b1 m1 d1) (.slice b2 m2 d2) (.slice b3 m3 d3) p1 p2 p3 N (repS (rdSupR (S 0)).2.1 (lookZ N (rdSupR (S 0)).2.1 S)) (writeL N (rdSupR (S 0)).2.1 (repS (rdSupR (S 0)).2.1 (lookZ N (rdSupR (S 0)).2.1 S)) S (lookZ N (rdSupR (S 0)).2.1 S).st.fm) (keysL fun p => ((lookZ N (rdSupR (S 0)).2.1 S).T p.toNat).isSome) (keysL (lookZ N (rdSupR (S 0)).2.1 S).st.cl)) := Lib.hid ⟨img0_of k1, k2, k3, k4, by omega, by have := HLEN.out; omega, by have := HLEN.out; omega, by have := HLEN.out; omega⟩
  have hB5 : Below w4.heap.size w4 (w4.alloc (.cells #[.slice (some ⟨gw', 0, none⟩) N cw', .slice b1 m1 d1, .slice b2 m2 d2, .slice b3 m3 d3] 26)) := (Below.refl _ _).alloc (Nat.le_refl _) _
  have hg5 := (hopN w4 (.cells #[.slice (some ⟨gw', 0, none⟩) N cw', .slice b1 m1 d1, .slice b2 m2 d2, .slice b3 m3 d3] 26)).1
  have hg45 := (hop hB5 hg4).1
  have HB5 := Lib.hid (below_call HB4.out hB5 HB4.out.size)
  have HRP5 := Lib.hid (HRP4.out.same (fr_below hB5 []))
  have HRQ5 := Lib.hid (HRQ.out.same (fr_below hB5 []))
  clear hb4 k1 k2 k3 k4 hB5 hg3 hg4 HRP3 HRP4 HRQ HI3 HB3 HB4 HLEN
  go_upto_region 6 with fail
  generalize w4.heap.size = g5 at *
  generalize w4.alloc (.cells #[.slice (some ⟨gw', 0, none⟩) N cw', .slice b1 m1 d1, .slice b2 m2 d2, .slice b3 m3 d3] 26) = w5 at *
  have hg5l := hat_lt hg5
  have hg45l := hat_lt hg45
  have HC := Lib.hid (same_any HRP5.out HRQ5.out)
  go_wp2_with fail
  refine HC.out.mono ?_; rintro e w6 ⟨b, rfl, hb, hb6⟩
  obtain rfl : b = true := hb.2 ⟨⟨rfl, fun _ _ => rfl⟩, rfl, rfl, rfl⟩
  have HB6 := Lib.hid (below_call HB5.out hb6 HB5.out.size)
  clear hb hb6
  go_wp2_with fail
  go_ret
  exact ⟨rfl, HB6.out⟩
 ·have HNE := Lib.hid hne
  obtain ⟨er, her⟩ : ∃ er, lookE N S = er := ⟨_, rfl⟩
  rw [her]
  have HER := Lib.hid her
  clear hne her
  have hB3 : Below w2.heap.size w2 (w2.alloc (.cells repNil 26)) := (Below.refl _ _).alloc (Nat.le_refl _) _
  have hg3 := (hopN w2 (.cells repNil 26)).1
  have HB3 := Lib.hid (below_call HB2.out hB3 HB2.out.size)
  have HI3 := Lib.hid (HI2.out.same (fr_below hB3 []))
  unfold repNil at hg3 HI3 HB3 ⊢
  clear hB3 HI HI1 HI2 HB1 HB2
  go_upto_region 5 with fail
  generalize w2.heap.size = g3 at *
  generalize w2.alloc (.cells #[.slice none 0 0, .slice none 0 0, .slice none 0 0, .slice none 0 0] 26) = w3 at *
  go_wp2_with fail
  refine (rlook_all0 HI3.out).mono ?_; rintro e w4 ⟨hb4, hor⟩
  have hg4 := (hop hb4 hg3).1
  have HB4 := Lib.hid (below_call HB3.out hb4 HB3.out.size)
  rcases hor with ⟨h0, -⟩ | ⟨-, rfl⟩
  ·exact absurd h0 HNE.out
  rw [HER.out]
  have hB5 : Below w4.heap.size w4 (w4.alloc (.cells repNil 26)) := (Below.refl _ _).alloc (Nat.le_refl _) _
  have hg5 := (hopN w4 (.cells repNil 26)).1
  have hg45 := (hop hB5 hg4).1
  have HB5 := Lib.hid (below_call HB4.out hB5 HB4.out.size)
  unfold repNil at hg5 hg45 HB5 ⊢
  clear hb4 hB5 hg3 hg4 HI3 HB3 HB4
  go_upto_region 6 with fail
  generalize w4.heap.size = g5 at *
  generalize w4.alloc (.cells #[.slice none 0 0, .slice none 0 0, .slice none 0 0, .slice none 0 0] 26) = w5 at *
  have hg5l := hat_lt hg5
  have hg45l := hat_lt hg45
  have HC := Lib.hid (same_any (repV_nil w5 S) (repV_nil w5 S))
  go_wp2_with fail
  refine HC.out.mono ?_; rintro e w6 ⟨b, rfl, hb, hb6⟩
  obtain rfl : b = true := hb.2 ⟨⟨rfl, fun _ _ => rfl⟩, rfl, rfl, rfl⟩
  have HB6 := Lib.hid (below_call HB5.out hb6 HB5.out.size)
  clear hb hb6
  go_wp2_with fail
  go_ret
  exact ⟨rfl, HB6.out⟩
end Go.Proofs.YthioepdgnbdohaaGreat
