/- Contracts and laws that the claim leans on, laid together in the order in which they build. -/
import Derived.Test.YthioepdgnbdohaaM05

/- The looker: what lies in the world between two steps. -/
namespace Go.Proofs.Ythioepdgnbdohaa
set_option linter.unusedSimpArgs false
set_option linter.unusedVariables false
open Go.RowKit

/-- a look's blocks -/
structure WE where
  E : Env
  (gr gi oi ci G0 : Nat)
  IMG : Nat → List Int
def mineW (V : WE) (ob : Option Nat) : List Nat := [V.E.gl, V.E.gw, V.E.bc, V.E.bf, V.E.bt, V.gr] ++ ob.toList
/-- the block k is none of those that steps turn -/
def Apart (V : WE) (ob : Option Nat) (B : Nat → Option (Nat × Nat)) (k : Nat) : Prop := k ∉ mineW V ob ∧ ∀ i v, B i = some v → v.1 ≠ k ∧ v.2 ≠ k
structure LW (V : WE) (ob : Option Nat) (B : Nat → Option (Nat × Nat)) (z : LZ) (w : World) : Prop where
  e0 : EOk0 V.E
  qo : QOk V.E V.gr ob
  img : V.E.img = .slice (some ⟨V.gi, V.oi, none⟩) V.E.N V.ci
  secs : Secs w V.gi V.oi V.E.N V.IMG
  gi0 : V.gi < V.G0
  lo : ∀ k ∈ mineW V ob, V.G0 ≤ k
  sz : V.G0 ≤ w.heap.size
  small : V.E.Y < V.E.N
  k : LK0 V.E w z.st
  pb : ∃ tk, PB w V.E.bt tk ∧ ∀ i : Nat, tk (i : Int) = (B i).map Prod.fst
  no : ∀ i, B i = none → z.T i = none
  yes : ∀ i v, B i = some v → ∃ t, z.T i = some t ∧ hat w v.1 = some (.cells (inC t.raw t.en v.2) 60) ∧ IB w v.2 t.bk ∧ V.G0 ≤ v.1 ∧ V.G0 ≤ v.2 ∧ v.1 ∉ mineW V ob ∧ v.2 ∉ mineW V ob
  inj : ∀ i j v u, B i = some v → B j = some u → i ≠ j → v.1 ≠ u.1
  q : QVar w V.gr ob z.q
  zi : ZI V.E.X V.E.Y z
/-- what a step leaves alone -/
structure Moved (V : WE) (but : List Nat) (ob : Option Nat) (B : Nat → Option (Nat × Nat)) (w : World) (ob' : Option Nat) (B' : Nat → Option (Nat × Nat)) (w' : World) : Prop where
  os : w'.os = w.os
  tape : w'.tape = w.tape
  output : w'.output = w.output
  size : w.heap.size ≤ w'.heap.size
  ext : ∀ i v, B i = some v → B' i = some v
  apart : ∀ k, k < w.heap.size → Apart V ob B k → Apart V ob' B' k
  block : ∀ k, k < w.heap.size → Apart V ob B k → k ∉ but → hat w' k = hat w k
theorem Moved.refl (V : WE) (but : List Nat) (ob : Option Nat) (B : Nat → Option (Nat × Nat)) (w : World) : Moved V but ob B w ob B w := ⟨rfl, rfl, rfl, Nat.le_refl _, fun _ _ h => h, fun _ _ h => h, fun _ _ _ _ => rfl⟩
theorem Moved.trans {V : WE} {but : List Nat} {o1 o2 o3 : Option Nat} {B1 B2 B3 : Nat → Option (Nat × Nat)} {w1 w2 w3 : World} (h : Moved V but o1 B1 w1 o2 B2 w2) (h2 : Moved V but o2 B2 w2 o3 B3 w3) : Moved V but o1 B1 w1 o3 B3 w3 :=
  ⟨h2.os.trans h.os, h2.tape.trans h.tape, h2.output.trans h.output, Nat.le_trans h.size h2.size, fun i v hv => h2.ext i v (h.ext i v hv), fun k hk ha => h2.apart k (Nat.lt_of_lt_of_le hk h.size) (h.apart k hk ha),
    fun k hk ha hn => (h2.block k (Nat.lt_of_lt_of_le hk h.size) (h.apart k hk ha) hn).trans (h.block k hk ha hn)⟩
theorem Moved.but {V : WE} {but but' : List Nat} {o1 o2 : Option Nat} {B1 B2 : Nat → Option (Nat × Nat)} {w1 w2 : World} (h : Moved V but o1 B1 w1 o2 B2 w2) (hs : ∀ k ∈ but, k ∈ but') : Moved V but' o1 B1 w1 o2 B2 w2 :=
  ⟨h.os, h.tape, h.output, h.size, h.ext, h.apart, fun k hk ha hn => h.block k hk ha fun hm => hn (hs k hm)⟩
/-- blocks that came to be since w0 need not be named -/
theorem Moved.from {V : WE} {but : List Nat} {o1 o2 : Option Nat} {B1 B2 : Nat → Option (Nat × Nat)} {w0 w1 w2 : World} (hf : Fr [] w0 w1) (h : Moved V but o1 B1 w1 o2 B2 w2) (but' : List Nat) (hs : ∀ k ∈ but, k ∈ but' ∨ w0.heap.size ≤ k) : Moved V but' o1 B1 w0 o2 B2 w2 :=
  ⟨h.os.trans hf.os, h.tape.trans hf.tape, h.output.trans hf.output, Nat.le_trans hf.size h.size, h.ext, fun k hk ha => h.apart k (Nat.lt_of_lt_of_le hk hf.size) ha,
    fun k hk ha hn => (h.block k (Nat.lt_of_lt_of_le hk hf.size) ha fun hm => by
      rcases hs k hm with h | h
      · exact hn h
      · omega).trans (hf.block k hk (by simp))⟩
theorem Moved.of {V : WE} {but ex : List Nat} {ob : Option Nat} {B : Nat → Option (Nat × Nat)} {w w' : World} (h : Fr ex w w') (hs : ∀ k ∈ ex, k ∈ but ∨ ¬ Apart V ob B k) : Moved V but ob B w ob B w' :=
  ⟨h.os, h.tape, h.output, h.size, fun _ _ h => h, fun _ _ h => h, fun k hk ha hn => h.block k hk fun hm => by
    rcases hs k hm with h | h
    · exact hn h
    · exact h ha⟩
theorem Apart.low {V : WE} {ob : Option Nat} {B : Nat → Option (Nat × Nat)} {z : LZ} {w : World} (h : LW V ob B z w) {k : Nat} (hk : k < V.G0) : Apart V ob B k :=
  ⟨fun hm => by have := h.lo k hm; omega, fun i v hv => by
    obtain ⟨t, -, -, -, h1, h2, -⟩ := h.yes i v hv
    omega⟩
theorem Moved.below {V : WE} {but : List Nat} {o1 o2 : Option Nat} {B1 B2 : Nat → Option (Nat × Nat)} {z : LZ} {w1 w2 : World} (h : Moved V but o1 B1 w1 o2 B2 w2) (hl : LW V o1 B1 z w1) (hb : ∀ k ∈ but, V.G0 ≤ k) : Below V.G0 w1 w2 :=
  ⟨h.os, h.tape, h.output, h.size, fun k hk => h.block k (Nat.lt_of_lt_of_le hk hl.sz) (Apart.low hl hk) fun hm => by have := hb k hm; omega⟩
theorem IB.map {w : World} {b : Nat} {f : Int → Option Int} (h : IB w b f) : ∃ es clock, hat w b = some (.map es clock) := by
  obtain ⟨⟨D, ⟨es, clock, hb, -⟩, -⟩, -⟩ := h
  exact ⟨es, clock, hb⟩
theorem LW.cross {V : WE} {ob : Option Nat} {B : Nat → Option (Nat × Nat)} {z : LZ} {w : World} (h : LW V ob B z w) {i j : Nat} {v u : Nat × Nat} (hi : B i = some v) (hj : B j = some u) : v.1 ≠ u.2 := by
  obtain ⟨t, -, h1, -⟩ := h.yes i v hi
  obtain ⟨t', -, -, h2, -⟩ := h.yes j u hj
  obtain ⟨es, clock, h3⟩ := h2.map
  intro e
  rw [e, h3] at h1
  cases h1
theorem LW.mlt {V : WE} {ob : Option Nat} {B : Nat → Option (Nat × Nat)} {z : LZ} {w : World} (h : LW V ob B z w) : ∀ k ∈ mineW V ob, k < w.heap.size := by
  intro k hk
  unfold mineW at hk
  have hw := h.k.want
  obtain ⟨cs, hw1, -⟩ := hw
  obtain ⟨tk, hpb, -⟩ := h.pb
  simp only [List.cons_append, List.nil_append, List.mem_cons] at hk
  rcases hk with rfl | rfl | rfl | rfl | rfl | rfl | hk
  · exact hat_lt h.k.look
  · exact hat_lt hw1
  · exact h.k.claim.lt
  · exact h.k.firm.lt
  · exact hpb.lt
  · exact h.q.lt
  · cases hob : ob with
    | none => rw [hob] at hk; cases hk
    | some g =>
      rw [hob] at hk
      simp at hk
      subst hk
      exact h.q.blt _ hob
theorem LW.fr {V : WE} {ob : Option Nat} {B : Nat → Option (Nat × Nat)} {z : LZ} {w w' : World} {ex : List Nat} (h : LW V ob B z w) (hf : Fr ex w w') (hs : ∀ k ∈ ex, Apart V ob B k ∧ V.G0 ≤ k) : LW V ob B z w' := by
  have hm : ∀ k ∈ mineW V ob, k ∉ ex := fun k hk hx => (hs k hx).1.1 hk
  have hgi : V.gi ∉ ex := fun hx => by have := (hs _ hx).2; have := h.gi0; omega
  obtain ⟨tk, hpb, htk⟩ := h.pb
  refine ⟨h.e0, h.qo, h.img, h.secs.same (hf.block _ h.secs.lt hgi), h.gi0, h.lo, Nat.le_trans h.sz hf.size, h.small, h.k.fr hf (hm _ (by simp [mineW])) (hm _ (by simp [mineW])) (hm _ (by simp [mineW])) (hm _ (by simp [mineW])),
    ⟨tk, hpb.same (hf.block _ hpb.lt (hm _ (by simp [mineW]))), htk⟩, h.no, fun i v hv => ?_, h.inj, h.q.fr hf (hm _ (by simp [mineW])) (fun g hg => hm _ (by simp [mineW, hg])), h.zi⟩
  obtain ⟨t, h1, h2, h3, h4⟩ := h.yes i v hv
  exact ⟨t, h1, (hf.block _ (hat_lt h2) (fun hx => ((hs _ hx).1.2 i v hv).1 rfl)).trans h2, h3.same (hf.block _ h3.lt (fun hx => ((hs _ hx).1.2 i v hv).2 rfl)), h4⟩
def updB (B : Nat → Option (Nat × Nat)) (i : Nat) (v : Nat × Nat) : Nat → Option (Nat × Nat) := fun j => if j = i then some v else B j
/-- entries are counted -/
theorem inC_en {raw : List Int} (h : raw.length = 18) (en n : Int) (bx : Nat) : (inC raw en bx).setIfInBounds 18 (.int .i64 n) = inC raw n bx := by
  obtain ⟨a0, a1, a2, a3, a4, a5, a6, a7, a8, a9, b0, b1, b2, b3, b4, b5, b6, b7, rfl⟩ := list_18 h
  simp [inC, Array.setIfInBounds]
theorem inC_18 {raw : List Int} (h : raw.length = 18) (en : Int) (bx : Nat) : (inC raw en bx)[18]? = some (.int .i64 en) := by
  unfold inC
  rw [List.getElem?_toArray, List.getElem?_append_right (by simp [h]), List.length_map, h]
  rfl
theorem LW.en {V : WE} {ob : Option Nat} {B : Nat → Option (Nat × Nat)} {z : LZ} {w : World} (h : LW V ob B z w) {i : Nat} {v : Nat × Nat} {t : TI} (hB : B i = some v) (ht : z.T i = some t) {n : Int} (h0 : 0 ≤ n) (h1 : n ≤ 100) :
    LW V ob B { z with T := updT z.T i { t with en := n } } (w.setCell ⟨v.1, 18, none⟩ (.int .i64 n)) := by
  have hf : Fr [v.1] w (w.setCell ⟨v.1, 18, none⟩ (.int .i64 n)) := fr_setCell _ _ _ _
  obtain ⟨t', ht', hg, hb, l1, l2, n1, n2⟩ := h.yes i v hB
  rw [ht] at ht'
  cases ht'
  have hm : ∀ k ∈ mineW V ob, k ∉ [v.1] := fun k hk hx => by
    rw [List.mem_singleton] at hx
    subst hx; exact n1 hk
  have hgi : V.gi ∉ [v.1] := fun hx => by
    rw [List.mem_singleton] at hx
    have := h.gi0; omega
  obtain ⟨tk, hpb, htk⟩ := h.pb
  have hl := (h.zi.t i t ht).2.2.1
  refine ⟨h.e0, h.qo, h.img, h.secs.same (hf.block _ h.secs.lt hgi), h.gi0, h.lo, Nat.le_trans h.sz hf.size, h.small, h.k.fr hf (hm _ (by simp [mineW])) (hm _ (by simp [mineW])) (hm _ (by simp [mineW])) (hm _ (by simp [mineW])),
    ⟨tk, hpb.same (hf.block _ hpb.lt (hm _ (by simp [mineW]))), htk⟩, fun j hj => ?_, fun j u hu => ?_, h.inj, h.q.fr hf (hm _ (by simp [mineW])) (fun g hg => hm _ (by simp [mineW, hg])), h.zi.en ht h0 h1⟩
  · show updT z.T i _ j = none
    unfold updT
    rw [if_neg (fun e => by subst e; rw [hB] at hj; cases hj)]
    exact h.no j hj
  · by_cases hji : j = i
    · subst hji
      rw [hB] at hu
      cases hu
      refine ⟨{ t with en := n }, by simp [updT], ?_, hb.same (hf.block _ hb.lt (fun hx => ?_)), l1, l2, n1, n2⟩
      · rw [hat_setCell_at _ _ _ _ _ _ _ hg, inC_en hl]
      · rw [List.mem_singleton] at hx
        exact h.cross hB hB hx.symm
    · obtain ⟨t', h1, h2, h3, h4⟩ := h.yes j u hu
      refine ⟨t', by show updT z.T i _ j = _; unfold updT; rw [if_neg hji]; exact h1, (hf.block _ (hat_lt h2) (fun hx => ?_)).trans h2, h3.same (hf.block _ h3.lt (fun hx => ?_)), h4⟩
      · rw [List.mem_singleton] at hx
        exact h.inj j i u v hu hB hji hx
      · rw [List.mem_singleton] at hx
        exact h.cross hB hu hx.symm
theorem updT_twice (T : Nat → Option TI) (i : Nat) (t t' : TI) : updT (updT T i t) i t' = updT T i t' := by
  funext j
  unfold updT
  split <;> rfl
theorem take_lw {V : WE} {ob : Option Nat} {B : Nat → Option (Nat × Nat)} {z : LZ} {w : World} (h : LW V ob B z w) (i : Nat) (raw : List Int) (hr : raw.length = 18) (h1 : 1 ≤ i) (hY : (i : Int) ≤ V.E.Y) (hB : B i = none)
    (hz0 : 0 ≤ nth raw 2) (hz1 : nth raw 2 ≤ 136704) (hpt : ∀ p ∈ raw.drop 4, 0 ≤ p ∧ p ≤ 4294967295) :
    Calls Try.prog 19 #[.pointer (some ⟨V.E.gl, 0, none⟩), .int .i64 i, .agg (IV .i64 raw)] w fun e w' => e = .returned (.tuple #[]) ∧ ∃ ob' B' v, LW V ob' B' (takeZ V.E.X V.E.Y i raw 0 z) w' ∧ Moved V [] ob B w ob' B' w' ∧ B' i = some v := by
  obtain ⟨tk, hpb, htk⟩ := h.pb
  have hN := h.e0.small
  have hX := h.e0.size
  have hsm := h.small
  have hi : i < 4096 := by omega
  have hql : z.q.length ≤ 100000 := by
    have := h.zi.pot
    unfold potZ at this
    omega
  refine (take_any h.e0 i raw z.st tk w V.gr ob z.q h.qo h.q hql h.k hpb hr hi hz0 hz1 hpt).mono ?_
  rintro e w' ⟨rfl, gx, bx, ob', T⟩
  refine ⟨rfl, ob', updB B i (gx, bx), (gx, bx), ?_, ?_, by simp [updB]⟩
  · have hml := h.mlt
    have hex : ∀ k, k ∈ [V.E.bc, V.E.gw, V.E.bf, V.E.bt, V.gr] ++ ob.toList → k ∈ mineW V ob := by
      intro k hk
      unfold mineW
      simp only [List.cons_append, List.nil_append, List.mem_cons] at hk ⊢
      rcases hk with h | h | h | h | h | h <;> simp [h]
    have g0 := T.gx0
    have b0 := T.bx0
    have hsz := h.sz
    have hgi : V.gi ∉ [V.E.bc, V.E.gw, V.E.bf, V.E.bt, V.gr] ++ ob.toList := fun hx => by have := h.lo _ (hex _ hx); have := h.gi0; omega
    have hob' : ∀ g, ob' = some g → g ∈ mineW V ob ∨ (w.heap.size ≤ g ∧ g ≠ gx ∧ g ≠ bx) := by
      intro g hg
      rcases T.o with ho | ⟨g', ho, ha, hb, hc⟩
      · rw [ho] at hg
        exact .inl (by simp [mineW, hg])
      · rw [ho] at hg
        cases hg
        exact .inr ⟨ha, hb, hc⟩
    have hmm : ∀ k, k ∈ mineW V ob' → k ∈ mineW V ob ∨ (w.heap.size ≤ k ∧ k ≠ gx ∧ k ≠ bx) := by
      intro k hk
      unfold mineW at hk
      rw [List.mem_append] at hk
      rcases hk with hk | hk
      · exact .inl (by unfold mineW; rw [List.mem_append]; exact .inl hk)
      · cases ho : ob' with
        | none => rw [ho] at hk; cases hk
        | some g =>
          rw [ho] at hk
          simp at hk
          subst hk
          exact hob' _ ho
    refine ⟨h.e0, ⟨h.qo.qf, h.qo.v, fun g hg => ?_⟩, h.img, h.secs.same (T.fr.block _ h.secs.lt hgi), h.gi0, fun k hk => ?_, Nat.le_trans h.sz T.fr.size, h.small, ⟨T.lk.look, T.lk.want, T.lk.claim, T.lk.firm⟩, ⟨putN tk i gx, T.tk, fun j => ?_⟩, fun j hj => ?_, fun j u hu => ?_, fun j k v u hv hu hne => ?_, T.q, ?_⟩
    · rcases T.o with ho | ⟨g', ho, ha, hb, hc⟩
      · exact h.qo.b g (by rw [← ho]; exact hg)
      · rw [ho] at hg
        cases hg
        intro hm
        have : g ∈ mineW V ob := by
          unfold mineW
          simp only [List.mem_cons, List.not_mem_nil, or_false] at hm
          rcases hm with h | h | h | h | h <;> simp [h]
        have := hml _ this
        omega
    · rcases hmm k hk with hk | hk
      · exact h.lo k hk
      · omega
    · unfold putN updB
      by_cases hji : j = i
      · subst hji; simp
      · rw [if_neg (by omega), if_neg hji]; exact htk j
    · unfold updB at hj
      split at hj
      · cases hj
      · rename_i hji
        show updT z.T i _ j = none
        unfold updT
        rw [if_neg hji]
        exact h.no j hj
    · unfold updB at hu
      split at hu
      · rename_i hji
        subst hji
        cases hu
        refine ⟨⟨(takeX V.E.X V.E.Y raw z.st).1, 0, (takeX V.E.X V.E.Y raw z.st).2.bk⟩, ?_, T.x, T.lk.blocks, by show V.G0 ≤ gx; omega, by show V.G0 ≤ bx; omega, fun hm => ?_, fun hm => ?_⟩
        · show updT z.T j _ j = _
          simp [updT]
        · rcases hmm _ hm with h3 | h3
          · have := hml _ h3; simp at this; omega
          · exact h3.2.1 rfl
        · rcases hmm _ hm with h3 | h3
          · have := hml _ h3; simp at this; omega
          · exact h3.2.2 rfl
      · rename_i hji
        obtain ⟨t, h1, h2, h3, h4, h5, h6, h7⟩ := h.yes j u hu
        refine ⟨t, ?_, (T.fr.block _ (hat_lt h2) (fun hm => h6 (hex _ hm))).trans h2, h3.same (T.fr.block _ h3.lt (fun hm => h7 (hex _ hm))), h4, h5, fun hm => ?_, fun hm => ?_⟩
        · show updT z.T i _ j = _
          unfold updT
          rw [if_neg hji]
          exact h1
        · rcases hmm _ hm with h8 | h8
          · exact h6 h8
          · have := hat_lt h2; omega
        · rcases hmm _ hm with h8 | h8
          · exact h7 h8
          · have := h3.lt; omega
    · unfold updB at hv hu
      split at hv
      · split at hu
        · omega
        · cases hv
          obtain ⟨t, -, h2, -⟩ := h.yes k u hu
          have := hat_lt h2
          show gx ≠ u.1
          omega
      · split at hu
        · cases hu
          obtain ⟨t, -, h2, -⟩ := h.yes j v hv
          have := hat_lt h2
          show v.1 ≠ gx
          omega
        · exact h.inj j k v u hv hu hne
    · exact h.zi.take h1 hY hi hr hz0 hz1 (by omega) (by omega) (h.no i hB)
  · have hml := h.mlt
    have g0 := T.gx0
    have b0 := T.bx0
    refine ⟨T.fr.os, T.fr.tape, T.fr.output, T.fr.size, fun j v hv => ?_, fun k hk ha => ⟨fun hm => ?_, fun j v hv => ?_⟩, fun k hk ha _ => T.fr.block k hk fun hm => ha.1 ?_⟩
    · unfold updB
      rw [if_neg (fun e => by subst e; rw [hB] at hv; cases hv)]
      exact hv
    · unfold mineW at hm
      rw [List.mem_append] at hm
      rcases hm with hm | hm
      · exact ha.1 (by unfold mineW; rw [List.mem_append]; exact .inl hm)
      · rcases T.o with ho | ⟨g', ho, hg, -⟩
        · rw [ho] at hm
          exact ha.1 (by unfold mineW; rw [List.mem_append]; exact .inr hm)
        · rw [ho] at hm
          simp at hm
          omega
    · unfold updB at hv
      split at hv
      · cases hv
        exact ⟨by show gx ≠ k; omega, by show bx ≠ k; omega⟩
      · exact ha.2 j v hv
    · unfold mineW
      simp only [List.cons_append, List.nil_append, List.mem_cons] at hm ⊢
      rcases hm with h | h | h | h | h | h <;> simp [h]
end Go.Proofs.Ythioepdgnbdohaa

/- The looker: an entry. -/
namespace Go.Proofs.Ythioepdgnbdohaa
set_option linter.unusedSimpArgs false
set_option linter.unusedVariables false
open Go.RowKit

theorem fr_alloc (w : World) (o : Obj) (ex : List Nat) : Fr ex w (w.alloc o) := fr_below ((Below.refl w.heap.size w).alloc (Nat.le_refl _) _) _
theorem LW.img4096 {V : WE} {ob : Option Nat} {B : Nat → Option (Nat × Nat)} {z : LZ} {w : World} (h : LW V ob B z w) : V.E.N ≤ 4096 ∧ (V.E.N : Int) = V.E.X := by
  have h1 := h.e0.small
  have h2 := h.e0.size
  omega
/-- the pointer of inode i -/
theorem LW.ptr {V : WE} {ob : Option Nat} {B : Nat → Option (Nat × Nat)} {z : LZ} {w : World} (h : LW V ob B z w) (i : Nat) (hi : i ≤ 4096) :
    (Instr.lookup 50 (.map (some V.E.bt)) (.int .i64 i) false).run Try.prog w = .ok (ptrOf ((B i).map Prod.fst)) w := by
  obtain ⟨tk, hpb, htk⟩ := h.pb
  rw [← htk i]
  exact hpb.1.look (i64_small (Int.natCast_nonneg _) (by omega))
set_option maxHeartbeats 4000000 in
set_option maxRecDepth 100000 in
theorem enter_no {V : WE} {ob : Option Nat} {B : Nat → Option (Nat × Nat)} {z : LZ} {w : World} (h : LW V ob B z w) (i : Nat) (nm : ByteArray) (hn : nm.size ≤ 40) (nb n : Nat) (names : ByteArray → Bool) (hnb : NB w nb n names) (hor : names nm = true ∨ i = 1) :
    Calls Try.prog 42 #[.pointer (some ⟨V.E.gl, 0, none⟩), .agg #[.int .i64 i, .string nm], .map (some nb)] w fun e w' => e = .returned (.bool false) ∧ Fr [] w w' := by
  have hlk := (hnb.same (hat_alloc_past w (.cells #[.int .i64 i, .string nm] 70) nb hnb.lt)).look hn
  clear hnb h
  cases hnm : names nm with
  | true =>
    rw [hnm] at hlk
    clear hor
    go_enter Try.func42, Try.ntmps42
    go_wp2_with fail
    go_ret
    exact ⟨rfl, fr_alloc _ _ _⟩
  | false =>
    rw [hnm] at hlk
    have h1 : i = 1 := by rcases hor with h | h; · rw [hnm] at h; cases h
                          · exact h
    have hi1 : ((i : Int) == 1) = true := by simp [h1]
    clear hor h1
    go_enter Try.func42, Try.ntmps42
    go_wp2_with fail
    go_ret
    exact ⟨rfl, fr_alloc _ _ _⟩
set_option maxHeartbeats 4000000 in
set_option maxRecDepth 100000 in
/-- it has been taken up -/
theorem enter_old {V : WE} {ob : Option Nat} {B : Nat → Option (Nat × Nat)} {z : LZ} {w : World} (h : LW V ob B z w) (i : Nat) (nm : ByteArray) (hn : nm.size ≤ 40) (nb n : Nat) (names : ByteArray → Bool) (hnb : NB w nb n names) (hnn : n < maxLen) (ha : Apart V ob B nb) (hg0 : V.G0 ≤ nb)
    (hnm : names nm = false) (hi1 : 1 < i) (hi : i < 4096) (v : Nat × Nat) (hB : B i = some v) (t : TI) (hT : z.T i = some t) :
    Calls Try.prog 42 #[.pointer (some ⟨V.E.gl, 0, none⟩), .agg #[.int .i64 i, .string nm], .map (some nb)] w fun e w' =>
      if nth t.raw 0 = 2 ∨ t.en = 100 then e = .returned (.bool false) ∧ Fr [] w w'
      else e = .returned (.bool true) ∧ LW V ob B { z with T := updT z.T i { t with en := t.en + 1 } } w' ∧ NB w' nb (n + 1) (addB names nm) ∧ Moved V [nb] ob B w ob B w' := by
  have hf0 : Fr [] w (w.alloc (.cells #[.int .i64 i, .string nm] 70)) := fr_alloc _ _ _
  have hlk := (hnb.same (hat_alloc_past w (.cells #[.int .i64 i, .string nm] 70) nb hnb.lt)).look hn
  rw [hnm] at hlk
  have hw0 := h.fr hf0 (by simp)
  have hp := (hw0.fr (fr_drew (Fr.refl [] _)) (by simp)).ptr i (by omega)
  rw [hB] at hp
  obtain ⟨gx, bx⟩ := v
  simp only [Option.map_some, ptrOf] at hp
  have hl := hw0.k.look
  unfold lkCells at hl
  have hsl : hat (w.alloc (.cells #[.int .i64 i, .string nm] 70)) w.heap.size = some (.cells #[.int .i64 i, .string nm] 70) := (hopN w _).1
  obtain ⟨t', ht', hgx, -⟩ := hw0.yes i _ hB
  rw [hT] at ht'
  obtain rfl : t = t' := by injection ht'
  obtain ⟨-, -, hrl, -, -, he0, he1, -⟩ := h.zi.t i t hT
  have k0 := inC_get hrl t.en bx (show 0 < 18 by omega)
  have k18 := inC_18 hrl t.en bx
  have hz8 := inC_size hrl t.en bx
  have hnb0 := (hnb.same (hat_alloc_past w (.cells #[.int .i64 i, .string nm] 70) nb hnb.lt))
  have hlts := hat_lt hsl
  have hnlt := hnb.lt
  have hne : w.heap.size ≠ nb := by omega
  simp only at hgx
  obtain ⟨w2, hr2, hm2, ht2⟩ := (show NB (w.alloc (.cells #[.int .i64 i, .string nm] 70)).drew nb n names from hnb0).put hnn hn
  have f2 : Fr [nb] (w.alloc (.cells #[.int .i64 i, .string nm] 70)) w2 := (fr_drew (Fr.refl _ _)).trans (fr_turned ht2)
  have hgx2 := (f2.block _ (hat_lt hgx) (by have := (ha.2 i _ hB).1; simpa using this)).trans hgx
  have hlw2 := hw0.fr f2 (fun k hk => by rw [List.mem_singleton] at hk; subst hk; exact ⟨ha, hg0⟩)
  have hi2 : ((i : Int) == 1) = false := by simp; omega
  generalize hc8 : inC t.raw t.en bx = c8 at hgx hgx2 k0 k18 hz8
  have j0 : ∀ h : 0 < c8.size, c8[0]'h = Value.int .i64 (nth t.raw 0) := fun h => by
    rw [Array.getElem?_eq_getElem h] at k0
    exact Option.some.inj k0
  have j18 : ∀ h : 18 < c8.size, c8[18]'h = Value.int .i64 t.en := fun h => by
    rw [Array.getElem?_eq_getElem h] at k18
    exact Option.some.inj k18
  have z0 : 0 < c8.size := by omega
  have z18 : 18 < c8.size := by omega
  have H := Lib.hid h
  have HM2 := Lib.hid hm2
  have HLW2 := Lib.hid hlw2
  have HF0 := Lib.hid (show Fr [] w (w.alloc (.cells #[.int .i64 i, .string nm] 70)).drew from fr_drew hf0)
  have HF := Lib.hid (hf0.mono (ex' := [nb]) (by simp) |>.trans f2)
  have HA := Lib.hid ha
  have hgxl := hat_lt hgx
  have hgxl2 := hat_lt hgx2
  clear h hnb hw0 hm2 hlw2 f2 hf0 ha k0 k18 hnb0 ht2
  by_cases HK : nth t.raw 0 = 2 ∨ t.en = 100
  · simp only [if_pos HK]
    go_enter Try.func42, Try.ntmps42
    go_wp2_with fail
    generalize hW0 : w.alloc (.cells #[.int .i64 i, .string nm] 70) = W0 at *
    clear hW0
    go_region
    cases hkd : (nth t.raw 0 == 2) with
    | true =>
      clear HK
      go_wp2_with fail
      go_ret
      exact ⟨rfl, HF0.out⟩
    | false =>
      have hen : (t.en == 100) = true := by
        rcases HK with h | h
        · rw [h] at hkd; cases hkd
        · simpa using h
      clear HK he0 he1
      go_wp2_with fail
      go_ret
      exact ⟨rfl, HF0.out⟩
  · simp only [if_neg HK]
    have hkd : (nth t.raw 0 == 2) = false := by simpa using fun h => HK (.inl h)
    have hen : (t.en == 100) = false := by simpa using fun h => HK (.inr h)
    have hen1 : t.en + 1 ≤ 100 := by have := fun h => HK (.inr h); omega
    clear HK
    go_enter Try.func42, Try.ntmps42
    go_wp2_with fail
    generalize hW0 : w.alloc (.cells #[.int .i64 i, .string nm] 70) = W0 at *
    clear hW0
    go_region
    go_wp2_with fail
    go_ret
    have ha := HA.out
    have hl2 := HLW2.out
    have hen2 := hl2.en hB hT (n := t.en + 1) (by omega) hen1
    have hnbx : nb ≠ gx := fun e => (ha.2 i _ hB).1 e.symm
    refine ⟨rfl, hen2, HM2.out.same ((fr_setCell w2 gx 18 _).block _ HM2.out.lt (by simpa using hnbx)), (Moved.of HF.out (by simp)).trans (Moved.of (fr_setCell w2 gx 18 _) (fun k hk => .inr fun hx => ?_))⟩
    rw [List.mem_singleton] at hk
    subst hk
    exact (hx.2 i _ hB).1 rfl
theorem ino_sound {s : List Int} (h : soundR s = true) : 0 ≤ nth (rdInoR s).1 2 ∧ nth (rdInoR s).1 2 ≤ 136704 ∧ ∀ p ∈ (rdInoR s).1.drop 4, 0 ≤ p ∧ p ≤ 4294967295 := by
  unfold soundR at h
  simp only [Bool.and_eq_true, decide_eq_true_eq, Bool.not_eq_true', decide_eq_false_iff_not] at h
  obtain ⟨h1, h2⟩ := h
  obtain ⟨h3, -⟩ := ino_one h1
  have hl := rdInoR_length s
  unfold InoMay at h3
  rw [if_neg h2] at h3
  obtain ⟨⟨-, -, h4, -⟩, h5, -⟩ := h3
  refine ⟨h4.1, h4.2, fun p hp => ?_⟩
  obtain ⟨j, hj⟩ := List.getElem?_of_mem hp
  rw [List.getElem?_drop] at hj
  have hlt := (List.getElem?_eq_some_iff.1 hj).1
  have := h5 (4 + j) (by omega) (by omega)
  have e : nth (rdInoR s).1 (4 + j) = p := by unfold nth; rw [hj]; rfl
  rw [e] at this
  exact this
theorem Apart.new {V : WE} {ob : Option Nat} {B : Nat → Option (Nat × Nat)} {z : LZ} {w : World} (h : LW V ob B z w) {k : Nat} (hk : w.heap.size ≤ k) : Apart V ob B k :=
  ⟨fun hm => by have := h.mlt k hm; omega, fun i v hv => by
    obtain ⟨t, -, h1, h2, -⟩ := h.yes i v hv
    have := hat_lt h1
    have := h2.lt
    omega⟩
set_option maxHeartbeats 4000000 in
set_option maxRecDepth 100000 in
/-- it has not yet been taken up -/
theorem enter_new {V : WE} {ob : Option Nat} {B : Nat → Option (Nat × Nat)} {z : LZ} {w : World} (h : LW V ob B z w) (i : Nat) (nm : ByteArray) (hn : nm.size ≤ 40) (nb n : Nat) (names : ByteArray → Bool) (hnb : NB w nb n names) (hnn : n < maxLen) (ha : Apart V ob B nb) (hg0 : V.G0 ≤ nb)
    (hnm : names nm = false) (hi1 : 1 < i) (hY : (i : Int) ≤ V.E.Y) (hB : B i = none) :
    Calls Try.prog 42 #[.pointer (some ⟨V.E.gl, 0, none⟩), .agg #[.int .i64 i, .string nm], .map (some nb)] w fun e w' =>
      if soundR (V.IMG i) = false then e = .returned (.bool false) ∧ Fr [] w w'
      else e = .returned (.bool true) ∧ ∃ ob' B', LW V ob' B' (takeZ V.E.X V.E.Y i (rdInoR (V.IMG i)).1 1 z) w' ∧ NB w' nb (n + 1) (addB names nm) ∧ Moved V [nb] ob B w ob' B' w' := by
  have hsm := h.small
  obtain ⟨hN4, hNX⟩ := h.img4096
  have hf0 : Fr [] w (w.alloc (.cells #[.int .i64 i, .string nm] 70)) := fr_alloc _ _ _
  have hlk := (hnb.same (hat_alloc_past w (.cells #[.int .i64 i, .string nm] 70) nb hnb.lt)).look hn
  rw [hnm] at hlk
  have hw0 := h.fr hf0 (by simp)
  have hp := (hw0.fr (fr_drew (Fr.refl [] _)) (by simp)).ptr i (by omega)
  rw [hB] at hp
  simp only [Option.map_none, ptrOf] at hp
  have hl := hw0.k.look
  have hsec := hw0.secs
  have HL := Lib.hid hl
  rw [h.img] at HL
  unfold lkCells at hl
  have hsl : hat (w.alloc (.cells #[.int .i64 i, .string nm] 70)) w.heap.size = some (.cells #[.int .i64 i, .string nm] 70) := (hopN w _).1
  have hnb0 := (hnb.same (hat_alloc_past w (.cells #[.int .i64 i, .string nm] 70) nb hnb.lt))
  have hlts := hat_lt hsl
  have hnlt := hnb.lt
  have hne : w.heap.size ≠ nb := by omega
  have hi2 : ((i : Int) == 1) = false := by simp; omega
  have hsa := Apart.new h (Nat.le_refl w.heap.size)
  have hlw0 := hw0
  have H := Lib.hid h
  have HLW0 := Lib.hid hlw0
  have HNB0 := Lib.hid hnb0
  have HSEC := Lib.hid hsec
  have HF0 := Lib.hid hf0
  have HA := Lib.hid ha
  have HSA := Lib.hid hsa
  have hrl := rdInoR_length (V.IMG i)
  have HSND := Lib.hid (fun hs : soundR (V.IMG i) = true => ino_sound hs)
  clear h hnb hw0 hf0 ha hnb0 hlw0 hsec hsa
  cases hs : soundR (V.IMG i) with
  | false =>
    simp only [if_true]
    go_enter Try.func42, Try.ntmps42
    go_wp2_with fail
    generalize hW0 : w.alloc (.cells #[.int .i64 i, .string nm] 70) = W0 at *
    clear hW0
    go_region
    go_wp2_with fail
    refine (sound_yes V.E.X V.E.Y V.E.qf V.gi V.oi V.E.N V.ci V.IMG V.E.gl V.E.gw V.E.N V.E.cw V.E.bc V.E.bt V.E.bf i W0.drew HL.out (HSEC.out.same rfl) (by omega) hY hsm hN4).mono ?_; rintro e w2 ⟨rfl, hb2⟩
    generalize hraw : (rdInoR (V.IMG i)).1 = raw at *
    have HRAW := Lib.hid hraw
    clear hraw
    have hf2 : Fr [] W0 w2 := (fr_drew (Fr.refl [] _)).trans (fr_below hb2 [])
    have hsl2 := (hf2.block _ (hat_lt hsl) (by simp)).trans hsl
    have hl2 := (hf2.block _ (hat_lt hl) (by simp)).trans hl
    have hsl2l := hat_lt hsl2
    have hl2l := hat_lt hl2
    have HF2 := Lib.hid hf2
    clear hp hlk hb2 hf2
    rw [hs]
    go_wp2_with fail
    go_ret
    exact ⟨rfl, (HF0.out.trans HF2.out).trans (fr_alloc _ _ _)⟩
  | true =>
    simp only [reduceCtorEq, if_false]
    obtain ⟨hz0, hz1, hpt⟩ := HSND.out hs
    have HPT := Lib.hid hpt
    clear HSND hpt
    go_enter Try.func42, Try.ntmps42
    go_wp2_with fail
    generalize hW0 : w.alloc (.cells #[.int .i64 i, .string nm] 70) = W0 at *
    clear hW0
    go_region
    go_wp2_with fail
    refine (sound_yes V.E.X V.E.Y V.E.qf V.gi V.oi V.E.N V.ci V.IMG V.E.gl V.E.gw V.E.N V.E.cw V.E.bc V.E.bt V.E.bf i W0.drew HL.out (HSEC.out.same rfl) (by omega) hY hsm hN4).mono ?_; rintro e w2 ⟨rfl, hb2⟩
    generalize hraw : (rdInoR (V.IMG i)).1 = raw at *
    have HRAW := Lib.hid hraw
    clear hraw
    have hf2 : Fr [] W0 w2 := (fr_drew (Fr.refl [] _)).trans (fr_below hb2 [])
    have hsl2 := (hf2.block _ (hat_lt hsl) (by simp)).trans hsl
    have hl2 := (hf2.block _ (hat_lt hl) (by simp)).trans hl
    have hsl2l := hat_lt hsl2
    have hl2l := hat_lt hl2
    have HF2 := Lib.hid hf2
    clear hp hlk hb2 hf2
    rw [hs]
    clear hs
    have hal := (hopA w2 (.cells (IV .i64 raw) 43) hsl2).1
    have hfa := fr_alloc w2 (.cells (IV .i64 raw) 43) []
    have hlw3 := (HLW0.out.fr HF2.out (by simp)).fr hfa (by simp)
    have HF3 := Lib.hid (HF2.out.trans hfa)
    have HLW3 := Lib.hid hlw3
    have hl3 := (hfa.block _ (hat_lt hl2) (by simp)).trans hl2
    have hr3 := (hopN w2 (.cells (IV .i64 raw) 43)).1
    clear hlw3 hfa hl HL
    go_wp2_with fail
    generalize hW3 : w2.alloc (.cells (IV .i64 raw) 43) = w3 at *
    refine (take_lw HLW3.out i raw hrl (by omega) hY hB hz0 hz1 HPT.out).mono ?_; rintro e w4 ⟨rfl, ob', B', v, hlw4, hmv4, hB4⟩
    have hsl4 := (hmv4.block _ (hat_lt hal) HSA.out (by simp)).trans hal
    have hp4 := (hlw4.fr (fr_drew (Fr.refl [] w4)) (by simp)).ptr i (by omega)
    rw [hB4] at hp4
    obtain ⟨gx, bx⟩ := v
    simp only [Option.map_some, ptrOf] at hp4
    have hl4 := hlw4.k.look
    unfold lkCells at hl4
    obtain ⟨t4, ht4, hgx4, -⟩ := hlw4.yes i _ hB4
    simp only at hgx4
    obtain ⟨-, -, hrl4, -⟩ := hlw4.zi.t i t4 ht4
    have he4 : t4 = ⟨(takeX V.E.X V.E.Y raw z.st).1, 0, (takeX V.E.X V.E.Y raw z.st).2.bk⟩ := by
      have h5 : updT z.T i ⟨(takeX V.E.X V.E.Y raw z.st).1, 0, (takeX V.E.X V.E.Y raw z.st).2.bk⟩ i = some t4 := ht4
      unfold updT at h5
      rw [if_pos rfl] at h5
      injection h5 with h5
      exact h5.symm
    have hte : t4.en = 0 := by rw [he4]
    have k18 := inC_18 hrl4 t4.en bx
    have hz8 := inC_size hrl4 t4.en bx
    rw [hte] at k18 hz8 hgx4
    have hnl0 := HNB0.out.lt
    have hnb3 := HNB0.out.same (HF3.out.block nb hnl0 (by simp))
    have hnl3 := hnb3.lt
    have hnb4 := hnb3.same (hmv4.block nb hnl3 HA.out (by simp))
    have ha4 := hmv4.apart nb hnl3 HA.out
    obtain ⟨w5, hr5, hm5, ht5⟩ := (show NB w4.drew nb n names from hnb4).put hnn hn
    have f5 : Fr [nb] w4 w5 := (fr_drew (Fr.refl _ _)).trans (fr_turned ht5)
    have hgx5 := (f5.block _ (hat_lt hgx4) (by have := (ha4.2 i _ hB4).1; simpa using this)).trans hgx4
    have hlw5 := hlw4.fr f5 (fun k hk => by rw [List.mem_singleton] at hk; subst hk; exact ⟨ha4, hg0⟩)
    generalize hc8 : inC t4.raw 0 bx = c8 at hgx4 hgx5 k18 hz8
    have j18 : ∀ h : 18 < c8.size, c8[18]'h = Value.int .i64 0 := fun h => by
      rw [Array.getElem?_eq_getElem h] at k18
      exact Option.some.inj k18
    have z18 : 18 < c8.size := by omega
    have hsl5 := (f5.block _ (hat_lt hsl4) (by simpa using hne)).trans hsl4
    have hgxl4 := hat_lt hgx4
    have hgxl5 := hat_lt hgx5
    have hsll4 := hat_lt hsl4
    have hll4 := hat_lt hl4
    have hgn : gx ≠ nb := (ha4.2 i _ hB4).1
    have HMV := Lib.hid ((Moved.from (HF0.out.trans HF3.out) hmv4 [nb] (by simp)).trans (Moved.of f5 (by simp)))
    have HLW5 := Lib.hid hlw5
    have HM5 := Lib.hid hm5
    have HT4 := Lib.hid ht4
    have HE4 := Lib.hid he4
    clear hlw4 hmv4 hlw5 hm5 ht5 f5 hnb3 hnb4 ha4 k18 ht4 he4 hl3 hr3 hal hsl2 hl2 hW3 hsl hsl2l hl2l
    go_wp2_with fail
    go_region
    go_wp2_with fail
    go_ret
    have hen := HLW5.out.en hB4 HT4.out (n := 1) (by omega) (by omega)
    refine ⟨rfl, ob', B', ?_, HM5.out.same ((fr_setCell w5 gx 18 _).block _ HM5.out.lt (by simpa using hgn.symm)), HMV.out.trans (Moved.of (fr_setCell w5 gx 18 _) (fun k hk => .inr fun hx => ?_))⟩
    · have he := HE4.out
      subst he
      have e : ({ takeZ V.E.X V.E.Y i raw 0 z with T := updT (takeZ V.E.X V.E.Y i raw 0 z).T i { (⟨(takeX V.E.X V.E.Y raw z.st).1, 0, (takeX V.E.X V.E.Y raw z.st).2.bk⟩ : TI) with en := 1 } } : LZ) = takeZ V.E.X V.E.Y i raw 1 z := by
        unfold takeZ
        simp only [updT_twice]
      rw [e] at hen
      rw [HRAW.out]
      exact hen
    · rw [List.mem_singleton] at hk
      subst hk
      exact (hx.2 i _ hB4).1 rfl
theorem enter_any {V : WE} {ob : Option Nat} {B : Nat → Option (Nat × Nat)} {zn : LZ × (ByteArray → Bool)} {w : World} (h : LW V ob B zn.1 w) (i : Nat) (nm : ByteArray) (hn : nm.size ≤ 40) (nb n : Nat) (hnb : NB w nb n zn.2) (hnn : n < maxLen) (ha : Apart V ob B nb) (hg0 : V.G0 ≤ nb)
    (hi1 : 1 ≤ i) (hY : (i : Int) ≤ V.E.Y) :
    Calls Try.prog 42 #[.pointer (some ⟨V.E.gl, 0, none⟩), .agg #[.int .i64 i, .string nm], .map (some nb)] w fun e w' =>
      e = .returned (.bool (enterR V.E.X V.E.Y V.IMG i nm zn).1) ∧ ∃ ob' B' n', n' ≤ n + 1 ∧ LW V ob' B' (enterR V.E.X V.E.Y V.IMG i nm zn).2.1 w' ∧ NB w' nb n' (enterR V.E.X V.E.Y V.IMG i nm zn).2.2 ∧ Moved V [nb] ob B w ob' B' w' := by
  obtain ⟨hN4, hNX⟩ := h.img4096
  have hsm := h.small
  have hstay : ∀ w', Fr [] w w' → ∃ ob' B' n', n' ≤ n + 1 ∧ LW V ob' B' zn.1 w' ∧ NB w' nb n' zn.2 ∧ Moved V [nb] ob B w ob' B' w' := fun w' hf =>
    ⟨ob, B, n, by omega, h.fr hf (by simp), hnb.same (hf.block _ hnb.lt (by simp)), Moved.of hf (by simp)⟩
  unfold enterR
  by_cases h0 : zn.2 nm = true ∨ i = 1
  · simp only [if_pos h0]
    refine (enter_no h i nm hn nb n zn.2 hnb h0).mono ?_
    rintro e w' ⟨rfl, hf⟩
    exact ⟨rfl, hstay w' hf⟩
  · simp only [if_neg h0]
    have hnm : zn.2 nm = false := by simpa using fun h => h0 (.inl h)
    have hi2 : 1 < i := by have : ¬ i = 1 := fun h => h0 (.inr h); omega
    unfold enterZ
    cases hB : B i with
    | none =>
      have hT := h.no i hB
      rw [hT]
      simp only
      refine (enter_new h i nm hn nb n zn.2 hnb hnn ha hg0 hnm hi2 hY hB).mono ?_
      intro e w' hh
      by_cases hs : soundR (V.IMG i) = false
      · rw [if_pos hs] at hh
        obtain ⟨rfl, hf⟩ := hh
        rw [if_neg (by rw [hs]; decide)]
        exact ⟨rfl, hstay w' hf⟩
      · rw [if_neg hs] at hh
        obtain ⟨rfl, ob', B', h1, h2, h3⟩ := hh
        rw [if_pos (by simpa using hs)]
        exact ⟨rfl, ob', B', n + 1, Nat.le_refl _, h1, h2, h3⟩
    | some v =>
      obtain ⟨t, hT, -⟩ := h.yes i v hB
      rw [hT]
      simp only
      refine (enter_old h i nm hn nb n zn.2 hnb hnn ha hg0 hnm hi2 (by omega) v hB t hT).mono ?_
      intro e w' hh
      by_cases hs : nth t.raw 0 = 2 ∨ t.en = 100
      · rw [if_pos hs] at hh
        obtain ⟨rfl, hf⟩ := hh
        rw [if_pos hs]
        exact ⟨rfl, hstay w' hf⟩
      · rw [if_neg hs] at hh
        obtain ⟨rfl, h1, h2, h3⟩ := hh
        rw [if_neg hs]
        exact ⟨rfl, ob, B, n + 1, Nat.le_refl _, h1, h2, h3⟩
end Go.Proofs.Ythioepdgnbdohaa

/- The looker: a directory. -/
namespace Go.Proofs.Ythioepdgnbdohaa
set_option linter.unusedSimpArgs false
set_option linter.unusedVariables false
open Go.RowKit

theorem slo_ok {s : List Int} (h : (rdSloR s).2.2 = 0) (h0 : (rdSloR s).1 ≠ 0) : 1 ≤ (rdSloR s).1 ∧ (rdSloR s).1 ≤ 512 ∧ (rdSloR s).2.1.size ≤ 40 := by
  unfold rdSloR at *
  split at h
  · rename_i h1
    rw [if_pos h1] at h0 ⊢
    have h2 : (slotR (getB s 0 4) (rdNm s)).2 = 0 := by rw [h1]
    rcases slot_yes h2 with h3 | h3
    · exact absurd h3.1 h0
    · exact ⟨h3.1.1, h3.1.2, h3.size.2⟩
  · cases h
theorem enterR_false {X Y : Int} {IMG : Nat → List Int} {i : Nat} {nm : ByteArray} {zn : LZ × (ByteArray → Bool)} (h : (enterR X Y IMG i nm zn).1 = false) : (enterR X Y IMG i nm zn).2 = zn := by
  unfold enterR at *
  split
  · rfl
  · rename_i h1
    rw [if_neg h1] at h
    split
    · rename_i h2
      rw [h2] at h
      cases h
    · rfl
theorem LW.st {V : WE} {ob : Option Nat} {B : Nat → Option (Nat × Nat)} {z : LZ} {w w' : World} {st : LS} (h : LW V ob B z w) (hf : Fr [V.E.gw] w w') (hk : LK0 V.E w' st) : LW V ob B { z with st := st } w' := by
  have hm : V.E.gw ∈ mineW V ob := by simp [mineW]
  have hg := h.lo _ hm
  have hgi : V.gi ∉ [V.E.gw] := fun hx => by
    rw [List.mem_singleton] at hx
    have := h.gi0; omega
  obtain ⟨tk, hpb, htk⟩ := h.pb
  have hv := h.qo.v
  refine ⟨h.e0, h.qo, h.img, h.secs.same (hf.block _ h.secs.lt hgi), h.gi0, h.lo, Nat.le_trans h.sz hf.size, h.small, hk,
    ⟨tk, hpb.same (hf.block _ hpb.lt (by have := h.e0.m2; simp; omega)), htk⟩, h.no, fun i v hv => ?_, h.inj, h.q.fr hf (by simp at hv ⊢; omega) (fun g hg => by have := h.qo.b g hg; simp at this ⊢; omega), ⟨h.zi.t, h.zi.q, h.zi.pot⟩⟩
  obtain ⟨t, h1, h2, h3, h4, h5, h6, h7⟩ := h.yes i v hv
  exact ⟨t, h1, (hf.block _ (hat_lt h2) (fun hx => by rw [List.mem_singleton] at hx; exact h6 (by rw [hx]; exact hm))).trans h2, h3.same (hf.block _ h3.lt (fun hx => by rw [List.mem_singleton] at hx; exact h7 (by rw [hx]; exact hm))), h4, h5, h6, h7⟩
theorem LW.wipe {V : WE} {ob : Option Nat} {B : Nat → Option (Nat × Nat)} {z : LZ} {w : World} (h : LW V ob B z w) {p : Nat} (hp : p < V.E.N) {cs : Array Value} (hcs : hat w V.E.gw = some (.cells cs 32)) :
    LW V ob B (wipeZ p z) (w.setRow V.E.gw (splice cs (p * 128) (IV .u8 (zl 128)))) :=
  h.st (fr_setRow _ _ _) ⟨(hat_setRow _ _ _ _ h.e0.n1).trans h.k.look, h.k.want.store hcs hp (zl_length 128) (bytes_zl 128), h.k.claim.same (hat_setRow _ _ _ _ h.e0.n4.symm), h.k.firm.same (hat_setRow _ _ _ _ h.e0.n5.symm)⟩
theorem Moved.gw {V : WE} {but : List Nat} {ob : Option Nat} {B : Nat → Option (Nat × Nat)} (w : World) (cs : Array Value) : Moved V but ob B w ob B (w.setRow V.E.gw cs) :=
  Moved.of (fr_setRow _ _ _) (fun k hk => .inr fun ha => ha.1 (by rw [List.mem_singleton] at hk; subst hk; simp [mineW]))
set_option maxHeartbeats 8000000 in
set_option maxRecDepth 100000 in
theorem dir_any {V : WE} {ob : Option Nat} {B : Nat → Option (Nat × Nat)} {z : LZ} {w : World} (h : LW V ob B z w) (i : Nat) (hi : i < 4096) (v : Nat × Nat) (hB : B i = some v) :
    Calls Try.prog 20 #[.pointer (some ⟨V.E.gl, 0, none⟩), .int .i64 i] w fun e w' => e = .returned (.tuple #[]) ∧ ∃ ob' B', LW V ob' B' (dirOf V.E.X V.E.Y V.IMG i z) w' ∧ Moved V [] ob B w ob' B' w' := by
  obtain ⟨hN4, hNX⟩ := h.img4096
  have hsm := h.small
  have hY0 := h.e0.pos
  obtain ⟨gx, bx⟩ := v
  obtain ⟨t, hT, hgx, -⟩ := h.yes i _ hB
  simp only at hgx
  obtain ⟨-, -, hrl, hz0, hz1, -⟩ := h.zi.t i t hT
  have hp := h.ptr i (by omega)
  rw [hB] at hp
  simp only [Option.map_some, ptrOf] at hp
  have hl := h.k.look
  unfold lkCells at hl
  have hDO : dirOf V.E.X V.E.Y V.IMG i z = (dirZ V.E.X V.E.Y V.IMG t.bk (cntX (nth t.raw 2)).toNat 0 (z, fun _ => false)).1 := by unfold dirOf; rw [hT]
  rw [hDO]
  have hgxl := hat_lt hgx
  have hgxa := (hopA w (.map #[] 0) hgx).1
  have hk2 := inC_get hrl t.en bx (show 2 < 18 by omega)
  have hc0 : 0 ≤ cntX (nth t.raw 2) := by unfold cntX; omega
  have hc1 : cntX (nth t.raw 2) ≤ 1068 := by unfold cntX; omega
  have hcnt := fun W hW => count_any gx (inC t.raw t.en bx) (nth t.raw 2) W hW hk2 hz0 hz1
  rw [show (nth t.raw 2 + 127) / 128 = cntX (nth t.raw 2) from rfl] at hcnt
  obtain ⟨M, hM⟩ := Int.eq_ofNat_of_zero_le hc0
  rw [hM] at hcnt ⊢
  rw [Int.toNat_natCast]
  have hM1 : M ≤ 1068 := by omega
  have HCNT := Lib.hid hcnt
  have H := Lib.hid h
  have HT := Lib.hid hT
  have HF1 := Lib.hid (fr_alloc w (.map #[] 0) [])
  have HNB := Lib.hid (NB.of (hopN w (.map #[] 0)).1)
  have hnbl := (hopN w (.map #[] 0)).2
  have HNA := Lib.hid (Apart.new h (Nat.le_refl w.heap.size))
  have hnb0 := h.sz
  clear hcnt h hT hDO hc0 hc1 hM
  go_enter Try.func20, Try.ntmps20
  go_wp2_with fail
  generalize hW1 : w.alloc (.map #[] 0) = w1 at *
  refine (HCNT.out w1 hgxa).mono ?_; rintro e w2 ⟨rfl, hb2⟩
  have hf2 : Fr [] w1 w2 := fr_below hb2 []
  have HMV2 := Lib.hid ((Moved.of (V := V) (but := []) (ob := ob) (B := B) HF1.out (by simp)).trans (Moved.of hf2 (by simp)))
  have HF2 := Lib.hid (HF1.out.trans hf2)
  have HLW2 := Lib.hid ((H.out.fr HF1.out (by simp)).fr hf2 (by simp))
  have HNB2 := Lib.hid (HNB.out.same (hf2.block _ hnbl (by simp)))
  have hnbl2 := HNB2.out.lt
  clear hb2 hf2 hp hl hgx hgxl hgxa
  generalize hnb : w.heap.size = nb at *
  go_wp2_with fail
  go_loopw [20] (fun v wr => ∃ (k : Nat) (zn : LZ × (ByteArray → Bool)) (n' : Nat) (ob' : Option Nat) (B' : Nat → Option (Nat × Nat)), v = .int .i64 k ∧ k ≤ M ∧ n' ≤ k ∧ Hid (LW V ob' B' zn.1 wr) ∧ Hid (NB wr nb n' zn.2) ∧ Hid (Moved V [nb] ob B w2 ob' B' wr)
      ∧ Hid (dirZ V.E.X V.E.Y V.IMG t.bk M 0 (z, fun _ => false) = dirZ V.E.X V.E.Y V.IMG t.bk (M - k) k zn) ∧ Hid (Keeps z zn.1)) (fun v wr => M - (intOf v).toNat)
  case atStart => exact ⟨0, (z, fun _ => false), 0, ob, B, rfl, Nat.zero_le _, Nat.le_refl _, HLW2, HNB2, Lib.hid (Moved.refl _ _ _ _ _), Lib.hid rfl, Lib.hid (Keeps.refl _)⟩
  case round =>
    obtain ⟨k, zn, n', ob', B', rfl, hk, hn', HLW, HNBR, HMV, HE, HK⟩ := hrel
    have hlw := HLW.out
    obtain ⟨t', hT', hbk⟩ := HK.out i t HT.out
    have hB' := HMV.out.ext i _ hB
    obtain ⟨t'', hT'', hgx, hib, -⟩ := hlw.yes i _ hB'
    rw [hT'] at hT''
    obtain rfl : t' = t'' := by injection hT''
    simp only at hgx hib
    obtain ⟨-, -, hrl', -, -, -, -, hvals⟩ := hlw.zi.t i t' hT'
    have k19 := inC_19 hrl' t'.en bx
    have hz8 := inC_size hrl' t'.en bx
    have hl := hlw.k.look
    unfold lkCells at hl
    rw [hbk] at hib hvals
    generalize hc8 : inC t'.raw t'.en bx = c8 at hgx k19 hz8
    have j19 : ∀ h : 19 < c8.size, c8[19]'h = Value.map (some bx) := fun h => by
      rw [Array.getElem?_eq_getElem h] at k19
      exact Option.some.inj k19
    have z19 : 19 < c8.size := by omega
    have hlkp := hib.1.look (p := (k : Int)) ⟨by omega, by omega⟩
    clear hlw k19 hc8 hT'' hib
    by_cases hkM : k < M
    · have hkM' : (k : Int) < (M : Int) := by omega
      have hstep : dirZ V.E.X V.E.Y V.IMG t.bk (M - k) k zn = dirZ V.E.X V.E.Y V.IMG t.bk (M - (k + 1)) (k + 1) (match t.bk k with | none => zn | some p => slotZ V.E.X V.E.Y V.IMG p.toNat zn) := by
        rw [show M - k = (M - (k + 1)) + 1 by omega]; rfl
      have HE2 := Lib.hid (HE.out.trans hstep)
      clear hstep
      cases hbkk : t.bk k with
      | none =>
        have hE := HE2.out
        rw [hbkk] at hE hlkp
        have HE3 := Lib.hid hE
        clear hE
        go_wp2_with fail
        go_roundw
        case rel => exact ⟨k + 1, zn, n', ob', B', by go_num, by omega, by omega, HLW, HNBR, HMV, HE3, HK⟩
        case measure => (show M - (k + 1) < M - k); omega
      | some p =>
        have hpd := hvals _ _ hbkk
        have hE := HE2.out
        rw [hbkk] at hE hlkp
        have HE3 := Lib.hid hE
        unfold isD at hpd
        have hpd2 := of_decide_eq_true hpd
        obtain ⟨at', rfl⟩ := Int.eq_ofNat_of_zero_le (show 0 ≤ p by omega)
        have hatN : at' < V.E.N := by omega
        have hat0 : (0 : Int) ≤ (at' : Int) := Int.natCast_nonneg _
        have hat1 : (at' : Int) < (V.E.N : Int) := by omega
        obtain ⟨csw, hcsw, hldw, hlenw, hbyw⟩ := HLW.out.k.want.load hatN
        obtain ⟨ino, nm, er, hR⟩ : ∃ ino nm er, rdSloR (zn.1.st.S at') = (ino, nm, er) := ⟨_, _, _, rfl⟩
        have HRS : Hid (∀ W, Calls Try.prog 41 #[.agg (IV .u8 (zn.1.st.S at'))] W fun e w' => e = .returned (.tuple #[.agg #[.int .i64 ino, .string nm], .int .i64 er]) ∧ Below W.heap.size W w') := Lib.hid (fun W => by
          have h := lrdSlo_any (zn.1.st.S at') hlenw hbyw W
          rw [hR] at h
          exact h)
        have HOKS : Hid (er = 0 → ino ≠ 0 → 1 ≤ ino ∧ ino ≤ 512 ∧ nm.size ≤ 40) := Lib.hid (by
          have h := slo_ok (s := zn.1.st.S at')
          rw [hR] at h
          exact h)
        have HSZ : Hid (slotZ V.E.X V.E.Y V.IMG at' zn = if er = 0 ∧ ino = 0 then zn else if er = 0 ∧ ino ≤ V.E.Y ∧ (enterR V.E.X V.E.Y V.IMG ino.toNat nm zn).1 = true then (enterR V.E.X V.E.Y V.IMG ino.toNat nm zn).2 else (wipeZ at' zn.1, zn.2)) := Lib.hid (by
          unfold slotZ
          rw [hR])
        have HE3 : Hid (dirZ V.E.X V.E.Y V.IMG t.bk M 0 (z, fun _ => false) = dirZ V.E.X V.E.Y V.IMG t.bk (M - (k + 1)) (k + 1) (slotZ V.E.X V.E.Y V.IMG at' zn)) := Lib.hid (by
          have h := HE2.out
          rw [hbkk] at h
          exact h)
        have hcw0 := HLW.out.k.want
        obtain ⟨csw', hcsw', hsw, -⟩ := hcw0
        rw [hcsw] at hcsw'
        obtain rfl : csw = csw' := by (have h1 := Option.some.inj hcsw'; injection h1)
        have hst : ∀ raw' w', stRow raw' 128 (at' * 128) V.E.gw (IV .u8 (zl 128)) w' (some (.cells csw 32 (0, 0))) = .ok () (w'.setRow V.E.gw (splice csw (at' * 128) (IV .u8 (zl 128)))) := fun raw' w' =>
          stRow_part (by omega) (by simp) (by simp)
        clear hE HE2 hR hlenw hbyw hcsw' hpd hvals
        go_wp2_with fail
        refine (HRS.out wr).mono ?_; rintro e w3 ⟨rfl, hb3⟩
        have hf4 : Fr [] wr (w3.alloc (.cells #[.int .i64 ino, .string nm] 70)) := (fr_below hb3 []).trans (fr_alloc _ _ _)
        have HLW4 := Lib.hid (HLW.out.fr hf4 (by simp))
        have HNB4 := Lib.hid (HNBR.out.same (hf4.block _ HNBR.out.lt (by simp)))
        have HMV4 := Lib.hid (HMV.out.trans (Moved.of hf4 (by simp)))
        have hl4 := (hf4.block _ (hat_lt hl) (by simp)).trans hl
        have hcsw4 := (hf4.block _ (hat_lt hcsw) (by simp)).trans hcsw
        have hsl4 := (hopN w3 (.cells #[.int .i64 ino, .string nm] 70)).1
        have hz4 := (hopN w3 (.cells #[.int .i64 ino, .string nm] 70)).2
        have hl4l := hat_lt hl4
        have HSA := Lib.hid (Apart.new HLW.out (show wr.heap.size ≤ w3.heap.size from hb3.size))
        have hnbr := HNBR.out.lt
        have hwr3 := hb3.size
        have hw4l := hat_lt hcsw4
        clear hf4 hb3 hl hcsw hgx HLW HNBR HMV hlkp
        cases hed : (er == 0) with
        | false =>
          have hen : ¬ er = 0 := by simpa using hed
          have hedn : (er != 0) = true := by simpa using hen
          go_wp2_with fail
          generalize w3.alloc (.cells #[.int .i64 ino, .string nm] 70) = w4 at *
          generalize w3.heap.size = sb at *
          refine wp_region_noPanic ?_
          refine wp_region_held_drew (S := (fun w' => hat w' V.E.gl = some (.cells #[.int .i64 V.E.X, .int .i64 V.E.Y, V.E.img, .slice (some ⟨V.E.gw, 0, none⟩) V.E.N V.E.cw, .map (some V.E.bc), .map (some V.E.bt), .map (some V.E.bf), V.E.qf] 53) ∧ hat w' sb = some (.cells #[.int .i64 ino, .string nm] 70))) (by kernel_rfl) ⟨hl4, hsl4⟩ (fun hHeld => ?_)
          refine wpAnyH_take (i := 0) (oi := { dst := some 52, op := Op.move (Operand.tmp 10), type := 27, pos := "look.go:154", after := #[], guard := none }) (v := ?va0) rfl (by kernel_rfl) (by kernel_rfl) (by kernel_rfl) (fun _ _ _ h => h) (Or.inl ⟨by rfl, ?hya0⟩) (by assumption) ?resta0
          case hya0 => (intro w' hSw; (try dsimp only at hSw); go_simp; (try with_reducible rfl))
          try simp only [Act.put, List.setIfInBounds_toArray, List.set_cons_zero, List.set_cons_succ]
          refine wpAnyH_take (i := 1) (oi := { dst := some 53, op := Op.binOp BinOp.neq 27 (Operand.tmp 52) (Operand.const (Value.int IntKind.i64 0)) 27, type := 4, pos := "look.go:154", after := #[{ on := 0, ground := Ground.data }], guard := none }) (v := ?va1) rfl (by kernel_rfl) (by kernel_rfl) (by kernel_rfl) (fun _ _ _ h => h) (Or.inl ⟨by rfl, ?hya1⟩) (by assumption) ?resta1
          case hya1 => (intro w' hSw; (try dsimp only at hSw); go_simp; (try with_reducible rfl))
          try simp only [Act.put, List.setIfInBounds_toArray, List.set_cons_zero, List.set_cons_succ]
          refine wpAnyH_take (i := 2) (oi := { dst := some 54, op := Op.move (Operand.tmp 53), type := 4, pos := "look.go:154", after := #[{ on := 1, ground := Ground.data }], guard := none }) (v := ?va2) rfl (by kernel_rfl) (by kernel_rfl) (by kernel_rfl) (fun _ _ _ h => h) (Or.inl ⟨by rfl, ?hya2⟩) (by assumption) ?resta2
          case hya2 => (intro w' hSw; (try dsimp only at hSw); go_simp; (try with_reducible rfl))
          try simp only [Act.put, List.setIfInBounds_toArray, List.set_cons_zero, List.set_cons_succ]
          refine wpAnyH_take (i := 3) (oi := { dst := some 55, op := Op.fieldAddr 70 (Operand.tmp 9) 0, type := 0, pos := "look.go:154", after := #[{ on := 2, ground := Ground.guard }], guard := some (2, false) }) (v := undef) rfl (by kernel_rfl) (by kernel_rfl) (by kernel_rfl) (fun _ _ _ h => h) (Or.inr ⟨by rfl, rfl⟩) (by assumption) ?_
          try simp only [Act.put, List.setIfInBounds_toArray, List.set_cons_zero, List.set_cons_succ]
          refine wpAnyH_take (i := 4) (oi := { dst := some 56, op := Op.load 3 (Operand.tmp 55), type := 3, pos := "look.go:154", after := #[{ on := 3, ground := Ground.data }, { on := 2, ground := Ground.guard }], guard := some (2, false) }) (v := undef) rfl (by kernel_rfl) (by kernel_rfl) (by kernel_rfl) (fun _ _ _ h => h) (Or.inr ⟨by rfl, rfl⟩) (by assumption) ?_
          try simp only [Act.put, List.setIfInBounds_toArray, List.set_cons_zero, List.set_cons_succ]
          refine wpAnyH_take (i := 5) (oi := { dst := some 57, op := Op.move (Operand.tmp 0), type := 47, pos := "look.go:154", after := #[{ on := 2, ground := Ground.guard }], guard := some (2, false) }) (v := undef) rfl (by kernel_rfl) (by kernel_rfl) (by kernel_rfl) (fun _ _ _ h => h) (Or.inr ⟨by rfl, rfl⟩) (by assumption) ?_
          try simp only [Act.put, List.setIfInBounds_toArray, List.set_cons_zero, List.set_cons_succ]
          refine wpAnyH_take (i := 6) (oi := { dst := some 58, op := Op.nilCheck (Operand.tmp 57), type := 0, pos := "look.go:154", after := #[{ on := 5, ground := Ground.data }, { on := 2, ground := Ground.guard }], guard := some (2, false) }) (v := undef) rfl (by kernel_rfl) (by kernel_rfl) (by kernel_rfl) (fun _ _ _ h => h) (Or.inr ⟨by rfl, rfl⟩) (by assumption) ?_
          try simp only [Act.put, List.setIfInBounds_toArray, List.set_cons_zero, List.set_cons_succ]
          refine wpAnyH_take (i := 7) (oi := { dst := some 59, op := Op.fieldAddr 53 (Operand.tmp 58) 0, type := 0, pos := "look.go:154", after := #[{ on := 6, ground := Ground.data }, { on := 2, ground := Ground.guard }], guard := some (2, false) }) (v := undef) rfl (by kernel_rfl) (by kernel_rfl) (by kernel_rfl) (fun _ _ _ h => h) (Or.inr ⟨by rfl, rfl⟩) (by assumption) ?_
          try simp only [Act.put, List.setIfInBounds_toArray, List.set_cons_zero, List.set_cons_succ]
          refine wpAnyH_take (i := 8) (oi := { dst := some 60, op := Op.fieldAddr 37 (Operand.tmp 59) 1, type := 0, pos := "look.go:154", after := #[{ on := 7, ground := Ground.data }, { on := 2, ground := Ground.guard }], guard := some (2, false) }) (v := undef) rfl (by kernel_rfl) (by kernel_rfl) (by kernel_rfl) (fun _ _ _ h => h) (Or.inr ⟨by rfl, rfl⟩) (by assumption) ?_
          try simp only [Act.put, List.setIfInBounds_toArray, List.set_cons_zero, List.set_cons_succ]
          refine wpAnyH_take (i := 9) (oi := { dst := some 61, op := Op.load 3 (Operand.tmp 60), type := 3, pos := "look.go:154", after := #[{ on := 8, ground := Ground.data }, { on := 2, ground := Ground.guard }], guard := some (2, false) }) (v := undef) rfl (by kernel_rfl) (by kernel_rfl) (by kernel_rfl) (fun _ _ _ h => h) (Or.inr ⟨by rfl, rfl⟩) (by assumption) ?_
          try simp only [Act.put, List.setIfInBounds_toArray, List.set_cons_zero, List.set_cons_succ]
          refine wpAnyH_take (i := 10) (oi := { dst := some 62, op := Op.binOp BinOp.gtr 3 (Operand.tmp 56) (Operand.tmp 61) 3, type := 4, pos := "look.go:154", after := #[{ on := 4, ground := Ground.data }, { on := 9, ground := Ground.data }, { on := 2, ground := Ground.guard }], guard := some (2, false) }) (v := undef) rfl (by kernel_rfl) (by kernel_rfl) (by kernel_rfl) (fun _ _ _ h => h) (Or.inr ⟨by rfl, rfl⟩) (by assumption) ?_
          try simp only [Act.put, List.setIfInBounds_toArray, List.set_cons_zero, List.set_cons_succ]
          refine wpAnyH_take (i := 11) (oi := { dst := some 63, op := Op.pick (Operand.tmp 54) (Operand.const (Value.bool true)) (Operand.tmp 62), type := 4, pos := "look.go:154", after := #[{ on := 2, ground := Ground.data }, { on := 10, ground := Ground.data }], guard := none }) (v := ?va11) rfl (by kernel_rfl) (by kernel_rfl) (by kernel_rfl) (fun _ _ _ h => h) (Or.inl ⟨by rfl, ?hya11⟩) (by assumption) ?resta11
          case hya11 => (intro w' hSw; (try dsimp only at hSw); go_simp; (try with_reducible rfl))
          try simp only [Act.put, List.setIfInBounds_toArray, List.set_cons_zero, List.set_cons_succ]
          refine wpAnyH_take (i := 12) (oi := { dst := some 64, op := Op.move (Operand.tmp 63), type := 4, pos := "look.go:154", after := #[{ on := 11, ground := Ground.data }, { on := 2, ground := Ground.chain }], guard := none }) (v := ?va12) rfl (by kernel_rfl) (by kernel_rfl) (by kernel_rfl) (fun _ _ _ h => h) (Or.inl ⟨by rfl, ?hya12⟩) (by assumption) ?resta12
          case hya12 => (intro w' hSw; (try dsimp only at hSw); go_simp; (try with_reducible rfl))
          try simp only [Act.put, List.setIfInBounds_toArray, List.set_cons_zero, List.set_cons_succ]
          refine wpAnyH_take (i := 13) (oi := { dst := some 65, op := Op.move (Operand.tmp 0), type := 47, pos := "look.go:154", after := #[{ on := 12, ground := Ground.guard }], guard := some (12, false) }) (v := undef) rfl (by kernel_rfl) (by kernel_rfl) (by kernel_rfl) (fun _ _ _ h => h) (Or.inr ⟨by rfl, rfl⟩) (by assumption) ?_
          try simp only [Act.put, List.setIfInBounds_toArray, List.set_cons_zero, List.set_cons_succ]
          refine wpAnyH_take (i := 14) (oi := { dst := some 66, op := Op.load 70 (Operand.tmp 9), type := 70, pos := "look.go:154", after := #[{ on := 12, ground := Ground.guard }], guard := some (12, false) }) (v := undef) rfl (by kernel_rfl) (by kernel_rfl) (by kernel_rfl) (fun _ _ _ h => h) (Or.inr ⟨by rfl, rfl⟩) (by assumption) ?_
          try simp only [Act.put, List.setIfInBounds_toArray, List.set_cons_zero, List.set_cons_succ]
          refine wpAnyH_take (i := 15) (oi := { dst := some 67, op := Op.move (Operand.tmp 5), type := 78, pos := "look.go:154", after := #[{ on := 12, ground := Ground.guard }], guard := some (12, false) }) (v := undef) rfl (by kernel_rfl) (by kernel_rfl) (by kernel_rfl) (fun _ _ _ h => h) (Or.inr ⟨by rfl, rfl⟩) (by assumption) ?_
          try simp only [Act.put, List.setIfInBounds_toArray, List.set_cons_zero, List.set_cons_succ]
          refine wpAnyH_take (i := 16) (oi := { dst := some 68, op := Op.call { callee := Callee.value (Operand.func 42), args := #[Operand.tmp 65, Operand.tmp 66, Operand.tmp 67], argTypes := #[47, 70, 78] }, type := 4, pos := "look.go:154", after := #[{ on := 13, ground := Ground.data }, { on := 14, ground := Ground.data }, { on := 15, ground := Ground.data }, { on := 12, ground := Ground.chain }, { on := 12, ground := Ground.guard }], guard := some (12, false) }) (v := undef) rfl (by kernel_rfl) (by kernel_rfl) (by kernel_rfl) (fun _ _ _ h => h) (Or.inr ⟨by rfl, rfl⟩) (by assumption) ?_
          try simp only [Act.put, List.setIfInBounds_toArray, List.set_cons_zero, List.set_cons_succ]
          refine wpAnyH_take (i := 17) (oi := { dst := some 69, op := Op.unOp UnOp.not 4 (Operand.tmp 68), type := 4, pos := "look.go:154", after := #[{ on := 16, ground := Ground.data }, { on := 12, ground := Ground.guard }], guard := some (12, false) }) (v := undef) rfl (by kernel_rfl) (by kernel_rfl) (by kernel_rfl) (fun _ _ _ h => h) (Or.inr ⟨by rfl, rfl⟩) (by assumption) ?_
          try simp only [Act.put, List.setIfInBounds_toArray, List.set_cons_zero, List.set_cons_succ]
          refine wpAnyH_take (i := 18) (oi := { dst := some 70, op := Op.pick (Operand.tmp 64) (Operand.const (Value.bool true)) (Operand.tmp 69), type := 4, pos := "look.go:154", after := #[{ on := 12, ground := Ground.data }, { on := 17, ground := Ground.data }], guard := none }) (v := ?va18) rfl (by kernel_rfl) (by kernel_rfl) (by kernel_rfl) (fun _ _ _ h => h) (Or.inl ⟨by rfl, ?hya18⟩) (by assumption) ?resta18
          case hya18 => (intro w' hSw; (try dsimp only at hSw); go_simp; (try with_reducible rfl))
          try simp only [Act.put, List.setIfInBounds_toArray, List.set_cons_zero, List.set_cons_succ]
          refine wpAnyH_done (by kernel_rfl) (NoPanic.normal ?_) _
          clear hcsw4 hst
          obtain ⟨cswx, hcswx, hszx, -⟩ := HLW4.out.k.want
          have hstx : ∀ raw' w', stRow raw' 128 (at' * 128) V.E.gw (IV .u8 (zl 128)) w' (some (.cells cswx 32 (0, 0))) = .ok () (w'.setRow V.E.gw (splice cswx (at' * 128) (IV .u8 (zl 128)))) := fun raw' w' => stRow_part (by omega) (by simp) (by simp)
          have hcswl := hat_lt hcswx
          go_wp2_with fail
          go_roundw
          case rel =>
            have hax := HMV4.out.apart nb hnbl2 HNA.out
            have hnw : nb ≠ V.E.gw := fun e => hax.1 (by rw [e]; simp [mineW])
            refine ⟨k + 1, (wipeZ at' zn.1, zn.2), n', ob', B', by go_num, by omega, by omega, Lib.hid ((HLW4.out.fr (fr_drew (Fr.refl [] _)) (by simp)).wipe hatN hcswx), Lib.hid ((HNB4.out.same (hat_drew _ _)).same (hat_setRow _ _ _ _ hnw)), Lib.hid ((HMV4.out.trans (Moved.of (fr_drew (Fr.refl [] _)) (by simp))).trans (Moved.gw _ _)), Lib.hid ?_, Lib.hid ?_⟩
            · rw [HE3.out, HSZ.out]
              rw [if_neg (fun h => hen h.1), if_neg (fun h => hen h.1)]
            · exact HK.out
          case measure => (show M - (k + 1) < M - k); omega
        | true =>
          have hen : er = 0 := by simpa using hed
          have hedn : (er != 0) = false := by simpa using hen
          cases hid : (ino == 0) with
          | true =>
            have hin : ino = 0 := by simpa using hid
            have HIN := Lib.hid hin
            have HEN := Lib.hid hen
            clear hin hen
            go_wp2_with fail
            go_roundw
            case rel =>
              refine ⟨k + 1, zn, n', ob', B', by go_num, by omega, by omega, HLW4, HNB4, HMV4, Lib.hid ?_, HK⟩
              rw [HE3.out, HSZ.out, if_pos ⟨HEN.out, HIN.out⟩]
            case measure => (show M - (k + 1) < M - k); omega
          | false =>
            have hin : ¬ ino = 0 := by simpa using hid
            obtain ⟨hi0, hi1, hnm⟩ := HOKS.out hen hin
            have HEN := Lib.hid hen
            clear hen
            cases hyd : decide (V.E.Y < ino) with
            | true =>
              have hyn : V.E.Y < ino := of_decide_eq_true hyd
              go_wp2_with fail
              generalize w3.alloc (.cells #[.int .i64 ino, .string nm] 70) = w4 at *
              generalize w3.heap.size = sb at *
              refine wp_region_noPanic ?_
              refine wp_region_held_drew (S := (fun w' => hat w' V.E.gl = some (.cells #[.int .i64 V.E.X, .int .i64 V.E.Y, V.E.img, .slice (some ⟨V.E.gw, 0, none⟩) V.E.N V.E.cw, .map (some V.E.bc), .map (some V.E.bt), .map (some V.E.bf), V.E.qf] 53) ∧ hat w' sb = some (.cells #[.int .i64 ino, .string nm] 70))) (by kernel_rfl) ⟨hl4, hsl4⟩ (fun hHeld => ?_)
              refine wpAnyH_take (i := 0) (oi := { dst := some 52, op := Op.move (Operand.tmp 10), type := 27, pos := "look.go:154", after := #[], guard := none }) (v := ?vb0) rfl (by kernel_rfl) (by kernel_rfl) (by kernel_rfl) (fun _ _ _ h => h) (Or.inl ⟨by rfl, ?hyb0⟩) (by assumption) ?restb0
              case hyb0 => (intro w' hSw; (try dsimp only at hSw); go_simp; (try with_reducible rfl))
              try simp only [Act.put, List.setIfInBounds_toArray, List.set_cons_zero, List.set_cons_succ]
              refine wpAnyH_take (i := 1) (oi := { dst := some 53, op := Op.binOp BinOp.neq 27 (Operand.tmp 52) (Operand.const (Value.int IntKind.i64 0)) 27, type := 4, pos := "look.go:154", after := #[{ on := 0, ground := Ground.data }], guard := none }) (v := ?vb1) rfl (by kernel_rfl) (by kernel_rfl) (by kernel_rfl) (fun _ _ _ h => h) (Or.inl ⟨by rfl, ?hyb1⟩) (by assumption) ?restb1
              case hyb1 => (intro w' hSw; (try dsimp only at hSw); go_simp; (try with_reducible rfl))
              try simp only [Act.put, List.setIfInBounds_toArray, List.set_cons_zero, List.set_cons_succ]
              refine wpAnyH_take (i := 2) (oi := { dst := some 54, op := Op.move (Operand.tmp 53), type := 4, pos := "look.go:154", after := #[{ on := 1, ground := Ground.data }], guard := none }) (v := ?vb2) rfl (by kernel_rfl) (by kernel_rfl) (by kernel_rfl) (fun _ _ _ h => h) (Or.inl ⟨by rfl, ?hyb2⟩) (by assumption) ?restb2
              case hyb2 => (intro w' hSw; (try dsimp only at hSw); go_simp; (try with_reducible rfl))
              try simp only [Act.put, List.setIfInBounds_toArray, List.set_cons_zero, List.set_cons_succ]
              refine wpAnyH_take (i := 3) (oi := { dst := some 55, op := Op.fieldAddr 70 (Operand.tmp 9) 0, type := 0, pos := "look.go:154", after := #[{ on := 2, ground := Ground.guard }], guard := some (2, false) }) (v := ?vb3) rfl (by kernel_rfl) (by kernel_rfl) (by kernel_rfl) (fun _ _ _ h => h) (Or.inl ⟨by rfl, ?hyb3⟩) (by assumption) ?restb3
              case hyb3 => (intro w' hSw; (try dsimp only at hSw); go_simp; (try with_reducible rfl))
              try simp only [Act.put, List.setIfInBounds_toArray, List.set_cons_zero, List.set_cons_succ]
              refine wpAnyH_take (i := 4) (oi := { dst := some 56, op := Op.load 3 (Operand.tmp 55), type := 3, pos := "look.go:154", after := #[{ on := 3, ground := Ground.data }, { on := 2, ground := Ground.guard }], guard := some (2, false) }) (v := ?vb4) rfl (by kernel_rfl) (by kernel_rfl) (by kernel_rfl) (fun _ _ _ h => h) (Or.inl ⟨by rfl, ?hyb4⟩) (by assumption) ?restb4
              case hyb4 => (intro w' hSw; (try dsimp only at hSw); go_simp; (try with_reducible rfl))
              try simp only [Act.put, List.setIfInBounds_toArray, List.set_cons_zero, List.set_cons_succ]
              refine wpAnyH_take (i := 5) (oi := { dst := some 57, op := Op.move (Operand.tmp 0), type := 47, pos := "look.go:154", after := #[{ on := 2, ground := Ground.guard }], guard := some (2, false) }) (v := ?vb5) rfl (by kernel_rfl) (by kernel_rfl) (by kernel_rfl) (fun _ _ _ h => h) (Or.inl ⟨by rfl, ?hyb5⟩) (by assumption) ?restb5
              case hyb5 => (intro w' hSw; (try dsimp only at hSw); go_simp; (try with_reducible rfl))
              try simp only [Act.put, List.setIfInBounds_toArray, List.set_cons_zero, List.set_cons_succ]
              refine wpAnyH_take (i := 6) (oi := { dst := some 58, op := Op.nilCheck (Operand.tmp 57), type := 0, pos := "look.go:154", after := #[{ on := 5, ground := Ground.data }, { on := 2, ground := Ground.guard }], guard := some (2, false) }) (v := ?vb6) rfl (by kernel_rfl) (by kernel_rfl) (by kernel_rfl) (fun _ _ _ h => h) (Or.inl ⟨by rfl, ?hyb6⟩) (by assumption) ?restb6
              case hyb6 => (intro w' hSw; (try dsimp only at hSw); go_simp; (try with_reducible rfl))
              try simp only [Act.put, List.setIfInBounds_toArray, List.set_cons_zero, List.set_cons_succ]
              refine wpAnyH_take (i := 7) (oi := { dst := some 59, op := Op.fieldAddr 53 (Operand.tmp 58) 0, type := 0, pos := "look.go:154", after := #[{ on := 6, ground := Ground.data }, { on := 2, ground := Ground.guard }], guard := some (2, false) }) (v := ?vb7) rfl (by kernel_rfl) (by kernel_rfl) (by kernel_rfl) (fun _ _ _ h => h) (Or.inl ⟨by rfl, ?hyb7⟩) (by assumption) ?restb7
              case hyb7 => (intro w' hSw; (try dsimp only at hSw); go_simp; (try with_reducible rfl))
              try simp only [Act.put, List.setIfInBounds_toArray, List.set_cons_zero, List.set_cons_succ]
              refine wpAnyH_take (i := 8) (oi := { dst := some 60, op := Op.fieldAddr 37 (Operand.tmp 59) 1, type := 0, pos := "look.go:154", after := #[{ on := 7, ground := Ground.data }, { on := 2, ground := Ground.guard }], guard := some (2, false) }) (v := ?vb8) rfl (by kernel_rfl) (by kernel_rfl) (by kernel_rfl) (fun _ _ _ h => h) (Or.inl ⟨by rfl, ?hyb8⟩) (by assumption) ?restb8
              case hyb8 => (intro w' hSw; (try dsimp only at hSw); go_simp; (try with_reducible rfl))
              try simp only [Act.put, List.setIfInBounds_toArray, List.set_cons_zero, List.set_cons_succ]
              refine wpAnyH_take (i := 9) (oi := { dst := some 61, op := Op.load 3 (Operand.tmp 60), type := 3, pos := "look.go:154", after := #[{ on := 8, ground := Ground.data }, { on := 2, ground := Ground.guard }], guard := some (2, false) }) (v := ?vb9) rfl (by kernel_rfl) (by kernel_rfl) (by kernel_rfl) (fun _ _ _ h => h) (Or.inl ⟨by rfl, ?hyb9⟩) (by assumption) ?restb9
              case hyb9 => (intro w' hSw; (try dsimp only at hSw); go_simp; (try with_reducible rfl))
              try simp only [Act.put, List.setIfInBounds_toArray, List.set_cons_zero, List.set_cons_succ]
              refine wpAnyH_take (i := 10) (oi := { dst := some 62, op := Op.binOp BinOp.gtr 3 (Operand.tmp 56) (Operand.tmp 61) 3, type := 4, pos := "look.go:154", after := #[{ on := 4, ground := Ground.data }, { on := 9, ground := Ground.data }, { on := 2, ground := Ground.guard }], guard := some (2, false) }) (v := ?vb10) rfl (by kernel_rfl) (by kernel_rfl) (by kernel_rfl) (fun _ _ _ h => h) (Or.inl ⟨by rfl, ?hyb10⟩) (by assumption) ?restb10
              case hyb10 => (intro w' hSw; (try dsimp only at hSw); go_simp; (try with_reducible rfl))
              try simp only [Act.put, List.setIfInBounds_toArray, List.set_cons_zero, List.set_cons_succ]
              refine wpAnyH_take (i := 11) (oi := { dst := some 63, op := Op.pick (Operand.tmp 54) (Operand.const (Value.bool true)) (Operand.tmp 62), type := 4, pos := "look.go:154", after := #[{ on := 2, ground := Ground.data }, { on := 10, ground := Ground.data }], guard := none }) (v := ?vb11) rfl (by kernel_rfl) (by kernel_rfl) (by kernel_rfl) (fun _ _ _ h => h) (Or.inl ⟨by rfl, ?hyb11⟩) (by assumption) ?restb11
              case hyb11 => (intro w' hSw; (try dsimp only at hSw); go_simp; (try with_reducible rfl))
              try simp only [Act.put, List.setIfInBounds_toArray, List.set_cons_zero, List.set_cons_succ]
              refine wpAnyH_take (i := 12) (oi := { dst := some 64, op := Op.move (Operand.tmp 63), type := 4, pos := "look.go:154", after := #[{ on := 11, ground := Ground.data }, { on := 2, ground := Ground.chain }], guard := none }) (v := ?vb12) rfl (by kernel_rfl) (by kernel_rfl) (by kernel_rfl) (fun _ _ _ h => h) (Or.inl ⟨by rfl, ?hyb12⟩) (by assumption) ?restb12
              case hyb12 => (intro w' hSw; (try dsimp only at hSw); go_simp; (try with_reducible rfl))
              try simp only [Act.put, List.setIfInBounds_toArray, List.set_cons_zero, List.set_cons_succ]
              refine wpAnyH_take (i := 13) (oi := { dst := some 65, op := Op.move (Operand.tmp 0), type := 47, pos := "look.go:154", after := #[{ on := 12, ground := Ground.guard }], guard := some (12, false) }) (v := undef) rfl (by kernel_rfl) (by kernel_rfl) (by kernel_rfl) (fun _ _ _ h => h) (Or.inr ⟨by rfl, rfl⟩) (by assumption) ?_
              try simp only [Act.put, List.setIfInBounds_toArray, List.set_cons_zero, List.set_cons_succ]
              refine wpAnyH_take (i := 14) (oi := { dst := some 66, op := Op.load 70 (Operand.tmp 9), type := 70, pos := "look.go:154", after := #[{ on := 12, ground := Ground.guard }], guard := some (12, false) }) (v := undef) rfl (by kernel_rfl) (by kernel_rfl) (by kernel_rfl) (fun _ _ _ h => h) (Or.inr ⟨by rfl, rfl⟩) (by assumption) ?_
              try simp only [Act.put, List.setIfInBounds_toArray, List.set_cons_zero, List.set_cons_succ]
              refine wpAnyH_take (i := 15) (oi := { dst := some 67, op := Op.move (Operand.tmp 5), type := 78, pos := "look.go:154", after := #[{ on := 12, ground := Ground.guard }], guard := some (12, false) }) (v := undef) rfl (by kernel_rfl) (by kernel_rfl) (by kernel_rfl) (fun _ _ _ h => h) (Or.inr ⟨by rfl, rfl⟩) (by assumption) ?_
              try simp only [Act.put, List.setIfInBounds_toArray, List.set_cons_zero, List.set_cons_succ]
              refine wpAnyH_take (i := 16) (oi := { dst := some 68, op := Op.call { callee := Callee.value (Operand.func 42), args := #[Operand.tmp 65, Operand.tmp 66, Operand.tmp 67], argTypes := #[47, 70, 78] }, type := 4, pos := "look.go:154", after := #[{ on := 13, ground := Ground.data }, { on := 14, ground := Ground.data }, { on := 15, ground := Ground.data }, { on := 12, ground := Ground.chain }, { on := 12, ground := Ground.guard }], guard := some (12, false) }) (v := undef) rfl (by kernel_rfl) (by kernel_rfl) (by kernel_rfl) (fun _ _ _ h => h) (Or.inr ⟨by rfl, rfl⟩) (by assumption) ?_
              try simp only [Act.put, List.setIfInBounds_toArray, List.set_cons_zero, List.set_cons_succ]
              refine wpAnyH_take (i := 17) (oi := { dst := some 69, op := Op.unOp UnOp.not 4 (Operand.tmp 68), type := 4, pos := "look.go:154", after := #[{ on := 16, ground := Ground.data }, { on := 12, ground := Ground.guard }], guard := some (12, false) }) (v := undef) rfl (by kernel_rfl) (by kernel_rfl) (by kernel_rfl) (fun _ _ _ h => h) (Or.inr ⟨by rfl, rfl⟩) (by assumption) ?_
              try simp only [Act.put, List.setIfInBounds_toArray, List.set_cons_zero, List.set_cons_succ]
              refine wpAnyH_take (i := 18) (oi := { dst := some 70, op := Op.pick (Operand.tmp 64) (Operand.const (Value.bool true)) (Operand.tmp 69), type := 4, pos := "look.go:154", after := #[{ on := 12, ground := Ground.data }, { on := 17, ground := Ground.data }], guard := none }) (v := ?vb18) rfl (by kernel_rfl) (by kernel_rfl) (by kernel_rfl) (fun _ _ _ h => h) (Or.inl ⟨by rfl, ?hyb18⟩) (by assumption) ?restb18
              case hyb18 => (intro w' hSw; (try dsimp only at hSw); go_simp; (try with_reducible rfl))
              try simp only [Act.put, List.setIfInBounds_toArray, List.set_cons_zero, List.set_cons_succ]
              refine wpAnyH_done (by kernel_rfl) (NoPanic.normal ?_) _
              clear hcsw4 hst
              obtain ⟨cswx, hcswx, hszx, -⟩ := HLW4.out.k.want
              have hstx : ∀ raw' w', stRow raw' 128 (at' * 128) V.E.gw (IV .u8 (zl 128)) w' (some (.cells cswx 32 (0, 0))) = .ok () (w'.setRow V.E.gw (splice cswx (at' * 128) (IV .u8 (zl 128)))) := fun raw' w' => stRow_part (by omega) (by simp) (by simp)
              have hcswl := hat_lt hcswx
              go_wp2_with fail
              go_roundw
              case rel =>
                have hax := HMV4.out.apart nb hnbl2 HNA.out
                have hnw : nb ≠ V.E.gw := fun e => hax.1 (by rw [e]; simp [mineW])
                refine ⟨k + 1, (wipeZ at' zn.1, zn.2), n', ob', B', by go_num, by omega, by omega, Lib.hid ((HLW4.out.fr (fr_drew (Fr.refl [] _)) (by simp)).wipe hatN hcswx), Lib.hid ((HNB4.out.same (hat_drew _ _)).same (hat_setRow _ _ _ _ hnw)), Lib.hid ((HMV4.out.trans (Moved.of (fr_drew (Fr.refl [] _)) (by simp))).trans (Moved.gw _ _)), Lib.hid ?_, Lib.hid ?_⟩
                · rw [HE3.out, HSZ.out]
                  rw [if_neg (fun h => hin h.2), if_neg (fun h => by have := h.2.1; omega)]
                · exact HK.out
              case measure => (show M - (k + 1) < M - k); omega
            | false =>
              have hyn : ¬ V.E.Y < ino := of_decide_eq_false hyd
              obtain ⟨inn, rfl⟩ := Int.eq_ofNat_of_zero_le (show 0 ≤ ino by omega)
              have HSZ2 := HSZ.out
              rw [Int.toNat_natCast] at HSZ2
              obtain ⟨r, zn2, hER⟩ : ∃ r zn2, enterR V.E.X V.E.Y V.IMG inn nm zn = (r, zn2) := ⟨_, _, rfl⟩
              rw [hER, if_neg (fun h => hin h.2)] at HSZ2
              have HSZ3 := Lib.hid HSZ2
              have HAP := HMV4.out.apart nb hnbl2 HNA.out
              have hent := enter_any (zn := zn) (HLW4.out.fr (fr_drew (Fr.refl [] _)) (by simp)) inn nm hnm nb n' (HNB4.out.same (hat_drew _ _)) (by unfold maxLen; omega) HAP hnb0 (by omega) (by omega)
              rw [hER] at hent
              have HENT := Lib.hid hent
              have HKP := Lib.hid (keeps_enterR V.E.X V.E.Y V.IMG inn nm zn)
              have HERF := Lib.hid (fun h => enterR_false (X := V.E.X) (Y := V.E.Y) (IMG := V.IMG) (i := inn) (nm := nm) (zn := zn) h)
              rw [hER] at HKP HERF
              clear HSZ2 hent HAP hER HSZ
              go_wp2_with fail
              generalize w3.alloc (.cells #[.int .i64 inn, .string nm] 70) = w4 at *
              generalize w3.heap.size = sb at *
              refine wp_region_noPanic ?_
              refine wp_region_held_drew (S := (fun w' => hat w' V.E.gl = some (.cells #[.int .i64 V.E.X, .int .i64 V.E.Y, V.E.img, .slice (some ⟨V.E.gw, 0, none⟩) V.E.N V.E.cw, .map (some V.E.bc), .map (some V.E.bt), .map (some V.E.bf), V.E.qf] 53) ∧ hat w' sb = some (.cells #[.int .i64 inn, .string nm] 70))) (by kernel_rfl) ⟨hl4, hsl4⟩ (fun hHeld => ?_)
              refine wpAnyH_take (i := 0) (oi := { dst := some 52, op := Op.move (Operand.tmp 10), type := 27, pos := "look.go:154", after := #[], guard := none }) (v := ?vc0) rfl (by kernel_rfl) (by kernel_rfl) (by kernel_rfl) (fun _ _ _ h => h) (Or.inl ⟨by rfl, ?hyc0⟩) (by assumption) ?restc0
              case hyc0 => (intro w' hSw; (try dsimp only at hSw); go_simp; (try with_reducible rfl))
              try simp only [Act.put, List.setIfInBounds_toArray, List.set_cons_zero, List.set_cons_succ]
              refine wpAnyH_take (i := 1) (oi := { dst := some 53, op := Op.binOp BinOp.neq 27 (Operand.tmp 52) (Operand.const (Value.int IntKind.i64 0)) 27, type := 4, pos := "look.go:154", after := #[{ on := 0, ground := Ground.data }], guard := none }) (v := ?vc1) rfl (by kernel_rfl) (by kernel_rfl) (by kernel_rfl) (fun _ _ _ h => h) (Or.inl ⟨by rfl, ?hyc1⟩) (by assumption) ?restc1
              case hyc1 => (intro w' hSw; (try dsimp only at hSw); go_simp; (try with_reducible rfl))
              try simp only [Act.put, List.setIfInBounds_toArray, List.set_cons_zero, List.set_cons_succ]
              refine wpAnyH_take (i := 2) (oi := { dst := some 54, op := Op.move (Operand.tmp 53), type := 4, pos := "look.go:154", after := #[{ on := 1, ground := Ground.data }], guard := none }) (v := ?vc2) rfl (by kernel_rfl) (by kernel_rfl) (by kernel_rfl) (fun _ _ _ h => h) (Or.inl ⟨by rfl, ?hyc2⟩) (by assumption) ?restc2
              case hyc2 => (intro w' hSw; (try dsimp only at hSw); go_simp; (try with_reducible rfl))
              try simp only [Act.put, List.setIfInBounds_toArray, List.set_cons_zero, List.set_cons_succ]
              refine wpAnyH_take (i := 3) (oi := { dst := some 55, op := Op.fieldAddr 70 (Operand.tmp 9) 0, type := 0, pos := "look.go:154", after := #[{ on := 2, ground := Ground.guard }], guard := some (2, false) }) (v := ?vc3) rfl (by kernel_rfl) (by kernel_rfl) (by kernel_rfl) (fun _ _ _ h => h) (Or.inl ⟨by rfl, ?hyc3⟩) (by assumption) ?restc3
              case hyc3 => (intro w' hSw; (try dsimp only at hSw); go_simp; (try with_reducible rfl))
              try simp only [Act.put, List.setIfInBounds_toArray, List.set_cons_zero, List.set_cons_succ]
              refine wpAnyH_take (i := 4) (oi := { dst := some 56, op := Op.load 3 (Operand.tmp 55), type := 3, pos := "look.go:154", after := #[{ on := 3, ground := Ground.data }, { on := 2, ground := Ground.guard }], guard := some (2, false) }) (v := ?vc4) rfl (by kernel_rfl) (by kernel_rfl) (by kernel_rfl) (fun _ _ _ h => h) (Or.inl ⟨by rfl, ?hyc4⟩) (by assumption) ?restc4
              case hyc4 => (intro w' hSw; (try dsimp only at hSw); go_simp; (try with_reducible rfl))
              try simp only [Act.put, List.setIfInBounds_toArray, List.set_cons_zero, List.set_cons_succ]
              refine wpAnyH_take (i := 5) (oi := { dst := some 57, op := Op.move (Operand.tmp 0), type := 47, pos := "look.go:154", after := #[{ on := 2, ground := Ground.guard }], guard := some (2, false) }) (v := ?vc5) rfl (by kernel_rfl) (by kernel_rfl) (by kernel_rfl) (fun _ _ _ h => h) (Or.inl ⟨by rfl, ?hyc5⟩) (by assumption) ?restc5
              case hyc5 => (intro w' hSw; (try dsimp only at hSw); go_simp; (try with_reducible rfl))
              try simp only [Act.put, List.setIfInBounds_toArray, List.set_cons_zero, List.set_cons_succ]
              refine wpAnyH_take (i := 6) (oi := { dst := some 58, op := Op.nilCheck (Operand.tmp 57), type := 0, pos := "look.go:154", after := #[{ on := 5, ground := Ground.data }, { on := 2, ground := Ground.guard }], guard := some (2, false) }) (v := ?vc6) rfl (by kernel_rfl) (by kernel_rfl) (by kernel_rfl) (fun _ _ _ h => h) (Or.inl ⟨by rfl, ?hyc6⟩) (by assumption) ?restc6
              case hyc6 => (intro w' hSw; (try dsimp only at hSw); go_simp; (try with_reducible rfl))
              try simp only [Act.put, List.setIfInBounds_toArray, List.set_cons_zero, List.set_cons_succ]
              refine wpAnyH_take (i := 7) (oi := { dst := some 59, op := Op.fieldAddr 53 (Operand.tmp 58) 0, type := 0, pos := "look.go:154", after := #[{ on := 6, ground := Ground.data }, { on := 2, ground := Ground.guard }], guard := some (2, false) }) (v := ?vc7) rfl (by kernel_rfl) (by kernel_rfl) (by kernel_rfl) (fun _ _ _ h => h) (Or.inl ⟨by rfl, ?hyc7⟩) (by assumption) ?restc7
              case hyc7 => (intro w' hSw; (try dsimp only at hSw); go_simp; (try with_reducible rfl))
              try simp only [Act.put, List.setIfInBounds_toArray, List.set_cons_zero, List.set_cons_succ]
              refine wpAnyH_take (i := 8) (oi := { dst := some 60, op := Op.fieldAddr 37 (Operand.tmp 59) 1, type := 0, pos := "look.go:154", after := #[{ on := 7, ground := Ground.data }, { on := 2, ground := Ground.guard }], guard := some (2, false) }) (v := ?vc8) rfl (by kernel_rfl) (by kernel_rfl) (by kernel_rfl) (fun _ _ _ h => h) (Or.inl ⟨by rfl, ?hyc8⟩) (by assumption) ?restc8
              case hyc8 => (intro w' hSw; (try dsimp only at hSw); go_simp; (try with_reducible rfl))
              try simp only [Act.put, List.setIfInBounds_toArray, List.set_cons_zero, List.set_cons_succ]
              refine wpAnyH_take (i := 9) (oi := { dst := some 61, op := Op.load 3 (Operand.tmp 60), type := 3, pos := "look.go:154", after := #[{ on := 8, ground := Ground.data }, { on := 2, ground := Ground.guard }], guard := some (2, false) }) (v := ?vc9) rfl (by kernel_rfl) (by kernel_rfl) (by kernel_rfl) (fun _ _ _ h => h) (Or.inl ⟨by rfl, ?hyc9⟩) (by assumption) ?restc9
              case hyc9 => (intro w' hSw; (try dsimp only at hSw); go_simp; (try with_reducible rfl))
              try simp only [Act.put, List.setIfInBounds_toArray, List.set_cons_zero, List.set_cons_succ]
              refine wpAnyH_take (i := 10) (oi := { dst := some 62, op := Op.binOp BinOp.gtr 3 (Operand.tmp 56) (Operand.tmp 61) 3, type := 4, pos := "look.go:154", after := #[{ on := 4, ground := Ground.data }, { on := 9, ground := Ground.data }, { on := 2, ground := Ground.guard }], guard := some (2, false) }) (v := ?vc10) rfl (by kernel_rfl) (by kernel_rfl) (by kernel_rfl) (fun _ _ _ h => h) (Or.inl ⟨by rfl, ?hyc10⟩) (by assumption) ?restc10
              case hyc10 => (intro w' hSw; (try dsimp only at hSw); go_simp; (try with_reducible rfl))
              try simp only [Act.put, List.setIfInBounds_toArray, List.set_cons_zero, List.set_cons_succ]
              refine wpAnyH_take (i := 11) (oi := { dst := some 63, op := Op.pick (Operand.tmp 54) (Operand.const (Value.bool true)) (Operand.tmp 62), type := 4, pos := "look.go:154", after := #[{ on := 2, ground := Ground.data }, { on := 10, ground := Ground.data }], guard := none }) (v := ?vc11) rfl (by kernel_rfl) (by kernel_rfl) (by kernel_rfl) (fun _ _ _ h => h) (Or.inl ⟨by rfl, ?hyc11⟩) (by assumption) ?restc11
              case hyc11 => (intro w' hSw; (try dsimp only at hSw); go_simp; (try with_reducible rfl))
              try simp only [Act.put, List.setIfInBounds_toArray, List.set_cons_zero, List.set_cons_succ]
              refine wpAnyH_take (i := 12) (oi := { dst := some 64, op := Op.move (Operand.tmp 63), type := 4, pos := "look.go:154", after := #[{ on := 11, ground := Ground.data }, { on := 2, ground := Ground.chain }], guard := none }) (v := ?vc12) rfl (by kernel_rfl) (by kernel_rfl) (by kernel_rfl) (fun _ _ _ h => h) (Or.inl ⟨by rfl, ?hyc12⟩) (by assumption) ?restc12
              case hyc12 => (intro w' hSw; (try dsimp only at hSw); go_simp; (try with_reducible rfl))
              try simp only [Act.put, List.setIfInBounds_toArray, List.set_cons_zero, List.set_cons_succ]
              refine wpAnyH_take (i := 13) (oi := { dst := some 65, op := Op.move (Operand.tmp 0), type := 47, pos := "look.go:154", after := #[{ on := 12, ground := Ground.guard }], guard := some (12, false) }) (v := ?vc13) rfl (by kernel_rfl) (by kernel_rfl) (by kernel_rfl) (fun _ _ _ h => h) (Or.inl ⟨by rfl, ?hyc13⟩) (by assumption) ?restc13
              case hyc13 => (intro w' hSw; (try dsimp only at hSw); go_simp; (try with_reducible rfl))
              try simp only [Act.put, List.setIfInBounds_toArray, List.set_cons_zero, List.set_cons_succ]
              refine wpAnyH_take (i := 14) (oi := { dst := some 66, op := Op.load 70 (Operand.tmp 9), type := 70, pos := "look.go:154", after := #[{ on := 12, ground := Ground.guard }], guard := some (12, false) }) (v := ?vc14) rfl (by kernel_rfl) (by kernel_rfl) (by kernel_rfl) (fun _ _ _ h => h) (Or.inl ⟨by rfl, ?hyc14⟩) (by assumption) ?restc14
              case hyc14 => (intro w' hSw; (try dsimp only at hSw); go_simp; (try with_reducible rfl))
              try simp only [Act.put, List.setIfInBounds_toArray, List.set_cons_zero, List.set_cons_succ]
              refine wpAnyH_take (i := 15) (oi := { dst := some 67, op := Op.move (Operand.tmp 5), type := 78, pos := "look.go:154", after := #[{ on := 12, ground := Ground.guard }], guard := some (12, false) }) (v := ?vc15) rfl (by kernel_rfl) (by kernel_rfl) (by kernel_rfl) (fun _ _ _ h => h) (Or.inl ⟨by rfl, ?hyc15⟩) (by assumption) ?restc15
              case hyc15 => (intro w' hSw; (try dsimp only at hSw); go_simp; (try with_reducible rfl))
              try simp only [Act.put, List.setIfInBounds_toArray, List.set_cons_zero, List.set_cons_succ]
              refine wpAnyH_ready (rs := [16]) (by kernel_rfl) (by simp) ?_
              refine AllReadyH.cons (o := { dst := some 68, op := Op.call { callee := Callee.value (Operand.func 42), args := #[Operand.tmp 65, Operand.tmp 66, Operand.tmp 67], argTypes := #[47, 70, 78] }, type := 4, pos := "look.go:154", after := #[{ on := 13, ground := Ground.data }, { on := 14, ground := Ground.data }, { on := 15, ground := Ground.data }, { on := 12, ground := Ground.chain }, { on := 12, ground := Ground.guard }], guard := some (12, false) }) rfl (fun K hK => ?_) AllReadyH.nil
              go_simp
              refine HENT.out.mono ?_; rintro e w5 ⟨rfl, ob2, B2, n2, hn2, hlw5, hnb5, hmv5⟩
              have hl5 := hlw5.k.look
              unfold lkCells at hl5
              have hsl5 := (hmv5.block sb hz4 HSA.out (by simp; omega)).trans hsl4
              have HLW5 := Lib.hid hlw5
              have HNB5 := Lib.hid hnb5
              have HMV5 := Lib.hid ((HMV4.out.trans (Moved.of (fr_drew (Fr.refl [] _)) (by simp))).trans hmv5)
              clear hlw5 hnb5 hmv5
              refine hK.out _ _ ⟨hl5, hsl5⟩ (fun hHeld => ?_)
              clear hK K
              try simp only [Act.put, List.setIfInBounds_toArray, List.set_cons_zero, List.set_cons_succ]
              cases r with
              | true =>
                refine wpAnyH_take (i := 17) (oi := { dst := some 69, op := Op.unOp UnOp.not 4 (Operand.tmp 68), type := 4, pos := "look.go:154", after := #[{ on := 16, ground := Ground.data }, { on := 12, ground := Ground.guard }], guard := some (12, false) }) (v := ?vd17) rfl (by kernel_rfl) (by kernel_rfl) (by kernel_rfl) (fun _ _ _ h => h) (Or.inl ⟨by rfl, ?hyd17⟩) (by assumption) ?restd17
                case hyd17 => (intro w' hSw; (try dsimp only at hSw); go_simp; (try with_reducible rfl))
                try simp only [Act.put, List.setIfInBounds_toArray, List.set_cons_zero, List.set_cons_succ]
                refine wpAnyH_take (i := 18) (oi := { dst := some 70, op := Op.pick (Operand.tmp 64) (Operand.const (Value.bool true)) (Operand.tmp 69), type := 4, pos := "look.go:154", after := #[{ on := 12, ground := Ground.data }, { on := 17, ground := Ground.data }], guard := none }) (v := ?vd18) rfl (by kernel_rfl) (by kernel_rfl) (by kernel_rfl) (fun _ _ _ h => h) (Or.inl ⟨by rfl, ?hyd18⟩) (by assumption) ?restd18
                case hyd18 => (intro w' hSw; (try dsimp only at hSw); go_simp; (try with_reducible rfl))
                try simp only [Act.put, List.setIfInBounds_toArray, List.set_cons_zero, List.set_cons_succ]
                refine wpAnyH_done (by kernel_rfl) (NoPanic.normal ?_) _
                go_wp2_with fail
                go_roundw
                case rel =>
                  refine ⟨k + 1, zn2, n2, ob2, B2, by go_num, by omega, by omega, HLW5, HNB5, HMV5, Lib.hid ?_, Lib.hid (HK.out.trans HKP.out)⟩
                  rw [HE3.out, HSZ3.out, if_pos ⟨HEN.out, by omega, rfl⟩]
                case measure => (show M - (k + 1) < M - k); omega
              | false =>
                have hz2 : zn2 = zn := HERF.out rfl
                subst hz2
                refine wpAnyH_take (i := 17) (oi := { dst := some 69, op := Op.unOp UnOp.not 4 (Operand.tmp 68), type := 4, pos := "look.go:154", after := #[{ on := 16, ground := Ground.data }, { on := 12, ground := Ground.guard }], guard := some (12, false) }) (v := ?ve17) rfl (by kernel_rfl) (by kernel_rfl) (by kernel_rfl) (fun _ _ _ h => h) (Or.inl ⟨by rfl, ?hye17⟩) (by assumption) ?reste17
                case hye17 => (intro w' hSw; (try dsimp only at hSw); go_simp; (try with_reducible rfl))
                try simp only [Act.put, List.setIfInBounds_toArray, List.set_cons_zero, List.set_cons_succ]
                refine wpAnyH_take (i := 18) (oi := { dst := some 70, op := Op.pick (Operand.tmp 64) (Operand.const (Value.bool true)) (Operand.tmp 69), type := 4, pos := "look.go:154", after := #[{ on := 12, ground := Ground.data }, { on := 17, ground := Ground.data }], guard := none }) (v := ?ve18) rfl (by kernel_rfl) (by kernel_rfl) (by kernel_rfl) (fun _ _ _ h => h) (Or.inl ⟨by rfl, ?hye18⟩) (by assumption) ?reste18
                case hye18 => (intro w' hSw; (try dsimp only at hSw); go_simp; (try with_reducible rfl))
                try simp only [Act.put, List.setIfInBounds_toArray, List.set_cons_zero, List.set_cons_succ]
                refine wpAnyH_done (by kernel_rfl) (NoPanic.normal ?_) _
                obtain ⟨cswx, hcswx, hszx, -⟩ := HLW5.out.k.want
                have hstx : ∀ raw' w', stRow raw' 128 (at' * 128) V.E.gw (IV .u8 (zl 128)) w' (some (.cells cswx 32 (0, 0))) = .ok () (w'.setRow V.E.gw (splice cswx (at' * 128) (IV .u8 (zl 128)))) := fun raw' w' => stRow_part (by omega) (by simp) (by simp)
                have hcswl := hat_lt hcswx
                go_wp2_with fail
                go_roundw
                case rel =>
                  have hax := HMV5.out.apart nb hnbl2 HNA.out
                  have hnw : nb ≠ V.E.gw := fun e => hax.1 (by rw [e]; simp [mineW])
                  refine ⟨k + 1, (wipeZ at' zn2.1, zn2.2), n2, ob2, B2, by go_num, by omega, by omega, Lib.hid (HLW5.out.wipe hatN hcswx), Lib.hid (HNB5.out.same (hat_setRow _ _ _ _ hnw)), Lib.hid (HMV5.out.trans (Moved.gw _ _)), Lib.hid ?_, Lib.hid ?_⟩
                  · rw [HE3.out]
                    rw [HSZ3.out, if_neg (fun h => by cases h.2.2)]
                  · exact HK.out
                case measure => (show M - (k + 1) < M - k); omega
    · obtain rfl : k = M := by omega
      have hE := HE.out
      rw [Nat.sub_self] at hE
      have HE2 := Lib.hid hE
      clear hE
      go_wp2_with fail
      refine bodyPost_end (results_none rfl _ _ _) rfl ?_
      rw [HE2.out]
      exact ⟨rfl, ob', B', HLW.out, Moved.from HF2.out HMV.out [] (fun k hk => by rw [List.mem_singleton] at hk; exact .inr (by omega))⟩
end Go.Proofs.Ythioepdgnbdohaa
