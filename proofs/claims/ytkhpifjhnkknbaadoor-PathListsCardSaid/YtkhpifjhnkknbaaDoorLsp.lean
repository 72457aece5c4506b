/- Lists of lists of texts: where they lie, and what leaves them alone. -/
import Derived.Test.YtkhpifjhnkknbaaDoorLst
namespace Go.Proofs.YtkhpifjhnkknbaaDoor
set_option linter.unusedSimpArgs false
set_option linter.unusedVariables false
open Go.RowKit

/-- each block of texts stays -/
def Keeps (w w' : World) : Prop := w.heap.size ≤ w'.heap.size ∧ ∀ b cur, hat w b = some (.cells cur 9) → hat w' b = some (.cells cur 9)
theorem Keeps.refl (w : World) : Keeps w w := ⟨Nat.le_refl _, fun _ _ h => h⟩
theorem Keeps.trans {a b c : World} (h : Keeps a b) (h2 : Keeps b c) : Keeps a c := ⟨Nat.le_trans h.1 h2.1, fun k cur hk => h2.2 k cur (h.2 k cur hk)⟩
theorem keeps_below {w w' : World} (h : Below w.heap.size w w') : Keeps w w' := ⟨h.size, fun b cur hb => (hop h hb).1⟩
theorem keeps_alloc (w : World) (o : Obj) : Keeps w (w.alloc o) := keeps_below ((Below.refl w.heap.size w).alloc (Nat.le_refl _) o)
theorem keeps_grown {w w' : World} {B n : Nat} {v : Value} {xs : List Value} (ho : w.ownsRow B 25 1 v n xs) (h : w.grownBy w' v.ownBlock) : Keeps w w' := by
  refine ⟨h.size, fun b cur hb => ?_⟩
  refine (h.block b (hat_lt hb) ?_).trans hb
  rcases ho.2 with ⟨rfl, -⟩ | ⟨g, cap, cu, rfl, -, hg, -⟩
  · intro e; cases e
  · intro e
    have e2 : b = g := by simpa [Value.ownBlock] using e
    subst e2
    have hg2 : hat w b = some (.cells cu 25) := hg
    rw [hb] at hg2
    have := Option.some.inj hg2
    injection this with h1 h2
    exact absurd h2 (by decide)
/-- a list of n texts at block g, full; none where n = 0 -/
def ev (e : Nat × Nat) : Value := if e.2 = 0 then .slice none 0 0 else .slice (some ⟨e.1, 0, none⟩) e.2 e.2
def texts (xs : List ByteArray) : Obj := .cells (xs.map Value.string).toArray 9
structure EsOk (B : Nat) (w : World) (es : List (Nat × Nat)) : Prop where
  apart : es.Pairwise fun a b => a.1 < b.1
  base : ∀ e ∈ es, B ≤ e.1
  lt : ∀ e ∈ es, e.1 < w.heap.size
  small : ∀ e ∈ es, e.2 ≤ 401
  lies : ∀ e ∈ es, e.2 ≠ 0 → ∃ xs : List ByteArray, xs.length = e.2 ∧ hat w e.1 = some (texts xs)
theorem EsOk.nil (B : Nat) (w : World) : EsOk B w [] := ⟨List.Pairwise.nil, by simp, by simp, by simp, by simp⟩
theorem EsOk.keeps {B : Nat} {w w' : World} {es : List (Nat × Nat)} (h : EsOk B w es) (hk : Keeps w w') : EsOk B w' es :=
  ⟨h.apart, h.base, fun e he => Nat.lt_of_lt_of_le (h.lt e he) hk.1, h.small, fun e he hn => by
    obtain ⟨xs, h1, h2⟩ := h.lies e he hn
    exact ⟨xs, h1, hk.2 _ _ h2⟩⟩
theorem EsOk.one {B : Nat} {w w' : World} {es : List (Nat × Nat)} (h : EsOk B w es) (hk : Keeps w w') (hB : B ≤ w.heap.size) (hlt : w.heap.size < w'.heap.size) {v : Value} {xs : List ByteArray} (hs : Sown w' w.heap.size v xs) :
    ∃ e : Nat × Nat, v = ev e ∧ e.2 = xs.length ∧ EsOk B w' (es ++ [e]) := by
  have h2 := h.keeps hk
  have hap : ∀ e : Nat × Nat, w.heap.size ≤ e.1 → (es ++ [e]).Pairwise fun a b => a.1 < b.1 := fun e he => by
    refine List.pairwise_append.2 ⟨h.apart, List.pairwise_singleton _ _, fun a ha b hb => ?_⟩
    have := h.lt a ha
    rw [List.mem_singleton] at hb
    subst hb; omega
  rcases hs with ⟨rfl, rfl⟩ | ⟨g, rfl, h1, h3, h4, h5⟩
  · refine ⟨(w.heap.size, 0), rfl, rfl, hap _ (Nat.le_refl _), ?_, ?_, ?_, ?_⟩
    all_goals
      intro e he
      rw [List.mem_append, List.mem_singleton] at he
    · rcases he with he | rfl
      · exact h2.base e he
      · exact hB
    · rcases he with he | rfl
      · exact h2.lt e he
      · exact hlt
    · rcases he with he | rfl
      · exact h2.small e he
      · exact Nat.zero_le _
    · rcases he with he | rfl
      · exact h2.lies e he
      · intro h0; exact absurd rfl h0
  · refine ⟨(g, xs.length), by unfold ev; rw [if_neg (by show ¬ xs.length = 0; omega)], rfl, hap _ h4, ?_, ?_, ?_, ?_⟩
    all_goals
      intro e he
      rw [List.mem_append, List.mem_singleton] at he
    · rcases he with he | rfl
      · exact h2.base e he
      · exact Nat.le_trans hB h4
    · rcases he with he | rfl
      · exact h2.lt e he
      · exact hat_lt h5
    · rcases he with he | rfl
      · exact h2.small e he
      · exact h3
    · rcases he with he | rfl
      · exact h2.lies e he
      · intro _; exact ⟨xs, rfl, h5⟩
/-- a block of five texts -/
def Txt (w : World) (b : Nat) : Prop := ∃ cur, hat w b = some (.cells cur 9) ∧ ∀ j, j < 5 → ∃ x, cur[j]? = some (.string x)
theorem Txt.keeps {w w' : World} {b : Nat} (h : Txt w b) (hk : Keeps w w') : Txt w' b := by
  obtain ⟨cur, h1, h2⟩ := h
  exact ⟨cur, hk.2 b cur h1, h2⟩
theorem Txt.cell {w : World} {b j : Nat} (h : Txt w b) (hj : j < 5) : ∃ x, cellOf j (hat w b) = some (.string x) := by
  obtain ⟨cur, h1, h2⟩ := h
  obtain ⟨x, hx⟩ := h2 j hj
  exact ⟨x, by rw [← cell?_of_hat, cell_hat h1]; exact hx⟩
theorem Txt.new (w : World) (a b c d e : ByteArray) : Txt (w.alloc (.cells #[.string a, .string b, .string c, .string d, .string e] 9)) w.heap.size :=
  ⟨_, (hopN w _).1, fun j hj => by
    match j, hj with
    | 0, _ => exact ⟨_, rfl⟩
    | 1, _ => exact ⟨_, rfl⟩
    | 2, _ => exact ⟨_, rfl⟩
    | 3, _ => exact ⟨_, rfl⟩
    | 4, _ => exact ⟨_, rfl⟩⟩
theorem Sown.keeps {w w' : World} {B : Nat} {v : Value} {xs : List ByteArray} (h : Sown w B v xs) (hk : Keeps w w') : Sown w' B v xs := by
  rcases h with h | ⟨g, h1, h2, h3, h4, h5⟩
  · exact .inl h
  · exact .inr ⟨g, h1, h2, h3, h4, hk.2 _ _ h5⟩
theorem Sown.slice {w : World} {B : Nat} {v : Value} {xs : List ByteArray} (h : Sown w B v xs) : ∃ a, v = .slice a xs.length xs.length := by
  rcases h with ⟨rfl, rfl⟩ | ⟨g, h1, -⟩
  · exact ⟨_, rfl⟩
  · exact ⟨_, h1⟩
theorem cell_one {w : World} (v : Value) (t : TypeId) : ∀ (j : Nat) (x : Value), [v][j]? = some x → (w.alloc (.cells #[v] t)).cell? ((⟨w.heap.size, 0, none⟩ : Addr).add j) = some x := by
  intro j x hj
  have hadd : (⟨w.heap.size, 0, none⟩ : Addr).add j = ⟨w.heap.size, j, none⟩ := by unfold Addr.add; split <;> simp_all
  rw [hadd, cell_hat (hopN w _).1]
  simpa using hj
theorem slice_one {v : Value} (h : ∃ a n c, v = .slice a n c) : ∀ u ∈ [v], u.oneCell' = true := by
  obtain ⟨a, n, c, rfl⟩ := h
  intro u hu
  rw [List.mem_singleton] at hu
  subst hu; rfl
theorem ev_slice (e : Nat × Nat) : ∃ a n c, ev e = .slice a n c := by
  unfold ev; split
  · exact ⟨_, _, _, rfl⟩
  · exact ⟨_, _, _, rfl⟩
theorem Tryd.infoL : (Tryd.prog.info? 25).map (fun i => (i.zero, i.size, i.bytes)) = some (some (.slice none 0 0), 1, 24) := by kernel_rfl
theorem hat_setCell_ne (w : World) (g i : Nat) (v : Value) (n : Nat) (h : n ≠ g) : hat (w.setCell ⟨g, i, none⟩ v) n = hat w n := hat_setCell _ ⟨g, i, none⟩ v n h
def ea (e : Nat × Nat) : Option Addr := if e.2 = 0 then none else some ⟨e.1, 0, none⟩
theorem ev_eq (e : Nat × Nat) : ev e = .slice (ea e) e.2 e.2 := by
  unfold ev ea
  split
  · rename_i h; rw [h]
  · rfl
theorem ea_pos {e : Nat × Nat} (h : e.2 ≠ 0) : ea e = some ⟨e.1, 0, none⟩ := if_neg h
/-- the list of lists lies at gl -/
def LL (w : World) (gl : Nat) (es : List (Nat × Nat)) : Prop := ∃ cur, hat w gl = some (.cells cur 25) ∧ ∀ (j : Nat) (e : Nat × Nat), es[j]? = some e → cur[j]? = some (ev e)
theorem LL.lt {w : World} {gl : Nat} {es : List (Nat × Nat)} (h : LL w gl es) : gl < w.heap.size := by
  obtain ⟨cur, h1, -⟩ := h
  exact hat_lt h1
theorem LL.same {w w' : World} {gl : Nat} {es : List (Nat × Nat)} (h : LL w gl es) (he : hat w' gl = hat w gl) : LL w' gl es := by
  obtain ⟨cur, h1, h2⟩ := h
  exact ⟨cur, he.trans h1, h2⟩
theorem LL.below {w w' : World} {gl : Nat} {es : List (Nat × Nat)} (h : LL w gl es) (hb : Below w.heap.size w w') : LL w' gl es := h.same (hat_below hb h.lt)
theorem LL.cell {w : World} {gl j : Nat} {e : Nat × Nat} {es : List (Nat × Nat)} (h : LL w gl es) (he : es[j]? = some e) : cellOf j (hat w gl) = some (.slice (ea e) e.2 e.2) := by
  obtain ⟨cur, h1, h2⟩ := h
  rw [← cell?_of_hat, cell_hat h1, h2 j e he, ev_eq]
theorem LL.ne {w : World} {gl g : Nat} {cs : Array Value} {es : List (Nat × Nat)} (h : LL w gl es) (hg : hat w g = some (.cells cs 9)) : gl ≠ g := by
  obtain ⟨cur, h1, h2⟩ := h
  rintro rfl
  rw [hg] at h1
  have := Option.some.inj h1
  injection this with e1 e2
  exact absurd e2 (by decide)
theorem LL.of_own {w : World} {B gl cl n : Nat} {es : List (Nat × Nat)} (h : w.ownsRow B 25 1 (.slice (some ⟨gl, 0, none⟩) n cl) n (es.map ev)) : LL w gl es := by
  rcases h.2 with ⟨h1, -⟩ | ⟨g1, cap, cur, h1, -, h2, -, -, -, h6⟩
  · cases h1
  · cases h1
    refine ⟨cur, h2, fun j e hj => ?_⟩
    have hx : (es.map ev)[j]? = some (ev e) := by rw [List.getElem?_map, hj]; rfl
    rw [← h6, List.getElem?_take] at hx
    split at hx
    · simpa using hx
    · cases hx
/-- what the lists hold: those before k are all tags; k is up to q -/
def CC (w : World) (es : List (Nat × Nat)) (k q : Nat) : Prop := ∀ (j : Nat) (e : Nat × Nat), es[j]? = some e → e.2 ≠ 0 →
  ∃ xs : List ByteArray, xs.length = e.2 ∧ hat w e.1 = some (texts xs) ∧ (j < k → xs = List.replicate e.2 (tg j)) ∧ (j = k → ∀ r, r < q → xs[r]? = some (tg k))
theorem CC.start {B : Nat} {w : World} {es : List (Nat × Nat)} (h : EsOk B w es) : CC w es 0 0 := fun j e he hn => by
  obtain ⟨xs, h1, h2⟩ := h.lies e (List.mem_of_getElem? he) hn
  exact ⟨xs, h1, h2, fun h => by omega, fun _ r hr => by omega⟩
theorem CC.below {w w' : World} {es : List (Nat × Nat)} {k q : Nat} (h : CC w es k q) (hb : Below w.heap.size w w') : CC w' es k q := fun j e he hn => by
  obtain ⟨xs, h1, h2, h3⟩ := h j e he hn
  exact ⟨xs, h1, (hop hb h2).1, h3⟩
theorem CC.next {w : World} {es : List (Nat × Nat)} {k q : Nat} {e : Nat × Nat} (h : CC w es k q) (he : es[k]? = some e) (hq : q = e.2) : CC w es (k + 1) 0 := fun j e' he' hn => by
  obtain ⟨xs, h1, h2, h3, h4⟩ := h j e' he' hn
  refine ⟨xs, h1, h2, fun hj => ?_, fun _ r hr => by omega⟩
  by_cases hjk : j = k
  · subst hjk
    rw [he] at he'
    obtain rfl := Option.some.inj he'
    have h5 := h4 rfl
    refine List.ext_getElem? fun r => ?_
    by_cases hr : r < e.2
    · rw [h5 r (by omega), List.getElem?_replicate, if_pos hr]
    · rw [List.getElem?_eq_none (by omega), List.getElem?_eq_none (by simp; omega)]
  · exact h3 (by omega)
theorem CC.set {w : World} {es : List (Nat × Nat)} {k q : Nat} {e : Nat × Nat} (hp : es.Pairwise fun a b => a.1 < b.1) (h : CC w es k q) (he : es[k]? = some e) (hq : q < e.2) : CC (w.setCell ⟨e.1, q, none⟩ (.string (tg k))) es k (q + 1) := fun j e' he' hn => by
  obtain ⟨xs, h1, h2, h3, h4⟩ := h j e' he' hn
  by_cases hjk : j = k
  · subst hjk
    rw [he] at he'
    obtain rfl := Option.some.inj he'
    refine ⟨xs.set q (tg j), by simp [h1], ?_, fun hj => by omega, fun _ r hr => ?_⟩
    · rw [hat_setCell_at _ _ _ _ _ _ _ h2]
      unfold texts
      congr 2
      apply Array.ext'
      simp [List.map_set]
    · rw [List.getElem?_set]
      by_cases hrq : q = r
      · subst hrq; rw [if_pos rfl, if_pos (by omega)]
      · rw [if_neg hrq]; exact h4 rfl r (by omega)
  · have hne : e'.1 ≠ e.1 := by
      have hj := (List.getElem?_eq_some_iff.1 he')
      have hk := (List.getElem?_eq_some_iff.1 he)
      obtain ⟨hjl, hje⟩ := hj
      obtain ⟨hkl, hke⟩ := hk
      rw [List.pairwise_iff_getElem] at hp
      rcases Nat.lt_or_gt_of_ne hjk with hlt | hlt
      · have := hp j k hjl hkl hlt
        rw [hje, hke] at this; omega
      · have := hp k j hkl hjl hlt
        rw [hje, hke] at this; omega
    refine ⟨xs, h1, (hat_setCell _ _ _ _ hne).trans h2, h3, fun hj => absurd hj hjk⟩
theorem CC.cell {w : World} {es : List (Nat × Nat)} {k q j : Nat} {e : Nat × Nat} (h : CC w es k q) (he : es[j]? = some e) {r : Nat} (hr : r < e.2) : ∃ (cur : Array Value) (x : ByteArray), hat w e.1 = some (.cells cur 9) ∧ cur[r]? = some (.string x) := by
  obtain ⟨xs, h1, h2, -⟩ := h j e he (by omega)
  obtain ⟨x, hx⟩ := getElem_opt (l := xs) (k := r) (by omega)
  exact ⟨_, x, h2, by simp [hx]⟩
theorem CC.tag {w : World} {es : List (Nat × Nat)} {k q j : Nat} {e : Nat × Nat} (h : CC w es k q) (hj : j < k) (he : es[j]? = some e) (hn : e.2 ≠ 0) : hat w e.1 = some (texts (List.replicate e.2 (tg j))) := by
  obtain ⟨xs, h1, h2, h3, -⟩ := h j e he hn
  rw [h3 hj] at h2
  exact h2
theorem Full.below {w w' : World} {ao : Option Addr} {n : Nat} {olds : List Value} (h : Full w ao n olds) (hb : Below w.heap.size w w') : Full w' ao n olds := by
  obtain ⟨h1, h2⟩ := h
  refine ⟨h1, h2.imp id fun ⟨g, e, hg⟩ => ⟨g, e, (hop hb hg).1⟩⟩
theorem Gr.below {W w w' : World} {ao : Option Addr} {n k : Nat} {olds : List Value} {u : ByteArray} {v : Value} (h : Gr W w ao n olds u v k) (hb : Below w.heap.size w w') : Gr W w' ao n olds u v k :=
  h.imp id fun ⟨h1, h2⟩ => ⟨h1, own_call h2 hb⟩
theorem full_cc {w : World} {es : List (Nat × Nat)} {k q j : Nat} {e : Nat × Nat} (h : CC w es k q) (hj : j < k) (he : es[j]? = some e) : Full w (ea e) e.2 (List.replicate e.2 (.string (tg j))) := by
  refine ⟨by simp, ?_⟩
  by_cases hn : e.2 = 0
  · exact .inl ⟨by unfold ea; rw [if_pos hn], hn⟩
  · refine .inr ⟨e.1, ea_pos hn, ?_⟩
    have h2 := h.tag hj he hn
    unfold texts at h2
    rw [List.map_replicate] at h2
    exact h2
/-- the grown list of number j -/
def HH (w : World) (j : Nat) (e : Nat × Nat) (v : Value) : Prop :=
  ∃ h c cur, v = .slice (some ⟨h, 0, none⟩) (e.2 + 9) c ∧ hat w h = some (.cells cur 9) ∧ ∀ r, r < e.2 + 9 → cur[r]? = some (.string (tg j))
theorem HH.keeps {w w' : World} {j : Nat} {e : Nat × Nat} {v : Value} (h : HH w j e v) (hk : Keeps w w') : HH w' j e v := by
  obtain ⟨b, c, cur, h1, h2, h3⟩ := h
  exact ⟨b, c, cur, h1, hk.2 _ _ h2, h3⟩
theorem HH.of_own {w : World} {B j : Nat} {e : Nat × Nat} {v : Value} (h : w.ownsRow B 9 1 v (e.2 + 9) (List.replicate e.2 (.string (tg j)) ++ List.replicate 9 (.string (tg j)))) : HH w j e v := by
  rcases h.2 with ⟨-, h0⟩ | ⟨g1, cap, cur, rfl, -, h2, -, -, -, h6⟩
  · omega
  · refine ⟨g1, cap, cur, rfl, h2, fun r hr => ?_⟩
    have hx : (List.replicate e.2 (Value.string (tg j)) ++ List.replicate 9 (Value.string (tg j)))[r]? = some (.string (tg j)) := by
      rw [List.replicate_append_replicate, List.getElem?_replicate, if_pos hr]
    rw [← h6, List.getElem?_take] at hx
    split at hx
    · simpa using hx
    · cases hx
/-- the grown lists -/
def GG (w : World) (es : List (Nat × Nat)) (vs : List Value) : Prop := ∀ (j : Nat) (e : Nat × Nat) (v : Value), es[j]? = some e → vs[j]? = some v → HH w j e v
theorem GG.keeps {w w' : World} {es : List (Nat × Nat)} {vs : List Value} (h : GG w es vs) (hk : Keeps w w') : GG w' es vs := fun j e v he hv => (h j e v he hv).keeps hk
theorem GG.one {w : World} {es : List (Nat × Nat)} {vs : List Value} {k : Nat} {e : Nat × Nat} {v : Value} (h : GG w es vs) (hl : vs.length = k) (he : es[k]? = some e) (hv : HH w k e v) : GG w es (vs ++ [v]) := fun j e' v' he' hv' => by
  rw [List.getElem?_append] at hv'
  split at hv'
  · exact h j e' v' he' hv'
  · rename_i hj
    have hjk : j - vs.length = 0 := by
      have := (List.getElem?_eq_some_iff.1 hv').1
      simp at this; omega
    have hjk2 : j = k := by omega
    subst hjk2
    rw [hjk] at hv'
    obtain rfl := Option.some.inj hv'
    rw [he] at he'
    obtain rfl := Option.some.inj he'
    exact hv
end Go.Proofs.YtkhpifjhnkknbaaDoor
