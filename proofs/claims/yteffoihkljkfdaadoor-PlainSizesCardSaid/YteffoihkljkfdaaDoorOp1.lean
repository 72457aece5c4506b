/- General laws for a claim's frame: arguments without memory, opened by their cells' types; a law's end, where below the old heap nothing has turned. -/
import Derived.ProofKit
import Derived.Carry
import Derived.OpenShut
import Derived.Test.YteffoihkljkfdaaDoorBk
namespace Go.Proofs.YteffoihkljkfdaaDoor
set_option linter.unusedSimpArgs false
set_option linter.unusedVariables false
open Go.ChangeShapes Go.WideShapes Go.ChangeAt Go.RowKit

theorem cell_int {P : Program} {w : World} {base : Nat} {t : TypeId} {k : IntKind} {v : Value} (ht : P.underlying t = some (.int k)) (h : Cell.okWide P w .any base t v) : ∃ n, v = .int k n ∧ (Lit.int k n).wf = true := by
  unfold Cell.okWide at h
  rw [ht] at h
  cases v <;> simp [Cell.ok, ht] at h
  obtain ⟨rfl, h⟩ := h
  exact ⟨_, rfl, by simpa [Lit.wf, IntKind.has] using h⟩
theorem cell_str {P : Program} {w : World} {base : Nat} {t : TypeId} {v : Value} (ht : P.underlying t = some .string) (h : Cell.okWide P w .any base t v) : ∃ s : ByteArray, v = .string s ∧ s.size ≤ maxLen := by
  unfold Cell.okWide at h
  rw [ht] at h
  cases v <;> simp [Cell.ok, ht] at h
  refine ⟨_, rfl, ?_⟩
  unfold maxLen
  omega

/-- all cells numbers of one kind: a list of numbers -/
theorem ints_of {k : IntKind} : ∀ (cs : List Value), (∀ v ∈ cs, ∃ n, v = .int k n ∧ (Lit.int k n).wf = true) → ∃ l : List Int, cs = l.map (Value.int k) ∧ ∀ x ∈ l, (Lit.int k x).wf = true
  | [], _ => ⟨[], rfl, by simp⟩
  | v :: cs, h => by
    obtain ⟨n, rfl, hn⟩ := h v (by simp)
    obtain ⟨l, rfl, hl⟩ := ints_of cs (fun v hv => h v (by simp [hv]))
    exact ⟨n :: l, rfl, by simpa using ⟨hn, hl⟩⟩

theorem open_row {P : Program} {w : World} {base : Nat} {t : TypeId} {v : Value} {ts : List TypeId} (hc : P.cellTypes P.depth t = some ts) (hs : P.cellsOf t = ts.length) (h : ∃ cs, v = .agg cs ∧ cs.size = P.cellsOf t ∧ Row.okWide P w .any base t cs) :
    ∃ cs : Array Value, v = .agg cs ∧ cs.size = ts.length ∧ ∀ (i : Nat) (u : TypeId), ts[i]? = some u → ∃ c, cs[i]? = some c ∧ Cell.okWide P w .any base u c := by
  obtain ⟨cs, rfl, hz, ts', h1, _, h2⟩ := h
  rw [hc] at h1
  obtain rfl := Option.some.inj h1
  refine ⟨cs, rfl, hz.trans hs, fun i u hu => ?_⟩
  have hi : i < ts.length := by
    by_cases h : i < ts.length
    · exact h
    · rw [List.getElem?_eq_none (by omega)] at hu; cases hu
  have hi' : i < cs.size := by rw [hz, hs]; exact hi
  obtain ⟨u', hu', hok⟩ := h2 i cs[i] (Array.getElem?_eq_getElem hi')
  rw [Nat.mod_eq_of_lt hi, hu] at hu'
  obtain rfl := Option.some.inj hu'
  exact ⟨cs[i], Array.getElem?_eq_getElem hi', hok⟩

/-- a struct or an array of numbers of one kind, by value -/
theorem open_IV {P : Program} {w : World} {base n : Nat} {t e : TypeId} {k : IntKind} {v : Value} (he : P.underlying e = some (.int k)) (hc : P.cellTypes P.depth t = some (List.replicate n e)) (hs : P.cellsOf t = n)
    (h : ∃ cs, v = .agg cs ∧ cs.size = P.cellsOf t ∧ Row.okWide P w .any base t cs) : ∃ l : List Int, v = .agg (IV k l) ∧ l.length = n ∧ ∀ x ∈ l, (Lit.int k x).wf = true := by
  obtain ⟨cs, rfl, hz, hf⟩ := open_row hc (by simpa using hs) h
  obtain ⟨l, hl, hw⟩ := ints_of (k := k) cs.toList (fun v hv => by
    obtain ⟨i, hi, rfl⟩ := List.getElem_of_mem hv
    have hi' : i < n := by simpa [hz] using hi
    obtain ⟨c, hc', hok⟩ := hf i e (by simp [hi'])
    have hi2 : i < cs.size := by simpa using hi
    rw [Array.getElem?_eq_getElem hi2] at hc'
    obtain rfl := Option.some.inj hc'
    obtain ⟨m, hm, hw⟩ := cell_int he hok
    exact ⟨m, by simpa using hm, hw⟩)
  refine ⟨l, ?_, ?_, hw⟩
  · have : cs = cs.toList.toArray := by simp
    rw [this, hl]; rfl
  · have := congrArg List.length hl
    simp [hz] at this; exact this.symm
/-- numbers of one kind, and a text behind them -/
theorem open_IVS {P : Program} {w : World} {base n : Nat} {t e st : TypeId} {k : IntKind} {v : Value} (he : P.underlying e = some (.int k)) (hst : P.underlying st = some .string) (hc : P.cellTypes P.depth t = some (List.replicate n e ++ [st])) (hs : P.cellsOf t = n + 1)
    (h : ∃ cs, v = .agg cs ∧ cs.size = P.cellsOf t ∧ Row.okWide P w .any base t cs) : ∃ (l : List Int) (s : ByteArray), v = .agg (IV k l ++ #[.string s]) ∧ l.length = n ∧ (∀ x ∈ l, (Lit.int k x).wf = true) ∧ s.size ≤ maxLen := by
  obtain ⟨cs, rfl, hz, hf⟩ := open_row hc (by simpa using hs) h
  simp only [List.length_append, List.length_replicate, List.length_cons, List.length_nil] at hz
  obtain ⟨l, hl, hw⟩ := ints_of (k := k) (cs.toList.take n) (fun v hv => by
    obtain ⟨i, hi, rfl⟩ := List.getElem_of_mem hv
    have hi' : i < n := by simp [hz] at hi; omega
    obtain ⟨c, hc', hok⟩ := hf i e (by rw [List.getElem?_append_left (by simpa using hi')]; simp [hi'])
    have hi2 : i < cs.size := by omega
    rw [Array.getElem?_eq_getElem hi2] at hc'
    obtain rfl := Option.some.inj hc'
    obtain ⟨m, hm, hw⟩ := cell_int he hok
    exact ⟨m, by simpa using hm, hw⟩)
  obtain ⟨c, hc', hok⟩ := hf n st (by rw [List.getElem?_append_right (by simp)]; simp)
  obtain ⟨s, rfl, hss⟩ := cell_str hst hok
  have hlen : l.length = n := by
    have := congrArg List.length hl
    simp [hz] at this; omega
  refine ⟨l, s, ?_, hlen, hw, hss⟩
  have e1 : cs.toList = l.map (Value.int k) ++ [.string s] := by
    rw [← hl, ← List.take_append_drop n cs.toList]
    congr 1
    · simp
    · have : cs.toList.drop n = [cs.toList[n]'(by simp [hz])] := by
        rw [List.drop_eq_getElem_cons (by simp [hz])]
        congr 1
        exact List.drop_eq_nil_of_le (by simp [hz])
      rw [this]
      rw [Array.getElem?_eq_getElem (by omega)] at hc'
      have := Option.some.inj hc'
      simp [this]
  have : cs = cs.toList.toArray := by simp
  rw [this, e1]; simp [IV]

theorem ints_bytes {l : List Int} (h : ∀ x ∈ l, (Lit.int .u8 x).wf = true) : ∀ x ∈ l, 0 ≤ x ∧ x < 256 := fun x hx => by
  have := bounds_u8 (h x hx); omega
theorem ints_i64 {l : List Int} (h : ∀ x ∈ l, (Lit.int .i64 x).wf = true) : ∀ i, -9223372036854775808 ≤ nth l i ∧ nth l i ≤ 9223372036854775807 := fun i => by
  unfold nth
  cases hi : l[i]? with
  | none => simp
  | some x =>
    have := bounds_i64 (h x (List.mem_of_getElem? hi))
    simp; omega

theorem list_two {α : Type} {l : List α} (h : l.length = 2) : ∃ x y, l = [x, y] := by
  match l, h with
  | [x, y], _ => exact ⟨x, y, rfl⟩

/-! ### the law's end -/
theorem trodAll_below {H : Type} {enc : TypeId × Value → H} {P : Program} (hl : laidOutB P = true) {W W' : World} (hb : Below W.heap.size W W') :
    ∀ {ts : List TypeId} {vs : List Value} {ds : List (DataW H)} {ps : List MemPlace}, (ts.all fun t => P.readableRec t && decide (t < P.types.size)) = true → DataW.TrodAll enc P W 0 (fun _ => true) true ts vs ds ps → (∀ x ∈ ps, x.block < W.heap.size) →
      DataW.TrodAll enc P W' 0 (fun b => decide (b < W.heap.size)) true ts vs ds ps
  | [], [], [], _, _, h, _ => h
  | [], [], _ :: _, _, _, h, _ => h.elim
  | [], _ :: _, [], _, _, h, _ => h.elim
  | [], _ :: _, _ :: _, _, _, h, _ => h.elim
  | _ :: _, [], [], _, _, h, _ => h.elim
  | _ :: _, [], _ :: _, _, _, h, _ => h.elim
  | _ :: _, _ :: _, [], _, _, h, _ => h.elim
  | t :: ts, v :: vs, d :: ds, ps, hr, ⟨p, q, h1, h2, e⟩, hs => by
    simp only [List.all_cons, Bool.and_eq_true, decide_eq_true_eq] at hr
    exact ⟨p, q, Below.trod hl hr.1.1 hr.1.2 h1 hb (fun x hx => hs x (by rw [e]; exact List.mem_append_left _ hx)), trodAll_below hl hb hr.2 h2 (fun x hx => hs x (by rw [e]; exact List.mem_append_right _ hx)), e⟩

theorem post_law {H : Type} {enc : TypeId × Value → H} {P : Program} {f : Func} {s : ChangeSpec} {W W' : World} {args : Array Value} {ds : List (DataW H)} {before : List MemPlace} {T : TypeId} (hl : laidOutB P = true)
    (hW : DataW.Whole enc P f.params.toList s.vars false W args.toList ds [] before) (hvars : s.vars = []) (hres : (s.fn H ds).results = [.lit (.bool true)]) (hargs : (s.fn H ds).args = ds) (hvs : (s.fn H ds).vars = [])
    (hr : (f.params.toList.all fun t => P.readableRec t && decide (t < P.types.size)) = true) (hrt : f.resultTypes = #[T]) (hT : P.underlying T = some .bool) (hb : Below W.heap.size W W') :
    s.post enc P f false true false false W args (.bool true) W' := by
  have hW' := hW
  have hlt : ∀ x ∈ before, x.block < W.heap.size := fun x hx => by simpa using hW'.lt x hx
  obtain ⟨p, q, hA, hV, rfl, -, -⟩ := hW
  rw [hvars] at hV
  have hq : q = [] := (trodVars_none hV).2
  subst hq
  refine ⟨ds, [], _, [], p, [], hW', ?_, ?_, ?_, hb.frame _, fun h => by cases h⟩
  · rw [List.append_nil, hres, hrt]
    exact trodAll_mk1 (shut_bool hT true)
  · rw [List.append_nil, hargs]
    exact trodAll_below hl hb hr hA (fun x hx => hlt x (by simp [hx]))
  · rw [List.append_nil, hvs, hvars]
    rfl
end Go.Proofs.YteffoihkljkfdaaDoor
