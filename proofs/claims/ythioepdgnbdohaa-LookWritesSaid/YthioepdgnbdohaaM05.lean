/- Contracts and laws that the claim leans on, laid together in the order in which they build. -/
import Derived.Lib.SliceRun
import Derived.StringKeys
import Derived.Maps.RangeWalk
import Derived.Deep.Cut
import Derived.Laws.EntriesVeiled
import Derived.Deep.RegionHeld3
import Derived.Test.YthioepdgnbdohaaM04

/- sector.Wipe. -/
namespace Go.Proofs.Ythioepdgnbdohaa
set_option linter.unusedSimpArgs false
set_option linter.unusedVariables false
open Go.RowKit

/-- all bytes from k on are 0 -/
def wipeL (s : List Int) (k : Nat) : List Int := s.take k ++ zl (128 - k)
@[simp] theorem wipeL_length {s : List Int} (h : s.length = 128) {k : Nat} (hk : k ≤ 128) : (wipeL s k).length = 128 := by
  simp [wipeL, h]; omega
theorem bytes_wipeL {s : List Int} (h : Bytes s) (k : Nat) : Bytes (wipeL s k) := by
  intro x hx
  unfold wipeL at hx
  rw [List.mem_append] at hx
  rcases hx with hx | hx
  · exact h x (List.mem_of_mem_take hx)
  · unfold zl at hx
    rw [List.mem_replicate] at hx
    omega
theorem nth_wipeL {s : List Int} (h : s.length = 128) {k : Nat} (hk : k ≤ 128) (j : Nat) : nth (wipeL s k) j = if j < k then nth s j else 0 := by
  unfold wipeL
  by_cases hj : j < k
  · rw [if_pos hj, nth_append_left (by simp [h]; omega)]
    unfold nth
    rw [List.getElem?_take, if_pos hj]
  · rw [if_neg hj, nth_append_right (by simp [h]; omega), zl_get]
theorem run_clear_u8 {w : World} {g : Nat} {s : List Int} {t : TypeId} (hg : hat w g = some (.cells (IV .u8 s) t)) (hs : s.length = 128) (k : Nat) (hk : k < 128) (ty : TypeId) :
    (Builtin.clear_ #[92] ty #[.slice (some ⟨g, k, none⟩) (128 - k) (128 - k)]).run Try.prog w = .ok (.tuple #[]) (w.setRow g (IV .u8 (wipeL s k))) := by
  have hv : ∀ w, (zeroValue 5).run Try.prog w = .ok (.int .u8 0) w := fun w => by kernel_rfl
  have hz : (Value.int .u8 0).cells = #[.int .u8 0] := rfl
  have ht : Try.prog.underlying 92 = some (.slice 5) := Try.underlying92
  obtain ⟨n, hn⟩ : ∃ n, 128 - k = n + 1 := ⟨127 - k, by omega⟩
  have hzc : (Builtin.zeroCells (Value.int .u8 0).cells (128 - k)).toList = List.replicate (128 - k) (.int .u8 0) := by
    rw [hz]
    simp [Builtin.zeroCells]
    apply List.ext_getElem
    · simp
    · intro i h1 h2
      simp [Nat.mod_one]
  have hst := run_storeCells_at (P := Try.prog) g k t (List.replicate (128 - k) (.int .u8 0)) 0 (IV .u8 s) w hg (by simp [hs]; omega) (fun v hv' => by rw [List.eq_of_mem_replicate hv']; rfl)
  have he : ((IV .u8 s).toList.take (k + 0) ++ List.replicate (128 - k) (Value.int .u8 0) ++ (IV .u8 s).toList.drop (k + 0 + (List.replicate (128 - k) (Value.int .u8 0)).length)).toArray = IV .u8 (wipeL s k) := by
    have hd : (IV .u8 s).toList.drop (k + 0 + (List.replicate (128 - k) (Value.int .u8 0)).length) = [] := List.drop_of_length_le (by simp [hs]; omega)
    rw [hd]
    unfold IV wipeL zl
    simp [List.map_take]
  rw [he] at hst
  rw [hn] at hzc hst ⊢
  simp only [Builtin.clear_, Sem.run_bind, run_underlying ht, Result.andThen_ok, hv]
  simp [hzc, hst, hv]
theorem wpList_clear_run {P : Program} (w : World) {ops : Array Oper} {rest : List Oper} {o : Oper} {a : Act} {Q : Exit → Act → World → Prop} (hgd : o.guard = none) (s : Operand) (t : TypeId)
    (ho : o.op = .call { callee := .builtin .clear, args := #[s], argTypes := #[t] }) (v : Value) (hs : a.eval s = v) (w' : World)
    (hr : (Builtin.clear_ #[t] o.type #[v]).run P w = .ok (.tuple #[]) w') (h : wpList P ops Q rest (a.put o.dst (.tuple #[])) w') : wpList P ops Q (o :: rest) a w := by
  refine wpList_plain hgd fun K hK => ?_
  unfold Oper.wp
  simp [execOp, ho, resolve, invoke, builtin, hs, hr, Result.andThen]
  exact hK _ _ h
set_option maxHeartbeats 4000000 in
set_option maxRecDepth 100000 in
theorem wipe_any (s : List Int) (hs : s.length = 128) (k : Nat) (hk : k < 128) (w : World) :
    Calls Try.prog 40 #[.agg (IV .u8 s), .int .i64 k] w fun e w' => e = .returned (.agg (IV .u8 (wipeL s k))) ∧ Below w.heap.size w w' := by
  have hk0 : (0 : Int) ≤ (k : Int) := Int.natCast_nonneg _
  have hk1 : (k : Int) < 128 := by omega
  have d1 : decide ((k : Int) < 128) = true := decide_eq_true hk1
  have h1 : hat ((w.alloc (.cells (IV .u8 s) 32)).alloc (.cells (IV .u8 (zl 128)) 32)) w.heap.size = some (.cells (IV .u8 s) 32) := by simp [go_sem]
  have h2 : hat ((w.alloc (.cells (IV .u8 s) 32)).alloc (.cells (IV .u8 (zl 128)) 32)) (w.heap.size + 1) = some (.cells (IV .u8 (zl 128)) 32) := by simp [go_sem]
  have hb : Below w.heap.size w ((w.alloc (.cells (IV .u8 s) 32)).alloc (.cells (IV .u8 (zl 128)) 32)) := ((Below.refl w.heap.size w).alloc (Nat.le_refl _) _).alloc (by simp) _
  have hr := run_clear_u8 h1 hs k hk 0
  have hw : (wipeL s k).length = 128 := wipeL_length hs (by omega)
  have h3 := hat_setRow_at _ _ (IV .u8 (wipeL s k)) _ _ _ h1
  have h4 := (hat_setRow _ w.heap.size (w.heap.size + 1) (IV .u8 (wipeL s k)) (by omega)).trans h2
  have hb2 := below_setRow hb (Nat.le_refl _) (IV .u8 (wipeL s k))
  have HB := Lib.hid hb2
  generalize hW : (w.alloc (.cells (IV .u8 s) 32)).alloc (.cells (IV .u8 (zl 128)) 32) = w1 at *
  generalize hW2 : w1.setRow w.heap.size (IV .u8 (wipeL s k)) = w2 at *
  clear hb hb2
  go_enter Try.func40, Try.ntmps40
  go_wp2_with fail
  exact ret_c row32 rfl (cs := IV .u8 (wipeL s k)) rfl (hopS h4 _).1 (by simp [hw]) rfl ⟨rfl, below_setRow HB.out (by omega) _⟩
end Go.Proofs.Ythioepdgnbdohaa

/- Inodes by numbers, as the program's map has them: pointers. -/
namespace Go.Proofs.Ythioepdgnbdohaa
set_option linter.unusedSimpArgs false
set_option linter.unusedVariables false
open Go.RowKit

/-- how a pointer to a whole variable reads -/
def ptrElem : Value → Option (DataW Unit × List MemPlace)
  | .pointer none => some (.nil, [])
  | .pointer (some ⟨b, 0, none⟩) => some (.lit (.int .i64 b), [])
  | _ => none
def ptrOf : Option Nat → Value
  | none => .pointer none
  | some b => .pointer (some ⟨b, 0, none⟩)
def ptrD : Option Nat → DataW Unit
  | none => .nil
  | some b => .lit (.int .i64 b)
theorem ptrElem_of (g : Option Nat) : ptrElem (ptrOf g) = some (ptrD g, []) := by cases g <;> rfl
theorem ptrElem_inv {v : Value} {g : Option Nat} {ps : List MemPlace} (h : ptrElem v = some (ptrD g, ps)) : v = ptrOf g := by
  unfold ptrElem at h
  split at h
  · cases g with
    | none => rfl
    | some b => simp [ptrD] at h
  · cases g with
    | none => simp [ptrD] at h
    | some b =>
      simp [ptrD] at h
      obtain ⟨h, -⟩ := h
      have := h
      rename_i b'
      have : b' = b := by omega
      subst this; rfl
  · cases h
/-- block b is a map of at most n entries: the inodes f -/
def MP (w : World) (b n : Nat) (f : Int → Option Nat) : Prop :=
  ∃ D : DataW Unit, w.ownsMap Try.prog 3 ptrElem b n D ∧ Go.Maps.IsMap D ∧ (∀ p, i64ok p → Go.Maps.has D (.int .i64 p) = (f p).isSome) ∧ ∀ p, i64ok p → D.atKey (.int .i64 p) .nil = ptrD (f p)
theorem MP.lt {w : World} {b n : Nat} {f : Int → Option Nat} (h : MP w b n f) : b < w.heap.size := by
  obtain ⟨D, h1, -⟩ := h; exact h1.lt
theorem MP.same {w w' : World} {b n : Nat} {f : Int → Option Nat} (h : MP w b n f) (he : hat w' b = hat w b) : MP w' b n f := by
  obtain ⟨D, ⟨es, clock, hb, h1⟩, h2⟩ := h
  exact ⟨D, ⟨es, clock, he.trans hb, h1⟩, h2⟩
theorem MP.made (w : World) : MP (w.alloc (.map #[] 0)) w.heap.size 0 (fun _ => none) :=
  ⟨.map [], World.ownsMap_made w _ _ _, Go.Maps.isMap_empty, fun _ _ => rfl, fun _ _ => rfl⟩
theorem zeroPtr (w : World) : (zeroValue 61).run Try.prog w = .ok (.pointer none) w := by kernel_rfl
theorem MP.look {w : World} {b n : Nat} {f : Int → Option Nat} (h : MP w b n f) {p : Int} (hp : i64ok p) :
    (Instr.lookup 50 (.map (some b)) (.int .i64 p) false).run Try.prog w = .ok (ptrOf (f p)) w := by
  obtain ⟨D, h1, -, h2, h3⟩ := h
  obtain ⟨v, ps, hr, hv⟩ := h1.lookup (Go.Maps.int_keyed Try.underlying3) Try.underlying50 (zeroPtr w) (zd := .nil) (zp := []) rfl (keyInt hp)
  rw [h3 p hp] at hv
  rw [ptrElem_inv hv] at hr
  exact hr
def putN (f : Int → Option Nat) (p : Int) (g : Nat) : Int → Option Nat := fun q => if q = p then some g else f q
theorem MP.put {w : World} {b n : Nat} {f : Int → Option Nat} (h : MP w b n f) (hn : n < maxLen) {p : Int} (g : Nat) (hp : i64ok p) :
    ∃ w', (Instr.mapUpdate 50 (.map (some b)) (.int .i64 p) (.pointer (some ⟨g, 0, none⟩))).run Try.prog w = .ok () w' ∧ MP w' b (n + 1) (putN f p g) ∧ w.mapTurned w' b := by
  obtain ⟨D, h1, h0, h2, h3⟩ := h
  obtain ⟨w', hr, ho, ht⟩ := h1.store (Go.Maps.int_keyed Try.underlying3) Try.underlying50 hn (keyInt hp) (d := ptrD (some g)) (ps := []) (val := .pointer (some ⟨g, 0, none⟩)) (ptrElem_of (some g))
  refine ⟨w', hr, ⟨_, ho, h0.put _ _, fun q hq => ?_, fun q hq => ?_⟩, ht⟩
  · unfold putN
    by_cases hqp : q = p
    · subst hqp
      rw [Go.Maps.has_put_same h0 (keyInt_is hq)]; simp
    · rw [Go.Maps.has_put_other (litInt_ne hqp), h2 q hq, if_neg hqp]
  · unfold putN
    by_cases hqp : q = p
    · subst hqp
      rw [Go.Maps.atKey_put_same h0 (keyInt_is hq)]; simp
    · rw [Go.Maps.atKey_put_other (litInt_ne hqp), h3 q hq, if_neg hqp]
def PB (w : World) (b : Nat) (f : Int → Option Nat) : Prop := MP w b 4096 f ∧ ∀ p, (f p).isSome = true → 0 ≤ p ∧ p < 4096
theorem MP.tight {w : World} {b n : Nat} {f : Int → Option Nat} (h : MP w b n f) (hs : ∀ p, (f p).isSome = true → 0 ≤ p ∧ p < 4096) : PB w b f := by
  obtain ⟨D, h1, h2, h3, h4⟩ := h
  exact ⟨⟨D, own_tight h1 (fun p hp hh => hs p (by rw [← h3 p hp]; exact hh)), h2, h3, h4⟩, hs⟩
theorem PB.same {w w' : World} {b : Nat} {f : Int → Option Nat} (h : PB w b f) (he : hat w' b = hat w b) : PB w' b f := ⟨h.1.same he, h.2⟩
theorem PB.lt {w : World} {b : Nat} {f : Int → Option Nat} (h : PB w b f) : b < w.heap.size := h.1.lt
theorem PB.put {w : World} {b : Nat} {f : Int → Option Nat} (h : PB w b f) {p : Int} (g : Nat) (hp : 0 ≤ p ∧ p < 4096) :
    ∃ w', (Instr.mapUpdate 50 (.map (some b)) (.int .i64 p) (.pointer (some ⟨g, 0, none⟩))).run Try.prog w = .ok () w' ∧ PB w' b (putN f p g) ∧ w.mapTurned w' b := by
  obtain ⟨w', h1, h2, h3⟩ := h.1.put (by unfold maxLen; omega) (p := p) g (i64_small hp.1 (by omega))
  refine ⟨w', h1, h2.tight fun q hq => ?_, h3⟩
  unfold putN at hq
  by_cases hqp : q = p
  · subst hqp; exact hp
  · rw [if_neg hqp] at hq
    exact h.2 q hq
end Go.Proofs.Ythioepdgnbdohaa

/- What an inode comes to that is taken up: plain functions, no program in sight. -/
namespace Go.Proofs.Ythioepdgnbdohaa
set_option linter.unusedSimpArgs false
set_option linter.unusedVariables false
open Go.RowKit

def goodX (X Y : Int) (p : Int) (st : LS) : Bool × LS := if isD X Y p = true ∧ st.cl p = false then (true, { st with cl := addS st.cl p }) else (false, st)
def rowX (X Y n base : Int) (ps : List Int) (st : LS) : List Int × Bool × LS := siftP (goodX X Y) (keepRow base) base 1 n 0 ps st
noncomputable def belowX (X Y n base p : Int) (st : LS) : Bool × LS := tableP (rowX X Y n base) p.toNat st
noncomputable def keep3X (X Y n : Int) (_k : Nat) (p : Int) (st : LS) : Bool × LS := belowX X Y n 12 p st
noncomputable def keep9X (X Y n : Int) (k : Nat) (p : Int) (st : LS) : Bool × LS := belowX X Y n (44 + 32 * k) p st
noncomputable def dblX (X Y n : Int) (ps : List Int) (st : LS) : List Int × Bool × LS := siftP (goodX X Y) (keep9X X Y n) 44 32 n 0 ps st
noncomputable def keep4X (X Y n : Int) (_k : Nat) (p : Int) (st : LS) : Bool × LS := tableP (dblX X Y n) p.toNat st
theorem goodP_X (E : Env) : goodP E = goodX E.X E.Y := rfl
theorem rowP_X (E : Env) (T : TEnv) : rowP E T = rowX E.X E.Y T.n := rfl
theorem keep3_X (E : Env) (T : TEnv) : keep3 E T = keep3X E.X E.Y T.n := rfl
theorem keep4_X (E : Env) (T : TEnv) : keep4 E T = keep4X E.X E.Y T.n := rfl
/-- the pointers of an inode that stay, and what has turned -/
noncomputable def ptrsX (X Y n : Int) (raw : List Int) (st : LS) : List Int × LS :=
  let a := rowX X Y n 0 ((raw.drop 4).take 12) st
  let b := siftP (goodX X Y) (keep3X X Y n) 12 1 n 0 [nth raw 16] a.2.2
  let c := siftP (goodX X Y) (keep4X X Y n) 44 1 n 0 [nth raw 17] b.2.2
  (raw.take 4 ++ (a.1 ++ (b.1 ++ c.1)), c.2.2)
/-- all blocks are firm -/
def firmX (n : Int) (st : LS) : LS := { st with fm := fun q => st.fm q || (List.range n.toNat).any fun k => st.bk k == some q }
/-- the last block of a file ends where the file does -/
noncomputable def tailX (n z : Int) (st : LS) : LS :=
  match st.bk (n - 1) with
  | none => st
  | some p => if z % 128 = 0 then st else { st with S := updS st.S p.toNat (wipeL (st.S p.toNat) (z % 128).toNat) }
/-- how many blocks -/
def cntX (z : Int) : Int := (z + 127) / 128
/-- an inode is taken up -/
noncomputable def takeX (X Y : Int) (raw : List Int) (st : LS) : List Int × LS :=
  let r := ptrsX X Y (cntX (nth raw 2)) raw { st with bk := fun _ => none }
  if nth raw 0 = 2 then (r.1, firmX (cntX (nth raw 2)) r.2) else (r.1, tailX (cntX (nth raw 2)) (nth raw 2) r.2)
/-- what keeps I: sift -/
theorem siftP_inv {σ : Type} (goodP : Int → σ → Bool × σ) (keepP : Nat → Int → σ → Bool × σ) (base step n : Int) (I : σ → Prop)
    (hg : ∀ p st, I st → I (goodP p st).2) (hk : ∀ (k : Nat) p st s0, base + step * k < n → (goodP p s0).1 = true → I st → I (keepP k p st).2) : ∀ (r : List Int) (k : Nat) (st : σ), I st → I (siftP goodP keepP base step n k r st).2.2
  | [], _, _, h => h
  | p :: r, k, st, h => by
    rw [siftP_cons]
    split
    · exact siftP_inv goodP keepP base step n I hg hk r _ _ h
    · split
      · exact siftP_inv goodP keepP base step n I hg hk r _ _ h
      · split
        · exact siftP_inv goodP keepP base step n I hg hk r _ _ (hg p st h)
        · rename_i h1 h2
          have h3 : (goodP p st).1 = true := by cases hh : (goodP p st).1 <;> simp_all
          split
          · exact siftP_inv goodP keepP base step n I hg hk r _ _ (hk k p _ st (by omega) h3 (hg p st h))
          · exact siftP_inv goodP keepP base step n I hg hk r _ _ (hk k p _ st (by omega) h3 (hg p st h))
/-- the blocks' indexes are below the count -/
def KeysIn (n : Int) (st : LS) : Prop := ∀ k, (st.bk k).isSome = true → 0 ≤ k ∧ k < n
theorem goodX_inv {I : LS → Prop} {X Y : Int} (h : ∀ st (f : Int → Bool), I st → I { st with cl := f }) (p : Int) (st : LS) (hi : I st) : I (goodX X Y p st).2 := by
  unfold goodX
  split
  · exact h _ _ hi
  · exact hi
theorem tableP_inv {I : LS → Prop} (siftF : List Int → LS → List Int × Bool × LS) (at' : Nat) (h1 : ∀ st (f : Int → Bool), I st → I { st with cl := f }) (h2 : ∀ st (S : Nat → List Int) (f : Int → Bool), I st → I { st with S := S, fm := f })
    (hs : ∀ ps st, I st → I (siftF ps st).2.2) (st : LS) (hi : I st) : I (tableP siftF at' st).2 := by
  unfold tableP
  split
  · exact h1 _ _ (hs _ _ hi)
  · exact h2 _ _ _ (hs _ _ hi)
theorem keys_put {n : Int} {st : LS} (h : KeysIn n st) {k p : Int} (h0 : 0 ≤ k) (h1 : k < n) : KeysIn n { st with bk := putI st.bk k p } := by
  intro q hq
  simp only [putI] at hq
  split at hq
  · rename_i e; subst e; exact ⟨h0, h1⟩
  · exact h q hq
theorem rowX_keys (X Y n base : Int) (hb : 0 ≤ base) (ps : List Int) (st : LS) (h : KeysIn n st) : KeysIn n (rowX X Y n base ps st).2.2 := by
  unfold rowX
  refine siftP_inv _ _ _ _ _ (KeysIn n) (fun p st h => goodX_inv (fun _ _ h => h) p st h) (fun k p st _ hk _ h => ?_) ps 0 st h
  exact keys_put h (by omega) (by omega)
theorem belowX_keys (X Y n base p : Int) (hb : 0 ≤ base) (st : LS) (h : KeysIn n st) : KeysIn n (belowX X Y n base p st).2 :=
  tableP_inv _ _ (fun _ _ h => h) (fun _ _ _ h => h) (fun ps st h => rowX_keys X Y n base hb ps st h) st h
theorem dblX_keys (X Y n : Int) (ps : List Int) (st : LS) (h : KeysIn n st) : KeysIn n (dblX X Y n ps st).2.2 := by
  unfold dblX
  exact siftP_inv _ _ _ _ _ (KeysIn n) (fun p st h => goodX_inv (fun _ _ h => h) p st h) (fun k p st _ hk _ h => belowX_keys X Y n _ p (by omega) st h) ps 0 st h
theorem ptrsX_keys (X Y n : Int) (raw : List Int) (st : LS) (h : KeysIn n st) : KeysIn n (ptrsX X Y n raw st).2 := by
  unfold ptrsX
  refine siftP_inv _ _ _ _ _ (KeysIn n) (fun p st h => goodX_inv (fun _ _ h => h) p st h) (fun k p st _ hk _ h => tableP_inv _ _ (fun _ _ h => h) (fun _ _ _ h => h) (fun ps st h => dblX_keys X Y n ps st h) st h) _ 0 _ ?_
  refine siftP_inv _ _ _ _ _ (KeysIn n) (fun p st h => goodX_inv (fun _ _ h => h) p st h) (fun k p st _ hk _ h => belowX_keys X Y n _ p (by omega) st h) _ 0 _ ?_
  exact rowX_keys X Y n 0 (by omega) _ st h
/-- the blocks are data sectors -/
def ValsIn (X Y : Int) (st : LS) : Prop := ∀ k p, st.bk k = some p → isD X Y p = true
theorem goodX_isD {X Y p : Int} {st : LS} (h : (goodX X Y p st).1 = true) : isD X Y p = true := by
  unfold goodX at h
  split at h
  · rename_i h2; exact h2.1
  · cases h
theorem vals_put {X Y : Int} {st : LS} (h : ValsIn X Y st) {k p : Int} (hp : isD X Y p = true) : ValsIn X Y { st with bk := putI st.bk k p } := by
  intro q r hq
  simp only [putI] at hq
  split at hq
  · cases hq; exact hp
  · exact h q r hq
theorem rowX_vals (X Y n base : Int) (ps : List Int) (st : LS) (h : ValsIn X Y st) : ValsIn X Y (rowX X Y n base ps st).2.2 := by
  unfold rowX
  exact siftP_inv _ _ _ _ _ (ValsIn X Y) (fun p st h => goodX_inv (fun _ _ h => h) p st h) (fun k p st _ hk hg h => vals_put h (goodX_isD hg)) ps 0 st h
theorem belowX_vals (X Y n base p : Int) (st : LS) (h : ValsIn X Y st) : ValsIn X Y (belowX X Y n base p st).2 :=
  tableP_inv _ _ (fun _ _ h => h) (fun _ _ _ h => h) (fun ps st h => rowX_vals X Y n base ps st h) st h
theorem dblX_vals (X Y n : Int) (ps : List Int) (st : LS) (h : ValsIn X Y st) : ValsIn X Y (dblX X Y n ps st).2.2 := by
  unfold dblX
  exact siftP_inv _ _ _ _ _ (ValsIn X Y) (fun p st h => goodX_inv (fun _ _ h => h) p st h) (fun k p st _ hk _ h => belowX_vals X Y n _ p st h) ps 0 st h
theorem ptrsX_vals (X Y n : Int) (raw : List Int) (st : LS) (h : ValsIn X Y st) : ValsIn X Y (ptrsX X Y n raw st).2 := by
  unfold ptrsX
  refine siftP_inv _ _ _ _ _ (ValsIn X Y) (fun p st h => goodX_inv (fun _ _ h => h) p st h) (fun k p st _ hk _ h => tableP_inv _ _ (fun _ _ h => h) (fun _ _ _ h => h) (fun ps st h => dblX_vals X Y n ps st h) st h) _ 0 _ ?_
  refine siftP_inv _ _ _ _ _ (ValsIn X Y) (fun p st h => goodX_inv (fun _ _ h => h) p st h) (fun k p st _ hk _ h => belowX_vals X Y n _ p st h) _ 0 _ ?_
  exact rowX_vals X Y n 0 _ st h
theorem firmX_of {n : Int} {st : LS} (hk : KeysIn n st) (fm' : Int → Bool) (h : ∀ q, fm' q = true ↔ st.fm q = true ∨ ∃ k, st.bk k = some q) : firmX n st = { st with fm := fm' } := by
  unfold firmX
  congr 1
  funext q
  apply Bool.eq_iff_iff.2
  rw [h q, Bool.or_eq_true, List.any_eq_true]
  constructor
  · rintro (h | ⟨k, -, h⟩)
    · exact .inl h
    · exact .inr ⟨k, by simpa using h⟩
  · rintro (h | ⟨k, h⟩)
    · exact .inl h
    · have h0 := hk k (by rw [h]; rfl)
      refine .inr ⟨k.toNat, List.mem_range.2 (by omega), ?_⟩
      rw [show ((k.toNat : Nat) : Int) = k by omega, h]
      simp
end Go.Proofs.Ythioepdgnbdohaa

/- Names, as a directory's map has them. -/
namespace Go.Proofs.Ythioepdgnbdohaa
set_option linter.unusedSimpArgs false
set_option linter.unusedVariables false
open Go.RowKit

theorem keyStr {s : ByteArray} (h : s.size ≤ 40) : keyOf Try.prog 9 (.string s) = some (.string s.data.toList) := WideMaps.keyOf_string_mk Try.underlying9 (by unfold maxLen; omega)
theorem keyStr_is {s : ByteArray} (h : s.size ≤ 40) : WideAt.IsKeyLit (.string s.data.toList) := (Go.Maps.string_keyed Try.underlying9).key (keyStr h)
theorem litStr_ne {s t : ByteArray} (h : s ≠ t) : (Lit.string s.data.toList) ≠ .string t.data.toList := fun e => h (by
  injection e with e
  cases s; cases t
  simp only at e
  congr 1
  exact Array.ext' e)
/-- block b is a set of at most n names: those of s -/
def NB (w : World) (b n : Nat) (s : ByteArray → Bool) : Prop :=
  ∃ D : DataW Unit, w.ownsMap Try.prog 9 (plainElem Try.prog 4) b n D ∧ Go.Maps.IsMap D ∧ ∀ p : ByteArray, p.size ≤ 40 → D.atKey (.string p.data.toList) (.lit (.bool false)) = .lit (.bool (s p))
theorem NB.lt {w : World} {b n : Nat} {s : ByteArray → Bool} (h : NB w b n s) : b < w.heap.size := by
  obtain ⟨D, h1, -⟩ := h; exact h1.lt
theorem NB.same {w w' : World} {b n : Nat} {s : ByteArray → Bool} (h : NB w b n s) (he : hat w' b = hat w b) : NB w' b n s := by
  obtain ⟨D, ⟨es, clock, hb, h1⟩, h2⟩ := h
  exact ⟨D, ⟨es, clock, he.trans hb, h1⟩, h2⟩
theorem NB.made (w : World) : NB (w.alloc (.map #[] 0)) w.heap.size 0 (fun _ => false) :=
  ⟨.map [], World.ownsMap_made w _ _ _, Go.Maps.isMap_empty, fun _ _ => rfl⟩
theorem NB.of {w : World} {b : Nat} (h : hat w b = some (.map #[] 0)) : NB w b 0 (fun _ => false) := by
  obtain ⟨D, ⟨es, clock, hb, h1⟩, h2⟩ := NB.made w
  have hb2 : hat (w.alloc (.map #[] 0)) w.heap.size = some (.map #[] 0) := (hopN w _).1
  rw [show (w.alloc (.map #[] 0)).heap[w.heap.size]? = some (.map #[] 0) from hb2] at hb
  have hb3 := Option.some.inj hb
  injection hb3 with e1 e2
  subst e1; subst e2
  exact ⟨D, ⟨#[], 0, h, h1⟩, h2⟩
theorem NB.look {w : World} {b n : Nat} {s : ByteArray → Bool} (h : NB w b n s) {p : ByteArray} (hp : p.size ≤ 40) : (Instr.lookup 78 (.map (some b)) (.string p) false).run Try.prog w = .ok (.bool (s p)) w := by
  obtain ⟨D, h1, -, h3⟩ := h
  obtain ⟨v, ps, hr, hv⟩ := h1.lookup (Go.Maps.string_keyed Try.underlying9) Try.underlying78 (zeroBool w) (zd := .lit (.bool false)) (zp := []) (by simp [plainElem, Try.underlying4]) (keyStr hp)
  rw [h3 p hp] at hv
  rw [plainBool_inv hv] at hr
  exact hr
def addB (s : ByteArray → Bool) (p : ByteArray) : ByteArray → Bool := fun q => s q || decide (q = p)
theorem NB.put {w : World} {b n : Nat} {s : ByteArray → Bool} (h : NB w b n s) (hn : n < maxLen) {p : ByteArray} (hp : p.size ≤ 40) :
    ∃ w', (Instr.mapUpdate 78 (.map (some b)) (.string p) (.bool true)).run Try.prog w = .ok () w' ∧ NB w' b (n + 1) (addB s p) ∧ w.mapTurned w' b := by
  obtain ⟨D, h1, h0, h3⟩ := h
  obtain ⟨w', hr, ho, ht⟩ := h1.store (Go.Maps.string_keyed Try.underlying9) Try.underlying78 hn (keyStr hp) (d := .lit (.bool true)) (ps := []) (val := .bool true) (by simp [plainElem, Try.underlying4])
  refine ⟨w', hr, ⟨_, ho, h0.put _ _, fun q hq => ?_⟩, ht⟩
  unfold addB
  by_cases hqp : q = p
  · subst hqp
    rw [Go.Maps.atKey_put_same h0 (keyStr_is hq)]; simp
  · rw [Go.Maps.atKey_put_other (litStr_ne hqp), h3 q hq]; simp [hqp]
end Go.Proofs.Ythioepdgnbdohaa

/- The looker's plain form: an entry, a directory, the whole: no program in sight. -/
namespace Go.Proofs.Ythioepdgnbdohaa
set_option linter.unusedSimpArgs false
set_option linter.unusedVariables false
open Go.RowKit

/-- an inode that was taken up -/
structure TI where
  raw : List Int
  en : Int
  bk : Int → Option Int
/-- a look that goes on -/
structure LZ where
  st : LS
  T : Nat → Option TI
  q : List Int
def updT (T : Nat → Option TI) (i : Nat) (t : TI) : Nat → Option TI := fun j => if j = i then some t else T j
noncomputable def takeZ (X Y : Int) (i : Nat) (raw : List Int) (n : Int) (z : LZ) : LZ :=
  { st := (takeX X Y raw z.st).2, T := updT z.T i ⟨(takeX X Y raw z.st).1, n, (takeX X Y raw z.st).2.bk⟩, q := if nth raw 0 = 2 then z.q ++ [(i : Int)] else z.q }
/-- an entry for inode i, where it may be -/
noncomputable def enterZ (X Y : Int) (IMG : Nat → List Int) (i : Nat) (z : LZ) : Option LZ :=
  match z.T i with
  | some t => if nth t.raw 0 = 2 ∨ t.en = 100 then none else some { z with T := updT z.T i { t with en := t.en + 1 } }
  | none => if soundR (IMG i) = true then some (takeZ X Y i (rdInoR (IMG i)).1 1 z) else none
/-- the sector p is emptied -/
def wipeZ (p : Nat) (z : LZ) : LZ := { z with st := { z.st with S := updS z.st.S p (zl 128) } }
noncomputable def enterR (X Y : Int) (IMG : Nat → List Int) (i : Nat) (nm : ByteArray) (zn : LZ × (ByteArray → Bool)) : Bool × LZ × (ByteArray → Bool) :=
  if zn.2 nm = true ∨ i = 1 then (false, zn) else
    match enterZ X Y IMG i zn.1 with
    | some z' => (true, z', addB zn.2 nm)
    | none => (false, zn)
noncomputable def slotZ (X Y : Int) (IMG : Nat → List Int) (p : Nat) (zn : LZ × (ByteArray → Bool)) : LZ × (ByteArray → Bool) :=
  if (rdSloR (zn.1.st.S p)).2.2 = 0 ∧ (rdSloR (zn.1.st.S p)).1 = 0 then zn
  else if (rdSloR (zn.1.st.S p)).2.2 = 0 ∧ (rdSloR (zn.1.st.S p)).1 ≤ Y ∧ (enterR X Y IMG (rdSloR (zn.1.st.S p)).1.toNat (rdSloR (zn.1.st.S p)).2.1 zn).1 = true then
    (enterR X Y IMG (rdSloR (zn.1.st.S p)).1.toNat (rdSloR (zn.1.st.S p)).2.1 zn).2
  else (wipeZ p zn.1, zn.2)
/-- m blocks from k on -/
noncomputable def dirZ (X Y : Int) (IMG : Nat → List Int) (bk : Int → Option Int) : Nat → Nat → LZ × (ByteArray → Bool) → LZ × (ByteArray → Bool)
  | 0, _, zn => zn
  | m + 1, k, zn => dirZ X Y IMG bk m (k + 1) (match bk k with | none => zn | some p => slotZ X Y IMG p.toNat zn)
noncomputable def dirOf (X Y : Int) (IMG : Nat → List Int) (i : Nat) (z : LZ) : LZ :=
  match z.T i with
  | none => z
  | some t => (dirZ X Y IMG t.bk (cntX (nth t.raw 2)).toNat 0 (z, fun _ => false)).1
noncomputable def loopZ (X Y : Int) (IMG : Nat → List Int) : Nat → LZ → LZ
  | 0, z => z
  | f + 1, z => match z.q with
    | [] => z
    | i :: r => loopZ X Y IMG f (dirOf X Y IMG i.toNat { z with q := r })
noncomputable def startZ (X Y : Int) (IMG : Nat → List Int) : LZ := takeZ X Y 1 (rdInoR (IMG 1)).1 1 ⟨⟨IMG, fun _ => false, fun _ => false, fun _ => none⟩, fun _ => none, []⟩
noncomputable def lookZ (X Y : Int) (IMG : Nat → List Int) : LZ := loopZ X Y IMG 8192 (startZ X Y IMG)

/-- inodes that are not yet taken up -/
def freeT (n : Nat) (T : Nat → Option TI) : Nat := ((List.range n).filter fun i => (T i).isNone).length
def freeZ (z : LZ) : Nat := freeT 4096 z.T
/-- this falls with each round -/
def potZ (z : LZ) : Nat := z.q.length + 2 * freeZ z
theorem freeT_take {T : Nat → Option TI} {n i : Nat} {t : TI} (hi : i < n) (h : T i = none) : freeT n (updT T i t) < freeT n T := by
  unfold freeT
  have e : (List.range n).filter (fun j => (updT T i t j).isNone) = ((List.range n).filter fun j => (T j).isNone).filter fun j => j != i := by
    rw [List.filter_filter]
    apply List.filter_congr
    intro j _
    unfold updT
    by_cases hj : j = i
    · subst hj; simp
    · simp [hj]
  rw [e]
  rw [List.length_filter_lt_length_iff_exists]
  exact ⟨i, List.mem_filter.2 ⟨List.mem_range.2 hi, by simp [h]⟩, by simp⟩
theorem freeT_same {T : Nat → Option TI} {n i : Nat} {t t' : TI} (h : T i = some t) : freeT n (updT T i t') = freeT n T := by
  unfold freeT
  congr 1
  apply List.filter_congr
  intro j _
  unfold updT
  by_cases hj : j = i
  · subst hj; simp [h]
  · simp [hj]
theorem free_take {z z' : LZ} {i : Nat} {t : TI} (hi : i < 4096) (h : z.T i = none) (hz : z'.T = updT z.T i t) : freeZ z' < freeZ z := by
  unfold freeZ
  rw [hz]; exact freeT_take hi h
theorem free_same {z z' : LZ} {i : Nat} {t t' : TI} (h : z.T i = some t) (hz : z'.T = updT z.T i t') : freeZ z' = freeZ z := by
  unfold freeZ
  rw [hz]; exact freeT_same h
theorem pot_take (X Y : Int) {i : Nat} (raw : List Int) (n : Int) {z : LZ} (hi : i < 4096) (h : z.T i = none) : potZ (takeZ X Y i raw n z) < potZ z := by
  have := free_take (z' := takeZ X Y i raw n z) hi h rfl
  have h2 : (takeZ X Y i raw n z).q.length ≤ z.q.length + 1 := by
    unfold takeZ
    show (if nth raw 0 = 2 then z.q ++ [(i : Int)] else z.q).length ≤ _
    split <;> simp
  unfold potZ
  omega
theorem pot_enter {X Y : Int} {IMG : Nat → List Int} {i : Nat} {z z' : LZ} (hi : i < 4096) (h : enterZ X Y IMG i z = some z') : potZ z' ≤ potZ z := by
  unfold enterZ at h
  split at h
  · rename_i t ht
    split at h
    · cases h
    · cases h
      unfold potZ
      rw [free_same (z' := { z with T := updT z.T i { t with en := t.en + 1 } }) ht rfl]
      exact Nat.le_refl _
  · rename_i ht
    split at h
    · cases h
      exact Nat.le_of_lt (pot_take X Y _ _ hi ht)
    · cases h
theorem pot_enterR {X Y : Int} {IMG : Nat → List Int} {i : Nat} (nm : ByteArray) (zn : LZ × (ByteArray → Bool)) (hi : i < 4096) : potZ (enterR X Y IMG i nm zn).2.1 ≤ potZ zn.1 := by
  unfold enterR
  split
  · exact Nat.le_refl _
  · split
    · rename_i h; exact pot_enter hi h
    · exact Nat.le_refl _
/-- what an inode has been is not forgotten -/
def Keeps (z z' : LZ) : Prop := ∀ i t, z.T i = some t → ∃ t', z'.T i = some t' ∧ t'.bk = t.bk
theorem Keeps.refl (z : LZ) : Keeps z z := fun i t h => ⟨t, h, rfl⟩
theorem Keeps.trans {a b c : LZ} (h : Keeps a b) (h2 : Keeps b c) : Keeps a c := fun i t ht => by
  obtain ⟨t', ht', e⟩ := h i t ht
  obtain ⟨t2, ht2, e2⟩ := h2 i t' ht'
  exact ⟨t2, ht2, e2.trans e⟩
theorem keeps_enter {X Y : Int} {IMG : Nat → List Int} {i : Nat} {z z' : LZ} (h : enterZ X Y IMG i z = some z') : Keeps z z' := by
  unfold enterZ at h
  split at h
  · rename_i t ht
    split at h
    · cases h
    · cases h
      intro j u hu
      by_cases hj : j = i
      · subst hj
        rw [ht] at hu; cases hu
        exact ⟨{ t with en := t.en + 1 }, by show updT z.T j _ j = _; unfold updT; rw [if_pos rfl], rfl⟩
      · exact ⟨u, by show updT z.T i _ j = _; unfold updT; rw [if_neg hj]; exact hu, rfl⟩
  · rename_i ht
    split at h
    · cases h
      intro j u hu
      exact ⟨u, by show updT z.T i _ j = _; unfold updT; rw [if_neg (fun e => by subst e; rw [ht] at hu; cases hu)]; exact hu, rfl⟩
    · cases h
theorem keeps_enterR (X Y : Int) (IMG : Nat → List Int) (i : Nat) (nm : ByteArray) (zn : LZ × (ByteArray → Bool)) : Keeps zn.1 (enterR X Y IMG i nm zn).2.1 := by
  unfold enterR
  split
  · exact Keeps.refl _
  · split
    · rename_i h; exact keeps_enter h
    · exact Keeps.refl _
/-- what holds of a look that goes on -/
structure ZI (X Y : Int) (z : LZ) : Prop where
  t : ∀ i t, z.T i = some t → 1 ≤ i ∧ (i : Int) ≤ Y ∧ t.raw.length = 18 ∧ 0 ≤ nth t.raw 2 ∧ nth t.raw 2 ≤ 136704 ∧ 0 ≤ t.en ∧ t.en ≤ 100 ∧ ∀ k p, t.bk k = some p → isD X Y p = true
  q : ∀ i ∈ z.q, 0 ≤ i ∧ ∃ t, z.T i.toNat = some t
  pot : potZ z ≤ 8192
theorem ptrsX_raw (X Y n : Int) (raw : List Int) (st : LS) (h : raw.length = 18) : (ptrsX X Y n raw st).1.length = 18 ∧ ∀ j, j < 4 → nth (ptrsX X Y n raw st).1 j = nth raw j := by
  unfold ptrsX
  refine ⟨?_, fun j hj => ?_⟩
  · simp only [List.length_append, siftP_len, rowX]
    simp [h]
  · show nth (raw.take 4 ++ _) j = _
    rw [nth_append_left (by simp [h]; omega)]
    unfold nth
    rw [List.getElem?_take, if_pos hj]
theorem takeX_fst (X Y : Int) (raw : List Int) (st : LS) : (takeX X Y raw st).1 = (ptrsX X Y (cntX (nth raw 2)) raw { st with bk := fun _ => none }).1 := by
  unfold takeX
  simp only
  split <;> rfl
theorem tailX_bk (n z : Int) (st : LS) : (tailX n z st).bk = st.bk := by
  unfold tailX
  split
  · rfl
  · split <;> rfl
theorem takeX_bk (X Y : Int) (raw : List Int) (st : LS) : (takeX X Y raw st).2.bk = (ptrsX X Y (cntX (nth raw 2)) raw { st with bk := fun _ => none }).2.bk := by
  unfold takeX
  simp only
  split
  · rfl
  · exact tailX_bk _ _ _
theorem takeX_vals (X Y : Int) (raw : List Int) (st : LS) (k p : Int) (h : (takeX X Y raw st).2.bk k = some p) : isD X Y p = true := by
  rw [takeX_bk] at h
  exact ptrsX_vals X Y _ raw _ (fun k p hk => by cases hk) k p h
theorem ZI.take {X Y : Int} {z : LZ} (h : ZI X Y z) {i : Nat} {raw : List Int} {n : Int} (h1 : 1 ≤ i) (hY : (i : Int) ≤ Y) (hi : i < 4096) (hr : raw.length = 18) (hz0 : 0 ≤ nth raw 2) (hz1 : nth raw 2 ≤ 136704) (hn0 : 0 ≤ n) (hn1 : n ≤ 100) (hT : z.T i = none) : ZI X Y (takeZ X Y i raw n z) := by
  obtain ⟨hl, hs⟩ := ptrsX_raw X Y (cntX (nth raw 2)) raw { z.st with bk := fun _ => none } hr
  refine ⟨fun j t ht => ?_, fun j hj => ?_, Nat.le_trans (Nat.le_of_lt (pot_take X Y raw n hi hT)) h.pot⟩
  · have ht2 : updT z.T i ⟨(takeX X Y raw z.st).1, n, (takeX X Y raw z.st).2.bk⟩ j = some t := ht
    unfold updT at ht2
    split at ht2
    · rename_i e
      subst e
      cases ht2
      refine ⟨h1, hY, ?_, ?_, ?_, hn0, hn1, fun k p hk => takeX_vals X Y raw z.st k p hk⟩
      · show (takeX X Y raw z.st).1.length = 18
        rw [takeX_fst]; exact hl
      · show 0 ≤ nth (takeX X Y raw z.st).1 2
        rw [takeX_fst, hs 2 (by omega)]; exact hz0
      · show nth (takeX X Y raw z.st).1 2 ≤ _
        rw [takeX_fst, hs 2 (by omega)]; exact hz1
    · exact h.t j t ht2
  · have hj2 : j ∈ (if nth raw 0 = 2 then z.q ++ [(i : Int)] else z.q) := hj
    have hold : j ∈ z.q → 0 ≤ j ∧ ∃ t, (takeZ X Y i raw n z).T j.toNat = some t := fun hm => by
      obtain ⟨h0, t, ht⟩ := h.q j hm
      refine ⟨h0, t, ?_⟩
      show updT z.T i _ j.toNat = _
      unfold updT
      rw [if_neg (fun e => by rw [e, hT] at ht; cases ht)]
      exact ht
    split at hj2
    · rw [List.mem_append] at hj2
      rcases hj2 with hm | hm
      · exact hold hm
      · rw [List.mem_singleton] at hm
        subst hm
        refine ⟨Int.natCast_nonneg _, ⟨(takeX X Y raw z.st).1, n, (takeX X Y raw z.st).2.bk⟩, ?_⟩
        show updT z.T i _ i = _
        unfold updT
        rw [if_pos rfl]
    · exact hold hj2
theorem ZI.en {X Y : Int} {z : LZ} (h : ZI X Y z) {i : Nat} {t : TI} (ht : z.T i = some t) {n : Int} (h0 : 0 ≤ n) (h1 : n ≤ 100) : ZI X Y { z with T := updT z.T i { t with en := n } } := by
  refine ⟨fun j t' ht' => ?_, fun j hj => ?_, ?_⟩
  · have ht2 : updT z.T i { t with en := n } j = some t' := ht'
    unfold updT at ht2
    split at ht2
    · rename_i e
      subst e
      cases ht2
      obtain ⟨a1, a2, a3, a4, a5, a6, a7, a8⟩ := h.t j t ht
      exact ⟨a1, a2, a3, a4, a5, h0, h1, a8⟩
    · exact h.t j t' ht2
  · obtain ⟨h0, t', ht'⟩ := h.q j hj
    refine ⟨h0, ?_⟩
    show ∃ t'', updT z.T i _ j.toNat = some t''
    unfold updT
    split
    · exact ⟨_, rfl⟩
    · exact ⟨t', ht'⟩
  · have := free_same (z' := { z with T := updT z.T i { t with en := n } }) ht rfl
    have hp := h.pot
    unfold potZ at *
    rw [this]
    exact hp
theorem ZI.wipe {X Y : Int} {z : LZ} (h : ZI X Y z) (p : Nat) : ZI X Y (wipeZ p z) := ⟨h.t, h.q, h.pot⟩
end Go.Proofs.Ythioepdgnbdohaa

/- The looker: an inode is taken up. -/
namespace Go.Proofs.Ythioepdgnbdohaa
set_option linter.unusedSimpArgs false
set_option linter.unusedVariables false
open Go.RowKit

@[go_sem] theorem run_mkMap (t : TypeId) (w : World) : (Instr.makeMap t none).run Try.prog w = .ok (.map (some w.heap.size)) (w.alloc (.map #[] 0)) := rfl
/-- the looker's state, no inode at hand -/
structure LK0 (E : Env) (w : World) (st : LS) : Prop where
  look : hat w E.gl = some (.cells (lkCells E.X E.Y E.img E.gw E.N E.cw E.bc E.bt E.bf E.qf) 53)
  want : WSecs w E.gw E.N st.S
  claim : SB w E.bc st.cl
  firm : SB w E.bf st.fm
theorem LK0.fr {E : Env} {w w' : World} {st : LS} {ex : List Nat} (h : LK0 E w st) (hf : Fr ex w w') (h1 : E.gl ∉ ex) (h2 : E.gw ∉ ex) (h3 : E.bc ∉ ex) (h4 : E.bf ∉ ex) : LK0 E w' st := by
  have hw := h.want
  obtain ⟨cs, hw1, -⟩ := hw
  exact ⟨(hf.block _ (hat_lt h.look) h1).trans h.look, h.want.same (hf.block _ (hat_lt hw1) h2), h.claim.same (hf.block _ h.claim.lt h3), h.firm.same (hf.block _ h.firm.lt h4)⟩
/-- which blocks are whose, no inode at hand -/
structure EOk0 (E : Env) : Prop where
  small : E.X ≤ 4096
  pos : 0 ≤ E.Y
  size : E.X = E.N
  n1 : E.gl ≠ E.gw
  n2 : E.gl ≠ E.bc
  n3 : E.gl ≠ E.bf
  n4 : E.gw ≠ E.bc
  n5 : E.gw ≠ E.bf
  n6 : E.bc ≠ E.bf
  m1 : E.gl ≠ E.bt
  m2 : E.gw ≠ E.bt
  m3 : E.bc ≠ E.bt
  m4 : E.bf ≠ E.bt
def atHand (E : Env) (bx : Nat) : Env := { E with bx := bx }
theorem atHand_ok {E : Env} (h : EOk0 E) {G bx : Nat} (hm : E.gl < G ∧ E.gw < G ∧ E.bc < G ∧ E.bf < G) (hb : G ≤ bx) : EOk (atHand E bx) := by
  obtain ⟨a1, a2, a3, a4⟩ := hm
  exact ⟨h.small, h.pos, h.size, h.n1, h.n2, h.n3, h.n4, h.n5, h.n6, by show E.gl ≠ bx; omega, by show E.gw ≠ bx; omega, by show E.bc ≠ bx; omega, by show E.bf ≠ bx; omega⟩
theorem IB_empty {w : World} {b : Nat} (h : hat w b = some (.map #[] 0)) : IB w b (fun _ => none) := by
  obtain ⟨D, ⟨es, clock, hb, h1⟩, h2⟩ := MI.made w
  have hb2 : hat (w.alloc (.map #[] 0)) w.heap.size = some (.map #[] 0) := (hopN w _).1
  rw [show (w.alloc (.map #[] 0)).heap[w.heap.size]? = some (.map #[] 0) from hb2] at hb
  have hb3 := Option.some.inj hb
  injection hb3 with e1 e2
  subst e1; subst e2
  exact MI.tight (n := 0) ⟨D, ⟨#[], 0, h, h1⟩, h2⟩ (fun p hp => by cases hp)
/-- an inode's cells -/
def inC (raw : List Int) (en : Int) (bx : Nat) : Array Value := (raw.map (Value.int .i64) ++ [Value.int .i64 en, Value.map (some bx)]).toArray
theorem inC_size {raw : List Int} (h : raw.length = 18) (en : Int) (bx : Nat) : (inC raw en bx).size = 20 := by simp [inC, h]
theorem inC_get {raw : List Int} (h : raw.length = 18) (en : Int) (bx : Nat) {j : Nat} (hj : j < 18) : (inC raw en bx)[j]? = some (.int .i64 (nth raw j)) := by
  obtain ⟨x, hx⟩ := getElem_opt (l := raw) (k := j) (by omega)
  unfold inC nth
  rw [List.getElem?_toArray, List.getElem?_append_left (by simpa using by omega), List.getElem?_map, hx]
  simp
theorem inC_raw {raw : List Int} (en : Int) (bx : Nat) {j : Nat} {p : Int} (hj : raw[j]? = some p) : (inC raw en bx)[j]? = some (.int .i64 p) := by
  unfold inC
  have hl : j < raw.length := (List.getElem?_eq_some_iff.1 hj).1
  rw [List.getElem?_toArray, List.getElem?_append_left (by simpa using hl), List.getElem?_map, hj]
  rfl
theorem inC_19 {raw : List Int} (h : raw.length = 18) (en : Int) (bx : Nat) : (inC raw en bx)[19]? = some (.map (some bx)) := by
  unfold inC
  rw [List.getElem?_toArray, List.getElem?_append_right (by simp [h]), List.length_map, h]
  rfl
theorem cons_of_len {α : Type} {l : List α} {n : Nat} (h : l.length = n + 1) : ∃ a r, l = a :: r ∧ r.length = n := by
  cases l with
  | nil => cases h
  | cons a r => exact ⟨a, r, rfl, by simpa using h⟩
theorem list_18 {raw : List Int} (h : raw.length = 18) : ∃ a0 a1 a2 a3 a4 a5 a6 a7 a8 a9 b0 b1 b2 b3 b4 b5 b6 b7, raw = [a0, a1, a2, a3, a4, a5, a6, a7, a8, a9, b0, b1, b2, b3, b4, b5, b6, b7] := by
  obtain ⟨a0, raw0, h0, h⟩ := cons_of_len h
  obtain ⟨a1, raw1, h1, h⟩ := cons_of_len h
  obtain ⟨a2, raw2, h2, h⟩ := cons_of_len h
  obtain ⟨a3, raw3, h3, h⟩ := cons_of_len h
  obtain ⟨a4, raw4, h4, h⟩ := cons_of_len h
  obtain ⟨a5, raw5, h5, h⟩ := cons_of_len h
  obtain ⟨a6, raw6, h6, h⟩ := cons_of_len h
  obtain ⟨a7, raw7, h7, h⟩ := cons_of_len h
  obtain ⟨a8, raw8, h8, h⟩ := cons_of_len h
  obtain ⟨a9, raw9, h9, h⟩ := cons_of_len h
  obtain ⟨b0, raw10, h10, h⟩ := cons_of_len h
  obtain ⟨b1, raw11, h11, h⟩ := cons_of_len h
  obtain ⟨b2, raw12, h12, h⟩ := cons_of_len h
  obtain ⟨b3, raw13, h13, h⟩ := cons_of_len h
  obtain ⟨b4, raw14, h14, h⟩ := cons_of_len h
  obtain ⟨b5, raw15, h15, h⟩ := cons_of_len h
  obtain ⟨b6, raw16, h16, h⟩ := cons_of_len h
  obtain ⟨b7, raw17, h17, h⟩ := cons_of_len h
  have hn := List.eq_nil_of_length_eq_zero h
  exact ⟨a0, a1, a2, a3, a4, a5, a6, a7, a8, a9, b0, b1, b2, b3, b4, b5, b6, b7, by rw [h0, h1, h2, h3, h4, h5, h6, h7, h8, h9, h10, h11, h12, h13, h14, h15, h16, h17, hn]⟩
theorem build_in {raw : List Int} (h : raw.length = 18) (bx : Nat) : (Array.foldl (fun cs (x : Value × Nat) => cs.setIfInBounds x.snd x.fst) #[Value.int .i64 0, Value.int .i64 0, Value.int .i64 0, Value.int .i64 0, Value.int .i64 0, Value.int .i64 0, Value.int .i64 0, Value.int .i64 0, Value.int .i64 0, Value.int .i64 0, Value.int .i64 0, Value.int .i64 0, Value.int .i64 0, Value.int .i64 0, Value.int .i64 0, Value.int .i64 0, Value.int .i64 0, Value.int .i64 0, Value.int .i64 0, Value.map none] (IV .i64 raw).zipIdx 0 18).setIfInBounds 19 (Value.map (some bx)) = inC raw 0 bx := by
  obtain ⟨a0, a1, a2, a3, a4, a5, a6, a7, a8, a9, b0, b1, b2, b3, b4, b5, b6, b7, rfl⟩ := list_18 h
  simp [inC, IV, List.zipIdx, Array.setIfInBounds]
theorem build_size {raw : List Int} (h : raw.length = 18) : (Array.foldl (fun cs (x : Value × Nat) => cs.setIfInBounds x.snd x.fst) #[Value.int .i64 0, Value.int .i64 0, Value.int .i64 0, Value.int .i64 0, Value.int .i64 0, Value.int .i64 0, Value.int .i64 0, Value.int .i64 0, Value.int .i64 0, Value.int .i64 0, Value.int .i64 0, Value.int .i64 0, Value.int .i64 0, Value.int .i64 0, Value.int .i64 0, Value.int .i64 0, Value.int .i64 0, Value.int .i64 0, Value.int .i64 0, Value.map none] (IV .i64 raw).zipIdx 0 18).size = 20 := by
  obtain ⟨a0, a1, a2, a3, a4, a5, a6, a7, a8, a9, b0, b1, b2, b3, b4, b5, b6, b7, rfl⟩ := list_18 h
  simp [IV, List.zipIdx, Array.setIfInBounds]
theorem nums_one {w : World} {g : Nat} {re : Nat → Option Value} {l : List Int} (h : Nums w g 0 3 1 re l) (hl : l.length = 1) : ∃ x, l = [x] ∧ hat w g = some (.cells #[.int .i64 x] 3) := by
  have h2 : hat w g = some (.cells (IV .i64 l) 3) := Nums.all (by rw [hl]; exact h)
  match l, h2, hl with
  | [x], h2, _ => exact ⟨x, rfl, h2⟩
theorem nth_drop {raw : List Int} (h : raw.length = 18) {j : Nat} (h4 : 4 ≤ j) (hj : j < 18) : nth raw j ∈ raw.drop 4 := by
  obtain ⟨x, hx⟩ := getElem_opt (l := raw) (k := j) (by omega)
  have : nth raw j = x := by unfold nth; rw [hx]; rfl
  rw [this]
  exact List.mem_of_getElem? (i := j - 4) (by rw [List.getElem?_drop, show 4 + (j - 4) = j by omega]; exact hx)
theorem one_nums {w : World} {g : Nat} {p : Int} (h : hat w g = some (.cells #[.int .i64 p] 3)) : Nums w g 0 3 1 (fun _ => none) [p] :=
  ⟨_, h, rfl, by simp, fun j q hj => (by
    cases j with
    | zero => simp at hj; subst hj; rfl
    | succ j => simp at hj), fun j hj => Array.getElem?_eq_none (by simp at hj ⊢; omega)⟩
theorem rowP_len (E : Env) (T : TEnv) (base : Int) (ps : List Int) (st : LS) : (rowP E T base ps st).1.length = ps.length := siftP_len _ _ _ _ _ _ _ _
theorem Fr.old {ex ex' : List Nat} {w w' : World} (h : Fr ex w w') (hs : ∀ k ∈ ex, k ∈ ex' ∨ w.heap.size ≤ k) : Fr ex' w w' :=
  ⟨h.os, h.tape, h.output, h.size, fun b hb hn => h.block b hb fun hm => by
    rcases hs b hm with h1 | h1
    · exact hn h1
    · omega⟩
theorem nth_take4 {raw l : List Int} (h : raw.length = 18) {j : Nat} (hj : j < 4) : nth (raw.take 4 ++ l) j = nth raw j := by
  rw [nth_append_left (by simp [h]; omega)]
  unfold nth
  rw [List.getElem?_take, if_pos hj]
theorem inC_built {cs : Array Value} {raw l : List Int} {bx : Nat} {sg db : Int} (hs : cs.size = 20) (hr : raw.length = 18) (hl : l.length = 12) (h1 : ∀ j p, l[j]? = some p → cs[4 + j]? = some (.int .i64 p))
    (h2 : ∀ j, j < 4 ∨ 4 + 12 ≤ j → cs[j]? = (inC raw 0 bx)[j]?) : (cs.setIfInBounds 16 (.int .i64 sg)).setIfInBounds 17 (.int .i64 db) = inC (raw.take 4 ++ (l ++ ([sg] ++ [db]))) 0 bx := by
  have hr2 : (raw.take 4 ++ (l ++ ([sg] ++ [db]))).length = 18 := by simp [hr, hl]
  have hz : (inC (raw.take 4 ++ (l ++ ([sg] ++ [db]))) 0 bx).size = 20 := inC_size hr2 0 bx
  have hz1 := inC_size hr 0 bx
  apply Array.ext_getElem?
  intro j
  rw [Array.getElem?_setIfInBounds, Array.getElem?_setIfInBounds]
  by_cases hj : j < 18
  · rw [inC_get hr2 0 bx hj]
    by_cases h17 : j = 17
    · subst h17
      rw [if_pos rfl, if_pos (by simp [hs])]
      rw [nth_append_right (by simp [hr]), nth_append_right (by simp [hr, hl])]
      simp [hr, hl, nth]
    · rw [if_neg (by omega)]
      by_cases h16 : j = 16
      · subst h16
        rw [if_pos rfl, if_pos (by simp [hs])]
        rw [nth_append_right (by simp [hr]), nth_append_right (by simp [hr, hl])]
        simp [hr, hl, nth]
      · rw [if_neg (by omega)]
        by_cases h4 : j < 4
        · rw [h2 j (.inl h4), inC_get hr 0 bx hj, nth_take4 hr h4]
        · obtain ⟨p, hp⟩ := getElem_opt (l := l) (k := j - 4) (by omega)
          have := h1 _ _ hp
          rw [show 4 + (j - 4) = j by omega] at this
          rw [this, nth_append_right (by simp [hr]; omega), nth_append_left (by simp [hr, hl]; omega)]
          have e : j - (raw.take 4).length = j - 4 := by simp [hr]
          rw [e]
          unfold nth
          rw [hp]; rfl
  · rw [if_neg (by omega), if_neg (by omega), h2 j (.inr (by omega))]
    by_cases hj2 : j < 20
    · have : j = 18 ∨ j = 19 := by omega
      unfold inC
      rw [List.getElem?_toArray, List.getElem?_toArray, List.getElem?_append_right (by simp [hr]; omega), List.getElem?_append_right (by rw [List.length_map, hr2]; omega), List.length_map, List.length_map, hr, hr2]
    · rw [Array.getElem?_eq_none (by omega), Array.getElem?_eq_none (by omega)]
/-- the function that a directory is handed to -/
def qfun (gr : Nat) : Value := .func (.func 17) #[] #[.pointer (some ⟨gr, 0, none⟩)]
/-- the row's blocks lie apart -/
structure QOk (E : Env) (gr : Nat) (ob : Option Nat) : Prop where
  qf : E.qf = qfun gr
  v : gr ∉ [E.gl, E.gw, E.bc, E.bf, E.bt]
  b : ∀ g, ob = some g → g ∉ [E.gl, E.gw, E.bc, E.bf, E.bt]
/-- what an inode that is taken up leaves -/
structure Took (E : Env) (gr i : Nat) (raw : List Int) (st : LS) (tk : Int → Option Nat) (ob : Option Nat) (xs : List Int) (w w' : World) (gx bx : Nat) (ob' : Option Nat) : Prop where
  gx0 : w.heap.size ≤ gx
  bx0 : w.heap.size ≤ bx
  gbx : gx ≠ bx
  x : hat w' gx = some (.cells (inC (takeX E.X E.Y raw st).1 0 bx) 60)
  lk : LK (atHand E bx) w' (takeX E.X E.Y raw st).2
  tk : PB w' E.bt (putN tk i gx)
  q : QVar w' gr ob' (if nth raw 0 = 2 then xs ++ [(i : Int)] else xs)
  o : ob' = ob ∨ ∃ g, ob' = some g ∧ w.heap.size ≤ g ∧ g ≠ gx ∧ g ≠ bx
  fr : Fr ([E.bc, E.gw, E.bf, E.bt, gr] ++ ob.toList) w w'
set_option maxHeartbeats 16000000 in
set_option maxRecDepth 100000 in
theorem take_any {E : Env} (hE : EOk0 E) (i : Nat) (raw : List Int) (st : LS) (tk : Int → Option Nat) (w : World) (gr : Nat) (ob : Option Nat) (xs : List Int) (hQ : QOk E gr ob) (hqv : QVar w gr ob xs) (hxn : xs.length ≤ 100000) (h : LK0 E w st) (ht : PB w E.bt tk) (hr : raw.length = 18) (hi : i < 4096) (hz0 : 0 ≤ nth raw 2) (hz1 : nth raw 2 ≤ 136704) (hpt : ∀ p ∈ raw.drop 4, 0 ≤ p ∧ p ≤ 4294967295) :
    Calls Try.prog 19 #[.pointer (some ⟨E.gl, 0, none⟩), .int .i64 i, .agg (IV .i64 raw)] w fun e w' => e = .returned (.tuple #[]) ∧ ∃ gx bx ob', Took E gr i raw st tk ob xs w w' gx bx ob' := by
  have hl := h.look
  unfold lkCells at hl
  have hlz := hat_lt hl
  have hbt := ht.lt
  have hbs := build_size hr
  have hmine : E.gl < w.heap.size ∧ E.gw < w.heap.size ∧ E.bc < w.heap.size ∧ E.bf < w.heap.size := by
    have hw := h.want
    obtain ⟨cs, hw1, -⟩ := hw
    exact ⟨hat_lt h.look, hat_lt hw1, h.claim.lt, h.firm.lt⟩
  have HT := Lib.hid ht
  have H := Lib.hid h
  have HQV := Lib.hid hqv
  have hgrG := hqv.lt
  have hobG := hqv.blt
  have HQO := Lib.hid hQ
  clear ht h hqv hQ
  go_enter Try.func19, Try.ntmps19
  go_wp2_with fail
  rw [build_in hr]
  have hf0 : Fr [] w (((((w.alloc (.cells #[.pointer (some ⟨E.gl, 0, none⟩)] 47)).alloc (.cells (IV .i64 raw) 43)).alloc (.map #[] 0)).alloc (.cells (inC raw 0 (w.heap.size + 1 + 1)) 60)).alloc (.cells #[.pointer (some ⟨w.heap.size + 1 + 1 + 1, 0, none⟩)] 61)) :=
    fr_below (((((Below.refl w.heap.size w).alloc (Nat.le_refl _) _).alloc (by simp) _).alloc (by simp; omega) _).alloc (by simp; omega) _ |>.alloc (by simp; omega) _) []
  have f_l : hat (((((w.alloc (.cells #[.pointer (some ⟨E.gl, 0, none⟩)] 47)).alloc (.cells (IV .i64 raw) 43)).alloc (.map #[] 0)).alloc (.cells (inC raw 0 (w.heap.size + 1 + 1)) 60)).alloc (.cells #[.pointer (some ⟨w.heap.size + 1 + 1 + 1, 0, none⟩)] 61)) w.heap.size = some (.cells #[.pointer (some ⟨E.gl, 0, none⟩)] 47) := by simp [go_sem]
  have f_b : hat (((((w.alloc (.cells #[.pointer (some ⟨E.gl, 0, none⟩)] 47)).alloc (.cells (IV .i64 raw) 43)).alloc (.map #[] 0)).alloc (.cells (inC raw 0 (w.heap.size + 1 + 1)) 60)).alloc (.cells #[.pointer (some ⟨w.heap.size + 1 + 1 + 1, 0, none⟩)] 61)) (w.heap.size + 1 + 1) = some (.map #[] 0) := by simp [go_sem]
  have f_x : hat (((((w.alloc (.cells #[.pointer (some ⟨E.gl, 0, none⟩)] 47)).alloc (.cells (IV .i64 raw) 43)).alloc (.map #[] 0)).alloc (.cells (inC raw 0 (w.heap.size + 1 + 1)) 60)).alloc (.cells #[.pointer (some ⟨w.heap.size + 1 + 1 + 1, 0, none⟩)] 61)) (w.heap.size + 1 + 1 + 1) = some (.cells (inC raw 0 (w.heap.size + 1 + 1)) 60) := by simp [go_sem]
  have f_v : hat (((((w.alloc (.cells #[.pointer (some ⟨E.gl, 0, none⟩)] 47)).alloc (.cells (IV .i64 raw) 43)).alloc (.map #[] 0)).alloc (.cells (inC raw 0 (w.heap.size + 1 + 1)) 60)).alloc (.cells #[.pointer (some ⟨w.heap.size + 1 + 1 + 1, 0, none⟩)] 61)) (w.heap.size + 1 + 1 + 1 + 1) = some (.cells #[.pointer (some ⟨w.heap.size + 1 + 1 + 1, 0, none⟩)] 61) := by simp [go_sem]
  have hl0 := H.out.fr hf0 (by simp) (by simp) (by simp) (by simp)
  have ht0 := HT.out.same (hf0.block _ hbt (by simp))
  have h_l := hl0.look
  unfold lkCells at h_l
  generalize (((((w.alloc (.cells #[.pointer (some ⟨E.gl, 0, none⟩)] 47)).alloc (.cells (IV .i64 raw) 43)).alloc (.map #[] 0)).alloc (.cells (inC raw 0 (w.heap.size + 1 + 1)) 60)).alloc (.cells #[.pointer (some ⟨w.heap.size + 1 + 1 + 1, 0, none⟩)] 61)) = w0 at *
  generalize hG : w.heap.size = G at *
  have HF0 := Lib.hid hf0
  have HL0 := Lib.hid hl0
  obtain ⟨w1, hr1, hm1, ht1⟩ := (show PB w0.drew E.bt tk from ht0).put (p := (i : Int)) (G + 1 + 1 + 1) (by omega)
  have HM1 := Lib.hid hm1
  have HT1 := Lib.hid ht1
  have HT0 := Lib.hid ht0
  clear hf0 hl0 hm1 ht1 ht0 hbs
  go_region
  have hf1 : Fr [E.bt] w0 w1 := (fr_drew (Fr.refl _ w0)).trans (fr_turned HT1.out)
  have hl1 := HL0.out.fr hf1 (by simpa using hE.m1) (by simpa using hE.m2) (by simpa using hE.m3) (by simpa using hE.m4)
  have g_l := (hf1.block _ (hat_lt f_l) (by simp; omega)).trans f_l
  have g_b := (hf1.block _ (hat_lt f_b) (by simp; omega)).trans f_b
  have g_x := (hf1.block _ (hat_lt f_x) (by simp; omega)).trans f_x
  have g_v := (hf1.block _ (hat_lt f_v) (by simp; omega)).trans f_v
  have HF1 := Lib.hid (((HF0.out.mono (ex' := [E.bt]) (by simp)).trans hf1))
  have HL1 := Lib.hid hl1
  clear f_l f_b f_x f_v hf1 hl1 h_l hl hlz HF0 HL0 HT0 H HT HT1 hr1
  go_wp2_with fail
  refine (count_any _ _ (nth raw 2) _ g_x (inC_get hr 0 _ (by omega)) hz0 hz1).mono ?_; rintro e w2 ⟨rfl, hb2⟩
  have hn0 : 0 ≤ (nth raw 2 + 127) / 128 := by omega
  have hn1 : (nth raw 2 + 127) / 128 ≤ 1068 := by omega
  generalize hnn : (nth raw 2 + 127) / 128 = n at *
  have HN := Lib.hid hnn
  clear hnn
  have HB2 := Lib.hid hb2
  have hz2 := hb2.size
  have hzv := hat_lt g_v
  have hEB := atHand_ok hE hmine (bx := G + 1 + 1) (by omega)
  have HEB := Lib.hid hEB
  clear hEB
  clear hb2
  go_wp2_with fail
  have hf3 : Fr [] w1 (((w2.alloc (.cells #[.int .i64 n] 3)).alloc (.cells #[.func (.func 30) #[] #[.pointer (some ⟨G, 0, none⟩), .pointer (some ⟨w2.heap.size, 0, none⟩), .pointer (some ⟨G + 1 + 1 + 1 + 1, 0, none⟩)]] 74)).alloc (.cells #[.func (.func 33) #[] #[.pointer (some ⟨G, 0, none⟩), .pointer (some ⟨w2.heap.size + 1, 0, none⟩)]] 73)) := fr_below (((HB2.out.alloc HB2.out.size _).alloc (by simp; omega) _).alloc (by simp; omega) _) []
  have e_n : hat (((w2.alloc (.cells #[.int .i64 n] 3)).alloc (.cells #[.func (.func 30) #[] #[.pointer (some ⟨G, 0, none⟩), .pointer (some ⟨w2.heap.size, 0, none⟩), .pointer (some ⟨G + 1 + 1 + 1 + 1, 0, none⟩)]] 74)).alloc (.cells #[.func (.func 33) #[] #[.pointer (some ⟨G, 0, none⟩), .pointer (some ⟨w2.heap.size + 1, 0, none⟩)]] 73)) w2.heap.size = some (.cells #[.int .i64 n] 3) := by simp [go_sem]
  have e_r : hat (((w2.alloc (.cells #[.int .i64 n] 3)).alloc (.cells #[.func (.func 30) #[] #[.pointer (some ⟨G, 0, none⟩), .pointer (some ⟨w2.heap.size, 0, none⟩), .pointer (some ⟨G + 1 + 1 + 1 + 1, 0, none⟩)]] 74)).alloc (.cells #[.func (.func 33) #[] #[.pointer (some ⟨G, 0, none⟩), .pointer (some ⟨w2.heap.size + 1, 0, none⟩)]] 73)) (w2.heap.size + 1) = some (.cells #[.func (.func 30) #[] #[.pointer (some ⟨G, 0, none⟩), .pointer (some ⟨w2.heap.size, 0, none⟩), .pointer (some ⟨G + 1 + 1 + 1 + 1, 0, none⟩)]] 74) := by simp [go_sem]
  have e_b : hat (((w2.alloc (.cells #[.int .i64 n] 3)).alloc (.cells #[.func (.func 30) #[] #[.pointer (some ⟨G, 0, none⟩), .pointer (some ⟨w2.heap.size, 0, none⟩), .pointer (some ⟨G + 1 + 1 + 1 + 1, 0, none⟩)]] 74)).alloc (.cells #[.func (.func 33) #[] #[.pointer (some ⟨G, 0, none⟩), .pointer (some ⟨w2.heap.size + 1, 0, none⟩)]] 73)) (w2.heap.size + 1 + 1) = some (.cells #[.func (.func 33) #[] #[.pointer (some ⟨G, 0, none⟩), .pointer (some ⟨w2.heap.size + 1, 0, none⟩)]] 73) := by simp [go_sem]
  have k_l := (hf3.block _ (hat_lt g_l) (by simp)).trans g_l
  have k_x := (hf3.block _ (hat_lt g_x) (by simp)).trans g_x
  have k_v := (hf3.block _ (hat_lt g_v) (by simp)).trans g_v
  have k_b := (hf3.block _ (hat_lt g_b) (by simp)).trans g_b
  have hl3 := HL1.out.fr hf3 (by simp) (by simp) (by simp) (by simp)
  have hm3 := HM1.out.same (hf3.block _ HM1.out.lt (by simp))
  have HF3 := Lib.hid (HF1.out.trans (hf3.mono (ex' := [E.bt]) (by simp)))
  generalize (((w2.alloc (.cells #[.int .i64 n] 3)).alloc (.cells #[.func (.func 30) #[] #[.pointer (some ⟨G, 0, none⟩), .pointer (some ⟨w2.heap.size, 0, none⟩), .pointer (some ⟨G + 1 + 1 + 1 + 1, 0, none⟩)]] 74)).alloc (.cells #[.func (.func 33) #[] #[.pointer (some ⟨G, 0, none⟩), .pointer (some ⟨w2.heap.size + 1, 0, none⟩)]] 73)) = w3 at *
  generalize hW2 : w2.heap.size = W2 at *
  have hlk : LK (atHand E (G + 1 + 1)) w3 { st with bk := fun _ => none } := ⟨hl3.look, hl3.want, hl3.claim, hl3.firm, IB_empty k_b⟩
  have htv : TV (atHand E (G + 1 + 1)) ⟨G, W2, G + 1 + 1 + 1 + 1, G + 1 + 1 + 1, n⟩ w3 := ⟨k_l, e_n, k_v, _, k_x, inC_size hr _ _, inC_19 hr _ _⟩
  have htc : TC (atHand E (G + 1 + 1)) ⟨G, W2, G + 1 + 1 + 1 + 1, G + 1 + 1 + 1, n⟩ (W2 + 1) (W2 + 1 + 1) w3 := ⟨htv, e_r, e_b⟩
  have hok : COk (atHand E (G + 1 + 1)) ⟨G, W2, G + 1 + 1 + 1 + 1, G + 1 + 1 + 1, n⟩ (W2 + 1) (W2 + 1 + 1) := by
    obtain ⟨a1, a2, a3, a4⟩ := hmine
    refine ⟨⟨?_, ?_, ?_, ?_, hn0, hn1⟩, ?_⟩
    · simp [mine, atHand]; omega
    · simp [mine, atHand]; omega
    · simp [mine, atHand]; omega
    · simp [mine, atHand]; omega
    · intro k hk
      simp [mine, atHand] at hk
      simp [theirs]
      omega
  have HLK := Lib.hid hlk
  have HTC := Lib.hid htc
  have HOK := Lib.hid hok
  have HTV := Lib.hid htv
  clear hl3 hlk htv htc hok k_b k_l e_b g_l g_b g_x g_v hf3 HL1 HF1 HB2
  have hnums : Nums w3 (G + 1 + 1 + 1) 4 60 20 (fun j => (inC raw 0 (G + 1 + 1))[j]?) ((raw.drop 4).take 12) := ⟨_, k_x, inC_size hr _ _, (by rw [inC_size hr]; simp [hr]), fun j p hj => (by
    rw [List.getElem?_take] at hj
    split at hj
    · rw [List.getElem?_drop] at hj
      exact inC_raw _ _ hj
    · cases hj), fun j hj => rfl⟩
  have hdl : ((raw.drop 4).take 12).length = 12 := by simp [hr]
  have hrow := row_any HEB.out HOK.out.t (G + 1 + 1 + 1) 4 12 20 60 (fun j => (inC raw 0 (G + 1 + 1))[j]?) ((raw.drop 4).take 12) 0 _ w3.drew (HLK.out.fr (fr_drew (Fr.refl [] w3)) (by simp) (by simp) (by simp) (by simp) (by simp)) (HTV.out.fr (fr_drew (Fr.refl [] w3)) (by simp) (by simp) (by simp) (by simp)) (hnums.same rfl) (by omega) (by omega) (by omega) (by omega) (fun p hp => hpt p (List.mem_of_mem_take hp)) HOK.out.t.g (by show G + 1 + 1 + 1 ≠ G; omega) (by show G + 1 + 1 + 1 ≠ W2; omega) (by show G + 1 + 1 + 1 ≠ G + 1 + 1 + 1 + 1; omega) (fun _ => by omega)
  rw [hdl] at hrow
  have HROW := Lib.hid hrow
  have hzr := hat_lt e_r
  clear hrow hnums k_x e_n
  go_region_held3 (fun w' => hat w' (W2 + 1) = some (.cells #[.func (.func 30) #[] #[.pointer (some ⟨G, 0, none⟩), .pointer (some ⟨W2, 0, none⟩), .pointer (some ⟨G + 1 + 1 + 1 + 1, 0, none⟩)]] 74) ∧ hat w' (G + 1 + 1 + 1 + 1) = some (.cells #[.pointer (some ⟨G + 1 + 1 + 1, 0, none⟩)] 61)) (refine ⟨?_, ?_⟩ <;> assumption)
    (first | (refine HROW.out.mono ?_; rintro e w4 ⟨rfl, q1, q2, q3, q4⟩; have r4 : hat w4 (W2 + 1) = some (.cells #[.func (.func 30) #[] #[.pointer (some ⟨G, 0, none⟩), .pointer (some ⟨W2, 0, none⟩), .pointer (some ⟨G + 1 + 1 + 1 + 1, 0, none⟩)]] 74) := (q4.block _ hzr (by simp [atHand]; omega)).trans e_r; have x4 : hat w4 (G + 1 + 1 + 1 + 1) = some (.cells #[.pointer (some ⟨G + 1 + 1 + 1, 0, none⟩)] 61) := q2.x))
  obtain ⟨csx, hx4, hxs, -, hxn, hxr⟩ := q3
  rw [rowP_len, hdl] at hxr
  have hx16 : csx[16]? = some (.int .i64 (nth raw 16)) := (hxr 16 (by omega)).trans (inC_get hr 0 _ (by omega))
  have hx17 : csx[17]? = some (.int .i64 (nth raw 17)) := (hxr 17 (by omega)).trans (inC_get hr 0 _ (by omega))
  have y16 : ∀ h : 16 < csx.size, csx[16]'h = Value.int .i64 (nth raw 16) := fun h => by
    rw [Array.getElem?_eq_getElem h] at hx16
    exact Option.some.inj hx16
  have y17 : ∀ h : 17 < csx.size, csx[17]'h = Value.int .i64 (nth raw 17) := fun h => by
    rw [Array.getElem?_eq_getElem h] at hx17
    exact Option.some.inj hx17
  have zx4 := hat_lt x4
  have zg4 := hat_lt hx4
  have zr4 := hat_lt r4
  have HXN := Lib.hid hxn
  have HXR := Lib.hid hxr
  have HQ1 := Lib.hid q1
  have HQ2 := Lib.hid q2
  have HQ4 := Lib.hid q4
  clear hxn hxr hx16 hx17 q1 q2 q4 HROW
  have htc4 : TC (atHand E (G + 1 + 1)) ⟨G, W2, G + 1 + 1 + 1 + 1, G + 1 + 1 + 1, n⟩ (W2 + 1) (W2 + 1 + 1) w4 := ⟨HQ2.out, r4, (HQ4.out.block _ (hat_lt HTC.out.b) (by simp [atHand]; omega)).trans HTC.out.b⟩
  have HTC4 := Lib.hid htc4
  clear htc4
  go_upto_region 7 with fail
  go_cut [10, 11] from 16 (fun a b wx => ∃ B1 B2 : Nat, a = .slice (some ⟨B1, 0, none⟩) 1 1 ∧ b = .slice (some ⟨B2, 0, none⟩) 1 1 ∧ Hid (B1 ≠ B2 ∧ w4.heap.size ≤ B1 ∧ w4.heap.size ≤ B2 ∧ Fr [] w4 wx ∧ hat wx B1 = some (.cells #[.int .i64 (nth raw 16)] 3) ∧ hat wx B2 = some (.cells #[.int .i64 (nth raw 17)] 3)))
  case first =>
    go_region
    · go_wp2_with fail
      go_meet
      case rel => exact ⟨w4.heap.size, w4.heap.size + 1, rfl, rfl, Lib.hid ⟨by omega, Nat.le_refl _, by omega, fr_drew (fr_below (((Below.refl w4.heap.size w4).alloc (Nat.le_refl _) _).alloc (by simp) _) []), by simp [go_sem], by simp [go_sem]⟩⟩
    · go_wp2_with fail
      go_meet
      case rel => exact ⟨w4.heap.size + 1, w4.heap.size, rfl, rfl, Lib.hid ⟨by omega, by omega, Nat.le_refl _, fr_drew (fr_below (((Below.refl w4.heap.size w4).alloc (Nat.le_refl _) _).alloc (by simp) _) []), by simp [go_sem], by simp [go_sem]⟩⟩
  case rest =>
    obtain ⟨B1, B2, rfl, rfl, HCUT⟩ := hcut
    obtain ⟨hBB, hA1, hA2, hf5, e1, e2⟩ := HCUT.out
    have hlk5 := HQ1.out.fr hf5 (by simp) (by simp) (by simp) (by simp) (by simp)
    have htc5 := HTC4.out.fr hf5 (by simp)
    have hx5 := (hf5.block _ zg4 (by simp)).trans hx4
    have hlt4 : ∀ k ∈ theirs ⟨G, W2, G + 1 + 1 + 1 + 1, G + 1 + 1 + 1, n⟩ (W2 + 1) (W2 + 1 + 1), k < B1 := fun k hk => Nat.lt_of_lt_of_le (HTC4.out.lt k hk) hA1
    have hlt5 : ∀ k ∈ theirs ⟨G, W2, G + 1 + 1 + 1 + 1, G + 1 + 1 + 1, n⟩ (W2 + 1) (W2 + 1 + 1), k < B2 := fun k hk => Nat.lt_of_lt_of_le (HTC4.out.lt k hk) hA2
    have zx5 : G + 1 + 1 + 1 + 1 < B1 := Nat.lt_of_lt_of_le zx4 hA1
    have zx6 : G + 1 + 1 + 1 + 1 < B2 := Nat.lt_of_lt_of_le zx4 hA2
    have zr5 : W2 + 1 < B1 := Nat.lt_of_lt_of_le zr4 hA1
    have zr6 : W2 + 1 < B2 := Nat.lt_of_lt_of_le zr4 hA2
    clear HCUT
    generalize wc = w5 at *
    have hl5 := htc5.v.l
    have hn5 := htc5.v.n
    go_wp2_with fail
    have hga : B1 ∉ mine (atHand E (G + 1 + 1)) := by (obtain ⟨a1, a2, a3, a4⟩ := hmine; simp [mine, atHand]; omega)
    have hgb : B2 ∉ mine (atHand E (G + 1 + 1)) := by (obtain ⟨a1, a2, a3, a4⟩ := hmine; simp [mine, atHand]; omega)
    have hta : B1 ∉ theirs ⟨G, W2, G + 1 + 1 + 1 + 1, G + 1 + 1 + 1, n⟩ (W2 + 1) (W2 + 1 + 1) := fun hm => by have := hlt4 _ hm; omega
    have htb : B2 ∉ theirs ⟨G, W2, G + 1 + 1 + 1 + 1, G + 1 + 1 + 1, n⟩ (W2 + 1) (W2 + 1 + 1) := fun hm => by have := hlt5 _ hm; omega
    have z2 := hat_lt e2
    refine (siftK_any HEB.out HOK.out (keep3 (atHand E (G + 1 + 1)) ⟨G, W2, G + 1 + 1 + 1 + 1, G + 1 + 1 + 1, n⟩) 12 1 36 #[.pointer (some ⟨W2 + 1 + 1, 0, none⟩)] B1 1 1 3 (fun _ => none) [nth raw 16] _ w5 (fun args w => by go_simp) (fun k p st w _ h1 h2 h3 => keep3_any HEB.out HOK.out k p st w h1 h2 h3) hlk5 htc5 (one_nums e1) (by simp) (by simp) (by omega) (by omega) (by omega) (by omega) (fun p hp => by (rw [List.mem_singleton] at hp; rw [hp]; exact hpt _ (nth_drop hr (by omega) (by omega)))) (by assumption) (by assumption)).mono ?_
    rintro e w6 ⟨rfl, s1, s2, s3, s4⟩
    have f2 := (s4.block _ z2 (by (obtain ⟨a1, a2, a3, a4⟩ := hmine; simp [atHand]; omega))).trans e2
    have hl6 := s2.v.l
    have hn6 := s2.v.n
    have S1 := Lib.hid s1
    have S2 := Lib.hid s2
    have S3 := Lib.hid s3
    have S4 := Lib.hid s4
    clear s1 s2 s3 s4 hlk5 htc5 hl5 hn5 e1 e2
    go_wp2_with fail
    refine (siftK_any HEB.out HOK.out (keep4 (atHand E (G + 1 + 1)) ⟨G, W2, G + 1 + 1 + 1 + 1, G + 1 + 1 + 1, n⟩) 44 1 37 #[.pointer (some ⟨G, 0, none⟩), .pointer (some ⟨W2, 0, none⟩), .pointer (some ⟨W2 + 1 + 1, 0, none⟩)] B2 1 1 3 (fun _ => none) [nth raw 17] _ w6 (fun args w => by go_simp) (fun k p st w _ h1 h2 h3 => keep4_any HEB.out HOK.out k p st w h1 h2 h3) S1.out S2.out (one_nums f2) (by simp) (by simp) (by omega) (by omega) (by omega) (by omega) (fun p hp => by (rw [List.mem_singleton] at hp; rw [hp]; exact hpt _ (nth_drop hr (by omega) (by omega)))) (by assumption) (by assumption)).mono ?_
    rintro e w7 ⟨rfl, t1, t2, t3, t4⟩
    have T1 := Lib.hid t1
    have T2 := Lib.hid t2
    have T3 := Lib.hid t3
    have T4 := Lib.hid t4
    clear t1 t2 t3 t4
    obtain ⟨sg, hsg, v1⟩ := nums_one S3.out (siftP_len _ _ _ _ _ _ _ _)
    have v1 := (T4.out.block _ (hat_lt v1) (by (obtain ⟨a1, a2, a3, a4⟩ := hmine; simp [atHand]; omega))).trans v1
    obtain ⟨db, hdb, v2⟩ := nums_one T3.out (siftP_len _ _ _ _ _ _ _ _)
    have hx7 : hat w7 (G + 1 + 1 + 1) = some (.cells csx 60) := by
      have h6 := (S4.out.block _ (hat_lt hx5) (by (obtain ⟨a1, a2, a3, a4⟩ := hmine; simp [atHand]; omega))).trans hx5
      exact (T4.out.block _ (hat_lt h6) (by (obtain ⟨a1, a2, a3, a4⟩ := hmine; simp [atHand]; omega))).trans h6
    have hv7 := T2.out.v.x
    have hl7 := T2.out.v.l
    have zx7 := hat_lt hx7
    have zv7 := hat_lt hv7
    have zu1 := hat_lt v1
    have zu2 := hat_lt v2
    have HSG := Lib.hid hsg
    have HDB := Lib.hid hdb
    clear hsg hdb
    go_upto_region 10 with fail
    go_cut [] from 16 (fun wx => wx = ((w7.setCell ⟨G + 1 + 1 + 1, 16, none⟩ (.int .i64 sg)).setCell ⟨G + 1 + 1 + 1, 17, none⟩ (.int .i64 db)).drew)
    case first =>
      go_region
      go_wp2_with fail
      go_meet
      case rel => rfl
    case rest =>
    subst hcut
    have c8 : hat ((w7.setCell ⟨G + 1 + 1 + 1, 16, none⟩ (.int .i64 sg)).setCell ⟨G + 1 + 1 + 1, 17, none⟩ (.int .i64 db)) (G + 1 + 1 + 1) = some (.cells ((csx.setIfInBounds 16 (.int .i64 sg)).setIfInBounds 17 (.int .i64 db)) 60) := hat_setCell_at _ _ _ _ _ _ _ (hat_setCell_at _ _ _ _ _ _ _ hx7)
    have f8 : Fr [G + 1 + 1 + 1] w7 ((w7.setCell ⟨G + 1 + 1 + 1, 16, none⟩ (.int .i64 sg)).setCell ⟨G + 1 + 1 + 1, 17, none⟩ (.int .i64 db)).drew := fr_drew ((fr_setCell _ _ _ _).trans (fr_setCell _ _ _ _))
    have c8d : hat ((w7.setCell ⟨G + 1 + 1 + 1, 16, none⟩ (.int .i64 sg)).setCell ⟨G + 1 + 1 + 1, 17, none⟩ (.int .i64 db)).drew (G + 1 + 1 + 1) = _ := c8
    have hlen1 : (rowP (atHand E (G + 1 + 1)) ⟨G, W2, G + 1 + 1 + 1 + 1, G + 1 + 1 + 1, n⟩ 0 ((raw.drop 4).take 12) { st with bk := fun _ => none }).1.length = 12 := by rw [rowP_len]; exact hdl
    rw [inC_built hxs hr hlen1 HXN.out HXR.out] at c8d
    have hraw : (ptrsX E.X E.Y n raw { st with bk := fun _ => none }).1 = raw.take 4 ++ ((rowP (atHand E (G + 1 + 1)) ⟨G, W2, G + 1 + 1 + 1 + 1, G + 1 + 1 + 1, n⟩ 0 ((raw.drop 4).take 12) { st with bk := fun _ => none }).1 ++ ([sg] ++ [db])) := by
      rw [← HSG.out, ← HDB.out]; rfl
    rw [← hraw] at c8d
    have hst : LK (atHand E (G + 1 + 1)) w7 (ptrsX E.X E.Y n raw { st with bk := fun _ => none }).2 := T1.out
    have hrl : (ptrsX E.X E.Y n raw { st with bk := fun _ => none }).1.length = 18 := by rw [hraw]; simp [hr, hlen1]
    have hr0 : nth (ptrsX E.X E.Y n raw { st with bk := fun _ => none }).1 0 = nth raw 0 := by rw [hraw]; exact nth_take4 hr (by omega)
    have hr2 : nth (ptrsX E.X E.Y n raw { st with bk := fun _ => none }).1 2 = nth raw 2 := by rw [hraw]; exact nth_take4 hr (by omega)
    have hvals : ValsIn E.X E.Y (ptrsX E.X E.Y n raw { st with bk := fun _ => none }).2 := ptrsX_vals _ _ _ _ _ (fun k p hk => by cases hk)
    have hkeys : KeysIn n (ptrsX E.X E.Y n raw { st with bk := fun _ => none }).2 := ptrsX_keys _ _ _ _ _ (fun k hk => by cases hk)
    have hgx := HEB.out
    have hne8 : G + 1 + 1 + 1 ∉ mine (atHand E (G + 1 + 1)) := HOK.out.t.g
    have hlk8 := hst.fr f8 (by (intro hm; exact hne8 (by simp [mine] at hm ⊢; simp [hm]))) (by (intro hm; exact hne8 (by simp [mine] at hm ⊢; simp [hm]))) (by (intro hm; exact hne8 (by simp [mine] at hm ⊢; simp [hm]))) (by (intro hm; exact hne8 (by simp [mine] at hm ⊢; simp [hm]))) (by (intro hm; exact hne8 (by simp [mine] at hm ⊢; simp [hm])))
    have hfw4 : Fr [E.bc, G + 1 + 1, G + 1 + 1 + 1] w3 w4 := (fr_drew (Fr.refl _ w3)).trans HQ4.out
    have hfa : Fr [E.bc, G + 1 + 1, G + 1 + 1 + 1, B1, B2, E.gw, E.bf] w3 ((w7.setCell ⟨G + 1 + 1 + 1, 16, none⟩ (.int .i64 sg)).setCell ⟨G + 1 + 1 + 1, 17, none⟩ (.int .i64 db)).drew :=
      ((((hfw4.mono (by simp +contextual)).trans (hf5.mono (by simp))).trans (S4.out.mono (by simp +contextual [atHand]))).trans (T4.out.mono (by simp +contextual [atHand]))).trans (f8.mono (by simp))
    have hpb8 := hm3.same (hfa.block _ hm3.lt (by (have b1 := hE.m2; have b2 := hE.m3; have b3 := hE.m4; simp; omega)))
    have hfb : Fr [E.bc, E.gw, E.bf, E.bt] w ((w7.setCell ⟨G + 1 + 1 + 1, 16, none⟩ (.int .i64 sg)).setCell ⟨G + 1 + 1 + 1, 17, none⟩ (.int .i64 db)).drew := ((HF3.out.mono (ex' := [E.bc, G + 1 + 1, G + 1 + 1 + 1, B1, B2, E.gw, E.bf, E.bt]) (by simp)).trans (hfa.mono (by simp +contextual))).old (by (simp; omega))
    have hqo := HQO.out
    have hq8 := HQV.out.fr hfb (by (have := hqo.v; simp at this ⊢; omega)) (fun g hg => by (have := hqo.b g hg; simp at this ⊢; omega))
    have hv8 := (f8.block _ zv7 (by simp)).trans hv7
    have hl8 := (f8.block _ (hat_lt hl7) (by simp; omega)).trans hl7
    have hn8 := (f8.block _ (hat_lt T2.out.v.n) (by simp; omega)).trans T2.out.v.n
    generalize ((w7.setCell ⟨G + 1 + 1 + 1, 16, none⟩ (.int .i64 sg)).setCell ⟨G + 1 + 1 + 1, 17, none⟩ (.int .i64 db)).drew = w8 at *
    have HTKX := Lib.hid (show takeX E.X E.Y raw st = if nth raw 0 = 2 then ((ptrsX E.X E.Y n raw { st with bk := fun _ => none }).1, firmX n (ptrsX E.X E.Y n raw { st with bk := fun _ => none }).2) else ((ptrsX E.X E.Y n raw { st with bk := fun _ => none }).1, tailX n (nth raw 2) (ptrsX E.X E.Y n raw { st with bk := fun _ => none }).2) by unfold takeX cntX; rw [HN.out])
    have HRL := Lib.hid hrl
    have HR0 := Lib.hid hr0
    have HR2 := Lib.hid hr2
    have HKEYS := Lib.hid hkeys
    have HVALS := Lib.hid hvals
    have HLK8 := Lib.hid hlk8
    have HPB8 := Lib.hid hpb8
    have HFB := Lib.hid hfb
    have HQ8 := Lib.hid hq8
    clear hrl hr0 hr2 hkeys hvals hlk8 hpb8 hfb hq8 hst hraw c8 hfa hfw4 hgx hqo f8 v1 v2 HSG HDB T1 T2 T3 T4 S1 S2 S3 S4
    generalize hR : ptrsX E.X E.Y n raw { st with bk := fun _ => none } = R at *
    clear hR
    obtain ⟨raw2, st2⟩ := R
    simp only at c8d
    clear HQ1 HQ2 HQ4 HTC HTC4 HLK HTV HXN HXR r4 x4 hx4 y16 y17 e_r k_v hf5 hx5 HF3 hm3 HM1
    have k0 : (inC raw2 0 (G + 1 + 1))[0]? = some (.int .i64 (nth raw 0)) := by rw [inC_get HRL.out 0 _ (by omega), HR0.out]
    have k2 : (inC raw2 0 (G + 1 + 1))[2]? = some (.int .i64 (nth raw 2)) := by rw [inC_get HRL.out 0 _ (by omega), HR2.out]
    have k19 : (inC raw2 0 (G + 1 + 1))[19]? = some (.map (some (G + 1 + 1))) := inC_19 HRL.out 0 _
    have HC8 := Lib.hid c8d
    generalize hc8 : inC raw2 0 (G + 1 + 1) = c8 at c8d k0 k2 k19
    clear hc8
    have j0 : ∀ h : 0 < c8.size, c8[0]'h = Value.int .i64 (nth raw 0) := fun h => by
      rw [Array.getElem?_eq_getElem h] at k0
      exact Option.some.inj k0
    have j2 : ∀ h : 2 < c8.size, c8[2]'h = Value.int .i64 (nth raw 2) := fun h => by
      rw [Array.getElem?_eq_getElem h] at k2
      exact Option.some.inj k2
    have j19 : ∀ h : 19 < c8.size, c8[19]'h = Value.map (some (G + 1 + 1)) := fun h => by
      rw [Array.getElem?_eq_getElem h] at k19
      exact Option.some.inj k19
    have z0 : 0 < c8.size := (Array.getElem?_eq_some_iff.1 k0).1
    have z2 : 2 < c8.size := (Array.getElem?_eq_some_iff.1 k2).1
    have z19 : 19 < c8.size := (Array.getElem?_eq_some_iff.1 k19).1
    clear k0 k2 k19
    cases hkd : (nth raw 0 == 2)
    · have hk2 : ¬ nth raw 0 = 2 := by simpa using hkd
      have hlk1 := (show IB w8.drew (G + 1 + 1) st2.bk from HLK8.out.blocks).1.look (p := n - 1) ⟨by omega, by omega⟩
      have hlk2 := HLK8.out.blocks.1.look (p := n - 1) ⟨by omega, by omega⟩
      have HTKY := HTKX.out
      rw [if_neg hk2] at HTKY
      have hfin : ∀ wz stz, takeX E.X E.Y raw st = (raw2, stz) → Fr [E.gw] w8 wz → LK (atHand E (G + 1 + 1)) wz stz → ∃ gx bx ob', Took E gr i raw st tk ob xs w wz gx bx ob' := by
        intro wz stz hz hf hl
        have hm := hE.m2
        have hv := HQO.out.v
        have hb := HQO.out.b
        refine ⟨G + 1 + 1 + 1, G + 1 + 1, ob, by omega, by omega, by omega, ?_, ?_, ?_, ?_, .inl rfl, ?_⟩
        · rw [hz]
          exact (hf.block _ (hat_lt HC8.out) (by (have := hmine; simp; omega))).trans HC8.out
        · rw [hz]; exact hl
        · exact HPB8.out.same (hf.block _ HPB8.out.lt (by simp; omega))
        · rw [if_neg hk2]
          exact HQ8.out.fr hf (by simp at hv ⊢; omega) (fun g hg => by (have := hb g hg; simp at this ⊢; omega))
        · refine (HFB.out.mono ?_).trans (hf.mono ?_)
          · intro k hk; simp at hk ⊢; omega
          · intro k hk; simp at hk ⊢; omega
      have HFIN := Lib.hid hfin
      clear hfin
      cases hb : st2.bk (n - 1) with
      | none =>
        rw [show (raw2, st2).2.bk (n - 1) = none from hb] at hlk1 hlk2
        have HTY : Hid (takeX E.X E.Y raw st = (raw2, st2)) := Lib.hid (by rw [HTKY]; show (raw2, tailX n (nth raw 2) st2) = _; unfold tailX; rw [hb])
        clear HTKY
        go_wp2_with fail
        go_region
        go_wp2_with fail
        refine bodyPost_end (results_none rfl _ _ _) rfl ?_
        exact ⟨rfl, HFIN.out _ _ HTY.out (fr_drew (Fr.refl _ _)) (HLK8.out.fr (fr_drew (Fr.refl [] _)) (by simp) (by simp) (by simp) (by simp) (by simp))⟩
      | some p =>
        rw [show (raw2, st2).2.bk (n - 1) = some p from hb] at hlk1 hlk2
        have hpd := isD_range HEB.out (HVALS.out _ p hb)
        obtain ⟨at', rfl⟩ := Int.eq_ofNat_of_zero_le hpd.1
        by_cases hzr : nth raw 2 % 128 = 0
        · have HTY : Hid (takeX E.X E.Y raw st = (raw2, st2)) := Lib.hid (by rw [HTKY]; show (raw2, tailX n (nth raw 2) st2) = _; unfold tailX; rw [hb]; simp only [hzr, if_true])
          clear HTKY
          go_wp2_with fail
          go_region
          go_wp2_with fail
          refine bodyPost_end (results_none rfl _ _ _) rfl ?_
          exact ⟨rfl, HFIN.out _ _ HTY.out (fr_drew (Fr.refl _ _)) (HLK8.out.fr (fr_drew (Fr.refl [] _)) (by simp) (by simp) (by simp) (by simp) (by simp))⟩
        · have HTY : Hid (takeX E.X E.Y raw st = (raw2, { st2 with S := updS st2.S at' (wipeL (st2.S at') (nth raw 2 % 128).toNat) })) := Lib.hid (by rw [HTKY]; show (raw2, tailX n (nth raw 2) st2) = _; unfold tailX; rw [hb]; simp only [hzr, if_false]; rfl)
          clear HTKY
          go_wp2_with fail
          go_region
          go_upto_region 19 with fail
          have hNs : E.N ≤ 4096 := by (have h1 := hE.small; have h2 := hE.size; omega)
          have hatN : at' < E.N := by (have h3 : (at' : Int) < E.N := hpd.2.2; omega)
          obtain ⟨csw, hcsw, hldw, hlenw, hbyw⟩ := HLK8.out.want.load hatN
          obtain ⟨csw', hcsw', hsw, -⟩ := HLK8.out.want
          rw [hcsw] at hcsw'
          obtain rfl : csw = csw' := by (have h1 := Option.some.inj hcsw'; injection h1)
          have hwl : (wipeL (st2.S at') (nth raw 2 % 128).toNat).length = 128 := wipeL_length hlenw (by omega)
          have hst : ∀ raw' w', stRow raw' 128 (at' * 128) (atHand E (G + 1 + 1)).gw (IV .u8 (wipeL (st2.S at') (nth raw 2 % 128).toNat)) w' (some (.cells csw 32 (0, 0))) = .ok () (w'.setRow E.gw (splice csw (at' * 128) (IV .u8 (wipeL (st2.S at') (nth raw 2 % 128).toNat)))) := fun raw' w' =>
            stRow_part (by (have h1 : E.N * 128 ≤ csw.size := hsw); omega) (by simp [hwl]) (by simp)
          have hlkx := HLK8.out.look
          unfold lkCells at hlkx
          have HBYW := Lib.hid hbyw
          have HLENW := Lib.hid hlenw
          have hzm : ((nth raw 2 % 128).toNat : Int) = nth raw 2 % 128 := by omega
          have hzm2 : (nth raw 2 % 128).toNat < 128 := by omega
          generalize hzk : (nth raw 2 % 128).toNat = zk at *
          have hat0 : (0 : Int) ≤ (at' : Int) := Int.natCast_nonneg _
          have hat1 : (at' : Int) < (E.N : Int) := by omega
          have e_n1 : E.gl ≠ E.gw := hE.n1
          clear hlk1 hlk2 hpd hcsw'
          have HTM : (nth raw 2).tmod 128 = (zk : Int) := by (rw [Int.tmod_eq_emod_of_nonneg hz0]; exact hzm.symm)
          simp only [atHand] at hlkx hcsw hst hldw
          refine wp_region_vals (by kernel_rfl) 20 (by decide) rfl (fun i => match i with | 0 => .pointer (some ⟨E.gl, 0, none⟩) | 1 => .pointer (some ⟨E.gl, 0, none⟩) | 2 => .pointer (some ⟨E.gl, 3, none⟩) | 3 => .slice (some ⟨E.gw, 0, none⟩) E.N E.cw | 4 => .int .i64 (at' : Int) | 5 => .pointer (some ⟨E.gl, 0, none⟩) | 6 => .pointer (some ⟨E.gl, 0, none⟩) | 7 => .pointer (some ⟨E.gl, 3, none⟩) | 8 => .slice (some ⟨E.gw, 0, none⟩) E.N E.cw | 9 => .int .i64 (at' : Int) | 10 => .pointer (some ⟨E.gw, at' * 128, none⟩) | 11 => .agg (IV .u8 (st2.S at')) | 12 => .pointer (some ⟨G + 1 + 1 + 1, 0, none⟩) | 13 => .pointer (some ⟨G + 1 + 1 + 1, 0, none⟩) | 14 => .pointer (some ⟨G + 1 + 1 + 1, 0, none⟩) | 15 => .pointer (some ⟨G + 1 + 1 + 1, 2, none⟩) | 16 => .int .i64 (nth raw 2) | 17 => .int .i64 (zk : Int) | 18 => .agg (IV .u8 (wipeL (st2.S at') zk)) | _ => .pointer (some ⟨E.gw, at' * 128, none⟩)) ?_ ?_
          · intro i o hi ho a' w' hB hS hF
            have hi' : i = 0 ∨ i = 1 ∨ i = 2 ∨ i = 3 ∨ i = 4 ∨ i = 5 ∨ i = 6 ∨ i = 7 ∨ i = 8 ∨ i = 9 ∨ i = 10 ∨ i = 11 ∨ i = 12 ∨ i = 13 ∨ i = 14 ∨ i = 15 ∨ i = 16 ∨ i = 17 ∨ i = 18 ∨ i = 19 := by omega
            have f_l : hat w' G = some (.cells #[.pointer (some ⟨E.gl, 0, none⟩)] 47) := (hop hB hl8).1
            have f_x : hat w' (G + 1 + 1 + 1 + 1) = some (.cells #[.pointer (some ⟨G + 1 + 1 + 1, 0, none⟩)] 61) := (hop hB hv8).1
            have f_g : hat w' (G + 1 + 1 + 1) = some (.cells c8 60) := (hop hB c8d).1
            have f_w : hat w' E.gw = some (.cells csw 32) := (hop hB hcsw).1
            have f_k : hat w' E.gl = some (.cells #[.int .i64 E.X, .int .i64 E.Y, E.img, .slice (some ⟨E.gw, 0, none⟩) E.N E.cw, .map (some E.bc), .map (some E.bt), .map (some E.bf), E.qf] 53) := (hop hB hlkx).1
            rcases hi' with rfl | rfl | rfl | rfl | rfl | rfl | rfl | rfl | rfl | rfl | rfl | rfl | rfl | rfl | rfl | rfl | rfl | rfl | rfl | rfl
            all_goals (have ho' := Option.some.inj ho; subst ho')
            · have e3 : a'.tmps[3]?.getD undef = .pointer (some ⟨G, 0, none⟩) := gtx ((hS 3 (by decide)).trans rfl)
              refine wpOp_val rfl rfl (v := .pointer (some ⟨E.gl, 0, none⟩)) (w1 := w') ?_ ⟨rfl, hB⟩
              simp [go_sem, e3, f_l]
            · have e119 : a'.tmps[119]?.getD undef = .pointer (some ⟨E.gl, 0, none⟩) := gtx ((hF 0 (by decide) _ 119 rfl rfl).trans rfl)
              refine wpOp_val rfl rfl (v := .pointer (some ⟨E.gl, 0, none⟩)) (w1 := w') ?_ ⟨rfl, hB⟩
              simp [go_sem, e119]
            · have e120 : a'.tmps[120]?.getD undef = .pointer (some ⟨E.gl, 0, none⟩) := gtx ((hF 1 (by decide) _ 120 rfl rfl).trans rfl)
              refine wpOp_val rfl rfl (v := .pointer (some ⟨E.gl, 3, none⟩)) (w1 := w') ?_ ⟨rfl, hB⟩
              simp [go_sem, e120]
            · have e121 : a'.tmps[121]?.getD undef = .pointer (some ⟨E.gl, 3, none⟩) := gtx ((hF 2 (by decide) _ 121 rfl rfl).trans rfl)
              refine wpOp_val rfl rfl (v := .slice (some ⟨E.gw, 0, none⟩) E.N E.cw) (w1 := w') ?_ ⟨rfl, hB⟩
              simp [go_sem, e121, f_k]
            · have e14 : a'.tmps[14]?.getD undef = .int .i64 (at' : Int) := gtx ((hS 14 (by decide)).trans rfl)
              refine wpOp_val rfl rfl (v := .int .i64 (at' : Int)) (w1 := w') ?_ ⟨rfl, hB⟩
              simp [go_sem, e14]
            · have e3 : a'.tmps[3]?.getD undef = .pointer (some ⟨G, 0, none⟩) := gtx ((hS 3 (by decide)).trans rfl)
              refine wpOp_val rfl rfl (v := .pointer (some ⟨E.gl, 0, none⟩)) (w1 := w') ?_ ⟨rfl, hB⟩
              simp [go_sem, e3, f_l]
            · have e124 : a'.tmps[124]?.getD undef = .pointer (some ⟨E.gl, 0, none⟩) := gtx ((hF 5 (by decide) _ 124 rfl rfl).trans rfl)
              refine wpOp_val rfl rfl (v := .pointer (some ⟨E.gl, 0, none⟩)) (w1 := w') ?_ ⟨rfl, hB⟩
              simp [go_sem, e124]
            · have e125 : a'.tmps[125]?.getD undef = .pointer (some ⟨E.gl, 0, none⟩) := gtx ((hF 6 (by decide) _ 125 rfl rfl).trans rfl)
              refine wpOp_val rfl rfl (v := .pointer (some ⟨E.gl, 3, none⟩)) (w1 := w') ?_ ⟨rfl, hB⟩
              simp [go_sem, e125]
            · have e126 : a'.tmps[126]?.getD undef = .pointer (some ⟨E.gl, 3, none⟩) := gtx ((hF 7 (by decide) _ 126 rfl rfl).trans rfl)
              refine wpOp_val rfl rfl (v := .slice (some ⟨E.gw, 0, none⟩) E.N E.cw) (w1 := w') ?_ ⟨rfl, hB⟩
              simp [go_sem, e126, f_k]
            · have e14 : a'.tmps[14]?.getD undef = .int .i64 (at' : Int) := gtx ((hS 14 (by decide)).trans rfl)
              refine wpOp_val rfl rfl (v := .int .i64 (at' : Int)) (w1 := w') ?_ ⟨rfl, hB⟩
              simp [go_sem, e14]
            · have e127 : a'.tmps[127]?.getD undef = .slice (some ⟨E.gw, 0, none⟩) E.N E.cw := gtx ((hF 8 (by decide) _ 127 rfl rfl).trans rfl)
              have e128 : a'.tmps[128]?.getD undef = .int .i64 (at' : Int) := gtx ((hF 9 (by decide) _ 128 rfl rfl).trans rfl)
              refine wpOp_val rfl rfl (v := .pointer (some ⟨E.gw, at' * 128, none⟩)) (w1 := w') ?_ ⟨rfl, hB⟩
              first | (simp [go_sem, e127, e128]; done) | (simp [go_sem, e127, e128, hat0, hat1, hatN, hNs])
            · have e129 : a'.tmps[129]?.getD undef = .pointer (some ⟨E.gw, at' * 128, none⟩) := gtx ((hF 10 (by decide) _ 129 rfl rfl).trans rfl)
              refine wpOp_val rfl rfl (v := .agg (IV .u8 (st2.S at'))) (w1 := w') ?_ ⟨rfl, hB⟩
              simp [go_sem, e129, f_w, hldw]
            · have e6 : a'.tmps[6]?.getD undef = .pointer (some ⟨G + 1 + 1 + 1 + 1, 0, none⟩) := gtx ((hS 6 (by decide)).trans rfl)
              refine wpOp_val rfl rfl (v := .pointer (some ⟨G + 1 + 1 + 1, 0, none⟩)) (w1 := w') ?_ ⟨rfl, hB⟩
              simp [go_sem, e6, f_x]
            · have e131 : a'.tmps[131]?.getD undef = .pointer (some ⟨G + 1 + 1 + 1, 0, none⟩) := gtx ((hF 12 (by decide) _ 131 rfl rfl).trans rfl)
              refine wpOp_val rfl rfl (v := .pointer (some ⟨G + 1 + 1 + 1, 0, none⟩)) (w1 := w') ?_ ⟨rfl, hB⟩
              simp [go_sem, e131]
            · have e132 : a'.tmps[132]?.getD undef = .pointer (some ⟨G + 1 + 1 + 1, 0, none⟩) := gtx ((hF 13 (by decide) _ 132 rfl rfl).trans rfl)
              refine wpOp_val rfl rfl (v := .pointer (some ⟨G + 1 + 1 + 1, 0, none⟩)) (w1 := w') ?_ ⟨rfl, hB⟩
              simp [go_sem, e132]
            · have e133 : a'.tmps[133]?.getD undef = .pointer (some ⟨G + 1 + 1 + 1, 0, none⟩) := gtx ((hF 14 (by decide) _ 133 rfl rfl).trans rfl)
              refine wpOp_val rfl rfl (v := .pointer (some ⟨G + 1 + 1 + 1, 2, none⟩)) (w1 := w') ?_ ⟨rfl, hB⟩
              simp [go_sem, e133]
            · have e134 : a'.tmps[134]?.getD undef = .pointer (some ⟨G + 1 + 1 + 1, 2, none⟩) := gtx ((hF 15 (by decide) _ 134 rfl rfl).trans rfl)
              refine wpOp_val rfl rfl (v := .int .i64 (nth raw 2)) (w1 := w') ?_ ⟨rfl, hB⟩
              simp [go_sem, e134, f_g, z2, j2]
            · have e135 : a'.tmps[135]?.getD undef = .int .i64 (nth raw 2) := gtx ((hF 16 (by decide) _ 135 rfl rfl).trans rfl)
              refine wpOp_val rfl rfl (v := .int .i64 (zk : Int)) (w1 := w') ?_ ⟨rfl, hB⟩
              first | (simp [go_sem, e135, HTM]; done) | (simp [go_sem, e135, HTM, ← hzm]; done) | (simp [go_sem, e135]; omega)
            · have e130 : a'.tmps[130]?.getD undef = .agg (IV .u8 (st2.S at')) := gtx ((hF 11 (by decide) _ 130 rfl rfl).trans rfl)
              have e136 : a'.tmps[136]?.getD undef = .int .i64 (zk : Int) := gtx ((hF 17 (by decide) _ 136 rfl rfl).trans rfl)
              refine wpOp_call (f := 40) (args := #[.agg (IV .u8 (st2.S at')), .int .i64 (zk : Int)]) rfl rfl (by simp [go_sem, e130, e136]) (wipe_any (st2.S at') HLENW.out zk hzm2 w') ?_
              rintro e w'' ⟨rfl, hb'⟩
              exact ⟨_, rfl, rfl, below_call hB hb' hB.size⟩
            · have e122 : a'.tmps[122]?.getD undef = .slice (some ⟨E.gw, 0, none⟩) E.N E.cw := gtx ((hF 3 (by decide) _ 122 rfl rfl).trans rfl)
              have e123 : a'.tmps[123]?.getD undef = .int .i64 (at' : Int) := gtx ((hF 4 (by decide) _ 123 rfl rfl).trans rfl)
              refine wpOp_val rfl rfl (v := .pointer (some ⟨E.gw, at' * 128, none⟩)) (w1 := w') ?_ ⟨rfl, hB⟩
              first | (simp [go_sem, e122, e123]; done) | (simp [go_sem, e122, e123, hat0, hat1, hatN, hNs])
          · intro w9 hb9
            have hb9 : Below w8.heap.size w8 w9 := ⟨hb9.os, hb9.tape, hb9.output, hb9.size, hb9.block⟩
            have fw9 := (hop hb9 hcsw).1
            have hf9 : Fr [] w8 w9 := fr_below hb9 []
            have hlk9 := HLK8.out.fr hf9 (by simp) (by simp) (by simp) (by simp) (by simp)
            have hw9 := hlk9.want.store fw9 hatN hwl (bytes_wipeL HBYW.out zk)
            have hfs : Fr [E.gw] w8 (w9.setRow E.gw (splice csw (at' * 128) (IV .u8 (wipeL (st2.S at') zk)))) := (hf9.mono (by simp)).trans (fr_setRow _ _ _)
            have hlkf : LK (atHand E (G + 1 + 1)) (w9.setRow E.gw (splice csw (at' * 128) (IV .u8 (wipeL (st2.S at') zk)))) { st2 with S := updS st2.S at' (wipeL (st2.S at') zk) } := ⟨(hat_setRow _ _ _ _ hE.n1).trans hlk9.look, hw9, hlk9.claim.same (hat_setRow _ _ _ _ hE.n4.symm), hlk9.firm.same (hat_setRow _ _ _ _ hE.n5.symm), hlk9.blocks.same (hat_setRow _ _ _ _ HEB.out.n8.symm)⟩
            have HFS := Lib.hid hfs
            have HLKF := Lib.hid hlkf
            clear hfs hlkf hw9 hlk9 hf9
            simp only [putAll, List.take, List.drop, List.take_succ_cons, List.drop_succ_cons]
            go_wp2_with fail
            refine bodyPost_end (results_none rfl _ _ _) rfl ?_
            exact ⟨rfl, HFIN.out _ _ HTY.out HFS.out HLKF.out⟩
    · obtain ⟨D, hown, hisD, hhas, hatD⟩ := HLK8.out.blocks.1
      have HISD := Lib.hid hisD
      have HHAS := Lib.hid hhas
      have HATD := Lib.hid hatD
      have HOWN := Lib.hid hown
      clear hisD hhas hatD
      go_wp2_with (first | (at_range; refine wpList_range_own _ rfl _ _ rfl 3 3 (Go.Maps.int_keyed Try.underlying3) Try.underlying58 (plainElem Try.prog 3) (G + 1 + 1) 4096 D rfl hown ?_; intro w9 hrg hgr hsz) | fail)
      try go_frame
      have HB9 := Lib.hid (show Fr [] w8 w9 from ⟨hgr.os, hgr.tape, hgr.output, hgr.size, fun b hb _ => hgr.block b hb (by simp)⟩)
      have HRG := Lib.hid hrg
      have hl9 := (HB9.out.block _ (hat_lt hl8) (by simp)).trans hl8
      have hz98 := hat_lt hl9
      clear hrg hgr hown
      go_loopw [13] (fun _ wr => ∃ (left : Lit → Bool) (cnt : Nat) (fmr : Int → Bool), wr.ranges Try.prog 3 (plainElem (H := Unit) Try.prog 3) (G + 1 + 1) w8.heap.size 4096 D left cnt ∧ Hid (∀ z, left z = true → Go.Maps.has D z = true) ∧
          Hid (∀ q, fmr q = true ↔ st2.fm q = true ∨ ∃ k, st2.bk k = some q ∧ left (.int .i64 k) = false) ∧ Hid (LK (atHand E (G + 1 + 1)) wr { st2 with fm := fmr }) ∧ Hid (Fr [E.bf, w8.heap.size] w9 wr))
        (fun _ wr => wr.rangeLeft (G + 1 + 1) w8.heap.size)
      case atStart =>
        refine ⟨_, _, st2.fm, HRG.out, Lib.hid (fun _ h => h), Lib.hid (fun q => ⟨.inl, fun h => ?_⟩), Lib.hid (HLK8.out.fr HB9.out (by simp) (by simp) (by simp) (by simp) (by simp)), Lib.hid (Fr.refl _ _)⟩
        rcases h with h | ⟨k, hk, hl⟩
        · exact h
        · have hkk := HKEYS.out k (by show (st2.bk k).isSome = true; rw [hk]; rfl)
          rw [HHAS.out k ⟨by omega, by omega⟩] at hl
          rw [show (raw2, st2).2.bk k = st2.bk k from rfl, hk] at hl
          cases hl
      case round =>
        obtain ⟨left, cnt, fmr, hrg, HL1, HL2, HLK, HFR⟩ := hrel
        go_wp2_with (first | (at_next; refine wpList_next_ranges_ii _ rfl _ rfl 3 3 .i64 .i64 (Go.Maps.int_keyed Try.underlying3) Try.underlying3 Try.underlying3 (G + 1 + 1) w8.heap.size 4096 _ _ _ rfl hrg ?_ ?_) | fail)
        · intro hc0 hl0
          have hfm : firmX n st2 = { st2 with fm := fmr } := firmX_of HKEYS.out fmr fun q => by
            rw [HL2.out q]
            exact ⟨fun h => h.imp id (fun ⟨k, hk, _⟩ => ⟨k, hk⟩), fun h => h.imp id (fun ⟨k, hk⟩ => ⟨k, hk, hl0 _⟩)⟩
          have hfr8 : Fr [E.bf] w8 wr := ((HB9.out.mono (ex' := [E.bf, w8.heap.size]) (by simp)).trans HFR.out).old (by simp)
          have hlr := (HFR.out.block _ hz98 (by (have := hmine; have := hat_lt hl8; simp; omega))).trans hl9
          have hlkr := HLK.out.look
          unfold lkCells at hlkr
          rw [show (atHand E (G + 1 + 1)).qf = .func (.func 17) #[] #[.pointer (some ⟨gr, 0, none⟩)] from HQO.out.qf] at hlkr
          have hqr := HQ8.out.fr hfr8 (by (have := HQO.out.v; simp at this ⊢; omega)) (fun g hg => by (have := HQO.out.b g hg; simp at this ⊢; omega))
          have HQR := Lib.hid hqr
          have HFM := Lib.hid hfm
          have HFR8 := Lib.hid hfr8
          clear hqr hfm hfr8 hrg hl0 HL1 HL2
          go_wp2_with fail
          refine (queue_any gr ob xs i wr HQR.out hxn).mono ?_; rintro e w11 ⟨rfl, ob', hq11, hf11, ho11⟩
          have HQ11 := Lib.hid hq11
          have HF11 := Lib.hid hf11
          have HO11 := Lib.hid ho11
          clear hq11 hf11 ho11 hlkr hlr
          go_wp2_with fail
          refine bodyPost_ret (results_none rfl _ _ _) rfl ?_
          have hk2 : nth raw 0 = 2 := by simpa using hkd
          have htx := HTKX.out
          rw [if_pos hk2] at htx
          have hex : ∀ k, k ∈ gr :: ob.toList → k < G ∧ k ∉ [E.gl, E.gw, E.bc, E.bf, E.bt] := by
            intro k hk
            rw [List.mem_cons] at hk
            rcases hk with rfl | hk
            · exact ⟨hgrG, HQO.out.v⟩
            · cases hob : ob with
              | none => rw [hob] at hk; cases hk
              | some g =>
                rw [hob] at hk
                simp at hk; subst hk
                exact ⟨hobG _ hob, HQO.out.b _ hob⟩
          have hbx : ∀ k, G ≤ k → k ∉ gr :: ob.toList := fun k hk hm => by have := (hex k hm).1; omega
          have hmx : ∀ k, k ∈ [E.gl, E.gw, E.bc, E.bf, E.bt] → k ∉ gr :: ob.toList := fun k hk hm => (hex k hm).2 hk
          have hg8 := hat_lt HC8.out
          have hgr8 := (HFR8.out.block _ hg8 (by (have := hmine; simp; omega))).trans HC8.out
          refine ⟨rfl, G + 1 + 1 + 1, G + 1 + 1, ob', ?_⟩
          refine ⟨by omega, by omega, by omega, ?_, ?_, ?_, ?_, ?_, ?_⟩
          · rw [htx]
            exact (HF11.out.block _ (hat_lt hgr8) (hbx _ (by omega))).trans hgr8
          · rw [htx]
            show LK _ w11 (firmX n st2)
            rw [HFM.out]
            exact HLK.out.fr HF11.out (hmx _ (by simp [atHand])) (hmx _ (by simp [atHand])) (hmx _ (by simp [atHand])) (hmx _ (by simp [atHand])) (hbx _ (by simp [atHand]; omega))
          · have hp8 := HPB8.out.same (HFR8.out.block _ HPB8.out.lt (by (have := hE.m4; simp; omega)))
            exact hp8.same (HF11.out.block _ hp8.lt (hmx _ (by simp)))
          · rw [if_pos hk2]; exact HQ11.out
          · rcases HO11.out with h | ⟨g, h, hl⟩
            · exact .inl h
            · have := hat_lt hgr8
              exact .inr ⟨g, h, by omega, by omega, by omega⟩
          · refine ((HFB.out.mono ?_).trans (HFR8.out.mono ?_)).trans (HF11.out.mono ?_)
            · intro k hk; simp at hk ⊢; omega
            · intro k hk; simp at hk ⊢; omega
            · intro k hk; rw [List.mem_cons] at hk; rw [List.mem_append]; rcases hk with rfl | hk
              · exact .inl (by simp)
              · exact .inr hk
        · intro x c w10 cnt1 hwx hwc hlx hat10 hrg1 hlt hg1 hs1 hen
          have hx64 := i64_of_wf hwx
          have hbk : st2.bk x = some c := by
            have h1 := HHAS.out x hx64
            rw [HL1.out _ hlx] at h1
            have h2 := HATD.out x hx64
            rw [hat10] at h2
            have h1' : (st2.bk x).isSome = true := h1.symm
            obtain ⟨p, hp⟩ := Option.isSome_iff_exists.1 h1'
            have h2' : DataW.lit (Lit.int .i64 c) = .lit (.int .i64 ((st2.bk x).getD 0)) := h2
            rw [hp] at h2' ⊢
            injection h2' with h2'
            injection h2' with _ h2'
            rw [h2']; rfl
          have hcd := isD_range HEB.out (HVALS.out x c hbk)
          have hf10 : Fr [w8.heap.size] wr w10 := ⟨hg1.os, hg1.tape, hg1.output, hg1.size, fun b hb hn => hg1.block b hb (by simpa using hn)⟩
          have hz8 : G < w8.heap.size := hat_lt hl8
          have hlk10 := HLK.out.fr hf10 (by (have := hmine; simp [atHand]; omega)) (by (have := hmine; simp [atHand]; omega)) (by (have := hmine; simp [atHand]; omega)) (by (have := hmine; simp [atHand]; omega)) (by (have := hat_lt c8d; simp [atHand]; omega))
          obtain ⟨w11, hr11, hm11, ht11⟩ := hlk10.firm.put (p := c) ⟨hcd.1, hcd.2.1⟩
          have hlr := (HFR.out.block _ hz98 (by (have := hmine; have := hat_lt hl8; simp; omega))).trans hl9
          have hl10 := (hf10.block _ (hat_lt hlr) (by simp; omega)).trans hlr
          have hlkr := hlk10.look
          unfold lkCells at hlkr
          have HM11 := Lib.hid hm11
          have HT11 := Lib.hid ht11
          have HLK10 := Lib.hid hlk10
          have HF10 := Lib.hid hf10
          have hne : (atHand E (G + 1 + 1)).bf ≠ (atHand E (G + 1 + 1)).bx := HEB.out.n10
          have hne2 : (atHand E (G + 1 + 1)).bf ≠ w8.heap.size := by (have := hmine; simp [atHand]; omega)
          have HRG11 := Lib.hid (hrg1.kept HT11.out.grown (by intro e; injection e with e; exact hne e.symm) (by intro e; injection e with e; exact hne2 e.symm))
          have HRG := Lib.hid hrg
          have HBK := Lib.hid hbk
          clear hm11 ht11 hlk10 hf10 hrg1 hrg hbk hat10 hlr hcd hne2
          go_wp2_with fail
          go_roundw
          case rel =>
            have hkk : ∀ k, ((Lit.int .i64 k).sameKey (.int .i64 x) = true ↔ k = x) := fun k => by simp [Lit.sameKey]
            have h10 := HLK10.out
            have hw10 := h10.want
            obtain ⟨cs10, hw10, -⟩ := hw10
            refine ⟨_, cnt1, addS fmr c, HRG11.out, Lib.hid (fun z hz => HL1.out z (by rw [Bool.and_eq_true] at hz; exact hz.1)), Lib.hid (fun q => ?_), Lib.hid ⟨(turned_hat HT11.out HEB.out.n3 (hat_lt h10.look)).trans h10.look, h10.want.same (turned_hat HT11.out HEB.out.n5 (hat_lt hw10)), h10.claim.same (turned_hat HT11.out HEB.out.n6 h10.claim.lt), HM11.out, h10.blocks.same (turned_hat HT11.out hne.symm h10.blocks.lt)⟩, Lib.hid (HFR.out.trans ?_)⟩
            · have e1 : addS fmr c q = true ↔ fmr q = true ∨ q = c := by simp [addS]
              rw [e1, HL2.out q]
              constructor
              · rintro ((h | ⟨k, hk, hl⟩) | rfl)
                · exact .inl h
                · exact .inr ⟨k, hk, by rw [hl]; rfl⟩
                · refine .inr ⟨x, HBK.out, ?_⟩
                  rw [(hkk x).2 rfl]; simp
              · rintro (h | ⟨k, hk, hl⟩)
                · exact .inl (.inl h)
                · rw [Bool.and_eq_false_iff] at hl
                  rcases hl with hl | hl
                  · exact .inl (.inr ⟨k, hk, hl⟩)
                  · have : k = x := (hkk k).1 (by simpa using hl)
                    subst this
                    rw [HBK.out] at hk
                    exact .inr (Option.some.inj hk).symm
            · exact (HF10.out.mono (by simp)).trans ((fr_turned HT11.out).mono (by simp [atHand]))
          case measure =>
            rw [HRG11.out.left_eq, HRG.out.left_eq]
            exact hlt
end Go.Proofs.Ythioepdgnbdohaa
