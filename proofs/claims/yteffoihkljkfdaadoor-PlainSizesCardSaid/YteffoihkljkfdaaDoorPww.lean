/- A plain file system is as it may be: bytes written, read and cut off. -/
import Derived.Test.YteffoihkljkfdaaDoorPwf
namespace Go.Proofs.YteffoihkljkfdaaDoor
set_option linter.unusedSimpArgs false
set_option linter.unusedVariables false
open Go.RowKit

theorem lay_len (off : Int) (data : List Int) (k : Int) (s : List Int) : (lay off data k s).length = 128 := by unfold lay; simp
theorem lay_at (off : Int) (data : List Int) (k : Int) (s : List Int) {j : Nat} (hj : j < 128) : (lay off data k s).getD j 0 = if off ≤ 128 * k + j ∧ 128 * k + j < off + data.length then data.getD (128 * k + j - off).toNat 0 else s.getD j 0 := by
  unfold lay
  rw [List.getD_eq_getElem?_getD, List.getElem?_map, List.getElem?_range hj]; rfl
theorem getD_mem {s : List Int} {j : Nat} {P : Int → Prop} (h : ∀ b ∈ s, P b) (h0 : P 0) : P (s.getD j 0) := by
  rw [List.getD_eq_getElem?_getD]
  cases hq : s[j]? with
  | none => exact h0
  | some x => exact h x (List.mem_of_getElem? hq)
theorem lay_bytes {off : Int} {data : List Int} {k : Int} {s : List Int} (hd : ∀ b ∈ data, 0 ≤ b ∧ b < 256) (hs : ∀ b ∈ s, 0 ≤ b ∧ b < 256) : ∀ b ∈ lay off data k s, 0 ≤ b ∧ b < 256 := by
  intro b hb
  unfold lay at hb
  obtain ⟨j, hj, rfl⟩ := List.mem_map.1 hb
  split
  · exact getD_mem (P := fun b => 0 ≤ b ∧ b < 256) hd (by omega)
  · exact getD_mem (P := fun b => 0 ≤ b ∧ b < 256) hs (by omega)
theorem zero_bytes : ∀ b ∈ zero128, (0 : Int) ≤ b ∧ b < 256 := fun b hb => by
  rw [List.eq_of_mem_replicate hb]; omega
theorem zero_at (j : Nat) : zero128.getD j 0 = 0 := by
  unfold zero128
  rw [List.getD_eq_getElem?_getD, List.getElem?_replicate]
  split <;> rfl
theorem getD_out {s : List Int} {j : Nat} (h : s.length ≤ j) : s.getD j 0 = 0 := by
  rw [List.getD_eq_getElem?_getD, List.getElem?_eq_none h]; rfl
theorem getD_left {a b : List Int} {j : Nat} (h : j < a.length) : (a ++ b).getD j 0 = a.getD j 0 := by
  rw [List.getD_eq_getElem?_getD, List.getD_eq_getElem?_getD, List.getElem?_append_left h]
theorem getD_right {a b : List Int} {j : Nat} (h : a.length ≤ j) : (a ++ b).getD j 0 = b.getD (j - a.length) 0 := by
  rw [List.getD_eq_getElem?_getD, List.getD_eq_getElem?_getD, List.getElem?_append_right h]
theorem getD_take' {a : List Int} {c j : Nat} (h : j < c) : (a.take c).getD j 0 = a.getD j 0 := by
  rw [List.getD_eq_getElem?_getD, List.getD_eq_getElem?_getD, List.getElem?_take, if_pos h]
theorem getD_drop' (a : List Int) (c j : Nat) : (a.drop c).getD j 0 = a.getD (c + j) 0 := by
  rw [List.getD_eq_getElem?_getD, List.getD_eq_getElem?_getD, List.getElem?_drop]
theorem list_ext128 {a b : List Int} (ha : a.length = 128) (hb : b.length = 128) (h : ∀ j, j < 128 → a.getD j 0 = b.getD j 0) : a = b := by
  apply List.ext_getElem (by omega)
  intro j h1 h2
  have := h j (by omega)
  rw [List.getD_eq_getElem?_getD, List.getD_eq_getElem?_getD, List.getElem?_eq_getElem h1, List.getElem?_eq_getElem h2] at this
  exact this
theorem touched_iff {off len k : Int} : touched off len k = true ↔ 0 < len ∧ off / 128 ≤ k ∧ k ≤ (off + len - 1) / 128 := by unfold touched; simp
theorem wrote_wf {S : PS} {n : Nd} (h : NWf S n) (hok : NOk n) (hk : n.kind = 1) {off : Int} {data : List Int} (h0 : 0 ≤ off) (h1 : off + data.length ≤ 136704) (hd : ∀ b ∈ data, 0 ≤ b ∧ b < 256) : NWf S (n.wrote off data) ∧ NOk (n.wrote off data) := by
  have hsz : n.size ≤ (n.wrote off data).size ∧ (data ≠ [] → off + data.length ≤ (n.wrote off data).size) ∧ (n.wrote off data).size ≤ 136704 := by
    have := h.sz
    show n.size ≤ (if data = [] then n.size else max n.size (off + data.length)) ∧ (_ → _ ≤ (if data = [] then n.size else max n.size (off + data.length))) ∧ (if data = [] then n.size else max n.size (off + data.length)) ≤ _
    split
    · rename_i he
      exact ⟨Int.le_refl _, fun hne => absurd he hne, by omega⟩
    · exact ⟨by omega, fun _ => by omega, by omega⟩
  have hdat : ∀ k, (n.wrote off data).data k = if touched off data.length k = true then some (lay off data k ((n.data k).getD zero128)) else n.data k := fun _ => rfl
  have hold : ∀ k, (∀ b ∈ (n.data k).getD zero128, 0 ≤ b ∧ b < 256) ∧ ∀ j : Nat, n.size ≤ 128 * k + j → ((n.data k).getD zero128).getD j 0 = 0 := fun k => by
    cases hq : n.data k with
    | none => exact ⟨zero_bytes, fun j _ => zero_at j⟩
    | some s => exact (h.db k s hq).2
  have hpos : ∀ len : Int, 0 < len → data.length = len → data ≠ [] := fun len hl he hn => by subst hn; simp at he; omega
  refine ⟨⟨h.kd, h.lk, ⟨by have := h.sz; omega, hsz.2.2⟩, h.md, h.fl, fun h2 => ?_, h.nm, h.sn, h.nd, fun k s hs => ?_⟩, ⟨fun k hs => ?_, fun k s hs => ?_, hok.sl⟩⟩
  · have h2' : n.kind = 2 := h2
    rw [hk] at h2'; cases h2'
  · rw [hdat] at hs
    split at hs
    · rename_i ht
      rw [touched_iff] at ht
      cases hs
      have hne := hpos _ ht.1 rfl
      have := hsz.2.1 hne
      refine ⟨by omega, lay_bytes hd (hold k).1, fun j hj => ?_⟩
      by_cases hj1 : j < 128
      · rw [lay_at _ _ _ _ hj1, if_neg (by omega)]
        exact (hold k).2 j (by omega)
      · exact getD_out (by rw [lay_len]; omega)
    · obtain ⟨a, b, c⟩ := h.db k s hs
      exact ⟨by omega, b, fun j hj => c j (by omega)⟩
  · rw [hdat] at hs
    split at hs
    · rename_i ht
      rw [touched_iff] at ht
      omega
    · exact hok.dk k hs
  · rw [hdat] at hs
    split at hs
    · cases hs; exact lay_len _ _ _ _
    · exact hok.dl k s hs
/-- a node in another's place -/
theorem put_wf {S : PS} (hO : POk S) (hW : PWf S) {i : Int} {n : Nd} (hi : (S.nodes i).isSome = true) (hk : (S.nd i).kind = 2 → n.kind = 2) (hn : NWf S n ∧ NOk n) : POk (S.put i (some n)) ∧ PWf (S.put i (some n)) := by
  have hT : ∀ j, (S.put i (some n)).nodes j = if j = i then some n else S.nodes j := fun _ => rfl
  have hmono : ∀ j, (S.nodes j).isSome = true → ((S.put i (some n)).nodes j).isSome = true := fun j hj => by
    rw [hT]; split
    · rfl
    · exact hj
  refine ⟨⟨hO.s, hO.i, fun j hj => ?_, fun j m hm => ?_⟩, ⟨?_, fun j m hm => ?_⟩⟩
  · rw [hT] at hj
    by_cases he : j = i
    · subst he; exact hO.k _ hi
    · rw [if_neg he] at hj; exact hO.k _ hj
  · rw [hT] at hm
    by_cases he : j = i
    · rw [if_pos he] at hm; cases hm; exact hn.2
    · rw [if_neg he] at hm; exact hO.n _ _ hm
  · obtain ⟨m, h1, h2⟩ := hW.root
    rw [hT]
    by_cases he : (1 : Int) = i
    · subst he
      rw [if_pos rfl]
      exact ⟨n, rfl, hk (by rw [PS.nd_some h1]; exact h2)⟩
    · rw [if_neg he]; exact ⟨m, h1, h2⟩
  · rw [hT] at hm
    by_cases he : j = i
    · rw [if_pos he] at hm; cases hm; exact hn.1.mono hmono
    · rw [if_neg he] at hm; exact (hW.n _ _ hm).mono hmono
theorem write_wf {S : PS} (hO : POk S) (hW : PWf S) {i : Int} (hi : (S.nodes i).isSome = true) (hk : (S.nd i).kind = 1) {off : Int} {data : List Int} (hd : ∀ b ∈ data, 0 ≤ b ∧ b < 256) : POk (S.write i off data).1 ∧ PWf (S.write i off data).1 := by
  unfold PS.write
  split
  · exact ⟨hO, hW⟩
  · split
    · exact ⟨hO, hW⟩
    · have hn := PS.nd_get hi
      exact put_wf hO hW hi (fun h2 => by rw [hk] at h2; cases h2) (wrote_wf (hW.n i _ hn) (hO.n i _ hn) hk (by omega) (by omega) hd)
theorem cutS_at {size k : Int} {s : List Int} (hs : s.length = 128) {j : Nat} (hj : j < 128) : (cutS size k s).getD j 0 = if k * 128 + j < size then s.getD j 0 else 0 := by
  unfold cutS
  split
  · rw [List.getD_eq_getElem?_getD, List.getElem?_map, List.getElem?_range hj]; rfl
  · rw [if_pos (by omega)]
theorem cutS_len {size k : Int} {s : List Int} (hs : s.length = 128) : (cutS size k s).length = 128 := by
  unfold cutS
  split
  · simp
  · exact hs
theorem cutS_bytes {size k : Int} {s : List Int} (hs : ∀ b ∈ s, (0 : Int) ≤ b ∧ b < 256) : ∀ b ∈ cutS size k s, (0 : Int) ≤ b ∧ b < 256 := by
  intro b hb
  unfold cutS at hb
  split at hb
  · obtain ⟨j, hj, rfl⟩ := List.mem_map.1 hb
    split
    · exact getD_mem (P := fun b => 0 ≤ b ∧ b < 256) hs (by omega)
    · omega
  · exact hs b hb
theorem trunc_wf {S : PS} {n : Nd} (h : NWf S n) (hok : NOk n) (hk : n.kind = 1) {size : Int} (h0 : 0 ≤ size ∧ size ≤ 136704) : NWf S (n.trunc size) ∧ NOk (n.trunc size) := by
  have hdat : ∀ k, (n.trunc size).data k = if size ≤ k * 128 then none else (n.data k).map (cutS size k) := fun _ => rfl
  have hget : ∀ k s, (n.trunc size).data k = some s → k * 128 < size ∧ ∃ s0, n.data k = some s0 ∧ s = cutS size k s0 := fun k s hs => by
    rw [hdat] at hs
    split at hs
    · cases hs
    · cases hq : n.data k with
      | none => rw [hq] at hs; cases hs
      | some s0 => rw [hq] at hs; cases hs; exact ⟨by omega, s0, rfl, rfl⟩
  refine ⟨⟨h.kd, h.lk, h0, h.md, h.fl, fun h2 => ?_, h.nm, h.sn, h.nd, fun k s hs => ?_⟩, ⟨fun k hs => ?_, fun k s hs => ?_, hok.sl⟩⟩
  · have h2' : n.kind = 2 := h2
    rw [hk] at h2'; cases h2'
  · obtain ⟨a, s0, h1, rfl⟩ := hget k s hs
    refine ⟨a, cutS_bytes (h.db k s0 h1).2.1, fun j hj => ?_⟩
    have hsz : (n.trunc size).size = size := rfl
    by_cases hj1 : j < 128
    · rw [cutS_at (hok.dl k s0 h1) hj1, if_neg (by omega)]
    · exact getD_out (by rw [cutS_len (hok.dl k s0 h1)]; omega)
  · cases hq : (n.trunc size).data k with
    | none => rw [hq] at hs; cases hs
    | some s =>
      obtain ⟨-, s0, h1, -⟩ := hget k s hq
      exact hok.dk k (by rw [h1]; rfl)
  · obtain ⟨-, s0, h1, rfl⟩ := hget k s hs
    exact cutS_len (hok.dl k s0 h1)
/-- a piece more laid: the bytes up to 'a', then m of them within one block -/
theorem wrote_step {n : Nd} (hok : NOk n) {off : Int} {data : List Int} {a m : Nat} (h0 : 0 ≤ off) (ha : a + m ≤ data.length) (hm : 0 < m) {k : Int} {f : Nat} (hk : k = (off + a) / 128) (hf : (f : Int) = (off + a) % 128) (hfm : f + m ≤ 128) (he : f + m = 128 ∨ a + m = data.length) :
    (n.wrote off (data.take (a + m))).data = fun x => if x = k then some ((((n.wrote off (data.take a)).data k).getD zero128).take f ++ (data.drop a).take m ++ (((n.wrote off (data.take a)).data k).getD zero128).drop (f + m)) else (n.wrote off (data.take a)).data x := by
  have hl1 : (data.take (a + m)).length = a + m := by rw [List.length_take]; omega
  have hl0 : (data.take a).length = a := by rw [List.length_take]; omega
  have hs0 : ∀ x, ((n.data x).getD zero128).length = 128 := fun x => by
    cases hq : n.data x with
    | none => simp [zero128]
    | some s => exact hok.dl x s hq
  have hgt : ∀ (c j : Nat), j < c → (data.take c).getD j 0 = data.getD j 0 := fun c j hj => by
    rw [List.getD_eq_getElem?_getD, List.getD_eq_getElem?_getD, List.getElem?_take, if_pos hj]
  funext x
  show (if touched off (data.take (a + m)).length x = true then some (lay off (data.take (a + m)) x ((n.data x).getD zero128)) else n.data x) = _
  have hW : ∀ y, (n.wrote off (data.take a)).data y = if touched off a y = true then some (lay off (data.take a) y ((n.data y).getD zero128)) else n.data y := fun y => by
    show (if touched off (data.take a).length y = true then _ else _) = _
    rw [hl0]
  rw [hl1]
  by_cases hx : x = k
  · subst hx
    rw [if_pos rfl, if_pos (touched_iff.2 ⟨by omega, by omega, by omega⟩)]
    congr 1
    have hB : (((n.wrote off (data.take a)).data x).getD zero128).length = 128 ∧ ∀ j, j < 128 → (((n.wrote off (data.take a)).data x).getD zero128).getD j 0 = if off ≤ 128 * x + j ∧ 128 * x + j < off + a then data.getD (128 * x + j - off).toNat 0 else ((n.data x).getD zero128).getD j 0 := by
      rw [hW]
      split
      · refine ⟨lay_len _ _ _ _, fun j hj => ?_⟩
        show (lay off (data.take a) x _).getD j 0 = _
        rw [lay_at _ _ _ _ hj, hl0]
        split
        · exact hgt _ _ (by omega)
        · rfl
      · rename_i ht
        rw [touched_iff] at ht
        refine ⟨hs0 x, fun j hj => ?_⟩
        rw [if_neg (by omega)]
    generalize ((n.wrote off (data.take a)).data x).getD zero128 = B at *
    refine list_ext128 (lay_len _ _ _ _) (by simp [hB.1]; omega) fun j hj => ?_
    rw [lay_at _ _ _ _ hj, hl1]
    have hlt : (B.take f).length = f := by rw [List.length_take, hB.1]; omega
    have hld : ((data.drop a).take m).length = m := by rw [List.length_take, List.length_drop]; omega
    by_cases h1 : j < f
    · rw [List.append_assoc, getD_left (by omega), getD_take' h1, hB.2 j hj]
      by_cases h2 : off ≤ 128 * x + j
      · rw [if_pos (by omega), if_pos (by omega)]
        exact hgt _ _ (by omega)
      · rw [if_neg (by omega), if_neg (by omega)]
    · by_cases h2 : j < f + m
      · rw [if_pos (by omega), hgt _ _ (by omega), List.append_assoc, getD_right (by omega), getD_left (by omega), getD_take' (by omega), getD_drop']
        congr 1
        omega
      · rw [if_neg (by omega), getD_right (by rw [List.length_append, hlt, hld]; omega), getD_drop']
        have e : f + m + (j - (B.take f ++ (data.drop a).take m).length) = j := by rw [List.length_append, hlt, hld]; omega
        rw [e, hB.2 j hj, if_neg (by omega)]
  · rw [if_neg hx, hW]
    have key : touched off ((a + m : Nat) : Int) x = touched off a x := by
      rw [Bool.eq_iff_iff, touched_iff, touched_iff]
      by_cases h0 : a = 0
      · subst h0; omega
      · omega
    rw [key]
    split
    · rename_i ht
      rw [touched_iff] at ht
      congr 1
      refine list_ext128 (lay_len _ _ _ _) (lay_len _ _ _ _) fun j hj => ?_
      rw [lay_at _ _ _ _ hj, lay_at _ _ _ _ hj, hl0, hl1]
      by_cases h1 : off ≤ 128 * x + j ∧ 128 * x + j < off + a
      · rw [if_pos h1, if_pos (by omega), hgt _ _ (by omega), hgt _ _ (by omega)]
      · rw [if_neg h1, if_neg (by omega)]
    · rfl
/-- a piece more read -/
theorem read_step {n : Nd} (hok : NOk n) {off : Int} {a m : Nat} (h0 : 0 ≤ off) {k : Int} {f : Nat} (hk : k = (off + a) / 128) (hf : (f : Int) = (off + a) % 128) (hfm : f + m ≤ 128) :
    (((n.data k).getD zero128).drop f).take m = (List.range m).map fun (j : Nat) => n.byte (off + (a + j : Nat)) := by
  have hs0 : ((n.data k).getD zero128).length = 128 := by
    cases hq : n.data k with
    | none => simp [zero128]
    | some s => exact hok.dl k s hq
  apply List.ext_getElem (by simp; omega)
  intro j h1 h2
  rw [List.getElem_take, List.getElem_drop, List.getElem_map, List.getElem_range]
  unfold Nd.byte
  have hj : j < m := by simp at h2; exact h2
  have e1 : (off + ((a + j : Nat) : Int)) / 128 = k := by omega
  have e2 : ((off + ((a + j : Nat) : Int)) % 128).toNat = f + j := by omega
  rw [e1, e2, List.getD_eq_getElem?_getD, List.getElem?_eq_getElem (by omega)]; rfl
end Go.Proofs.YteffoihkljkfdaaDoor
