/- One thing that may not be: the law's walk. -/
import Derived.Test.YtkhpifjhnkknbaaDoorPlr
import Derived.Test.YtkhpifjhnkknbaaDoorLawLng
import Derived.Deep.RegionHeld3
import Derived.Deep.AppendLies
import Derived.Deep.Upon
namespace Go.Proofs.YtkhpifjhnkknbaaDoor
set_option linter.unusedSimpArgs false
set_option linter.unusedVariables false
open Go.RowKit

theorem own0 (w : World) (B : Nat) (hB : B ≤ w.heap.size) : (w.alloc (.cells #[] 9)).ownsRow B 9 1 (.slice (some ⟨w.heap.size, 0, none⟩) 0 0) 0 [] :=
  ⟨rfl, .inr ⟨w.heap.size, 0, #[], rfl, hB, (hopN w (.cells #[] 9)).1, Nat.le_refl _, Nat.zero_le _, rfl, rfl⟩⟩

theorem own0b (w : World) (B b : Nat) (h : hat w b = some (.cells #[] 9)) (hB : B ≤ b) : w.ownsRow B 9 1 (.slice (some ⟨b, 0, none⟩) 0 0) 0 [] :=
  ⟨rfl, .inr ⟨b, 0, #[], rfl, hB, h, Nat.le_refl _, Nat.zero_le _, rfl, rfl⟩⟩
theorem take_cells {w W : World} {g o : Nat} {xs : List ByteArray} (h : ∀ (j : Nat) (x : ByteArray), xs[j]? = some x → w.cell? ⟨g, o + j, none⟩ = some (.string x)) (he : hat W g = hat w g) (p : Nat) :
    ∀ j u, (List.map Value.string (xs.take p))[j]? = some u → W.cell? ((⟨g, o, none⟩ : Addr).add j) = some u := by
  intro j u hj
  have hadd : (⟨g, o, none⟩ : Addr).add j = ⟨g, o + j, none⟩ := by unfold Addr.add; split <;> simp_all
  rw [List.getElem?_map, List.getElem?_take] at hj
  split at hj
  · cases hx : xs[j]? with
    | none => rw [hx] at hj; cases hj
    | some x =>
      rw [hx] at hj
      obtain rfl := Option.some.inj hj
      rw [hadd, cell?_of_hat, he, ← cell?_of_hat]
      exact h j x hx
  · cases hj
theorem drop_cells {w W : World} {g o : Nat} {xs : List ByteArray} (h : ∀ (j : Nat) (x : ByteArray), xs[j]? = some x → w.cell? ⟨g, o + j, none⟩ = some (.string x)) (he : hat W g = hat w g) (p : Nat) :
    ∀ j u, (List.map Value.string (xs.drop p))[j]? = some u → W.cell? ((⟨g, o + p, none⟩ : Addr).add j) = some u := by
  intro j u hj
  have hadd : (⟨g, o + p, none⟩ : Addr).add j = ⟨g, o + p + j, none⟩ := by unfold Addr.add; split <;> simp_all
  rw [List.getElem?_map, List.getElem?_drop] at hj
  cases hx : xs[p + j]? with
  | none => rw [hx] at hj; cases hj
  | some x =>
    rw [hx] at hj
    obtain rfl := Option.some.inj hj
    rw [hadd, cell?_of_hat, he, ← cell?_of_hat, Nat.add_assoc]
    exact h (p + j) x hx
theorem ref_1 : spl ({ data := #[] } : ByteArray) = ([], 70) := by decide +kernel
theorem ite_ad (g o p c : Nat) : (if c = p then some (⟨g, o, none⟩ : Addr) else some ⟨g, o + p, none⟩) = some ⟨g, if c = p then o else o + p, none⟩ := by split <;> rfl
theorem drop_cells2 {w W : World} {g o c : Nat} {xs : List ByteArray} (h : ∀ (j : Nat) (x : ByteArray), xs[j]? = some x → w.cell? ⟨g, o + j, none⟩ = some (.string x)) (he : hat W g = hat w g) (p : Nat) (hc : xs.length ≤ c) :
    ∀ j u, (List.map Value.string (xs.drop p))[j]? = some u → W.cell? ((⟨g, if c = p then o else o + p, none⟩ : Addr).add j) = some u := by
  by_cases hcp : c = p
  · intro j u hj
    rw [List.drop_of_length_le (by omega)] at hj
    cases hj
  · rw [if_neg hcp]
    exact drop_cells h he p
theorem all_str (xs : List ByteArray) : ∀ u ∈ List.map Value.string xs, u.oneCell' = true := by
  intro u hu
  obtain ⟨x, -, rfl⟩ := List.mem_map.1 hu
  rfl
theorem below_drew {B : Nat} {a w : World} (h : Below B a w) : Below B a w.drew := ⟨h.os, h.tape, h.output, h.size, h.block⟩
theorem news1 {W : World} {b : Nat} {s : ByteArray} {t : TypeId} {fr : Nat × Nat} (h : hat W b = some (.cells #[.string s] t fr)) : ∀ (j : Nat) (u : Value), [Value.string s][j]? = some u → W.cell? ((⟨b, 0, none⟩ : Addr).add j) = some u := by
  intro j u hj
  have hj3 : j < 1 := by
    have := (List.getElem?_eq_some_iff.1 hj).1
    simpa using this
  have hadd : (⟨b, 0, none⟩ : Addr).add j = ⟨b, j, none⟩ := by unfold Addr.add; split <;> simp_all
  rw [hadd, cell_hat h]
  simpa using hj
/-- append to a row of one's own, at a step of a region that draws its order -/
theorem step_append_own {P : Program} (w : World) {ops : Array Oper} {o : Oper} {a : Act} {K : Act → World → Prop} {Q : Exit → Act → World → Prop} {E : Prop} (hgd : o.guard = none) (s x : Operand) (t : TypeId)
    (ho : o.op = .call { callee := .builtin .append, args := #[s, x], argTypes := #[t, t] })
    (base : Nat) (e : TypeId) (i : TypeInfo) (z : Value) (size bytes : Nat) (ht : P.underlying t = some (.slice e)) (hi : P.info? e = some i) (hz : i.zero = some z)
    (hsize : i.size = size) (hby : i.bytes = bytes) (hzs : z.cells.size = size) (hsz : 0 < size)
    (v : Value) (n : Nat) (xs : List Value) (hs : a.eval s = v) (hown : w.ownsRow base e size v n xs)
    (ad : Addr) (m c : Nat) (news : List Value) (hx : a.eval x = .slice (some ad) m c) (hl : news.length = m * size) (hnews : ∀ j u, news[j]? = some u → w.cell? (ad.add j) = some u) (h1 : ∀ u ∈ news, u.oneCell' = true)
    (h63 : n + m ≤ maxLen) (hbytes : (n + m) * bytes ≤ 140737488355328) (hbase : base ≤ w.heap.size)
    (h : ∀ v' w', w'.ownsRow base e size v' (n + m) (xs ++ news) → w.grownBy w' v.ownBlock → K (a.put o.dst v') w') :
    if Region.wanted o (yielded ops a.tmps) = true then Oper.wp P o a w K Q else E := by
  have hw : Region.wanted o (yielded ops a.tmps) = true := by simp [Region.wanted, hgd]
  rw [if_pos hw]
  obtain ⟨v', w', hr, h2, h3, h4, h5⟩ := run_append_own_at (P := P) w base t o.type e i z size bytes ht hi hz hsize hby hzs hsz v n xs hown ad m c news hl hnews h1 h63 hbytes hbase
  unfold Oper.wp execOp
  simp only [ho, resolve, invoke, builtin, Sem.run_bind, Sem.run_pure, Result.andThen_ok, List.map_toArray, List.map_cons, List.map_nil, hs, hx, hr]
  exact h v' w' h2 h3

theorem own_le {w : World} {B n c m : Nat} {e : TypeId} {a : Option Addr} {xs : List Value} (h : w.ownsRow B e 1 (.slice a n c) m xs) : n ≤ c := by
  obtain ⟨-, h⟩ := h
  rcases h with ⟨h1, -⟩ | ⟨g, cap, cur, h1, h2, h3, h4, h5⟩
  · cases h1; exact Nat.le_refl _
  · cases h1
    first | omega | exact h4 | exact h5.1
/-- nothing is appended -/
theorem step_append_none {P : Program} (w : World) {ops : Array Oper} {o : Oper} {a : Act} {K : Act → World → Prop} {Q : Exit → Act → World → Prop} {E : Prop} (hgd : o.guard = none) (s x : Operand) (t : TypeId)
    (ho : o.op = .call { callee := .builtin .append, args := #[s, x], argTypes := #[t, t] })
    (e : TypeId) (i : TypeInfo) (ht : P.underlying t = some (.slice e)) (hi : P.info? e = some i) (b : Option Addr) (sl sc : Nat) (hle : sl ≤ sc) (hs : a.eval s = .slice b sl sc) (hx : a.eval x = .slice none 0 0)
    (h : K (a.put o.dst (.slice b sl sc)) w) :
    if Region.wanted o (yielded ops a.tmps) = true then Oper.wp P o a w K Q else E := by
  have hw : Region.wanted o (yielded ops a.tmps) = true := by simp [Region.wanted, hgd]
  rw [if_pos hw]
  have hr : (Builtin.append_ #[t, t] o.type #[.slice b sl sc, .slice none 0 0]).run P w = .ok (.slice b sl sc) w := run_append_nothing w t t o.type e i ht hi b sl sc hle _ (Src.ofNil w ht 0)
  unfold Oper.wp execOp
  simp only [ho, resolve, invoke, builtin, Sem.run_bind, Sem.run_pure, Result.andThen_ok, List.map_toArray, List.map_cons, List.map_nil, hs, hx, hr]
  exact h
set_option maxHeartbeats 8000000 in
set_option maxRecDepth 100000 in
theorem pathRefuses_any (u : Value) (la : List ByteArray) (z1 z2 m : Int) (w : World) (hm : MaxAt w m) (hu : Arg w u la)
    (ha0 : -9223372036854775808 ≤ z1) (ha1 : z1 ≤ 9223372036854775807) (hb0 : -9223372036854775808 ≤ z2) (hb1 : z2 ≤ 9223372036854775807) :
    Calls Tryd.prog 9 #[u, .int .i64 z1, .int .i64 z2] w fun e w' => e = .returned (.bool true) ∧ Below w.heap.size w w' := by
  have HM := Lib.hid hm
  have HU := Lib.hid hu
  clear hm hu
  obtain ⟨i0, hi, hz0, hz1, hz2⟩ := info_parts Tryd.infoS
  obtain ⟨k, hk, hp1⟩ := pickN z1 8 (by omega) (by omega) ha0 ha1
  have HP1 := Lib.hid hp1
  clear hp1 ha0 ha1
  have hin : bads[k]? = some (bads.getD k { data := #[] }) := by
    rw [List.getD_eq_getElem?_getD, List.getElem?_eq_getElem (by exact hk)]; rfl
  have hbad := List.mem_of_getElem? hin
  generalize bads.getD k { data := #[] } = bad at *
  have HIN := Lib.hid hin
  have HBAD := Lib.hid hbad
  clear hin hbad
  have hk0 : (0 : Int) ≤ (k : Int) := Int.natCast_nonneg _
  have hk1 : (k : Int) < 8 := by omega
  go_enter Tryd.func9, Tryd.ntmps9
  go_wp2_with fail
  refine (few_any _ _ _ HU.out).mono ?_; rintro e w1 ⟨v, xs, rfl, hs1, hx, hb⟩
  have HM := Lib.hid (HM.out.call hb)
  have hps := pth_small hx
  have hlen : xs.length ≤ 400 := Nat.le_trans (tot_len xs) hx.2
  have HS1 := Lib.hid hs1
  have HX := Lib.hid hx
  clear hs1 hx HU
  go_wp2_with fail
  refine (join_any _ _ _ _ HS1.out).mono ?_; rintro e w2 ⟨rfl, hb2⟩
  rw [join_names HX.out]
  have hb := below_call hb hb2 hb.size
  have HM := Lib.hid (HM.out.call hb2)
  have hs1 := HS1.out.call hb2
  clear hb2 HS1
  obtain ⟨p, hp, hp2⟩ := pickN z2 (xs.length + 1) (by omega) (by omega) hb0 hb1
  have HP2 := Lib.hid hp2
  clear hp2 hb0 hb1
  have hpi0 : (0 : Int) ≤ (p : Int) := Int.natCast_nonneg _
  have hlast := len_pos_pth xs
  rcases hs1 with ⟨rfl, h0⟩ | ⟨g, o, c, rfl, hc, -, -, hgl, hcell⟩
  · subst h0
    obtain rfl : p = 0 := by simpa using hp
    have hp3 : ∀ w : World, Calls Tryd.prog 22 #[.int .i64 z2, .int .i64 1] w fun e w' => e = .returned (.int .i64 0) ∧ w = w' := by simpa using HP2.out
    have HP3 := Lib.hid hp3
    clear hp3 HP2 hp hpi0
    have hr4 := ref_4 HX.out
    have hr2 := ref_2 (pth []) (len_pos_pth [])
    have hr3 : spl (({ data := #[47] } : ByteArray) ++ pth []) = ([], 70) := by
      obtain ⟨J, hJ, -⟩ := pth_data (xs := [])
      exact ref_3 _ J hJ
    have hr5 := ref_5 (pth [])
    generalize pth [] = PT at *
    have R2 := Lib.hid hr2
    have R3 := Lib.hid hr3
    have R4 := Lib.hid hr4
    have R5 := Lib.hid hr5
    clear hr2 hr3 hr4 hr5
    have hsz2 := hb.size
    go_wp2_with fail
    show Calls Tryd.prog _ _ (w2.alloc (.cells (bads.map Value.string).toArray 9)) _
    have hb := below_new hb hb.size (.cells (bads.map Value.string).toArray 9)
    obtain ⟨f2, z2'⟩ := hopN w2 (.cells (bads.map Value.string).toArray 9)
    have HM := Lib.hid (HM.out.call ((Below.refl _ _).alloc (Nat.le_refl _) (.cells (bads.map Value.string).toArray 9)))
    have hb3 := hb.size
    have hbk : (w2.alloc (.cells (bads.map Value.string).toArray 9)).cell? ⟨w2.heap.size, 0 + k, none⟩ = some (.string bad) := by
      rw [cell_hat f2, Nat.zero_add]
      have := HIN.out
      simp [this]
    have hz3 : w2.heap.size < (w2.alloc (.cells (bads.map Value.string).toArray 9)).heap.size := z2'
    clear z2' f2
    generalize w2.alloc (.cells (bads.map Value.string).toArray 9) = w3 at *
    generalize w2.heap.size = GB at *
    refine (HP1.out _).mono ?_; rintro e w4 ⟨rfl, rfl⟩
    go_wp2_with fail
    refine (HP3.out _).mono ?_; rintro e w4 ⟨rfl, rfl⟩
    go_wp2_with fail
    have hbd : cellOf k (hat w3 GB) = some (.string bad) := by rw [Nat.zero_add, cell?_of_hat] at hbk; exact hbk
    clear hbk
    --REGION0
    go_region_held3 (fun w' => cellOf k (hat w' GB) = some (.string bad)) (first | assumption | ((simp (disch := (first | omega | (simp; done) | (simp; omega))) only [hat_drew, hat_drewN, hat_alloc_at, hat_alloc_past]); assumption))
      (first
        | (refine step_append_none _ (by rfl) (.tmp 39) (.tmp 42) 25 (by rfl) 9 i0 Tryd.underlying25 hi (some ⟨w3.heap.size, 0, none⟩) 0 0 (Nat.le_refl _) (by rfl) (by rfl) ?_)
        | (refine step_append_none _ (by rfl) (.tmp 39) (.tmp 42) 25 (by rfl) 9 i0 Tryd.underlying25 hi (some ⟨w3.heap.size + 1, 0, none⟩) 0 0 (Nat.le_refl _) (by rfl) (by rfl) ?_)
        | (refine step_append_own _ (by rfl) (.tmp 43) (.tmp 48) 25 (by rfl) w3.heap.size 9 i0 _ 1 16 Tryd.underlying25 hi hz0 hz1 hz2 rfl (by decide) (.slice (some ⟨w3.heap.size, 0, none⟩) 0 0) 0 [] (by rfl) (own0b _ _ _ (by (simp (disch := (first | omega | (simp; done) | (simp; omega))) only [hat_drew, hat_drewN, hat_alloc_at, hat_alloc_past])) (by omega)) ⟨w3.heap.size + 1, 0, none⟩ 1 1 [.string bad] (by rfl) rfl (news1 (show hat _ (w3.heap.size + 1) = some (.cells #[.string bad] 9) from by (simp (disch := (first | omega | (simp; done) | (simp; omega))) only [hat_drew, hat_drewN, hat_alloc_at, hat_alloc_past]))) (one_str bad) (by unfold maxLen; omega) (by omega) (by first | omega | (simp <;> omega)) ?_; intro v6 w7 hown7 hgrow7; obtain ⟨g6, c6, rfl, h6a, h6b⟩ := hown7.form (by omega); have h6c := own_le hown7; have hbl7 : Below w3.heap.size w3 w7 := (show Below w3.heap.size w3 _ from by repeat (first | exact Below.refl _ _ | refine below_drew ?_ | refine Below.alloc ?_ (by first | omega | (simp <;> omega)) _)).grown hgrow7 (by first | omega | (simp <;> omega)) (fun q hq => by (have : w3.heap.size = q := by simpa [Value.ownBlock] using hq); omega); have HO7 := Lib.hid hown7; clear hown7 hgrow7; have hs7 := hbl7.size; have hcc7 : cellOf k (hat w7 GB) = some (.string bad) := by rw [hat_below hbl7 hz3]; exact hbd)
        | (refine step_append_own _ (by rfl) (.tmp 43) (.tmp 48) 25 (by rfl) w3.heap.size 9 i0 _ 1 16 Tryd.underlying25 hi hz0 hz1 hz2 rfl (by decide) (.slice (some ⟨w3.heap.size + 1, 0, none⟩) 0 0) 0 [] (by rfl) (own0b _ _ _ (by (simp (disch := (first | omega | (simp; done) | (simp; omega))) only [hat_drew, hat_drewN, hat_alloc_at, hat_alloc_past])) (by omega)) ⟨w3.heap.size, 0, none⟩ 1 1 [.string bad] (by rfl) rfl (news1 (show hat _ (w3.heap.size) = some (.cells #[.string bad] 9) from by (simp (disch := (first | omega | (simp; done) | (simp; omega))) only [hat_drew, hat_drewN, hat_alloc_at, hat_alloc_past]))) (one_str bad) (by unfold maxLen; omega) (by omega) (by first | omega | (simp <;> omega)) ?_; intro v6 w7 hown7 hgrow7; obtain ⟨g6, c6, rfl, h6a, h6b⟩ := hown7.form (by omega); have h6c := own_le hown7; have hbl7 : Below w3.heap.size w3 w7 := (show Below w3.heap.size w3 _ from by repeat (first | exact Below.refl _ _ | refine below_drew ?_ | refine Below.alloc ?_ (by first | omega | (simp <;> omega)) _)).grown hgrow7 (by first | omega | (simp <;> omega)) (fun q hq => by (have : w3.heap.size + 1 = q := by simpa [Value.ownBlock] using hq); omega); have HO7 := Lib.hid hown7; clear hown7 hgrow7; have hs7 := hbl7.size; have hcc7 : cellOf k (hat w7 GB) = some (.string bad) := by rw [hat_below hbl7 hz3]; exact hbd)
        | (refine step_append_none _ (by rfl) (.tmp 49) (.tmp 52) 25 (by rfl) 9 i0 Tryd.underlying25 hi (some ⟨g6, 0, none⟩) (0 + 1) c6 h6c (by rfl) (by rfl) ?_))
    --END0
    all_goals
      have hmem : ¬ ∀ n ∈ [bad], NameMay n.data.toList := fun h => bad_not HBAD.out (h bad (by simp))
      have hs7s : Strs w7 w3.heap.size (.slice (some ⟨g6, 0, none⟩) (0 + 1) c6) [bad] := strs_own (by exact HO7.out) (by simp)
      have HM := Lib.hid (HM.out.call hbl7)
      have hb := below_call hb hbl7 hb.size
      have HS7 := Lib.hid hs7s
      have HME := Lib.hid hmem
      clear hs7s hmem HO7
      go_wp2_with fail
      refine (join_any _ _ _ _ HS7.out).mono ?_; rintro e w8 ⟨rfl, hb2⟩
      rw [joinR_no (by simp) HME.out]
      have hb := below_call hb hb2 hb.size
      have HM := Lib.hid (HM.out.call hb2)
      have hcc8 : cellOf k (hat w8 GB) = some (.string bad) := by rw [hat_below hb2 (by omega)]; exact hcc7
      clear hb2 hcc7 HS7 HME
      have hcell8 : w8.cell? ⟨GB, k, none⟩ = some (.string bad) := by rw [cell?_of_hat]; exact hcc8
      go_wp2_with fail
      refine (check_any _ _).mono ?_; rintro e w9 ⟨rfl, hb2⟩
      rw [bads_71 _ HBAD.out]
      have hb := below_call hb hb2 hb.size
      have HM := Lib.hid (HM.out.call hb2)
      clear hb2 hcc8 hcell8
      go_wp2_with fail
      go_loopw [17] (fun i wr => ∃ q : Nat, q ≤ 5 ∧ i = .int .i64 q ∧ Below w.heap.size w wr ∧ MaxAt wr m ∧ ∀ j, j < 5 → ∃ x, cellOf j (hat wr w9.heap.size) = some (.string x) ∧ spl x = ([], 70)) (fun i _ => 5 - (intOf i).toNat)
      case atStart =>
        refine ⟨0, by omega, rfl, below_new hb hb.size _, HM.out.call ((Below.refl w9.heap.size w9).alloc (Nat.le_refl _) _), fun j hj => ?_⟩
        rw [(hopN _ _).1]
        match j, hj with
        | 0, _ => exact ⟨_, rfl, ref_1⟩
        | 1, _ => exact ⟨_, rfl, R2.out⟩
        | 2, _ => exact ⟨_, rfl, R3.out⟩
        | 3, _ => exact ⟨_, rfl, R4.out⟩
        | 4, _ => exact ⟨_, rfl, R5.out⟩
      case round =>
        clear hb HM
        obtain ⟨q, hq, rfl, hb, hm, hcl⟩ := hrel
        have HM := Lib.hid hm
        have HCL := Lib.hid hcl
        clear hm hcl
        by_cases hq5 : q < 5
        · obtain ⟨x, hx, hsx⟩ := HCL.out q hq5
          have hcq : cellOf q (hat wr w9.heap.size) = some (.string x) := hx
          have hlt : w9.heap.size < wr.heap.size := by
            cases h : hat wr w9.heap.size with
            | none => rw [h] at hx; cases hx
            | some o => exact hat_lt h
          have HSX := Lib.hid hsx
          clear hsx hx
          go_wp2_with fail
          refine (split_any _ m _ HM.out).mono ?_; rintro e w11 ⟨v11, rfl, hs11, hb2⟩
          rw [HSX.out] at hs11 ⊢
          have hb := below_call hb hb2 hb.size
          have HM := Lib.hid (HM.out.call hb2)
          have HCL2 : Hid (∀ j, j < 5 → ∃ x, cellOf j (hat w11 w9.heap.size) = some (.string x) ∧ spl x = ([], 70)) := Lib.hid (by rw [hat_below hb2 hlt]; exact HCL.out)
          clear hb2 HCL
          obtain ⟨a9, c9, rfl⟩ : ∃ a9 c9, v11 = .slice a9 0 c9 := hs11.len
          go_wp2_with fail
          go_roundw
          case rel => exact ⟨q + 1, by omega, by go_num, hb, HM.out, HCL2.out⟩
          case measure => (show 5 - (q + 1) < 5 - q); omega
        · have hq5 : q = 5 := by omega
          subst hq5
          go_wp2_with fail
          refine (known_true m _ HM.out).mono ?_; rintro e w12 ⟨rfl, hb2⟩
          have hb := below_call hb hb2 hb.size
          clear hb2
          go_wp2_with fail
          go_ret
          exact ⟨rfl, hb⟩
  · generalize hL : xs.length = L at *
    have HL := Lib.hid hL
    have HC := Lib.hid hcell
    clear hL hcell
    have hpi1 : (p : Int) ≤ (L : Int) := by omega
    have hpi2 : (L : Int) ≤ (c : Int) := by omega
    have hpi3 : (p : Int) ≤ (c : Int) := by omega
    have hr4 := ref_4 HX.out
    have hr2 := ref_2 (pth xs) (len_pos_pth xs)
    have hr3 : spl (({ data := #[47] } : ByteArray) ++ pth xs) = ([], 70) := by
      obtain ⟨J, hJ, -⟩ := pth_data (xs := xs)
      exact ref_3 _ J hJ
    have hr5 := ref_5 (pth xs)
    generalize pth xs = PT at *
    have R2 := Lib.hid hr2
    have R3 := Lib.hid hr3
    have R4 := Lib.hid hr4
    have R5 := Lib.hid hr5
    clear hr2 hr3 hr4 hr5
    have hsz2 := hb.size
    go_wp2_with fail
    show Calls Tryd.prog _ _ (w2.alloc (.cells (bads.map Value.string).toArray 9)) _
    have hb := below_new hb hb.size (.cells (bads.map Value.string).toArray 9)
    obtain ⟨f2, z2⟩ := hopN w2 (.cells (bads.map Value.string).toArray 9)
    have HM := Lib.hid (HM.out.call ((Below.refl _ _).alloc (Nat.le_refl _) (.cells (bads.map Value.string).toArray 9)))
    have hcell3 : ∀ (j : Nat) (x : ByteArray), xs[j]? = some x → (w2.alloc (.cells (bads.map Value.string).toArray 9)).cell? ⟨g, o + j, none⟩ = some (.string x) := fun j x hj =>
      (((Below.refl w2.heap.size w2).alloc (Nat.le_refl _) (.cells (bads.map Value.string).toArray 9)).cell (p := ⟨g, o + j, none⟩) hgl).trans (HC.out j x hj)
    have HC3 := Lib.hid hcell3
    have hb3 := hb.size
    have hbk : (w2.alloc (.cells (bads.map Value.string).toArray 9)).cell? ⟨w2.heap.size, 0 + k, none⟩ = some (.string bad) := by
      rw [cell_hat f2, Nat.zero_add]
      have := HIN.out
      simp [this]
    have hz3 : w2.heap.size < (w2.alloc (.cells (bads.map Value.string).toArray 9)).heap.size := z2
    clear hcell3 z2 f2 HC
    generalize w2.alloc (.cells (bads.map Value.string).toArray 9) = w3 at *
    generalize w2.heap.size = GB at *
    refine (HP1.out _).mono ?_; rintro e w4 ⟨rfl, rfl⟩
    go_wp2_with fail
    have hpl : ((L : Int) + 1) = ((L + 1 : Nat) : Int) := by omega
    rw [hpl]
    refine (HP2.out _).mono ?_; rintro e w4 ⟨rfl, rfl⟩
    clear hpl
    go_wp2_with fail
    have hbd : cellOf k (hat w3 GB) = some (.string bad) := by rw [Nat.zero_add, cell?_of_hat] at hbk; exact hbk
    clear hbk
    have hg3 : g < w3.heap.size := by omega
    have hlk : (List.map Value.string (xs.take p)).length = p * 1 := by simp [HL.out]; omega
    have HLK := Lib.hid hlk
    have hld : (List.map Value.string (xs.drop p)).length = (L - p) * 1 := by simp [HL.out]
    have HLD := Lib.hid hld
    clear hlk hld
    --REGION
    go_region_held3 (fun w' => cellOf k (hat w' GB) = some (.string bad)) (first | assumption | ((simp (disch := (first | omega | (simp; done) | (simp; omega))) only [hat_drew, hat_drewN, hat_alloc_at, hat_alloc_past]); assumption))
      (first
        | (refine step_append_own _ (by rfl) (.tmp 39) (.tmp 42) 25 (by rfl) w3.heap.size 9 i0 _ 1 16 Tryd.underlying25 hi hz0 hz1 hz2 rfl (by decide) (.slice (some ⟨w3.heap.size, 0, none⟩) 0 0) 0 [] (by rfl) (own0b _ _ _ (by (simp (disch := (first | omega | (simp; done) | (simp; omega))) only [hat_drew, hat_drewN, hat_alloc_at, hat_alloc_past])) (by omega)) ⟨g, o, none⟩ p c (List.map Value.string (xs.take p)) (by rfl) HLK.out (take_cells HC3.out (hat_below (below_drew (((Below.refl w3.heap.size w3).alloc (Nat.le_refl _) _).alloc (by first | omega | (simp <;> omega)) _)) hg3) p) (all_str _) (by unfold maxLen; omega) (by omega) (by first | omega | (simp <;> omega)) ?_; intro v5 w5 hown5 hgrow5; have hbl5 : Below w3.heap.size w3 w5 := (below_drew (((Below.refl w3.heap.size w3).alloc (Nat.le_refl _) _).alloc (by first | omega | (simp <;> omega)) _)).grown hgrow5 (by first | omega | (simp <;> omega)) (fun q hq => by (have : w3.heap.size = q := by simpa [Value.ownBlock] using hq); omega); have hn5 : hat w5 (w3.heap.size + 1) = some (.cells #[.string bad] 9) := (hgrow5.block (w3.heap.size + 1) (by first | omega | (simp <;> omega)) (by simp [Value.ownBlock])).trans (show hat _ (w3.heap.size + 1) = _ from by (simp (disch := (first | omega | (simp; done) | (simp; omega))) only [hat_drew, hat_drewN, hat_alloc_at, hat_alloc_past])); have HO5 := Lib.hid hown5; clear hown5 hgrow5; have hs5 := hbl5.size; have hcc5 : cellOf k (hat w5 GB) = some (.string bad) := by rw [hat_below hbl5 hz3]; exact hbd)
        | (refine step_append_own _ (by rfl) (.tmp 39) (.tmp 42) 25 (by rfl) w3.heap.size 9 i0 _ 1 16 Tryd.underlying25 hi hz0 hz1 hz2 rfl (by decide) (.slice (some ⟨w3.heap.size + 1, 0, none⟩) 0 0) 0 [] (by rfl) (own0b _ _ _ (by (simp (disch := (first | omega | (simp; done) | (simp; omega))) only [hat_drew, hat_drewN, hat_alloc_at, hat_alloc_past])) (by omega)) ⟨g, o, none⟩ p c (List.map Value.string (xs.take p)) (by rfl) HLK.out (take_cells HC3.out (hat_below (below_drew (((Below.refl w3.heap.size w3).alloc (Nat.le_refl _) _).alloc (by first | omega | (simp <;> omega)) _)) hg3) p) (all_str _) (by unfold maxLen; omega) (by omega) (by first | omega | (simp <;> omega)) ?_; intro v5 w5 hown5 hgrow5; have hbl5 : Below w3.heap.size w3 w5 := (below_drew (((Below.refl w3.heap.size w3).alloc (Nat.le_refl _) _).alloc (by first | omega | (simp <;> omega)) _)).grown hgrow5 (by first | omega | (simp <;> omega)) (fun q hq => by (have : w3.heap.size + 1 = q := by simpa [Value.ownBlock] using hq); omega); have hn5 : hat w5 (w3.heap.size) = some (.cells #[.string bad] 9) := (hgrow5.block (w3.heap.size) (by first | omega | (simp <;> omega)) (by simp [Value.ownBlock])).trans (show hat _ (w3.heap.size) = _ from by (simp (disch := (first | omega | (simp; done) | (simp; omega))) only [hat_drew, hat_drewN, hat_alloc_at, hat_alloc_past])); have HO5 := Lib.hid hown5; clear hown5 hgrow5; have hs5 := hbl5.size; have hcc5 : cellOf k (hat w5 GB) = some (.string bad) := by rw [hat_below hbl5 hz3]; exact hbd)
        | (refine step_append_own _ (by rfl) (.tmp 39) (.tmp 42) 25 (by rfl) w3.heap.size 9 i0 _ 1 16 Tryd.underlying25 hi hz0 hz1 hz2 rfl (by decide) (.slice (some ⟨w3.heap.size, 0, none⟩) 0 0) 0 [] (by rfl) (own0b _ _ _ (by (simp (disch := (first | omega | (simp; done) | (simp; omega))) only [hat_drew, hat_drewN, hat_alloc_at, hat_alloc_past])) (by omega)) ⟨g, o, none⟩ p c (List.map Value.string (xs.take p)) (by rfl) HLK.out (take_cells HC3.out (hat_below (below_drew ((Below.refl w3.heap.size w3).alloc (Nat.le_refl _) _)) hg3) p) (all_str _) (by unfold maxLen; omega) (by omega) (by first | omega | (simp <;> omega)) ?_; intro v5 w5 hown5 hgrow5; have hbl5 : Below w3.heap.size w3 w5 := (below_drew ((Below.refl w3.heap.size w3).alloc (Nat.le_refl _) _)).grown hgrow5 (by first | omega | (simp <;> omega)) (fun q hq => by (have : w3.heap.size = q := by simpa [Value.ownBlock] using hq); omega); have HO5 := Lib.hid hown5; clear hown5 hgrow5; have hs5 := hbl5.size; have hcc5 : cellOf k (hat w5 GB) = some (.string bad) := by rw [hat_below hbl5 hz3]; exact hbd)
        | (refine step_append_own _ (by rfl) (.tmp 43) (.tmp 48) 25 (by rfl) w3.heap.size 9 i0 _ 1 16 Tryd.underlying25 hi hz0 hz1 hz2 rfl (by decide) v5 (0 + p) ([] ++ List.map Value.string (xs.take p)) (by rfl) HO5.out ⟨w3.heap.size + 1, 0, none⟩ 1 1 [.string bad] (by rfl) rfl (news1 hn5) (one_str bad) (by unfold maxLen; omega) (by omega) (by first | omega | (simp <;> omega)) ?_; intro v6 w6 hown6 hgrow6; have hbl6 : Below w3.heap.size w3 w6 := hbl5.grown hgrow6 (by first | omega | (simp <;> omega)) (fun q hq => by (have h1 : ¬ q < w3.heap.size := fun h => ownsRow_ne HO5.out h hq); omega); have HO6 := Lib.hid hown6; clear hown6 hgrow6; have hs6 := hbl6.size; have hcc6 : cellOf k (hat w6 GB) = some (.string bad) := by rw [hat_below hbl6 hz3]; exact hbd)
        | (refine step_append_own _ (by rfl) (.tmp 43) (.tmp 48) 25 (by rfl) w3.heap.size 9 i0 _ 1 16 Tryd.underlying25 hi hz0 hz1 hz2 rfl (by decide) v5 (0 + p) ([] ++ List.map Value.string (xs.take p)) (by rfl) HO5.out ⟨w3.heap.size, 0, none⟩ 1 1 [.string bad] (by rfl) rfl (news1 hn5) (one_str bad) (by unfold maxLen; omega) (by omega) (by first | omega | (simp <;> omega)) ?_; intro v6 w6 hown6 hgrow6; have hbl6 : Below w3.heap.size w3 w6 := hbl5.grown hgrow6 (by first | omega | (simp <;> omega)) (fun q hq => by (have h1 : ¬ q < w3.heap.size := fun h => ownsRow_ne HO5.out h hq); omega); have HO6 := Lib.hid hown6; clear hown6 hgrow6; have hs6 := hbl6.size; have hcc6 : cellOf k (hat w6 GB) = some (.string bad) := by rw [hat_below hbl6 hz3]; exact hbd)
        | (refine step_append_own _ (by rfl) (.tmp 43) (.tmp 48) 25 (by rfl) w3.heap.size 9 i0 _ 1 16 Tryd.underlying25 hi hz0 hz1 hz2 rfl (by decide) v5 (0 + p) ([] ++ List.map Value.string (xs.take p)) (by rfl) (HO5.out.alloc _) ⟨w5.heap.size, 0, none⟩ 1 1 [.string bad] (by rfl) rfl (cell_new1 w5 bad) (one_str bad) (by unfold maxLen; omega) (by omega) (by first | omega | (simp <;> omega)) ?_; intro v6 w6 hown6 hgrow6; have hbl6 : Below w3.heap.size w3 w6 := (hbl5.alloc hs5 _).grown hgrow6 (by first | omega | (simp <;> omega)) (fun q hq => by (have h1 : ¬ q < w3.heap.size := fun h => ownsRow_ne HO5.out h hq); omega); have HO6 := Lib.hid hown6; clear hown6 hgrow6; have hs6 := hbl6.size; have hcc6 : cellOf k (hat w6 GB) = some (.string bad) := by rw [hat_below hbl6 hz3]; exact hbd)
        | (refine step_append_own _ (by rfl) (.tmp 49) (.tmp 52) 25 (by rfl) w3.heap.size 9 i0 _ 1 16 Tryd.underlying25 hi hz0 hz1 hz2 rfl (by decide) v6 (0 + p + 1) (([] ++ List.map Value.string (xs.take p)) ++ [.string bad]) (by rfl) HO6.out ⟨g, if c = p then o else o + p, none⟩ (L - p) (c - p) (List.map Value.string (xs.drop p)) (by exact congrArg (fun q => Value.slice q (L - p) (c - p)) (ite_ad g o p c)) HLD.out (drop_cells2 HC3.out (hat_below hbl6 hg3) p (by (have := HL.out; omega))) (all_str _) (by unfold maxLen; omega) (by omega) (by omega) ?_; intro v7 w7 hown7 hgrow7; have hbl7 : Below w3.heap.size w3 w7 := hbl6.grown hgrow7 (by omega) (fun q hq => by (have h1 : ¬ q < w3.heap.size := fun h => ownsRow_ne HO6.out h hq); omega); have HO7 := Lib.hid hown7; clear hown7 hgrow7; have hs7 := hbl7.size; have hcc7 : cellOf k (hat w7 GB) = some (.string bad) := by rw [hat_below hbl7 hz3]; exact hbd))
    --END
    all_goals
      have hmem : ¬ ∀ n ∈ xs.take p ++ bad :: xs.drop p, NameMay n.data.toList := fun h => bad_not HBAD.out (h bad (by simp))
      have hall : ([] ++ List.map Value.string (xs.take p)) ++ [.string bad] ++ List.map Value.string (xs.drop p) = List.map Value.string (xs.take p ++ bad :: xs.drop p) := by simp
      have hln : (xs.take p ++ bad :: xs.drop p).length = 0 + p + 1 + (L - p) := by simp [HL.out]; omega
      have hs7s : Strs w7 w3.heap.size v7 (xs.take p ++ bad :: xs.drop p) := strs_own (by rw [← hall, hln]; exact HO7.out) (by rw [hln]; omega)
      have HM := Lib.hid (HM.out.call hbl7)
      have hb := below_call hb hbl7 hb.size
      have HS7 := Lib.hid hs7s
      have HME := Lib.hid hmem
      clear hs7s hmem hall hln HO7
      generalize (if c = p then some (⟨g, o, none⟩ : Addr) else some ⟨g, o + p, none⟩) = ad52
      go_wp2_with fail
      refine (join_any _ _ _ _ HS7.out).mono ?_; rintro e w8 ⟨rfl, hb2⟩
      rw [joinR_no (by simp) HME.out]
      have hb := below_call hb hb2 hb.size
      have HM := Lib.hid (HM.out.call hb2)
      have hcc8 : cellOf k (hat w8 GB) = some (.string bad) := by rw [hat_below hb2 (by omega)]; exact hcc7
      clear hb2 hcc7 HS7 HME
      have hcell8 : w8.cell? ⟨GB, k, none⟩ = some (.string bad) := by rw [cell?_of_hat]; exact hcc8
      go_wp2_with fail
      refine (check_any _ _).mono ?_; rintro e w9 ⟨rfl, hb2⟩
      rw [bads_71 _ HBAD.out]
      have hb := below_call hb hb2 hb.size
      have HM := Lib.hid (HM.out.call hb2)
      clear hb2 hcc8 hcell8
      go_wp2_with fail
      go_loopw [17] (fun i wr => ∃ q : Nat, q ≤ 5 ∧ i = .int .i64 q ∧ Below w.heap.size w wr ∧ MaxAt wr m ∧ ∀ j, j < 5 → ∃ x, cellOf j (hat wr w9.heap.size) = some (.string x) ∧ spl x = ([], 70)) (fun i _ => 5 - (intOf i).toNat)
      case atStart =>
        refine ⟨0, by omega, rfl, below_new hb hb.size _, HM.out.call ((Below.refl w9.heap.size w9).alloc (Nat.le_refl _) _), fun j hj => ?_⟩
        rw [(hopN _ _).1]
        match j, hj with
        | 0, _ => exact ⟨_, rfl, ref_1⟩
        | 1, _ => exact ⟨_, rfl, R2.out⟩
        | 2, _ => exact ⟨_, rfl, R3.out⟩
        | 3, _ => exact ⟨_, rfl, R4.out⟩
        | 4, _ => exact ⟨_, rfl, R5.out⟩
      case round =>
        clear hb HM
        obtain ⟨q, hq, rfl, hb, hm, hcl⟩ := hrel
        have HM := Lib.hid hm
        have HCL := Lib.hid hcl
        clear hm hcl
        by_cases hq5 : q < 5
        · obtain ⟨x, hx, hsx⟩ := HCL.out q hq5
          have hcq : cellOf q (hat wr w9.heap.size) = some (.string x) := hx
          have hlt : w9.heap.size < wr.heap.size := by
            cases h : hat wr w9.heap.size with
            | none => rw [h] at hx; cases hx
            | some o => exact hat_lt h
          have HSX := Lib.hid hsx
          clear hsx hx
          go_wp2_with fail
          refine (split_any _ m _ HM.out).mono ?_; rintro e w11 ⟨v11, rfl, hs11, hb2⟩
          rw [HSX.out] at hs11 ⊢
          have hb := below_call hb hb2 hb.size
          have HM := Lib.hid (HM.out.call hb2)
          have HCL2 : Hid (∀ j, j < 5 → ∃ x, cellOf j (hat w11 w9.heap.size) = some (.string x) ∧ spl x = ([], 70)) := Lib.hid (by rw [hat_below hb2 hlt]; exact HCL.out)
          clear hb2 HCL
          obtain ⟨a9, c9, rfl⟩ : ∃ a9 c9, v11 = .slice a9 0 c9 := hs11.len
          go_wp2_with fail
          go_roundw
          case rel => exact ⟨q + 1, by omega, by go_num, hb, HM.out, HCL2.out⟩
          case measure => (show 5 - (q + 1) < 5 - q); omega
        · have hq5 : q = 5 := by omega
          subst hq5
          go_wp2_with fail
          refine (known_true m _ HM.out).mono ?_; rintro e w12 ⟨rfl, hb2⟩
          have hb := below_call hb hb2 hb.size
          clear hb2
          go_wp2_with fail
          go_ret
          exact ⟨rfl, hb⟩
end Go.Proofs.YtkhpifjhnkknbaaDoor
