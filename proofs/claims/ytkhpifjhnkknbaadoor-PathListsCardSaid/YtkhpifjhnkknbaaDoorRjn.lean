/- The document's Join: the walk. -/
import Derived.Test.YtkhpifjhnkknbaaDoorJoi
import Derived.Test.YtkhpifjhnkknbaaDoorRck
import Derived.Test.YtkhpifjhnkknbaaDoorLawLng
namespace Go.Proofs.YtkhpifjhnkknbaaDoor
set_option linter.unusedSimpArgs false
set_option linter.unusedVariables false
open Go.RowKit

set_option maxHeartbeats 4000000 in
set_option maxRecDepth 100000 in
theorem rjoin_any (v : Value) (xs : List ByteArray) (B : Nat) (w : World) (hv : Strs w B v xs) :
    Calls Tryd.prog 14 #[v] w fun e w' => e = .returned (.tuple #[.string (joinR xs).1, .int .i64 (joinR xs).2]) ∧ w' = w := by
  by_cases hx0 : xs = []
  · subst hx0
    rw [joinR_root]
    obtain ⟨a, c, rfl⟩ := hv.len
    go_enter Tryd.func14, Tryd.ntmps14
    clear hv
    go_wp2_with fail
    go_loopw [4, 5] (fun z i wr => i = .int .i64 0 ∧ z = .int .i64 0 ∧ wr = w) (fun _ _ _ => 0)
    case atStart => exact ⟨rfl, rfl, rfl⟩
    case round =>
      obtain ⟨rfl, rfl, rfl⟩ := hrel
      go_wp2_with fail
      go_ret2
      exact ⟨rfl, rfl⟩
  · have sx := hv.small
    rcases hv with ⟨rfl, rfl⟩ | ⟨g, o, c, rfl, hc, -, -, hgl, hx⟩
    · exact absurd rfl hx0
    · have HX := Lib.hid hx
      have HNE := Lib.hid hx0
      have hpos : 1 ≤ xs.length := by
        cases xs with
        | nil => exact absurd rfl hx0
        | cons x r => simp
      clear hx hx0
      go_enter Tryd.func14, Tryd.ntmps14
      generalize hN : xs.length = N at *
      have HN := Lib.hid hN
      clear hN
      have hz : ((N : Int) == 0) = false := by simp; omega
      go_wp2_with fail
      go_loopw [4, 5] (fun z i wr => ∃ k : Nat, k ≤ N ∧ i = .int .i64 k ∧ z = .int .i64 (tot (xs.take k)) ∧ wr = w ∧ ∀ j, j < k → ∀ n, xs[j]? = some n → NameMay n.data.toList) (fun _ i _ => N - (intOf i).toNat)
      case atStart => exact ⟨0, Nat.zero_le _, rfl, rfl, rfl, fun j hj => by omega⟩
      case round =>
        obtain ⟨k, hk, rfl, rfl, rfl, hok⟩ := hrel
        have hts := tot_small hok
        have HK := Lib.hid hok
        clear hok
        generalize hT : tot (xs.take k) = T at *
        have HT := Lib.hid hT
        clear hT
        by_cases hkw : k < N
        · obtain ⟨x, hx⟩ := getElem_opt (l := xs) (k := k) (by rw [HN.out]; exact hkw)
          have cx := HX.out k x hx
          rw [cell?_of_hat] at cx
          have Hx := Lib.hid hx
          clear hx
          go_wp2_with fail
          refine (rcheck_any x _).mono ?_; rintro e w2 ⟨rfl, hw2⟩; rw [hw2]
          by_cases hn : NameMay x.data.toList
          · rw [chk_yes hn]
            have h40 : x.size ≤ 40 := by have := hn.2.1; rwa [len_data] at this
            have HX2 := Lib.hid hn
            clear hn hw2
            go_wp2_with fail
            go_roundw
            case rel =>
              refine ⟨k + 1, by omega, by go_num, ?_, by first | rfl | trivial, fun j hj n hjn => ?_⟩
              · rw [tot_take Hx.out, HT.out]; exact congrArg (Value.int .i64) (by omega)
              · by_cases h : j = k
                · subst h; rw [Hx.out] at hjn; rw [← Option.some.inj hjn]; exact HX2.out
                · exact HK.out j (by omega) n hjn
            case measure => (show N - (k + 1) < N - k); omega
          · rw [chk_no hn]
            have he := joinR_no HNE.out (fun h => hn (h x (List.mem_of_getElem? Hx.out)))
            have HE := Lib.hid he
            clear hn he hw2
            go_wp2_with fail
            go_ret2
            exact ⟨by rw [HE.out]; rfl, rfl⟩
        · obtain rfl : k = N := by omega
          have hall : ∀ n ∈ xs, NameMay n.data.toList := all_of (fun j hj n hn => HK.out j (by rw [← HN.out]; exact hj) n hn)
          have hTT : tot xs = T := by rw [← HT.out, List.take_of_length_le (by rw [HN.out]; exact Nat.le_refl _)]
          by_cases hbig : 400 < T
          · have he := joinR_long HNE.out hall (by rw [hTT]; exact hbig)
            have HE := Lib.hid he
            clear he hall hTT
            go_wp2_with fail
            go_ret2
            exact ⟨by rw [HE.out]; rfl, rfl⟩
          · have he := joinR_yes HNE.out hall (by rw [hTT]; exact hbig)
            have hsm : ∀ (q : Nat) x, xs[q]? = some x → x.size ≤ 400 := fun q x hx => by
              have hn := hall x (List.mem_of_getElem? hx)
              have h40 := hn.2.1
              rw [len_data] at h40
              omega
            have HE := Lib.hid he
            have HTT := Lib.hid hTT
            have HSM := Lib.hid hsm
            clear he hall hTT hsm
            go_wp2_with fail
            go_loopw [6, 7] (fun t i w4 => ∃ q : Nat, q ≤ k ∧ i = .int .i64 q ∧ t = .string (textOf (xs.take q)) ∧ w4 = wr) (fun _ i _ => k - (intOf i).toNat)
            case atStart => exact ⟨0, by omega, rfl, rfl, rfl⟩
            case round =>
              obtain ⟨q, hq, rfl, rfl, rfl⟩ := hrel
              by_cases hqk : q < k
              · obtain ⟨x, hx⟩ := getElem_opt (l := xs) (k := q) (by rw [HN.out]; exact hqk)
                have hts2 := text_size (xs.take q)
                have htt := tot_le xs q
                rw [HTT.out] at htt
                have hx41 := HSM.out q x hx
                have htx := (text_snoc (xs.take q) x).trans (by rw [← takeq_snoc hx])
                have HTX := Lib.hid htx
                clear htx
                have cx := HX.out q x hx
                rw [cell?_of_hat] at cx
                clear hx
                generalize textOf (xs.take q) = TQ at *
                go_wp2_with fail
                go_roundw
                case rel => exact ⟨q + 1, by omega, by go_num, by rw [HTX.out], by first | rfl | trivial⟩
                case measure => (show k - (q + 1) < k - q); omega
              · obtain rfl : q = k := by omega
                rw [List.take_of_length_le (by rw [HN.out]; exact Nat.le_refl _), text_ne HNE.out]
                generalize joined xs = JX at *
                go_wp2_with fail
                go_ret2
                exact ⟨by rw [HE.out]; rfl, by first | rfl | trivial⟩
end Go.Proofs.YtkhpifjhnkknbaaDoor
