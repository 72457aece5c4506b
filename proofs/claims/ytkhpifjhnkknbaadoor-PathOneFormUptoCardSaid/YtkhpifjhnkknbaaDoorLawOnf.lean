/- A path is its names': the law's walk. -/
import Derived.Test.YtkhpifjhnkknbaaDoorKnp
import Derived.Test.YtkhpifjhnkknbaaDoorPlp
namespace Go.Proofs.YtkhpifjhnkknbaaDoor
set_option linter.unusedSimpArgs false
set_option linter.unusedVariables false
open Go.RowKit

set_option maxHeartbeats 4000000 in
set_option maxRecDepth 100000 in
theorem pathOneForm_any (p : ByteArray) (m : Int) (w : World) (hm : MaxAt w m) (hp : p.size ≤ 9223372036854775807) :
    Calls Tryd.prog 7 #[.string p] w fun e w' => e = .returned (.bool true) ∧ Below w.heap.size w w' := by
  have HM := Lib.hid hm
  have HP := Lib.hid hp
  clear hm hp
  rcases spl_cases p with ⟨h2, h1⟩ | ⟨h2, h1⟩ | ⟨hs, hr⟩ | ⟨hs, hf, hn⟩
  · go_enter Tryd.func7, Tryd.ntmps7
    go_wp2_with fail
    refine (split_any _ m _ HM.out).mono ?_; rintro e w1 ⟨v, rfl, hv, hb⟩
    rw [h2]
    rw [h1] at hv
    obtain ⟨a, c, rfl⟩ := hv.len
    have HM := Lib.hid (HM.out.call hb)
    clear hv h1 h2
    go_wp2_with fail
    refine (known_true m _ HM.out).mono ?_; rintro e w2 ⟨rfl, hb2⟩
    have hb := below_call hb hb2 hb.size
    clear hb2
    go_wp2_with fail
    go_ret
    exact ⟨rfl, hb⟩
  · go_enter Tryd.func7, Tryd.ntmps7
    go_wp2_with fail
    refine (split_any _ m _ HM.out).mono ?_; rintro e w1 ⟨v, rfl, hv, hb⟩
    rw [h2]
    rw [h1] at hv
    obtain ⟨a, c, rfl⟩ := hv.len
    have HM := Lib.hid (HM.out.call hb)
    clear hv h1 h2
    go_wp2_with fail
    refine (known_true m _ HM.out).mono ?_; rintro e w2 ⟨rfl, hb2⟩
    have hb := below_call hb hb2 hb.size
    clear hb2
    go_wp2_with fail
    go_ret
    exact ⟨rfl, hb⟩
  · subst hr
    go_enter Tryd.func7, Tryd.ntmps7
    go_wp2_with fail
    refine (split_any _ m _ HM.out).mono ?_; rintro e w1 ⟨v, rfl, hv, hb⟩
    rw [hs] at hv ⊢
    obtain ⟨a, c, rfl⟩ := hv.len
    have HM := Lib.hid (HM.out.call hb)
    have HV := Lib.hid hv
    clear hv hs
    go_wp2_with fail
    refine (join_any _ _ _ _ HV.out).mono ?_; rintro e w2 ⟨rfl, hb2⟩
    rw [joinR_root]
    have hb := below_call hb hb2 hb.size
    have HM := Lib.hid (HM.out.call hb2)
    clear hb2
    have hsl : slash = { data := #[47] } := rfl
    rw [hsl]
    clear hsl
    go_wp2_with fail
    go_loopw [7, 8] (fun n i wr => i = .int .i64 0 ∧ n = .int .i64 0 ∧ wr = w2) (fun _ _ _ => 0)
    case atStart => exact ⟨rfl, rfl, rfl⟩
    case round =>
      obtain ⟨rfl, rfl, rfl⟩ := hrel
      go_wp2_with fail
      refine (known_true m _ HM.out).mono ?_; rintro e w3 ⟨rfl, hb2⟩
      have hb := below_call hb hb2 hb.size
      clear hb2
      go_wp2_with fail
      go_ret
      exact ⟨rfl, hb⟩
  · have hj := join_pieces hf hn
    have ht := tot_pieces hf
    have h400 : p.size ≤ 400 := by have := hf.1; omega
    go_enter Tryd.func7, Tryd.ntmps7
    go_wp2_with fail
    refine (split_any _ m _ HM.out).mono ?_; rintro e w1 ⟨v, rfl, hv, hb⟩
    rw [hs] at hv ⊢
    have hne := pieces_ne p
    generalize pieces p = xs at *
    have HM := Lib.hid (HM.out.call hb)
    have HV := Lib.hid hv
    have HS := Lib.hid hn
    have HF := Lib.hid hf
    have HT := Lib.hid ht
    have HJ := Lib.hid hj
    clear hv hs hn hf ht hj
    go_wp2_with fail
    refine (join_any _ _ _ _ HV.out).mono ?_; rintro e w2 ⟨rfl, hb2⟩
    rw [HJ.out]
    have hb := below_call hb hb2 hb.size
    have HM := Lib.hid (HM.out.call hb2)
    have hv := HV.out.call hb2
    rcases hv with ⟨-, hx⟩ | ⟨g, o, c, rfl, hc, hsm, -, hgl, hx⟩
    · exact absurd hx hne
    · have HX := Lib.hid hx
      clear hx hb2 hne
      generalize hN : xs.length = N at *
      have HN := Lib.hid hN
      clear hN
      go_wp2_with fail
      go_loopw [7, 8] (fun n i wr => ∃ k : Nat, k ≤ N ∧ i = .int .i64 k ∧ n = .int .i64 (tot (xs.take k)) ∧ Below w2.heap.size w2 wr) (fun _ i _ => N - (intOf i).toNat)
      case atStart => exact ⟨0, Nat.zero_le _, rfl, rfl, Below.refl _ _⟩
      case round =>
        obtain ⟨k, hk, rfl, rfl, hbr⟩ := hrel
        have hts := tot_small (xs := xs) (k := k) (fun j hj n hn => HS.out n (List.mem_of_getElem? hn))
        generalize hT : tot (xs.take k) = T at *
        have HTT := Lib.hid hT
        clear hT
        by_cases hkw : k < N
        · obtain ⟨x, hx⟩ := getElem_opt (l := xs) (k := k) (by rw [HN.out]; exact hkw)
          have cx := (hbr.cell (p := ⟨g, o + k, none⟩) hgl).trans (HX.out k x hx)
          rw [cell?_of_hat] at cx
          have Hx := Lib.hid hx
          have hnm := HS.out x (List.mem_of_getElem? hx)
          have h40 : x.size ≤ 40 := by have := hnm.2.1; rwa [len_data] at this
          have hck := chk_yes hnm
          have HC := Lib.hid hck
          clear hx hnm hck
          go_wp2_with fail
          refine (check_any x _).mono ?_; rintro e w3 ⟨rfl, hb3⟩
          rw [HC.out]
          have hbr := below_call hbr hb3 hbr.size
          have cx := (hbr.cell (p := ⟨g, o + k, none⟩) hgl).trans (HX.out k x Hx.out)
          rw [cell?_of_hat] at cx
          clear hb3
          go_wp2_with fail
          go_roundw
          case rel => exact ⟨k + 1, by omega, by go_num, by (rw [tot_take Hx.out, HTT.out]; congr 1; omega), hbr⟩
          case measure => (show N - (k + 1) < N - k); omega
        · obtain rfl : k = N := by omega
          have hTp : T = p.size := by rw [← HTT.out, List.take_of_length_le (by rw [HN.out]; exact Nat.le_refl _)]; exact HT.out
          subst hTp
          have hb := below_call hb hbr hb.size
          have HM := Lib.hid (HM.out.call hbr)
          clear hbr
          go_wp2_with fail
          refine (known_true m _ HM.out).mono ?_; rintro e w3 ⟨rfl, hb2⟩
          have hb := below_call hb hb2 hb.size
          clear hb2
          go_wp2_with fail
          go_ret
          exact ⟨rfl, hb⟩
end Go.Proofs.YtkhpifjhnkknbaaDoor
