import Derived.Test.YthioepdgnbdohaaGreatM04
import Derived.Test.YthioepdgnbdohaaGreatM09
import Derived.Test.YthioepdgnbdohaaGreatM10
import Derived.Test.YthioepdgnbdohaaGreatM13
namespace Go.Proofs.YthioepdgnbdohaaGreat
set_option maxHeartbeats 16000000
set_option maxRecDepth 1000000
set_option linter.unusedSimpArgs false
set_option linter.unusedVariables false
open Go.RowKit
theorem U4 {E : Ay} (hE : ROk E) {p : Int} (h : isD E.X E.Y p = true) : 0 <= p /\ p < E.N := by
 unfold isD at h;have := of_decide_eq_true h;have := hE.X;have := hE.Y1;omega
def Apt (E : Ay) (o : Option Nat) (gx : Nat) : Prop := (∀ b ∈ E.bs, b ≠ gx) /\ ∀ q, o = some q -> q ≠ gx
structure Tkn (E : Ay) (i : Nat) (raw : List Int) (st : LS) (o : Option Nat) (l : List Int) (tk : Int -> Bool) (I : Nat -> List Int) (en : Nat -> Int) (w w' : World) (o' : Option Nat) : Prop where
 g : RG E w' o' (if nth raw 0 = 2 then l ++ [(i : Int)] else l) (Ap E.X E.Y raw st).2.S (Ap E.X E.Y raw st).2.cl (fun q => if q = (i : Int) then true else tk q) (fun j => if j = i then (Ap E.X E.Y raw st).1 else I j) en
 f : Fr (E.g :: E.gw :: E.gc :: E.gt :: E.gn :: o.toList) w w'
 o : o' = o \/ ∃ g, o' = some g /\ w.heap.size <= g
def Yf (E : Ay) (i : Nat) (raw : List Int) (st : LS) (o : Option Nat) (l : List Int) (tk : Int -> Bool) (I : Nat -> List Int) (en : Nat -> Int) (w : World) (e : Ending) (w' : World) : Prop := e = .returned (.tuple #[]) /\ ∃ o', Tkn E i raw st o l tk I en w w' o'
theorem Cf.cellAt {w : World} {g N c : Nat} {S : Nat -> List Int} (h : Cf w g N c S) {p : Nat} (hp : p < N) : ∃ cs, hat w g = some (.cells cs 33) /\ ∀ k, k < 128 -> cs[p * 128 + k]? = some (.int .u8 (nth (S p) k)) := by
 obtain ⟨cs, h1, h2, h3⟩ := h;obtain ⟨h4, -, h5⟩ := h3 p hp;refine ⟨cs, h1, fun k hk => ?_⟩;have := congrArg (fun a : Array Value => a[k]?) h5;simp only [Array.getElem?_extract, Bh, Am (l := S p) (i := k) (by omega)] at this;rw [if_pos (by omega)] at this;exact this
theorem jI {n z : Int} {s : LS} (h : z % 128 = 0) : B7 n z s = s := by
 unfold B7;split
 ·rfl
 ·rw [if_pos h]
def aW : Nat -> Code -> Code
 | 0, c => c
 | k + 1, .seq _ b => aW k b
 | _ + 1, _ => .skip
noncomputable def tkC (k : Nat) : Code := aW k (Tryz.f32.body.getD .skip)
section
variable {E : Ay} {o : Option Nat} {l : List Int} {tk : Int -> Bool} {I : Nat -> List Int} {en : Nat -> Int}
theorem oL (hE : ROk E) (i n gx : Nat) (hM : i < E.M) {raw : List Int} (st : LS) {A : Nat -> List Int} (r : List Int × LS) (HR : Hid (raw.length = 18)) (HZ : Hid (0 <= nth raw 2 /\ nth raw 2 <= 136704)) (HN : Hid (Aw (nth raw 2) = n)) (HSI : Hid (SI E.X E.Y A (D9 st))) (HLL : Hid (l.length <= 100000)) (w w6 : World) (HLT : Hid (Apt E o gx)) (HGX : Hid (w.heap.size <= gx))
  (HRP : Hid (Bd E.X E.Y n raw (D9 st) = r)) (HG : Hid (RG E w6 o l r.2.S r.2.cl tk I en)) (HT : Hid (hat w6 gx = some (.cells (IV .i64 r.1) 45))) (HF : Hid (Fr [gx, E.gc, E.gw] w w6)) (u2 u3 u4 u7 u8 u9 u10 u11 u12 u13 u14 u15 u16 u17 u18 u19 u20 u21 u22 u23 u24 u25 u26 u27 u28 u29 u30 u31 u32 u33 u34 u35 u36 u37 u38 u39 u40 u41 u42 u43 u44 u45 u46 u47 u48 u49 u50 u51 u52 u53 u54 u55 u56 u57 u58 u59 u60 u61 u62 u63 u64 u65 u66 u67 u68 u69 u70 u71 u72 u73 u74 u75 u76 u77 u78 u79 u80 u81 u82 u83 u84 u85 u86 u87 u88 u89 u90 u91 u92 u93 u94 u95 u96 u97 u98 u99 u100 u101 u102 u103 u104 u105 u106 u107 u108 u109 u110 u111 u112 u113 u114 u115 u116 u117 u118 u119 u120 u121 u122 u123 u124 u125 u126 u127 u128 u129 u130 u131 u132 u133 u134 u135 u136 u137 u138 u139 u140 u141 u142 u143 u144 u145 u146 u147 u148 u149 u150 u151 u152 u153 u154 u155 u156 u157 u158 u159 u160 u161 u162 u163 u164 u165 u166 u167 u168 u169 u170 u171 u172 u173 u174 u175 u176 u177 u178 u179 u180 u181 u182 u183 u184 u185 u186 u187 u188 u189 u190 u191 u192 u193 u194 u195 u196 u197 u198 u199 : Value) :
  Code.wp Tryz.prog (tkC 6) (bodyPost Tryz.prog Tryz.f32 (Yf E i raw st o l tk I en w)) ⟨#[.pointer (some ⟨E.g, 0, none⟩), .int .i64 i, u2, u3, u4, .pointer (some ⟨gx, 0, none⟩), .int .i64 n, u7, u8, u9, u10, u11, u12, u13, u14, u15, u16, u17, u18, u19, u20, u21, u22, u23, u24, u25, u26, u27, u28, u29, u30, u31, u32, u33, u34, u35, u36, u37, u38, u39, u40, u41, u42, u43, u44, u45, u46, u47, u48, u49, u50, u51, u52, u53, u54, u55, u56, u57, u58, u59, u60, u61, u62, u63, u64, u65, u66, u67, u68, u69, u70, u71, u72, u73, u74, u75, u76, u77, u78, u79, u80, u81, u82, u83, u84, u85, u86, u87, u88, u89, u90, u91, u92, u93, u94, u95, u96, u97, u98, u99, u100, u101, u102, u103, u104, u105, u106, u107, u108, u109, u110, u111, u112, u113, u114, u115, u116, u117, u118, u119, u120, u121, u122, u123, u124, u125, u126, u127, u128, u129, u130, u131, u132, u133, u134, u135, u136, u137, u138, u139, u140, u141, u142, u143, u144, u145, u146, u147, u148, u149, u150, u151, u152, u153, u154, u155, u156, u157, u158, u159, u160, u161, u162, u163, u164, u165, u166, u167, u168, u169, u170, u171, u172, u173, u174, u175, u176, u177, u178, u179, u180, u181, u182, u183, u184, u185, u186, u187, u188, u189, u190, u191, u192, u193, u194, u195, u196, u197, u198, u199], []⟩ w6 := by
 conv => arg 2; whnf
 obtain ⟨hz0, hz1⟩ := HZ.out;have hraw := Ub E.X E.Y n raw (D9 st) HR.out;rw [HRP.out] at hraw;obtain ⟨hr18, hlow⟩ := hraw;have hk0 : nth r.1 0 = nth raw 0 := hlow 0 (by decide);have hk2 : nth r.1 2 = nth raw 2 := hlow 2 (by decide);have HK := sW (show nth r.1 0 = nth raw 0 /\ nth r.1 2 = nth raw 2 from ⟨hk0, hk2⟩);have hc0 : (IV .i64 r.1)[0]? = some (.int .i64 (nth raw 0)) := by rw [Bh, Am (by omega), hk0]; rfl
 have hc2 : (IV .i64 r.1)[2]? = some (.int .i64 (nth raw 2)) := by rw [Bh, Am (by omega), hk2]; rfl
 obtain ⟨v, hl, -⟩ := HG.out.l;have hll := Aa hl;obtain ⟨cst, hct, hczt, hallt⟩ := HG.out.t;have hcti := hallt i hM;have hctl := Aa hct;have hi0 : (0 : Int) <= (i : Int) := Int.natCast_nonneg _;have hiM : (i : Int) < (E.M : Int) := by omega
 have hT := HT.out;have HT7 : Hid (hat (w6.setCell ⟨E.gt, i, none⟩ (.bool true)) gx = some (.cells (IV .i64 r.1) 45)) := sW ((E5 w6 ⟨E.gt, i, none⟩ (.bool true) gx (fun e => HLT.out.1 E.gt (by simp [Ay.bs]) e.symm)).trans hT);have HG7 := sW (HG.out.take hE hM true);have HF7 := sW ((HF.out.mono (ex' := [gx, E.gc, E.gw, E.gt]) (by simp +contextual)).trans ((Ai w6 E.gt i (.bool true)).mono (ex' := [gx, E.gc, E.gw, E.gt]) (by simp)));clear hlow hc0 hc2 hallt HF HG HT;go_upto_region 23 with fail;clear hct hczt hcti hctl hl hll hT;generalize w6.setCell ⟨E.gt, i, none⟩ (.bool true) = w7 at *;have hT7 := HT7.out;have hT7l := Aa hT7;obtain ⟨v, hl, -⟩ := HG7.out.l;have hll := Aa hl;obtain ⟨csn, hcn, hszn, halln⟩ := HG7.out.n;have hcnl := Aa hcn;have hst : ∀ raw w', Cw raw 18 (i * 18) E.gn (IV .i64 r.1) w' (some (.cells csn 45 (0, 0))) = .ok () (w'.setRow E.gn (Ak csn (i * 18) (IV .i64 r.1))) := fun raw w' => Cb (by omega) (by simpa using hr18) (by simp)
 clear halln;have HG8 : Hid (RG E (w7.setRow E.gn (Ak csn (i * 18) (IV .i64 r.1))).drew o l r.2.S r.2.cl (fun q => if q = (i : Int) then true else tk q) (fun j => if j = i then r.1 else I j) en) := sW ((HG7.out.ino hE hcn hM hr18).fr (Bj (Fr.refl [] _)) (fun _ _ => by simp) (fun _ _ => by simp));have HF8 : Hid (Fr [gx, E.gc, E.gw, E.gt, E.gn] w (w7.setRow E.gn (Ak csn (i * 18) (IV .i64 r.1))).drew) := sW (Bj ((HF7.out.mono (by simp +contextual)).trans ((Cl w7 E.gn _).mono (by simp))));have HT8 : Hid (hat (w7.setRow E.gn (Ak csn (i * 18) (IV .i64 r.1))).drew gx = some (.cells (IV .i64 r.1) 45)) := sW ((Be w7 E.gn gx _ (fun e => HLT.out.2 |> fun _ => HLT.out.1 E.gn (by simp [Ay.bs]) e.symm)).trans hT7);go_region
 clear hst hcn hszn hcnl hl hll hT7 hT7l HG7 HF7 HT7;generalize (w7.setRow E.gn (Ak csn (i * 18) (IV .i64 r.1))).drew = w8 at *;have hT8 := HT8.out;have hT8l := Aa hT8;obtain ⟨v, hl, hqv⟩ := HG8.out.l;have hll := Aa hl
 have HTX : Hid (Ap E.X E.Y raw st = if nth raw 0 = 2 then (r.1, E4 n r.2) else (r.1, B7 n (nth raw 2) r.2)) := sW (by
  have : Ap E.X E.Y raw st = if nth raw 0 = 2 then ((Bd E.X E.Y (Aw (nth raw 2)) raw (D9 st)).1, E4 (Aw (nth raw 2)) (Bd E.X E.Y (Aw (nth raw 2)) raw (D9 st)).2) else ((Bd E.X E.Y (Aw (nth raw 2)) raw (D9 st)).1, B7 (Aw (nth raw 2)) (nth raw 2) (Bd E.X E.Y (Aw (nth raw 2)) raw (D9 st)).2) := rfl
  rw [HN.out, HRP.out] at this;exact this)
 have HFIN : Hid (∀ o' l' S' w', (if nth raw 0 = 2 then l ++ [(i : Int)] else l) = l' -> (Ap E.X E.Y raw st).2.S = S' -> (Ap E.X E.Y raw st).2.cl = r.2.cl -> (Ap E.X E.Y raw st).1 = r.1 -> RG E w' o' l' S' r.2.cl (fun q => if q = (i : Int) then true else tk q) (fun j => if j = i then r.1 else I j) en -> Fr (gx :: E.g :: E.gw :: E.gc :: E.gt :: E.gn :: o.toList) w w' -> (o' = o \/ ∃ g, o' = some g /\ w.heap.size <= g) -> Yf E i raw st o l tk I en w (.returned (.tuple #[])) w') := sW (fun o' l' S' w' e1 e2 e3 e4 h1 h2 h3 => ⟨rfl, o', by
   rw [e1, e2, e3, e4]; exact h1, h2.past (fun k hk => by
   rcases List.mem_cons.1 hk with e | hk
   ·right; rw [e]; exact HGX.out
   ·exact .inl hk), h3⟩)
 by_cases hkd : nth raw 0 = 2
 ·have d2 : (nth raw 0 == 2) = true := by simpa using hkd
  obtain ⟨v', w9, o', ⟨ar, nr, cr, rfl⟩, hrun, hv9, hg9, hf9, ho9⟩ := HG8.out.push hE HLL.out (i : Int) 24 hl;have hv9l := Aa hv9
  have HE : Hid (Yf E i raw st o l tk I en w (.returned (.tuple #[])) (w9.setCell ⟨E.g, 8, none⟩ (.slice ar nr cr))) := sW (by
   refine HFIN.out o' _ _ _ (if_pos hkd) (by rw [HTX.out, if_pos hkd]; rfl) (by rw [HTX.out, if_pos hkd]; rfl) (by rw [HTX.out, if_pos hkd]) hg9 ((HF8.out.mono (by simp +contextual)).trans (hf9.mono (by simp +contextual))) ?_;rcases ho9 with h | ⟨g, h, h2⟩
   ·exact .inl h
   ·exact .inr ⟨g, h, Nat.le_trans HF8.out.size h2⟩)
  clear hkd hg9 hf9 ho9 hqv;go_wp2_with (at_builtin; refine Ao _ rfl (.tmp 164) (.tmp 166) 24 rfl _ _ rfl rfl _ _ hrun ?_)
  go_wp2_with fail;(try simp only [Exit.inBlock, Exit.then])
  refine bodyPost_ret (results_none rfl _ _ _) rfl ?_;exact HE.out
 ·have d2 : (nth raw 0 == 2) = false := by simpa using hkd
  have HE0 : Hid (B7 n (nth raw 2) r.2 = r.2 -> ∀ w', RG E w' o l r.2.S r.2.cl (fun q => if q = (i : Int) then true else tk q) (fun j => if j = i then r.1 else I j) en -> Fr (gx :: E.g :: E.gw :: E.gc :: E.gt :: E.gn :: o.toList) w w' -> Yf E i raw st o l tk I en w (.returned (.tuple #[])) w') := sW (fun h0 w' h1 h2 =>
   HFIN.out o _ _ _ (if_neg hkd) (by rw [HTX.out, if_neg hkd, h0]) (by rw [HTX.out, if_neg hkd, h0]) (by rw [HTX.out, if_neg hkd]) h1 h2 (.inl rfl))
  obtain ⟨m, hm⟩ : ∃ m : Nat, nth raw 2 % 128 = m := ⟨(nth raw 2 % 128).toNat, by omega⟩;by_cases hm0 : m = 0
  ·have d3 : (nth raw 2 % 128 != 0) = false := by rw [hm, hm0]; rfl
   have HE := sW (HE0.out (jI (by rw [hm, hm0]; rfl)) w8 HG8.out (HF8.out.mono (by simp +contextual)));clear hkd hm0 hm hqv;go_wp2_with fail;refine bodyPost_end (results_none rfl _ _ _) rfl ?_;exact HE.out
  ·have d3 : (nth raw 2 % 128 != 0) = true := by rw [hm]; simp; omega
   have hmi : (m : Int) < 128 := by omega
   obtain ⟨d, hd⟩ : ∃ d, n = d + 1 := ⟨n - 1, by have := HN.out; have := HZ.out; unfold Aw at *; omega⟩;have hdn : (n : Int) - 1 = (d : Int) := by omega
   have hd9 : d < 1068 := by have := HN.out; have := HZ.out; unfold Aw at *; omega
   have hwd : IntKind.i64.wrap (d : Int) = (d : Int) := by rw [IntKind.wrap_i64]; omega
   have hd0 : (0 : Int) <= (d : Int) := Int.natCast_nonneg _;have HPF := iK (by have := hE.Y1; omega) (n : Int) HR.out HSI.out (fun q => rfl);rw [HRP.out] at HPF;obtain ⟨-, hok, -, -, hbk⟩ := HPF;have hA := (Uq (X := E.X) (Y := E.Y) (by have := hE.Y1; omega) hE.X (by have := hE.N8; omega) hr18 (fun p hp => (hok.1 p hp).1));have hbk2 := hbk d (by omega) (by omega);rw [Ih _ _ hr18 d hd9] at hbk2;have hpb := hA.2 d hd9;have HA := sW hA.1;obtain ⟨p, hp⟩ : ∃ p, Dw r.2.S r.1 d = p := ⟨_, rfl⟩;rw [hp] at hbk2 hpb;have HBK := sW hbk2;have HP := sW hp;have HM := sW hm;have HM0 : Hid (m ≠ 0) := sW hm0;have HKD : Hid (nth raw 0 ≠ 2) := sW hkd;have HD := sW hd;clear hbk hbk2 hA hok hp hm0 hkd hd hqv;go_upto_region 27 with fail;refine A5 (by kernel_rfl) 11 (by decide) rfl (fun i => match i with | 0 => (.pointer (some ⟨E.g, 0, none⟩)) | 1 => (Lv E.gw E.N E.cw) | 2 => (.agg (IV .i64 r.1)) | 3 => (.int .i64 (n : Int)) | 4 => (.int .i64 (d : Int)) | 5 => (.tuple #[.int .i64 p, .int .i64 0]) | 6 => (.tuple #[.int .i64 p, .int .i64 0]) | 7 => (.int .i64 p) | 8 => (.int .i64 0) | 9 => (.int .i64 p) | _ => (.int .i64 0)) ?_ ?_
   ·intro i' o ho0 ho a' w' hB hS hF;have hi' : i' = 0 \/ i' = 1 \/ i' = 2 \/ i' = 3 \/ i' = 4 \/ i' = 5 \/ i' = 6 \/ i' = 7 \/ i' = 8 \/ i' = 9 \/ i' = 10 := by omega
    have hT8 := (hop hB hT8).1;rcases hi' with rfl | rfl | rfl | rfl | rfl | rfl | rfl | rfl | rfl | rfl | rfl
    all_goals (have ho' := Option.some.inj ho; subst ho')
    ·have q0 : a'.tmps[0]?.getD undef = (.pointer (some ⟨E.g, 0, none⟩)) := gtx ((hS 0 (by decide)).trans rfl);refine Ab rfl (Ac rfl) ?_ ⟨rfl, hB⟩;simp [go_sem, q0]
    ·have q175 := gtx (hF 0 (by decide) _ 175 rfl rfl);refine Pv (f := 69) (args := #[.pointer (some ⟨E.g, 0, none⟩)]) rfl (Ac rfl) (by simp [go_sem, q175]) (Ja w' (HG8.out.below hB)) ?_;rintro e w'' ⟨rfl, hb'⟩;exact ⟨_, rfl, rfl, Ad hB hb' hB.size⟩
    ·have q5 : a'.tmps[5]?.getD undef = (.pointer (some ⟨gx, 0, none⟩)) := gtx ((hS 5 (by decide)).trans rfl);refine Ab rfl (Ac rfl) ?_ ⟨rfl, hB⟩;simp [go_sem, q5, hT8, hr18, Q8]
    ·have q6 : a'.tmps[6]?.getD undef = (.int .i64 (n : Int)) := gtx ((hS 6 (by decide)).trans rfl);refine Ab rfl (Ac rfl) ?_ ⟨rfl, hB⟩;simp [go_sem, q6]
    ·have q178 := gtx (hF 3 (by decide) _ 178 rfl rfl);refine Ab rfl (Ac rfl) ?_ ⟨rfl, hB⟩;simp [go_sem, q178, hdn, hwd]
    ·have q176 := gtx (hF 1 (by decide) _ 176 rfl rfl);have q177 := gtx (hF 2 (by decide) _ 177 rfl rfl);have q179 := gtx (hF 4 (by decide) _ 179 rfl rfl);refine Pv (f := 68) (args := #[Lv E.gw E.N E.cw, .agg (IV .i64 r.1), .int .i64 (d : Int)]) rfl (Ac rfl) (by simp [go_sem, q176, q177, q179]) (by have hh := dO (cw := E.cw) HA.out d hd9 w' (HG8.out.below hB).s; rw [HP.out] at hh; exact hh) ?_;rintro e w'' ⟨rfl, hb'⟩;exact ⟨_, rfl, rfl, Ad hB hb' hB.size⟩
    ·have q180 := gtx (hF 5 (by decide) _ 180 rfl rfl);refine Ab rfl (Ac rfl) ?_ ⟨rfl, hB⟩;simp [go_sem, q180]
    ·have q174 := gtx (hF 6 (by decide) _ 174 rfl rfl);refine Ab rfl (Ac rfl) ?_ ⟨rfl, hB⟩;simp [go_sem, q174]
    ·have q174 := gtx (hF 6 (by decide) _ 174 rfl rfl);refine Ab rfl (Ac rfl) ?_ ⟨rfl, hB⟩;simp [go_sem, q174]
    ·have q181 := gtx (hF 7 (by decide) _ 181 rfl rfl);refine Ab rfl (Ac rfl) ?_ ⟨rfl, hB⟩;simp [go_sem, q181]
    ·have q182 := gtx (hF 8 (by decide) _ 182 rfl rfl);refine Ab rfl (Ac rfl) ?_ ⟨rfl, hB⟩;simp [go_sem, q182]
   intro w9 hB9;simp only [Bg, List.take, List.drop, List.take_succ_cons, List.drop_succ_cons, Act.put, List.setIfInBounds_toArray, List.set_cons_zero, List.set_cons_succ];have HG9 := sW (HG8.out.below hB9);have HF9 := sW (HF8.out.trans (Ag hB9 _));have hT9 := (hop hB9 hT8).1;have hl9 := (hop hB9 hl).1;have hT9l := Aa hT9;have hl9l := Aa hl9;clear hB9 HG8 HF8 HT8 hT8 hT8l hl hll;by_cases hp0 : p = 0
   ·subst hp0;have HE := sW (HE0.out (by unfold B7; rw [hdn, HBK.out]; rfl) w9 HG9.out (HF9.out.mono (by simp +contextual)));go_wp2_with fail;refine bodyPost_end (results_none rfl _ _ _) rfl ?_;exact HE.out
   ·have d4 : (p != 0) = true := by simpa using hp0
    obtain ⟨pn, rfl⟩ := Int.eq_ofNat_of_zero_le hpb.1;have hpN : pn < E.N := by omega
    have hpi : (pn : Int) < (E.N : Int) := by omega
    have hpp : (0 : Int) <= (pn : Int) := Int.natCast_nonneg _;have HS128 : Hid ((r.2.S pn).length = 128) := sW (HG9.out.s.load hpN).choose_spec.2.2.1
    have HTL : Hid (B7 n (nth raw 2) r.2 = { r.2 with S := Bn r.2.S pn (Df (r.2.S pn) m) }) := sW (by
     unfold B7;rw [hdn, HBK.out];unfold Hk;rw [if_neg hp0];show (if nth raw 2 % 128 = 0 then r.2 else _) = _
     rw [HM.out, if_neg (by have := HM0.out; omega), Int.toNat_natCast];rfl)
    have HG90 : Hid (RG E w9 o l (Bn r.2.S pn (O6 (r.2.S pn) m m)) r.2.cl (fun q => if q = (i : Int) then true else tk q) (fun j => if j = i then r.1 else I j) en) := sW (by
     rw [eQ (by rw [HS128.out]; omega)];have e : Bn r.2.S pn (r.2.S pn) = r.2.S := eK _ _;rw [e]; exact HG9.out)
    clear hp0 HG9 hpb;go_wp2_with fail;go_loopw [13] (fun kv wr => ∃ k : Nat, kv = .int .i64 k /\ m <= k /\ k <= 128 /\ Hid (RG E wr o l (Bn r.2.S pn (O6 (r.2.S pn) m k)) r.2.cl (fun q => if q = (i : Int) then true else tk q) (fun j => if j = i then r.1 else I j) en) /\ Hid (Fr [E.gw] w9 wr)) (fun v _ => 128 - (intOf v).toNat)
    case atStart => exact ⟨m, by first | rfl | rw [HM.out], by omega, by omega, HG90, sW (Fr.refl _ _)⟩
    case round =>
     obtain ⟨k, rfl, hmk, hk, HGk, HFk⟩ := hrel;have hk0 : (0 : Int) <= (k : Int) := Int.natCast_nonneg _;by_cases hk128 : k < 128
     ·have hki : (k : Int) < 128 := by omega
      obtain ⟨v2, hl2, -⟩ := HGk.out.l;have hl2l := Aa hl2;obtain ⟨cs2, hc2', hcell2⟩ := HGk.out.s.cellAt hpN;have hck := hcell2 k hk128;have hc2l := Aa hc2';have HGn := HGk.out.byte hE hpN hk128;rw [Fk, eP HS128.out hmk hk128, Kk] at HGn;have HGN := sW HGn;have HFN := sW (HFk.out.trans (Ai wr E.gw (pn * 128 + k) (.int .u8 0)));generalize nth (Bn r.2.S pn (O6 (r.2.S pn) m k) pn) k = old at *;clear HGn hcell2;go_wp2_with fail;go_roundw
      case rel => exact ⟨k + 1, by go_num, by omega, by omega, HGN, HFN⟩
      case measure => (show 128 - (k + 1) < 128 - k); omega
     ·obtain rfl : k = 128 := by omega
      have hend := HGk.out;rw [jQ HS128.out] at hend;have HE := sW (HFIN.out o _ _ _ (if_neg HKD.out) (by rw [HTX.out, if_neg HKD.out, HTL.out]) (by rw [HTX.out, if_neg HKD.out, HTL.out]) (by rw [HTX.out, if_neg HKD.out]) hend ((HF9.out.mono (by simp +contextual)).trans (HFk.out.mono (by simp +contextual))) (.inl rfl));clear hend;go_wp2_with fail;refine bodyPost_end (results_none rfl _ _ _) rfl ?_;exact HE.out
end
def zOr (z : Bool) (p : Int) : Int := if z then 0 else p
def N7 (E : Ay) (n p : Int) (z : Bool) (s2 : LS) (C : List Int × Bool × LS) : Prop :=
 if z = true \/ p = 0 then C = ([0], false, s2) else isD E.X E.Y p = true /\ C = ([zOr (!(Cu (Ob E.X E.Y n) p.toNat s2).1) p], (Cu (Ob E.X E.Y n) p.toNat s2).1, (Cu (Ob E.X E.Y n) p.toNat s2).2)
theorem bS {raw pre : List Int} (hr : raw.length = 18) (hp : pre.length = 13) (a : Int) : (Ea raw (pre ++ [a]) 14).set 17 0 = Ea raw (pre ++ [0]) 14 := by
 unfold Ea;have e1 : (raw.take 4).length = 4 := by simp [hr]
 rw [List.set_append_right _ _ (by omega), e1, List.set_append_left _ _ (by simp [hp]), List.set_append_right _ _ (by omega), hp];rfl
section
variable {E : Ay} {o : Option Nat} {l : List Int} {tk : Int -> Bool} {I : Nat -> List Int} {en : Nat -> Int}
theorem oK (hE : ROk E) (i n gx : Nat) (hM : i < E.M) {raw : List Int} (st : LS) {A : Nat -> List Int} (HR : Hid (raw.length = 18)) (HZ : Hid (0 <= nth raw 2 /\ nth raw 2 <= 136704)) (HN : Hid (Aw (nth raw 2) = n)) (hn9 : n <= 1068) (HSI : Hid (SI E.X E.Y A (D9 st))) (HLL : Hid (l.length <= 100000)) (w w7 : World) (HLT : Hid (Apt E o gx)) (HGX : Hid (w.heap.size <= gx))
  (pre1 : List Int) (z : Bool) (q : Int) (s2 : LS) (C : List Int × Bool × LS) (HLB : Hid (pre1.length = 13)) (HZb : Hid (N7 E n q z s2 C)) (HPX : Hid (Bd E.X E.Y n raw (D9 st) = (raw.take 4 ++ (pre1 ++ C.1), C.2.2)))
  (HG : Hid (RG E w7 o l s2.S s2.cl tk I en)) (HT : Hid (hat w7 gx = some (.cells (IV .i64 (Ea raw (pre1 ++ [zOr z q]) 14)) 45))) (HF : Hid (Fr [gx, E.gc, E.gw] w w7)) (u2 u3 u4 u7 u8 u9 u10 u11 u12 u13 u14 u15 u16 u17 u18 u19 u20 u21 u22 u23 u24 u25 u26 u27 u28 u29 u30 u31 u32 u33 u34 u35 u36 u37 u38 u39 u40 u41 u42 u43 u44 u45 u46 u47 u48 u49 u50 u51 u52 u53 u54 u55 u56 u57 u58 u59 u60 u61 u62 u63 u64 u65 u66 u67 u68 u69 u70 u71 u72 u73 u74 u75 u76 u77 u78 u79 u80 u81 u82 u83 u84 u85 u86 u87 u88 u89 u90 u91 u92 u93 u94 u95 u96 u97 u98 u99 u100 u101 u102 u103 u104 u105 u106 u107 u108 u109 u110 u111 u112 u113 u114 u115 u116 u117 u118 u119 u120 u121 u122 u123 u124 u125 u126 u127 u128 u129 u130 u131 u132 u133 u134 u135 u136 u137 u138 u139 u140 u141 u142 u143 u144 u145 u146 u147 u148 u149 u150 u151 u152 u153 u154 u155 u156 u157 u158 u159 u160 u161 u162 u163 u164 u165 u166 u167 u168 u169 u170 u171 u172 u173 u174 u175 u176 u177 u178 u179 u180 u181 u182 u183 u184 u185 u186 u187 u188 u189 u190 u191 u192 u193 u194 u195 u196 u197 u198 u199 : Value) :
  Code.wp Tryz.prog (tkC 5) (bodyPost Tryz.prog Tryz.f32 (Yf E i raw st o l tk I en w)) ⟨#[.pointer (some ⟨E.g, 0, none⟩), .int .i64 i, u2, u3, u4, .pointer (some ⟨gx, 0, none⟩), .int .i64 n, u7, u8, u9, u10, u11, u12, u13, u14, u15, u16, u17, u18, u19, u20, u21, u22, u23, u24, u25, u26, u27, u28, u29, u30, u31, u32, u33, u34, u35, u36, u37, u38, u39, u40, u41, u42, u43, u44, u45, u46, u47, u48, u49, u50, u51, u52, u53, u54, u55, u56, u57, u58, u59, u60, u61, u62, u63, u64, u65, u66, u67, u68, u69, u70, u71, u72, u73, u74, u75, u76, u77, u78, u79, u80, u81, u82, u83, u84, u85, u86, u87, u88, u89, u90, u91, u92, u93, u94, u95, u96, u97, u98, u99, u100, u101, u102, u103, u104, u105, u106, u107, u108, u109, u110, u111, u112, u113, u114, u115, u116, u117, u118, u119, u120, u121, u122, u123, u124, u125, u126, u127, u128, u129, u130, u131, u132, u133, u134, u135, u136, u137, u138, u139, u140, u141, u142, u143, u144, u145, u146, u147, u148, u149, u150, u151, u152, u153, u154, u155, u156, u157, u158, u159, u160, u161, u162, u163, u164, u165, u166, u167, u168, u169, u170, u171, u172, u173, u174, u175, u176, u177, u178, u179, u180, u181, u182, u183, u184, u185, u186, u187, u188, u189, u190, u191, u192, u193, u194, u195, u196, u197, u198, u199], []⟩ w7 := by
 conv => arg 2; whnf
 have HLC : Hid ((pre1 ++ [zOr z q]).length = 14 /\ pre1.length = 13) := sW ⟨by simp [HLB.out], HLB.out⟩;have hn17 : nth (Ea raw (pre1 ++ [zOr z q]) 14) 17 = zOr z q := by
  unfold Ea nth;rw [List.getElem?_append_right (by simp; omega), List.getElem?_append_left (by simp [HR.out, HLB.out]), List.getElem?_append_right (by simp [HR.out, HLB.out])];simp [HR.out, HLB.out]
 have hcl := Nd HR.out HLC.out.1 (show 14 <= 14 by omega);obtain ⟨cur2, hcur2⟩ : ∃ cur, Ea raw (pre1 ++ [zOr z q]) 14 = cur := ⟨_, rfl⟩;rw [hcur2] at HT hn17 hcl;have HCU := sW hcur2;obtain ⟨d, hd⟩ : ∃ d, zOr z q = d := ⟨_, rfl⟩;rw [hd] at hn17;have HD := sW hd;have hT := HT.out;have hTl := Aa hT;clear hcur2 hd;go_upto_if 82 with fail;go_cut [8, 9, 10] from 14 (fun x8 x9 x10 wx => Hid (RG E wx o l C.2.2.S C.2.2.cl tk I en) /\ Hid (hat wx gx = some (.cells (IV .i64 (Ea raw (pre1 ++ C.1) 14)) 45)) /\ Hid (Fr [gx, E.gc, E.gw] w wx))
 case first =>
  by_cases hzq : z = true \/ q = 0
  ·have hC := HZb.out;unfold N7 at hC;rw [if_pos hzq] at hC;have h0 : d = 0 := by
    rw [<- HD.out];unfold zOr;rcases hzq with h | h
    ·rw [h]; rfl
    ·rw [h]; split <;> rfl
   have d1 : (d != 0) = false := by simpa using h0
   have HGG : Hid (RG E w7 o l C.2.2.S C.2.2.cl tk I en) := sW (by rw [hC]; exact HG.out)
   have HTT : Hid (hat w7 gx = some (.cells (IV .i64 (Ea raw (pre1 ++ C.1) 14)) 45)) := sW (by
    rw [hC, show (([0], false, s2) : List Int × Bool × LS).1 = [d] by rw [h0], <- HD.out, HCU.out]; exact hT)
   clear hC h0 hzq;go_wp2_with fail;go_meet
   case rel => exact ⟨HGG, HTT, HF⟩
  ·have hC := HZb.out;unfold N7 at hC;rw [if_neg hzq] at hC;obtain ⟨hD, hC⟩ := hC;have hlt := U4 hE hD;have hz : z = false := by
    cases z with
    | false => rfl
    | true => exact absurd (.inl rfl) hzq
   have hq0 : q ≠ 0 := fun h => hzq (.inr h)
   obtain ⟨pn, rfl⟩ := Int.eq_ofNat_of_zero_le hlt.1;have hdq : d = (pn : Int) := by rw [<- HD.out, hz]; rfl
   subst hdq;rw [Int.toNat_natCast] at hC;have HC := sW hC;have hpN : pn < E.N := by omega
   have hpi : (pn : Int) < (E.N : Int) := by omega
   have hpp : (0 : Int) <= (pn : Int) := Int.natCast_nonneg _;have d1 : ((pn : Int) != 0) = true := by simpa using hq0
   obtain ⟨v, hl, -⟩ := HG.out.l;have hll := Aa hl;obtain ⟨csw, hcw, hldw, hlenw, hbyw⟩ := HG.out.s.load hpN;have hcwl := Aa hcw;have HRP := sW (fun W => Gj (s2.S pn) hlenw hbyw W);have hpl : (An (s2.S pn)).length = 32 := by simp
   have HTP : Hid (Cu (Ob E.X E.Y n) pn s2 = if (Av (As E.X E.Y) (D4 E.X E.Y n) 44 32 n 0 (An (s2.S pn)) s2).2.1 = false then (false, { (Av (As E.X E.Y) (D4 E.X E.Y n) 44 32 n 0 (An (s2.S pn)) s2).2.2 with cl := Pw (Av (As E.X E.Y) (D4 E.X E.Y n) 44 32 n 0 (An (s2.S pn)) s2).2.2.cl pn })
    else (true, { (Av (As E.X E.Y) (D4 E.X E.Y n) 44 32 n 0 (An (s2.S pn)) s2).2.2 with S := Bn (Av (As E.X E.Y) (D4 E.X E.Y n) 44 32 n 0 (An (s2.S pn)) s2).2.2.S pn (Du (Av (As E.X E.Y) (D4 E.X E.Y n) 44 32 n 0 (An (s2.S pn)) s2).1).1, fm := Bi (Av (As E.X E.Y) (D4 E.X E.Y n) 44 32 n 0 (An (s2.S pn)) s2).2.2.fm pn })) := sW rfl
   generalize hPS : An (s2.S pn) = ps at *;clear hPS hbyw hlenw hC hzq hlt hD hq0;have HNE : Hid (E.gw ≠ w7.heap.size /\ gx ≠ w7.heap.size) := sW ⟨by have := Aa hcw; omega, by have := Aa hT; omega⟩;go_upto_region 12 with fail;go_cut [8] from 14 (fun x8 wx => ∃ gt : Nat, x8 = .pointer (some ⟨gt, 0, none⟩) /\ Hid (hat wx gt = some (.cells (IV .i64 ps) 89)) /\ Hid (Below w7.heap.size w7 wx) /\ Hid (w7.heap.size <= gt))
   case first =>
    have hN5 := (A7 w7 (.cells (IV .i64 (zl 32)) 89)).1;have hBN : Below w7.heap.size w7 (w7.alloc (.cells (IV .i64 (zl 32)) 89)).drew := Below.drew ((Below.refl _ _).alloc (Nat.le_refl _) _);have HBN := sW hBN;have HN5 : Hid (hat (w7.alloc (.cells (IV .i64 (zl 32)) 89)).drew w7.heap.size = some (.cells (IV .i64 (zl 32)) 89)) := sW hN5;clear hBN hN5;have hst : ∀ raw w', Cw raw 32 0 w7.heap.size (IV .i64 ps) w' (some (.cells (IV .i64 (zl 32)) 89 (0, 0))) = .ok () (w'.setRow w7.heap.size (IV .i64 ps)) := fun raw w' => Fc (by simp) (by simpa using hpl) (by simp)
    go_region_with (first
     | (refine (HRP.out w7.drew).mono ?_; rintro e w11 ⟨rfl, hb11⟩; have hB11 : Below w7.heap.size w7 w11 := ⟨hb11.os, hb11.tape, hb11.output, hb11.size, hb11.block⟩)
     | (refine (HRP.out (w7.alloc (.cells (IV .i64 (zl 32)) 89)).drew).mono ?_; rintro e w11 ⟨rfl, hb11⟩; have hB11 : Below w7.heap.size w7 w11 := Ad HBN.out hb11 HBN.out.size; have hx11 := (hop hb11 HN5.out).1; have hx11l := Aa hx11))
    all_goals first
     | (have hg12 := sW (A7 w11 (.cells (IV .i64 ps) 89)).1
        have HB12 := sW (hB11.alloc hB11.size (.cells (IV .i64 ps) 89));have HSZ := sW hB11.size;clear hb11 hB11;go_wp2_with fail;go_meet
        case rel => exact ⟨_, rfl, hg12, HB12, HSZ⟩)
     | (have hg12 := sW (Aq _ _ (IV .i64 ps) _ _ _ hx11)
        have HB12 := sW (Af hB11 (g := w7.heap.size) (Nat.le_refl _) (IV .i64 ps));clear hb11 hB11;go_wp2_with fail;go_meet
        case rel => exact ⟨_, rfl, hg12, HB12, sW (Nat.le_refl _)⟩)
   case rest =>
    obtain ⟨gt, hx8, HGT0, HB8, HGTN⟩ := hcut;subst hx8;have HG8 := sW (HG.out.below HB8.out);have HT8 := sW ((hop HB8.out hT).1);have HGT : Hid ((∀ b ∈ E.bs, b ≠ gt) /\ (∀ q, o = some q -> q ≠ gt) /\ gx ≠ gt) := sW ⟨fun b hb => by have := HG.out.lts b hb; have := HGTN.out; omega, fun q hq => by have := HG.out.lto q hq; have := HGTN.out; omega, by have := Aa HT.out; have := HGTN.out; omega⟩;have HF8 := sW (HF.out.trans (Ag HB8.out _));have HWG : Hid (w.heap.size <= gt) := sW (by have := HF.out.size; have := HGTN.out; omega);clear hT hTl hl hll hcw hcwl hldw HRP HNE HB8 HG HF HT HGTN;obtain ⟨w8, hw8⟩ : ∃ x, x = wc := ⟨_, rfl⟩;subst hw8;have hGT0 := HGT0.out;go_wp2_with fail
    go_loopw [9, 10] (fun sm kv wr => ∃ (k : Nat) (pre : List Int) (b : Bool) (s : LS), kv = .int .i64 k /\ sm = .bool b /\ k <= 32 /\ Hid (pre.length = k) /\ Hid (RG E wr o l s.S s.cl tk I en) /\ Hid (hat wr gt = some (.cells (IV .i64 (pre ++ ps.drop k)) 89)) /\ Hid (Fr [gt, E.gc, E.gw] w8 wr) /\
     Hid (Av (As E.X E.Y) (D4 E.X E.Y n) 44 32 n 0 ps s2 = (pre ++ (Av (As E.X E.Y) (D4 E.X E.Y n) 44 32 n k (ps.drop k) s).1, b || (Av (As E.X E.Y) (D4 E.X E.Y n) 44 32 n k (ps.drop k) s).2.1, (Av (As E.X E.Y) (D4 E.X E.Y n) 44 32 n k (ps.drop k) s).2.2))) (fun _ v _ => 32 - (intOf v).toNat)
    case atStart => exact ⟨0, [], false, s2, rfl, rfl, by omega, sW rfl, HG8, sW (by simpa using hGT0), sW (Fr.refl _ _), sW (by simp)⟩
    case round =>
     obtain ⟨k, pre, b, s, rfl, rfl, hk, HL, HG, HT, HF, HE⟩ := hrel;have hx8 := (HF.out.block gx (Aa HT8.out) (by simp only [List.mem_cons, List.not_mem_nil, or_false, not_or]; exact ⟨HGT.out.2.2, fun e => HLT.out.1 E.gc (by simp [Ay.bs]) e.symm, fun e => HLT.out.1 E.gw (by simp [Ay.bs]) e.symm⟩)).trans HT8.out;have HX8 : Hid (hat wr gx = some (.cells (IV .i64 cur2) 45)) := sW hx8;clear hx8;by_cases hk32 : k < 32
     ·obtain ⟨p, hpk⟩ := Dx (l := ps) (k := k) (by omega);have hk0 : (0 : Int) <= (k : Int) := Int.natCast_nonneg _;have hk1 : (k : Int) < 32 := by omega
      have hdr := H9 hpk;have hE1 := HE.out;rw [hdr, Ep] at hE1;have HSET : Hid ((pre ++ ps.drop k).set k 0 = (pre ++ [0]) ++ ps.drop (k + 1)) := sW (by rw [hdr]; exact Nv HL.out);have HKEEP : Hid (pre ++ ps.drop k = (pre ++ [p]) ++ ps.drop (k + 1)) := sW (by rw [hdr]; simp);have hcl2 : (pre ++ ps.drop k).length = 32 := by rw [List.length_append, HL.out, List.length_drop, hpl]; omega
      have hck : (pre ++ ps.drop k)[k]? = some p := by rw [List.getElem?_append_right (by rw [HL.out]; exact Nat.le_refl _), HL.out, Nat.sub_self, hdr]; rfl
      have hT := HT.out;obtain ⟨cur, hcur⟩ : ∃ cur, pre ++ ps.drop k = cur := ⟨_, rfl⟩;rw [hcur] at hT hcl2 hck HSET HKEEP;have hnk : nth cur k = p := by unfold nth; rw [hck]; rfl
      have HPL1 : ∀ x : Int, Hid ((pre ++ [x]).length = k + 1) := fun x => sW (by simp [HL.out])
      clear hdr hcur HT HE hpk hck;have hTl := Aa hT;by_cases hp0 : p = 0
      ·rw [if_pos hp0] at hE1;have HE1 := sW hE1;have d1 : (p != 0) = false := by simpa using hp0
       have HT1 : Hid (hat wr gt = some (.cells (IV .i64 ((pre ++ [0]) ++ ps.drop (k + 1))) 89)) := sW (by rw [<- hp0, <- HKEEP.out]; exact hT);clear hE1 hp0;cases b
       all_goals
        go_wp2_with fail;go_roundw
        case rel => exact ⟨k + 1, pre ++ [0], _, s, by go_num, rfl, by omega, HPL1 0, HG, HT1, HF, sW (by rw [HE1.out]; simp)⟩
        case measure => (show 32 - (k + 1) < 32 - k); omega
      ·rw [if_neg hp0] at hE1;have d1 : (p != 0) = true := by simpa using hp0
       have HST : ∀ W, Hid (hat W gt = some (.cells (IV .i64 cur) 89) -> hat (W.setCell ⟨gt, k, none⟩ (.int .i64 0)) gt = some (.cells (IV .i64 ((pre ++ [0]) ++ ps.drop (k + 1))) 89)) := fun W => sW (fun hW => by
        have := Ah W gt k (.int .i64 0) _ _ _ hW;rw [Mu, HSET.out] at this;exact this)
       have HZ0 : Hid (nth ((pre ++ [0]) ++ ps.drop (k + 1)) k = 0 /\ ((pre ++ [0]) ++ ps.drop (k + 1)).length = 32) := sW (by
        rw [<- HSET.out];refine ⟨?_, by simp [hcl2]⟩;unfold nth;rw [List.getElem?_set, if_pos rfl, if_pos (by omega)]; rfl)
       have HGS : ∀ W s', Hid (RG E W o l (LS.S s') (LS.cl s') tk I en -> RG E (W.setCell ⟨gt, k, none⟩ (.int .i64 0)) o l (LS.S s') (LS.cl s') tk I en) := fun W s' => sW (fun hW => hW.fr (Ai W gt k _) (fun b hb => by simpa using HGT.out.1 b hb) (fun q hq => by simpa using HGT.out.2.1 q hq))
       have HZERO : Hid (∀ W s' b', RG E W o l (LS.S s') (LS.cl s') tk I en -> hat W gt = some (.cells (IV .i64 cur) 89) -> Fr [gt, E.gc, E.gw] w8 W -> Av (As E.X E.Y) (D4 E.X E.Y n) 44 32 n 0 ps s2 = (pre ++ (0 :: (Av (As E.X E.Y) (D4 E.X E.Y n) 44 32 n (k + 1) (ps.drop (k + 1)) s').1), b' || (Av (As E.X E.Y) (D4 E.X E.Y n) 44 32 n (k + 1) (ps.drop (k + 1)) s').2.1, (Av (As E.X E.Y) (D4 E.X E.Y n) 44 32 n (k + 1) (ps.drop (k + 1)) s').2.2) ->
         Hid (RG E (W.setCell ⟨gt, k, none⟩ (.int .i64 0)) o l (LS.S s') (LS.cl s') tk I en) /\ Hid (hat (W.setCell ⟨gt, k, none⟩ (.int .i64 0)) gt = some (.cells (IV .i64 ((pre ++ [0]) ++ ps.drop (k + 1))) 89)) /\ Hid (Fr [gt, E.gc, E.gw] w8 (W.setCell ⟨gt, k, none⟩ (.int .i64 0))) /\ Hid (Av (As E.X E.Y) (D4 E.X E.Y n) 44 32 n 0 ps s2 = ((pre ++ [0]) ++ (Av (As E.X E.Y) (D4 E.X E.Y n) 44 32 n (k + 1) (ps.drop (k + 1)) s').1, b' || (Av (As E.X E.Y) (D4 E.X E.Y n) 44 32 n (k + 1) (ps.drop (k + 1)) s').2.1, (Av (As E.X E.Y) (D4 E.X E.Y n) 44 32 n (k + 1) (ps.drop (k + 1)) s').2.2))) := sW (fun W s' b' h1 h2 h3 h4 => ⟨sW ((HGS W s').out h1), sW ((HST W).out h2), sW (h3.trans ((Ai W gt k (.int .i64 0)).mono (ex' := [gt, E.gc, E.gw]) (by simp))), sW (by rw [h4]; simp)⟩)
       clear HSET HST HGS;by_cases hn : (n : Int) <= 44 + 32 * (k : Int)
       ·rw [if_pos hn] at hE1;obtain ⟨HG4, HT4, HF4, HE4⟩ := HZERO.out wr s b HG.out hT HF.out hE1;clear hE1 HKEEP HZERO;go_upto_region 19 with fail;generalize wr.setCell ⟨gt, k, none⟩ (.int .i64 0) = w4 at *;have hT4 := HT4.out;have hT4l := Aa hT4;obtain ⟨hz0, hz1⟩ := HZ0.out;obtain ⟨cur3, hc3⟩ : ∃ c, (pre ++ [0]) ++ ps.drop (k + 1) = c := ⟨_, rfl⟩;rw [hc3] at hT4 hz0 hz1;clear hc3;cases b
        all_goals
         go_wp2_with fail;go_roundw
         case rel => exact ⟨k + 1, pre ++ [0], _, s, by go_num, rfl, by omega, HPL1 0, HG4, HT4, HF4, HE4⟩
         case measure => (show 32 - (k + 1) < 32 - k); omega
       ·rw [if_neg hn] at hE1;have HC1 := sW (Jv hE p s wr HG.out);have HE1 := sW hE1;have HTW := sW hT;have HGTC : Hid (gt ≠ E.gc /\ gt ≠ E.gw) := sW ⟨fun e => HGT.out.1 E.gc (by simp [Ay.bs]) e.symm, fun e => HGT.out.1 E.gw (by simp [Ay.bs]) e.symm⟩;clear hE1;go_wp2_with fail;refine HC1.out.mono ?_; rintro e w3 ⟨rfl, hg3, hf3⟩;have HT3 : Hid (hat w3 gt = some (.cells (IV .i64 cur) 89)) := sW ((hf3.block gt (Aa HTW.out) (by simpa using HGTC.out.1)).trans HTW.out);have hT3 := HT3.out;have HF3 := sW (HF.out.trans (hf3.mono (ex' := [gt, E.gc, E.gw]) (by simp)));have HG3 := sW hg3;have hT3l := Aa hT3;clear hf3 HC1 hT hTl HTW hg3;cases hgd : (As E.X E.Y p s).1 with
        | false =>
         have hE2 := HE1.out;rw [if_pos hgd] at hE2;obtain ⟨HG4, HT4, HF4, HE4⟩ := HZERO.out w3 (As E.X E.Y p s).2 b HG3.out hT3 HF3.out hE2;clear hE2 HKEEP HE1 HZERO HG3 HT3;generalize (As E.X E.Y p s).2 = s3 at *;go_upto_region 19 with fail;generalize w3.setCell ⟨gt, k, none⟩ (.int .i64 0) = w4 at *;have hT4 := HT4.out;have hT4l := Aa hT4;obtain ⟨hz0, hz1⟩ := HZ0.out;obtain ⟨cur3, hc3⟩ : ∃ c, (pre ++ [0]) ++ ps.drop (k + 1) = c := ⟨_, rfl⟩;rw [hc3] at hT4 hz0 hz1;clear hc3 hT3 hT3l;cases b
         all_goals
          go_wp2_with fail;go_roundw
          case rel => exact ⟨k + 1, pre ++ [0], _, s3, by go_num, rfl, by omega, HPL1 0, HG4, HT4, HF4, HE4⟩
          case measure => (show 32 - (k + 1) < 32 - k); omega
        | true =>
         have hE2 := HE1.out;rw [if_neg (by rw [hgd]; simp)] at hE2;have hlt := U4 hE (L3 hgd);obtain ⟨qn, rfl⟩ := Int.eq_ofNat_of_zero_le hlt.1;have hqN : qn < E.N := by omega
         have HC2 := sW (Uf hE qn hqN (44 + 32 * (k : Int)) n (by omega) (by omega) (As E.X E.Y qn s).2 w3 HG3.out);have hkp : D4 E.X E.Y n k (qn : Int) (As E.X E.Y qn s).2 = Cu (Jw E.X E.Y n (44 + 32 * (k : Int))) qn (As E.X E.Y qn s).2 := rfl;rw [hkp] at hE2;generalize Cu (Jw E.X E.Y n (44 + 32 * (k : Int))) qn (As E.X E.Y qn s).2 = R at *;have HE2 := sW hE2;clear hE2 HE1 hkp hlt;go_wp2_with fail;refine HC2.out.mono ?_; rintro e w5 ⟨rfl, hg5, hf5⟩;have HT5 : Hid (hat w5 gt = some (.cells (IV .i64 cur) 89)) := sW ((hf5.block gt (Aa HT3.out) (by simpa using HGTC.out)).trans HT3.out);have HF5 := sW (HF3.out.trans (hf5.mono (ex' := [gt, E.gc, E.gw]) (by simp)));have HG5 := sW hg5;have hT5 := HT5.out;have hT5l := Aa hT5;have hE3 := HE2.out;clear hg5 hf5 HC2 HE2 HT3 hT3 hT3l HG3 HF3;cases hR1 : R.1 with
         | false =>
          rw [if_pos hR1] at hE3;obtain ⟨HG6, HT6, HF6, HE6⟩ := HZERO.out w5 R.2 b HG5.out hT5 HF5.out hE3;clear hE3 HKEEP HZERO HG5 HT5;go_upto_region 19 with fail;generalize w5.setCell ⟨gt, k, none⟩ (.int .i64 0) = w6 at *;have hT6 := HT6.out;have hT6l := Aa hT6;obtain ⟨hz0, hz1⟩ := HZ0.out;obtain ⟨cur3, hc3⟩ : ∃ c, (pre ++ [0]) ++ ps.drop (k + 1) = c := ⟨_, rfl⟩;rw [hc3] at hT6 hz0 hz1;clear hc3 hT5 hT5l;cases b
          all_goals
           go_wp2_with fail;go_roundw
           case rel => exact ⟨k + 1, pre ++ [0], _, R.2, by go_num, rfl, by omega, HPL1 0, HG6, HT6, HF6, HE6⟩
           case measure => (show 32 - (k + 1) < 32 - k); omega
         | true =>
          rw [if_neg (by rw [hR1]; simp)] at hE3;have HE3 := sW hE3;have HT6 : Hid (hat w5 gt = some (.cells (IV .i64 ((pre ++ [(qn : Int)]) ++ ps.drop (k + 1))) 89)) := sW (by rw [<- HKEEP.out]; exact hT5);clear hE3 HKEEP HZERO HT5;cases b
          all_goals
           go_wp2_with fail;go_roundw
           case rel => exact ⟨k + 1, pre ++ [(qn : Int)], true, R.2, by go_num, rfl, by omega, HPL1 qn, HG5, HT6, HF5, sW (by rw [HE3.out]; simp)⟩
           case measure => (show 32 - (k + 1) < 32 - k); omega
     ·obtain rfl : k = 32 := by omega
      have hE1 := HE.out;have hd : ps.drop 32 = [] := List.drop_of_length_le (by omega);rw [hd] at hE1;change _ = (pre ++ [], b || false, s) at hE1;rw [List.append_nil, Bool.or_false] at hE1;have hT := HT.out;rw [hd, List.append_nil] at hT;have hp32 : pre.length = 32 := HL.out;have hTl := Aa hT;have HFW : Hid (Fr [gx, E.gc, E.gw] w wr) := sW (((HF8.out.mono (ex' := [gt, gx, E.gc, E.gw]) (by simp +contextual)).trans (HF.out.mono (ex' := [gt, gx, E.gc, E.gw]) (by simp +contextual))).past (fun k hk => by
       rcases List.mem_cons.1 hk with e | hk
       ·right; rw [e]; exact HWG.out
       ·exact .inl hk))
      have HTP2 := HTP;rw [hE1] at HTP2;have hX8 := HX8.out;have hX8l := Aa hX8;clear hE1 hd HTP HE HT HF HF8;cases b with
      | false =>
       have HC1 := sW (R8 hE pn hpN pre wr HG.out);have hC := HC.out;rw [HTP2.out] at hC;have HC3 : Hid (C = ([0], false, { s with cl := Pw s.cl pn })) := sW hC;clear hC;go_wp2_with fail;refine HC1.out.mono ?_; rintro e w3 ⟨rfl, hg3, hf3⟩;have hX3 : hat w3 gx = some (.cells (IV .i64 cur2) 45) := (hf3.block gx hX8l (by simpa using fun e => HLT.out.1 E.gc (by simp [Ay.bs]) e.symm)).trans hX8;have hX3l := Aa hX3
       have HGG : Hid (RG E (w3.setCell ⟨gx, 17, none⟩ (.int .i64 0)) o l C.2.2.S C.2.2.cl tk I en) := sW (by
        rw [HC3.out];exact hg3.fr (Ai w3 gx 17 (.int .i64 0)) (fun b hb => by simpa using HLT.out.1 b hb) (fun q hq => by simpa using HLT.out.2 q hq))
       have HTT : Hid (hat (w3.setCell ⟨gx, 17, none⟩ (.int .i64 0)) gx = some (.cells (IV .i64 (Ea raw (pre1 ++ C.1) 14)) 45)) := sW (by
        have := Ah w3 gx 17 (.int .i64 0) _ _ _ hX3;rw [Mu, <- HCU.out, bS HR.out HLB.out] at this;rw [HC3.out]; exact this)
       have HFF : Hid (Fr [gx, E.gc, E.gw] w (w3.setCell ⟨gx, 17, none⟩ (.int .i64 0))) := sW ((HFW.out.trans (hf3.mono (ex' := [gx, E.gc, E.gw]) (by simp))).trans ((Ai w3 gx 17 (.int .i64 0)).mono (ex' := [gx, E.gc, E.gw]) (by simp)));clear hg3 hf3 HC1;go_wp2_with fail;go_meet
       case rel => exact ⟨HGG, HTT, HFF⟩
      | true =>
       have HC1 := sW (Pp hE pn hpN pre hp32 wr HG.out);have hC := HC.out;rw [HTP2.out] at hC;have HC3 : Hid (C = ([(pn : Int)], true, { s with S := Bn s.S pn (Du pre).1, fm := Bi s.fm pn })) := sW hC;clear hC;go_wp2_with fail;refine HC1.out.mono ?_; rintro e w3 ⟨rfl, hg3, hf3⟩;have hX3 : hat w3 gx = some (.cells (IV .i64 cur2) 45) := (hf3.block gx hX8l (by simpa using fun e => HLT.out.1 E.gw (by simp [Ay.bs]) e.symm)).trans hX8;have HGG : Hid (RG E w3 o l C.2.2.S C.2.2.cl tk I en) := sW (by rw [HC3.out]; exact hg3)
       have HTT : Hid (hat w3 gx = some (.cells (IV .i64 (Ea raw (pre1 ++ C.1) 14)) 45)) := sW (by
        rw [HC3.out, show ([(pn : Int)] : List Int) = [zOr z pn] by rw [HD.out], HCU.out]; exact hX3)
       have HFF : Hid (Fr [gx, E.gc, E.gw] w w3) := sW (HFW.out.trans (hf3.mono (ex' := [gx, E.gc, E.gw]) (by simp)));clear hg3 hf3 HC1;go_wp2_with fail;go_meet
       case rel => exact ⟨HGG, HTT, HFF⟩
 case rest =>
  obtain ⟨HGc, HTc, HFc⟩ := hcut
  have HLX : Hid (C.1.length = 1) := sW (by
   have hC := HZb.out;unfold N7 at hC;split at hC
   ·rw [hC]; rfl
   ·rw [hC.2]; rfl)
  refine (show ∀ a w, Code.wp _ (tkC 6) _ a w -> _ from by assumption) _ _ (oL hE i n gx hM st (raw.take 4 ++ (pre1 ++ C.1), C.2.2) HR HZ HN HSI HLL w wc HLT HGX HPX HGc (sW ?_) HFc _ _ _ _ _ _ _ _ _ _ _ _ _ _ _ _ _ _ _ _ _ _ _ _ _ _ _ _ _ _ _ _ _ _ _ _ _ _ _ _ _ _ _ _ _ _ _ _ _ _ _ _ _ _ _ _ _ _ _ _ _ _ _ _ _ _ _ _ _ _ _ _ _ _ _ _ _ _ _ _ _ _ _ _ _ _ _ _ _ _ _ _ _ _ _ _ _ _ _ _ _ _ _ _ _ _ _ _ _ _ _ _ _ _ _ _ _ _ _ _ _ _ _ _ _ _ _ _ _ _ _ _ _ _ _ _ _ _ _ _ _ _ _ _ _ _ _ _ _ _ _ _ _ _ _ _ _ _ _ _ _ _ _ _ _ _ _ _ _ _ _ _ _ _ _ _ _ _ _ _ _ _ _ _ _ _ _ _ _ _ _ _ _ _ _ _);have e := HTc.out;unfold Ea at e;rw [List.drop_of_length_le (by rw [HR.out]; omega), List.append_nil] at e;exact e
end
section
variable {E : Ay} {o : Option Nat} {l : List Int} {tk : Int -> Bool} {I : Nat -> List Int} {en : Nat -> Int}
theorem oJ (hE : ROk E) (i n gx : Nat) (hM : i < E.M) {raw : List Int} (st : LS) {A : Nat -> List Int} (HR : Hid (raw.length = 18)) (HZ : Hid (0 <= nth raw 2 /\ nth raw 2 <= 136704)) (HN : Hid (Aw (nth raw 2) = n)) (hn9 : n <= 1068) (HSI : Hid (SI E.X E.Y A (D9 st))) (HLL : Hid (l.length <= 100000)) (w wc : World) (HLT : Hid (Apt E o gx)) (HGX : Hid (w.heap.size <= gx))
  (pre1 : List Int) (s1 : LS) (HLB : Hid (pre1.length = 13)) (HPX : Hid (Bd E.X E.Y n raw (D9 st) = (raw.take 4 ++ (pre1 ++ (Av (As E.X E.Y) (J7 E.X E.Y n) 44 1 n 0 [nth raw 17] s1).1), (Av (As E.X E.Y) (J7 E.X E.Y n) 44 1 n 0 [nth raw 17] s1).2.2)))
  (HG : Hid (RG E wc o l s1.S s1.cl tk I en)) (HT : Hid (hat wc gx = some (.cells (IV .i64 (Ea raw pre1 13)) 45))) (HF : Hid (Fr [gx, E.gc, E.gw] w wc)) (u2 u3 u4 u7 u8 u9 u10 u11 u12 u13 u14 u15 u16 u17 u18 u19 u20 u21 u22 u23 u24 u25 u26 u27 u28 u29 u30 u31 u32 u33 u34 u35 u36 u37 u38 u39 u40 u41 u42 u43 u44 u45 u46 u47 u48 u49 u50 u51 u52 u53 u54 u55 u56 u57 u58 u59 u60 u61 u62 u63 u64 u65 u66 u67 u68 u69 u70 u71 u72 u73 u74 u75 u76 u77 u78 u79 u80 u81 u82 u83 u84 u85 u86 u87 u88 u89 u90 u91 u92 u93 u94 u95 u96 u97 u98 u99 u100 u101 u102 u103 u104 u105 u106 u107 u108 u109 u110 u111 u112 u113 u114 u115 u116 u117 u118 u119 u120 u121 u122 u123 u124 u125 u126 u127 u128 u129 u130 u131 u132 u133 u134 u135 u136 u137 u138 u139 u140 u141 u142 u143 u144 u145 u146 u147 u148 u149 u150 u151 u152 u153 u154 u155 u156 u157 u158 u159 u160 u161 u162 u163 u164 u165 u166 u167 u168 u169 u170 u171 u172 u173 u174 u175 u176 u177 u178 u179 u180 u181 u182 u183 u184 u185 u186 u187 u188 u189 u190 u191 u192 u193 u194 u195 u196 u197 u198 u199 : Value) :
  Code.wp Tryz.prog (tkC 4) (bodyPost Tryz.prog Tryz.f32 (Yf E i raw st o l tk I en w)) ⟨#[.pointer (some ⟨E.g, 0, none⟩), .int .i64 i, u2, u3, u4, .pointer (some ⟨gx, 0, none⟩), .int .i64 n, u7, u8, u9, u10, u11, u12, u13, u14, u15, u16, u17, u18, u19, u20, u21, u22, u23, u24, u25, u26, u27, u28, u29, u30, u31, u32, u33, u34, u35, u36, u37, u38, u39, u40, u41, u42, u43, u44, u45, u46, u47, u48, u49, u50, u51, u52, u53, u54, u55, u56, u57, u58, u59, u60, u61, u62, u63, u64, u65, u66, u67, u68, u69, u70, u71, u72, u73, u74, u75, u76, u77, u78, u79, u80, u81, u82, u83, u84, u85, u86, u87, u88, u89, u90, u91, u92, u93, u94, u95, u96, u97, u98, u99, u100, u101, u102, u103, u104, u105, u106, u107, u108, u109, u110, u111, u112, u113, u114, u115, u116, u117, u118, u119, u120, u121, u122, u123, u124, u125, u126, u127, u128, u129, u130, u131, u132, u133, u134, u135, u136, u137, u138, u139, u140, u141, u142, u143, u144, u145, u146, u147, u148, u149, u150, u151, u152, u153, u154, u155, u156, u157, u158, u159, u160, u161, u162, u163, u164, u165, u166, u167, u168, u169, u170, u171, u172, u173, u174, u175, u176, u177, u178, u179, u180, u181, u182, u183, u184, u185, u186, u187, u188, u189, u190, u191, u192, u193, u194, u195, u196, u197, u198, u199], []⟩ wc := by
 conv => arg 2; whnf
 conv => arg 4; dsimp only
 have HC0 := Xv (As E.X E.Y) (J7 E.X E.Y n) 44 n (nth raw 17) s1;generalize Av (As E.X E.Y) (J7 E.X E.Y n) 44 1 n 0 [nth raw 17] s1 = C at *;have hn17 : nth (Ea raw pre1 13) 17 = nth raw 17 := Ut HR.out HLB.out (by omega);have hcl := Nd HR.out HLB.out (show 13 <= 14 by omega);obtain ⟨q, hq⟩ : ∃ q, nth raw 17 = q := ⟨_, rfl⟩;rw [hq] at hn17 HC0;have HP17 := sW hq;obtain ⟨cur, hcur⟩ : ∃ cur, Ea raw pre1 13 = cur := ⟨_, rfl⟩;rw [hcur] at HT hn17 hcl;have HCU := sW hcur;have hcell : (IV .i64 cur)[17]? = some (.int .i64 q) := by rw [Bh, Am (by omega), hn17]; rfl
 have hT := HT.out;have hTl := Aa hT;obtain ⟨w6, hw6⟩ : ∃ x, x = wc := ⟨_, rfl⟩;subst hw6;clear hq hcur;go_upto_region 9 with fail;go_cut [78] from 14 (fun c wx => ∃ (z : Bool) (s2 : LS), c = .bool z /\ Hid (RG E wx o l s2.S s2.cl tk I en) /\ Hid (hat wx gx = some (.cells (IV .i64 cur) 45)) /\ Hid (Fr [gx, E.gc, E.gw] w wx) /\ Hid (N7 E n q z s2 C))
 case first =>
  by_cases hp0 : q = 0
  ·rw [if_pos hp0] at HC0;have d1 : (q != 0) = false := by simpa using hp0
   have HZZ : Hid (N7 E n q false s1 C) := sW (by unfold N7; rw [if_pos (.inr hp0)]; exact HC0);clear HC0 hp0;go_wp2_with fail;go_meet
   case rel => exact ⟨false, s1, rfl, HG, HT, HF, HZZ⟩
  ·have HQ0 := sW hp0;rw [if_neg hp0] at HC0;have d1 : (q != 0) = true := by simpa using hp0
   by_cases hn : (n : Int) <= 44
   ·rw [if_pos hn] at HC0;have HZZ : Hid (N7 E n q true s1 C) := sW (by unfold N7; rw [if_pos (.inl rfl)]; exact HC0);clear HC0 hp0;go_wp2_with fail;go_meet
    case rel => exact ⟨true, s1, rfl, HG, HT, HF, HZZ⟩
   ·rw [if_neg hn] at HC0;have HC := sW (Jv hE q s1 w6 HG.out);have HTW := sW hT;have HGTC : Hid (gx ≠ E.gc) := sW (fun e => HLT.out.1 E.gc (by simp [Ay.bs]) e.symm);have HC1 := sW HC0;clear hp0 HC0;go_wp2_with fail;refine HC.out.mono ?_; rintro e w7 ⟨rfl, hg7, hf7⟩;have hT7 : hat w7 gx = some (.cells (IV .i64 cur) 45) := (hf7.block gx (Aa HTW.out) (by simpa using HGTC.out)).trans HTW.out;have HF7 := sW (HF.out.trans (hf7.mono (ex' := [gx, E.gc, E.gw]) (by simp)));have HG7 := sW hg7;have HT7 := sW hT7;have hT7l := Aa hT7;clear hf7 HC hT hTl HTW hg7;cases hgd : (As E.X E.Y q s1).1 with
    | false =>
     have hE2 := HC1.out;rw [if_pos hgd] at hE2;have HZZ : Hid (N7 E n q true (As E.X E.Y q s1).2 C) := sW (by unfold N7; rw [if_pos (.inl rfl)]; exact hE2);clear hE2 HC1;go_wp2_with fail;go_meet
     case rel => exact ⟨true, _, rfl, HG7, HT7, HF7, HZZ⟩
    | true =>
     have hE2 := HC1.out;rw [if_neg (by rw [hgd]; simp)] at hE2
     have HZZ : Hid (N7 E n q false (As E.X E.Y q s1).2 C) := sW (by
      unfold N7;rw [if_neg (by simpa using HQ0.out)];refine ⟨L3 hgd, ?_⟩;rw [hE2];have hk4 : J7 E.X E.Y n 0 q (As E.X E.Y q s1).2 = Cu (Ob E.X E.Y n) q.toNat (As E.X E.Y q s1).2 := rfl;rw [hk4];cases (Cu (Ob E.X E.Y n) q.toNat (As E.X E.Y q s1).2).1 <;> rfl)
     clear hE2 HC1;go_wp2_with fail;go_meet
     case rel => exact ⟨false, _, rfl, HG7, HT7, HF7, HZZ⟩
 case rest =>
  obtain ⟨z, s2, hz, HGb, HTb, HFb, HZb⟩ := hcut;subst hz;clear HC0 HG HF HT hT hTl;go_upto_if 78 with fail;go_cut [] from 14 (fun wx => Hid (RG E wx o l s2.S s2.cl tk I en) /\ Hid (hat wx gx = some (.cells (IV .i64 (Ea raw (pre1 ++ [zOr z q]) 14)) 45)) /\ Hid (Fr [gx, E.gc, E.gw] w wx))
  case first =>
   have hT := HTb.out;have hTl := Aa hT;cases z with
   | false =>
    have HT4 : Hid (hat wc gx = some (.cells (IV .i64 (Ea raw (pre1 ++ [zOr false q]) 14)) 45)) := sW (by
     rw [show zOr false q = nth raw (4 + 13) from HP17.out.symm, <- Oa HR.out (by decide), HCU.out]; exact hT)
    go_wp2_with fail;go_meet
    case rel => exact ⟨HGb, HT4, HFb⟩
   | true =>
    have HT4 : Hid (hat (wc.setCell ⟨gx, 17, none⟩ (.int .i64 0)) gx = some (.cells (IV .i64 (Ea raw (pre1 ++ [zOr true q]) 14)) 45)) := sW (by
     have := Ah wc gx 17 (.int .i64 0) _ _ _ hT;rw [Mu, <- HCU.out, show (17 : Nat) = 4 + 13 from rfl, Qn HR.out HLB.out (by decide)] at this;exact this)
    have HG4 := sW (HGb.out.fr (Ai wc gx 17 (.int .i64 0)) (fun b hb => by simpa using HLT.out.1 b hb) (fun q hq => by simpa using HLT.out.2 q hq));have HF4 := sW (HFb.out.trans ((Ai wc gx 17 (.int .i64 0)).mono (ex' := [gx, E.gc, E.gw]) (by simp)));go_wp2_with fail;go_meet
    case rel => exact ⟨HG4, HT4, HF4⟩
  case rest =>
   obtain ⟨HGc, HTc, HFc⟩ := hcut;refine (show ∀ a w, Code.wp _ (tkC 5) _ a w -> _ from by assumption) _ _ (oK hE i n gx hM st HR HZ HN hn9 HSI HLL w wc HLT HGX pre1 z q s2 C HLB HZb HPX HGc HTc HFc _ _ _ _ _ _ _ _ _ _ _ _ _ _ _ _ _ _ _ _ _ _ _ _ _ _ _ _ _ _ _ _ _ _ _ _ _ _ _ _ _ _ _ _ _ _ _ _ _ _ _ _ _ _ _ _ _ _ _ _ _ _ _ _ _ _ _ _ _ _ _ _ _ _ _ _ _ _ _ _ _ _ _ _ _ _ _ _ _ _ _ _ _ _ _ _ _ _ _ _ _ _ _ _ _ _ _ _ _ _ _ _ _ _ _ _ _ _ _ _ _ _ _ _ _ _ _ _ _ _ _ _ _ _ _ _ _ _ _ _ _ _ _ _ _ _ _ _ _ _ _ _ _ _ _ _ _ _ _ _ _ _ _ _ _ _ _ _ _ _ _ _ _ _ _ _ _ _ _ _ _ _ _ _ _ _ _ _ _ _ _ _ _ _ _ _)
end
section
variable {E : Ay} {o : Option Nat} {l : List Int} {tk : Int -> Bool} {I : Nat -> List Int} {en : Nat -> Int}
theorem Si (hE : ROk E) (i : Nat) (hi1 : 1 <= i) (hM : i < E.M) {raw : List Int} (hr : raw.length = 18) (hz0 : 0 <= nth raw 2) (hz1 : nth raw 2 <= 136704) (st : LS) {A : Nat -> List Int} (hSI : SI E.X E.Y A (D9 st)) (hll : l.length <= 100000) (w : World) (h : RG E w o l st.S st.cl tk I en) :
  Calls Tryz.prog 32 #[.pointer (some ⟨E.g, 0, none⟩), .int .i64 i, .agg (IV .i64 raw)] w fun e w' => Yf E i raw st o l tk I en w e w' := by
 have hB1 : Below w.heap.size w (w.alloc (.cells (IV .i64 raw) 45)) := (Below.refl _ _).alloc (Nat.le_refl _) _;have hg1 := (A7 w (.cells (IV .i64 raw) 45)).1;have HG1 := sW (h.below hB1);have HF1 := sW (Ag hB1 []);have HLT : Hid (Apt E o w.heap.size) := sW ⟨fun b hb => by have := h.lts b hb; omega, fun q hq => by have := h.lto q hq; omega⟩;have HWS : Hid (w.heap.size <= w.heap.size) := sW (Nat.le_refl _);have HSI := sW hSI;have HGB : Hid (RG E (w.alloc (.cells (IV .i64 raw) 45)) o l (D9 st).S (D9 st).cl tk I en) := HG1;have HR := sW hr;have HLL := sW hll;have HZ := sW (show 0 <= nth raw 2 /\ nth raw 2 <= 136704 from ⟨hz0, hz1⟩);obtain ⟨n, hn⟩ : ∃ n : Nat, Aw (nth raw 2) = n := ⟨(Aw (nth raw 2)).toNat, by unfold Aw; omega⟩;have hn9 : n <= 1068 := by unfold Aw at hn; omega
 have HCT := sW (fun W => kI raw hr hz0 hz1 W);rw [hn] at HCT;have HN := sW hn;clear h hB1 hSI hn HG1;generalize hst0 : D9 st = st0 at *;have HST := sW hst0;clear hst0;go_enter Tryz.func32, Tryz.ntmps32;go_upto_region 1 with fail;generalize w.alloc (.cells (IV .i64 raw) 45) = w1 at *;have hl1 := Aa hg1;have hraw18 : (IV .i64 raw).size = 18 := by simp [hr]
 go_wp2_with fail;refine (HCT.out _).mono ?_; rintro e w2 ⟨rfl, hb2⟩;have hg2 := (hop hb2 hg1).1;have HG2 := sW (HGB.out.below hb2);have HF2 := sW (HF1.out.trans (Ag hb2 []));clear hb2 hg1 hl1 HGB HF1 HCT hraw18;generalize hgx : w.heap.size = gx at *;have HGX : Hid (w.heap.size <= gx) := sW (by omega);clear hgx HWS;go_wp2_with fail
 go_loopw [7] (fun kv wr => ∃ (k : Nat) (pre : List Int) (s : LS), kv = .int .i64 k /\ k <= 12 /\ Hid (pre.length = k) /\ Hid (RG E wr o l s.S s.cl tk I en) /\ Hid (hat wr gx = some (.cells (IV .i64 (Ea raw pre k)) 45)) /\ Hid (Fr [gx, E.gc] w2 wr) /\
   Hid (∃ b, Av (As E.X E.Y) (Cc 0) 0 1 n 0 ((raw.drop 4).take 12) st0 = (pre ++ (Av (As E.X E.Y) (Cc 0) 0 1 n k (((raw.drop 4).take 12).drop k) s).1, b || (Av (As E.X E.Y) (Cc 0) 0 1 n k (((raw.drop 4).take 12).drop k) s).2.1, (Av (As E.X E.Y) (Cc 0) 0 1 n k (((raw.drop 4).take 12).drop k) s).2.2))) (fun v _ => 12 - (intOf v).toNat)
 case atStart => exact ⟨0, [], st0, rfl, by omega, sW rfl, HG2, sW (by unfold Ea; simpa using hg2), sW (Fr.refl _ _), sW ⟨false, by simp⟩⟩
 case round =>
  obtain ⟨k, pre, s, rfl, hk, HL, HG, HT, HF, HE⟩ := hrel;have hT := HT.out;have hTl := Aa hT;have hk0 : (0 : Int) <= (k : Int) := Int.natCast_nonneg _;by_cases hk12 : k < 12
  ·have hk1 : (k : Int) < 12 := by omega
   obtain ⟨p, hp⟩ : ∃ p, nth raw (4 + k) = p := ⟨_, rfl⟩;have hpk := bW HR.out hk12;rw [hp] at hpk;have hdr := H9 hpk;obtain ⟨bE, hE1⟩ := HE.out;rw [hdr, Ep] at hE1;have HSET := sW (Qn HR.out HL.out (show k < 14 by omega));have hkp := Oa (pre := pre) HR.out (show k < 14 by omega);rw [hp] at hkp;have HKEEP := sW hkp;have hnk : nth (Ea raw pre k) (4 + k) = p := by rw [Ut HR.out HL.out (by omega), hp]
   have hcl := Nd HR.out HL.out (show k <= 14 by omega);have HPL1 : ∀ x : Int, Hid ((pre ++ [x]).length = k + 1) := fun x => sW (by simp [HL.out])
   obtain ⟨cur, hcur⟩ : ∃ cur, Ea raw pre k = cur := ⟨_, rfl⟩;rw [hcur] at hT HSET HKEEP hnk hcl;clear hdr hcur HT HE hkp hpk hp;have hcell : (IV .i64 cur)[4 + k]? = some (.int .i64 p) := by rw [Bh, Am (by omega), hnk]; rfl
   by_cases hp0 : p = 0
   ·rw [if_pos hp0] at hE1;have HE1 := sW hE1;have d1 : (p != 0) = false := by simpa using hp0
    have HT1 : Hid (hat wr gx = some (.cells (IV .i64 (Ea raw (pre ++ [0]) (k + 1))) 45)) := sW (by rw [<- hp0, <- HKEEP.out]; exact hT);clear hE1 hp0;go_wp2_with fail;go_roundw
    case rel => exact ⟨k + 1, pre ++ [0], s, by go_num, by omega, HPL1 0, HG, HT1, HF, sW ⟨bE, by rw [HE1.out]; simp⟩⟩
    case measure => (show 12 - (k + 1) < 12 - k); omega
   ·rw [if_neg hp0] at hE1;have d1 : (p != 0) = true := by simpa using hp0
    have HST2 : ∀ W, Hid (hat W gx = some (.cells (IV .i64 cur) 45) -> hat (W.setCell ⟨gx, 4 + k, none⟩ (.int .i64 0)) gx = some (.cells (IV .i64 (Ea raw (pre ++ [0]) (k + 1))) 45)) := fun W => sW (fun hW => by
     have := Ah W gx (4 + k) (.int .i64 0) _ _ _ hW;rw [Mu, HSET.out] at this;exact this)
    have HGS : ∀ W s', Hid (RG E W o l (LS.S s') (LS.cl s') tk I en -> RG E (W.setCell ⟨gx, 4 + k, none⟩ (.int .i64 0)) o l (LS.S s') (LS.cl s') tk I en) := fun W s' => sW (fun hW => hW.fr (Ai W gx (4 + k) _) (fun b hb => by simpa using HLT.out.1 b hb) (fun q hq => by simpa using HLT.out.2 q hq))
    clear HSET;by_cases hn : (n : Int) <= 0 + 1 * (k : Int)
    ·rw [if_pos hn] at hE1;have HE1 := sW hE1;have hn2 : (n : Int) <= (k : Int) := by omega
     have HT4 := sW ((HST2 wr).out hT);have HG4 := sW ((HGS wr s).out HG.out);have HF4 := sW (HF.out.trans ((Ai wr gx (4 + k) (.int .i64 0)).mono (ex' := [gx, E.gc]) (by simp)));clear hE1 hn HST2 HGS HKEEP;go_wp2_with fail;go_roundw
     case rel => exact ⟨k + 1, pre ++ [0], s, by go_num, by omega, HPL1 0, HG4, HT4, HF4, sW ⟨bE, by rw [HE1.out]; simp⟩⟩
     case measure => (show 12 - (k + 1) < 12 - k); omega
    ·rw [if_neg hn] at hE1;have hn2 : ¬ (n : Int) <= (k : Int) := by omega
     have HC := sW (Jv hE p s wr HG.out);have HE1 := sW hE1;have HTW := sW hT;have HGTC : Hid (gx ≠ E.gc) := sW (fun e => HLT.out.1 E.gc (by simp [Ay.bs]) e.symm);clear hE1 hn;go_wp2_with fail;refine HC.out.mono ?_; rintro e w3 ⟨rfl, hg3, hf3⟩;have hT3 : hat w3 gx = some (.cells (IV .i64 cur) 45) := (hf3.block gx (Aa HTW.out) (by simpa using HGTC.out)).trans HTW.out;have HF3 := sW (HF.out.trans (hf3.mono (ex' := [gx, E.gc]) (by simp)));have hT3l := Aa hT3;clear hf3 HC hT hTl HTW;cases hgd : (As E.X E.Y p s).1 with
     | false =>
      have hE2 := HE1.out;rw [if_pos hgd] at hE2;have HE2 := sW hE2;have HT4 := sW ((HST2 w3).out hT3);have HG4 := sW ((HGS w3 (As E.X E.Y p s).2).out hg3);have HF4 := sW (HF3.out.trans ((Ai w3 gx (4 + k) (.int .i64 0)).mono (ex' := [gx, E.gc]) (by simp)));clear hE2 hg3 HST2 HGS HKEEP HE1;generalize (As E.X E.Y p s).2 = s3 at *;go_wp2_with fail;go_roundw
      case rel => exact ⟨k + 1, pre ++ [0], s3, by go_num, by omega, HPL1 0, HG4, HT4, HF4, sW ⟨bE, by rw [HE2.out]; simp⟩⟩
      case measure => (show 12 - (k + 1) < 12 - k); omega
     | true =>
      have hE2 := HE1.out;rw [if_neg (by rw [hgd]; simp), if_neg (by simp [Cc])] at hE2;have HE2 := sW hE2;have HG3 : Hid (RG E w3 o l (Cc 0 k p (As E.X E.Y p s).2).2.S (Cc 0 k p (As E.X E.Y p s).2).2.cl tk I en) := sW hg3;have HT3 : Hid (hat w3 gx = some (.cells (IV .i64 (Ea raw (pre ++ [p]) (k + 1))) 45)) := sW (by rw [<- HKEEP.out]; exact hT3);clear hE2 hg3 HST2 HGS HKEEP HE1;generalize (Cc 0 k p (As E.X E.Y p s).2).2 = s3 at *;go_wp2_with fail;go_roundw
      case rel => exact ⟨k + 1, pre ++ [p], s3, by go_num, by omega, HPL1 p, HG3, HT3, HF3, sW ⟨true, by rw [HE2.out]; simp⟩⟩
      case measure => (show 12 - (k + 1) < 12 - k); omega
  ·obtain rfl : k = 12 := by omega
   obtain ⟨bE, hE1⟩ := HE.out;have hd : ((raw.drop 4).take 12).drop 12 = [] := List.drop_of_length_le (by simp; omega);rw [hd] at hE1;change _ = (pre ++ [], bE || false, s) at hE1;rw [List.append_nil] at hE1;have HA : Hid (Jw E.X E.Y n 0 ((raw.drop 4).take 12) st0 = (pre, bE || false, s)) := sW hE1;have HF3 : Hid (Fr [gx, E.gc, E.gw] w wr) := sW ((HF2.out.mono (ex' := [gx, E.gc, E.gw]) (by simp)).trans (HF.out.mono (ex' := [gx, E.gc, E.gw]) (by simp)));clear hE1 hd HE hk12 HF;obtain ⟨w3, hw3⟩ : ∃ x, x = wr := ⟨_, rfl⟩;subst hw3;have HB0 := Xv (As E.X E.Y) (Lh E.X E.Y n) 12 n (nth raw 16) s
   have HPX : Hid (Bd E.X E.Y n raw st0 = (raw.take 4 ++ (pre ++ ((Av (As E.X E.Y) (Lh E.X E.Y n) 12 1 n 0 [nth raw 16] s).1 ++ (Av (As E.X E.Y) (J7 E.X E.Y n) 44 1 n 0 [nth raw 17] (Av (As E.X E.Y) (Lh E.X E.Y n) 12 1 n 0 [nth raw 16] s).2.2).1)), (Av (As E.X E.Y) (J7 E.X E.Y n) 44 1 n 0 [nth raw 17] (Av (As E.X E.Y) (Lh E.X E.Y n) 12 1 n 0 [nth raw 16] s).2.2).2.2)) := sW (by
    unfold Bd;simp only [HA.out])
   generalize Av (As E.X E.Y) (Lh E.X E.Y n) 12 1 n 0 [nth raw 16] s = B at *;have HCUR : Hid (Ea raw pre 12 = Ea raw pre 12 /\ pre.length = 12) := sW ⟨rfl, HL.out⟩;have hn16 : nth (Ea raw pre 12) 16 = nth raw 16 := Ut HR.out HL.out (by omega);have hcl := Nd HR.out HL.out (show 12 <= 14 by omega);obtain ⟨p, hp⟩ : ∃ p, nth raw 16 = p := ⟨_, rfl⟩;rw [hp] at hn16 HB0;have HP16 := sW hp;obtain ⟨cur, hcur⟩ : ∃ cur, Ea raw pre 12 = cur := ⟨_, rfl⟩;rw [hcur] at hT hn16 hcl;have HCU := sW hcur;have hcell : (IV .i64 cur)[16]? = some (.int .i64 p) := by rw [Bh, Am (by omega), hn16]; rfl
   clear hp hcur HT;go_upto_region 7 with fail;go_cut [63] from 14 (fun c wx => ∃ z : Bool, c = .bool z /\ Hid (RG E wx o l B.2.2.S B.2.2.cl tk I en) /\ Hid (hat wx gx = some (.cells (IV .i64 cur) 45)) /\ Hid (Fr [gx, E.gc, E.gw] w wx) /\ Hid (B.1 = [zOr z p]))
   case first =>
    by_cases hp0 : p = 0
    ·rw [if_pos hp0] at HB0;have d1 : (p != 0) = false := by simpa using hp0
     have HZZ : Hid (B.1 = [zOr false p]) := sW (by rw [HB0, hp0]; rfl);have HGG : Hid (RG E w3 o l B.2.2.S B.2.2.cl tk I en) := sW (by rw [HB0]; exact HG.out);have HTT := sW hT;clear HB0 hp0;go_wp2_with fail;go_meet
     case rel => exact ⟨false, rfl, HGG, HTT, HF3, HZZ⟩
    ·rw [if_neg hp0] at HB0;have d1 : (p != 0) = true := by simpa using hp0
     by_cases hn : (n : Int) <= 12
     ·rw [if_pos hn] at HB0;have HZZ : Hid (B.1 = [zOr true p]) := sW (by rw [HB0]; rfl);have HGG : Hid (RG E w3 o l B.2.2.S B.2.2.cl tk I en) := sW (by rw [HB0]; exact HG.out);have HTT := sW hT;clear HB0 hp0;go_wp2_with fail;go_meet
      case rel => exact ⟨true, rfl, HGG, HTT, HF3, HZZ⟩
     ·rw [if_neg hn] at HB0;have HC := sW (Jv hE p s w3 HG.out);have HTW := sW hT;have HGTC : Hid (gx ≠ E.gc /\ gx ≠ E.gw) := sW ⟨fun e => HLT.out.1 E.gc (by simp [Ay.bs]) e.symm, fun e => HLT.out.1 E.gw (by simp [Ay.bs]) e.symm⟩;have HB1 := sW HB0;clear hp0 HB0;go_wp2_with fail;refine HC.out.mono ?_; rintro e w4 ⟨rfl, hg4, hf4⟩;have hT4 : hat w4 gx = some (.cells (IV .i64 cur) 45) := (hf4.block gx (Aa HTW.out) (by simpa using HGTC.out.1)).trans HTW.out;have HF4 := sW (HF3.out.trans (hf4.mono (ex' := [gx, E.gc, E.gw]) (by simp)));have HG4 := sW hg4;have HT4 := sW hT4;have hT4l := Aa hT4;clear hf4 HC hT hTl HTW hg4;cases hgd : (As E.X E.Y p s).1 with
      | false =>
       have hE2 := HB1.out;rw [if_pos hgd] at hE2;have HZZ : Hid (B.1 = [zOr true p]) := sW (by rw [hE2]; rfl);have HGG : Hid (RG E w4 o l B.2.2.S B.2.2.cl tk I en) := sW (by rw [hE2]; exact HG4.out);clear hE2 HB1;go_wp2_with fail;go_meet
       case rel => exact ⟨true, rfl, HGG, HT4, HF4, HZZ⟩
      | true =>
       have hE2 := HB1.out;rw [if_neg (by rw [hgd]; simp)] at hE2;have hlt := U4 hE (L3 hgd);obtain ⟨pn, rfl⟩ := Int.eq_ofNat_of_zero_le hlt.1;have hpN : pn < E.N := by omega
       have HC := sW (Uf hE pn hpN 12 n (by decide) (by decide) (As E.X E.Y pn s).2 w4 HG4.out);have hkp : Lh E.X E.Y n 0 (pn : Int) (As E.X E.Y pn s).2 = Cu (Jw E.X E.Y n 12) pn (As E.X E.Y pn s).2 := rfl;rw [hkp] at hE2;generalize Cu (Jw E.X E.Y n 12) pn (As E.X E.Y pn s).2 = R at *;have HE2 := sW hE2;clear hE2 HB1 hkp hlt;go_wp2_with fail;refine HC.out.mono ?_; rintro e w5 ⟨rfl, hg5, hf5⟩;have hE3 := HE2.out;have HT5 : Hid (hat w5 gx = some (.cells (IV .i64 cur) 45)) := sW ((hf5.block gx (Aa HT4.out) (by simpa using HGTC.out)).trans HT4.out);have HF5 := sW (HF4.out.trans (hf5.mono (ex' := [gx, E.gc, E.gw]) (by simp)));cases hR1 : R.1 with
       | false =>
        rw [if_pos hR1] at hE3;have HZZ : Hid (B.1 = [zOr true (pn : Int)]) := sW (by rw [hE3]; rfl);have HGG : Hid (RG E w5 o l B.2.2.S B.2.2.cl tk I en) := sW (by rw [hE3]; exact hg5);clear hE3 hg5 hf5 HE2 HC;go_wp2_with fail;go_meet
        case rel => exact ⟨true, rfl, HGG, HT5, HF5, HZZ⟩
       | true =>
        rw [if_neg (by rw [hR1]; simp)] at hE3;have HZZ : Hid (B.1 = [zOr false (pn : Int)]) := sW (by rw [hE3]; rfl);have HGG : Hid (RG E w5 o l B.2.2.S B.2.2.cl tk I en) := sW (by rw [hE3]; exact hg5);clear hE3 hg5 hf5 HE2 HC;go_wp2_with fail;go_meet
        case rel => exact ⟨false, rfl, HGG, HT5, HF5, HZZ⟩
   case rest =>
    obtain ⟨z, hz, HGb, HTb, HFb, HZb⟩ := hcut;subst hz;clear HB0 HG HF3 hT hTl;go_upto_if 63 with fail;go_cut [] from 14 (fun wx => Hid (RG E wx o l B.2.2.S B.2.2.cl tk I en) /\ Hid (hat wx gx = some (.cells (IV .i64 (Ea raw (pre ++ B.1) 13)) 45)) /\ Hid (Fr [gx, E.gc, E.gw] w wx))
    case first =>
     have hT := HTb.out;have hTl := Aa hT;cases z with
     | false =>
      have HT4 : Hid (hat wc gx = some (.cells (IV .i64 (Ea raw (pre ++ B.1) 13)) 45)) := sW (by
       rw [HZb.out, show zOr false p = nth raw (4 + 12) from HP16.out.symm, <- Oa HR.out (by decide), HCU.out]; exact hT)
      go_wp2_with fail;go_meet
      case rel => exact ⟨HGb, HT4, HFb⟩
     | true =>
      have HT4 : Hid (hat (wc.setCell ⟨gx, 16, none⟩ (.int .i64 0)) gx = some (.cells (IV .i64 (Ea raw (pre ++ B.1) 13)) 45)) := sW (by
       have := Ah wc gx 16 (.int .i64 0) _ _ _ hT;rw [Mu, <- HCU.out, show (16 : Nat) = 4 + 12 from rfl, Qn HR.out HL.out (by decide)] at this;rw [HZb.out]; exact this)
      have HG4 := sW (HGb.out.fr (Ai wc gx 16 (.int .i64 0)) (fun b hb => by simpa using HLT.out.1 b hb) (fun q hq => by simpa using HLT.out.2 q hq));have HF4 := sW (HFb.out.trans ((Ai wc gx 16 (.int .i64 0)).mono (ex' := [gx, E.gc, E.gw]) (by simp)));go_wp2_with fail;go_meet
      case rel => exact ⟨HG4, HT4, HF4⟩
    case rest =>
     obtain ⟨HG, HT, HF⟩ := hcut;have HLB : Hid ((pre ++ B.1).length = 13) := sW (by rw [HZb.out]; simp [HL.out]);have e0 := HST.out;subst e0;refine (show ∀ a w, Code.wp _ (tkC 4) _ a w -> _ from by assumption) _ _ (oJ hE i n gx hM st HR HZ HN hn9 HSI HLL w wc HLT HGX (pre ++ B.1) B.2.2 HLB (sW ?_) HG HT HF _ _ _ _ _ _ _ _ _ _ _ _ _ _ _ _ _ _ _ _ _ _ _ _ _ _ _ _ _ _ _ _ _ _ _ _ _ _ _ _ _ _ _ _ _ _ _ _ _ _ _ _ _ _ _ _ _ _ _ _ _ _ _ _ _ _ _ _ _ _ _ _ _ _ _ _ _ _ _ _ _ _ _ _ _ _ _ _ _ _ _ _ _ _ _ _ _ _ _ _ _ _ _ _ _ _ _ _ _ _ _ _ _ _ _ _ _ _ _ _ _ _ _ _ _ _ _ _ _ _ _ _ _ _ _ _ _ _ _ _ _ _ _ _ _ _ _ _ _ _ _ _ _ _ _ _ _ _ _ _ _ _ _ _ _ _ _ _ _ _ _ _ _ _ _ _ _ _ _ _ _ _ _ _ _ _ _ _ _ _ _ _ _ _ _ _);have := HPX.out;rw [<- List.append_assoc pre] at this;exact this
end
def M4 (ops : Array Oper) : Nat -> Nat -> Nat -> Bool
 | 0, _, _ => false
 | f + 1, i, j => match ops[i]? with | none => false | some o => (Oper.needs o).any fun m => m == j || M4 ops f m j
def Ju (ops : Array Oper) (N : Nat) : Bool :=
 (ops.toList.zipIdx.all fun (o, i) => (Oper.needs o).all (· < i) && (i < N || (List.range i).all fun j => M4 ops ops.size i j)) &&
 N <= ops.size &&
 ((C9 (ops.toList.take N)).Nodup : Bool)
theorem Kd {ops : Array Oper} {L : Array Bool} (hcl : ∀ j oj, ops[j]? = some oj -> L.getD j false = true -> ∀ m ∈ Oper.needs oj, L.getD m false = true) : ∀ (f i : Nat) (o : Oper) (j : Nat), ops[i]? = some o -> (∀ m ∈ Oper.needs o, L.getD m false = true) -> M4 ops f i j = true -> L.getD j false = true
 | 0, _, _, _, _, _, h => by cases h
 | f + 1, i, o, j, ho, hn, h => by
  unfold M4 at h;rw [ho] at h;simp only [List.any_eq_true, Bool.or_eq_true, beq_iff_eq] at h;obtain ⟨m, hm, rfl | h⟩ := h
  ·exact hn m hm
  ·cases hom : ops[m]? with
   | none => cases f <;> simp [M4, hom] at h
   | some om => exact Kd hcl f m om j hom (hcl m om hom (hn m hm)) h
section
variable {P : Program} {ops : Array Oper} {N : Nat} {Q : Exit -> Act -> World -> Prop}
theorem Lq (h : Ju ops N = true) : (∀ i o, ops[i]? = some o -> ∀ j ∈ Oper.needs o, j < i) /\ (∀ i o, ops[i]? = some o -> N <= i -> ∀ j, j < i -> M4 ops ops.size i j = true) /\ N <= ops.size /\ (C9 (ops.toList.take N)).Nodup := by
 unfold Ju at h;simp only [Bool.and_eq_true, List.all_eq_true, decide_eq_true_eq] at h;obtain ⟨⟨h1, h2⟩, h3⟩ := h;have key : ∀ i o, ops[i]? = some o -> (∀ x ∈ Oper.needs o, x < i) /\ (i < N \/ ∀ j < i, M4 ops ops.size i j = true) := by
  intro i o hi;have := h1 (o, i) (by simp [List.mem_zipIdx_iff_getElem?, hi]);simpa using this
 refine ⟨fun i o hi => (key i o hi).1, fun i o hi hN j hj => ?_, h2, h3⟩;rcases (key i o hi).2 with h | h
 ·omega
 ·exact h j hj
theorem Pu (hok : Ju ops N = true) : ∀ (fuel k : Nat) (L : Array Bool) (a : Act) (w : World), N <= k -> k <= ops.size -> ops.size - k <= fuel -> L.size = ops.size ->
  (∀ j, j < ops.size -> L.getD j true = decide (j < k)) -> wpList P ops Q (ops.toList.drop k) a w -> wpAny P .any ops Q fuel L a w := by
 obtain ⟨hb, ht, -, -⟩ := Lq hok;intro fuel;induction fuel with
 | zero =>
  intro k L a w hN hk hf hL hLk h;have : k = ops.size := by omega
  subst this;refine ⟨?_, by rw [List.drop_of_length_le (by simp)] at h; exact h⟩;apply List.eq_nil_iff_forall_not_mem.2
  intro i hi;obtain ⟨o, ho, h1, -⟩ := F7 hL hi;have hlt : i < ops.size := (Array.getElem?_eq_some_iff.1 ho).1;rw [hLk i hlt] at h1;simp at h1; omega
 | succ fuel ih =>
  intro k L a w hN hk hf hL hLk h;refine ⟨?_, ?_⟩
  ·intro hr;by_cases hks : k = ops.size
   ·subst hks; rw [List.drop_of_length_le (by simp)] at h; exact h
   ·exfalso
    have hlt : k < ops.size := by omega
    have : k ∈ Region.ready .any ops L := by
     refine Jt (o := ops[k]) (by simp [hlt]) (by rw [hLk k hlt]; simp) ?_;intro j hj;have hjk := hb k ops[k] (by simp [hlt]) j hj;have := hLk j (by omega);have hjs : j < L.size := by omega
     simp [hjs] at this ⊢;rw [this]; simpa using hjk
    rw [hr] at this; simp at this
  ·intro i hi;obtain ⟨o, ho, h1, h2⟩ := F7 hL hi;have hlt : i < ops.size := (Array.getElem?_eq_some_iff.1 ho).1;have hik : i = k := by
    rw [hLk i hlt] at h1;simp at h1;by_cases hgt : k < i
    ·exfalso
     have hcl : ∀ j oj, ops[j]? = some oj -> L.getD j false = true -> ∀ m ∈ Oper.needs oj, L.getD m false = true := by
      intro j oj hj hjL m hm;have hjs := (Array.getElem?_eq_some_iff.1 hj).1;have h5 := hLk j hjs;have hjs' : j < L.size := by omega
      have hmj := hb j oj hj m hm;have h6 := hLk m (by omega);have hms' : m < L.size := by omega
      simp [hjs'] at h5 hjL;simp [hms'] at h6 ⊢;rw [hjL] at h5;rw [h6];simp at h5 ⊢;omega
     have := Kd hcl _ i o k ho h2 (ht i o ho (by omega) k hgt);have h3 := hLk k (by omega);have hks : k < L.size := by omega
     simp [hks] at this h3;rw [this] at h3; simp at h3
    ·omega
   subst hik;have hd : ops.toList.drop i = o :: ops.toList.drop (i + 1) := by
    rw [List.drop_eq_getElem_cons (by simpa using hlt)];congr 1
    have := (Array.getElem?_eq_some_iff.1 ho).2;simpa using this
   rw [hd] at h;have hnext : ∀ a w, wpList P ops Q (ops.toList.drop (i + 1)) a w -> wpAny P .any ops Q fuel (L.setIfInBounds i true) a w := by
    intro a w h;refine ih (i + 1) _ a w (by omega) (by omega) (by omega) (by simpa using hL) ?_ h;intro j hj;have := hLk j hj;have hjs : j < L.size := by omega
    by_cases hji : j = i
    ·subst hji; simp [hjs]
    ·simp [hjs, Array.getElem_setIfInBounds, Ne.symm hji] at this ⊢;rw [this];simp; omega
   unfold wpOp;simp only [ho];unfold wpList at h;split
   ·rename_i hw
    rw [if_pos hw] at h;exact h.imp (Oper.wp_mono hnext) id
   ·rename_i hw
    rw [if_neg hw] at h;exact hnext _ _ h
theorem O5 {id : Nat} {a : Act} {w : World} (hm : P.follows .mixedOrders = true) (N : Nat) (hok : Ju ops N = true)
  (hsz : (C9 (ops.toList.take N)).all (· < a.tmps.size) = true)
  (I : World -> Prop) (E : World -> World -> Prop) (G : Nat -> Value -> World -> Prop)
  (h0 : I w.drew)
  (hE : ∀ i v w w', i < N -> I w -> I w' -> E w w' -> G i v w -> G i v w')
  (hs : ∀ i o, i < N -> ops[i]? = some o -> ∀ a' w', I w' -> Fv ops N a a' ->
   (∀ j ∈ Oper.needs o, ∀ oj d, ops[j]? = some oj -> oj.dst = some d -> G j (gt a' d) w') ->
   wpOp P ops Q i (fun a'' w'' => ∃ v, a'' = a'.put o.dst v /\ I w'' /\ E w' w'' /\ G i v w'') a' w')
  (he : ∀ a' w', I w' -> Fv ops N a a' -> (∀ j oj d, j < N -> ops[j]? = some oj -> oj.dst = some d -> G j (gt a' d) w') ->
   wpList P ops Q (ops.toList.drop N) a' w') :
  (Code.region id ops true).wp P Q a w := by
 obtain ⟨hb, ht, hNs, hnd⟩ := Lq hok;refine wp_region_any hm ?_
 have key : ∀ (fuel : Nat) (L : Array Bool) (a' : Act) (w' : World), L.size = ops.size -> Fy L <= fuel -> (∀ j, N <= j -> j < ops.size -> L.getD j true = false) ->
   (∀ j oj, ops[j]? = some oj -> L.getD j false = true -> ∀ m ∈ Oper.needs oj, L.getD m false = true) -> I w' -> Fv ops N a a' -> (∀ j oj d, j < N -> L.getD j true = true -> ops[j]? = some oj -> oj.dst = some d -> G j (gt a' d) w') -> wpAny P .any ops Q fuel L a' w' := by
  intro fuel;induction fuel with
  | zero =>
   intro L a' w' hL hf htl hcl hI hS hG;have hall : ∀ j, j < ops.size -> L.getD j true = true := by
    intro j hj;cases hv : L.getD j true with
    | true => rfl
    | false => have := E0 hv; omega
   have hN : N = ops.size := by
    by_cases h : N < ops.size
    ·have := htl N (Nat.le_refl _) h;rw [hall N h] at this; simp at this
    ·omega
   refine Pu hok 0 N L a' w' (Nat.le_refl _) (by omega) (by omega) hL (fun j hj => by rw [hall j hj]; simp; omega) ?_;exact he a' w' hI hS (fun j oj d hj ho hd => hG j oj d hj (hall j (by omega)) ho hd)
  | succ fuel ih =>
   intro L a' w' hL hf htl hcl hI hS hG;by_cases hall : ∀ j, j < N -> L.getD j true = true
   ·refine Pu hok (fuel + 1) N L a' w' (Nat.le_refl _) hNs ?_ hL ?_ (he a' w' hI hS (fun j oj d hj ho hd => hG j oj d hj (hall j hj) ho hd))
    ·
     have : ∀ (n : Nat) (l : List Bool), (∀ j, n <= j -> j < l.length -> l[j]? = some false) -> l.length - n <= l.countP (· == false) := by
      intro n;induction n with
      | zero =>
       intro l;induction l with
       | nil => intro _; simp
       | cons b l ihl =>
        intro h;have h0 := h 0 (Nat.le_refl _) (by simp);simp at h0;subst h0;have := ihl (fun j _ hj => by have := h (j + 1) (by omega) (by simp; omega); simpa using this);simp at this ⊢;omega
      | succ n ihn =>
       intro l;cases l with
       | nil => intro _; simp
       | cons b l =>
        intro h;have := ihn l (fun j hj hjl => by have := h (j + 1) (by omega) (by simp; omega); simpa using this);simp [List.countP_cons] at this ⊢;omega
     have h2 := this N L.toList (fun j hj hjl => by
      have hjs : j < L.size := by simpa using hjl
      have := htl j hj (by omega);simp [hjs] at this ⊢;exact this)
     unfold Fy at hf;simp at h2;simp at hf;omega
    ·intro j hj;by_cases hjN : j < N
     ·rw [hall j hjN]; simp [hjN]
     ·rw [htl j (by omega) hj]; simp [hjN]
   ·refine ⟨?_, ?_⟩
    ·intro hr;exfalso
     have hex : ∃ j, j < N /\ L.getD j true = false := by
      false_or_by_contra
      rename_i hne
      apply hall
      intro j hj;cases hv : L.getD j true with
      | true => rfl
      | false => exact (hne ⟨j, hj, hv⟩).elim
     have least : ∀ n, (∃ j, j < n /\ j < N /\ L.getD j true = false) -> ∃ j, j < N /\ L.getD j true = false /\ ∀ k, k < j -> L.getD k true = true := by
      intro n;induction n with
      | zero => rintro ⟨j, hj, _⟩; omega
      | succ n ihn =>
       rintro ⟨j, hj, hjN, hv⟩;by_cases hlow : ∃ k, k < j /\ L.getD k true = false
       ·obtain ⟨k, hk, hkv⟩ := hlow;exact ihn ⟨k, by omega, by omega, hkv⟩
       ·refine ⟨j, hjN, hv, fun k hk => ?_⟩;cases hkv : L.getD k true with
        | true => rfl
        | false => exact (hlow ⟨k, hk, hkv⟩).elim
     obtain ⟨j0, hj0, hv0⟩ := hex;obtain ⟨j, hjN, hv, hlow⟩ := least (j0 + 1) ⟨j0, by omega, hj0, hv0⟩;have hlt : j < ops.size := by omega
     have : j ∈ Region.ready .any ops L := by
      refine Jt (o := ops[j]) (by simp [hlt]) hv ?_;intro k hk;have hkj := hb j ops[j] (by simp [hlt]) k hk;have h3 := hlow k hkj;have hks : k < L.size := by omega
      simp [hks] at h3 ⊢;exact h3
     rw [hr] at this; simp at this
    ·intro i hi;obtain ⟨o, ho, h1, h2⟩ := F7 hL hi;have hlt : i < ops.size := (Array.getElem?_eq_some_iff.1 ho).1;have hiN : i < N := by
      by_cases h : i < N
      ·exact h
      ·exfalso
       apply hall
       intro j hj;have := Kd hcl _ i o j ho h2 (ht i o ho (by omega) j (by omega));have hjs : j < L.size := by omega
       simp [hjs] at this ⊢;exact this
     refine wpOp_mono ?_ (hs i o hiN ho a' w' hI hS ?_)
     ·rintro a'' w'' ⟨v, rfl, hI', hE', hGi⟩;have hidst : ∀ d, o.dst = some d -> d ∈ C9 (ops.toList.take N) := by
       intro d hd;unfold C9;refine List.mem_filterMap.2 ⟨o, ?_, hd⟩;have hv := (Array.getElem?_eq_some_iff.1 ho).2;rw [List.mem_take_iff_getElem];exact ⟨i, by simp; omega, by simpa using hv⟩
      refine ih _ _ _ (by simpa using hL) (by have := E0 h1; omega) ?_ ?_ hI' ?_ ?_
      ·intro j hj hjs;have := htl j hj hjs;have hjs' : j < L.size := by omega
       simp [hjs', Array.getElem_setIfInBounds, show i ≠ j by omega] at this ⊢;exact this
      ·intro j oj hj hjL m hm;have hms : m < j := hb j oj hj m hm;have hjs := (Array.getElem?_eq_some_iff.1 hj).1;have hms' : m < L.size := by omega
       have hjs' : j < L.size := by omega
       have hmL : L.getD m false = true := by
        by_cases hji : j = i
        ·subst hji;rw [ho] at hj; cases hj;exact h2 m hm
        ·refine hcl j oj hj ?_ m hm;simp [hjs', Array.getElem_setIfInBounds, Ne.symm hji] at hjL ⊢;exact hjL
       simp [hms', Array.getElem_setIfInBounds] at hmL ⊢;exact .inr hmL
      ·refine ⟨by rw [Jx]; exact hS.size, by rw [If]; exact hS.defers, ?_⟩;intro t ht';rw [Fh]
       ·exact hS.other t ht'
       ·intro e; exact ht' (hidst t e)
      ·intro j oj d hj hjL hoj hd;by_cases hji : j = i
       ·subst hji;rw [ho] at hoj;have hoe : o = oj := by simpa using hoj
        subst hoe;rw [hd, Jo _ _ _ (by rw [hS.size]; simpa using (List.all_eq_true.1 hsz) d (hidst d hd))];exact hGi
       ·have hjs' : j < L.size := by omega
        have hjL' : L.getD j true = true := by
         simp [hjs', Array.getElem_setIfInBounds, Ne.symm hji] at hjL ⊢;exact hjL
        have hg := hG j oj d hj hjL' hoj hd;rw [Fh]
        ·exact hE j _ _ _ hj hI hI' hE' hg
        ·intro e;have hne : ∀ (l : List Oper), (C9 l).Nodup -> ∀ (i j : Nat) (oi oj : Oper) (d : Nat), l[i]? = some oi -> l[j]? = some oj -> oi.dst = some d -> oj.dst = some d -> i = j := by
          intro l;induction l with
          | nil => intro _ i j oi oj d hi; simp at hi
          | cons x l ihl =>
           intro hnd i j oi oj d hi hj hdi hdj;have hnd' : (C9 l).Nodup := by
            unfold C9 at hnd ⊢;rw [List.filterMap_cons] at hnd;split at hnd
            ·exact hnd
            ·exact (List.nodup_cons.1 hnd).2
           have hx : ∀ (j : Nat) (oj : Oper), l[j]? = some oj -> oj.dst = some d -> x.dst ≠ some d := by
            intro j oj hj hdj hxd;unfold C9 at hnd;rw [List.filterMap_cons, hxd] at hnd;have := (List.nodup_cons.1 hnd).1;apply this
            exact List.mem_filterMap.2 ⟨oj, List.mem_of_getElem? hj, hdj⟩
           cases i with
           | zero =>
            simp at hi;subst hi;cases j with
            | zero => rfl
            | succ j => simp at hj; exact (hx j oj hj hdj hdi).elim
           | succ i =>
            simp at hi;cases j with
            | zero => simp at hj; subst hj; exact (hx i oi hi hdi hdj).elim
            | succ j => simp at hj; rw [ihl hnd' i j oi oj d hi hj hdi hdj]
         have := hne (ops.toList.take N) hnd i j o oj d (by simp [List.getElem?_take, hiN, ho]) (by simp [List.getElem?_take, hj, hoj]) e hd;exact hji this.symm
     ·intro j hj oj d hoj hd;have hjL := h2 j hj;have hji := hb i o ho j hj;have hjs : j < L.size := by omega
      exact hG j oj d (by omega) (by simp [hjs] at hjL ⊢; exact hjL) hoj hd
 refine key ops.size (Array.replicate ops.size false) a { w with drawn := w.drawn + 1 } (by simp) ?_ ?_ ?_ h0 ⟨rfl, rfl, fun _ _ => rfl⟩ ?_
 ·have := List.countP_le_length (p := (· == false)) (l := (Array.replicate ops.size false).toList);unfold Fy; simpa using this
 ·intro j _ hj; simp [hj]
 ·intro j oj hj hjL;have hjs := (Array.getElem?_eq_some_iff.1 hj).1;simp [hjs] at hjL
 ·intro j oj d hj hjL;simp [show j < ops.size by omega] at hjL
theorem Kl {id : Nat} {a : Act} {w : World} (hm : P.follows .mixedOrders = true) (N : Nat) (hok : Ju ops N = true)
  (hsz : (C9 (ops.toList.take N)).all (· < a.tmps.size) = true)
  (I : World -> Prop) (E : World -> World -> Prop) (G : Nat -> Value -> World -> Prop)
  (h0 : I w.drew)
  (hE : ∀ i v w w', i < N -> I w -> I w' -> E w w' -> G i v w -> G i v w')
  (hs : ∀ i o, i < N -> ops[i]? = some o -> ∀ a' w', I w' -> (∀ t, t ∉ C9 (ops.toList.take N) -> gt a' t = gt a t) ->
   (∀ j ∈ Oper.needs o, ∀ oj d, ops[j]? = some oj -> oj.dst = some d -> G j (gt a' d) w') ->
   wpOp P ops Q i (fun a'' w'' => ∃ v, a'' = a'.put o.dst v /\ I w'' /\ E w' w'' /\ G i v w'') a' w')
  (he : ∀ val w', I w' -> (∀ j oj d, j < N -> ops[j]? = some oj -> oj.dst = some d -> G j (val j) w') ->
   wpList P ops Q (ops.toList.drop N) (Bg (ops.toList.take N) 0 val a) w') :
  (Code.region id ops true).wp P Q a w := by
 refine O5 hm N hok hsz I E G h0 hE (fun i o hi ho a' w' hI hS hF => hs i o hi ho a' w' hI hS.other hF) ?_;intro a' w' hI hS hF;let val : Nat -> Value := fun j => match ops[j]? with | some oj => (match oj.dst with | some d => gt a' d | none => undef) | none => undef
 have hval : ∀ j oj d, ops[j]? = some oj -> oj.dst = some d -> val j = gt a' d := by
  intro j oj d hj hd;simp only [val, hj, hd]
 have hw := he val w' hI (fun j oj d hj ho hd => by rw [hval j oj d ho hd]; exact hF j oj d hj ho hd);have hae : a' = Bg (ops.toList.take N) 0 val a := by
  refine P7 (by rw [I6]; exact hS.size) (by rw [Gy]; exact hS.defers) (fun t ht => ?_);rw [L8 (ops.toList.take N) 0 val a a' t (by rw [<- hS.size]; exact ht) (fun j oj d hj hd => by
   rw [Nat.zero_add];refine hval j oj d ?_ hd;rw [List.getElem?_take] at hj;split at hj
   ·simpa using hj
   ·simp at hj)]
  split
  ·rfl
  ·rename_i h; exact hS.other t h
 rw [hae];exact hw
end
abbrev Pt := Int × Int × Int
def ptC (l : List Pt) : List Value := l.flatMap fun x => [.int .i64 x.1, .int .i64 x.2.1, .int .i64 x.2.2]
def K0 (w : World) (base : Nat) (v : Value) (l : List Pt) : Prop := w.ownsRow base 52 3 v l.length (ptC l)
theorem K0.nil (w : World) (base : Nat) : K0 w base (.slice none 0 0) [] := ⟨rfl, .inl ⟨rfl, rfl⟩⟩
theorem K0.below {w w' : World} {base : Nat} {v : Value} {l : List Pt} (h : K0 w base v l) (hb : Below w.heap.size w w') : K0 w' base v l := Jh h hb
theorem K0.base {w : World} {b b' : Nat} {v : Value} {l : List Pt} (h : K0 w b v l) (hb : b' <= b) : K0 w b' v l := Np h hb
theorem K0.cell {w : World} {base : Nat} {v : Value} {l : List Pt} (h : K0 w base v l) (a : Nat) (i : Nat) (x : Value) (ha : a < base) : K0 (w.setCell ⟨a, i, none⟩ x) base v l := RowKit.ownsRow_setCell_below h (a := ⟨a, i, none⟩) ha x
theorem K0.sl {w : World} {base : Nat} {v : Value} {l : List Pt} (h : K0 w base v l) : ∃ a c, v = .slice a l.length c := by
 obtain ⟨-, ⟨rfl, hn⟩ | ⟨g, cap, cur, h1, -⟩⟩ := h
 ·exact ⟨none, 0, by rw [hn]⟩
 ·exact ⟨_, _, h1⟩
theorem K0.at {w : World} {base : Nat} {v : Value} {l : List Pt} (h : K0 w base v l) (hl : l ≠ []) : ∃ g c cs, v = .slice (some ⟨g, 0, none⟩) l.length c /\ base <= g /\ hat w g = some (.cells cs 52) /\ ∀ (j : Nat) (u : Value), (ptC l)[j]? = some u -> cs[j]? = some u := by
 obtain ⟨-, ⟨rfl, hn⟩ | ⟨g, cap, cur, h1, h2, h3, h4, h5, h6, h7⟩⟩ := h
 ·exact absurd (List.length_eq_zero_iff.1 hn) hl
 ·refine ⟨g, cap, cur, h1, h2, h3, fun j u hj => ?_⟩;rw [<- h7, List.getElem?_take] at hj;split at hj
  ·simpa using hj
  ·cases hj
def iT (at' : Int) (ps : List Int) : List Pt := ps.zipIdx.map fun x => (at', (x.2 : Int), x.1)
theorem Mv.congr {w : World} {g N : Nat} {f f' : Nat -> Int} (h : Mv w g N f) (he : ∀ j, j < N -> f' j = f j) : Mv w g N f' := by
 obtain ⟨cs, h1, h2, h3⟩ := h;exact ⟨cs, h1, h2, fun j hj => by rw [he j hj]; exact h3 j hj⟩
structure Lo (ex : List Nat) (B : Nat) (w w' : World) : Prop where
 os : w'.os = w.os
 tape : w'.tape = w.tape
 output : w'.output = w.output
 size : w.heap.size <= w'.heap.size
 block : ∀ b, b < B -> b ∉ ex -> hat w' b = hat w b
theorem Lo.refl (ex : List Nat) (B : Nat) (w : World) : Lo ex B w w := ⟨rfl, rfl, rfl, Nat.le_refl _, fun _ _ _ => rfl⟩
theorem Lo.trans {ex : List Nat} {B : Nat} {a b c : World} (h : Lo ex B a b) (k : Lo ex B b c) : Lo ex B a c := ⟨k.os.trans h.os, k.tape.trans h.tape, k.output.trans h.output, Nat.le_trans h.size k.size, fun i hi hn => (k.block i hi hn).trans (h.block i hi hn)⟩
theorem Lo.of {ex : List Nat} {B : Nat} {w w' : World} (h : Below B w w') : Lo ex B w w' := ⟨h.os, h.tape, h.output, h.size, fun b hb _ => h.block b hb⟩
theorem Lo.fr {ex : List Nat} {B : Nat} {w w' : World} (h : Fr ex w w') (hB : B <= w.heap.size) : Lo ex B w w' := ⟨h.os, h.tape, h.output, h.size, fun b hb hn => h.block b (by omega) hn⟩
theorem Lo.to {ex : List Nat} {B : Nat} {w w' : World} (h : Lo ex B w w') (hB : w.heap.size <= B) : Fr ex w w' := ⟨h.os, h.tape, h.output, h.size, fun b hb hn => h.block b (by omega) hn⟩
theorem Lo.mono {ex : List Nat} {B B' : Nat} {w w' : World} (h : Lo ex B w w') (hB : B' <= B) : Lo ex B' w w' := ⟨h.os, h.tape, h.output, h.size, fun b hb hn => h.block b (by omega) hn⟩
end Go.Proofs.YthioepdgnbdohaaGreat
