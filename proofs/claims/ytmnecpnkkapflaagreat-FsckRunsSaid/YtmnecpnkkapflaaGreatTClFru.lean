/- The statement Rows.FsckRunsSaid is proved: for every two pictures and every list of numbers: Run does what the document's Run does, by as many writes, with two disks in turns, and the reports are the caller's; no conditions. -/
import Derived.SizedLaws
import Derived.Lib.SmallJoins
import Derived.JoinedOf
import Derived.JoinedAt
import Derived.Test.YtmnecpnkkapflaaGreatM04
import Derived.Test.YtmnecpnkkapflaaGreatM20
import Derived.Test.YtmnecpnkkapflaaGreatM21
namespace Go.Proofs.YtmnecpnkkapflaaGreat
set_option linter.unusedSimpArgs false
set_option linter.unusedVariables false
open Go.ChangeShapes Go.WideShapes Go.ChangeAt Go.RowKit

theorem Ws:ownKnob Tryz.prog.godebug=none:=by kernel_rfl
theorem Ur:laidOutB Tryz.prog=true:=by kernel_rfl

set_option maxRecDepth 100000 in
theorem Q3(os:Os)(started:os.Started)(H:Type)(enc:TypeId×Value->H):
    ReturnsInHanded {} Tryz.checked os 8 .any (Rows.fsckRunsSpec.pre6 enc Tryz.prog Tryz.f8 Rows.fsckRunsRow.domain false) (Rows.fsckRunsSpec.post enc Tryz.prog Tryz.f8 false true false false):=by
  refine returnsInHanded_of_change_sized (C:=Tryz.checked) Ws started (by kernel_rfl) Tryz.func8
    (ChangeSpec.witness6 (enc:=enc) (C:=Tryz.checked) false ⟨#[],#[.agg #[.int .i64 0,.slice none 0 0],.agg #[.int .i64 0,.slice none 0 0],.slice none 0 0],[]⟩ 8 (by kernel_rfl) (by kernel_rfl) (by kernel_rfl) (by kernel_rfl)) ?_
  intro W base args ds gs before hval0 hW hcnd hsz0 _;have hval:∀ (j:Nat) t v,Tryz.f8.params[j]? =some t->args[j]? =some v->Value.okWide Tryz.prog W .any base t v:=hval0;have hW':=hW;obtain⟨p,q,hA0,hV,rfl,hfz,hnd⟩:=hW;have hA:DataW.TrodAll enc Tryz.prog W 0 (fun _=>true) true Tryz.f8.params.toList args.toList ds p:=hA0;rw[Tryz.params8]at hA hval;obtain⟨v0,v1,v2,d0,d1,d2,p0,p1,p2,rfl,rfl,rfl,h0,h1,h2⟩:=trodAll_three hA;obtain⟨rfl,rfl⟩:=trodVars_none hV;have q0:=hval 0 25 v0 rfl rfl;obtain⟨sec0,sp0,hP0⟩:=mK q0 h0;have q1:=hval 1 25 v1 rfl rfl;obtain⟨sec1,sp1,hP1⟩:=mK q1 h1;have q2:=hval 2 32 v2 rfl rfl;obtain⟨l2,hL2⟩:=qN q2 h2;have hB2:=bD h2 hL2 hsz0 (j:=2) rfl rfl;simp only[List.append_nil]at hW';refine(Wr hP0 hP1 hL2 hB2).mono fun e W' ⟨he,hg⟩=>⟨_,he,?_⟩
  exact mL (T:=4) Ur hW' rfl rfl rfl rfl (by kernel_rfl) (by kernel_rfl) Tryz.underlying4 hg

theorem fsckRuns_holds:Rows.FsckRunsSaid:=
  OpenClaim.holds_of_wide 8 Tryz.f8 rfl rfl rfl rfl rfl rfl rfl ⟨rfl,rfl,rfl,rfl,rfl⟩ rfl rfl rfl rfl rfl (by kernel_rfl) Tryz.func8 (by kernel_rfl)
    (of_decide_eq_true (by kernel_rfl)) (by unfold Func.isWrapper;rw[if_neg (of_decide_eq_false (by kernel_rfl))];exact⟨rfl,rfl⟩)
    (fun os started H enc _=>Q3 os started H enc)

#print axioms fsckRuns_holds
end Go.Proofs.YtmnecpnkkapflaaGreat
