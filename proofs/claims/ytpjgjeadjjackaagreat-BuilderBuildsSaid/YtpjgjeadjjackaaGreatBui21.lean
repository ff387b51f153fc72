/- BuilderBuilds, no condition: for every such input the law returns true, and its arguments read behind the call as they did. -/
import Derived.Test.YtpjgjeadjjackaaGreatBui20
set_option linter.unusedVariables false
set_option linter.unusedSimpArgs false
set_option maxHeartbeats 64000000
set_option maxRecDepth 100000
namespace Go.Proofs.YtpjgjeadjjackaaGreat
open Go.RowKit Go.ChangeShapes Go.WideShapes Go.ChangeAt
open Go.Proofs.Tryz renaming prog->asq
namespace Ao
theorem contract (H:Type) (enc:TypeId × Value->H) (W:World) (base:Nat) (args:Array Value) (ds gs:List (DataW H)) (before:List MemPlace)
  (hval:∀(j:Nat) t v,Tryz.f3.params[j]? =some t->args[j]? =some v->Value.okWide asq W .any base t v)
  (hW:DataW.Whole enc asq Tryz.f3.params.toList Rows.builderBuildsSpec.vars false W args.toList ds gs before) (hsz:(DataW.weightsEach asq (Tryz.f3.params.toList++Rows.builderBuildsSpec.plain.varTypes asq) (ds++gs)).all (·<=reachBytes)=true):
  Calls asq 3 args W fun e W'=>∃v,e=.returned v/\Rows.builderBuildsSpec.post enc asq Tryz.f3 false true false false W args v W':=by
 have hW':=hW;obtain⟨p,q,hA0,hV,rfl,hfz,hnd⟩:=hW;have hA:DataW.TrodAll enc asq W 0 (fun _=>true) true Tryz.f3.params.toList args.toList ds p:=hA0;rw[Tryz.params3]at hA hval hsz;obtain⟨v0,d0,rfl,rfl,h0⟩:=trodAll_one hA;obtain⟨rfl,rfl⟩:=trodVars_none hV;have ap9:∀k∈DataW.weights asq 28 d0,k<=reachBytes:=fun k hk=>of_decide_eq_true (List.all_eq_true.1 hsz k (by exact List.mem_append_left _ hk))
 obtain⟨sv,sp,rfl,hm,hrun,anU,anV,PV⟩:=ahx (hval 0 28 v0 rfl rfl) h0 ap9;clear hA0;simp only[List.append_nil,List.nil_append]at hW' hfz;have wJ:∀x∈p,x.block<W:=fun x hx=>hW'.lt x (by simp[hx])
 refine(acy W sv sp hm ⟨hrun,anU,anV⟩).mono fun e W' ⟨he,hbl⟩=> ?_
 subst he
 exact⟨_,rfl,⟨_,_,_,[],p,[],hW',trodAll_mk1 (shut_bool Tryz.underlying4 _),
  trodAll_mk1 (Below.trod laidOut TA (of_decide_eq_true TA) h0 hbl wJ),rfl,hbl.frame _,fun h=>by cases h⟩⟩
theorem lifted (os:Os) (started:os.Started) (H:Type) (enc:TypeId × Value->H):
  ReturnsInHanded {} Tryz.checked os 3 .any (Rows.builderBuildsSpec.pre6 enc asq Tryz.f3 Rows.builderBuildsRow.domain false) (Rows.builderBuildsSpec.post enc asq Tryz.f3 false true false false):=by
 refine returnsInHanded_of_change_sized (C:=Tryz.checked) own started TA Tryz.func3
  (ChangeSpec.witness6 (enc:=enc) (C:=Tryz.checked) false ⟨#[],#[.agg #[aK,ah 0,au,au,au,au,au,au,au]],[]⟩ 12 TA TA TA TA) ?_
 intro W base args ds gs before hval hW _ hsz _;exact contract H enc W base args ds gs before hval hW hsz
theorem over:Rows.BuilderBuildsSaid:=
 OpenClaim.holds_of_wide 3 Tryz.f3 rfl rfl rfl rfl rfl rfl rfl ⟨rfl,rfl,rfl,rfl,rfl⟩ rfl rfl rfl rfl rfl TA Tryz.func3 TA
  (of_decide_eq_true TA) (by unfold Func.isWrapper;first | (rw[if_pos (by decide +kernel)];kernel_rfl) | (rw[if_neg (by decide +kernel)];exact⟨rfl,rfl⟩))
  (fun os started H enc _=>lifted os started H enc)
theorem proved:Rows.BuilderBuildsSaid:=over
end Ao
end Go.Proofs.YtpjgjeadjjackaaGreat
