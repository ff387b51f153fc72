/- Lemmas. -/
import Derived.Test.YtpomdoliblilfaaBld18
import Derived.Test.YtpomdoliblilfaaMby9
namespace Go.Proofs.Ytpomdoliblilfaa.builderMaysLaw
set_option linter.unusedVariables false
set_option linter.unusedSimpArgs false
open Go.ChangeShapes Go.WideShapes Go.ChangeAt Go.RowKit
set_option maxRecDepth 100000 in
theorem contract (H:Type) (enc:TypeId × Value→H) (W:World) (base:Nat) (args:Array Value) (ds gs:List (DataW H)) (before:List MemPlace)
  (hval:∀ (j:Nat) t v,Try.f3.params[j]? =some t→args[j]? =some v→Value.okWide Try.prog W .any base t v)
  (hW:DataW.Whole enc Try.prog Try.f3.params.toList Rows.builderMaysSpec.vars false W args.toList ds gs before) (hsz:(DataW.weightsEach Try.prog (Try.f3.params.toList++Rows.builderMaysSpec.plain.varTypes Try.prog) (ds++gs)).all (·≤reachBytes)=true):
  Calls Try.prog 3 args W fun e W'=>∃ v,e=.returned v∧Rows.builderMaysSpec.post enc Try.prog Try.f3 false true false false W args v W':=by
 have hW':=hW
 obtain⟨p,q,hA0,hV,rfl,hfz,hnd⟩:=hW
 have hA:DataW.TrodAll enc Try.prog W 0 (fun _=>true) true Try.f3.params.toList args.toList ds p:=hA0
 rw [Try.params3]at hA hval hsz
 obtain⟨v0,d0,rfl,rfl,h0⟩:=trodAll_one hA
 obtain⟨rfl,rfl⟩:=trodVars_none hV
 have hwt0:∀ k∈DataW.weights Try.prog 28 d0,k≤reachBytes:=fun k hk=>of_decide_eq_true (List.all_eq_true.1 hsz k (by exact List.mem_append_left _ hk))
 obtain⟨sv,sp,rfl,hm,hrun,hneed,hvers,hwords⟩:=open_spec (hval 0 28 v0 rfl rfl) h0 hwt0
 clear hA0
 simp only [List.append_nil,List.nil_append]at hW' hfz
 have hlt0:∀ x∈p,x.block<W.heap.size:=fun x hx=>hW'.lt x (by simp [hx])
 refine(bmaysLaw_any W sv sp hm ⟨hrun,hneed,hvers⟩).mono fun e W' ⟨he,hbl⟩=> ?_
 subst he
 exact⟨_,rfl,⟨_,_,_,[],p,[],hW',trodAll_mk1 (shut_bool Try.underlying4 _),
  trodAll_mk1 (Below.trod laidOut (by kernel_rfl) (of_decide_eq_true (by kernel_rfl)) h0 hbl hlt0),rfl,hbl.frame _,fun h=>by cases h⟩⟩
set_option maxRecDepth 100000 in
theorem lifted (os:Os) (started:os.Started) (H:Type) (enc:TypeId × Value→H):
  ReturnsInHanded {} Try.checked os 3 .any (Rows.builderMaysSpec.pre6 enc Try.prog Try.f3 Rows.builderMaysRow.domain false) (Rows.builderMaysSpec.post enc Try.prog Try.f3 false true false false):=by
 refine returnsInHanded_of_change_sized (C:=Try.checked) own started (by kernel_rfl) Try.func3
  (ChangeSpec.witness6 (enc:=enc) (C:=Try.checked) false ⟨#[],#[.agg #[.string ⟨#[]⟩,.int .i64 0,.slice none 0 0,.slice none 0 0,.slice none 0 0,.slice none 0 0,.slice none 0 0,.slice none 0 0,.slice none 0 0]],[]⟩ 12 (by kernel_rfl) (by kernel_rfl) (by kernel_rfl) (by kernel_rfl)) ?_
 intro W base args ds gs before hval hW _ hsz _
 exact contract H enc W base args ds gs before hval hW hsz
theorem over:Rows.BuilderMaysSaid:=
 OpenClaim.holds_of_wide 3 Try.f3 rfl rfl rfl rfl rfl rfl rfl ⟨rfl,rfl,rfl,rfl,rfl⟩ rfl rfl rfl rfl rfl (by kernel_rfl) Try.func3 (by kernel_rfl)
  (of_decide_eq_true (by kernel_rfl)) (by unfold Func.isWrapper;first | (rw [if_pos (by decide +kernel)];kernel_rfl) | (rw [if_neg (by decide +kernel)];exact⟨rfl,rfl⟩))
  (fun os started H enc _=>lifted os started H enc)
end Go.Proofs.Ytpomdoliblilfaa.builderMaysLaw
