/- Lemmas. -/
import Derived.Test.YtfchpchabdhcgaaGreatDec32
import Derived.Test.YtfchpchabdhcgaaGreatDec42
set_option linter.unusedVariables false
set_option linter.unusedSimpArgs false
set_option maxHeartbeats 64000000
set_option maxRecDepth 100000
namespace Go.Proofs.YtfchpchabdhcgaaGreat.imageDecodesLaw
open Go.ChangeShapes Go.WideShapes Go.ChangeAt Go.RowKit
theorem contract (HDec:DecSays) (H:Type) (enc:TypeId × Value→H) (W:World) (base:Nat) (args:Array Value) (ds gs:List (DataW H)) (before:List MemPlace)
  (hval:∀ (j:Nat) t v,Tryz.f3.params[j]? =some t→args[j]? =some v→Value.okWide Tryz.prog W .any base t v)
  (hW:DataW.Whole enc Tryz.prog Tryz.f3.params.toList Rows.imageDecodesSpec.vars false W args.toList ds gs before) (hsz:(DataW.weightsEach Tryz.prog (Tryz.f3.params.toList++Rows.imageDecodesSpec.plain.varTypes Tryz.prog) (ds++gs)).all (·≤reachBytes)=true):
  Calls Tryz.prog 3 args W fun e W'=>∃ v,e=.returned v∧Rows.imageDecodesSpec.post enc Tryz.prog Tryz.f3 false true false false W args v W':=by
 have hW':=hW
 obtain⟨p,q,hA0,hV,rfl,hfz,hnd⟩:=hW
 have hA:DataW.TrodAll enc Tryz.prog W 0 (fun _=>true) true Tryz.f3.params.toList args.toList ds p:=hA0
 rw [Tryz.params3]at hA hval hsz
 obtain⟨v0,d0,rfl,rfl,h0⟩:=trodAll_one hA
 obtain⟨rfl,rfl⟩:=trodVars_none hV
 have hwt0:∀ k∈DataW.weights Tryz.prog 22 d0,k≤reachBytes:=fun k hk=>of_decide_eq_true (List.all_eq_true.1 hsz k (by exact List.mem_append_left _ hk))
 obtain⟨a0,n0,c0,rfl⟩:=okWide_slice Tryz.underlying22 (hval 0 22 v0 rfl rfl)
 obtain⟨f0,h0'⟩:=id h0
 obtain⟨l0,hl0,hlenw0⟩:=open_bytesW h0'
 have hlen0:l0.length≤140737488351232:=by
  rcases Nat.eq_zero_or_pos l0.length with h0 | h0
  ·omega
  ·obtain⟨k,hk,hk2⟩:=hlenw0 h0
   have h3:=hwt0 k hk
   rw [show Tryz.prog.bytesOf 5=1 by kernel_rfl]at hk2
   unfold reachBytes at h3
   omega
 clear hA0
 simp only [List.append_nil,List.nil_append]at hW' hfz
 have hlt0:∀ x∈p,x.block<W.heap.size:=fun x hx=>hW'.lt x (by simp [hx])
 refine(decodes_of HDec W _ l0 hl0 (by omega)).mono fun e W' ⟨he,hbl⟩=> ?_
 subst he
 exact⟨_,rfl,⟨_,_,_,[],p,[],hW',trodAll_mk1 (shut_bool Tryz.underlying4 _),
  trodAll_mk1 (Below.trod laidOut (by kernel_rfl) (of_decide_eq_true (by kernel_rfl)) h0 hbl hlt0),rfl,hbl.frame _,fun h=>by cases h⟩⟩
theorem lifted (HDec:DecSays) (os:Os) (started:os.Started) (H:Type) (enc:TypeId × Value→H):
  ReturnsInHanded {} Tryz.checked os 3 .any (Rows.imageDecodesSpec.pre6 enc Tryz.prog Tryz.f3 Rows.imageDecodesRow.domain false) (Rows.imageDecodesSpec.post enc Tryz.prog Tryz.f3 false true false false):=by
 refine returnsInHanded_of_change_sized (C:=Tryz.checked) own started (by kernel_rfl) Tryz.func3
  (ChangeSpec.witness6 (enc:=enc) (C:=Tryz.checked) false ⟨#[],#[.slice none 0 0],[]⟩ 12 (by kernel_rfl) (by kernel_rfl) (by kernel_rfl) (by kernel_rfl)) ?_
 intro W base args ds gs before hval hW _ hsz _
 exact contract HDec H enc W base args ds gs before hval hW hsz
theorem over (HDec:DecSays):Rows.ImageDecodesSaid:=
 OpenClaim.holds_of_wide 3 Tryz.f3 rfl rfl rfl rfl rfl rfl rfl ⟨rfl,rfl,rfl,rfl,rfl⟩ rfl rfl rfl rfl rfl (by kernel_rfl) Tryz.func3 (by kernel_rfl)
  (of_decide_eq_true (by kernel_rfl)) (by unfold Func.isWrapper;first | (rw [if_pos (by decide +kernel)];kernel_rfl) | (rw [if_neg (by decide +kernel)];exact⟨rfl,rfl⟩))
  (fun os started H enc _=>lifted HDec os started H enc)
end Go.Proofs.YtfchpchabdhcgaaGreat.imageDecodesLaw
