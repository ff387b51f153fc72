/- Lemmas. -/
import Derived.Test.YtpomdoliblilfaaBld40
import Derived.Deep.DeepCutAuto
namespace Go.Proofs.Ytpomdoliblilfaa
set_option linter.unusedVariables false
set_option linter.unusedSimpArgs false
open Go.RowKit
theorem image_eq (s:SpecL) (im:ImgL) (him:im={imgNone with name:=s.name,flags:=s.flags,runPath:=s.runPath,tlsSize:=(layL s (checkL s)).tls,needed:=s.needed,init:=(initQ s).2,fini:=(finiQ s).2,tls:=wordsL (blockT s.vars),segs:=segsT s,relocs:=relsQ s,slots:=slotsT (layL s (checkL s)) 0 (placedQ s).jumps }):{im with syms:=(placedQ s).syms,buckets:=bucketsT (placedQ s).syms (countT (seenIx (placedQ s).syms).length),words:=filterT (placedQ s).syms,shift:=6 }=imageL s (layL s (checkL s)) (initQ s).2 (finiQ s).2 (instsQ s).1 (instsQ s).2:=by
 have h1:=(insts_plan s).1
 have h2:relsL s (layL s (checkL s)) (placedQ s)=(placedQ s,relsQ s):=by unfold relsQ;rw [rels_eq _ (placed_vars s)]
 subst him
 unfold imageL segsT segC segD dataT
 rw [h1]
 simp only [h2]
set_option maxHeartbeats 4000000 in
theorem build_any (w:World) (sv:SpecV) (s:SpecL) (hS:SpecM (·<w.heap.size) w sv s) (hfew:FewL s):Calls Try.prog 10 #[.agg (specCells sv s).toArray] w (BuildPost w s):=by
 refine calls_of_wp (c:=bRest Try.f10 0) Try.func10 (by kernel_rfl) ?_
 refine bt1 (w:=w) (sv:=sv) (s:=s) ⟨by kernel_rfl,rfl,by kernel_rfl,trivial⟩ hS hfew ?_
 intro a1 w1 own1 v1 hF1 hChk
 refine bt2 hF1 hChk hfew ?_
 intro a2 w2 fv vv L0 lb ib rv hF2 hC2
 refine bt3 hF2 hC2 hfew ?_
 intro a3 w3 nv hF3 hC3
 refine bt4 hF3 hC3 hfew ⟨rfl,rfl⟩ ?_
 intro a4 w4 i1 f1 hF4 hC4
 refine bt5 hF4 hC4 hfew (by have:=hChk.lens;omega) hChk.fault ?_
 intro hso a5 w5 hF5 hC5
 refine bt6 hF5 hC5 hfew hso ?_
 intro hal a6 w6 v6 tx N1 hF6 hC6 hV hT hN hN2
 refine bt7 hF6 hC6 hfew hT hN hN2 rfl ?_
 intro a7 w7 u hF7 hC7 hz7 hU
 refine bt8 hF7 hC7 hfew rfl ?_
 intro a8 w8 d tv Bd hF8 hD hB8
 have hl:=hC7.h0
 have hs8:Step (fun b=>b<w7.heap.size∧b≠ib) w7 w8:=hD.step.imp (fun b hb=>⟨by omega,hb.2⟩)
 have hzB:=hD.hB
 have hC8:=hC7.go (iv':={{nilV with runPath:=rv,needed:=nv,init:=i1,fini:=f1 }with tls:=tv }) (im':={imgNone with name:=s.name,flags:=s.flags,runPath:=s.runPath,tlsSize:=(layL s (checkL s)).tls,needed:=s.needed,init:=(initQ s).2,fini:=(finiQ s).2,tls:=wordsL (blockT s.vars)}) (A':=fun b=>(lb<b∧b<N1∧b≠ib)∨(Bd≤b∧b<w8.heap.size)) hs8 hD.ix { (hC7.imgStep hs8).imp (fun b hb=>Or.inl hb)with tls:=(OwnK.lb hD.tt).imp (S':=fun b=>(lb<b∧b<N1∧b≠ib)∨(Bd≤b∧b<w8.heap.size)) (fun b hb=>Or.inr ⟨Nat.le_of_not_lt hb.2,hb.1⟩)} (fun b hb=>by
  rcases hb with hb | hb
  ·exact⟨hb.1,by omega,hb.2.2⟩
  ·exact⟨by omega,hb.2,by omega⟩)
 refine bt9 (ivx:={{nilV with runPath:=rv,needed:=nv,init:=i1,fini:=f1 }with tls:=tv }) hF8 hC8 hfew hD.dd (hU.step hD.step (fun b h1 h2=>⟨by omega,fun e=>h2 (by omega)⟩)) hN (by omega) (fun g hg hA=>by
  have:=hU.lt g hg
  rcases hA with hA | hA<;>omega) hV ?_
 intro a9 w9 u9 hF9 hC9
 refine bt10 hF9 hC9 hfew hso.check rfl ?_
 intro a10 w10 rv10 hF10 hC10
 refine bt11 hF10 hC10 hfew rfl ?_
 intro a11 w11 o11 hF11 hC11
 exact bt12 hF11 hC11 hso hal ⟨rfl,rfl,rfl⟩ (image_eq s _ rfl)
end Go.Proofs.Ytpomdoliblilfaa
