/- Lemmas. -/
import Derived.Test.YtpjgjeadjjackaaGreatBui12
import Derived.Test.YtpjgjeadjjackaaGreatBui17
import Derived.Test.YtpjgjeadjjackaaGreatBui9
import Derived.Deep.DeepCutAuto
import Derived.IntWalk
set_option linter.unusedVariables false
set_option linter.unusedSimpArgs false
set_option maxHeartbeats 64000000
set_option maxRecDepth 100000
namespace Go.Proofs.YtpjgjeadjjackaaGreat
open Go.RowKit
open _root_.Array renaming getElem?_eq_some_iff->ah1
open Go renaming wpAny_of_held->P8,heap_alloc_new->ah2,wpAnyH_done->E5,heap_alloc_old->dX
open Go.IntWalk renaming i64_in->iJ
open Go.World renaming block_lt_of_cell?->fD
open _root_.List renaming getElem?_eq_getElem->gP,getElem?_eq_some_iff->Sm,mem_of_getElem?->dH,take_of_length_le->dh,length_append->Kk,take_add_one->Qc,getElem?_set->OY,length_take->og,not_mem_nil->nW,length_map->BR,mem_cons->Y1,getElem?_map->vW,append_assoc->Sq,length_nil->aR
open _root_.Nat renaming le_trans->eG,zero_le->alg,zero_add->bE,le_refl->oD
variable {s:aM}{p:aA}
theorem YM {i:Nat} (hi:i<s.vars.length) (hll:s.ar5.length<=2000) (iM:p.ar7.length<=2000) (hnc:p.cells.length<=4000) (hwd:(s.vars.flatMap (·.ar8)).length<=2000):0<=(aN s p).vars.getD i 0/\(aN s p).vars.getD i 0<=2000000:=by
 have hg:=rJ (p:=p) hll iM;have hP:(aN s p).bW=(aN s p).got+8*(p.cells.length:Int):=rfl;rw[Yf (gP hi)];have h1:=xL (s.vars.take i);have h2:=Ac s.vars i
 split<;>omega
theorem ajG {u:Int} (h:0<=u/\u<=3):(qN u=2/\nQ u=3)∨(qN u=5/\nQ u=4)∨(qN u=3/\nQ u=5)∨(qN u=4/\nQ u=0):=by
 rcases (by omega:u=0∨u=1∨u=2∨u=3)with rfl | rfl | rfl | rfl<;>simp[qN,nQ]
theorem abC {ar1:List (List UInt8)} {at_:Int} {r:gH} (h:Sy p r):kG ar1 p at_ r=⟨at_+8*r.asl,0,oM r.arT r.aG p.av,r.add⟩:=by
 obtain⟨i,hi⟩:=h;unfold kG;rw[fw hi,oN hi]
theorem acs {B pb:Nat} {w:World} {sv:bN} {v:bG} (hM:gM B pb w sv s v (aC s)) (hB:B<=w) (hck:(aC s).asj=0) (hll:s.ar5.length<=2000) (hwd:(s.vars.flatMap (·.ar8)).length<=2000) (hrf:(s.vars.flatMap (·.ash)).length<=2000) (hfn:s.ar2.length<=2000) (Dz:s.vars.length<=2000) (hns:(aC s).av.length<=1000000):
  Calls Tryz.prog 29 #[aQ pb] w (Ab 122 mi w (kU s)):=by
 obtain⟨iM,hnc⟩:=zi s;replace iM:(aC s).ar7.length<=2000:=wP;replace hnc:(aC s).cells.length<=4000:=wP;have Az:=aj (fun (w':World) (hb:Below w w w')=>Iq (hM.below hB hb) (eG hB hb.size) hll iM hnc);have HVr:=aj (fun (w':World) (hb:Below w w w') (i:Nat) (hi:i<s.vars.length)=>aaL i hi (hM.below hB hb) (eG hB hb.size) hll iM hnc hwd);have pg:=aj (fun (w':World) (hb:Below w w w') (arT aG:List UInt8)=>wH arT aG (hM.below hB hb) (eG hB hb.size) hns);have HVg:=aj (fun i (hi:i<s.vars.length)=>YM hi hll iM hnc hwd);have hgr:=rJ (p:=aC s) hll iM;obtain⟨ca,cb,co,cc,hcf,hcm,_,Br⟩:=hM.cells.lb.at;have Bt:=aj Br;have hca:=Br.addr;obtain⟨va,vb,vo,vc,hvf,xQ,_,kI⟩:=hM.spec.vars.at;have yw:=aj kI;have hva:=kI.addr;obtain⟨fa,fc,lZ⟩:=hM.spec.ar2.form;have c4:=hM.c4;have c5:=hM.c5;have c10:=hM.c10;rw[lZ]at c4;rw[hvf]at c5;rw[hcf]at c10;rw[BR]at c10 hcm hca;have hpl:=hM.lt;have apS:=aj hM.uses;have HCk:=aj (MW hck);have Yo:=aj (uE s).vars;have HR0:Hid (kU s=iO (aN s (aC s)).got 0 (aC s).cells++gV s.ar1 (aC s) s.ar2.length (aN s (aC s)).vars 0 s.vars):=aj rfl;have lN:=aj (fun (c:Int × Int) (l:List (Int × Int))=>Ev (aN s (aC s)).got c l 0);have HVs:=aj (fun (x:dx) (l:List dx)=>Gp s.ar1 (aC s) s.ar2.length (aN s (aC s)).vars x l 0);have Ij:=aj (fun (l:List (Int × Int))=>BU (aN s (aC s)).got l 0);have HVl:=aj (fun (l:List dx)=>Jm s.ar1 (aC s) s.ar2.length (aN s (aC s)).vars l 0);have QY:=aj (fun k=>zZ s.vars k);have apT:=aj (fun (k:Nat) (x:dx) (h:s.vars[k]? =some x)=>Qd h);obtain ⟨nc,Es⟩:=aiG ((aC s).cells.length);obtain ⟨nf,hnf⟩:=aiG s.ar2.length;obtain ⟨nv,sQ⟩:=aiG s.vars.length;have EF:=aj Es;have zo:=aj sQ;rw[<-Es]at c10 hcm hca hnc;rw[<-hnf]at c4 hfn HR0 HVs HVl;rw[<-sQ]at c5 xQ hva Dz HVr HVg;obtain ⟨gt,hgt⟩:=aiG ((aN s (aC s)).got);obtain ⟨vs,hvs⟩:=aiG ((aN s (aC s)).vars);rw[<-hgt]at Az hgr HR0 lN Ij;rw[<-hvs]at HVr HVg HR0 HVs HVl;have ug:Hid (∀wr,Below w w wr->wr.cell? (ak pb 4)=some (.slice fa nf fc)):=aj (fun wr hb=>(hb.cell (p:=(ak pb 4)) hpl).trans c4);have DT:Hid (∀wr,Below w w wr->wr.cell? (ak pb 5)=some (.slice va nv vc)):=aj (fun wr hb=>(hb.cell (p:=(ak pb 5)) hpl).trans c5);have amM:Hid (∀wr,Below w w wr->wr.cell? (ak pb 10)=some (.slice ca nc cc)):=aj (fun wr hb=>(hb.cell (p:=(ak pb 10)) hpl).trans c10);have Hcb:Hid (0<nc->cb<w):=aj (fun h=>(Br.mG (by rw[BR,<-Es];exact h)).1);clear hM hcf Br hvf kI lZ c4 c5 c10 Es hnf sQ hgt hvs iM hck hns;go_enter Tryz.func29,Tryz.ntmps29;go_upto_block 0 with fail
 go_cut [3] (fun o wx=>eX 122 mi w.heap.size w wx o (iO gt 0 (aC s).cells))
 case first=>
  go_wp2_with fail;go_loopw [3,4] (fun o i wr=>∃k:Nat,i=ah k/\k<=nc/\eX 122 mi w.heap.size w wr o (iO gt 0 ((aC s).cells.take k))) (fun _ i _=>nc-(intOf i).toNat);exact⟨0,rfl,alg _,eX.start _ _ _⟩;rename World=>w1
  obtain⟨k,rfl,hk,ho⟩:=hrel;obtain⟨oa,oc,rfl⟩:=ho.own.form;have HO:=aj ho;have c10:=amM.af w1 ho.below;by_cases hlt:k<nc
  ·obtain rfl:=hca wP
   obtain⟨c,hc⟩:∃c,(aC s).cells[k]? =some c:=⟨_,gP (by rw[<-EF.af];exact hlt)⟩;have hc':((aC s).cells.map oL)[k]? =some (oL c):=by rw[vW,hc];rfl
   obtain⟨e1,e2⟩:=Bt.af.SA k (oL c) hc';have hcb:=Hcb.af wP;replace e1:=(ho.below.cell (p:=(ak cb (co+k*2))) hcb).trans e1;replace e2:=(ho.below.cell (p:=(ak cb (co+k*2+1))) hcb).trans e2;rw[show (oL c).1=qN c.1 from rfl]at e1;rw[show (oL c).2=c.2 from rfl]at e2;have hku:=ajG (apS.af c (dH hc));have hkn:(k:Int)<(nc:Int):=wP;have hts:(aC s).cells.take (k+1)=(aC s).cells.take k++[c]:=by rw[Qc,hc];rfl
   have hkl:((aC s).cells.take k).length=k:=by rw[og,<-EF.af];omega
   have hsn:=lN.af c ((aC s).cells.take k);rw[hkl,bE,<-hts]at hsn;have hol:=Ij.af ((aC s).cells.take k);rw[hkl]at hol;have yx:=aj hsn;obtain ⟨O,hO⟩:=aiG (iO gt 0 ((aC s).cells.take k));rw[<-hO]at HO yx hol ⊢;obtain ⟨ol,Al⟩:=aiG O.length;have sj:=aj Al;rw[<-Al]at HO hol ⊢;have hob:ol<=20000:=wP;obtain ⟨kd,hkd⟩:=aiG (nQ c.1);obtain ⟨uk,huk⟩:=aiG (qN c.1);obtain ⟨sy,hsy⟩:=aiG c.2;rw[<-hkd]at hku yx;rw[<-huk]at hku e1;rw[<-hsy]at e2 yx;have Hku:=aj hku;clear ho hc hc' hts hkl hsn hO Al hol hkd huk hsy hku;go_upto_block 2 with fail
   go_cut [5]from 9 to 49 (fun q wx=>q=ah kd/\wx=w1)
   case first=>
    clear HO yx e2;rcases Hku.af with ⟨rfl,rfl⟩ | ⟨rfl,rfl⟩ | ⟨rfl,rfl⟩ | ⟨rfl,rfl⟩
    all_goals (go_wp2_with fail;go_meet;exact⟨rfl,rfl⟩)
   case rest=>
   obtain⟨rfl,rfl⟩:=hcut;rename World=>w1
   clear e1;have o1:IntKind.i64.wrap (8*(k:Int))=8*(k:Int):=iJ _ wP;have o2:IntKind.i64.wrap (gt+8*(k:Int))=gt+8*(k:Int):=iJ _ wP;go_upto_region 13 with fail
   refine bA 18 TA TA ?_;simp only[ji];refine P8 (S:=fun w':World=>w'.cell? (ak pb 10)=some (.slice (some ⟨cb,co,none⟩) nc cc)/\w'.cell? (ak cb (co+k*2+1))=some (ah sy)) _ _ _ _ ?_;have ay:(fun w':World=>w'.cell? (ak pb 10)=some (.slice (some ⟨cb,co,none⟩) nc cc)/\w'.cell? (ak cb (co+k*2+1))=some (ah sy)) (World.drew w1):=⟨c10,e2⟩;refine asr ?_;have I6:=aj (HO.af.drew);generalize (World.drew w1)=wd at *;refine arO [0,1,3,4,6,7,8,9,10,11,12,13,14] ay ?_;simp only[ast]
   iterate 13 (refine arP ?_;try simp only[bP])
   refine cO 2 fun K hK=> ?_
   go_simp;refine(Az.af wd I6.af.below).mono ?_;rintro e Rk ⟨rfl,iI⟩;have HO1:=aj (I6.af.dW iI);refine hK.af _ _ ⟨iq iI ay.1,iq iI ay.2⟩ (fun ay=> ?_);clear hK K;try simp only[bV]
   clear iI;refine arO [5,15] ay ?_;simp only[ast]
   iterate 2 (refine arP ?_;try simp only[bP])
   refine cO 16 fun K hK=> ?_
   go_simp;have NN:=aj (ah2 Rk (aB #[ah (gt+8*(k:Int)),ah kd,ah sy,ah 0] 122));have xZ:=aj (HO1.af.alloc (aB #[ah (gt+8*(k:Int)),ah kd,ah sy,ah 0] 122));have zn:=xZ.af.hB;refine hK.af _ _ ⟨dB ay.1,dB ay.2⟩ (fun ay=> ?_);clear hK K;try simp only[bV]
   generalize GQ:Rk.alloc (aB #[ah (gt+8*(k:Int)),ah kd,ah sy,ah 0] 122)=wn at *;clear GQ
   have wI:Hid (∀u∈([.int .i64 (gt+8*(k:Int)),.int .i64 kd,.int .i64 sy,.int .i64 0]:List Value),u.oneCell'=true):=aj (by
    intro u hu;simp only[Y1,nW,or_false]at hu;rcases hu with rfl | rfl | rfl | rfl<;>rfl)
   refine cO 17 fun K hK=> ?_
   rw[if_pos (by rfl)];simp only[rz];refine lV (K:=mi) (v:=.slice oa ol oc) (e:=122) (B:=w.heap.size) (E:=fun _=>False) 39 (.agg #[ah 0,ah 0,ah 0,ah 0]) 32 Tryz.underlying39 CJ rfl abD (.tmp 32) (.tmp 48) rfl ol sj.af.symm rfl xZ.af.own (fun b hb=>hb.elim) Rk.heap.size ⟨gt+8*(k:Int),kd,sy,0⟩ [ah (gt+8*(k:Int)),ah kd,ah sy,ah 0] rfl (aD NN.af) wI.af rfl (by have:=sj.af;omega) (by have:=sj.af;omega) zn ?_;rintro g7 c7 w7 fG hs7 uf wK;have kT:=aj (xZ.af.append wM fG hs7);refine hK.af _ _ ⟨(hs7.cell (p:=(ak pb 10)) ⟨fD _ _ ay.1,fun e=>(by have h1:=(xZ.af.own.lt pb e).1;have h2:=hpl;omega)⟩).trans ay.1,(hs7.cell (p:=(ak cb (co+k*2+1))) ⟨fD _ _ ay.2,fun e=>(by have h1:=(xZ.af.own.lt cb e).1;have h2:=hcb;omega)⟩).trans ay.2⟩ (fun ay=> ?_);clear hK K fG hs7;try simp only[bV]
   refine E5 TA ?_ _;simp only[dU];clear ay;go_wp2;go_roundw;exact⟨k+1,arH,wP,by rw[yx.af];exact kT.af⟩;simp[intOf];omega
  ·have HE:Hid (eX 122 mi w.heap.size w w1 (.slice oa (iO gt 0 ((aC s).cells.take k)).length oc) (iO gt 0 (aC s).cells)):=aj (by
    have h:=ho;have e:(aC s).cells.take k=(aC s).cells:=dh (by have:=EF.af;omega);rw[e]at h ⊢;exact h)
   generalize (iO gt 0 ((aC s).cells.take k)).length=zl at *;clear ho;go_wp2_with fail;go_meet;exact HE.af
 case rest=>
 have HO:=aj hcut;rename World=>w1
 clear hcut amM lN Bt;have hCl:=Ij.af (aC s).cells;obtain ⟨C0,hC0⟩:=aiG (iO gt 0 (aC s).cells);rw[<-hC0]at HO HR0 hCl;have arv:C0.length<=4000:=by have:=EF.af;omega
 clear hC0 hCl Ij;go_wp2_with fail;go_loopw [3,6] (fun o i wr=>∃k:Nat,i=ah k/\k<=nv/\eX 122 mi w.heap.size w wr o (C0++gV s.ar1 (aC s) nf vs 0 (s.vars.take k))) (fun _ i _=>nv-(intOf i).toNat);exact⟨0,rfl,alg _,by simpa [gV] using HO.af⟩;rename World=>w2
 obtain⟨k,rfl,hk,ho⟩:=hrel;obtain⟨oa,oc,rfl⟩:=ho.own.form;have HO:=aj ho;have c5:=DT.af w2 ho.below;by_cases hlt:k<nv
 ·obtain rfl:=hva wP
  obtain⟨x,hx⟩:∃x,s.vars[k]? =some x:=⟨_,gP (by rw[<-zo.af];exact hlt)⟩;obtain⟨wv,rv,hwv,kD,hso,g0,g1,g2,g3,g4,g5,g6,g7,g8,g9,g10,g11⟩:=yw.af.rZ (ho.below.mono hB) k x hx;obtain⟨wa,wc,rfl⟩:=hwv.form;obtain⟨ra,rb,ro,rc,rfl,hrm,_,j3⟩:=kD.at;have qh:=aj j3;have hra:=j3.addr;have Hrb:Hid (0<x.ash.length->rb<B):=aj (fun h=>j3.mG h);have hkn:(k:Int)<(nv:Int):=wP;have hts:s.vars.take (k+1)=s.vars.take k++[x]:=by rw[Qc,hx];rfl
  have hkl:(s.vars.take k).length=k:=by rw[og,<-zo.af];omega
  have Wm:=HVs.af x (s.vars.take k);rw[hkl,bE,<-hts]at Wm;have hvl:=HVl.af (s.vars.take k);have htr:=QY.af k;have hrx:=apT.af k x hx;have hxm:=dH hx;have JZ:=aj (HCk.af x hxm);have XH:=aj (Yo.af x hxm);have HVk:=aj (fun w' hb=>HVr.af w' hb k hlt);have hvg:=HVg.af k hlt;obtain ⟨at_,hat⟩:=aiG (vs.getD k 0);rw[<-hat]at Wm HVk hvg;obtain ⟨O1,hO1⟩:=aiG (C0++gV s.ar1 (aC s) nf vs 0 (s.vars.take k))
  have amN:C0++gV s.ar1 (aC s) nf vs 0 (s.vars.take (k+1))=O1++jX at_ ((nf+k:Nat):Int) x++x.ash.map (kG s.ar1 (aC s) at_):=by
   rw[Wm,hO1];unfold DV;simp only[Sq]
  have Cq:=aj amN;have amO:O1.length<=10000:=by rw[hO1,Kk];rw[hkl]at hvl;omega
  rw[<-hO1]at HO ⊢;obtain ⟨ol,Al⟩:=aiG O1.length;have sj:=aj Al;rw[<-Al]at HO amO ⊢;obtain ⟨wn,hwn⟩:=aiG x.ar8.length;obtain ⟨rn,hrn⟩:=aiG x.ash.length;have Ou:=aj hrn;have xq:=aj hwn;have hwx:wn<=2000:=by rw[hwn];exact eG (IZ hxm) hwd
  rw[<-hwn]at g9 JZ;rw[<-hrn]at g10 hrm hra Hrb hrx;have FA:=aj (ah2 w2 (aB arZ 71));have FT:=aj (setRow_heap _ w2.heap.size _ ((arU x wa wn wc ra rn rc)) _ _ FA.af);have hb3:Below w2 w2 ((w2.alloc (aB arZ 71)).setRow w2.heap.size ((arU x wa wn wc ra rn rc))):=((Step.of_below ((Below.refl _ w2).alloc (oD _) (aB arZ 71))).trans ((show Step (fun c=>c≠w2.heap.size) (w2.alloc (aB arZ 71)) ((w2.alloc (aB arZ 71)).setRow w2.heap.size ((arU x wa wn wc ra rn rc)))from⟨rfl,rfl,rfl,arG,fun c hc=>setRow_other _ _ _ _ hc⟩).imp (fun c h=>by have h:c<w2:=h;show c≠_;omega))).below;have oo:=aj (HO.af.dW hb3);have Nl:Hid (∀b,(Value.slice oa ol oc).ownBlock=some b->b≠w2.heap.size):=aj (fun b hb=>by have:=(HO.af.own.lt b hb).2;omega);clear ho hx hwv kD j3 hso hts hkl Wm hvl htr hxm hat hO1 amN Al hwn hrn hb3;go_upto_region 18 with (refine wpList_store_row rfl 71 (.tmp 7) (.tmp 67) rfl w2.heap.size (#[ax x.sym.arT,ax x.sym.asc,.bool x.sym.old,.int .i64 x.sym.ar3,.bool x.sym.ar1,.int .i64 x.sym.bq,.bool x.sym.asg,.int .i64 x.sym.value,.int .i64 x.sym.size,.slice wa wn wc,.slice ra rn rc,.bool x.copied]) rfl rfl _ _ FA.af TA rfl (by simp[Value.oneCell']) ?_)
  simp only[Act.put];clear g0 g1 g2 g3 g4 g5 g6 g7 g8 g9 g10 g11 FA HO c5;generalize (w2.alloc (aB arZ 71)).setRow w2.heap.size ((arU x wa wn wc ra rn rc))=w3 at *;generalize w2.heap.size=xb at *;have qj:w3.cell? (ak xb 11)=some (.bool x.copied):=aL FT.af rfl;go_upto_if 69 with fail
  go_cut [3]from 50 to 126 (fun o wx=>eX 122 mi w.heap.size w wx o (O1++jX at_ ((nf+k:Nat):Int) x)/\wx.heap[xb]? =some (.cells ((arU x wa wn wc ra rn rc)) 71 (0,0))/\∀b,o.ownBlock=some b->b≠xb)
  case first=>
   have HO:=oo
   cases hcp:x.copied with
   | false=>
    rw[hcp]at qj;have HC:Hid (O1++jX at_ ((nf+k:Nat):Int) x=O1):=aj (by unfold jX;rw[hcp];simp);have Hcp:=aj hcp;clear hcp;go_wp2_with fail;go_meet;rw[HC.af];exact⟨HO.af,FT.af,Nl.af⟩
   | true=>
    rw[hcp]at qj;have HC:Hid (O1++jX at_ ((nf+k:Nat):Int) x=O1++[⟨at_,2,(nf:Int)+(k:Int),0⟩]):=aj (by unfold jX;rw[hcp];simp);clear hcp;have c4:=ug.af w3 HO.af.below;have o1:IntKind.i64.wrap ((nf:Int)+(k:Int))=(nf:Int)+(k:Int):=iJ _ wP;have arw:=fD _ _ qj;clear qj;go_upto_region 19 with fail
    refine bA 15 TA TA ?_;simp only[ji];refine P8 (S:=fun w':World=>w'.cell? (ak pb 4)=some (.slice fa nf fc)) _ _ _ _ ?_;have ay:(fun w':World=>w'.cell? (ak pb 4)=some (.slice fa nf fc)) (World.drew w3):=(c4);refine asr ?_;have HX0:Hid ((World.drew w3).heap[xb]? =some (.cells ((arU x wa wn wc ra rn rc)) 71 (0,0))):=aj FT.af;have I6:=aj (HO.af.drew);generalize (World.drew w3)=wd at *;refine arO [0,1,2,4,5,6,7,8,9,10,11] ay ?_;simp only[ast]
    iterate 11 (refine arP ?_;try simp only[bP])
    refine cO 3 fun K hK=> ?_
    go_simp;refine(HVk.af wd I6.af.below).mono ?_;rintro e Rk ⟨rfl,iI⟩;have HO1:=aj (I6.af.dW iI);have eT:=aj ((iI.block xb (ah1.1 HX0.af).1).trans HX0.af);refine hK.af _ _ (iq iI ay) (fun ay=> ?_);clear hK K;try simp only[bV]
    clear iI;refine arO [12] ay ?_;simp only[ast]
    iterate 1 (refine arP ?_;try simp only[bP])
    refine cO 13 fun K hK=> ?_
    go_simp;have NN:=aj (ah2 Rk (aB #[ah at_,ah 2,ah ((nf:Int)+(k:Int)),ah 0] 122));have xZ:=aj (HO1.af.alloc (aB #[ah at_,ah 2,ah ((nf:Int)+(k:Int)),ah 0] 122));have zn:=xZ.af.hB;have HXw:=aj ((dX Rk (aB #[ah at_,ah 2,ah ((nf:Int)+(k:Int)),ah 0] 122) (ah1.1 eT.af).1).trans eT.af);refine hK.af _ _ (dB ay) (fun ay=> ?_);clear hK K;try simp only[bV]
    generalize GQ:Rk.alloc (aB #[ah at_,ah 2,ah ((nf:Int)+(k:Int)),ah 0] 122)=wn at *;clear GQ
    have wI:Hid (∀u∈([.int .i64 at_,.int .i64 2,.int .i64 ((nf:Int)+(k:Int)),.int .i64 0]:List Value),u.oneCell'=true):=aj (by
     intro u hu;simp only[Y1,nW,or_false]at hu;rcases hu with rfl | rfl | rfl | rfl<;>rfl)
    refine cO 14 fun K hK=> ?_
    rw[if_pos (by rfl)];simp only[rz];refine lV (K:=mi) (v:=.slice oa ol oc) (e:=122) (B:=w.heap.size) (E:=fun _=>False) 39 (.agg #[ah 0,ah 0,ah 0,ah 0]) 32 Tryz.underlying39 CJ rfl abD (.tmp 70) (.tmp 83) rfl ol sj.af.symm rfl xZ.af.own (fun b hb=>hb.elim) Rk.heap.size ⟨at_,2,(nf:Int)+(k:Int),0⟩ [ah at_,ah 2,ah ((nf:Int)+(k:Int)),ah 0] rfl (aD NN.af) wI.af rfl (by have:=sj.af;omega) (by have:=sj.af;omega) zn ?_;rintro g7 c7 w7 fG hs7 uf wK;have kT:=aj (xZ.af.append wM fG hs7);have jK:=aj ((hs7.block xb ⟨(ah1.1 HXw.af).1,fun e=>Nl.af xb e rfl⟩).trans HXw.af);have HN7:Hid (∀b,(Value.slice (some ⟨g7,0,none⟩) (ol+1) c7).ownBlock=some b->b≠xb):=aj (fun b hb e=>wK xb (ah1.1 HXw.af).1 (fun e=>Nl.af xb e rfl) (e ▸ (Option.some.inj hb).symm));refine hK.af _ _ ((hs7.cell (p:=(ak pb 4)) ⟨fD _ _ ay,fun e=>(by have h1:=(xZ.af.own.lt pb e).1;have h2:=hpl;omega)⟩).trans ay) (fun ay=> ?_);clear hK K fG hs7;try simp only[bV]
    refine E5 TA ?_ _;simp only[dU];clear ay;go_wp2;go_meet;rw[HC.af];exact⟨kT.af,jK.af,HN7.af⟩
  case rest=>
  obtain⟨hO4,hX4,hN4⟩:=hcut;rename World=>w4
  have BV:=aj hO4;have xU:=aj hX4;have HN4:=aj hN4;obtain ⟨O2,hO2⟩:=aiG (O1++jX at_ ((nf+k:Nat):Int) x)
  have arx:O2.length<=10001:=by
   have:(jX at_ ((nf+k:Nat):Int) x).length<=1:=by unfold jX;split<;>simp
   rw[hO2,Kk,<-sj.af];omega
  rw[<-hO2]at BV Cq;clear hO4 hX4 hN4 hO2 oo FT Nl qj sj amO;go_wp2_with fail;go_loopw [3,8] (fun o i wr=>∃j:Nat,i=ah j/\j<=rn/\eX 122 mi w.heap.size w wr o (O2++(x.ash.take j).map (kG s.ar1 (aC s) at_))/\wr.heap[xb]? =some (.cells ((arU x wa wn wc ra rn rc)) 71 (0,0))/\∀b,o.ownBlock=some b->b≠xb) (fun _ i _=>rn-(intOf i).toNat);exact⟨0,rfl,alg _,by simpa using BV.af,xU.af,HN4.af⟩;rename World=>w5
  obtain⟨j,rfl,hj,ho,hx5,hn5⟩:=hrel;obtain⟨oa,oc,rfl⟩:=ho.own.form;have HO:=aj ho;have kF:=aj hx5;have Nl:=aj hn5;have l10:w5.cell? (ak xb 10)=some (.slice ra rn rc):=aL hx5 rfl;by_cases hjt:j<rn
  ·obtain rfl:=hra wP
   obtain⟨r,hr⟩:∃r,x.ash[j]? =some r:=⟨_,gP (by rw[<-Ou.af];exact hjt)⟩;obtain⟨-,k0,k1,k2,k3⟩:=(qh.af.below (ho.below.mono hB)).RH j r hr;have hrb:rb<w:=Nat.lt_of_lt_of_le (Hrb.af wP) hB;have ajH:=dH hr;obtain⟨hw0,hw1,-⟩:=JZ.af r ajH;have hts:(x.ash.take (j+1)).map (kG s.ar1 (aC s) at_)=(x.ash.take j).map (kG s.ar1 (aC s) at_)++[kG s.ar1 (aC s) at_ r]:=by rw[Qc,hr];simp
   rw[abC (XH.af r ajH)]at hts;have Nf:=aj (fun w' hb=>pg.af w' hb r.arT r.aG);obtain ⟨mm,hmm⟩:=aiG (oM r.arT r.aG (aC s).av);rw[<-hmm]at hts Nf;have hjn:(j:Int)<(rn:Int):=wP
   have hol:(O2++(x.ash.take j).map (kG s.ar1 (aC s) at_)).length<=13000:=by
    rw[Kk,BR,og];have:min j x.ash.length<=j:=Nat.min_le_left _ _;omega
   have Hts:=aj (show O2++(x.ash.take (j+1)).map (kG s.ar1 (aC s) at_)=(O2++(x.ash.take j).map (kG s.ar1 (aC s) at_))++[⟨at_+8*r.asl,0,mm,r.add⟩] by rw[hts,Sq]);obtain ⟨O,hO⟩:=aiG (O2++(x.ash.take j).map (kG s.ar1 (aC s) at_));rw[<-hO]at HO Hts hol Nl ⊢;obtain ⟨ol,Al⟩:=aiG O.length;have sj:=aj Al;rw[<-Al]at HO hol Nl ⊢;have hjr:(j:Int)<(rn:Int):=wP;have o1:IntKind.i64.wrap (8*r.asl)=8*r.asl:=iJ _ wP;have o2:IntKind.i64.wrap (at_+8*r.asl)=at_+8*r.asl:=iJ _ wP;clear ho hx5 hn5 hr ajH hts hmm hO Al;go_upto_region 23 with fail
   refine bA 35 TA TA ?_;simp only[ji];refine P8 (S:=fun w':World=>w'.cell? (ak xb 10)=some (.slice (some ⟨rb,ro,none⟩) rn rc)/\w'.cell? (ak rb (ro+j*4))=some (ah r.asl)/\w'.cell? (ak rb (ro+j*4+1))=some (ax r.arT)/\w'.cell? (ak rb (ro+j*4+2))=some (ax r.aG)/\w'.cell? (ak rb (ro+j*4+3))=some (ah r.add)) _ _ _ _ ?_;have ay:(fun w':World=>w'.cell? (ak xb 10)=some (.slice (some ⟨rb,ro,none⟩) rn rc)/\w'.cell? (ak rb (ro+j*4))=some (ah r.asl)/\w'.cell? (ak rb (ro+j*4+1))=some (ax r.arT)/\w'.cell? (ak rb (ro+j*4+2))=some (ax r.aG)/\w'.cell? (ak rb (ro+j*4+3))=some (ah r.add)) (World.drew w5):=⟨l10,k0,k1,k2,k3⟩;refine asr ?_;have HX0:Hid ((World.drew w5).heap[xb]? =some (.cells ((arU x wa wn wc (some ⟨rb,ro,none⟩) rn rc)) 71 (0,0))):=aj kF.af;have I6:=aj (HO.af.drew);generalize (World.drew w5)=wd at *;refine arO [0,1,2,4,5,6,7,8,9,10,12,13,14,15,16,17,18,19,20,21,22,23,24,26,27,28,29,30,31] ay ?_;simp only[ast]
   iterate 29 (refine arP ?_;try simp only[bP])
   refine cO 3 fun K hK=> ?_
   go_simp;refine(HVk.af wd I6.af.below).mono ?_;rintro e Rk ⟨rfl,iI⟩;have HO1:=aj (I6.af.dW iI);have eT:=aj ((iI.block xb (ah1.1 HX0.af).1).trans HX0.af);refine hK.af _ _ ⟨iq iI ay.1,iq iI ay.2.1,iq iI ay.2.2.1,iq iI ay.2.2.2.1,iq iI ay.2.2.2.2⟩ (fun ay=> ?_);clear hK K;try simp only[bV]
   clear iI;refine arO [11] ay ?_;simp only[ast]
   iterate 1 (refine arP ?_;try simp only[bP])
   refine cO 25 fun K hK=> ?_
   go_simp;refine(Nf.af Rk HO1.af.below).mono ?_;rintro e wc1 ⟨rfl,iI⟩;have nV:=aj (HO1.af.dW iI);have gI:=aj ((iI.block xb (ah1.1 eT.af).1).trans eT.af);refine hK.af _ _ ⟨iq iI ay.1,iq iI ay.2.1,iq iI ay.2.2.1,iq iI ay.2.2.2.1,iq iI ay.2.2.2.2⟩ (fun ay=> ?_);clear hK K;try simp only[bV]
   clear iI;refine arO [32] ay ?_;simp only[ast]
   iterate 1 (refine arP ?_;try simp only[bP])
   refine cO 33 fun K hK=> ?_
   go_simp;have NN:=aj (ah2 wc1 (aB #[ah (at_+8*r.asl),ah 0,ah mm,ah r.add] 122));have xZ:=aj (nV.af.alloc (aB #[ah (at_+8*r.asl),ah 0,ah mm,ah r.add] 122));have zn:=xZ.af.hB;have HXw:=aj ((dX wc1 (aB #[ah (at_+8*r.asl),ah 0,ah mm,ah r.add] 122) (ah1.1 gI.af).1).trans gI.af);refine hK.af _ _ ⟨dB ay.1,dB ay.2.1,dB ay.2.2.1,dB ay.2.2.2.1,dB ay.2.2.2.2⟩ (fun ay=> ?_);clear hK K;try simp only[bV]
   generalize GQ:wc1.alloc (aB #[ah (at_+8*r.asl),ah 0,ah mm,ah r.add] 122)=wn at *;clear GQ
   have wI:Hid (∀u∈([.int .i64 (at_+8*r.asl),.int .i64 0,.int .i64 mm,.int .i64 r.add]:List Value),u.oneCell'=true):=aj (by
    intro u hu;simp only[Y1,nW,or_false]at hu;rcases hu with rfl | rfl | rfl | rfl<;>rfl)
   refine cO 34 fun K hK=> ?_
   rw[if_pos (by rfl)];simp only[rz];refine lV (K:=mi) (v:=.slice oa ol oc) (e:=122) (B:=w.heap.size) (E:=fun _=>False) 39 (.agg #[ah 0,ah 0,ah 0,ah 0]) 32 Tryz.underlying39 CJ rfl abD (.tmp 92) (.tmp 125) rfl ol sj.af.symm rfl xZ.af.own (fun b hb=>hb.elim) wc1.heap.size ⟨at_+8*r.asl,0,mm,r.add⟩ [ah (at_+8*r.asl),ah 0,ah mm,ah r.add] rfl (aD NN.af) wI.af rfl (by have:=sj.af;omega) (by have:=sj.af;omega) zn ?_;rintro g7 c7 w7 fG hs7 uf wK;have kT:=aj (xZ.af.append wM fG hs7);have jK:=aj ((hs7.block xb ⟨(ah1.1 HXw.af).1,fun e=>Nl.af xb e rfl⟩).trans HXw.af);have HN7:Hid (∀b,(Value.slice (some ⟨g7,0,none⟩) (ol+1) c7).ownBlock=some b->b≠xb):=aj (fun b hb e=>wK xb (ah1.1 HXw.af).1 (fun e=>Nl.af xb e rfl) (e ▸ (Option.some.inj hb).symm));refine hK.af _ _ ⟨(hs7.cell (p:=(ak xb 10)) ⟨fD _ _ ay.1,fun e=>Nl.af xb e rfl⟩).trans ay.1,(hs7.cell (p:=(ak rb (ro+j*4))) ⟨fD _ _ ay.2.1,fun e=>(by have h1:=(xZ.af.own.lt rb e).1;have h2:=hrb;omega)⟩).trans ay.2.1,(hs7.cell (p:=(ak rb (ro+j*4+1))) ⟨fD _ _ ay.2.2.1,fun e=>(by have h1:=(xZ.af.own.lt rb e).1;have h2:=hrb;omega)⟩).trans ay.2.2.1,(hs7.cell (p:=(ak rb (ro+j*4+2))) ⟨fD _ _ ay.2.2.2.1,fun e=>(by have h1:=(xZ.af.own.lt rb e).1;have h2:=hrb;omega)⟩).trans ay.2.2.2.1,(hs7.cell (p:=(ak rb (ro+j*4+3))) ⟨fD _ _ ay.2.2.2.2,fun e=>(by have h1:=(xZ.af.own.lt rb e).1;have h2:=hrb;omega)⟩).trans ay.2.2.2.2⟩ (fun ay=> ?_);clear hK K fG hs7;try simp only[bV]
   refine E5 TA ?_ _;simp only[dU];clear ay;go_wp2;go_roundw;exact⟨j+1,arH,wP,by rw[Hts.af];exact kT.af,jK.af,HN7.af⟩;simp[intOf];omega
  ·have HE:Hid (eX 122 mi w.heap.size w w5 (.slice oa (O2++(x.ash.take j).map (kG s.ar1 (aC s) at_)).length oc) (C0++gV s.ar1 (aC s) nf vs 0 (s.vars.take (k+1)))):=aj (by
    have h:=ho;have e:x.ash.take j=x.ash:=dh (by have:=Ou.af;omega);rw[Cq.af];rw[e]at h ⊢;exact h)
   generalize (O2++(x.ash.take j).map (kG s.ar1 (aC s) at_)).length=zl at *;clear ho;go_wp2;go_roundw;exact⟨k+1,arH,wP,HE.af⟩;simp[intOf];omega
 ·have HE:Hid (eX 122 mi w.heap.size w w2 (.slice oa (C0++gV s.ar1 (aC s) nf vs 0 (s.vars.take k)).length oc) (kU s)):=aj (by
   have h:=ho;have e:s.vars.take k=s.vars:=dh (by have:=zo.af;omega);rw[e]at h ⊢;rw[HR0.af];exact h)
  generalize (C0++gV s.ar1 (aC s) nf vs 0 (s.vars.take k)).length=zl at *;clear ho;go_wp2;go_ret;exact⟨_,rfl,HE.af.own,HE.af.below⟩
theorem af5 {k:Nat} (h:k<s.ar2.length):CK (aN s p).aS (aN s p).ar2 k=fC s.ar2 (k+1):=by
 unfold CK;rcases Nat.lt_or_ge (k+1) s.ar2.length with h1 | h1
 ·have h2:(aN s p).ar2[k+1]? =some (0+fC s.ar2 (k+1)):=KH s.ar2 0 (k+1) h1
  rw[h2];simp
 ·have h2:(aN s p).ar2[k+1]? =none:=List.getElem?_eq_none (by rw[show (aN s p).ar2=jD 0 s.ar2 from rfl,KI];exact h1)
  rw[h2,OL,show k+1=s.ar2.length by omega];rfl
theorem Wz {l:List bF} {i:Nat} {x:bF} (hx:l[i]? =some x) (a n:Int):(l.set i {x with value:=a }).set i (mr a n x)=l.modify i (mr a n):=by
 apply List.ext_getElem?;intro j;have hi:=(Sm.1 hx).1;rw[List.getElem?_modify,List.set_set,OY];by_cases e:i=j
 ·subst e;simp[hx,hi,(Sm.1 hx).2]
 ·simp[e]
section
variable {B g n c : Nat} {w1 w : World} {l : List bF}
theorem eX.gX (h:eX 54 gq B w1 w (.slice (some ⟨g,0,none⟩) n c) l) {i:Nat} {x:bF} (hx:l[i]? =some x):lJ x/\w.cell? (ak g (i*9+7))=some (ah x.value)/\w.cell? (ak g (i*9+8))=some (ah x.size)/\(∀j,w.frozen? (ak g j)=false)/\n=l.length/\B<=g/\g<w:=by
 have hl:=(Sm.1 hx).1;obtain⟨g',c',hv,hfz⟩:=h.own.IB wP;obtain⟨a,b,off,cap,hv2,_,_,hat⟩:=h.own.lb.at;have ha:=hat.addr wP;subst ha
 injection hv with e1 e2 e3
 injection hv2 with f1 f2 f3
 injection e1 with e1
 injection f1 with f1
 injection e1 with e1
 injection f1 with f1 f1'
 subst e1 f1 f1';obtain⟨hok,_,_,_,_,_,_,_,c7,c8⟩:=hat.rR i x hx;rw[bE]at c7 c8;have hlt:=h.own.lt g rfl;exact⟨hok,c7,c8,hfz,e2,hlt.1,hlt.2⟩
theorem eX.Gt (h:eX 54 gq B w1 w (.slice (some ⟨g,0,none⟩) n c) l) {i:Nat} {x x':bF} (hx:l[i]? =some x) {j:Nat} {u:Value} (hj:j<9) (hu:lT x'=(lT x).set j u) (hok:lJ x'):eX 54 gq B w1 (w.setCell ⟨g,i*9+j,none⟩ u) (.slice (some ⟨g,0,none⟩) n c) (l.set i x'):=
 ⟨h.own.Qg (K:=gq) Qh rfl hx hj hu hok,h.below.setCell (p:=(ak g (i*9+j))) (h.own.lt g rfl).1 u,by simpa using h.hB⟩
end
theorem acu {B pb:Nat} {w:World} {sv:bN} {v:bG} (hM:gM B pb w sv s v (aC s)) (hB:B<=w) (hll:s.ar5.length<=2000) (hwd:(s.vars.flatMap (·.ar8)).length<=2000) (hfn:s.ar2.length<=2000) (Dz:s.vars.length<=2000) (hns:(aC s).av.length<=1000000):
  Calls Tryz.prog 30 #[aQ pb] w (Ab 54 gq w (sM s (aN s (aC s)) (aC s).av)):=by
 obtain⟨iM,hnc⟩:=zi s;replace iM:(aC s).ar7.length<=2000:=wP;replace hnc:(aC s).cells.length<=4000:=wP;have hsy:=J9 s;have HQ:Hid (sM s (aN s (aC s)) (aC s).av=qI s.ar2.length (aN s (aC s)).vars s.vars (lY (aN s (aC s)).aS (aN s (aC s)).ar2 (aC s).av s.ar2.length) s.vars.length):=aj (Ue (KI _ _) (aaD _ _ _));have kE:=aj (fun (w':World) (hb:Below w w w') (m:Nat) (hm:m<=s.ar2.length)=>ze m hm (hM.below hB hb) (eG hB hb.size) hll);have HVr:=aj (fun (w':World) (hb:Below w w w') (i:Nat) (hi:i<s.vars.length)=>aaL i hi (hM.below hB hb) (eG hB hb.size) hll iM hnc hwd);have HVg:=aj (fun i (hi:i<s.vars.length)=>YM (p:=aC s) hi hll iM hnc hwd);have HEf:=aj (fun k (h:k<s.ar2.length)=>af5 (p:=aC s) h);have HLf:=aj (fun k (h:k<s.ar2.length)=>aaF (p:=aC s) h);have Gr:=aj (fun k=>sw s.ar2 k);have BQ:(s.ar2.flatMap (·.ar5)).length<=2000:=hll;have HWm:=aj (fun x (h:x∈s.vars)=>eG (IZ h) hwd);obtain⟨ya,yc,Q4⟩:=hM.av.form;have HSy:=aj hM.av.lb;rw[Q4]at HSy;obtain⟨va,vb,vo,vc,hvf,xQ,_,kI⟩:=hM.spec.vars.at;have yw:=aj kI;have hva:=kI.addr;obtain⟨fa,fc,lZ⟩:=hM.spec.ar2.form;have c4:=hM.c4;have c5:=hM.c5;have c9:=hM.c9;rw[lZ]at c4;rw[hvf]at c5;rw[Q4]at c9;have hpl:=hM.lt;obtain ⟨L,hL⟩:=aiG ((s.ar2.flatMap (·.ar5)).length);rw[<-hL]at Gr BQ;obtain ⟨SY,Rl⟩:=aiG ((aC s).av);obtain ⟨ST,hST⟩:=aiG ((aN s (aC s)).aS);obtain ⟨FS,hFS⟩:=aiG ((aN s (aC s)).ar2);obtain ⟨VS,hVS⟩:=aiG ((aN s (aC s)).vars);obtain ⟨RES,amP⟩:=aiG (sM s (aN s (aC s)) (aC s).av);rw[<-amP]at HQ ⊢;rw[<-Rl,<-hST,<-hFS,<-hVS]at HQ;rw[<-Rl]at HSy c9 hsy hns;rw[<-hFS]at HLf;rw[<-hST,<-hFS]at HEf;rw[<-hVS]at HVr HVg;obtain ⟨ns,ajI⟩:=aiG SY.length;obtain ⟨nf,hnf⟩:=aiG s.ar2.length;obtain ⟨nv,sQ⟩:=aiG s.vars.length;have Kg:=aj ajI;have zo:=aj sQ;rw[<-ajI]at HSy c9 hsy hns;rw[<-hnf]at c4 hfn hsy kE HEf HLf HQ;rw[<-sQ]at c5 xQ hva Dz hsy HVr HVg HQ;have qD:=aj (Iz ST FS SY);have HVl:=aj (fun l k=>OZ nf VS s.vars l k);have ug:Hid (∀wr,Below w w wr->wr.cell? (ak pb 4)=some (.slice fa nf fc)):=aj (fun wr hb=>(hb.cell (p:=(ak pb 4)) hpl).trans c4);have DT:Hid (∀wr,Below w w wr->wr.cell? (ak pb 5)=some (.slice va nv vc)):=aj (fun wr hb=>(hb.cell (p:=(ak pb 5)) hpl).trans c5);have aa6:=aj (aX.nil 54 gq w.heap.size (fun _=>False) w);clear hM Q4 hvf kI lZ c4 c5 Rl hST hFS hVS amP ajI hnf sQ iM hnc hll hwd hL;go_enter Tryz.func30,Tryz.ntmps30;go_wp2_with (at_builtin;go_loud (refine mZ (v:=au) (l:=[]) Qh 32 (.agg arQ) 88 Tryz.underlying32 yE rfl rfl (.tmp 6) (.tmp 10) rfl rfl aa6.af (fun b hb=>hb.elim) (.slice ya ns yc) SY rfl HSy.af (by have:=Kg.af;simp only[aR];omega) (by have:=Kg.af;simp only[aR];omega) (oD _) ?_));intro o w1 ho1 hs1 hn1;have HO:Hid (eX 54 gq w.heap.size w w1 o (lY ST FS SY 0)):=aj ⟨by simpa [lY] using ho1,(hs1.imp (S':=(·<w.heap.size)) (fun b hb=>⟨hb,fun e=>by simp[Value.ownBlock]at e⟩)).below,hs1.size⟩;clear ho1 hs1 hn1 c9 aa6 HSy;go_upto_block 0 with fail
 go_cut [] (fun wx=>eX 54 gq w.heap.size w wx o (lY ST FS SY nf))
 case first=>
  go_wp2_with fail;go_loopw [4] (fun i wr=>∃k:Nat,i=ah k/\k<=nf/\eX 54 gq w.heap.size w wr o (lY ST FS SY k)) (fun i _=>nf-(intOf i).toNat);exact⟨0,rfl,alg _,HO.af⟩;obtain⟨k,rfl,hk,ho⟩:=hrel;have c4:=ug.af wr ho.below;by_cases hlt:k<nf
  ·obtain⟨g,c,rfl,-⟩:=ho.own.IB (by rw[qD.af,<-Kg.af];omega)
   obtain⟨x,hx⟩:∃x,(lY ST FS SY k)[k]? =some x:=⟨_,gP (by rw[qD.af,<-Kg.af];omega)⟩;obtain⟨hok,d7,d8,hfz,hnl,hgB,hgl⟩:=ho.gX hx;have hkn:(k:Int)<(nf:Int):=wP
   have lm:Hid (lY ST FS SY (k+1)=(lY ST FS SY k).modify k (mr (fC s.ar2 k) (fC s.ar2 (k+1)-fC s.ar2 k))):=aj (by
    show(lY ST FS SY k).modify k (mr (FS.getD k 0) (CK ST FS k-FS.getD k 0))=_;rw[HLf.af k hlt,HEf.af k hlt])
   have kM:=aj (kE.af wr ho.below k wP);have hr1:=Gr.af k;have hr2:=Gr.af (k+1);obtain ⟨a,ha⟩:=aiG (fC s.ar2 k);obtain ⟨b,hb⟩:=aiG (fC s.ar2 (k+1));rw[<-ha]at kM hr1 lm;rw[<-hb]at hr2 lm;have Ha:=aj ha;have Hb:=aj hb;have hkl:(k:Int)<(ns:Int):=wP;obtain ⟨l,hl⟩:=aiG (lY ST FS SY k);have hln:(lY ST FS SY k).length=ns:=by rw[qD.af,<-Kg.af]
   rw[hln]at ho ⊢;rw[<-hl]at ho hx lm;have HO:=aj ho;have Hx:=aj hx;have iy:=aj hok;clear ho hx ha hb hl hok hnl hln d7 d8 hfz;go_wp2_with fail;refine kM.af.mono ?_;rintro e w2 ⟨rfl,hb2⟩;have nV:=aj (HO.af.dW hb2);obtain⟨-,d7,-,hfz,-,-,-⟩:=nV.af.gX Hx.af;have f7:=hfz (k*9+7);clear hb2 hfz HO kM;go_upto_region 7 with fail
   have oo:=aj (nV.af.Gt Hx.af (j:=7) (u:=ah a) (x':={x with value:=a }) abD rfl ⟨iy.af.arT,iy.af.asc,iy.af.ar3,iy.af.bq,(⟨wP,wP⟩:jV a),iy.af.size⟩);clear d7 f7 nV c4;generalize w2.setCell ⟨g,k*9+7,none⟩ (ah a)=w3 at *;have HS2:=aj (kE.af w3 oo.af.below (k+1) wP);rw[<-Hb.af]at HS2;have o1:IntKind.i64.wrap ((k:Int)+1)=((k+1:Nat):Int):=by rw[iJ _ wP];push_cast;rfl
   go_wp2_with fail;refine HS2.af.mono ?_;rintro e w4 ⟨rfl,hb4⟩;have BV:=aj (oo.af.dW hb4);have pW:=aj (kE.af w4 BV.af.below k wP);rw[<-Ha.af]at pW;clear hb4 oo HS2;go_wp2_with fail;refine pW.af.mono ?_;rintro e w5 ⟨rfl,hb5⟩;have sV:=aj (BV.af.dW hb5)
   have hx1:(l.set k {x with value:=a })[k]? =some {x with value:=a }:=by
    rw[OY,if_pos rfl,if_pos (Sm.1 Hx.af).1]
   obtain⟨-,-,d8,hfz,-,-,-⟩:=sV.af.gX hx1;have f8:=hfz (k*9+8);have d8:w5.cell? (ak g (k*9+8))=some (ah x.size):=d8;have o2:IntKind.i64.wrap (b-a)=b-a:=iJ _ wP;have zG:=aj (sV.af.Gt hx1 (j:=8) (u:=ah (b-a)) (x':=mr a (b-a) x) abD rfl ⟨iy.af.arT,iy.af.asc,iy.af.ar3,iy.af.bq,(⟨wP,wP⟩:jV a),(⟨wP,wP⟩:jV (b-a))⟩);rw[Wz Hx.af,<-lm.af]at zG;clear hb5 hfz hx1 BV pW sV o1;go_wp2;go_roundw;exact⟨k+1,arH,wP,zG.af⟩;simp[intOf];omega
  ·have HE:Hid (eX 54 gq w.heap.size w wr o (lY ST FS SY nf)):=aj (by rw[show nf=k by omega];exact ho)
   clear ho;go_wp2_with fail;go_meet;exact HE.af
 case rest=>
 have nV:=aj hcut;rename World=>w2
 obtain ⟨SF,hSF⟩:=aiG (lY ST FS SY nf);have amQ:SF.length=ns:=by rw[hSF,qD.af,<-Kg.af]
 rw[<-hSF]at nV HQ;have apU:=aj amQ;clear hcut HO hSF amQ;go_wp2_with fail;go_loopw [5] (fun i wr=>∃k:Nat,i=ah k/\k<=nv/\eX 54 gq w.heap.size w wr o (qI nf VS s.vars SF k)) (fun i _=>nv-(intOf i).toNat);exact⟨0,rfl,alg _,nV.af⟩;obtain⟨k,rfl,hk,ho⟩:=hrel;have c4:=ug.af wr ho.below;have c5:=DT.af wr ho.below;by_cases hlt:k<nv
 ·obtain rfl:=hva wP
  obtain⟨y,hy⟩:∃y,s.vars[k]? =some y:=⟨_,gP (by rw[<-zo.af];exact hlt)⟩;have hlen:(qI nf VS s.vars SF k).length=ns:=by rw[HVl.af,apU.af]
  obtain⟨g,c,rfl,-⟩:=ho.own.IB (by rw[hlen];omega);obtain⟨x,hx⟩:∃x,(qI nf VS s.vars SF k)[nf+k]? =some x:=⟨_,gP (by rw[hlen];omega)⟩;obtain⟨hok,-,-,-,-,hgB,hgl⟩:=ho.gX hx;have hkn:(k:Int)<(nv:Int):=wP;have hwy:=HWm.af y (dH hy)
  have lm:Hid (qI nf VS s.vars SF (k+1)=(qI nf VS s.vars SF k).modify (nf+k) (mr (VS.getD k 0) (8*(y.ar8.length:Int)))):=aj (by
   show(qI nf VS s.vars SF k).modify (nf+k) (mr (VS.getD k 0) (8*((s.vars.map (·.ar8.length)).getD k 0:Nat)))=_;rw[show (s.vars.map (·.ar8.length)).getD k 0=y.ar8.length by rw[List.getD_eq_getElem?_getD,vW,hy];rfl])
  have kM:=aj (fun w' hb=>HVr.af w' hb k hlt);have hvg:=HVg.af k hlt;obtain ⟨a,ha⟩:=aiG (VS.getD k 0);rw[<-ha]at kM hvg lm;have hkl:((nf+k:Nat):Int)<(ns:Int):=wP;obtain ⟨l,hl⟩:=aiG (qI nf VS s.vars SF k);rw[hlen]at ho ⊢;rw[<-hl]at ho hx lm;have HO:=aj ho;have Hx:=aj hx;have iy:=aj hok;have Hy:=aj hy;obtain ⟨wn,hwn⟩:=aiG y.ar8.length;have xq:=aj hwn;rw[<-hwn]at lm hwy;have o0:IntKind.i64.wrap ((nf:Int)+(k:Int))=((nf+k:Nat):Int):=by rw[iJ _ wP];push_cast;rfl
  clear ho hx hy ha hl hok hlen hwn;go_upto_region 11 with fail
  refine bA 12 TA TA ?_;simp only[ji];refine P8 (S:=fun w':World=>w'.cell? (ak pb 4)=some (.slice fa nf fc)) _ _ _ _ ?_;have ay:(fun w':World=>w'.cell? (ak pb 4)=some (.slice fa nf fc)) (World.drew wr):=(c4);refine asr ?_;have I6:=aj (HO.af.drew);generalize (World.drew wr)=wd at *;refine arO [0,1,2,3,4,5,6,7,8,9,10] ay ?_;simp only[ast]
  iterate 11 (refine arP ?_;try simp only[bP])
  refine cO 11 fun K hK=> ?_
  go_simp;refine(kM.af wd I6.af.below).mono ?_;rintro e w3 ⟨rfl,iI⟩;have oo:=aj (I6.af.dW iI);refine hK.af _ _ (iq iI ay) (fun ay=> ?_);clear hK K;try simp only[bV]
  clear iI;refine E5 TA ?_ _;simp only[dU];clear ay;obtain⟨-,d7,-,hfz,-,-,-⟩:=oo.af.gX Hx.af;have f7:=hfz ((nf+k)*9+7);clear hfz;go_upto_region 12 with fail
  have BV:=aj (oo.af.Gt Hx.af (j:=7) (u:=ah a) (x':={x with value:=a }) abD rfl ⟨iy.af.arT,iy.af.asc,iy.af.ar3,iy.af.bq,(⟨wP,wP⟩:jV a),iy.af.size⟩);clear d7 f7 oo I6 HO c4 c5;generalize w3.setCell ⟨g,(nf+k)*9+7,none⟩ (ah a)=w4 at *;have c4:=ug.af w4 BV.af.below;have c5:=DT.af w4 BV.af.below;obtain⟨wv,rv,hwv,_,_,_,_,_,_,_,_,_,_,_,k9,_,_⟩:=yw.af.rZ (BV.af.below.mono hB) k y Hy.af;obtain⟨wa,wc,rfl⟩:=hwv.form;rw[<-xq.af]at k9;have o1:IntKind.i64.wrap (8*(wn:Int))=8*(wn:Int):=iJ _ wP
  have hx1:(l.set (nf+k) {x with value:=a })[nf+k]? =some {x with value:=a }:=by
   rw[OY,if_pos rfl,if_pos (Sm.1 Hx.af).1]
  have eT:=aj hx1;clear hwv hx1;refine bA 20 TA TA ?_;simp only[ji];refine P8 (S:=fun w':World=>w'.cell? (ak pb 4)=some (.slice fa nf fc)/\w'.cell? (ak pb 5)=some (.slice (some ⟨vb,vo,none⟩) nv vc)/\w'.cell? (ak vb (vo+k*12+9))=some (.slice wa wn wc)) _ _ _ _ ?_;have ay:(fun w':World=>w'.cell? (ak pb 4)=some (.slice fa nf fc)/\w'.cell? (ak pb 5)=some (.slice (some ⟨vb,vo,none⟩) nv vc)/\w'.cell? (ak vb (vo+k*12+9))=some (.slice wa wn wc)) (World.drew w4):=⟨c4,c5,k9⟩;refine asr ?_;have sV:=aj (BV.af.drew);generalize (World.drew w4)=w5 at *;refine arO [0,1,2,3,4,5,6,7,8,9,10,11,12,13,14,15,16,17,18,19] ay ?_;simp only[ast]
  iterate 20 (refine arP ?_;try simp only[bP])
  refine E5 TA ?_ _;simp only[dU];clear ay;obtain⟨-,-,d8,hfz,-,-,-⟩:=sV.af.gX eT.af;have f8:=hfz ((nf+k)*9+8);have d8:w5.cell? ⟨g,(nf+k)*9+8,none⟩=some (ah x.size):=d8;have zG:=aj (sV.af.Gt eT.af (j:=8) (u:=ah (8*(wn:Int))) (x':=mr a (8*(wn:Int)) x) abD rfl ⟨iy.af.arT,iy.af.asc,iy.af.ar3,iy.af.bq,(⟨wP,wP⟩:jV a),(⟨wP,wP⟩:jV (8*(wn:Int)))⟩);rw[Wz Hx.af,<-lm.af]at zG;clear hfz BV sV o1 o0 c4 c5 k9;go_wp2;go_roundw;exact⟨k+1,arH,wP,zG.af⟩;simp[intOf];omega
 ·have HE:Hid (eX 54 gq w.heap.size w wr o RES):=aj (by rw[HQ.af,show nv=k by omega];exact ho)
  clear ho;go_wp2;go_ret;exact⟨_,rfl,HE.af.own,HE.af.below⟩
end Go.Proofs.YtpjgjeadjjackaaGreat
