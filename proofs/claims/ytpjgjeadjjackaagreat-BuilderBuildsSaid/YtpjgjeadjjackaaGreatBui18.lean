/- Lemmas. -/
import Derived.Test.YtpjgjeadjjackaaGreatBui12
import Derived.Test.YtpjgjeadjjackaaGreatBui13
import Derived.Test.YtpjgjeadjjackaaGreatBui17
import Derived.Test.YtpjgjeadjjackaaGreatBui9
import Derived.Test.YtpjgjeadjjackaaGreatBui3
import Derived.Test.YtpjgjeadjjackaaGreatBui11
import Derived.Deep.DeepCutAuto
import Derived.IntWalk
import Derived.BigQuiet
set_option linter.unusedVariables false
set_option linter.unusedSimpArgs false
set_option maxHeartbeats 64000000
set_option maxRecDepth 100000
namespace Go.Proofs.YtpjgjeadjjackaaGreat
open Go.RowKit
open Go.Proofs.Tryz renaming prog->asq
open Go renaming heap_alloc_new->ah2,heap_alloc_old->dX,setRow_other->cu,setRow_heap->TL,wpList_store_row->Bv,wpAny_of_held->P8,bodyPost_ret->qE,wpAnyH_done->E5,wpQuiet_nil->lD
open Go.IntKind renaming wrap_u8'->Uk
open Go.IntWalk renaming i64_in->iJ
open Go.Lib renaming frozen_of_heap->vV,cell_of_heap->aV
open Go.RowKit.Below renaming refl->PZ
open Go.World renaming cell?_of_block->Tg,size_alloc->lW
open _root_.List renaming getElem?_eq_getElem->gP,take_of_length_le->dh,mem_of_getElem?->dH,not_mem_nil->nW,mem_cons->Y1,getElem?_eq_some_iff->Sm,length_append->Kk,length_filter_le->asn,length_take->og,findIdx?_eq_some_iff_getElem->Ig,mem_flatMap->TY,flatMap_append->j5,take_add_one->Qc,take_length->dF,length_cons->oF,eq_of_mem_replicate->mR,map_append->A7,length_replicate->u6,mem_of_mem_take->Ub,cons_append->Aa,length_map->BR,append_nil->Y8
open _root_.Nat renaming le_refl->oD,zero_le->alg,le_trans->eG,le_of_lt->qx,zero_add->bE,lt_of_lt_of_le->akb,min_le_left->iK,le_of_eq->Ug
open _root_.Or renaming inr->aZ,inl->aH
variable {w:World}{B pb k lb i:Nat}{sv:bN}{s:aM}{v:bG}{S:Nat->Prop}{a:Act}{fv:Value}{im:bK}{av:List bF}
def I5 (w:World) (l:List fu) (e:Ending) (w':World):Prop:=∃r,e=.returned r/\LB mh (fun b=>w.heap.size<=b) w' r l/\Below w w w'
theorem I5.mk' {w2:World} (l:List fu) (hb:Below w w w2) (hl:l.length<=9223372036854775807) (hok:∀x∈l,Bb x):
  I5 w l (.returned (.slice (some ⟨w2.heap.size,0,none⟩) l.length l.length)) (w2.alloc (.cells (l.flatMap tL).toArray 58 (0,0))):=
 ⟨_,rfl,(KM w2 l hl hok).imp (fun b hb'=>by rw[hb'];exact hb.size),hb.alloc hb.size _⟩
theorem ahX {p:aA} (x:dw) (at_:Int) (hx:wY x) (hin:mK p x) (ha:0<=at_/\at_<=900000) (hM:gM B pb w sv s v p) (hB:B<=w) (hll:s.ar5.length<=2000) (iM:p.ar7.length<=2000) (hnc:p.cells.length<=4000) (hns:p.av.length<=1000000):
  Calls asq 72 #[aQ pb,.agg (arL x),ah at_] w (I5 w (jl s.ar1 (aN s p) x at_ p).2):=by
 have AP:=aj hin;have Hx:=aj hx;have hg:=rJ (p:=p) hll iM;have hst:=sw s.ar2 s.ar2.length;have BQ:(s.ar2.flatMap (·.ar5)).length<=2000:=hll;have eT:=aj (ah2 w (aB (arL x) 60));have HB1:=aj ((PZ w.heap.size w).alloc (oD _) (aB (arL x) 60));have hlt1:w.heap.size<(w.alloc (aB (arL x) 60)):=arG;have AJ:=aj (fun (w':World) (hb:Below w w w') (reg u0 sym at_:Int) (hu0:0<=u0/\u0<=3) (i:Nat) (hi:p.cells.findIdx? (fun y=>decide (y=(u0,sym)))=some i) (ha:0<=at_/\at_<=1000000)=>aiR reg u0 sym at_ hu0 i hi ha (hM.below hB hb) (eG hB hb.size) hll iM hnc);have kE:=aj (fun w' (hb:Below w w w')=>ze s.ar2.length (oD _) (hM.below hB hb) (eG hB hb.size) hll);have pg:=aj (fun w' (hb:Below w w w')=>wH x.arT x.aG (hM.below hB hb) (eG hB hb.size) hns);have HSub:=aj (OL s p);obtain⟨ja,jb,jo,jc,hj,hjm,_,CP⟩:=hM.ar7.lb.at;have Xd:=aj CP;have hja:=CP.addr;obtain⟨fa,fc,hf⟩:=hM.spec.ar2.form;have c11:=hM.c11;have c4:=hM.c4;rw[hj]at c11;rw[hf]at c4;have hpl:=hM.lt;obtain ⟨nj,pQ⟩:=aiG p.ar7.length;have Cr:=aj pQ;obtain ⟨nf,hnf⟩:=aiG s.ar2.length;rw[<-pQ]at c11 hjm hja iM;rw[<-hnf]at c4 kE HSub hst;have R9:Hid (∀wr,Below w w wr->wr.cell? (ak pb 11)=some (.slice ja nj jc)):=aj (fun wr hb=>(hb.cell (p:=(ak pb 11)) hpl).trans c11);have ug:Hid (∀wr,Below w w wr->wr.cell? (ak pb 4)=some (.slice fa nf fc)):=aj (fun wr hb=>(hb.cell (p:=(ak pb 4)) hpl).trans c4);have Hjb:Hid (0<nj->jb<w):=aj (fun h=>(CP.mG (by rw[<-pQ];exact h)).1);obtain ⟨st,Xg⟩:=aiG (fC s.ar2 nf);rw[<-Xg]at kE HSub hst;clear hM hin hx hj CP hf pQ hnf Xg c11 c4 hll hns;obtain ⟨L,hL⟩:=aiG ((jl s.ar1 (aN s p) x at_ p).2);have sU:=aj hL;rw[<-hL];clear hL;go_enter Tryz.func72,Tryz.ntmps72;go_upto_region 1 with fail
 generalize w.alloc (aB (arL x) 60)=w1 at *;have c7:w1.cell? (ak w 7)=some (ax x.arT):=aL eT.af rfl;have c8:w1.cell? (ak w 8)=some (ax x.aG):=aL eT.af rfl;go_wp2_with fail;refine(pg.af w1 HB1.af).mono ?_;rintro e w2 ⟨rfl,hb2⟩;have HB2:=aj (HB1.af.trans (hb2.mono (qx hlt1)));have gI:=aj ((hb2.block _ hlt1).trans eT.af);have hlt2:w.heap.size<w2:=by have:=hb2.size;omega
 clear hb2 eT HB1 hlt1 pg c7 c8;obtain ⟨xb,hxb⟩:=aiG w.heap.size;have Hxb:=aj hxb;rw[<-hxb];have lF:Hid (w2.heap[xb]? =some (aB (arL x) 60)):=aj (by rw[hxb];exact gI.af);clear hxb gI;have c0:w2.cell? (ak xb 0)=some (ah x.ar3):=aL lF.af rfl;by_cases hk1:x.ar3=1
 ·obtain⟨i,hi,k,hk⟩:=AP.af.call hk1
  have HM:Hid (oM x.arT x.aG p.av=(i:Int)):=aj (oN hi)
  have HL:Hid (L=[⟨15,0,0,0,(aN s p).aS+24*(k:Int)-at_-8⟩]):=aj (by
   rw[sU.af];unfold jl;rw[if_pos hk1];simp only[fw hi];unfold Ju;rw[hk])
  have HFd:=aj hk;have hkl:k<nj:=by rw[Cr.af];exact xN hk
  obtain rfl:=hja wP;have hjb:=Hjb.af wP;rw[HM.af];rw[hk1]at c0;rw[HSub.af]at HL;clear hi hk hk1 sU AJ AP HM HSub;have c11:=R9.af w2 HB2.af;go_wp2_with fail;go_loop [8] (fun q=>∃j:Nat,q=ah j/\j<=k) (fun q=>k-(intOf q).toNat);exact⟨0,rfl,alg _⟩;obtain⟨j,rfl,hj⟩:=hrel;obtain⟨y,hy⟩:∃y,p.ar7[j]? =some y:=⟨_,gP (by rw[<-Cr.af];omega)⟩;have hc:=(HB2.af.cell (p:=(ak jb (jo+j))) hjb).trans (Xd.af.oC j y hy);have hjn:(j:Int)<(nj:Int):=wP;by_cases hjk:j<k
  ·have hne:y≠(i:Int):=by
    have h:=Ig.1 HFd.af;obtain⟨_,_,h3⟩:=h;have h4:=h3 j hjk;obtain⟨hjl,rfl⟩:=Sm.1 hy
    simpa using h4
   have hb:(y != (i:Int))=true:=by simp[hne]
   clear hne hy;go_wp2;go_round;exact⟨j+1,arH,wP⟩;simp[intOf];omega
  ·obtain rfl:j=k:=wP
   have hyi:y=(i:Int):=by
    obtain⟨_,h2,_⟩:=Ig.1 HFd.af;obtain⟨hjl,rfl⟩:=Sm.1 hy
    simpa using h2
   subst hyi;have c4:=ug.af w2 HB2.af;have o1:IntKind.i64.wrap (24*(j:Int))=24*(j:Int):=iJ _ wP;have o2:IntKind.i64.wrap (st+24*(j:Int))=st+24*(j:Int):=iJ _ wP;have o3:IntKind.i64.wrap (st+24*(j:Int)-at_)=st+24*(j:Int)-at_:=iJ _ wP;have o4:IntKind.i64.wrap (st+24*(j:Int)-at_-8)=st+24*(j:Int)-at_-8:=iJ _ wP;clear hy;go_wp2_with fail;refine(kE.af w2 HB2.af).mono ?_;rintro e w3 ⟨rfl,hb3⟩;have HB3:=aj (HB2.af.trans (hb3.mono (qx hlt2)));clear hb3 c4 hc c11 c0;go_wp2;go_ret;rw[HL.af];exact I5.mk' _ HB3.af arG (fun z hz=>by simp only[Y1,nW,or_false]at hz;subst hz;exact jw abD abD abD abD ⟨wP,wP⟩)
 have ajy:(x.ar3==1)=false:=by simp[hk1]
 by_cases hk2:x.ar3=2
 ·obtain⟨i,hi,k,hk⟩:=AP.af.addr hk2
  have HM:Hid (oM x.arT x.aG p.av=(i:Int)):=aj (oN hi)
  have HL:Hid (L=[⟨11,x.a,0,0,(aN s p).got+8*(k:Int)-at_-8⟩]):=aj (by
   rw[sU.af];unfold jl;rw[if_neg hk1,if_pos hk2];simp only[fw hi];unfold yY;simp only[gQ hk])
  have hld:=AJ.af w2 HB2.af x.a 0 (i:Int) at_ abD k hk wP;rw[show qN 0=4 from rfl]at hld;have HLk:=aj hld;have hkl:=xN hk;rw[HM.af];rw[hk2]at c0;have c6:w2.cell? (ak xb 6)=some (ah x.a):=aL lF.af rfl;obtain ⟨gt,hgt⟩:=aiG ((aN s p).got);rw[<-hgt]at HL HLk hg;clear hi hk hk1 hk2 sU AJ AP HM HSub hld hgt ajy;go_wp2_with fail;refine HLk.af.mono ?_;rintro e w3 ⟨rfl,hb3⟩;have HB3:=aj (HB2.af.trans (hb3.mono (qx hlt2)));clear hb3 c6 c0;go_wp2;go_ret;rw[HL.af];exact I5.mk' _ HB3.af arG (fun z hz=>by simp only[Y1,nW,or_false]at hz;subst hz;exact jw abD Hx.af.a abD abD ⟨wP,wP⟩)
 have hkb2:(x.ar3==2)=false:=by simp[hk2]
 by_cases hk3:x.ar3=3
 ·obtain⟨i,hi,⟨k1,hkA⟩,k2,hkB⟩:=AP.af.bf hk3
  have HM:Hid (oM x.arT x.aG p.av=(i:Int)):=aj (oN hi)
  have HL:Hid (L=[⟨11,13,0,0,(aN s p).got+8*(k2:Int)-at_-8⟩,⟨11,x.a,0,0,(aN s p).got+8*(k1:Int)-(at_+8)-8⟩,⟨21,x.a,13,0,0⟩]):=aj (by
   rw[sU.af];unfold jl;rw[if_neg hk1,if_neg hk2,if_pos hk3];simp only[fw hi];unfold yY;simp only[gQ hkA,gQ hkB])
  have qR:Hid (∀w',Below w w w'->Calls asq 128 #[aQ pb,ah 13,ah 5,ah (i:Int),ah at_] w' fun e w''=>e=.returned (.agg #[ah 11,ah 13,ah 0,ah 0,ah ((aN s p).got+8*(k2:Int)-at_-8)])/\Below w' w' w''):=aj (fun w' hb=>AJ.af w' hb 13 2 (i:Int) at_ abD k2 hkB wP);have HL2:Hid (∀w',Below w w w'->Calls asq 128 #[aQ pb,ah x.a,ah 2,ah (i:Int),ah (at_+8)] w' fun e w''=>e=.returned (.agg #[ah 11,ah x.a,ah 0,ah 0,ah ((aN s p).got+8*(k1:Int)-(at_+8)-8)])/\Below w' w' w''):=aj (fun w' hb=>AJ.af w' hb x.a 1 (i:Int) (at_+8) abD k1 hkA wP);have arq:=xN hkA;have apM:=xN hkB;rw[HM.af];rw[hk3]at c0;have c6:w2.cell? (ak xb 6)=some (ah x.a):=aL lF.af rfl;obtain ⟨gt,hgt⟩:=aiG ((aN s p).got);rw[<-hgt]at HL qR HL2 hg;clear hi hkA hkB hk1 hk2 hk3 sU AJ AP HM HSub hgt ajy hkb2;go_upto_region 11 with fail
  refine bA 15 TA TA ?_;simp only[ji];refine P8 (S:=fun w':World=>w'.cell? (ak xb 6)=some (ah x.a)) _ _ _ _ ?_;have ay:(fun w':World=>w'.cell? (ak xb 6)=some (ah x.a)) (World.drew w2):=(c6);refine asr ?_;have qU:=aj (HB2.af.drew);have hxd:xb<(World.drew w2):=by rw[Hxb.af];exact hlt2
  clear c6 c0 lF;generalize (World.drew w2)=wd at *;have o1:IntKind.i64.wrap (at_+8)=at_+8:=iJ _ wP;refine arO [0,1,2,4,5,6,7,8,9,11,12,13] ay ?_;simp only[ast]
  iterate 12 (refine arP ?_;try simp only[bP])
  clear o1;refine cO 3 fun K hK=> ?_
  go_simp;refine(qR.af wd qU.af).mono ?_;rintro e w6 ⟨rfl,iI⟩;have AQ:=aj (qU.af.trans (iI.mono qU.af.size));have YK:=(iI.cell (p:=(ak xb 6)) hxd).trans ay;refine hK.af _ _ (YK) (fun ay=> ?_);clear hK K;try simp only[bV]
  have amJ:xb<w6:=by have:=iI.size;omega
  clear iI YK;refine cO 10 fun K hK=> ?_
  go_simp;refine(HL2.af w6 AQ.af).mono ?_;rintro e w7 ⟨rfl,iI⟩;have Eg:=aj (AQ.af.trans (iI.mono AQ.af.size));have YK:=(iI.cell (p:=(ak xb 6)) amJ).trans ay;refine hK.af _ _ (YK) (fun ay=> ?_);clear hK K;try simp only[bV]
  have ars:xb<w7:=by have:=iI.size;omega
  clear iI YK;refine cO 14 fun K hK=> ?_
  go_simp;have HE:=aj (I5.mk' (l:=[⟨11,13,0,0,gt+8*(k2:Int)-at_-8⟩,⟨11,x.a,0,0,gt+8*(k1:Int)-(at_+8)-8⟩,⟨21,x.a,13,0,0⟩]) Eg.af arG (by intro z hz;simp only[Y1,nW,or_false]at hz;rcases hz with rfl | rfl | rfl;exact jw abD abD abD abD ⟨wP,wP⟩;exact jw abD Hx.af.a abD abD ⟨wP,wP⟩;exact jw abD Hx.af.a abD abD abD));refine hK.af _ _ (dB ay) (fun ay=> ?_);clear hK K;try simp only[bV]
  refine E5 TA ?_ _;simp only[dU];clear ay;go_wp2;go_ret;rw[HL.af];exact HE.af
 have apN:(x.ar3==3)=false:=by simp[hk3]
 by_cases hk4:x.ar3=4
 ·obtain⟨i,hi,k2,hkB⟩:=AP.af.tp hk4
  have HM:Hid (oM x.arT x.aG p.av=(i:Int)):=aj (oN hi)
  have HL:Hid (L=[⟨11,13,0,0,(aN s p).got+8*(k2:Int)-at_-8⟩,⟨20,x.a,0,0,0⟩,⟨3,x.a,x.a,13,0⟩]):=aj (by
   rw[sU.af];unfold jl;rw[if_neg hk1,if_neg hk2,if_neg hk3,if_pos hk4];simp only[fw hi];unfold yY;simp only[gQ hkB])
  have qR:Hid (∀w',Below w w w'->Calls asq 128 #[aQ pb,ah 13,ah 3,ah (i:Int),ah at_] w' fun e w''=>e=.returned (.agg #[ah 11,ah 13,ah 0,ah 0,ah ((aN s p).got+8*(k2:Int)-at_-8)])/\Below w' w' w''):=aj (fun w' hb=>AJ.af w' hb 13 3 (i:Int) at_ abD k2 hkB wP);have apM:=xN hkB;rw[HM.af];rw[hk4]at c0;have c6:w2.cell? (ak xb 6)=some (ah x.a):=aL lF.af rfl;obtain ⟨gt,hgt⟩:=aiG ((aN s p).got);rw[<-hgt]at HL qR hg;clear hi hkB hk1 hk2 hk3 hk4 sU AJ AP HM HSub hgt ajy hkb2 apN;go_upto_region 13 with fail
  refine bA 13 TA TA ?_;simp only[ji];refine P8 (S:=fun w':World=>w'.cell? (ak xb 6)=some (ah x.a)) _ _ _ _ ?_;have ay:(fun w':World=>w'.cell? (ak xb 6)=some (ah x.a)) (World.drew w2):=(c6);refine asr ?_;have qU:=aj (HB2.af.drew);have hxd:xb<(World.drew w2):=by rw[Hxb.af];exact hlt2
  clear c6 c0 lF;generalize (World.drew w2)=wd at *;refine arO [0,1,2,4,5,6,7,8,9,10,11] ay ?_;simp only[ast]
  iterate 11 (refine arP ?_;try simp only[bP])
  refine cO 3 fun K hK=> ?_
  go_simp;refine(qR.af wd qU.af).mono ?_;rintro e w6 ⟨rfl,iI⟩;have AQ:=aj (qU.af.trans (iI.mono qU.af.size));have YK:=(iI.cell (p:=(ak xb 6)) hxd).trans ay;refine hK.af _ _ (YK) (fun ay=> ?_);clear hK K;try simp only[bV]
  have amJ:xb<w6:=by have:=iI.size;omega
  clear iI YK;refine cO 12 fun K hK=> ?_
  go_simp;have HE:=aj (I5.mk' (l:=[⟨11,13,0,0,gt+8*(k2:Int)-at_-8⟩,⟨20,x.a,0,0,0⟩,⟨3,x.a,x.a,13,0⟩]) AQ.af arG (by intro z hz;simp only[Y1,nW,or_false]at hz;rcases hz with rfl | rfl | rfl;exact jw abD abD abD abD ⟨wP,wP⟩;exact jw abD Hx.af.a abD abD abD;exact jw abD Hx.af.a Hx.af.a abD abD));refine hK.af _ _ (dB ay) (fun ay=> ?_);clear hK K;try simp only[bV]
  refine E5 TA ?_ _;simp only[dU];clear ay;go_wp2;go_ret;rw[HL.af];exact HE.af
 have aru:(x.ar3==4)=false:=by simp[hk4]
 have HL:Hid (L=[x.inst]):=aj (by rw[sU.af];unfold jl;rw[if_neg hk1,if_neg hk2,if_neg hk3,if_neg hk4]);have c1:w2.cell? (ak xb 1)=some (ah x.inst.op):=aL lF.af rfl;have c2:w2.cell? (ak xb 2)=some (ah x.inst.a):=aL lF.af rfl;have c3:w2.cell? (ak xb 3)=some (ah x.inst.b):=aL lF.af rfl;have c4':w2.cell? (ak xb 4)=some (ah x.inst.c):=aL lF.af rfl;have c5:w2.cell? (ak xb 5)=some (ah x.inst.bU):=aL lF.af rfl;clear hk1 hk2 hk3 hk4 sU AJ AP HSub;go_wp2;go_ret;rw[HL.af];exact I5.mk' _ HB2.af arG (fun z hz=>by simp only[Y1,nW,or_false]at hz;subst hz;exact Hx.af.inst)
theorem afX (bW:Int) (k n:Nat) (out:List fu):(jS bW k n out).length=out.length+3*n:=(Kq bW n k out).1
theorem Xh {fs:List eH} {q:Nat} {f:eH} (h:fs[k]? =some f):∀l∈(fs.take k).flatMap (·.ar5)++f.ar5.take q,l∈fs.flatMap (·.ar5):=fun l hl=>by
 rcases List.mem_append.1 hl with h1 | h1
 ·obtain⟨g,hg,hl⟩:=TY.1 h1
  exact TY.2 ⟨g,Ub hg,hl⟩
 ·exact TY.2 ⟨f,dH h,Ub h1⟩
theorem Wx {ls:List dw} (hls:∀l∈ls,l∈s.ar5):(8*(lq s ls).length:Int)=bO ls:=by
 have h1:=nC (ar1:=s.ar1) (y:=aN s (aC s)) (p:=aC s) ls [] (fun l hl=>(uE s).ar5 l (hls l hl));have:=h1.2;simpa [lq] using this
theorem ahY (hM:gM B pb w sv s v (aC s)) (hB:B<=w) (hll:s.ar5.length<=2000) (hns:(aC s).av.length<=1000000):
  Calls asq 27 #[aQ pb] w (Ab 58 mh w (sI s)):=by
 obtain⟨iM,hnc⟩:=zi s;replace iM:(aC s).ar7.length<=2000:=wP;replace hnc:(aC s).cells.length<=4000:=wP;obtain⟨fa,fb,fo,fc,hf,hfm,_,hat⟩:=hM.spec.ar2.at;have dP:=aj hat;have ha:=hat.addr;have c4:=hM.c4;have c11:=hM.c11;obtain⟨ja,jc,hj⟩:=hM.ar7.form;rw[hf]at c4;rw[hj]at c11;have hpl:=hM.lt;have rG:=aj (fun (w':World) (hb:Below w w w') (x:dw) (at_:Int) (hx:wY x) (hm:x∈s.ar5) (ha:0<=at_/\at_<=900000)=>ahX x at_ hx ((uE s).ar5 x hm) ha (hM.below hB hb) (eG hB hb.size) hll iM hnc hns);have kE:=aj (fun (w':World) (hb:Below w w w') (m:Nat) (hm:m<=s.ar2.length)=>ze m hm (hM.below hB hb) (eG hB hb.size) hll);have DR:=aj (fun (w':World) (hb:Below w w w') (m:Nat) (hm:m<=2000)=>Ir m hm (hM.below hB hb) (eG hB hb.size) hll iM hnc);have hsl:s.ar5=s.ar2.flatMap (·.ar5):=rfl;have hsu:bO s.ar5=fC s.ar2 s.ar2.length:=by rw[hsl];unfold fC;rw[dF]
 have hgr:=rJ (p:=aC s) hll iM;have hP:(aN s (aC s)).bW=(aN s (aC s)).got+8*((aC s).cells.length:Int):=rfl;have hln:=kW s.ar5;have yx:=aj (fun (ls:List dw) (x:dw) (hls:∀l∈ls,l∈s.ar5) (hx:x∈s.ar5)=>acj hls hx);have Hlm:=aj (fun (k q:Nat) (f:eH) (h:s.ar2[k]? =some f)=>Xh (q:=q) h);have Hfm:=aj (fun (k:Nat) (f:eH) (h:s.ar2[k]? =some f)=>(show ∀x∈f.ar5,x∈s.ar5 from fun x hx=>TY.2 ⟨f,dH h,hx⟩));have HSs:=aj (fun (k:Nat) (f:eH) (h:s.ar2[k]? =some f)=>TN h);have Gr:=aj (fun k=>sw s.ar2 k);have qD:=aj (fun i f (h:s.ar2[i]? =some f)=>Nq h);have BQ:(s.ar2.flatMap (·.ar5)).length<=2000:=hll;have Hl8:=aj (Wx (s:=s) (ls:=s.ar5) (fun l h=>h));have HI:Hid (sI s=jS (aN s (aC s)).bW 0 (aC s).ar7.length (lq s s.ar5)):=aj rfl;obtain ⟨L,hL⟩:=aiG ((s.ar2.flatMap (·.ar5)).length);have hL3:=aj hL;rw[<-hL]at Gr qD BQ;obtain ⟨nf,hnf⟩:=aiG s.ar2.length;obtain ⟨nj,pQ⟩:=aiG ((aC s).ar7.length);have EK:=aj hnf;rw[<-hnf]at c4 hfm ha kE hsu;rw[<-pQ]at c11 iM HI;have Hsu:=aj hsu;have Hsl:=aj hsl;obtain ⟨pl,RV⟩:=aiG ((aN s (aC s)).bW);have hp1:0<=pl/\pl<=1100000:=wP;rw[<-RV]at HI DR;have ug:Hid (∀wr,Below w w wr->wr.cell? (ak pb 4)=some (.slice fa nf fc)):=aj (fun wr hb=>(hb.cell (p:=(ak pb 4)) hpl).trans c4);have R9:Hid (∀wr,Below w w wr->wr.cell? (ak pb 11)=some (.slice ja nj jc)):=aj (fun wr hb=>(hb.cell (p:=(ak pb 11)) hpl).trans c11);clear hM hf hat hj hnf pQ c4 c11 hL hsu hsl RV hgr hP hnc hll hns;go_enter Tryz.func27,Tryz.ntmps27;go_upto_block 0 with fail
 go_cut [3] (fun o wx=>eX 58 mh w.heap.size w wx o (lq s s.ar5))
 case first=>
  go_wp2_with fail;go_loopw [3,4] (fun o i wr=>∃k:Nat,i=ah k/\k<=nf/\eX 58 mh w.heap.size w wr o (lq s ((s.ar2.take k).flatMap (·.ar5)))) (fun _ i _=>nf-(intOf i).toNat);exact⟨0,rfl,alg _,eX.start _ _ _⟩;rename World=>w1
  obtain⟨k,rfl,hk,ho⟩:=hrel;have HO:=aj ho;have c4:=ug.af w1 ho.below;clear ho;by_cases hlt:k<nf
  ·obtain rfl:=ha wP
   obtain⟨f,hf⟩:∃f,s.ar2[k]? =some f:=⟨_,gP (by rw[<-EK.af];exact hlt)⟩;have Hf:=aj hf;have hkn:(k:Int)<(nf:Int):=wP;have zL:=aj (kE.af w1 HO.af.below k wP);have hbr:=Gr.af k;have hfl:=qD.af k f hf;obtain ⟨base,hbase⟩:=aiG (fC s.ar2 k);have akl:Hid (bO ((s.ar2.take k).flatMap (·.ar5))=base):=aj (by rw[hbase];rfl);rw[<-hbase]at zL hbr;have xS:Hid ((s.ar2.take (k+1)).flatMap (·.ar5)=(s.ar2.take k).flatMap (·.ar5)++f.ar5):=aj (nL hf);obtain ⟨ls,hls⟩:=aiG ((s.ar2.take k).flatMap (·.ar5));have OG:=aj (fun q=>Hlm.af k q f hf);rw[<-hls]at HO akl xS OG;have apO:=aj (Hfm.af k f hf);have HRl:=aj (fun j=>kW (f.ar5.take j));clear hf hbase hls;go_wp2_with fail;refine zL.af.mono ?_;rintro e w2 ⟨rfl,hb2⟩;have nV:=aj (HO.af.dW hb2);clear hb2 c4 zL HO;go_wp2_with fail;go_loopw [3,5,6] (fun o at_ j wr=>∃q:Nat,j=ah q/\q<=f.ar5.length/\at_=ah (base+bO (f.ar5.take q))/\eX 58 mh w.heap.size w wr o (lq s (ls++f.ar5.take q))) (fun _ _ j _=>f.ar5.length-(intOf j).toNat);exact⟨0,rfl,alg _,by simp[bO],by simpa using nV.af⟩;obtain⟨q,rfl,hq,rfl,ho3⟩:=hrel;have oo:=aj ho3;have c4:=ug.af wr ho3.below;obtain⟨lc,hlb,_,g0,g1,g2,g3,g4,g5,g6,g7,g8,g9⟩:=dP.af.xJ (ho3.below.mono hB) k f Hf.af;have Et:=hlb.below (ho3.below.mono hB);obtain⟨la,lb_,lo,jB,hlf,hlm,_,hlat⟩:=Et.at;have hla:=hlat.addr;subst hlf;obtain⟨oa,oc,rfl⟩:=ho3.own.form;obtain ⟨ln,afY⟩:=aiG f.ar5.length;have lI:=aj afY;rw[<-afY]at hq hlm hla g9 hfl;have ajz:=Wx (OG.af q);have hap:=mX ls (f.ar5.take q);have hr1:=(HRl.af q).1;have hr2:=(HRl.af q).2;have hr3:(f.ar5.take q).length<=q:=by rw[og];omega
   have hbb:=akl.af;have apP:0<=base+bO (f.ar5.take q)/\base+bO (f.ar5.take q)<=100000:=wP;have afZ:(8*(lq s (ls++f.ar5.take q)).length:Int)=base+bO (f.ar5.take q):=by rw[ajz,hap,hbb]
   by_cases xw:q<ln
   ·obtain rfl:=hla wP
    obtain⟨x,hx⟩:∃x,f.ar5[q]? =some x:=⟨_,gP (by rw[<-lI.af];exact xw)⟩;have hqi:(q:Int)<(ln:Int):=wP;obtain⟨hxo,k0,k1,k2,k3,k4,k5,k6,k7,k8⟩:=hlat.E9 q x hx;have hxm:=apO.af x (dH hx);have hts:f.ar5.take (q+1)=f.ar5.take q++[x]:=by rw[Qc,hx];rfl
    obtain⟨hs1,hs2,hs3⟩:=yx.af (ls++f.ar5.take q) x (OG.af q) hxm;rw[hap,hbb]at hs1 hs3;rw[List.append_assoc,<-hts]at hs1;have hnl:=JS hx;have hlr:=Jk x;obtain ⟨at_,KY⟩:=aiG (base+bO (f.ar5.take q));have HMx:=aj (rG.af wr oo.af.below x at_ hxo hxm wP);rw[show (jl s.ar1 (aN s (aC s)) x at_ (aC s)).2=Wv s x at_ from rfl]at HMx;rw[<-KY]at hs1 hs3 apP afZ ⊢;have Pf:Hid (base+bO (f.ar5.take (q+1))=at_+jZ x*8):=aj (by rw[hnl,KY];omega);obtain ⟨M,hMm⟩:=aiG (Wv s x at_);obtain ⟨O,hOo⟩:=aiG (lq s (ls++f.ar5.take q));rw[<-hMm]at hs1 hs3 HMx;rw[<-hOo]at hs1 oo afZ ⊢;have Hs1:=aj hs1;have Ur:M.length<=3:=wP;have hOl:O.length<=20000:=wP;have HMl:Hid ((8*M.length:Int)=jZ x*8):=aj hs3;obtain ⟨ml,Dm⟩:=aiG M.length;have Hml:=aj Dm;obtain ⟨ol,hol⟩:=aiG O.length;have sj:=aj hol;rw[<-Dm]at Ur HMl;rw[<-hol]at hOl oo ⊢;clear ho3 hlb Et hlat afY ajz hap hx hxo hxm hts hs1 hs2 hs3 hnl KY hMm hOo Dm hol afZ hr1 hr2 hr3 hbb g0 g1 g2 g3 g4 g5 g6 g7 g8;go_wp2_with fail;refine HMx.af.mono ?_;rintro e w4 ⟨r,rfl,hr,hb4⟩;have HR4:=aj hr;obtain⟨ra,rb,ro,rc,rfl,hrm,_,j3⟩:=hr.at;have BV:=aj (oo.af.dW hb4);have Co:=BV.af.hB;rw[<-Hml.af]at HR4 hrm ⊢;clear hr hb4 j3 k0 k1 k2 k3 k4 k5 k6 k7 k8 g9 c4 oo HMx;go_wp2_with (at_builtin;go_loud (refine mZ (v:=.slice oa ol oc) (l:=O) KP 85 (.agg #[ah 0,ah 0,ah 0,ah 0,ah 0]) 40 Tryz.underlying85 Iw rfl rfl (.tmp 52) (.tmp 53) rfl rfl BV.af.own (fun b hb=>hb.elim) (.slice ra ml rc) M rfl HR4.af (by have:=Hml.af;have:=sj.af;omega) (by have:=Hml.af;have:=sj.af;omega) Co ?_));intro v7 w7 fG hs7 GL;have kT:=aj (BV.af.append rE fG hs7);have o1:IntKind.i64.wrap (8*(ml:Int))=8*(ml:Int):=iJ _ wP;have o2:IntKind.i64.wrap (at_+8*(ml:Int))=at_+jZ x*8:=by rw[HMl.af];exact iJ _ wP
    clear fG hs7 GL BV HR4;go_wp2;go_roundw;exact⟨q+1,arH,by have:=lI.af;omega,by rw[Pf.af],by rw[Hs1.af];exact kT.af⟩;have:=lI.af;simp[intOf];omega
   ·have HE:Hid (eX 58 mh w.heap.size w wr (.slice oa (lq s (ls++f.ar5.take q)).length oc) (lq s ((s.ar2.take (k+1)).flatMap (·.ar5)))):=aj (by
     have h:=oo.af;rw[xS.af];rw[dh (by have:=lI.af;omega)]at h ⊢;exact h)
    generalize (lq s (ls++f.ar5.take q)).length=zl at *;clear ho3 hlb Et hlat afY ajz hap afZ hr1 hr2 hr3 hbb g0 g1 g2 g3 g4 g5 g6 g7 g8;go_wp2;go_roundw;exact⟨k+1,arH,wP,HE.af⟩;simp[intOf];omega
  ·have HE:Hid (eX 58 mh w.heap.size w w1 _ (lq s s.ar5)):=aj (by
    have h:=HO.af;rw[dh (by have:=EK.af;omega)]at h;rw[Hsl.af];exact h)
   go_wp2_with fail;go_meet;exact HE.af
 case rest=>
 have HO:=aj hcut;rename World=>w5
 have c4:=ug.af w5 hcut.below;have zL:=aj (kE.af w5 hcut.below nf (oD _));rw[<-Hsu.af]at zL;obtain ⟨base,hbase⟩:=aiG (bO s.ar5);obtain ⟨LS,hLS⟩:=aiG (lq s s.ar5);have Qt:=Hl8.af;rw[<-hLS]at HO HI Qt;rw[<-hbase]at zL hln Qt
 have hb2:base<=48000:=by
  have e:s.ar5.length=L:=by rw[Hsl.af,hL3.af]
  omega
 have Hl9:Hid (8*(LS.length:Int)=base):=aj Qt;have Hlen:=aj (fun k=>afX pl 0 k LS);clear hcut hbase hLS kE Qt Hl8;go_wp2_with fail;refine zL.af.mono ?_;rintro e w6 ⟨rfl,hb6⟩;have zG:=aj (HO.af.dW hb6);clear hb6 zL HO c4;go_wp2_with fail;go_loopw [3,8,9] (fun o at_ i wr=>∃k:Nat,i=ah k/\k<=nj/\at_=ah (base+24*(k:Int))/\eX 58 mh w.heap.size w wr o (jS pl 0 k LS)) (fun _ _ i _=>nj-(intOf i).toNat);exact⟨0,rfl,alg _,arG,zG.af⟩;obtain⟨k,rfl,hk,rfl,ho⟩:=hrel;have HO:=aj ho;have c11:=R9.af wr ho.below;obtain⟨oa,oc,rfl⟩:=ho.own.form;have hol:=Hlen.af k;by_cases hlt:k<nj
 ·have hkn:(k:Int)<(nj:Int):=wP
  have zL:=aj (DR.af wr ho.below k wP);have hsn:=Jl pl k 0 LS;have h8:8*((jS pl 0 k LS).length:Int)=base+24*(k:Int):=by rw[hol];have:=Hl9.af;push_cast;omega
  rw[h8,bE]at hsn;have Xi:=aj hsn;obtain ⟨O,hOo⟩:=aiG (jS pl 0 k LS);rw[<-hOo]at HO Xi hol ⊢;obtain ⟨ol,Al⟩:=aiG O.length;have sj:=aj Al;rw[<-Al]at hol HO ⊢;have hl9:=Hl9.af;obtain ⟨i1,hi1⟩:=aiG (pl+8*(k:Int)-(base+24*(k:Int))-8);rw[<-hi1]at Xi;have o1:IntKind.i64.wrap (pl+8*(k:Int)-(base+24*(k:Int)))=pl+8*(k:Int)-(base+24*(k:Int)):=iJ _ wP;have o2:IntKind.i64.wrap (pl+8*(k:Int)-(base+24*(k:Int))-8)=i1:=by rw[hi1];exact iJ _ wP
  have o3:IntKind.i64.wrap (base+24*(k:Int)+24)=base+24*((k+1:Nat):Int):=by rw[iJ _ wP];push_cast;omega
  have hi2:jV i1:=⟨wP,wP⟩;have Hi2:=aj hi2;have hob:ol<=20000:=wP;clear ho hsn h8 hOo Al hi1 hi2 hol hl9;go_wp2_with fail;refine zL.af.mono ?_;rintro e w7 ⟨rfl,uN⟩;have kT:=aj (HO.af.dW uN)
  have vJ:Hid (LB mh (fun b=>b=w7.heap.size) (w7.alloc (aB #[ah 11,ah 14,ah 0,ah 0,ah i1,ah 17,ah 14,ah 0,ah 0,ah 0,ah 22,ah 0,ah 0,ah 0,ah (k:Int)] 58)) (.slice (some ⟨w7.heap.size,0,none⟩) 3 3) [⟨11,14,0,0,i1⟩,⟨17,14,0,0,0⟩,⟨22,0,0,0,(k:Int)⟩]):=aj (KM w7 [⟨11,14,0,0,i1⟩,⟨17,14,0,0,0⟩,⟨22,0,0,0,(k:Int)⟩] arG (fun z hz=>by
   simp only[Y1,nW,or_false]at hz;rcases hz with rfl | rfl | rfl
   ·exact jw abD abD abD abD Hi2.af
   ·exact jw abD abD abD abD abD
   ·exact jw abD abD abD abD ⟨wP,wP⟩))
  have Cs:=aj (kT.af.alloc (aB #[ah 11,ah 14,ah 0,ah 0,ah i1,ah 17,ah 14,ah 0,ah 0,ah 0,ah 22,ah 0,ah 0,ah 0,ah (k:Int)] 58));have Ps:=Cs.af.hB;clear uN zL HO kT c11;go_wp2_with (at_builtin;go_loud (refine mZ (v:=.slice oa ol oc) (l:=O) KP 85 (.agg #[ah 0,ah 0,ah 0,ah 0,ah 0]) 40 Tryz.underlying85 Iw rfl rfl (.tmp 77) (.tmp 88) rfl rfl Cs.af.own (fun b hb=>hb.elim) (.slice (some ⟨w7.heap.size,0,none⟩) 3 3) [⟨11,14,0,0,i1⟩,⟨17,14,0,0,0⟩,⟨22,0,0,0,(k:Int)⟩] rfl vJ.af (by have:=sj.af;simp;omega) (by have:=sj.af;simp;omega) Ps ?_));intro v9 w9 EC kZ hn9;have Gs:=aj (Cs.af.append rE EC (kZ.imp (fun b hb=>⟨by have h:=hb.1;first | exact h | (rwa [lW]at h),hb.2⟩)));clear EC kZ hn9 Cs vJ;go_wp2;go_roundw;exact⟨k+1,arH,wP,rfl,by rw[Xi.af];exact Gs.af⟩;simp[intOf];omega
 ·have HE:Hid (eX 58 mh w.heap.size w wr (.slice oa (jS pl 0 k LS).length oc) (sI s)):=aj (by
   have e:k=nj:=wP;rw[HI.af,<-e];exact HO.af)
  generalize (jS pl 0 k LS).length=zl at *;clear ho hol;go_wp2;go_ret;exact⟨_,rfl,HE.af.own,HE.af.below⟩
def aby (w:World) (x:Option (List Int)) (e:Ending) (w':World):Prop:=
 (∃l r,x=some l/\e=.returned (.tuple #[r,ah 0])/\aX 3 dJ w.heap.size (fun _=>False) w' r l/\Below w w w')∨(x=none/\e=.returned (.tuple #[au,ah 103])/\Below w w w')
theorem Wy {p:aA} (u:Value) (names:List (List UInt8)) (hu:LB lG (·<B) w u names) (hnm:names.length<=2000) (hM:gM B pb w sv s v p) (hB:B<=w) (hll:s.ar5.length<=2000) (hfn:s.ar2.length<=2000):
  Calls asq 22 #[aQ pb,u] w (aby w (fH s names)):=by
 obtain⟨na,nb,no,nc,rfl,EH,_,wN⟩:=hu.at;have Cx:=aj wN;have hna:=wN.addr;obtain⟨fa,fb,fo,fc,hf,hfm,_,hat⟩:=hM.spec.ar2.at;have dP:=aj hat;have ha:=hat.addr;have c4:=hM.c4;rw[hf]at c4;have hpl:=hM.lt;have kE:=aj (fun (w':World) (hb:Below w w w') (m:Nat) (hm:m<=s.ar2.length)=>ze m hm (hM.below hB hb) (eG hB hb.size) hll);obtain ⟨R,hR⟩:=aiG (fH s names);have HR:=aj hR;rw[<-hR];have xV:=aj (fun (n:List UInt8) (k:Nat) (f:eH) (h:s.ar2[k]? =some f)=>afO (n:=n) h);have HEn:=aj (fun (n:List UInt8)=>ahQ s n);have HZe:=aj (fun (n:List UInt8)=>afP s n);obtain ⟨nf,hnf⟩:=aiG s.ar2.length;obtain ⟨nn,hnn⟩:=aiG names.length;have EK:=aj hnf;have Hnn:=aj hnn;rw[<-hnf]at c4 hfm ha kE HEn hfn;rw[<-hnn]at EH hna hnm ⊢;have ug:Hid (∀wr,Below w w wr->wr.cell? (ak pb 4)=some (.slice fa nf fc)):=aj (fun wr hb=>(hb.cell (p:=(ak pb 4)) hpl).trans c4);have Hnb:Hid (0<nn->nb<w):=aj (fun h=>akb (wN.mG (by rw[<-hnn];exact h)) hB);clear hM hu wN hf hat hnf hnn c4 hR hll;go_enter Tryz.func22,Tryz.ntmps22;go_wp2_with fail;go_loopw [6,7] (fun o i wr=>∃(k:Nat) (l:List Int),i=ah k/\k<=nn/\fH s (names.take k)=some l/\l.length=k/\eX 3 dJ w.heap.size w wr o l) (fun _ i _=>nn-(intOf i).toNat);exact⟨0,[],rfl,alg _,rfl,rfl,eX.start _ _ _⟩;rename World=>w1
 obtain⟨k,l,rfl,hk,had,hlk,ho⟩:=hrel;have Had:=aj had;obtain⟨oa,oc,rfl⟩:=ho.own.form;have HO:=aj ho;rw[hlk]at HO ⊢;have Hlk:=aj hlk;have c4:=ug.af w1 ho.below;clear ho had hlk;by_cases hlt:k<nn
 ·obtain rfl:=hna wP
  obtain⟨n,hn⟩:∃n,names[k]? =some n:=⟨_,gP (by rw[<-Hnn.af];exact hlt)⟩;have hkn:(k:Int)<(nn:Int):=wP;have hnb:=Hnb.af wP;have EF:=aj (Cx.af.I7 k n hn).1;have Hk:=aj hn;have apQ:=aj (xV.af n);have apR:=aj (HEn.af n);have HZn:=aj (HZe.af n);have o0:IntKind.i64.wrap ((nf:Int)-1)=(nf:Int)-1:=iJ _ wP;clear hn;go_wp2_with fail;go_loopw [8,9] (fun at_ i wr=>∃(q:Nat) (z:Int),i=ah z/\z=(q:Int)-1/\q<=nf/\at_=ah (sH s n q)/\eX 3 dJ w.heap.size w wr (.slice oa k oc) l) (fun _ i _=>(intOf i+1).toNat);exact⟨nf,(nf:Int)-1,rfl,rfl,oD _,by rw[apR.af],HO.af⟩;obtain⟨q,z,rfl,hz,hq,rfl,ho2⟩:=hrel;have nV:=aj ho2;have c4:=ug.af wr ho2.below;have e0:=(ho2.below.cell (p:=(ak nb (no+k))) hnb).trans EF.af;rcases q with _ | m
  ·obtain rfl:z= -1:=by simpa using hz
   clear hz;obtain ⟨F,hF⟩:=aiG (sH s n 0);rw[<-hF]at HZn ⊢;rcases HZn.af with ⟨h0,hnone⟩ | ⟨h0,j,hj,hjs⟩
   ·have HB:=aj (ahR Hk.af hnone)
    have HRn:Hid (R=none):=aj (by rw[HR.af];exact HB.af);clear hnone ho2 hF;go_wp2;go_ret2;exact aZ ⟨HRn.af,rfl,nV.af.below⟩
   ·have HAn:=aj (afQ Had.af Hk.af hj)
    rw[hjs]at HAn;have hFn:¬F<0:=wP;have HX:=aj (ah2 wr (aB #[ah F] 3));have oo:=aj (nV.af.alloc (aB #[ah F] 3));have hz3:=oo.af.hB;clear hj hjs ho2 hF h0;go_wp2_with (at_builtin;go_loud (refine fZ (K:=dJ) (v:=.slice oa k oc) (e:=3) (B:=w.heap.size) (E:=fun _=>False) 41 (ah 0) 8 Tryz.underlying41 qg rfl abD rfl (.tmp 60) (.tmp 62) rfl k Hlk.af rfl oo.af.own (fun _ h=>h.elim) wr.heap.size F [ah F] rfl (aD HX.af) (by intro u hu;simp at hu;subst hu;rfl) rfl (by rw[Hlk.af];omega) (by rw[Hlk.af];omega) hz3 ?_));intro g7 c7 w7 fG hs7 uf;have kT:=aj (oo.af.append dN fG (hs7.imp (fun b hb=>⟨by have h:=hb.1;first | exact h | (rwa [lW]at h),hb.2⟩)));clear fG hs7 uf;go_wp2;go_roundw;exact⟨k+1,_,arH,wP,HAn.af,by rw[Kk,Hlk.af];rfl,kT.af⟩;simp[intOf];omega
  ·obtain rfl:z=(m:Int):=by rw[hz];push_cast;omega
   obtain rfl:=ha wP;obtain⟨f,hf⟩:∃f,s.ar2[m]? =some f:=⟨_,gP (by rw[<-EK.af];omega)⟩;have hmn:(m:Int)<(nf:Int):=wP;obtain⟨_,_,_,g0,g1,g2,g3,g4,g5,g6,g7,g8,g9⟩:=dP.af.xJ (ho2.below.mono hB) m f hf;have HSm:=aj (apQ.af m f hf);have o1:IntKind.i64.wrap ((m:Int)-1)=(m:Int)-1:=iJ _ wP;obtain ⟨F0,hF0⟩:=aiG (sH s n (m+1));have HF0:=aj hF0;rw[<-hF0];clear hz ho2 hf g1 g3 g4 g5 g6 g7 g8 g9 hF0;by_cases hne:f.sym.arT=n
   ·have hb:(f.sym.arT==n)=true:=by simp[hne]
    cases hol:f.sym.old with
    | true=>
     rw[hol]at g2;have HS:Hid (sH s n m=F0):=aj (by rw[HSm.af,HF0.af];simp[isNamed,hol]);clear hne hol HSm;have c4L:∀x:Later wr,x.w'.cell? (ak pb 4)=some (.slice (some ⟨fb,fo,none⟩) nf fc):=fun x=>x.cell c4
     have e0L:∀x:Later wr,x.w'.cell? (ak nb (no+k))=some (ax n):=fun x=>x.cell e0
     have g0L:∀x:Later wr,x.w'.cell? (ak fb (fo+m*10))=some (ax f.sym.arT):=fun x=>x.cell g0
     have g2L:∀x:Later wr,x.w'.cell? (ak fb (fo+m*10+2))=some (.bool true):=fun x=>x.cell g2
     clear c4 e0 g0 g2;go_upto_region 9 with fail
     refine dG TA TA ?_
     repeat (go_big_quiet_step (fail))
     refine lD ?_;rintro wq ⟨⟨_,hq⟩,rfl⟩;try simp only at hq
     have HOq:=aj (nV.af.dW hq);clear hq c4L e0L g0L g2L;go_wp2;go_roundw;exact⟨m,_,rfl,rfl,wP,by rw[HS.af],HOq.af⟩;simp[intOf]<;>omega
    | false=>
     rw[hol]at g2;have HS:Hid (sH s n m=fC s.ar2 m):=aj (by rw[HSm.af];simp[isNamed,hol,hne]);clear hne hol HSm;have c4L:∀x:Later wr,x.w'.cell? (ak pb 4)=some (.slice (some ⟨fb,fo,none⟩) nf fc):=fun x=>x.cell c4
     have e0L:∀x:Later wr,x.w'.cell? (ak nb (no+k))=some (ax n):=fun x=>x.cell e0
     have g0L:∀x:Later wr,x.w'.cell? (ak fb (fo+m*10))=some (ax f.sym.arT):=fun x=>x.cell g0
     have g2L:∀x:Later wr,x.w'.cell? (ak fb (fo+m*10+2))=some (.bool false):=fun x=>x.cell g2
     clear c4 e0 g0 g2;go_upto_region 9 with fail
     refine dG TA TA ?_
     repeat (go_big_quiet_step (fail))
     refine lD ?_;rintro wq ⟨⟨_,hq⟩,rfl⟩;try simp only at hq
     have HOq:=aj (nV.af.dW hq);clear hq c4L e0L g0L g2L;have zL:=aj (kE.af wq HOq.af.below m wP);rw[<-HS.af]at zL;go_wp2_with fail;refine zL.af.mono ?_;rintro e w5 ⟨rfl,hb5⟩;have sV:=aj (HOq.af.dW hb5);clear hb5 nV HOq;go_wp2;go_roundw;exact⟨m,_,rfl,rfl,wP,rfl,sV.af⟩;simp[intOf]<;>omega
   ·have hb:(f.sym.arT==n)=false:=by simp[hne]
    have HS:Hid (sH s n m=F0):=aj (by rw[HSm.af,HF0.af];simp[isNamed,hne]);clear hne HSm;have c4L:∀x:Later wr,x.w'.cell? (ak pb 4)=some (.slice (some ⟨fb,fo,none⟩) nf fc):=fun x=>x.cell c4
    have e0L:∀x:Later wr,x.w'.cell? (ak nb (no+k))=some (ax n):=fun x=>x.cell e0
    have g0L:∀x:Later wr,x.w'.cell? (ak fb (fo+m*10))=some (ax f.sym.arT):=fun x=>x.cell g0
    have g2L:∀x:Later wr,x.w'.cell? (ak fb (fo+m*10+2))=some (.bool f.sym.old):=fun x=>x.cell g2
    clear c4 e0 g0 g2;go_upto_region 9 with fail
    refine dG TA TA ?_
    repeat (go_big_quiet_step (fail))
    refine lD ?_;rintro wq ⟨⟨_,hq⟩,rfl⟩;try simp only at hq
    have HOq:=aj (nV.af.dW hq);clear hq c4L e0L g0L g2L;go_wp2;go_roundw;exact⟨m,_,rfl,rfl,wP,by rw[HS.af],HOq.af⟩;simp[intOf]<;>omega
 ·have HE:Hid (R=some l):=aj (by
   have h:=Had.af;have e:names.take k=names:=dh (by have:=Hnn.af;omega);rw[e]at h;rw[HR.af];exact h)
  go_wp2;go_ret2;exact aH ⟨l,_,HE.af,rfl,by rw[<-Hlk.af]at HO ⊢;exact HO.af.own,HO.af.below⟩
theorem af0 (w:World) (i:fu) (h:gJ i=true):
  Calls asq 71 #[.agg (arW i)] w fun e w'=>∃r,e=.returned r/\LB fq (fun b=>w.heap.size<=b) w' r (o8 i)/\Below w w w':=by
 obtain⟨f,-,h0,h1,ha,hb,hc,hn⟩:=QZ h;have hn:=qb hn
 obtain⟨m,hm,hm2,PO⟩:∃m:Nat,(m:Int)=(if i.bU<0 then i.bU+4294967296 else i.bU)/\m<4294967296/\((m:Int)-i.bU)%4294967296=0:=by
  refine⟨(if i.bU<0 then i.bU+4294967296 else i.bU).toNat,?_,?_,?_⟩<;>split<;>omega
 have eT:=aj (ah2 w (aB (arW i) 58));have HB1:=aj ((PZ w.heap.size w).alloc (oD _) (aB (arW i) 58));clear h ha hb hc;go_enter Tryz.func71,Tryz.ntmps71;go_upto_region 1 with fail
 generalize w.alloc (aB (arW i) 58)=w1 at *;have d0:w1.cell? (ak w 0)=some (ah i.op):=aL eT.af rfl;have d1:w1.cell? (ak w 1)=some (ah i.a):=aL eT.af rfl;have d2:w1.cell? (ak w 2)=some (ah i.b):=aL eT.af rfl;have d3:w1.cell? (ak w 3)=some (ah i.c):=aL eT.af rfl;have d4:w1.cell? (ak w 4)=some (ah i.bU):=aL eT.af rfl;have Hm3:=aj PO;have b0:=yL i.op;have b1:=yL i.a;have b2:=yL i.b;have b3:=yL i.c;go_upto_if 7 with fail
 go_cut [3] (fun x wx=>x=ah (m:Int)/\wx=w1)
 case first=>
  by_cases hlt:i.bU<0
  ·rw[if_pos hlt]at hm
   have o1:IntKind.i64.wrap (i.bU+4294967296)=(m:Int):=by rw[iJ _ wP];omega
   clear hm;go_wp2_with fail;go_meet;exact⟨rfl,rfl⟩
  ·rw[if_neg hlt]at hm
   have Hm:=aj hm;clear hm;go_wp2_with fail;go_meet;exact⟨by rw[Hm.af],rfl⟩
 case rest=>
 obtain⟨rfl,rfl⟩:=hcut;rename World=>w1
 have hmm:IntKind.u32.wrap i.bU=(m:Int):=by rw[IntKind.wrap_u32];omega
 have e4:=AL i.bU 0 wP;have e5:=AL i.bU 1 wP;have e6:=AL i.bU 2 wP;have e7:=AL i.bU 3 wP;rw[hmm]at e4 e5 e6 e7;simp only[Nat.mul_zero,Int.pow_zero,Nat.mul_one,Nat.reduceMul,Int.ediv_one]at e4 e5 e6 e7;have e4':(m:Int)%256=((jI i.bU 0).toNat:Int):=by rw[<-e4,Uk]
 have e5':(m:Int)/256%256=((jI i.bU 1).toNat:Int):=by rw[<-e5,Uk];rfl
 have e6':(m:Int)/65536%256=((jI i.bU 2).toNat:Int):=by rw[<-e6,Uk];rfl
 have e7':(m:Int)/16777216=((jI i.bU 3).toNat:Int):=by
  have h:(m:Int)/16777216%256=((jI i.bU 3).toNat:Int):=by rw[<-e7,Uk];rfl
  omega
 clear hm PO hn hmm e4 e5 e6 e7;go_wp2;go_ret;have hl:=aaA w1 (o8 i) (by simp[o8]);exact⟨_,rfl,hl.imp (fun b hb=>by rw[hb];exact HB1.af.size),HB1.af.alloc HB1.af.size _⟩
theorem aco (w:World) (u:Value) (is:List fu) (hu:LB mh S w u is) (hS:∀b,S b->b<w.heap.size) (hl:is.length<=200000) (hok:is.all gJ=true):
  Calls asq 26 #[u] w fun e w'=>∃r,e=.returned (.tuple #[r,ah 0])/\aX 5 fq w.heap.size (fun _=>False) w' r (ky is)/\Below w w w':=by
 obtain⟨ua,ub,uo,uc,rfl,EH,_,wN⟩:=hu.at;have dP:=aj wN;have Nk:=wN.addr;have HS:=aj hS;have HOk:=aj (fun x (hx:x∈is)=>List.all_eq_true.1 hok x hx);obtain ⟨n,hn⟩:=aiG is.length;have Hn:=aj hn;rw[<-hn]at EH Nk hl ⊢;clear hu wN hS hok hn;go_enter Tryz.func26,Tryz.ntmps26;go_wp2_with fail;go_loopw [4,5] (fun o i wr=>∃k:Nat,i=ah k/\k<=n/\eX 5 fq w.heap.size w wr o (ky (is.take k))) (fun _ i _=>n-(intOf i).toNat);exact⟨0,rfl,alg _,eX.start _ _ _⟩;obtain⟨k,rfl,hk,ho⟩:=hrel;obtain⟨oa,oc,rfl⟩:=ho.own.form;by_cases hlt:k<n
 ·obtain rfl:=Nk wP
  obtain⟨x,hx⟩:∃x,is[k]? =some x:=⟨_,gP (by rw[<-Hn.af];exact hlt)⟩;have hkn:(k:Int)<(n:Int):=wP;have hxb:=HOk.af x (dH hx);have hub:ub<w:=HS.af _ (dP.af.mG (by rw[<-Hn.af];omega));obtain⟨row,hrow,hcell⟩:=dP.af.row k x hx;obtain⟨rfl,hxo⟩:=hrow;have HC:Hid (∀wr,Below w w wr->∀j v,(tL x)[j]? =some v->wr.cell? (ak ub (uo+k*5+j))=some v):=aj (fun wr hb j v hv=>(hb.cell (p:=(ak ub (uo+k*5+j))) hub).trans (hcell j v hv));have d0:wr.cell? (ak ub (uo+k*5))=some (ah x.op):=HC.af wr ho.below 0 _ rfl;have d1:=HC.af wr ho.below 1 (ah x.a) rfl;have d2:=HC.af wr ho.below 2 (ah x.b) rfl;have d3:=HC.af wr ho.below 3 (ah x.c) rfl;have d4:=HC.af wr ho.below 4 (ah x.bU) rfl;have HM:=aj (ai2 wr x hxb);have HBy:=aj (fun w=>af0 w x hxb);have lm:=aj (TK hx)
  have hcl:(ky (is.take k)).length<=1600000:=by
   have h:∀l:List fu,(ky l).length=8*l.length:=fun l=>by
    induction l with
    | nil=>rfl
    | cons a l ih=>
     have e:ky (a :: l)=o8 a++ky l:=rfl;rw[e,Kk,ih,show(o8 a).length=8 from rfl,oF];omega
   rw[h,og];have:min k is.length<=k:=iK _ _;omega
  obtain ⟨O,hO⟩:=aiG (ky (is.take k));obtain ⟨bs,hbs⟩:=aiG (o8 x);have hbl:bs.length=8:=by rw[hbs];rfl
  rw[<-hO]at ho lm hcl ⊢;rw[<-hbs]at HBy lm;obtain ⟨ol,hol⟩:=aiG O.length;have sj:=aj hol;rw[<-hol]at ho hcl ⊢;have HO:=aj ho;have zk:=aj hbl;clear ho hx hcell hO hbs hol hxb hxo hbl;go_wp2_with fail;refine HM.af.mono ?_;rintro e w2 ⟨rfl,hb2⟩;have nV:=aj (HO.af.dW hb2);clear hb2 d0 d1 d2 d3 d4 HO HM;have d0:w2.cell? (ak ub (uo+k*5))=some (ah x.op):=HC.af w2 nV.af.below 0 _ rfl;have d1:=HC.af w2 nV.af.below 1 (ah x.a) rfl;have d2:=HC.af w2 nV.af.below 2 (ah x.b) rfl;have d3:=HC.af w2 nV.af.below 3 (ah x.c) rfl;have d4:=HC.af w2 nV.af.below 4 (ah x.bU) rfl;go_wp2_with fail;refine(HBy.af w2).mono ?_;rintro e w3 ⟨r,rfl,hr,hb3⟩;have HR:=aj hr;obtain⟨ra,rc,rfl⟩:=hr.form;have oo:=aj (nV.af.dW hb3);have hz3:=oo.af.hB;rw[zk.af]at HR ⊢;clear hr hb3 d0 d1 d2 d3 d4 nV;go_wp2_with (at_builtin;go_loud (refine oH (v:=.slice oa ol oc) (l:=O) nI 42 (.int .u8 0) 1 Tryz.underlying42 mW rfl rfl (.tmp 18) (.tmp 23) rfl rfl oo.af.own (fun b hb=>hb.elim) (.slice ra 8 rc) bs rfl HR.af (by have:=sj.af;have:=zk.af;omega) (by have:=sj.af;have:=zk.af;omega) hz3 ?_));intro v7 w7 fG hs7 GL;have kT:=aj (oo.af.append jd fG hs7);clear fG hs7 GL oo HR;go_wp2;go_roundw;exact⟨k+1,arH,wP,by rw[lm.af];exact kT.af⟩;simp[intOf];omega
 ·have HE:Hid (eX 5 fq w.heap.size w wr (.slice oa (ky (is.take k)).length oc) (ky is)):=aj (by
   have h:=ho;have e:is.take k=is:=dh (by have:=Hn.af;omega);rw[e]at h ⊢;exact h)
  generalize (ky (is.take k)).length=zl at *;clear ho;go_wp2;go_ret2;exact⟨_,rfl,HE.af.own,HE.af.below⟩
theorem Jo (y:pK) (j:Int):∀(l:List Int) (k:Nat),kC y k (l++[j])=kC y k l++[⟨y.bW+8*((k+l.length:Nat):Int),j,y.aS+(3*((k+l.length:Nat):Int)+2)*8⟩]
 | [],k=>by simp[kC]
 | x :: l,k=>by
  have h:=Jo y j l (k+1);rw[Aa];simp only[kC,oF,Aa];rw[h,show k+1+l.length=k+(l.length+1) by omega]
theorem Fy (y:pK):∀(l:List Int) (k:Nat),(kC y k l).length=l.length
 | [],_=>rfl
 | x :: l,k=>by simp[kC,Fy y l]
theorem YI (bT:pu s):∀x∈kC (aN s (aC s)) 0 (bM s).ar7,FQ x:=by
 have hbd:=zO bT (mU bT);have hpl:=(NE bT).2;have hsz:=(vQ bT).1;unfold aA.sz at hsz;obtain ⟨y,hy⟩:=aiG (aN s (aC s));rw[<-hy]at hbd ⊢;have hp:=hbd.bW;have hs:=hbd.aS
 have h:∀(l:List Int) (k:Nat),k+l.length<=40000->(∀j∈l,0<=j/\j<=40000)->∀x∈kC y k l,FQ x:=by
  intro l
  induction l with
  | nil=>intro k _ _ x hx;cases hx
  | cons j l ih=>
   intro k hk hl x hx;rw[oF]at hk;rcases Y1.1 hx with rfl | hx
   ·have:=hl j (List.mem_cons_self ..)
    unfold FQ;refine⟨?_,?_,?_⟩
    ·show _<=j/\j<=_;omega
    ·show _<=y.bW+8*(k:Int)/\y.bW+8*(k:Int)<=_;omega
    ·show _<=y.aS+(3*(k:Int)+2)*8/\y.aS+(3*(k:Int)+2)*8<=_;omega
   ·exact ih (k+1) wP (fun j hj=>hl j (List.mem_cons_of_mem _ hj)) x hx
 exact h _ 0 wP hpl
theorem apB {w5:World} {own:Int} {vv:Value} {ib:Nat} {dO iv:jv} {gY:bK} {A:Nat->Prop} (hF:oP [(1,aQ w),(2,aQ (w+1)),(3,ah 0),(4,aQ (w+2)),(5,aQ lb),(6,aQ ib)] a) (hC:pR w sv s w5 own v fv vv lb ib dO gY iv im A) (bT:pu s) (hsl:dO.asf=au)
  (hK:∀a' wc o,oP [(1,aQ w),(2,aQ (w+1)),(3,ah 0),(4,aQ (w+2)),(5,aQ lb),(6,aQ ib)] a'->pR w sv s wc own v fv vv lb ib {dO with asf:=o } gY {iv with asf:=o } {im with asf:=kC (aN s (aC s)) 0 (bM s).ar7 } (fun b=>A b∨(w5.heap.size<=b/\b<wc))->(bL Tryz.f6 20).wp asq (bodyPost asq Tryz.f6 (gN w s)) a' wc):(bL Tryz.f6 19).wp asq (bodyPost asq Tryz.f6 (gN w s)) a w5:=by
 have HK:=aj hK;have HC:=aj hC;have hib:=hC.vP;have h0:=hC.h0;have hbd:=zO bT (mU bT);have hps:=(vQ bT).1;have iy:=aj (YI bT);have apC:=hbd.bW;have apD:=hbd.aS;obtain⟨EM,jb_,jo_,EN,uL,hjm,anN,CP⟩:=((aX.lb (hC.plan.ar7.fJ dN (E':=fun b=>b=ib) (fun g hg e=>hC.vI (aZ (aZ (e ▸ hg)))))).imp (S':=fun b=>b<w5/\b≠ib) (fun b hb=>hb)).at;have amB:=CP.addr;have Xd:=aj CP;have c12:=hC.plan.c12;rw[uL]at c12;obtain ⟨nj,iM⟩:=aiG ((bM s).ar7.length);have Cr:=aj iM;rw[<-iM]at c12 hjm anN amB;have pQ:nj<=40000:=by unfold aA.sz at hps;omega
 have Hlx:=aj hC.lx;obtain ⟨bW,hp1⟩:=aiG ((aN s (aC s)).bW);obtain ⟨aS,hs1⟩:=aiG ((aN s (aC s)).aS);have amC:=aj hp1;have amD:=aj hs1;rw[<-hp1]at apC;rw[<-hs1]at apD;have kF:Hid (w5.heap[ib]? =some (aB #[ax gY.arT,ah gY.ar4,dO.aI,dO.ar6,dO.aF,dO.av,dO.ar9,dO.ar8,ah gY.ase,dO.aO,au,dO.asb,dO.aP,dO.bf,ah gY.aJ] 44)):=aj (by have h:=hC.ix;unfold aW at h;rwa [hsl]at h);have l0:=aD hC.lx 0 _ rfl;clear hC hK bT hsl hbd hps iM uL CP hp1 hs1;have e19:bL Tryz.f6 19=.seq (cZ Tryz.f6 19) (bL Tryz.f6 20):=fV _ 19 TA;rw[e19];clear e19;apply z7O.elim hF;clear hF;intro _;intro V1;intro V2;intro V3;intro V4;intro V5;intro V6
 iterate 240 (intro _)
 intro hF;obtain⟨-,-,e1,e2,e3,e4,e5,e6,-⟩:=hF;replace e1:V1=aQ w:=e1;subst e1;replace e2:V2=aQ (w+1):=e2;subst e2;replace e3:V3=ah 0:=e3;subst e3;replace e4:V4=aQ (w+2):=e4;subst e4;replace e5:V5=aQ lb:=e5;subst e5;replace e6:V6=aQ ib:=e6;subst e6
 conv in cZ _ 19=>whnf
 obtain ⟨Bs,hBs⟩:=aiG w5.heap.size;have xg:=aj hBs;have hiB:ib<Bs:=wP;clear hBs;go_wp2_with fail;clear l0 c12;go_loopw [200] (fun i wr=>∃k:Nat,i=ah k/\k<=nj/\∃o,wr.heap[ib]? =some (aB #[ax gY.arT,ah gY.ar4,dO.aI,dO.ar6,dO.aF,dO.av,dO.ar9,dO.ar8,ah gY.ase,dO.aO,o,dO.asb,dO.aP,dO.bf,ah gY.aJ] 44)/\aX 65 ER Bs (fun b=>b<Bs) wr o (kC (aN s (aC s)) 0 ((bM s).ar7.take k))/\Step (fun b=>b<Bs/\b≠ib) w5 wr) (fun i _=>nj-(intOf i).toNat);exact⟨0,rfl,alg _,_,kF.af,aX.nil _ _ _ _ _,Step.refl _ _⟩;obtain⟨k,rfl,hk,o,hx,ho,hst⟩:=hrel;have HX:=aj hx;have HO:=aj ho;have HS:=aj hst;have Ns:Bs<=wr:=by have:=xg.af;have:=hst.size;omega
 clear hx ho hst;by_cases hlt:k<nj
 ·obtain⟨j,hj⟩:∃j,(bM s).ar7[k]? =some j:=⟨_,gP (by rw[<-Cr.af];exact hlt)⟩
  obtain rfl:=amB wP;have g0:=(Xd.af.asa (w':=wr) (fun b hb=>HS.af.block b (by have:=xg.af;omega))).oC k j hj;have Yy:=aj ((HS.af.block lb wP).trans Hlx.af);have l3:wr.cell? (ak lb 3)=some (ah aS):=by rw[aV Yy.af,amD.af];rfl
  have l5:wr.cell? (ak lb 5)=some (ah bW):=by rw[aV Yy.af,amC.af];rfl
  have lN:Hid (kC (aN s (aC s)) 0 ((bM s).ar7.take (k+1))=kC (aN s (aC s)) 0 ((bM s).ar7.take k)++[⟨bW+8*(k:Int),j,aS+(3*(k:Int)+2)*8⟩]):=aj (by
   rw[jR hj,Jo,og,Nat.min_eq_left (by have:=Cr.af;omega),bE,<-amC.af,<-amD.af])
  have xw:(kC (aN s (aC s)) 0 ((bM s).ar7.take k)).length=k:=by rw[Fy,og];have:=Cr.af;omega
  obtain ⟨q,hq⟩:=aiG (kC (aN s (aC s)) 0 ((bM s).ar7.take k));rw[<-hq]at HO lN xw;have Hql:=aj xw;obtain⟨oa,oc,hof⟩:=HO.af.form;rw[xw]at hof;subst hof;have dV:wr.cell? (ak ib 10)=some (.slice oa k oc):=aL HX.af rfl;have BS:=aj ((dX wr (aB #[ah (bW+8*(k:Int)),ah j,ah (aS+(3*(k:Int)+2)*8)] 65) (r:=ib) wP).trans HX.af);have xD:=aj (HO.af.alloc (aB #[ah (bW+8*(k:Int)),ah j,ah (aS+(3*(k:Int)+2)*8)] 65));have ND:=aj (HS.af.alloc (fun b hb=>wP) (aB #[ah (bW+8*(k:Int)),ah j,ah (aS+(3*(k:Int)+2)*8)] 65));have HNb:=aj (ah2 wr (aB #[ah (bW+8*(k:Int)),ah j,ah (aS+(3*(k:Int)+2)*8)] 65));have lh:Hid ((wr.alloc (aB #[ah (bW+8*(k:Int)),ah j,ah (aS+(3*(k:Int)+2)*8)] 65)).heap.size=wr.heap.size+1):=aj arG;have HE:Hid (∀b,b<Bs->b<(wr.alloc (aB #[ah (bW+8*(k:Int)),ah j,ah (aS+(3*(k:Int)+2)*8)] 65)).heap.size):=aj (fun b hb=>by rw[lh.af];omega);have HW1:Hid (Bs<=(wr.alloc (aB #[ah (bW+8*(k:Int)),ah j,ah (aS+(3*(k:Int)+2)*8)] 65)).heap.size):=aj (by rw[lh.af];omega);have hk2:(k:Int)<(nj:Int):=wP;have hk3:0<=(k:Int):=wP;clear hj hq xw;go_wp2_with (at_builtin;go_loud (refine fZ (K:=ER) (v:=.slice oa k oc) (l:=q) (E:=fun b=>b<Bs) (B:=Bs) 40 _ 24 Tryz.underlying40 Yh rfl abD rfl (.tmp 206) (.tmp 221) rfl k Hql.af rfl xD.af HE.af wr.heap.size ⟨bW+8*(k:Int),j,aS+(3*(k:Int)+2)*8⟩ [ah (bW+8*(k:Int)),ah j,ah (aS+(3*(k:Int)+2)*8)] rfl (aD HNb.af) (fun u hu=>by simp only[Y1,nW,or_false]at hu;rcases hu with rfl | rfl | rfl<;>rfl) rfl (by rw[Hql.af];omega) (by rw[Hql.af];omega) HW1.af ?_));intro g7 c7 w7 fG hs7 uf;have hne:∀b,b<Bs->(Value.slice oa k oc).ownBlock≠some b:=fun b hb e=>by have:=(HO.af.lt b e).1;omega
  have hsI:w7.heap[ib]? =(wr.alloc (aB #[ah (bW+8*(k:Int)),ah j,ah (aS+(3*(k:Int)+2)*8)] 65)).heap[ib]? :=hs7.block ib ⟨by first | (rw[lh.af];omega) | omega,hne ib hiB⟩;have jK:=aj (hsI.trans BS.af);have kT:=aj fG;have zH:=aj (ND.af.trans (hs7.imp (fun b hb=>⟨by first | (rw[lh.af];omega) | omega,hne b hb.1⟩)));rw[<-lN.af]at kT;have u10:w7.cell? (ak ib 10)=some (.slice oa k oc):=aL jK.af rfl;have f10:w7.frozen? (ak ib 10)=false:=vV jK.af 10;clear fG hs7 hsI hne g0 l3 l5 dV;have kZ:Step (fun b=>b≠ib) w7 (w7.setCell ⟨ib,10,none⟩ (.slice (some ⟨g7,0,none⟩) (k+1) c7)):=(Step.refl _ w7).setCell (fun h=>h rfl) _;have Kb:=aj (qc jK.af 10 (.slice (some ⟨g7,0,none⟩) (k+1) c7));have Gs:=aj (kT.af.step kZ (fun b _ hb=>by have hb:¬b<Bs:=hb;omega));have HS9:=aj (zH.af.trans (kZ.imp (fun b hb=>hb.2)));clear kZ;go_wp2;go_roundw;exact⟨k+1,arH,wP,_,Kb.af,Gs.af,HS9.af⟩;simp[intOf];omega
 ·have hE:=HO.af
  rw[dh (by have:=Cr.af;omega)]at hE;have hS5:Step (fun b=>b<w5/\b≠ib) w5 wr:=HS.af.imp (fun b hb=>by have:=xg.af;omega)
  have HB:=aj (HC.af.go (abk:={dO with asf:=o }) (abl:=gY) (GH:={iv with asf:=o }) (im':={im with asf:=kC (aN s (aC s)) 0 (bM s).ar7 }) (A':=fun b=>A b∨(w5.heap.size<=b/\b<wr)) hS5 HX.af { (HC.af.AU hS5).imp (fun b hb=>aH hb)with asf:=hE.lb.imp (fun b hb=>aZ ⟨by have:=xg.af;have:=hb.2;omega,hb.1⟩),yK:=iy.af } (fun b hb=>by
   rcases hb with hb | hb
   ·exact HC.af.hA' hS5.size b hb
   ·exact⟨wP,hb.2,wP⟩))
  clear hE hS5;go_wp2_with fail;exact HK.af _ wr o ⟨TA,rfl,TA,TA,TA,TA,TA,TA,trivial⟩ HB.af
theorem Xe {P:Program} (w:World) (g o:Nat) (t ty:TypeId) (cur cells new:Array Value) (hg:w.heap[g]? =some (.cells cur t (0,0))) (hi:(P.info? ty).map (·.size)=some cells.size)
  (hfit:o+cells.size<=cur.size) (h1:cells.all (·.oneCell')=true) (hnew:(cur.toList.take o++cells.toList++cur.toList.drop (o+cells.size)).toArray=new):
  (storeVar ty (ak g o) (.agg cells)).run P w=.ok () (w.setRow g new):=by
 have:=run_storeCells_at P g o t cells.toList 0 cur w hg (by simpa using hfit) (fun v hv=>(Array.all_eq_true_iff_forall_mem.1 h1) v (by simpa using hv))
 cases hq:P.info? ty with
 | none=>simp[hq]at hi
 | some i=>
  have hs:cells.size=i.size:=by simp[hq]at hi;omega
  subst hnew
  simpa [storeVar,sizeOf,typeInfo,hq,Value.cells,hs] using this
theorem zA {P:Program} {ops:Array Oper} {rest:List Oper} {o:Oper} {Q:Exit->Act->World->Prop} (hgd:o.guard=none) (ty:TypeId) (x y:Operand) (ho:o.op=.store ty x y)
  (g k:Nat) (cells:Array Value) (hx:a.eval x=.pointer (some ⟨g,k,none⟩)) (hy:a.eval y=.agg cells)
  (t:TypeId) (cur new:Array Value) (hg:w.heap[g]? =some (.cells cur t (0,0))) (hi:(P.info? ty).map (·.size)=some cells.size)
  (hfit:k+cells.size<=cur.size) (h1:cells.all (·.oneCell')=true) (hnew:(cur.toList.take k++cells.toList++cur.toList.drop (k+cells.size)).toArray=new)
  (h:wpList P ops Q rest (a.put o.dst undef) (w.setRow g new)):wpList P ops Q (o :: rest) a w:=
 wpList_plain hgd fun _ hK=>by
  unfold Oper.wp execOp;simp only[ho,hx,hy,Instr.storeAt,Instr.sureAddr,Sem.run_bind,Sem.run_pure,Result.andThen_ok,Xe w g k t ty cur cells new hg hi hfit h1 hnew];exact hK _ _ h
theorem FC {v:jv} (h:uK S w v im):(aW v im).all (·.oneCell')=true:=by
 obtain⟨a0,c0,h0⟩:=h.aI.form;obtain⟨a1,c1,h1⟩:=h.ar6.form;obtain⟨a2,c2,h2⟩:=h.aF.form;obtain⟨a3,c3,h3⟩:=h.av.form;obtain⟨a4,c4,h4⟩:=h.ar9.form;obtain⟨a5,c5,h5⟩:=h.ar8.form;obtain⟨a6,c6,h6⟩:=h.aO.form;obtain⟨a7,c7,h7⟩:=h.asf.form;obtain⟨a8,c8,h8⟩:=h.asb.form;obtain⟨a9,c9,h9⟩:=h.aP.form;obtain⟨zN,c10,h10⟩:=h.bf.form;unfold aW;rw[h0,h1,h2,h3,h4,h5,h6,h7,h8,h9,h10];simp[Value.oneCell']
theorem YJ (l:List bF):(bQ l).length<=l.length:=by rw[Em];exact asn _ _
theorem Ke (l:List bF) (many:Nat) (hl:l.length<=512):∀c∈jN l many,c.length<=9223372036854775807:=by
 intro c hc;unfold jN at hc;rw[List.mem_map]at hc;obtain⟨b,_,rfl⟩:=hc;rw[BR];have:=asn (fun k=>decide (jY (kX l k).arT many=b)) (bQ l);have:=YJ l;omega
theorem NF (l:List bF):∀x∈kR l,0<=x/\x<18446744073709551616:=by
 rw[Uj];exact Gu _ _ (fun x hx=>by have:=mR hx;omega)
theorem apE {w5:World} {own:Int} {vv:Value} {ib:Nat} {iv:jv} {gY:bK} {A:Nat->Prop} (hF:oP [(1,aQ w),(2,aQ (w+1)),(3,ah 0),(4,aQ (w+2)),(5,aQ lb),(6,aQ ib)] a) (hC:pR w sv s w5 own v fv vv lb ib iv gY iv im A) (hso:Zf s) (hal:(gW s).2.all gJ=true)
  (hx:gY.arT=im.arT/\gY.ar4=im.ar4/\gY.aJ=im.aJ)
  (him:{im with av:=(bM s).av,ar9:=jN (bM s).av (jy (bQ (bM s).av).length),ar8:=kR (bM s).av,ase:=6 }=yj s (aN s (aC s)) (rD s).2 (jG s).2 (gW s).1 (gW s).2):(bL Tryz.f6 20).wp asq (bodyPost asq Tryz.f6 (gN w s)) a w5:=by
 have HC:=aj hC;have hib:=hC.vP;have h0:=hC.h0
 have GK:Hid (gD s=if kH {im with av:=(bM s).av,ar9:=jN (bM s).av (jy (bQ (bM s).av).length),ar8:=kR (bM s).av,ase:=6 }≠0 then (eY,kH {im with av:=(bM s).av,ar9:=jN (bM s).av (jy (bQ (bM s).av).length),ar8:=kR (bM s).av,ase:=6 }) else ({im with av:=(bM s).av,ar9:=jN (bM s).av (jy (bQ (bM s).av).length),ar8:=kR (bM s).av,ase:=6 },0)):=aj (by
  rw[wS,if_neg hso.lens,if_neg (by rw[hso.check];exact fun h=>h rfl),if_neg (by rw[hso.aP];exact fun h=>h rfl),if_neg hso.sizes,if_neg (by rw[hal];decide),<-him])
 have hsl:(bM s).av.length<=512:=by
  have h1:=hso.sizes;have h2:(bM s).av.length=(aC s).av.length:=by unfold bM;rw[NV,(qz s).1]
  omega
 have sW:=aj ((aX.QO (hC.plan.av.fJ ig (E':=fun b=>b<w∨b=ib∨b=w.heap.size+1) (fun g hg e=>by
  rcases e with e | e | e
  ·have:=(hC.plan.av.lt g hg).1;omega
  ·exact hC.vI (aH (e ▸ hg))
  ·exact hC.vR (aH (e ▸ hg))))).imp (S':=fun b=>w.heap.size<=b/\b<w5/\b≠ib/\b≠w.heap.size+1) (fun b hb=>⟨by have:=hb.2;omega,hb.1,fun e=>hb.2 (aZ (aH e)),fun e=>hb.2 (aZ (aZ e))⟩))
 have HIM:=aj (hC.img.imp (S':=fun b=>w.heap.size<=b/\b<w5/\b≠ib/\b≠w.heap.size+1) (fun b hb=>by have:=hC.hA b hb;exact⟨wP,this.2.1,this.2.2,wP⟩));have zM:=aj hC.rx;have mQ:=aj hC.low;have kF:Hid (w5.heap[ib]? =some (aB #[ax im.arT,ah im.ar4,iv.aI,iv.ar6,iv.aF,iv.av,iv.ar9,iv.ar8,ah gY.ase,iv.aO,iv.asf,iv.asb,iv.aP,iv.bf,ah im.aJ] 44)):=aj (by have h:=hC.ix;unfold aW at h;rwa [hx.1,hx.2.1,hx.2.2]at h);obtain⟨IP,IQ,mO⟩:=hC.plan.av.form;have c9:=hC.plan.c9;obtain ⟨n,hn⟩:=aiG ((bM s).av.length);rw[<-hn]at mO hsl;rw[mO]at c9 sW;have Hn:=aj hn;clear hC hso hal hx him mO hn;have e20:bL Tryz.f6 20=.seq (cZ Tryz.f6 20) (bL Tryz.f6 21):=fV _ 20 TA;have e21:bL Tryz.f6 21=.seq (cZ Tryz.f6 21) (bL Tryz.f6 22):=fV _ 21 TA;have e22:bL Tryz.f6 22=.seq (cZ Tryz.f6 22) (bL Tryz.f6 23):=fV _ 22 TA;have e23:bL Tryz.f6 23=.seq (cZ Tryz.f6 23) (bL Tryz.f6 24):=fV _ 23 TA;rw[e20,e21,e22,e23];clear e20 e21 e22 e23;apply z7O.elim hF;clear hF;intro _;intro V1;intro V2;intro V3;intro V4;intro V5;intro V6
 iterate 240 (intro _)
 intro hF;obtain⟨-,-,e1,e2,e3,e4,e5,e6,-⟩:=hF;replace e1:V1=aQ w:=e1;subst e1;replace e2:V2=aQ (w+1):=e2;subst e2;replace e3:V3=ah 0:=e3;subst e3;replace e4:V4=aQ (w+2):=e4;subst e4;replace e5:V5=aQ lb:=e5;subst e5;replace e6:V6=aQ ib:=e6;subst e6
 conv in cZ _ 20=>whnf
 conv in cZ _ 21=>whnf
 conv in cZ _ 22=>whnf
 conv in cZ _ 23=>whnf
 conv in bL _ 24=>whnf
 have i5:w5.cell? (ak ib 5)=some iv.av:=aL kF.af rfl;have f5:w5.frozen? (ak ib 5)=false:=vV kF.af 5;go_upto_region 42 with fail
 generalize QQ:w5.setCell ⟨ib,5,none⟩ (.slice IP n IQ)=w6;have hs6:Step (fun b=>b≠ib) w5 w6:=by rw[<-QQ];exact(Step.refl _ w5).setCell (fun h=>h rfl) _
 have sD:Hid (w6.heap[ib]? =some (aB #[ax im.arT,ah im.ar4,iv.aI,iv.ar6,iv.aF,.slice IP n IQ,iv.ar9,iv.ar8,ah gY.ase,iv.aO,iv.asf,iv.asb,iv.aP,iv.bf,ah im.aJ] 44)):=aj (by rw[<-QQ];exact qc kF.af 5 _);have JN:w6.heap.size=w5.heap.size:=by rw[<-QQ];simp
 have i5':w6.cell? (ak ib 5)=some (.slice IP n IQ):=aL sD.af rfl;have ajr:=aj (sW.af.asa (fun b hb=>hs6.block b hb.2.2.1));have amE:=aj (HIM.af.asa (fun b hb=>hs6.block b hb.2.2.1));have HR6:=aj ((hs6.block (w.heap.size+1) wP).trans zM.af);have AQ:=aj (mQ.af.trans ((hs6.imp (S':=(·<w.heap.size)) (fun b hb=>by have hb:b<w:=hb;omega)).below));have EL:=aj (ahG w6 (.slice IP n IQ) (bM s).av (ajr.af.imp (fun b hb=>by have:=hb.2.1;show b<w6;omega)).1 (by have:=Hn.af;omega));clear QQ hs6 i5 f5 c9;go_wp2_with fail;refine EL.af.mono ?_;rintro e w7 ⟨bv,wv,rfl,hbv,hwv,uN⟩;obtain⟨zw,zy,hbf⟩:=hbv.form;obtain⟨gL,jq,hwf⟩:=hwv.form;subst hbf hwf;have JH:=uN.size;obtain ⟨nb,hnb⟩:=aiG ((jN (bM s).av (jy (bQ (bM s).av).length)).length);obtain ⟨nw,hnw⟩:=aiG ((kR (bM s).av).length);rw[<-hnb]at hbv ⊢;rw[<-hnw]at hwv ⊢;have amF:=aj (ajr.af.asa (fun b hb=>uN.block b (by have:=hb.2.1;omega)));have amG:=aj (amE.af.asa (fun b hb=>uN.block b (by have:=hb.2.1;omega)));have HR7:=aj ((uN.block (w.heap.size+1) wP).trans HR6.af);have Eg:=aj (AQ.af.trans (uN.mono (by have:=AQ.af.size;omega)));have jK:=aj ((uN.block ib wP).trans sD.af);have Nv:=aj hbv;have HWv:=aj hwv;have Hnb:=aj hnb;have Hnw:=aj hnw;clear hbv hwv uN hnb hnw i5' EL sD HR6 AQ ajr amE;go_upto_region 45 with (refine zA rfl 38 (.tmp 236) (.tmp 234) rfl ib 6 #[.slice zw nb zy,.slice gL nw jq,.int .i64 6] rfl rfl _ _ (#[ax im.arT,.int .i64 im.ar4,iv.aI,iv.ar6,iv.aF,.slice IP n IQ,.slice zw nb zy,.slice gL nw jq,.int .i64 6,iv.aO,iv.asf,iv.asb,iv.aP,iv.bf,.int .i64 im.aJ]) jK.af TA arG (by simp[Value.oneCell']) rfl ?_)
 generalize hw8:w7.setRow ib #[ax im.arT,ah im.ar4,iv.aI,iv.ar6,iv.aF,.slice IP n IQ,.slice zw nb zy,.slice gL nw jq,ah 6,iv.aO,iv.asf,iv.asb,iv.aP,iv.bf,ah im.aJ]=w8;have nE:Step (fun b=>b≠ib) w7 w8:=by rw[<-hw8];exact⟨rfl,rfl,rfl,arG,fun b hb=>cu _ _ _ _ hb⟩
 have qy:Hid (w8.heap[ib]? =some (aB #[ax im.arT,ah im.ar4,iv.aI,iv.ar6,iv.aF,.slice IP n IQ,.slice zw nb zy,.slice gL nw jq,ah 6,iv.aO,iv.asf,iv.asb,iv.aP,iv.bf,ah im.aJ] 44)):=aj (by rw[<-hw8];exact TL _ _ _ _ _ _ jK.af);have Ps:w8.heap.size=w7.heap.size:=by rw[<-hw8];simp
 have HR8:=aj ((nE.block (w.heap.size+1) wP).trans HR7.af);have Pq:=aj (Eg.af.trans ((nE.imp (S':=(·<w.heap.size)) (fun b hb=>by have hb:b<w:=hb;omega)).below))
 have HM8:Hid (su (fun b=>w.heap.size<=b/\b<w8/\b≠w.heap.size+1) w8 {iv with av:=.slice IP n IQ,ar9:=.slice zw nb zy,ar8:=.slice gL nw jq } {im with av:=(bM s).av,ar9:=jN (bM s).av (jy (bQ (bM s).av).length),ar8:=kR (bM s).av,ase:=6 }):=aj (by
  have k5:∀b,(w.heap.size<=b/\b<w5.heap.size/\b≠ib/\b≠w.heap.size+1)->(w.heap.size<=b/\b<w8.heap.size/\b≠w.heap.size+1):=fun b hb=>⟨hb.1,wP,hb.2.2.2⟩
  have k7:∀b,(w6.heap.size<=b/\b<w7.heap.size)->(w.heap.size<=b/\b<w8.heap.size/\b≠w.heap.size+1):=fun b hb=>⟨wP,wP,wP⟩
  exact { (amG.af.asa (fun b hb=>nE.block b hb.2.2.1)).imp k5 with
   av:=(amF.af.asa (fun b hb=>nE.block b hb.2.2.1)).imp k5
   ar9:=(Nv.af.asa (fun b hb=>nE.block b (by have:=hb.1;omega))).imp k7
   wF:=Ke _ _ (by have:=Hn.af;omega)
   ar8:=(HWv.af.asa (fun b hb=>nE.block b (by have:=hb.1;omega))).imp k7
   xx:=NF _
   ase:=⟨by show(-9223372036854775808:Int)<=6;decide,by show(6:Int)<=9223372036854775807;decide⟩})
 obtain⟨im9,ajs⟩:∃im9:bK,im9={im with av:=(bM s).av,ar9:=jN (bM s).av (jy (bQ (bM s).av).length),ar8:=kR (bM s).av,ase:=6 }:=⟨_,rfl⟩;obtain⟨iv9,ajt⟩:∃iv9:jv,iv9={iv with av:=.slice IP n IQ,ar9:=.slice zw nb zy,ar8:=.slice gL nw jq }:=⟨_,rfl⟩;rw[<-ajs]at HM8 GK;rw[<-ajt]at HM8;have Jp:Hid (aW iv9 im9=#[ax im.arT,ah im.ar4,iv.aI,iv.ar6,iv.aF,.slice IP n IQ,.slice zw nb zy,.slice gL nw jq,ah 6,iv.aO,iv.asf,iv.asb,iv.aP,iv.bf,ah im.aJ]):=aj (by rw[ajs,ajt];rfl);have Bz:=aj (aiB w8 iv9 im9 (HM8.af.imp (fun b hb=>hb.2.1)).img);rw[Jp.af]at Bz;obtain ⟨m,hm⟩:=aiG (kH im9);rw[<-hm]at Bz GK;have x0:=aD qy.af 0 _ rfl;have x1:=aD qy.af 1 _ rfl;have x2:=aD qy.af 2 _ rfl;have x3:=aD qy.af 3 _ rfl;have x4:=aD qy.af 4 _ rfl;have x5:=aD qy.af 5 _ rfl;have x6:=aD qy.af 6 _ rfl;have x7:=aD qy.af 7 _ rfl;have x8:=aD qy.af 8 _ rfl;have x9:=aD qy.af 9 _ rfl;have x10:=aD qy.af 10 _ rfl;have Ut:=aD qy.af 11 _ rfl;have Uu:=aD qy.af 12 _ rfl;have Uw:=aD qy.af 13 _ rfl;have Uv:=aD qy.af 14 _ rfl;skip;clear hw8 nE jK HR7 Eg amF amG Nv HWv Hnb Hnw ajs ajt hm;go_wp2_with fail;refine Bz.af.mono ?_;rintro e BF ⟨rfl,Ak⟩;have apF:=Ak.size;have xP:=aj ((Ak.block ib wP).trans qy.af);have afT:=aj ((Ak.block (w.heap.size+1) wP).trans HR8.af);have abx:=aj (Pq.af.trans (Ak.mono (by have:=Pq.af.size;omega)));have adu:=aj (HM8.af.asa (fun b hb=>Ak.block b hb.2.1));clear Ak x0 x1 x2 x3 x4 x5 x6 x7 x8 x9 x10 Ut Uu Uw Uv Bz;by_cases hm:m=0
 ·subst hm
  have HE:Hid (gD s=(im9,0)):=aj (by rw[GK.af,if_neg (fun h=>h rfl)]);have x0:=aD xP.af 0 _ rfl;have x1:=aD xP.af 1 _ rfl;have x2:=aD xP.af 2 _ rfl;have x3:=aD xP.af 3 _ rfl;have x4:=aD xP.af 4 _ rfl;have x5:=aD xP.af 5 _ rfl;have x6:=aD xP.af 6 _ rfl;have x7:=aD xP.af 7 _ rfl;have x8:=aD xP.af 8 _ rfl;have x9:=aD xP.af 9 _ rfl;have x10:=aD xP.af 10 _ rfl;have Ut:=aD xP.af 11 _ rfl;have Uu:=aD xP.af 12 _ rfl;have Uw:=aD xP.af 13 _ rfl;have Uv:=aD xP.af 14 _ rfl;go_wp2_with (refine Bv rfl 44 (.tmp 2) (.tmp 246) rfl (w.heap.size+1) (#[ax im.arT,ah im.ar4,iv.aI,iv.ar6,iv.aF,.slice IP n IQ,.slice zw nb zy,.slice gL nw jq,ah 6,iv.aO,iv.asf,iv.asb,iv.aP,iv.bf,ah im.aJ]) rfl rfl _ _ afT.af TA rfl (by rw[<-Jp.af];exact FC HM8.af.img) ?_);clear x0 x1 x2 x3 x4 x5 x6 x7 x8 x9 x10 Ut Uu Uw Uv;go_wp2_with fail;have FR:=aj (TL _ (w.heap.size+1) _ (#[ax im.arT,ah im.ar4,iv.aI,iv.ar6,iv.aF,.slice IP n IQ,.slice zw nb zy,.slice gL nw jq,ah 6,iv.aO,iv.asf,iv.asb,iv.aP,iv.bf,ah im.aJ]) _ _ afT.af);refine qE (fT rfl _ _ (w.heap.size+1) _ _ _ _ rfl FR.af Tryz.underlying44 rfl TA) rfl ?_;have hsz:(BF.setRow (w.heap.size+1) (#[ax im.arT,ah im.ar4,iv.aI,iv.ar6,iv.aF,.slice IP n IQ,.slice zw nb zy,.slice gL nw jq,ah 6,iv.aO,iv.asf,iv.asb,iv.aP,iv.bf,ah im.aJ])).heap.size=BF.heap.size:=arG;refine⟨iv9,?_,below_setRow abx.af _ _ wP,?_⟩
  ·rw[HE.af,Jp.af];rfl
  ·rw[HE.af]
   exact(adu.af.asa (fun b hb=>cu _ _ b _ hb.2.2)).imp (fun b hb=>⟨hb.1,by rw[hsz];omega⟩)
 ·have HE:Hid (gD s=(eY,m)):=aj (by rw[GK.af,if_pos hm])
  have hmb:(m != 0)=true:=by simp[hm]
  clear hm;go_wp2_with (refine Bv rfl 44 (.tmp 2) (.tmp 244) rfl (w.heap.size+1) #[aK,.int .i64 0,au,au,au,au,au,au,.int .i64 0,au,au,au,au,au,.int .i64 0] rfl rfl _ _ afT.af TA rfl (by simp[Value.oneCell']) ?_);go_wp2_with fail;have FR:=aj (TL _ (w.heap.size+1) _ arJ _ _ afT.af);refine qE (fT rfl _ _ (w.heap.size+1) _ _ _ _ rfl FR.af Tryz.underlying44 rfl TA) rfl ?_;exact rC HE.af (below_setRow abx.af _ _ wP)
def um (av:List bF) (many b k:Nat):List Int:=(((bQ av).take k).filter fun i=>decide (jY (kX av i).arT many=b)).map fun(i:Nat)=>(i:Int)
def qQ (av:List bF) (many q:Nat):List (List Int):=(List.range q).map fun b=>um av many b (bQ av).length
def nu (av:List bF) (k:Nat):List Int:=(((bQ av).take k).map fun i=>(lw (kX av i).arT).toNat).foldl markT (List.replicate (qB (bQ av).length) 0)
theorem ahZ (av:List bF) (many:Nat):qQ av many many=jN av many:=by
 unfold qQ jN um;rw[dF]
theorem ajA (av:List bF):nu av (bQ av).length=kR av:=by
 unfold nu kR;rw[dF]
theorem YX (av:List bF) (many q:Nat):qQ av many (q+1)=qQ av many q++[um av many q (bQ av).length]:=by
 unfold qQ;rw[List.range_succ,A7];rfl
theorem abz (av:List bF) (many q:Nat):(qQ av many q).length=q:=by simp[qQ]
theorem acp {many b:Nat} (h:(bQ av)[k]? =some i):um av many b (k+1)=um av many b k++(if jY (kX av i).arT many=b then [(i:Int)] else []):=by
 unfold um;rw[Qc,h,List.filter_append,A7];by_cases e:jY (kX av i).arT many=b<;>simp[e]
theorem af1 (av:List bF) (many b k:Nat):(um av many b k).length<=k:=by
 unfold um;rw[BR];refine eG (asn _ _) ?_;rw[og];exact iK _ _
theorem abA (h:(bQ av)[k]? =some i):nu av (k+1)=markT (nu av k) (lw (kX av i).arT).toNat:=by
 unfold nu;rw[Qc,h,A7,List.foldl_append];rfl
theorem acr {l:List Nat}:∀ {ws:List Int},(∀x∈ws,0<=x/\x<18446744073709551616)->(l.foldl markT ws).length=ws.length/\∀x∈l.foldl markT ws,0<=x/\x<18446744073709551616:=by
 induction l with
 | nil=>intro ws h;exact⟨rfl,h⟩
 | cons a l ih=>
  intro ws h;obtain⟨h1,h2⟩:=ih (QV h a);exact⟨h1.trans (Ym ws a),h2⟩
theorem af2 (av:List bF) (k:Nat):(nu av k).length=qB (bQ av).length/\∀x∈nu av k,0<=x/\x<18446744073709551616:=by
 unfold nu;have h:=acr (l:=(((bQ av).take k).map fun i=>(lw (kX av i).arT).toNat)) (ws:=List.replicate (qB (bQ av).length) 0) (fun x hx=>by rw[mR hx];decide);rw[u6]at h;exact h
theorem YL (h:(bQ av)[k]? =some i):i<av.length:=by
 have h1:=dH h;unfold bQ nZ at h1;exact List.mem_range.1 (List.mem_filter.1 h1).1
theorem af3:(Tryz.prog.info? 33).map (fun i=>(i.zero,i.size,i.bytes))=some (some (au),1,24):=TA
structure Am (b1:Nat) (w5:World) (wr:World) (bv wv:Value) (bl:List (List Int)):Prop where
 e1:wr.heap[b1]? =some (aB #[bv,wv,ah 6] 38)
 bk:aX 41 tJ (b1+1) (·<=b1) wr bv bl
 low:Below b1 w5 wr
section
variable {b1 : Nat} {w5 wr w' w7 : World} {bv wv bv' wv' : Value} {bl bl' : List (List Int)}
theorem Am.lt (h:Am b1 w5 wr bv wv bl):b1<wr:=(Array.getElem?_eq_some_iff.1 h.e1).1
theorem Am.dW (h:Am b1 w5 wr bv wv bl) (hb:Below wr wr w'):Am b1 w5 w' bv wv bl:=
 ⟨(hb.block b1 h.lt).trans h.e1,h.bk.below hb,h.low.trans (hb.mono (qx h.lt))⟩
theorem Am.add (h:Am b1 w5 wr bv wv bl) (ho:aX 41 tJ (b1+1) (·<=b1) w7 bv' bl') (hs:Step (fun b=>b<wr/\bv.ownBlock≠some b) wr w7):w7.heap[b1]? =some (aB #[bv,wv,ah 6] 38)/\Am b1 w5 (w7.setCell ⟨b1,0,none⟩ bv') bv' wv bl':=by
 have hl:=h.lt;have hne:∀b,b<=b1->bv.ownBlock≠some b:=fun b hb e=>by have:=(h.bk.lt b e).1;omega
 have e1:=(hs.block b1 ⟨hl,hne b1 (oD _)⟩).trans h.e1;have hs2:Step (fun b=>b≠b1) w7 (w7.setCell ⟨b1,0,none⟩ bv'):=(Step.refl _ w7).setCell (fun h=>h rfl) _;refine⟨e1,eu e1 0 bv',ho.step hs2 (fun b _ hb=>fun e=>hb (Ug e)),?_⟩;exact(h.low.trans ((hs.imp (S':=(·<b1)) (fun b hb=>⟨by have hb:b<b1:=hb;omega,hne b (by have hb:b<b1:=hb;omega)⟩)).below)).setCell (p:=(ak b1 0)) (oD _) _
theorem Am.ar8 (h:Am b1 w5 wr bv wv bl):Am b1 w5 (wr.setRow b1 #[bv,wv',ah 6]) bv wv' bl:=by
 have hs2:Step (fun b=>b≠b1) wr (wr.setRow b1 #[bv,wv',ah 6]):=⟨rfl,rfl,rfl,arG,fun b hb=>cu _ _ _ _ hb⟩;exact⟨TL _ _ _ _ _ _ h.e1,h.bk.step hs2 (fun b _ hb=>fun e=>hb (Ug e)),below_setRow h.low _ _ (oD _)⟩
end
theorem ajB (n:Nat):1<=qB n/\qB n<=64:=by unfold qB;(repeat' split)<;>omega
theorem count_range {n:Nat} (h:n<=512):1<=jy n/\jy n<=512:=by unfold jy;omega
def acO (w:World) (av:List bF) (e:Ending) (w':World):Prop:=∃bv wv,e=.returned (.tuple #[.agg #[bv,wv,ah 6],ah 0])/\LB tJ (fun b=>w.heap.size<=b/\b<w') w' bv (jN av (jy (bQ av).length))/\LB jQ (fun b=>w.heap.size<=b/\b<w') w' wv (kR av)/\Below w w w'
theorem ah0 (w:World) (u:Value) (av:List bF) (hu:LB gq (·<w.heap.size) w u av) (hl:av.length<=512):
  Calls asq 34 #[u] w (acO w av):=by
 obtain⟨ua,ub,uo,uc,rfl,EH,_,wN⟩:=hu.at;have Hu:=aj hu;have dP:=aj wN;have Nk:=wN.addr;obtain ⟨n,hn⟩:=aiG av.length;have Hn:=aj hn;rw[<-hn]at EH Nk hl Hu ⊢
 have Dm:(bQ av).length<=512:=by
  have:(bQ av).length<=(List.range av.length).length:=asn _ _;rw[List.length_range]at this;omega
 obtain ⟨m,hm⟩:=aiG ((bQ av).length);have Hm:=aj hm;have hm1:m<=512:=wP;obtain ⟨many,Bu⟩:=aiG (jy m);obtain ⟨wn,hwn⟩:=aiG (qB m);have hmr:1<=many/\many<=512:=by rw[Bu];exact count_range hm1
 have hwr:1<=wn/\wn<=64:=by rw[hwn];exact ajB m
 have HC:=aj (fun w=>aed w m wP);have HW:=aj (fun w=>ahA w m wP);rw[<-Bu]at HC;rw[<-hwn]at HW;have HBk:Hid (jN av (jy (bQ av).length)=qQ av many many):=aj (by rw[<-hm,<-Bu,ahZ]);have qD:Hid (kR av=nu av m):=aj (by rw[hm,ajA]);have Nz:=aj (fun k=>af2 av k);have HF0:Hid (nu av 0=List.replicate wn 0):=aj (by unfold nu;rw[<-hm,<-hwn];rfl);have xq:=aj (show wn=qB (bQ av).length by rw[hwn,hm]);obtain ⟨BKT,ajC⟩:=aiG (jN av (jy (bQ av).length));obtain ⟨FLT,ajD⟩:=aiG (kR av);have HP:Hid (acO w av=fun e w'=>∃bv wv,e=.returned (.tuple #[.agg #[bv,wv,ah 6],ah 0])/\LB tJ (fun b=>w.heap.size<=b/\b<w'.heap.size) w' bv BKT/\LB jQ (fun b=>w.heap.size<=b/\b<w'.heap.size) w' wv FLT/\Below w w w'):=aj (by rw[ajC,ajD];rfl);rw[HP.af];rw[<-ajC]at HBk;rw[<-ajD]at qD;have HX0:=aj (ah2 w (aB #[au,au,ah 0] 38));have HB0:=aj ((PZ w.heap.size w).alloc (oD _) (aB #[au,au,ah 0] 38));have hz0:w.heap.size<(w.alloc (aB #[au,au,ah 0] 38)):=arG;obtain⟨i0,hi,Gq,Ns,YH⟩:=info_parts Fg;have hni:(n:Int)<=512:=wP;clear hu wN hn hm Bu hwn ajC ajD HP Dm;go_enter Tryz.func34,Tryz.ntmps34;go_upto_region 1 with fail
 generalize w.alloc (aB #[au,au,ah 0] 38)=w1 at *;have HU1:=aj (Tt w1 (.slice ua n uc) av ((Hu.af.below HB0.af).imp (fun b hb=>by have h:b<w:=hb;show b<_;omega)) (by rw[<-Hn.af];omega));go_wp2_with fail;refine HU1.af.mono ?_;rintro e w2 ⟨r,rfl,hr,hb2⟩;obtain⟨aa,ab,ao,ac,rfl,_,_,Pn⟩:=(hr.fJ dN (E':=(·<w1.heap.size)) (fun g hg h=>by have:=(hr.lt g hg).1;have h:g<w1:=h;omega)).lb.at;have aeo:=aj Pn;have Ui:=Pn.addr;rw[wD,<-Hm.af]at Ui ⊢;have gI:=aj ((hb2.block _ hz0).trans HX0.af);have HB2:=aj (HB0.af.trans (hb2.mono (qx hz0)));have hz2:w.heap.size<w2:=by have:=hb2.size;omega
 have Hab:Hid (0<m->w.heap.size<ab/\ab<w2):=aj (fun h=>by
  have h1:=Pn.mG (by rw[wD,<-Hm.af];exact h);omega)
 clear hr hb2 Pn HX0 HB0 hz0 HU1;go_wp2_with fail;refine(HC.af _).mono ?_;rintro e w9 ⟨rfl,h9⟩;obtain rfl:w2=w9:=h9.symm;go_wp2_with fail;refine(HW.af _).mono ?_;rintro e w9 ⟨rfl,h8⟩;obtain rfl:w2=w9:=h8.symm;clear h9 h8 HC HW;go_wp2_with (at_make;refine wpList_make_full _ rfl _ _ 34 rfl w2.heap.size 119 i0 (.int .u64 0) 1 Tryz.underlying34 hi Gq Ns .i64 .i64 _ _ wn rfl rfl rfl rfl (by rw[YH];omega) (by unfold maxLen;omega) (oD _) ?_;intro w5 hrow hg);rw[replicate_zero]at hrow;have sV:Hid (aX 119 jQ w2.heap.size (fun _=>False) w5 (.slice (some ⟨w2.heap.size,0,none⟩) wn wn) (List.replicate wn 0)):=aj (aX.qJ (e:=119) (B:=w2.heap.size) (E:=fun _=>False) (l:=List.replicate wn 0) Km (by rw[u6];exact hrow) (fun _ _ h=>h));have adF:=(World.ownsRow.lt hrow _ rfl).2;have kF:=aj ((hg.block w.heap.size wP arG).trans gI.af);have Hk5:Hid (∀b,b<w2.heap.size->w5.heap[b]? =w2.heap[b]?):=aj (fun b hb=>hg.block b hb arG);have mQ:=aj (HB2.af.grown hg wP (fun j hj=>by cases hj));clear hrow hg hi Gq Ns YH gI HB2;go_wp2_with fail;obtain ⟨b1,hb1⟩:=aiG w5.heap.size;have Hb1:=aj hb1;have hbl:w.heap.size<w2/\w2.heap.size<b1:=by rw[hb1];exact⟨hz2,adF⟩
 have HT6:Hid (Am b1 w5 (w5.alloc (aB #[au,.slice (some ⟨w2.heap.size,0,none⟩) wn wn,ah 6] 38)) (au) (.slice (some ⟨w2.heap.size,0,none⟩) wn wn) (qQ av many 0)):=aj (by
  rw[hb1];exact⟨ah2 _ _,aX.nil _ _ _ _ _,(PZ _ w5).alloc (oD _) _⟩)
 rw[<-hb1];clear hb1 hz2 adF;generalize w5.alloc (aB #[au,.slice (some ⟨w2.heap.size,0,none⟩) wn wn,ah 6] 38)=w6 at *;obtain ⟨gw,hgw⟩:=aiG w2.heap.size;have Hgw:=aj hgw;rw[<-hgw]at HT6 sV hbl Hab Hk5 ⊢;clear hgw
 have iT:Hid (∀wr,Below b1 w5 wr->∀(k i:Nat),(bQ av)[k]? =some i->wr.cell? (ak ab (ao+k))=some (ah (i:Int))):=aj (fun wr hb k i hk=>by
  have hkm:k<m:=by rw[Hm.af];exact(Sm.1 hk).1
  have h1:=Hab.af wP;have h2:=aeo.af.oC k (i:Int) (XV _ k i hk);rw[Tg (a:=(ak ab (ao+k))) ((hb.block ab (by show ab<b1;omega)).trans (Hk5.af ab (by show ab<gw;omega)))];exact h2)
 have amK:Hid (∀wr,Below b1 w5 wr->∀(i:Nat) (s:bF),av[i]? =some s->ua=some (ak ub uo)/\lJ s/\wr.cell? (ak ub (uo+i*9))=some (ax s.arT)):=aj (fun wr hb i s hi=>by
  have hin:i<n:=by rw[Hn.af];exact(Sm.1 hi).1
  obtain⟨h1,h2,_⟩:=dP.af.rR i s hi;have hub:=dP.af.mG (by rw[<-Hn.af];omega);have hub:ub<w:=hub;exact⟨Nk wP,h1,(hb.cell (p:=(ak ub (uo+i*9))) (by show ub<b1;omega)).trans ((mQ.af.cell (p:=(ak ub (uo+i*9))) hub).trans h2)⟩)
 clear Hu dP Nk aeo;go_loopw [7] (fun i wr=>∃(q:Nat) (bv:Value),i=ah q/\q<=many/\Am b1 w5 wr bv (.slice (some ⟨gw,0,none⟩) wn wn) (qQ av many q)) (fun i _=>many-(intOf i).toNat);exact⟨0,_,rfl,alg _,HT6.af⟩;rename World=>w7
 obtain⟨q,bv,rfl,hq,ht⟩:=hrel;have HT:=aj ht;by_cases hqt:q<many
 ·have hqm:(q:Int)<(many:Int):=wP
  clear ht;have HT7:Hid (∀b,bv.ownBlock=some b->b<w7.heap.size):=aj (fun b hb=>(HT.af.bk.lt b hb).2);have hzb:=HT.af.lt;go_wp2_with fail;go_loopw [8,9] (fun o i wi=>∃k:Nat,i=ah k/\k<=m/\eX 3 dJ w7.heap.size w7 wi o (um av many q k)) (fun _ i _=>m-(intOf i).toNat);exact⟨0,rfl,alg _,by simpa [um] using eX.start 3 dJ w7⟩;obtain⟨k,rfl,hk,ho⟩:=hrel;obtain⟨oa,oc,rfl⟩:=ho.own.form;have hlow:=HT.af.low.trans (ho.below.mono (qx hzb));have hcl:=af1 av many q k;by_cases hkt:k<m
  ·obtain rfl:=Ui wP
   obtain⟨i,hi⟩:∃i,(bQ av)[k]? =some i:=⟨_,gP (by rw[<-Hm.af];exact hkt)⟩;have hin:i<n:=by rw[Hn.af];exact YL hi
   obtain⟨s,hs⟩:∃s,av[i]? =some s:=⟨_,gP (by rw[<-Hn.af];exact hin)⟩;have ca:=iT.af wr hlow k i hi;obtain⟨rfl,abB,c0⟩:=amK.af wr hlow i s hs;have hkm:(k:Int)<(m:Int):=wP;have hii:(i:Int)<(n:Int):=wP;have lm:=aj (acp (many:=many) (b:=q) hi);rw[JI hs]at lm;have HH:=aj (fun w=>XQ w s.arT many abB.arT hmr.1 hmr.2);obtain ⟨hm,hhm⟩:=aiG (jY s.arT many);rw[<-hhm]at HH lm;obtain ⟨O,hO⟩:=aiG (um av many q k);rw[<-hO]at ho lm hcl ⊢;obtain ⟨ol,hol⟩:=aiG O.length;have sj:=aj hol;rw[<-hol]at ho hcl ⊢;have HO:=aj ho;clear ho hi hs abB hhm hO hol hlow;by_cases he:hm=q
   ·have hb:((hm:Int)==(q:Int))=true:=by simp[he]
    have HE:Hid (um av many q (k+1)=O++[(i:Int)]):=aj (by rw[lm.af,if_pos he]);have NN:=aj (ah2 wr (aB #[ah (i:Int)] 3));have oo:=aj (HO.af.alloc (aB #[ah (i:Int)] 3));have hz3:=oo.af.hB;clear he lm;go_wp2_with fail;refine(HH.af _).mono ?_;rintro e w9 ⟨rfl,h9⟩;obtain rfl:wr=w9:=h9.symm;clear h9;go_wp2_with (at_builtin;go_loud (refine fZ (K:=dJ) (v:=.slice oa ol oc) (e:=3) (B:=w7.heap.size) (E:=fun _=>False) 41 (ah 0) 8 Tryz.underlying41 qg rfl abD rfl (.tmp 49) (.tmp 54) rfl ol sj.af.symm rfl oo.af.own (fun _ h=>h.elim) wr.heap.size (i:Int) [ah (i:Int)] rfl (aD NN.af) (by intro u hu;simp at hu;subst hu;rfl) rfl (by have:=sj.af;omega) (by have:=sj.af;omega) hz3 ?_));intro g7 c7 w9 fG hs7 uf;have kT:=aj (oo.af.append dN fG (hs7.imp (fun b hb=>⟨by have h:=hb.1;first | exact h | (rwa [lW]at h),hb.2⟩)));clear fG hs7 uf oo HO;go_wp2;go_roundw;exact⟨k+1,arH,wP,by rw[HE.af];exact kT.af⟩;simp[intOf];omega
   ·have hb:((hm:Int)==(q:Int))=false:=by rw[arM];omega
    have HE:Hid (um av many q (k+1)=O):=aj (by rw[lm.af,if_neg he,Y8]);clear he lm;go_wp2_with fail;refine(HH.af _).mono ?_;rintro e w9 ⟨rfl,h9⟩;obtain rfl:wr=w9:=h9.symm;clear h9;go_wp2;go_roundw;exact⟨k+1,arH,wP,by rw[HE.af];exact HO.af⟩;simp[intOf];omega
  ·obtain ⟨O,hO⟩:=aiG (um av many q k)
   have HNb:Hid (qQ av many (q+1)=qQ av many q++[O]):=aj (by rw[YX,hO,show k=m by omega,Hm.af]);rw[<-hO]at ho hcl ⊢;have HO:=aj ho;obtain⟨ba,bc,rfl⟩:=HT.af.bk.form;have ajE:=abz av many q;have af4:=aj ajE;have HT2:=aj (HT.af.dW ho.below);rw[ajE]at HT2;obtain ⟨ol,hol⟩:=aiG O.length;have sj:=aj hol;rw[<-hol]at hcl HO ⊢;clear hO hol ajE HT ho hlow;have c10:wr.cell? (ak b1 0)=some (.slice ba q bc):=aL HT2.af.e1 rfl;have f10:wr.frozen? (ak b1 0)=false:=vV HT2.af.e1 0;have hba:Below wr wr (wr.alloc (.cells #[.slice oa ol oc] 41 (0,0))):=(PZ _ wr).alloc (oD _) _;have NN:=aj (ah2 wr (.cells #[.slice oa ol oc] 41 (0,0)));have HT3:=aj (HT2.af.dW hba);have hz3:b1+1<=(wr.alloc (.cells #[.slice oa ol oc] 41 (0,0))).heap.size:=HT3.af.lt
   have pq:Hid (tJ.R (fun b=>b<(wr.alloc (.cells #[.slice oa ol oc] 41 (0,0)))/\¬b<=b1/\(Value.slice ba q bc).ownBlock≠some b) (wr.alloc (.cells #[.slice oa ol oc] 41 (0,0))) O [.slice oa ol oc]):=aj (by
    refine⟨_,rfl,?_⟩;have h1:=((HO.af.own.below hba).fJ dN (E':=(·<w7.heap.size)) (fun g hg h=>by have:=(HO.af.own.lt g hg).1;have h:g<w7:=h;omega)).lb;exact h1.imp (fun b hb=>⟨hb.1,by have:=hb.2;omega,fun e=>by have h2:=hb.2;have:=(HT7.af b (by rw[af4.af];exact e));omega⟩))
   go_wp2_with (at_builtin;go_loud (refine fZ (K:=tJ) (v:=.slice ba q bc) (e:=41) (B:=b1+1) (E:=(·<=b1)) 33 (au) 24 Tryz.underlying33 af3 rfl abD rfl (.tmp 57) (.tmp 59) rfl q af4.af rfl HT3.af.bk (fun b hb=>by have hb:b<=b1:=hb;omega) wr.heap.size O [.slice oa ol oc] rfl (aD NN.af) (by intro u hu;simp at hu;subst hu;rfl) pq.af (by rw[af4.af];omega) (by rw[af4.af];omega) hz3 ?_));intro g7 c7 w9 fG hs7 uf;have nE:Step (fun b=>b<(wr.alloc (.cells #[.slice oa ol oc] 41 (0,0)))/\(Value.slice ba q bc).ownBlock≠some b) (wr.alloc (.cells #[.slice oa ol oc] 41 (0,0))) w9:=hs7.imp (fun b hb=>⟨by have h:=hb.1;first | exact h | (rwa [lW]at h),hb.2⟩);obtain⟨hX9,hT9⟩:=HT3.af.add fG nE;have Kb:=aj hX9;have HT9:=aj hT9;rw[<-HNb.af]at HT9;have c10:w9.cell? (ak b1 0)=some (.slice ba q bc):=aL hX9 rfl;have f10:w9.frozen? (ak b1 0)=false:=vV hX9 0;clear fG hs7 uf nE hX9 hT9 hba HT2 HT3 pq HO;go_wp2;go_roundw;exact⟨q+1,_,arH,wP,HT9.af⟩;simp[intOf];omega
 ·have HT6:Hid (Am b1 w5 w7 bv (.slice (some ⟨gw,0,none⟩) wn wn) BKT):=aj (by have h:=ht;rw[show q=many by omega]at h;rw[HBk.af];exact h)
  have HW6:Hid (LB jQ (fun b=>w.heap.size<b/\b≠b1/\b<w7) w7 (.slice (some ⟨gw,0,none⟩) wn wn) (nu av 0)):=aj (by
   rw[HF0.af];have h1:=(sV.af.fJ vN (E':=(·<gw)) (fun g hg h=>by have:=(sV.af.lt g hg).1;have h:g<gw:=h;omega)).lb;have h2:aX 119 jQ gw (fun _=>False) w5 (.slice (some ⟨gw,0,none⟩) wn wn) (List.replicate wn 0):=sV.af;have h3:=h1.imp (S':=fun b=>w.heap.size<b/\b<b1) (fun b hb=>⟨by have:=hb.2;omega,by have:=hb.1;rw[Hb1.af];exact this⟩);exact(h3.asa (fun b hb=>ht.low.block b hb.2)).imp (fun b hb=>⟨hb.1,by have:=hb.2;omega,by have:=hb.2;have:=ht.lt;omega⟩))
  clear ht sV HBk HF0;go_wp2_with fail;go_loopw [10] (fun i wr=>∃(k:Nat) (wv:Value),i=ah k/\k<=m/\Am b1 w5 wr bv wv BKT/\LB jQ (fun b=>w.heap.size<b/\b≠b1/\b<wr) wr wv (nu av k)) (fun i _=>m-(intOf i).toNat);exact⟨0,_,rfl,alg _,HT6.af,HW6.af⟩;rename World=>w8
  obtain⟨k,wv,rfl,hk,ht,hw⟩:=hrel;obtain⟨wa,wc,rfl⟩:=hw.form;have hfl:=(Nz.af k).1;rw[<-xq.af]at hfl;rw[hfl]at ht;have HT:=aj ht;have Ny:=aj hw;rw[hfl]at Ny;have hlow:=ht.low;by_cases hkt:k<m
  ·obtain rfl:=Ui wP
   obtain⟨i,hi⟩:∃i,(bQ av)[k]? =some i:=⟨_,gP (by rw[<-Hm.af];exact hkt)⟩;have hin:i<n:=by rw[Hn.af];exact YL hi
   obtain⟨s,hs⟩:∃s,av[i]? =some s:=⟨_,gP (by rw[<-Hn.af];exact hin)⟩;have ca:=iT.af w8 hlow k i hi;obtain⟨rfl,abB,c0⟩:=amK.af w8 hlow i s hs;have hkm:(k:Int)<(m:Int):=wP;have hii:(i:Int)<(n:Int):=wP;have lm:=aj (abA hi);rw[JI hs]at lm;have HH:=aj (fun w=>Od w s.arT abB.arT);have hhr:=uG s.arT;obtain⟨hh,hhh⟩:∃z:Nat,(z:Int)=lw s.arT:=⟨(lw s.arT).toNat,wP⟩;rw[<-hhh]at HH hhr;rw[show (lw s.arT).toNat=hh by omega]at lm;have c11:w8.cell? (ak b1 1)=some (.slice wa wn wc):=aL ht.e1 rfl;have c12:w8.cell? (ak b1 2)=some (ah 6):=aL ht.e1 rfl;have hab:=Hab.af wP;have hfl:=hfl;have Td:=aj hfl;have amL:=ht.lt;clear ht hw hi hs abB hhh hfl hlow;go_upto_region 19 with fail
   refine bA 13 TA TA ?_;simp only[ji];refine P8 (S:=fun w':World=>w'.cell? (ak b1 1)=some (.slice wa wn wc)/\w'.cell? (ak b1 2)=some (ah 6)/\w'.cell? (ak ab (ao+k))=some (ah (i:Int))/\w'.cell? (ak ub (uo+i*9))=some (ax s.arT)) _ _ _ _ ?_;have ay:(fun w':World=>w'.cell? (ak b1 1)=some (.slice wa wn wc)/\w'.cell? (ak b1 2)=some (ah 6)/\w'.cell? (ak ab (ao+k))=some (ah (i:Int))/\w'.cell? (ak ub (uo+i*9))=some (ax s.arT)) (World.drew w8):=⟨c11,c12,ca,c0⟩;refine asr ?_;have IJ:=aj (HT.af.dW ((PZ _ w8).drew));have ajF:=aj (Ny.af.asa (w':=World.drew w8) (fun b _=>rfl));have hzd:b1<(World.drew w8):=amL;have hzz:(World.drew w8).heap.size=w8.heap.size:=rfl;rw[<-hzz]at ajF;clear hzz amL;generalize (World.drew w8)=wd at *;refine arO [0,1,2,3,4,5,6,7,8,9] ay ?_;simp only[ast]
   iterate 10 (refine arP ?_;try simp only[bP])
   refine cO 10 fun K hK=> ?_
   go_simp;refine(HH.af wd).mono ?_;rintro e w9 ⟨rfl,h9⟩;obtain rfl:wd=w9:=h9.symm;refine hK.af _ _ ay (fun ay=> ?_);clear hK K;try simp only[bV]
   refine cO 11 fun K hK=> ?_
   go_simp;have NN:=aj (ah2 wd (aB #[.int .u32 (hh:Int)] 134));have HTn:=aj (IJ.af.dW ((PZ _ wd).alloc (oD _) (aB #[.int .u32 (hh:Int)] 134)));have iR:Hid (LB jQ (fun b=>w.heap.size<b/\b≠b1/\b<(wd.alloc (aB #[.int .u32 (hh:Int)] 134))) (wd.alloc (aB #[.int .u32 (hh:Int)] 134)) (.slice wa wn wc) (nu av k)):=aj ((ajF.af.asa (fun b hb=>dX _ _ hb.2.2)).imp (fun b hb=>⟨hb.1,hb.2.1,by have:=hb.2.2;simp;omega⟩));refine hK.af _ _ ⟨dB ay.1,dB ay.2.1,dB ay.2.2.1,dB ay.2.2.2⟩ (fun ay=> ?_);clear hK K;try simp only[bV]
   generalize GQ:wd.alloc (aB #[.int .u32 (hh:Int)] 134)=wn2 at *;clear GQ;have HAd:=aj (ai7 wn2 (.slice wa wn wc) (nu av k) (by rw[<-Td.af]at iR ⊢;exact iR.af.imp (fun b hb=>hb.2.2)) (Nz.af k).2 (by rw[Td.af];exact hwr) hh wd.heap.size wP NN.af);rw[<-lm.af]at HAd;refine cO 12 fun K hK=> ?_
   go_simp;refine HAd.af.mono ?_;rintro e w3 ⟨r,rfl,hr,hb3⟩;have QY:=aj (HTn.af.dW hb3);have yC:Hid (LB jQ (fun b=>w.heap.size<b/\b≠b1/\b<w3) w3 r (nu av (k+1))):=aj ((hr.fJ vN (E':=(·<wn2.heap.size)) (fun g hg h=>by have:=(hr.lt g hg).1;have h:g<wn2:=h;omega)).lb.imp (fun b hb=>by have h1:=HTn.af.lt;have h2:=hb.1;have h3:=hb.2;exact⟨wP,wP,h2⟩));refine hK.af _ _ ⟨iq hb3 ay.1,iq hb3 ay.2.1,iq hb3 ay.2.2.1,iq hb3 ay.2.2.2⟩ (fun ay=> ?_);clear hK K hr;try simp only[bV]
   refine E5 TA ?_ _;simp only[dU];clear ay;obtain⟨ra,rc,rfl⟩:=yC.af.form;have K3:=(Nz.af (k+1)).1;rw[<-xq.af]at K3;rw[K3]at yC ⊢;clear K3 hb3 c11 c12 ca c0 HH HAd HTn iR NN HT Ny IJ ajF;go_wp2_with (refine zA rfl 36 (.tmp 81) (.tmp 80) rfl b1 1 #[.slice ra wn rc,.int .i64 6] rfl rfl _ _ (#[bv,.slice ra wn rc,.int .i64 6]) QY.af.e1 TA arG (by simp[Value.oneCell']) rfl ?_);have HT9:=aj (QY.af.ar8 (wv':=.slice ra wn rc));have HW9:Hid (LB jQ (fun b=>w.heap.size<b/\b≠b1/\b<(w3.setRow b1 #[bv,.slice ra wn rc,ah 6])) (w3.setRow b1 #[bv,.slice ra wn rc,ah 6]) (.slice ra wn rc) (nu av (k+1))):=aj ((yC.af.asa (fun b hb=>cu _ _ _ _ hb.2.1)).imp (fun b hb=>⟨hb.1,hb.2.1,by simpa using hb.2.2⟩));clear QY yC;generalize w3.setRow b1 #[bv,.slice ra wn rc,ah 6]=BF at *;go_wp2;go_roundw;exact⟨k+1,_,arH,wP,HT9.af,HW9.af⟩;simp[intOf];omega
  ·obtain⟨ba,bc,rfl⟩:=HT.af.bk.form
   have c10:w8.cell? (ak b1 0)=some (.slice ba BKT.length bc):=aL ht.e1 rfl;have c11:w8.cell? (ak b1 1)=some (.slice wa wn wc):=aL ht.e1 rfl;have c12:w8.cell? (ak b1 2)=some (ah 6):=aL ht.e1 rfl;have qy:=aj ((ht.low.block w.heap.size wP).trans kF.af);have HFk:Hid (FLT=nu av k):=aj (by rw[qD.af,show k=m by omega]);have hfl:=hfl;have Td:=aj hfl;obtain ⟨bn,hbn⟩:=aiG BKT.length;have Hbn:=aj hbn;rw[<-hbn]at c10 HT;clear ht hw hfl hlow hbn;go_wp2_with (refine Bv rfl 38 (.tmp 2) (.tmp 82) rfl w.heap.size #[.slice ba bn bc,.slice wa wn wc,.int .i64 6] rfl rfl _ _ qy.af TA rfl (by simp[Value.oneCell']) ?_);have FR:=aj (TL _ w.heap.size _ #[.slice ba bn bc,.slice wa wn wc,ah 6] _ _ qy.af);have Ce:Hid (LB tJ (fun b=>w.heap.size<=b/\b<(w8.setRow w.heap.size #[.slice ba bn bc,.slice wa wn wc,ah 6])) (w8.setRow w.heap.size #[.slice ba bn bc,.slice wa wn wc,ah 6]) (.slice ba bn bc) BKT):=aj ((HT.af.bk.lb.asa (fun b hb=>cu _ _ _ _ (by have:=hb.2;omega))).imp (fun b hb=>⟨by have:=hb.2;omega,by simpa using hb.1⟩))
   have HE2:Hid (LB jQ (fun b=>w.heap.size<=b/\b<(w8.setRow w.heap.size #[.slice ba bn bc,.slice wa wn wc,ah 6])) (w8.setRow w.heap.size #[.slice ba bn bc,.slice wa wn wc,ah 6]) (.slice wa wn wc) FLT):=aj (by
    rw[HFk.af];exact(Ny.af.asa (fun b hb=>cu _ _ _ _ (by have:=hb.1;omega))).imp (fun b hb=>⟨qx hb.1,by simpa using hb.2.2⟩))
   have HE3:Hid (Below w w (w8.setRow w.heap.size #[.slice ba bn bc,.slice wa wn wc,ah 6])):=aj (below_setRow (mQ.af.trans (HT.af.low.mono wP)) _ _ (oD _));go_wp2_with fail;refine qE (fT rfl _ _ w.heap.size _ _ _ _ rfl FR.af Tryz.underlying38 rfl TA) rfl ?_;exact⟨_,_,rfl,Ce.af,HE2.af,HE3.af⟩
theorem aju (s:aM) (im:bK) (him:im={eY with arT:=s.arT,ar4:=s.ar4,aF:=s.aF,aJ:=(aN s (aC s)).bf,ar6:=s.ar6,asb:=(rD s).2,aP:=(jG s).2,bf:=bX (jJ s.vars),aI:=Df s,aO:=IX s,asf:=kC (aN s (aC s)) 0 (bM s).ar7 }):{im with av:=(bM s).av,ar9:=jN (bM s).av (jy (bQ (bM s).av).length),ar8:=kR (bM s).av,ase:=6 }=yj s (aN s (aC s)) (rD s).2 (jG s).2 (gW s).1 (gW s).2:=by
 have h1:=(wT s).1;have h2:GZ s (aN s (aC s)) (bM s)=(bM s,IX s):=by unfold IX;rw[Qf _ (zP s)]
 subst him;unfold yj Df Jn Pz nM;rw[h1];simp only[h2]
theorem PN (w:World) (sv:bN) (s:aM) (hS:gB (·<w.heap.size) w sv s) (bT:pu s):Calls asq 6 #[.agg (kL sv s).toArray] w (gN w s):=by
 refine calls_of_wp (c:=bL Tryz.f6 0) Tryz.func6 TA ?_;refine bt1 (w:=w) (sv:=sv) (s:=s) ⟨TA,rfl,TA,trivial⟩ hS bT ?_;intro a1 w1 aro v1 hF1 ajv;refine bt2 hF1 ajv bT ?_;intro a2 w2 fv vv L0 lb ib rv hF2 hC2;refine bt3 hF2 hC2 bT ?_;intro a3 w3 nv hF3 hC3;refine bt4 hF3 hC3 bT ⟨rfl,rfl⟩ ?_;intro a4 w4 i1 f1 hF4 hC4;refine bt5 hF4 hC4 bT (by have:=ajv.lens;omega) ajv.asj ?_;intro hso a5 w5 hF5 hC5;refine bt6 hF5 hC5 bT hso ?_;intro hal a6 w6 v6 tx N1 hF6 Ov hV hT hN hN2;refine bt7 hF6 Ov bT hT hN hN2 rfl ?_;intro a7 w7 u hF7 hC7 JH hU;refine bt8 hF7 hC7 bT rfl ?_;intro a8 w8 d tv Bd hF8 hD Kc;have hl:=hC7.h0;have nE:Step (fun b=>b<w7/\b≠ib) w7 w8:=hD.step.imp (fun b hb=>⟨wP,hb.2⟩);have Ns:=hD.hB
 have hC8:=hC7.go (GH:={{MS with aF:=rv,ar6:=nv,asb:=i1,aP:=f1 }with bf:=tv }) (im':={eY with arT:=s.arT,ar4:=s.ar4,aF:=s.aF,aJ:=(aN s (aC s)).bf,ar6:=s.ar6,asb:=(rD s).2,aP:=(jG s).2,bf:=bX (jJ s.vars)}) (A':=fun b=>(lb<b/\b<N1/\b≠ib)∨(Bd<=b/\b<w8)) nE hD.ix { (hC7.AU nE).imp (fun b hb=>aH hb)with bf:=(aX.QO hD.tt).imp (S':=fun b=>(lb<b/\b<N1/\b≠ib)∨(Bd<=b/\b<w8)) (fun b hb=>aZ ⟨Nat.le_of_not_lt hb.2,hb.1⟩)} (fun b hb=>by
  rcases hb with hb | hb
  ·exact⟨hb.1,wP,hb.2.2⟩
  ·exact⟨wP,hb.2,wP⟩)
 refine bt9 (dO:={{MS with aF:=rv,ar6:=nv,asb:=i1,aP:=f1 }with bf:=tv }) hF8 hC8 bT hD.dd (hU.step hD.step (fun b h1 h2=>⟨wP,fun e=>h2 wP⟩)) hN wP (fun g hg hA=>by
  have:=hU.lt g hg;rcases hA with hA | hA<;>omega) hV ?_
 intro a9 w9 u9 hF9 hC9;refine apx hF9 hC9 bT hso.check rfl ?_;intro zN BF arp apG apH;refine apB apG apH bT rfl ?_;intro J4 xY o11 apI apJ;exact apE apI apJ hso hal ⟨rfl,rfl,rfl⟩ (aju s _ rfl)
theorem LB.of_block {α:Type} {K:Kind α} {g:Nat} {xs:List Value} {t:TypeId} (hh:w.heap[g]? =some (.cells xs.toArray t (0,0))) (l:List α) (r:α->List Value) (hx:xs=l.flatMap r) (hlen:∀x,(r x).length=K.k) (hl:l.length<=9223372036854775807) (hr:∀x∈l,K.R S w x (r x)) (hS:S g) (n:Nat) (hn:n=l.length):LB K S w (.slice (some ⟨g,0,none⟩) n n) l:=by
 subst hx hn;refine⟨some (ak g 0),g,0,l.length,rfl,hl,fun _=>rfl,⟨oD _,fun h=>by cases h⟩,fun _=>hS,fun i x hx=>⟨r x,hr x (dH hx),fun j u hu=> ?_⟩⟩;rw[aV hh,bE]
 simpa using flat_get r K.k hlen l i x hx j u hu
theorem ahU (fs:List eH) (h:fs=[nX]∨fs=[nX,nX]):pu (xB fs):=by
 rcases h with rfl | rfl<;>exact⟨abD,abD,abD,abD,abD,abD,abD,abD,abD,fun n hn=>by cases hn⟩
theorem ahV:wY TR:=⟨abD,⟨abD,abD,abD,abD,abD⟩,abD,abD,abD⟩
theorem ajw:lJ ake:=by constructor<;>decide
def exV (fv:Value):bN:=⟨au,au,fv,au,au,au,au⟩
theorem exM {fs:List eH} (h:LB G6 S w fv fs):gB S w (exV fv) (xB fs):=
 ⟨LB.nil _ _ _,LB.nil _ _ _,h,LB.nil _ _ _,LB.nil _ _ _,LB.nil _ _ _,LB.nil _ _ _,alg _,⟨by show(-9223372036854775808:Int)<=0;decide,by show(0:Int)<=9223372036854775807;decide⟩⟩
theorem Ww {g:Nat} {t t2:TypeId} {xs:List Value} {fs:List eH} (hl:w.heap[lb]? =some (.cells #[ah 1,ah 0,ah 0,ah 0,ah 0,ah 0,ah 0,.string ⟨#[103]⟩,aK] t2 (0,0))) (hg:w.heap[g]? =some (.cells xs.toArray t (0,0))) (hx:xs=fs.flatMap fun _=>(#[.string ⟨#[102]⟩,aK,.bool false,ah 1,.bool false,ah 0,.bool false,ah 0,ah 0,.slice (some ⟨lb,0,none⟩) 1 1]:Array Value).toList) (hfs:fs=[nX]∨fs=[nX,nX]) (hSl:S lb) (Pd:S g) (n:Nat) (hn:n=fs.length):LB G6 S w (.slice (some ⟨g,0,none⟩) n n) fs:=by
 have h1:LB Kn S w (.slice (some ⟨lb,0,none⟩) 1 1) [TR]:=LB.of_block (xs:=[ah 1,ah 0,ah 0,ah 0,ah 0,ah 0,ah 0,.string ⟨#[103]⟩,aK]) hl [TR] Au rfl (fun _=>rfl) abD (fun x hx=>by
  obtain rfl:=List.mem_singleton.1 hx;exact⟨rfl,ahV⟩) hSl 1 rfl
 refine LB.of_block hg fs _ hx (fun _=>rfl) (by rcases hfs with rfl | rfl<;>decide) (fun x hx=> ?_) Pd n hn;have hx:x=nX:=by rcases hfs with rfl | rfl<;>simpa using hx
 subst hx;exact⟨_,rfl,h1,ajw⟩
theorem afU (w:World):Calls asq 4 #[] w fun e w'=>e=.returned (.bool true)/\Below w w w':=by
 go_enter Tryz.func4,Tryz.ntmps4;go_upto_region 2 with fail
 have HB1:=aj (((PZ w.heap.size w).alloc (oD _) (aB #[ah 1,ah 0,ah 0,ah 0,ah 0,ah 0,ah 0,.string ⟨#[103]⟩,aK] 60)).alloc arG (aB #[.string ⟨#[102]⟩,aK,.bool false,ah 1,.bool false,ah 0,.bool false,ah 0,ah 0,.slice (some ⟨w.heap.size,0,none⟩) 1 1] 63));have qR:Hid (((w.alloc (aB #[ah 1,ah 0,ah 0,ah 0,ah 0,ah 0,ah 0,.string ⟨#[103]⟩,aK] 60)).alloc (aB #[.string ⟨#[102]⟩,aK,.bool false,ah 1,.bool false,ah 0,.bool false,ah 0,ah 0,.slice (some ⟨w.heap.size,0,none⟩) 1 1] 63)).heap[w.heap.size]? =some (aB #[ah 1,ah 0,ah 0,ah 0,ah 0,ah 0,ah 0,.string ⟨#[103]⟩,aK] 60)):=aj ((dX _ _ arG).trans (ah2 w _))
 have Ck:Hid (((w.alloc (aB #[ah 1,ah 0,ah 0,ah 0,ah 0,ah 0,ah 0,.string ⟨#[103]⟩,aK] 60)).alloc (aB #[.string ⟨#[102]⟩,aK,.bool false,ah 1,.bool false,ah 0,.bool false,ah 0,ah 0,.slice (some ⟨w.heap.size,0,none⟩) 1 1] 63)).heap[w.heap.size+1]? =some (aB #[.string ⟨#[102]⟩,aK,.bool false,ah 1,.bool false,ah 0,.bool false,ah 0,ah 0,.slice (some ⟨w.heap.size,0,none⟩) 1 1] 63)):=aj (by
  have:=ah2 (w.alloc (aB #[ah 1,ah 0,ah 0,ah 0,ah 0,ah 0,ah 0,.string ⟨#[103]⟩,aK] 60)) (aB #[.string ⟨#[102]⟩,aK,.bool false,ah 1,.bool false,ah 0,.bool false,ah 0,ah 0,.slice (some ⟨w.heap.size,0,none⟩) 1 1] 63)
  rwa [lW]at this)
 have hz1:((w.alloc (aB #[ah 1,ah 0,ah 0,ah 0,ah 0,ah 0,ah 0,.string ⟨#[103]⟩,aK] 60)).alloc (aB #[.string ⟨#[102]⟩,aK,.bool false,ah 1,.bool false,ah 0,.bool false,ah 0,ah 0,.slice (some ⟨w.heap.size,0,none⟩) 1 1] 63)).heap.size=w.heap.size+2:=arG;generalize (w.alloc (aB #[ah 1,ah 0,ah 0,ah 0,ah 0,ah 0,ah 0,.string ⟨#[103]⟩,aK] 60)).alloc (aB #[.string ⟨#[102]⟩,aK,.bool false,ah 1,.bool false,ah 0,.bool false,ah 0,ah 0,.slice (some ⟨w.heap.size,0,none⟩) 1 1] 63)=w1 at *;have HB2:=aj (HB1.af.alloc wP (aB #[.string ⟨#[102]⟩,aK,.bool false,ah 1,.bool false,ah 0,.bool false,ah 0,ah 0,.slice (some ⟨w.heap.size,0,none⟩) 1 1] 63));have HL2:=aj ((dX w1 (aB #[.string ⟨#[102]⟩,aK,.bool false,ah 1,.bool false,ah 0,.bool false,ah 0,ah 0,.slice (some ⟨w.heap.size,0,none⟩) 1 1] 63) (r:=w.heap.size) wP).trans qR.af);have HF2:=aj ((dX w1 (aB #[.string ⟨#[102]⟩,aK,.bool false,ah 1,.bool false,ah 0,.bool false,ah 0,ah 0,.slice (some ⟨w.heap.size,0,none⟩) 1 1] 63) (r:=w.heap.size+1) wP).trans Ck.af);have HG2:=aj (ah2 w1 (aB #[.string ⟨#[102]⟩,aK,.bool false,ah 1,.bool false,ah 0,.bool false,ah 0,ah 0,.slice (some ⟨w.heap.size,0,none⟩) 1 1] 63));have HC2:Hid (Calls asq 6 #[.agg #[aK,ah 0,au,au,.slice (some ⟨w1.heap.size,0,none⟩) 1 1,au,au,au,au]] (w1.alloc (aB #[.string ⟨#[102]⟩,aK,.bool false,ah 1,.bool false,ah 0,.bool false,ah 0,ah 0,.slice (some ⟨w.heap.size,0,none⟩) 1 1] 63)) (gN (w1.alloc (aB #[.string ⟨#[102]⟩,aK,.bool false,ah 1,.bool false,ah 0,.bool false,ah 0,ah 0,.slice (some ⟨w.heap.size,0,none⟩) 1 1] 63)) (xB [nX]))):=aj (PN _ (exV (.slice (some ⟨w1.heap.size,0,none⟩) 1 1)) _ (exM (Ww HL2.af HG2.af rfl (aH rfl) (by simp;omega) arG 1 rfl)) (ahU _ (aH rfl)));have hz2:(w1.alloc (aB #[.string ⟨#[102]⟩,aK,.bool false,ah 1,.bool false,ah 0,.bool false,ah 0,ah 0,.slice (some ⟨w.heap.size,0,none⟩) 1 1] 63)).heap.size=w.heap.size+3:=by simp;omega
 have rW:=aj hz1;have vO:=aj hz2;clear hz1 hz2;have x0:=aD Ck.af 0 _ rfl;have x1:=aD Ck.af 1 _ rfl;have x2:=aD Ck.af 2 _ rfl;have x3:=aD Ck.af 3 _ rfl;have x4:=aD Ck.af 4 _ rfl;have x5:=aD Ck.af 5 _ rfl;have x6:=aD Ck.af 6 _ rfl;have x7:=aD Ck.af 7 _ rfl;have x8:=aD Ck.af 8 _ rfl;have x9:=aD Ck.af 9 _ rfl;go_wp2_with fail;refine HC2.af.mono ?_;clear x0 x1 x2 x3 x4 x5 x6 x7 x8 x9;generalize (w1.alloc (aB #[.string ⟨#[102]⟩,aK,.bool false,ah 1,.bool false,ah 0,.bool false,ah 0,ah 0,.slice (some ⟨w.heap.size,0,none⟩) 1 1] 63))=w2 at *;rintro e w3 ⟨iv,rfl,hb3,PO⟩;obtain ⟨rM,him⟩:=aiG ((gD (xB [nX])).1);rw[akV,<-him];rw[<-him]at PO;have e1:=aiM;have e2:=aiN;have e3:=aiO;have e4:=ahi;rw[<-him]at e1 e2 e3 e4;replace PO:=PO.img;have hone:=FC PO;obtain⟨sa,sb,so,sc,mO,hsm,hsc,rA⟩:=PO.aI.at;obtain⟨ya,yc,Q4⟩:=PO.av.form;obtain⟨ta,tb,PQ,tc,Nw,htm,htc,Jc⟩:=PO.asf.at;obtain⟨x0,hx0⟩:∃x,rM.aI[0]? =some x:=⟨_,gP wP⟩;rw[hx0]at e2;have e2:x0.bytes.length=32:=Option.some.inj e2;obtain⟨bv,g0,g1,g2,-,gb⟩:=rA.Ki 0 x0 hx0;obtain⟨ba,bc,rfl⟩:=gb.form;rw[e2]at g2;obtain⟨t0,t1,t2⟩:=Jc.Sk 0 ⟨64,1,24⟩ (by rw[e4];rfl);have hta:=Jc.addr (by rw[e4];decide);have hsa:=rA.addr wP;subst hta hsa;rw[e1]at mO;rw[e3]at Q4;rw[e4]at Nw;have hcells:aW iv rM=#[ax rM.arT,ah rM.ar4,.slice (some ⟨sb,so,none⟩) 2 sc,iv.ar6,iv.aF,.slice ya 2 yc,iv.ar9,iv.ar8,ah rM.ase,iv.aO,.slice (some ⟨tb,PQ,none⟩) 1 tc,iv.asb,iv.aP,iv.bf,ah rM.aJ]:=by unfold aW;rw[mO,Q4,Nw];rfl
 rw[hcells]at hone ⊢;simp only[Nat.zero_mul,Nat.add_zero]at g0 g1 g2 t0 t1 t2;have hsS:=rA.mG wP;have htS:=Jc.mG (by rw[e4];decide);have Wi:=aj hb3.size;have HB3:=aj (HB2.af.trans (hb3.mono (by have:=vO.af;omega)));have zD:=aj ((hb3.block w.heap.size (by have:=vO.af;omega)).trans HL2.af);have XM:=aj ((hb3.block (w.heap.size+1) (by have:=vO.af;omega)).trans HF2.af);have pW:Hid (sb<w3/\tb<w3):=aj ⟨hsS.2,htS.2⟩;have Hsg:=aj g2;have Ht0:=aj t0;have Ht1:=aj t1;have Ht2:=aj t2;clear hb3 PO hsm hsc rA htm htc Jc mO Q4 Nw hx0 g0 g1 g2 t0 t1 t2 hsS htS him e1 e2 e3 e4 hcells HB1 qR Ck HB2 HL2 HF2 HG2 HC2;go_upto_region 3 with (refine Bv rfl 44 (.tmp 2) (.tmp 13) rfl w3.heap.size #[ax rM.arT,ah rM.ar4,.slice (some ⟨sb,so,none⟩) 2 sc,iv.ar6,iv.aF,.slice ya 2 yc,iv.ar9,iv.ar8,ah rM.ase,iv.aO,.slice (some ⟨tb,PQ,none⟩) 1 tc,iv.asb,iv.aP,iv.bf,ah rM.aJ] rfl rfl _ _ (ah2 w3 _) TA rfl hone ?_)
 have xU:=aj (TL (w3.alloc (aB arJ 44)) w3.heap.size _ (#[ax rM.arT,ah rM.ar4,.slice (some ⟨sb,so,none⟩) 2 sc,iv.ar6,iv.aF,.slice ya 2 yc,iv.ar9,iv.ar8,ah rM.ase,iv.aO,.slice (some ⟨tb,PQ,none⟩) 1 tc,iv.asb,iv.aP,iv.bf,ah rM.aJ]) _ _ (ah2 w3 _));have PS:Hid (∀b,b<w3.heap.size->((w3.alloc (aB arJ 44)).setRow w3.heap.size (#[ax rM.arT,ah rM.ar4,.slice (some ⟨sb,so,none⟩) 2 sc,iv.ar6,iv.aF,.slice ya 2 yc,iv.ar9,iv.ar8,ah rM.ase,iv.aO,.slice (some ⟨tb,PQ,none⟩) 1 tc,iv.asb,iv.aP,iv.bf,ah rM.aJ])).heap[b]? =w3.heap[b]?):=aj (fun b hb=>(cu _ _ b _ wP).trans (dX w3 _ hb));have ui:=aj (below_setRow (HB3.af.alloc HB3.af.size (aB arJ 44)) w3.heap.size (#[ax rM.arT,ah rM.ar4,.slice (some ⟨sb,so,none⟩) 2 sc,iv.ar6,iv.aF,.slice ya 2 yc,iv.ar9,iv.ar8,ah rM.ase,iv.aO,.slice (some ⟨tb,PQ,none⟩) 1 tc,iv.asb,iv.aP,iv.bf,ah rM.aJ]) HB3.af.size);have Co:((w3.alloc (aB arJ 44)).setRow w3.heap.size (#[ax rM.arT,ah rM.ar4,.slice (some ⟨sb,so,none⟩) 2 sc,iv.ar6,iv.aF,.slice ya 2 yc,iv.ar9,iv.ar8,ah rM.ase,iv.aO,.slice (some ⟨tb,PQ,none⟩) 1 tc,iv.asb,iv.aP,iv.bf,ah rM.aJ])).heap.size=w3.heap.size+1:=arG;obtain ⟨ib,hib⟩:=aiG w3.heap.size;rw[<-hib]at xU ui PS Co ⊢;generalize (w3.alloc (aB arJ 44)).setRow ib (#[ax rM.arT,ah rM.ar4,.slice (some ⟨sb,so,none⟩) 2 sc,iv.ar6,iv.aF,.slice ya 2 yc,iv.ar9,iv.ar8,ah rM.ase,iv.aO,.slice (some ⟨tb,PQ,none⟩) 1 tc,iv.asb,iv.aP,iv.bf,ah rM.aJ])=w4 at *;have EE:=aj ((PS.af w.heap.size (by have:=vO.af;have:=Wi.af;omega)).trans zD.af);have FU:=aj ((PS.af (w.heap.size+1) (by have:=vO.af;have:=Wi.af;omega)).trans XM.af);have apK:=aj ((Tg (a:=(ak sb (so+2))) (PS.af sb (by have:=pW.af.1;omega))).trans Hsg.af);have t0:=(Tg (a:=(ak tb PQ)) (PS.af tb (by have:=pW.af.2;omega))).trans Ht0.af;have t1:=(Tg (a:=(ak tb (PQ+1))) (PS.af tb (by have:=pW.af.2;omega))).trans Ht1.af;have t2:=(Tg (a:=(ak tb (PQ+2))) (PS.af tb (by have:=pW.af.2;omega))).trans Ht2.af;have s2:w4.cell? (ak ib 2)=some (.slice (some ⟨sb,so,none⟩) 2 sc):=aL xU.af rfl;have s5:w4.cell? (ak ib 5)=some (.slice ya 2 yc):=aL xU.af rfl;have s10:w4.cell? (ak ib 10)=some (.slice (some ⟨tb,PQ,none⟩) 1 tc):=aL xU.af rfl;have ND:Hid (sb<w4/\ib<w4/\w.heap.size+3<=w4.heap.size):=aj (by have:=pW.af;have:=Wi.af;have:=vO.af;omega);clear hone PS Co hib rW vO Wi HB3 zD XM pW Hsg Ht0 Ht1 Ht2 e2 gb;go_upto_region 5 with fail
 clear s2 s5 s10 t0 t1 t2;have mQ:=aj (ui.af.alloc (by have:=ND.af;omega) (aB #[.string ⟨#[102]⟩,aK,.bool false,ah 1,.bool false,ah 0,.bool false,ah 0,ah 0,.slice (some ⟨w.heap.size,0,none⟩) 1 1,.string ⟨#[102]⟩,aK,.bool false,ah 1,.bool false,ah 0,.bool false,ah 0,ah 0,.slice (some ⟨w.heap.size,0,none⟩) 1 1] 63));have vK:=aj ((dX w4 (aB #[.string ⟨#[102]⟩,aK,.bool false,ah 1,.bool false,ah 0,.bool false,ah 0,ah 0,.slice (some ⟨w.heap.size,0,none⟩) 1 1,.string ⟨#[102]⟩,aK,.bool false,ah 1,.bool false,ah 0,.bool false,ah 0,ah 0,.slice (some ⟨w.heap.size,0,none⟩) 1 1] 63) (r:=w.heap.size) (by have:=ND.af;omega)).trans EE.af);have NG:=aj (ah2 w4 (aB #[.string ⟨#[102]⟩,aK,.bool false,ah 1,.bool false,ah 0,.bool false,ah 0,ah 0,.slice (some ⟨w.heap.size,0,none⟩) 1 1,.string ⟨#[102]⟩,aK,.bool false,ah 1,.bool false,ah 0,.bool false,ah 0,ah 0,.slice (some ⟨w.heap.size,0,none⟩) 1 1] 63));have kF:=aj ((dX w4 (aB #[.string ⟨#[102]⟩,aK,.bool false,ah 1,.bool false,ah 0,.bool false,ah 0,ah 0,.slice (some ⟨w.heap.size,0,none⟩) 1 1,.string ⟨#[102]⟩,aK,.bool false,ah 1,.bool false,ah 0,.bool false,ah 0,ah 0,.slice (some ⟨w.heap.size,0,none⟩) 1 1] 63) (r:=ib) (by have:=ND.af;omega)).trans xU.af);have amH:=aj ((Tg (a:=(ak sb (so+2))) (dX w4 (aB #[.string ⟨#[102]⟩,aK,.bool false,ah 1,.bool false,ah 0,.bool false,ah 0,ah 0,.slice (some ⟨w.heap.size,0,none⟩) 1 1,.string ⟨#[102]⟩,aK,.bool false,ah 1,.bool false,ah 0,.bool false,ah 0,ah 0,.slice (some ⟨w.heap.size,0,none⟩) 1 1] 63) (by have:=ND.af;show sb<_;omega))).trans apK.af);have HC5:Hid (Calls asq 6 #[.agg #[aK,ah 0,au,au,.slice (some ⟨w4.heap.size,0,none⟩) 2 2,au,au,au,au]] (w4.alloc (aB #[.string ⟨#[102]⟩,aK,.bool false,ah 1,.bool false,ah 0,.bool false,ah 0,ah 0,.slice (some ⟨w.heap.size,0,none⟩) 1 1,.string ⟨#[102]⟩,aK,.bool false,ah 1,.bool false,ah 0,.bool false,ah 0,ah 0,.slice (some ⟨w.heap.size,0,none⟩) 1 1] 63)) (gN (w4.alloc (aB #[.string ⟨#[102]⟩,aK,.bool false,ah 1,.bool false,ah 0,.bool false,ah 0,ah 0,.slice (some ⟨w.heap.size,0,none⟩) 1 1,.string ⟨#[102]⟩,aK,.bool false,ah 1,.bool false,ah 0,.bool false,ah 0,ah 0,.slice (some ⟨w.heap.size,0,none⟩) 1 1] 63)) (xB [nX,nX]))):=aj (PN _ (exV (.slice (some ⟨w4.heap.size,0,none⟩) 2 2)) _ (exM (Ww vK.af NG.af rfl (aZ rfl) (by have:=ND.af;simp;omega) arG 2 rfl)) (ahU _ (aZ rfl)));have afV:Hid (sb<(w4.alloc (aB #[.string ⟨#[102]⟩,aK,.bool false,ah 1,.bool false,ah 0,.bool false,ah 0,ah 0,.slice (some ⟨w.heap.size,0,none⟩) 1 1,.string ⟨#[102]⟩,aK,.bool false,ah 1,.bool false,ah 0,.bool false,ah 0,ah 0,.slice (some ⟨w.heap.size,0,none⟩) 1 1] 63))/\ib<(w4.alloc (aB #[.string ⟨#[102]⟩,aK,.bool false,ah 1,.bool false,ah 0,.bool false,ah 0,ah 0,.slice (some ⟨w.heap.size,0,none⟩) 1 1,.string ⟨#[102]⟩,aK,.bool false,ah 1,.bool false,ah 0,.bool false,ah 0,ah 0,.slice (some ⟨w.heap.size,0,none⟩) 1 1] 63))/\w.heap.size<=(w4.alloc (aB #[.string ⟨#[102]⟩,aK,.bool false,ah 1,.bool false,ah 0,.bool false,ah 0,ah 0,.slice (some ⟨w.heap.size,0,none⟩) 1 1,.string ⟨#[102]⟩,aK,.bool false,ah 1,.bool false,ah 0,.bool false,ah 0,ah 0,.slice (some ⟨w.heap.size,0,none⟩) 1 1] 63))):=aj (by have:=ND.af;simp;omega);have x0:=aD FU.af 0 _ rfl;have x1:=aD FU.af 1 _ rfl;have x2:=aD FU.af 2 _ rfl;have x3:=aD FU.af 3 _ rfl;have x4:=aD FU.af 4 _ rfl;have x5:=aD FU.af 5 _ rfl;have x6:=aD FU.af 6 _ rfl;have x7:=aD FU.af 7 _ rfl;have x8:=aD FU.af 8 _ rfl;have x9:=aD FU.af 9 _ rfl;go_wp2_with fail;refine HC5.af.mono ?_;clear x0 x1 x2 x3 x4 x5 x6 x7 x8 x9;generalize (w4.alloc (aB #[.string ⟨#[102]⟩,aK,.bool false,ah 1,.bool false,ah 0,.bool false,ah 0,ah 0,.slice (some ⟨w.heap.size,0,none⟩) 1 1,.string ⟨#[102]⟩,aK,.bool false,ah 1,.bool false,ah 0,.bool false,ah 0,ah 0,.slice (some ⟨w.heap.size,0,none⟩) 1 1] 63))=w5 at *;rintro e w6 ⟨iv2,rfl,hb6,-⟩;rw[akW];have AQ:=aj (mQ.af.trans (hb6.mono afV.af.2.2));have sD:=aj ((hb6.block ib afV.af.2.1).trans kF.af);have g2:=(Tg (a:=(ak sb (so+2))) (hb6.block sb afV.af.1)).trans amH.af;have s2:w6.cell? (ak ib 2)=some (.slice (some ⟨sb,so,none⟩) 2 sc):=aL sD.af rfl;generalize aW iv2 (gD (xB [nX,nX])).1=cs2;clear hb6 HC5 ND afV mQ vK NG kF amH;go_wp2_with fail;go_ret;exact⟨rfl,AQ.af⟩
structure afW (s:aM):Prop where
 ar2:s.ar2.length<=2000
 vars:s.vars.length<=2000
 ar5:s.ar5.length<=2000
 ar8:(s.vars.flatMap (·.ar8)).length<=2000
 ash:(s.vars.flatMap (·.ash)).length<=2000
 asb:s.asb.length<=2000
 aP:s.aP.length<=2000
def Xf (w:World) (s:aM) (e:Ending) (w':World):Prop:=∃r:Bool,e=.returned (.bool r)/\(r=true->afW s)/\Below w w w'
theorem zR {w':World} (h:Below w w w'):Xf w s (.returned (.bool false)) w':=⟨false,rfl,fun h=>(by cases h),h⟩
theorem ajx (w:World) (sv:bN) (s:aM) (hS:gB (·<w.heap.size) w sv s):Calls asq 5 #[.agg (kL sv s).toArray] w (Xf w s):=by
 obtain⟨fa,fb,fo,fc,lZ,hfm,hfc,jP⟩:=hS.ar2.at;obtain⟨va,vb,vo,vc,hvf,xQ,hvc,kI⟩:=hS.vars.at;obtain⟨wa,wc,hwf⟩:=hS.ar1.form;obtain⟨ia,ic,hif⟩:=hS.asb.form;obtain⟨ea,ec,hef⟩:=hS.aP.form;have XW:=hS.ar1.max;have him:=hS.asb.max;have hem:=hS.aP.max;unfold kL;rw[lZ,hvf,hwf,hif,hef];clear lZ hvf hwf hif hef hS;have aaW:=jP.addr;have aaX:=kI.addr;have hfin:=jP.mG;have apL:=kI.mG;have tq:=aj jP;have yw:=aj kI;clear jP kI;obtain ⟨nf,hnf⟩:=aiG s.ar2.length;obtain ⟨nv,sQ⟩:=aiG s.vars.length;obtain ⟨nw,hnw⟩:=aiG s.ar1.length;obtain ⟨ni,hni⟩:=aiG s.asb.length;obtain ⟨ne,hne⟩:=aiG s.aP.length;rw[<-hnf]at hfm hfc aaW hfin ⊢;rw[<-sQ]at xQ hvc aaX apL ⊢;rw[<-hnw]at XW ⊢;rw[<-hni]at him ⊢;rw[<-hne]at hem ⊢;have EK:=aj hnf;have zo:=aj sQ;have Hni:=aj hni;have I4:=aj hne;clear hnf sQ hnw hni hne;have eT:=aj (ah2 w (aB #[ax s.arT,ah s.ar4,sv.ar6,sv.aF,.slice fa nf fc,.slice va nv vc,.slice wa nw wc,.slice ia ni ic,.slice ea ne ec] 28));have HB1:=aj ((PZ w.heap.size w).alloc (oD _) (aB #[ax s.arT,ah s.ar4,sv.ar6,sv.aF,.slice fa nf fc,.slice va nv vc,.slice wa nw wc,.slice ia ni ic,.slice ea ne ec] 28));have rW:Hid ((w.alloc (aB #[ax s.arT,ah s.ar4,sv.ar6,sv.aF,.slice fa nf fc,.slice va nv vc,.slice wa nw wc,.slice ia ni ic,.slice ea ne ec] 28)).heap.size=w.heap.size+1):=aj arG;go_enter Tryz.func5,Tryz.ntmps5;go_upto_region 1 with fail
 generalize w.alloc (aB #[ax s.arT,ah s.ar4,sv.ar6,sv.aF,.slice fa nf fc,.slice va nv vc,.slice wa nw wc,.slice ia ni ic,.slice ea ne ec] 28)=w1 at *;have s4:w1.cell? (ak w 4)=some (.slice fa nf fc):=aL eT.af rfl;have s5:w1.cell? (ak w 5)=some (.slice va nv vc):=aL eT.af rfl;have s6:w1.cell? (ak w 6)=some (.slice wa nw wc):=aL eT.af rfl;have s7:w1.cell? (ak w 7)=some (.slice ia ni ic):=aL eT.af rfl;have s8:w1.cell? (ak w 8)=some (.slice ea ne ec):=aL eT.af rfl;by_cases h4:(2000:Int)<(nf:Int)
 ·go_wp2
  go_ret;exact zR HB1.af
 by_cases h5:(2000:Int)<(nv:Int)
 ·go_wp2
  go_ret;exact zR HB1.af
 by_cases h6:(2000:Int)<(nw:Int)
 ·go_wp2
  go_ret;exact zR HB1.af
 by_cases h7:(2000:Int)<(ni:Int)
 ·go_wp2
  go_ret;exact zR HB1.af
 by_cases h8:(2000:Int)<(ne:Int)
 ·go_wp2
  go_ret;exact zR HB1.af
 go_wp2_with fail;clear s6 s7 s8 XW him hem h6;go_loop [3,4] (fun z i=>∃k:Nat,i=ah k/\k<=nf/\∃m:Nat,z=ah m/\m=((s.ar2.take k).flatMap (·.ar5)).length/\m<=2000) (fun _ i=>nf-(intOf i).toNat);exact⟨0,rfl,alg _,0,rfl,rfl,wP⟩;obtain⟨k,rfl,hk,m,rfl,hm,hm2⟩:=hrel;have Hm:=aj hm;clear hm;by_cases hlt:k<nf
 ·obtain rfl:=aaW wP
  obtain⟨x,hx⟩:∃x,s.ar2[k]? =some x:=⟨_,gP (by rw[<-EK.af];exact hlt)⟩;obtain⟨c,hc,-,-,-,-,-,-,-,-,-,-,f9⟩:=tq.af.xJ HB1.af k x hx;obtain⟨la,lc,rfl⟩:=hc.form;have hlm:=hc.max;have lN:Hid (((s.ar2.take (k+1)).flatMap (·.ar5)).length=m+x.ar5.length):=aj (by rw[jR hx,j5,Kk,<-Hm.af];simp);obtain ⟨q,hq⟩:=aiG x.ar5.length;rw[<-hq]at lN f9 hlm;clear hx hc hq;have hk2:(k:Int)<(nf:Int):=wP;have hk3:0<=(k:Int):=wP;by_cases hq2:(2000:Int)<(q:Int)
  ·go_wp2
   go_ret;exact zR HB1.af
  by_cases hq3:(2000:Int)<(m:Int)+(q:Int)
  ·go_wp2
   go_ret;exact zR HB1.af
  go_wp2_with fail;go_round;exact⟨k+1,arH,wP,m+q,arH,lN.af.symm,wP⟩;simp[intOf];omega
 ·have HM:=aj Hm.af
  have sJ:s.ar5.length<=2000:=by
   have h:=Hm.af;rw[dh (by have:=EK.af;omega)]at h;unfold aM.ar5;omega
  have amI:=aj sJ;clear sJ HM Hm;go_wp2_with fail;go_loopw [3,5] (fun z i wr=>∃k:Nat,i=ah k/\k<=nv/\∃m:Nat,z=ah m/\m<=2000/\((s.vars.take k).flatMap (·.ar8)).length+((s.vars.take k).flatMap (·.ash)).length<=m/\Below (w+1) w1 wr) (fun _ i _=>nv-(intOf i).toNat);exact⟨0,rfl,alg _,m,rfl,hm2,alg _,PZ _ _⟩;obtain⟨k,rfl,hk,m,rfl,hm2,hm,hbr⟩:=hrel;have Hm:=aj hm;have xh:=aj hbr;have HW:=aj (HB1.af.trans (hbr.mono wP));have s5:wr.cell? (ak w 5)=some (.slice va nv vc):=(hbr.cell (p:=(ak w 5)) (by show w.heap.size<_;omega)).trans s5;clear hm hbr;by_cases hlt:k<nv
  ·obtain rfl:=aaX wP
   obtain⟨x,hx⟩:∃x,s.vars[k]? =some x:=⟨_,gP (by rw[<-zo.af];exact hlt)⟩;obtain⟨c,d,hc,hd,-,-,-,-,-,-,-,-,-,-,f9,f10,-⟩:=yw.af.rZ HW.af k x hx;obtain⟨la,lc,rfl⟩:=hc.form;obtain⟨ra,rc,rfl⟩:=hd.form;have hlm:=hc.max;have hrm:=hd.max
   have lN:Hid (((s.vars.take (k+1)).flatMap (·.ar8)).length+((s.vars.take (k+1)).flatMap (·.ash)).length<=m+(x.ar8.length+x.ash.length)):=aj (by
    rw[jR hx,j5,j5,Kk,Kk];have:=Hm.af;simp only[List.flatMap_cons,List.flatMap_nil,Y8];omega)
   obtain ⟨q,hq⟩:=aiG x.ar8.length;obtain ⟨r,hr⟩:=aiG x.ash.length;rw[<-hq]at lN f9 hlm;rw[<-hr]at lN f10 hrm;clear hx hc hd hq hr;have hk2:(k:Int)<(nv:Int):=wP;have hk3:0<=(k:Int):=wP;by_cases hq2:(2000:Int)<(q:Int)
   ·go_wp2
    go_ret;exact zR HW.af
   by_cases hr2:(2000:Int)<(r:Int)
   ·go_wp2
    go_ret;exact zR HW.af
   go_wp2_with fail;go_quiet (fail);have HB2:=aj (show Below (w+1) w1 (wr.drewN nq)from⟨xh.af.os,xh.af.tape,xh.af.output,xh.af.size,xh.af.block⟩);have HW2:=aj (show Below w w (wr.drewN nq)from⟨HW.af.os,HW.af.tape,HW.af.output,HW.af.size,HW.af.block⟩);by_cases hq3:(2000:Int)<(m:Int)+((q:Int)+(r:Int))
   ·go_wp2
    go_ret;exact zR HW2.af
   go_wp2_with fail;go_roundw;exact⟨k+1,arH,wP,m+(q+r),arH,wP,lN.af,HB2.af⟩;simp[intOf];omega
  ·have hv:=Hm.af
   rw[dh (by have:=zo.af;omega)]at hv;have HF:=aj (show afW s from⟨by have:=EK.af;omega,by have:=zo.af;omega,amI.af,wP,wP,by have:=Hni.af;omega,by have:=I4.af;omega⟩);clear hv;go_wp2;go_ret;exact⟨true,rfl,fun _=>HF.af,HW.af⟩
theorem ahW (h:(gD s).2=0):Zf s/\(gW s).2.all gJ=true/\(gD s).1=yj s (aN s (aC s)) (rD s).2 (jG s).2 (gW s).1 (gW s).2/\kH (gD s).1=0:=by
 rw[wS]at h ⊢;by_cases h1:512<s.ar2.length∨512<s.vars.length
 ·rw[if_pos h1]at h;exact absurd h abD
 rw[if_neg h1]at h ⊢;by_cases h2:(aC s).asj≠0
 ·rw[if_pos h2]at h;exact absurd h h2
 rw[if_neg h2]at h ⊢;by_cases h3:(jG s).1.asj≠0
 ·rw[if_pos h3]at h;exact absurd h h3
 rw[if_neg h3]at h ⊢;by_cases h4:512<(aC s).av.length∨65536<(aN s (aC s)).data∨4096<(aN s (aC s)).bf
 ·rw[if_pos h4]at h;exact absurd h abD
 rw[if_neg h4]at h ⊢;by_cases h5:(gW s).2.all gJ=false
 ·rw[if_pos h5]at h;exact absurd h abD
 rw[if_neg h5]at h ⊢;by_cases h6:kH (yj s (aN s (aC s)) (rD s).2 (jG s).2 (gW s).1 (gW s).2)≠0
 ·rw[if_pos h6]at h;exact absurd h h6
 rw[if_neg h6];exact⟨⟨h1,by simpa using h2,by simpa using h3,h4⟩,by simpa using h5,rfl,by simpa using h6⟩
section
variable {c : Int} (hc : c ≠ 0)
include hc
end
theorem gB.imp {S':Nat->Prop} {v:bN} (h:gB S w v s) (hi:∀b,S b->S' b):gB S' w v s:=
 ⟨h.ar6.imp hi,h.aF.imp hi,h.ar2.imp hi,h.vars.imp hi,h.ar1.imp hi,h.asb.imp hi,h.aP.imp hi,h.arT,h.ar4⟩
theorem gB.later {w':World} {v:bN} (h:gB (·<w.heap.size) w v s) (hb:Below w w w'):gB (·<w'.heap.size) w' v s:=
 (h.asa (.of_below hb)).imp fun _ hb'=>akb hb' hb.size
structure Reach (s:aM):Prop where
 run:s.aF.length*16<=140737488355328
 need:s.ar6.length*40<=140737488355328
 ajh:∀n∈s.ar6,n.asi.length*16<=140737488355328
theorem afW.l (h:afW s) (hr:Reach s):pu s:=⟨h.ar2,h.vars,h.ar5,h.ar8,h.ash,h.asb,h.aP,hr.run,hr.need,hr.ajh⟩
end Go.Proofs.YtpjgjeadjjackaaGreat
