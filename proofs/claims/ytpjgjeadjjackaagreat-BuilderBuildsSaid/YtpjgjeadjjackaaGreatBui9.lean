/- Lemmas. -/
import Derived.Test.YtpjgjeadjjackaaGreatBui8
import Derived.Test.YtpjgjeadjjackaaGreatBui4
import Derived.Test.YtpjgjeadjjackaaGreatBui3
import Derived.Test.YtpjgjeadjjackaaGreatBui6
import Derived.Maps.OwnSet
import Derived.Outline
set_option linter.unusedVariables false
set_option linter.unusedSimpArgs false
set_option maxHeartbeats 64000000
set_option maxRecDepth 100000
namespace Go.Proofs.YtpjgjeadjjackaaGreat
open Go.RowKit
open Go.Proofs.Tryz renaming prog->asq
open _root_.Array renaming getElem?_eq_none->Ku
open Go renaming heap_alloc_new->ah2,wpAny_of_held->P8,wpAnyH_done->E5,wpList_store_row->Bv,heap_alloc_old->dX,setRow_other->cu,setRow_heap->TL,bodyPost_ret->qE,info_parts->dM
open Go.AllReadyH renaming cons->eD,nil->fU
open Go.IntWalk renaming i64_in->iJ
open Go.Lib renaming cell_of_heap->aV,frozen_of_heap->vV
open Go.Maps renaming atKey_put_other->OI,atKey_put_same->aaB
open Go.RowKit.Below renaming refl->PZ
open Go.World renaming cell?_of_block->Tg,size_alloc->lW,cell?_drew->iQ,block_lt_of_cell?->fD
open Go.World.ownsRow renaming lt->AY
open _root_.List renaming getElem?_eq_getElem->gP,mem_of_getElem?->dH,take_of_length_le->dh,getElem?_eq_some_iff->Sm,length_append->Kk,findIdx?_eq_some_iff_getElem->Ig,getElem?_eq_none->aj5,length_cons->oF,length_take->og,getD_eq_getElem?_getD->tK,length_replicate->u6,flatMap_cons->KF,length_nil->aR,length_set->zI,append_assoc->Sq,ext_getElem?->DI,getElem?_cons_succ->Y6,mem_singleton->tY,getElem?_set_self->tZ,not_mem_nil->nW,getElem?_set_ne->Gb,getElem?_append_right->zU,mem_cons->Y1,getElem?_append_left->bH,eq_of_mem_replicate->mR,getElem?_cons_zero->yQ,mem_flatMap->TY,mem_cons_of_mem->uT,getElem?_modify->TZ,mem_cons_self->oh,getElem?_map->vW,cons_append->Aa,append_nil->Y8,length_map->BR,mem_of_mem_take->Ub,getElem?_set->OY,map_nil->aaT
open _root_.Nat renaming le_refl->oD,zero_le->alg,zero_add->bE,min_eq_left->JW,le_of_lt->qx,mod_lt->Ti,lt_or_ge->oG,le_trans->eG,le_of_eq->Ug,mul_one->Uh,one_mul->Sr,zero_mul->aaZ
open _root_.Or renaming inl->aH,inr->aZ
variable {n b B pb g:Nat}{e:TypeId}{sv:bN}{s:aM}{own:Int}{v:bG}{w w1:World}{p:aA}{fv vv:Value}
theorem jd:pE fq:=fun _ _ _ _ _ _ h=>h
theorem YU (size:Nat) (n:Int) (i:Nat) (h:i<size):(bD size n).take (i+1)=(bD size n).take i++[jI n i]:=by
 have hl:i<(bD size n).length:=by rw[dA];exact h
 rw[List.take_succ_eq_append_getElem hl]
 congr 2
 simp[bD,jI]
theorem X4 (n:Int) (i:Nat) (h:i<8):IntKind.u8.wrap (n/2 ^ (8*i))=((jI n i).toNat:Int):=by
 have e:∀m:Nat,((UInt8.ofNat m).toNat:Int)=(m:Int)%256:=fun m=>arG
 unfold jI;rw[e,IntKind.wrap_u8'];have:i=0∨i=1∨i=2∨i=3∨i=4∨i=5∨i=6∨i=7:=wP;rcases this with rfl | rfl | rfl | rfl | rfl | rfl | rfl | rfl<;>simp only[Nat.mul_zero,Uh,Nat.reduceMul,Nat.reducePow,Int.reducePow,Nat.pow_zero,Int.pow_zero]<;>omega
theorem ab0 (n:Int) (i:Nat):jI (IntKind.u64.wrap n) i=jI n i:=by
 unfold jI;have:IntKind.u64.wrap n=n%18446744073709551616:=by rw[IntKind.wrap_u64]
 rw[this]
 congr 2
 omega
theorem ab1 {ns:List Int} {k:Nat} {n:Int} (hn:ns[k]? =some n):bX (ns.take (k+1))=bX (ns.take k)++bD 8 n:=by
 rw[jR hn];unfold bX;rw[List.flatMap_append];simp
theorem tV (ns:List Int):(bX ns).length=8*ns.length:=by
 induction ns with
 | nil=>rfl
 | cons n ns ih=>
  have:bX (n :: ns)=bD 8 n++bX ns:=rfl;rw[this,Kk,ih,dA,oF];omega
def Ab {α:Type} (e:TypeId) (K:Kind α) (w:World) (l:List α) (x:Ending) (w':World):Prop:=∃r,x=.returned r/\aX e K w.heap.size (fun _=>False) w' r l/\Below w w w'
theorem X5 {S:Nat->Prop} (w:World) (u:Value) (ns:List Int) (hu:LB dJ S w u ns) (hS:∀b,S b->b<w.heap.size) (hl:ns.length<=100000000):
  Calls asq 17 #[u] w (Ab 5 fq w (bX ns)):=by
 obtain⟨ua,ub,nN,Ct,rfl,EH,huc,hat⟩:=hu.at;have Nk:=hat.addr;have dP:=aj (hat.asa (S:=S) (w':=w) (fun b _=>rfl));have HS:=aj hS;obtain ⟨m,hm⟩:=aiG ns.length;have Hm:=aj hm;rw[<-hm]at EH huc Nk hl ⊢;clear hu hat hS hm;go_enter Tryz.func17,Tryz.ntmps17;go_wp2_with fail;go_loopw [3,9] (fun o i wr=>∃k:Nat,i=ah k/\k<=m/\aX 5 fq w.heap.size (fun b=>b<w) wr o (bX (ns.take k))/\Below w w wr) (fun _ i _=>m-(intOf i).toNat);exact⟨0,rfl,alg _,aX.nil _ _ _ _ _,PZ _ _⟩;obtain⟨k,rfl,hk,ho,hb⟩:=hrel;have HO:=aj ho;have HB:=aj hb;clear ho hb;by_cases hlt:k<m
 ·obtain rfl:=Nk wP
  obtain⟨n,hn⟩:∃n,ns[k]? =some n:=⟨_,gP (by rw[<-Hm.af];exact hlt)⟩;have g:=(HB.af.cell (p:=(ak ub (nN+k))) (HS.af _ (dP.af.mG (by rw[<-Hm.af];omega)))).trans (dP.af.oC k n hn);have Hnt:=aj (ab1 hn);have TH:=aj (show (bX (ns.take k)).length=8*k by rw[tV,og];have:=Hm.af;omega);have hk2:(k:Int)<(m:Int):=wP;clear hn;go_wp2_with fail;clear g;go_loopw [3,13] (fun o i wi=>∃j:Nat,i=ah j/\j<=8/\aX 5 fq w.heap.size (fun b=>b<w) wi o (bX (ns.take k)++(bD 8 n).take j)/\Below w w wi) (fun _ i _=>8-(intOf i).toNat);exact⟨0,rfl,alg _,by simpa using HO.af,HB.af⟩;obtain⟨j,rfl,hj,ho,hb⟩:=hrel;have nV:=aj ho;have HB2:=aj hb;have hz:=hb.size;clear ho hb;by_cases hjt:j<8
  ·have X6:=aj (YU 8 n j hjt)
   have hj2:(j:Int)<8:=wP;obtain⟨oa,oc,hof⟩:=nV.af.form;obtain ⟨L,hL⟩:=aiG ((bX (ns.take k)++(bD 8 n).take j).length);have HL:=aj hL;have hLb:L<=1000000000:=by rw[hL,Kk,TH.af,og,dA];omega
   rw[<-hL]at hof;subst hof;have hq0:(0:Int)<=8*(j:Int):=wP;have hq1:8*(j:Int)<=64:=wP;have hq2:IntKind.i64.wrap (8*(j:Int))=8*(j:Int):=by rw[IntKind.wrap_i64];omega
   have hq3:(8*(j:Int)).toNat=8*j:=wP;have hsb:=X4 (IntKind.u64.wrap n) j hjt;rw[ab0]at hsb;obtain⟨cb,hcb⟩:∃cb,jI n j=cb:=⟨_,rfl⟩;rw[hcb]at hsb X6;obtain⟨mm,hmm⟩:∃mm,IntKind.u64.wrap n=mm:=⟨_,rfl⟩;have aof:0<=mm:=by rw[<-hmm,IntKind.wrap_u64];omega
   rw[hmm]at hsb;clear hL hcb;go_upto_region 8 with fail
   have F9:=aj ((nV.af.fJ (E':=fun b=>b<wr+1/\¬(Value.slice oa L oc).ownBlock=some b) jd (fun g hg h=>h.2 hg)).alloc (.cells #[.int .u8 cb.toNat] 5));have lh:Hid ((wr.alloc (.cells #[.int .u8 cb.toNat] 5)).heap.size=wr.heap.size+1):=aj arG;go_wp2_with (at_builtin;go_loud (refine fZ 42 (.int .u8 0) 1 Tryz.underlying42 mW rfl abD rfl (.tmp 16) (.tmp 23) rfl L HL.af.symm rfl F9.af (fun b hb=>by have h1:=hb.1;have h2:=lh.af;omega) wr.heap.size cb [.int .u8 cb.toNat] rfl (aD (xs:=[.int .u8 cb.toNat]) (ah2 wr (.cells #[.int .u8 cb.toNat] 5))) (by simp[Value.oneCell']) rfl (by rw[<-HL.af];omega) (by rw[<-HL.af];omega) (by have h2:=lh.af;omega) ?_));intro g c2 w7 om yI WG
   have di:Hid (Below w w w7):=aj (by
    have h2:=lh.af;exact HB2.af.trans (((PZ w.heap.size wr).alloc wP (.cells #[.int .u8 cb.toNat] 5)).trans ((yI.imp (S':=(·<w.heap.size)) (fun b hb=>⟨by have hb:b<w:=hb;omega,fun e=>by have h3:=(nV.af.lt b e).1;have hb:b<w:=hb;omega⟩)).below)))
   have kT:=aj (om.fJ (E':=fun b=>b<w) jd (fun g hg h=>by have:=(om.lt g hg).1;omega));clear om yI hq0 hq1 hq2 hq3 hsb hmm;go_wp2;go_roundw;exact⟨j+1,arH,wP,by rw[X6.af];exact kT.af,di.af⟩;simp[intOf];omega
  ·have HE:=aj (show aX 5 fq w.heap.size (fun b=>b<w) wr u3 (bX (ns.take (k+1))) by
    have h:=nV.af;rw[show (bD 8 n).take j=bD 8 n from dh (by rw[dA];omega)]at h;rw[Hnt.af];exact h)
   go_wp2;go_roundw;exact⟨k+1,arH,wP,HE.af,HB2.af⟩;simp[intOf];omega
 ·have HE:=aj (show aX 5 fq w.heap.size (fun _=>False) wr u3 (bX ns) by
   have h:=HO.af;rw[dh (by have:=Hm.af;omega)]at h;exact h.fJ jd (fun _ _ h=>h))
  go_wp2;go_ret;exact⟨_,rfl,HE.af,HB.af⟩
theorem flat_get {α:Type} (f:α->List Value) (k:Nat) (hf:∀x,(f x).length=k):∀(l:List α) (i:Nat) (x:α),l[i]? =some x->∀(j:Nat) (u:Value),(f x)[j]? =some u->(l.flatMap f)[i*k+j]? =some u
 | [],i,x,hx,_,_,_=>by simp at hx
 | z :: l,0,x,hx,j,u,hu=>by
  simp only[yQ,Option.some.injEq]at hx;subst hx;have hj:j<(f z).length:=(Sm.1 hu).1;rw[KF,aaZ,bE,bH hj];exact hu
 | z :: l,i+1,x,hx,j,u,hu=>by
  simp only[Y6]at hx;have h:=flat_get f k hf l i x hx j u hu;have e:(i+1)*k+j=(f z).length+(i*k+j):=by rw[hf z,Nat.add_mul,Sr];omega
  rw[KF,e,zU wP,Nat.add_sub_cancel_left];exact h
theorem KM (w:World) (l:List fu) (hl:l.length<=9223372036854775807) (hok:∀x∈l,Bb x):LB mh (fun b=>b=w.heap.size) (w.alloc (.cells (l.flatMap tL).toArray 58 (0,0))) (.slice (some ⟨w.heap.size,0,none⟩) l.length l.length) l:=by
 refine⟨some (ak w 0),w.heap.size,0,l.length,rfl,hl,fun _=>rfl,⟨oD _,fun h=>by cases h⟩,fun _=>rfl,fun i x hx=>⟨tL x,⟨rfl,hok x (dH hx)⟩,fun j u hu=> ?_⟩⟩;rw[aV (ah2 _ _),bE]
 simpa [mh] using flat_get tL 5 (fun _=>rfl) l i x hx j u hu
theorem jw {a b c d e:Int} (h1:jV a) (h2:jV b) (h3:jV c) (h4:jV d) (h5:jV e):Bb ⟨a,b,c,d,e⟩:=⟨h1,h2,h3,h4,h5⟩
def uh (B pb:Nat) (sv:bN) (s:aM) (own:Int) (v:bG) (w:World) (p:aA) (l:List fu) (e:Ending) (w':World):Prop:=
 ∃v' r,e=.returned r/\bB B pb w' sv s own v' p/\aU pb v v' w w'/\LB mh (fun b=>w.heap.size<=b/\Kept pb v' w' b) w' r l
theorem uh.mk' {v':bG} {w2:World} (l:List fu) (hM:bB B pb w2 sv s own v' p) (hs:aU pb v v' w w2) (hl:l.length<=9223372036854775807) (hok:∀x∈l,Bb x):
  uh B pb sv s own v w p l (.returned (.slice (some ⟨w2.heap.size,0,none⟩) l.length l.length)) (w2.alloc (.cells (l.flatMap tL).toArray 58 (0,0))):=
 ⟨v',_,rfl,hM.alloc _,hs.trans (aU.alloc v' w2 _),(KM w2 l hl hok).imp (fun b hb=>by rw[hb];exact⟨hs.step.size,hM.qM _⟩)⟩
theorem Da {i:Nat} (arT aG:List UInt8) (ar3:Int) (hM:bB B pb w sv s own v p) (hS:gB (·<B) w sv s) (hn:gU arT) (hv:gU aG) (hk:jV ar3) (hl:p.av.length<=1000000) (hB:B<=w) (hi:p.av.findIdx? (dD arT aG)=some i) (w':World) (hb:Below w w w'):
  Calls asq 52 #[aQ pb,ax arT,ax aG,ah ar3] w' fun r w2=>r=.returned (ah i)/\Below w w' w2:=
 (Tw arT aG ar3 (hM.below hb) (hS.asa (.of_below (hb.mono hB))) hn hv hk hl (by have:=hb.size;omega) hi).mono fun _ _ h=>⟨h.1,h.2.mono hb.size⟩
theorem aho {y:uJ} (fa:Option Addr) (fl fc:Nat) (va:Option Addr) (vl vc:Nat) (Og:fv=.slice fa fl fc) (hvv:vv=.slice va vl vc) (yl:pK) (hyl:yl.aS=y.aS/\yl.got=y.got) (x:dw) (at_:Int)
  (hM:bB B pb w sv s own v p) (hS:gB (·<B) w sv s) (hB:B<=w) (hx:wY x) (hin:mK p x) (hsz:p.sz<=999990) (hy:0<=y.got/\y.got<=25000000) (hy2:0<=y.aS/\y.aS<=25000000) (ha:0<=at_/\at_<=100000000):
  Calls asq 51 #[.agg (kS pb fv vv y).toArray,.agg (arL x),ah at_] w (uh B pb sv s own v w p (jl s.ar1 yl x at_ p).2):=by
 subst Og hvv;have hM1:=hM.alloc (.cells (arR pb fa fl fc va vl vc y.aS y.got y.bW y.text y.data y.bf) 77);have zm:=aj ((hM.qM (.cells (arR pb fa fl fc va vl vc y.aS y.got y.bW y.text y.data y.bf) 77)).alloc (.cells (arL x) 60));have eT:=aj ((dX (w.alloc (.cells (arR pb fa fl fc va vl vc y.aS y.got y.bW y.text y.data y.bf) 77)) (.cells (arL x) 60) (r:=w.heap.size) arG).trans (ah2 w (.cells (arR pb fa fl fc va vl vc y.aS y.got y.bW y.text y.data y.bf) 77)));have jW:=aj (hM1.alloc (.cells (arL x) 60));have HS2:=aj ((aU.alloc (pb:=pb) v w (.cells (arR pb fa fl fc va vl vc y.aS y.got y.bW y.text y.data y.bf) 77)).trans (aU.alloc (pb:=pb) v (w.alloc (.cells (arR pb fa fl fc va vl vc y.aS y.got y.bW y.text y.data y.bf) 77)) (.cells (arL x) 60)));have QD:=aj (hM1.qM (.cells (arL x) 60));have gI:=aj (ah2 (w.alloc (.cells (arR pb fa fl fc va vl vc y.aS y.got y.bW y.text y.data y.bf) 77)) (.cells (arL x) 60));have xV:=aj (hS.asa (.of_below (((PZ B w).alloc hB (.cells (arR pb fa fl fc va vl vc y.aS y.got y.bW y.text y.data y.bf) 77)).alloc (by simp;omega) (.cells (arL x) 60))));have hz2:w.heap.size+1<((w.alloc (.cells (arR pb fa fl fc va vl vc y.aS y.got y.bW y.text y.data y.bf) 77)).alloc (.cells (arL x) 60)).heap.size:=arG;have Hx:=aj hx;have lX:=aj hsz;have hk:=hx.ar3;have hpl:=hM.lt;have AP:=aj hin;have Hyl:=aj hyl;rw[lW]at QD gI;clear hM hM1 hS hx hin hsz hyl;show Calls asq 51 #[.agg (arR pb fa fl fc va vl vc y.aS y.got y.bW y.text y.data y.bf),.agg (arL x),ah at_] w _;go_enter Tryz.func51,Tryz.ntmps51;go_upto_region 2 with fail
 generalize hw2:(w.alloc (.cells (arR pb fa fl fc va vl vc y.aS y.got y.bW y.text y.data y.bf) 77)).alloc (.cells (arL x) 60)=w2 at *;clear hw2;obtain ⟨xb,hxb⟩:=aiG (w.heap.size+1);obtain ⟨lb,hlb⟩:=aiG w.heap.size;have JV:=aj hlb;rw[<-hxb]at QD gI hz2 ⊢;rw[<-hlb]at zm eT ⊢;have sW:Hid (yJ pb lb (.slice fa fl fc) (.slice va vl vc) y v w2):=aj ⟨eT.af,zm.af⟩;have hBw:B<=w2:=wP;clear hxb hlb;have c0:w2.cell? (ak xb 0)=some (ah x.ar3):=aD gI.af 0 _ rfl;by_cases hk1:x.ar3=1
 ·obtain⟨i,hi,k,hki⟩:=AP.af.call hk1
  have HQ:Hid ((jl s.ar1 yl x at_ p).2=[⟨15,0,0,0,y.aS+24*(k:Int)-at_-8⟩]):=aj (by
   unfold jl;rw[if_pos hk1];simp only[fw hi];rw[agG,hki,Hyl.af.1];rfl)
  have KN:=aj (fun (w':World) (hb:Below w2 w2 w')=>Da (ar3:=1) x.arT x.aG jW.af xV.af Hx.af.arT Hx.af.aG abD (by have:=lX.af;unfold aA.sz at this;omega) hBw hi w' hb)
  have hkl:k<=999990:=by
   obtain⟨h,_⟩:=Ig.1 hki;have:=lX.af;unfold aA.sz at this;omega
  obtain⟨ja,jc,uL⟩:=jW.af.ar7.form;have Om:=aj uL;have XH:=aj (fun (w':World) (hb:Below w2 w2 w')=>NU w' v.ar7 p.ar7 (i:Int) (jW.af.below hb).ar7.lb);have Hki:=aj hki;rw[hk1]at c0;obtain ⟨nj,iM⟩:=aiG p.ar7.length;rw[<-iM]at Om uL;rw[uL]at XH;clear hi hki uL hk hk1 iM;go_upto_region 4 with fail
  clear c0;refine bA 14 TA TA ?_;simp only[ji];refine P8 (S:=fun w':World=>w'.cell? (ak lb 0)=some (aQ pb)/\w'.cell? (ak pb 12)=some (.slice ja nj jc)/\w'.cell? (ak xb 7)=some (ax x.arT)/\w'.cell? (ak xb 8)=some (ax x.aG)) _ _ _ _ ?_;have ay:(fun w':World=>w'.cell? (ak lb 0)=some (aQ pb)/\w'.cell? (ak pb 12)=some (.slice ja nj jc)/\w'.cell? (ak xb 7)=some (ax x.arT)/\w'.cell? (ak xb 8)=some (ax x.aG)) (World.drew w2):=⟨sW.af.cell 0 _ rfl,jW.af.c12.trans (by rw[Om.af]),aD gI.af 7 _ rfl,aD gI.af 8 _ rfl⟩;refine asr ?_;have qU:=aj (PZ w2.heap.size w2).drew;have yF:Hid (Calls asq 52 #[aQ pb,ax x.arT,ax x.aG,ah 1] (World.drew w2) fun r w'=>r=.returned (ah i)/\Below w2 (World.drew w2) w'):=aj (KN.af _ qU.af);generalize (World.drew w2)=wd at qU yF ay ⊢;refine arO [0,1,2,3,4,5,6,7,8,9,10] ay ?_;simp only[ast]
  iterate 11 (refine arP ?_;try simp only[bP])
  refine cO 11 fun K hK=> ?_
  go_simp;refine(yF.af).mono ?_;rintro e w5 ⟨rfl,hb5⟩;have mQ:=aj (qU.af.trans hb5);have hlb:=sW.af.kept.lt;have hpb:=jW.af.lt;refine hK.af _ _ ⟨(hb5.cell (p:=(ak lb 0)) hlb).trans ay.1,(hb5.cell (p:=(ak pb 12)) hpb).trans ay.2.1,(hb5.cell (p:=(ak xb 7)) hz2).trans ay.2.2.1,(hb5.cell (p:=(ak xb 8)) hz2).trans ay.2.2.2⟩ (fun ay=> ?_);clear hK K;try simp only[bV]
  clear hb5;refine cO 12 fun K hK=> ?_
  go_simp;refine(XH.af w5 mQ.af).mono ?_;rintro e w6 ⟨rfl,rfl⟩;rw[Hki.af];refine hK.af _ _ ⟨ay.1,ay.2.1,ay.2.2.1,ay.2.2.2⟩ (fun ay=> ?_);clear hK K;try simp only[bV]
  refine arO [13] ay ?_;simp only[ast]
  iterate 1 (refine arP ?_;try simp only[bP])
  refine E5 TA ?_ _;simp only[dU];clear ay;have AQ:=aj mQ.af;have c3:w6.cell? (ak lb 3)=some (ah y.aS):=(mQ.af.cell (p:=(ak lb 3)) sW.af.kept.lt).trans (sW.af.cell 3 _ rfl);have hpos:xO (some k)=(k:Int):=rfl;rw[hpos];have HE:=aj (uh.mk' (l:=[⟨15,0,0,0,y.aS+24*(k:Int)-at_-8⟩]) (jW.af.below mQ.af) (HS2.af.trans (aU.below mQ.af)) arG (by intro z hz;rw[tY.1 hz];exact jw abD abD abD abD ⟨wP,wP⟩));clear hpos;go_wp2;go_ret;rw[HQ.af];exact HE.af
 by_cases hk2:x.ar3=2
 ·obtain⟨i,hi,k,hki⟩:=AP.af.addr hk2
  have HQ:Hid ((jl s.ar1 yl x at_ p).2=[⟨11,x.a,0,0,y.got+8*(k:Int)-at_-8⟩]):=aj (by
   unfold jl;rw[if_neg hk1,if_pos hk2];simp only[fw hi];unfold yY;simp only[gQ hki,Hyl.af.2])
  have KN:=aj (fun (w':World) (hb:Below w2 w2 w')=>Da (ar3:=2) x.arT x.aG jW.af xV.af Hx.af.arT Hx.af.aG abD (by have:=lX.af;unfold aA.sz at this;omega) hBw hi w' hb)
  have hkl:k<=999990:=by
   obtain⟨h,_⟩:=Ig.1 hki;have:=lX.af;unfold aA.sz at this;omega
  have sU:=aj (fun (w':World) (hb:Below w2 w2 w')=>Fb x.a 0 (i:Int) at_ k (jW.af.below hb) (by have:=hb.size;omega) (sW.af.below hb sW.af.kept.lt) hki lX.af hy ⟨ha.1,wP⟩);rw[hk2]at c0;clear hi hki hk hk1 hk2;go_upto_region 7 with fail
  clear c0;refine bA 14 TA TA ?_;simp only[ji];refine P8 (S:=fun w':World=>w'.cell? (ak lb 0)=some (aQ pb)/\w'.cell? (ak xb 6)=some (ah x.a)/\w'.cell? (ak xb 7)=some (ax x.arT)/\w'.cell? (ak xb 8)=some (ax x.aG)) _ _ _ _ ?_;have ay:(fun w':World=>w'.cell? (ak lb 0)=some (aQ pb)/\w'.cell? (ak xb 6)=some (ah x.a)/\w'.cell? (ak xb 7)=some (ax x.arT)/\w'.cell? (ak xb 8)=some (ax x.aG)) (World.drew w2):=⟨sW.af.cell 0 _ rfl,aD gI.af 6 _ rfl,aD gI.af 7 _ rfl,aD gI.af 8 _ rfl⟩;refine asr ?_;have qU:=aj (PZ w2.heap.size w2).drew;have yF:Hid (Calls asq 52 #[aQ pb,ax x.arT,ax x.aG,ah 2] (World.drew w2) fun r w'=>r=.returned (ah i)/\Below w2 (World.drew w2) w'):=aj (KN.af _ qU.af);generalize (World.drew w2)=wd at qU yF ay ⊢;refine arO [0,1,2,3,4,5,6,7,8,10] ay ?_;simp only[ast]
  iterate 10 (refine arP ?_;try simp only[bP])
  refine cO 9 fun K hK=> ?_
  go_simp;refine(yF.af).mono ?_;rintro e w5 ⟨rfl,hb5⟩;have mQ:=aj (qU.af.trans hb5);have hlb:=sW.af.kept.lt;refine hK.af _ _ ⟨(hb5.cell (p:=(ak lb 0)) hlb).trans ay.1,(hb5.cell (p:=(ak xb 6)) hz2).trans ay.2.1,(hb5.cell (p:=(ak xb 7)) hz2).trans ay.2.2.1,(hb5.cell (p:=(ak xb 8)) hz2).trans ay.2.2.2⟩ (fun ay=> ?_);clear hK K;try simp only[bV]
  clear hb5;have aop:=aj (sU.af w5 mQ.af);refine cO 11 fun K hK=> ?_
  go_simp;refine(aop.af).mono ?_;rintro e w6 ⟨v6,rfl,yH,hs6⟩;have JO:=aj yH;have oK:=aj (HS2.af.trans ((aU.below mQ.af).trans hs6));have hkx:Kept pb v w5 xb:=QD.af.below mQ.af;have hXx:=(hs6.block hkx).trans ((mQ.af.block xb hz2).trans gI.af);have hlx:=(sW.af.below mQ.af sW.af.kept.lt).step hs6;refine hK.af _ _ ⟨hlx.cell 0 _ rfl,aD hXx 6 _ rfl,aD hXx 7 _ rfl,aD hXx 8 _ rfl⟩ (fun ay=> ?_);clear hK K;try simp only[bV]
  clear yH hs6 hkx;refine cO 12 fun K hK=> ?_
  go_simp;have HE:=aj (uh.mk' (l:=[⟨11,x.a,0,0,y.got+8*(k:Int)-at_-8⟩]) JO.af oK.af arG (by intro z hz;rw[tY.1 hz];exact jw abD Hx.af.a abD abD ⟨wP,wP⟩));refine hK.af _ _ ⟨dB ay.1,dB ay.2.1,dB ay.2.2.1,dB ay.2.2.2⟩ (fun ay=> ?_);clear hK K;try simp only[bV]
  refine arO [13] ay ?_;simp only[ast]
  iterate 1 (refine arP ?_;try simp only[bP])
  refine E5 TA ?_ _;simp only[dU];clear ay;go_wp2;go_ret;rw[HQ.af];exact HE.af
 by_cases hk3:x.ar3=3
 ·obtain⟨i,hi,⟨k1,adS⟩,k2,adT⟩:=AP.af.bf hk3
  have HQ:Hid ((jl s.ar1 yl x at_ p).2=[⟨11,13,0,0,y.got+8*(k2:Int)-at_-8⟩,⟨11,x.a,0,0,y.got+8*(k1:Int)-(at_+8)-8⟩,⟨21,x.a,13,0,0⟩]):=aj (by
   unfold jl;rw[if_neg hk1,if_neg hk2,if_pos hk3];simp only[fw hi];unfold yY;simp only[gQ adS,gQ adT,Hyl.af.2])
  have KN:=aj (fun (w':World) (hb:Below w2 w2 w')=>Da (ar3:=3) x.arT x.aG jW.af xV.af Hx.af.arT Hx.af.aG abD (by have:=lX.af;unfold aA.sz at this;omega) hBw hi w' hb)
  have aqG:k1<=999990:=by
   obtain⟨h,_⟩:=Ig.1 adS;have:=lX.af;unfold aA.sz at this;omega
  have aqH:k2<=999990:=by
   obtain⟨h,_⟩:=Ig.1 adT;have:=lX.af;unfold aA.sz at this;omega
  have aiS:=aj (fun (w':World) (hb:Below w2 w2 w')=>Fb 13 2 (i:Int) at_ k2 (jW.af.below hb) (by have:=hb.size;omega) (sW.af.below hb sW.af.kept.lt) adT lX.af hy ⟨ha.1,wP⟩);have aoq:Hid (∀(v':bG) (w':World),bB B pb w' sv s own v' p->B<=w'->yJ pb lb (.slice fa fl fc) (.slice va vl vc) y v' w'->Calls asq 104 #[ah x.a,ah 1,ah (i:Int),ah (at_+8),aQ lb] w' (acF B pb sv s own v' w' p ⟨11,x.a,0,0,y.got+8*(k1:Int)-(at_+8)-8⟩)):=aj (fun v' w' hM hB hL=>Fb x.a 1 (i:Int) (at_+8) k1 hM hB hL adS lX.af hy ⟨wP,wP⟩);rw[hk3]at c0;clear hi adS adT hk hk1 hk2 hk3;have hc0:w2.cell? (ak lb 0)=some (aQ pb):=sW.af.cell 0 _ rfl;have hc7:w2.cell? (ak xb 7)=some (ax x.arT):=aD gI.af 7 _ rfl;have hc8:w2.cell? (ak xb 8)=some (ax x.aG):=aD gI.af 8 _ rfl;go_wp2_with fail;refine(KN.af w2 (PZ _ _)).mono ?_;rintro e w3 ⟨rfl,hb3⟩;have HB3:=aj hb3;clear hb3 c0 hc0 hc7 hc8;go_upto_region 10 with fail
  have uY:=aj (jW.af.below HB3.af);have pW:=aj (HS2.af.trans (aU.below HB3.af));have aor:=aj (sW.af.below HB3.af sW.af.kept.lt);have HK3:=aj (QD.af.below HB3.af);have lF:=aj ((HB3.af.block xb hz2).trans gI.af);have RS:=aj (aiS.af (World.drew w3) (HB3.af.drew));have hz3:B<=w3:=by have:=HB3.af.size;omega
  refine bA 16 TA TA ?_;simp only[ji];refine P8 (S:=fun w':World=>w'.cell? (ak xb 6)=some (ah x.a)) _ _ _ _ ?_;have ay:(fun w':World=>w'.cell? (ak xb 6)=some (ah x.a)) (World.drew w3):=(aD lF.af 6 _ rfl);refine asr ?_;have aaM:=aj (pW.af.trans (aU.below (pb:=pb) (v:=v) (PZ _ w3).drew));have WT:=aj (HK3.af.below (PZ w3.heap.size w3).drew);have akf:=aj (aor.af.step (aU.below (pb:=pb) (v:=v) (PZ _ w3).drew));have aaN:Hid ((World.drew w3).heap[xb]? =some (aB (arL x) 60)):=aj lF.af;have hzd:B<=(World.drew w3):=hz3;generalize (World.drew w3)=wd at RS aaM WT akf aaN hzd ay ⊢;have o1:IntKind.i64.wrap (at_+8)=at_+8:=iJ _ wP;refine arO [0,1,2,4,5,6,7,8,9,11,12,13] ay ?_;simp only[ast]
  iterate 12 (refine arP ?_;try simp only[bP])
  clear o1;refine cO 3 fun K hK=> ?_
  go_simp;refine(RS.af).mono ?_;rintro e w6 ⟨v6,rfl,yH,hs6⟩;have JO:=aj yH;have oK:=aj (aaM.af.trans hs6);have zF:=aj (akf.af.step hs6);have TW:=aj (hs6.kept WT.af);have sD:=aj ((hs6.block WT.af).trans aaN.af);have JN:=hs6.step.size;refine hK.af _ _ (aD sD.af 6 _ rfl) (fun ay=> ?_);clear hK K;try simp only[bV]
  clear yH hs6;have aos:=aj (aoq.af v6 w6 JO.af wP zF.af);refine cO 10 fun K hK=> ?_
  go_simp;refine(aos.af).mono ?_;rintro e w7 ⟨v7,rfl,Nr,hs7⟩;have EG:=aj Nr;have zH:=aj (oK.af.trans hs7);have jK:=aj ((hs7.block TW.af).trans sD.af);refine hK.af _ _ (aD jK.af 6 _ rfl) (fun ay=> ?_);clear hK K;try simp only[bV]
  clear Nr hs7;refine cO 14 fun K hK=> ?_
  go_simp;have HE:=aj (uh.mk' (l:=[⟨11,13,0,0,y.got+8*(k2:Int)-at_-8⟩,⟨11,x.a,0,0,y.got+8*(k1:Int)-(at_+8)-8⟩,⟨21,x.a,13,0,0⟩]) EG.af zH.af arG (by intro z hz;simp only[Y1,nW,or_false]at hz;rcases hz with rfl | rfl | rfl;exact jw abD abD abD abD ⟨wP,wP⟩;exact jw abD Hx.af.a abD abD ⟨wP,wP⟩;exact jw abD Hx.af.a abD abD abD));refine hK.af _ _ (dB ay) (fun ay=> ?_);clear hK K;try simp only[bV]
  refine arO [15] ay ?_;simp only[ast]
  iterate 1 (refine arP ?_;try simp only[bP])
  refine E5 TA ?_ _;simp only[dU];clear ay;go_wp2;go_ret;rw[HQ.af];exact HE.af
 by_cases hk4:x.ar3=4
 ·obtain⟨i,hi,k,hki⟩:=AP.af.tp hk4
  have HQ:Hid ((jl s.ar1 yl x at_ p).2=[⟨11,13,0,0,y.got+8*(k:Int)-at_-8⟩,⟨20,x.a,0,0,0⟩,⟨3,x.a,x.a,13,0⟩]):=aj (by
   unfold jl;rw[if_neg hk1,if_neg hk2,if_neg hk3,if_pos hk4];simp only[fw hi];unfold yY;simp only[gQ hki,Hyl.af.2])
  have KN:=aj (fun (w':World) (hb:Below w2 w2 w')=>Da (ar3:=3) x.arT x.aG jW.af xV.af Hx.af.arT Hx.af.aG abD (by have:=lX.af;unfold aA.sz at this;omega) hBw hi w' hb)
  have hkl:k<=999990:=by
   obtain⟨h,_⟩:=Ig.1 hki;have:=lX.af;unfold aA.sz at this;omega
  have aiS:=aj (fun (w':World) (hb:Below w2 w2 w')=>Fb 13 3 (i:Int) at_ k (jW.af.below hb) (by have:=hb.size;omega) (sW.af.below hb sW.af.kept.lt) hki lX.af hy ⟨ha.1,wP⟩);rw[hk4]at c0;clear hi hki hk hk1 hk2 hk3 hk4;have hc0:w2.cell? (ak lb 0)=some (aQ pb):=sW.af.cell 0 _ rfl;have hc7:w2.cell? (ak xb 7)=some (ax x.arT):=aD gI.af 7 _ rfl;have hc8:w2.cell? (ak xb 8)=some (ax x.aG):=aD gI.af 8 _ rfl;go_wp2_with fail;refine(KN.af w2 (PZ _ _)).mono ?_;rintro e w3 ⟨rfl,hb3⟩;have HB3:=aj hb3;clear hb3 c0 hc0 hc7 hc8;go_upto_region 13 with fail
  have pW:=aj (HS2.af.trans (aU.below HB3.af));have HK3:=aj (QD.af.below HB3.af);have lF:=aj ((HB3.af.block xb hz2).trans gI.af);have RS:=aj (aiS.af (World.drew w3) (HB3.af.drew));refine bA 14 TA TA ?_;simp only[ji];refine P8 (S:=fun w':World=>w'.cell? (ak xb 6)=some (ah x.a)) _ _ _ _ ?_;have ay:(fun w':World=>w'.cell? (ak xb 6)=some (ah x.a)) (World.drew w3):=(aD lF.af 6 _ rfl);refine asr ?_;have aaM:=aj (pW.af.trans (aU.below (pb:=pb) (v:=v) (PZ _ w3).drew));have WT:=aj (HK3.af.below (PZ w3.heap.size w3).drew);have aaN:Hid ((World.drew w3).heap[xb]? =some (aB (arL x) 60)):=aj lF.af;generalize (World.drew w3)=wd at RS aaM WT aaN ay ⊢;refine arO [0,1,2,4,5,6,7,8,9,10,11] ay ?_;simp only[ast]
  iterate 11 (refine arP ?_;try simp only[bP])
  refine cO 3 fun K hK=> ?_
  go_simp;refine(RS.af).mono ?_;rintro e w6 ⟨v6,rfl,yH,hs6⟩;have JO:=aj yH;have oK:=aj (aaM.af.trans hs6);have sD:=aj ((hs6.block WT.af).trans aaN.af);refine hK.af _ _ (aD sD.af 6 _ rfl) (fun ay=> ?_);clear hK K;try simp only[bV]
  clear yH hs6;refine cO 12 fun K hK=> ?_
  go_simp;have HE:=aj (uh.mk' (l:=[⟨11,13,0,0,y.got+8*(k:Int)-at_-8⟩,⟨20,x.a,0,0,0⟩,⟨3,x.a,x.a,13,0⟩]) JO.af oK.af arG (by intro z hz;simp only[Y1,nW,or_false]at hz;rcases hz with rfl | rfl | rfl;exact jw abD abD abD abD ⟨wP,wP⟩;exact jw abD Hx.af.a abD abD abD;exact jw abD Hx.af.a Hx.af.a abD abD));refine hK.af _ _ (dB ay) (fun ay=> ?_);clear hK K;try simp only[bV]
  refine arO [13] ay ?_;simp only[ast]
  iterate 1 (refine arP ?_;try simp only[bP])
  refine E5 TA ?_ _;simp only[dU];clear ay;go_wp2;go_ret;rw[HQ.af];exact HE.af
 ·have HQ:Hid ((jl s.ar1 yl x at_ p).2=[x.inst]):=aj (by unfold jl;rw[if_neg hk1,if_neg hk2,if_neg hk3,if_neg hk4])
  have e1:(x.ar3==1)=false:=by simp[hk1]
  have e2:(x.ar3==2)=false:=by simp[hk2]
  have e3:(x.ar3==3)=false:=by simp[hk3]
  have e4:(x.ar3==4)=false:=by simp[hk4]
  have i1:w2.cell? (ak xb 1)=some (ah x.inst.op):=aD gI.af 1 _ rfl;have i2:w2.cell? (ak xb 2)=some (ah x.inst.a):=aD gI.af 2 _ rfl;have i3:w2.cell? (ak xb 3)=some (ah x.inst.b):=aD gI.af 3 _ rfl;have i4:w2.cell? (ak xb 4)=some (ah x.inst.c):=aD gI.af 4 _ rfl;have i5:w2.cell? (ak xb 5)=some (ah x.inst.bU):=aD gI.af 5 _ rfl;have HE:=aj (uh.mk' (l:=[x.inst]) jW.af HS2.af arG (by intro z hz;rw[tY.1 hz];exact Hx.af.inst));clear hk1 hk2 hk3 hk4;go_wp2;go_ret;rw[HQ.af];exact HE.af
structure RowK {α:Type} (K:Kind α) (f:α->List Value) (P:α->Prop):Prop where
 KO:∀ {S w x r},K.R S w x r->r=f x/\P x
 made:∀S w x,P x->K.R S w x (f x)
 len:∀x,(f x).length=K.k
 pos:0<K.k
 cell:∀x,∀u∈f x,u.oneCell'=true
theorem KP:RowK mh tL Bb:=⟨fun h=>h,fun _ _ _ h=>⟨rfl,h⟩,fun _=>rfl,abD,fun x u hu=>by
 simp only[tL,Y1,nW,or_false]at hu;rcases hu with rfl | rfl | rfl | rfl | rfl<;>rfl⟩
theorem Yg {α:Type} (f:α->List Value) (k:Nat) (hf:∀x,(f x).length=k):∀(l:List α) (j:Nat) (u:Value),(l.flatMap f)[j]? =some u->∃i x r,l[i]? =some x/\(f x)[r]? =some u/\j=i*k+r
 | [],j,u,h=>by simp at h
 | z :: l,j,u,h=>by
  rw[KF]at h;rcases oG j (f z).length with hj | hj
  ·rw[bH hj]at h
   exact⟨0,z,j,rfl,h,arG⟩
  ·rw[zU hj]at h
   obtain⟨i,x,r,h1,h2,h3⟩:=Yg f k hf l _ u h;refine⟨i+1,x,r,h1,h2,?_⟩;rw[hf z]at hj h3;rw[Nat.add_mul,Sr];omega
theorem fe.aaO {α:Type} {K:Kind α} {f:α->List Value} {P:α->Prop} (hr:RowK K f P) (S:Nat->Prop) (w:World):∀l:List α,(∀x∈l,P x)->fe K S w l (l.flatMap f)
 | [],_=>rfl
 | x :: l,h=>⟨f x,l.flatMap f,rfl,hr.made S w x (h x (oh ..)),fe.aaO hr S w l (fun y hy=>h y (uT _ hy))⟩
theorem aaP {α:Type} (f:α->List Value) (k:Nat) (hf:∀x,(f x).length=k):∀l:List α,(l.flatMap f).length=l.length*k
 | []=>arG
 | x :: l=>by rw[KF,Kk,hf,aaP f k hf l,oF,Nat.add_mul,Sr];omega
section
variable {α : Type} {e : TypeId} {K : Kind α} {f : α -> List Value} {P : α -> Prop} {B : Nat} {E : Nat -> Prop} {w w' : World} {v : Value} {l : List α}
theorem mZ {ops:Array Oper} {rest:List Oper} {o:Oper} {a:Act} {Q:Exit->Act->World->Prop} (hp:RowK K f P) (t:TypeId) (z:Value) (bytes:Nat) (ht:Tryz.prog.underlying t=some (.slice e)) (hinfo:(Tryz.prog.info? e).map (fun i=>(i.zero,i.size,i.bytes))=some (some z,K.k,bytes))
  (hzs:z.cells.size=K.k) (hgd:o.guard=none) (s x:Operand)
  (ho:o.op=.call {callee:=.builtin .append,args:=#[s,x],argTypes:=#[t,t]})
  (hs:a.eval s=v) (hown:aX e K B E w v l) (hE:∀b,E b->b<w.heap.size) {S:Nat->Prop} (u:Value) (m:List α) (hx:a.eval x=u) (hu:LB K S w u m)
  (hlen:(l.length+m.length)*bytes<=140737488355328) (hl63:l.length+m.length<=9223372036854775807) (hB:B<=w)
  (h:∀v' w',aX e K B E w' v' (l++m)->Step (fun b=>b<w/\v.ownBlock≠some b) w w'->(∀b,v'.ownBlock=some b->v.ownBlock=some b∨w.heap.size<=b)->wpList asq ops Q rest (a.put o.dst v') w'):wpList asq ops Q (o :: rest) a w:=by
 obtain⟨i0,hi,hz0,hz1,hz2⟩:=dM hinfo;obtain⟨xs,h1,h2,h3⟩:=hown;have hlt:=AY h1;obtain⟨ua,ub,nN,Ct,hv,hm,ha,hcap,hS,hc⟩:=hu
 cases ua with
 | none=>
  have hm0:m=[]:=by
   cases m with
   | nil=>rfl
   | cons y m=>exact absurd (ha arG) arG
  subst hm0;have hc0:=hcap.2 rfl;subst hc0;refine wpList_append_own_none hgd s x t ho B e i0 K.k ht hi v l.length xs hs h1 (hx.trans hv) ?_;exact h v w (by rw[Y8];exact⟨xs,h1,h2,h3⟩) (Step.refl _ _) (fun b h=>aH h)
 | some ad=>
  have hPm:∀y∈m,P y:=fun y hy=>by
   obtain⟨i,hi⟩:=List.getElem?_of_mem hy;obtain⟨row,r1,_⟩:=hc i y hi;exact(hp.KO r1).2
  refine wpList_append_own_at w hgd s x t ho B e i0 z K.k bytes ht hi hz0 hz1 hz2 hzs hp.pos v l.length xs hs h1 ad m.length Ct (m.flatMap f) (hx.trans hv) (aaP f K.k hp.len m) ?_ ?_ (by unfold maxLen;omega) hlen hB ?_
  ·intro j u hj
   obtain⟨i,y,r,g1,g2,rfl⟩:=Yg f K.k hp.len m j u hj;have Dm:0<m.length:=by have:=(Sm.1 g1).1;omega
   obtain rfl:ad=(ak ub nN):=by have:=ha Dm;simpa using this
   obtain⟨row,r1,r2⟩:=hc i y g1;have:=r2 r u (by rw[(hp.KO r1).1];exact g2)
   simpa [Addr.add_lit,Nat.add_assoc] using this
  ·intro u hu
   obtain⟨y,_,hy⟩:=TY.1 hu;exact hp.cell y u hy
  ·intro v' w' g1 g2 _ g4
   have hst:Step (fun b=>b<w/\v.ownBlock≠some b) w w':=Step.rU g2 (fun b hb=>⟨hb.1,hb.2⟩)
   have hor:∀b,v'.ownBlock=some b->v.ownBlock=some b∨w.heap.size<=b:=fun b hb=>by
    rcases g4 with h' | h'
    ·left;rw[<-h'];exact hb
    ·right;rw[h']at hb;have:=(Option.some.inj hb).symm;omega
   have hfl:pE K:=fun _ _ _ _ x r h=>by obtain⟨h1,h2⟩:=hp.KO h;rw[h1];exact hp.made _ _ _ h2
   refine h v' w' ⟨xs++m.flatMap f,by rw[Kk];exact g1,?_,?_⟩ hst hor
   ·exact(h2.flat hfl).app (fe.aaO hp _ _ m hPm)
   ·intro g hg yh
    rcases hor g hg with h' | h'
    ·exact h3 g h' yh
    ·have:=hE _ yh;omega
end
theorem Iw:(Tryz.prog.info? 58).map (fun i=>(i.zero,i.size,i.bytes))=some (some (.agg #[ah 0,ah 0,ah 0,ah 0,ah 0]),5,40):=TA
theorem aU.alM {C:Nat} {w2:World} {v':bG} (h:aU pb v v' w w1) (hC:w.heap.size<=C) (hb:Below C w1 w2):aU pb v v' w w2:=by
 have h1:=h.step;exact⟨⟨hb.os.trans h1.os,hb.tape.trans h1.tape,hb.output.trans h1.output,eG h1.size hb.size,fun b hb'=>(hb.block b (by have:=hb'.1;omega)).trans (h1.block b hb')⟩,h.new⟩
structure qP {α:Type} (e:TypeId) (K:Kind α) (B pb:Nat) (sv:bN) (s:aM) (own:Int) (v:bG) (w1:World) (p:aA) (w:World) (o:Value) (l:List α):Prop where
 ex:∃v',bB B pb w sv s own v' p/\aU pb v v' w1 w/\∀g,o.ownBlock=some g->Kept pb v' w g
 own:aX e K w1.heap.size (fun _=>False) w o l
section
variable {α : Type} {e : TypeId} {K : Kind α} {B pb : Nat} {sv : bN} {s : aM} {own : Int} {v : bG} {w1 w w' : World} {p p2 : aA} {o : Value} {l : List α}
theorem qP.start (e:TypeId) (K:Kind α) (hM:bB B pb w1 sv s own v p):qP e K B pb sv s own v w1 p w1 (au) []:=⟨⟨v,hM,aU.refl _ _ _,fun g h=>by simp[Value.ownBlock]at h⟩,aX.nil _ _ _ _ _⟩
theorem qP.size (h:qP e K B pb sv s own v w1 p w o l):w1.heap.size<=w:=by obtain⟨v',_,h2,_⟩:=h.ex;exact h2.step.size
theorem qP.low {p0:aA} {aiA:Int} (h:qP e K B pb sv s own v w1 p w o l) (hM:bB B pb w1 sv s aiA v p0) (hB:B<=w1):Below B w1 w:=by obtain⟨v',_,h2,_⟩:=h.ex;exact h2.low hM hB
theorem qP.box (h:qP e K B pb sv s own v w1 p w o l) {b:Nat} (hk:Kept pb v w1 b):w.heap[b]? =w1.heap[b]? :=by obtain⟨v',_,h2,_⟩:=h.ex;exact h2.block hk
theorem qP.next (hK:pE K) {v1 v2:bG} (hs1:aU pb v v1 w1 w) (hk:∀g,o.ownBlock=some g->Kept pb v1 w g) (ho:aX e K w1.heap.size (fun _=>False) w o l) (hM:bB B pb w' sv s own v2 p2) (hs:aU pb v1 v2 w w'):qP e K B pb sv s own v w1 p2 w' o l:=
 ⟨⟨v2,hM,hs1.trans hs,fun g hg=>hs.kept (hk g hg)⟩,ho.dS hK (fun g hg=>hs.block (hk g hg))⟩
theorem qP.alloc (hK:pE K) (h:qP e K B pb sv s own v w1 p w o l) (x:Obj):qP e K B pb sv s own v w1 p (w.alloc x) o l:=by
 obtain⟨v',h1,h2,h3⟩:=h.ex;exact .next hK h2 h3 h.own (h1.alloc x) (aU.alloc v' w x)
theorem qP.append (hK:pE K) (h:qP e K B pb sv s own v w1 p w o l) {o':Value} {l':List α} {E:Nat->Prop} (hown:aX e K w1.heap.size E w' o' l') (hst:Step (fun b=>b<w/\o.ownBlock≠some b) w w') (hnew:∀b,o'.ownBlock=some b->o.ownBlock=some b∨w.heap.size<=b):qP e K B pb sv s own v w1 p w' o' l':=by
 obtain⟨v',h1,h2,h3⟩:=h.ex;have hpl:=h1.lt;have hpo:o.ownBlock≠some pb:=fun e=>(h3 pb e).ne rfl
 have hno:∀b,v'.has b->b<w.heap.size/\o.ownBlock≠some b:=fun b hb=>⟨(h1.qf hb).2.1,fun e=>(h3 b e).no hb⟩
 refine⟨⟨v',⟨(hst.block pb ⟨hpl,hpo⟩).trans h1.ex,h1.base,h1.av.dS ig (fun g hg=>hst.block g (hno g (aH hg))),h1.cells.dS kY (fun g hg=>hst.block g (hno g (aZ (aH hg)))),h1.ar7.dS dN (fun g hg=>hst.block g (hno g (aZ (aZ hg))))⟩,?_,?_⟩,hown.fJ hK (fun _ _ h=>h)⟩
 ·refine h2.alM (oD _) ((hst.imp (S':=(·<w1.heap.size)) (fun b hb=>⟨?_,fun e=> ?_⟩)).below)
  ·have hb:b<w1:=hb
   have:=h2.step.size;omega
  ·have h4:=(h.own.lt b e).1
   have hb:b<w1:=hb;omega
 ·intro g hg
  rcases hnew g hg with h' | h'
  ·have k3:=h3 g h'
   have k4:=hst.size;have k5:=k3.lt;exact⟨wP,k3.ne,k3.no⟩
  ·have h5:=(hown.lt g hg).2
   exact⟨h5,wP,fun e=>by have:=(hno g e).1;omega⟩
end
theorem Gm (ar1:List (List UInt8)) (y:pK) (x:dw):∀(ls:List dw) (q:aA × List fu),iD ar1 y (ls++[x]) q=((jl ar1 y x (8*(iD ar1 y ls q).2.length) (iD ar1 y ls q).1).1,(iD ar1 y ls q).2++(jl ar1 y x (8*(iD ar1 y ls q).2.length) (iD ar1 y ls q).1).2)
 | [],q=>rfl
 | z :: ls,q=>by
  show iD ar1 y (ls++[x]) _=_;rw[Gm ar1 y x ls];rfl
theorem Jl (bW:Int):∀(n c:Nat) (out:List fu),jS bW c (n+1) out=jS bW c n out++[⟨11,14,0,0,bW+8*((c+n:Nat):Int)-8*((jS bW c n out).length:Int)-8⟩,⟨17,14,0,0,0⟩,⟨22,0,0,0,((c+n:Nat):Int)⟩]
 | 0,c,out=>by simp[jS]
 | n+1,c,out=>by
  have h:=Jl bW n (c+1) (out++[⟨11,14,0,0,bW+8*c-8*out.length-8⟩,⟨17,14,0,0,0⟩,⟨22,0,0,0,c⟩]);show jS bW (c+1) (n+1) _=jS bW (c+1) n _++_;rw[h,show c+1+n=c+(n+1) by omega];rfl
def acJ (B pb:Nat) (sv:bN) (s:aM) (own:Int) (v:bG) (w:World) (p:aA) (l:List fu) (e:Ending) (w':World):Prop:=
 ∃v' r,e=.returned r/\bB B pb w' sv s own v' p/\aU pb v v' w w'/\aX 58 mh w.heap.size (fun _=>False) w' r l/\∀g,r.ownBlock=some g->Kept pb v' w' g
theorem ahp {y:uJ} (fa:Option Addr) (fl fc:Nat) (va:Option Addr) (vl vc:Nat) (Og:fv=.slice fa fl fc) (hvv:vv=.slice va vl vc) (yl:pK) (hyl:yl.aS=y.aS/\yl.got=y.got/\yl.bW=y.bW)
  (hM:bB B pb w sv s own v p) (hS:gB (·<B) w sv s) (hB:B<=w) (hin:∀l∈s.ar5,mK p l) (hf:s.ar2.length<=2000) (hl:s.ar5.length<=2000) (hsz:p.sz<=999990) (hy:0<=y.got/\y.got<=25000000) (hy2:0<=y.aS/\y.aS<=25000000) (hy3:0<=y.bW/\y.bW<=50000000):
  Calls asq 16 #[.agg (kS pb fv vv y).toArray] w (acJ B pb sv s own v w p (A8 s yl p).2):=by
 subst Og hvv
 have HQ:Hid ((A8 s yl p).2=jS y.bW 0 p.ar7.length (iD s.ar1 yl s.ar5 (p,[])).2):=aj (by
  have h:=(nC (ar1:=s.ar1) (y:=yl) (p:=p) s.ar5 [] hin).1;unfold A8;simp only[h,hyl.2.2])
 have j6:=aj hM;have iU:=aj (hM.alloc (aB (arR pb fa fl fc va vl vc y.aS y.got y.bW y.text y.data y.bf) 77));have kM:=aj (aU.alloc (pb:=pb) v w (aB (arR pb fa fl fc va vl vc y.aS y.got y.bW y.text y.data y.bf) 77));have zm:=aj (hM.qM (aB (arR pb fa fl fc va vl vc y.aS y.got y.bW y.text y.data y.bf) 77));have eT:=aj (ah2 w (aB (arR pb fa fl fc va vl vc y.aS y.got y.bW y.text y.data y.bf) 77));have aaQ:=aj (hS.asa (.of_below ((PZ B w).alloc hB (aB (arR pb fa fl fc va vl vc y.aS y.got y.bW y.text y.data y.bf) 77))));have hz1:w.heap.size<(w.alloc (aB (arR pb fa fl fc va vl vc y.aS y.got y.bW y.text y.data y.bf) 77)):=arG;obtain⟨QL,sfb,sfo,QM,mO,hfm,BA,jP⟩:=aaQ.af.ar2.at;have c4:=iU.af.c4;rw[mO]at c4;have hfa:=jP.addr;have tq:=aj jP;obtain ⟨fn,hfn⟩:=aiG s.ar2.length;have Dx:=aj hfn;rw[<-hfn]at c4 hfm BA hfa hf;have AP:=aj hin;have Hyl:=aj hyl;have lX:=aj hsz;have hpl:=hM.lt;obtain ⟨nj,iM⟩:=aiG p.ar7.length;have pQ:nj<=999990:=by unfold aA.sz at hsz;omega
 have Cr:=aj iM;rw[<-iM]at HQ;clear hM hS mO jP hfn hin hyl hsz iM;show Calls asq 16 #[.agg (arR pb fa fl fc va vl vc y.aS y.got y.bW y.text y.data y.bf)] w _;go_enter Tryz.func16,Tryz.ntmps16;have k0:(w.alloc (aB (arR pb fa fl fc va vl vc y.aS y.got y.bW y.text y.data y.bf) 77)).cell? (ak w 0)=some (aQ pb):=aL eT.af rfl;go_upto_block 0 with fail
 clear k0;generalize hws:w.heap.size=lb at *;have Hws:=aj hws;clear hws;generalize w.alloc (aB (arR pb fa fl fc va vl vc y.aS y.got y.bW y.text y.data y.bf) 77)=w1 at *;go_cut [3] (fun o wx=>qP 58 mh B pb sv s own v w1 p wx o (iD s.ar1 yl s.ar5 (p,[])).2)
 case first=>
  go_wp2_with fail;go_loopw [3,17] (fun o i wr=>∃k:Nat,i=ah k/\k<=fn/\qP 58 mh B pb sv s own v w1 p wr o (iD s.ar1 yl ((s.ar2.take k).flatMap (·.ar5)) (p,[])).2) (fun _ i _=>fn-(intOf i).toNat);exact⟨0,rfl,alg _,qP.start _ _ iU.af⟩;obtain⟨k,rfl,hk,hO⟩:=hrel;have HO:=aj hO;clear c4 hO;by_cases hlt:k<fn
  ·have sU:=aj (HO.af.low iU.af wP)
   obtain⟨f,hfx⟩:∃f,s.ar2[k]? =some f:=⟨_,gP (by rw[<-Dx.af];exact hlt)⟩;obtain rfl:=hfa wP;obtain⟨lv,hlv,hso,g0,g1,g2,g3,g4,g5,g6,g7,g8,g9⟩:=tq.af.xJ sU.af k f hfx;obtain⟨la,lbk,Eo,jB,hlf,hlm,Fa,hlat⟩:=hlv.at;subst hlf;have hla:=hlat.addr;have Af:=aj hlat;have lm:Hid ((s.ar2.take (k+1)).flatMap (·.ar5)=(s.ar2.take k).flatMap (·.ar5)++f.ar5):=aj (nL hfx);have OG:Hid (∀x∈f.ar5,mK p x):=aj (fun x hx=>AP.af x (TY.2 ⟨f,dH hfx,hx⟩))
   have akg:Hid (∀x∈(s.ar2.take k).flatMap (·.ar5),mK p x):=aj (fun x hx=>by
    obtain⟨g,hg,hx⟩:=TY.1 hx;exact AP.af x (TY.2 ⟨g,Ub hg,hx⟩))
   have hlen:((s.ar2.take k).flatMap (·.ar5)).length+f.ar5.length<=2000:=by
    have h2:=rP s.ar2 (k+1);rw[nL hfx,Kk]at h2;have h3:(s.ar2.flatMap (·.ar5)).length<=2000:=hl;omega
   obtain ⟨ls,hls⟩:=aiG ((s.ar2.take k).flatMap (·.ar5));rw[<-hls]at HO lm akg hlen;obtain ⟨c,hc⟩:=aiG f.ar5.length;have Hc:=aj hc;rw[<-hc]at g9 hlm Fa hla hlen;have hk2:(k:Int)<(fn:Int):=wP;have xW:=aj (HO.af.alloc rE (aB (arV f la c jB) 63));clear hfx hlv hlat hso hls hc;go_wp2_with fail;clear g0 g1 g2 g3 g4 g5 g6 g7 g8 g9 HO sU;generalize wr.alloc (aB (arV f la c jB) 63)=wa at *;generalize wr.heap.size=rb at *;go_loopw [3,24] (fun o i wq=>∃j:Nat,i=ah j/\j<=c/\qP 58 mh B pb sv s own v w1 p wq o (iD s.ar1 yl (ls++f.ar5.take j) (p,[])).2) (fun _ i _=>c-(intOf i).toNat);exact⟨0,rfl,alg _,by simpa using xW.af⟩;obtain⟨j,rfl,hj,hO⟩:=hrel;have HO:=aj hO;clear hO;by_cases hjt:j<c
   ·have HLq:=aj (HO.af.low iU.af wP)
    obtain⟨x,hx⟩:∃x,f.ar5[j]? =some x:=⟨_,gP (by rw[<-Hc.af];exact hjt)⟩;obtain rfl:=hla wP;obtain⟨hxo,l0,l1,l2,l3,l4,l5,l6,l7,l8⟩:=((Af.af.below HLq.af)).E9 j x hx
    have HSame:=aj (nC (ar1:=s.ar1) (y:=yl) (p:=p) (ls++f.ar5.take j) [] (fun z hz=>by
     rcases List.mem_append.1 hz with h | h
     ·exact akg.af z h
     ·exact OG.af z (Ub h)))
    have lN:Hid ((iD s.ar1 yl (ls++f.ar5.take (j+1)) (p,[])).2=(iD s.ar1 yl (ls++f.ar5.take j) (p,[])).2++(jl s.ar1 yl x (8*(iD s.ar1 yl (ls++f.ar5.take j) (p,[])).2.length) p).2):=aj (by
     rw[jR hx,<-Sq,Gm,HSame.af.1])
    have Zb:=ou (ls++f.ar5.take j);rw[Kk,og]at Zb;have h8:=HSame.af.2;simp only[aR]at h8;have alN:Hid (mK p x):=aj (OG.af x (dH hx));obtain ⟨q,hq⟩:=aiG ((iD s.ar1 yl (ls++f.ar5.take j) (p,[])).2);rw[<-hq]at HO lN h8;have Hxo:=aj hxo;have xD:=aj (HO.af.alloc rE (aB (arL x) 60));have BS:=aj (ah2 wr (aB (arL x) 60));have hzb:wr.heap.size<(wr.alloc (aB (arL x) 60)):=arG;have hj2:(j:Int)<(c:Int):=wP;clear hx hxo hq HSame;go_upto_region 8 with fail
    clear l0 l1 l2 l3 l4 l5 l6 l7 l8 HO HLq;generalize wr.alloc (aB (arL x) 60)=wb at *;generalize wr.heap.size=xb at *;obtain⟨oa,oc,hof⟩:=xD.af.own.form;obtain ⟨n,hn⟩:=aiG q.length;have Hn:=aj hn;rw[<-hn]at hof lN h8;subst hof;have hn2:n<=1000000:=wP;clear hn h8 Zb;have DU:wb.heap[lb]? =some (aB (arR pb fa fl fc va vl vc y.aS y.got y.bW y.text y.data y.bf) 77):=(xD.af.box zm.af).trans eT.af;have y0:wb.cell? (ak lb 0)=some (aQ pb):=aL DU rfl;have y1:wb.cell? (ak lb 1)=some (.slice fa fl fc):=aL DU rfl;have y2:wb.cell? (ak lb 2)=some (.slice va vl vc):=aL DU rfl;have y3:wb.cell? (ak lb 3)=some (ah y.aS):=aL DU rfl;have y4:wb.cell? (ak lb 4)=some (ah y.got):=aL DU rfl;have y5:wb.cell? (ak lb 5)=some (ah y.bW):=aL DU rfl;have y6:wb.cell? (ak lb 6)=some (ah 0):=aL DU rfl;have y7:wb.cell? (ak lb 7)=some (ah y.text):=aL DU rfl;have y8:wb.cell? (ak lb 8)=some (ah y.data):=aL DU rfl;have y9:wb.cell? (ak lb 9)=some (ah y.bf):=aL DU rfl;have l0:wb.cell? (ak xb 0)=some (ah x.ar3):=aD BS.af 0 _ rfl;have l1:wb.cell? (ak xb 1)=some (ah x.inst.op):=aD BS.af 1 _ rfl;have l2:wb.cell? (ak xb 2)=some (ah x.inst.a):=aD BS.af 2 _ rfl;have l3:wb.cell? (ak xb 3)=some (ah x.inst.b):=aD BS.af 3 _ rfl;have l4:wb.cell? (ak xb 4)=some (ah x.inst.c):=aD BS.af 4 _ rfl;have l5:wb.cell? (ak xb 5)=some (ah x.inst.bU):=aD BS.af 5 _ rfl;have l6:wb.cell? (ak xb 6)=some (ah x.a):=aD BS.af 6 _ rfl;have l7:wb.cell? (ak xb 7)=some (ax x.arT):=aD BS.af 7 _ rfl;have l8:wb.cell? (ak xb 8)=some (ax x.aG):=aD BS.af 8 _ rfl;have Ns:w1.heap.size<=wb:=xD.af.size;have aot:=aj (aaQ.af.asa (.of_below (xD.af.low iU.af wP)));obtain⟨v5,rX,hs5,hk5⟩:=xD.af.ex;have Hs5:=aj hs5;have Hk5:=aj hk5;have HOo:=aj xD.af.own;have BB:=aj (aho fa fl fc va vl vc rfl rfl yl ⟨Hyl.af.1,Hyl.af.2.1⟩ x ((n:Int)*8) rX aot.af wP Hxo.af alN.af lX.af hy hy2 ⟨wP,wP⟩);clear rX hs5 hk5 DU;go_wp2_with fail;refine BB.af.mono ?_;rintro e w6 ⟨v6,r,rfl,yH,hs6,QT⟩;have zG:=aj (qP.next rE Hs5.af Hk5.af HOo.af yH hs6);have aou:=QT.max;obtain⟨rra,rrc,hrf⟩:=QT.form;rw[hrf]at QT ⊢;have Hr6:=aj QT;obtain ⟨ins,hins⟩:=aiG ((jl s.ar1 yl x ((n:Int)*8) p).2)
    have Hi3:Hid (ins.length<=3):=aj (by
     have:=(yZ (ar1:=s.ar1) (y:=yl) (at_:=(n:Int)*8) alN.af).2;rw[hins];have:=Oy x;omega)
    have aiT:Hid ((iD s.ar1 yl (ls++f.ar5.take (j+1)) (p,[])).2=q++ins):=aj (by rw[lN.af,hins,Int.mul_comm]);rw[<-hins]at Hr6 ⊢;have hn3:=Hi3.af;have JN:=hs6.step.size;clear yH hs6 QT hrf hins aou BB y0 y1 y2 y3 y4 y5 y6 y7 y8 y9 l0 l1 l2 l3 l4 l5 l6 l7 l8;have F9:=aj (zG.af.own.fJ (E':=fun b=>b<w6/\¬(Value.slice oa n oc).ownBlock=some b) rE (fun g hg h=>h.2 hg));go_wp2_with (at_builtin;go_loud (refine mZ (v:=.slice oa n oc) (l:=q) KP 85 _ 40 Tryz.underlying85 Iw rfl rfl (.tmp 28) (.tmp 34) rfl rfl F9.af (fun b hb=>hb.1) (.slice rra ins.length rrc) ins rfl Hr6.af (by rw[<-Hn.af];omega) (by rw[<-Hn.af];omega) wP ?_));intro o7 w7 om yI Ff;have kT:=aj (zG.af.append rE om yI Ff);obtain⟨oa7,oc7,OW⟩:=om.form;rw[OW]at kT ⊢;clear om yI Ff OW;go_wp2;go_roundw;exact⟨j+1,arH,wP,by rw[aiT.af];exact kT.af⟩;simp[intOf];omega
   ·have HE:Hid (qP 58 mh B pb sv s own v w1 p wr u3 (iD s.ar1 yl ((s.ar2.take (k+1)).flatMap (·.ar5)) (p,[])).2):=aj (by
     have h:=HO.af;rw[show f.ar5.take j=f.ar5 from dh (by have:=Hc.af;omega)]at h;rw[lm.af];exact h)
    go_wp2;go_roundw;exact⟨k+1,arH,wP,HE.af⟩;simp[intOf];omega
  ·have HE:Hid (qP 58 mh B pb sv s own v w1 p wr u3 (iD s.ar1 yl s.ar5 (p,[])).2):=aj (by
    have h:=HO.af
    rwa [show s.ar2.take k=s.ar2 from dh (by have:=Dx.af;omega)]at h)
   go_wp2_with fail;go_meet;exact HE.af
 case rest=>
 have HO:=aj hcut;clear hcut c4;rename World=>w2
 have hB1:B<=w1:=wP;have HSame:=aj (nC (ar1:=s.ar1) (y:=yl) (p:=p) s.ar5 [] AP.af);have Zb:=ou s.ar5;have h8:=HSame.af.2;simp only[aR]at h8;obtain ⟨q,hq⟩:=aiG ((iD s.ar1 yl s.ar5 (p,[])).2);rw[<-hq]at HO HQ h8;have hq2:q.length<=6000:=wP;clear hq h8 Zb HSame;have DU:w2.heap[lb]? =some (aB (arR pb fa fl fc va vl vc y.aS y.got y.bW y.text y.data y.bf) 77):=(HO.af.box zm.af).trans eT.af;have y0:w2.cell? (ak lb 0)=some (aQ pb):=aL DU rfl;obtain⟨v3,pV,-,-⟩:=HO.af.ex;obtain⟨ja,jc,uL⟩:=pV.ar7.form;have c12:=pV.c12;rw[uL,<-Cr.af]at c12;clear pV DU uL;go_wp2_with fail;clear y0 c12;go_loopw [3,44] (fun o i wr=>∃k:Nat,i=ah k/\k<=nj/\qP 58 mh B pb sv s own v w1 p wr o (jS y.bW 0 k q)) (fun _ i _=>nj-(intOf i).toNat);exact⟨0,rfl,alg _,HO.af⟩;obtain⟨k,rfl,hk,hO⟩:=hrel;have HO:=aj hO;clear hO;by_cases hlt:k<nj
 ·have hk2:(k:Int)<(nj:Int):=wP
  have lN:=aj (Jl y.bW k 0 q);have hsl:=(Kq y.bW k 0 q).1;obtain ⟨ss,hss⟩:=aiG (jS y.bW 0 k q);rw[<-hss]at HO lN hsl;obtain⟨oa,oc,hof⟩:=HO.af.own.form;obtain ⟨n,hn⟩:=aiG ss.length;have Hn:=aj hn;rw[<-hn]at hof lN hsl;subst hof;have lN:Hid (jS y.bW 0 (k+1) q=ss++[⟨11,14,0,0,y.bW+8*(k:Int)-(n:Int)*8-8⟩,⟨17,14,0,0,0⟩,⟨22,0,0,0,(k:Int)⟩]):=aj (by rw[lN.af,bE,Int.mul_comm 8 (n:Int)]);have hn2:n<=4000000:=wP;clear hss hn hsl;have DU:wr.heap[lb]? =some (aB (arR pb fa fl fc va vl vc y.aS y.got y.bW y.text y.data y.bf) 77):=(HO.af.box zm.af).trans eT.af;have y5:wr.cell? (ak lb 5)=some (ah y.bW):=aL DU rfl;have Ns:w1.heap.size<=wr:=HO.af.size;have vJ:Hid (LB mh (fun b=>b=wr.heap.size) (wr.alloc (aB #[ah 11,ah 14,ah 0,ah 0,ah (y.bW+8*(k:Int)-(n:Int)*8-8),ah 17,ah 14,ah 0,ah 0,ah 0,ah 22,ah 0,ah 0,ah 0,ah (k:Int)] 58)) (.slice (some ⟨wr.heap.size,0,none⟩) 3 3) [⟨11,14,0,0,y.bW+8*(k:Int)-(n:Int)*8-8⟩,⟨17,14,0,0,0⟩,⟨22,0,0,0,(k:Int)⟩]):=aj (KM wr [⟨11,14,0,0,y.bW+8*(k:Int)-(n:Int)*8-8⟩,⟨17,14,0,0,0⟩,⟨22,0,0,0,(k:Int)⟩] arG (by intro z hz;simp only[Y1,nW,or_false]at hz;rcases hz with rfl | rfl | rfl;exact jw abD abD abD abD ⟨wP,wP⟩;exact jw abD abD abD abD abD;exact jw abD abD abD abD ⟨wP,wP⟩));have HOc:=aj (HO.af.alloc rE (aB #[ah 11,ah 14,ah 0,ah 0,ah (y.bW+8*(k:Int)-(n:Int)*8-8),ah 17,ah 14,ah 0,ah 0,ah 0,ah 22,ah 0,ah 0,ah 0,ah (k:Int)] 58));have F9:=aj (HOc.af.own.fJ (E':=fun b=>b<wr+1/\¬(Value.slice oa n oc).ownBlock=some b) rE (fun g hg h=>h.2 hg));have lh:Hid ((wr.alloc (aB #[ah 11,ah 14,ah 0,ah 0,ah (y.bW+8*(k:Int)-(n:Int)*8-8),ah 17,ah 14,ah 0,ah 0,ah 0,ah 22,ah 0,ah 0,ah 0,ah (k:Int)] 58)).heap.size=wr.heap.size+1):=aj arG;have Hw1:Hid (w1.heap.size<=(wr.alloc (aB #[ah 11,ah 14,ah 0,ah 0,ah (y.bW+8*(k:Int)-(n:Int)*8-8),ah 17,ah 14,ah 0,ah 0,ah 0,ah 22,ah 0,ah 0,ah 0,ah (k:Int)] 58)).heap.size):=aj (by rw[lh.af];omega);clear DU;go_wp2_with (at_builtin;go_loud (refine mZ (v:=.slice oa n oc) (l:=ss) KP 85 _ 40 Tryz.underlying85 Iw rfl rfl (.tmp 50) (.tmp 63) rfl rfl F9.af (fun b hb=>Nat.lt_of_lt_of_eq hb.1 lh.af.symm) (.slice (some ⟨wr.heap.size,0,none⟩) 3 3) [⟨11,14,0,0,y.bW+8*(k:Int)-(n:Int)*8-8⟩,⟨17,14,0,0,0⟩,⟨22,0,0,0,(k:Int)⟩] rfl vJ.af (by rw[<-Hn.af];simp only[oF,aR];omega) (by rw[<-Hn.af];simp only[oF,aR];omega) Hw1.af ?_));intro o7 w7 om yI Ff;have kT:=aj (HOc.af.append rE om (yI.imp fun b hb=>⟨Nat.lt_of_lt_of_eq hb.1 lh.af,hb.2⟩) (fun b hb=>(Ff b hb).imp id fun h=>eG (Ug lh.af) h));obtain⟨oa7,oc7,OW⟩:=om.form;rw[OW]at kT ⊢;clear om yI Ff OW y5;go_wp2;go_roundw;exact⟨k+1,arH,wP,by rw[lN.af];exact kT.af⟩;simp[intOf];omega
 ·have HE:Hid (qP 58 mh B pb sv s own v w1 p wr u3 (A8 s yl p).2):=aj (by
   have h:=HO.af;rw[HQ.af,show nj=k by omega];exact h)
  go_wp2;go_ret;obtain⟨v9,m1,m2,m3⟩:=HE.af.ex;exact⟨v9,_,rfl,m1,kM.af.trans m2,by have h:=HE.af.own;exact(h.mono (by have:=Hws.af;omega)),m3⟩
theorem wM:pE mi:=fun _ _ _ _ _ _ h=>h
theorem Qe:RowK mi Rp (fun _=>True):=⟨fun h=>⟨h,trivial⟩,fun _ _ _ _=>rfl,fun _=>rfl,abD,fun x u hu=>by
 simp only[Rp,Y1,nW,or_false]at hu;rcases hu with rfl | rfl | rfl | rfl<;>rfl⟩
theorem CJ:(Tryz.prog.info? 122).map (fun i=>(i.zero,i.size,i.bytes))=some (some (.agg #[ah 0,ah 0,ah 0,ah 0]),4,32):=TA
theorem Yh:(Tryz.prog.info? 65).map (fun i=>(i.zero,i.size,i.bytes))=some (some (.agg #[ah 0,ah 0,ah 0]),3,24):=TA
theorem RowK.alO {α:Type} {K:Kind α} {f:α->List Value} {P:α->Prop} (hp:RowK K f P) (w:World) (t:TypeId) (l:List α) (hl:l.length<=9223372036854775807) (hok:∀x∈l,P x):LB K (fun b=>b=w.heap.size) (w.alloc (.cells (l.flatMap f).toArray t (0,0))) (.slice (some ⟨w.heap.size,0,none⟩) l.length l.length) l:=by
 refine⟨some (ak w 0),w.heap.size,0,l.length,rfl,hl,fun _=>rfl,⟨oD _,fun h=>by cases h⟩,fun _=>rfl,fun i x hx=>⟨f x,hp.made _ _ x (hok x (dH hx)),fun j u hu=> ?_⟩⟩;rw[aV (ah2 _ _),bE]
 simpa using flat_get f K.k hp.len l i x hx j u hu
structure eX {α:Type} (e:TypeId) (K:Kind α) (B:Nat) (w1 w:World) (o:Value) (l:List α):Prop where
 own:aX e K B (fun _=>False) w o l
 below:Below B w1 w
 hB:B<=w
section
variable {α : Type} {e : TypeId} {K : Kind α} {B : Nat} {w1 w w' : World} {o : Value} {l : List α}
theorem eX.start (e:TypeId) (K:Kind α) (w:World):eX e K w.heap.size w w (au) []:=⟨aX.nil _ _ _ _ _,PZ _ _,oD _⟩
theorem eX.dW (h:eX e K B w1 w o l) (hb:Below w w w'):eX e K B w1 w' o l:=⟨h.own.below hb,h.below.trans (hb.mono h.hB),eG h.hB hb.size⟩
theorem eX.alloc (h:eX e K B w1 w o l) (x:Obj):eX e K B w1 (w.alloc x) o l:=h.dW ((PZ _ w).alloc (oD _) x)
theorem eX.drew (h:eX e K B w1 w o l):eX e K B w1 w.drew o l:=h.dW ((PZ _ w).drew)
theorem eX.append (hK:pE K) (h:eX e K B w1 w o l) {o':Value} {l':List α} {E:Nat->Prop} (hown:aX e K B E w' o' l') (hst:Step (fun b=>b<w/\o.ownBlock≠some b) w w'):eX e K B w1 w' o' l':=by
 have hz:=hst.size;have hB:=h.hB;refine⟨hown.fJ hK (fun _ _ h=>h),h.below.trans ((hst.imp (S':=(·<B)) (fun b hb=>⟨?_,fun e=> ?_⟩)).below),wP⟩
 ·have hb:b<B:=hb;omega
 ·have:=(h.own.lt b e).1
  have hb:b<B:=hb;omega
end
def KD:DataW Unit:=((((DataW.map []:DataW Unit).put (.int .i64 0) (.lit (.int .i64 0))).put (.int .i64 1) (.lit (.int .i64 3))).put (.int .i64 2) (.lit (.int .i64 4))).put (.int .i64 3) (.lit (.int .i64 5))
theorem OX (c:Int):WideAt.IsKeyLit (.int .i64 c):=trivial
theorem ant (c:Int):KD.atKey (.int .i64 c) (.lit (.int .i64 0))=.lit (.int .i64 (nQ c)):=by
 have t0:Maps.Tidy (DataW.map []:DataW Unit):=Maps.tidy_empty;have t1:=Maps.Tidy.put t0 (OX 0) (.lit (.int .i64 0));have t2:=Maps.Tidy.put t1 (OX 1) (.lit (.int .i64 3));have t3:=Maps.Tidy.put t2 (OX 2) (.lit (.int .i64 4));have t4:=Maps.Tidy.put t3 (OX 3) (.lit (.int .i64 5));have ne:∀a b:Int,a≠b->Lit.int .i64 a≠Lit.int .i64 b:=fun a b h e=>h (by cases e;rfl)
 unfold KD nQ;by_cases h3:c=3
 ·subst h3;rw[aaB t3.isMap (OX 3)];rfl
 ·rw[OI (ne _ _ h3)]
  by_cases h2:c=2
  ·subst h2;rw[aaB t2.isMap (OX 2)];rfl
  ·rw[OI (ne _ _ h2)]
   by_cases h1:c=1
   ·subst h1;rw[aaB t1.isMap (OX 1)];rfl
   ·rw[OI (ne _ _ h1)]
    by_cases h0:c=0
    ·subst h0;rw[aaB t0.isMap (OX 0)];rfl
    ·rw[OI (ne _ _ h0),if_neg h0,if_neg h1,if_neg h2,if_neg h3]
     rfl
def Gn (b:Nat) (w:World):Prop:=w.ownsMap (H:=Unit) asq 137 (plainElem asq 120) b 4 KD
theorem aaR:Maps.Keyed asq 137:=Maps.int_keyed Tryz.underlying137
theorem aiU {c:Int} (h:jV c):(Lit.int .i64 c).wf=true:=by
 unfold jV at h;have e1:IntKind.i64.min= -9223372036854775808:=abD;have e2:IntKind.i64.max=9223372036854775807:=abD;simp[Lit.wf,e1,e2];omega
theorem Gn.keep {w':World} (h:Gn b w) (hb:w'.heap[b]? =w.heap[b]?):Gn b w':=by
 obtain⟨es,clock,h1,h2⟩:=h;exact⟨es,clock,hb.trans h1,h2⟩
theorem Gn.look (h:Gn b w) {c:Int} (hc:jV c):(Instr.lookup 138 (.map (some b)) (ah c) false).run asq w=.ok (ah (nQ c)) w:=by
 obtain⟨d,h1,h2,_⟩:=h.lookup_int (q:=.i64) aaR Tryz.underlying138 Tryz.underlying120 TA (Maps.keyOf_int_mk Tryz.underlying137 (aiU hc));rw[ant]at h2
 cases h2
 exact h1
theorem adU (w:World):∃w2 w3 w4 w5,(Instr.mapUpdate 138 (.map (some w.heap.size)) (ah 0) (ah 0)).run asq (w.alloc (.map #[] 0))=.ok () w2/\(Instr.mapUpdate 138 (.map (some w.heap.size)) (ah 1) (ah 3)).run asq w2=.ok () w3/\
  (Instr.mapUpdate 138 (.map (some w.heap.size)) (ah 2) (ah 4)).run asq w3=.ok () w4/\(Instr.mapUpdate 138 (.map (some w.heap.size)) (ah 3) (ah 5)).run asq w4=.ok () w5/\Gn w.heap.size w5/\Below w w w5/\w.heap.size<w5:=by
 have kk:∀c:Int,jV c->keyOf asq 137 (.int .i64 c)=some (.int .i64 c):=fun c hc=>Maps.keyOf_int_mk Tryz.underlying137 (aiU hc)
 have vv:∀c:Int,jV c->plainElem (H:=Unit) asq 120 (.int .i64 c)=some (.lit (.int .i64 c),[]):=fun c hc=>plainElem_int Tryz.underlying120 (aiU hc)
 obtain⟨w2,r2,o2,g2⟩:=(World.ownsMap_made w asq 137 (plainElem (H:=Unit) asq 120)).update aaR Tryz.underlying138 (by unfold maxLen;omega) (kk 0 abD) (vv 0 abD);obtain⟨w3,r3,o3,g3⟩:=o2.update aaR Tryz.underlying138 (by unfold maxLen;omega) (kk 1 abD) (vv 3 abD);obtain⟨w4,r4,o4,g4⟩:=o3.update aaR Tryz.underlying138 (by unfold maxLen;omega) (kk 2 abD) (vv 4 abD);obtain⟨w5,r5,o5,g5⟩:=o4.update aaR Tryz.underlying138 (by unfold maxLen;omega) (kk 3 abD) (vv 5 abD);have ge:∀k,some w.heap.size=some k->w.heap.size<=k:=fun k hk=>by cases hk;exact oD _
 have z0:w.heap.size<=(w.alloc (.map #[] 0)):=arG;refine⟨w2,w3,w4,w5,r2,r3,r4,r5,o5,?_,o5.lt⟩;have z2:=g2.size;have z3:=g3.size;have z4:=g4.size;exact((((((PZ _ w).alloc (oD _) _).grown g2 z0 ge).grown g3 wP ge).grown g4 wP ge).grown g5 wP ge)
def kG (ar1:List (List UInt8)) (p:aA) (at_:Int) (r:gH):iE:=⟨at_+8*r.asl,0,(p.sym ar1 r.arT r.aG 2).2,r.add⟩
def jX (at_ k:Int) (v:dx):List iE:=if v.copied then [⟨at_,2,k,0⟩] else []
def DV (ar1:List (List UInt8)) (p:aA) (at_ k:Int) (v:dx):List iE:=jX at_ k v++v.ash.map (kG ar1 p at_)
def gV (ar1:List (List UInt8)) (p:aA) (nf:Nat) (vars:List Int):Nat->List dx->List iE
 | _,[]=>[]
 | k,v :: l=>DV ar1 p (vars.getD k 0) (nf+k:Nat) v++gV ar1 p nf vars (k+1) l
theorem Gp (ar1:List (List UInt8)) (p:aA) (nf:Nat) (vars:List Int) (v:dx):∀(l:List dx) (k:Nat),gV ar1 p nf vars k (l++[v])=gV ar1 p nf vars k l++DV ar1 p (vars.getD (k+l.length) 0) (nf+(k+l.length):Nat) v
 | [],k=>by simp[gV]
 | x :: l,k=>by
  have h:=Gp ar1 p nf vars v l (k+1);rw[Aa];simp only[gV,oF];rw[h,Sq,show k+1+l.length=k+(l.length+1) by omega]
theorem T9 {ar1:List (List UInt8)} {p:aA} (at_:Int):∀(l:List gH) (out:List iE),(∀r∈l,Sy p r)->Jv ar1 at_ l (p,out)=(p,out++l.map (kG ar1 p at_))
 | [],out,_=>by simp[Jv]
 | r :: l,out,h=>by
  obtain⟨i,hi⟩:=h r (oh ..);unfold Jv;simp only[fw hi];rw[T9 at_ l _ (fun x hx=>h x (uT _ hx))];simp[kG,fw hi]
theorem Ua {ar1:List (List UInt8)} {p:aA} (nf:Nat) (vars:List Int):∀(l:List dx) (k:Nat) (out:List iE),(∀v∈l,zV p v)->Jw ar1 nf vars k l (p,out)=(p,out++gV ar1 p nf vars k l)
 | [],k,out,_=>by simp[Jw,gV]
 | v :: l,k,out,h=>by
  unfold Jw
  have h1:(if v.copied=true then (p,out++[⟨vars.getD k 0,2,((nf+k:Nat):Int),0⟩]) else (p,out))=(p,out++jX (vars.getD k 0) (nf+k:Nat) v):=by
   unfold jX;split<;>simp
  simp only[Int.natCast_add]at h1 ⊢;rw[h1,T9 _ _ _ (h v (oh ..)),Ua nf vars l (k+1) _ (fun x hx=>h x (uT _ hx))];simp[gV,DV,Sq]
theorem Qf (y:pK) (h:∀v∈s.vars,zV p v):GZ s y p=(p,iO y.got 0 p.cells++gV s.ar1 p s.ar2.length y.vars 0 s.vars):=by
 unfold GZ;exact Ua _ _ _ _ _ h
theorem Ev (got:Int) (c:Int × Int):∀(l:List (Int × Int)) (k:Nat),iO got k (l++[c])=iO got k l++[⟨got+8*(k+l.length:Nat),nQ c.1,c.2,0⟩]
 | [],k=>by simp[iO]
 | x :: l,k=>by
  have h:=Ev got c l (k+1);rw[Aa];simp only[iO,oF,Aa];rw[h,show k+1+l.length=k+(l.length+1) by omega]
theorem BU (got:Int):∀(l:List (Int × Int)) (k:Nat),(iO got k l).length=l.length
 | [],_=>rfl
 | x :: l,k=>by simp[iO,BU got l]
theorem Jm (ar1:List (List UInt8)) (p:aA) (nf:Nat) (vars:List Int):∀(l:List dx) (k:Nat),(gV ar1 p nf vars k l).length<=l.length+(l.flatMap (·.ash)).length
 | [],_=>by simp[gV]
 | v :: l,k=>by
  have:=Jm ar1 p nf vars l (k+1);have h2:(jX (vars.getD k 0) (nf+k:Nat) v).length<=1:=by unfold jX;split<;>simp
  simp only[gV,DV,Kk,BR,oF,KF];omega
theorem eX.akX {α:Type} {K:Kind α} {N:Nat} {w':World} {o:Value} {l:List α} (hK:pE K) (h:eX e K B w1 w o l) {o':Value} {l':List α} {E:Nat->Prop} (hown:aX e K B E w' o' l') (hN:w.heap.size=N) (hst:Step (fun b=>b<N/\¬o.ownBlock=some b) w w'):eX e K B w1 w' o' l':=by
 subst hN;exact h.append hK hown hst
theorem Uc {α:Type} {K:Kind α} {f:α->List Value} {P:α->Prop} {v:Value} {l:List α} {o:Oper} {a:Act} {C:Act->World->Prop} {Q:Exit->Act->World->Prop} (hp:RowK K f P) (hK:pE K) (t:TypeId) (z:Value) (bytes:Nat) (ht:Tryz.prog.underlying t=some (.slice e)) (hinfo:(Tryz.prog.info? e).map (fun i=>(i.zero,i.size,i.bytes))=some (some z,K.k,bytes))
  (hzs:z.cells.size=K.k) (s x:Operand) (ho:o.op=.call {callee:=.builtin .append,args:=#[s,x],argTypes:=#[t,t]})
  (n:Nat) (hn:l.length=n) (hs:a.eval s=v) (hM:eX e K B w1 w v l) (nb:Nat) (y:α) (hP:P y) (hx:a.eval x=.slice (some ⟨nb,0,none⟩) 1 1) (hcell:∀j u,(f y)[j]? =some u->w.cell? (ak nb j)=some u)
  (hlen:(l.length+1)*bytes<=140737488355328) (hl63:l.length<1099511627776)
  (h:∀g c w',eX e K B w1 w' (.slice (some ⟨g,0,none⟩) (n+1) c) (l++[y])->Step (fun b=>b<w/\v.ownBlock≠some b) w w'->C (a.put o.dst (.slice (some ⟨g,0,none⟩) (n+1) c)) w'):o.wp asq a w C Q:=
 lV (K:=K) (v:=v) (e:=e) (B:=B) t z bytes ht hinfo hzs hp.pos s x ho n hn hs hM.own (fun _ hb=>hb.elim) nb y (f y) hx hcell (hp.cell y) (hp.made _ _ y hP) hlen hl63 hM.hB (fun g c w' h1 h2 _ _=>h g c w' (hM.append hK h1 h2) h2)
theorem adV {y:uJ} {vars:List Int} (fa:Option Addr) (fl fc:Nat) (va:Option Addr) (vc:Nat) (yl:pK) (hyl:yl.got=y.got/\yl.vars=vars)
  (hvv:LB dJ (·<w.heap.size) w (.slice va vars.length vc) vars) (hM:bB B pb w sv s own v p) (hS:gB (·<B) w sv s) (hB:B<=w) (hin:∀v∈s.vars,zV p v) (hcu:∀c∈p.cells,0<=c.1/\c.1<=3) (hwd:∀v∈s.vars,∀r∈v.ash,0<=r.asl/\r.asl<=256)
  (hlen:vars.length=s.vars.length) (Nt:∀x∈vars,0<=x/\x<=100000000) (hv:s.vars.length<=2000) (hf:s.ar2.length<=2000) (hr:(s.vars.flatMap (·.ash)).length<=2000) (hsz:p.sz<=999990) (hy:0<=y.got/\y.got<=25000000):
  Calls asq 18 #[.agg (kS pb (.slice fa fl fc) (.slice va vars.length vc) y).toArray] w (Ab 122 mi w (GZ s yl p).2):=by
 rw[Qf yl hin,hyl.1,hyl.2];obtain ⟨nv,sQ⟩:=aiG vars.length;have zo:=aj sQ;have Hlen:=aj (sQ.trans hlen);rw[<-sQ]at hvv ⊢;have hv2:nv<=2000:=wP;have HYX:=aj (ah2 w (aB (arR pb fa fl fc va nv vc y.aS y.got y.bW y.text y.data y.bf) 77));have HMA:=aj (hM.alloc (aB (arR pb fa fl fc va nv vc y.aS y.got y.bW y.text y.data y.bf) 77));have HbA:=aj ((PZ w.heap.size w).alloc (oD _) (aB (arR pb fa fl fc va nv vc y.aS y.got y.bW y.text y.data y.bf) 77));have HVA:=aj (hvv.below HbA.af);have HSA:=aj (hS.asa (.of_below (HbA.af.mono hB)));have AP:=aj hin;have Hcu:=aj hcu;have Hwd:=aj hwd;have Hvr:=aj Nt;have lX:=aj hsz;have Hr:=aj hr;have Gq:w.heap.size<(w.alloc (aB (arR pb fa fl fc va nv vc y.aS y.got y.bW y.text y.data y.bf) 77)):=arG;obtain⟨w2,w3,w4,w5,r2,r3,r4,r5,hkm,hb5,uX⟩:=adU (w.alloc (aB (arR pb fa fl fc va nv vc y.aS y.got y.bW y.text y.data y.bf) 77));have hmm:= @run_makeMap asq;show Calls asq 18 #[.agg (arR pb fa fl fc va nv vc y.aS y.got y.bW y.text y.data y.bf)] w _;rw[lW]at r2 r3 r4 r5 uX;have HKm:Hid (Gn (w.heap.size+1) w5):=aj (by rwa [lW]at hkm);have HY5:=aj ((hb5.block w.heap.size Gq).trans HYX.af);have qo:=aj (HMA.af.below hb5);have HV5:=aj (((HVA.af.mono (qx Gq)).below hb5).mono hb5.size);have uZ:=aj (HSA.af.asa (.of_below (hb5.mono (qx (Nat.lt_of_le_of_lt hB Gq)))));have anu:=aj (HbA.af.trans (hb5.mono (qx Gq)));have hBz:B<=w5:=wP;have aaS:w.heap.size<w5:=wP;have hSB:w.heap.size<(w.alloc (aB (arR pb fa fl fc va nv vc y.aS y.got y.bW y.text y.data y.bf) 77)):=Gq;have hpl:=hM.lt;have aov:pb<w5:=wP;clear hM hS hvv hin hcu hwd Nt hlen sQ hyl hkm hb5 hsz hr;go_enter Tryz.func18,Tryz.ntmps18;have y0:w5.cell? (ak w 0)=some (aQ pb):=aL HY5.af rfl;obtain⟨cla,clc,hcl⟩:=qo.af.cells.form;have c11:=qo.af.c11;rw[hcl]at c11;obtain ⟨nc,hnc⟩:=aiG p.cells.length;have EF:=aj hnc;rw[<-hnc]at c11;have Es:nc<=999990:=by have:=lX.af;unfold aA.sz at this;omega
 have adW:∃E:Nat->Prop,LB qC (·<w5.heap.size) w5 (.slice cla nc clc) p.cells:=⟨fun _=>False,by have h:=(qo.af.cells.lb).imp (S':=(·<w5.heap.size)) (fun b hb=>hb.1);rwa [hcl,<-hnc]at h⟩;obtain⟨-,adW⟩:=adW;have alP:=aj adW;clear hcl hnc adW hSB Gq uX;go_upto_block 0 with fail
 clear r2 r3 r4 r5 hmm;have sV:=aj (eX.start 122 mi w5);generalize hlb:w.heap.size=lb at *;have JV:=aj hlb;clear hlb;obtain ⟨z5,uX⟩:=aiG w5.heap.size;have Hz5:=aj uX;rw[<-uX]at sV alP hBz aaS aov HV5;clear uX;go_cut [3] (fun o wx=>eX 122 mi z5 w5 wx o (iO y.got 0 p.cells))
 case first=>
  go_wp2_with fail;clear y0 c11;obtain⟨cb_,cbb,cbo,cbc,hcf,-,-,Br⟩:=alP.af.at;have hca:=Br.addr;have Bt:=aj Br;rw[<-EF.af]at hca hcf;obtain rfl:cla=cb_:=by cases hcf;rfl
  clear Br hcf;go_loopw [3,19] (fun o i wr=>∃k:Nat,i=ah k/\k<=nc/\eX 122 mi z5 w5 wr o (iO y.got 0 (p.cells.take k))) (fun _ i _=>nc-(intOf i).toNat);exact⟨0,rfl,alg _,sV.af⟩;obtain⟨k,rfl,hk,hO⟩:=hrel;have HO:=aj hO;clear hO;by_cases hlt:k<nc
  ·obtain⟨c,hc⟩:∃c,p.cells[k]? =some c:=⟨_,gP (by rw[<-EF.af];exact hlt)⟩
   obtain rfl:=hca wP;obtain⟨g0,g1⟩:=(Bt.af.below HO.af.below).SA k c hc;have hcu:=Hcu.af c (dH hc)
   have lN:Hid (iO y.got 0 (p.cells.take (k+1))=iO y.got 0 (p.cells.take k)++[⟨y.got+8*(k:Int),nQ c.1,c.2,0⟩]):=aj (by
    rw[jR hc,Ev,og,JW (by have:=EF.af;omega),bE])
   have hll:=BU y.got (p.cells.take k) 0;rw[og,JW (by have:=EF.af;omega)]at hll;obtain ⟨q,hq⟩:=aiG (iO y.got 0 (p.cells.take k));rw[<-hq]at HO lN hll;obtain⟨oa,oc,hof⟩:=HO.af.own.form;obtain ⟨n,hn⟩:=aiG q.length;have Hn:=aj hn;rw[<-hn]at hof hll;subst hof;have hnn:n<=999990:=wP;have hY:=(HO.af.below.block lb aaS).trans HY5.af;have y4:wr.cell? (ak lb 4)=some (ah y.got):=aL hY rfl;have aqI:lb<wr:=by have:=HO.af.hB;omega
   have xW:=aj (HO.af.alloc (aB #[ah c.1,ah c.2] 140));have xD:=aj (xW.af.alloc (aB #[ah (y.got+8*(k:Int)),ah (nQ c.1),ah c.2,ah 0] 122));have hlk:=(HKm.af.keep (xW.af.below.block (lb+1) (by have:=HKm.af.lt;have:=Hz5.af;omega))).look (c:=c.1) (by unfold jV;omega)
   have vJ:Hid (LB mi (fun b=>b=wr.heap.size+1) ((wr.alloc (aB #[ah c.1,ah c.2] 140)).alloc (aB #[ah (y.got+8*(k:Int)),ah (nQ c.1),ah c.2,ah 0] 122)) (.slice (some ⟨wr.heap.size+1,0,none⟩) 1 1) [⟨y.got+8*(k:Int),nQ c.1,c.2,0⟩]):=aj (by
    have h:=Qe.alO (wr.alloc (aB #[ah c.1,ah c.2] 140)) 122 [⟨y.got+8*(k:Int),nQ c.1,c.2,0⟩] arG (fun _ _=>trivial);rw[lW]at h;exact h)
   have hk2:(k:Int)<(nc:Int):=wP;clear hY hq hn hll hc hcu;go_wp2_with (at_builtin;go_loud (refine mZ (v:=.slice oa n oc) (l:=q) Qe 39 _ 32 Tryz.underlying39 CJ rfl rfl (.tmp 24) (.tmp 37) rfl rfl xD.af.own (fun b hb=>hb.elim) (.slice (some ⟨wr.heap.size+1,0,none⟩) 1 1) [⟨y.got+8*(k:Int),nQ c.1,c.2,0⟩] rfl vJ.af (by rw[<-Hn.af];simp only[oF,aR];omega) (by rw[<-Hn.af];simp only[oF,aR];omega) xD.af.hB ?_));intro o7 w7 om yI Ff;have kT:=aj (eX.akX wM xD.af om arG yI);obtain⟨oa7,oc7,OW⟩:=om.form;rw[OW]at kT ⊢;clear om yI Ff OW g0 g1 y4 hlk;go_wp2;go_roundw;exact⟨k+1,arH,wP,by rw[lN.af];exact kT.af⟩;simp[intOf];omega
  ·have HE:Hid (eX 122 mi z5 w5 wr u3 (iO y.got 0 p.cells)):=aj (by
    have h:=HO.af
    rwa [dh (by have:=EF.af;omega)]at h)
   go_wp2_with fail;go_meet;exact HE.af
 case rest=>
 have HO:=aj hcut;clear hcut c11 y0;rename World=>wc
 have hY:=(HO.af.below.block lb aaS).trans HY5.af;have y0:wc.cell? (ak lb 0)=some (aQ pb):=aL hY rfl;obtain⟨vfa,vfb,vfo,vfc,hvf,-,-,kI⟩:=uZ.af.vars.at;have hva:=kI.addr;have yw:=aj kI;rw[<-Hlen.af]at hva hvf
 have c5:wc.cell? (ak pb 5)=some (.slice vfa nv vfc):=by
  have h:=(qo.af.below (HO.af.below.mono (by have:=Hz5.af;omega))).c5
  rwa [hvf]at h
 clear kI hvf hY;go_wp2_with fail;clear y0 c5;obtain ⟨nf,hnf⟩:=aiG s.ar2.length;have EK:=aj hnf;rw[<-hnf]at hf;have hcq:=BU y.got p.cells 0;obtain⟨cq,aiV⟩:∃cq,cq=iO y.got 0 p.cells:=⟨_,rfl⟩;have Hcq:=aj aiV;rw[<-aiV]at HO hcq;have aqJ:cq.length<=999990:=by have:=EF.af;omega
 clear hnf hcq aiV;go_loopw [3,47] (fun o i wr=>∃k:Nat,i=ah k/\k<=nv/\eX 122 mi z5 w5 wr o (cq++gV s.ar1 p nf vars 0 (s.vars.take k))) (fun _ i _=>nv-(intOf i).toNat);exact⟨0,rfl,alg _,by simpa [gV] using HO.af⟩;obtain⟨k,rfl,hk,hO⟩:=hrel;have HO:=aj hO;clear hO;by_cases hlt:k<nv
 ·obtain⟨x,hx⟩:∃x,s.vars[k]? =some x:=⟨_,gP (by rw[<-Hlen.af];exact hlt)⟩
  obtain rfl:=hva wP;obtain⟨wv,rv,hwv,kD,hso,g0,g1,g2,g3,g4,g5,g6,g7,g8,g9,g10,g11⟩:=yw.af.rZ (HO.af.below.mono hBz) k x hx;obtain⟨gL,jq,rfl⟩:=hwv.form;obtain⟨ra,rbk,roff,rc,hrf,hrm,TE,j3⟩:=kD.at;subst hrf;have hrl:x.ash.length<=2000:=by have:=Qd hx;have:=Hr.af;omega
  have hra:=j3.addr;have aan:=aj j3;obtain⟨a0,ha0⟩:∃a0,vars[k]? =some a0:=⟨_,gP (by rw[<-zo.af];exact hlt)⟩;have alQ:=Hvr.af a0 (dH ha0)
  have lN:Hid (cq++gV s.ar1 p nf vars 0 (s.vars.take (k+1))=(cq++gV s.ar1 p nf vars 0 (s.vars.take k))++(jX a0 ((nf:Int)+(k:Int)) x++x.ash.map (kG s.ar1 p a0))):=aj (by
   rw[jR hx,Gp,og,JW (by have:=Hlen.af;omega),bE,Sq];unfold DV;rw[show vars.getD k 0=a0 by rw[tK,ha0];rfl,Int.natCast_add])
  have hvl:=Jm s.ar1 p nf vars (s.vars.take k) 0;rw[og,JW (by have:=Hlen.af;omega)]at hvl;have aow:=zZ s.vars k;have alR:(cq++gV s.ar1 p nf vars 0 (s.vars.take k)).length<=1004000:=by rw[Kk];have:=Hr.af;omega
  have hwr:=aj (Hwd.af x (dH hx));have hvi:=aj (AP.af x (dH hx));obtain ⟨q,hq⟩:=aiG (cq++gV s.ar1 p nf vars 0 (s.vars.take k));rw[<-hq]at HO lN alR;obtain ⟨rn,hrn⟩:=aiG x.ash.length;have Ou:=aj hrn;rw[<-hrn]at g10 hra hrm TE hrl;obtain ⟨cp,hcp⟩:=aiG x.copied;have Hcp:=aj hcp;rw[<-hcp]at g11;have hk2:(k:Int)<(nv:Int):=wP;have DF:=aj (ah2 wr (aB #[ax x.sym.arT,ax x.sym.asc,.bool x.sym.old,ah x.sym.ar3,.bool x.sym.ar1,ah x.sym.bq,.bool x.sym.asg,ah x.sym.value,ah x.sym.size,.slice gL x.ar8.length jq,.slice ra rn rc,.bool cp] 71));have xW:=aj (HO.af.alloc (aB #[ax x.sym.arT,ax x.sym.asc,.bool x.sym.old,ah x.sym.ar3,.bool x.sym.ar1,ah x.sym.bq,.bool x.sym.asg,ah x.sym.value,ah x.sym.size,.slice gL x.ar8.length jq,.slice ra rn rc,.bool cp] 71));have Ha0:=aj ha0;have hzb:wr.heap.size<(wr.alloc (aB #[ax x.sym.arT,ax x.sym.asc,.bool x.sym.old,ah x.sym.ar3,.bool x.sym.ar1,ah x.sym.bq,.bool x.sym.asg,ah x.sym.value,ah x.sym.size,.slice gL x.ar8.length jq,.slice ra rn rc,.bool cp] 71)):=arG;have aqK:lb<wr:=by have:=HO.af.hB;omega
  clear hq hvl aow hx hso hwv kD j3 hrn ha0 hcp;obtain⟨oa,oc,hof⟩:=HO.af.own.form;obtain ⟨n,hn⟩:=aiG q.length;have Hn:=aj hn;rw[<-hn]at hof alR;subst hof;have Ud:Hid (∀g,(Value.slice oa n oc).ownBlock=some g->g<wr.heap.size):=aj (fun g hg=>(HO.af.own.lt g hg).2);clear hn;obtain⟨QL,QM,mO⟩:=uZ.af.ar2.form;have xk:=aj mO;obtain⟨BP,vM,DW,vvc,yM,-,-,KQ⟩:=HV5.af.at;have adX:=KQ.addr (by have:=zo.af;omega);rw[<-zo.af]at yM;obtain⟨rfl,rfl⟩:va=BP/\vc=vvc:=by cases yM;exact⟨rfl,rfl⟩
  subst adX;have RU:=aj KQ;clear mO yM KQ;go_upto_region 11 with fail
  clear g0 g1 g2 g3 g4 g5 g6 g7 g8 g9 g10 g11 HO;generalize wr.alloc (aB #[ax x.sym.arT,ax x.sym.asc,.bool x.sym.old,ah x.sym.ar3,.bool x.sym.ar1,ah x.sym.bq,.bool x.sym.asg,ah x.sym.value,ah x.sym.size,.slice gL x.ar8.length jq,.slice ra rn rc,.bool cp] 71)=wa at *;generalize wr.heap.size=xb at *;have qj:wa.cell? (ak xb 11)=some (.bool cp):=aD DF.af 11 _ rfl;go_upto_if 53 with fail
  clear qj;go_cut [3] (fun o wx=>eX 122 mi z5 w5 wx o (q++jX a0 ((nf:Int)+(k:Int)) x)/\wx.heap[xb]? =some (aB #[ax x.sym.arT,ax x.sym.asc,.bool x.sym.old,ah x.sym.ar3,.bool x.sym.ar1,ah x.sym.bq,.bool x.sym.asg,ah x.sym.value,ah x.sym.size,.slice gL x.ar8.length jq,.slice ra rn rc,.bool cp] 71))
  case first=>
   have HYa:=aj ((xW.af.below.block lb aaS).trans HY5.af);have FW:=aj (qo.af.below (xW.af.below.mono (by have:=Hz5.af;omega)));rcases (by cases cp<;>simp:cp=true∨cp=false)with hcp | hcp
   ·have HCR:Hid (jX a0 ((nf:Int)+(k:Int)) x=[⟨a0,2,(nf:Int)+(k:Int),0⟩]):=aj (by unfold jX;rw[<-Hcp.af,hcp];rfl)
    subst hcp;go_upto_region 12 with fail
    have aox:vM<z5:=RU.af.mG (by have:=zo.af;omega);refine bA 18 TA TA ?_;simp only[ji];refine P8 (S:=fun w':World=>w'.cell? (ak lb 0)=some (aQ pb)/\w'.cell? (ak lb 2)=some (.slice (some ⟨vM,DW,none⟩) nv vc)/\w'.cell? (ak vM (DW+k))=some (ah a0)/\w'.cell? (ak pb 4)=some (.slice QL nf QM)) _ _ _ _ ?_;have ay:(fun w':World=>w'.cell? (ak lb 0)=some (aQ pb)/\w'.cell? (ak lb 2)=some (.slice (some ⟨vM,DW,none⟩) nv vc)/\w'.cell? (ak vM (DW+k))=some (ah a0)/\w'.cell? (ak pb 4)=some (.slice QL nf QM)) (World.drew wa):=⟨(by rw[iQ];rw[aV HYa.af];rfl),(by rw[iQ];rw[aV HYa.af];rfl),(RU.af.below xW.af.below).oC k a0 Ha0.af,(by have h:=FW.af.c4;rw[xk.af,<-EK.af]at h;exact h)⟩;refine asr ?_;have Iy:=aj xW.af.drew;have Nj:Hid ((World.drew wa).heap[xb]? =some (aB #[ax x.sym.arT,ax x.sym.asc,.bool x.sym.old,ah x.sym.ar3,.bool x.sym.ar1,ah x.sym.bq,.bool x.sym.asg,ah x.sym.value,ah x.sym.size,.slice gL x.ar8.length jq,.slice ra rn rc,.bool true] 71)):=aj DF.af;have hzd:xb<(World.drew wa):=hzb;generalize (World.drew wa)=wd at Iy Nj ay hzd ⊢;have o1:IntKind.i64.wrap ((nf:Int)+(k:Int))=(nf:Int)+(k:Int):=iJ _ wP;refine arO [0,1,2,3,4,5,6,7,8,9,10,11,12,13,14,15] ay ?_;simp only[ast]
    iterate 16 (refine arP ?_;try simp only[bP])
    clear o1;have xD:=aj (Iy.af.alloc (aB #[ah a0,ah 2,ah ((nf:Int)+(k:Int)),ah 0] 122));have BS:=aj ((dX wd (aB #[ah a0,ah 2,ah ((nf:Int)+(k:Int)),ah 0] 122) hzd).trans Nj.af);have DC:=aj (ah2 wd (aB #[ah a0,ah 2,ah ((nf:Int)+(k:Int)),ah 0] 122));refine cO 16 fun K hK=> ?_
    go_simp;refine hK.af _ _ ⟨dB ay.1,dB ay.2.1,dB ay.2.2.1,dB ay.2.2.2⟩ (fun ay=> ?_);clear hK K;try simp only[bV]
    have hzn:wd.heap.size<(wd.alloc (aB #[ah a0,ah 2,ah ((nf:Int)+(k:Int)),ah 0] 122)).heap.size:=arG;generalize wd.alloc (aB #[ah a0,ah 2,ah ((nf:Int)+(k:Int)),ah 0] 122)=wn at *;refine cO 17 fun K hK=> ?_
    rw[if_pos (by rfl)];simp only[rz];refine Uc Qe wM 39 _ 32 Tryz.underlying39 CJ rfl (.tmp 54) (.tmp 70) rfl n Hn.af.symm rfl xD.af wd.heap.size ⟨a0,2,(nf:Int)+(k:Int),0⟩ trivial rfl (aD DC.af) (by rw[<-Hn.af];omega) (by rw[<-Hn.af];omega) ?_;rintro g7 c7 w7 hO7 hs7;have kT:=aj hO7;have jK:=aj ((hs7.block xb ⟨wP,fun e=>by have:=Ud.af _ e;omega⟩).trans BS.af);have Ns:=xD.af.hB;refine hK.af _ _ ⟨(hs7.cell (p:=(ak lb 0)) ⟨by show lb<_;omega,fun e=>by have:=(xD.af.own.lt lb e).1;omega⟩).trans ay.1,(hs7.cell (p:=(ak lb 2)) ⟨by show lb<_;omega,fun e=>by have:=(xD.af.own.lt lb e).1;omega⟩).trans ay.2.1,(hs7.cell (p:=(ak vM (DW+k))) ⟨by show vM<_;omega,fun e=>by have:=(xD.af.own.lt vM e).1;omega⟩).trans ay.2.2.1,(hs7.cell (p:=(ak pb 4)) ⟨by show pb<_;omega,fun e=>by have:=(xD.af.own.lt pb e).1;omega⟩).trans ay.2.2.2⟩ (fun ay=> ?_);clear hK K hO7 hs7;try simp only[bV]
    refine E5 TA ?_ _;simp only[dU];clear ay;go_wp2_with fail;go_meet;exact⟨by rw[HCR.af];exact kT.af,jK.af⟩
   ·have HCR:Hid (jX a0 ((nf:Int)+(k:Int)) x=[]):=aj (by unfold jX;rw[<-Hcp.af,hcp];rfl)
    subst hcp;go_wp2_with fail;go_meet;exact⟨by rw[HCR.af,Y8];exact xW.af,DF.af⟩
  case rest=>
  obtain⟨akh,aki⟩:=hcut;have HOc:=aj akh;have l10:=aD aki 10 _ rfl;rename World=>wb
  have hcl:(jX a0 ((nf:Int)+(k:Int)) x).length<=1:=by unfold jX;split<;>simp
  have xw:q.length<=1004000:=by have:=Hn.af;omega
  have aoy:(q++jX a0 ((nf:Int)+(k:Int)) x).length<=1004001:=by rw[Kk];omega
  obtain ⟨acc,hacc⟩:=aiG (q++jX a0 ((nf:Int)+(k:Int)) x);have aiT:Hid (cq++gV s.ar1 p nf vars 0 (s.vars.take (k+1))=acc++x.ash.map (kG s.ar1 p a0)):=aj (by rw[lN.af,hacc,Sq]);rw[<-hacc]at HOc aoy;clear akh aki hacc hcl xw lN xW DF Ud;go_wp2_with fail;clear l10;go_loopw [3,75] (fun o i wq=>∃j:Nat,i=ah j/\j<=rn/\eX 122 mi z5 w5 wq o (acc++(x.ash.take j).map (kG s.ar1 p a0))) (fun _ i _=>rn-(intOf i).toNat);exact⟨0,rfl,alg _,by simpa using HOc.af⟩;obtain⟨j,rfl,hj,hO⟩:=hrel;have HO:=aj hO;clear hO;by_cases hjt:j<rn
  ·obtain rfl:=hra wP
   obtain⟨r,hr⟩:∃r,x.ash[j]? =some r:=⟨_,gP (by rw[<-Ou.af];exact hjt)⟩;obtain⟨⟨hrw,aqL,hrn,kD⟩,g0,g1,g2,g3⟩:=(aan.af.below (HO.af.below.mono hBz)).RH j r hr;have hrw2:=hwr.af r (dH hr);obtain⟨si,hsi⟩:=hvi.af r (dH hr)
   have Gr:Hid (acc++(x.ash.take (j+1)).map (kG s.ar1 p a0)=(acc++(x.ash.take j).map (kG s.ar1 p a0))++[⟨a0+8*r.asl,0,(si:Int),r.add⟩]):=aj (by
    rw[jR hr,List.map_append,Sq];unfold kG;simp only[List.map_cons,aaT,fw hsi])
   have hll:(acc++(x.ash.take j).map (kG s.ar1 p a0)).length<=1007000:=by rw[Kk,BR,og];omega
   have aqM:si<=999990:=by
    obtain⟨h,_⟩:=Ig.1 hsi;have:=lX.af;unfold aA.sz at this;omega
   obtain ⟨qr,hqr⟩:=aiG (acc++(x.ash.take j).map (kG s.ar1 p a0));rw[<-hqr]at HO Gr hll;obtain⟨oa,oc,hof⟩:=HO.af.own.form;obtain ⟨n,hn⟩:=aiG qr.length;have Hn:=aj hn;rw[<-hn]at hof hll;subst hof;have Ud:Hid (∀g,(Value.slice oa n oc).ownBlock=some g->g<wr.heap.size):=aj (fun g hg=>(HO.af.own.lt g hg).2);have xW:=aj (HO.af.alloc (aB #[ah r.asl,ax r.arT,ax r.aG,ah r.add] 127));have BD:=aj (ah2 wr (aB #[ah r.asl,ax r.arT,ax r.aG,ah r.add] 127));have hj2:(j:Int)<(rn:Int):=wP;have AB:wr.heap.size<(wr.alloc (aB #[ah r.asl,ax r.arT,ax r.aG,ah r.add] 127)):=arG;have zC:=aj hrn;have Hr3:=aj kD;have Hr4:=aj hsi;clear hqr hn hr hrn kD hsi;go_upto_region 16 with fail
   clear g0 g1 g2 g3 HO;generalize wr.alloc (aB #[ah r.asl,ax r.arT,ax r.aG,ah r.add] 127)=wa2 at *;generalize wr.heap.size=rb at *;have HYa:=aj ((xW.af.below.block lb aaS).trans HY5.af);have aoz:lb<wa2:=by have:=xW.af.hB;omega
   have aox:vM<z5:=by have:=RU.af.mG (by have:=zo.af;omega);have:=Hz5.af;omega
   have aoA:vM<wa2:=by have:=xW.af.hB;omega
   refine bA 22 TA TA ?_;simp only[ji];refine P8 (S:=fun w':World=>w'.cell? (ak lb 0)=some (aQ pb)/\w'.cell? (ak lb 2)=some (.slice (some ⟨vM,DW,none⟩) nv vc)/\w'.cell? (ak vM (DW+k))=some (ah a0)/\w'.cell? (ak rb 0)=some (ah r.asl)/\w'.cell? (ak rb 1)=some (ax r.arT)/\w'.cell? (ak rb 2)=some (ax r.aG)/\w'.cell? (ak rb 3)=some (ah r.add)) _ _ _ _ ?_;have ay:(fun w':World=>w'.cell? (ak lb 0)=some (aQ pb)/\w'.cell? (ak lb 2)=some (.slice (some ⟨vM,DW,none⟩) nv vc)/\w'.cell? (ak vM (DW+k))=some (ah a0)/\w'.cell? (ak rb 0)=some (ah r.asl)/\w'.cell? (ak rb 1)=some (ax r.arT)/\w'.cell? (ak rb 2)=some (ax r.aG)/\w'.cell? (ak rb 3)=some (ah r.add)) (World.drew wa2):=⟨(by rw[iQ];rw[aV HYa.af];rfl),(by rw[iQ];rw[aV HYa.af];rfl),(RU.af.below xW.af.below).oC k a0 Ha0.af,aD BD.af 0 _ rfl,aD BD.af 1 _ rfl,aD BD.af 2 _ rfl,aD BD.af 3 _ rfl⟩;refine asr ?_;have Iy:=aj xW.af.drew;have hzd:rb<(World.drew wa2):=AB;have aiW:lb<(World.drew wa2):=aoz;have alS:vM<(World.drew wa2):=aoA;generalize (World.drew wa2)=wd at Iy ay hzd aiW alS ⊢;have o1:IntKind.i64.wrap (8*r.asl)=8*r.asl:=iJ _ wP;have o2:IntKind.i64.wrap (a0+8*r.asl)=a0+8*r.asl:=iJ _ wP;refine arO [0,1,2,3,4,5,6,7,8,9,10,11,12,13,14,15,17,18] ay ?_;simp only[ast]
   iterate 18 (refine arP ?_;try simp only[bP])
   refine cO 16 fun K hK=> ?_
   go_simp;have HLw:=aj (Iy.af.below);refine(Tw r.arT r.aG 2 (qo.af.below (HLw.af.mono (by have:=Hz5.af;omega))) (uZ.af.asa (.of_below (HLw.af.mono hBz))) zC.af Hr3.af abD (by have:=lX.af;unfold aA.sz at this;omega) (by have:=Iy.af.hB;omega) Hr4.af).mono ?_;rintro e w9 ⟨rfl,HB⟩;have OQ:=HB.size;have Gs:=aj (Iy.af.dW HB);refine hK.af _ _ ⟨(HB.cell (p:=(ak lb 0)) aiW).trans ay.1,(HB.cell (p:=(ak lb 2)) aiW).trans ay.2.1,(HB.cell (p:=(ak vM (DW+k))) alS).trans ay.2.2.1,(HB.cell (p:=(ak rb 0)) hzd).trans ay.2.2.2.1,(HB.cell (p:=(ak rb 1)) hzd).trans ay.2.2.2.2.1,(HB.cell (p:=(ak rb 2)) hzd).trans ay.2.2.2.2.2.1,(HB.cell (p:=(ak rb 3)) hzd).trans ay.2.2.2.2.2.2⟩ (fun ay=> ?_);clear hK K HB;try simp only[bV]
   refine arO [19] ay ?_;simp only[ast]
   iterate 1 (refine arP ?_;try simp only[bP])
   clear o1 o2;have xD:=aj (Gs.af.alloc (aB #[ah (a0+8*r.asl),ah 0,ah (si:Int),ah r.add] 122));have DC:=aj (ah2 w9 (aB #[ah (a0+8*r.asl),ah 0,ah (si:Int),ah r.add] 122));refine cO 20 fun K hK=> ?_
   go_simp;refine hK.af _ _ ⟨dB ay.1,dB ay.2.1,dB ay.2.2.1,dB ay.2.2.2.1,dB ay.2.2.2.2.1,dB ay.2.2.2.2.2.1,dB ay.2.2.2.2.2.2⟩ (fun ay=> ?_);clear hK K;try simp only[bV]
   have hzn:w9.heap.size<(w9.alloc (aB #[ah (a0+8*r.asl),ah 0,ah (si:Int),ah r.add] 122)):=arG;generalize w9.alloc (aB #[ah (a0+8*r.asl),ah 0,ah (si:Int),ah r.add] 122)=wn at *;refine cO 21 fun K hK=> ?_
   rw[if_pos (by rfl)];simp only[rz];refine Uc Qe wM 39 _ 32 Tryz.underlying39 CJ rfl (.tmp 79) (.tmp 99) rfl n Hn.af.symm rfl xD.af w9.heap.size ⟨a0+8*r.asl,0,(si:Int),r.add⟩ trivial rfl (aD DC.af) (by rw[<-Hn.af];omega) (by rw[<-Hn.af];omega) ?_;rintro g7 c7 w7 hO7 hs7;have kT:=aj hO7;have Ns:=xD.af.hB;refine hK.af _ _ ⟨(hs7.cell (p:=(ak lb 0)) ⟨by show lb<_;omega,fun e=>by have:=(xD.af.own.lt lb e).1;omega⟩).trans ay.1,(hs7.cell (p:=(ak lb 2)) ⟨by show lb<_;omega,fun e=>by have:=(xD.af.own.lt lb e).1;omega⟩).trans ay.2.1,(hs7.cell (p:=(ak vM (DW+k))) ⟨by show vM<_;omega,fun e=>by have:=(xD.af.own.lt vM e).1;omega⟩).trans ay.2.2.1,(hs7.cell (p:=(ak rb 0)) ⟨by show rb<_;omega,fun e=>by have:=Ud.af rb e;omega⟩).trans ay.2.2.2.1,(hs7.cell (p:=(ak rb 1)) ⟨by show rb<_;omega,fun e=>by have:=Ud.af rb e;omega⟩).trans ay.2.2.2.2.1,(hs7.cell (p:=(ak rb 2)) ⟨by show rb<_;omega,fun e=>by have:=Ud.af rb e;omega⟩).trans ay.2.2.2.2.2.1,(hs7.cell (p:=(ak rb 3)) ⟨by show rb<_;omega,fun e=>by have:=Ud.af rb e;omega⟩).trans ay.2.2.2.2.2.2⟩ (fun ay=> ?_);clear hK K hO7 hs7;try simp only[bV]
   refine E5 TA ?_ _;simp only[dU];clear ay;go_wp2;go_roundw;exact⟨j+1,arH,wP,by rw[Gr.af];exact kT.af⟩;simp[intOf];omega
  ·have HE:Hid (eX 122 mi z5 w5 wr u3 (cq++gV s.ar1 p nf vars 0 (s.vars.take (k+1)))):=aj (by
    have h:=HO.af;rw[dh (by have:=Ou.af;omega)]at h;rw[aiT.af];exact h)
   go_wp2;go_roundw;exact⟨k+1,arH,wP,HE.af⟩;simp[intOf];omega
 ·have HE:Hid (Ab 122 mi w (iO y.got 0 p.cells++gV s.ar1 p s.ar2.length vars 0 s.vars) (.returned u3) wr):=aj (by
   rw[<-Hcq.af,<-EK.af];have h:=HO.af;rw[dh (by have:=Hlen.af;omega)]at h;exact⟨u3,rfl,h.own.mono (by have:=JV.af;omega),by rw[JV.af];exact anu.af.trans (h.below.mono wP)⟩)
  go_wp2;go_ret;exact HE.af
def mr (a n:Int) (s:bF):bF:={s with value:=a,size:=n }
def CK (aS:Int) (ar2:List Int) (i:Nat):Int:=(ar2[i+1]?).getD aS
theorem Yi (aS:Int):∀(ar2:List Int) (l:List bF) (i:Nat),(p9 aS ar2 l)[i]? =if i<ar2.length then (l[i]?).map (mr (ar2.getD i 0) (CK aS ar2 i-ar2.getD i 0)) else l[i]?
 | [],l,i=>by simp[p9]
 | a :: r,[],i=>by cases r<;>simp[p9]
 | [a],s :: l,i=>by
  cases i with
  | zero=>simp[p9,mr,CK]
  | succ i=>simp[p9]
 | a :: b :: r,s :: l,i=>by
  have h:=Yi aS (b :: r) l
  cases i with
  | zero=>simp[p9,mr,CK]
  | succ i=>
   have h1:=h i;simp only[p9,Y6,h1,oF,CK];simp[Nat.succ_lt_succ_iff]
theorem Yj:∀(ps:List Int) (vs:List dx) (l:List bF) (i:Nat),ps.length=vs.length->(vY ps vs l)[i]? =if i<vs.length then (l[i]?).map (mr (ps.getD i 0) (8*((vs.map (·.ar8.length)).getD i 0:Nat))) else l[i]?
 | [],[],l,i,_=>by cases l<;>simp[vY]
 | a :: ps,v :: vs,[],i,_=>by simp[vY]
 | a :: ps,v :: vs,s :: l,i,h=>by
  have h1:=Yj ps vs l (i-1) (by simpa using h)
  cases i with
  | zero=>simp[vY,mr]
  | succ i=>
   simp only[Nat.add_sub_cancel]at h1;simp only[vY,Y6,h1];simp[Nat.succ_lt_succ_iff]
 | [],v :: vs,l,i,h=>by simp at h
 | a :: ps,[],l,i,h=>by simp at h
def lY (aS:Int) (ar2:List Int) (l:List bF):Nat->List bF
 | 0=>l
 | k+1=>(lY aS ar2 l k).modify k (mr (ar2.getD k 0) (CK aS ar2 k-ar2.getD k 0))
def qI (nf:Nat) (vars:List Int) (vs:List dx) (l:List bF):Nat->List bF
 | 0=>l
 | k+1=>(qI nf vars vs l k).modify (nf+k) (mr (vars.getD k 0) (8*((vs.map (·.ar8.length)).getD k 0:Nat)))
theorem Iz (aS:Int) (ar2:List Int) (l:List bF):∀k,(lY aS ar2 l k).length=l.length
 | 0=>rfl
 | k+1=>by simp[lY,Iz aS ar2 l k]
theorem OZ (nf:Nat) (vars:List Int) (vs:List dx) (l:List bF):∀k,(qI nf vars vs l k).length=l.length
 | 0=>rfl
 | k+1=>by simp[qI,OZ nf vars vs l k]
theorem Yk (aS:Int) (ar2:List Int) (l:List bF) (i:Nat):∀k,(lY aS ar2 l k)[i]? =if i<k then (l[i]?).map (mr (ar2.getD i 0) (CK aS ar2 i-ar2.getD i 0)) else l[i]?
 | 0=>by simp[lY]
 | k+1=>by
  have h:=Yk aS ar2 l i k;rw[lY,TZ,h];by_cases e:k=i
  ·subst e;simp
  ·by_cases h1:i<k
   ·simp[e,h1,Nat.lt_succ_of_lt h1]
   ·have h2:¬i<k+1:=wP
    simp[e,h1,h2]
theorem Yl (nf:Nat) (vars:List Int) (vs:List dx) (l:List bF) (i:Nat):∀k,(qI nf vars vs l k)[i]? =if nf<=i/\i<nf+k then (l[i]?).map (mr (vars.getD (i-nf) 0) (8*((vs.map (·.ar8.length)).getD (i-nf) 0:Nat))) else l[i]?
 | 0=>by
  rw[if_neg wP];rfl
 | k+1=>by
  have h:=Yl nf vars vs l i k;rw[qI,TZ,h];by_cases e:nf+k=i
  ·subst e
   rw[if_neg wP,if_pos wP,Nat.add_sub_cancel_left];simp
  ·by_cases h1:nf<=i/\i<nf+k
   ·rw[if_pos h1,if_pos wP];simp[e]
   ·rw[if_neg h1,if_neg wP];simp[e]
theorem Ue {y:pK} {l:List bF} (hf:y.ar2.length=s.ar2.length) (hv:y.vars.length=s.vars.length):sM s y l=qI s.ar2.length y.vars s.vars (lY y.aS y.ar2 l s.ar2.length) s.vars.length:=by
 apply DI;intro i;rw[Yl,Yk];show((p9 y.aS y.ar2 l).take s.ar2.length++vY y.vars s.vars ((p9 y.aS y.ar2 l).drop s.ar2.length))[i]? =_;have hF:=Yi y.aS y.ar2 l
 have hlen:(p9 y.aS y.ar2 l).length=l.length:=by
  have:=congrArg List.length (Ko y.aS y.ar2 l)
  simpa using this
 by_cases h1:i<s.ar2.length
 ·rw[if_neg wP]
  by_cases h2:i<l.length
  ·rw[bH (by simp[hlen];omega),List.getElem?_take_of_lt h1,hF,hf]
  ·rw[if_pos h1,aj5 (by omega:l.length<=i)]
   rw[aj5];rfl
   have h3:(vY y.vars s.vars ((p9 y.aS y.ar2 l).drop s.ar2.length)).length=((p9 y.aS y.ar2 l).drop s.ar2.length).length:=by
    have:=congrArg List.length (EW y.vars s.vars ((p9 y.aS y.ar2 l).drop s.ar2.length))
    simpa using this
   simp only[Kk,h3,og,List.length_drop,hlen];omega
 ·rw[if_neg h1]
  by_cases h2:s.ar2.length<=l.length
  ·rw[zU (by simp[hlen];omega),Yj _ _ _ _ hv,og,hlen,JW h2,List.getElem?_drop,show s.ar2.length+(i-s.ar2.length)=i by omega,hF,hf]
   simp only[h1,if_false];by_cases h3:i-s.ar2.length<s.vars.length
   ·rw[if_pos h3,if_pos wP]
   ·rw[if_neg h3,if_neg wP]
  ·have h4:(p9 y.aS y.ar2 l).drop s.ar2.length=[]:=List.drop_eq_nil_of_le wP
   have h3:(vY y.vars s.vars ([]:List bF))=[]:=by
    have:=congrArg List.length (EW y.vars s.vars []);exact List.eq_nil_of_length_eq_zero (by simpa using this)
   rw[h4,h3,Y8,aj5 (by omega:l.length<=i),aj5 (by simp[hlen];omega)]
   split<;>rfl
theorem QU {α:Type} (f:α->List Value) (k:Nat) (hf:∀x,(f x).length=k) (x':α) (j:Nat) (u:Value):∀(l:List α) (i:Nat) (x:α),l[i]? =some x->f x'=(f x).set j u->j<k->(l.set i x').flatMap f=(l.flatMap f).set (i*k+j) u
 | [],i,x,hx,_,_=>by simp at hx
 | z :: l,0,x,hx,h,hj=>by
  simp only[yQ,Option.some.injEq]at hx;subst hx;simp only[List.set_cons_zero,KF,aaZ,bE];rw[List.set_append_left _ _ (by rw[hf];exact hj),h]
 | z :: l,i+1,x,hx,h,hj=>by
  simp only[Y6]at hx;have h1:=QU f k hf x' j u l i x hx h hj;simp only[List.set_cons_succ,KF];rw[h1,List.set_append_right _ _ (by rw[hf,Nat.succ_mul];omega),hf]
  congr 2
  rw[Nat.succ_mul];omega
section
variable {α : Type} {e : TypeId} {K : Kind α} {f : α -> List Value} {P : α -> Prop} {B : Nat} {E : Nat -> Prop} {w w' : World} {v : Value} {l : List α}
theorem fe.aaU (hp:RowK K f P) {S:Nat->Prop}:∀ {l:List α} {xs:List Value},fe K S w l xs->xs=l.flatMap f/\∀x∈l,P x
 | [],xs,h=>⟨h,fun _ h=>by cases h⟩
 | x :: l,xs,⟨r,ys,h1,h2,h3⟩=>by
  obtain⟨e1,e2⟩:=fe.aaU hp h3;obtain⟨e3,e4⟩:=hp.KO h2;refine⟨by rw[h1,e1,e3,KF],fun y hy=> ?_⟩;rcases Y1.1 hy with rfl | hy
  ·exact e4
  ·exact e2 y hy
theorem aX.Qg (hp:RowK K f P) (h:aX e K B E w v l) {g:Nat} (hg:v.ownBlock=some g) {i:Nat} {x x':α} (hx:l[i]? =some x) {j:Nat} {u:Value} (hj:j<K.k) (hu:f x'=(f x).set j u) (hP:P x'):aX e K B E (w.setCell ⟨g,i*K.k+j,none⟩ u) v (l.set i x'):=by
 obtain⟨xs,h1,h2,h3⟩:=h;obtain⟨e1,e2⟩:=fe.aaU hp h2;have hi:=(Sm.1 hx).1;refine⟨xs.set (i*K.k+j) u,⟨by rw[zI,zI];exact h1.1,?_⟩,?_,h3⟩
 ·rcases h1.2 with ⟨h0,_⟩ | ⟨g',cap,cur,hv,hg',hh,hn,hc,hs,ht⟩
  ·rw[h0]at hg;cases hg
  ·refine aZ ⟨g',cap,(cur.toList.set (i*K.k+j) u).toArray,by rw[zI];exact hv,hg',?_,by rw[zI];exact hn,hc,by simp[hs],?_⟩
   ·obtain rfl:g=g':=by rw[hv]at hg;exact(Option.some.inj hg).symm
    have hh':w.heap[g]? =some (.cells cur.toList.toArray e (0,0)):=by simpa using hh
    exact eu hh' _ _
   ·have h9:(cur.toList.set (i*K.k+j) u).take (l.length*K.k)=(cur.toList.take (l.length*K.k)).set (i*K.k+j) u:=List.take_set ..
    rw[zI]
    simpa [h9] using congrArg (fun z=>z.set (i*K.k+j) u) ht
 ·have:=fe.aaO (l:=l.set i x') hp (fun b=>b<(w.setCell ⟨g,i*K.k+j,none⟩ u)/\¬E b/\v.ownBlock≠some b) (w.setCell ⟨g,i*K.k+j,none⟩ u) (fun y hy=>by
   rcases List.mem_or_eq_of_mem_set hy with hy | rfl
   ·exact e2 y hy
   ·exact hP)
  rw[QU f K.k hp.len x' j u l i x hx hu hj]at this;rw[e1];exact this
end
theorem Qh:RowK gq lT lJ:=⟨fun h=>h,fun _ _ _ h=>⟨rfl,h⟩,fun _=>rfl,abD,WL⟩
section
variable {B pb : Nat} {w w' : World} {sv : bN} {s : aM} {own : Int} {v : bG} {p : aA}
theorem aU.Uf (v:bG) (w:World) {g:Nat} (hg:v.has g) (i:Nat) (x:Value):aU pb v v w (w.setCell ⟨g,i,none⟩ x):=
 ⟨(Step.refl _ w).setCell (fun h=>h.2.2 hg) x,fun _ h=>aH h⟩
theorem bB.Gt (hM:bB B pb w sv s own v p) {g:Nat} (hg:v.av.ownBlock=some g) {i:Nat} {x x':bF} (hx:p.av[i]? =some x) {j:Nat} {u:Value} (hj:j<9) (hu:lT x'=(lT x).set j u) (hok:lJ x'):bB B pb (w.setCell ⟨g,i*9+j,none⟩ u) sv s own v {p with av:=p.av.set i x' }:=by
 have hne:g≠pb:=fun e=>hM.av.notE g hg (aH e)
 have hs:Step (fun b=>b≠g) w (w.setCell ⟨g,i*9+j,none⟩ u):=(Step.refl _ w).setCell (fun h=>h rfl) _;refine⟨(hs.block pb (fun e=>hne e.symm)).trans hM.ex,hM.base,?_,?_,?_⟩
 ·exact hM.av.Qg Qh hg hx (K:=gq) hj hu hok
 ·exact hM.cells.dS kY (fun b hb=>hs.block b (fun e=>hM.cells.notE b hb (aZ (aH (by rw[e];exact hg)))))
 ·exact hM.ar7.dS dN (fun b hb=>hs.block b (fun e=>hM.ar7.notE b hb (aZ (aH (by rw[e];exact hg)))))
theorem bB.aaV (hM:bB B pb w sv s own v p) {g:Nat} (hg:v.av.ownBlock=some g) {i:Nat} (hi:i<p.av.length) (a n:Int) (ha:jV a) (hn:jV n):bB B pb ((w.setCell ⟨g,i*9+7,none⟩ (ah a)).setCell ⟨g,i*9+8,none⟩ (ah n)) sv s own v {p with av:=p.av.modify i (mr a n)}:=by
 obtain⟨x,hx⟩:∃x,p.av[i]? =some x:=⟨_,gP hi⟩
 have hok:lJ x:=by
  obtain⟨xs,_,h2,_⟩:=hM.av;exact(fe.aaU Qh h2).2 x (dH hx)
 have h1:=hM.Gt hg hx (j:=7) (u:=ah a) (x':={x with value:=a }) abD rfl ⟨hok.arT,hok.asc,hok.ar3,hok.bq,ha,hok.size⟩;have h2:=h1.Gt hg (i:=i) (x:={x with value:=a }) (x':=mr a n x) (by simp[hi]) (j:=8) (u:=ah n) abD rfl ⟨hok.arT,hok.asc,hok.ar3,hok.bq,ha,hn⟩
 have e:p.av.modify i (mr a n)=(p.av.set i {x with value:=a }).set i (mr a n x):=by
  apply DI;intro j;rw[TZ,List.set_set,OY];by_cases e:i=j
  ·subst e;simp[hx,hi,(Sm.1 hx).2]
  ·simp[e]
 rw[e];exact h2
end
theorem aX.IB {α:Type} {K:Kind α} {E:Nat->Prop} {v:Value} {l:List α} (h:aX e K B E w v l) (hl:0<l.length):∃g c,v=.slice (some ⟨g,0,none⟩) l.length c/\∀j,w.frozen? (ak g j)=false:=by
 obtain⟨xs,h1,_⟩:=h;rcases h1.2 with ⟨_,h0⟩ | ⟨g,cap,cur,rfl,_,hh,_⟩
 ·omega
 ·exact⟨g,cap,rfl,vV hh⟩
def aiX (B pb:Nat) (sv:bN) (s:aM) (own:Int) (v:bG) (w:World) (p:aA) (l:List bF) (e:Ending) (w':World):Prop:=
 e=.returned (.tuple #[])/\bB B pb w' sv s own v {p with av:=l }/\aU pb v v w w'
theorem ab7 {y:uJ} (yl:pK) (hyl:yl.aS=y.aS)
  (hM:bB B pb w sv s own v p) (hS:gB (·<B) w sv s) (hB:B<=w) (hF:LB dJ (Kept pb v w) w fv yl.ar2) (hV:LB dJ (Kept pb v w) w vv yl.vars) (hlf:yl.ar2.length=s.ar2.length) (hlv:yl.vars.length=s.vars.length)
  (hsl:s.ar2.length+s.vars.length<=p.av.length) (hfr:∀x∈yl.ar2,0<=x/\x<=100000000) (Nt:∀x∈yl.vars,0<=x/\x<=100000000) (hf:s.ar2.length<=2000) (hv:s.vars.length<=2000) (hw:(s.vars.flatMap (·.ar8)).length<=2000) (hy:0<=y.aS/\y.aS<=25000000) (hsz:p.sz<=999990):
  Calls asq 14 #[.agg (kS pb fv vv y).toArray] w (aiX B pb sv s own v w p (sM s yl p.av)):=by
 have HQ:=aj (Ue (l:=p.av) hlf hlv);rw[hyl]at HQ;rw[HQ.af];clear HQ;obtain⟨fa,fc,lZ⟩:=hF.form;obtain⟨va,vc,hvv⟩:=hV.form;subst lZ hvv;have hsl2:p.av.length<=999990:=by unfold aA.sz at hsz;omega
 obtain ⟨nf,hnf⟩:=aiG s.ar2.length;obtain ⟨nv,sQ⟩:=aiG s.vars.length;rw[<-hnf]at hlf hsl hf ⊢;rw[<-sQ]at hlv hsl hv ⊢;obtain ⟨ar2,hfu⟩:=aiG yl.ar2;obtain ⟨vars,hva⟩:=aiG yl.vars;rw[<-hfu]at hF hlf hfr ⊢;rw[<-hva]at hV hlv Nt ⊢;have EK:=aj hnf;have zo:=aj sQ;have TG:=aj hlf;have Hlv:=aj hlv;have Hfr:=aj hfr;have Hvr:=aj Nt;have Hw:=aj hw;rw[hlf]at hF ⊢;rw[hlv]at hV ⊢;have iU:=aj (hM.alloc (aB (arR pb fa nf fc va nv vc y.aS y.got y.bW y.text y.data y.bf) 77));have kM:=aj (aU.alloc (pb:=pb) v w (aB (arR pb fa nf fc va nv vc y.aS y.got y.bW y.text y.data y.bf) 77));have zm:=aj (hM.qM (aB (arR pb fa nf fc va nv vc y.aS y.got y.bW y.text y.data y.bf) 77));have eT:=aj (ah2 w (aB (arR pb fa nf fc va nv vc y.aS y.got y.bW y.text y.data y.bf) 77));have Ck:=aj ((hF.asa (fun b hb=>kM.af.block hb)).imp (fun b hb=>kM.af.kept hb));have DX:=aj ((hV.asa (fun b hb=>kM.af.block hb)).imp (fun b hb=>kM.af.kept hb));have aaQ:=aj (hS.asa (.of_below ((PZ B w).alloc hB (aB (arR pb fa nf fc va nv vc y.aS y.got y.bW y.text y.data y.bf) 77))));have hz1:w.heap.size<(w.alloc (aB (arR pb fa nf fc va nv vc y.aS y.got y.bW y.text y.data y.bf) 77)):=arG;clear hnf sQ hfu hva hlf hlv hfr Nt hw hM hS hF hV hsz hyl;show Calls asq 14 #[.agg (arR pb fa nf fc va nv vc y.aS y.got y.bW y.text y.data y.bf)] w _;go_enter Tryz.func14,Tryz.ntmps14;have k1:(w.alloc (aB (arR pb fa nf fc va nv vc y.aS y.got y.bW y.text y.data y.bf) 77)).cell? (ak w 1)=some (.slice fa nf fc):=aL eT.af rfl;go_upto_block 0 with fail
 generalize hws:w.heap.size=lb at *;have Hws:=aj hws;clear hws;generalize w.alloc (aB (arR pb fa nf fc va nv vc y.aS y.got y.bW y.text y.data y.bf) 77)=w1 at *;go_cut [] (fun wx=>bB B pb wx sv s own v {p with av:=lY y.aS ar2 p.av nf }/\aU pb v v w1 wx)
 case first=>
  go_wp2_with fail;clear k1;obtain⟨fa',fb,fo,fc',hfe,-,-,jP⟩:=Ck.af.at;have aaW:=jP.addr;rw[TG.af]at aaW hfe;obtain⟨rfl,rfl⟩:fa=fa'/\fc=fc':=by cases hfe;exact⟨rfl,rfl⟩
  have aiw:=aj jP;clear hfe jP;go_loopw [11] (fun i wr=>∃k:Nat,i=ah k/\k<=nf/\bB B pb wr sv s own v {p with av:=lY y.aS ar2 p.av k }/\aU pb v v w1 wr) (fun i _=>nf-(intOf i).toNat);exact⟨0,rfl,alg _,iU.af,aU.refl _ _ _⟩;obtain⟨k,rfl,hk,hM,hP⟩:=hrel;have HM:=aj hM;have HP:=aj hP;clear hM hP;by_cases hlt:k<nf
  ·obtain⟨a0,ha0⟩:∃a0,ar2[k]? =some a0:=⟨_,gP (by rw[TG.af];exact hlt)⟩
   obtain rfl:=aaW wP;have aoB:=aiw.af.mG (by rw[TG.af];omega);have HFb:=aj (HP.af.block aoB);have hFr:=aj (aiw.af.asa (w':=wr) (fun b hb=>HP.af.block hb));have g0:=hFr.af.oC k a0 ha0;have alQ:=Hfr.af a0 (dH ha0);have X0:Hid (ar2.getD k 0=a0):=aj (by rw[tK,ha0];rfl);have QJ:=aj ((HP.af.block zm.af).trans eT.af);have y1:wr.cell? (ak lb 1)=some (.slice (some ⟨fb,fo,none⟩) nf fc):=aL QJ.af rfl;have y3:wr.cell? (ak lb 3)=some (ah y.aS):=aL QJ.af rfl;obtain ⟨E,hE⟩:=aiG (CK y.aS ar2 k);have HE:=aj hE;have hk2:(k:Int)<(nf:Int):=wP;clear ha0 hE;go_upto_if 23 with fail
   go_cut [4] (fun e wx=>e=ah E/\wx=wr)
   case first=>
    by_cases hk1:k+1<nf
    ·obtain⟨a1,ha1⟩:∃a1,ar2[k+1]? =some a1:=⟨_,gP (by rw[TG.af];exact hk1)⟩
     have g1:=hFr.af.oC (k+1) a1 ha1;have HEE:Hid (a1=E):=aj (by rw[HE.af];unfold CK;rw[ha1];rfl);have hk3:(k:Int)+1<(nf:Int):=wP;have hk4:((k:Int)+1).toNat=k+1:=wP;clear ha1;go_wp2_with fail;go_meet;exact⟨by rw[HEE.af],rfl⟩
    ·have HEE:Hid (y.aS=E):=aj (by rw[HE.af];unfold CK;rw[aj5 (by rw[TG.af];omega)];rfl)
     have hk3:¬(k:Int)+1<(nf:Int):=wP;go_wp2_with fail;go_meet;exact⟨by rw[HEE.af],rfl⟩
   case rest=>
   obtain⟨rfl,rfl⟩:=hcut;rename World=>wr
   clear g0 y1 y3
   have hEr:0<=E/\E<=100000000:=by
    have h:=HE.af;unfold CK at h;by_cases hk1:k+1<nf
    ·obtain⟨a1,ha1⟩:∃a1,ar2[k+1]? =some a1:=⟨_,gP (by rw[TG.af];exact hk1)⟩
     rw[ha1]at h;rw[h];exact Hfr.af a1 (dH ha1)
    ·rw[aj5 (by rw[TG.af];omega)]at h
     rw[h];show 0<=y.aS/\y.aS<=100000000;omega
   have hfl:=Iz y.aS ar2 p.av k;have kE:Hid (lY y.aS ar2 p.av (k+1)=(lY y.aS ar2 p.av k).modify k (mr a0 (E-a0))):=aj (by rw[lY,X0.af,HE.af]);obtain ⟨q,hq⟩:=aiG (lY y.aS ar2 p.av k);rw[<-hq]at HM kE hfl;have hkq:k<q.length:=wP;have xw:q.length<=999990:=wP;obtain⟨g,sc,hsy,hfz⟩:=HM.af.av.IB (by show 0<q.length;omega);obtain⟨x,hx⟩:∃x,q[k]? =some x:=⟨_,gP hkq⟩;obtain⟨-,-,-,-,-,-,-,-,c7,c8⟩:=HM.af.gX hsy k x hx;obtain ⟨n,hn⟩:=aiG q.length;have c9:=HM.af.c9;have Cm:=aj hsy;rw[hsy]at c9;rw[show ({p with av:=q }:aA).av.length=n from hn.symm]at c9;have hkn:(k:Int)<(n:Int):=wP;have hn2:n<=999990:=wP;have iZ:Hid (v.av.ownBlock=some g):=aj (by rw[Cm.af];rfl);have Hkq:=aj hkq;rw[bE]at c7 c8;have f7:=hfz (k*9+7);have f8:=hfz (k*9+8);have y0:wr.cell? (ak lb 0)=some (aQ pb):=aL QJ.af rfl;have QR:lb≠g:=fun e=>(HP.af.kept zm.af).no (aH (by rw[e];exact iZ.af))
   have hpg:pb≠g:=fun e=>HM.af.av.notE g iZ.af (aH e.symm)
   clear hq hsy hx hn hfl hkq hfz;go_upto_region 7 with fail
   refine bA 19 TA TA ?_;simp only[ji];refine P8 (S:=fun w':World=>w'.cell? (ak lb 0)=some (aQ pb)/\w'.cell? (ak pb 9)=some (.slice (some ⟨g,0,none⟩) n sc)) _ _ _ _ ?_;have ay:(fun w':World=>w'.cell? (ak lb 0)=some (aQ pb)/\w'.cell? (ak pb 9)=some (.slice (some ⟨g,0,none⟩) n sc)) (World.drew wr):=⟨y0,c9⟩;refine asr ?_;have rG:=aj (HM.af.below (PZ _ wr).drew);have Nu:=aj (HP.af.trans (aU.below (pb:=pb) (v:=v) (PZ _ wr).drew));have d7:wr.drew.cell? (ak g (k*9+7))=some (ah x.value):=c7;have d8:wr.drew.cell? (ak g (k*9+8))=some (ah x.size):=c8;have e7:wr.drew.frozen? (ak g (k*9+7))=false:=f7;have e8:wr.drew.frozen? (ak g (k*9+8))=false:=f8;clear c7 c8 f7 f8 c9 y0;generalize (World.drew wr)=wd at *;have o1:IntKind.i64.wrap (E-a0)=E-a0:=iJ _ wP;refine arO [0,1,2,3,4,5,6,7,8,9,10,11,12,13,14,15,16,17] ay ?_;simp only[ast]
   iterate 18 (refine arP ?_;try simp only[bP])
   refine cO 18 fun K hK=> ?_
   go_simp;have hsc:Step (fun b=>b≠g) wd (wd.setCell ⟨g,k*9+7,none⟩ (ah a0)):=(Step.refl _ wd).setCell (fun h=>h rfl) _;refine hK.af _ _ ⟨(hsc.cell (p:=(ak lb 0)) QR).trans ay.1,(hsc.cell (p:=(ak pb 9)) hpg).trans ay.2⟩ (fun ay=> ?_);clear hK K hsc;try simp only[bV]
   refine E5 TA ?_ _;simp only[dU];clear ay o1;have ko:=aj (rG.af.aaV iZ.af Hkq.af a0 (E-a0) (by unfold jV;omega) (by unfold jV;omega));have HPn:=aj ((Nu.af.trans (aU.Uf (pb:=pb) v wd (aH iZ.af) (k*9+7) (ah a0))).trans (aU.Uf (pb:=pb) v _ (aH iZ.af) (k*9+8) (ah (E-a0))));go_wp2;go_roundw;exact⟨k+1,arH,wP,by rw[kE.af];exact ko.af,HPn.af⟩;simp[intOf];omega
  ·have HE:Hid (bB B pb wr sv s own v {p with av:=lY y.aS ar2 p.av nf }/\aU pb v v w1 wr):=aj (by
    rw[show nf=k by omega];exact⟨HM.af,HP.af⟩)
   go_wp2_with fail;go_meet;exact HE.af
 case rest=>
 obtain⟨hM,hP⟩:=hcut;have HM:=aj hM;have HP:=aj hP;clear hM hP k1;rename World=>w2
 have hpf:=Iz y.aS ar2 p.av nf;obtain ⟨ps,hps⟩:=aiG (lY y.aS ar2 p.av nf);have Hps:=aj hps;rw[<-hps]at HM hpf;have RV:ps.length<=999990:=wP;have aqN:nf+nv<=ps.length:=wP;have QJ:=aj ((HP.af.block zm.af).trans eT.af);have y0:w2.cell? (ak lb 0)=some (aQ pb):=aL QJ.af rfl;obtain⟨vfa,vfb,vfo,vfc,hvf,-,-,kI⟩:=aaQ.af.vars.at;have aaX:=kI.addr;have yw:=aj kI;rw[<-zo.af]at aaX hvf;have c5:=HM.af.c5;rw[hvf]at c5;have hBw:B<=w1:=wP;clear kI hvf hps hpf;go_wp2_with fail;clear y0 c5;obtain⟨BP,vM,DW,vvc,yM,-,-,KQ⟩:=DX.af.at;have adX:=KQ.addr;rw[Hlv.af]at adX yM;obtain⟨rfl,rfl⟩:va=BP/\vc=vvc:=by cases yM;exact⟨rfl,rfl⟩
 have RU:=aj KQ;clear yM KQ;go_loopw [58] (fun i wr=>∃k:Nat,i=ah k/\k<=nv/\bB B pb wr sv s own v {p with av:=qI nf vars s.vars ps k }/\aU pb v v w1 wr) (fun i _=>nv-(intOf i).toNat);exact⟨0,rfl,alg _,HM.af,HP.af⟩;obtain⟨k,rfl,hk,hM2,hP2⟩:=hrel;have jW:=aj hM2;have TD:=aj hP2;clear hM2 hP2;by_cases hlt:k<nv
 ·obtain⟨x,hx⟩:∃x,s.vars[k]? =some x:=⟨_,gP (by rw[<-zo.af];exact hlt)⟩
  obtain rfl:=aaX wP;have aaY:=aj (TD.af.low iU.af hBw);obtain⟨wv,rv,hwv,kD,hso,g0,g1,g2,g3,g4,g5,g6,g7,g8,g9,g10,g11⟩:=yw.af.rZ aaY.af k x hx;obtain⟨gL,jq,rfl⟩:=hwv.form;obtain⟨ra,rc,rfl⟩:=kD.form;obtain ⟨m,hm⟩:=aiG x.ar8.length;have hm2:m<=2000:=by have:=RI hx;have:=Hw.af;omega
  rw[<-hm]at g9;have HW:Hid (((s.vars.map (·.ar8.length)).getD k 0:Nat)=m):=aj (by rw[tK,vW,hx,hm];rfl);obtain⟨a0,ha0⟩:∃a0,vars[k]? =some a0:=⟨_,gP (by rw[Hlv.af];exact hlt)⟩;have alQ:=Hvr.af a0 (dH ha0);have X0:Hid (vars.getD k 0=a0):=aj (by rw[tK,ha0];rfl);obtain rfl:=adX wP;have aoC:=RU.af.mG (by rw[Hlv.af];omega);have kE:Hid (qI nf vars s.vars ps (k+1)=(qI nf vars s.vars ps k).modify (nf+k) (mr a0 (8*(m:Int)))):=aj (by rw[qI,X0.af,HW.af]);have hfl:=OZ nf vars s.vars ps k;obtain ⟨q,hq⟩:=aiG (qI nf vars s.vars ps k);rw[<-hq]at jW kE hfl;have FW:=aj (jW.af.alloc (aB (arU x gL m jq ra x.ash.length rc) 71));have HPa:=aj (TD.af.trans (aU.alloc (pb:=pb) v wr (aB (arU x gL m jq ra x.ash.length rc) 71)));have DF:=aj (ah2 wr (aB (arU x gL m jq ra x.ash.length rc) 71));have HKa:=aj (jW.af.qM (aB (arU x gL m jq ra x.ash.length rc) 71));have Ha0:=aj ha0;have hk2:(k:Int)<(nv:Int):=wP;clear hx hso hwv kD hm ha0 hq;go_upto_region 12 with fail
  clear g0 g1 g2 g3 g4 g5 g6 g7 g8 g9 g10 g11;generalize wr.alloc (aB (arU x gL m jq ra x.ash.length rc) 71)=wa at *;generalize wr.heap.size=xb at *;have vH:=aj ((HPa.af.block zm.af).trans eT.af);obtain⟨g,sc,hsy,hfz⟩:=FW.af.av.IB (by show 0<q.length;omega);obtain⟨z,hz⟩:∃z,q[nf+k]? =some z:=⟨_,gP wP⟩;obtain⟨-,-,-,-,-,-,-,-,c7,c8⟩:=FW.af.gX hsy (nf+k) z hz;obtain ⟨n,hn⟩:=aiG q.length;have c9:=FW.af.c9;have c4:=FW.af.c4;obtain⟨QL,QM,mO⟩:=aaQ.af.ar2.form;rw[mO,<-EK.af]at c4;have Cm:=aj hsy;rw[hsy]at c9;rw[show ({p with av:=q }:aA).av.length=n from hn.symm]at c9;have hkn:(nf:Int)+(k:Int)<(n:Int):=wP;have hn2:n<=999990:=wP;have iZ:Hid (v.av.ownBlock=some g):=aj (by rw[Cm.af];rfl);have Hkq:Hid (nf+k<q.length):=aj wP;rw[bE]at c7 c8;have f7:=hfz ((nf+k)*9+7);have f8:=hfz ((nf+k)*9+8);have y0:wa.cell? (ak lb 0)=some (aQ pb):=aL vH.af rfl;have QR:lb≠g:=fun e=>(HPa.af.kept zm.af).no (aH (by rw[e];exact iZ.af))
  have hvg:vM≠g:=fun e=>(HPa.af.kept aoC).no (aH (by rw[e];exact iZ.af))
  have hxg:xb≠g:=fun e=>HKa.af.no (aH (by rw[e];exact iZ.af))
  clear hsy hz hn hfl hfz mO;have o1:IntKind.i64.wrap ((nf:Int)+(k:Int))=(nf:Int)+(k:Int):=iJ _ wP;have o2:((nf:Int)+(k:Int)).toNat=nf+k:=wP;have o3:(0:Int)<=(nf:Int)+(k:Int):=wP;refine bA 15 TA TA ?_;simp only[ji];refine P8 (S:=fun w':World=>w'.cell? (ak lb 0)=some (aQ pb)/\w'.cell? (ak pb 9)=some (.slice (some ⟨g,0,none⟩) n sc)/\w'.cell? (ak pb 4)=some (.slice QL nf QM)) _ _ _ _ ?_;have ay:(fun w':World=>w'.cell? (ak lb 0)=some (aQ pb)/\w'.cell? (ak pb 9)=some (.slice (some ⟨g,0,none⟩) n sc)/\w'.cell? (ak pb 4)=some (.slice QL nf QM)) (World.drew wa):=⟨y0,c9,c4⟩;refine asr ?_;have rG:=aj (FW.af.below (PZ _ wa).drew);have Nu:=aj (HPa.af.trans (aU.below (pb:=pb) (v:=v) (PZ _ wa).drew));have QN:=aj (HKa.af.below (PZ wa.heap.size wa).drew);have Nj:Hid ((World.drew wa).heap[xb]? =some (aB (arU x gL m jq ra x.ash.length rc) 71)):=aj DF.af;have AJ:=aj ((Nu.af.block zm.af).trans eT.af);have d7:wa.drew.cell? ⟨g,(nf+k)*9+7,none⟩=some (ah z.value):=c7;have d8:wa.drew.cell? ⟨g,(nf+k)*9+8,none⟩=some (ah z.size):=c8;have e7:wa.drew.frozen? ⟨g,(nf+k)*9+7,none⟩=false:=f7;have e8:wa.drew.frozen? ⟨g,(nf+k)*9+8,none⟩=false:=f8;clear c7 c8 f7 f8 c9 y0 c4;generalize (World.drew wa)=wd at *;refine arO [0,1,2,3,4,5,6,7,8,9,10,11,12,13,14] ay ?_;simp only[ast]
  iterate 15 (refine arP ?_;try simp only[bP])
  refine E5 TA ?_ _;simp only[dU];clear ay o1 o2 o3;go_upto_region 13 with fail
  refine bA 14 TA TA ?_;simp only[ji];refine P8 (S:=fun w':World=>w'.cell? (ak lb 2)=some (.slice (some ⟨vM,DW,none⟩) nv vc)/\w'.cell? (ak vM (DW+k))=some (ah a0)/\w'.cell? (ak xb 9)=some (.slice gL m jq)) _ _ _ _ ?_;have ay:(fun w':World=>w'.cell? (ak lb 2)=some (.slice (some ⟨vM,DW,none⟩) nv vc)/\w'.cell? (ak vM (DW+k))=some (ah a0)/\w'.cell? (ak xb 9)=some (.slice gL m jq)) (World.drew wd):=⟨(by rw[iQ];rw[aV AJ.af];rfl),(RU.af.asa (w':=wd.drew) (fun b hb=>Nu.af.block hb)).oC k a0 Ha0.af,aD Nj.af 9 _ rfl⟩;refine asr ?_;have pg:=aj (rG.af.below (PZ _ wd).drew);have HPe:=aj (Nu.af.trans (aU.below (pb:=pb) (v:=v) (PZ _ wd).drew));have i7:wd.drew.cell? ⟨g,(nf+k)*9+7,none⟩=some (ah z.value):=d7;have i8:wd.drew.cell? ⟨g,(nf+k)*9+8,none⟩=some (ah z.size):=d8;have j7:wd.drew.frozen? ⟨g,(nf+k)*9+7,none⟩=false:=e7;have j8:wd.drew.frozen? ⟨g,(nf+k)*9+8,none⟩=false:=e8;clear d7 d8 e7 e8;generalize (World.drew wd)=we at *;have o1:IntKind.i64.wrap (8*(m:Int))=8*(m:Int):=iJ _ wP;refine arO [0,1,2,3,4,5,6,7,8,9,10,11,12] ay ?_;simp only[ast]
  iterate 13 (refine arP ?_;try simp only[bP])
  refine cO 13 fun K hK=> ?_
  go_simp;have hsc:Step (fun b=>b≠g) we (we.setCell ⟨g,(nf+k)*9+7,none⟩ (ah a0)):=(Step.refl _ we).setCell (fun h=>h rfl) _;refine hK.af _ _ ⟨(hsc.cell (p:=(ak lb 2)) QR).trans ay.1,(hsc.cell (p:=(ak vM (DW+k))) hvg).trans ay.2.1,(hsc.cell (p:=(ak xb 9)) hxg).trans ay.2.2⟩ (fun ay=> ?_);clear hK K hsc;try simp only[bV]
  refine E5 TA ?_ _;simp only[dU];clear ay o1;have ko:=aj (pg.af.aaV iZ.af Hkq.af a0 (8*(m:Int)) (by unfold jV;omega) (by unfold jV;omega));have HPn:=aj ((HPe.af.trans (aU.Uf (pb:=pb) v we (aH iZ.af) ((nf+k)*9+7) (ah a0))).trans (aU.Uf (pb:=pb) v _ (aH iZ.af) ((nf+k)*9+8) (ah (8*(m:Int)))));go_wp2;go_roundw;exact⟨k+1,arH,wP,by rw[kE.af];exact ko.af,HPn.af⟩;simp[intOf];omega
 ·have HE:Hid (bB B pb wr sv s own v {p with av:=qI nf vars s.vars (lY y.aS ar2 p.av nf) nv }/\aU pb v v w wr):=aj (by
   rw[<-Hps.af,show nv=k by omega];exact⟨jW.af,kM.af.trans TD.af⟩)
  go_wp2;go_end0;exact⟨rfl,HE.af⟩
theorem KR {k:Nat} (hk:k=1∨k=2∨k=4∨k=8∨k=16∨k=32∨k=64) (h1:k=1∨4*k<n) (h2:64<=k∨n<=8*k):qB n=k:=by
 unfold qB;rcases hk with rfl | rfl | rfl | rfl | rfl | rfl | rfl<;>(repeat' split)<;>omega
theorem ahq (n:Nat):rq (qB n)=true:=by
 rw[uH];unfold qB
 (repeat' split)<;>simp
theorem ahr (w:World) (n:Nat) (hn:n<=1000000):
  Calls asq 55 #[ah (n:Int)] w fun e w'=>e=.returned (ah (qB n:Nat))/\w'=w:=by
 go_enter Tryz.func55,Tryz.ntmps55;go_wp2;go_loop [3] (fun u=>∃k:Nat,u=ah (k:Int)/\(k=1∨k=2∨k=4∨k=8∨k=16∨k=32∨k=64)/\(k=1∨4*k<n)) (fun u=>64-(intOf u).toNat);exact⟨1,rfl,aH rfl,aH rfl⟩;obtain⟨k,rfl,hk,h1⟩:=hrel;have Hk:=aj hk;have H1:=aj h1;have hk0:1<=k/\k<=64:=wP;clear hk h1;by_cases hlt:k<64
 ·have hlt2:(k:Int)<64:=wP
  by_cases h8:8*k<n
  ·have h82:8*(k:Int)<(n:Int):=wP
   have HN:Hid ((k*2=1∨k*2=2∨k*2=4∨k*2=8∨k*2=16∨k*2=32∨k*2=64)/\(k*2=1∨4*(k*2)<n)):=aj (by have:=Hk.af;omega);go_wp2;go_round;exact⟨k*2,arH,HN.af.1,HN.af.2⟩;simp[intOf];omega
  ·have h82:¬8*(k:Int)<(n:Int):=wP
   have HE:=aj (KR Hk.af H1.af (aZ wP));go_wp2;go_ret;exact⟨by rw[HE.af];rfl,rfl⟩
 ·have hlt2:¬(k:Int)<64:=wP
  have HE:=aj (KR Hk.af H1.af (aH wP));go_wp2;go_ret;exact⟨by rw[HE.af];rfl,rfl⟩
theorem anv {k:IntKind} {a b:Int} (h:a=b):Ending.returned (.int k a)=.returned (.int k b):=by rw[h]
theorem ahs (n:Nat):((jy n:Nat):Int)=max 1 (((n:Int)+4-1)/4):=by unfold jy;omega
theorem adY (w:World) (n:Nat) (hn:n<=1000000):
  Calls asq 56 #[ah (n:Int)] w fun e w'=>e=.returned (ah (jy n:Nat))/\w'=w:=by
 have HE:=aj (ahs n);go_enter Tryz.func56,Tryz.ntmps56;go_wp2
 all_goals
  go_ret;exact⟨anv (by rw[HE.af];omega),rfl⟩
theorem Fg:(Tryz.prog.info? 119).map (fun i=>(i.zero,i.size,i.bytes))=some (some (.int .u64 0),1,8):=TA
theorem vN:pE jQ:=fun _ _ _ _ _ _ h=>h
theorem RX:RowK jQ (fun x=>[.int .u64 x]) (fun _=>True):=⟨fun h=>⟨h,trivial⟩,fun _ _ _ _=>rfl,fun _=>rfl,abD,fun x u hu=>by
 rcases tY.1 hu with rfl;rfl⟩
theorem mF.alT {S:Nat->Prop} {a:Option Addr} {off:Nat} {l:List Int} (h:mF yX S w l a b off) (i:Nat) (x:Int) (hx:l[i]? =some x):w.cell? (ak b (off+i))=some (.int .u32 x):=by
 obtain⟨row,h1,h2⟩:=h.row i x hx;have h1:row=[.int .u32 x]:=h1;subst h1;have:=h2 0 _ rfl
 simpa [yX] using this
theorem Ym (ws:List Int) (h:Nat):(markT ws h).length=ws.length:=by simp[markT]
theorem QV {ws:List Int} (hr:∀x∈ws,0<=x/\x<18446744073709551616) (h:Nat):∀x∈markT ws h,0<=x/\x<18446744073709551616:=fun x hx=>by
 unfold markT at hx;rcases List.mem_or_eq_of_mem_set hx with hx | rfl
 ·exact hr x hx
 ·have h1:(ws.getD (h/64%ws.length) 0).toNat<2 ^ 64:=by
   rw[tK]
   cases e:ws[h/64%ws.length]? with
   | none=>decide
   | some y=>
    have:=hr y (dH e);have e2:(2:Nat) ^ 64=18446744073709551616:=abD;rw[e2];show y.toNat<_;omega
  have h2:2 ^ (h%64)|||2 ^ (h/64%64)<2 ^ 64:=by
   have:=RB (h%64) (h/64%64) (Ti _ abD) (Ti _ abD);have e2:(2:Nat) ^ 64=18446744073709551616:=abD;omega
  have h3:=Nat.or_lt_two_pow h1 h2;have e2:(2:Nat) ^ 64=18446744073709551616:=abD;generalize (ws.getD (h/64%ws.length) 0).toNat|||(2 ^ (h%64)|||2 ^ (h/64%64))=K at *;omega
def sF (ws:List Int) (hs:List Int):List Int:=hs.foldl (fun ws h=>markT ws h.toNat) ws
theorem Fh:∀(hs ws:List Int),(sF ws hs).length=ws.length
 | [],_=>rfl
 | h :: hs,ws=>(Fh hs (markT ws h.toNat)).trans (Ym ws _)
theorem Gu:∀(hs ws:List Int),(∀x∈ws,0<=x/\x<18446744073709551616)->∀x∈sF ws hs,0<=x/\x<18446744073709551616
 | [],_,h=>h
 | k :: hs,ws,h=>Gu hs (markT ws k.toNat) (QV h _)
theorem ab8 (ws hs:List Int) (h:Int):sF ws (hs++[h])=markT (sF ws hs) h.toNat:=by unfold sF;rw[List.foldl_append];rfl
def acK (w:World) (l:List Int) (e:Ending) (w':World):Prop:=∃r,e=.returned (.tuple #[.agg #[r,ah 6],ah 0])/\aX 119 jQ w.heap.size (fun _=>False) w' r l/\Below w w w'
theorem below_setRow {a:World} (h:Below B a w) (g:Nat) (cs:Array Value) (hg:B<=g):Below B a (w.setRow g cs):=
 ⟨h.os,h.tape,h.output,by simpa using h.size,fun k hk=>(cu w g k cs wP).trans (h.block k hk)⟩
theorem fT {P:Program} {fn:Func} {p u:Tmp} {ty:TypeId} (h:fn.results=#[.cell p ty,.tmp u]) (tmps:Array Value) (w:World) (g:Nat) (t:TypeId) (cs:Array Value) (fr:Nat × Nat) (d:TypeDesc)
  (hp:tmps.getD p undef=aQ g) (hg:w.heap[g]? =some (.cells cs t fr))
  (hu:P.underlying ty=some d) (hd:(match d with | .struct _ | .array _ _=>true | _=>false)=true) (hi:(P.info? ty).map (·.size)=some cs.size):
  (results fn tmps).run P w=.ok (.tuple #[.agg cs,tmps.getD u undef]) w:=by
 rw[results_cell_tmp h,hp];simp[asAddr,run_loadVar_row w g t ty cs fr d hg hu hd hi,Result.andThen]
structure zf (w0:World) (lb:Nat) (w:World) (r:Value) (l:List Int):Prop where
 ex:w.heap[lb]? =some (aB #[r,ah 6] 36)
 ey:w.heap[lb+1]? =some (aB #[au,ah 0] 36)
 own:aX 119 jQ (lb+2) (fun _=>False) w r l
 low:Below lb w0 w
section
variable {w0 w w' : World} {lb : Nat} {r : Value} {l : List Int}
theorem zf.lt (h:zf w0 lb w r l):lb+1<w.heap.size:=by
 rcases oG (lb+1) w.heap.size with h' | h'
 ·exact h'
 ·have:=h.ey;rw[Ku h']at this;cases this
theorem zf.dW (h:zf w0 lb w r l) (hb:Below w w w'):zf w0 lb w' r l:=by
 have:=h.lt;exact⟨(hb.block lb wP).trans h.ex,(hb.block (lb+1) h.lt).trans h.ey,h.own.below hb,h.low.trans (hb.mono wP)⟩
theorem zf.frozen {c:Nat} (h:zf w0 lb w (.slice (some ⟨g,0,none⟩) n c) l) (j:Nat):w.frozen? (ak g j)=false:=by
 obtain⟨xs,h1,_⟩:=h.own;rcases h1.2 with ⟨h0,_⟩ | ⟨g',cap,cur,hv,_,hh,_⟩
 ·cases h0
 ·cases hv;exact vV hh j
theorem zf.mark {c:Nat} (h:zf w0 lb w (.slice (some ⟨g,0,none⟩) n c) l) {q:Nat} {x:Int} (_:q<l.length) (hx:l[q]? =some x) (y:Nat):zf w0 lb (w.setCell ⟨g,q,none⟩ (.int .u64 (y:Int))) (.slice (some ⟨g,0,none⟩) n c) (l.set q (y:Int)):=by
 have hs:Step (fun b=>b≠g) w (w.setCell ⟨g,q,none⟩ (.int .u64 (y:Int))):=(Step.refl _ w).setCell (fun h=>h rfl) _;have hg:=(h.own.lt g rfl).1;refine⟨(hs.block lb wP).trans h.ex,(hs.block (lb+1) wP).trans h.ey,?_,h.low.setCell (by show lb<=g;omega) _⟩;have h1:=h.own.Qg RX (g:=g) rfl hx (j:=0) (u:=.int .u64 (y:Int)) (x':=(y:Int)) abD rfl trivial
 simpa [jQ] using h1
end
theorem aiY (w:World) (u hv:Value) (ws hs:List Int) (hu:LB jQ (·<w.heap.size) w u ws) (hp:rq ws.length=true) (hr:∀x∈ws,0<=x/\x<18446744073709551616) (hh:LB yX (·<w.heap.size) w hv hs) (hhr:∀x∈hs,0<=x/\x<4294967296) (hl:hs.length<=1000000):
  Calls asq 111 #[.agg #[u,ah 6],hv] w (acK w (sF ws hs)):=by
 obtain⟨ua,ub,uo,uc,rfl,EH,huc,wN⟩:=hu.at;obtain⟨ha_,hb,ho,hc,rfl,hhm,hhc,aiZ⟩:=hh.at;have hn:=(uH _).1 hp;have hn1:1<=ws.length/\ws.length<=64:=wP;have aqO:=wN.addr;have alU:=aiZ.addr;have aqP:=aj wN;have aoD:=aj aiZ;have Hu:=aj hu;have Hhr:=aj hhr;have Hr:=aj hr;have Hp:=aj hp;obtain ⟨n,hnn⟩:=aiG ws.length;have Hn:=aj hnn;obtain ⟨m,hm⟩:=aiG hs.length;have Hm:=aj hm;have yA:Hid (pM ws 6=0):=aj (Jd hp abD abD);have HR:=aj (fun w':World=>E8 w' ws ua uc 6 wP);rw[yA.af,<-hnn]at HR;rw[<-hnn]at EH huc hn1 ⊢;rw[<-hm]at hhm hhc alU hl ⊢;have hnp:=hn;rw[<-hnn]at hnp;clear hu hh wN aiZ hhr hr hp hn hnn hm;have HX0:=aj (ah2 w (aB #[.slice ua n uc,ah 6] 36));have HX:=aj ((dX (w.alloc (aB #[.slice ua n uc,ah 6] 36)) (aB #[au,ah 0] 36) (r:=w.heap.size) arG).trans HX0.af)
 have HY:Hid (((w.alloc (aB #[.slice ua n uc,ah 6] 36)).alloc (aB #[au,ah 0] 36)).heap[w.heap.size+1]? =some (aB #[au,ah 0] 36)):=aj (by
  have:=ah2 (w.alloc (aB #[.slice ua n uc,ah 6] 36)) (aB #[au,ah 0] 36)
  rwa [lW]at this)
 have HB:=aj (((PZ w.heap.size w).alloc (oD _) (aB #[.slice ua n uc,ah 6] 36)).alloc arG (aB #[au,ah 0] 36));have hz:((w.alloc (aB #[.slice ua n uc,ah 6] 36)).alloc (aB #[au,ah 0] 36)).heap.size=w.heap.size+2:=arG;have Hz:=aj hz;have c01:((w.alloc (aB #[.slice ua n uc,ah 6] 36)).alloc (aB #[au,ah 0] 36)).cell? (ak w 1)=some (ah 6):=aL HX.af rfl;clear hz HX0;go_enter Tryz.func111,Tryz.ntmps111;go_upto_region 1 with fail
 have c00:((w.alloc (aB #[.slice ua n uc,ah 6] 36)).alloc (aB #[au,ah 0] 36)).cell? (ak w 0)=some (.slice ua n uc):=aL HX.af rfl;generalize (w.alloc (aB #[.slice ua n uc,ah 6] 36)).alloc (aB #[au,ah 0] 36)=w1 at *;generalize hws:w.heap.size=lb at *;have JV:=aj hws;clear hws;go_wp2_with fail;refine(HR.af _).mono ?_;rintro e w2 ⟨rfl,hb2⟩;have hz1:=Hz.af;have hz2:=hb2.size;have gI:=aj ((hb2.block lb wP).trans HX.af);have JX:=aj ((hb2.block (lb+1) wP).trans HY.af);have HB2:=aj (HB.af.trans (hb2.mono wP));clear hb2 c00 c01 HX HY HB;have d0:w2.cell? (ak lb 0)=some (.slice ua n uc):=aL gI.af rfl;have f0:w2.frozen? (ak lb 0)=false:=vV gI.af 0;have HU2:=aj (Hu.af.below HB2.af);rw[<-Hn.af]at HU2;have HN:=aj (aX.nil 119 jQ (lb+2) (fun _=>False) w2);go_wp2_with (at_builtin;go_loud (refine oH (v:=au) (l:=[]) Km 34 _ 8 Tryz.underlying34 Fg rfl rfl (.const (au)) (.tmp 14) rfl rfl HN.af (fun b hb=>hb.elim) (.slice ua n uc) ws rfl HU2.af (by rw[<-Hn.af];simp only[aR];omega) (by rw[<-Hn.af];simp only[aR];omega) wP ?_));intro r3 w3 hown3 oJ ai0;obtain⟨g,rc,hrf,hfz⟩:=hown3.IB (by rw[<-Hn.af];omega);rw[<-Hn.af]at hrf;subst hrf;have hg:=hown3.lt g rfl;have lF:=aj ((oJ.block lb ⟨wP,by simp[Value.ownBlock]⟩).trans gI.af);have HY3:=aj ((oJ.block (lb+1) ⟨wP,by simp[Value.ownBlock]⟩).trans JX.af);have e0:w3.cell? (ak lb 0)=some (.slice ua n uc):=aL lF.af rfl;have f3:w3.frozen? (ak lb 0)=false:=vV lF.af 0;have Ai:Step (fun b=>b≠lb) w3 (w3.setCell ⟨lb,0,none⟩ (.slice (some ⟨g,0,none⟩) n rc)):=(Step.refl _ w3).setCell (fun h=>h rfl) _
 have qH:Hid (zf w lb (w3.setCell ⟨lb,0,none⟩ (.slice (some ⟨g,0,none⟩) n rc)) (.slice (some ⟨g,0,none⟩) n rc) ws):=aj ⟨eu lF.af 0 _,(Ai.block (lb+1) wP).trans HY3.af,hown3.dS vN (fun b hb=>Ai.block b (by have:=(hown3.lt b hb).1;omega)),
  (HB2.af.trans ((oJ.imp (S':=(·<lb)) (fun b hb=>⟨by have hb:b<lb:=hb;omega,by simp[Value.ownBlock]⟩)).below)).setCell (oD _) _⟩
 clear hown3 oJ ai0 hfz gI JX HB2 lF HY3 d0 f0 HU2 HN Ai hz2;go_upto_region 5 with fail
 clear e0 f3;generalize w3.setCell ⟨lb,0,none⟩ (.slice (some ⟨g,0,none⟩) n rc)=w4 at *;go_loopw [19] (fun i wr=>∃k:Nat,i=ah k/\k<=m/\zf w lb wr (.slice (some ⟨g,0,none⟩) n rc) (sF ws (hs.take k))) (fun i _=>m-(intOf i).toNat);exact⟨0,rfl,alg _,qH.af⟩;obtain⟨k,rfl,hk,hS⟩:=hrel;have HS:=aj hS;clear hS;have Dm:=Fh (hs.take k) ws;by_cases hlt:k<m
 ·obtain⟨h0,hh0⟩:∃h0,hs[k]? =some h0:=⟨_,gP (by rw[<-Hm.af];exact hlt)⟩
  have hr0:=Hhr.af h0 (dH hh0);obtain⟨h,rfl⟩:∃h:Nat,h0=h:=⟨h0.toNat,wP⟩;obtain rfl:=alU wP;have g0:=(aoD.af.below HS.af.low).alT k _ hh0;have lN:Hid (sF ws (hs.take (k+1))=markT (sF ws (hs.take k)) h):=aj (by rw[jR hh0,ab8,Int.toNat_natCast]);have hrg:=Gu (hs.take k) ws Hr.af;obtain ⟨cur,alV⟩:=aiG (sF ws (hs.take k));rw[<-alV]at HS lN hrg Dm;have hq:h/64%n<n:=Ti _ wP;obtain⟨x0,hx0⟩:∃x0,cur[h/64%n]? =some x0:=⟨_,gP (by have:=Hn.af;omega)⟩;have AA:=hrg x0 (dH hx0);obtain⟨x,rfl⟩:∃x:Nat,x0=x:=⟨x0.toNat,wP⟩
  have EL:Hid (markT cur h=cur.set (h/64%n) (((x|||(2 ^ (h%64)|||2 ^ (h/64%64)):Nat):Int))):=aj (by
   unfold markT;rw[show cur.length=n by have:=Hn.af;omega,tK,hx0];rfl)
  have k1:h%64<64:=Ti _ abD;have k2:h/64%64<64:=Ti _ abD;have hKl:=RB (h%64) (h/64%64) k1 k2;have HW:=aj (Z4 h n wP (by have:=Hp.af;rwa [<-Hn.af]at this));have HBt:=aj (Tq (h%64) (h/64%64) k1 k2);have HMs:=aj (fun w=>Tp w (some ⟨g,0,none⟩) n rc 6 h wP hn1.1 hn1.2 abD abD);rw[show (2:Nat) ^ (6:Int).toNat=64 from rfl]at HMs;rw[HW.af,HBt.af]at HMs;obtain ⟨K,hK⟩:=aiG (2 ^ (h%64)|||2 ^ (h/64%64));rw[<-hK]at EL HMs hKl;obtain⟨q,hq'⟩:∃q,q=h/64%n:=⟨_,rfl⟩;rw[<-hq']at EL HMs hq hx0;have Hor:=aj (u64_or_nat x K wP hKl);have hk2:(k:Int)<(m:Int):=wP;have e0:wr.cell? (ak lb 0)=some (.slice (some ⟨g,0,none⟩) n rc):=aL HS.af.ex rfl;have e1:wr.cell? (ak lb 1)=some (ah 6):=aL HS.af.ex rfl;have Zx:=aj hx0;have Hlq:Hid (q<cur.length):=aj (by have:=Hn.af;omega);clear hh0 alV hK hq' HW HBt hrg k1 k2 hx0 Dm;go_wp2_with fail;refine(HMs.af _).mono ?_;rintro e w5 ⟨rfl,hb5⟩;have uZ:=aj (HS.af.dW hb5);clear hb5 e0 e1 g0 HMs HS;have oK:=aj (uZ.af.dW ((PZ _ w5).alloc (oD _) (aB #[ah (q:Int),.int .u64 (K:Int)] 220)));have sD:=aj (ah2 w5 (aB #[ah (q:Int),.int .u64 (K:Int)] 220));go_upto_region 8 with fail
  have JN:w5.heap.size<(w5.alloc (aB #[ah (q:Int),.int .u64 (K:Int)] 220)):=arG;generalize w5.alloc (aB #[ah (q:Int),.int .u64 (K:Int)] 220)=w6 at *;generalize w5.heap.size=mb at *;have e0:w6.cell? (ak lb 0)=some (.slice (some ⟨g,0,none⟩) n rc):=aL oK.af.ex rfl;have m0:w6.cell? (ak mb 0)=some (ah (q:Int)):=aL sD.af rfl;have m1:w6.cell? (ak mb 1)=some (.int .u64 (K:Int)):=aL sD.af rfl
  have gx:w6.cell? (ak g q)=some (.int .u64 (x:Int)):=by
   have h:=(oK.af.own.lb.acD rfl (by have:=Hlq.af;omega)).YY q _ Zx.af
   rwa [bE]at h
  have gf:=oK.af.frozen q;refine bA 9 TA TA ?_;simp only[ji];refine P8 (S:=fun w':World=>w'.cell? (ak lb 0)=some (.slice (some ⟨g,0,none⟩) n rc)/\w'.cell? (ak mb 0)=some (ah (q:Int))/\w'.cell? (ak mb 1)=some (.int .u64 (K:Int))/\w'.cell? (ak g q)=some (.int .u64 (x:Int))) _ _ _ _ ?_;have ay:(fun w':World=>w'.cell? (ak lb 0)=some (.slice (some ⟨g,0,none⟩) n rc)/\w'.cell? (ak mb 0)=some (ah (q:Int))/\w'.cell? (ak mb 1)=some (.int .u64 (K:Int))/\w'.cell? (ak g q)=some (.int .u64 (x:Int))) (World.drew w6):=⟨e0,m0,m1,gx⟩;refine asr ?_;have yF:=aj (oK.af.dW (PZ _ w6).drew);have gxd:(World.drew w6).cell? (ak g q)=some (.int .u64 (x:Int)):=gx;have gfd:(World.drew w6).frozen? (ak g q)=false:=gf;clear e0 m0 m1 gx gf;generalize (World.drew w6)=wd at yF ay gxd gfd ⊢;have hq2:(q:Int)<(n:Int):=wP;have hor:=Hor.af;refine arO [0,1,2,3,4,5,6,7,8] ay ?_;simp only[ast]
  iterate 9 (refine arP ?_;try simp only[bP])
  refine E5 TA ?_ _;simp only[dU];clear ay hor;have HSe:=aj (yF.af.mark Hlq.af Zx.af (x|||K));rw[<-EL.af,<-lN.af]at HSe;go_wp2;go_roundw;exact⟨k+1,arH,wP,HSe.af⟩;simp[intOf];omega
 ·have HE:Hid (zf w lb wr (.slice (some ⟨g,0,none⟩) n rc) (sF ws hs)):=aj (by
   have h:=HS.af
   rwa [dh (by have:=Hm.af;omega)]at h)
  have HEy:=aj HE.af.ey;have e0:wr.cell? (ak lb 0)=some (.slice (some ⟨g,0,none⟩) n rc):=aL HS.af.ex rfl;have e1:wr.cell? (ak lb 1)=some (ah 6):=aL HS.af.ex rfl;clear Dm;go_wp2_with (refine Bv rfl 36 (.tmp 4) (.tmp 37) rfl (lb+1) (#[.slice (some ⟨g,0,none⟩) n rc,.int .i64 6]) rfl rfl _ _ HEy.af TA rfl (by simp[Value.oneCell']) ?_);go_wp2_with fail;have FR:=aj (TL _ (lb+1) _ (#[.slice (some ⟨g,0,none⟩) n rc,ah 6]) _ _ HEy.af);refine qE (fT rfl _ _ (lb+1) _ _ _ _ rfl FR.af Tryz.underlying36 rfl TA) rfl ?_;exact⟨_,rfl,by have h:=HE.af.own;exact(h.dS vN (fun b hb=>cu _ _ b _ (by have:=(h.lt b hb).1;omega))).mono (by have:=JV.af;omega),by rw[JV.af];exact below_setRow HE.af.low _ _ wP⟩
theorem replicate_zero (n:Nat):(madeCells (Value.int .u64 0).cells (n*1)).toList=(List.replicate n (0:Int)).map (fun x=>Value.int .u64 x):=by
 have e:(Value.int .u64 0).cells=#[.int .u64 0]:=rfl;rw[Uh,List.map_replicate];apply DI;intro i;simp only[madeCells,e];by_cases h:i<n
 ·simp[h,Nat.mod_one]
 ·simp[h]
theorem aht (w:World) (n:Nat) (hv:Value) (hs:List Int) (hp:rq n=true) (hh:LB yX (·<w.heap.size) w hv hs) (hhr:∀x∈hs,0<=x/\x<4294967296) (hl:hs.length<=1000000):
  Calls asq 54 #[ah (n:Int),ah 6,hv] w (acK w (sF (List.replicate n 0) hs)):=by
 have hn:=(uH _).1 hp;have hn1:1<=n/\n<=64:=wP;obtain⟨ha_,hb,ho,hc,rfl,hhm,hhc,-⟩:=hh.at;have Hh:=aj hh;have Hhr:=aj hhr;have Hp:=aj hp;obtain ⟨m,hm⟩:=aiG hs.length;have Hm:=aj hm;rw[<-hm]at hhm hhc ⊢;have yA:Hid (pM (List.replicate n 0) 6=0):=aj (Jd (by simpa using hp) abD abD);have HR:=aj (fun (w':World) (a:Option Addr) (c:Nat)=>E8 w' (List.replicate n 0) a c 6 (by simp;omega));rw[yA.af,u6]at HR;obtain⟨i0,hi,hz0,hz1,hz2⟩:=dM Fg;have HX0:=aj (ah2 w (aB #[au,ah 0] 36));have HX:=aj ((dX (w.alloc (aB #[au,ah 0] 36)) (aB #[au,ah 6] 36) (r:=w.heap.size) arG).trans HX0.af)
 have HY:Hid (((w.alloc (aB #[au,ah 0] 36)).alloc (aB #[au,ah 6] 36)).heap[w.heap.size+1]? =some (aB #[au,ah 6] 36)):=aj (by
  have:=ah2 (w.alloc (aB #[au,ah 0] 36)) (aB #[au,ah 6] 36)
  rwa [lW]at this)
 have HB:=aj (((PZ w.heap.size w).alloc (oD _) (aB #[au,ah 0] 36)).alloc arG (aB #[au,ah 6] 36));have hz:((w.alloc (aB #[au,ah 0] 36)).alloc (aB #[au,ah 6] 36)).heap.size=w.heap.size+2:=arG;have Hz:=aj hz;have hn2:(1:Int)<=(n:Int):=wP;have hn3:(n:Int)<=64:=wP;clear hz HX0 hn hh hhr hp hm;go_enter Tryz.func54,Tryz.ntmps54;go_upto_region 2 with fail
 generalize (w.alloc (aB #[au,ah 0] 36)).alloc (aB #[au,ah 6] 36)=w1 at *;generalize hws:w.heap.size=lb at *;have JV:=aj hws;clear hws;have hz1':=Hz.af;go_wp2_with (at_make;refine wpList_make_full _ rfl _ _ 34 rfl w1.heap.size 119 i0 (.int .u64 0) 1 Tryz.underlying34 hi hz0 hz1 .i64 .i64 _ _ n rfl rfl rfl rfl (by rw[hz2];omega) (by unfold maxLen;omega) (oD _) ?_;intro w2 hrow2 hg2;have JX:=aj ((hg2.block (lb+1) wP arG).trans HY.af);have f1:w2.frozen? (ak (lb+1) 0)=false:=vV JX.af 0;have e1:w2.cell? (ak (lb+1) 0)=some (au):=(aL JX.af rfl);have e2:w2.cell? (ak (lb+1) 1)=some (ah 6):=(aL JX.af rfl));rw[replicate_zero]at hrow2;have ho2:=aX.qJ (e:=119) (B:=w1.heap.size) (E:=fun _=>False) (l:=List.replicate n 0) Km (by rw[u6];exact hrow2) (fun _ _ h=>h);have nV:=aj ho2;have hlt2:=(AY hrow2 _ rfl).2;have gI:=aj ((hg2.block lb wP arG).trans HX.af);have HB2:=aj (HB.af.grown hg2 wP (fun j hj=>by cases hj));clear hrow2 hg2 ho2 HX HY HB hi hz0 hz1;rw[hz1']at nV hlt2;change lb+2<w2.heap.size at hlt2;have hst:Step (fun b=>b≠lb+1) w2 (w2.setCell ⟨lb+1,0,none⟩ (.slice (some ⟨lb+2,0,none⟩) n n)):=(Step.refl _ w2).setCell (fun h=>h rfl) _;have lF:=aj ((hst.block lb wP).trans gI.af);have HY3:=aj (eu JX.af 0 (.slice (some ⟨lb+2,0,none⟩) n n));have oo:=aj (nV.af.dS vN (fun b hb=>hst.block b (by have:=(nV.af.lt b hb).1;omega)));have HB3:=aj (HB2.af.setCell (p:=(ak (lb+1) 0)) (by show lb<=lb+1;omega) (.slice (some ⟨lb+2,0,none⟩) n n));clear hst gI JX nV HB2;clear e1 e2 f1;refine(HR.af _ (some ⟨lb+2,0,none⟩) n).mono ?_;rintro e w4 ⟨rfl,hb4⟩;have Co:=hb4.size;have hzs:(w2.setCell ⟨lb+1,0,none⟩ (.slice (some ⟨lb+2,0,none⟩) n n)).heap.size=w2.heap.size:=arG;have xU:=aj ((hb4.block lb wP).trans lF.af);have HY4:=aj ((hb4.block (lb+1) wP).trans HY3.af);have BV:=aj (oo.af.below hb4);have ui:=aj (HB3.af.trans (hb4.mono wP));clear hb4 lF HY3 oo HB3;have e0:w4.cell? (ak (lb+1) 0)=some (.slice (some ⟨lb+2,0,none⟩) n n):=aL HY4.af rfl;have e1:w4.cell? (ak (lb+1) 1)=some (ah 6):=aL HY4.af rfl;have HLW:Hid (LB jQ (·<w4.heap.size) w4 (.slice (some ⟨lb+2,0,none⟩) n n) (List.replicate n 0)):=aj (BV.af.lb.imp fun b hb=>hb.1);have HLH:Hid (LB yX (·<w4.heap.size) w4 (.slice ha_ m hc) hs):=aj (by rw[Hm.af];exact(Hh.af.below ui.af).mono wP);have HAdd:=aj (aiY w4 _ _ _ hs HLW.af (by rw[u6];exact Hp.af) (fun x hx=>by rw[(List.mem_replicate.1 hx).2];decide) HLH.af Hhr.af hl);have aqQ:lb+2<w4.heap.size:=wP;clear hzs;go_wp2_with fail;refine HAdd.af.mono ?_;rintro e w5 ⟨r,rfl,ho5,hb5⟩;have sV:=aj ho5;have kF:=aj ((hb5.block lb wP).trans xU.af);have mQ:=aj (ui.af.trans (hb5.mono wP));obtain⟨ra,rc,hrf⟩:=ho5.form;rw[Fh,u6]at hrf;subst hrf;clear ho5 hb5 e0 e1 HAdd;go_wp2_with (refine Bv rfl 36 (.tmp 6) (.tmp 27) rfl lb (#[.slice ra n rc,.int .i64 6]) rfl rfl _ _ kF.af TA rfl (by simp[Value.oneCell']) ?_);go_wp2_with fail;have FR:=aj (TL _ lb _ (#[.slice ra n rc,ah 6]) _ _ kF.af);refine qE (fT rfl _ _ lb _ _ _ _ rfl FR.af Tryz.underlying36 rfl TA) rfl ?_;exact⟨_,rfl,by have h:=sV.af;exact(h.dS vN (fun b hb=>cu _ _ b _ (by have:=(h.lt b hb).1;omega))).mono (by rw[JV.af];omega),by rw[JV.af];exact below_setRow mQ.af _ _ (oD _)⟩
structure wO (B gb tb:Nat) (wv:Value) (w:World) (us:List Value) (ls:List (List Int)):Prop where
 ex:w.heap[gb]? =some (.cells us.toArray 41 (0,0))
 tab:w.heap[tb]? =some (aB #[.slice (some ⟨gb,0,none⟩) us.length us.length,wv,ah 6] 38)
 len:us.length=ls.length
 Zc:B<=gb
 adZ:B<=tb
 ne:gb≠tb
 own:∀(i:Nat) (u:Value) (l:List Int),us[i]? =some u->ls[i]? =some l->aX 3 dJ B (fun b=>b=gb∨b=tb) w u l
 apart:∀(i j:Nat) (u v:Value) (g:Nat),i≠j->us[i]? =some u->us[j]? =some v->u.ownBlock=some g->v.ownBlock≠some g
section
variable {B gb tb : Nat} {wv : Value} {w w' : World} {us : List Value} {ls : List (List Int)}
theorem wO.glt (h:wO B gb tb wv w us ls):gb<w:=by
 rcases oG gb w.heap.size with h' | h'
 ·exact h'
 ·have:=h.ex;rw[Ku h']at this;cases this
theorem wO.tlt (h:wO B gb tb wv w us ls):tb<w:=by
 rcases oG tb w.heap.size with h' | h'
 ·exact h'
 ·have:=h.tab;rw[Ku h']at this;cases this
theorem wO.dW (h:wO B gb tb wv w us ls) (hb:Below w w w'):wO B gb tb wv w' us ls:=
 ⟨(hb.block gb h.glt).trans h.ex,(hb.block tb h.tlt).trans h.tab,h.len,h.Zc,h.adZ,h.ne,fun i u l hu hl=>(h.own i u l hu hl).below hb,h.apart⟩
theorem wO.start {many:Nat} (hg:w.heap[gb]? =some (.cells (List.replicate many (Value.slice none 0 0)).toArray 41 (0,0))) (ht:w.heap[tb]? =some (aB #[.slice (some ⟨gb,0,none⟩) many many,wv,ah 6] 38)) (h1:B<=gb) (h2:B<=tb) (h3:gb≠tb):
  wO B gb tb wv w (List.replicate many (Value.slice none 0 0)) (List.replicate many []):=by
 refine⟨hg,by rw[u6];exact ht,arG,h1,h2,h3,fun i u l hu hl=> ?_,fun i j u v g _ hu _ hg=> ?_⟩
 ·obtain rfl:=mR (dH hu)
  obtain rfl:=mR (dH hl);exact aX.nil _ _ _ _ _
 ·obtain rfl:=mR (dH hu)
  simp[Value.ownBlock]at hg
theorem wO.append (h:wO B gb tb wv w us ls) {i:Nat} {u u':Value} {l:List Int} {y:Int} (hu:us[i]? =some u) (hl:ls[i]? =some l) {E:Nat->Prop} (hown:aX 3 dJ B E w' u' (l++[y])) (hst:Step (fun b=>b<w/\u.ownBlock≠some b) w w') (hnew:∀b,u'.ownBlock=some b->u.ownBlock=some b∨w.heap.size<=b):
  wO B gb tb wv (w'.setCell ⟨gb,i,none⟩ u') (us.set i u') (ls.set i (l++[y])):=by
 have hoi:=h.own i u l hu hl;have hgu:u.ownBlock≠some gb:=fun e=>hoi.notE gb e (aH rfl)
 have htu:u.ownBlock≠some tb:=fun e=>hoi.notE tb e (aZ rfl)
 have hgl:=h.glt;have htl:=h.tlt;have hg':=(hst.block gb ⟨hgl,hgu⟩).trans h.ex;have hs2:Step (fun b=>b≠gb) w' (w'.setCell ⟨gb,i,none⟩ u'):=(Step.refl _ w').setCell (fun h=>h rfl) _
 have alW:u'.ownBlock≠some gb:=fun e=>by
  rcases hnew gb e with h1 | h1
  ·exact hgu h1
  ·omega
 have aoE:u'.ownBlock≠some tb:=fun e=>by
  rcases hnew tb e with h1 | h1
  ·exact htu h1
  ·omega
 have hi:=(Sm.1 hu).1;refine⟨eu hg' i u',?_,by simp[h.len],h.Zc,h.adZ,h.ne,fun j v m hv hm=> ?_,fun j k v z g hjk hv hz hg=> ?_⟩
 ·rw[zI]
  exact(hs2.block tb (fun e=>h.ne e.symm)).trans ((hst.block tb ⟨htl,htu⟩).trans h.tab)
 ·by_cases e:i=j
  ·subst e
   rw[tZ hi]at hv;rw[tZ (by rw[<-h.len];exact hi)]at hm
   cases hv;cases hm
   refine(hown.fJ dN (fun g hg hE=> ?_)).dS dN (fun g hg=>hs2.block g (fun e=>alW (e ▸ hg)));rcases hE with rfl | rfl
   ·exact alW hg
   ·exact aoE hg
  ·rw[Gb e]at hv hm
   have hoj:=h.own j v m hv hm;refine hoj.dS dN (fun g hg=> ?_);have hgg:g≠gb:=fun e=>hoj.notE g hg (aH e)
   exact(hs2.block g hgg).trans (hst.block g ⟨(hoj.lt g hg).2,h.apart j i v u g (fun e'=>e e'.symm) hv hu hg⟩)
 ·by_cases e1:i=j
  ·subst e1
   rw[tZ hi]at hv;rw[Gb hjk]at hz
   cases hv
   obtain⟨m,hm⟩:∃m,ls[k]? =some m:=⟨_,gP (by rw[<-h.len];exact(Sm.1 hz).1)⟩;rcases hnew g hg with h1 | h1
   ·exact h.apart i k u z g hjk hu hz h1
   ·intro e;have:=((h.own k z m hz hm).lt g e).2;omega
  ·rw[Gb e1]at hv
   obtain⟨m,hm⟩:∃m,ls[j]? =some m:=⟨_,gP (by rw[<-h.len];exact(Sm.1 hv).1)⟩;by_cases e2:i=k
   ·subst e2
    rw[tZ hi]at hz
    cases hz
    intro e;rcases hnew g e with h1 | h1
    ·exact h.apart j i v u g hjk hv hu hg h1
    ·have:=((h.own j v m hv hm).lt g hg).2;omega
   ·rw[Gb e2]at hz
    exact h.apart j k v z g hjk hv hz hg
theorem wO.lb (h:wO B gb tb wv w us ls) (hl:us.length<=9223372036854775807):LB tJ (fun b=>B<=b/\b<w) w (.slice (some ⟨gb,0,none⟩) us.length us.length) ls:=by
 refine⟨some (ak gb 0),gb,0,us.length,by rw[h.len],by rw[<-h.len];exact hl,fun _=>rfl,⟨by rw[h.len];exact oD _,fun h=>by cases h⟩,fun _=>⟨h.Zc,h.glt⟩,fun i l hi=> ?_⟩;obtain⟨u,hu⟩:∃u,us[i]? =some u:=⟨_,gP (by rw[h.len];exact(Sm.1 hi).1)⟩;have ho:=h.own i u l hu hi;refine⟨[u],⟨u,rfl,?_⟩,fun j z hz=> ?_⟩
 ·obtain⟨a,c,hf⟩:=ho.form
  have hlb:=ho.lb;obtain⟨a',b',off',cap',hv,hm,Ui,hcap,hS,hc⟩:=hlb;refine⟨a',b',off',cap',hv,hm,Ui,hcap,fun hne=> ?_,fun i x hx=> ?_⟩
  ·have h1:=hS hne
   have hab:=Ui hne;have:u.ownBlock=some b':=by rw[hv,hab];rfl
   exact⟨(ho.lt b' this).1,h1.1⟩
  ·obtain⟨row,r1,r2⟩:=hc i x hx
   exact⟨row,r1,r2⟩
 ·have h0:j=0:=by
   rcases j with _ | j
   ·rfl
   ·simp at hz
  subst h0;simp only[yQ,Option.some.injEq]at hz;subst hz;rw[aV h.ex];simp[tJ,hu]
end
def wQ (av:List bF) (many:Nat) (ks:List Nat):List (List Int):=(List.range many).map fun b=>(ks.filter fun k=>decide (jY (kX av k).arT many=b)).map fun(k:Nat)=>(k:Int)
theorem ahu (av:List bF) (many:Nat):wQ av many []=List.replicate many []:=by
 unfold wQ;simp only[List.filter_nil,aaT];apply DI;intro i;by_cases h:i<many<;>simp[h]
theorem O0 (av:List bF) (many:Nat) (ks:List Nat) {b:Nat} (hb:b<many):(wQ av many ks)[b]? =some ((ks.filter fun k=>decide (jY (kX av k).arT many=b)).map fun(k:Nat)=>(k:Int)):=by
 unfold wQ;rw[vW,List.getElem?_range hb];rfl
theorem ad1 (av:List bF) (many:Nat) (ks:List Nat) (k:Nat):wQ av many (ks++[k])=(wQ av many ks).set (jY (kX av k).arT many) (((ks.filter fun j=>decide (jY (kX av j).arT many=jY (kX av k).arT many)).map fun(k:Nat)=>(k:Int))++[(k:Int)]):=by
 apply DI;intro i;have hlen:(wQ av many ks).length=many:=by simp[wQ]
 by_cases hi:i<many
 ·rw[O0 _ _ _ hi,OY,hlen,O0 _ _ _ hi,List.filter_append]
  by_cases e:jY (kX av k).arT many=i
  ·subst e
   simp[hi]
  ·simp[e]
 ·rw[aj5 (by simp[wQ];omega),aj5 (by simp[wQ];omega)]
theorem ab9 (av:List bF) (many:Nat):jN av many=wQ av many (bQ av):=rfl
theorem Uj (av:List bF):kR av=sF (List.replicate (qB (bQ av).length) 0) (oW av av.length):=by
 unfold kR sF oW;rw[List.foldl_map,List.foldl_map]
 rfl
theorem ahE:(Tryz.prog.info? 41).map (fun i=>(i.zero,i.size,i.bytes))=some (some (au),1,24):=TA
theorem Pk (h:w.ownsRow B 41 1 (.slice (some ⟨g,0,none⟩) n n) n (madeCells (Value.slice none 0 0).cells (n*1)).toList):w.heap[g]? =some (.cells (List.replicate n (Value.slice none 0 0)).toArray 41 (0,0)):=by
 rcases h.2 with ⟨h0,_⟩ | ⟨g',cap,cur,hv,_,hh,_,_,hs,ht⟩
 ·cases h0
 ·cases hv
  rw[hh];have e:(Value.slice none 0 0).cells=#[au]:=rfl
  have h1:cur.toList=List.replicate n (Value.slice none 0 0):=by
   rw[dh (by simp[hs])]at ht;rw[ht,Uh];apply DI;intro i;simp only[madeCells,e];by_cases h:i<n
   ·simp[h,Nat.mod_one]
   ·simp[h]
  have:cur=(List.replicate n (Value.slice none 0 0)).toArray:=by rw[<-h1]
  rw[this]
def ahF (w:World) (av:List bF) (e:Ending) (w':World):Prop:=
 ∃bv wv,e=.returned (.tuple #[.agg #[bv,wv,ah 6],ah 0])/\LB tJ (fun b=>w.heap.size<=b/\b<w') w' bv (jN av (jy (bQ av).length))/\LB jQ (fun b=>w.heap.size<=b/\b<w') w' wv (kR av)/\Below w w w'
theorem ahG (w:World) (sv:Value) (av:List bF) (hs:LB gq (·<w.heap.size) w sv av) (hl:av.length<=512):
  Calls asq 19 #[sv] w (ahF w av):=by
 obtain⟨sa,sb,so,sc,rfl,hsm,hsc,rA⟩:=hs.at;have abd:=rA.addr;have CB:=aj rA;have Hs:=aj hs;have Hl:=aj hl;obtain ⟨n,hn⟩:=aiG av.length;have Hn:=aj hn;rw[<-hn]at hsm hsc abd hl ⊢;have HX0:=aj (ah2 w (aB #[au,au,ah 0] 38));have HB0:=aj ((PZ w.heap.size w).alloc (oD _) (aB #[au,au,ah 0] 38));have hz0:w.heap.size<(w.alloc (aB #[au,au,ah 0] 38)):=arG;have hn2:(n:Int)<=512:=wP;clear hs rA hn;go_enter Tryz.func19,Tryz.ntmps19;go_wp2_with fail;generalize w.alloc (aB #[au,au,ah 0] 38)=w1 at *;generalize hws:w.heap.size=rb at *;have Hrb:=aj hws;clear hws;have ami:=aj ((Hs.af.below HB0.af).mono (qx hz0));rw[<-Hn.af]at ami;refine(Qw w1 _ av ami.af Hl.af).mono ?_;rintro e w2 ⟨ra,rl,rfl,ho1,ho2,hb2⟩;obtain⟨aa,ac,haf⟩:=ho1.form;obtain⟨la,lc,hlf⟩:=ho2.form;obtain ⟨m,hm⟩:=aiG ((bQ av).length);have e1:(oI (bQ av)).length=m:=by rw[hm];simp[oI]
 have e2:(oW av av.length).length=m:=by rw[hm];simp[oW,bQ]
 rw[e1]at haf;rw[e2]at hlf;subst haf hlf;have Hm:=aj hm;have hm2:m<=512:=by have:=FE av av.length;rw[hm];unfold bQ;have:=Hl.af;omega
 have HA2:=aj ho1;have HL2:=aj ho2;have HB2:=aj (HB0.af.trans (hb2.mono (qx hz0)));have gI:=aj ((hb2.block rb hz0).trans HX0.af);have hz2:=hb2.size;have HLK:Hid (LB yX (·<w2.heap.size) w2 (.slice la m lc) (oW av av.length)):=aj (ho2.lb.imp fun b hb=>hb.1)
 have HHr:Hid (∀x∈oW av av.length,0<=x/\x<4294967296):=aj (fun x hx=>by
  unfold oW at hx;obtain⟨k,_,rfl⟩:=List.mem_map.1 hx;exact uG _)
 have EL:=aj (aht w2 (qB m) (.slice la m lc) _ (ahq m) HLK.af HHr.af (by rw[e2];omega));have HFT:Hid (sF (List.replicate (qB m) 0) (oW av av.length)=kR av):=aj (by rw[Uj,hm]);rw[HFT.af]at EL;have TV:Hid ((kR av).length=qB m):=aj (by rw[<-HFT.af,Fh,u6]);clear ho1 ho2 hb2 e1 e2 hm;go_wp2_with fail;refine(ahr _ m wP).mono ?_;rintro e _ ⟨rfl,rfl⟩;rename World=>w2
 go_wp2_with fail;refine EL.af.mono ?_;rintro e w3 ⟨wv,rfl,ho3,hb3⟩;obtain⟨gL,jq,hwf⟩:=ho3.form;rw[TV.af]at hwf;obtain ⟨wn,hwn⟩:=aiG (qB m);rw[<-hwn]at hwf;subst hwf;have HW3:=aj ho3;have HA3:=aj (HA2.af.below hb3);have HB3:=aj (HB2.af.trans (hb3.mono wP));have lF:=aj ((hb3.block rb wP).trans gI.af);have hz3:=hb3.size;clear ho3 hb3 hwn EL HLK HHr HL2;go_upto_region 5 with fail
 have HW4:=aj (HW3.af.alloc (aB #[.slice gL wn jq,ah 6] 36));have JR:=aj (HA3.af.alloc (aB #[.slice gL wn jq,ah 6] 36));have ui:=aj (HB3.af.alloc wP (aB #[.slice gL wn jq,ah 6] 36));have xU:=aj ((dX w3 (aB #[.slice gL wn jq,ah 6] 36) (r:=rb) wP).trans lF.af);have FU:=aj (ah2 w3 (aB #[.slice gL wn jq,ah 6] 36));have Co:w3.heap.size<(w3.alloc (aB #[.slice gL wn jq,ah 6] 36)):=arG;generalize w3.alloc (aB #[.slice gL wn jq,ah 6] 36)=w4 at *;generalize w3.heap.size=fb at *;obtain ⟨many,Bu⟩:=aiG (jy m);have Za:=aj Bu;have abe:1<=many/\many<=512:=by rw[Bu];unfold jy;omega
 obtain ⟨Bf,hBf⟩:=aiG w4.heap.size;have Q6:=aj hBf;have HCt:Hid (∀w:World,Calls asq 56 #[ah (m:Int)] w fun e w'=>e=.returned (ah (jy m:Nat))/\w=w'):=aj (fun w=>(adY w m wP).mono (fun e w' h=>⟨h.1,h.2.symm⟩));rw[<-Bu]at HCt;clear Bu hBf;go_cut [8] (fun tp wx=>∃gb tb,tp=aQ tb/\wO Bf gb tb (.slice gL wn jq) wx (List.replicate many (Value.slice none 0 0)) (List.replicate many [])/\Below Bf w4 wx)
 case first=>
  obtain⟨i0,hi,hi0,hi1,hi2⟩:=dM ahE;have y0:w4.cell? (ak fb 0)=some (.slice gL wn jq):=aL FU.af rfl;have y1:w4.cell? (ak fb 1)=some (ah 6):=aL FU.af rfl;refine bA 7 TA TA ?_;simp only[ji];refine P8 (S:=fun w':World=>w'.cell? (ak fb 0)=some (.slice gL wn jq)/\w'.cell? (ak fb 1)=some (ah 6)) _ _ _ _ ?_;have ay:(fun w':World=>w'.cell? (ak fb 0)=some (.slice gL wn jq)/\w'.cell? (ak fb 1)=some (ah 6)) (World.drew w4):=⟨y0,y1⟩;refine asr ?_;have hdr:Below Bf w4 (World.drew w4):=(PZ _ _).drew;have hzd:(World.drew w4).heap.size<=Bf:=Ug Q6.af.symm;have hze:Bf<=(World.drew w4):=Ug Q6.af;clear y0 y1;generalize (World.drew w4)=wd at hdr hzd hze ay ⊢;have hfl:fb<wd:=fD _ _ ay.1;refine arO [0,1,4] ay ?_;simp only[ast]
  iterate 3 (refine arP ?_;try simp only[bP])
  refine wpAnyH_ready (rs:=[2,6]) TA arG ?_;refine eD rfl (fun K hK=> ?ra) (eD rfl (fun K hK=> ?rb) fU)
  case ra=>
   go_simp;refine(HCt.af wd).mono ?_;rintro e _ ⟨rfl,rfl⟩;refine hK.af _ _ ay (fun ay=> ?_);clear hK K;try simp only[bV]
   refine wpAnyH_ready (rs:=[3,6]) TA arG ?_;refine eD rfl (fun K hK=> ?rc) (eD rfl (fun K hK=> ?rd) fU)
   case rc=>
    obtain⟨wm,hrun,hrow,hg⟩:=run_make_full (P:=asq) (w:=wd) wd.heap.size 33 41 i0 (au) 1 Tryz.underlying33 hi hi0 hi1 .i64 .i64 many (by rw[hi2];omega) (by unfold maxLen;omega) (oD _);have hg1:=Pk hrow;have QR:wd.heap.size<wm:=(AY hrow _ rfl).2;clear hrow;go_simp;refine hK.af _ _ ⟨(Tg (hg.block fb hfl arG)).trans ay.1,(Tg (hg.block fb hfl arG)).trans ay.2⟩ (fun ay=> ?_);clear hK K hrun;try simp only[bV]
    refine arO [5] ay ?_;simp only[ast]
    iterate 1 (refine arP ?_;try simp only[bP])
    refine cO 6 fun K hK=> ?_
    go_simp;refine hK.af _ _ ⟨dB ay.1,dB ay.2⟩ (fun ay=> ?_);clear hK K;try simp only[bV]
    have HT:=aj (ah2 wm (aB #[au,au,ah 0] 38));have HG:=aj ((dX wm (aB #[au,au,ah 0] 38) (r:=wd.heap.size) QR).trans hg1);have Ee:=aj ((hdr.grown hg wP (fun j hj=>by cases hj)).alloc wP (aB #[au,au,ah 0] 38));clear hg hg1 hdr;refine E5 TA ?_ _;simp only[dU];clear ay;have Pm:wd.heap.size≠wm.heap.size:=wP;go_wp2_with (refine Bv rfl 38 (.tmp 8) (.tmp 34) rfl (wm.heap.size) (#[.slice (some ⟨wd.heap.size,0,none⟩) many many,.slice gL wn jq,.int .i64 6]) rfl rfl _ _ HT.af TA rfl (by simp[Value.oneCell']) ?_);go_wp2_with fail;go_meet;exact⟨wd.heap.size,wm.heap.size,rfl,wO.start ((cu _ _ _ _ Pm).trans HG.af) (TL _ _ _ _ _ _ HT.af) wP wP Pm,below_setRow Ee.af _ _ wP⟩
   case rd=>
    go_simp;refine hK.af _ _ ⟨dB ay.1,dB ay.2⟩ (fun ay=> ?_);clear hK K;try simp only[bV]
    have hdn:Below Bf w4 (wd.alloc (aB #[au,au,ah 0] 38)):=hdr.alloc wP (aB #[au,au,ah 0] 38);have HT0:=aj (ah2 wd (aB #[au,au,ah 0] 38));have hzn:wd.heap.size<(wd.alloc (aB #[au,au,ah 0] 38)):=arG;generalize wd.alloc (aB #[au,au,ah 0] 38)=we at *;have K3:fb<we:=wP;refine cO 3 fun K hK=> ?_
    obtain⟨wm,hrun,hrow,hg⟩:=run_make_full (P:=asq) (w:=we) we.heap.size 33 41 i0 (au) 1 Tryz.underlying33 hi hi0 hi1 .i64 .i64 many (by rw[hi2];omega) (by unfold maxLen;omega) (oD _);have hg1:=Pk hrow;have QR:we.heap.size<wm:=(AY hrow _ rfl).2;clear hrow;go_simp;refine hK.af _ _ ⟨(Tg (hg.block fb K3 arG)).trans ay.1,(Tg (hg.block fb K3 arG)).trans ay.2⟩ (fun ay=> ?_);clear hK K hrun;try simp only[bV]
    refine arO [5] ay ?_;simp only[ast]
    iterate 1 (refine arP ?_;try simp only[bP])
    have HT:=aj ((hg.block wd.heap.size hzn arG).trans HT0.af);have HG:=aj hg1;have Ee:=aj (hdn.grown hg wP (fun j hj=>by cases hj));clear hg hg1 hdr hdn HT0;refine E5 TA ?_ _;simp only[dU];clear ay;have Pm:we.heap.size≠wd.heap.size:=wP;go_wp2_with (refine Bv rfl 38 (.tmp 8) (.tmp 34) rfl (wd.heap.size) (#[.slice (some ⟨we.heap.size,0,none⟩) many many,.slice gL wn jq,.int .i64 6]) rfl rfl _ _ HT.af TA rfl (by simp[Value.oneCell']) ?_);go_wp2_with fail;go_meet;exact⟨we.heap.size,wd.heap.size,rfl,wO.start ((cu _ _ _ _ Pm).trans HG.af) (TL _ _ _ _ _ _ HT.af) wP wP Pm,below_setRow Ee.af _ _ wP⟩
  case rb=>
   go_simp;refine hK.af _ _ ⟨dB ay.1,dB ay.2⟩ (fun ay=> ?_);clear hK K;try simp only[bV]
   have hdn:Below Bf w4 (wd.alloc (aB #[au,au,ah 0] 38)):=hdr.alloc wP (aB #[au,au,ah 0] 38);have HT0:=aj (ah2 wd (aB #[au,au,ah 0] 38));have hzn:wd.heap.size<(wd.alloc (aB #[au,au,ah 0] 38)):=arG;generalize wd.alloc (aB #[au,au,ah 0] 38)=we at *;have K3:fb<we:=wP;refine cO 2 fun K hK=> ?_
   go_simp;refine(HCt.af we).mono ?_;rintro e _ ⟨rfl,rfl⟩;refine hK.af _ _ ay (fun ay=> ?_);clear hK K;try simp only[bV]
   refine cO 3 fun K hK=> ?_
   obtain⟨wm,hrun,hrow,hg⟩:=run_make_full (P:=asq) (w:=we) we.heap.size 33 41 i0 (au) 1 Tryz.underlying33 hi hi0 hi1 .i64 .i64 many (by rw[hi2];omega) (by unfold maxLen;omega) (oD _);have hg1:=Pk hrow;have QR:we.heap.size<wm:=(AY hrow _ rfl).2;clear hrow;go_simp;refine hK.af _ _ ⟨(Tg (hg.block fb K3 arG)).trans ay.1,(Tg (hg.block fb K3 arG)).trans ay.2⟩ (fun ay=> ?_);clear hK K hrun;try simp only[bV]
   refine arO [5] ay ?_;simp only[ast]
   iterate 1 (refine arP ?_;try simp only[bP])
   have HT:=aj ((hg.block wd.heap.size hzn arG).trans HT0.af);have HG:=aj hg1;have Ee:=aj (hdn.grown hg wP (fun j hj=>by cases hj));clear hg hg1 hdr hdn HT0;refine E5 TA ?_ _;simp only[dU];clear ay;have Pm:we.heap.size≠wd.heap.size:=wP;go_wp2_with (refine Bv rfl 38 (.tmp 8) (.tmp 34) rfl (wd.heap.size) (#[.slice (some ⟨we.heap.size,0,none⟩) many many,.slice gL wn jq,.int .i64 6]) rfl rfl _ _ HT.af TA rfl (by simp[Value.oneCell']) ?_);go_wp2_with fail;go_meet;exact⟨we.heap.size,wd.heap.size,rfl,wO.start ((cu _ _ _ _ Pm).trans HG.af) (TL _ _ _ _ _ _ HT.af) wP wP Pm,below_setRow Ee.af _ _ wP⟩
 case rest=>
 obtain⟨gb,tb,rfl,hbk,hbw⟩:=hcut;rename World=>w5
 have HBk:=aj hbk;have HBw:=aj hbw;clear hbk hbw;have aph:=aj ((JR.af.lb.imp (S':=(·<Bf)) (fun b hb=>by have:=Q6.af;have h:=hb.1;omega)));obtain⟨aa',ab,ao,ac',haf,-,-,Pn⟩:=aph.af.at;have e1:(oI (bQ av)).length=m:=by rw[Hm.af];simp[oI]
 have amj:=Pn.addr;rw[e1]at haf amj;obtain⟨rfl,rfl⟩:aa=aa'/\ac=ac':=by cases haf;exact⟨rfl,rfl⟩
 have aeo:=aj Pn;clear haf Pn e1;go_wp2_with fail;go_loopw [37] (fun i wr=>∃k:Nat,i=ah k/\k<=m/\∃us,us.length=many/\wO Bf gb tb (.slice gL wn jq) wr us (wQ av many ((bQ av).take k))/\Below Bf w4 wr) (fun i _=>m-(intOf i).toNat);exact⟨0,rfl,alg _,_,u6,by rw[List.take_zero,ahu];exact HBk.af,HBw.af⟩;obtain⟨k,rfl,hk,us,hul,hbk,hbw⟩:=hrel;have Hul:=aj hul;have HK:=aj hbk;have HW:=aj hbw;have hgl:=hbk.glt;have htl:=hbk.tlt;have hgB:=hbk.Zc;have htB:=hbk.adZ;clear hul hbk hbw;by_cases hlt:k<m
 ·obtain⟨i,hi⟩:∃i,(bQ av)[k]? =some i:=⟨_,gP (by rw[<-Hm.af];exact hlt)⟩
  obtain⟨hin,-⟩:=(Dk _ _ _).1 (dH hi);obtain rfl:=amj wP;have g0:=(aeo.af.below HW.af).oC k (i:Int) (by unfold oI;rw[vW,hi];rfl);obtain⟨x,hx⟩:∃x,av[i]? =some x:=⟨_,gP hin⟩;have hsx:kX av i=x:=by unfold kX;rw[hx];rfl
  obtain rfl:=abd (by have:=Hn.af;omega);obtain⟨hxo,s0,-⟩:=((CB.af.below ui.af).asa (w':=wr) (fun b hb=>HW.af.block b (by have hb:b<rb:=hb;have:=Q6.af;omega))).rR i x hx;have hxn:=hxo.arT;have hh:=Rz x.arT many abe.1;have lN:Hid (wQ av many ((bQ av).take (k+1))=(wQ av many ((bQ av).take k)).set (jY x.arT many) ((((bQ av).take k).filter fun j=>decide (jY (kX av j).arT many=jY x.arT many)).map (fun (k:Nat)=>(k:Int))++[(i:Int)])):=aj (by rw[jR hi,ad1,hsx]);have hbg:=O0 av many ((bQ av).take k) hh
  have hll:((((bQ av).take k).filter fun j=>decide (jY (kX av j).arT many=jY x.arT many)).map (fun (k:Nat)=>(k:Int))).length<=k:=by
   rw[BR];exact eG (List.length_filter_le _ _) (List.length_take_le _ _)
  obtain ⟨l,hl2⟩:=aiG ((((bQ av).take k).filter fun j=>decide (jY (kX av j).arT many=jY x.arT many)).map (fun (k:Nat)=>(k:Int)));rw[<-hl2]at lN hbg hll;obtain ⟨ls,hls⟩:=aiG (wQ av many ((bQ av).take k));rw[<-hls]at HK lN hbg;have HJ:=aj (fun (w:World)=>Qs w (some ⟨gb,0,none⟩) many many (.slice gL wn jq) 6 x.arT hxn abe.1 abe.2);obtain ⟨h,hhh⟩:=aiG (jY x.arT many);rw[<-hhh]at lN hbg HJ hh;obtain⟨u,hu⟩:∃u,us[h]? =some u:=⟨_,gP (by have:=Hul.af;omega)⟩;have Hu:=aj hu;have Hbg:=aj hbg;have Yx:Hid (wr.heap[tb]? =some (aB #[.slice (some ⟨gb,0,none⟩) many many,.slice gL wn jq,ah 6] 38)):=aj (by have h:=HK.af.tab;rwa [Hul.af]at h);have t0:wr.cell? (ak tb 0)=some (.slice (some ⟨gb,0,none⟩) many many):=aL Yx.af rfl;have t1:wr.cell? (ak tb 1)=some (.slice gL wn jq):=aL Yx.af rfl;have t2:wr.cell? (ak tb 2)=some (ah 6):=aL Yx.af rfl;have hk2:(k:Int)<(m:Int):=wP;have hin2:(i:Int)<(n:Int):=by have:=Hn.af;omega
  have api:=fD _ _ s0;clear hi hx hsx hxo hbg hl2 hls hhh hu hxn;go_upto_region 9 with fail
  clear g0;refine bA 7 TA TA ?_;simp only[ji];refine P8 (S:=fun w':World=>w'.cell? (ak tb 0)=some (.slice (some ⟨gb,0,none⟩) many many)/\w'.cell? (ak tb 1)=some (.slice gL wn jq)/\w'.cell? (ak tb 2)=some (ah 6)/\w'.cell? (ak sb (so+i*9))=some (ax x.arT)) _ _ _ _ ?_;have ay:(fun w':World=>w'.cell? (ak tb 0)=some (.slice (some ⟨gb,0,none⟩) many many)/\w'.cell? (ak tb 1)=some (.slice gL wn jq)/\w'.cell? (ak tb 2)=some (ah 6)/\w'.cell? (ak sb (so+i*9))=some (ax x.arT)) (World.drew wr):=⟨t0,t1,t2,s0⟩;refine asr ?_;have QN:=aj (HK.af.dW (PZ _ wr).drew);have Ny:=aj (HW.af.drew);clear t0 t1 t2 s0 HK HW Yx;have aje:tb<wr.drew:=htl;have WR:sb<wr.drew:=api;have hsz:Bf<=wr.drew:=by show Bf<=wr;omega
  generalize (World.drew wr)=wd at *;refine arO [0,1,2,3,4,5] ay ?_;simp only[ast]
  iterate 6 (refine arP ?_;try simp only[bP])
  refine cO 6 fun K hK=> ?_
  go_simp;refine(HJ.af wd).mono ?_;rintro e w6 ⟨rfl,hb6⟩;have TW:=aj (QN.af.dW hb6);have HW6:=aj (Ny.af.trans (hb6.mono hsz));refine hK.af _ _ ⟨(hb6.cell (p:=(ak tb 0)) aje).trans ay.1,(hb6.cell (p:=(ak tb 1)) aje).trans ay.2.1,(hb6.cell (p:=(ak tb 2)) aje).trans ay.2.2.1,(hb6.cell (p:=(ak sb (so+i*9))) WR).trans ay.2.2.2⟩ (fun ay=> ?_);clear hK K hb6 QN Ny;try simp only[bV]
  refine E5 TA ?_ _;simp only[dU];clear ay;have amk:Hid (w6.heap[tb]? =some (aB #[.slice (some ⟨gb,0,none⟩) many many,.slice gL wn jq,ah 6] 38)):=aj (by have h:=TW.af.tab;rwa [Hul.af]at h);have t0:w6.cell? (ak tb 0)=some (.slice (some ⟨gb,0,none⟩) many many):=aL amk.af rfl;have u0:w6.cell? (ak gb h)=some u:=by rw[aV TW.af.ex];simpa using Hu.af
  have hou:=TW.af.own h u l Hu.af Hbg.af;obtain⟨ua,uc,huf⟩:=hou.form;obtain ⟨q,hq⟩:=aiG l.length;have Hq:=aj hq;rw[<-hq]at huf hll;subst huf;have Hou:=aj hou;have apj:=TW.af.glt;have apk:=TW.af.tlt;have aml:Bf<=w6:=wP;clear hou hq;have Qq:(h:Int)<(many:Int):=wP;go_upto_region 10 with fail
  refine bA 11 TA TA ?_;simp only[ji];refine P8 (S:=fun w':World=>w'.cell? (ak tb 0)=some (.slice (some ⟨gb,0,none⟩) many many)/\w'.cell? (ak gb h)=some (.slice ua q uc)) _ _ _ _ ?_;have ay:(fun w':World=>w'.cell? (ak tb 0)=some (.slice (some ⟨gb,0,none⟩) many many)/\w'.cell? (ak gb h)=some (.slice ua q uc)) (World.drew w6):=⟨t0,u0⟩;refine asr ?_;have QN:=aj (TW.af.dW (PZ _ w6).drew);have Ny:=aj (HW6.af.drew);have amm:=aj (Hou.af.drew);have apl:Bf<=(World.drew w6):=aml;clear t0 u0 TW HW6 amk Hou apj apk aml;generalize (World.drew w6)=wd2 at *;refine arO [0,1,2,3,4,5,6,7,8] ay ?_;simp only[ast]
  iterate 9 (refine arP ?_;try simp only[bP])
  have aep:=aj (amm.af.alloc (aB #[ah (i:Int)] 3));have HKn:=aj (QN.af.dW ((PZ _ wd2).alloc (oD _) (aB #[ah (i:Int)] 3)));have iR:=aj (Ny.af.alloc apl (aB #[ah (i:Int)] 3));have DC:=aj (ah2 wd2 (aB #[ah (i:Int)] 3));refine cO 9 fun K hK=> ?_
  go_simp;refine hK.af _ _ ⟨dB ay.1,dB ay.2⟩ (fun ay=> ?_);clear hK K;try simp only[bV]
  have hzn:wd2.heap.size<(wd2.alloc (aB #[ah (i:Int)] 3)):=arG;clear QN Ny amm;generalize wd2.alloc (aB #[ah (i:Int)] 3)=wn1 at *;have HA:Hid (aX 3 dJ Bf (fun b=>b<wn1/\¬(Value.slice ua q uc).ownBlock=some b) wn1 (.slice ua q uc) l):=aj (aep.af.fJ dN (fun g hg h=>h.2 hg));refine cO 10 fun K hK=> ?_
  rw[if_pos (by rfl)];simp only[rz];refine lV (K:=dJ) (v:=.slice ua q uc) (e:=3) (B:=Bf) 41 _ 8 Tryz.underlying41 qg rfl abD (.tmp 55) (.tmp 57) rfl q Hq.af.symm rfl HA.af (fun b hb=>hb.1) wd2.heap.size (i:Int) [ah (i:Int)] rfl (aD DC.af) (fun u hu=>by rcases tY.1 hu with rfl;rfl) rfl (by rw[<-Hq.af];omega) (by rw[<-Hq.af];omega) wP ?_;rintro g7 c7 w7 fG hs7 uf-;have hgu:gb<wn1/\(Value.slice ua q uc).ownBlock≠some gb:=⟨HKn.af.glt,fun e=>aep.af.notE gb e (aH rfl)⟩;have htu:tb<wn1/\(Value.slice ua q uc).ownBlock≠some tb:=⟨HKn.af.tlt,fun e=>aep.af.notE tb e (aZ rfl)⟩;have HG7:=aj ((hs7.block gb hgu).trans HKn.af.ex);have HKf:=aj (HKn.af.append Hu.af Hbg.af fG hs7 (fun b hb=>fG.FK b hb));rw[<-lN.af]at HKf;have HWf:=aj ((iR.af.trans ((hs7.imp (S':=(·<Bf)) (fun b hb=>⟨by have hb:b<Bf:=hb;omega,fun e=>by have:=(aep.af.lt b e).1;have hb:b<Bf:=hb;omega⟩)).below)).setCell (p:=(ak gb h)) hgB (.slice (some ⟨g7,0,none⟩) (q+1) c7));refine hK.af _ _ ⟨(hs7.cell (p:=(ak tb 0)) htu).trans ay.1,(hs7.cell (p:=(ak gb h)) hgu).trans ay.2⟩ (fun ay=> ?_);clear hK K fG hs7 hgu htu;try simp only[bV]
  refine E5 TA ?_ _;simp only[dU];have u7:=ay.2;have f7:w7.frozen? (ak gb h)=false:=vV HG7.af h;clear ay;go_wp2;go_roundw;exact⟨k+1,arH,wP,_,by rw[zI];exact Hul.af,HKf.af,HWf.af⟩;simp[intOf];omega
 ·have HKe:=aj HK.af
  have Yx:Hid (wr.heap[tb]? =some (aB #[.slice (some ⟨gb,0,none⟩) many many,.slice gL wn jq,ah 6] 38)):=aj (by have h:=HK.af.tab;rwa [Hul.af]at h);have BD:=aj ((HW.af.block rb (by have:=Q6.af;omega)).trans xU.af);have hne:rb≠tb:=by have:=Q6.af;omega
  have t0:wr.cell? (ak tb 0)=some (.slice (some ⟨gb,0,none⟩) many many):=aL Yx.af rfl;have t1:wr.cell? (ak tb 1)=some (.slice gL wn jq):=aL Yx.af rfl;have t2:wr.cell? (ak tb 2)=some (ah 6):=aL Yx.af rfl
  have HR:Hid (LB tJ (fun b=>Bf<=b/\b<wr) wr (.slice (some ⟨gb,0,none⟩) many many) (jN av (jy (bQ av).length))):=aj (by
   have h:=HK.af.lb (by have:=Hul.af;omega);rw[Hul.af,dh (by have:=Hm.af;omega)]at h;rw[ab9,<-Hm.af,<-Za.af];exact h)
  have HWR:Hid (LB jQ (fun b=>rb<=b/\rb≠b/\b<w4) w4 (.slice gL wn jq) (kR av)):=aj (by
   obtain⟨a',b',o',c',hv,hmx,Ui,hcap,hS,hc⟩:=HW4.af.lb;refine⟨a',b',o',c',hv,hmx,Ui,hcap,fun hne=> ?_,hc⟩;have h1:=hS hne;have h2:=HW4.af.lt b' (by rw[hv,Ui hne];rfl);exact⟨wP,wP,h1.1⟩)
  go_wp2_with (refine Bv rfl 38 (.tmp 2) (.tmp 61) rfl rb #[.slice (some ⟨gb,0,none⟩) many many,.slice gL wn jq,.int .i64 6] rfl rfl _ _ BD.af TA rfl (by simp[Value.oneCell']) ?_);go_wp2_with fail;have FR:=aj (TL _ rb _ #[.slice (some ⟨gb,0,none⟩) many many,.slice gL wn jq,ah 6] _ _ BD.af);refine qE (fT rfl _ _ rb _ _ _ _ rfl FR.af Tryz.underlying38 rfl TA) rfl ?_;have hkp:∀b,rb≠b->(wr.setRow rb #[.slice (some ⟨gb,0,none⟩) many many,.slice gL wn jq,ah 6]).heap[b]? =wr.heap[b]? :=fun b hb=>cu _ _ b _ (fun e=>hb e.symm)
  have JJ:(wr.setRow rb #[.slice (some ⟨gb,0,none⟩) many many,.slice gL wn jq,ah 6]).heap.size=wr.heap.size:=arG;refine⟨_,_,rfl,?_,?_,?_⟩
  ·rw[Hrb.af,JJ]
   exact(HR.af.asa (fun b hb=>hkp b (by have:=Q6.af;have:=hb.1;omega))).imp (fun b hb=>⟨by have:=Q6.af;have:=hb.1;omega,hb.2⟩)
  ·rw[Hrb.af,JJ]
   exact(HWR.af.asa (fun b hb=>(hkp b hb.2.1).trans (HW.af.block b (by have:=Q6.af;have:=hb.2.2;omega)))).imp (fun b hb=>⟨hb.1,by have:=HW.af.size;have:=hb.2.2;omega⟩)
  ·rw[Hrb.af]
   exact below_setRow (ui.af.trans (HW.af.mono (by have:=Q6.af;omega))) _ _ (oD _)
end Go.Proofs.YtpjgjeadjjackaaGreat
