/- Lemmas. -/
import Derived.Test.YtpjgjeadjjackaaGreatBui11
import Derived.Test.YtpjgjeadjjackaaGreatBui8
import Derived.Test.YtpjgjeadjjackaaGreatBui4
import Derived.Test.YtpjgjeadjjackaaGreatBui3
import Derived.Test.YtpjgjeadjjackaaGreatBui5
import Derived.Deep.DeepCutAuto
import Derived.IntWalk
set_option linter.unusedVariables false
set_option linter.unusedSimpArgs false
set_option maxHeartbeats 64000000
set_option maxRecDepth 100000
namespace Go.Proofs.YtpjgjeadjjackaaGreat
open Go.RowKit
open Go.Proofs.Tryz renaming prog->asq
open Go renaming heap_alloc_new->ah2,wpQuiet_nil->lD,heap_alloc_old->dX
open Go.IntWalk renaming i64_in->iJ
open _root_.List renaming getElem?_eq_getElem->gP,length_append->Kk,take_of_length_le->dh,take_add_one->Qc,take_append_drop->jf,flatMap_append->j5,flatMap_cons->KF,length_map->BR,mem_cons->Y1
open _root_.Nat renaming le_trans->eG,zero_le->alg,le_refl->oD
open _root_.Option.some renaming inj->qY
variable {B pb:Nat}{w:World}{sv:bN}{s:aM}{v:bG}{p:aA}{im:bK}
theorem sw (fs:List eH) (i:Nat):0<=fC fs i/\fC fs i<=24*(fs.flatMap (·.ar5)).length:=by
 have h:=kW ((fs.take i).flatMap (·.ar5));unfold fC;refine⟨h.1,Int.le_trans h.2 ?_⟩
 have h2:((fs.take i).flatMap (·.ar5)).length<=(fs.flatMap (·.ar5)).length:=by
  conv=>rhs;rw[<-jf i fs,j5,Kk]
  omega
 omega
theorem JS {l:List dw} {k:Nat} {x:dw} (h:l[k]? =some x):bO (l.take (k+1))=bO (l.take k)+jZ x*8:=by
 rw[Qc,h,mX];simp[bO]
theorem Jk (x:dw):1<=jZ x/\jZ x<=3:=by unfold jZ;split<;>omega
theorem JU {f:eH}:∀ {fs:List eH},f∈fs->f.ar5.length<=(fs.flatMap (·.ar5)).length
 | x :: fs,h=>by
  rw[KF,Kk];rcases Y1.1 h with h | h
  ·subst h;omega
  ·have:=JU h;omega
theorem Nq {fs:List eH} {i:Nat} {f:eH} (h:fs[i]? =some f):f.ar5.length<=(fs.flatMap (·.ar5)).length:=JU (List.mem_of_getElem? h)
theorem ze (m:Nat) (hm:m<=s.ar2.length) (hM:gM B pb w sv s v p) (hB:B<=w) (hll:s.ar5.length<=2000):
  Calls asq 33 #[aQ pb,ah (m:Int)] w fun e w'=>e=.returned (ah (fC s.ar2 m))/\Below w w w':=by
 have hpl:=hM.lt;have c4:=hM.c4;obtain⟨fa,fb,fo,fc,hf,hfm,_,hat⟩:=hM.spec.ar2.at;have dP:=aj hat;have ha:=hat.addr;rw[hf]at c4;have TT:=aj (fun i=>sw s.ar2 i);have qD:=aj (fun i f (h:s.ar2[i]? =some f)=>Nq h);have BQ:(s.ar2.flatMap (·.ar5)).length<=2000:=hll;generalize s.ar2=fs at *;obtain ⟨L,hL⟩:=aiG ((fs.flatMap (·.ar5)).length);rw[<-hL]at TT qD BQ;obtain ⟨n,hn⟩:=aiG fs.length;have Hn:=aj hn;rw[<-hn]at hm hfm ha c4;have ug:Hid (∀wr,Below w w wr->wr.cell? (ak pb 4)=some (.slice fa n fc)):=aj (fun wr hb=>(hb.cell (p:=(ak pb 4)) hpl).trans c4);clear hM hf hat hn c4 hL hll;go_enter Tryz.func33,Tryz.ntmps33;go_wp2;go_loopw [5,6] (fun at_ i wr=>∃k:Nat,at_=ah (fC fs k)/\i=ah k/\k<=m/\Below w w wr) (fun _ i _=>m-(intOf i).toNat);exact⟨0,by rw[adC],rfl,alg _,Below.refl _ _⟩;rename World=>w2
 obtain⟨k,rfl,rfl,hk,hb⟩:=hrel;have Hb:=aj hb;have AB:=hb.size;clear hb;by_cases hlt:k<m
 ·obtain rfl:=ha wP
  obtain⟨f,hf⟩:∃f,fs[k]? =some f:=⟨_,gP (by rw[<-Hn.af];omega)⟩;have Hf:=aj hf;have hkm:(k:Int)<(m:Int):=wP;have hkn:(k:Int)<(n:Int):=wP;have lN:=aj (TN hf);have hLl:=qD.af k f hf;obtain ⟨base,hbase⟩:=aiG (fC fs k);have hb1:=(TT.af k).1;have hb2:=(TT.af k).2;rw[<-hbase]at hb1 hb2 lN ⊢;have HRl:=aj (fun j=>kW (f.ar5.take j));clear hf hbase;go_wp2;go_loopw [5,7] (fun at_ j w3=>∃q:Nat,at_=ah (base+bO (f.ar5.take q))/\j=ah q/\q<=f.ar5.length/\Below w w w3) (fun _ j _=>f.ar5.length-(intOf j).toNat);exact⟨0,by simp[bO],rfl,alg _,Hb.af⟩;obtain⟨q,rfl,rfl,hq,hb3⟩:=hrel;have hz3:=hb3.size;have c4:=ug.af wr hb3;obtain⟨lc,hlb,_,g0,g1,g2,g3,g4,g5,g6,g7,g8,g9⟩:=dP.af.xJ (hb3.mono hB) k f Hf.af;have Et:=hlb.below (hb3.mono hB);obtain⟨la,lb_,lo,jB,hlf,hlm,_,hlat⟩:=Et.at;have hla:=hlat.addr;subst hlf;have Af:=aj hlat;have Hb3:=aj hb3;obtain ⟨ln,hln⟩:=aiG f.ar5.length;have lI:=aj hln;rw[<-hln]at hq hlm hla g9 hLl;clear hlb Et hlat hb3 g0 g1 g2 g3 g4 g5 g6 g7 g8 hln;have hr1:=(HRl.af q).1;have hr2:=(HRl.af q).2;have hr3:(f.ar5.take q).length<=q:=by rw[List.length_take];omega
  by_cases xw:q<ln
  ·obtain rfl:=hla wP
   obtain⟨x,hx⟩:∃x,f.ar5[q]? =some x:=⟨_,gP (by rw[<-lI.af];exact xw)⟩;have hqi:(q:Int)<(ln:Int):=wP;obtain⟨_,k0,k1,k2,k3,k4,k5,k6,k7,k8⟩:=Af.af.E9 q x hx;have lm:=aj (JS hx);have hlr:=Jk x;have HLg:=aj (aha wr x);obtain ⟨acc,hacc⟩:=aiG (base+bO (f.ar5.take q));have ha1:0<=acc:=wP;have ha2:acc<=1000000:=wP;rw[<-hacc];have aok:=aj hacc;obtain ⟨lg,QR⟩:=aiG (jZ x*8);have hg1:8<=lg/\lg<=24:=wP;rw[<-QR]at HLg lm;clear hx hacc QR hlr hr1 hr2 hr3;go_wp2_with fail;refine HLg.af.mono ?_;rintro e w4 ⟨rfl,hb4⟩;have Hb4:=aj (Hb3.af.trans (hb4.mono hz3));clear hb4 k0 k1 k2 k3 k4 k5 k6 k7 k8 g9 c4 HLg;go_wp2;go_roundw;exact⟨q+1,by have h:=lm.af;have h2:=aok.af;go_num,arH,by have:=lI.af;omega,Hb4.af⟩;have:=lI.af;simp[intOf];omega
  ·have HE:Hid (base+bO (f.ar5.take q)=fC fs (k+1)):=aj (by rw[lN.af,dh (by have:=lI.af;omega)])
   rw[HE.af];go_wp2;go_roundw;exact⟨k+1,rfl,arH,wP,Hb3.af⟩;simp[intOf];omega
 ·obtain rfl:k=m:=wP
  go_wp2;go_ret;exact⟨rfl,Hb.af⟩
theorem ahj {n:Int} (h0:0<=n) (h1:n<=1000000):0<=ny n/\ny n<=1000100:=by unfold ny;omega
theorem rJ (hll:s.ar5.length<=2000) (iM:p.ar7.length<=2000):0<=(aN s p).got/\(aN s p).got<=1000100:=by
 have h1:=sw s.ar2 s.ar2.length;have BQ:(s.ar2.flatMap (·.ar5)).length<=2000:=hll;rw[acI]
 split
 ·omega
 ·exact ahj wP wP
theorem Iq (hM:gM B pb w sv s v p) (hB:B<=w) (hll:s.ar5.length<=2000) (iM:p.ar7.length<=2000) (hnc:p.cells.length<=4000):
  Calls asq 31 #[aQ pb] w fun e w'=>e=.returned (ah (aN s p).got)/\Below w w w':=by
 have hpl:=hM.lt;have c4:=hM.c4;have c11:=hM.c11;obtain⟨fa,fc,hf⟩:=hM.spec.ar2.form;obtain⟨ja,jc,hj⟩:=hM.ar7.form;rw[hf]at c4;rw[hj]at c11;have kE:=aj (fun w' (hb:Below w w w')=>ze s.ar2.length (oD _) (hM.below hB hb) (eG hB hb.size) hll);have HG:=aj (acI s p);have hr:=sw s.ar2 s.ar2.length;have BQ:(s.ar2.flatMap (·.ar5)).length<=2000:=hll;obtain ⟨st,hst⟩:=aiG (fC s.ar2 s.ar2.length);rw[<-hst]at HG hr kE;obtain ⟨nf,hnf⟩:=aiG s.ar2.length;rw[<-hnf]at c4 kE;obtain ⟨nj,pQ⟩:=aiG p.ar7.length;rw[<-pQ]at c11 HG iM;have hs1:0<=st:=hr.1;have hs2:st<=48000:=wP;clear hM hf hj hst hnf pQ hr hll BQ;generalize (aN s p).got=got at *;have o1:IntKind.i64.wrap (24*(nj:Int))=24*(nj:Int):=iJ _ wP;obtain ⟨tot,htot⟩:=aiG (st+24*(nj:Int));have o2:IntKind.i64.wrap (st+24*(nj:Int))=tot:=by rw[htot];exact iJ _ wP
 rw[<-htot]at HG;have ht1:0<=tot:=wP;have ht2:tot<=1000000:=wP;clear htot;go_enter Tryz.func31,Tryz.ntmps31;have c4L:∀x:Later w,x.w'.cell? (ak pb 4)=some (.slice fa nf fc):=fun x=>x.cell c4
 have aol:∀x:Later w,x.w'.cell? (ak pb 11)=some (.slice ja nj jc):=fun x=>x.cell c11
 go_upto_region 1 with fail
 refine dG TA TA ?_
 repeat (go_big_quiet_step (first | (go_at_call 33;refine Later.call _ (kE.af _ ?_);exact(Later.h _))))
 refine lD ?_;rintro wq ⟨⟨_,hq⟩,rfl⟩;try simp only at hq
 have Hq:=aj hq;clear hq kE c4 c11 c4L aol;by_cases h0:tot=0
 ·have hb:(tot==0)=true:=by simp[h0]
  have HR:Hid (got=64):=aj (by rw[HG.af,if_pos h0]);clear h0 HG;go_wp2;go_ret;exact⟨by rw[HR.af];rfl,Hq.af⟩
 ·have hb:(tot==0)=false:=by simp[h0]
  have HR:Hid (got=ny tot):=aj (by rw[HG.af,if_neg h0]);have HUp:=aj (JA wq tot ht1 ht2);clear h0 HG;go_wp2_with fail;refine HUp.af.mono ?_;rintro e w9 ⟨rfl,rfl⟩;go_wp2;go_ret;exact⟨by rw[HR.af];rfl,Hq.af⟩
theorem Ir (n:Nat) (hn:n<=2000) (hM:gM B pb w sv s v p) (hB:B<=w) (hll:s.ar5.length<=2000) (iM:p.ar7.length<=2000) (hnc:p.cells.length<=4000):
  Calls asq 32 #[aQ pb,ah (n:Int)] w fun e w'=>e=.returned (ah ((aN s p).bW+8*(n:Int)))/\Below w w w':=by
 have c10:=hM.c10;obtain⟨ca,cc,hc⟩:=hM.cells.form;rw[hc,BR]at c10;have kE:=aj (fun w' (hb:Below w w w')=>Iq (hM.below hB hb) (eG hB hb.size) hll iM hnc);have hg:=rJ (p:=p) hll iM;have HP:Hid ((aN s p).bW=(aN s p).got+8*(p.cells.length:Int)):=aj rfl;rw[HP.af];generalize (aN s p).got=got at *;obtain ⟨nc,Es⟩:=aiG p.cells.length;rw[<-Es]at c10 hnc ⊢;clear hM hc Es hll iM HP;have o1:IntKind.i64.wrap (8*(nc:Int))=8*(nc:Int):=iJ _ wP;have o2:IntKind.i64.wrap (got+8*(nc:Int))=got+8*(nc:Int):=iJ _ wP;have o3:IntKind.i64.wrap (8*(n:Int))=8*(n:Int):=iJ _ wP;have o4:IntKind.i64.wrap (got+8*(nc:Int)+8*(n:Int))=got+8*(nc:Int)+8*(n:Int):=iJ _ wP;go_enter Tryz.func32,Tryz.ntmps32;have aom:∀x:Later w,x.w'.cell? (ak pb 10)=some (.slice ca nc cc):=fun x=>x.cell c10
 go_upto_region 1 with fail
 refine dG TA TA ?_
 repeat (go_big_quiet_step (first | (go_at_call 31;refine Later.call _ (kE.af _ ?_);exact(Later.h _))))
 refine lD ?_;rintro wq ⟨⟨_,hq⟩,rfl⟩;try simp only at hq
 have Hq:=aj hq;clear hq kE c10 aom;go_wp2;go_ret;exact⟨rfl,Hq.af⟩
theorem ahk (u0 x:Int) (hu0:0<=u0/\u0<=3) (i:Nat) (hi:p.cells.findIdx? (fun y=>decide (y=(u0,x)))=some i) (hM:gM B pb w sv s v p) (hB:B<=w) (hll:s.ar5.length<=2000) (iM:p.ar7.length<=2000) (hnc:p.cells.length<=4000):
  Calls asq 150 #[aQ pb,ah (qN u0),ah x] w fun e w'=>e=.returned (ah ((aN s p).got+8*(i:Int)))/\Below w w w':=by
 have Az:=aj (Iq hM hB hll iM hnc);have hg:=rJ (p:=p) hll iM;obtain⟨jT,b,off,jU,hf,hm,_,hat⟩:=hM.cells.lb.at;have dP:=aj hat;have ha:=hat.addr;have c_:=hM.c10;rw[hf]at c_;have hi2:=TM (s:=x) hM.uses hu0;rw[hi]at hi2;obtain ⟨L,hL⟩:=aiG (p.cells.map oL);have BQ:L.length<=4000:=by rw[hL,BR];exact hnc
 rw[<-hL]at hm ha c_ dP hi2;generalize qN u0=q at *;generalize (aN s p).got=got at *;obtain ⟨n,hn⟩:=aiG L.length;have Hn:=aj hn;rw[<-hn]at hm ha BQ c_;obtain⟨hin,hiy,hib⟩:=List.findIdx?_eq_some_iff_getElem.1 hi2;have Hiy:=aj hiy;have Hib:=aj hib;have hin2:i<n:=wP;clear hM hf hat hn hL hu0 hi hi2 hll iM hnc hiy hib;go_enter Tryz.func150,Tryz.ntmps150;go_wp2;go_loop [7] (fun j=>∃k:Nat,j=ah k/\k<=i) (fun j=>n-(intOf j).toNat);exact⟨0,rfl,alg _⟩;obtain⟨k,rfl,hk⟩:=hrel;have hkn:k<n:=wP;obtain rfl:=ha wP;obtain⟨y,hy⟩:∃y,L[k]? =some y:=⟨_,gP (by rw[<-Hn.af];exact hkn)⟩;obtain⟨hc1,hc2⟩:=dP.af.SA k y hy;have Hy:=aj hy;have hk2:(k:Int)<(n:Int):=wP;obtain⟨y1,y2⟩:=y;simp only at hc1 hc2;clear hy;by_cases hki:k=i
 ·have hxy:(y1,y2)=(q,x):=by
   have h1:=Hy.af;subst hki;rw[gP hin]at h1;have h2:=Hiy.af;rw[qY h1]at h2;exact of_decide_eq_true h2
  obtain⟨h1,h2⟩:=Prod.mk.inj hxy;have hb1:(y1==q)=true:=by simp[h1]
  have hb2:(y2==x)=true:=by simp[h2]
  have o1:IntKind.i64.wrap (8*(k:Int))=8*(k:Int):=iJ _ wP;have o2:IntKind.i64.wrap (got+8*(k:Int))=got+8*(k:Int):=iJ _ wP;have Hki:=aj hki;clear hxy h1 h2 hki;go_wp2_with fail;refine Az.af.mono ?_;rintro e w9 ⟨rfl,DN⟩;have Hb9:=aj DN;clear DN;go_wp2;go_ret;exact⟨by rw[<-Hki.af];rfl,Hb9.af⟩
 ·have hxy:¬(y1,y2)=(q,x):=by
   have h1:=Hy.af;rw[gP wP]at h1;have h2:=Hib.af k wP;rw[qY h1]at h2;exact fun e=>absurd (decide_eq_true e) (by simpa using h2)
  by_cases h1:y1=q
  ·have hb1:(y1==q)=true:=by simp[h1]
   have hb2:(y2==x)=false:=by
    rw[arM];exact fun e=>hxy (by rw[h1,e])
   clear hxy h1;go_wp2;go_round;exact⟨k+1,arH,wP⟩;simp[intOf];omega
  ·have hb1:(y1==q)=false:=by simp[h1]
   clear hxy h1;go_wp2;go_round;exact⟨k+1,arH,wP⟩;simp[intOf];omega
theorem xL:∀l:List dx,0<=jh l/\0<=kJ l/\jh l+kJ l=8*(l.flatMap (·.ar8)).length
 | []=>by simp[jh,kJ]
 | v :: l=>by
  have ih:=xL l;simp only[jh,kJ,KF,Kk]
  split<;>omega
theorem TU {l:List dx} {k:Nat} {x:dx} (h:l[k]? =some x):jh (l.take (k+1))=jh (l.take k)+(if x.sym.ar3=3 then 0 else 8*x.ar8.length)/\kJ (l.take (k+1))=kJ (l.take k)+(if x.sym.ar3=3 then 8*x.ar8.length else 0):=by
 rw[Qc,h,OJ,QP];simp[jh,kJ]
theorem Ac (l:List dx) (k:Nat):((l.take k).flatMap (·.ar8)).length<=(l.flatMap (·.ar8)).length:=by
 conv=>rhs;rw[<-jf k l,j5,Kk]
 omega
theorem aiP (hM:gM B pb w sv s v p) (hB:B<=w) (hll:s.ar5.length<=2000) (iM:p.ar7.length<=2000) (hnc:p.cells.length<=4000) (hwd:(s.vars.flatMap (·.ar8)).length<=2000):
  Calls asq 24 #[aQ pb] w fun e w'=>e=.returned (.tuple #[ah (aN s p).data,ah (aN s p).bf])/\Below w w w':=by
 have DR:=aj (Ir p.ar7.length iM hM hB hll iM hnc);have hg:=rJ (p:=p) hll iM;have HD:=aj (aaE s p);have HT:=aj (acH s p);have hP:(aN s p).bW=(aN s p).got+8*(p.cells.length:Int):=rfl;have c11:=hM.c11;obtain⟨ja,jc,hj⟩:=hM.ar7.form;rw[hj]at c11;obtain⟨va,vb,vo,vc,hf,xQ,_,hat⟩:=hM.spec.vars.at;have dP:=aj hat;have ha:=hat.addr;have c5:=hM.c5;rw[hf]at c5;have hpl:=hM.lt;have TT:=aj (fun k=>xL (s.vars.take k));have TV:=aj (fun k=>eG (Ac s.vars k) hwd);obtain ⟨base,hbase⟩:=aiG ((aN s p).bW+8*(p.ar7.length:Int));have hb1:0<=base:=wP;have hb2:base<=2000000:=wP;rw[<-hbase]at DR HD;generalize s.vars=vs at *;obtain ⟨nj,pQ⟩:=aiG p.ar7.length;rw[<-pQ]at c11 DR;obtain ⟨n,hn⟩:=aiG vs.length;have Hn:=aj hn;rw[<-hn]at xQ ha c5;have DT:Hid (∀wr,Below w w wr->wr.cell? (ak pb 5)=some (.slice va n vc)):=aj (fun wr hb=>(hb.cell (p:=(ak pb 5)) hpl).trans c5);generalize (aN s p).data=dt at *;generalize (aN s p).bf=tl at *;clear hM hf hj hat hn pQ hbase hll iM hnc hwd hg hP c5;go_enter Tryz.func24,Tryz.ntmps24;go_wp2_with fail;refine DR.af.mono ?_;rintro e w2 ⟨rfl,RQ⟩;have Hb2:=aj RQ;have c5:=DT.af w2 RQ;clear RQ DR c11;go_wp2_with fail;go_loop [4,5,6] (fun at_ t i=>∃k:Nat,at_=ah (base+jh (vs.take k))/\t=ah (kJ (vs.take k))/\i=ah k/\k<=n) (fun _ _ i=>n-(intOf i).toNat);exact⟨0,by simp[jh],by simp[kJ],rfl,alg _⟩;obtain⟨k,rfl,rfl,rfl,hk⟩:=hrel;have hr:=TT.af k;have hw:=TV.af k;by_cases hlt:k<n
 ·obtain rfl:=ha wP
  obtain⟨x,hx⟩:∃x,vs[k]? =some x:=⟨_,gP (by rw[<-Hn.af];exact hlt)⟩;obtain⟨wv,rv,hwv,_,_,_,_,_,k3,_,_,_,_,_,k9,_,_⟩:=dP.af.rZ (Hb2.af.mono hB) k x hx;obtain⟨wa,wc,rfl⟩:=hwv.form;have HN:=aj (TU hx);have hr2:=TT.af (k+1);have hw2:=TV.af (k+1);have hki:(k:Int)<(n:Int):=wP;obtain ⟨wn,hwn⟩:=aiG x.ar8.length;rw[<-hwn]at k9 HN;clear hx hwv hwn;by_cases h3:x.sym.ar3=3
  ·have hb:(x.sym.ar3==3)=true:=by simp[h3]
   have h1:jh (vs.take (k+1))=jh (vs.take k):=by rw[HN.af.1,if_pos h3];omega
   have h2:kJ (vs.take (k+1))=kJ (vs.take k)+8*(wn:Int):=by rw[HN.af.2,if_pos h3];omega
   have o1:IntKind.i64.wrap (8*(wn:Int))=8*(wn:Int):=iJ _ wP;have o2:IntKind.i64.wrap (kJ (vs.take k)+8*(wn:Int))=kJ (vs.take (k+1)):=by rw[h2];exact iJ _ wP
   have H1:=aj h1;clear h1 h2 h3 HN hr hr2;go_wp2;go_round;exact⟨k+1,by rw[H1.af],rfl,arH,wP⟩;simp[intOf];omega
  ·have hb:(x.sym.ar3==3)=false:=by simp[h3]
   have h1:jh (vs.take (k+1))=jh (vs.take k)+8*(wn:Int):=by rw[HN.af.1,if_neg h3];omega
   have h2:kJ (vs.take (k+1))=kJ (vs.take k):=by rw[HN.af.2,if_neg h3];omega
   have o1:IntKind.i64.wrap (8*(wn:Int))=8*(wn:Int):=iJ _ wP;have o2:IntKind.i64.wrap (base+jh (vs.take k)+8*(wn:Int))=base+jh (vs.take (k+1)):=by rw[h1,<-Int.add_assoc];exact iJ _ wP
   have H2:=aj h2;clear h1 h2 h3 HN hr hr2;go_wp2;go_round;exact⟨k+1,rfl,by rw[H2.af],arH,wP⟩;simp[intOf];omega
 ·have H1:Hid (base+jh (vs.take k)=dt):=aj (by rw[HD.af,dh (by have:=Hn.af;omega)])
  have H2:Hid (kJ (vs.take k)=tl):=aj (by rw[HT.af,dh (by have:=Hn.af;omega)]);rw[H1.af,H2.af];clear hr;go_wp2;go_ret2;exact⟨rfl,Hb2.af⟩
theorem adR (p:aA) (f:eH):fF p (p.func f) (gu (gu (if rY f.ar5.length=true then 101 else 0) (if (!decide (f.sym.ar3=1))=true then 100 else 0)) (if (!bC (cB f.sym)||p.av.any fun t=>gT t (cB f.sym))=true then 100 else 0)):=by
 have hk:f.sym.ar3=1->decide (f.sym.ar3=3)=false:=fun h=>by rw[h];rfl
 rw[show p.func f=((p.dm (rY f.ar5.length) 101).dm (!decide (f.sym.ar3=1)) 100).define f.sym false 100 from rfl];unfold fF aA.define;simp only[oq];generalize rY f.ar5.length=a;generalize bC (cB f.sym)=b;generalize (p.av.any fun t=>gT t (cB f.sym))=c;by_cases h1:f.sym.ar3=1
 ·rw[hk h1]
  simp only[h1,decide_true,Bool.not_true]
  cases a<;>cases b<;>cases c<;>simp[aA.dm,aA.fail,gu]<;>(by_cases h:p.asj=0<;>simp[h])
 ·simp only[h1,decide_false,Bool.not_false]
  generalize decide (f.sym.ar3=3)=d
  cases a<;>cases b<;>cases c<;>cases d<;>simp[aA.dm,aA.fail,gu]<;>(by_cases h:p.asj=0<;>simp[h])
def aA.WS (ar4:Int) (v:dx) (p:aA):aA:=(p.dm (mq ar4 v) 102).define v.sym (v.sym.ar3==3) 100
theorem ahl (p:aA) (ar4:Int) (v:dx):fF p (p.WS ar4 v) (gu (if mq ar4 v=true then 102 else 0) (if (!bC (cB v.sym)||p.av.any fun t=>gT t (cB v.sym))=true then 100 else 0)):=by
 have hd:(decide (v.sym.ar3=3) != (v.sym.ar3==3))=false:=by by_cases h:v.sym.ar3=3<;>simp[h]
 unfold fF aA.WS aA.define;rw[hd];simp only[oq];generalize mq ar4 v=a;generalize bC (cB v.sym)=b;generalize (p.av.any fun t=>gT t (cB v.sym))=c
 cases a<;>cases b<;>cases c<;>simp[aA.dm,aA.fail,gu]<;>(by_cases h:p.asj=0<;>simp[h])
theorem Eu (v:dx):∀(l:List gH) (last:Int) (p:aA),(gZ v last l p).av=p.av/\(gZ v last l p).cells=p.cells/\(gZ v last l p).ar7=p.ar7
 | [],_,_=>⟨rfl,rfl,rfl⟩
 | r :: l,last,p=>by
  unfold gZ;obtain⟨h1,h2,h3⟩:=Eu v l r.asl (p.dm (decide (r.asl<=last)||decide ((v.ar8.length:Int)<=r.asl)|| !decide (v.sym.ar3=2)) 102);exact⟨by rw[h1];simp,by rw[h2];simp,by rw[h3];simp⟩
theorem ahm (v:dx) {l:List gH} {k:Nat} {r:gH} (h:l[k]? =some r) (p:aA):fF (gZ v (-1) (l.take k) p) (gZ v (-1) (l.take (k+1)) p) (if qp v (lastOf (-1) (l.take k)) r=true then 102 else 0)/\lastOf (-1) (l.take (k+1))=r.asl:=by
 have h2:l.take (k+1)=l.take k++[r]:=by rw[Qc,h];rfl
 rw[h2,Ep,Jg];exact⟨BM _ _ _,rfl⟩
theorem C9 {ar1:List (List UInt8)} {arT aG:List UInt8} {e:Int} {ks:List Int}:oM arT aG (p.asked ar1 arT aG e ks).1.av=((p.asked ar1 arT aG e ks).2:Int):=oN (A9 ar1 arT aG e ks p)
theorem aiQ (u x:Int) (p:aA):(p.cell u x).1.sz<=p.sz+1:=by
 have h:=rO u x p;have h1:(p.cell u x).1.av=p.av:=rfl;have h2:(p.cell u x).1.ar7=p.ar7:=rfl;unfold aA.sz;rw[h1,h2];omega
structure iV (B pb:Nat) (sv:bN) (s:aM) (v:bG) (w:World) (bs:List (Nat × Obj)) (q:aA) (w':World):Prop where
 ex:∃v',gM B pb w' sv s v' q/\aU pb v v' w w'/\∀b∈bs,w'.heap[b.1]? =some b.2/\Kept pb v' w' b.1
section
variable {B pb : Nat} {sv : bN} {s : aM} {v : bG} {w w1 w2 : World} {bs : List (Nat × Obj)} {p q : aA}
theorem gM.Qn (h:gM B pb w sv s v p):iV B pb sv s v w [] p w:=⟨v,h,aU.refl _ _ _,fun b hb=>by cases hb⟩
theorem iV.size (h:iV B pb sv s v w bs q w1):w.heap.size<=w1:=by
 obtain⟨v',_,h2,_⟩:=h.ex;exact h2.step.size
theorem iV.low (h:iV B pb sv s v w bs q w1) (hM:gM B pb w sv s v p) (hB:B<=w):Below B w w1:=by
 obtain⟨v',_,h2,_⟩:=h.ex;exact h2.aoh hM hB
theorem iV.box (h:iV B pb sv s v w bs q w1) {b:Nat} {xs:List Value} {t:TypeId} (hb:(b,Obj.cells xs.toArray t (0,0))∈bs) (i:Nat) (u:Value) (hu:xs[i]? =some u):w1.cell? (ak b i)=some u:=by
 obtain⟨v',_,_,h3⟩:=h.ex;rw[Lib.cell_of_heap (h3 _ hb).1];simpa using hu
theorem iV.sub {bs':List (Nat × Obj)} (h:iV B pb sv s v w bs q w1) (hb:∀b∈bs',b∈bs):iV B pb sv s v w bs' q w1:=by
 obtain⟨v',h1,h2,h3⟩:=h.ex;exact⟨v',h1,h2,fun b hb'=>h3 b (hb b hb')⟩
theorem iV.same (h:iV B pb sv s v w bs p w1) (h1:q.av=p.av) (h2:q.cells=p.cells) (h3:q.ar7=p.ar7):iV B pb sv s v w bs q w1:=by
 obtain⟨v',k1,k2,k3⟩:=h.ex;exact⟨v',k1.same h1 h2 h3,k2,k3⟩
theorem iV.spec (h:iV B pb sv s v w bs q w1) (i:Nat) (u:Value) (hu:(kL sv s)[i]? =some u):w1.cell? (ak pb i)=some u:=by
 obtain⟨v',h1,_⟩:=h.ex;exact h1.cell i u (by unfold wG;rw[List.getElem?_append_left (List.getElem?_eq_some_iff.1 hu).1];exact hu)
theorem iV.more {v1 v2:bG} (h2:aU pb v v1 w w1) (h3:∀b∈bs,w1.heap[b.1]? =some b.2/\Kept pb v1 w1 b.1) (hM:gM B pb w2 sv s v2 q) (hs:aU pb v1 v2 w1 w2):iV B pb sv s v w bs q w2:=
 ⟨v2,hM,h2.trans hs,fun b hb=>⟨(hs.block (h3 b hb).2).trans (h3 b hb).1,hs.kept (h3 b hb).2⟩⟩
theorem iV.below (h:iV B pb sv s v w bs q w1) (hB:B<=w) (hb:Below w1 w1 w2):iV B pb sv s v w bs q w2:=by
 have hz:=h.size;obtain⟨v',h1,h2,h3⟩:=h.ex;exact .more h2 h3 (h1.below wP hb) (aU.below hb)
theorem iV.row (h:iV B pb sv s v w bs q w1) (hB:B<=w) (o cs:Array Value) (t:TypeId) (hc:cs.size=o.size):iV B pb sv s v w ((w1.heap.size,.cells cs t (0,0)) :: bs) q ((w1.alloc (.cells o t (0,0))).setRow w1.heap.size cs):=by
 have hz:=h.size;have hb:Below w1 w1 ((w1.alloc (.cells o t (0,0))).setRow w1.heap.size cs):=((Step.of_below ((Below.refl _ w1).alloc (oD _) (.cells o t (0,0)))).trans ((show Step (fun c=>c≠w1.heap.size) (w1.alloc (.cells o t (0,0))) ((w1.alloc (.cells o t (0,0))).setRow w1.heap.size cs)from⟨rfl,rfl,rfl,arG,fun c hc=>setRow_other _ _ _ _ hc⟩).imp (fun c h=>by have h:c<w1:=h;show c≠_;omega))).below;obtain⟨v',h1,h2,h3⟩:=h.ex;refine⟨v',h1.below wP hb,h2.trans (aU.below hb),fun b hb'=> ?_⟩;rcases Y1.1 hb' with rfl | hb'
 ·exact⟨setRow_heap _ _ _ _ _ _ (ah2 _ _),⟨arG,fun e=>by have h4:=h1.lt;have e:w1.heap.size=pb:=e;omega,fun hh=>by have h4:=(h1.qf hh).2.1;have h4:w1.heap.size<w1:=h4;omega⟩⟩
 ·exact⟨(hb.block _ (h3 b hb').2.lt).trans (h3 b hb').1,(h3 b hb').2.below hb⟩
theorem iV.asg (h:iV B pb sv s v w bs q w1) (x:bF) (hx:lJ x) (hl:q.sz<=1000000) (hB:B<=w):
  Calls asq 119 #[aQ pb,.agg (arK x)] w1 fun r w2=>r=.returned (ah (if (!bC (cB x)||q.av.any fun t=>gT t (cB x))=true then 100 else 0))/\iV B pb sv s v w bs {q with av:=q.av++[cB x]} w2:=by
 have hz:=h.size;obtain⟨v',h1,h2,h3⟩:=h.ex;refine(aaH x hx h1 wP (by unfold aA.sz at hl;omega)).mono ?_;rintro r w2 ⟨v2,rfl,hM,hs⟩;exact⟨rfl,.more h2 h3 hM hs⟩
theorem iV.asks (h:iV B pb sv s v w bs q w1) (arT aG:List UInt8) (fr e:Int) (hfr:fr=1∨fr=2∨fr=3∨fr=4) (hn:gU arT) (hv:gU aG) (hl:q.sz<=999999) (hB:B<=w):
  Calls asq 121 #[aQ pb,.agg #[ax arT,ax aG,ah fr],ah e] w1 fun r w2=>∃code,r=.returned (ah code)/\fF q (q.asked s.ar1 arT aG e (iC fr)).1 code/\iV B pb sv s v w bs (q.asked s.ar1 arT aG e (iC fr)).1 w2:=by
 have hz:=h.size;obtain⟨v',h1,h2,h3⟩:=h.ex;refine(ahc arT aG fr e hfr hn hv h1 wP (by unfold aA.sz at hl;omega)).mono ?_;rintro r w2 ⟨code,v2,rfl,ht,hM,hs⟩;exact⟨code,rfl,ht,.more h2 h3 hM hs⟩
theorem iV.means (h:iV B pb sv s v w bs q w1) (arT aG:List UInt8) (hl:q.sz<=1000000) (hB:B<=w):
  Calls asq 75 #[aQ pb,ax arT,ax aG] w1 fun r w2=>r=.returned (ah (oM arT aG q.av))/\iV B pb sv s v w bs q w2:=by
 have hz:=h.size;obtain⟨v',h1,h2,h3⟩:=h.ex;refine(wH arT aG h1 wP (by unfold aA.sz at hl;omega)).mono ?_;rintro r w2 ⟨rfl,hb⟩;exact⟨rfl,h.below hB hb⟩
theorem iV.jump (h:iV B pb sv s v w bs q w1) (x:Int) (hl:q.sz<=1000000) (hB:B<=w):
  Calls asq 122 #[aQ pb,ah x] w1 fun r w2=>r=.returned (.tuple #[])/\iV B pb sv s v w bs (q.jump x) w2:=by
 have hz:=h.size;obtain⟨v',h1,h2,h3⟩:=h.ex;refine(ahb x h1 wP (by unfold aA.sz at hl;omega)).mono ?_;rintro r w2 ⟨v2,rfl,hM,hs⟩;exact⟨rfl,.more h2 h3 hM hs⟩
theorem iV.put (h:iV B pb sv s v w bs q w1) (u0 x:Int) (hu:0<=u0/\u0<=3) (hl:q.sz<=1000000) (hB:B<=w):
  Calls asq 123 #[aQ pb,ah (qN u0),ah x] w1 fun r w2=>r=.returned (.tuple #[])/\iV B pb sv s v w bs (q.cell u0 x).1 w2:=by
 have hz:=h.size;obtain⟨v',h1,h2,h3⟩:=h.ex;refine(aiE u0 x hu h1 wP (by unfold aA.sz at hl;omega)).mono ?_;rintro r w2 ⟨v2,rfl,hM,hs⟩;exact⟨rfl,.more h2 h3 hM hs⟩
end
theorem Yf {i:Nat} {x:dx} (h:s.vars[i]? =some x):(aN s p).vars.getD i 0=if x.sym.ar3=3 then kJ (s.vars.take i) else (aN s p).bW+8*(p.ar7.length:Int)+jh (s.vars.take i):=by
 rw[akT h];unfold aiD;rw[h]
theorem aaL (n0:Nat) (hn0:n0<s.vars.length) (hM:gM B pb w sv s v p) (hB:B<=w) (hll:s.ar5.length<=2000) (iM:p.ar7.length<=2000) (hnc:p.cells.length<=4000) (hwd:(s.vars.flatMap (·.ar8)).length<=2000):
  Calls asq 74 #[aQ pb,ah (n0:Int)] w fun e w'=>e=.returned (ah ((aN s p).vars.getD n0 0))/\Below w w w':=by
 have DR:=aj (Ir p.ar7.length iM hM hB hll iM hnc);have hg:=rJ (p:=p) hll iM;obtain⟨x0,hx0⟩:∃x,s.vars[n0]? =some x:=⟨_,gP hn0⟩;have HV:=aj (Yf (p:=p) hx0);have Zx:=aj hx0;have hP:(aN s p).bW=(aN s p).got+8*(p.cells.length:Int):=rfl;have c11:=hM.c11;obtain⟨ja,jc,hj⟩:=hM.ar7.form;rw[hj]at c11;obtain⟨va,vb,vo,vc,hf,xQ,_,hat⟩:=hM.spec.vars.at;have dP:=aj hat;have ha:=hat.addr;have c5:=hM.c5;rw[hf]at c5;have hpl:=hM.lt;have TT:=aj (fun k=>xL (s.vars.take k));have TV:=aj (fun k=>eG (Ac s.vars k) hwd);obtain ⟨base,hbase⟩:=aiG ((aN s p).bW+8*(p.ar7.length:Int));have hb1:0<=base:=wP;have hb2:base<=2000000:=wP;rw[<-hbase]at DR HV;generalize s.vars=vs at *;obtain ⟨nj,pQ⟩:=aiG p.ar7.length;rw[<-pQ]at c11 DR;obtain ⟨n,hn⟩:=aiG vs.length;have Hn:=aj hn;rw[<-hn]at xQ ha c5 hn0;have DT:Hid (∀wr,Below w w wr->wr.cell? (ak pb 5)=some (.slice va n vc)):=aj (fun wr hb=>(hb.cell (p:=(ak pb 5)) hpl).trans c5);generalize (aN s p).vars.getD n0 0=res at *;clear hM hf hj hat hn pQ hbase hll iM hnc hwd hg hP c5 hx0;go_enter Tryz.func74,Tryz.ntmps74;go_wp2_with fail;refine DR.af.mono ?_;rintro e w2 ⟨rfl,RQ⟩;have Hb2:=aj RQ;have c5:=DT.af w2 RQ;clear RQ DR c11;go_wp2_with fail;go_loop [5,6,7] (fun at_ t i=>∃k:Nat,at_=ah (base+jh (vs.take k))/\t=ah (kJ (vs.take k))/\i=ah k/\k<=n0) (fun _ _ i=>n0-(intOf i).toNat);exact⟨0,by simp[jh],by simp[kJ],rfl,alg _⟩;obtain⟨k,rfl,rfl,rfl,hk⟩:=hrel;obtain rfl:=ha wP;have hr:=TT.af k;have hw:=TV.af k;obtain⟨x,hx⟩:∃x,vs[k]? =some x:=⟨_,gP (by rw[<-Hn.af];omega)⟩;obtain⟨wv,rv,hwv,_,_,_,_,_,k3,_,_,_,_,_,k9,_,_⟩:=dP.af.rZ (Hb2.af.mono hB) k x hx;obtain⟨wa,wc,rfl⟩:=hwv.form;by_cases hlt:k<n0
 ·have HN:=aj (TU hx)
  have hr2:=TT.af (k+1);have hw2:=TV.af (k+1);have hki:(k:Int)<(n0:Int):=wP;have hkn:(k:Int)<(n:Int):=wP;obtain ⟨wn,hwn⟩:=aiG x.ar8.length;rw[<-hwn]at k9 HN;clear hx hwv hwn;by_cases h3:x.sym.ar3=3
  ·have hb:(x.sym.ar3==3)=true:=by simp[h3]
   have h1:jh (vs.take (k+1))=jh (vs.take k):=by rw[HN.af.1,if_pos h3];omega
   have h2:kJ (vs.take (k+1))=kJ (vs.take k)+8*(wn:Int):=by rw[HN.af.2,if_pos h3];omega
   have o1:IntKind.i64.wrap (8*(wn:Int))=8*(wn:Int):=iJ _ wP;have o2:IntKind.i64.wrap (kJ (vs.take k)+8*(wn:Int))=kJ (vs.take (k+1)):=by rw[h2];exact iJ _ wP
   have H1:=aj h1;clear h1 h2 h3 HN hr hr2;go_wp2;go_round;exact⟨k+1,by rw[H1.af],rfl,arH,wP⟩;simp[intOf];omega
  ·have hb:(x.sym.ar3==3)=false:=by simp[h3]
   have h1:jh (vs.take (k+1))=jh (vs.take k)+8*(wn:Int):=by rw[HN.af.1,if_neg h3];omega
   have h2:kJ (vs.take (k+1))=kJ (vs.take k):=by rw[HN.af.2,if_neg h3];omega
   have o1:IntKind.i64.wrap (8*(wn:Int))=8*(wn:Int):=iJ _ wP;have o2:IntKind.i64.wrap (base+jh (vs.take k)+8*(wn:Int))=base+jh (vs.take (k+1)):=by rw[h1,<-Int.add_assoc];exact iJ _ wP
   have H2:=aj h2;clear h1 h2 h3 HN hr hr2;go_wp2;go_round;exact⟨k+1,rfl,by rw[H2.af],arH,wP⟩;simp[intOf];omega
 ·obtain rfl:k=n0:=wP
  obtain rfl:x=x0:=by have:=Zx.af;rw[hx]at this;exact qY this
  have hkn:(k:Int)<(n:Int):=wP;clear hx hwv k9 hr;by_cases h3:x.sym.ar3=3
  ·have hb:(x.sym.ar3==3)=true:=by simp[h3]
   have HR:Hid (kJ (vs.take k)=res):=aj (by rw[HV.af,if_pos h3]);rw[HR.af];clear h3 HV;go_wp2;go_ret;exact⟨rfl,Hb2.af⟩
  ·have hb:(x.sym.ar3==3)=false:=by simp[h3]
   have HR:Hid (base+jh (vs.take k)=res):=aj (by rw[HV.af,if_neg h3]);rw[HR.af];clear h3 HV;go_wp2;go_ret;exact⟨rfl,Hb2.af⟩
theorem aiR (reg u0 sym at_:Int) (hu0:0<=u0/\u0<=3) (i:Nat) (hi:p.cells.findIdx? (fun y=>decide (y=(u0,sym)))=some i) (ha:0<=at_/\at_<=1000000) (hM:gM B pb w sv s v p) (hB:B<=w) (hll:s.ar5.length<=2000) (iM:p.ar7.length<=2000) (hnc:p.cells.length<=4000):
  Calls asq 128 #[aQ pb,ah reg,ah (qN u0),ah sym,ah at_] w fun e w'=>e=.returned (.agg #[ah 11,ah reg,ah 0,ah 0,ah ((aN s p).got+8*(i:Int)-at_-8)])/\Below w w w':=by
 have hg:=rJ (p:=p) hll iM;have hil:i<p.cells.length:=(List.findIdx?_eq_some_iff_findIdx_eq.1 hi).1;have HC:=aj (fun w' (hb:Below w w w')=>ahk u0 sym hu0 i hi (hM.below hB hb) (eG hB hb.size) hll iM hnc);obtain ⟨g,hg2⟩:=aiG ((aN s p).got+8*(i:Int));rw[<-hg2]at HC ⊢;have h0:0<=g/\g<=2000000:=wP;have o1:IntKind.i64.wrap (g-at_)=g-at_:=iJ _ wP;have o2:IntKind.i64.wrap (g-at_-8)=g-at_-8:=iJ _ wP;have F0:=aj (ah2 w (aB #[ah 0,ah 0,ah 0,ah 0,ah 0] 58));have B0:=aj ((Below.refl w.heap.size w).alloc (oD _) (aB #[ah 0,ah 0,ah 0,ah 0,ah 0] 58));have wJ:w.heap.size<(w.alloc (aB #[ah 0,ah 0,ah 0,ah 0,ah 0] 58)):=arG;clear hM hi hg2 hg hil;go_enter Tryz.func128,Tryz.ntmps128;go_upto_region 1 with fail
 generalize w.alloc (aB #[ah 0,ah 0,ah 0,ah 0,ah 0] 58)=w1 at *;go_wp2_with fail;refine(HC.af w1 B0.af).mono ?_;rintro e w2 ⟨rfl,hb2⟩;have F2:=aj ((hb2.block w.heap.size wJ).trans F0.af);have B2:=aj (B0.af.trans (hb2.mono (Nat.le_of_lt wJ)));clear hb2 HC;go_wp2_with (refine wpList_store_row rfl 58 (.tmp 10) (.tmp 19) rfl w.heap.size (#[.int .i64 11,.int .i64 reg,.int .i64 0,.int .i64 0,.int .i64 (g-at_-8)]) rfl rfl _ _ F2.af TA rfl (by simp[Value.oneCell']) ?_);have FR:=aj (setRow_heap _ w.heap.size _ (#[ah 11,ah reg,ah 0,ah 0,ah (g-at_-8)]) _ _ F2.af);have B3:=aj (((Step.of_below B2.af).trans ((show Step (fun b=>b≠w.heap.size) w2 (w2.setRow w.heap.size #[ah 11,ah reg,ah 0,ah 0,ah (g-at_-8)])from⟨rfl,rfl,rfl,arG,fun b hb=>setRow_other _ _ _ _ hb⟩).imp (fun b h=>by have h:b<w:=h;show b≠_;omega))).below);go_wp2_with fail;refine bodyPost_ret (results_cell_row rfl _ _ w.heap.size _ _ _ _ rfl FR.af Tryz.underlying58 rfl TA) rfl ?_;exact⟨rfl,B3.af⟩
def iG (im:bK) (s:bF) (r:iE):Bool:=
 if r.ar3=0∨r.ar3=6 then decide (s.ar3≠3)
 else if r.ar3=7 then decide (r.add=0)
 else if r.ar3=3 then decide (s.ar3=3)&&decide (r.add=0)
 else if r.ar3=4∨r.ar3=5 then decide (s.ar3=3)
 else if r.ar3=2 then decide (s.ar3=2)&&s.asg&&decide (1<=s.size)&&decide (s.value=r.at_)&&decide (r.add=0)&&decide (im.ar4%2=1)
 else false
def je (r:iE):Int:=if r.ar3=2 then 2 else 0
theorem ab5 {r:iE} (h1:r.ar3=1):kz im r=(decide (r.sym= -1)&&decide (0<=r.add)&&decide (r.add<=65536)&&bZ im.aI r.at_ 8 0):=by rw[kz,if_pos h1]
theorem QS {r:iE} (h1:r.ar3≠1) (h:gX im r.sym=none):kz im r=false:=by rw[kz,if_neg h1,h]
theorem ab6 {r:iE} {s:bF} (h1:r.ar3≠1) (h:gX im r.sym=some s):
  kz im r=(decide (-4294967296<=r.add)&&decide (r.add<=4294967296)&&(iG im s r&&bZ im.aI r.at_ (eU im r) (je r))):=by
 have hw:=Bh h;rw[kz,if_neg h1,h,iG,je];simp only[];by_cases k0:r.ar3=0∨r.ar3=6
 ·rw[if_pos k0,if_pos k0,hw,if_neg wP,if_neg wP]
 rw[if_neg k0,if_neg k0];by_cases k7:r.ar3=7
 ·rw[if_pos k7,if_pos k7,hw,if_neg wP,if_neg wP]
 rw[if_neg k7,if_neg k7];by_cases k3:r.ar3=3
 ·rw[if_pos k3,if_pos k3,hw,if_neg wP,if_neg wP]
 rw[if_neg k3,if_neg k3];by_cases k4:r.ar3=4∨r.ar3=5
 ·rw[if_pos k4,if_pos k4,hw,if_neg wP,if_neg wP]
 rw[if_neg k4,if_neg k4];by_cases k2:r.ar3=2
 ·rw[if_pos k2,if_pos k2,hw,if_pos k2,if_pos k2]
  cases decide (s.ar3=2)<;>cases s.asg<;>cases decide (1<=s.size)<;>cases decide (s.value=r.at_)<;>cases decide (im.ar4%2=1)<;>cases decide (r.add=0)<;>simp
 ·rw[if_neg k2,if_neg k2];simp
theorem ahn (w:World) (v:jv) (im:bK) (r:iE) (hs:LB rQ (·<w.heap.size) w v.aI im.aI) (hok:∀s∈im.aI,CU s) (hy:LB gq (·<w.heap.size) w v.av im.av) (hfl:0<=im.ar4/\im.ar4<16)
  (hrs: -9223372036854775808<=r.sym/\r.sym<=9223372036854775807) (hra: -9223372036854775808<=r.at_/\r.at_<=9223372036854775807) (hrd: -9223372036854775808<=r.add/\r.add<=9223372036854775807) (hsz:∀s∈im.av,0<=s.size/\s.size<=9223372036854775807):
  Calls asq 140 #[.agg (aW v im),.agg #[ah r.at_,ah r.ar3,ah r.sym,ah r.add]] w fun e w'=>e=.returned (.bool (kz im r))/\Below w w w':=by
 obtain⟨sa,sb,yu,jO,hsv,hsm,hsc,hat⟩:=hy.at;obtain⟨eO,cK,bR,gF,bS,dK,d9,ek,fM,fO,iH⟩:=v;simp only at hsv;subst hsv
 have HH:Hid (∀(w':World) (x n p:Int),Below w w w'->(-9223372036854775808<=x/\x<=9223372036854775807)->(0<=n/\n<=9223372036854775807)->p=0∨p=2∨p=4->
  Calls asq 136 #[.agg (aW ⟨eO,cK,bR,.slice sa im.av.length jO,bS,dK,d9,ek,fM,fO,iH⟩ im),ah x,ah n,ah p] w' fun e w''=>e=.returned (.bool (bZ im.aI x n p))/\Below w' w' w''):=aj (fun w' x n p hb hx hn hp=>CV w' _ im x n p ((hs.below hb).mono hb.size) hok hx hn hp)
 have HW:Hid (∀(w':World),Below w w w'->
  Calls asq 141 #[.agg (aW ⟨eO,cK,bR,.slice sa im.av.length jO,bS,dK,d9,ek,fM,fO,iH⟩ im),.agg #[ah r.at_,ah r.ar3,ah r.sym,ah r.add]] w' fun e w''=>e=.returned (ah (eU im r))/\Below w' w' w''):=aj (fun w' hb=>NZ w' _ im r ((hy.below hb).mono hb.size))
 unfold aW at *;have dP:=aj hat;have lX:=aj hsz;have hf1:=hfl.1;have hf2:=hfl.2;clear hs hok hy hfl hsz hat;generalize hI:(Array.mk [ax im.arT,ah im.ar4,eO,cK,bR,.slice sa im.av.length jO,bS,dK,ah im.ase,d9,ek,fM,fO,iH,ah im.aJ]:Array Value)=I at HH HW;have F0:=aj (ah2 w (.cells I 44 (0,0)));have B1:=aj (((Below.refl w.heap.size w).alloc (oD _) (.cells I 44 (0,0))).alloc arG (aB #[ah r.at_,ah r.ar3,ah r.sym,ah r.add] 122));have G0:=aj (ah2 (w.alloc (.cells I 44 (0,0))) (aB #[ah r.at_,ah r.ar3,ah r.sym,ah r.add] 122));have F1:=aj ((dX (w.alloc (.cells I 44 (0,0))) (aB #[ah r.at_,ah r.ar3,ah r.sym,ah r.add] 122) arG).trans F0.af);have hz1:((w.alloc (.cells I 44 (0,0))).alloc (aB #[ah r.at_,ah r.ar3,ah r.sym,ah r.add] 122)).heap.size=w.heap.size+2:=arG;rw[World.size_alloc]at G0;subst hI;go_enter Tryz.func140,Tryz.ntmps140;go_upto_region 1 with fail
 generalize (w.alloc (aB #[ax im.arT,ah im.ar4,eO,cK,bR,.slice sa im.av.length jO,bS,dK,ah im.ase,d9,ek,fM,fO,iH,ah im.aJ] 44)).alloc (aB #[ah r.at_,ah r.ar3,ah r.sym,ah r.add] 122)=w1 at *;have hz1':w.heap.size+1<w1.heap.size:=wP;clear hz1;have r0:w1.cell? (ak (w+1) 0)=some (ah r.at_):=aL G0.af rfl;have r1:w1.cell? (ak (w+1) 1)=some (ah r.ar3):=aL G0.af rfl;have r2:w1.cell? (ak (w+1) 2)=some (ah r.sym):=aL G0.af rfl;have r3:w1.cell? (ak (w+1) 3)=some (ah r.add):=aL G0.af rfl;obtain⟨i0,i1,i2,i3,i4,i5,i6,i7,i8,i9,dV,i11,i12,dZ,eB⟩:=bY F1.af;by_cases k1:r.ar3=1
 case pos=>
  have b1:(r.ar3==1)=true:=by rw[beq_iff_eq];exact k1
  have HR:=aj (ab5 (im:=im) k1);by_cases p0:r.sym= -1
  case neg=>
   have q0:(r.sym== -1)=false:=by rw[arM];assumption
   have Hr:Hid (kz im r=false):=aj (by rw[HR.af,decide_eq_false (p:=r.sym= -1) p0];simp);go_wp2;go_ret;exact⟨by rw[Hr.af];rfl,B1.af⟩
  have q0:(r.sym== -1)=true:=by rw[beq_iff_eq];assumption
  by_cases p1:0<=r.add
  case neg=>
   have q1:decide (0<=r.add)=false:=by rw[arN];assumption
   have Hr:Hid (kz im r=false):=aj (by rw[HR.af,decide_eq_false (p:=0<=r.add) p1];simp);go_wp2;go_ret;exact⟨by rw[Hr.af];rfl,B1.af⟩
  have q1:decide (0<=r.add)=true:=by rw[arI];assumption
  by_cases p2:r.add<=65536
  case neg=>
   have q2:decide (r.add<=65536)=false:=by rw[arN];assumption
   have Hr:Hid (kz im r=false):=aj (by rw[HR.af,decide_eq_false (p:=r.add<=65536) p2];simp);go_wp2;go_ret;exact⟨by rw[Hr.af];rfl,B1.af⟩
  have q2:decide (r.add<=65536)=true:=by rw[arI];assumption
  have Hr:Hid (kz im r=bZ im.aI r.at_ 8 0):=aj (by rw[HR.af,decide_eq_true (p:=r.sym= -1) p0,decide_eq_true (p:=0<=r.add) p1,decide_eq_true (p:=r.add<=65536) p2];simp);have Hh:=aj (HH.af w1 r.at_ 8 0 B1.af hra abD abD);go_wp2_with fail;refine Hh.af.mono ?_;rintro e w4 ⟨rfl,hb4⟩;have B4:=aj (B1.af.trans (hb4.mono wP));clear hb4 i0 i1 i2 i3 i4 i5 i6 i7 i8 i9 dV i11 i12 dZ eB r0 r1 r2 r3;go_wp2;go_ret;exact⟨by rw[Hr.af];rfl,B4.af⟩
 have b1:(r.ar3==1)=false:=by rw[arM];exact k1
 by_cases t0:r.sym<0
 case pos=>
  have d0:decide (r.sym<0)=true:=by rw[arI];exact t0
  have Hr:=aj (QS (im:=im) k1 (G8 im r.sym t0));go_wp2;go_ret;exact⟨by rw[Hr.af];rfl,B1.af⟩
 have d0:decide (r.sym<0)=false:=by rw[arN];exact t0
 by_cases t1:(im.av.length:Int)<=r.sym
 case pos=>
  have d1:decide ((im.av.length:Int)<=r.sym)=true:=by rw[arI];exact t1
  have Hr:=aj (QS (im:=im) k1 (G9 im r.sym t1));go_wp2;go_ret;exact⟨by rw[Hr.af];rfl,B1.af⟩
 have d1:decide ((im.av.length:Int)<=r.sym)=false:=by rw[arN];exact t1
 obtain⟨k,hk⟩:∃k:Nat,r.sym=k:=⟨r.sym.toNat,wP⟩;have hlt:k<im.av.length:=wP;obtain rfl:=dP.af.addr wP;obtain⟨s,hx⟩:∃s,im.av[k]? =some s:=⟨_,gP hlt⟩;have hsa:gX im r.sym=some s:=by rw[hk];exact Kw im k s hx
 have Iu:=aj (ab6 k1 hsa);have Hwd:Hid (r.ar3≠2->eU im r=8):=aj (fun h=>by rw[Bh hsa,if_neg h]);have alJ:Hid (r.ar3=2->eU im r=s.size):=aj (fun h=>by rw[Bh hsa,if_pos h]);have aon:=lX.af s (qa hsa).2.2;by_cases t2: -4294967296<=r.add
 case neg=>
  have d2:decide (r.add < -4294967296)=true:=by rw[arI];omega
  have Hr:Hid (kz im r=false):=aj (by rw[Iu.af,decide_eq_false (p:= -4294967296<=r.add) t2];rfl);clear hsa Iu;go_wp2;go_ret;exact⟨by rw[Hr.af];rfl,B1.af⟩
 have d2:decide (r.add < -4294967296)=false:=by rw[arN];omega
 by_cases t3:r.add<=4294967296
 case neg=>
  have d3:decide (4294967296<r.add)=true:=by rw[arI];omega
  have Hr:Hid (kz im r=false):=aj (by rw[Iu.af,decide_eq_false (p:=r.add<=4294967296) t3];simp);clear hsa Iu;go_wp2;go_ret;exact⟨by rw[Hr.af];rfl,B1.af⟩
 have d3:decide (4294967296<r.add)=false:=by rw[arN];omega
 have HR:Hid (kz im r=(iG im s r&&bZ im.aI r.at_ (eU im r) (je r))):=aj (by rw[Iu.af,decide_eq_true (p:= -4294967296<=r.add) t2,decide_eq_true (p:=r.add<=4294967296) t3];rfl)
 have hwd:0<=eU im r/\eU im r<=9223372036854775807:=by
  by_cases h2:r.ar3=2
  ·rw[alJ.af h2];exact aon
  ·rw[Hwd.af h2];omega
 have hpm:je r=0∨je r=2∨je r=4:=by unfold je;split<;>simp
 clear hsa Iu;obtain⟨hso,g0,g1,g2,g3,g4,g5,g6,g7,g8⟩:=(dP.af.below B1.af).rR k s hx;have hsb:=World.block_lt_of_cell? _ _ g0;have S3:=aj (ah2 w1 (aB (arK s) 54));have G3:=aj ((dX w1 (aB (arK s) 54) (r:=w.heap.size+1) wP).trans G0.af);have F3:=aj ((dX w1 (aB (arK s) 54) (r:=w.heap.size) wP).trans F1.af);have B3:=aj (B1.af.alloc wP (aB (arK s) 54));have aoo:=hra;clear hx;rw[hk]at r2;go_upto_region 6 with fail
 have hz3:(w1.alloc (aB (arK s) 54)).heap.size=w1.heap.size+1:=arG;generalize w1.alloc (aB (arK s) 54)=w3 at *;clear i0 i1 i2 i3 i4 i5 i6 i7 i8 i9 dV i11 i12 dZ eB r0 r1 r2 r3 g0 g1 g2 g3 g4 g5 g6 g7 g8 d0 d1 d2 d3 t0 t1 t2 t3;have r0:w3.cell? (ak (w+1) 0)=some (ah r.at_):=aL G3.af rfl;have r1:w3.cell? (ak (w+1) 1)=some (ah r.ar3):=aL G3.af rfl;have r2:w3.cell? (ak (w+1) 2)=some (ah r.sym):=aL G3.af rfl;have r3:w3.cell? (ak (w+1) 3)=some (ah r.add):=aL G3.af rfl;obtain⟨i0,i1,i2,i3,i4,i5,i6,i7,i8,i9,dV,i11,i12,dZ,eB⟩:=bY F3.af;obtain⟨c0,c1,c2,c3,c4,c5,c6,c7,c8⟩:=lK S3.af;go_upto_block 0 with fail
 go_cut [6,7,8] (fun s6 s7 s8 wx=>s6=.bool (s.ar3==3)/\s7=ah (je r)/\s8=.bool (iG im s r)/\wx=w3)
 case first=>
  by_cases k0:r.ar3=0
  case pos=>
   have b0:(r.ar3==0)=true:=by rw[beq_iff_eq];exact k0
   have hp:je r=0:=by rw[je,if_neg wP]
   by_cases h3:s.ar3=3
   ·have e3:(s.ar3==3)=true:=by rw[beq_iff_eq];exact h3
    have Ho:Hid (iG im s r=false):=aj (by rw[iG,if_pos wP];simp[h3]);clear h3 k0;go_wp2_with fail;go_meet;exact⟨by first | rfl | rw[e3],by rw[hp],by rw[Ho.af],rfl⟩
   ·have e3:(s.ar3==3)=false:=by rw[arM];exact h3
    have Ho:Hid (iG im s r=true):=aj (by rw[iG,if_pos wP];simp[h3]);clear h3 k0;go_wp2_with fail;go_meet;exact⟨by first | rfl | rw[e3],by rw[hp],by rw[Ho.af],rfl⟩
  have b0:(r.ar3==0)=false:=by rw[arM];exact k0
  by_cases k6:r.ar3=6
  case pos=>
   have b6:(r.ar3==6)=true:=by rw[beq_iff_eq];exact k6
   have hp:je r=0:=by rw[je,if_neg wP]
   by_cases h3:s.ar3=3
   ·have e3:(s.ar3==3)=true:=by rw[beq_iff_eq];exact h3
    have Ho:Hid (iG im s r=false):=aj (by rw[iG,if_pos wP];simp[h3]);clear h3 k6;go_wp2_with fail;go_meet;exact⟨by first | rfl | rw[e3],by rw[hp],by rw[Ho.af],rfl⟩
   ·have e3:(s.ar3==3)=false:=by rw[arM];exact h3
    have Ho:Hid (iG im s r=true):=aj (by rw[iG,if_pos wP];simp[h3]);clear h3 k6;go_wp2_with fail;go_meet;exact⟨by first | rfl | rw[e3],by rw[hp],by rw[Ho.af],rfl⟩
  have b6:(r.ar3==6)=false:=by rw[arM];exact k6
  by_cases k7:r.ar3=7
  case pos=>
   have b7:(r.ar3==7)=true:=by rw[beq_iff_eq];exact k7
   have hp:je r=0:=by rw[je,if_neg wP]
   have Ho:Hid (iG im s r=(r.add==0)):=aj (by rw[iG,if_neg wP,if_pos wP];rw[Bool.eq_iff_iff];simp);clear k7;go_wp2_with fail;go_meet;exact⟨by first | rfl | rw[e3],by rw[hp],by rw[Ho.af],rfl⟩
  have b7:(r.ar3==7)=false:=by rw[arM];exact k7
  by_cases k3:r.ar3=3
  case pos=>
   have b3:(r.ar3==3)=true:=by rw[beq_iff_eq];exact k3
   have hp:je r=0:=by rw[je,if_neg wP]
   by_cases h3:s.ar3=3
   ·have e3:(s.ar3==3)=true:=by rw[beq_iff_eq];exact h3
    have Ho:Hid (iG im s r=(r.add==0)):=aj (by rw[iG,if_neg wP,if_neg wP,if_pos wP];rw[Bool.eq_iff_iff];simp[h3]);clear h3 k3;go_wp2_with fail;go_meet;exact⟨by first | rfl | rw[e3],by rw[hp],by rw[Ho.af],rfl⟩
   ·have e3:(s.ar3==3)=false:=by rw[arM];exact h3
    have Ho:Hid (iG im s r=false):=aj (by rw[iG,if_neg wP,if_neg wP,if_pos wP];simp[h3]);clear h3 k3;go_wp2_with fail;go_meet;exact⟨by first | rfl | rw[e3],by rw[hp],by rw[Ho.af],rfl⟩
  have b3:(r.ar3==3)=false:=by rw[arM];exact k3
  by_cases k4:r.ar3=4
  case pos=>
   have b4:(r.ar3==4)=true:=by rw[beq_iff_eq];exact k4
   have hp:je r=0:=by rw[je,if_neg wP]
   by_cases h3:s.ar3=3
   ·have e3:(s.ar3==3)=true:=by rw[beq_iff_eq];exact h3
    have Ho:Hid (iG im s r=true):=aj (by rw[iG,if_neg wP,if_neg wP,if_neg wP,if_pos wP];simp[h3]);clear h3 k4;go_wp2_with fail;go_meet;exact⟨by first | rfl | rw[e3],by rw[hp],by rw[Ho.af],rfl⟩
   ·have e3:(s.ar3==3)=false:=by rw[arM];exact h3
    have Ho:Hid (iG im s r=false):=aj (by rw[iG,if_neg wP,if_neg wP,if_neg wP,if_pos wP];simp[h3]);clear h3 k4;go_wp2_with fail;go_meet;exact⟨by first | rfl | rw[e3],by rw[hp],by rw[Ho.af],rfl⟩
  have b4:(r.ar3==4)=false:=by rw[arM];exact k4
  by_cases k5:r.ar3=5
  case pos=>
   have b5:(r.ar3==5)=true:=by rw[beq_iff_eq];exact k5
   have hp:je r=0:=by rw[je,if_neg wP]
   by_cases h3:s.ar3=3
   ·have e3:(s.ar3==3)=true:=by rw[beq_iff_eq];exact h3
    have Ho:Hid (iG im s r=true):=aj (by rw[iG,if_neg wP,if_neg wP,if_neg wP,if_pos wP];simp[h3]);clear h3 k5;go_wp2_with fail;go_meet;exact⟨by first | rfl | rw[e3],by rw[hp],by rw[Ho.af],rfl⟩
   ·have e3:(s.ar3==3)=false:=by rw[arM];exact h3
    have Ho:Hid (iG im s r=false):=aj (by rw[iG,if_neg wP,if_neg wP,if_neg wP,if_pos wP];simp[h3]);clear h3 k5;go_wp2_with fail;go_meet;exact⟨by first | rfl | rw[e3],by rw[hp],by rw[Ho.af],rfl⟩
  have b5:(r.ar3==5)=false:=by rw[arM];exact k5
  by_cases k2:r.ar3=2
  case pos=>
   have b2:(r.ar3==2)=true:=by rw[beq_iff_eq];exact k2
   have hp:je r=2:=by rw[je,if_pos k2]
   have HO:Hid (iG im s r=(decide (s.ar3=2)&&s.asg&&decide (1<=s.size)&&decide (s.value=r.at_)&&decide (r.add=0)&&decide (im.ar4%2=1))):=aj (by rw[iG,if_neg wP,if_neg wP,if_neg wP,if_neg wP,if_pos wP]);clear k2;by_cases y0:s.ar3=2
   case neg=>
    have z0:(s.ar3==2)=false:=by rw[arM];exact y0
    have Ho:Hid (iG im s r=false):=aj (by rw[HO.af,decide_eq_false (p:=s.ar3=2) y0];simp);clear y0;go_wp2_with fail;go_meet;exact⟨by first | rfl | rw[e3],by rw[hp],by rw[Ho.af],rfl⟩
   have z0:(s.ar3==2)=true:=by rw[beq_iff_eq];exact y0
   have Y0:=aj y0;clear y0
   cases hd:s.asg with
   | false=>
    rw[hd]at c6;have Ho:Hid (iG im s r=false):=aj (by rw[HO.af,hd];simp);clear hd;go_wp2_with fail;go_meet;exact⟨by first | rfl | rw[e3],by rw[hp],by rw[Ho.af],rfl⟩
   | true=>
   rw[hd]at c6;have ZM:=aj hd;clear hd;by_cases y2:1<=s.size
   case neg=>
    have z2:decide (1<=s.size)=false:=by rw[arN];exact y2
    have Ho:Hid (iG im s r=false):=aj (by rw[HO.af,decide_eq_false (p:=1<=s.size) y2];simp);clear y2;go_wp2_with fail;go_meet;exact⟨by first | rfl | rw[e3],by rw[hp],by rw[Ho.af],rfl⟩
   have z2:decide (1<=s.size)=true:=by rw[arI];exact y2
   have Y2:=aj y2;clear y2;by_cases y3:s.value=r.at_
   case neg=>
    have z3:(s.value==r.at_)=false:=by rw[arM];exact y3
    have Ho:Hid (iG im s r=false):=aj (by rw[HO.af,decide_eq_false (p:=s.value=r.at_) y3];simp);clear y3;go_wp2_with fail;go_meet;exact⟨by first | rfl | rw[e3],by rw[hp],by rw[Ho.af],rfl⟩
   have z3:(s.value==r.at_)=true:=by rw[beq_iff_eq];exact y3
   have Y3:=aj y3;clear y3;by_cases y4:r.add=0
   case neg=>
    have z4:(r.add==0)=false:=by rw[arM];exact y4
    have Ho:Hid (iG im s r=false):=aj (by rw[HO.af,decide_eq_false (p:=r.add=0) y4];simp);clear y4;go_wp2_with fail;go_meet;exact⟨by first | rfl | rw[e3],by rw[hp],by rw[Ho.af],rfl⟩
   have z4:(r.add==0)=true:=by rw[beq_iff_eq];exact y4
   have Y4:=aj y4;clear y4;by_cases y5:im.ar4%2=1
   case neg=>
    have z5:(im.ar4%2==1)=false:=by rw[arM];exact y5
    have Ho:Hid (iG im s r=false):=aj (by rw[HO.af,decide_eq_false (p:=im.ar4%2=1) y5];simp);clear y5;go_wp2_with fail;go_meet;exact⟨by first | rfl | rw[e3],by rw[hp],by rw[Ho.af],rfl⟩
   have z5:(im.ar4%2==1)=true:=by rw[beq_iff_eq];exact y5
   have Y5:=aj y5;clear y5;have Ho:Hid (iG im s r=true):=aj (by rw[HO.af,ZM.af,decide_eq_true (p:=s.ar3=2) Y0.af,decide_eq_true (p:=1<=s.size) Y2.af,decide_eq_true (p:=s.value=r.at_) Y3.af,decide_eq_true (p:=r.add=0) Y4.af,decide_eq_true (p:=im.ar4%2=1) Y5.af];rfl);go_wp2_with fail;go_meet;exact⟨by first | rfl | rw[e3],by rw[hp],by rw[Ho.af],rfl⟩
  have b2:(r.ar3==2)=false:=by rw[arM];exact k2
  have hp:je r=0:=by rw[je,if_neg k2]
  have Ho:Hid (iG im s r=false):=aj (by rw[iG,if_neg wP,if_neg wP,if_neg wP,if_neg wP,if_neg k2]);go_wp2_with fail;go_meet;exact⟨by first | rfl | rw[e3],by rw[hp],by rw[Ho.af],rfl⟩
 case rest=>
  obtain⟨rfl,rfl,rfl,rfl⟩:=hcut;have aqF:w1.heap.size<wc:=wP;clear hz3;generalize w1.heap.size=zs at *;clear hk
  cases hro:iG im s r with
  | false=>
   have Hr:Hid (kz im r=false):=aj (by rw[HR.af,hro];rfl);clear hro i0 i1 i2 i3 i4 i5 i6 i7 i8 i9 dV i11 i12 dZ eB c0 c1 c2 c3 c4 c5 c6 c7 c8;go_wp2_with fail;refine dG TA TA ?_
   repeat (go_big_quiet_step (fail))
   refine lD ?_;rintro _ ⟨⟨wq,hq⟩,rfl⟩;try simp only at hq
   have Hq:=aj hq;clear hq;go_wp2;go_ret;exact⟨by rw[Hr.af];rfl,B3.af.trans (Hq.af.mono wP)⟩
  | true=>
   have Hr:Hid (kz im r=bZ im.aI r.at_ (eU im r) (je r)):=aj (by rw[HR.af,hro];rfl);obtain⟨wd,alK⟩:∃wd,eU im r=wd:=⟨_,rfl⟩;rw[alK]at hwd Hr HW;obtain⟨pm,alL⟩:∃pm,je r=pm:=⟨_,rfl⟩;rw[alL]at hpm Hr ⊢;clear alK alL hro Hwd alJ;have l0:=fun x:Later wc=>x.cell i0
   have l1:=fun x:Later wc=>x.cell i1
   have l2:=fun x:Later wc=>x.cell i2
   have l3:=fun x:Later wc=>x.cell i3
   have l4:=fun x:Later wc=>x.cell i4
   have l5:=fun x:Later wc=>x.cell i5
   have l6:=fun x:Later wc=>x.cell i6
   have l7:=fun x:Later wc=>x.cell i7
   have l8:=fun x:Later wc=>x.cell i8
   have l9:=fun x:Later wc=>x.cell i9
   have l10:=fun x:Later wc=>x.cell dV
   have qj:=fun x:Later wc=>x.cell i11
   have Ez:=fun x:Later wc=>x.cell i12
   have EA:=fun x:Later wc=>x.cell dZ
   have EB:=fun x:Later wc=>x.cell eB
   have m0:=fun x:Later wc=>x.cell r0
   have m1:=fun x:Later wc=>x.cell r1
   have m2:=fun x:Later wc=>x.cell r2
   have m3:=fun x:Later wc=>x.cell r3
   have yC:=aj (fun w' hb=>HW.af w' hb);have HHr:=aj (fun w' hb=>HH.af w' r.at_ wd pm hb aoo hwd hpm);clear i0 i1 i2 i3 i4 i5 i6 i7 i8 i9 dV i11 i12 dZ eB r0 r1 r2 r3 c0 c1 c2 c3 c4 c5 c6 c7 c8;go_wp2_with fail;refine dG TA TA ?_
   repeat (go_big_quiet_step (first | (go_at_call 141;refine Later.call _ (yC.af _ ?_);exact B3.af.trans ((Later.h _).mono wP)) | (go_at_call 136;refine Later.call _ (HHr.af _ ?_);exact B3.af.trans ((Later.h _).mono wP))))
   refine lD ?_;rintro _ ⟨⟨wq,hq⟩,rfl⟩;try simp only at hq
   have Hq:=aj hq;clear hq;go_wp2;go_ret;exact⟨by rw[Hr.af];rfl,B3.af.trans (Hq.af.mono wP)⟩
end Go.Proofs.YtpjgjeadjjackaaGreat
