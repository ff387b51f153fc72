/- Lemmas. -/
import Derived.Test.YtpjgjeadjjackaaGreatBui3
import Derived.Test.YtpjgjeadjjackaaGreatBui2
import Derived.Deep.DeepCutAuto
import Derived.Deep.CutBlock
import Derived.Deep.RegionHeld
set_option linter.unusedVariables false
set_option linter.unusedSimpArgs false
set_option maxHeartbeats 64000000
set_option maxRecDepth 100000
namespace Go.Proofs.YtpjgjeadjjackaaGreat
open Go.RowKit
open Go renaming heap_alloc_new->ah2
open Go.Lib renaming frozen_of_heap->vV,cell_of_heap->aV
open Go.RowKit.Below renaming refl->PZ
open _root_.Nat renaming le_refl->oD,zero_le->alg
variable {s:aM}{t:bF}{w:World}{v:bG}{B pb:Nat}{sv:bN}{own:Int}{p:aA}{arT aG:List UInt8}
def FV (s:bF):Array Value:=(arK s)
theorem yE:(Tryz.prog.info? 54).map (fun i=>(i.zero,i.size,i.bytes))=some (some (.agg arQ),9,88):=TA
theorem Ib {s:bF} (h:lJ s):lJ (cB s):=⟨h.arT,h.asc,h.ar3,h.bq,by simp[cB],by simp[cB]⟩
theorem Nc {α:Type} {f:α->Bool} {l:List α} {k:Nat} {x:α} (hx:l[k]? =some x):(l.take (k+1)).any f=((l.take k).any f||f x):=by
 rw[List.take_add_one,hx,List.any_append];simp
theorem Oj {s:bF} (h:¬t.arT=s.arT):gT t s=false:=by simp[gT,h]
theorem QC {s:bF} (h:t.arT=s.arT) (hv:t.asc=s.asc):gT t s=true:=by simp[gT,h,hv]
theorem Je {s:bF} (h:t.arT=s.arT) (hv:¬t.asc=s.asc):gT t s=(!t.old&& !s.old):=by simp[gT,h,hv]
structure Kept (pb:Nat) (v:bG) (w:World) (b:Nat):Prop where
 lt:b<w
 ne:b≠pb
 no:¬v.has b
section
variable {B pb b : Nat} {w w' : World} {sv : bN} {s : aM} {own : Int} {v v' : bG} {p : aA}
theorem aU.kept (h:aU pb v v' w w') (k:Kept pb v w b):Kept pb v' w' b:=
 ⟨by have:=h.step.size;have:=k.lt;omega,k.ne,fun e=>by
  rcases h.new b e with h1 | h1
  ·exact k.no h1
  ·have:=k.lt;omega⟩
theorem aU.block (h:aU pb v v' w w') (k:Kept pb v w b):w'.heap[b]? =w.heap[b]? :=h.step.block b ⟨k.lt,k.ne,k.no⟩
theorem bB.qM (h:bB B pb w sv s own v p) (o:Obj):Kept pb v (w.alloc o) w.heap.size:=
 ⟨arG,by have:=h.lt;omega,fun e=>by have:=(h.qf e).2.1;omega⟩
theorem Kept.alloc (k:Kept pb v w b) (o:Obj):Kept pb v (w.alloc o) b:=⟨by have:=k.lt;simp;omega,k.ne,k.no⟩
theorem Kept.below {C:Nat} (k:Kept pb v w b) (h:Below C w w'):Kept pb v w' b:=⟨by have:=k.lt;have:=h.size;omega,k.ne,k.no⟩
theorem bB.alloc (h:bB B pb w sv s own v p) (o:Obj):bB B pb (w.alloc o) sv s own v p:=h.below ((PZ _ w).alloc (oD _) o)
theorem aU.alloc (v:bG) (w:World) (o:Obj):aU pb v v w (w.alloc o):=.below ((PZ _ w).alloc (oD _) o)
end
theorem aD {b:Nat} {xs:List Value} {t:TypeId} (h:w.heap[b]? =some (.cells xs.toArray t (0,0))):∀j u,xs[j]? =some u->w.cell? (ak b j)=some u:=fun j u hu=>by
 rw[aV h];simpa using hu
theorem WL (x:bF):∀u∈lT x,u.oneCell'=true:=by
 intro u hu;simp only[lT,List.mem_cons,List.not_mem_nil,or_false]at hu;rcases hu with rfl | rfl | rfl | rfl | rfl | rfl | rfl | rfl | rfl<;>rfl
theorem LB.acD {α:Type} {K:Kind α} {S:Nat->Prop} {v:Value} {l:List α} {b off n c:Nat} (h:LB K S w v l) (hv:v=.slice (some ⟨b,off,none⟩) n c) (hl:0<l.length):mF K S w l (some ⟨b,off,none⟩) b off:=by
 obtain⟨a,b',off',cap,hf,_,_,hat⟩:=h.at;have ha:=hat.addr hl;rw[hv,ha]at hf
 cases hf
 rw[ha]at hat;exact hat
theorem bB.gX (hM:bB B pb w sv s own v p) {b off n c:Nat} (hv:v.av=.slice (some ⟨b,off,none⟩) n c) (k:Nat) (x:bF) (hx:p.av[k]? =some x):
  lJ x/\w.cell? (ak b (off+k*9))=some (ax x.arT)/\w.cell? (ak b (off+k*9+1))=some (ax x.asc)/\
  w.cell? (ak b (off+k*9+2))=some (.bool x.old)/\w.cell? (ak b (off+k*9+3))=some (ah x.ar3)/\w.cell? (ak b (off+k*9+4))=some (.bool x.ar1)/\w.cell? (ak b (off+k*9+5))=some (ah x.bq)/\
  w.cell? (ak b (off+k*9+6))=some (.bool x.asg)/\w.cell? (ak b (off+k*9+7))=some (ah x.value)/\w.cell? (ak b (off+k*9+8))=some (ah x.size):=
 (hM.av.lb.acD hv (by have:=(List.getElem?_eq_some_iff.1 hx).1;omega)).rR k x hx
theorem adl (x:bF) (bf:Bool) (e:Int) (hM:bB B pb w sv s own v p) (hx:lJ x) (hl:p.av.length<=1000000) (hB:B<=w):
  Calls Tryz.prog 43 #[aQ pb,.agg (arK x),.bool bf,ah e] w fun r w'=>∃v',r=.returned (.tuple #[])/\bB B pb w' sv s own v' (p.define x bf e)/\aU pb v v' w w':=by
 have HM:=aj hM;have hpl:=hM.lt;have Hx:=aj hx;have yA:=aj (fun w=>Kj w (cB x) (Ib hx));have HD:Hid (p.define x bf e={ ((p.dm (!bC (cB x)||(decide (x.ar3=3) != bf)) e).dm (p.av.any fun t=>gT t (cB x)) 100)with av:=p.av++[cB x]}):=aj rfl;have Hb1:=aj ((PZ w.heap.size w).alloc (oD _) (.cells (arX x) 54));have Jz:=aj (ah2 w (.cells (arX x) 54));have rW:Hid (w.heap.size<(w.alloc (.cells (arX x) 54))):=aj arG;have zm:=aj (hM.qM (.cells (arX x) 54));clear hM hx;go_enter Tryz.func43,Tryz.ntmps43;go_upto_region 2 with fail
 generalize w.alloc (.cells (arX x) 54)=w1 at *;have iU:=aj (HM.af.below Hb1.af);obtain⟨d0,d1,d2,d3,d4,d5,d6,d7,d8⟩:=lK (s:=cB x) Jz.af;simp only[cB]at d0 d1 d2 d3 d4 d5 d6 d7 d8;go_cut [22]from 9 to 69 (fun v22 wx=>v22=.bool (!bC (cB x)||(decide (x.ar3=3) != bf))/\Below w1 w1 wx)
 case first=>
  go_wp2_with fail;refine(yA.af w1).mono ?_;rintro e2 w2 ⟨rfl,hb2⟩;have Hb2:=aj hb2;have e3:w2.cell? (ak w 3)=some (ah x.ar3):=by rw[aV ((hb2.block w.heap.size rW.af).trans Jz.af)];rfl
  clear hb2 d0 d1 d2 d3 d4 d5 d6 d7 d8
  cases hr:bC (cB x)with
  | false=>
   rw[uU hr];have Hr:=aj hr;clear hr;go_wp2;go_meet;exact⟨by rw[Hr.af];rfl,Hb2.af⟩
  | true=>
   rw[CS hr];have Hd:Hid (decide (x.ar3=3)=(x.ar3==3)):=aj (by rw[Bool.eq_iff_iff];simp);have Hr:=aj hr;clear hr;go_wp2;go_meet;exact⟨by rw[Hd.af,Hr.af];simp[bne],Hb2.af⟩
 case rest=>
 obtain⟨rfl,hb2⟩:=hcut;rename World=>w2
 have jW:=aj (iU.af.below hb2);have QD:=aj (zm.af.below hb2);have gI:=aj ((hb2.block w.heap.size rW.af).trans Jz.af);have HS2:=aj ((aU.below (pb:=pb) (v:=v) Hb1.af).trans (aU.below hb2));have hz2:w1.heap.size<=w2:=hb2.size;clear hb2 d0 d1 d2 d3 d4 d5 d6 d7 d8;generalize (!bC (cB x)||(decide (x.ar3=3) != bf))=bad at *;go_upto_if 22 with fail
 go_cut []from 9 to 69 (fun wx=>bB B pb wx sv s own v (p.dm bad e)/\aU pb v v w wx/\wx.heap[w.heap.size]? =some (aB (arX x) 54)/\Kept pb v wx w.heap.size)
 case first=>
  rcases (by cases bad<;>simp:bad=true∨bad=false)with hbad | hbad
  ·subst hbad
   go_wp2_with fail;refine(Cv e jW.af).mono ?_;rintro e2 w3 ⟨rfl,pV,hs3⟩;go_wp2_with fail;go_meet;exact⟨pV,HS2.af.trans hs3,(hs3.block QD.af).trans gI.af,hs3.kept QD.af⟩
  ·subst hbad
   go_wp2_with fail;go_meet;exact⟨jW.af,HS2.af,gI.af,QD.af⟩
 case rest=>
 obtain⟨pV,hs3,hX3,hK3⟩:=hcut;rename World=>w3
 have uY:=aj pV;have pW:=aj hs3;have lF:=aj hX3;have HK3:=aj hK3;have Hp1:=aj (show (p.dm bad e).av=p.av from oq);have hz3:w.heap.size<w3:=hK3.lt;clear pV hs3 hX3 hK3 jW QD gI HS2 iU zm Hb1 Jz hz2;generalize hp1:p.dm bad e=p1 at *;have Hp0:=aj hp1;clear hp1;have alu:p1.av=p.av:=Hp1.af;obtain⟨sa,sbk,yu,jO,mO,hsm,Qa,hat⟩:=uY.af.av.lb.at;rw[alu]at mO hsm Qa hat;have xk:=aj mO;have sc:=uY.af.c9;rw[mO]at sc;have hsa:=hat.addr;have alv:=hat.mG;have dP:=aj hat;obtain ⟨n,hn⟩:=aiG p.av.length;have Hn:=aj hn;rw[<-hn]at hsm hsa hl alv sc Qa;rw[<-hn]at xk;clear hat mO hn alu;go_upto_block 0 with fail
 go_cut []from 9 to 69 (fun wx=>bB B pb wx sv s own v (p1.dm (p.av.any fun t=>gT t (cB x)) 100)/\aU pb v v w wx/\wx.heap[w.heap.size]? =some (aB (arX x) 54)/\Kept pb v wx w.heap.size)
 case first=>
  go_wp2_with fail;go_loopw [31] (fun i wr=>∃k:Nat,i=ah k/\k<=n/\bB B pb wr sv s own v (p1.dm ((p.av.take k).any fun t=>gT t (cB x)) 100)/\aU pb v v w3 wr) (fun i _=>n-(intOf i).toNat);exact⟨0,rfl,alg _,uY.af,aU.refl _ _ _⟩;obtain⟨k,rfl,hk,hMr,JJ⟩:=hrel;have Nf:=aj hMr;have Hsr:=aj JJ;have Hxr:=aj ((JJ.block HK3.af).trans lF.af);have HKr:=aj (JJ.kept HK3.af);have hrs:=JJ.step.size;clear hMr JJ;by_cases hlt:k<n
  ·obtain rfl:=hsa wP
   obtain⟨t,ht⟩:∃t,p.av[k]? =some t:=⟨_,List.getElem?_eq_getElem (by rw[<-Hn.af];exact hlt)⟩;obtain⟨hto,g0,g1,g2,g3,g4,g5,g6,g7,g8⟩:=Nf.af.gX xk.af k t (by rw[oq,Hp1.af];exact ht);have Ht:=aj ht;have hk2:(k:Int)<(n:Int):=wP;clear ht hto;go_upto_region 7 with fail
   have FW:=aj (Nf.af.alloc (.cells (FV t) 54 (0,0)));have HKa:=aj (HKr.af.alloc (.cells (FV t) 54 (0,0)));have QE:=aj (ah2 wr (.cells (FV t) 54 (0,0)));have Hxa:=aj ((heap_alloc_old wr (.cells (FV t) 54 (0,0)) HKr.af.lt).trans Hxr.af);have JF:=aj (Hsr.af.trans (aU.alloc v wr (.cells (FV t) 54 (0,0))));have hza:(wr.alloc (.cells (FV t) 54 (0,0))).heap.size=wr.heap.size+1:=arG;clear g0 g1 g2 g3 g4 g5 g6 g7 g8;unfold FV at *;generalize wr.alloc (aB (arK t) 54)=wa at *;have aqA:wr.heap.size<=wa:=wP;clear hza;go_cut [56]from 32 to 59 (fun v56 wx=>v56=.bool (gT t (cB x))/\wx=wa)
   case first=>
    have e0:wa.cell? (ak w 0)=some (ax x.arT):=aL Hxa.af rfl;have e1:wa.cell? (ak w 1)=some (ax x.asc):=aL Hxa.af rfl;have e2:wa.cell? (ak w 2)=some (.bool x.old):=aL Hxa.af rfl;have f0:wa.cell? (ak wr 0)=some (ax t.arT):=aL QE.af rfl;have f1:wa.cell? (ak wr 1)=some (ax t.asc):=aL QE.af rfl;have f2:wa.cell? (ak wr 2)=some (.bool t.old):=aL QE.af rfl;by_cases h1:t.arT=x.arT
    ·by_cases h2:t.asc=x.asc
     ·have hb1:(t.arT==x.arT)=true:=by simp[h1]
      have hb2:(t.asc==x.asc)=true:=by simp[h2]
      have HS:=aj (QC (t:=t) (s:=cB x) h1 h2);clear h1 h2;go_wp2;go_meet;exact⟨by rw[HS.af],rfl⟩
     ·have hb1:(t.arT==x.arT)=true:=by simp[h1]
      have hb2:(t.asc==x.asc)=false:=by simp[h2]
      have HS:=aj (Je (t:=t) (s:=cB x) h1 h2);clear h1 h2
      cases ho1:t.old with
      | false=>
       rw[ho1]at f2;go_wp2;go_meet;exact⟨by rw[HS.af,ho1];rfl,rfl⟩
      | true=>
       rw[ho1]at f2;go_wp2;go_meet;exact⟨by rw[HS.af,ho1];rfl,rfl⟩
    ·have hb1:(t.arT==x.arT)=false:=by simp[h1]
     have HS:=aj (Oj (t:=t) (s:=cB x) h1);clear h1;go_wp2;go_meet;exact⟨by rw[HS.af],rfl⟩
   case rest=>
   obtain⟨rfl,rfl⟩:=hcut;have HN:=aj (Nc (f:=fun t=>gT t (cB x)) Ht.af);clear hrs;generalize hsd:gT t (cB x)=sd at *;clear hsd;rcases (by cases sd<;>simp:sd=true∨sd=false)with hsd | hsd
   ·subst hsd
    go_wp2_with fail;refine(Cv 100 FW.af).mono ?_;rintro e2 w5 ⟨rfl,rX,hs5⟩;have qo:=aj rX;have uZ:=aj (JF.af.trans hs5);clear rX hs5;go_wp2;go_roundw;exact⟨k+1,arH,wP,by rw[HN.af,<-Xy];exact qo.af,uZ.af⟩;simp[intOf];omega
   ·subst hsd
    go_wp2;go_roundw;exact⟨k+1,arH,wP,by rw[HN.af,<-Xy];exact FW.af,JF.af⟩;simp[intOf];omega
  ·have pg:Hid (bB B pb wr sv s own v (p1.dm (p.av.any fun t=>gT t (cB x)) 100)):=aj (by
    have h:=Nf.af
    rwa [List.take_of_length_le (by rw[<-Hn.af];omega)]at h)
   go_wp2_with fail;go_meet;exact⟨pg.af,pW.af.trans Hsr.af,Hxr.af,HKr.af⟩
 case rest=>
 obtain⟨Ic,hs4,hX4,hK4⟩:=hcut;rename World=>w4
 have sS:=aj Ic;have qH:=aj hs4;have xU:=aj hX4;have HK4:=aj hK4;have Hp4:=aj (show (p1.dm (p.av.any fun t=>gT t (cB x)) 100).av=p.av by rw[oq,Hp1.af]);have HD2:Hid (p.define x bf e={p1.dm (p.av.any fun t=>gT t (cB x)) 100 with av:=p.av++[cB x]}):=aj HD.af;have Co:=hs4.step.size;clear Ic hs4 hX4 hK4 HD Hp0 sc hsa alv dP uY pW lF HK3;generalize p1.dm (p.av.any fun t=>gT t (cB x)) 100=p4 at *;have c9:=sS.af.c9;rw[xk.af]at c9;have q0:w4.cell? (ak w 0)=some (ax x.arT):=aL xU.af rfl;have q1:w4.cell? (ak w 1)=some (ax x.asc):=aL xU.af rfl;have q2:w4.cell? (ak w 2)=some (.bool x.old):=aL xU.af rfl;have q3:w4.cell? (ak w 3)=some (ah x.ar3):=aL xU.af rfl;have q4:w4.cell? (ak w 4)=some (.bool x.ar1):=aL xU.af rfl;have q5:w4.cell? (ak w 5)=some (ah x.bq):=aL xU.af rfl;have q6:w4.cell? (ak w 6)=some (.bool true):=aL xU.af rfl;have q7:w4.cell? (ak w 7)=some (ah 0):=aL xU.af rfl;have q8:w4.cell? (ak w 8)=some (ah 0):=aL xU.af rfl;go_upto_region 10 with fail
 refine bA 8 TA TA ?_;simp only[ji];refine wpAny_of_held (S:=fun w':World=>w'.cell? (ak pb 9)=some (.slice sa n jO)/\w'.cell? (ak w 0)=some (ax x.arT)/\w'.cell? (ak w 1)=some (ax x.asc)/\w'.cell? (ak w 2)=some (.bool x.old)/\w'.cell? (ak w 3)=some (ah x.ar3)/\w'.cell? (ak w 4)=some (.bool x.ar1)/\w'.cell? (ak w 5)=some (ah x.bq)/\w'.cell? (ak w 6)=some (.bool true)/\w'.cell? (ak w 7)=some (ah 0)/\w'.cell? (ak w 8)=some (ah 0)) _ _ _ _ ?_;have ay:(fun w':World=>w'.cell? (ak pb 9)=some (.slice sa n jO)/\w'.cell? (ak w 0)=some (ax x.arT)/\w'.cell? (ak w 1)=some (ax x.asc)/\w'.cell? (ak w 2)=some (.bool x.old)/\w'.cell? (ak w 3)=some (ah x.ar3)/\w'.cell? (ak w 4)=some (.bool x.ar1)/\w'.cell? (ak w 5)=some (ah x.bq)/\w'.cell? (ak w 6)=some (.bool true)/\w'.cell? (ak w 7)=some (ah 0)/\w'.cell? (ak w 8)=some (ah 0)) w4.drew:=⟨c9,q0,q1,q2,q3,q4,q5,q6,q7,q8⟩;refine asr ?_;have rG:=aj (sS.af.below (PZ _ w4).drew);have yF:=aj (qH.af.trans (aU.below (pb:=pb) (v:=v) (PZ _ w4).drew));have hzd:w4.heap.size<=w4.drew:=oD _;have alx:Hid (Kept pb v w4.drew w.heap.size):=aj (HK4.af.below (PZ w4.heap.size w4).drew);have hpd:=rG.af.lt;generalize w4.drew=wd at rG yF ay hzd hpd alx ⊢;clear c9 q0 q1 q2 q3 q4 q5 q6 q7 q8;refine arS 0 ay ?_;simp only[bV];refine arS 1 ay ?_;simp only[bV];refine arS 2 ay ?_;simp only[bV];refine arS 3 ay ?_;simp only[bV];refine arS 4 ay ?_;simp only[bV];refine arS 5 ay ?_;simp only[bV];refine cO 6 fun K hK=> ?_
 go_simp;have ko:=aj (rG.af.alloc (aB (arX x) 54));have HNn:=aj (ah2 wd (aB (arX x) 54));have lN:=aj (yF.af.trans (aU.alloc v wd (aB (arX x) 54)));have hzn:(wd.alloc (aB (arX x) 54)).heap.size=wd.heap.size+1:=arG;refine hK.af _ _ ⟨dB ay.1,dB ay.2.1,dB ay.2.2.1,dB ay.2.2.2.1,dB ay.2.2.2.2.1,dB ay.2.2.2.2.2.1,dB ay.2.2.2.2.2.2.1,dB ay.2.2.2.2.2.2.2.1,dB ay.2.2.2.2.2.2.2.2.1,dB ay.2.2.2.2.2.2.2.2.2⟩ (fun ay=> ?_);clear hK K;try simp only[bV]
 have HA:Hid (aX 54 gq B (fun b=>b<(wd.alloc (aB (arX x) 54))/\¬v.av.ownBlock=some b) (wd.alloc (aB (arX x) 54)) (.slice sa n jO) p4.av):=aj (by rw[<-xk.af];exact ko.af.av.fJ ig (fun g hg h=>h.2 hg));have HR:Hid (gq.R (fun b=>b<(wd.alloc (aB (arX x) 54))/\¬(b<(wd.alloc (aB (arX x) 54))/\¬v.av.ownBlock=some b)/\(Value.slice sa n jO).ownBlock≠some b) (wd.alloc (aB (arX x) 54)) (cB x) (lT (cB x))):=aj ⟨rfl,Ib Hx.af⟩;have HKn:=aj (alx.af.alloc (aB (arX x) 54));generalize wd.alloc (aB (arX x) 54)=wn at *;refine cO 7 fun K hK=> ?_
 rw[if_pos (by rfl)];simp only[rz];refine lV (K:=gq) (v:=.slice sa n jO) (e:=54) (B:=B) 32 _ 88 Tryz.underlying32 yE rfl abD (.tmp 64) (.tmp 66) rfl n (by rw[Hp4.af];exact Hn.af.symm) rfl HA.af (fun b hb=>hb.1) wd.heap.size (cB x) (lT (cB x)) rfl (aD HNn.af) (WL _) HR.af (by rw[Hp4.af,<-Hn.af];omega) (by rw[Hp4.af,<-Hn.af];omega) wP ?_;rintro g c2 w9 EC kZ hg9-
 have HP9:=aj (ko.af.Aw (u:=.slice (some ⟨g,0,none⟩) (n+1) c2) (l:=p4.av++[cB x]) (by rw[xk.af];exact kZ) (EC.fJ ig (fun _ _ h=>h)) (by
  intro b hb;rw[xk.af]at EC ⊢;exact EC.FK b hb))
 have Ol:pb<wn/\(Value.slice sa n jO).ownBlock≠some pb:=⟨wP,fun e=>ko.af.av.notE pb (by rw[xk.af];exact e) (Or.inl rfl)⟩;have Jf:w.heap.size<wn/\(Value.slice sa n jO).ownBlock≠some w.heap.size:=⟨HKn.af.lt,fun e=>HKn.af.no (Or.inl (by rw[xk.af];exact e))⟩;have RG:=aj ((kZ.block pb Ol).trans ko.af.ex);refine hK.af _ _ ⟨(kZ.cell (p:=(ak pb 9)) Ol).trans ay.1,(kZ.cell (p:=(ak w 0)) Jf).trans ay.2.1,(kZ.cell (p:=(ak w 1)) Jf).trans ay.2.2.1,(kZ.cell (p:=(ak w 2)) Jf).trans ay.2.2.2.1,(kZ.cell (p:=(ak w 3)) Jf).trans ay.2.2.2.2.1,(kZ.cell (p:=(ak w 4)) Jf).trans ay.2.2.2.2.2.1,(kZ.cell (p:=(ak w 5)) Jf).trans ay.2.2.2.2.2.2.1,(kZ.cell (p:=(ak w 6)) Jf).trans ay.2.2.2.2.2.2.2.1,(kZ.cell (p:=(ak w 7)) Jf).trans ay.2.2.2.2.2.2.2.2.1,(kZ.cell (p:=(ak w 8)) Jf).trans ay.2.2.2.2.2.2.2.2.2⟩ (fun ay=> ?_);clear hK K EC kZ Ol Jf;try simp only[bV]
 refine wpAnyH_done TA ?_ _;simp only[dU];clear ay;have c9:w9.cell? (ak pb 9)=some v.av:=lU RG.af 9 _ rfl;rw[xk.af]at c9;have f9:w9.frozen? (ak pb 9)=false:=vV RG.af 9
 have aah:Hid (bB B pb (w9.setCell ⟨pb,9,none⟩ (.slice (some ⟨g,0,none⟩) (n+1) c2)) sv s own {v with av:=.slice (some ⟨g,0,none⟩) (n+1) c2 } (p.define x bf e)/\aU pb v {v with av:=.slice (some ⟨g,0,none⟩) (n+1) c2 } w (w9.setCell ⟨pb,9,none⟩ (.slice (some ⟨g,0,none⟩) (n+1) c2))):=aj (by
  rw[HD2.af,<-Hp4.af];exact⟨HP9.af.1,lN.af.trans HP9.af.2⟩)
 clear RG;go_wp2;go_end0;exact⟨rfl,_,aah.af.1,aah.af.2⟩
theorem Dt {ar1:List (List UInt8)} {ar3:Int} (hn:gU arT) (hv:gU aG) (hk:jV ar3):lJ (iP ar1 arT aG ar3):=⟨hn,hv,hk,by simp[iP],by simp[iP],by simp[iP]⟩
theorem adm (h:¬t.arT=arT):dD arT aG t=false:=by simp[dD,h]
theorem aai {ar1:List (List UInt8)} {ar3:Int} (h:p.av.findIdx? (dD arT aG)=none):p.sym ar1 arT aG ar3=({p with av:=p.av++[iP ar1 arT aG ar3]},p.av.length):=by
 unfold aA.sym;rw[h]
def JK (B pb:Nat) (sv:bN) (s:aM) (own:Int) (v:bG) (w:World) (q:aA × Nat) (r:Ending) (w':World):Prop:=
 ∃v',r=.returned (ah q.2)/\bB B pb w' sv s own v' q.1/\aU pb v v' w w'
def akM (B pb:Nat) (sv:bN) (s:aM) (own:Int) (v:bG) (w:World) (arT aG:List UInt8) (p:aA) (q:aA × Nat) (r:Ending) (w':World):Prop:=
 JK B pb sv s own v w q r w'/\((p.av.findIdx? (dD arT aG)).isSome=true->Below w w w')
theorem aaj (arT aG:List UInt8) (ar3:Int) (hM:bB B pb w sv s own v p) (hS:gB (·<B) w sv s) (hn:gU arT) (hv:gU aG) (hk:jV ar3) (hl:p.av.length<=1000000) (hB:B<=w):
  Calls Tryz.prog 52 #[aQ pb,ax arT,ax aG,ah ar3] w (akM B pb sv s own v w arT aG p (p.sym s.ar1 arT aG ar3)):=by
 have HM:=aj hM;have HS:=aj hS;have iy:=aj (Dt (ar1:=s.ar1) hn hv hk);have hpl:=hM.lt;obtain⟨sa,sbk,yu,jO,mO,hsm,Qa,hat⟩:=hM.av.lb.at;have xk:=aj mO;have c9:=hM.c9;rw[mO]at c9;have hsa:=hat.addr;obtain⟨n,hn'⟩:∃n,n=p.av.length:=⟨_,rfl⟩;have Hn:=aj hn';rw[<-hn']at hsm hsa hl c9 Qa xk;clear hat mO hn' hM hS hn hv hk;go_enter Tryz.func52,Tryz.ntmps52;go_wp2_with fail;go_loopw [16] (fun i wr=>∃k:Nat,i=ah k/\k<=n/\(p.av.take k).findIdx? (dD arT aG)=none/\Below w w wr) (fun i _=>n-(intOf i).toNat);exact⟨0,rfl,alg _,qZ _ _,PZ _ _⟩;obtain⟨k,rfl,hk,hf,hbel⟩:=hrel;have Hf:=aj hf;have Nf:=aj (HM.af.below hbel);have di:=aj hbel;have AB:=hbel.size;clear hf hbel;by_cases hlt:k<n
 ·obtain rfl:=hsa wP
  obtain⟨t,ht⟩:∃t,p.av[k]? =some t:=⟨_,List.getElem?_eq_getElem (by rw[<-Hn.af];exact hlt)⟩;obtain⟨hto,g0,g1,g2,g3,g4,g5,g6,g7,g8⟩:=Nf.af.gX xk.af k t ht;have Ht:=aj ht;have hk2:(k:Int)<(n:Int):=wP;clear ht hto;go_upto_region 4 with fail
  have Ie:=aj (di.af.alloc AB (.cells (FV t) 54 (0,0)));have FW:=aj (Nf.af.alloc (.cells (FV t) 54 (0,0)));have QE:=aj (ah2 wr (.cells (FV t) 54 (0,0)));clear g0 g1 g2 g3 g4 g5 g6 g7 g8;unfold FV at *;generalize wr.alloc (aB (arK t) 54)=wa at *;have f0:wa.cell? (ak wr 0)=some (ax t.arT):=aL QE.af rfl;have f1:wa.cell? (ak wr 1)=some (ax t.asc):=aL QE.af rfl;have f2:wa.cell? (ak wr 2)=some (.bool t.old):=aL QE.af rfl;have f6:wa.cell? (ak wr 6)=some (.bool t.asg):=aL QE.af rfl
  have Ru:Hid (dD arT aG t=true->∃v',bB B pb wa sv s own v' (p.sym s.ar1 arT aG ar3).1/\aU pb v v' w wa/\(p.sym s.ar1 arT aG ar3).2=k):=aj (fun h=>by
   rw[fw (vZ Hf.af Ht.af h)];exact⟨v,FW.af,aU.below Ie.af,rfl⟩)
  have sP:Hid (dD arT aG t=false->(p.av.take (k+1)).findIdx? (dD arT aG)=none):=aj (fun h=>lM Hf.af Ht.af h);clear AB;by_cases h1:t.arT=arT
  ·have hb1:(t.arT != arT)=false:=by simp[h1]
   have hb1':(t.arT==arT)=true:=by simp[h1]
   cases hd:t.asg with
   | true=>
    rw[hd]at f6
    cases hq:aG.isEmpty with
    | true=>
     have Hv0:=aj (List.isEmpty_iff.1 hq)
     cases ho:t.old with
     | true=>
      rw[ho]at f2;have HX:=aj (sP.af (by simp[dD,h1,hd,ho,Hv0.af]));clear h1 hd ho;go_wp2;go_roundw;exact⟨k+1,arH,wP,HX.af,Ie.af⟩;simp[intOf];omega
     | false=>
      rw[ho]at f2;have HX:=aj (Ru.af (by simp[dD,h1,hd,ho,Hv0.af]));clear h1 hd ho;go_wp2;go_ret;obtain⟨v',x1,x2,x3⟩:=HX.af;exact⟨⟨v',by rw[x3];rfl,x1,x2⟩,fun _=>Ie.af⟩
    | false=>
     have Hv0:Hid (¬aG=[]):=aj (fun e=>by rw[e]at hq;simp at hq);by_cases hv:t.asc=aG
     ·have hbv:(t.asc==aG)=true:=by simp[hv]
      have HX:=aj (Ru.af (by simp[dD,h1,hd,hv,Hv0.af]));clear h1 hd hv;go_wp2;go_ret;obtain⟨v',x1,x2,x3⟩:=HX.af;exact⟨⟨v',by rw[x3];rfl,x1,x2⟩,fun _=>Ie.af⟩
     ·have hbv:(t.asc==aG)=false:=by simp[hv]
      have HX:=aj (sP.af (by simp[dD,h1,hd,hv,Hv0.af]));clear h1 hd hv;go_wp2;go_roundw;exact⟨k+1,arH,wP,HX.af,Ie.af⟩;simp[intOf];omega
   | false=>
    rw[hd]at f6;by_cases hv:t.asc=aG
    ·have hbv:(t.asc==aG)=true:=by simp[hv]
     have HX:=aj (Ru.af (by simp[dD,h1,hd,hv]));clear h1 hd hv;go_wp2;go_ret;obtain⟨v',x1,x2,x3⟩:=HX.af;exact⟨⟨v',by rw[x3];rfl,x1,x2⟩,fun _=>Ie.af⟩
    ·have hbv:(t.asc==aG)=false:=by simp[hv]
     have HX:=aj (sP.af (by simp[dD,h1,hd,hv]));clear h1 hd hv;go_wp2;go_roundw;exact⟨k+1,arH,wP,HX.af,Ie.af⟩;simp[intOf];omega
  ·have hb1:(t.arT != arT)=true:=by simp[h1]
   have hb1':(t.arT==arT)=false:=by simp[h1]
   have HX:=aj (sP.af (adm h1));clear h1;go_wp2;go_roundw;exact⟨k+1,arH,wP,HX.af,Ie.af⟩;simp[intOf];omega
 ·have akd:=aj (wh (by have h:=Hf.af;rwa [show k=p.av.length by have:=Hn.af;omega]at h))
  have HD:=aj (aai (ar1:=s.ar1) (ar3:=ar3) akd.af);have c9r:=Nf.af.c9;rw[xk.af]at c9r;have c6r:=Nf.af.c6;obtain⟨wka,wkc,hwk⟩:=HS.af.ar1.form;rw[hwk]at c6r;have HW:=aj (fun (w':World) (hb:Below B w w')=>acV w' sv.ar1 s.ar1 arT (HS.af.ar1.below hb));rw[hwk]at HW;clear hwk;go_upto_region 10 with fail
  refine bA 18 TA TA ?_;simp only[ji];refine wpAny_of_held (S:=fun w':World=>w'.cell? (ak pb 9)=some (.slice sa n jO)/\w'.cell? (ak pb 6)=some (.slice wka s.ar1.length wkc)) _ _ _ _ ?_;have ay:(fun w':World=>w'.cell? (ak pb 9)=some (.slice sa n jO)/\w'.cell? (ak pb 6)=some (.slice wka s.ar1.length wkc)) wr.drew:=⟨c9r,c6r⟩;refine asr ?_;have rG:=aj (Nf.af.below (PZ _ wr).drew);have yF:=aj (aU.below (pb:=pb) (v:=v) (di.af.drew));have CF:=aj ((di.af.drew).mono hB);have hzd:w.heap.size<=wr.drew:=AB;have hpd:=rG.af.lt;generalize wr.drew=wd at rG yF ay hzd hpd CF ⊢;clear c9r c6r;refine arO [0,1,2,3,4,5,6,7,8,9,10,11,12,13] ay ?_;simp only[ast]
  iterate 14 (refine arP ?_;try simp only[bP])
  refine cO 14 fun K hK=> ?_
  go_simp;refine(HW.af wd CF.af).mono ?_;rintro e w2 ⟨rfl,rfl⟩;refine hK.af _ _ ay (fun ay=> ?_);clear hK K;try simp only[bV]
  refine arO [15] ay ?_;simp only[ast]
  iterate 1 (refine arP ?_;try simp only[bP])
  refine cO 16 fun K hK=> ?_
  go_simp;have ko:=aj (rG.af.alloc (aB #[ax arT,ax aG,.bool false,ah ar3,.bool (decide (arT∈s.ar1)),ah 0,.bool false,ah 0,ah 0] 54));have HNn:=aj (ah2 w2 (aB #[ax arT,ax aG,.bool false,ah ar3,.bool (decide (arT∈s.ar1)),ah 0,.bool false,ah 0,ah 0] 54));have lN:=aj (yF.af.trans (aU.alloc v w2 (aB #[ax arT,ax aG,.bool false,ah ar3,.bool (decide (arT∈s.ar1)),ah 0,.bool false,ah 0,ah 0] 54)));have hzn:(w2.alloc (aB #[ax arT,ax aG,.bool false,ah ar3,.bool (decide (arT∈s.ar1)),ah 0,.bool false,ah 0,ah 0] 54)).heap.size=w2.heap.size+1:=arG;refine hK.af _ _ ⟨dB ay.1,dB ay.2⟩ (fun ay=> ?_);clear hK K;try simp only[bV]
  have HA:Hid (aX 54 gq B (fun b=>b<(w2.alloc (aB #[ax arT,ax aG,.bool false,ah ar3,.bool (decide (arT∈s.ar1)),ah 0,.bool false,ah 0,ah 0] 54)).heap.size/\¬v.av.ownBlock=some b) (w2.alloc (aB #[ax arT,ax aG,.bool false,ah ar3,.bool (decide (arT∈s.ar1)),ah 0,.bool false,ah 0,ah 0] 54)) (.slice sa n jO) p.av):=aj (by rw[<-xk.af];exact ko.af.av.fJ ig (fun g hg h=>h.2 hg));have HR:Hid (gq.R (fun b=>b<(w2.alloc (aB #[ax arT,ax aG,.bool false,ah ar3,.bool (decide (arT∈s.ar1)),ah 0,.bool false,ah 0,ah 0] 54)).heap.size/\¬(b<(w2.alloc (aB #[ax arT,ax aG,.bool false,ah ar3,.bool (decide (arT∈s.ar1)),ah 0,.bool false,ah 0,ah 0] 54)).heap.size/\¬v.av.ownBlock=some b)/\(Value.slice sa n jO).ownBlock≠some b) (w2.alloc (aB #[ax arT,ax aG,.bool false,ah ar3,.bool (decide (arT∈s.ar1)),ah 0,.bool false,ah 0,ah 0] 54)) (iP s.ar1 arT aG ar3) (lT (iP s.ar1 arT aG ar3))):=aj ⟨rfl,iy.af⟩;generalize w2.alloc (aB #[ax arT,ax aG,.bool false,ah ar3,.bool (decide (arT∈s.ar1)),ah 0,.bool false,ah 0,ah 0] 54)=wn at *;refine cO 17 fun K hK=> ?_
  rw[if_pos (by rfl)];simp only[rz];refine lV (K:=gq) (v:=.slice sa n jO) (e:=54) (B:=B) 32 _ 88 Tryz.underlying32 yE rfl abD (.tmp 65) (.tmp 77) rfl n Hn.af.symm rfl HA.af (fun b hb=>hb.1) w2.heap.size (iP s.ar1 arT aG ar3) (lT (iP s.ar1 arT aG ar3)) rfl (aD HNn.af) (WL _) HR.af (by rw[<-Hn.af];omega) (by rw[<-Hn.af];omega) wP ?_;rintro g c2 w9 EC kZ hg9-
  have HP9:=aj (ko.af.Aw (u:=.slice (some ⟨g,0,none⟩) (n+1) c2) (l:=p.av++[iP s.ar1 arT aG ar3]) (by rw[xk.af];exact kZ) (EC.fJ ig (fun _ _ h=>h)) (by
   intro b hb;rw[xk.af]at EC ⊢;exact EC.FK b hb))
  have Ol:pb<wn/\(Value.slice sa n jO).ownBlock≠some pb:=⟨wP,fun e=>ko.af.av.notE pb (by rw[xk.af];exact e) (Or.inl rfl)⟩;have RG:=aj ((kZ.block pb Ol).trans ko.af.ex);refine hK.af _ _ ⟨(kZ.cell (p:=(ak pb 9)) Ol).trans ay.1,(kZ.cell (p:=(ak pb 6)) Ol).trans ay.2⟩ (fun ay=> ?_);clear hK K EC kZ Ol;try simp only[bV]
  refine wpAnyH_done TA ?_ _;simp only[dU];clear ay;have c9:w9.cell? (ak pb 9)=some v.av:=lU RG.af 9 _ rfl;rw[xk.af]at c9;have f9:w9.frozen? (ak pb 9)=false:=vV RG.af 9
  have aah:Hid (bB B pb (w9.setCell ⟨pb,9,none⟩ (.slice (some ⟨g,0,none⟩) (n+1) c2)) sv s own {v with av:=.slice (some ⟨g,0,none⟩) (n+1) c2 } (p.sym s.ar1 arT aG ar3).1/\aU pb v {v with av:=.slice (some ⟨g,0,none⟩) (n+1) c2 } w (w9.setCell ⟨pb,9,none⟩ (.slice (some ⟨g,0,none⟩) (n+1) c2))):=aj (by
   rw[HD.af];exact⟨HP9.af.1,lN.af.trans HP9.af.2⟩)
  have HE2:Hid (((p.sym s.ar1 arT aG ar3).2:Int)=n):=aj (by rw[HD.af,Hn.af]);clear RG;go_wp2;go_ret;exact⟨⟨_,by rw[HE2.af];rfl,aah.af.1,aah.af.2⟩,fun h=>by rw[akd.af]at h;cases h⟩
theorem akN (arT aG:List UInt8) (ar3:Int) (hM:bB B pb w sv s own v p) (hS:gB (·<B) w sv s) (hn:gU arT) (hv:gU aG) (hk:jV ar3) (hl:p.av.length<=1000000) (hB:B<=w):
  Calls Tryz.prog 52 #[aQ pb,ax arT,ax aG,ah ar3] w (JK B pb sv s own v w (p.sym s.ar1 arT aG ar3)):=(aaj arT aG ar3 hM hS hn hv hk hl hB).mono fun _ _ h=>h.1
theorem Tw {i:Nat} (arT aG:List UInt8) (ar3:Int) (hM:bB B pb w sv s own v p) (hS:gB (·<B) w sv s) (hn:gU arT) (hv:gU aG) (hk:jV ar3) (hl:p.av.length<=1000000) (hB:B<=w) (hi:p.av.findIdx? (dD arT aG)=some i):
  Calls Tryz.prog 52 #[aQ pb,ax arT,ax aG,ah ar3] w fun r w'=>r=.returned (ah i)/\Below w w w':=(aaj arT aG ar3 hM hS hn hv hk hl hB).mono fun r w' h=>by
 obtain⟨⟨v',h1,-,-⟩,h2⟩:=h;rw[fw hi]at h1;exact⟨h1,h2 (by rw[hi];rfl)⟩
end Go.Proofs.YtpjgjeadjjackaaGreat
