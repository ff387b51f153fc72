/- Lemmas. -/
import Derived.Test.YtpjgjeadjjackaaGreatBui7
import Derived.Test.YtpjgjeadjjackaaGreatBui3
import Derived.IntWalk
import Derived.OwnWalk
set_option linter.unusedVariables false
set_option linter.unusedSimpArgs false
set_option maxHeartbeats 64000000
set_option maxRecDepth 100000
namespace Go.Proofs.YtpjgjeadjjackaaGreat
open Go.RowKit
open Go.Proofs.Tryz renaming prog->asq
open Go renaming heap_alloc_new->ah2,wpAny_of_held->P8,setRow_other->cu,heap_alloc_old->dX,wpAnyH_done->E5,wpList_store_row->Bv,results_cell_row->tT
open Go.IntWalk renaming i64_in->iJ
open Go.Lib renaming frozen_of_heap->vV,cell_of_heap->aV
open Go.RowKit.Below renaming refl->PZ,heap_setCell->nK
open _root_.List renaming getElem?_eq_getElem->gP,take_of_length_le->dh,length_take->og,findIdx?_eq_some_iff_getElem->Ig,mem_cons_self->oh,foldl_cons->nY,mem_cons_of_mem->uT,take_add_one->Qc,flatMap_append->j5,foldl_append->fP,length_append->Kk,length_cons->oF,take_append_drop->jf,getD_eq_getElem?_getD->tK,getElem?_eq_some_iff->Sm,flatMap_cons->KF,cons_append->Aa
open _root_.Nat renaming le_refl->oD,zero_le->alg,min_le_left->iK,min_le_right->Fe
open _root_.Or renaming inl->aH,inr->aZ
variable {B pb c k b lb C:Nat}{w w2 w1 w0 w':World}{sv:bN}{s:aM}{own:Int}{v:bG}{p:aA}{l:dw}{f:dx}{fv vv:Value}{fs vs:List Int}
theorem aly {ar1:List (List UInt8)} {arT aG:List UInt8} {ar3:Int} (p:aA):∃x,(p.sym ar1 arT aG ar3).1.av[(p.sym ar1 arT aG ar3).2]? =some x:=by
 have h:=Zq ar1 arT aG ar3 p;obtain⟨hlt,_⟩:=Ig.1 h;exact⟨_,gP hlt⟩
theorem acE {ar1:List (List UInt8)} {arT aG:List UInt8} {ar3:Int} (p:aA):(p.sym ar1 arT aG ar3).1.av.length<=p.av.length+1/\(p.sym ar1 arT aG ar3).2<=p.av.length/\(p.sym ar1 arT aG ar3).2<(p.sym ar1 arT aG ar3).1.av.length:=by
 unfold aA.sym
 split
 ·rename_i h
  obtain⟨hlt,_⟩:=Ig.1 h;exact⟨arG,by simp;omega,by simpa using hlt⟩
 ·exact⟨arG,arG,arG⟩
theorem Du (arT aG:List UInt8) (e:Int) (k0:Int) (ks:List Int) (kv:Value) (hM:bB B pb w sv s own v p) (hS:gB (·<B) w sv s) (hK:LB dJ (Kept pb v w) w kv (k0 :: ks)) (hn:gU arT) (hv:gU aG) (hk:jV k0) (hl:p.av.length<=1000000) (hB:B<=w):
  Calls asq 45 #[aQ pb,ax arT,ax aG,ah e,kv] w (JK B pb sv s own v w (p.asked s.ar1 arT aG e (k0 :: ks))):=by
 have an5:=aj (akN arT aG k0 hM hS hn hv hk hl hB);have HQ:Hid (p.asked s.ar1 arT aG e (k0 :: ks)=((p.sym s.ar1 arT aG k0).1.dm (!decide (((p.sym s.ar1 arT aG k0).1.av.getD (p.sym s.ar1 arT aG k0).2 iX).ar3∈(k0 :: ks))|| !bC ((p.sym s.ar1 arT aG k0).1.av.getD (p.sym s.ar1 arT aG k0).2 iX)) e,(p.sym s.ar1 arT aG k0).2)):=aj rfl;obtain⟨x,hx⟩:=aly (ar1:=s.ar1) (arT:=arT) (aG:=aG) (ar3:=k0) p;have hx2:(p.sym s.ar1 arT aG k0).1.av.getD (p.sym s.ar1 arT aG k0).2 iX=x:=by rw[tK,hx];rfl
 rw[hx2]at HQ;have hlen:=acE (ar1:=s.ar1) (arT:=arT) (aG:=aG) (ar3:=k0) p;obtain⟨ka,kb,alz,an6,hkf,hkm,ann,aiu⟩:=hK.at;obtain rfl:=aiu.addr arG;have c0:w.cell? (ak kb alz)=some (ah k0):=aiu.oC 0 k0 rfl;have hnk:(0:Int)<((k0 :: ks).length:Int):=Int.natCast_pos.2 arG;have an7:0<(k0 :: ks).length:=arG;have HK:=aj hK;subst hkf;generalize p.sym s.ar1 arT aG k0=q at *;obtain⟨q1,q2⟩:=q;simp only at hx hlen HQ;have Hx:=aj hx;have HR:=aj (fun (w':World) (hb:lJ x)=>Kj w' x hb);generalize hkl:(k0 :: ks)=kl at *;clear hx hx2 hM hS hK aiu hn hv hk hkl;obtain ⟨m,hm⟩:=aiG kl.length;have Hm:=aj hm;rw[<-hm]at HK hnk an7 hkm ann ⊢;clear hm;go_enter Tryz.func45,Tryz.ntmps45;go_wp2_with fail;refine an5.af.mono ?_;rintro r w1 ⟨v1,rfl,hM1,hs1⟩;have iU:=aj hM1;have kM:=aj hs1;simp only at hM1;clear hs1 c0;obtain⟨sa,sbk,yu,jO,mO,hsm,Qa,hat⟩:=hM1.av.lb.at;have xk:=aj mO;obtain rfl:=hat.addr wP;have c9:=hM1.c9;rw[mO]at c9;obtain⟨hxo,g0,g1,g2,g3,g4,g5,g6,g7,g8⟩:=hM1.gX mO q2 x Hx.af;have Hxo:=aj hxo;obtain ⟨n,hn⟩:=aiG q1.av.length;rw[<-hn]at c9 hlen hsm Qa;have hq2:(q2:Int)<(n:Int):=wP;have aqB:q2<n:=hlen.2.2;clear mO hat hxo hn hM1;have adn:Hid (Calls asq 99 #[.slice (some ⟨kb,alz,none⟩) m an6,ah x.ar3] w1 fun e w'=>e=.returned (.bool (decide (x.ar3∈kl)))/\w'=w1):=aj (abP w1 _ kl x.ar3 (HK.af.asa (fun b hb=>kM.af.block hb)));go_upto_region 2 with fail
 go_cut [40]from 19 to 43 (fun v40 wx=>v40=.bool (!decide (x.ar3∈kl)|| !bC x)/\Below w1 w1 wx)
 case first=>
  cases hd:decide (x.ar3∈kl)with
  | true=>
   rw[hd]at adn;go_wp2_with fail;refine adn.af.mono ?_;rintro r w2 ⟨rfl,rfl⟩;go_wp2_with fail;refine(HR.af _ Hxo.af).mono ?_;rintro r w3 ⟨rfl,hb3⟩;have Hb3:=aj hb3;clear hb3
   cases hr:bC x with
   | true=>
    rw[CS hr];have Hr:=aj hr;have Hd:=aj hd;clear hr hd;go_wp2;go_meet;exact⟨by rw[Hd.af,Hr.af];rfl,Hb3.af⟩
   | false=>
    rw[uU hr];have Hr:=aj hr;have Hd:=aj hd;clear hr hd;go_wp2;go_meet;exact⟨by rw[Hd.af,Hr.af];rfl,Hb3.af⟩
  | false=>
   rw[hd]at adn;go_wp2_with fail;refine adn.af.mono ?_;rintro r w2 ⟨rfl,rfl⟩;have Hd:=aj hd;clear hd;go_wp2;go_meet;exact⟨by rw[Hd.af];rfl,PZ _ _⟩
 case rest=>
 obtain⟨rfl,hb⟩:=hcut;rename World=>w4
 have sS:=aj (iU.af.below hb);have qH:=aj (kM.af.trans (aU.below hb));clear hb c9 g0 g1 g2 g3 g4 g5 g6 g7 g8;generalize (!decide (x.ar3∈kl)|| !bC x)=bad at *;rcases (by cases bad<;>simp:bad=true∨bad=false)with hbad | hbad
 ·subst hbad
  go_wp2_with fail;refine(Cv e sS.af).mono ?_;rintro e2 w5 ⟨rfl,rX,hs5⟩;have HE:Hid (JK B pb sv s own v w (q1.dm true e,q2) (.returned (ah q2)) w5):=aj ⟨v1,rfl,rX,qH.af.trans hs5⟩;rw[<-HQ.af]at HE;clear rX hs5;go_wp2;go_ret;exact HE.af
 ·subst hbad
  have HE:Hid (JK B pb sv s own v w (q1.dm false e,q2) (.returned (ah q2)) w4):=aj ⟨v1,rfl,sS.af,qH.af⟩;rw[<-HQ.af]at HE;go_wp2;go_ret;exact HE.af
def mP (B pb:Nat) (sv:bN) (s:aM) (own:Int) (v:bG) (w:World) (q:aA) (r:Ending) (w':World):Prop:=
 ∃v',r=.returned (.tuple #[])/\bB B pb w' sv s own v' q/\aU pb v v' w w'
theorem abX (h0:0<=l.a) (h1:l.a<16) (hk:l.ar3=0):mI l=gJ l.inst:=by simp[mI,h0,h1,hk]
theorem ado (h0:0<=l.a) (h1:l.a<16) (hk0:0<=l.ar3) (hk1:l.ar3<=4) (hk:¬l.ar3=0):mI l=true:=by simp[mI,h0,h1,hk0,hk1,hk]
theorem Ih (h:l.ar3<0∨4<l.ar3∨l.a<0∨16<=l.a):mI l=false:=by
 unfold mI;rcases h with h | h | h | h
 ·simp[show ¬0<=l.ar3 by omega]
 ·simp[show ¬l.ar3<=4 by omega]
 ·simp[show ¬0<=l.a by omega]
 ·simp[show ¬l.a<16 by omega]
theorem aiv (l:dw) (hM:bB B pb w sv s own v p) (hl:wY l):
  Calls asq 96 #[aQ pb,.agg (arL l)] w (mP B pb sv s own v w (p.line l)):=by
 have iU:=aj (hM.alloc (.cells (arL l) 60));have kM:=aj (aU.alloc (pb:=pb) v w (.cells (arL l) 60));have eT:=aj (ah2 w (.cells (arL l) 60));have HQ:Hid (p.line l=p.dm (!mI l) 101):=aj rfl;have Bz:=aj (fun w=>XG w l.inst hl.inst);have hk:=hl.ar3;have ha:=hl.a;clear hM hl;go_enter Tryz.func96,Tryz.ntmps96;go_upto_region 1 with fail
 generalize w.alloc (.cells (arL l) 60)=w1 at *;have c0:w1.cell? (ak w 0)=some (ah l.ar3):=aL eT.af rfl;have c1:w1.cell? (ak w 1)=some (ah l.inst.op):=aL eT.af rfl;have c2:w1.cell? (ak w 2)=some (ah l.inst.a):=aL eT.af rfl;have c3:w1.cell? (ak w 3)=some (ah l.inst.b):=aL eT.af rfl;have c4:w1.cell? (ak w 4)=some (ah l.inst.c):=aL eT.af rfl;have c5:w1.cell? (ak w 5)=some (ah l.inst.bU):=aL eT.af rfl;have c6:w1.cell? (ak w 6)=some (ah l.a):=aL eT.af rfl;go_cut [32]from 4 to 34 (fun v32 wx=>v32=.bool (!mI l)/\Below w1 w1 wx)
 case first=>
  by_cases h1:l.ar3<0
  ·have HB:=aj (Ih (l:=l) (aH h1))
   go_wp2;go_meet;exact⟨by rw[HB.af];rfl,PZ _ _⟩
  by_cases h2:4<l.ar3
  ·have HB:=aj (Ih (l:=l) (aZ (aH h2)))
   go_wp2;go_meet;exact⟨by rw[HB.af];rfl,PZ _ _⟩
  by_cases h3:l.a<0
  ·have HB:=aj (Ih (l:=l) (aZ (aZ (aH h3))))
   go_wp2;go_meet;exact⟨by rw[HB.af];rfl,PZ _ _⟩
  by_cases h4:16<=l.a
  ·have HB:=aj (Ih (l:=l) (aZ (aZ (aZ h4))))
   go_wp2;go_meet;exact⟨by rw[HB.af];rfl,PZ _ _⟩
  by_cases h5:l.ar3=0
  ·have HB:=aj (abX (l:=l) wP wP h5)
   have hb5:(l.ar3==0)=true:=by simp[h5]
   rw[h5]at c0;clear hk h1 h2 h5 hb5
   cases hi:gJ l.inst with
   | true=>
    have HE:Hid (iB l.inst=0):=aj (by unfold iB;rw[hi];rfl);have HI:=aj hi;clear hi;go_wp2_with fail;refine(Bz.af _).mono ?_;rintro e w2 ⟨rfl,hb⟩;have Hb:=aj hb;rw[HE.af];clear hb;go_wp2;go_meet;exact⟨by rw[HB.af,HI.af];rfl,Hb.af⟩
   | false=>
    have HE:Hid (iB l.inst=40):=aj (by unfold iB;rw[hi];rfl);have HI:=aj hi;clear hi;go_wp2_with fail;refine(Bz.af _).mono ?_;rintro e w2 ⟨rfl,hb⟩;have Hb:=aj hb;rw[HE.af];clear hb;go_wp2;go_meet;exact⟨by rw[HB.af,HI.af];rfl,Hb.af⟩
  ·have HB:=aj (ado (l:=l) wP wP wP wP h5)
   have hb5:(l.ar3==0)=false:=by simp[h5]
   clear h5;go_wp2;go_meet;exact⟨by rw[HB.af];rfl,PZ _ _⟩
 case rest=>
 obtain⟨rfl,hb⟩:=hcut;rename World=>w3
 have uY:=aj (iU.af.below hb);have pW:=aj (kM.af.trans (aU.below hb));clear hb c0 c1 c2 c3 c4 c5 c6;generalize (!mI l)=bad at *;rcases (by cases bad<;>simp:bad=true∨bad=false)with hbad | hbad
 ·subst hbad
  go_wp2_with fail;refine(Cv 101 uY.af).mono ?_;rintro e2 w5 ⟨rfl,rX,hs5⟩;have HE:Hid (mP B pb sv s own v w (p.dm true 101) (.returned (.tuple #[])) w5):=aj ⟨v,rfl,rX,pW.af.trans hs5⟩;rw[<-HQ.af]at HE;clear rX hs5;go_wp2;go_end0;exact HE.af
 ·subst hbad
  have HE:Hid (mP B pb sv s own v w (p.dm false 101) (.returned (.tuple #[])) w3):=aj ⟨v,rfl,uY.af,pW.af⟩;rw[<-HQ.af]at HE;go_wp2;go_end0;exact HE.af
theorem nD (ar1:List (List UInt8)) (n v:List UInt8) (e:Int) (ks:List Int) (p:aA):(p.asked ar1 n v e ks).1.cells=p.cells:=by
 unfold aA.asked aA.sym;simp only[NP];split<;>rfl
theorem rH (ar1:List (List UInt8)) (n v:List UInt8) (e:Int) (ks:List Int) (p:aA):(p.asked ar1 n v e ks).1.ar7=p.ar7:=by
 unfold aA.asked aA.sym;simp only[NQ];split<;>rfl
theorem CG (ar1:List (List UInt8)) (n v:List UInt8) (e:Int) (ks:List Int) (p:aA):(p.asked ar1 n v e ks).1.av.length<=p.av.length+1:=by
 unfold aA.asked;simp only[oq];exact(acE p).1
theorem uI {α:Type} [DecidableEq α] (l:List α) (x:α):(fE l x).1.length<=l.length+1:=by
 unfold fE;split<;>simp
theorem rO (u x:Int) (p:aA):(p.cell u x).1.cells.length<=p.cells.length+1:=uI _ _
theorem FX (hM:bB B pb w sv s own v p) (t:TypeId) (ks:List Int) (hk:ks.length<=9223372036854775807):
  LB dJ (Kept pb v (w.alloc (.cells (ks.map (Value.int .i64)).toArray t (0,0)))) (w.alloc (.cells (ks.map (Value.int .i64)).toArray t (0,0))) (.slice (some ⟨w.heap.size,0,none⟩) ks.length ks.length) ks:=by
 refine⟨some (ak w 0),w.heap.size,0,ks.length,rfl,hk,fun _=>rfl,⟨oD _,fun h=>by cases h⟩,fun _=>hM.qM _,fun i x hx=>⟨[ah x],rfl,fun j u hu=> ?_⟩⟩
 match j,hu with
 | 0,hu=>
  simp at hu;subst hu;rw[aV (ah2 _ _)];simp[dJ,hx]
 | j+1,hu=>simp at hu
theorem adp (l:dw) (hM:bB B pb w sv s own v p) (hS:gB (·<B) w sv s) (hl:wY l) (h1:p.av.length<=999990) (h2:p.cells.length<=999990) (h3:p.ar7.length<=999990) (hB:B<=w):
  Calls asq 97 #[aQ pb,.agg (arL l)] w (mP B pb sv s own v w (p.called s.ar1 l)):=by
 have iU:=aj (hM.alloc (.cells (arL l) 60));have kM:=aj (aU.alloc (pb:=pb) v w (.cells (arL l) 60));have eT:=aj (ah2 w (.cells (arL l) 60));have zm:=aj (hM.qM (.cells (arL l) 60));have xV:=aj (hS.asa (.of_below ((PZ w.heap.size w).alloc (oD _) (.cells (arL l) 60) |>.mono hB)));have hz1:w.heap.size<(w.alloc (.cells (arL l) 60)):=arG;have Hl:=aj hl;have hk:=hl.ar3;clear hM hl hS;go_enter Tryz.func97,Tryz.ntmps97;go_upto_region 1 with fail
 generalize w.alloc (.cells (arL l) 60)=w1 at *;have c0:w1.cell? (ak w 0)=some (ah l.ar3):=aL eT.af rfl;have c7:w1.cell? (ak w 7)=some (ax l.arT):=aL eT.af rfl;have c8:w1.cell? (ak w 8)=some (ax l.aG):=aL eT.af rfl;by_cases hk1:l.ar3=1
 ·have HQ:Hid (p.called s.ar1 l=(p.asked s.ar1 l.arT l.aG 101 [1]).1.jump (p.asked s.ar1 l.arT l.aG 101 [1]).2):=aj (by unfold aA.called;rw[if_pos hk1])
  have HJ:Hid ((p.asked s.ar1 l.arT l.aG 101 [1]).1.ar7=p.ar7):=aj (rH _ _ _ _ _ _);rw[hk1]at c0;clear hk hk1;go_wp2_with fail;have HA:=aj (Du l.arT l.aG 101 1 [] (.slice (some ⟨w1.heap.size,0,none⟩) 1 1) (iU.af.alloc (.cells #[ah 1] 51)) (xV.af.asa (.of_below ((PZ w1.heap.size w1).alloc (oD _) (.cells #[ah 1] 51) |>.mono wP))) (FX iU.af 51 [1] abD) Hl.af.arT Hl.af.aG abD wP (by simp;omega));refine HA.af.mono ?_;rintro e w2 ⟨v2,rfl,hM2,hs2⟩;have jW:=aj hM2;have HS2:=aj ((kM.af.trans (aU.alloc v w1 (.cells #[ah 1] 51))).trans hs2);clear hM2 hs2 HA;generalize p.asked s.ar1 l.arT l.aG 101 [1]=q at *;obtain⟨q1,q2⟩:=q;simp only at jW HJ HQ ⊢;have c12:=jW.af.c12;have hz2:=HS2.af.step.size;have Cj:=aj (Zw B w2 v2.ar7 q1.ar7 q2 jW.af.ar7 (by rw[HJ.af];omega) wP);have Hpb:Hid (pb<w2/\v2.ar7.ownBlock≠some pb):=aj ⟨jW.af.lt,fun e=>jW.af.ar7.notE pb e (aH rfl)⟩;obtain⟨ja,jc,uL⟩:=jW.af.ar7.form;rw[uL]at c12 Cj;have Om:=aj uL;obtain ⟨n,hn⟩:=aiG q1.ar7.length;rw[<-hn]at c12 Cj Om;unfold aA.jump at HQ;clear uL hn;generalize hpi:fE q1.ar7 (q2:Int)=pi at *;have Hpi:=aj hpi;clear hpi;obtain⟨l',i⟩:=pi;simp only at Cj HQ;go_wp2_with fail;refine Cj.af.mono ?_;rintro e w3 ⟨u',rfl,hown,hst,hnew⟩;have hex:w3.heap[pb]? =_:=(hst.block pb ⟨Hpb.af.1,by rw[<-Om.af];exact Hpb.af.2⟩).trans jW.af.ex;have hfz:w3.frozen? (ak pb 12)=false:=vV hex 12;have c2:=lU hex 12 _ rfl;have HR:=aj (jW.af.Rt (by rw[Om.af];exact hst) hown (by rw[Om.af];exact hnew));obtain⟨ua,uc,rfl⟩:=hown.form;have HE:Hid (mP B pb sv s own v w (p.called s.ar1 l) (.returned (.tuple #[])) (w3.setCell ⟨pb,12,none⟩ (.slice ua l'.length uc))):=aj ⟨_,rfl,by rw[HQ.af];exact HR.af.1,HS2.af.trans HR.af.2⟩;clear hown hst hnew hex;go_wp2;go_end0;exact HE.af
 by_cases hk3:l.ar3=3
 ·have HQ:Hid (p.called s.ar1 l=(((p.asked s.ar1 l.arT l.aG 101 [3]).1.cell 1 (p.asked s.ar1 l.arT l.aG 101 [3]).2).1.cell 2 (p.asked s.ar1 l.arT l.aG 101 [3]).2).1):=aj (by unfold aA.called;rw[if_neg hk1,if_pos hk3])
  have HC:Hid ((p.asked s.ar1 l.arT l.aG 101 [3]).1.cells=p.cells):=aj (nD _ _ _ _ _ _);rw[hk3]at c0;clear hk hk1 hk3;go_wp2_with fail;have HA:=aj (Du l.arT l.aG 101 3 [] (.slice (some ⟨w1.heap.size,0,none⟩) 1 1) (iU.af.alloc (.cells #[ah 3] 51)) (xV.af.asa (.of_below ((PZ w1.heap.size w1).alloc (oD _) (.cells #[ah 3] 51) |>.mono wP))) (FX iU.af 51 [3] abD) Hl.af.arT Hl.af.aG abD wP (by simp;omega));refine HA.af.mono ?_;rintro e w2 ⟨v2,rfl,hM2,hs2⟩;have jW:=aj hM2;have HS2:=aj ((kM.af.trans (aU.alloc v w1 (.cells #[ah 3] 51))).trans hs2);clear hM2 hs2 HA;generalize p.asked s.ar1 l.arT l.aG 101 [3]=q at *;obtain⟨q1,q2⟩:=q;simp only at jW HC HQ ⊢;have hz2:=HS2.af.step.size;go_wp2_with fail;refine(FM 1 q2 jW.af (by rw[HC.af];omega) wP).mono ?_;rintro e w3 ⟨v3,rfl,pV,hs3⟩;have uY:=aj pV;have pW:=aj (HS2.af.trans hs3);have hz3:=pW.af.step.size;clear pV hs3;have HC3:Hid ((q1.cell 1 q2).1.cells.length<=999995):=aj (by have:=rO 1 q2 q1;rw[HC.af]at this;omega);generalize q1.cell 1 q2=r at *;obtain⟨r1,r2⟩:=r;simp only at uY HC3 HQ ⊢;go_wp2_with fail;refine(FM 2 q2 uY.af (by have:=HC3.af;omega) wP).mono ?_;rintro e w4 ⟨v4,rfl,Ic,hs4⟩;have HE:Hid (mP B pb sv s own v w (p.called s.ar1 l) (.returned (.tuple #[])) w4):=aj ⟨_,rfl,by rw[HQ.af];exact Ic,pW.af.trans hs4⟩;clear Ic hs4;generalize r1.cell 2 q2=z at *;go_wp2;go_end0;exact HE.af
 by_cases hk4:l.ar3=4
 ·have HQ:Hid (p.called s.ar1 l=((p.asked s.ar1 l.arT l.aG 101 [3]).1.cell 3 (p.asked s.ar1 l.arT l.aG 101 [3]).2).1):=aj (by unfold aA.called;rw[if_neg hk1,if_neg hk3,if_pos hk4])
  have HC:Hid ((p.asked s.ar1 l.arT l.aG 101 [3]).1.cells=p.cells):=aj (nD _ _ _ _ _ _);rw[hk4]at c0;clear hk hk1 hk3 hk4;go_wp2_with fail;have HA:=aj (Du l.arT l.aG 101 3 [] (.slice (some ⟨w1.heap.size,0,none⟩) 1 1) (iU.af.alloc (.cells #[ah 3] 51)) (xV.af.asa (.of_below ((PZ w1.heap.size w1).alloc (oD _) (.cells #[ah 3] 51) |>.mono wP))) (FX iU.af 51 [3] abD) Hl.af.arT Hl.af.aG abD wP (by simp;omega));refine HA.af.mono ?_;rintro e w2 ⟨v2,rfl,hM2,hs2⟩;have jW:=aj hM2;have HS2:=aj ((kM.af.trans (aU.alloc v w1 (.cells #[ah 3] 51))).trans hs2);clear hM2 hs2 HA;generalize p.asked s.ar1 l.arT l.aG 101 [3]=q at *;obtain⟨q1,q2⟩:=q;simp only at jW HC HQ ⊢;have hz2:=HS2.af.step.size;go_wp2_with fail;refine(FM 3 q2 jW.af (by rw[HC.af];omega) wP).mono ?_;rintro e w4 ⟨v4,rfl,Ic,hs4⟩;have HE:Hid (mP B pb sv s own v w (p.called s.ar1 l) (.returned (.tuple #[])) w4):=aj ⟨_,rfl,by rw[HQ.af];exact Ic,HS2.af.trans hs4⟩;clear Ic hs4;generalize q1.cell 3 q2=z at *;go_wp2;go_end0;exact HE.af
 ·have HE:Hid (mP B pb sv s own v w (p.called s.ar1 l) (.returned (.tuple #[])) w1):=aj ⟨v,rfl,by unfold aA.called;rw[if_neg hk1,if_neg hk3,if_neg hk4];exact iU.af,kM.af⟩
  have e1:(l.ar3==1)=false:=by simp[hk1]
  have e3:(l.ar3==3)=false:=by simp[hk3]
  have e4:(l.ar3==4)=false:=by simp[hk4]
  clear hk1 hk3 hk4;go_wp2;go_end0;exact HE.af
theorem YS (l:dw) (hM:bB B pb w sv s own v p) (hS:gB (·<B) w sv s) (hl:wY l) (h1:p.av.length<=999990) (h2:p.cells.length<=999990) (hB:B<=w):
  Calls asq 98 #[aQ pb,.agg (arL l)] w (mP B pb sv s own v w (p.addressed s.ar1 l)):=by
 have iU:=aj (hM.alloc (.cells (arL l) 60));have kM:=aj (aU.alloc (pb:=pb) v w (.cells (arL l) 60));have eT:=aj (ah2 w (.cells (arL l) 60));have xV:=aj (hS.asa (.of_below ((PZ w.heap.size w).alloc (oD _) (.cells (arL l) 60) |>.mono hB)));have hz1:w.heap.size<(w.alloc (.cells (arL l) 60)):=arG;have Hl:=aj hl;have hk:=hl.ar3;clear hM hl hS;go_enter Tryz.func98,Tryz.ntmps98;go_upto_region 1 with fail
 generalize w.alloc (.cells (arL l) 60)=w1 at *;have c0:w1.cell? (ak w 0)=some (ah l.ar3):=aL eT.af rfl;have c7:w1.cell? (ak w 7)=some (ax l.arT):=aL eT.af rfl;have c8:w1.cell? (ak w 8)=some (ax l.aG):=aL eT.af rfl;by_cases hk2:l.ar3=2
 ·have HQ:Hid (p.addressed s.ar1 l=((p.asked s.ar1 l.arT l.aG 101 [2,1]).1.cell 0 (p.asked s.ar1 l.arT l.aG 101 [2,1]).2).1):=aj (by unfold aA.addressed;rw[if_pos hk2])
  have HC:Hid ((p.asked s.ar1 l.arT l.aG 101 [2,1]).1.cells=p.cells):=aj (nD _ _ _ _ _ _);rw[hk2]at c0;clear hk hk2;go_wp2_with fail;have HA:=aj (Du l.arT l.aG 101 2 [1] (.slice (some ⟨w1.heap.size,0,none⟩) 2 2) (iU.af.alloc (.cells #[ah 2,ah 1] 51)) (xV.af.asa (.of_below ((PZ w1.heap.size w1).alloc (oD _) (.cells #[ah 2,ah 1] 51) |>.mono wP))) (FX iU.af 51 [2,1] abD) Hl.af.arT Hl.af.aG abD wP (by simp;omega));refine HA.af.mono ?_;rintro e w2 ⟨v2,rfl,hM2,hs2⟩;have jW:=aj hM2;have HS2:=aj ((kM.af.trans (aU.alloc v w1 (.cells #[ah 2,ah 1] 51))).trans hs2);clear hM2 hs2 HA;generalize p.asked s.ar1 l.arT l.aG 101 [2,1]=q at *;obtain⟨q1,q2⟩:=q;simp only at jW HC HQ ⊢;have hz2:=HS2.af.step.size;go_wp2_with fail;refine(FM 0 q2 jW.af (by rw[HC.af];omega) wP).mono ?_;rintro e w4 ⟨v4,rfl,Ic,hs4⟩;have HE:Hid (mP B pb sv s own v w (p.addressed s.ar1 l) (.returned (.tuple #[])) w4):=aj ⟨_,rfl,by rw[HQ.af];exact Ic,HS2.af.trans hs4⟩;clear Ic hs4;generalize q1.cell 0 q2=z at *;go_wp2;go_end0;exact HE.af
 ·have HE:Hid (mP B pb sv s own v w (p.addressed s.ar1 l) (.returned (.tuple #[])) w1):=aj ⟨v,rfl,by unfold aA.addressed;rw[if_neg hk2];exact iU.af,kM.af⟩
  have e1:(l.ar3==2)=false:=by simp[hk2]
  clear hk2;go_wp2;go_end0;exact HE.af
section
variable {S : Nat -> Prop} {w : World} {a : Option Addr} {b off : Nat}
theorem mF.func10 {l:List eH} (h:mF G6 S w l a b off) (i:Nat) (x:eH) (hx:l[i]? =some x):∃c,LB Kn S w c x.ar5/\lJ x.sym/\w.cell? (ak b (off+i*10))=some (ax x.sym.arT)/\w.cell? (ak b (off+i*10+1))=some (ax x.sym.asc)/\
  w.cell? (ak b (off+i*10+2))=some (.bool x.sym.old)/\w.cell? (ak b (off+i*10+3))=some (ah x.sym.ar3)/\w.cell? (ak b (off+i*10+4))=some (.bool x.sym.ar1)/\w.cell? (ak b (off+i*10+5))=some (ah x.sym.bq)/\
  w.cell? (ak b (off+i*10+6))=some (.bool x.sym.asg)/\w.cell? (ak b (off+i*10+7))=some (ah x.sym.value)/\w.cell? (ak b (off+i*10+8))=some (ah x.sym.size)/\w.cell? (ak b (off+i*10+9))=some c:=by
 obtain⟨row,⟨c,h1,h1',h3⟩,h2⟩:=h.row i x hx;subst h1;exact⟨c,h1',h3,h2 0 _ rfl,h2 1 _ rfl,h2 2 _ rfl,h2 3 _ rfl,h2 4 _ rfl,h2 5 _ rfl,h2 6 _ rfl,h2 7 _ rfl,h2 8 _ rfl,h2 9 _ rfl⟩
theorem mF.E9 {l:List dw} (h:mF Kn S w l a b off) (i:Nat) (x:dw) (hx:l[i]? =some x):wY x/\w.cell? (ak b (off+i*9))=some (ah x.ar3)/\w.cell? (ak b (off+i*9+1))=some (ah x.inst.op)/\
  w.cell? (ak b (off+i*9+2))=some (ah x.inst.a)/\w.cell? (ak b (off+i*9+3))=some (ah x.inst.b)/\w.cell? (ak b (off+i*9+4))=some (ah x.inst.c)/\w.cell? (ak b (off+i*9+5))=some (ah x.inst.bU)/\
  w.cell? (ak b (off+i*9+6))=some (ah x.a)/\w.cell? (ak b (off+i*9+7))=some (ax x.arT)/\w.cell? (ak b (off+i*9+8))=some (ax x.aG):=by
 obtain⟨row,⟨h1,h1'⟩,h2⟩:=h.row i x hx;subst h1;exact⟨h1',h2 0 _ rfl,h2 1 _ rfl,h2 2 _ rfl,h2 3 _ rfl,h2 4 _ rfl,h2 5 _ rfl,h2 6 _ rfl,h2 7 _ rfl,h2 8 _ rfl⟩
theorem mF.ano {l:List dx} (h:mF Zu S w l a b off) (i:Nat) (x:dx) (hx:l[i]? =some x):∃c d,LB dJ S w c x.ar8/\LB WE S w d x.ash/\lJ x.sym/\w.cell? (ak b (off+i*12))=some (ax x.sym.arT)/\w.cell? (ak b (off+i*12+1))=some (ax x.sym.asc)/\
  w.cell? (ak b (off+i*12+2))=some (.bool x.sym.old)/\w.cell? (ak b (off+i*12+3))=some (ah x.sym.ar3)/\w.cell? (ak b (off+i*12+4))=some (.bool x.sym.ar1)/\w.cell? (ak b (off+i*12+5))=some (ah x.sym.bq)/\
  w.cell? (ak b (off+i*12+6))=some (.bool x.sym.asg)/\w.cell? (ak b (off+i*12+7))=some (ah x.sym.value)/\w.cell? (ak b (off+i*12+8))=some (ah x.sym.size)/\
  w.cell? (ak b (off+i*12+9))=some c/\w.cell? (ak b (off+i*12+10))=some d/\w.cell? (ak b (off+i*12+11))=some (.bool x.copied):=by
 obtain⟨row,⟨c,d,h1,h1',h3,h4⟩,h2⟩:=h.row i x hx;subst h1;exact⟨c,d,h1',h3,h4,h2 0 _ rfl,h2 1 _ rfl,h2 2 _ rfl,h2 3 _ rfl,h2 4 _ rfl,h2 5 _ rfl,h2 6 _ rfl,h2 7 _ rfl,h2 8 _ rfl,h2 9 _ rfl,h2 10 _ rfl,h2 11 _ rfl⟩
theorem mF.RH {l:List gH} (h:mF WE S w l a b off) (i:Nat) (x:gH) (hx:l[i]? =some x):(jV x.asl/\jV x.add/\gU x.arT/\gU x.aG)/\w.cell? (ak b (off+i*4))=some (ah x.asl)/\w.cell? (ak b (off+i*4+1))=some (ax x.arT)/\
  w.cell? (ak b (off+i*4+2))=some (ax x.aG)/\w.cell? (ak b (off+i*4+3))=some (ah x.add):=by
 obtain⟨row,⟨h1,h1'⟩,h2⟩:=h.row i x hx;subst h1;exact⟨h1',h2 0 _ rfl,h2 1 _ rfl,h2 2 _ rfl,h2 3 _ rfl⟩
end
def aA.sz (p:aA):Nat:=p.av.length+p.cells.length+p.ar7.length
theorem gm {α:Type} {F:aA->α->aA} {c:Nat} (hF:∀p x,(F p x).sz<=p.sz+c):∀(l:List α) (p:aA),(l.foldl F p).sz<=p.sz+c*l.length
 | [],p=>arG
 | x :: l,p=>by
  have h1:=gm hF l (F p x);have h2:=hF p x;rw[nY,oF,Nat.mul_add];omega
theorem nL {l:List eH} {f:eH} (h:l[k]? =some f):(l.take (k+1)).flatMap (·.ar5)=(l.take k).flatMap (·.ar5)++f.ar5:=by
 rw[Qc,h,j5];simp
theorem rP (l:List eH) (k:Nat):((l.take k).flatMap (·.ar5)).length<=(l.flatMap (·.ar5)).length:=by
 have h:l.flatMap (·.ar5)=(l.take k).flatMap (·.ar5)++(l.drop k).flatMap (·.ar5):=by rw[<-j5,jf]
 rw[h];simp
theorem jm {α β:Type} {F:β->α->β} {l:List α} {x:α} (h:l[k]? =some x) (p:β):(l.take (k+1)).foldl F p=F ((l.take k).foldl F p) x:=by
 rw[Qc,h,fP];rfl
theorem ag4 (F:aA->dw->aA)
  (XX:∀(w:World) (v:bG) (p:aA) (l:dw),bB B pb w sv s own v p->gB (·<B) w sv s->wY l->p.sz<=999990->B<=w->
   Calls asq 96 #[aQ pb,.agg (arL l)] w (mP B pb sv s own v w (F p l)))
  (hF:∀p l,(F p l).sz<=p.sz+3) (hM:bB B pb w sv s own v p) (hS:gB (·<B) w sv s) (hsz:p.sz+3*s.ar5.length<=999990) (hB:B<=w):
  Calls asq 95 #[aQ pb,.func (.func 96) #[aQ pb] #[]] w (mP B pb sv s own v w (s.ar5.foldl F p)):=by
 have HDo:=aj XX;have HF:=aj hF;have HM:=aj hM;have HS:=aj hS;have c4:=hM.c4;obtain⟨fa,fb,Cz,ru,lZ,hfm,BA,jP⟩:=hS.ar2.at;rw[lZ]at c4;have Oo:=aj lZ;have hfa:=jP.addr;obtain ⟨m,hm⟩:=aiG s.ar2.length;have Hm:=aj hm;have tq:=aj jP;rw[<-hm]at c4 hfm BA hfa Oo;have hpl:=hM.lt;clear XX hF hM hS lZ jP hm;go_enter Tryz.func95,Tryz.ntmps95;go_wp2_with fail;go_loopw [14] (fun i wr=>∃(k:Nat) (v':bG),i=ah k/\k<=m/\bB B pb wr sv s own v' (((s.ar2.take k).flatMap (·.ar5)).foldl F p)/\aU pb v v' w wr) (fun i _=>m-(intOf i).toNat);exact⟨0,v,rfl,alg _,by simpa using HM.af,aU.refl _ _ _⟩;obtain⟨k,v1,rfl,hk,hM1,hs1⟩:=hrel;have iU:=aj hM1;have kM:=aj hs1;have hz1:=hs1.step.size;have qR:=aj (hs1.low HM.af hB);clear hM1 hs1;by_cases hlt:k<m
 ·obtain rfl:=hfa wP
  obtain⟨f,hf⟩:∃f,s.ar2[k]? =some f:=⟨_,gP (by rw[<-Hm.af];exact hlt)⟩;obtain⟨lv,hlv,-,g0,g1,g2,g3,g4,g5,g6,g7,g8,g9⟩:=(tq.af.below qR.af).func10 k f hf;have Hlv:=aj hlv;obtain⟨la,lb,Eo,jB,hlf,hlm,Fa,hlat⟩:=hlv.at;have hla:=hlat.addr;subst hlf;have Hf:=aj hf;have hk2:(k:Int)<(m:Int):=wP;obtain ⟨q,hq⟩:=aiG (((s.ar2.take k).flatMap (·.ar5)).foldl F p);have sP:Hid (((s.ar2.take (k+1)).flatMap (·.ar5)).foldl F p=f.ar5.foldl F q):=aj (by rw[nL hf,fP,hq])
  have aak:Hid (q.sz+3*f.ar5.length<=999990):=aj (by
   have h1:=gm HF.af ((s.ar2.take k).flatMap (·.ar5)) p;have h2:=rP s.ar2 (k+1);rw[nL hf,Kk]at h2;rw[<-hq]at h1;have h3:s.ar5.length=(s.ar2.flatMap (·.ar5)).length:=rfl;omega)
  rw[<-hq]at iU;clear hq hf hlv;obtain ⟨c,hc⟩:=aiG f.ar5.length;have Hc:=aj hc;rw[<-hc]at g9 hlm Fa hla;clear hc;have Af:=aj hlat;clear hlat;generalize hw1:wr=w1 at *;clear hw1;go_wp2_with fail;have jW:=aj (iU.af.alloc (.cells (arV f la c jB) 63));have HS2:=aj (kM.af.trans (aU.alloc v1 w1 (.cells (arV f la c jB) 63)));clear g0 g1 g2 g3 g4 g5 g6 g7 g8 g9;have Tx:=aj (Af.af.below ((PZ B w1).alloc wP (.cells (arV f la c jB) 63)));have aal:=aj (HS.af.asa (.of_below (qR.af.trans ((PZ B w1).alloc wP (.cells (arV f la c jB) 63)))));have hz2:=HS2.af.step.size;generalize w1.alloc (.cells (arV f la c jB) 63)=w2 at *;go_loopw [21] (fun i wr=>∃(j:Nat) (v':bG),i=ah j/\j<=c/\bB B pb wr sv s own v' ((f.ar5.take j).foldl F q)/\aU pb v1 v' w2 wr) (fun i _=>c-(intOf i).toNat);exact⟨0,v1,rfl,alg _,jW.af,aU.refl _ _ _⟩;obtain⟨j,v3,rfl,hj,pV,hs3⟩:=hrel;have uY:=aj pV;have pW:=aj hs3;have hz3:=hs3.step.size;have zD:=aj (hs3.low jW.af wP);clear pV hs3;by_cases hjt:j<c
  ·obtain rfl:=hla wP
   obtain⟨x,hx⟩:∃x,f.ar5[j]? =some x:=⟨_,gP (by rw[<-Hc.af];exact hjt)⟩;obtain⟨hxo,l0,l1,l2,l3,l4,l5,l6,l7,l8⟩:=(Tx.af.below zD.af).E9 j x hx;have Ty:=aj (jm (F:=F) hx q);have hj2:(j:Int)<(c:Int):=wP;have sS:=aj (uY.af.alloc (.cells (arL x) 60));have qH:=aj (pW.af.trans (aU.alloc v3 wr (.cells (arL x) 60)))
   have BB:=aj (HDo.af (wr.alloc (.cells (arL x) 60)) v3 ((f.ar5.take j).foldl F q) x sS.af (aal.af.asa (.of_below (zD.af.trans ((PZ B wr).alloc wP (.cells (arL x) 60))))) hxo (by
    have h1:=gm HF.af (f.ar5.take j) q;have h2:=aak.af;rw[og]at h1;have h3:min j f.ar5.length<=f.ar5.length:=Fe _ _;omega) (by simp;omega))
   clear hx hxo;go_wp2_with fail;refine BB.af.mono ?_;rintro e w5 ⟨v5,rfl,rX,hs5⟩;have qo:=aj rX;have uZ:=aj (qH.af.trans hs5);clear rX hs5 l0 l1 l2 l3 l4 l5 l6 l7 l8;go_wp2;go_roundw;exact⟨j+1,v5,arH,wP,by rw[Ty.af];exact qo.af,uZ.af⟩;simp[intOf];omega
  ·have pg:Hid (bB B pb wr sv s own v3 (f.ar5.foldl F q)):=aj (by
    have h:=uY.af
    rwa [dh (by have:=Hc.af;omega)]at h)
   go_wp2;go_roundw;exact⟨k+1,v3,arH,wP,by rw[sP.af];exact pg.af,HS2.af.trans pW.af⟩;simp[intOf];omega
 ·have HE:Hid (mP B pb sv s own v w (s.ar5.foldl F p) (.returned (.tuple #[])) wr):=aj ⟨v1,rfl,by
   have h:=iU.af
   rwa [dh (by have:=Hm.af;omega)]at h,kM.af⟩
  go_wp2;go_end0;exact HE.af
theorem abY (F:aA->dw->aA)
  (XX:∀(w:World) (v:bG) (p:aA) (l:dw),bB B pb w sv s own v p->gB (·<B) w sv s->wY l->p.sz<=999990->B<=w->
   Calls asq 97 #[aQ pb,.agg (arL l)] w (mP B pb sv s own v w (F p l)))
  (hF:∀p l,(F p l).sz<=p.sz+3) (hM:bB B pb w sv s own v p) (hS:gB (·<B) w sv s) (hsz:p.sz+3*s.ar5.length<=999990) (hB:B<=w):
  Calls asq 95 #[aQ pb,.func (.func 97) #[aQ pb] #[]] w (mP B pb sv s own v w (s.ar5.foldl F p)):=by
 have HDo:=aj XX;have HF:=aj hF;have HM:=aj hM;have HS:=aj hS;have c4:=hM.c4;obtain⟨fa,fb,Cz,ru,lZ,hfm,BA,jP⟩:=hS.ar2.at;rw[lZ]at c4;have Oo:=aj lZ;have hfa:=jP.addr;obtain ⟨m,hm⟩:=aiG s.ar2.length;have Hm:=aj hm;have tq:=aj jP;rw[<-hm]at c4 hfm BA hfa Oo;have hpl:=hM.lt;clear XX hF hM hS lZ jP hm;go_enter Tryz.func95,Tryz.ntmps95;go_wp2_with fail;go_loopw [14] (fun i wr=>∃(k:Nat) (v':bG),i=ah k/\k<=m/\bB B pb wr sv s own v' (((s.ar2.take k).flatMap (·.ar5)).foldl F p)/\aU pb v v' w wr) (fun i _=>m-(intOf i).toNat);exact⟨0,v,rfl,alg _,by simpa using HM.af,aU.refl _ _ _⟩;obtain⟨k,v1,rfl,hk,hM1,hs1⟩:=hrel;have iU:=aj hM1;have kM:=aj hs1;have hz1:=hs1.step.size;have qR:=aj (hs1.low HM.af hB);clear hM1 hs1;by_cases hlt:k<m
 ·obtain rfl:=hfa wP
  obtain⟨f,hf⟩:∃f,s.ar2[k]? =some f:=⟨_,gP (by rw[<-Hm.af];exact hlt)⟩;obtain⟨lv,hlv,-,g0,g1,g2,g3,g4,g5,g6,g7,g8,g9⟩:=(tq.af.below qR.af).func10 k f hf;have Hlv:=aj hlv;obtain⟨la,lb,Eo,jB,hlf,hlm,Fa,hlat⟩:=hlv.at;have hla:=hlat.addr;subst hlf;have Hf:=aj hf;have hk2:(k:Int)<(m:Int):=wP;obtain ⟨q,hq⟩:=aiG (((s.ar2.take k).flatMap (·.ar5)).foldl F p);have sP:Hid (((s.ar2.take (k+1)).flatMap (·.ar5)).foldl F p=f.ar5.foldl F q):=aj (by rw[nL hf,fP,hq])
  have aak:Hid (q.sz+3*f.ar5.length<=999990):=aj (by
   have h1:=gm HF.af ((s.ar2.take k).flatMap (·.ar5)) p;have h2:=rP s.ar2 (k+1);rw[nL hf,Kk]at h2;rw[<-hq]at h1;have h3:s.ar5.length=(s.ar2.flatMap (·.ar5)).length:=rfl;omega)
  rw[<-hq]at iU;clear hq hf hlv;obtain ⟨c,hc⟩:=aiG f.ar5.length;have Hc:=aj hc;rw[<-hc]at g9 hlm Fa hla;clear hc;have Af:=aj hlat;clear hlat;generalize hw1:wr=w1 at *;clear hw1;go_wp2_with fail;have jW:=aj (iU.af.alloc (.cells (arV f la c jB) 63));have HS2:=aj (kM.af.trans (aU.alloc v1 w1 (.cells (arV f la c jB) 63)));clear g0 g1 g2 g3 g4 g5 g6 g7 g8 g9;have Tx:=aj (Af.af.below ((PZ B w1).alloc wP (.cells (arV f la c jB) 63)));have aal:=aj (HS.af.asa (.of_below (qR.af.trans ((PZ B w1).alloc wP (.cells (arV f la c jB) 63)))));have hz2:=HS2.af.step.size;generalize w1.alloc (.cells (arV f la c jB) 63)=w2 at *;go_loopw [21] (fun i wr=>∃(j:Nat) (v':bG),i=ah j/\j<=c/\bB B pb wr sv s own v' ((f.ar5.take j).foldl F q)/\aU pb v1 v' w2 wr) (fun i _=>c-(intOf i).toNat);exact⟨0,v1,rfl,alg _,jW.af,aU.refl _ _ _⟩;obtain⟨j,v3,rfl,hj,pV,hs3⟩:=hrel;have uY:=aj pV;have pW:=aj hs3;have hz3:=hs3.step.size;have zD:=aj (hs3.low jW.af wP);clear pV hs3;by_cases hjt:j<c
  ·obtain rfl:=hla wP
   obtain⟨x,hx⟩:∃x,f.ar5[j]? =some x:=⟨_,gP (by rw[<-Hc.af];exact hjt)⟩;obtain⟨hxo,l0,l1,l2,l3,l4,l5,l6,l7,l8⟩:=(Tx.af.below zD.af).E9 j x hx;have Ty:=aj (jm (F:=F) hx q);have hj2:(j:Int)<(c:Int):=wP;have sS:=aj (uY.af.alloc (.cells (arL x) 60));have qH:=aj (pW.af.trans (aU.alloc v3 wr (.cells (arL x) 60)))
   have BB:=aj (HDo.af (wr.alloc (.cells (arL x) 60)) v3 ((f.ar5.take j).foldl F q) x sS.af (aal.af.asa (.of_below (zD.af.trans ((PZ B wr).alloc wP (.cells (arL x) 60))))) hxo (by
    have h1:=gm HF.af (f.ar5.take j) q;have h2:=aak.af;rw[og]at h1;have h3:min j f.ar5.length<=f.ar5.length:=Fe _ _;omega) (by simp;omega))
   clear hx hxo;go_wp2_with fail;refine BB.af.mono ?_;rintro e w5 ⟨v5,rfl,rX,hs5⟩;have qo:=aj rX;have uZ:=aj (qH.af.trans hs5);clear rX hs5 l0 l1 l2 l3 l4 l5 l6 l7 l8;go_wp2;go_roundw;exact⟨j+1,v5,arH,wP,by rw[Ty.af];exact qo.af,uZ.af⟩;simp[intOf];omega
  ·have pg:Hid (bB B pb wr sv s own v3 (f.ar5.foldl F q)):=aj (by
    have h:=uY.af
    rwa [dh (by have:=Hc.af;omega)]at h)
   go_wp2;go_roundw;exact⟨k+1,v3,arH,wP,by rw[sP.af];exact pg.af,HS2.af.trans pW.af⟩;simp[intOf];omega
 ·have HE:Hid (mP B pb sv s own v w (s.ar5.foldl F p) (.returned (.tuple #[])) wr):=aj ⟨v1,rfl,by
   have h:=iU.af
   rwa [dh (by have:=Hm.af;omega)]at h,kM.af⟩
  go_wp2;go_end0;exact HE.af
theorem WM (F:aA->dw->aA)
  (XX:∀(w:World) (v:bG) (p:aA) (l:dw),bB B pb w sv s own v p->gB (·<B) w sv s->wY l->p.sz<=999990->B<=w->
   Calls asq 98 #[aQ pb,.agg (arL l)] w (mP B pb sv s own v w (F p l)))
  (hF:∀p l,(F p l).sz<=p.sz+3) (hM:bB B pb w sv s own v p) (hS:gB (·<B) w sv s) (hsz:p.sz+3*s.ar5.length<=999990) (hB:B<=w):
  Calls asq 95 #[aQ pb,.func (.func 98) #[aQ pb] #[]] w (mP B pb sv s own v w (s.ar5.foldl F p)):=by
 have HDo:=aj XX;have HF:=aj hF;have HM:=aj hM;have HS:=aj hS;have c4:=hM.c4;obtain⟨fa,fb,Cz,ru,lZ,hfm,BA,jP⟩:=hS.ar2.at;rw[lZ]at c4;have Oo:=aj lZ;have hfa:=jP.addr;obtain ⟨m,hm⟩:=aiG s.ar2.length;have Hm:=aj hm;have tq:=aj jP;rw[<-hm]at c4 hfm BA hfa Oo;have hpl:=hM.lt;clear XX hF hM hS lZ jP hm;go_enter Tryz.func95,Tryz.ntmps95;go_wp2_with fail;go_loopw [14] (fun i wr=>∃(k:Nat) (v':bG),i=ah k/\k<=m/\bB B pb wr sv s own v' (((s.ar2.take k).flatMap (·.ar5)).foldl F p)/\aU pb v v' w wr) (fun i _=>m-(intOf i).toNat);exact⟨0,v,rfl,alg _,by simpa using HM.af,aU.refl _ _ _⟩;obtain⟨k,v1,rfl,hk,hM1,hs1⟩:=hrel;have iU:=aj hM1;have kM:=aj hs1;have hz1:=hs1.step.size;have qR:=aj (hs1.low HM.af hB);clear hM1 hs1;by_cases hlt:k<m
 ·obtain rfl:=hfa wP
  obtain⟨f,hf⟩:∃f,s.ar2[k]? =some f:=⟨_,gP (by rw[<-Hm.af];exact hlt)⟩;obtain⟨lv,hlv,-,g0,g1,g2,g3,g4,g5,g6,g7,g8,g9⟩:=(tq.af.below qR.af).func10 k f hf;have Hlv:=aj hlv;obtain⟨la,lb,Eo,jB,hlf,hlm,Fa,hlat⟩:=hlv.at;have hla:=hlat.addr;subst hlf;have Hf:=aj hf;have hk2:(k:Int)<(m:Int):=wP;obtain ⟨q,hq⟩:=aiG (((s.ar2.take k).flatMap (·.ar5)).foldl F p);have sP:Hid (((s.ar2.take (k+1)).flatMap (·.ar5)).foldl F p=f.ar5.foldl F q):=aj (by rw[nL hf,fP,hq])
  have aak:Hid (q.sz+3*f.ar5.length<=999990):=aj (by
   have h1:=gm HF.af ((s.ar2.take k).flatMap (·.ar5)) p;have h2:=rP s.ar2 (k+1);rw[nL hf,Kk]at h2;rw[<-hq]at h1;have h3:s.ar5.length=(s.ar2.flatMap (·.ar5)).length:=rfl;omega)
  rw[<-hq]at iU;clear hq hf hlv;obtain ⟨c,hc⟩:=aiG f.ar5.length;have Hc:=aj hc;rw[<-hc]at g9 hlm Fa hla;clear hc;have Af:=aj hlat;clear hlat;generalize hw1:wr=w1 at *;clear hw1;go_wp2_with fail;have jW:=aj (iU.af.alloc (.cells (arV f la c jB) 63));have HS2:=aj (kM.af.trans (aU.alloc v1 w1 (.cells (arV f la c jB) 63)));clear g0 g1 g2 g3 g4 g5 g6 g7 g8 g9;have Tx:=aj (Af.af.below ((PZ B w1).alloc wP (.cells (arV f la c jB) 63)));have aal:=aj (HS.af.asa (.of_below (qR.af.trans ((PZ B w1).alloc wP (.cells (arV f la c jB) 63)))));have hz2:=HS2.af.step.size;generalize w1.alloc (.cells (arV f la c jB) 63)=w2 at *;go_loopw [21] (fun i wr=>∃(j:Nat) (v':bG),i=ah j/\j<=c/\bB B pb wr sv s own v' ((f.ar5.take j).foldl F q)/\aU pb v1 v' w2 wr) (fun i _=>c-(intOf i).toNat);exact⟨0,v1,rfl,alg _,jW.af,aU.refl _ _ _⟩;obtain⟨j,v3,rfl,hj,pV,hs3⟩:=hrel;have uY:=aj pV;have pW:=aj hs3;have hz3:=hs3.step.size;have zD:=aj (hs3.low jW.af wP);clear pV hs3;by_cases hjt:j<c
  ·obtain rfl:=hla wP
   obtain⟨x,hx⟩:∃x,f.ar5[j]? =some x:=⟨_,gP (by rw[<-Hc.af];exact hjt)⟩;obtain⟨hxo,l0,l1,l2,l3,l4,l5,l6,l7,l8⟩:=(Tx.af.below zD.af).E9 j x hx;have Ty:=aj (jm (F:=F) hx q);have hj2:(j:Int)<(c:Int):=wP;have sS:=aj (uY.af.alloc (.cells (arL x) 60));have qH:=aj (pW.af.trans (aU.alloc v3 wr (.cells (arL x) 60)))
   have BB:=aj (HDo.af (wr.alloc (.cells (arL x) 60)) v3 ((f.ar5.take j).foldl F q) x sS.af (aal.af.asa (.of_below (zD.af.trans ((PZ B wr).alloc wP (.cells (arL x) 60))))) hxo (by
    have h1:=gm HF.af (f.ar5.take j) q;have h2:=aak.af;rw[og]at h1;have h3:min j f.ar5.length<=f.ar5.length:=Fe _ _;omega) (by simp;omega))
   clear hx hxo;go_wp2_with fail;refine BB.af.mono ?_;rintro e w5 ⟨v5,rfl,rX,hs5⟩;have qo:=aj rX;have uZ:=aj (qH.af.trans hs5);clear rX hs5 l0 l1 l2 l3 l4 l5 l6 l7 l8;go_wp2;go_roundw;exact⟨j+1,v5,arH,wP,by rw[Ty.af];exact qo.af,uZ.af⟩;simp[intOf];omega
  ·have pg:Hid (bB B pb wr sv s own v3 (f.ar5.foldl F q)):=aj (by
    have h:=uY.af
    rwa [dh (by have:=Hc.af;omega)]at h)
   go_wp2;go_roundw;exact⟨k+1,v3,arH,wP,by rw[sP.af];exact pg.af,HS2.af.trans pW.af⟩;simp[intOf];omega
 ·have HE:Hid (mP B pb sv s own v w (s.ar5.foldl F p) (.returned (.tuple #[])) wr):=aj ⟨v1,rfl,by
   have h:=iU.af
   rwa [dh (by have:=Hm.af;omega)]at h,kM.af⟩
  go_wp2;go_end0;exact HE.af
theorem Qb (p:aA) (l:dw):(p.line l).sz<=p.sz+3:=by unfold aA.line aA.sz;simp
theorem Dv (ar1:List (List UInt8)) (p:aA) (l:dw):(p.called ar1 l).sz<=p.sz+3:=by
 have h1:=fun ks=>nD ar1 l.arT l.aG 101 ks p
 have h2:=fun ks=>rH ar1 l.arT l.aG 101 ks p
 have h3:=fun ks=>CG ar1 l.arT l.aG 101 ks p
 unfold aA.called aA.sz
 split
 ·have h4:=uI (p.asked ar1 l.arT l.aG 101 [1]).1.ar7 ((p.asked ar1 l.arT l.aG 101 [1]).2:Int)
  simp only[aA.jump];rw[h1 [1]];rw[h2 [1]]at h4 ⊢;have:=h3 [1];omega
 ·split
  ·simp only[aA.cell]
   have h5:=uI (p.asked ar1 l.arT l.aG 101 [3]).1.cells ((1:Int),((p.asked ar1 l.arT l.aG 101 [3]).2:Int));have h6:=uI (fE (p.asked ar1 l.arT l.aG 101 [3]).1.cells ((1:Int),((p.asked ar1 l.arT l.aG 101 [3]).2:Int))).1 ((2:Int),((p.asked ar1 l.arT l.aG 101 [3]).2:Int));rw[h1 [3]]at h5 h6 ⊢;rw[h2 [3]];have:=h3 [3];omega
  ·split
   ·simp only[aA.cell]
    have h5:=uI (p.asked ar1 l.arT l.aG 101 [3]).1.cells ((3:Int),((p.asked ar1 l.arT l.aG 101 [3]).2:Int));rw[h1 [3]]at h5 ⊢;rw[h2 [3]];have:=h3 [3];omega
   ·omega
theorem BC (ar1:List (List UInt8)) (p:aA) (l:dw):(p.addressed ar1 l).sz<=p.sz+3:=by
 have h1:=fun ks=>nD ar1 l.arT l.aG 101 ks p
 have h2:=fun ks=>rH ar1 l.arT l.aG 101 ks p
 have h3:=fun ks=>CG ar1 l.arT l.aG 101 ks p
 unfold aA.addressed aA.sz
 split
 ·simp only[aA.cell]
  have h5:=uI (p.asked ar1 l.arT l.aG 101 [2,1]).1.cells ((0:Int),((p.asked ar1 l.arT l.aG 101 [2,1]).2:Int));rw[h1 [2,1]]at h5 ⊢;rw[h2 [2,1]];have:=h3 [2,1];omega
 ·omega
theorem ag5 (hM:bB B pb w sv s own v p) (hS:gB (·<B) w sv s) (hsz:p.sz+9*s.ar5.length<=999990) (hB:B<=w):
  Calls asq 44 #[aQ pb] w (mP B pb sv s own v w (p.needs s)):=by
 have HS:=aj hS;have HM:=aj hM;have E1:=aj (ag4 (fun p l=>p.line l) (fun w v p l hM hS hl hs hB=>aiv l hM hl) Qb hM hS wP hB);have E2:=aj (fun (w:World) (v:bG) (p:aA) (hM:bB B pb w sv s own v p) (hS:gB (·<B) w sv s) (hsz:p.sz+3*s.ar5.length<=999990) (hB:B<=w)=>abY (fun p l=>p.called s.ar1 l) (fun w v p l hM hS hl hs hB=>adp l hM hS hl (by unfold aA.sz at hs;omega) (by unfold aA.sz at hs;omega) (by unfold aA.sz at hs;omega) hB) (Dv s.ar1) hM hS hsz hB);have E3:=aj (fun (w:World) (v:bG) (p:aA) (hM:bB B pb w sv s own v p) (hS:gB (·<B) w sv s) (hsz:p.sz+3*s.ar5.length<=999990) (hB:B<=w)=>WM (fun p l=>p.addressed s.ar1 l) (fun w v p l hM hS hl hs hB=>YS l hM hS hl (by unfold aA.sz at hs;omega) (by unfold aA.sz at hs;omega) hB) (BC s.ar1) hM hS hsz hB);have Z1:=aj (gm Qb s.ar5 p);have Z2:=aj (fun q=>gm (Dv s.ar1) s.ar5 q);have HQ:Hid (p.needs s=s.ar5.foldl (fun p l=>p.addressed s.ar1 l) (s.ar5.foldl (fun p l=>p.called s.ar1 l) (s.ar5.foldl (fun p l=>p.line l) p))):=aj rfl;clear hM hS;go_enter Tryz.func44,Tryz.ntmps44;go_wp2_with fail;refine E1.af.mono ?_;rintro e w1 ⟨v1,rfl,hM1,hs1⟩;have iU:=aj hM1;have kM:=aj hs1;have hz1:=hs1.step.size;have qR:=aj (hs1.low HM.af hB);clear hM1 hs1 E1;go_wp2_with fail;refine(E2.af w1 v1 _ iU.af (HS.af.asa (.of_below qR.af)) (by have:=Z1.af;omega) wP).mono ?_;rintro e w2 ⟨v2,rfl,hM2,hs2⟩;have jW:=aj hM2;have HS2:=aj (kM.af.trans hs2);have hz2:=HS2.af.step.size;have HL2:=aj (HS2.af.low HM.af hB);clear hM2 hs2 E2;go_wp2_with fail;refine(E3.af w2 v2 _ jW.af (HS.af.asa (.of_below HL2.af)) (by have:=Z1.af;have:=Z2.af (s.ar5.foldl (fun p l=>p.line l) p);omega) wP).mono ?_;rintro e w3 ⟨v3,rfl,pV,hs3⟩;have HE:Hid (mP B pb sv s own v w (p.needs s) (.returned (.tuple #[])) w3):=aj ⟨v3,rfl,by rw[HQ.af];exact pV,HS2.af.trans hs3⟩;clear pV hs3 E3;go_wp2;go_end0;exact HE.af
theorem bB.aam (h:bB B pb w sv s own v p) (o:Int):bB B pb (w.setCell ⟨pb,10,none⟩ (ah o)) sv s o v p:=
 ⟨eu h.ex 10 _,h.base,h.av.setOther (aH rfl) 10 _,h.cells.setOther (aH rfl) 10 _,h.ar7.setOther (aH rfl) 10 _⟩
structure gK (B pb:Nat) (sv:bN) (s:aM) (own:Int) (v:bG) (w:World) (bs:List (Nat × Obj)) (q:aA) (w':World):Prop where
 ex:∃v',bB B pb w' sv s own v' q/\aU pb v v' w w'/\∀b∈bs,w'.heap[b.1]? =some b.2/\Kept pb v' w' b.1
section
variable {B pb : Nat} {sv : bN} {s : aM} {own : Int} {v : bG} {w w1 : World} {bs : List (Nat × Obj)} {q : aA}
theorem gK.size (h:gK B pb sv s own v w bs q w1):w.heap.size<=w1:=by
 obtain⟨v',_,h2,_⟩:=h.ex;exact h2.step.size
theorem gK.low (h:gK B pb sv s own v w bs q w1) {own':Int} (hM:bB B pb w sv s own' v p) (hB:B<=w):Below B w w1:=by
 obtain⟨v',_,h2,_⟩:=h.ex;exact h2.low hM hB
theorem gK.box (h:gK B pb sv s own v w bs q w1) {b:Nat} {xs:List Value} {t:TypeId} (hb:(b,Obj.cells xs.toArray t (0,0))∈bs) (i:Nat) (u:Value) (hu:xs[i]? =some u):w1.cell? (ak b i)=some u:=by
 obtain⟨v',_,_,h3⟩:=h.ex;rw[aV (h3 _ hb).1];simpa using hu
theorem gK.sub {bs':List (Nat × Obj)} (h:gK B pb sv s own v w bs q w1) (hb:∀b∈bs',b∈bs):gK B pb sv s own v w bs' q w1:=by
 obtain⟨v',h1,h2,h3⟩:=h.ex;exact⟨v',h1,h2,fun b hb'=>h3 b (hb b hb')⟩
theorem gK.more {v1:bG} {q1:aA} (h2:aU pb v v1 w w1) (h3:∀b∈bs,w1.heap[b.1]? =some b.2/\Kept pb v1 w1 b.1) {v2:bG} (hM:bB B pb w2 sv s own v2 q1) (hs:aU pb v1 v2 w1 w2):gK B pb sv s own v w bs q1 w2:=
 ⟨v2,hM,h2.trans hs,fun b hb=>⟨(hs.block (h3 b hb).2).trans (h3 b hb).1,hs.kept (h3 b hb).2⟩⟩
theorem gK.alloc (h:gK B pb sv s own v w bs q w1) (o:Array Value) (t:TypeId):gK B pb sv s own v w ((w1.heap.size,.cells o t (0,0)) :: bs) q (w1.alloc (.cells o t (0,0))):=by
 obtain⟨v',h1,h2,h3⟩:=h.ex;refine⟨v',h1.alloc _,h2.trans (aU.alloc v' w1 _),fun b hb=> ?_⟩;rcases List.mem_cons.1 hb with rfl | hb
 ·exact⟨ah2 _ _,h1.qM _⟩
 ·exact⟨(dX w1 _ (h3 b hb).2.lt).trans (h3 b hb).1,(h3 b hb).2.alloc _⟩
theorem gK.fail (h:gK B pb sv s own v w bs q w1) (e:Int):Calls asq 42 #[aQ pb,ah e] w1 fun x w2=>x=.returned (.tuple #[])/\gK B pb sv s own v w bs (q.dm true e) w2:=by
 obtain⟨v',h1,h2,h3⟩:=h.ex;refine(Cv e h1).mono ?_;rintro x w2 ⟨rfl,hM,hs⟩;exact⟨rfl,.more h2 h3 hM hs⟩
theorem gK.define (h:gK B pb sv s own v w bs q w1) (x:bF) (bf:Bool) (e:Int) (hx:lJ x) (hl:q.sz<=1000000) (hB:B<=w):
  Calls asq 43 #[aQ pb,.agg (arK x),.bool bf,ah e] w1 fun r w2=>r=.returned (.tuple #[])/\gK B pb sv s own v w bs (q.define x bf e) w2:=by
 have hz:=h.size;obtain⟨v',h1,h2,h3⟩:=h.ex;refine(adl x bf e h1 hx (by unfold aA.sz at hl;omega) wP).mono ?_;rintro r w2 ⟨v2,rfl,hM,hs⟩;exact⟨rfl,.more h2 h3 hM hs⟩
theorem gK.aam (h:gK B pb sv s own v w bs q w1) (o:Int):gK B pb sv s o v w bs q (w1.setCell ⟨pb,10,none⟩ (ah o)):=by
 obtain⟨v',h1,h2,h3⟩:=h.ex;exact .more h2 h3 (h1.aam o) (aU.set v' 10 _)
theorem gK.c9 (h:gK B pb sv s own v w bs q w1):∃a c,w1.cell? (ak pb 9)=some (.slice a q.av.length c):=by
 obtain⟨v',h1,h2,h3⟩:=h.ex;obtain⟨a,c,hf⟩:=h1.av.form;exact⟨a,c,by rw[h1.c9,hf]⟩
theorem gK.c10 (h:gK B pb sv s own v w bs q w1):w1.cell? (ak pb 10)=some (ah own)/\w1.frozen? (ak pb 10)=false:=by
 obtain⟨v',h1,h2,h3⟩:=h.ex;exact⟨h1.c10,h1.frozen 10⟩
theorem gK.needs (h:gK B pb sv s own v w bs q w1) (hM:∃o,bB B pb w sv s o v p) (hS:gB (·<B) w sv s) (hl:q.sz+9*s.ar5.length<=999990) (hB:B<=w):
  Calls asq 44 #[aQ pb] w1 fun r w2=>r=.returned (.tuple #[])/\gK B pb sv s own v w bs (q.needs s) w2:=by
 obtain⟨o,hM⟩:=hM;have hz:=h.size;have hlow:=h.low hM hB;obtain⟨v',h1,h2,h3⟩:=h.ex;refine(ag5 h1 (hS.asa (.of_below hlow)) hl wP).mono ?_;rintro r w2 ⟨v2,rfl,hM,hs⟩;exact⟨rfl,.more h2 h3 hM hs⟩
theorem gK.asked (h:gK B pb sv s own v w bs q w1) (hM:∃o,bB B pb w sv s o v p) (hS:gB (·<B) w sv s) (arT aG:List UInt8) (e k0:Int) (ks:List Int) (t:TypeId) (hn:gU arT) (hv:gU aG) (hk:jV k0) (hks:ks.length<=100) (hl:q.sz<=999990) (hB:B<=w):
  Calls asq 45 #[aQ pb,ax arT,ax aG,ah e,.slice (some ⟨w1.heap.size,0,none⟩) (k0 :: ks).length (k0 :: ks).length] (w1.alloc (.cells ((k0 :: ks).map (Value.int .i64)).toArray t (0,0))) fun r w2=>∃i:Nat,r=.returned (ah i)/\gK B pb sv s own v w bs (q.asked s.ar1 arT aG e (k0 :: ks)).1 w2:=by
 obtain⟨o,hM⟩:=hM;have hz:=h.size;have hlow:=h.low hM hB;have h':=(h.alloc ((k0 :: ks).map (Value.int .i64)).toArray t).sub (bs':=bs) (fun b hb=>uT _ hb);obtain⟨v',h1,h2,h3⟩:=h.ex;have hst:=aU.alloc (pb:=pb) v' w1 (.cells ((k0 :: ks).map (Value.int .i64)).toArray t (0,0));refine(Du arT aG e k0 ks _ (h1.alloc _) (hS.asa (.of_below (hlow.trans ((PZ B w1).alloc wP _)))) (FX h1 t (k0 :: ks) (by simp;omega)) hn hv hk (by unfold aA.sz at hl;omega) (by simp;omega)).mono ?_;rintro r w2 ⟨v2,rfl,hM,hs⟩;exact⟨_,rfl,.more h2 h3 hM (hst.trans hs)⟩
end
def rY (c:Nat):Bool:=decide (c<1)||decide (256<c)
theorem mF.rZ {a:Option Addr} {off:Nat} {l:List dx} (h:mF Zu (·<B) w l a b off) (hb:Below B w w1) (i:Nat) (x:dx) (hx:l[i]? =some x):∃c d,LB dJ (·<B) w c x.ar8/\LB WE (·<B) w d x.ash/\lJ x.sym/\w1.cell? (ak b (off+i*12))=some (ax x.sym.arT)/\w1.cell? (ak b (off+i*12+1))=some (ax x.sym.asc)/\
  w1.cell? (ak b (off+i*12+2))=some (.bool x.sym.old)/\w1.cell? (ak b (off+i*12+3))=some (ah x.sym.ar3)/\w1.cell? (ak b (off+i*12+4))=some (.bool x.sym.ar1)/\w1.cell? (ak b (off+i*12+5))=some (ah x.sym.bq)/\
  w1.cell? (ak b (off+i*12+6))=some (.bool x.sym.asg)/\w1.cell? (ak b (off+i*12+7))=some (ah x.sym.value)/\w1.cell? (ak b (off+i*12+8))=some (ah x.sym.size)/\
  w1.cell? (ak b (off+i*12+9))=some c/\w1.cell? (ak b (off+i*12+10))=some d/\w1.cell? (ak b (off+i*12+11))=some (.bool x.copied):=by
 have JL:b<B:=h.mG (by have:=(Sm.1 hx).1;omega);obtain⟨row,⟨c,d,h1,h1',h3,h4⟩,h2⟩:=h.row i x hx;subst h1;have h5:∀j u,(lT x.sym++[c,d,.bool x.copied])[j]? =some u->w1.cell? (ak b (off+i*12+j))=some u:=fun j u hu=>(hb.cell (p:=(ak b (off+i*12+j))) JL).trans (h2 j u hu)
 exact⟨c,d,h1',h3,h4,h5 0 _ rfl,h5 1 _ rfl,h5 2 _ rfl,h5 3 _ rfl,h5 4 _ rfl,h5 5 _ rfl,h5 6 _ rfl,h5 7 _ rfl,h5 8 _ rfl,h5 9 _ rfl,h5 10 _ rfl,h5 11 _ rfl⟩
theorem Oq {l:List dx} (h:l[k]? =some f):(l.take (k+1)).flatMap (·.ash)=(l.take k).flatMap (·.ash)++f.ash:=by
 rw[Qc,h,j5];simp
theorem zZ (l:List dx) (k:Nat):((l.take k).flatMap (·.ash)).length<=(l.flatMap (·.ash)).length:=by
 have h:l.flatMap (·.ash)=(l.take k).flatMap (·.ash)++(l.drop k).flatMap (·.ash):=by rw[<-j5,jf]
 rw[h];simp
theorem Qd {l:List dx} (h:l[k]? =some f):f.ash.length<=(l.flatMap (·.ash)).length:=by
 have:=zZ l (k+1);rw[Oq h]at this;simp at this ⊢;omega
theorem Dw (ar1:List (List UInt8)):∀(l:List dx) (p:aA),l.foldl (fun p v=>p.ash ar1 v) p=(l.flatMap (·.ash)).foldl (fun p (r:gH)=>(p.asked ar1 r.arT r.aG 102 [2,1]).1) p
 | [],_=>rfl
 | v :: l,p=>by rw[nY,Dw ar1 l,KF,fP];rfl
theorem and_one (f:Int):bits BinOp.and .i64 f 1=f%2:=by
 have h1:(BitVec.ofInt 64 f &&& BitVec.ofInt 64 1).toNat=(f%2).toNat:=by
  rw[BitVec.toNat_and];have h2:(BitVec.ofInt 64 1).toNat=1:=abD;rw[h2,Nat.and_one_is_mod,BitVec.toNat_ofInt];omega
 have h3:bits BinOp.and .i64 f 1=IntKind.i64.wrap ((BitVec.ofInt 64 f &&& BitVec.ofInt 64 1).toNat:Int):=rfl;rw[h3,h1];have:f%2=0∨f%2=1:=wP;rcases this with h | h<;>rw[h]<;>decide
theorem akO {f:Int}:(bits BinOp.and .i64 f 1==0)= !I9 f:=by
 rw[and_one];unfold I9;have:f%2=0∨f%2=1:=wP;rcases this with h | h<;>rw[h]<;>decide
def mq (ar4:Int) (v:dx):Bool:=decide (v.ar8.length<1)||decide (256<v.ar8.length)||decide (v.sym.ar3=1)||(v.copied&&(!I9 ar4|| !decide (v.sym.ar3=2)||decide (0<v.ash.length)))
def qp (v:dx) (last:Int) (r:gH):Bool:=decide (r.asl<=last)||decide ((v.ar8.length:Int)<=r.asl)|| !decide (v.sym.ar3=2)
theorem var_eq (ar4:Int) (v:dx) (p:aA):p.var ar4 v=gZ v (-1) v.ash ((p.dm (mq ar4 v) 102).define v.sym (v.sym.ar3==3) 100):=rfl
def lastOf:Int->List gH->Int
 | z,[]=>z
 | _,r :: l=>lastOf r.asl l
theorem Jg (r:gH):∀(l:List gH) (z:Int),lastOf z (l++[r])=r.asl
 | [],_=>rfl
 | x :: l,_=>Jg r l x.asl
theorem Ep (v:dx) (r:gH):∀(l:List gH) (z:Int) (p:aA),gZ v z (l++[r]) p=(gZ v z l p).dm (qp v (lastOf z l) r) 102
 | [],_,_=>rfl
 | x :: l,z,p=>by
  show gZ v x.asl (l++[r]) _=_;rw[Ep v r l];rfl
theorem Tz (h:c<1):rY c=true:=by simp[rY,h]
theorem QF (h:¬c<1):rY c=decide (256<c):=by simp[rY,h]
def ag6 (B pb:Nat) (sv:bN) (s:aM) (v:bG) (w:World) (r:Ending) (w':World):Prop:=∃own v',r=.returned (.tuple #[])/\bB B pb w' sv s own v' (aC s)/\aU pb v v' w w'
theorem JM (p:aA) (f:eH):(p.func f).sz<=p.sz+1:=by unfold aA.func aA.define aA.sz;simp;omega
theorem QG (v:dx):∀(l:List gH) (last:Int) (p:aA),(gZ v last l p).sz=p.sz
 | [],_,_=>rfl
 | r :: l,last,p=>by unfold gZ;rw[QG v l];unfold aA.sz;simp
theorem Ot (p:aA) (ar4:Int) (v:dx):(p.var ar4 v).sz<=p.sz+1:=by unfold aA.var;rw[QG];unfold aA.define aA.sz;simp;omega
theorem wE (ar1:List (List UInt8)) (n v:List UInt8) (e:Int) (ks:List Int) (p:aA):(p.asked ar1 n v e ks).1.sz<=p.sz+1:=by
 have h1:=nD ar1 n v e ks p;have h2:=rH ar1 n v e ks p;have h3:=CG ar1 n v e ks p;unfold aA.sz;rw[h1,h2];omega
theorem yG (b:Bool) (e:Int) (p:aA):(p.dm b e).sz=p.sz:=by unfold aA.sz;simp
theorem ag7 (hM:bB B pb w sv s 0 v ⟨[],[],[],0⟩) (hS:gB (·<B) w sv s) (hB:B<=w) (hf:s.ar2.length<=2000) (hv:s.vars.length<=2000) (hl:s.ar5.length<=2000) (hr:(s.vars.flatMap (·.ash)).length<=2000):
  Calls asq 10 #[aQ pb] w (ag6 B pb sv s v w):=by
 have HS:=aj hS;have HM:=aj hM;obtain⟨a2,n2,hv2⟩:=hS.ar6.form;obtain⟨a3,n3,hv3⟩:=hS.aF.form;obtain⟨a4,n4,hv4⟩:=hS.ar2.form;obtain⟨a5,n5,hv5⟩:=hS.vars.form;obtain⟨a6,n6,hv6⟩:=hS.ar1.form;obtain⟨a7,n7,hv7⟩:=hS.asb.form;obtain⟨a8,n8,FY⟩:=hS.aP.form;have QH:=aj hv2;have c0:=hM.c0;have c1:=hM.c1;have c2:=hM.c2;have c3:=hM.c3;have c4:=hM.c4;have c5:=hM.c5;have c6:=hM.c6;have c7:=hM.c7;have c8:=hM.c8;rw[hv2]at c2;rw[hv3]at c3;rw[hv4]at c4;rw[hv5]at c5;rw[hv6]at c6;rw[hv7]at c7;rw[FY]at c8
 have hspec:kL sv s=[ax s.arT,ah s.ar4,.slice a2 s.ar6.length n2,.slice a3 s.aF.length n3,.slice a4 s.ar2.length n4,.slice a5 s.vars.length n5,.slice a6 s.ar1.length n6,.slice a7 s.asb.length n7,.slice a8 s.aP.length n8]:=by
  unfold kL;rw[hv2,hv3,hv4,hv5,hv6,hv7,FY]
 have xV:=aj hspec;have HV4:=aj hv4;have HV5:=aj hv5;have HC0:=aj ((gK.mk (bs:=[]) ⟨v,hM,aU.refl pb v w,fun b hb=>by cases hb⟩:gK B pb sv s 0 v w [] ⟨[],[],[],0⟩ w).alloc #[ax s.arT,ah s.ar4,.slice a2 s.ar6.length n2,.slice a3 s.aF.length n3,.slice a4 s.ar2.length n4,.slice a5 s.vars.length n5,.slice a6 s.ar1.length n6,.slice a7 s.asb.length n7,.slice a8 s.aP.length n8] 28);have hfl:=hS.ar4;clear hM hS hspec hv2 hv3 hv4 hv5 hv6 hv7 FY;go_enter Tryz.func10,Tryz.ntmps10;go_upto_region 1 with fail
 clear c0 c1 c2 c3 c4 c5 c6 c7 c8;generalize w.alloc (.cells #[ax s.arT,ah s.ar4,.slice a2 s.ar6.length n2,.slice a3 s.aF.length n3,.slice a4 s.ar2.length n4,.slice a5 s.vars.length n5,.slice a6 s.ar1.length n6,.slice a7 s.asb.length n7,.slice a8 s.aP.length n8] 28)=w1 at *;have c1:w1.cell? (ak w 1)=some (ah s.ar4):=HC0.af.box (oh ..) 1 _ rfl;go_cut [25] (fun v25 wx=>v25=.bool (decide (s.ar4<0)||decide (15<s.ar4))/\wx=w1)
 case first=>
  by_cases h1:s.ar4<0
  ·have hd:=aj (show (decide (s.ar4<0)||decide (15<s.ar4))=true by simp[h1])
   go_wp2;go_meet;exact⟨by rw[hd.af],rfl⟩
  ·have hd:=aj (show (decide (s.ar4<0)||decide (15<s.ar4))=decide (15<s.ar4) by simp[h1])
   go_wp2;go_meet;exact⟨by rw[hd.af],rfl⟩
 case rest=>
 obtain⟨rfl,rfl⟩:=hcut;rename World=>w1
 obtain ⟨bx,hbx⟩:=aiG ([(w.heap.size,aB #[ax s.arT,ah s.ar4,.slice a2 s.ar6.length n2,.slice a3 s.aF.length n3,.slice a4 s.ar2.length n4,.slice a5 s.vars.length n5,.slice a6 s.ar1.length n6,.slice a7 s.asb.length n7,.slice a8 s.aP.length n8] 28)]:List (Nat × Obj));have iY:Hid ((w.heap.size,Obj.cells #[ax s.arT,ah s.ar4,.slice a2 s.ar6.length n2,.slice a3 s.aF.length n3,.slice a4 s.ar2.length n4,.slice a5 s.vars.length n5,.slice a6 s.ar1.length n6,.slice a7 s.asb.length n7,.slice a8 s.aP.length n8] 28 (0,0))∈bx):=aj (by rw[hbx];exact oh ..);rw[<-hbx]at HC0;clear hbx c1;obtain ⟨p1,hp1⟩:=aiG ((⟨[],[],[],0⟩:aA).dm (decide (s.ar4<0)||decide (15<s.ar4)) 100);have HP1:=aj hp1;go_upto_if 25 with fail
 go_cut [] (fun wx=>gK B pb sv s 0 v w bx p1 wx)
 case first=>
  generalize (decide (s.ar4<0)||decide (15<s.ar4))=bad at *;clear hp1;rcases (by cases bad<;>simp:bad=true∨bad=false)with hbad | hbad
  ·subst hbad
   go_wp2_with fail;refine(HC0.af.fail 100).mono ?_;rintro x w2 ⟨rfl,h2⟩;have H2:=aj h2;clear h2;go_wp2_with fail;go_meet;rw[HP1.af];exact H2.af
  ·subst hbad
   go_wp2_with fail;go_meet;rw[HP1.af];exact HC0.af
 case rest=>
 have HC1:=aj hcut;rename World=>w2
 clear hcut HC0;have c4:w2.cell? (ak w 4)=some (.slice a4 s.ar2.length n4):=HC1.af.box iY.af 4 _ rfl;obtain ⟨fn,hfn⟩:=aiG s.ar2.length;have Dx:=aj hfn;rw[<-hfn]at c4 hf;clear hfn hp1;go_upto_block 0 with fail
 obtain ⟨p2,hp2⟩:=aiG (s.ar2.foldl (fun p f=>p.func f) p1);have TD:=aj hp2;clear hp2;go_cut [] (fun wx=>gK B pb sv s 0 v w bx p2 wx)
 case first=>
  go_wp2_with fail;go_loopw [31] (fun i wr=>∃k:Nat,i=ah k/\k<=fn/\gK B pb sv s 0 v w bx ((s.ar2.take k).foldl (fun p f=>p.func f) p1) wr) (fun i _=>fn-(intOf i).toNat);exact⟨0,rfl,alg _,HC1.af⟩;obtain⟨k,rfl,hk,hC⟩:=hrel;have HC:=aj hC;clear hC c4;by_cases hlt:k<fn
  ·have sU:=aj (HC.af.low HM.af hB)
   obtain⟨f,hf⟩:∃f,s.ar2[k]? =some f:=⟨_,gP (by rw[<-Dx.af];exact hlt)⟩;obtain⟨fa,fb,Cz,ru,lZ,-,-,jP⟩:=HS.af.ar2.at;obtain rfl:=jP.addr (by rw[<-Dx.af];omega);obtain⟨rfl,rfl⟩:a4=some (ak fb Cz)/\n4=ru:=by have:=lZ.symm.trans HV4.af;simp at this;exact⟨this.1.symm,this.2.symm⟩
   obtain⟨lv,hlv,hso,g0,g1,g2,g3,g4,g5,g6,g7,g8,g9⟩:=(jP.below sU.af).func10 k f hf;obtain⟨la,lc,rfl⟩:=hlv.form;have tQ:=aj hso;have xS:=aj (jm (F:=fun(p:aA) (f:eH)=>p.func f) hf p1)
   have Ng:Hid (((s.ar2.take k).foldl (fun p f=>p.func f) p1).sz<=5000):=aj (by
    have h1:=gm (F:=fun(p:aA) (f:eH)=>p.func f) (c:=1) JM (s.ar2.take k) p1;rw[og]at h1;have h2:min k s.ar2.length<=k:=iK _ _;have h3:p1.sz=0:=by rw[HP1.af,yG];rfl
    omega)
   obtain ⟨q,hq⟩:=aiG ((s.ar2.take k).foldl (fun p f=>p.func f) p1);rw[<-hq]at HC xS Ng;clear hq hf hso hlv lZ;have aiw:=aj jP;clear jP;obtain ⟨c,hc⟩:=aiG f.ar5.length;have Hc:=aj hc;rw[<-hc]at g9;clear hc;have hk2:(k:Int)<(fn:Int):=wP;have Dy:=aj (HC.af.alloc (arV f la c lc) 63);go_upto_region 6 with fail
   clear g0 g1 g2 g3 g4 g5 g6 g7 g8 g9;generalize wr.alloc (.cells (arV f la c lc) 63)=wa at *;obtain ⟨FZ,hby⟩:=aiG ((wr.heap.size,aB (arV f la c lc) 63) :: bx:List (Nat × Obj));have uM:Hid ((wr.heap.size,Obj.cells (arV f la c lc) 63 (0,0))∈FZ):=aj (by rw[hby];exact oh ..);have adq:Hid (∀b∈bx,b∈FZ):=aj (fun b hb=>by rw[hby];exact uT _ hb);rw[<-hby]at Dy;clear hby;have l9:wa.cell? (ak wr 9)=some (.slice la c lc):=Dy.af.box uM.af 9 _ rfl;go_cut [44] (fun v44 wx=>v44=.bool (rY c)/\wx=wa)
   case first=>
    by_cases h1:c<1
    ·have hd:=aj (Tz h1)
     go_wp2;go_meet;exact⟨by rw[hd.af];first | done | rfl | (simp;done) | (simp;omega),rfl⟩
    ·by_cases h2:256<c
     ·have hd:=aj (show rY c=true by rw[QF h1];simp[h2])
      go_wp2;go_meet;exact⟨by rw[hd.af];first | done | rfl | (simp;done) | (simp;omega),rfl⟩
     ·have hd:=aj (show rY c=false by rw[QF h1];simp[h2])
      go_wp2;go_meet;exact⟨by rw[hd.af];first | done | rfl | (simp;done) | (simp;omega),rfl⟩
   case rest=>
   obtain⟨rfl,rfl⟩:=hcut;rename World=>wa
   clear l9;generalize hbad:rY c=bad at *;have qL:=aj hbad;clear hbad;go_upto_if 44 with fail
   go_cut [] (fun wx=>gK B pb sv s 0 v w FZ (q.dm bad 101) wx)
   case first=>
    rcases (by cases bad<;>simp:bad=true∨bad=false)with hbad | hbad
    ·subst hbad
     go_wp2_with fail;refine(Dy.af.fail 101).mono ?_;rintro x w3 ⟨rfl,h3⟩;have H3:=aj h3;clear h3;go_wp2_with fail;go_meet;exact H3.af
    ·subst hbad
     go_wp2_with fail;go_meet;exact Dy.af
   case rest=>
   have ED:=aj hcut;rename World=>w3
   clear hcut Dy;have l3:w3.cell? (ak wr 3)=some (ah f.sym.ar3):=ED.af.box uM.af 3 _ rfl;obtain ⟨kb,hkb⟩:=aiG ( !decide (f.sym.ar3=1));have Hkb:=aj hkb;have hkk:(f.sym.ar3 != 1)=kb:=by rw[hkb];rfl
   have hkk':(f.sym.ar3==1)= !kb:=by rw[hkb,Bool.not_not];rfl
   clear hkb;go_upto_if 50 with fail
   clear hkk hkk' l3;go_cut [] (fun wx=>gK B pb sv s 0 v w FZ ((q.dm bad 101).dm kb 100) wx)
   case first=>
    rcases (by cases kb<;>simp:kb=true∨kb=false)with hbad | hbad
    ·subst hbad
     go_wp2_with fail;refine(ED.af.fail 100).mono ?_;rintro x w3 ⟨rfl,h3⟩;have H3:=aj h3;clear h3;go_wp2_with fail;go_meet;exact H3.af
    ·subst hbad
     go_wp2_with fail;go_meet;exact ED.af
   case rest=>
   have QI:=aj hcut;rename World=>w4
   clear hcut ED;have l0:w4.cell? (ak wr 0)=some (ax f.sym.arT):=QI.af.box uM.af 0 _ rfl;have l1:w4.cell? (ak wr 1)=some (ax f.sym.asc):=QI.af.box uM.af 1 _ rfl;have l2:w4.cell? (ak wr 2)=some (.bool f.sym.old):=QI.af.box uM.af 2 _ rfl;have l3:w4.cell? (ak wr 3)=some (ah f.sym.ar3):=QI.af.box uM.af 3 _ rfl;have l4:w4.cell? (ak wr 4)=some (.bool f.sym.ar1):=QI.af.box uM.af 4 _ rfl;have l5:w4.cell? (ak wr 5)=some (ah f.sym.bq):=QI.af.box uM.af 5 _ rfl;have l6:w4.cell? (ak wr 6)=some (.bool f.sym.asg):=QI.af.box uM.af 6 _ rfl;have l7:w4.cell? (ak wr 7)=some (ah f.sym.value):=QI.af.box uM.af 7 _ rfl;have l8:w4.cell? (ak wr 8)=some (ah f.sym.size):=QI.af.box uM.af 8 _ rfl;go_wp2_with fail;refine(QI.af.define f.sym false 100 tQ.af (by rw[yG,yG];have:=Ng.af;omega) hB).mono ?_;rintro x w5 ⟨rfl,h5⟩;have H5:=aj (h5.sub adq.af);have HF:Hid (q.func f=((q.dm bad 101).dm kb 100).define f.sym false 100):=aj (by rw[<-qL.af,Hkb.af,Hc.af];rfl);clear h5 l0 l1 l2 l3 l4 l5 l6 l7 l8;go_wp2;go_roundw;exact⟨k+1,arH,wP,by rw[xS.af,HF.af];exact H5.af⟩;simp[intOf];omega
  ·have HE:Hid (gK B pb sv s 0 v w bx p2 wr):=aj (by
    have h:=HC.af;rw[dh (by have:=Dx.af;omega)]at h;rw[TD.af];exact h)
   go_wp2_with fail;go_meet;exact HE.af
 case rest=>
 have HC2:=aj hcut;rename World=>w3
 clear hcut HC1;have c5:w3.cell? (ak w 5)=some (.slice a5 s.vars.length n5):=HC2.af.box iY.af 5 _ rfl;obtain ⟨vn,Dz⟩:=aiG s.vars.length;have Cq:=aj Dz;rw[<-Dz]at c5 hv;clear Dz
 have alA:Hid (p2.sz<=2000):=aj (by
  have h1:=gm (F:=fun(p:aA) (f:eH)=>p.func f) (c:=1) JM s.ar2 p1;have h3:p1.sz=0:=by rw[HP1.af,yG];rfl
  have h4:=Dx.af;rw[TD.af];omega)
 go_upto_block 2 with fail
 obtain ⟨p3,hp3⟩:=aiG (s.vars.foldl (fun p x=>p.var s.ar4 x) p2);have HP3:=aj hp3;clear hp3;go_cut [] (fun wx=>gK B pb sv s 0 v w bx p3 wx)
 case first=>
  go_wp2_with fail;go_loopw [61] (fun i wr=>∃k:Nat,i=ah k/\k<=vn/\gK B pb sv s 0 v w bx ((s.vars.take k).foldl (fun p x=>p.var s.ar4 x) p2) wr) (fun i _=>vn-(intOf i).toNat);exact⟨0,rfl,alg _,HC2.af⟩;obtain⟨k,rfl,hk,hC⟩:=hrel;have HC:=aj hC;clear hC c5;by_cases hlt:k<vn
  ·have sU:=aj (HC.af.low HM.af hB)
   obtain⟨x,hx⟩:∃x,s.vars[k]? =some x:=⟨_,gP (by rw[<-Cq.af];exact hlt)⟩;obtain⟨va,vb,voff,N8,hvf,-,-,kI⟩:=HS.af.vars.at;obtain rfl:=kI.addr (by rw[<-Cq.af];omega);obtain⟨rfl,rfl⟩:a5=some (ak vb voff)/\n5=N8:=by have:=hvf.symm.trans HV5.af;simp at this;exact⟨this.1.symm,this.2.symm⟩
   obtain⟨wv,rv,hwv,kD,hso,g0,g1,g2,g3,g4,g5,g6,g7,g8,g9,g10,g11⟩:=kI.rZ sU.af k x hx;obtain⟨gL,wc,rfl⟩:=hwv.form;obtain⟨ra,rbk,roff,rc,hrf,hrm,TE,j3⟩:=kD.at;subst hrf;have tQ:=aj hso;have hrl:x.ash.length<=2000:=by have:=Qd hx;omega
   have XW:=hwv.max;have xS:=aj (jm (F:=fun(p:aA) (x:dx)=>p.var s.ar4 x) hx p2)
   have Ng:Hid (((s.vars.take k).foldl (fun p x=>p.var s.ar4 x) p2).sz<=5000):=aj (by
    have h1:=gm (F:=fun(p:aA) (x:dx)=>p.var s.ar4 x) (c:=1) (fun p x=>Ot p s.ar4 x) (s.vars.take k) p2;rw[og]at h1;have h2:min k s.vars.length<=k:=iK _ _;have h3:=alA.af;omega)
   obtain ⟨q,hq⟩:=aiG ((s.vars.take k).foldl (fun p x=>p.var s.ar4 x) p2);rw[<-hq]at HC xS Ng;clear hq hx hso hwv kD hvf;have hra:=j3.addr;have aan:=aj j3;clear kI j3;obtain ⟨wn,hwn⟩:=aiG x.ar8.length;have xq:=aj hwn;rw[<-hwn]at g9 XW;obtain ⟨rn,hrn⟩:=aiG x.ash.length;have Ou:=aj hrn;rw[<-hrn]at g10 hra hrm TE hrl;have XY:Hid (mq s.ar4 x=(decide (wn<1)||decide (256<wn)||decide (x.sym.ar3=1)||(x.copied&&(!I9 s.ar4|| !decide (x.sym.ar3=2)||decide (0<rn))))):=aj (by rw[hwn,hrn];rfl);clear hwn hrn;have hk2:(k:Int)<(vn:Int):=wP;have Dy:=aj (HC.af.alloc (arU x gL wn wc ra rn rc) 71);go_upto_region 15 with fail
   clear g0 g1 g2 g3 g4 g5 g6 g7 g8 g9 g10 g11;generalize wr.alloc (.cells (arU x gL wn wc ra rn rc) 71)=wa at *;obtain ⟨FZ,hby⟩:=aiG ((wr.heap.size,aB (arU x gL wn wc ra rn rc) 71) :: bx:List (Nat × Obj));have uM:Hid ((wr.heap.size,Obj.cells (arU x gL wn wc ra rn rc) 71 (0,0))∈FZ):=aj (by rw[hby];exact oh ..);have adq:Hid (∀b∈bx,b∈FZ):=aj (fun b hb=>by rw[hby];exact uT _ hb);rw[<-hby]at Dy;clear hby;have l3:wa.cell? (ak wr 3)=some (ah x.sym.ar3):=Dy.af.box uM.af 3 _ rfl;have l9:wa.cell? (ak wr 9)=some (.slice gL wn wc):=Dy.af.box uM.af 9 _ rfl;have l10:wa.cell? (ak wr 10)=some (.slice ra rn rc):=Dy.af.box uM.af 10 _ rfl;have qj:wa.cell? (ak wr 11)=some (.bool x.copied):=Dy.af.box uM.af 11 _ rfl;have f1:wa.cell? (ak w 1)=some (ah s.ar4):=Dy.af.box (adq.af _ iY.af) 1 _ rfl;go_cut [102] (fun an8 wx=>an8=.bool (mq s.ar4 x)/\wx=wa)
   case first=>
    have hodd:=akO (f:=s.ar4);by_cases h1:wn<1
    ·have hd:=aj (show mq s.ar4 x=true by rw[XY.af];simp[h1])
     clear hodd;go_wp2;go_meet;exact⟨by rw[hd.af],rfl⟩
    by_cases h2:256<wn
    ·have hd:=aj (show mq s.ar4 x=true by rw[XY.af];simp[h2])
     clear hodd;go_wp2;go_meet;exact⟨by rw[hd.af];first | done | rfl | (simp;done) | (simp;omega),rfl⟩
    have e1:decide ((wn:Int)<1)=false:=by simp;omega
    have e2:decide (256<(wn:Int))=false:=by simp;omega
    by_cases h3:x.sym.ar3=1
    ·have hd:=aj (show mq s.ar4 x=true by rw[XY.af];simp[h3])
     have hb3:(x.sym.ar3==1)=true:=by simp[h3]
     clear h3 hodd;go_wp2;go_meet;exact⟨by rw[hd.af];first | done | rfl | (simp;done) | (simp;omega),rfl⟩
    have hb3:(x.sym.ar3==1)=false:=by simp[h3]
    cases hc:x.copied with
    | false=>
     have hd:=aj (show mq s.ar4 x=false by rw[XY.af];simp[h3,hc];omega);rw[hc]at qj;clear h3 hc hodd;go_wp2;go_meet;exact⟨by rw[hd.af];first | done | rfl | (simp;done) | (simp;omega),rfl⟩
    | true=>
     rw[hc]at qj
     cases ho:I9 s.ar4 with
     | false=>
      have hd:=aj (show mq s.ar4 x=true by rw[XY.af];simp[hc,ho]);rw[ho]at hodd;clear h3 hc ho;go_wp2;go_meet;exact⟨by rw[hd.af];first | done | rfl | (simp;done) | (simp;omega),rfl⟩
     | true=>
      rw[ho]at hodd;by_cases h4:x.sym.ar3=2
      ·have hb4:(x.sym.ar3 != 2)=false:=by simp[h4]
       have an9:(x.sym.ar3==2)=true:=by simp[h4]
       by_cases h5:0<rn
       ·have hd:=aj (show mq s.ar4 x=true by rw[XY.af];simp[hc,h5])
        have e5:decide (0<(rn:Int))=true:=by simp;omega
        clear h3 hc ho h4;go_wp2;go_meet;exact⟨by rw[hd.af];first | done | rfl | (simp;done) | (simp;omega),rfl⟩
       ·have hd:=aj (show mq s.ar4 x=false by rw[XY.af];simp[h3,hc,ho,h4,h5];omega)
        have e5:decide (0<(rn:Int))=false:=by simp;omega
        clear h3 hc ho h4;go_wp2;go_meet;exact⟨by rw[hd.af];first | done | rfl | (simp;done) | (simp;omega),rfl⟩
      ·have hd:=aj (show mq s.ar4 x=true by rw[XY.af];simp[hc,h4])
       have hb4:(x.sym.ar3 != 2)=true:=by simp[h4]
       have an9:(x.sym.ar3==2)=false:=by simp[h4]
       clear h3 hc ho h4;go_wp2;go_meet;exact⟨by rw[hd.af];first | done | rfl | (simp;done) | (simp;omega),rfl⟩
   case rest=>
   obtain⟨rfl,rfl⟩:=hcut;rename World=>wa
   clear l3 l9 l10 qj f1;generalize hbad:mq s.ar4 x=bad at *;have qL:=aj hbad;clear hbad;go_upto_if 102 with fail
   go_cut [] (fun wx=>gK B pb sv s 0 v w FZ (q.dm bad 102) wx)
   case first=>
    rcases (by cases bad<;>simp:bad=true∨bad=false)with hbad | hbad
    ·subst hbad
     go_wp2_with fail;refine(Dy.af.fail 102).mono ?_;rintro y w3 ⟨rfl,h3⟩;have H3:=aj h3;clear h3;go_wp2_with fail;go_meet;exact H3.af
    ·subst hbad
     go_wp2_with fail;go_meet;exact Dy.af
   case rest=>
   have ED:=aj hcut;rename World=>w4
   clear hcut Dy;have l0:w4.cell? (ak wr 0)=some (ax x.sym.arT):=ED.af.box uM.af 0 _ rfl;have l1:w4.cell? (ak wr 1)=some (ax x.sym.asc):=ED.af.box uM.af 1 _ rfl;have l2:w4.cell? (ak wr 2)=some (.bool x.sym.old):=ED.af.box uM.af 2 _ rfl;have l3:w4.cell? (ak wr 3)=some (ah x.sym.ar3):=ED.af.box uM.af 3 _ rfl;have l4:w4.cell? (ak wr 4)=some (.bool x.sym.ar1):=ED.af.box uM.af 4 _ rfl;have l5:w4.cell? (ak wr 5)=some (ah x.sym.bq):=ED.af.box uM.af 5 _ rfl;have l6:w4.cell? (ak wr 6)=some (.bool x.sym.asg):=ED.af.box uM.af 6 _ rfl;have l7:w4.cell? (ak wr 7)=some (ah x.sym.value):=ED.af.box uM.af 7 _ rfl;have l8:w4.cell? (ak wr 8)=some (ah x.sym.size):=ED.af.box uM.af 8 _ rfl;go_wp2_with fail;refine(ED.af.define x.sym (x.sym.ar3==3) 100 tQ.af (by rw[yG];have:=Ng.af;omega) hB).mono ?_;rintro y w5 ⟨rfl,h5⟩;have H5:=aj h5;have HF:Hid (q.var s.ar4 x=gZ x (-1) x.ash ((q.dm bad 102).define x.sym (x.sym.ar3==3) 100)):=aj (by rw[var_eq,qL.af]);obtain ⟨q2,hq2⟩:=aiG ((q.dm bad 102).define x.sym (x.sym.ar3==3) 100);rw[<-hq2]at H5 HF;clear h5 l0 l1 l2 l3 l4 l5 l6 l7 l8 hq2 ED;clear HC sU;generalize wr.heap.size=xb at *;have l10:w5.cell? (ak xb 10)=some (.slice ra rn rc):=H5.af.box uM.af 10 _ rfl;go_wp2_with fail;clear l10;go_loopw [7,116] (fun z i w6=>∃j:Nat,i=ah j/\j<=rn/\z=ah (lastOf (-1) (x.ash.take j))/\gK B pb sv s 0 v w FZ (gZ x (-1) (x.ash.take j) q2) w6) (fun _ i _=>rn-(intOf i).toNat);exact⟨0,rfl,alg _,rfl,H5.af⟩;obtain⟨j,rfl,hj,rfl,Ov⟩:=hrel;have Ow:=aj Ov;have aix:=aj (Ov.low HM.af hB);have JN:=Ov.size;clear Ov;by_cases hjt:j<rn
   ·obtain rfl:=hra wP
    obtain⟨y,hy⟩:∃y,x.ash[j]? =some y:=⟨_,gP (by rw[<-Ou.af];exact hjt)⟩;obtain⟨⟨hyw,-,-,-⟩,r0,r1,r2,r3⟩:=(aan.af.below aix.af).RH j y hy;have aqC:=hyw.1;have aqD:=hyw.2;have hj2:(j:Int)<(rn:Int):=wP;have Htk:Hid (x.ash.take (j+1)=x.ash.take j++[y]):=aj (by rw[Qc,hy];rfl);have aoa:Hid (lastOf (-1) (x.ash.take (j+1))=y.asl):=aj (by rw[Htk.af,Jg]);have aiy:Hid (gZ x (-1) (x.ash.take (j+1)) q2=(gZ x (-1) (x.ash.take j) q2).dm (qp x (lastOf (-1) (x.ash.take j)) y) 102):=aj (by rw[Htk.af,Ep]);obtain ⟨q6,hq6⟩:=aiG (gZ x (-1) (x.ash.take j) q2);rw[<-hq6]at Ow aiy;obtain ⟨Ox,alB⟩:=aiG (lastOf (-1) (x.ash.take j));rw[<-alB]at aiy ⊢;have HBR:Hid (qp x Ox y=(decide (y.asl<=Ox)||decide ((wn:Int)<=y.asl)|| !decide (x.sym.ar3=2))):=aj (by rw[xq.af];rfl);clear hq6 alB hy hyw;have Nh:=aj (Ow.af.alloc #[ah y.asl,ax y.arT,ax y.aG,ah y.add] 127);go_upto_region 22 with fail
    clear r0 r1 r2 r3;generalize hws:wr.heap.size=rb at *;clear hws;generalize wr.alloc (.cells #[ah y.asl,ax y.arT,ax y.aG,ah y.add] 127)=wb at *;obtain ⟨bz,hbz⟩:=aiG ((rb,aB #[ah y.asl,ax y.arT,ax y.aG,ah y.add] 127) :: FZ:List (Nat × Obj));have Hbz:Hid ((rb,Obj.cells #[ah y.asl,ax y.arT,ax y.aG,ah y.add] 127 (0,0))∈bz):=aj (by rw[hbz];exact oh ..);have adr:Hid (∀b∈FZ,b∈bz):=aj (fun b hb=>by rw[hbz];exact uT _ hb);rw[<-hbz]at Nh;clear hbz;have k0:wb.cell? (ak rb 0)=some (ah y.asl):=Nh.af.box Hbz.af 0 _ rfl;have k3:wb.cell? (ak xb 3)=some (ah x.sym.ar3):=Nh.af.box (adr.af _ uM.af) 3 _ rfl;have k9:wb.cell? (ak xb 9)=some (.slice gL wn wc):=Nh.af.box (adr.af _ uM.af) 9 _ rfl;go_cut [137] (fun aob wx=>aob=.bool (qp x Ox y)/\wx=wb)
    case first=>
     by_cases h1:y.asl<=Ox
     ·have hd:=aj (show qp x Ox y=true by rw[HBR.af];simp[h1])
      go_wp2;go_meet;exact⟨by rw[hd.af];first | done | rfl | (simp;done) | (simp;omega),rfl⟩
     by_cases h2:(wn:Int)<=y.asl
     ·have hd:=aj (show qp x Ox y=true by rw[HBR.af];simp[h2])
      go_wp2;go_meet;exact⟨by rw[hd.af];first | done | rfl | (simp;done) | (simp;omega),rfl⟩
     by_cases h3:x.sym.ar3=2
     ·have hd:=aj (show qp x Ox y=false by rw[HBR.af];simp[h1,h2,h3])
      have hb3:(x.sym.ar3 != 2)=false:=by simp[h3]
      clear h3;go_wp2;go_meet;exact⟨by rw[hd.af];first | done | rfl | (simp;done) | (simp;omega),rfl⟩
     ·have hd:=aj (show qp x Ox y=true by rw[HBR.af];simp[h3])
      have hb3:(x.sym.ar3 != 2)=true:=by simp[h3]
      clear h3;go_wp2;go_meet;exact⟨by rw[hd.af];first | done | rfl | (simp;done) | (simp;omega),rfl⟩
    case rest=>
    obtain⟨rfl,rfl⟩:=hcut;rename World=>wb
    clear k0 k3 k9;generalize qp x Ox y=ads at *;go_upto_if 137 with fail
    go_cut [] (fun wx=>gK B pb sv s 0 v w bz (q6.dm ads 102) wx)
    case first=>
     rcases (by cases ads<;>simp:ads=true∨ads=false)with hbad | hbad
     ·subst hbad
      go_wp2_with fail;refine(Nh.af.fail 102).mono ?_;rintro y w3 ⟨rfl,h3⟩;have H3:=aj h3;clear h3;go_wp2_with fail;go_meet;exact H3.af
     ·subst hbad
      go_wp2_with fail;go_meet;exact Nh.af
    case rest=>
    have HCz:=aj hcut;rename World=>wz
    clear hcut Nh;have k0:wz.cell? (ak rb 0)=some (ah y.asl):=HCz.af.box Hbz.af 0 _ rfl;have HCy:=aj (HCz.af.sub adr.af);go_wp2;go_roundw;exact⟨j+1,arH,wP,by rw[aoa.af],by rw[aiy.af];exact HCy.af⟩;simp[intOf];omega
   ·have HE:Hid (gK B pb sv s 0 v w bx (q.var s.ar4 x) wr):=aj (by
     have h:=Ow.af;rw[dh (by have:=Ou.af;omega)]at h;rw[HF.af];exact h.sub adq.af)
    go_wp2;go_roundw;exact⟨k+1,arH,wP,by rw[xS.af];exact HE.af⟩;simp[intOf];omega
  ·have HE:Hid (gK B pb sv s 0 v w bx p3 wr):=aj (by
    have h:=HC.af;rw[dh (by have:=Cq.af;omega)]at h;rw[HP3.af];exact h)
   go_wp2_with fail;go_meet;exact HE.af
 case rest=>
 have HC3:=aj hcut;rename World=>w4
 clear hcut HC2 c5;obtain⟨sa,sc,c9⟩:=HC3.af.c9;obtain⟨c10,f10⟩:=HC3.af.c10;obtain ⟨own,hown⟩:=aiG p3.av.length;rw[<-hown]at c9;have HC4:=aj (HC3.af.aam (own:Int))
 have alC:Hid (p3.sz<=4000):=aj (by
  have h1:=gm (F:=fun(p:aA) (x:dx)=>p.var s.ar4 x) (c:=1) (fun p x=>Ot p s.ar4 x) s.vars p2;have h2:=alA.af;have h3:=Cq.af;rw[HP3.af];omega)
 clear hown;have HM':Hid (∃o,bB B pb w sv s o v ⟨[],[],[],0⟩):=aj ⟨0,HM.af⟩;go_wp2_with fail;refine(HC4.af.needs HM'.af HS.af (by have:=alC.af;omega) hB).mono ?_;rintro y w5 ⟨rfl,h5⟩;have HC5:=aj h5
 have aoc:Hid ((p3.needs s).sz<=22000):=aj (by
  have h1:=gm Qb s.ar5 p3;have h2:=gm (Dv s.ar1) s.ar5 (s.ar5.foldl (fun p l=>p.line l) p3);have h3:=gm (BC s.ar1) s.ar5 (s.ar5.foldl (fun p l=>p.called s.ar1 l) (s.ar5.foldl (fun p l=>p.line l) p3));have h4:=alC.af;unfold aA.needs;omega)
 clear h5 HC4 HC3 c9 c10 f10
 have HQE:Hid (aC s=(s.vars.flatMap (·.ash)).foldl (fun p (r:gH)=>(p.asked s.ar1 r.arT r.aG 102 [2,1]).1) (p3.needs s)):=aj (by
  rw[tN,Dw,HP3.af];unfold pG Dp;rw[TD.af,HP1.af])
 generalize p3.needs s=p4 at *;have c5:w5.cell? (ak w 5)=some (.slice a5 vn n5):=by rw[Cq.af];exact HC5.af.box iY.af 5 _ rfl
 go_wp2_with fail;go_loopw [157] (fun i wr=>∃k:Nat,i=ah k/\k<=vn/\gK B pb sv s own v w bx (((s.vars.take k).flatMap (·.ash)).foldl (fun p (r:gH)=>(p.asked s.ar1 r.arT r.aG 102 [2,1]).1) p4) wr) (fun i _=>vn-(intOf i).toNat);exact⟨0,rfl,alg _,by simpa using HC5.af⟩;obtain⟨k,rfl,hk,hC⟩:=hrel;have HC:=aj hC;clear hC c5;by_cases hlt:k<vn
 ·have sU:=aj (HC.af.low HM.af hB)
  obtain⟨x,hx⟩:∃x,s.vars[k]? =some x:=⟨_,gP (by rw[<-Cq.af];exact hlt)⟩;obtain⟨va,vb,voff,N8,hvf,-,-,kI⟩:=HS.af.vars.at;obtain rfl:=kI.addr (by rw[<-Cq.af];omega);obtain⟨rfl,rfl⟩:a5=some (ak vb voff)/\n5=N8:=by have:=hvf.symm.trans HV5.af;simp at this;exact⟨this.1.symm,this.2.symm⟩
  obtain⟨wv,rv,hwv,kD,hso,g0,g1,g2,g3,g4,g5,g6,g7,g8,g9,g10,g11⟩:=kI.rZ sU.af k x hx;obtain⟨gL,wc,rfl⟩:=hwv.form;obtain⟨ra,rbk,roff,rc,hrf,hrm,TE,j3⟩:=kD.at;subst hrf;have hrl:x.ash.length<=2000:=by have:=Qd hx;omega
  have xS:Hid (((s.vars.take (k+1)).flatMap (·.ash)).foldl (fun p (r:gH)=>(p.asked s.ar1 r.arT r.aG 102 [2,1]).1) p4=x.ash.foldl (fun p (r:gH)=>(p.asked s.ar1 r.arT r.aG 102 [2,1]).1) (((s.vars.take k).flatMap (·.ash)).foldl (fun p (r:gH)=>(p.asked s.ar1 r.arT r.aG 102 [2,1]).1) p4)):=aj (by rw[Oq hx,fP])
  have Ng:Hid ((((s.vars.take k).flatMap (·.ash)).foldl (fun p (r:gH)=>(p.asked s.ar1 r.arT r.aG 102 [2,1]).1) p4).sz<=30000):=aj (by
   have h1:=gm (F:=fun p (r:gH)=>(p.asked s.ar1 r.arT r.aG 102 [2,1]).1) (c:=1) (fun p r=>wE _ _ _ _ _ p) ((s.vars.take k).flatMap (·.ash)) p4;have h2:=zZ s.vars k;have h3:=aoc.af;omega)
  obtain ⟨q,hq⟩:=aiG (((s.vars.take k).flatMap (·.ash)).foldl (fun p (r:gH)=>(p.asked s.ar1 r.arT r.aG 102 [2,1]).1) p4);rw[<-hq]at HC xS Ng;have hra:=j3.addr;have aan:=aj j3;clear hq hx hso hwv kD hvf kI j3;obtain ⟨rn,hrn⟩:=aiG x.ash.length;have Ou:=aj hrn;rw[<-hrn]at g10 hra hrm TE hrl;clear hrn;have hk2:(k:Int)<(vn:Int):=wP;have Dy:=aj ((HC.af.alloc (arU x gL x.ar8.length wc ra rn rc) 71).sub (bs':=bx) (fun b hb=>uT _ hb));go_wp2_with fail;clear g0 g1 g2 g3 g4 g5 g6 g7 g8 g9 g10 g11 sU HC;generalize wr.alloc (.cells (arU x gL x.ar8.length wc ra rn rc) 71)=wa at *;generalize wr.heap.size=xb at *;go_loopw [164] (fun i w6=>∃j:Nat,i=ah j/\j<=rn/\gK B pb sv s own v w bx ((x.ash.take j).foldl (fun p (r:gH)=>(p.asked s.ar1 r.arT r.aG 102 [2,1]).1) q) w6) (fun i _=>rn-(intOf i).toNat);exact⟨0,rfl,alg _,Dy.af⟩;obtain⟨j,rfl,hj,Ov⟩:=hrel;have Ow:=aj Ov;have aix:=aj (Ov.low HM.af hB);have JN:=Ov.size;clear Ov;by_cases hjt:j<rn
  ·obtain rfl:=hra wP
   obtain⟨y,hy⟩:∃y,x.ash[j]? =some y:=⟨_,gP (by rw[<-Ou.af];exact hjt)⟩;obtain⟨⟨-,-,hyn,hyv⟩,r0,r1,r2,r3⟩:=(aan.af.below aix.af).RH j y hy;have hj2:(j:Int)<(rn:Int):=wP;have alD:=aj (jm (F:=fun(p:aA) (r:gH)=>(p.asked s.ar1 r.arT r.aG 102 [2,1]).1) hy q)
   have alE:Hid (((x.ash.take j).foldl (fun p (r:gH)=>(p.asked s.ar1 r.arT r.aG 102 [2,1]).1) q).sz<=40000):=aj (by
    have h1:=gm (F:=fun p (r:gH)=>(p.asked s.ar1 r.arT r.aG 102 [2,1]).1) (c:=1) (fun p r=>wE _ _ _ _ _ p) (x.ash.take j) q;rw[og]at h1;have h2:min j x.ash.length<=j:=iK _ _;have h3:=Ng.af;omega)
   obtain ⟨q6,hq6⟩:=aiG ((x.ash.take j).foldl (fun p (r:gH)=>(p.asked s.ar1 r.arT r.aG 102 [2,1]).1) q);rw[<-hq6]at Ow alD alE;have Nh:=aj (Ow.af.alloc #[ah y.asl,ax y.arT,ax y.aG,ah y.add] 127);go_upto_region 35 with fail
   clear hq6 hy r0 r1 r2 r3;generalize hws:wr.heap.size=rb at *;clear hws;generalize wr.alloc (.cells #[ah y.asl,ax y.arT,ax y.aG,ah y.add] 127)=wb at *;have k1:wb.cell? (ak rb 1)=some (ax y.arT):=Nh.af.box (oh ..) 1 _ rfl;have k2:wb.cell? (ak rb 2)=some (ax y.aG):=Nh.af.box (oh ..) 2 _ rfl;have alF:Hid (Calls asq 45 #[aQ pb,ax y.arT,ax y.aG,ah 102,.slice (some ⟨wb.heap.size,0,none⟩) 2 2] (wb.alloc (.cells #[ah 2,ah 1] 51)) fun r w2=>∃i:Nat,r=.returned (ah i)/\gK B pb sv s own v w bx (q6.asked s.ar1 y.arT y.aG 102 [2,1]).1 w2):=aj ((Nh.af.sub (bs':=bx) (fun b hb=>uT _ hb)).asked HM'.af HS.af y.arT y.aG 102 2 [1] 51 hyn hyv abD abD (by have:=alE.af;omega) hB);clear hyn hyv;go_wp2_with fail;refine alF.af.mono ?_;rintro e w7 ⟨i7,rfl,h7⟩;have H7:=aj h7;clear h7 k1 k2 alF Nh;go_wp2;go_roundw;exact⟨j+1,arH,wP,by rw[alD.af];exact H7.af⟩;simp[intOf];omega
  ·have HE:Hid (gK B pb sv s own v w bx (x.ash.foldl (fun p (r:gH)=>(p.asked s.ar1 r.arT r.aG 102 [2,1]).1) q) wr):=aj (by
    have h:=Ow.af
    rwa [dh (by have:=Ou.af;omega)]at h)
   go_wp2;go_roundw;exact⟨k+1,arH,wP,by rw[xS.af];exact HE.af⟩;simp[intOf];omega
 ·have HE:Hid (∃own v',bB B pb wr sv s own v' (aC s)/\aU pb v v' w wr):=aj (by
   have h:=HC.af;rw[dh (by have:=Cq.af;omega),<-HQE.af]at h;obtain⟨v',h1,h2,-⟩:=h.ex;exact⟨own,v',h1,h2⟩)
  go_wp2;go_end0;obtain⟨own',v',h1,h2⟩:=HE.af;exact⟨own',v',rfl,h1,h2⟩
theorem Oy (l:dw):1<=jZ l/\jZ l<=3:=by unfold jZ;split<;>omega
theorem ou:∀l:List dw,0<=bO l/\bO l<=24*l.length
 | []=>by simp[bO]
 | x :: l=>by
  have h1:=ou l;have h2:=Oy x;simp only[bO,oF];omega
theorem YT {l:List dw} {x:dw} (h:l[k]? =some x):bO (l.take (k+1))=bO (l.take k)+jZ x*8:=by
 rw[Qc,h,mX];simp[bO]
theorem Oz (f:eH):∀(l:List eH) (a:Int),jD a (l++[f])=jD a l++[kQ a l]
 | [],_=>rfl
 | g :: l,a=>by simp only[Aa,jD,kQ,Oz f l]
theorem XZ (f:eH):∀(l:List eH) (a:Int),kQ a (l++[f])=kQ a l+bO f.ar5
 | [],_=>rfl
 | g :: l,a=>by simp only[Aa,kQ,XZ f l]
theorem CY:∀(l:List eH) (a:Int),(jD a l).length=l.length
 | [],_=>rfl
 | f :: l,a=>by simp only[jD,oF,CY l]
theorem jR {α:Type} {l:List α} {x:α} (h:l[k]? =some x):l.take (k+1)=l.take k++[x]:=by rw[Qc,h];rfl
theorem F8 (l:List eH) (k:Nat):0<=kQ 0 (l.take k)/\kQ 0 (l.take k)<=24*(l.flatMap (·.ar5)).length:=by
 rw[Be];have h1:=ou ((l.take k).flatMap (·.ar5));have h2:=rP l k;omega
def iw (q:List Int × Int × Int) (v:dx):List Int × Int × Int:=
 if v.sym.ar3=3 then (q.1++[q.2.2],q.2.1,q.2.2+8*v.ar8.length) else (q.1++[q.2.1],q.2.1+8*v.ar8.length,q.2.2)
theorem KG:∀(l:List dx) (d t:Int) (pre:List Int),l.foldl iw (pre,d,t)=(pre++(jg d t l).1,(jg d t l).2)
 | [],d,t,pre=>by simp[jg]
 | v :: l,d,t,pre=>by
  by_cases h:v.sym.ar3=3
  ·have hs:iw (pre,d,t) v=(pre++[t],d,t+8*v.ar8.length):=by unfold iw;rw[if_pos h]
   have e:jg d t (v :: l)=(t :: (jg d (t+8*v.ar8.length) l).1,(jg d (t+8*v.ar8.length) l).2):=by rw[jg,if_pos h]
   rw[nY,hs,KG l,e];simp
  ·have hs:iw (pre,d,t) v=(pre++[d],d+8*v.ar8.length,t):=by unfold iw;rw[if_neg h]
   have e:jg d t (v :: l)=(d :: (jg (d+8*v.ar8.length) t l).1,(jg (d+8*v.ar8.length) t l).2):=by rw[jg,if_neg h]
   rw[nY,hs,KG l,e];simp
theorem aao (l:List dx) (d t:Int):jg d t l=l.foldl iw ([],d,t):=by rw[KG];simp
theorem OA:∀(l:List dx) (d t:Int),(jg d t l).1.length=l.length
 | [],_,_=>rfl
 | v :: l,d,t=>by
  unfold jg
  split<;>simp[OA l]
theorem adt {l:List dx} (h:l[k]? =some f):(l.take (k+1)).flatMap (·.ar8)=(l.take k).flatMap (·.ar8)++f.ar8:=by
 rw[Qc,h,j5];simp
theorem za (l:List dx) (k:Nat):((l.take k).flatMap (·.ar8)).length<=(l.flatMap (·.ar8)).length:=by
 have h:l.flatMap (·.ar8)=(l.take k).flatMap (·.ar8)++(l.drop k).flatMap (·.ar8):=by rw[<-j5,jf]
 rw[h];simp
theorem RI {l:List dx} (h:l[k]? =some f):f.ar8.length<=(l.flatMap (·.ar8)).length:=by
 have:=za l (k+1);rw[adt h]at this;simp at this ⊢;omega
theorem OB:∀(l:List dx) (q:List Int × Int × Int),(l.foldl iw q).1.length=q.1.length+l.length
 | [],q=>rfl
 | v :: l,q=>by
  rw[nY,OB l,oF];have:(iw q v).1.length=q.1.length+1:=by unfold iw;split<;>simp
  omega
theorem Er:∀(l:List dx) (q:List Int × Int × Int),q.2.1<=(l.foldl iw q).2.1/\(l.foldl iw q).2.1<=q.2.1+8*(l.flatMap (·.ar8)).length/\q.2.2<=(l.foldl iw q).2.2/\(l.foldl iw q).2.2<=q.2.2+8*(l.flatMap (·.ar8)).length
 | [],q=>arG
 | v :: l,q=>by
  have h1:=Er l (iw q v);have h2:q.2.1<=(iw q v).2.1/\(iw q v).2.1<=q.2.1+8*v.ar8.length/\q.2.2<=(iw q v).2.2/\(iw q v).2.2<=q.2.2+8*v.ar8.length:=by unfold iw;split<;>simp<;>omega
  rw[nY,KF,Kk];omega
theorem abZ (l:List dx) (k:Nat) (D:Int):D<=((l.take k).foldl iw ([],D,0)).2.1/\((l.take k).foldl iw ([],D,0)).2.1<=D+8*(l.flatMap (·.ar8)).length/\0<=((l.take k).foldl iw ([],D,0)).2.2/\((l.take k).foldl iw ([],D,0)).2.2<=8*(l.flatMap (·.ar8)).length:=by
 have h1:=Er (l.take k) ([],D,0);have h2:=za l k;simp only at h1;omega
theorem aap {n:Int} (h0:0<=n):n<=ny n/\ny n<=n+63/\0<=ny n:=by unfold ny;omega
theorem akP (w:World) (n:Int) (h0:0<=n) (h1:n<=1000000000):Calls asq 47 #[ah n] w fun e w'=>e=.returned (ah (ny n))/\w'=w:=by
 have H:Hid (ny n=(n+64-1)/64*64):=aj (by unfold ny;rw[show n+63=n+64-1 by omega]);rw[H.af];go_enter Tryz.func47,Tryz.ntmps47;go_wp2;go_ret;exact⟨rfl,rfl⟩
theorem aiz (w:World) (l:dw) (hl:jV l.ar3):
  Calls asq 46 #[.agg (arL l)] w fun e w'=>e=.returned (ah (jZ l))/\Below w w w':=by
 have HB:=aj ((PZ w.heap.size w).alloc (oD _) (.cells (arL l) 60));by_cases h3:l.ar3=3
 ·have HQ:Hid (jZ l=3):=aj (by unfold jZ;rw[if_pos (aH h3)])
  have e3:(l.ar3==3)=true:=by simp[h3]
  rw[HQ.af];clear h3;go_enter Tryz.func46,Tryz.ntmps46;go_wp2;go_ret;exact⟨rfl,HB.af⟩
 by_cases h4:l.ar3=4
 ·have HQ:Hid (jZ l=3):=aj (by unfold jZ;rw[if_pos (aZ h4)])
  have e3:(l.ar3==3)=false:=by simp[h3]
  have e4:(l.ar3==4)=true:=by simp[h4]
  rw[HQ.af];clear h3 h4;go_enter Tryz.func46,Tryz.ntmps46;go_wp2;go_ret;exact⟨rfl,HB.af⟩
 ·have HQ:Hid (jZ l=1):=aj (by unfold jZ;rw[if_neg wP])
  have e3:(l.ar3==3)=false:=by simp[h3]
  have e4:(l.ar3==4)=false:=by simp[h4]
  rw[HQ.af];clear h3 h4;go_enter Tryz.func46,Tryz.ntmps46;go_wp2;go_ret;exact⟨rfl,HB.af⟩
structure uJ where
 aS:Int
 got:Int
 bW:Int
 text:Int
 data:Int
 bf:Int
def kS (pb:Nat) (fv vv:Value) (y:uJ):List Value:=[aQ pb,fv,vv,ah y.aS,ah y.got,ah y.bW,ah 0,ah y.text,ah y.data,ah y.bf]
structure pO (pb lb:Nat) (w0 w:World) (fv vv:Value) (fs vs:List Int) (y:uJ):Prop where
 ex:w.heap[lb]? =some (.cells (kS pb fv vv y).toArray 77 (0,0))
 ar2:aX 3 dJ (lb+1) (fun b=>vv.ownBlock=some b) w fv fs
 vars:aX 3 dJ (lb+1) (fun b=>fv.ownBlock=some b) w vv vs
 below:Below lb w0 w
theorem pO.lt {y:uJ} (h:pO pb lb w0 w fv vv fs vs y):lb<w:=by
 rcases Nat.lt_or_ge lb w.heap.size with h' | h'
 ·exact h'
 ·have:=h.ex;rw[Array.getElem?_eq_none h']at this;cases this
theorem pO.step {y:uJ} (h:pO pb lb w0 w fv vv fs vs y) (hb:Below w w w'):pO pb lb w0 w' fv vv fs vs y:=
 ⟨(hb.block lb h.lt).trans h.ex,h.ar2.below hb,h.vars.below hb,h.below.trans (hb.mono (Nat.le_of_lt h.lt))⟩
theorem pO.cell {y:uJ} (h:pO pb lb w0 w fv vv fs vs y) (i:Nat) (u:Value) (hu:(kS pb fv vv y)[i]? =some u):w.cell? (ak lb i)=some u:=by
 rw[aV h.ex];simpa using hu
theorem pO.frozen {y:uJ} (h:pO pb lb w0 w fv vv fs vs y) (i:Nat):w.frozen? (ak lb i)=false:=vV h.ex i
theorem pO.num {y:uJ} (h:pO pb lb w0 w fv vv fs vs y) (i:Nat) (n:Int) (y':uJ) (hy:(kS pb fv vv y).set i (ah n)=kS pb fv vv y'):pO pb lb w0 (w.setCell ⟨lb,i,none⟩ (ah n)) fv vv fs vs y':=by
 have hs:Step (fun b=>b≠lb) w (w.setCell ⟨lb,i,none⟩ (ah n)):=(Step.refl _ w).setCell (fun h=>h rfl) _;refine⟨by rw[<-hy];exact eu h.ex i _,?_,?_,h.below.setCell (oD _) _⟩
 ·exact h.ar2.p8 oZ (fun g hg=>hs.block g (by have:=(h.ar2.lt g hg).1;omega))
 ·exact h.vars.p8 oZ (fun g hg=>hs.block g (by have:=(h.vars.lt g hg).1;omega))
theorem pO.aod {u:Value} {fs':List Int} {y:uJ} (h:pO pb lb w0 w fv vv fs vs y) (hst:Step (fun b=>b<w/\fv.ownBlock≠some b) w w1) (hown:aX 3 dJ (lb+1) (fun b=>b<w/\¬fv.ownBlock=some b) w1 u fs'):pO pb lb w0 (w1.setCell ⟨lb,1,none⟩ u) u vv fs' vs y:=by
 have hlt:=h.lt;have hnf:fv.ownBlock≠some lb:=fun e=>by have:=(h.ar2.lt lb e).1;omega
 have hs:Step (fun b=>b≠lb) w1 (w1.setCell ⟨lb,1,none⟩ u):=(Step.refl _ w1).setCell (fun h=>h rfl) _
 have aaq:∀g,u.ownBlock=some g->vv.ownBlock≠some g:=fun g hg e=>by
  have h1:=h.vars.lt g e;exact hown.notE g hg ⟨h1.2,fun e2=>h.vars.notE g e e2⟩
 refine⟨eu ((hst.block lb ⟨hlt,hnf⟩).trans h.ex) 1 u,?_,?_,?_⟩
 ·exact(hown.fJ dN (fun g hg e=>aaq g hg e)).p8 oZ (fun g hg=>hs.block g (by have:=(hown.lt g hg).1;omega))
 ·exact((h.vars.p8 oZ (fun g hg=>hst.block g ⟨(h.vars.lt g hg).2,fun e=>h.vars.notE g hg e⟩)).fJ dN (fun g hg e=>aaq g e hg)).p8 oZ (fun g hg=>hs.block g (by have:=(h.vars.lt g hg).1;omega))
 ·exact(h.below.trans ((hst.imp (S':=(·<lb)) (fun b hb=>⟨by have hb:b<lb:=hb;omega,fun e=>by have:=(h.ar2.lt b e).1;have hb:b<lb:=hb;omega⟩)).below)).setCell (oD _) _
theorem pO.alG {u:Value} {vs':List Int} {y:uJ} (h:pO pb lb w0 w fv vv fs vs y) (hst:Step (fun b=>b<w/\vv.ownBlock≠some b) w w1) (hown:aX 3 dJ (lb+1) (fun b=>b<w/\¬vv.ownBlock=some b) w1 u vs'):pO pb lb w0 (w1.setCell ⟨lb,2,none⟩ u) fv u fs vs' y:=by
 have hlt:=h.lt;have hnf:vv.ownBlock≠some lb:=fun e=>by have:=(h.vars.lt lb e).1;omega
 have hs:Step (fun b=>b≠lb) w1 (w1.setCell ⟨lb,2,none⟩ u):=(Step.refl _ w1).setCell (fun h=>h rfl) _
 have aaq:∀g,u.ownBlock=some g->fv.ownBlock≠some g:=fun g hg e=>by
  have h1:=h.ar2.lt g e;exact hown.notE g hg ⟨h1.2,fun e2=>h.ar2.notE g e e2⟩
 refine⟨eu ((hst.block lb ⟨hlt,hnf⟩).trans h.ex) 2 u,?_,?_,?_⟩
 ·exact((h.ar2.p8 oZ (fun g hg=>hst.block g ⟨(h.ar2.lt g hg).2,fun e=>h.ar2.notE g hg e⟩)).fJ dN (fun g hg e=>aaq g e hg)).p8 oZ (fun g hg=>hs.block g (by have:=(h.ar2.lt g hg).1;omega))
 ·exact(hown.fJ dN (fun g hg e=>aaq g hg e)).p8 oZ (fun g hg=>hs.block g (by have:=(hown.lt g hg).1;omega))
 ·exact(h.below.trans ((hst.imp (S':=(·<lb)) (fun b hb=>⟨by have hb:b<lb:=hb;omega,fun e=>by have:=(h.vars.lt b e).1;have hb:b<lb:=hb;omega⟩)).below)).setCell (oD _) _
theorem mF.xJ {a:Option Addr} {off:Nat} {l:List eH} (h:mF G6 (·<B) w l a b off) (hb:Below B w w1) (i:Nat) (x:eH) (hx:l[i]? =some x):∃c,LB Kn (·<B) w c x.ar5/\lJ x.sym/\w1.cell? (ak b (off+i*10))=some (ax x.sym.arT)/\w1.cell? (ak b (off+i*10+1))=some (ax x.sym.asc)/\
  w1.cell? (ak b (off+i*10+2))=some (.bool x.sym.old)/\w1.cell? (ak b (off+i*10+3))=some (ah x.sym.ar3)/\w1.cell? (ak b (off+i*10+4))=some (.bool x.sym.ar1)/\w1.cell? (ak b (off+i*10+5))=some (ah x.sym.bq)/\
  w1.cell? (ak b (off+i*10+6))=some (.bool x.sym.asg)/\w1.cell? (ak b (off+i*10+7))=some (ah x.sym.value)/\w1.cell? (ak b (off+i*10+8))=some (ah x.sym.size)/\w1.cell? (ak b (off+i*10+9))=some c:=by
 have JL:b<B:=h.mG (by have:=(Sm.1 hx).1;omega);obtain⟨row,⟨c,h1,h1',h3⟩,h2⟩:=h.row i x hx;subst h1;have h5:∀j u,(lT x.sym++[c])[j]? =some u->w1.cell? (ak b (off+i*10+j))=some u:=fun j u hu=>(hb.cell (p:=(ak b (off+i*10+j))) JL).trans (h2 j u hu)
 exact⟨c,h1',h3,h5 0 _ rfl,h5 1 _ rfl,h5 2 _ rfl,h5 3 _ rfl,h5 4 _ rfl,h5 5 _ rfl,h5 6 _ rfl,h5 7 _ rfl,h5 8 _ rfl,h5 9 _ rfl⟩
def akQ (pb:Nat) (s:aM) (p:aA) (w:World) (e:Ending) (w':World):Prop:=
 ∃fv vv,e=.returned (.agg (kS pb fv vv ⟨(aN s p).aS,(aN s p).got,(aN s p).bW,(aN s p).aS+24*p.ar7.length,(aN s p).data,(aN s p).bf⟩).toArray)/\Below w w w'/\
  aX 3 dJ w.heap.size (fun b=>vv.ownBlock=some b) w' fv (aN s p).ar2/\aX 3 dJ w.heap.size (fun b=>fv.ownBlock=some b) w' vv (aN s p).vars
theorem akR (hM:bB B pb w sv s own v p) (hS:gB (·<B) w sv s) (hB:B<=w) (hf:s.ar2.length<=2000) (hv:s.vars.length<=2000) (hl:s.ar5.length<=2000) (hr:(s.vars.flatMap (·.ar8)).length<=2000) (hp:p.sz<=999990):
  Calls asq 11 #[aQ pb] w (akQ pb s p w):=by
 have HS:=aj hS;have HM:=aj hM;have hpl:=hM.lt;have c4:=hM.c4;obtain⟨fa,fb,Cz,ru,lZ,hfm,BA,jP⟩:=hS.ar2.at;rw[lZ]at c4;have Oo:=aj lZ;have hfa:=jP.addr;have tq:=aj jP;obtain ⟨fn,hfn⟩:=aiG s.ar2.length;have Dx:=aj hfn;rw[<-hfn]at c4 hfm BA hfa hf Oo;clear hM hS lZ jP hfn;go_enter Tryz.func11,Tryz.ntmps11;go_upto_region 2 with fail
 generalize hwA:w.alloc (.cells #[.pointer none,au,au,ah 0,ah 0,ah 0,ah 0,ah 0,ah 0,ah 0] 77)=wA at *;have X0:Hid (Below w w wA/\wA.heap.size=w.heap.size+1/\wA.heap[w.heap.size]? =some (aB #[.pointer none,au,au,ah 0,ah 0,ah 0,ah 0,ah 0,ah 0,ah 0] 77)):=aj (by rw[<-hwA];exact⟨(PZ _ w).alloc (oD _) _,arG,ah2 _ _⟩)
 have HL0:Hid (pO pb (w.heap.size+1) wA (wA.alloc (.cells #[aQ pb,au,au,ah 0,ah 0,ah 0,ah 0,ah 0,ah 0,ah 0] 77)) (au) (au) (jD 0 (s.ar2.take 0)) [] ⟨0,0,0,kQ 0 (s.ar2.take 0),0,0⟩):=aj (by
  have h0:=X0.af.2.1;refine⟨?_,aX.nil _ _ _ _ _,aX.nil _ _ _ _ _,(PZ _ wA).alloc wP _⟩;rw[<-h0];exact ah2 wA _)
 clear hwA;have hwz:wA.heap.size=w.heap.size+1:=X0.af.2.1;generalize wA.alloc (.cells #[aQ pb,au,au,ah 0,ah 0,ah 0,ah 0,ah 0,ah 0,ah 0] 77)=w1 at *;have CF:Hid (∀ {wr:World} {fv vv:Value} {fs vs:List Int} {y:uJ},pO pb (w.heap.size+1) wA wr fv vv fs vs y->Below w w wr):=aj (fun h=>X0.af.1.trans (h.below.mono wP));have c4:=(HM.af.below (CF.af HL0.af)).c4;have Hwz:=aj hwz;rw[Oo.af]at c4;clear hwz;go_upto_block 0 with fail
 go_cut [] (fun wx=>∃fv,pO pb (w.heap.size+1) wA wx fv (au) (jD 0 s.ar2) [] ⟨0,0,0,kQ 0 s.ar2,0,0⟩)
 case first=>
  go_wp2_with fail;go_loopw [18] (fun i wr=>∃(k:Nat) (fv:Value),i=ah k/\k<=fn/\pO pb (w.heap.size+1) wA wr fv (au) (jD 0 (s.ar2.take k)) [] ⟨0,0,0,kQ 0 (s.ar2.take k),0,0⟩) (fun i _=>fn-(intOf i).toNat);exact⟨0,_,rfl,alg _,HL0.af⟩;obtain⟨k,fv,rfl,hk,hL⟩:=hrel;have HL:=aj hL;have hlt1:=hL.lt;have JL:=(CF.af hL).mono hB;clear c4;by_cases hlt:k<fn
  ·obtain⟨f,hfx⟩:∃f,s.ar2[k]? =some f:=⟨_,gP (by rw[<-Dx.af];exact hlt)⟩
   obtain rfl:=hfa wP;obtain⟨lv,hlv,hso,g0,g1,g2,g3,g4,g5,g6,g7,g8,g9⟩:=tq.af.xJ JL k f hfx;obtain⟨la,lbk,Eo,jB,hlf,hlm,Fa,hlat⟩:=hlv.at;subst hlf;have hla:=hlat.addr;have Af:=aj hlat;have Qx:Hid (jD 0 (s.ar2.take (k+1))=jD 0 (s.ar2.take k)++[kQ 0 (s.ar2.take k)]):=aj (by rw[jR hfx,Oz]);have vG:Hid (kQ 0 (s.ar2.take (k+1))=kQ 0 (s.ar2.take k)+bO f.ar5):=aj (by rw[jR hfx,XZ]);have hE:=F8 s.ar2 k;have hE2:=F8 s.ar2 (k+1);have Hlen:Hid ((jD 0 (s.ar2.take k)).length=k):=aj (by rw[CY,og];have:=Dx.af;omega);have hll:(s.ar2.flatMap (·.ar5)).length<=2000:=hl;rw[vG.af]at hE2;obtain ⟨E,hEE⟩:=aiG (kQ 0 (s.ar2.take k));rw[<-hEE]at HL Qx vG hE hE2;obtain ⟨fs,hfs⟩:=aiG (jD 0 (s.ar2.take k));rw[<-hfs]at HL Qx Hlen;obtain⟨ga,gc,hgf⟩:=HL.af.ar2.form;rw[Hlen.af]at hgf;subst hgf;obtain ⟨c,hc⟩:=aiG f.ar5.length;have Hc:=aj hc;rw[<-hc]at g9 hlm Fa hla
   have hc2:c<=2000:=by
    have h2:=rP s.ar2 (k+1);rw[nL hfx,Kk]at h2;omega
   have hE3:0<=E/\E<=48000:=wP;clear hL hEE hfs hc hfx hlv hlat hso JL hll;have hk2:(k:Int)<(fn:Int):=wP;have vH:=aj (HL.af.step ((PZ _ wr).alloc (oD _) (.cells (arV f la c jB) 63)));have Ie:=aj (ah2 wr (.cells (arV f la c jB) 63));have hza:(wr.alloc (.cells (arV f la c jB) 63)).heap.size=wr.heap.size+1:=arG;go_upto_region 5 with fail
   clear g0 g1 g2 g3 g4 g5 g6 g7 g8 g9;generalize hwr:wr.heap.size=rb at *;have Hwr:=aj hwr;clear hwr;generalize wr.alloc (.cells (arV f la c jB) 63)=wa at *;have k1:=vH.af.cell 1 _ rfl;have k7:=vH.af.cell 7 _ rfl;have kf:=vH.af.frozen 1;have hrb:rb<wa:=wP;clear hza;have F9:=aj ((vH.af.ar2.fJ (E':=fun b=>b<wa+1/\¬(Value.slice ga k gc).ownBlock=some b) dN (fun g hg h=>h.2 hg)).alloc (.cells #[ah E] 3));have vJ:=aj (vH.af.step ((PZ _ wa).alloc (oD _) (.cells #[ah E] 3)));have HBb:=aj ((dX wa (.cells #[ah E] 3) hrb).trans Ie.af);have aar:=vH.af.lt;have lh:Hid ((wa.alloc (.cells #[ah E] 3)).heap.size=wa.heap.size+1):=aj arG;go_wp2_with (at_builtin;go_loud (refine fZ (K:=dJ) 41 (ah 0) 8 Tryz.underlying41 qg rfl abD rfl (.tmp 23) (.tmp 26) rfl k Hlen.af rfl F9.af (fun b hb=>by have h1:=hb.1;have h2:=lh.af;omega) wa.heap.size E [ah E] rfl (aD (xs:=[ah E]) (ah2 wa (.cells #[ah E] 3))) (by simp[Value.oneCell',ah]) rfl (by rw[Hlen.af];omega) (by rw[Hlen.af];omega) (by have h2:=lh.af;omega) ?_));intro g c2 w2 hown2 hst WG;have hzb:=lh.af;have HL2:=aj (vJ.af.aod (hst.imp (fun b hb=>⟨by have h1:=hb.1;have h2:=lh.af;omega,hb.2⟩)) (hown2.fJ dN (fun g hg h=>hown2.notE g hg ⟨wP,h.2⟩)));have HB2:=aj ((hst.block rb ⟨wP,fun e=>by have h1:=vJ.af.ar2.lt rb e;have h2:=HL.af.ar2.lt rb e;have h3:=Hwr.af;omega⟩).trans HBb.af);have OC:(w.heap.size+1)<wa+1/\¬(Value.slice ga k gc).ownBlock=some (w.heap.size+1):=⟨by have h1:=vJ.af.lt;have h2:=lh.af;omega,fun e=>by have:=(vJ.af.ar2.lt _ e).1;omega⟩;have Ga:=(hst.block (w.heap.size+1) OC).trans vJ.af.ex;have m1:=aD Ga 1 _ rfl;have mf:w2.frozen? (ak (w+1) 1)=false:=vV Ga 1;have hne:rb≠w.heap.size+1:=by have:=HL.af.lt;have:=Hwr.af;omega
   have HB3:=aj ((nK w2 (ak (w+1) 1) (.slice (some ⟨g,0,none⟩) (k+1) c2) rb hne).trans HB2.af);clear hown2 hst OC Ga k1 k7 kf aar hzb;go_upto_region 6 with fail
   generalize w2.setCell ⟨w.heap.size+1,1,none⟩ (.slice (some ⟨g,0,none⟩) (k+1) c2)=w3 at *;clear m1 mf;have b9:w3.cell? (ak rb 9)=some (.slice la c jB):=aD HB3.af 9 _ rfl;rw[<-Qx.af]at HL2;go_wp2_with fail;clear b9;go_loopw [32] (fun i wq=>∃j:Nat,i=ah j/\j<=c/\pO pb (w.heap.size+1) wA wq (.slice (some ⟨g,0,none⟩) (k+1) c2) (au) (jD 0 (s.ar2.take (k+1))) [] ⟨0,0,0,E+bO (f.ar5.take j),0,0⟩) (fun i _=>c-(intOf i).toNat);exact⟨0,rfl,alg _,by simpa [bO] using HL2.af⟩;obtain⟨j,rfl,hj,hLq⟩:=hrel;have HLq:=aj hLq;have hbq:=(CF.af hLq).mono hB;clear hLq;by_cases hjt:j<c
   ·obtain⟨x,hx⟩:∃x,f.ar5[j]? =some x:=⟨_,gP (by rw[<-Hc.af];exact hjt)⟩
    obtain rfl:=hla wP;obtain⟨hxo,l0,l1,l2,l3,l4,l5,l6,l7,l8⟩:=(Af.af.below hbq).E9 j x hx;have HLn:=aj (YT hx);have hxk:=aj hxo.ar3;have hlp:=Oy x;have hln:=ou (f.ar5.take j);have hjl:(f.ar5.take j).length<=j:=List.length_take_le _ _;obtain ⟨N,hN⟩:=aiG (bO (f.ar5.take j));rw[<-hN]at HLq HLn hln;have hj2:(j:Int)<(c:Int):=wP;have QJ:=aj (HLq.af.step ((PZ _ wr).alloc (oD _) (.cells (arL x) 60)));have BD:=aj (ah2 wr (.cells (arL x) 60));have AB:wr.heap.size<(wr.alloc (.cells (arL x) 60)):=arG;have HLg:=aj (fun w=>aiz w x hxk.af);go_upto_region 9 with fail
    clear l0 l1 l2 l3 l4 l5 l6 l7 l8 hx hxo hN hbq;generalize wr.heap.size=xb at *;generalize wr.alloc (.cells (arL x) 60)=wy at *;have n7:=QJ.af.cell 7 _ rfl;refine bA 7 TA TA ?_;simp only[ji];refine P8 (S:=fun w':World=>w'.cell? (ak (w+1) 7)=some (ah (E+N))/\w'.cell? (ak xb 0)=some (ah x.ar3)/\w'.cell? (ak xb 1)=some (ah x.inst.op)/\w'.cell? (ak xb 2)=some (ah x.inst.a)/\w'.cell? (ak xb 3)=some (ah x.inst.b)/\w'.cell? (ak xb 4)=some (ah x.inst.c)/\w'.cell? (ak xb 5)=some (ah x.inst.bU)/\w'.cell? (ak xb 6)=some (ah x.a)/\w'.cell? (ak xb 7)=some (ax x.arT)/\w'.cell? (ak xb 8)=some (ax x.aG)) _ _ _ _ ?_;have ay:(fun w':World=>w'.cell? (ak (w+1) 7)=some (ah (E+N))/\w'.cell? (ak xb 0)=some (ah x.ar3)/\w'.cell? (ak xb 1)=some (ah x.inst.op)/\w'.cell? (ak xb 2)=some (ah x.inst.a)/\w'.cell? (ak xb 3)=some (ah x.inst.b)/\w'.cell? (ak xb 4)=some (ah x.inst.c)/\w'.cell? (ak xb 5)=some (ah x.inst.bU)/\w'.cell? (ak xb 6)=some (ah x.a)/\w'.cell? (ak xb 7)=some (ax x.arT)/\w'.cell? (ak xb 8)=some (ax x.aG)) (World.drew wy):=⟨n7,aD BD.af 0 _ rfl,aD BD.af 1 _ rfl,aD BD.af 2 _ rfl,aD BD.af 3 _ rfl,aD BD.af 4 _ rfl,aD BD.af 5 _ rfl,aD BD.af 6 _ rfl,aD BD.af 7 _ rfl,aD BD.af 8 _ rfl⟩;refine asr ?_;have AJ:=aj (QJ.af.step (PZ _ wy).drew);have hzx:xb<(World.drew wy):=AB;have hlx:=AJ.af.lt;generalize (World.drew wy)=wd at AJ ay hzx hlx ⊢;clear n7;refine arO [0,1,2] ay ?_;simp only[ast]
    iterate 3 (refine arP ?_;try simp only[bP])
    refine cO 3 fun K hK=> ?_
    go_simp;refine(HLg.af wd).mono ?_;rintro e w5 ⟨rfl,HB⟩;have vK:=aj (AJ.af.step HB);refine hK.af _ _ ⟨(HB.cell (p:=(ak (w+1) 7)) hlx).trans ay.1,(HB.cell (p:=(ak xb 0)) hzx).trans ay.2.1,(HB.cell (p:=(ak xb 1)) hzx).trans ay.2.2.1,(HB.cell (p:=(ak xb 2)) hzx).trans ay.2.2.2.1,(HB.cell (p:=(ak xb 3)) hzx).trans ay.2.2.2.2.1,(HB.cell (p:=(ak xb 4)) hzx).trans ay.2.2.2.2.2.1,(HB.cell (p:=(ak xb 5)) hzx).trans ay.2.2.2.2.2.2.1,(HB.cell (p:=(ak xb 6)) hzx).trans ay.2.2.2.2.2.2.2.1,(HB.cell (p:=(ak xb 7)) hzx).trans ay.2.2.2.2.2.2.2.2.1,(HB.cell (p:=(ak xb 8)) hzx).trans ay.2.2.2.2.2.2.2.2.2⟩ (fun ay=> ?_);clear hK K HB;try simp only[bV]
    have ho1:IntKind.i64.wrap (jZ x*8)=jZ x*8:=iJ _ wP;have ho2:IntKind.i64.wrap (E+N+jZ x*8)=E+N+jZ x*8:=iJ _ wP;refine arO [4,5,6] ay ?_;simp only[ast]
    iterate 3 (refine arP ?_;try simp only[bP])
    refine E5 TA ?_ _;simp only[dU];clear ay ho1 ho2;have n7:=vK.af.cell 7 _ rfl;have f7:=vK.af.frozen 7;have zF:Hid (pO pb (w.heap.size+1) wA (w5.setCell ⟨w.heap.size+1,7,none⟩ (ah (E+N+jZ x*8))) (.slice (some ⟨g,0,none⟩) (k+1) c2) (au) (jD 0 (s.ar2.take (k+1))) [] ⟨0,0,0,E+bO (f.ar5.take (j+1)),0,0⟩):=aj (vK.af.num 7 (E+N+jZ x*8) _ (by rw[HLn.af,<-Int.add_assoc];rfl));go_wp2;go_roundw;exact⟨j+1,arH,wP,zF.af⟩;simp[intOf];omega
   ·have HE:Hid (pO pb (w.heap.size+1) wA wr (.slice (some ⟨g,0,none⟩) (k+1) c2) (au) (jD 0 (s.ar2.take (k+1))) [] ⟨0,0,0,kQ 0 (s.ar2.take (k+1)),0,0⟩):=aj (by
     have h:=HLq.af;rw[show f.ar5.take j=f.ar5 from dh (by have:=Hc.af;omega)]at h;rw[vG.af];exact h)
    go_wp2;go_roundw;exact⟨k+1,_,arH,wP,HE.af⟩;simp[intOf];omega
  ·have HE:Hid (∃fv,pO pb (w.heap.size+1) wA wr fv (au) (jD 0 s.ar2) [] ⟨0,0,0,kQ 0 s.ar2,0,0⟩):=aj (by
    rw[dh (by have:=Dx.af;omega)]at hL;exact⟨fv,hL⟩)
   go_wp2_with fail;go_meet;exact HE.af
 case rest=>
 obtain⟨fv,hL4⟩:=hcut;rename World=>w4
 clear c4;have EE:=aj hL4;have sS:=aj (HM.af.below (CF.af hL4));clear hL4;have hT:=F8 s.ar2 s.ar2.length;rw[List.take_length]at hT;have hll:(s.ar2.flatMap (·.ar5)).length<=2000:=hl;obtain ⟨T,hTT⟩:=aiG (kQ 0 s.ar2);have HT:=aj hTT;rw[<-hTT]at EE hT;have TF:0<=T/\T<=48000:=wP;clear hTT hT hll;obtain⟨ja,jc,uL⟩:=sS.af.ar7.form;obtain⟨ca,cc,hcf⟩:=sS.af.cells.form;have Om:=aj uL;have Zy:=aj hcf;obtain ⟨nj,iM⟩:=aiG p.ar7.length;obtain ⟨nc,hnc⟩:=aiG p.cells.length;have Cr:=aj iM;have EF:=aj hnc;rw[<-iM]at Om;rw[<-hnc]at Zy;have pQ:nj<=999990:=by unfold aA.sz at hp;omega
 have Es:nc<=999990:=by unfold aA.sz at hp;omega
 clear uL hcf iM hnc;have c7:=EE.af.cell 7 _ rfl;have c3:=EE.af.cell 3 _ rfl;have f3:=EE.af.frozen 3;go_upto_region 13 with fail
 have vK:=aj (EE.af.num 3 T ⟨T,0,0,T,0,0⟩ rfl);have qo:=aj (HM.af.below (CF.af vK.af));clear c7 c3 f3;generalize w4.setCell ⟨w.heap.size+1,3,none⟩ (ah T)=w5 at *;refine bA 10 TA TA ?_;simp only[ji];refine P8 (S:=fun w':World=>w'.cell? (ak (w+1) 7)=some (ah T)/\w'.cell? (ak pb 12)=some (.slice ja nj jc)) _ _ _ _ ?_;have ay:(fun w':World=>w'.cell? (ak (w+1) 7)=some (ah T)/\w'.cell? (ak pb 12)=some (.slice ja nj jc)) (World.drew w5):=⟨vK.af.cell 7 _ rfl,qo.af.c12.trans (by rw[Om.af])⟩;refine asr ?_;have aas:=aj (vK.af.step (PZ _ w5).drew);generalize (World.drew w5)=wd at aas ay ⊢;have o1:IntKind.i64.wrap (24*nj)=24*nj:=iJ _ wP;have o2:IntKind.i64.wrap (T+24*nj)=T+24*nj:=iJ _ wP;refine arO [0,1,2,3,4,5,6,7,8,9] ay ?_;simp only[ast]
 iterate 10 (refine arP ?_;try simp only[bP])
 refine E5 TA ?_ _;simp only[dU];have zF:=aj (aas.af.num 7 (T+24*nj) ⟨T,0,0,T+24*nj,0,0⟩ rfl);have n7:=aas.af.cell 7 _ rfl;have f7:=aas.af.frozen 7;clear ay o1 o2;go_upto_region 14 with fail
 clear n7 f7;generalize wd.setCell ⟨w.heap.size+1,7,none⟩ (ah (T+24*nj))=w6 at *;have n7:=zF.af.cell 7 _ rfl;have n4:=zF.af.cell 4 _ rfl;have f4:=zF.af.frozen 4;obtain ⟨M,hMx⟩:=aiG (max 1 (T+24*(nj:Int)));have HMx:=aj hMx;have hMb:1<=M/\M<=24048000:=wP;have aoe:(if 1<T+24*(nj:Int) then T+24*(nj:Int) else 1)=M:=by rw[hMx];split<;>omega
 clear hMx;have HUp:=aj (fun w=>akP w M wP wP);go_wp2_with fail;refine(HUp.af _).mono ?_;rintro e w7 ⟨rfl,rfl⟩;clear aoe;obtain ⟨G,hG⟩:=aiG (ny M);rw[<-hG];have HG:=aj hG;have hGb:=aap (n:=M) wP;rw[<-hG]at hGb;have hG2:0<=G/\G<=25000000:=wP;clear hG hGb HUp;go_upto_region 15 with fail
 clear n7 n4 f4;have Ii:=aj (zF.af.num 4 G ⟨T,G,0,T+24*nj,0,0⟩ rfl);have EG:=aj (HM.af.below (CF.af Ii.af));generalize w7.setCell ⟨w.heap.size+1,4,none⟩ (ah G)=w8 at *;refine bA 10 TA TA ?_;simp only[ji];refine P8 (S:=fun w':World=>w'.cell? (ak (w+1) 4)=some (ah G)/\w'.cell? (ak pb 11)=some (.slice ca nc cc)) _ _ _ _ ?_;have ay:(fun w':World=>w'.cell? (ak (w+1) 4)=some (ah G)/\w'.cell? (ak pb 11)=some (.slice ca nc cc)) (World.drew w8):=⟨Ii.af.cell 4 _ rfl,EG.af.c11.trans (by rw[Zy.af])⟩;refine asr ?_;have aat:=aj (Ii.af.step (PZ _ w8).drew);clear Ii EG;generalize (World.drew w8)=wd at aat ay ⊢;have o1:IntKind.i64.wrap (8*nc)=8*nc:=iJ _ wP;have o2:IntKind.i64.wrap (G+8*nc)=G+8*nc:=iJ _ wP;refine arO [0,1,2,3,4,5,6,7,8,9] ay ?_;simp only[ast]
 iterate 10 (refine arP ?_;try simp only[bP])
 refine E5 TA ?_ _;simp only[dU];have HL9:=aj (aat.af.num 5 (G+8*nc) ⟨T,G,G+8*nc,T+24*nj,0,0⟩ rfl);have n5:=aat.af.cell 5 _ rfl;have f5:=aat.af.frozen 5;clear ay o1 o2;go_upto_region 16 with fail
 clear n5 f5;generalize wd.setCell ⟨w.heap.size+1,5,none⟩ (ah (G+8*nc))=w9 at *;have HM9:=aj (HM.af.below (CF.af HL9.af));refine bA 10 TA TA ?_;simp only[ji];refine P8 (S:=fun w':World=>w'.cell? (ak (w+1) 5)=some (ah (G+8*nc))/\w'.cell? (ak pb 12)=some (.slice ja nj jc)) _ _ _ _ ?_;have ay:(fun w':World=>w'.cell? (ak (w+1) 5)=some (ah (G+8*nc))/\w'.cell? (ak pb 12)=some (.slice ja nj jc)) (World.drew w9):=⟨HL9.af.cell 5 _ rfl,HM9.af.c12.trans (by rw[Om.af])⟩;refine asr ?_;have aau:=aj (HL9.af.step (PZ _ w9).drew);clear HL9 HM9 aat;generalize (World.drew w9)=wd at aau ay ⊢;have o1:IntKind.i64.wrap (8*nj)=8*nj:=iJ _ wP;have o2:IntKind.i64.wrap (G+8*nc+8*nj)=G+8*nc+8*nj:=iJ _ wP;refine arO [0,1,2,3,4,5,6,7,8,9] ay ?_;simp only[ast]
 iterate 10 (refine arP ?_;try simp only[bP])
 refine E5 TA ?_ _;simp only[dU];have OD:=aj (aau.af.num 8 (G+8*nc+8*nj) ⟨T,G,G+8*nc,T+24*nj,G+8*nc+8*nj,0⟩ rfl);have n8:=aau.af.cell 8 _ rfl;have f8:=aau.af.frozen 8;clear ay o1 o2;go_upto_region 17 with fail
 clear n8 f8;generalize wd.setCell ⟨w.heap.size+1,8,none⟩ (ah (G+8*nc+8*nj))=BF at *;have adu:=aj (HM.af.below (CF.af OD.af));obtain⟨fga,fgc,alH⟩:=OD.af.ar2.form;rw[CY]at alH;subst alH;obtain⟨va,vb,voff,N8,hvf,xQ,anp,kI⟩:=HS.af.vars.at;have hva:=kI.addr;have yw:=aj kI;have c5:=adu.af.c5;rw[hvf]at c5;obtain ⟨vn,Dz⟩:=aiG s.vars.length;have Cq:=aj Dz;rw[<-Dz]at c5 xQ anp hva hv;obtain ⟨D,hD⟩:=aiG (G+8*(nc:Int)+8*(nj:Int));have HD:=aj hD;have hDb:0<=D/\D<=42000000:=wP;rw[<-hD]at OD;clear hvf kI Dz hD aau zF aas adu;obtain ⟨P,hP⟩:=aiG (G+8*(nc:Int));have HP:=aj hP;rw[<-hP]at OD;obtain ⟨X,hX⟩:=aiG (T+24*(nj:Int));have HX:=aj hX;rw[<-hX]at OD;clear hP hX;go_wp2_with fail;go_loopw [89] (fun i wr=>∃(k:Nat) (vv:Value) (q:List Int × Int × Int),i=ah k/\k<=vn/\q=(s.vars.take k).foldl iw ([],D,0)/\pO pb (w.heap.size+1) wA wr (.slice fga s.ar2.length fgc) vv (jD 0 s.ar2) q.1 ⟨T,G,P,X,q.2.1,q.2.2⟩) (fun i _=>vn-(intOf i).toNat);exact⟨0,_,_,rfl,alg _,rfl,OD.af⟩;obtain⟨k,vv,q,rfl,hk,hq,hL⟩:=hrel;have HL:=aj hL;have hlt1:=hL.lt;have JL:=(CF.af hL).mono hB;have Hq:=aj hq;clear c5 hq hL;by_cases hlt:k<vn
 ·obtain⟨x,hx⟩:∃x,s.vars[k]? =some x:=⟨_,gP (by rw[<-Cq.af];exact hlt)⟩
  obtain rfl:=hva wP;obtain⟨wv,rv,hwv,kD,hso,g0,g1,g2,g3,g4,g5,g6,g7,g8,g9,g10,g11⟩:=yw.af.rZ JL k x hx;obtain⟨gL,wc,rfl⟩:=hwv.form;obtain⟨ra,rc,rfl⟩:=kD.form;have hqb:=abZ s.vars k D;rw[<-Hq.af]at hqb;have hwl:=RI hx;have lm:Hid ((s.vars.take (k+1)).foldl iw ([],D,0)=iw q x):=aj (by rw[jm hx,Hq.af]);have Hlen:Hid (q.1.length=k):=aj (by rw[Hq.af,OB,og];have:=Cq.af;simp;omega);obtain⟨ql,qd,qt⟩:=q;simp only at HL hqb Hlen lm;obtain⟨ga,gc,hgf⟩:=HL.af.vars.form;rw[Hlen.af]at hgf;subst hgf;obtain ⟨rn,hrn⟩:=aiG x.ash.length;rw[<-hrn]at g10;obtain ⟨wn,hwn⟩:=aiG x.ar8.length;have xq:=aj hwn;rw[<-hwn]at g9 hwl;have hqd:0<=qd/\qd<=43000000:=wP;have hqt:0<=qt/\qt<=43000000:=wP;have hwn2:wn<=2000:=wP;have hki:=hso.ar3;clear hrn hwn hx hwv kD hso JL hqb hwl;have hk2:(k:Int)<(vn:Int):=wP;have vH:=aj (HL.af.step ((PZ _ wr).alloc (oD _) (.cells (arU x gL wn wc ra rn rc) 71)));have Ie:=aj (ah2 wr (.cells (arU x gL wn wc ra rn rc) 71));have hza:(wr.alloc (.cells (arU x gL wn wc ra rn rc) 71)).heap.size=wr.heap.size+1:=arG;go_upto_region 20 with fail
  clear g0 g1 g2 g3 g4 g5 g6 g7 g8 g9 g10 g11;generalize hwr:wr.heap.size=rb at *;have Hwr:=aj hwr;clear hwr;generalize wr.alloc (.cells (arU x gL wn wc ra rn rc) 71)=wa at *;have hrb:rb<wa:=wP;have b3:wa.cell? (ak rb 3)=some (ah x.sym.ar3):=aD Ie.af 3 _ rfl;clear hza;by_cases hkd:x.sym.ar3=3
  ·have hkb:(x.sym.ar3==3)=true:=by simp[hkd]
   have kE:Hid (iw (ql,qd,qt) x=(ql++[qt],qd,qt+8*wn)):=aj (by unfold iw;rw[if_pos hkd,xq.af]);clear hkd;go_upto_region 21 with fail
   have k2:=vH.af.cell 2 _ rfl;have kn:=vH.af.cell 9 _ rfl;have kf:=vH.af.frozen 2;clear b3;have F9:=aj ((vH.af.vars.fJ (E':=fun b=>b<wa+1/\¬(Value.slice ga k gc).ownBlock=some b) dN (fun g hg h=>h.2 hg)).alloc (.cells #[ah qt] 3));have vJ:=aj (vH.af.step ((PZ _ wa).alloc (oD _) (.cells #[ah qt] 3)));have HBb:=aj ((dX wa (.cells #[ah qt] 3) hrb).trans Ie.af);have aar:=vH.af.lt;have lh:Hid ((wa.alloc (.cells #[ah qt] 3)).heap.size=wa.heap.size+1):=aj arG;go_wp2_with (at_builtin;go_loud (refine fZ (K:=dJ) 41 (ah 0) 8 Tryz.underlying41 qg rfl abD rfl (.tmp 98) (.tmp 101) rfl k Hlen.af rfl F9.af (fun b hb=>by have h1:=hb.1;have h2:=lh.af;omega) wa.heap.size qt [ah qt] rfl (aD (xs:=[ah qt]) (ah2 wa (.cells #[ah qt] 3))) (by simp[Value.oneCell',ah]) rfl (by rw[Hlen.af];omega) (by rw[Hlen.af];omega) (by have h2:=lh.af;omega) ?_));intro g c2 w2 hown2 hst WG;have hzb:=lh.af;have HL2:=aj (vJ.af.alG (hst.imp (fun b hb=>⟨by have h1:=hb.1;have h2:=lh.af;omega,hb.2⟩)) (hown2.fJ dN (fun g hg h=>hown2.notE g hg ⟨wP,h.2⟩)));have HB2:=aj ((hst.block rb ⟨wP,fun e=>by have h1:=vJ.af.vars.lt rb e;have h2:=HL.af.vars.lt rb e;have h3:=Hwr.af;omega⟩).trans HBb.af);have OC:(w.heap.size+1)<wa+1/\¬(Value.slice ga k gc).ownBlock=some (w.heap.size+1):=⟨by have h1:=vJ.af.lt;have h2:=lh.af;omega,fun e=>by have:=(vJ.af.vars.lt _ e).1;omega⟩;have Ga:=(hst.block (w.heap.size+1) OC).trans vJ.af.ex;have m1:=aD Ga 2 _ rfl;have mf:w2.frozen? (ak (w+1) 2)=false:=vV Ga 2;have hne:rb≠w.heap.size+1:=by have:=HL.af.lt;have:=Hwr.af;omega
   have HB3:=aj ((nK w2 (ak (w+1) 2) (.slice (some ⟨g,0,none⟩) (k+1) c2) rb hne).trans HB2.af);clear hown2 hst OC Ga k2 kn kf aar hzb;go_upto_region 22 with fail
   generalize w2.setCell ⟨w.heap.size+1,2,none⟩ (.slice (some ⟨g,0,none⟩) (k+1) c2)=w3 at *;clear m1 mf;have b9:w3.cell? (ak rb 9)=some (.slice gL wn wc):=aD HB3.af 9 _ rfl;have kn:=HL2.af.cell 9 _ rfl;have kf:=HL2.af.frozen 9;have zD:=aj (HL2.af.num 9 (qt+8*(wn:Int)) ⟨T,G,P,X,qd,qt+8*(wn:Int)⟩ rfl);go_wp2;go_roundw;exact⟨k+1,_,_,arH,wP,rfl,by rw[lm.af,kE.af];exact zD.af⟩;simp[intOf];omega
  ·have hkb:(x.sym.ar3==3)=false:=by simp[hkd]
   have kE:Hid (iw (ql,qd,qt) x=(ql++[qd],qd+8*wn,qt)):=aj (by unfold iw;rw[if_neg hkd,xq.af]);clear hkd;go_upto_region 23 with fail
   have k2:=vH.af.cell 2 _ rfl;have kn:=vH.af.cell 8 _ rfl;have kf:=vH.af.frozen 2;clear b3;have F9:=aj ((vH.af.vars.fJ (E':=fun b=>b<wa+1/\¬(Value.slice ga k gc).ownBlock=some b) dN (fun g hg h=>h.2 hg)).alloc (.cells #[ah qd] 3));have vJ:=aj (vH.af.step ((PZ _ wa).alloc (oD _) (.cells #[ah qd] 3)));have HBb:=aj ((dX wa (.cells #[ah qd] 3) hrb).trans Ie.af);have aar:=vH.af.lt;have lh:Hid ((wa.alloc (.cells #[ah qd] 3)).heap.size=wa.heap.size+1):=aj arG;go_wp2_with (at_builtin;go_loud (refine fZ (K:=dJ) 41 (ah 0) 8 Tryz.underlying41 qg rfl abD rfl (.tmp 113) (.tmp 116) rfl k Hlen.af rfl F9.af (fun b hb=>by have h1:=hb.1;have h2:=lh.af;omega) wa.heap.size qd [ah qd] rfl (aD (xs:=[ah qd]) (ah2 wa (.cells #[ah qd] 3))) (by simp[Value.oneCell',ah]) rfl (by rw[Hlen.af];omega) (by rw[Hlen.af];omega) (by have h2:=lh.af;omega) ?_));intro g c2 w2 hown2 hst WG;have hzb:=lh.af;have HL2:=aj (vJ.af.alG (hst.imp (fun b hb=>⟨by have h1:=hb.1;have h2:=lh.af;omega,hb.2⟩)) (hown2.fJ dN (fun g hg h=>hown2.notE g hg ⟨wP,h.2⟩)));have HB2:=aj ((hst.block rb ⟨wP,fun e=>by have h1:=vJ.af.vars.lt rb e;have h2:=HL.af.vars.lt rb e;have h3:=Hwr.af;omega⟩).trans HBb.af);have OC:(w.heap.size+1)<wa+1/\¬(Value.slice ga k gc).ownBlock=some (w.heap.size+1):=⟨by have h1:=vJ.af.lt;have h2:=lh.af;omega,fun e=>by have:=(vJ.af.vars.lt _ e).1;omega⟩;have Ga:=(hst.block (w.heap.size+1) OC).trans vJ.af.ex;have m1:=aD Ga 2 _ rfl;have mf:w2.frozen? (ak (w+1) 2)=false:=vV Ga 2;have hne:rb≠w.heap.size+1:=by have:=HL.af.lt;have:=Hwr.af;omega
   have HB3:=aj ((nK w2 (ak (w+1) 2) (.slice (some ⟨g,0,none⟩) (k+1) c2) rb hne).trans HB2.af);clear hown2 hst OC Ga k2 kn kf aar hzb;go_upto_region 24 with fail
   generalize w2.setCell ⟨w.heap.size+1,2,none⟩ (.slice (some ⟨g,0,none⟩) (k+1) c2)=w3 at *;clear m1 mf;have b9:w3.cell? (ak rb 9)=some (.slice gL wn wc):=aD HB3.af 9 _ rfl;have kn:=HL2.af.cell 8 _ rfl;have kf:=HL2.af.frozen 8;have zD:=aj (HL2.af.num 8 (qd+8*(wn:Int)) ⟨T,G,P,X,qd+8*(wn:Int),qt⟩ rfl);go_wp2;go_roundw;exact⟨k+1,_,_,arH,wP,rfl,by rw[lm.af,kE.af];exact zD.af⟩;simp[intOf];omega
 ·have hall:s.vars.take k=s.vars:=dh (by have:=Cq.af;omega)
  rw[hall]at Hq;have HQ:Hid (q=jg D 0 s.vars):=aj (by rw[Hq.af,aao]);have hwz:=Hwz.af;obtain⟨ga,gc,hgf⟩:=HL.af.vars.form;have hlq:q.1.length=s.vars.length:=by rw[HQ.af,OA]
  rw[hlq]at hgf;subst hgf;have k0:=HL.af.cell 0 _ rfl;have k1:=HL.af.cell 1 _ rfl;have k2:=HL.af.cell 2 _ rfl;have k3:=HL.af.cell 3 _ rfl;have k4:=HL.af.cell 4 _ rfl;have k5:=HL.af.cell 5 _ rfl;have k6:=HL.af.cell 6 _ rfl;have k7:=HL.af.cell 7 _ rfl;have k8:=HL.af.cell 8 _ rfl;have k9:=HL.af.cell 9 _ rfl;have HR:=aj ((HL.af.below.block w.heap.size wP).trans X0.af.2.2)
  have HE:Hid ((aN s p).aS=T/\(aN s p).got=G/\(aN s p).bW=P/\(aN s p).data=q.2.1/\(aN s p).bf=q.2.2/\(aN s p).ar2=jD 0 s.ar2/\(aN s p).vars=q.1):=aj (by
   have e1:T=kQ 0 s.ar2:=HT.af;have e2:G=ny (max 1 (kQ 0 s.ar2+24*p.ar7.length)):=by rw[HG.af,HMx.af,e1,Cr.af]
   have e3:P=ny (max 1 (kQ 0 s.ar2+24*p.ar7.length))+8*p.cells.length:=by rw[HP.af,e2,EF.af]
   have e4:jg (ny (max 1 (kQ 0 s.ar2+24*p.ar7.length))+8*p.cells.length+8*p.ar7.length) 0 s.vars=q:=by rw[HQ.af,HD.af,e2,EF.af,Cr.af]
   unfold aN;simp only[e4];exact⟨e1.symm,e2.symm,e3.symm,trivial,trivial,trivial,trivial⟩)
  obtain⟨ql,qd,qt⟩:=q;simp only at HE k8 k9 HL;have DC:Hid (X=T+24*(p.ar7.length:Int)):=aj (by rw[HX.af,Cr.af]);simp only at k3 k4 k5 k7;clear hall hlq hwz JL;go_wp2_with (refine Bv rfl 77 (.tmp 2) (.tmp 128) rfl w.heap.size (#[aQ pb,.slice fga s.ar2.length fgc,.slice ga s.vars.length gc,.int .i64 T,.int .i64 G,.int .i64 P,.int .i64 0,.int .i64 X,.int .i64 qd,.int .i64 qt]) rfl rfl _ _ HR.af TA rfl (by simp[Value.oneCell']) ?_);go_wp2_with fail;have FR:=aj (setRow_heap _ w.heap.size _ (#[aQ pb,.slice fga s.ar2.length fgc,.slice ga s.vars.length gc,ah T,ah G,ah P,ah 0,ah X,ah qd,ah qt]) _ _ HR.af);have zk:=aj (CF.af HL.af);have hne:∀b,b≠w.heap.size->(wr.setRow w.heap.size (#[aQ pb,.slice fga s.ar2.length fgc,.slice ga s.vars.length gc,ah T,ah G,ah P,ah 0,ah X,ah qd,ah qt])).heap[b]? =wr.heap[b]? :=fun b hb=>by simp[World.setRow,Array.getElem?_modify,Ne.symm hb]
  refine bodyPost_ret (tT rfl _ _ w.heap.size _ _ _ _ rfl FR.af Tryz.underlying77 rfl TA) rfl ?_;obtain⟨e1,e2,e3,e4,e5,e6,e7⟩:=HE.af;refine⟨.slice fga s.ar2.length fgc,.slice ga s.vars.length gc,?_,?_,?_,?_⟩
  ·rw[e1,e2,e3,e4,e5,<-DC.af];rfl
  ·exact⟨zk.af.os,zk.af.tape,zk.af.output,by simpa [World.setRow] using zk.af.size,fun b hb=>(hne b wP).trans (zk.af.block b hb)⟩
  ·rw[e6];exact((HL.af.ar2.mono wP).p8 oZ (fun g hg=>hne g (by have:=(HL.af.ar2.lt g hg).1;omega)))
  ·rw[e7];exact((HL.af.vars.mono wP).p8 oZ (fun g hg=>hne g (by have:=(HL.af.vars.lt g hg).1;omega)))
section
variable {α : Type} {e : TypeId} {K : Kind α} {B : Nat} {E : Nat -> Prop} {w w' : World} {v : Value} {l : List α}
theorem aX.dS (hK:pE K) (h:aX e K B E w v l) (hk:∀g,v.ownBlock=some g->w'.heap[g]? =w.heap[g]?):aX e K B E w' v l:=by
 obtain⟨xs,h1,h2,h3⟩:=h;refine⟨xs,⟨h1.1,?_⟩,h2.flat hK,h3⟩;rcases h1.2 with h0 | ⟨g,cap,cur,hv,hg,hh,r⟩
 ·exact aH h0
 ·exact aZ ⟨g,cap,cur,hv,hg,by rw[hk g (by rw[hv];rfl)];exact hh,r⟩
end
theorem bB.adv {s0:aM} {aiA:Int} {p0:aA} (h0:bB B pb w sv s0 aiA v p0) (h:bB B pb w1 sv s own v p) (hC:w.heap.size<=C) (hb:∀b,b<C->w2.heap[b]? =w1.heap[b]?):bB B pb w2 sv s own v p:=by
 have hl:=h0.lt;refine⟨(hb pb wP).trans h.ex,h.base,?_,?_,?_⟩
 ·exact h.av.dS ig (fun g hg=>hb g (by have:=(h0.av.lt g hg).2;omega))
 ·exact h.cells.dS kY (fun g hg=>hb g (by have:=(h0.cells.lt g hg).2;omega))
 ·exact h.ar7.dS dN (fun g hg=>hb g (by have:=(h0.ar7.lt g hg).2;omega))
theorem aU.adv (h:aU pb v v w w1) (hC:w.heap.size<=C) (hb:Below C w1 w2):aU pb v v w w2:=by
 have h1:=h.step;refine⟨⟨hb.os.trans h1.os,hb.tape.trans h1.tape,hb.output.trans h1.output,Nat.le_trans h1.size hb.size,fun b hb'=>(hb.block b (by have:=hb'.1;omega)).trans (h1.block b hb')⟩,h.new⟩
def X3 (B pb:Nat) (sv:bN) (s:aM) (own:Int) (v:bG) (w:World) (q:aA × List Int) (e:Ending) (w':World):Prop:=
 ∃ov,e=.returned ov/\bB B pb w' sv s own v q.1/\aU pb v v w w'/\aX 3 dJ w.heap.size (fun _=>False) w' ov q.2
theorem bB.adw (h:bB B pb w sv s own v p) (k:Kept pb v w b) (cs:Array Value):bB B pb (w.setRow b cs) sv s own v p:=
 ⟨(cu w b pb cs (fun e=>k.ne e.symm)).trans h.ex,h.base,h.av.dS ig (fun g hg=>cu w b g cs (fun e=>k.no (aH (e ▸ hg)))),h.cells.dS kY (fun g hg=>cu w b g cs (fun e=>k.no (aZ (aH (e ▸ hg))))),h.ar7.dS dN (fun g hg=>cu w b g cs (fun e=>k.no (aZ (aZ (e ▸ hg)))))⟩
theorem aU.ag8 {v':bG} (h:aU pb v v' w w') (hb:w.heap.size<=b) (cs:Array Value):aU pb v v' w (w'.setRow b cs):=
 ⟨⟨h.step.os,h.step.tape,h.step.output,by simpa [World.setRow] using h.step.size,fun c hc=>(cu w' b c cs (by have:=hc.1;omega)).trans (h.step.block c hc)⟩,h.new⟩
def xu (n:List UInt8) (f:eH):Bool:=decide (f.sym.arT=n)&& !f.sym.old
def nU (s:aM) (ar2:List Int) (q:aA × List Int) (n:List UInt8):aA × List Int:=
 match s.ar2.findIdx? (xu n)with
 | some k=>(q.1,q.2++[ar2.getD k 0])
 | none=>(q.1.fail 103,q.2)
theorem QK (s:aM) (ar2:List Int):∀(l:List (List UInt8)) (q:aA × List Int),dL s ar2 l q=l.foldl (nU s ar2) q
 | [],_=>rfl
 | n :: l,q=>by
  rw[nY,<-QK s ar2 l];rw[dL];unfold nU;have:(fun f:eH=>decide (f.sym.arT=n)&& !f.sym.old)=xu n:=rfl;rw[this]
  cases s.ar2.findIdx? (xu n)<;>rfl
theorem Ni (s:aM) (ar2:List Int):∀(l:List (List UInt8)) (q:aA × List Int),(l.foldl (nU s ar2) q).2.length<=q.2.length+l.length
 | [],_=>arG
 | n :: l,q=>by
  rw[nY,oF];have h1:=Ni s ar2 l (nU s ar2 q n);have h2:(nU s ar2 q n).2.length<=q.2.length+1:=by unfold nU;split<;>simp
  omega
theorem adx (w:World) (nb:Nat) (n:List UInt8) (f:eH) (la:Option Addr) (ln lc:Nat) (hn:w.cell? (ak nb 0)=some (ax n)) (hb:nb<w):
  Calls asq 49 #[.agg #[ax f.sym.arT,ax f.sym.asc,.bool f.sym.old,ah f.sym.ar3,.bool f.sym.ar1,ah f.sym.bq,.bool f.sym.asg,ah f.sym.value,ah f.sym.size,.slice la ln lc],aQ nb] w fun e w'=>e=.returned (.bool (xu n f))/\Below w w w':=by
 have HB:=aj ((PZ w.heap.size w).alloc (oD _) (.cells #[ax f.sym.arT,ax f.sym.asc,.bool f.sym.old,ah f.sym.ar3,.bool f.sym.ar1,ah f.sym.bq,.bool f.sym.asg,ah f.sym.value,ah f.sym.size,.slice la ln lc] 63));by_cases h:f.sym.arT=n
 ·have hbn:(f.sym.arT==n)=true:=by simp[h]
  have HQ:Hid (xu n f= !f.sym.old):=aj (by simp[xu,h]);rw[HQ.af];clear h;generalize f.sym.old=old at *
  cases old with
  | true=>
   go_enter Tryz.func49,Tryz.ntmps49;go_wp2;go_ret;exact⟨rfl,HB.af⟩
  | false=>
   go_enter Tryz.func49,Tryz.ntmps49;go_wp2;go_ret;exact⟨rfl,HB.af⟩
 ·have hbn:(f.sym.arT==n)=false:=by simp[h]
  have HQ:Hid (xu n f=false):=aj (by simp[xu,h]);rw[HQ.af];clear h;go_enter Tryz.func49,Tryz.ntmps49;go_wp2;go_ret;exact⟨rfl,HB.af⟩
theorem ady {l:List eH} (hl:LB G6 (·<B) w0 fv l) (w:World) (hw:Below B w0 w) (hB:B<=w) (nb:Nat) (n:List UInt8) (hn:w.cell? (ak nb 0)=some (ax n)) (hb:nb<w):
  Calls asq 48 #[fv,.func (.func 49) #[] #[aQ nb]] w fun e w'=>e=.returned (ah (xO (l.findIdx? (xu n))))/\Below w w w':=by
 obtain⟨fa,fb,Cz,ru,lZ,hfm,BA,jP⟩:=hl.at;subst lZ;have hfa:=jP.addr;have tq:=aj jP;obtain ⟨fn,hfn⟩:=aiG l.length;have Dx:=aj hfn;rw[<-hfn]at hfm BA hfa ⊢;have Hn:=aj hn;have Qx:=aj (fun (w:World) (f:eH) (la:Option Addr) (ln lc:Nat)=>adx w nb n f la ln lc);clear hl jP hfn hn;go_enter Tryz.func48,Tryz.ntmps48;go_wp2_with fail;go_loopw [8] (fun i wr=>∃k:Nat,i=ah k/\k<=fn/\(l.take k).findIdx? (xu n)=none/\Below w w wr) (fun i _=>fn-(intOf i).toNat);exact⟨0,rfl,alg _,qZ _ _,PZ _ _⟩;obtain⟨k,rfl,hk,hf,hbel⟩:=hrel;have Hf:=aj hf;have di:=aj hbel;have JL:=hw.trans (hbel.mono hB);have AB:=hbel.size;clear hf hbel;by_cases hlt:k<fn
 ·obtain rfl:=hfa wP
  obtain⟨x,hx⟩:∃x,l[k]? =some x:=⟨_,gP (by rw[<-Dx.af];exact hlt)⟩;obtain⟨lv,hlv,hso,g0,g1,g2,g3,g4,g5,g6,g7,g8,g9⟩:=tq.af.xJ JL k x hx;obtain⟨la,lc,rfl⟩:=hlv.form;obtain ⟨ln,hln⟩:=aiG x.ar5.length;rw[<-hln]at g9;have Ij:=aj (Qx.af wr x la ln lc ((di.af.cell (p:=(ak nb 0)) hb).trans Hn.af) wP);have Hx:=aj hx;have hk2:(k:Int)<(fn:Int):=wP;clear hx hlv hso hln JL
  cases ht:xu n x with
  | true=>
   rw[ht]at Ij;have HH:=aj (vZ Hf.af Hx.af ht);clear ht;go_wp2_with fail;refine Ij.af.mono ?_;rintro e w5 ⟨rfl,hb5⟩;have mQ:=aj (di.af.trans (hb5.mono AB));clear hb5 Ij g0 g1 g2 g3 g4 g5 g6 g7 g8 g9;go_wp2;go_ret;exact⟨by rw[HH.af];rfl,mQ.af⟩
  | false=>
   rw[ht]at Ij;have HH:=aj (lM Hf.af Hx.af ht);clear ht;go_wp2_with fail;refine Ij.af.mono ?_;rintro e w5 ⟨rfl,hb5⟩;have mQ:=aj (di.af.trans (hb5.mono AB));clear hb5 Ij g0 g1 g2 g3 g4 g5 g6 g7 g8 g9;go_wp2;go_roundw;exact⟨k+1,arH,wP,HH.af,mQ.af⟩;simp[intOf];omega
 ·have HH:=aj (wh (by have h:=Hf.af;rwa [show k=l.length by have:=Dx.af;omega]at h))
  go_wp2;go_ret;exact⟨by rw[HH.af];rfl,di.af⟩
theorem ag9 {nv:Value} {ar2:List Int} {names:List (List UInt8)} (vl:Nat) (va:Option Addr) (vc:Nat) (y:uJ) (hvv:vv=.slice va vl vc)
  (hM:bB B pb w sv s own v p) (hS:gB (·<B) w sv s) (hB:B<=w) (hF:LB dJ (Kept pb v w) w fv ar2) (hlf:ar2.length=s.ar2.length) (hN:LB lG (·<B) w nv names) (hn:names.length<=2000):
  Calls asq 13 #[.agg (kS pb fv vv y).toArray,nv] w (X3 B pb sv s own v w (dL s ar2 names (p,[]))):=by
 rw[QK];have HM:=aj hM;have HS:=aj hS;obtain⟨fa,fc,lZ⟩:=hF.form;have HF:=aj hF;have TG:=aj hlf;subst hvv;obtain⟨na,nb,N7,FN,hnf,hnm,adz,Cw⟩:=hN.at;have hna:=Cw.addr;have Cx:=aj Cw;subst lZ hnf;obtain ⟨m,hm⟩:=aiG names.length;have Hm:=aj hm;rw[<-hm]at hnm adz hna hn ⊢;obtain ⟨ft,hft⟩:=aiG ar2.length;have BG:=aj hft;rw[<-hft]at HF ⊢;have hpl:=hM.lt;have c4:=hM.c4;obtain⟨QL,QM,mO⟩:=hS.ar2.form;rw[mO]at c4;have xk:=aj mO;have XH:=aj (fun (w':World) (hw:Below B w w') (hB:B<=w') (nb:Nat) (n:List UInt8) hn hb=>ady hS.ar2 w' hw hB nb n hn hb);rw[mO]at XH;unfold kS;clear hm hft hM hS hF hlf hN Cw mO;go_enter Tryz.func13,Tryz.ntmps13;go_wp2_with fail;have iU:=aj (HM.af.alloc (.cells (arR pb fa ft fc va vl vc y.aS y.got y.bW y.text y.data y.bf) 77));have kM:=aj (aU.alloc (pb:=pb) v w (.cells (arR pb fa ft fc va vl vc y.aS y.got y.bW y.text y.data y.bf) 77));have zm:=aj (HM.af.qM (.cells (arR pb fa ft fc va vl vc y.aS y.got y.bW y.text y.data y.bf) 77));have eT:=aj (ah2 w (.cells (arR pb fa ft fc va vl vc y.aS y.got y.bW y.text y.data y.bf) 77));have Ck:=aj ((HF.af.asa (fun b hb=>kM.af.block hb)).imp (fun b hb=>kM.af.kept hb));have hz1:w.heap.size<(w.alloc (.cells (arR pb fa ft fc va vl vc y.aS y.got y.bW y.text y.data y.bf) 77)):=arG;have qR:=aj (((PZ w.heap.size w).alloc (oD _) (.cells (arR pb fa ft fc va vl vc y.aS y.got y.bW y.text y.data y.bf) 77)).mono hB);clear c4;generalize hws:w.heap.size=bx at *;have Hws:=aj hws;clear hws;generalize w.alloc (.cells (arR pb fa ft fc va vl vc y.aS y.got y.bW y.text y.data y.bf) 77)=w1 at *;obtain⟨fa',fb,Cz,aqf,hfe,-,-,jP⟩:=Ck.af.at;have anq:=jP.addr;rw[<-BG.af]at hfe;have tq:=aj jP;have Hfe:=aj hfe;clear hfe jP;go_loopw [5,11] (fun ov i wr=>∃(k:Nat) (q:aA × List Int),i=ah k/\k<=m/\q=(names.take k).foldl (nU s ar2) (p,[])/\bB B pb wr sv s own v q.1/\aU pb v v w1 wr/\aX 3 dJ w1.heap.size (fun b=>b<w1) wr ov q.2) (fun _ i _=>m-(intOf i).toNat);exact⟨0,_,rfl,alg _,rfl,iU.af,aU.refl _ _ _,aX.nil _ _ _ _ _⟩;obtain⟨k,q,rfl,hk,hq,hM2,hs2,ho2⟩:=hrel;have jW:=aj hM2;have HS2:=aj hs2;have nV:=aj ho2;have hz2:=hs2.step.size;have HL2:=aj (qR.af.trans (hs2.low iU.af wP));have Hq:=aj hq;clear hM2 hs2 ho2 hq;by_cases hlt:k<m
 ·obtain rfl:=hna wP
  obtain⟨x,hx⟩:∃x,names[k]? =some x:=⟨_,gP (by rw[<-Hm.af];exact hlt)⟩;have g0:=((Cx.af.below HL2.af).I7 k x hx).1;have lm:=aj (jm (F:=nU s ar2) hx (p,[]));rw[<-Hq.af]at lm
  have xw:q.2.length<=k:=by
   have h1:=Ni s ar2 (names.take k) (p,[]);rw[<-Hq.af,og]at h1;have h2:min k names.length<=k:=iK _ _;simp at h1;omega
  have hk2:(k:Int)<(m:Int):=wP;have FW:=aj (jW.af.alloc (aB #[ax x] 9));have HSa:=aj (HS2.af.trans (aU.alloc v wr (aB #[ax x] 9)));have xW:=aj (nV.af.alloc (aB #[ax x] 9));have DF:=aj (ah2 wr (aB #[ax x] 9));have vH:=aj (HL2.af.trans ((PZ B wr).alloc wP (aB #[ax x] 9)));have hza:wr.heap.size<(wr.alloc (aB #[ax x] 9)):=arG;go_upto_region 5 with fail
  clear g0 hx;generalize wr.heap.size=nbk at *;generalize wr.alloc (aB #[ax x] 9)=wa at *;have BB:=aj (XH.af wa vH.af wP nbk x (aL DF.af rfl) hza);have hbx:wa.heap[bx]? =some (aB (arR pb fa ft fc va vl vc y.aS y.got y.bW y.text y.data y.bf) 77):=(HSa.af.block zm.af).trans eT.af;have k0:wa.cell? (ak bx 0)=some (aQ pb):=aL hbx rfl;have k4:wa.cell? (ak pb 4)=some (.slice QL s.ar2.length QM):=FW.af.c4.trans (by rw[xk.af]);clear hbx;go_wp2_with fail;refine BB.af.mono ?_;rintro e w5 ⟨rfl,hb5⟩;have qo:=aj (FW.af.below hb5);have uZ:=aj (HSa.af.trans (aU.below hb5));have sV:=aj (xW.af.below hb5);have uX:=uZ.af.step.size;clear hb5 k0 k4 BB;have hbx:w5.heap[bx]? =some (aB (arR pb fa ft fc va vl vc y.aS y.got y.bW y.text y.data y.bf) 77):=(uZ.af.block zm.af).trans eT.af;have k0:w5.cell? (ak bx 0)=some (aQ pb):=aL hbx rfl;have k1:w5.cell? (ak bx 1)=some (.slice fa ft fc):=aL hbx rfl;clear hbx
  cases ho:s.ar2.findIdx? (xu x)with
  | none=>
   have kE:Hid (nU s ar2 q x=(q.1.fail 103,q.2)):=aj (by unfold nU;rw[ho]);have hneg:xO (none:Option Nat)= -1:=rfl;rw[hneg];clear ho hneg;go_wp2_with fail;refine(Cv 103 qo.af).mono ?_;rintro e w6 ⟨rfl,yH,hs6⟩;have JO:=aj yH
   have zG:=aj (sV.af.dS dN (fun g hg=>by
    have h1:=(sV.af.lt g hg);have h2:=iU.af.lt;exact hs6.step.block g ⟨h1.2,wP,fun e=>by have:=(iU.af.qf e).2.1;omega⟩))
   have oK:=aj (uZ.af.trans hs6);clear yH hs6;go_wp2;go_roundw;exact⟨k+1,_,arH,wP,rfl,by rw[lm.af,kE.af];exact JO.af,oK.af,by rw[lm.af,kE.af];exact zG.af⟩;simp[intOf];omega
  | some i=>
   have hil:i<ft:=by
    obtain⟨h,_⟩:=Ig.1 ho;rw[BG.af,TG.af];exact h
   obtain⟨z,hz⟩:∃z,ar2[i]? =some z:=⟨_,gP (by rw[<-BG.af];exact hil)⟩;have kE:Hid (nU s ar2 q x=(q.1,q.2++[z])):=aj (by unfold nU;rw[ho];show(q.1,q.2++[ar2.getD i 0])=_;rw[tK,hz];rfl);have hpos:xO (some i)=(i:Int):=rfl;rw[hpos];have hae:=anq (by rw[<-BG.af];omega);have he:=Hfe.af;rw[hae]at he;simp only[Value.slice.injEq]at he;obtain⟨rfl,-,-⟩:=he;have hkb:Kept pb v w1 fb:=tq.af.mG (by rw[<-BG.af];omega);have gz:w5.cell? (ak fb (Cz+i))=some (ah z):=(World.cell?_of_block (a:=(ak fb (Cz+i))) (uZ.af.block hkb)).trans (tq.af.oC i z hz);have hi0:(0:Int)<=(i:Int):=Int.natCast_nonneg _;have hi2:(i:Int)<(ft:Int):=wP;clear ho hpos hz hae hkb;obtain⟨oa,oc,hof⟩:=sV.af.form;have Hof:=aj hof;obtain ⟨ol,hol⟩:=aiG q.2.length;have sj:=aj hol;rw[<-hol]at hof xw;clear hol;subst hof;have F9:=aj ((sV.af.fJ (E':=fun b=>b<w5+1/\¬(Value.slice oa ol oc).ownBlock=some b) dN (fun g hg h=>h.2 hg)).alloc (.cells #[ah z] 3));have lh:Hid ((w5.alloc (.cells #[ah z] 3)).heap.size=w5.heap.size+1):=aj arG;go_wp2_with (at_builtin;go_loud (refine fZ 41 (.int .i64 0) 8 Tryz.underlying41 qg rfl abD rfl (.tmp 28) (.tmp 34) rfl ol sj.af.symm rfl F9.af (fun b hb=>by have h1:=hb.1;have h2:=lh.af;omega) w5.heap.size z [.int .i64 z] rfl (aD (xs:=[.int .i64 z]) (ah2 w5 (.cells #[.int .i64 z] 3))) (by simp[Value.oneCell']) rfl (by rw[<-sj.af];omega) (by rw[<-sj.af];omega) (by have h2:=lh.af;omega) ?_));intro g c2 w7 om yI WG
   have di:Hid (Below w1 w5 w7):=aj (by
    have h2:=lh.af;refine((PZ w1.heap.size w5).alloc wP (.cells #[ah z] 3)).trans ((yI.imp (S':=(·<w1.heap.size)) (fun b hb=>⟨by have hb:b<w1:=hb;omega,fun e=>by have h3:=(sV.af.lt b e).1;have hb:b<w1:=hb;omega⟩)).below))
   have EG:=aj (iU.af.adv qo.af (oD _) (fun b hb=>di.af.block b hb));have zH:=aj (uZ.af.adv (oD _) di.af);have kT:=aj (om.fJ (E':=fun b=>b<w1) dN (fun g hg h=>by have:=(om.lt g hg).1;omega));clear om yI k0 k1 gz;go_wp2;go_roundw;exact⟨k+1,_,arH,wP,rfl,by rw[lm.af,kE.af];exact EG.af,zH.af,by rw[lm.af,kE.af];exact kT.af⟩;simp[intOf];omega
 ·have hall:names.take k=names:=dh (by have:=Hm.af;omega)
  have HQ:Hid (q=names.foldl (nU s ar2) (p,[])):=aj (by rw[Hq.af,hall]);have HE:Hid (bB B pb wr sv s own v q.1/\aU pb v v w wr/\aX 3 dJ bx (fun _=>False) wr u5 q.2):=aj ⟨jW.af,kM.af.trans HS2.af,(nV.af.mono wP).fJ dN (fun _ _ h=>h)⟩;rw[HQ.af]at HE;clear hall;go_wp2;go_ret;exact⟨_,rfl,HE.af.1,HE.af.2.1,by rw[Hws.af];exact HE.af.2.2⟩
def acF (B pb:Nat) (sv:bN) (s:aM) (own:Int) (v:bG) (w:World) (p:aA) (x:fu) (e:Ending) (w':World):Prop:=
 ∃v',e=.returned (.agg (arW x))/\bB B pb w' sv s own v' p/\aU pb v v' w w'
structure yJ (pb lb:Nat) (fv vv:Value) (y:uJ) (v:bG) (w:World):Prop where
 ex:w.heap[lb]? =some (.cells (kS pb fv vv y).toArray 77 (0,0))
 kept:Kept pb v w lb
theorem yJ.step {y:uJ} {v':bG} (h:yJ pb lb fv vv y v w) (hs:aU pb v v' w w'):yJ pb lb fv vv y v' w':=⟨(hs.block h.kept).trans h.ex,hs.kept h.kept⟩
theorem yJ.below {y:uJ} (h:yJ pb lb fv vv y v w) (hb:Below C w w') (hC:lb<C):yJ pb lb fv vv y v w':=⟨(hb.block lb hC).trans h.ex,h.kept.below hb⟩
theorem yJ.cell {y:uJ} (h:yJ pb lb fv vv y v w) (i:Nat) (u:Value) (hu:(kS pb fv vv y)[i]? =some u):w.cell? (ak lb i)=some u:=by
 rw[aV h.ex];simpa using hu
theorem Fb {y:uJ} (reg u x at_:Int) (k:Nat) (hM:bB B pb w sv s own v p) (hB:B<=w) (hL:yJ pb lb fv vv y v w) (hk:p.cells.findIdx? (fun y=>decide (y=(u,x)))=some k) (hsz:p.sz<=999990) (hy:0<=y.got/\y.got<=25000000) (ha:0<=at_/\at_<=1000000000):
  Calls asq 104 #[ah reg,ah u,ah x,ah at_,aQ lb] w (acF B pb sv s own v w p ⟨11,reg,0,0,y.got+8*k-at_-8⟩):=by
 have iU:=aj (hM.alloc (.cells #[ah 0,ah 0,ah 0,ah 0,ah 0] 58));have kM:=aj (aU.alloc (pb:=pb) v w (.cells #[ah 0,ah 0,ah 0,ah 0,ah 0] 58));have eT:=aj (ah2 w (.cells #[ah 0,ah 0,ah 0,ah 0,ah 0] 58));have zm:=aj (hM.qM (.cells #[ah 0,ah 0,ah 0,ah 0,ah 0] 58));have qR:=aj (hL.step (aU.alloc (pb:=pb) v w (.cells #[ah 0,ah 0,ah 0,ah 0,ah 0] 58)));have hz1:w.heap.size<(w.alloc (.cells #[ah 0,ah 0,ah 0,ah 0,ah 0] 58)):=arG;have HC:=aj (gQ hk)
 have hkl:k<=999990:=by
  obtain⟨h,_⟩:=Ig.1 hk;unfold aA.sz at hsz;omega
 have lX:=aj hsz;clear hM hL hk hsz;go_enter Tryz.func104,Tryz.ntmps104;go_upto_region 1 with fail
 generalize w.alloc (.cells #[ah 0,ah 0,ah 0,ah 0,ah 0] 58)=w1 at *;refine bA 14 TA TA ?_;simp only[ji];refine P8 (S:=fun w':World=>w'.cell? (ak lb 0)=some (aQ pb)/\w'.cell? (ak lb 4)=some (ah y.got)) _ _ _ _ ?_;have ay:(fun w':World=>w'.cell? (ak lb 0)=some (aQ pb)/\w'.cell? (ak lb 4)=some (ah y.got)) (World.drew w1):=⟨qR.af.cell 0 _ rfl,qR.af.cell 4 _ rfl⟩;refine asr ?_;have rG:=aj (iU.af.below (PZ _ w1).drew);have yF:=aj (kM.af.trans (aU.below (pb:=pb) (v:=v) (PZ _ w1).drew));have Nj:Hid ((World.drew w1).heap[w.heap.size]? =some (aB #[ah 0,ah 0,ah 0,ah 0,ah 0] 58)):=aj eT.af;have QN:=aj (zm.af.below (PZ w1.heap.size w1).drew);have AJ:=aj (qR.af.step (aU.below (pb:=pb) (v:=v) (PZ _ w1).drew));have hzd:w.heap.size<(World.drew w1):=hz1;generalize (World.drew w1)=wd at rG yF Nj QN AJ ay hzd ⊢;refine arO [0,1,2,3,4,5,6,10] ay ?_;simp only[ast]
 iterate 8 (refine arP ?_;try simp only[bP])
 refine cO 7 fun K hK=> ?_
 go_simp;refine(FM u x rG.af (by have:=lX.af;unfold aA.sz at this;omega) wP).mono ?_;rintro e w5 ⟨v5,rfl,rX,hs5⟩;rw[HC.af]at rX ⊢;have qo:=aj rX;have uZ:=aj (yF.af.trans hs5);have kF:=aj ((hs5.block QN.af).trans Nj.af);have HK5:=aj (hs5.kept QN.af);have vK:=aj (AJ.af.step hs5);refine hK.af _ _ ⟨vK.af.cell 0 _ rfl,vK.af.cell 4 _ rfl⟩ (fun ay=> ?_);clear hK K;try simp only[bV]
 clear rX hs5;have o1:IntKind.i64.wrap (8*(k:Int))=8*(k:Int):=iJ _ wP;have o2:IntKind.i64.wrap (y.got+8*(k:Int))=y.got+8*(k:Int):=iJ _ wP;have o3:IntKind.i64.wrap (y.got+8*(k:Int)-at_)=y.got+8*(k:Int)-at_:=iJ _ wP;have o4:IntKind.i64.wrap (y.got+8*(k:Int)-at_-8)=y.got+8*(k:Int)-at_-8:=iJ _ wP;refine arO [8,9,11,12,13] ay ?_;simp only[ast]
 iterate 5 (refine arP ?_;try simp only[bP])
 refine E5 TA ?_ _;simp only[dU];clear ay;clear o1 o2 o3 o4;go_wp2_with (refine Bv rfl 58 (.tmp 9) (.tmp 23) rfl w.heap.size (#[.int .i64 11,.int .i64 reg,.int .i64 0,.int .i64 0,.int .i64 (y.got+8*(k:Int)-at_-8)]) rfl rfl _ _ kF.af TA rfl (by simp[Value.oneCell']) ?_);go_wp2_with fail;have FR:=aj (setRow_heap _ w.heap.size _ (#[ah 11,ah reg,ah 0,ah 0,ah (y.got+8*(k:Int)-at_-8)]) _ _ kF.af);refine bodyPost_ret (tT rfl _ _ w.heap.size _ _ _ _ rfl FR.af Tryz.underlying58 rfl TA) rfl ?_;have hr:=qo.af.adw HK5.af #[ah 11,ah reg,ah 0,ah 0,ah (y.got+8*(k:Int)-at_-8)];exact⟨v5,rfl,hr,uZ.af.ag8 wP _⟩
end Go.Proofs.YtpjgjeadjjackaaGreat
