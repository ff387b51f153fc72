/- Lemmas. -/
import Derived.Test.YtpjgjeadjjackaaGreatBui13
import Derived.Test.YtpjgjeadjjackaaGreatBui14
set_option linter.unusedVariables false
set_option linter.unusedSimpArgs false
set_option maxHeartbeats 64000000
set_option maxRecDepth 100000
namespace Go.Proofs.YtpjgjeadjjackaaGreat
open Go.ChangeShapes Go.WideShapes Go.ChangeAt Go.RowKit Go.Deep
open Go.Proofs.Tryz renaming prog->asq
open Go renaming heap_alloc_new->ah2,wp_region_held_drew->D6,heap_alloc_old->dX,wpAnyH_done->E5
open Go.Lib renaming cell_of_heap->aV
open Go.RowKit.Below renaming refl->PZ
open Go.World renaming block_lt_of_cell?->fD
open _root_.List renaming length_append->Kk,length_cons->oF,length_nil->aR,getElem?_eq_getElem->gP,take_of_length_le->dh,append_assoc->Sq,mem_of_getElem?->dH,take_succ_cons->DZ,map_cons->Sn,flatten_cons->O3,map_nil->aaT,flatten_nil->Ul,take_zero->JY,append_nil->Y8
open _root_.Nat renaming zero_le->alg,le_refl->oD
open _root_.Or renaming inr->aZ,inl->aH
variable {H:Type}{e t:TypeId}{k fuel B pb:Nat}{c:Value}{v:bG}{w:World}{sv:bN}{s:aM}{p:aA}{f:List UInt8}{S:Nat->Prop}
theorem z7E {w w2 BF:World} {wb:Nat} {v:jv} {im:bK} {L10:List UInt8} {a:Act} (hF:z7O 331 [(1,aQ w),(4,aQ wb)] a) (HI:Hid (∀ {wi:World},Step (·<wb) w2 wi->uK (·<w.heap.size) wi v im)) (HC:Hid (∀ {wi:World},Step (·<wb) w2 wi->∀k u,(aW v im)[k]? =some u->wi.cell? (ak w k)=some u)) (amd:Hid (Step (·<wb) w2 BF)) (aoM:Hid (WJ wb (·<wb) BF L10)) (B2:Hid (Below w w w2)) (iy:Hid (aj9 im)) (Cc:Hid (Few im)) (hz:w.heap.size<wb) (hL:L10.length<=29520578) (OD:Hid (([]:List UInt8)++jH [[99,108,101,118,105,115,49],im.arT]++numsL 1 [im.ar4,(im.aI.length:Int)]++(im.aI.map Ei).flatten++numsL 1 [(im.ar6.length:Int)]++(im.ar6.map zS).flatten++(numsL 1 [(im.aF.length:Int)]++jH im.aF)++numsL 2 [(im.av.length:Int)]++(im.av.map Ej).flatten=L10)):
  (bL Tryz.f8 10).wp asq (bodyPost asq Tryz.f8 fun e w'=>∃r,e=.returned (.tuple #[r,.bool true])/\Below w w w'/\aX 5 fq w.heap.size (fun _=>False) w' r (PY im)) a BF:=by
 have Hh:=HI.af amd.af;obtain⟨a6,c6,hv6⟩:=Hh.ar9.form;obtain⟨a7,c7,hv7⟩:=Hh.ar8.form;obtain⟨a9,c9,hv9⟩:=Hh.aO.form;obtain⟨zN,c10,al7⟩:=Hh.asf.form;obtain⟨J4,c11,al8⟩:=Hh.asb.form;obtain⟨a12,c12,al9⟩:=Hh.aP.form;obtain⟨a13,c13,ama⟩:=Hh.bf.form;clear Hh;obtain⟨eO,cK,bR,gF,bS,dK,d9,ek,fM,fO,iH⟩:=v;simp only at hv6 hv7 hv9 al7 al8 al9 ama;subst hv6 hv7 hv9 al7 al8 al9 ama;have hsub:∀x,x<w.heap.size->x<wb:=fun x hx=>wP
 rw[fV _ 10 TA,fV _ 11 TA,fV _ 12 TA,fV _ 13 TA,fV _ 14 TA,fV _ 15 TA,fV _ 16 TA,fV _ 17 TA,fV _ 18 TA,fV _ 19 TA,fV _ 20 TA,fV _ 21 TA,fV _ 22 TA];apply z7O.elim hF;clear hF
 iterate 1 (intro _)
 intro V1
 iterate 2 (intro _)
 intro V4
 iterate 326 (intro _)
 intro hF;obtain⟨-,-,e1,e2,-⟩:=hF;replace e1:V1=aQ w:=e1;subst e1;replace e2:V4=aQ wb:=e2;subst e2
 conv in cZ _ 10=>whnf
 conv in cZ _ 11=>whnf
 conv in cZ _ 12=>whnf
 conv in cZ _ 13=>whnf
 conv in cZ _ 14=>whnf
 conv in cZ _ 15=>whnf
 conv in cZ _ 16=>whnf
 conv in cZ _ 17=>whnf
 conv in cZ _ 18=>whnf
 conv in cZ _ 19=>whnf
 conv in cZ _ 20=>whnf
 conv in cZ _ 21=>whnf
 conv in cZ _ 22=>whnf
 conv in bL _ 23=>whnf
 have x6:BF.cell? (ak w 6)=some (.slice a6 im.ar9.length c6):=HC.af amd.af 6 _ rfl;have HN:=aj (jF wb (·<wb) BF L10 2 [(im.ar9.length:Int)] aoM.af abD (all1 (xH abD iy.af.ar9.1)) (by simp only[oF,aR];omega) arG);go_wp2_with fail;refine HN.af.mono ?_;rintro e xY ⟨rfl,hw,hs⟩;have GD:=aj (amd.af.trans hs);obtain⟨L11,aee⟩:∃L11,L10++numsL 2 [(im.ar9.length:Int)]=L11:=⟨_,rfl⟩;have aqZ:L11.length<=29520580:=by rw[<-aee];simp only[Kk,aR,eF,oF];omega
 rw[aee]at hw;have aoP:=aj aee;have aoQ:=aj hw;clear hw hs HN aee x6;obtain⟨la6,lb6,lo6,lc6,hlv,aq0,aq1,hlat⟩:=(HI.af GD.af).ar9.at
 cases hlv
 have aja:=aj hlat;clear hlat;have HF6:Hid (∀x∈im.ar9,(wV x).length<=131074):=aj (fun x hx=>adO (iy.af.ar9.2 x hx).1);have aqk:im.ar9.length<=512:=Cc.af.ar9;go_wp2_with fail;go_loopw [9] (fun i wr=>∃q:Nat,i=ah q/\q<=im.ar9.length/\WJ wb (·<wb) wr (L11++((im.ar9.take q).map wV).flatten)/\Step (·<wb) w2 wr) (fun i _=>im.ar9.length-(intOf i).toNat);exact⟨0,rfl,alg _,by have h:=aoQ.af;simpa using h,GD.af⟩;obtain⟨q,rfl,hq,hw,hst⟩:=hrel;have hfl:=qO wV 131074 512 im.ar9 q HF6.af wP;obtain⟨M,hM⟩:∃M,L11++((im.ar9.take q).map wV).flatten=M:=⟨_,rfl⟩;have Ur:M.length<=96630468:=by rw[<-hM,Kk];omega
 rw[hM]at hw;have j6:=aj hM;have HW:=aj hw;have HS:=aj hst;clear hw hst hM hfl;have x6:wr.cell? (ak w 6)=some (.slice a6 im.ar9.length c6):=HC.af HS.af 6 _ rfl;by_cases hlt:q<im.ar9.length
 ·obtain rfl:=aja.af.addr wP
  obtain⟨s,hx⟩:∃s,im.ar9[q]? =some s:=⟨_,gP hlt⟩;have hmem:=dH hx;have BG:=aj (yP wV im.ar9 q s hx);have hsl:=HF6.af s hmem;have Hx:=aj hx;have WX:(0:Int)<=q:=wP;have WY:(q:Int)<im.ar9.length:=wP;have kK:=iy.af.ar9.2 s hmem;have hov:s.length<65536:=kK.1;clear hx;have J5:=HW;have HT0:Hid (Step (·<wb) wr wr):=aj (Step.refl _ _);have hkk:Keeps (·<w.heap.size) xY wr:=fun b hb=>by have hb:b<w:=hb;rw[HS.af.block b (show b<wb by omega),GD.af.block b (show b<wb by omega)]
  obtain⟨ev,g0,hev⟩:=(aja.af.asa hkk).Si q s Hx.af;obtain⟨ea,ec,rfl⟩:=hev.form;have Pg:=aj hev;clear hev;have HN:=aj (jF wb (·<wb) wr M 2 [(s.length:Int)] J5.af abD (all1 (xH abD kK.1)) (by simp only[oF,aR,Kk,eF,dA];omega) arG);go_wp2_with fail;refine HN.af.mono ?_;rintro e v1 ⟨rfl,hw,hs⟩;have HT1:=aj (HT0.af.trans hs);obtain⟨M1,hM1⟩:∃M1,M++numsL 2 [(s.length:Int)]=M1:=⟨_,rfl⟩;rw[hM1]at hw;have GA:M1.length=M.length+(numsL 2 [(s.length:Int)]).length:=by rw[<-hM1,Kk]
  simp only[eF,oF,aR]at GA;have Ce:=aj hM1;have DX:=aj hw;clear hw hs HN hM1 x6 hkk g0;have x6:v1.cell? (ak w 6)=some (.slice (some ⟨lb6,lo6,none⟩) im.ar9.length c6):=HC.af (HS.af.trans HT1.af) 6 _ rfl;have hkk:Keeps (·<w.heap.size) xY v1:=fun b hb=>by have hb:b<w:=hb;rw[HT1.af.block b (hsub b hb),HS.af.block b (show b<wb by omega),GD.af.block b (show b<wb by omega)]
  obtain⟨ev,g0,hev⟩:=(aja.af.asa hkk).Si q s Hx.af;obtain⟨ea,ec,rfl⟩:=hev.form;have Pg:=aj hev;clear hev;have HN:=aj (RO wb (·<wb) v1 M1 2 s (.slice ea s.length ec) DX.af (Pg.af.imp (fun x hx=>hsub x hx)) abD (kK.2) (fun n hn=>WO abD (kK.2 n hn)) wP);go_wp2_with fail;refine HN.af.mono ?_;rintro e v2 ⟨rfl,hw,hs⟩;have HT2:=aj (HT1.af.trans hs);obtain⟨M2,hM2⟩:∃M2,M1++numsL 2 s=M2:=⟨_,rfl⟩;rw[hM2]at hw;have KZ:M2.length=M1.length+(numsL 2 s).length:=by rw[<-hM2,Kk]
  simp only[eF]at KZ;have HE2:=aj hM2;have QH:=aj hw;clear hw hs HN hM2 x6 hkk g0;have oO:Hid (L11++((im.ar9.take (q+1)).map wV).flatten=M2):=aj (by rw[BG.af,<-Sq,j6.af,<-HE2.af,<-Ce.af];unfold wV;simp only[numsL,Sn,aaT,O3,Ul,Y8,Sq]);go_wp2;go_roundw;exact⟨q+1,arH,wP,by rw[oO.af];exact QH.af.less (fun x hx=>hx),HS.af.trans (HT2.af.imp (fun x hx=>hx))⟩;simp[intOf];omega
 ·have hall:im.ar9.take q=im.ar9:=dh wP
  have hqe:decide ((q:Int)<(im.ar9.length:Int))=false:=by rw[arN];omega
  rw[hall]at j6;have aoR:Hid (L11++(im.ar9.map wV).flatten=M):=j6;have aoS:=HW;have aa8:=HS;clear j6 HW HS hall;obtain ⟨J6,aoT⟩:=aiG (wr:World);subst aoT;obtain ⟨L12,aoU⟩:=aiG (M:List UInt8);subst aoU;have x8:J6.cell? (ak w 8)=some (ah im.ase):=HC.af aa8.af 8 _ rfl;have x7:J6.cell? (ak w 7)=some (.slice a7 im.ar8.length c7):=HC.af aa8.af 7 _ rfl;have HN:=aj (jF wb (·<wb) J6 L12 1 [im.ase,(im.ar8.length:Int)] aoS.af abD (all2 iy.af.ase (xH abD iy.af.ar8.1)) (by simp only[oF,aR];omega) arG);go_wp2_with fail;refine HN.af.mono ?_;rintro e w13 ⟨rfl,hw,hs⟩;have aa9:=aj (aa8.af.trans hs);obtain⟨L13,aef⟩:∃L13,L12++numsL 1 [im.ase,(im.ar8.length:Int)]=L13:=⟨_,rfl⟩;have aq2:L13.length<=96630470:=by rw[<-aef];simp only[Kk,aR,eF,oF];omega
  rw[aef]at hw;have RS:=aj aef;have aoV:=aj hw;clear hw hs HN aef x8 x7;obtain⟨la7,lb7,lo7,lc7,hlv,aq3,aq4,hlat⟩:=(HI.af aa9.af).ar8.at
  cases hlv
  have ame:=aj hlat;clear hlat;have HF7:Hid (∀x∈im.ar8,((bD 8) x).length<=8):=aj (fun x _=>by rw[dA];decide);have aql:im.ar8.length<=64:=Cc.af.ar8;go_wp2_with fail;go_loopw [10] (fun i wr=>∃q:Nat,i=ah q/\q<=im.ar8.length/\WJ wb (·<wb) wr (L13++((im.ar8.take q).map (bD 8)).flatten)/\Step (·<wb) w2 wr) (fun i _=>im.ar8.length-(intOf i).toNat);exact⟨0,rfl,alg _,by have h:=aoV.af;simpa using h,aa9.af⟩;obtain⟨q,rfl,hq,hw,hst⟩:=hrel;have hfl:=qO (bD 8) 8 64 im.ar8 q HF7.af wP;obtain⟨M,hM⟩:∃M,L13++((im.ar8.take q).map (bD 8)).flatten=M:=⟨_,rfl⟩;have Ur:M.length<=96630982:=by rw[<-hM,Kk];omega
  rw[hM]at hw;have j6:=aj hM;have HW:=aj hw;have HS:=aj hst;clear hw hst hM hfl;have x7:wr.cell? (ak w 7)=some (.slice a7 im.ar8.length c7):=HC.af HS.af 7 _ rfl;by_cases hlt:q<im.ar8.length
  ·obtain rfl:=ame.af.addr wP
   obtain⟨s,hx⟩:∃s,im.ar8[q]? =some s:=⟨_,gP hlt⟩;have hmem:=dH hx;have BG:=aj (yP (bD 8) im.ar8 q s hx);have hsl:=HF7.af s hmem;have Hx:=aj hx;have WX:(0:Int)<=q:=wP;have WY:(q:Int)<im.ar8.length:=wP;have kK:=iy.af.ar8.2 s hmem;clear hx;have J5:=HW;have HT0:Hid (Step (·<wb) wr wr):=aj (Step.refl _ _);have hkk:Keeps (·<w.heap.size) w13 wr:=fun b hb=>by have hb:b<w:=hb;rw[HS.af.block b (show b<wb by omega),aa9.af.block b (show b<wb by omega)]
   have g0:=(ame.af.asa hkk).YY q s Hx.af;have HN:=aj (jF wb (·<wb) wr M 8 [wrap64 s] J5.af abD (all1 (aiL s)) (by simp only[oF,aR,Kk,eF,dA];omega) arG);go_wp2_with fail;refine HN.af.mono ?_;rintro e v1 ⟨rfl,hw,hs⟩;have HT1:=aj (HT0.af.trans hs);obtain⟨M1,hM1⟩:∃M1,M++numsL 8 [wrap64 s]=M1:=⟨_,rfl⟩;rw[hM1]at hw;have GA:M1.length=M.length+(numsL 8 [wrap64 s]).length:=by rw[<-hM1,Kk]
   simp only[eF,oF,aR]at GA;have Ce:=aj hM1;have DX:=aj hw;clear hw hs HN hM1 x7 hkk g0;have oO:Hid (L13++((im.ar8.take (q+1)).map (bD 8)).flatten=M1):=aj (by rw[BG.af,<-Sq,j6.af,<-Ce.af];simp only[numsL,Sn,aaT,O3,Ul,Y8,Sq,WQ]);go_wp2;go_roundw;exact⟨q+1,arH,wP,by rw[oO.af];exact DX.af.less (fun x hx=>hx),HS.af.trans (HT1.af.imp (fun x hx=>hx))⟩;simp[intOf];omega
  ·have hall:im.ar8.take q=im.ar8:=dh wP
   have hqe:decide ((q:Int)<(im.ar8.length:Int))=false:=by rw[arN];omega
   rw[hall]at j6;have aoW:Hid (L13++(im.ar8.map (bD 8)).flatten=M):=j6;have aoX:=HW;have aeg:=HS;clear j6 HW HS hall;obtain ⟨w14,aoY⟩:=aiG (wr:World);subst aoY;obtain ⟨L14,aoZ⟩:=aiG (M:List UInt8);subst aoZ;have x9:w14.cell? (ak w 9)=some (.slice a9 im.aO.length c9):=HC.af aeg.af 9 _ rfl;have HN:=aj (jF wb (·<wb) w14 L14 2 [(im.aO.length:Int)] aoX.af abD (all1 (xH abD iy.af.aO.1)) (by simp only[oF,aR];omega) arG);go_wp2_with fail;refine HN.af.mono ?_;rintro e nk ⟨rfl,hw,hs⟩;have aeh:=aj (aeg.af.trans hs);obtain⟨L15,aei⟩:∃L15,L14++numsL 2 [(im.aO.length:Int)]=L15:=⟨_,rfl⟩;have aq5:L15.length<=96630984:=by rw[<-aei];simp only[Kk,aR,eF,oF];omega
   rw[aei]at hw;have ao0:=aj aei;have ao1:=aj hw;clear hw hs HN aei x9;obtain⟨la9,IK,Yw,lc9,hlv,aq6,aq7,hlat⟩:=(HI.af aeh.af).aO.at
   cases hlv
   have WZ:=aj hlat;clear hlat;have HF9:Hid (∀x∈im.aO,(El x).length<=25):=aj (fun x _=>aiK x);have aqm:im.aO.length<=512:=Cc.af.aO;go_wp2_with fail;go_loopw [11] (fun i wr=>∃q:Nat,i=ah q/\q<=im.aO.length/\WJ wb (·<wb) wr (L15++((im.aO.take q).map El).flatten)/\Step (·<wb) w2 wr) (fun i _=>im.aO.length-(intOf i).toNat);exact⟨0,rfl,alg _,by have h:=ao1.af;simpa using h,aeh.af⟩;obtain⟨q,rfl,hq,hw,hst⟩:=hrel;have hfl:=qO El 25 512 im.aO q HF9.af wP;obtain⟨M,hM⟩:∃M,L15++((im.aO.take q).map El).flatten=M:=⟨_,rfl⟩;have Ur:M.length<=96643784:=by rw[<-hM,Kk];omega
   rw[hM]at hw;have j6:=aj hM;have HW:=aj hw;have HS:=aj hst;clear hw hst hM hfl;have x9:wr.cell? (ak w 9)=some (.slice a9 im.aO.length c9):=HC.af HS.af 9 _ rfl;by_cases hlt:q<im.aO.length
   ·obtain rfl:=WZ.af.addr wP
    obtain⟨s,hx⟩:∃s,im.aO[q]? =some s:=⟨_,gP hlt⟩;have hmem:=dH hx;have BG:=aj (yP El im.aO q s hx);have hsl:=HF9.af s hmem;have Hx:=aj hx;have WX:(0:Int)<=q:=wP;have WY:(q:Int)<im.aO.length:=wP;have kK:=iy.af.aO.2 s hmem;clear hx;have J5:=HW;have HT0:Hid (Step (·<wb) wr wr):=aj (Step.refl _ _);have hkk:Keeps (·<w.heap.size) nk wr:=fun b hb=>by have hb:b<w:=hb;rw[HS.af.block b (show b<wb by omega),aeh.af.block b (show b<wb by omega)]
    obtain⟨g0,g1,g2,g3⟩:=(WZ.af.asa hkk).NH q s Hx.af;clear g0 g2 g3;have HN:=aj (jF wb (·<wb) wr M 1 [s.ar3] J5.af abD (all1 kK.1) (by simp only[oF,aR,Kk,eF,dA];omega) arG);go_wp2_with fail;refine HN.af.mono ?_;rintro e v1 ⟨rfl,hw,hs⟩;have HT1:=aj (HT0.af.trans hs);obtain⟨M1,hM1⟩:∃M1,M++numsL 1 [s.ar3]=M1:=⟨_,rfl⟩;rw[hM1]at hw;have GA:M1.length=M.length+(numsL 1 [s.ar3]).length:=by rw[<-hM1,Kk]
    simp only[eF,oF,aR]at GA;have Ce:=aj hM1;have DX:=aj hw;clear hw hs HN hM1 x9 hkk g1;have x9:v1.cell? (ak w 9)=some (.slice (some ⟨IK,Yw,none⟩) im.aO.length c9):=HC.af (HS.af.trans HT1.af) 9 _ rfl;have hkk:Keeps (·<w.heap.size) nk v1:=fun b hb=>by have hb:b<w:=hb;rw[HT1.af.block b (hsub b hb),HS.af.block b (show b<wb by omega),aeh.af.block b (show b<wb by omega)]
    obtain⟨g0,g1,g2,g3⟩:=(WZ.af.asa hkk).NH q s Hx.af;clear g1;have HN:=aj (fun vd (hd:Below v1 v1 vd)=>jF wb (·<wb) vd M1 8 [s.at_,s.sym,s.add] (DX.af.below hd) abD (aiH kK.2.1 kK.2.2.1 kK.2.2.2) (by simp only[oF,aR,Kk,eF,dA];omega) arG);go_wp2_with fail;refine D6 (S:=fun w'=>w'.cell? (ak w 9)=some (.slice (some ⟨IK,Yw,none⟩) im.aO.length c9)/\w'.cell? (ak IK (Yw+q*4))=some (ah s.at_)/\w'.cell? (ak IK (Yw+q*4+2))=some (ah s.sym)/\w'.cell? (ak IK (Yw+q*4+3))=some (ah s.add)) TA ⟨x9,g0,g2,g3⟩ (fun ay=> ?_);have vG:=aj (HN.af v1.drew ((PZ _ _).drew));have IJ:=aj (HT1.af.drew);generalize v1.drew=vd at *;refine arO [0,1,2,3,4,5,6,7,8,9,10,11,12,13,14,15,16,17,18] ay ?_;simp only[Takes,List.toList_toArray,bI,bJ]
    iterate 19 (refine arP ?_;try simp only[bP])
    refine cO 19 fun K hK=> ?_
    go_simp;refine hK.af _ _ (by obtain⟨h0,h1,h2,h3⟩:=ay;exact⟨dB h0,dB h1,dB h2,dB h3⟩) (fun _=> ?_);clear hK K;try simp only[bP]
    refine cO 20 fun K hK=> ?_
    go_simp;refine vG.af.mono ?_;rintro e v2 ⟨rfl,hw,hs⟩;have HT2:=aj (IJ.af.trans hs);refine hK.af _ _ (by obtain⟨h0,h1,h2,h3⟩:=ay;exact⟨(hs.cell (p:=(ak w 9)) (by show w.heap.size<wb;omega)).trans h0,(hs.cell (p:=(ak IK (Yw+q*4))) (by have:=WZ.af.mG wP;have h:IK<w:=this;show IK<wb;omega)).trans h1,(hs.cell (p:=(ak IK (Yw+q*4+2))) (by have:=WZ.af.mG wP;have h:IK<w:=this;show IK<wb;omega)).trans h2,(hs.cell (p:=(ak IK (Yw+q*4+3))) (by have:=WZ.af.mG wP;have h:IK<w:=this;show IK<wb;omega)).trans h3⟩) (fun _=> ?_);clear hK K;try simp only[bP]
    refine E5 TA ?_ _;clear ay vG IJ hs;obtain⟨M2,hM2⟩:∃M2,M1++numsL 8 [s.at_,s.sym,s.add]=M2:=⟨_,rfl⟩;rw[hM2]at hw;have KZ:M2.length=M1.length+(numsL 8 [s.at_,s.sym,s.add]).length:=by rw[<-hM2,Kk]
    simp only[eF,oF,aR]at KZ;have HE2:=aj hM2;have QH:=aj hw;clear hw HN hM2 x9 hkk g0 g2 g3;have oO:Hid (L15++((im.aO.take (q+1)).map El).flatten=M2):=aj (by rw[BG.af,<-Sq,j6.af,<-HE2.af,<-Ce.af];unfold El;simp only[numsL,Sn,aaT,O3,Ul,Y8,Sq]);go_wp2;go_roundw;exact⟨q+1,arH,wP,by rw[oO.af];exact QH.af.less (fun x hx=>hx),HS.af.trans (HT2.af.imp (fun x hx=>hx))⟩;simp[intOf];omega
   ·have hall:im.aO.take q=im.aO:=dh wP
    have hqe:decide ((q:Int)<(im.aO.length:Int))=false:=by rw[arN];omega
    rw[hall]at j6;have ao2:Hid (L15++(im.aO.map El).flatten=M):=j6;have ao3:=HW;have abb:=HS;clear j6 HW HS hall;obtain ⟨w16,hw16⟩:=aiG (wr:World);subst hw16;obtain ⟨L16,ao4⟩:=aiG (M:List UInt8);subst ao4;have x10:w16.cell? (ak w 10)=some (.slice zN im.asf.length c10):=HC.af abb.af 10 _ rfl;have HN:=aj (jF wb (·<wb) w16 L16 2 [(im.asf.length:Int)] ao3.af abD (all1 (xH abD iy.af.asf.1)) (by simp only[oF,aR];omega) arG);go_wp2_with fail;refine HN.af.mono ?_;rintro e Ed ⟨rfl,hw,hs⟩;have ajb:=aj (abb.af.trans hs);obtain⟨L17,aej⟩:∃L17,L16++numsL 2 [(im.asf.length:Int)]=L17:=⟨_,rfl⟩;have aq8:L17.length<=96643786:=by rw[<-aej];simp only[Kk,aR,eF,oF];omega
    rw[aej]at hw;have ao5:=aj aej;have ao6:=aj hw;clear hw hs HN aej x10;obtain⟨aq9,CL,RZ,ara,hlv,aqn,aqo,hlat⟩:=(HI.af ajb.af).asf.at
    cases hlv
    have Us:=aj hlat;clear hlat;have amf:Hid (∀x∈im.asf,(zT x).length<=12):=aj (fun x _=>ahf x);have aqb:im.asf.length<=128:=Cc.af.asf;go_wp2_with fail;go_loopw [12] (fun i wr=>∃q:Nat,i=ah q/\q<=im.asf.length/\WJ wb (·<wb) wr (L17++((im.asf.take q).map zT).flatten)/\Step (·<wb) w2 wr) (fun i _=>im.asf.length-(intOf i).toNat);exact⟨0,rfl,alg _,by have h:=ao6.af;simpa using h,ajb.af⟩;obtain⟨q,rfl,hq,hw,hst⟩:=hrel;have hfl:=qO zT 12 128 im.asf q amf.af wP;obtain⟨M,hM⟩:∃M,L17++((im.asf.take q).map zT).flatten=M:=⟨_,rfl⟩;have Ur:M.length<=96645322:=by rw[<-hM,Kk];omega
    rw[hM]at hw;have j6:=aj hM;have HW:=aj hw;have HS:=aj hst;clear hw hst hM hfl;have x10:wr.cell? (ak w 10)=some (.slice zN im.asf.length c10):=HC.af HS.af 10 _ rfl;by_cases hlt:q<im.asf.length
    ·obtain rfl:=Us.af.addr wP
     obtain⟨s,hx⟩:∃s,im.asf[q]? =some s:=⟨_,gP hlt⟩;have hmem:=dH hx;have BG:=aj (yP zT im.asf q s hx);have hsl:=amf.af s hmem;have Hx:=aj hx;have WX:(0:Int)<=q:=wP;have WY:(q:Int)<im.asf.length:=wP;have kK:=iy.af.asf.2 s hmem;clear hx;have J5:=HW;have HT0:Hid (Step (·<wb) wr wr):=aj (Step.refl _ _);have hkk:Keeps (·<w.heap.size) Ed wr:=fun b hb=>by have hb:b<w:=hb;rw[HS.af.block b (show b<wb by omega),ajb.af.block b (show b<wb by omega)]
     obtain⟨g0,g1,g2⟩:=(Us.af.asa hkk).Sk q s Hx.af;have HN:=aj (fun vd (hd:Below wr wr vd)=>jF wb (·<wb) vd M 4 [s.at_,s.sym,s.stub] (J5.af.below hd) abD (aiH kK.1 kK.2.1 kK.2.2) (by simp only[oF,aR,Kk,eF,dA];omega) arG);go_wp2_with fail;refine D6 (S:=fun w'=>w'.cell? (ak w 10)=some (.slice (some ⟨CL,RZ,none⟩) im.asf.length c10)/\w'.cell? (ak CL (RZ+q*3))=some (ah s.at_)/\w'.cell? (ak CL (RZ+q*3+1))=some (ah s.sym)/\w'.cell? (ak CL (RZ+q*3+2))=some (ah s.stub)) TA ⟨x10,g0,g1,g2⟩ (fun ay=> ?_);have vG:=aj (HN.af wr.drew ((PZ _ _).drew));have IJ:=aj (HT0.af.drew);generalize wr.drew=vd at *;refine arO [0,1,2,3,4,5,6,7,8,9,10,11,12,13,14,15,16,17,18] ay ?_;simp only[Takes,List.toList_toArray,bI,bJ]
     iterate 19 (refine arP ?_;try simp only[bP])
     refine cO 19 fun K hK=> ?_
     go_simp;refine hK.af _ _ (by obtain⟨h0,h1,h2,h3⟩:=ay;exact⟨dB h0,dB h1,dB h2,dB h3⟩) (fun _=> ?_);clear hK K;try simp only[bP]
     refine cO 20 fun K hK=> ?_
     go_simp;refine vG.af.mono ?_;rintro e v1 ⟨rfl,hw,hs⟩;have HT1:=aj (IJ.af.trans hs);refine hK.af _ _ (by obtain⟨h0,h1,h2,h3⟩:=ay;exact⟨(hs.cell (p:=(ak w 10)) (by show w.heap.size<wb;omega)).trans h0,(hs.cell (p:=(ak CL (RZ+q*3))) (by have:=Us.af.mG wP;have h:CL<w:=this;show CL<wb;omega)).trans h1,(hs.cell (p:=(ak CL (RZ+q*3+1))) (by have:=Us.af.mG wP;have h:CL<w:=this;show CL<wb;omega)).trans h2,(hs.cell (p:=(ak CL (RZ+q*3+2))) (by have:=Us.af.mG wP;have h:CL<w:=this;show CL<wb;omega)).trans h3⟩) (fun _=> ?_);clear hK K;try simp only[bP]
     refine E5 TA ?_ _;clear ay vG IJ hs;obtain⟨M1,hM1⟩:∃M1,M++numsL 4 [s.at_,s.sym,s.stub]=M1:=⟨_,rfl⟩;rw[hM1]at hw;have GA:M1.length=M.length+(numsL 4 [s.at_,s.sym,s.stub]).length:=by rw[<-hM1,Kk]
     simp only[eF,oF,aR]at GA;have Ce:=aj hM1;have DX:=aj hw;clear hw HN hM1 x10 hkk g0 g1 g2;have oO:Hid (L17++((im.asf.take (q+1)).map zT).flatten=M1):=aj (by rw[BG.af,<-Sq,j6.af,<-Ce.af];unfold zT;simp only[numsL,Sn,aaT,O3,Ul,Y8,Sq]);go_wp2;go_roundw;exact⟨q+1,arH,wP,by rw[oO.af];exact DX.af.less (fun x hx=>hx),HS.af.trans (HT1.af.imp (fun x hx=>hx))⟩;simp[intOf];omega
    ·have hall:im.asf.take q=im.asf:=dh wP
     have hqe:decide ((q:Int)<(im.asf.length:Int))=false:=by rw[arN];omega
     rw[hall]at j6;have aek:Hid (L17++(im.asf.map zT).flatten=M):=j6;have amg:=HW;have ajc:=HS;clear j6 HW HS hall;obtain ⟨xE,ao7⟩:=aiG (wr:World);subst ao7;obtain ⟨L18,ao8⟩:=aiG (M:List UInt8);subst ao8;have Ut:xE.cell? (ak w 11)=some (.slice J4 im.asb.length c11):=HC.af ajc.af 11 _ rfl;have Uu:xE.cell? (ak w 12)=some (.slice a12 im.aP.length c12):=HC.af ajc.af 12 _ rfl;have yC:=aj (amg.af.alloc (aB #[.slice J4 im.asb.length c11,.slice a12 im.aP.length c12] 41));have BD:=aj (ah2 xE (aB #[.slice J4 im.asb.length c11,.slice a12 im.aP.length c12] 41));have Gr:=aj (ajc.af.trans (Step.later ((PZ _ xE).alloc (oD _) (aB #[.slice J4 im.asb.length c11,.slice a12 im.aP.length c12] 41)) (fun x hx=>amg.af.mG hx)));have AB:xE.heap.size<(xE.alloc (aB #[.slice J4 im.asb.length c11,.slice a12 im.aP.length c12] 41)):=arG;go_upto_region 48 with fail
     generalize xE.alloc (aB #[.slice J4 im.asb.length c11,.slice a12 im.aP.length c12] 41)=wa at *;generalize xE.heap.size=zr at *;clear Ut Uu;go_wp2_with fail;go_loopw [14,301] (fun _ i wr=>∃q:Nat,i=ah q/\q<=2/\WJ wb (fun x=>x<wb∨x=zr) wr (L18++zb im q)/\Step (fun x=>x<wb∨x=zr) wa wr) (fun _ i _=>2-(intOf i).toNat);exact⟨0,rfl,abD,by have h:=yC.af;simpa [zb] using h,Step.refl _ _⟩;obtain⟨q,rfl,hq,hw,hst⟩:=hrel;have hrl:=ahg im q iy.af;obtain⟨M,hM⟩:∃M,L18++zb im q=M:=⟨_,rfl⟩;have Ur:M.length<=96647372:=by rw[<-hM,Kk];omega
     rw[hM]at hw;have j6:=aj hM;have HW:=aj hw;have HS:=aj hst;have hzx:=(hst.block zr (aZ rfl)).trans BD.af;have HIr:=aj (HI.af (Gr.af.trans (hst.imp (fun x hx=>aH hx))));clear hw hst hM hrl;by_cases hlt:q<2
     ·obtain⟨s,ea,ec,hcell,hev,hl1,kK,hrf⟩:∃(s:List Int) (ea:Option Addr) (ec:Nat),wr.cell? (ak zr q)=some (.slice ea s.length ec)/\LB dJ (·<w.heap.size) wr (.slice ea s.length ec) s/\mJ 1 s.length/\(∀x∈s,nS 4 x)/\zb im (q+1)=zb im q++(bD 1 s.length++numsL 4 s):=by
       have hq2:q=0∨q=1:=wP;rcases hq2 with rfl | rfl
       ·exact⟨im.asb,_,_,(aL hzx rfl),HIr.af.asb,iy.af.asb.1,iy.af.asb.2,by simp[zb]⟩
       ·exact⟨im.aP,_,_,(aL hzx rfl),HIr.af.aP,iy.af.aP.1,iy.af.aP.2,by simp[zb]⟩
      have Pg:=aj hev;have ZX:=aj hrf;have hl2:s.length<256:=hl1;have HN:=aj (jF wb (fun x=>x<wb∨x=zr) wr M 1 [(s.length:Int)] HW.af abD (all1 (xH abD hl1)) (by simp only[oF,aR];omega) arG);clear hev hrf hzx HIr;go_wp2_with fail;refine HN.af.mono ?_;rintro e v1 ⟨rfl,hw,hs⟩;have HT1:=aj hs;have DX:=aj hw;have hl4:=eF 1 [(s.length:Int)];simp only[oF,aR]at hl4;have vG:=aj (RO wb (fun x=>x<wb∨x=zr) v1 _ 4 s (.slice ea s.length ec) DX.af ((Pg.af.asa (fun b hb=>by have hb:b<w:=hb;rw[HT1.af.block b (aH (hsub b hb))])).imp (fun x hx=>aH (hsub x hx))) abD kK (fun n hn=>WO abD (kK n hn)) (by rw[Kk];omega));clear hw hs HN hcell;go_wp2_with fail;refine vG.af.mono ?_;rintro e v2 ⟨rfl,hw,hs⟩;have HT2:=aj (HT1.af.trans hs)
      have oO:Hid (WJ wb (fun x=>x<wb∨x=zr) v2 (L18++zb im (q+1))):=aj (by
       rw[ZX.af,<-Sq,j6.af,<-Sq,<-ahd];exact hw)
      clear hw hs vG;go_wp2;go_roundw;exact⟨q+1,arH,wP,oO.af,HS.af.trans HT2.af⟩;simp[intOf];omega
     ·have hq2:q=2:=wP
      rw[hq2]at j6;have ao9:=j6;have apa:=aj (HW.af.less (S':=(·<wb)) (fun x hx=>aH hx));have amh:=aj (Gr.af.trans (HS.af.imp (S':=(·<wb)) (fun x hx=>aH hx)));clear j6 HW HS hzx HIr;obtain ⟨w19,apb⟩:=aiG (wr:World);subst apb;obtain ⟨L19,apc⟩:=aiG (M:List UInt8);subst apc;have Uv:w19.cell? (ak w 14)=some (ah im.aJ):=HC.af amh.af 14 _ rfl;have HN:=aj (jF wb (·<wb) w19 L19 2 [im.aJ] apa.af abD (all1 iy.af.aJ) (by simp only[oF,aR];omega) arG);go_wp2_with fail;refine HN.af.mono ?_;rintro e w20 ⟨rfl,hw,hs⟩;have ajd:=aj (amh.af.trans hs);obtain⟨L20,ael⟩:∃L20,L19++numsL 2 [im.aJ]=L20:=⟨_,rfl⟩;have arb:L20.length<=96647374:=by rw[<-ael];simp only[Kk,aR,eF,oF];omega
      rw[ael]at hw;have aem:=aj ael;have apd:=aj hw;clear hw hs HN ael Uv;have Uw:w20.cell? (ak w 13)=some (.slice a13 im.bf.length c13):=HC.af ajd.af 13 _ rfl;have htl:im.bf.length<=1048576:=iy.af.bf;have hpl:(wU im.bf).length=4+im.bf.length:=by unfold wU;rw[Kk,dA]
      have HN:=aj (TS wb (·<wb) w20 L20 im.bf _ apd.af ((HI.af ajd.af).bf.imp (fun x hx=>hsub x hx)) htl wP);go_wp2_with fail;refine HN.af.mono ?_;rintro e w21 ⟨rfl,hw,hs⟩;have ape:=aj (ajd.af.trans hs);obtain⟨L21,aen⟩:∃L21,L20++wU im.bf=L21:=⟨_,rfl⟩;have ard:L21.length<=97695954:=by rw[<-aen];simp only[Kk,aR,eF,oF];omega
      rw[aen]at hw;have apf:=aj aen;have apg:=aj hw;clear hw hs HN aen Uw
      have oO:Hid (L21=PY im):=aj (by
       rw[<-apf.af,<-aem.af,<-ao9.af,<-aek.af,<-ao5.af,<-ao2.af,<-ao0.af,<-aoW.af,<-RS.af,<-aoR.af,<-aoP.af,<-OD.af];rw[<-aie];unfold ac2 zb Zh;simp only[numsL,jH,pF,Sn,aaT,O3,Ul,Y8,List.nil_append,Sq,DZ,JY,List.take_nil,oF,aR])
      have HN:=aj (adQ wb (·<wb) w21 L21 apg.af);go_wp2_with fail;refine HN.af.mono ?_;rintro e wz ⟨r,rfl,hown,hbz⟩;subst hbz;have iZ:Hid (aX 5 fq w.heap.size (fun _=>False) wz r (PY im)):=aj (by rw[<-oO.af];exact(hown.mono wP).less (fun _ h=>h.elim));have Hbz:Hid (Below w w wz):=aj (B2.af.trans (ape.af.imp (fun x hx=>hsub x hx)).below);clear hown HN;go_wp2;go_ret2;exact⟨r,rfl,Hbz.af,iZ.af⟩
end Go.Proofs.YtpjgjeadjjackaaGreat
