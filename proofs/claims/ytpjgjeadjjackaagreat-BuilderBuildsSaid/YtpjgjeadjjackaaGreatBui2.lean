/- Lemmas. -/
import Derived.Test.YtpjgjeadjjackaaGreatBui1
import Derived.Laws.IdiomStrings
import Derived.BigQuiet
set_option linter.unusedVariables false
set_option linter.unusedSimpArgs false
set_option maxHeartbeats 64000000
set_option maxRecDepth 100000
namespace Go.Proofs.YtpjgjeadjjackaaGreat
open Go.RowKit
open _root_.Nat renaming le_refl->oD,zero_le->alg
variable {s:bF}
theorem Js (p:List UInt8) (k:Nat) (h:k<p.length) (ha:(p.take k).all qA=true) (hc:qA p[k]=true):(p.take (k+1)).all qA=true:=by
 rw[List.take_succ_eq_append_getElem h,List.all_append,ha];simp[hc]
theorem Zi (p:List UInt8) (k:Nat) (h:k<p.length) (hc:qA p[k]=false):iN p=false:=by
 have:p.all qA=false:=by
  rw[List.all_eq_false];exact⟨p[k],List.getElem_mem h,by simp[hc]⟩
 simp[iN,this]
theorem GV (w:World) (p:List UInt8) (hp:p.length<=9223372036854775807):
  Calls Tryz.prog 112 #[ax p] w fun e w'=>e=.returned (.bool (iN p))/\Below w w w':=by
 have hsz:=size_mk p;have aj4:=run_bytes_of_string (P:=Tryz.prog) w 9 42 5 ⟨p.toArray⟩ Tryz.underlying9 Tryz.underlying42 Tryz.underlying5;rw[hsz]at aj4
 have alf:Hid (∀k (h:k<p.length),(w.drew.alloc (.cells (bytesRow ⟨p.toArray⟩ (grownCap w p.length 0 5)) 5 ((bytesRow ⟨p.toArray⟩ (grownCap w p.length 0 5)).size,(bytesRow ⟨p.toArray⟩ (grownCap w p.length 0 5)).size+1))).cell? (ak w k)=some (.int .u8 p[k].toNat)):=aj (by
  intro k h;have hh:(w.drew.alloc (.cells (bytesRow ⟨p.toArray⟩ (grownCap w p.length 0 5)) 5 ((bytesRow ⟨p.toArray⟩ (grownCap w p.length 0 5)).size,(bytesRow ⟨p.toArray⟩ (grownCap w p.length 0 5)).size+1))).heap[w.heap.size]? =_:=heap_alloc_new w.drew _;simp only[World.cell?,hh];exact bytesRow_at ⟨p.toArray⟩ _ k (by simpa using h))
 have di:Hid (Below w w (w.drew.alloc (.cells (bytesRow ⟨p.toArray⟩ (grownCap w p.length 0 5)) 5 ((bytesRow ⟨p.toArray⟩ (grownCap w p.length 0 5)).size,(bytesRow ⟨p.toArray⟩ (grownCap w p.length 0 5)).size+1)))):=aj (((Below.refl _ w).drew).alloc (oD _) _);generalize (w.drew.alloc (.cells (bytesRow ⟨p.toArray⟩ (grownCap w p.length 0 5)) 5 ((bytesRow ⟨p.toArray⟩ (grownCap w p.length 0 5)).size,(bytesRow ⟨p.toArray⟩ (grownCap w p.length 0 5)).size+1)))=w1 at *;generalize grownCap w p.length 0 5=gc at *;go_enter Tryz.func112,Tryz.ntmps112;go_wp2_with fail;go_loop [8] (fun i=>∃k:Nat,k<=p.length/\i=ah k/\(p.take k).all qA=true) (fun i=>p.length-(intOf i).toNat);exact⟨0,alg _,rfl,arG⟩;obtain⟨k,hk,rfl,hall⟩:=hrel;have iT:=aj hall;clear hall aj4;by_cases hlt:k<p.length
 ·have g:=alf.af k hlt
  obtain⟨c,hcx⟩:∃c,p[k]=c:=⟨_,rfl⟩;rw[hcx]at g;have sZ:Hid (qA c=true->(p.take (k+1)).all qA=true):=aj (fun h=>Js p k hlt iT.af (by rw[hcx];exact h));have Hno:Hid (qA c=false->iN p=false):=aj (fun h=>Zi p k hlt (by rw[hcx];exact h));have Zj:Hid (qA c=Kh c.toNat):=aj rfl;clear hcx;generalize (c.toNat:Int)=n at *;generalize qA c=bl at *
  cases bl with
  | true=>
   have Hy:=aj (sZ.af rfl);clear sZ Hno;go_wp2
   all_goals try(exfalso;have:=Zj.af;simp[Kh]at this;(try simp only[arM,bne_eq_false_iff_eq,bne_iff_ne,beq_iff_eq,ne_eq]at *);omega)
   all_goals go_round
   all_goals first | exact⟨k+1,wP,arH,Hy.af⟩ | (simp[intOf];done) | (simp[intOf];omega)
  | false=>
   have Hn:=aj (Hno.af rfl);clear sZ Hno;go_wp2
   all_goals try(exfalso;have:=Zj.af;simp[Kh]at this;(try simp only[arM,bne_eq_false_iff_eq,bne_iff_ne,beq_iff_eq,ne_eq]at *);omega)
   all_goals go_ret
   all_goals exact⟨by rw[Hn.af];rfl,di.af⟩
 ·have hall:p.all qA=true:=by have:=iT.af;rw[List.take_of_length_le wP]at this;exact this
  have hr:iN p=(decide (1<=p.length)&&decide (p.length<=64)):=by simp[iN,hall]
  have Hr:=aj hr;clear hr hall;by_cases h1:1<=p.length
  ·have hd1:decide (1<=(p.length:Int))=true:=by rw[arI];omega
   by_cases h2:p.length<=64
   ·have hd2:decide ((p.length:Int)<=64)=true:=by rw[arI];omega
    have zC:Hid (iN p=true):=aj (by rw[Hr.af];simp[h1,h2]);go_wp2;go_ret;exact⟨by rw[zC.af];rfl,di.af⟩
   ·have hd2:decide ((p.length:Int)<=64)=false:=by rw[arN];omega
    have zC:Hid (iN p=false):=aj (by rw[Hr.af];simp[h2]);go_wp2;go_ret;exact⟨by rw[zC.af];rfl,di.af⟩
  ·have hd1:decide (1<=(p.length:Int))=false:=by rw[arN];omega
   have zC:Hid (iN p=false):=aj (by rw[Hr.af];simp[h1]);go_wp2;go_ret;exact⟨by rw[zC.af];rfl,di.af⟩
theorem GX (w:World) (p:List UInt8) (hp:p.length<=9223372036854775807):
  Calls Tryz.prog 133 #[ax p] w fun e w'=>e=.returned (.bool (iN p))/\w'=w:=by
 have hsz:=size_mk p;by_cases h1:1<=p.length
 case neg=>
  have Hr:Hid (iN p=false):=aj (by simp[iN,h1]);go_enter Tryz.func133,Tryz.ntmps133;go_wp2;go_ret;exact⟨by rw[Hr.af];rfl,rfl⟩
 by_cases h2:p.length<=64
 case neg=>
  have Hr:Hid (iN p=false):=aj (by simp[iN,h2]);go_enter Tryz.func133,Tryz.ntmps133;go_wp2;go_ret;exact⟨by rw[Hr.af];rfl,rfl⟩
 have hg2:¬64<p.length:=wP;have hg1:¬p.length<1:=wP;go_enter Tryz.func133,Tryz.ntmps133;go_wp2;go_loop [3] (fun i=>∃k:Nat,k<=p.length/\i=ah k/\(p.take k).all qA=true) (fun i=>p.length-(intOf i).toNat);exact⟨0,alg _,rfl,arG⟩;obtain⟨k,hk,rfl,hall⟩:=hrel;have iT:=aj hall;clear hall;by_cases hlt:k<p.length
 ·obtain⟨c,hcx⟩:∃c,p[k]=c:=⟨_,rfl⟩
  have hx:(⟨p.toArray⟩:ByteArray)[k]'wP=c:=hcx;have sZ:Hid (qA c=true->(p.take (k+1)).all qA=true):=aj (fun h=>Js p k hlt iT.af (by rw[hcx];exact h));have Hno:Hid (qA c=false->iN p=false):=aj (fun h=>Zi p k hlt (by rw[hcx];exact h));have Zj:Hid (qA c=Kh c.toNat):=aj rfl;clear hcx;generalize qA c=bl at *
  cases bl with
  | true=>
   have Hy:=aj (sZ.af rfl);clear sZ Hno;go_wp2
   all_goals try(exfalso;have:=Zj.af;simp[Kh]at this;(try simp only[arM,bne_eq_false_iff_eq,bne_iff_ne,beq_iff_eq,ne_eq]at *);omega)
   all_goals go_round
   all_goals first | exact⟨k+1,wP,arH,Hy.af⟩ | (simp[intOf];done) | (simp[intOf];omega)
  | false=>
   have Hn:=aj (Hno.af rfl);clear sZ Hno;go_wp2
   all_goals try(exfalso;have:=Zj.af;simp[Kh]at this;(try simp only[arM,bne_eq_false_iff_eq,bne_iff_ne,beq_iff_eq,ne_eq]at *);omega)
   all_goals go_ret
   all_goals exact⟨by rw[Hn.af];rfl,rfl⟩
 ·have hall:p.all qA=true:=by have:=iT.af;rw[List.take_of_length_le wP]at this;exact this
  have Hr:Hid (iN p=true):=aj (by simp[iN,hall,h1,h2]);go_wp2;go_ret;exact⟨by rw[Hr.af];rfl,rfl⟩
theorem vE {a b:Bool} (h:a=b):Ending.returned (.bool a)=.returned (.bool b):=by rw[h]
theorem yg {k:IntKind} {a b:Int} (h:a=b):Ending.returned (.int k a)=.returned (.int k b):=by rw[h]
def vU (s:bF):Int:=if bC s=true then 0 else 70
theorem uU (h:bC s=false):vU s=70:=by rw[vU,h];rfl
theorem CS (h:bC s=true):vU s=0:=by rw[vU,h];rfl
theorem lK {x:World} {b:Nat} (h:x.heap[b]? =some (aB (arK s) 54)):
  x.cell? (ak b 0)=some (ax s.arT)/\x.cell? (ak b 1)=some (ax s.asc)/\x.cell? (ak b 2)=some (.bool s.old)/\x.cell? (ak b 3)=some (ah s.ar3)/\x.cell? (ak b 4)=some (.bool s.ar1)/\
  x.cell? (ak b 5)=some (ah s.bq)/\x.cell? (ak b 6)=some (.bool s.asg)/\x.cell? (ak b 7)=some (ah s.value)/\x.cell? (ak b 8)=some (ah s.size):=by
 refine⟨?_,?_,?_,?_,?_,?_,?_,?_,?_⟩<;>(rw[Lib.cell_of_heap h];rfl)
theorem Xu (w:World) (s:bF):
  Calls Tryz.prog 108 #[.agg (arK s)] w fun e w'=>e=.returned (.bool (ow s))/\Below w w w':=by
 obtain⟨arT,asc,old,ar3,ar1,bq,asg,value,size⟩:=s
 have Hr:Hid (ow ⟨arT,asc,old,ar3,ar1,bq,asg,value,size⟩=(asg&&(bq != 2))):=aj (by
  simp only[ow];by_cases h:bq=2<;>simp[h])
 cases asg
 all_goals
  go_enter Tryz.func108,Tryz.ntmps108;go_wp2
  all_goals go_ret
  all_goals exact⟨by rw[Hr.af];rfl,(Below.refl _ _).alloc (oD _) _⟩
theorem agA (w:World) (s:bF):
  Calls Tryz.prog 129 #[.agg (arK s)] w fun e w'=>e=.returned (.bool (ow s))/\Below w w w':=by
 obtain⟨arT,asc,old,ar3,ar1,bq,asg,value,size⟩:=s
 have Hr:Hid (ow ⟨arT,asc,old,ar3,ar1,bq,asg,value,size⟩=(asg&&(bq != 2))):=aj (by
  simp only[ow];by_cases h:bq=2<;>simp[h])
 cases asg
 all_goals
  go_enter Tryz.func129,Tryz.ntmps129;go_wp2
  all_goals go_ret
  all_goals exact⟨by rw[Hr.af];rfl,(Below.refl _ _).alloc (oD _) _⟩
theorem Sl (w:World) (s:List UInt8):
  Calls Tryz.prog 134 #[ax s] w fun e w'=>e=.returned (.bool (sizedB s))/\w'=w:=by
 have hsz:=size_mk s;by_cases h1:1<=s.length
 ·have hd1:decide (1<=(s.length:Int))=true:=by rw[arI];omega
  have Hr:Hid (sizedB s=decide ((s.length:Int)<=200)):=aj (by rw[sizedB,Bool.eq_iff_iff];simp;omega);go_enter Tryz.func134,Tryz.ntmps134;go_wp2;go_ret;exact⟨by rw[Hr.af];rfl,rfl⟩
 ·have hd1:decide (1<=(s.length:Int))=false:=by rw[arN];omega
  have Hr:Hid (sizedB s=false):=aj (by rw[sizedB];simp[h1]);go_enter Tryz.func134,Tryz.ntmps134;go_wp2;go_ret;exact⟨by rw[Hr.af];rfl,rfl⟩
theorem Kj (w:World) (s:bF) (hs:lJ s):
  Calls Tryz.prog 94 #[.agg (arK s)] w fun e w'=>e=.returned (ah (vU s))/\Below w w w':=by
 have hz1:=hs.arT;have hz2:=hs.asc;have hsz1:=size_mk s.arT;have hsz2:=size_mk s.asc;have F1:=aj (heap_alloc_new w (aB (arK s) 54));have B1:=aj ((Below.refl w.heap.size w).alloc (oD _) (aB (arK s) 54));go_enter Tryz.func94,Tryz.ntmps94;go_wp2_with fail;refine(GV _ s.arT hz1).mono ?_;rintro e w2 ⟨rfl,hb2⟩;have F2:=aj ((hb2.block w.heap.size arG).trans F1.af);have B2:=aj (B1.af.trans (hb2.mono arG));obtain⟨c0,c1,c2,c3,c4,c5,c6,c7,c8⟩:=lK F2.af;clear hb2
 cases hn:iN s.arT with
 | false=>
  have Hr:Hid (vU s=70):=aj (uU (by simp[bC,hn]))
  cases hd:s.asg
  all_goals
   rw[hd]at c6;go_wp2
   all_goals go_ret
   all_goals exact⟨by rw[Hr.af];rfl,B2.af⟩
 | true=>
  have Hb:Hid (bC s=false->vU s=70):=aj uU;have Ho:Hid (bC s=true->vU s=0):=aj CS
  cases hq:s.asc.isEmpty with
  | true=>
   have hv:s.asc=[]:=List.isEmpty_iff.1 hq;have Hv:=aj hv;have Hn:=aj hn;clear hv
   cases hd:s.asg
   all_goals
    have Hd:=aj hd;rw[hd]at c6
    cases ho:s.old
    all_goals
     have Dj:=aj ho;rw[ho]at c2;clear ho;go_wp2
     all_goals go_ret
     all_goals (try simp only[arM,bne_eq_false_iff_eq,bne_iff_ne,beq_iff_eq,ne_eq]at *)
     all_goals first
      | (refine ⟨yg (Ho.af ?_).symm,B2.af⟩;simp[bC,Hn.af,Hv.af,Hd.af,Dj.af];done)
      | (refine ⟨yg (Ho.af ?_).symm,B2.af⟩;simp[bC,Hn.af,Hv.af,Hd.af,Dj.af];omega)
      | (refine ⟨yg (Hb.af ?_).symm,B2.af⟩;simp[bC,Hn.af,Hv.af,Hd.af,Dj.af];done)
      | (refine ⟨yg (Hb.af ?_).symm,B2.af⟩;simp[bC,Hn.af,Hv.af,Hd.af,Dj.af];intros;omega)
  | false=>
   have Hv:Hid (decide (s.asc=[])=false):=aj (by rw[arN];intro e;rw[e]at hq;simp at hq);have Hn:=aj hn;go_wp2_with fail;refine(GV _ s.asc hz2).mono ?_;rintro e w3 ⟨rfl,hb3⟩;have F3:=aj ((hb3.block w.heap.size (by have:=B2.af.size;have:=World.block_lt_of_cell? _ _ c0;omega)).trans F2.af);have B3:=aj (B2.af.trans (hb3.mono B2.af.size));clear hb3 c0 c1 c2 c3 c4 c5 c6 c7 c8;obtain⟨c0,c1,c2,c3,c4,c5,c6,c7,c8⟩:=lK F3.af
   cases hv2:iN s.asc with
   | false=>
    have Hr:Hid (vU s=70):=aj (uU (by simp[bC,Hv.af,hv2]))
    cases hd:s.asg
    all_goals
     rw[hd]at c6;go_wp2
     all_goals go_ret
     all_goals exact⟨by rw[Hr.af];rfl,B3.af⟩
   | true=>
    have vF:=aj hv2
    cases hd:s.asg
    all_goals
     have Hd:=aj hd;rw[hd]at c6
     cases ho:s.old
     all_goals
      have Dj:=aj ho;rw[ho]at c2;clear ho;go_wp2
      all_goals go_ret
      all_goals (try simp only[arM,bne_eq_false_iff_eq,bne_iff_ne,beq_iff_eq,ne_eq]at *)
      all_goals first
       | (refine ⟨yg (Ho.af ?_).symm,B3.af⟩;simp[bC,Hn.af,Hv.af,vF.af,Hd.af,Dj.af];done)
       | (refine ⟨yg (Ho.af ?_).symm,B3.af⟩;simp[bC,Hn.af,Hv.af,vF.af,Hd.af,Dj.af];omega)
       | (refine ⟨yg (Hb.af ?_).symm,B3.af⟩;simp[bC,Hn.af,Hv.af,vF.af,Hd.af,Dj.af];done)
       | (refine ⟨yg (Hb.af ?_).symm,B3.af⟩;simp[bC,Hn.af,Hv.af,vF.af,Hd.af,Dj.af];intros;omega)
end Go.Proofs.YtpjgjeadjjackaaGreat
