/- Lemmas. -/
import Derived.Test.YtfchpchabdhcgaaGreatDec30
import Derived.Test.YtfchpchabdhcgaaGreatDec11
import Derived.Test.YtfchpchabdhcgaaGreatDec29
import Derived.Test.YtfchpchabdhcgaaGreatDec10
import Derived.Deep.DeepCutAuto
import Derived.Laws.Tables
import Derived.Laws.ResultCell
set_option linter.unusedVariables false
set_option linter.unusedSimpArgs false
set_option maxHeartbeats 64000000
set_option maxRecDepth 100000
namespace Go.Proofs.YtfchpchabdhcgaaGreat
theorem many_none {α:Type} {p:List UInt8→Option (α × List UInt8)} {k:Nat} {l:List UInt8} (h:manyP p k l=none):∀ d,manyP p (k+d) l=none
 | 0=>h
 | d+1=>by
  have ih:=many_none h d
  rw [← Nat.add_assoc,many_snoc]
  unfold bindP
  rw [ih]
theorem Got.stop {α:Type} {p:List UInt8→Option (α × List UInt8)} {st:Option (List UInt8)} {k n:Nat} {xs:List α} (h:Got (manyP p k) st xs none) (hk:k≤n) (ys:List α):Got (manyP p n) st ys none:=
 ⟨fun _=>rfl,fun l e=>⟨fun _=>rfl,fun y t hy=>by
  obtain⟨h1,h2⟩:=h.2 l e
  cases hp:manyP p k l with
  | none=>rw [show n=k+(n-k) by omega,many_none hp]at hy;cases hy
  | some r=>
   obtain⟨u,t'⟩:=r
   exact absurd (h2 u t' hp).2 (by simp)⟩⟩
def estS (ok:Bool) (st:Option (List UInt8)):Option (List UInt8):=if ok then st else none
theorem Got.eff {α:Type} {p:List UInt8→Option (α × List UInt8)} {st st':Option (List UInt8)} {x:α} (h:Got p st x st') (ok:Bool):Got p (estS ok st) x (estS ok st'):=by
 cases ok with
 | false=>exact⟨fun _=>rfl,fun l e=>by cases e⟩
 | true=>exact h
theorem estS_none (ok:Bool):estS ok none=none:=by cases ok<;>rfl
end Go.Proofs.YtfchpchabdhcgaaGreat
namespace Go.Proofs.YtfchpchabdhcgaaGreat
open Go.RowKit
structure RX (b gb:Nat) (w:World) (st:Option (List UInt8)):Prop where
 ex:∃ f v r,w.heap[b]? =some (.cells #[v,.int .i64 f] 102 (0,0))∧LB kByte (fun x=>x=gb) w v r∧gb≠b∧gb<w.heap.size∧(match st with | some l=>f=0∧r=l | none=>f≠0)
section
variable {b gb : Nat} {w w' : World} {st : Option (List UInt8)}
theorem RX.lt (h:RX b gb w st):b<w.heap.size:=by
 obtain⟨f,v,r,h1,_⟩:=h.ex
 rcases Nat.lt_or_ge b w.heap.size with h' | h'
 ·exact h'
 ·rw [Array.getElem?_eq_none h']at h1;cases h1
theorem RX.gblt (h:RX b gb w st):gb<w.heap.size:=by
 obtain⟨_,_,_,_,_,_,h4,_⟩:=h.ex
 exact h4
theorem RX.step {S:Nat→Prop} (h:RX b gb w st) (hs:Step S w w') (hb:S b) (hg:S gb):RX b gb w' st:=by
 obtain⟨f,v,r,h1,h2,h3,h4,h5⟩:=h.ex
 exact⟨f,v,r,(hs.block b hb).trans h1,h2.keeps (fun x hx=>by have hx:x=gb:=hx;subst hx;exact hs.block _ hg),h3,Nat.lt_of_lt_of_le h4 hs.size,h5⟩
theorem RX.below (h:RX b gb w st) (hb:Below w.heap.size w w'):RX b gb w' st:=h.step (.of_below hb) h.lt h.gblt
theorem RX.alloc (h:RX b gb w st) (o:Obj):RX b gb (w.alloc o) st:=h.below ((Below.refl _ w).alloc (Nat.le_refl _) o)
theorem RX.drew (h:RX b gb w st):RX b gb w.drew st:=h.below ((Below.refl _ w).drew)
theorem RX.fault (h:RX b gb w st):∃ f,w.cell? ⟨b,1,none⟩=some (.int .i64 f)∧(f==0)=st.isSome:=by
 obtain⟨f,v,r,h1,_,_,_,h5⟩:=h.ex
 refine⟨f,by rw [Lib.cell_of_heap h1];rfl,?_⟩
 cases st with
 | none=>rw [beq_eq_false_iff_ne.2 h5];rfl
 | some l=>rw [h5.1];rfl
theorem RX.put {f:Int} {v v':Value} {r:List UInt8} (h1:w.heap[b]? =some (.cells #[v,.int .i64 f] 102 (0,0))) (h2:LB kByte (fun x=>x=gb) w v' r) (h3:gb≠b) (h4:gb<w.heap.size)
  (h5:match st with | some l=>f=0∧r=l | none=>f≠0):RX b gb (w.setCell ⟨b,0,none⟩ v') st:=
 ⟨f,v',r,by simp [World.setCell,Array.getElem?_modify,h1],h2.keeps (fun x hx=>by have hx:x=gb:=hx;subst hx;exact Below.heap_setCell _ _ _ _ h3),h3,by simpa using h4,h5⟩
theorem RX.fail {st:Option (List UInt8)} (h:RX b gb w st) {e:Int} (he:e≠0):RX b gb (w.setCell ⟨b,1,none⟩ (.int .i64 e)) none:=by
 obtain⟨f,v,r,h1,h2,h3,h4,_⟩:=h.ex
 exact⟨e,v,r,by simp [World.setCell,Array.getElem?_modify,h1],h2.keeps (fun x hx=>by have hx:x=gb:=hx;subst hx;exact Below.heap_setCell _ _ _ _ h3),h3,by simpa using h4,he⟩
end
theorem valL_drop (l:List UInt8) (j:Nat) (c:UInt8) (h:l[j]? =some c):valL (l.drop j)=c.toNat+256*valL (l.drop (j+1)):=by
 obtain⟨hj,hc⟩:=List.getElem?_eq_some_iff.1 h
 rw [List.drop_eq_getElem_cons hj,hc,valL]
theorem yvalue_any {S:Nat→Prop} (w:World) (v:Value) (l:List UInt8) (h:LB kByte S w v l) (hl:l.length≤8):
  Calls Tryz.prog 88 #[v] w fun e w'=>e=.returned (.int .i64 (IntKind.i64.wrap (valL l:Int)))∧w'=w:=by
 obtain⟨a,b,off,cap,rfl,hlm,hcap,hat⟩:=h.at
 have haddr:=hat.addr
 have Hat:=Lib.hid hat
 obtain⟨n,hn⟩:∃ n,n=l.length:=⟨_,rfl⟩
 have Hn:=Lib.hid hn
 have Hv:=Lib.hid (fun j=>valL_lt (l.drop j))
 obtain⟨V,hV⟩:∃ V,valL l=V:=⟨_,rfl⟩
 have HV:=Lib.hid hV
 rw [hV]
 rw [← hn]at hl hlm hcap haddr ⊢
 clear h hat hn hV
 go_enter Tryz.func88,Tryz.ntmps88
 go_wp2_with fail
 go_loop [3,4] (fun u i=>∃ (k:Nat) (q:Int),k≤n∧i=.int .i64 q∧q=(k:Int)-1∧u=.int .u64 (valL (l.drop k):Nat)) (fun _ i=>(intOf i+1).toNat)
 case atStart=>exact⟨n,_,Nat.le_refl _,rfl,rfl,by rw [List.drop_of_length_le (by rw [Hn.out];exact Nat.le_refl _)];rfl⟩
 case round=>
  obtain⟨k,q,hk,rfl,hq,rfl⟩:=hrel
  cases k with
  | zero=>
   have hq0:q= -1:=by omega
   subst hq0
   have hd:valL (l.drop 0)=V:=HV.out
   rw [hd]
   clear hq hk hd
   go_wp2
   go_ret
   exact⟨by rw [← wrap64_i];rfl,rfl⟩
  | succ j=>
   have hqj:q=(j:Int):=by omega
   subst hqj
   obtain rfl:=haddr (by omega)
   obtain⟨c,hc⟩:∃ c,l[j]? =some c:=⟨_,List.getElem?_eq_getElem (by rw [← Hn.out];omega)⟩
   have g:=Hat.out.byte1 j c hc
   have hvd:=valL_drop l j c hc
   have hv1:=Hv.out (j+1)
   have hlen:(l.drop (j+1)).length≤7:=by rw [List.length_drop,← Hn.out];omega
   have hp:256 ^ (l.drop (j+1)).length≤256 ^ 7:=Nat.pow_le_pow_right (by decide) hlen
   have hp7:(256:Nat) ^ 7=72057594037927936:=by decide
   have hcl:=UInt8.toNat_lt c
   obtain⟨m,hm⟩:∃ m,valL (l.drop (j+1))=m:=⟨_,rfl⟩
   obtain⟨cn,hcn⟩:∃ cn,c.toNat=cn:=⟨_,rfl⟩
   rw [hm]at hv1 hvd
   rw [hcn]at g hvd hcl
   rw [hm]at*
   have hm7:m<72057594037927936:=by omega
   have HE:Hid (m*256+cn=valL (l.drop j)):=Lib.hid (by omega)
   have hjn:(j:Int)<(n:Int):=by omega
   have hj0:0≤(j:Int):=by omega
   clear hq hvd hv1 hlen hp hp7 hm hcn hc
   go_wp2
   go_round
   case rel=>exact⟨j,_,by omega,rfl,rfl,by rw [← HE.out,Int.natCast_add,Int.natCast_mul];rfl⟩
   case measure=>simp [intOf]
theorem ynum_any (w:World) (b gb:Nat) (st:Option (List UInt8)) (size:Nat) (h:RX b gb w st) (hs:size=1∨size=2∨size=4∨size=8):
  Calls Tryz.prog 45 #[.pointer (some ⟨b,0,none⟩),.int .i64 (size:Int)] w fun e w'=>e=.returned (.int .i64 (numS st size).1)∧RX b gb w' (numS st size).2∧Step (fun x=>x≠b) w w'∧w'.heap.size=w.heap.size:=by
 rw [numS_eq st size hs]
 obtain⟨f,hc1,hf⟩:=h.fault
 have hbl:=h.lt
 have hs8:1≤size∧size≤8:=by omega
 cases st with
 | none=>
  have H:=Lib.hid h
  have hf2:(f != 0)=true:=by have h1:(f==0)=false:=hf;simp [bne,h1]
  have hf1:(f==0)=false:=hf
  clear h hf
  have e1:cutS none size=none:=rfl
  have e2:IntKind.i64.wrap (valL (cutL none size):Int)=0:=rfl
  rw [e1,e2]
  go_enter Tryz.func45,Tryz.ntmps45
  go_wp2
  go_ret
  exact⟨rfl,H.out,Step.refl _ _,rfl⟩
 | some l=>
  obtain⟨f',v,r,h1,h2,h3,h4,h5,h6⟩:=h.ex
  subst h5 h6
  have HSz:=Lib.hid (fun w=>xsized_any w size hs)
  obtain⟨va,vc,rfl⟩:=h2.form
  have hrm:=h2.max
  have hc0:w.cell? ⟨b,0,none⟩=some (.slice va r.length vc):=by rw [Lib.cell_of_heap h1];rfl
  have hc1':w.cell? ⟨b,1,none⟩=some (.int .i64 0):=by rw [Lib.cell_of_heap h1];rfl
  have fx:w.frozen? ⟨b,0,none⟩=false:=Lib.frozen_of_heap h1 0
  have fy:w.frozen? ⟨b,1,none⟩=false:=Lib.frozen_of_heap h1 1
  have hcap:r.length≤vc:=by
   obtain⟨a',b',off',cap',hv,_,_,hc,_⟩:=h2
   cases hv;exact hc.1
  by_cases hlt:size≤r.length
  ·have hd1:decide ((r.length:Int)<(size:Int))=false:=by rw [decide_eq_false_iff_not];omega
   have H1:=Lib.hid h1
   have HV:=Lib.hid (yvalue_any w _ (r.take size) (h2.take_byte size hlt) (by rw [List.length_take];omega))
   have H4':=h2.drop_byte size hlt
   have Hcl:Hid (cutL (some r) size=r.take size):=Lib.hid (by rw [cutL,if_pos hlt])
   have Hcs:Hid (cutS (some r) size=some (r.drop size)):=Lib.hid (by rw [cutS,if_pos hlt])
   rw [Hcl.out,Hcs.out]
   generalize IntKind.i64.wrap (valL (r.take size):Int)=n at *
   clear h h1 h2 hc1 hf
   by_cases hvn:vc=size
   ·subst hvn
    rw [if_pos rfl,Nat.sub_self,show r.length-vc=0 by omega]at H4'
    have H4:=Lib.hid H4'
    clear H4'
    go_enter Tryz.func45,Tryz.ntmps45
    go_wp2_with fail
    refine(HSz.out _).mono ?_
    rintro e w2 ⟨rfl,rfl⟩
    go_wp2_with fail
    refine HV.out.mono ?_
    rintro e w3 ⟨rfl,rfl⟩
    go_wp2
    go_ret
    exact⟨rfl,RX.put H1.out H4.out h3 h4 ⟨rfl,rfl⟩,(Step.refl _ _).setCell (p:=⟨b,0,none⟩) (fun h=>h rfl) _,by simp⟩
   ·rw [if_neg hvn]at H4'
    have H4:=Lib.hid H4'
    clear H4'
    go_enter Tryz.func45,Tryz.ntmps45
    go_wp2_with fail
    refine(HSz.out _).mono ?_
    rintro e w2 ⟨rfl,rfl⟩
    go_wp2_with fail
    refine HV.out.mono ?_
    rintro e w3 ⟨rfl,rfl⟩
    go_wp2
    go_ret
    exact⟨rfl,RX.put H1.out H4.out h3 h4 ⟨rfl,rfl⟩,(Step.refl _ _).setCell (p:=⟨b,0,none⟩) (fun h=>h rfl) _,by simp⟩
  ·have hd1:decide ((r.length:Int)<(size:Int))=true:=by rw [decide_eq_true_eq];omega
   have Hcl:Hid (cutL (some r) size=[]):=Lib.hid (by rw [cutL,if_neg hlt])
   have Hcs:Hid (cutS (some r) size=none):=Lib.hid (by rw [cutS,if_neg hlt])
   have HF:=Lib.hid (h.fail (e:=11) (by decide))
   rw [Hcl.out,Hcs.out]
   have e2:IntKind.i64.wrap (valL []:Int)=0:=rfl
   rw [e2]
   clear h h1 h2 hc1 hf
   go_enter Tryz.func45,Tryz.ntmps45
   go_wp2_with fail
   refine(HSz.out _).mono ?_
   rintro e w2 ⟨rfl,rfl⟩
   go_wp2
   go_ret
   exact⟨rfl,HF.out,(Step.refl _ _).setCell (p:=⟨b,1,none⟩) (fun h=>h rfl) _,by simp⟩
theorem yprefixed_any (w:World) (b gb:Nat) (st:Option (List UInt8)) (size most:Nat) (h:RX b gb w st) (hs:size=2∨size=4) (hm:most≤1048576):
  Calls Tryz.prog 86 #[.pointer (some ⟨b,0,none⟩),.int .i64 (size:Int),.int .i64 (most:Int)] w fun e w'=>∃ v,e=.returned v∧LB kByte (fun x=>x=gb) w' v (partS st size most).1∧RX b gb w' (partS st size most).2∧Step (fun x=>x≠b) w w'∧w'.heap.size=w.heap.size:=by
 obtain⟨f,hc1,hf⟩:=h.fault
 have hbl:=h.lt
 have hs4:size=1∨size=2∨size=4:=by omega
 cases st with
 | none=>
  have H:=Lib.hid h
  have hf2:(f != 0)=true:=by have h1:(f==0)=false:=hf;simp [bne,h1]
  clear h hf
  rw [partS_none]
  go_enter Tryz.func86,Tryz.ntmps86
  go_wp2
  go_ret
  exact⟨_,rfl,LB.nil _ _ _,H.out,Step.refl _ _,rfl⟩
 | some l=>
  obtain⟨f',v,r,h1,h2,h3,h4,h5,h6⟩:=h.ex
  subst h5 h6
  obtain⟨va,vc,rfl⟩:=h2.form
  have hrm:=h2.max
  have hc0:w.cell? ⟨b,0,none⟩=some (.slice va r.length vc):=by rw [Lib.cell_of_heap h1];rfl
  have hc1':w.cell? ⟨b,1,none⟩=some (.int .i64 0):=by rw [Lib.cell_of_heap h1];rfl
  have fx:w.frozen? ⟨b,0,none⟩=false:=Lib.frozen_of_heap h1 0
  have fy:w.frozen? ⟨b,1,none⟩=false:=Lib.frozen_of_heap h1 1
  have hcap:r.length≤vc:=by
   obtain⟨a',b',off',cap',hv,_,_,hc,_⟩:=h2
   cases hv;exact hc.1
  have H1:=Lib.hid h1
  by_cases hlt:size≤r.length
  case neg=>
   have hd1:decide ((r.length:Int)<(size:Int))=true:=by rw [decide_eq_true_eq];omega
   have hp:partP size most r=none:=by unfold partP bindP numP;rw [if_neg hlt]
   have HF:=Lib.hid (h.fail (e:=11) (by decide))
   rw [partS_bad hs4 hp]
   clear h h1 h2 hc1 hf hp
   go_enter Tryz.func86,Tryz.ntmps86
   go_wp2
   go_ret
   exact⟨_,rfl,LB.nil _ _ _,HF.out,(Step.refl _ _).setCell (p:=⟨b,1,none⟩) (fun h=>h rfl) _,by simp⟩
  have hd1:decide ((r.length:Int)<(size:Int))=false:=by rw [decide_eq_false_iff_not];omega
  obtain⟨n,hn⟩:∃ n,n=valL (r.take size):=⟨_,rfl⟩
  have hnl:n<4294967296:=by
   have h0:=valL_lt (r.take size)
   rw [← hn,List.length_take,Nat.min_eq_left hlt]at h0
   have p2:(256:Nat) ^ 2=65536:=by decide
   have p4:(256:Nat) ^ 4=4294967296:=by decide
   rcases hs with rfl | rfl<;>omega
  have hp:partP size most r=if (n:Int)≤(most:Int)∧(n:Int)≤((r.drop size).length:Int) then some ((r.drop size).take n,(r.drop size).drop n) else none:=by
   unfold partP bindP numP
   rw [if_pos hlt,if_neg (by omega)]
   show(if _ then _ else _)=_
   rw [← hn,Int.toNat_natCast]
  have HV0:=yvalue_any w _ (r.take size) (h2.take_byte size hlt) (by rw [List.length_take];omega)
  rw [← hn,show IntKind.i64.wrap (n:Int)=(n:Int) by rw [IntKind.wrap_i64];omega]at HV0
  have HV:=Lib.hid HV0
  clear HV0 hn
  by_cases hmost:n≤most
  case neg=>
   have hd2:decide ((most:Int)<(n:Int))=true:=by rw [decide_eq_true_eq];omega
   rw [if_neg (fun h=>hmost (by omega))]at hp
   have HF:=Lib.hid (h.fail (e:=2) (by decide))
   rw [partS_bad hs4 hp]
   clear h h1 h2 hc1 hf hp
   go_enter Tryz.func86,Tryz.ntmps86
   go_wp2_with fail
   refine HV.out.mono ?_
   rintro e w3 ⟨rfl,rfl⟩
   go_wp2
   go_ret
   exact⟨_,rfl,LB.nil _ _ _,HF.out,(Step.refl _ _).setCell (p:=⟨b,1,none⟩) (fun h=>h rfl) _,by simp⟩
  have hd2:decide ((most:Int)<(n:Int))=false:=by rw [decide_eq_false_iff_not];omega
  by_cases hfit:size+n≤r.length
  case neg=>
   have hd3:decide ((r.length:Int)-(size:Int)<(n:Int))=true:=by rw [decide_eq_true_eq];omega
   rw [if_neg (fun h=>hfit (by have:=h.2;rw [List.length_drop]at this;omega))]at hp
   have HF:=Lib.hid (h.fail (e:=11) (by decide))
   rw [partS_bad hs4 hp]
   clear h h1 h2 hc1 hf hp
   go_enter Tryz.func86,Tryz.ntmps86
   go_wp2_with fail
   refine HV.out.mono ?_
   rintro e w3 ⟨rfl,rfl⟩
   go_wp2
   go_ret
   exact⟨_,rfl,LB.nil _ _ _,HF.out,(Step.refl _ _).setCell (p:=⟨b,1,none⟩) (fun h=>h rfl) _,by simp⟩
  have hd3:decide ((r.length:Int)-(size:Int)<(n:Int))=false:=by rw [decide_eq_false_iff_not];omega
  rw [if_pos ⟨by omega,by rw [List.length_drop];omega⟩]at hp
  rw [partS_good hs4 hp]
  have HD:=h2.drop_byte size hlt
  have hdl:r.length-size=(r.drop size).length:=List.length_drop.symm
  rw [hdl]at HD
  have HO':=HD.take_byte n (by rw [← hdl];omega)
  have HR':=h2.drop_byte (size+n) hfit
  rw [← List.drop_drop]at HR'
  obtain⟨sn,hsn⟩:∃ sn,sn=size+n:=⟨_,rfl⟩
  rw [← hsn]at HR' hfit
  have hsI:(size:Int)+(n:Int)=(sn:Int):=by omega
  have hsN:sn-size=n:=by omega
  have hsz4:size≤4:=by omega
  have hn20:n≤1048576:=by omega
  have hsn20:sn≤1048580:=by omega
  have hsn1:size≤sn:=by omega
  have hsnc:sn≤vc:=by omega
  clear h h1 h2 hc1 hf hp HD hdl
  by_cases hv1:vc=size
  ·have hn0:n=0:=by omega
   have hs0:sn=size:=by omega
   subst hs0
   subst hn0
   subst hv1
   rw [if_pos rfl,Nat.sub_self]at HO'
   rw [if_pos rfl,Nat.sub_self,show r.length-vc=0 by omega]at HR'
   clear hsI hsN hsn
   have HO:=Lib.hid HO'
   have HR:=Lib.hid HR'
   clear HO' HR'
   go_enter Tryz.func86,Tryz.ntmps86
   go_wp2_with fail
   refine HV.out.mono ?_
   rintro e w3 ⟨rfl,rfl⟩
   go_wp2
   go_ret
   exact⟨_,rfl,HO.out.keeps (fun x hx=>by have hx:x=gb:=hx;subst hx;exact Below.heap_setCell _ _ _ _ h3),RX.put H1.out HR.out h3 h4 ⟨rfl,rfl⟩,(Step.refl _ _).setCell (p:=⟨b,0,none⟩) (fun h=>h rfl) _,by simp⟩
  rw [if_neg hv1]at HO'
  clear hsn
  by_cases hv2:vc=sn
  ·subst hv2
   rw [if_pos rfl,show r.length-vc=0 by omega,Nat.sub_self]at HR'
   rw [hsN]at HO'
   have HO:=Lib.hid HO'
   have HR:=Lib.hid HR'
   clear HO' HR'
   go_enter Tryz.func86,Tryz.ntmps86
   go_wp2_with fail
   refine HV.out.mono ?_
   rintro e w3 ⟨rfl,rfl⟩
   go_wp2
   go_ret
   exact⟨_,rfl,HO.out.keeps (fun x hx=>by have hx:x=gb:=hx;subst hx;exact Below.heap_setCell _ _ _ _ h3),RX.put H1.out HR.out h3 h4 ⟨rfl,rfl⟩,(Step.refl _ _).setCell (p:=⟨b,0,none⟩) (fun h=>h rfl) _,by simp⟩
  ·rw [if_neg hv2]at HR'
   have HO:=Lib.hid HO'
   have HR:=Lib.hid HR'
   clear HO' HR'
   go_enter Tryz.func86,Tryz.ntmps86
   go_wp2_with fail
   refine HV.out.mono ?_
   rintro e w3 ⟨rfl,rfl⟩
   go_wp2
   go_ret
   exact⟨_,rfl,HO.out.keeps (fun x hx=>by have hx:x=gb:=hx;subst hx;exact Below.heap_setCell _ _ _ _ h3),RX.put H1.out HR.out h3 h4 ⟨rfl,rfl⟩,(Step.refl _ _).setCell (p:=⟨b,0,none⟩) (fun h=>h rfl) _,by simp⟩
theorem ytext_any (w:World) (b gb:Nat) (st:Option (List UInt8)) (h:RX b gb w st):
  Calls Tryz.prog 44 #[.pointer (some ⟨b,0,none⟩)] w fun e w'=>e=.returned (.string ⟨(partS st 2 4096).1.toArray⟩)∧RX b gb w' (partS st 2 4096).2∧Step (fun x=>x≠b) w w'∧w'.heap.size=w.heap.size:=by
 have HP:=Lib.hid (yprefixed_any w b gb st 2 4096 h (by decide) (by decide))
 clear h
 generalize partS st 2 4096=ps at *
 go_enter Tryz.func44,Tryz.ntmps44
 go_wp2_with fail
 refine HP.out.mono ?_
 rintro e w2 ⟨v,rfl,hv,hr,hs,hz⟩
 have hcv:=run_str hv
 obtain⟨va,vc,rfl⟩:=hv.form
 have Hr:=Lib.hid hr
 have Hs:=Lib.hid hs
 have Hz:=Lib.hid hz
 clear hv hr hs hz HP
 go_wp2
 go_ret
 exact⟨rfl,Hr.out,Hs.out,Hz.out⟩
theorem yblock_any (w:World) (b gb:Nat) (st:Option (List UInt8)) (h:RX b gb w st):
  Calls Tryz.prog 48 #[.pointer (some ⟨b,0,none⟩)] w fun e w'=>∃ v,e=.returned v∧LB kByte (fun x=>x=gb) w' v (partS st 4 1048576).1∧RX b gb w' (partS st 4 1048576).2∧Step (fun x=>x≠b) w w'∧w'.heap.size=w.heap.size:=by
 have HP:=Lib.hid (yprefixed_any w b gb st 4 1048576 h (by decide) (by decide))
 clear h
 generalize partS st 4 1048576=ps at *
 go_enter Tryz.func48,Tryz.ntmps48
 go_wp2_with fail
 refine HP.out.mono ?_
 rintro e w2 ⟨v,rfl,hv,hr,hs,hz⟩
 obtain⟨va,vc,hvf⟩:=hv.form
 have Hv:=Lib.hid hv
 have Hr:=Lib.hid hr
 have Hs:=Lib.hid hs
 have Hz:=Lib.hid hz
 subst hvf
 clear hv hr hs hz HP
 go_wp2
 go_ret
 exact⟨_,rfl,Hv.out,Hr.out,Hs.out,Hz.out⟩
theorem yend_any (w:World) (b gb:Nat) (st:Option (List UInt8)) (h:RX b gb w st):
  Calls Tryz.prog 51 #[.pointer (some ⟨b,0,none⟩)] w fun e w'=>∃ n:Int,e=.returned (.int .i64 n)∧(n==0)=decide (st=some [])∧w'=w:=by
 obtain⟨f,v,r,h1,h2,h3,h4,h5⟩:=h.ex
 obtain⟨va,vc,rfl⟩:=h2.form
 have hrm:=h2.max
 have hbl:=h.lt
 have hc0:w.cell? ⟨b,0,none⟩=some (.slice va r.length vc):=by rw [Lib.cell_of_heap h1];rfl
 have hc1:w.cell? ⟨b,1,none⟩=some (.int .i64 f):=by rw [Lib.cell_of_heap h1];rfl
 cases st with
 | none=>
  have hf1:(f==0)=false:=beq_eq_false_iff_ne.2 h5
  have HR:Hid ((f==0)=decide ((none:Option (List UInt8))=some [])):=Lib.hid (by rw [hf1];rfl)
  clear h h1 h2 h5
  go_enter Tryz.func51,Tryz.ntmps51
  go_wp2
  go_ret
  exact⟨f,rfl,HR.out,rfl⟩
 | some l=>
  obtain⟨h5,h6⟩:=h5
  subst h5 h6
  cases r with
  | nil=>
   clear h h1 h2
   go_enter Tryz.func51,Tryz.ntmps51
   go_wp2
   go_ret
   exact⟨0,rfl,by simp,rfl⟩
  | cons c t=>
   obtain⟨n,hn⟩:∃ n,n=(c :: t).length:=⟨_,rfl⟩
   have hn1:0<n:=by rw [hn];simp
   rw [← hn]at hc0
   have hd:decide ((0:Int)<(n:Int))=true:=by rw [decide_eq_true_eq];omega
   clear h h1 h2 hn
   go_enter Tryz.func51,Tryz.ntmps51
   go_wp2
   go_ret
   exact⟨12,rfl,by simp,rfl⟩
end Go.Proofs.YtfchpchabdhcgaaGreat
namespace Go.Proofs.YtfchpchabdhcgaaGreat
open Go.RowKit
structure LX {α:Type} (e:TypeId) (K:Kind α) (p:List UInt8→Option (α × List UInt8)) (ok:α→Prop) (b gb:Nat) (w0:World) (st0:Option (List UInt8)) (n:Nat) (w:World) (v:Value) (xs:List α) (st:Option (List UInt8)):Prop where
 own:OwnK e K w0.heap.size (·<w0.heap.size) w v xs
 ok:∀ x∈xs,ok x
 le:xs.length≤n
 got:Got (manyP p n) st0 xs st
 all:st≠none→xs.length=n
 rd:RX b gb w st
 step:Step (fun x=>x<w0.heap.size∧x≠b) w0 w
theorem zbytes_any {S:Nat→Prop} (w:World) (v:Value) (l:List UInt8) (h:LB kByte S w v l) (hS:∀ b,S b→b<w.heap.size) (hl:l.length≤1048576):
  Calls Tryz.prog 47 #[v] w fun e w'=>∃ r,e=.returned r∧OwnK 5 kByte w.heap.size (fun _=>False) w' r l∧Below w.heap.size w w':=by
 obtain⟨a,c,rfl⟩:=h.form
 have H:=Lib.hid (h.imp hS)
 clear h
 go_enter Tryz.func47,Tryz.ntmps47
 go_wp2_with (at_builtin;go_loud (refine wpList_appendsK (B:=w.heap.size) (E:=fun _=>False) (l:=[]) plain_byte 22 (.int .u8 0) 1 Tryz.underlying22 info_byte rfl rfl (.tmp 4) (.tmp 5) rfl rfl (OwnK.nil _ _ _ _ _) (fun x hx=>hx.elim) _ l rfl H.out (by simp only [List.length_nil];omega) (by simp only [List.length_nil];omega) (Nat.le_refl _) ?_))
 intro v' w4 hown hst hne
 have HB:=Lib.hid (hst.imp (S':=(·<w.heap.size)) (fun x hx=>⟨hx,by simp [Value.ownBlock]⟩)).below
 have HO:=Lib.hid hown
 clear hown hst hne
 go_wp2
 go_ret
 exact⟨v',rfl,HO.out,HB.out⟩
theorem zlist_any (w:World) (b gb:Nat) (st:Option (List UInt8)) (n size:Nat) (h:RX b gb w st) (hs:size=1∨size=2∨size=4∨size=8) (hn:n≤65536):
  Calls Tryz.prog 46 #[.pointer (some ⟨b,0,none⟩),.int .i64 (n:Int),.int .i64 (size:Int)] w fun e w'=>∃ v xs st',e=.returned v∧LX 3 kInt (numP size) (okN size) b gb w st n w' v xs st':=by
 have hbl:=h.lt
 have hgl:=h.gblt
 have H:=Lib.hid h
 clear h
 go_enter Tryz.func46,Tryz.ntmps46
 go_wp2_with fail
 go_loopw [7,8] (fun o i wr=>∃ (k:Nat) (xs:List Int) (st1:Option (List UInt8)),i=.int .i64 k∧k≤n∧xs.length=k∧OwnK 3 kInt w.heap.size (·<w.heap.size) wr o xs∧(∀ x∈xs,okN size x)∧Got (manyP (numP size) k) st xs st1∧RX b gb wr st1∧Step (fun x=>x<w.heap.size∧x≠b) w wr) (fun _ i _=>n-(intOf i).toNat)
 case atStart=>exact⟨0,[],st,rfl,Nat.zero_le _,rfl,OwnK.nil _ _ _ _ _,(fun x hx=>by simp at hx),Got.many0 _ _,H.out,Step.refl _ _⟩
 case round=>
  obtain⟨k,xs,st1,rfl,hk,hx,ho,hok,hg,hr,hT⟩:=hrel
  obtain⟨oa,oc,rfl⟩:=ho.form
  obtain⟨f,hf,hf1⟩:=hr.fault
  have hwr:=hT.size
  rw [hx]at ho ⊢
  have HO:=Lib.hid ho
  have HK:=Lib.hid hok
  have HG:=Lib.hid hg
  have HR:=Lib.hid hr
  have HT:=Lib.hid hT
  have HX:=Lib.hid hx
  clear ho hok hg hr hT hx
  by_cases hlt:k<n
  ·have hd1:decide ((k:Int)<(n:Int))=true:=by rw [decide_eq_true_eq];omega
   cases st1 with
   | none=>
    have hf2:(f==0)=false:=hf1
    clear hf1
    go_wp2
    go_ret
    exact⟨_,xs,none,rfl,HO.out,HK.out,by rw [HX.out];omega,HG.out.stop (by omega) _,fun h=>absurd rfl h,HR.out,HT.out⟩
   | some l=>
    have hf2:(f==0)=true:=hf1
    clear hf1
    have HN:=Lib.hid (ynum_any wr b gb (some l) size HR.out hs)
    have hgn:=got_num (some l) size
    have hno:=numS_ok (some l) size (by omega)
    obtain⟨x,hxe⟩:∃ x,x=(numS (some l) size).1:=⟨_,rfl⟩
    obtain⟨st2,hst2⟩:∃ st2,st2=(numS (some l) size).2:=⟨_,rfl⟩
    rw [← hxe,← hst2]at HN hgn
    rw [← hxe]at hno
    have HGn:=Lib.hid hgn
    have HNo:=Lib.hid hno
    clear hgn hno hxe hst2
    go_wp2_with fail
    refine HN.out.mono ?_
    rintro e w2 ⟨rfl,hr2,hs2,hz2⟩
    have hz2':w.heap.size≤w2.heap.size:=by omega
    have O2:=Lib.hid (HO.out.step hs2 (fun y _ hy e=>hy (by rw [e];exact hbl)))
    have HR2:=Lib.hid (hr2.alloc (.cells #[.int .i64 x] 3 (0,0)))
    have HT2:=Lib.hid (HT.out.trans (hs2.imp (S':=fun x=>x<w.heap.size∧x≠b) (fun _ h=>h.2)))
    clear hr2 hs2 hz2 HN hf HO HT HR
    go_wp2_with (at_builtin;go_loud (refine wpList_appendK (α:=Int) (K:=kInt) (e:=3) (B:=w.heap.size) (E:=(·<w.heap.size)) 38 (.int .i64 0) 8 Tryz.underlying38 info_int rfl (by decide) rfl (.tmp 21) (.tmp 25) rfl k HX.out rfl (O2.out.alloc _) (fun b hb=>by have hb:b<w.heap.size:=hb;rw [World.size_alloc];omega) w2.heap.size x [.int .i64 x] rfl (row_one _ _ _ (by simp)) (fun u hu=>by simp at hu;subst hu;rfl) rfl (by rw [HX.out];omega) (by rw [HX.out];omega) (by rw [World.size_alloc];omega) ?_))
    intro g c w3 hown3 hst3 _
    have hlo:=(O2.out.alloc (.cells #[.int .i64 x] 3 (0,0))).lt
    have hno:=(O2.out.alloc (.cells #[.int .i64 x] 3 (0,0))).notE
    have hS4:Step (·<w.heap.size) (w2.alloc (.cells #[.int .i64 x] 3 (0,0))) w3:=hst3.imp (fun y hy=>⟨by have hy:y<w.heap.size:=hy;show y<_;(try rw [World.size_alloc]);omega,fun e=>hno y e hy⟩)
    have HR3:=Lib.hid (HR2.out.step hS4 hbl hgl)
    have HT3:=Lib.hid ((HT2.out.trans ((Step.of_below ((Below.refl _ w2).alloc (Nat.le_refl _) (.cells #[.int .i64 x] 3 (0,0)))).imp (fun y hy=>by have:=hy.1;show y<w2.heap.size;omega))).trans (hS4.imp (fun y hy=>hy.1)))
    have HO3:=Lib.hid hown3
    have HG3:=Lib.hid (HG.out.snoc HGn.out)
    have HK3:Hid (∀ y∈xs++[x],okN size y):=Lib.hid (fun y hy=>by
     rcases List.mem_append.1 hy with h | h
     ·exact HK.out y h
     ·simp at h;rw [h];exact HNo.out)
    clear hown3 hst3 hlo hno hS4 O2 HR2 HT2
    go_wp2
    go_roundw
    case rel=>exact⟨k+1,xs++[x],st2,by go_num,by omega,by simp [HX.out],HO3.out,HK3.out,HG3.out,HR3.out,HT3.out⟩
    case measure=>simp [intOf];omega
  ·obtain rfl:k=n:=by omega
   go_wp2
   go_ret
   exact⟨_,xs,st1,rfl,HO.out,HK.out,by rw [HX.out];exact Nat.le_refl _,HG.out,fun _=>HX.out,HR.out,HT.out⟩
theorem zwords_any (w:World) (b gb:Nat) (st:Option (List UInt8)) (h:RX b gb w st):
  Calls Tryz.prog 49 #[.pointer (some ⟨b,0,none⟩)] w fun e w'=>∃ n:Nat,∃ s1 v xs st',e=.returned v∧Got (numP 1) st (n:Int) s1∧n<256∧LX 9 kStr textP (fun x=>x.length≤4096) b gb w s1 n w' v xs st':=by
 have hbl:=h.lt
 have hgl:=h.gblt
 have HN0:=Lib.hid (ynum_any w b gb st 1 h (by decide))
 have HG0:=Lib.hid (got_num st 1)
 have hr0:=numS_ok st 1 (by decide)
 obtain⟨n,hne,hn⟩:∃ n:Nat,(numS st 1).1=n∧n<256:=⟨(numS st 1).1.toNat,by simp [okN]at hr0;omega,by simp [okN]at hr0;omega⟩
 obtain⟨s1,hs1⟩:∃ s1,s1=(numS st 1).2:=⟨_,rfl⟩
 rw [hne,← hs1]at HN0 HG0
 clear h hr0 hne hs1
 go_enter Tryz.func49,Tryz.ntmps49
 go_wp2_with fail
 refine HN0.out.mono ?_
 rintro e w1 ⟨rfl,hr1,hs1,hz1⟩
 have H1:=Lib.hid hr1
 have HT1:=Lib.hid (hs1.imp (S':=fun x=>x<w.heap.size∧x≠b) (fun _ h=>h.2))
 clear hr1 hs1 hz1 HN0
 go_wp2_with fail
 go_loopw [3,5] (fun o i wr=>∃ (k:Nat) (xs:List (List UInt8)) (st1:Option (List UInt8)),i=.int .i64 k∧k≤n∧xs.length=k∧OwnK 9 kStr w.heap.size (·<w.heap.size) wr o xs∧(∀ x∈xs,x.length≤4096)∧Got (manyP textP k) s1 xs st1∧RX b gb wr st1∧Step (fun x=>x<w.heap.size∧x≠b) w wr) (fun _ i _=>n-(intOf i).toNat)
 case atStart=>exact⟨0,[],s1,rfl,Nat.zero_le _,rfl,OwnK.nil _ _ _ _ _,(fun x hx=>by simp at hx),Got.many0 _ _,H1.out,HT1.out⟩
 case round=>
  obtain⟨k,xs,st1,rfl,hk,hx,ho,hok,hg,hr,hT⟩:=hrel
  obtain⟨oa,oc,rfl⟩:=ho.form
  obtain⟨f,hf,hf1⟩:=hr.fault
  have hwr:=hT.size
  rw [hx]at ho ⊢
  have HO:=Lib.hid ho
  have HK:=Lib.hid hok
  have HG:=Lib.hid hg
  have HR:=Lib.hid hr
  have HT:=Lib.hid hT
  have HX:=Lib.hid hx
  clear ho hok hg hr hT hx
  by_cases hlt:k<n
  ·have hd1:decide ((k:Int)<(n:Int))=true:=by rw [decide_eq_true_eq];omega
   cases st1 with
   | none=>
    have hf2:(f==0)=false:=hf1
    clear hf1
    go_wp2
    go_ret
    exact⟨n,s1,_,xs,none,rfl,HG0.out,hn,HO.out,HK.out,by rw [HX.out];omega,HG.out.stop (by omega) _,fun h=>absurd rfl h,HR.out,HT.out⟩
   | some l=>
    have hf2:(f==0)=true:=hf1
    clear hf1
    have HN:=Lib.hid (ytext_any wr b gb (some l) HR.out)
    have hgn:=got_part (some l) 2 4096 (by decide)
    have hno:=partS_len (some l) 2 4096 (by decide)
    obtain⟨x,hxe⟩:∃ x,x=(partS (some l) 2 4096).1:=⟨_,rfl⟩
    obtain⟨st2,hst2⟩:∃ st2,st2=(partS (some l) 2 4096).2:=⟨_,rfl⟩
    rw [← hxe,← hst2]at HN hgn
    rw [← hxe]at hno
    have HGn:=Lib.hid hgn
    have HNo:=Lib.hid hno
    clear hgn hno hxe hst2
    go_wp2_with fail
    refine HN.out.mono ?_
    rintro e w2 ⟨rfl,hr2,hs2,hz2⟩
    have hz2':w.heap.size≤w2.heap.size:=by omega
    have O2:=Lib.hid (HO.out.step hs2 (fun y _ hy e=>hy (by rw [e];exact hbl)))
    have HR2:=Lib.hid (hr2.alloc (.cells #[.string ⟨x.toArray⟩] 9 (0,0)))
    have HT2:=Lib.hid (HT.out.trans (hs2.imp (S':=fun x=>x<w.heap.size∧x≠b) (fun _ h=>h.2)))
    clear hr2 hs2 hz2 HN hf HO HT HR
    go_wp2_with (at_builtin;go_loud (refine wpList_appendK (α:=List UInt8) (K:=kStr) (e:=9) (B:=w.heap.size) (E:=(·<w.heap.size)) 28 (.string ⟨#[]⟩) 16 Tryz.underlying28 info_str rfl (by decide) rfl (.tmp 20) (.tmp 23) rfl k HX.out rfl (O2.out.alloc _) (fun b hb=>by have hb:b<w.heap.size:=hb;rw [World.size_alloc];omega) w2.heap.size x [.string ⟨x.toArray⟩] rfl (row_one _ _ _ (by simp)) (fun u hu=>by simp at hu;subst hu;rfl) ⟨rfl,by have:=HNo.out;omega⟩ (by rw [HX.out];omega) (by rw [HX.out];omega) (by rw [World.size_alloc];omega) ?_))
    intro g c w3 hown3 hst3 _
    have hlo:=(O2.out.alloc (.cells #[.string ⟨x.toArray⟩] 9 (0,0))).lt
    have hno:=(O2.out.alloc (.cells #[.string ⟨x.toArray⟩] 9 (0,0))).notE
    have hS4:Step (·<w.heap.size) (w2.alloc (.cells #[.string ⟨x.toArray⟩] 9 (0,0))) w3:=hst3.imp (fun y hy=>⟨by have hy:y<w.heap.size:=hy;show y<_;(try rw [World.size_alloc]);omega,fun e=>hno y e hy⟩)
    have HR3:=Lib.hid (HR2.out.step hS4 hbl hgl)
    have HT3:=Lib.hid ((HT2.out.trans ((Step.of_below ((Below.refl _ w2).alloc (Nat.le_refl _) (.cells #[.string ⟨x.toArray⟩] 9 (0,0)))).imp (fun y hy=>by have:=hy.1;show y<w2.heap.size;omega))).trans (hS4.imp (fun y hy=>hy.1)))
    have HO3:=Lib.hid hown3
    have HG3:=Lib.hid (HG.out.snoc HGn.out)
    have HK3:Hid (∀ y∈xs++[x],y.length≤4096):=Lib.hid (fun y hy=>by
     rcases List.mem_append.1 hy with h | h
     ·exact HK.out y h
     ·simp at h;rw [h];exact HNo.out)
    clear hown3 hst3 hlo hno hS4 O2 HR2 HT2
    go_wp2
    go_roundw
    case rel=>exact⟨k+1,xs++[x],st2,by go_num,by omega,by simp [HX.out],HO3.out,HK3.out,HG3.out,HR3.out,HT3.out⟩
    case measure=>simp [intOf];omega
  ·obtain rfl:k=n:=by omega
   go_wp2
   go_ret
   exact⟨_,s1,_,xs,st1,rfl,HG0.out,hn,HO.out,HK.out,by rw [HX.out];exact Nat.le_refl _,HG.out,fun _=>HX.out,HR.out,HT.out⟩
end Go.Proofs.YtfchpchabdhcgaaGreat
namespace Go.Proofs.YtfchpchabdhcgaaGreat
open Go.RowKit
def imgBlock (name:List UInt8) (flags:Int) (v:ImgV) (shift tlsSize:Int):Obj:=
 .cells #[.string ⟨name.toArray⟩,.int .i64 flags,v.segs,v.needed,v.runPath,v.syms,v.buckets,v.words,.int .i64 shift,v.relocs,v.slots,v.init,v.fini,v.tls,.int .i64 tlsSize] 40 (0,0)
theorem OwnK.lbB {α:Type} {e:TypeId} {K:Kind α} {f:α→Value} (hp:Plain K f) {B:Nat} {E:Nat→Prop} {w:World} {v:Value} {l:List α} (h:OwnK e K B E w v l):LB K (fun b=>b<w.heap.size∧B≤b) w v l:=
 (OwnK.lb (E:=(·<B)) (.of_plain hp (h.plain_row hp) (fun g hg h'=>by have:=(h.lt g hg).1;omega))).imp (fun b hb=>⟨hb.1,Nat.le_of_not_lt hb.2⟩)
theorem okN_idx {size:Nat} {n:Int} (hs:size≤4) (h:okN size n):∃ m:Nat,n=m∧okLen size m:=⟨n.toNat,okN_nat hs h⟩
theorem okN_int64 {size:Nat} {n:Int} (h:okN size n) (hs:size=1∨size=2∨size=4∨size=8:=by decide): -9223372036854775808≤n∧n≤9223372036854775807:=by
 rcases hs with rfl | rfl | rfl | rfl<;>(simp [okN]at h;omega)
def tailP:List UInt8→Option (ImgL × List UInt8):=
 bindP textP fun name=>bindP (numP 1) fun flags=>
 bindP (numP 1) fun n1=>bindP (manyP segP n1.toNat) fun segs=>
 bindP (numP 1) fun n2=>bindP (manyP needP n2.toNat) fun needed=>
 bindP (numP 1) fun n3=>bindP (textsP n3) fun runPath=>
 bindP (numP 2) fun n4=>bindP (manyP symP n4.toNat) fun syms=>
 bindP (numP 2) fun n5=>bindP (manyP chainP n5.toNat) fun buckets=>
 bindP (numP 1) fun shift=>bindP (numP 1) fun n6=>bindP (manyP wordP n6.toNat) fun words=>
 bindP (numP 2) fun n7=>bindP (manyP relP n7.toNat) fun relocs=>
 bindP (numP 2) fun n8=>bindP (manyP slotP n8.toNat) fun slots=>
 bindP (numP 1) fun n9=>bindP (manyP (numP 4) n9.toNat) fun init=>
 bindP (numP 1) fun n10=>bindP (manyP (numP 4) n10.toNat) fun fini=>
 bindP (numP 2) fun tlsSize=>bindP blockP fun tls t=>
 some (⟨name,flags,segs,needed,runPath,syms,buckets,words,shift,relocs,slots,init,fini,tls,tlsSize⟩,t)
theorem got_img {l:List UInt8} {x0:List UInt8} {st0 st1 st:Option (List UInt8)} {o:Bool} {im:ImgL} (HG:Got textP (some l) x0 st0) (Ho:(!x0==[99,108,101,118,105,115,49])=o) (Hst:st1=if o then none else st0) (h:Got tailP st1 im st):Got imgP (some l) im st:=by
 refine Got.bind (q:=fun magic=>if magic≠magicL then fun _=>none else tailP) HG ?_
 by_cases hx:x0=magicL
 ·have e:o=false:=by rw [← Ho,hx];rfl
  subst e
  rw [if_neg (by simpa using hx)]
  have e:st1=st0:=Hst
  rw [← e];exact h
 ·have hb:(x0==[99,108,101,118,105,115,49])=false:=by
   rw [beq_eq_false_iff_ne];exact hx
  have e:o=true:=by rw [← Ho,hb];rfl
  subst e
  rw [if_pos hx]
  have e:st1=none:=Hst
  have hn:st=none:=h.1 e
  exact⟨fun _=>hn,fun l _=>⟨fun _=>hn,fun y t h=>(by cases h)⟩⟩
def emptyL:ImgL:=⟨[],0,[],[],[],[],[],[],0,[],[],[],[],[],0⟩
theorem LB.one {α:Type} {K:Kind α} {S:Nat→Prop} {w:World} {v:Value} {l:List α} (h:LB K S w v l):v.oneCell'=true:=by
 obtain⟨a,c,rfl⟩:=h.form
 rfl
theorem one_string (s:ByteArray):(Value.string s).oneCell'=true:=rfl
theorem one_int (k:IntKind) (n:Int):(Value.int k n).oneCell'=true:=rfl
theorem one_slice (a:Option Addr) (n c:Nat):(Value.slice a n c).oneCell'=true:=rfl
theorem imgM_empty (S:Nat→Prop) (w:World):ImgM S w ⟨.slice none 0 0,.slice none 0 0,.slice none 0 0,.slice none 0 0,.slice none 0 0,.slice none 0 0,.slice none 0 0,.slice none 0 0,.slice none 0 0,.slice none 0 0,.slice none 0 0⟩ emptyL where
 name:=Nat.zero_le _
 flags:=⟨by decide,by decide⟩
 segs:=LB.nil _ _ _
 segsR:=fun s hs=>(by cases hs)
 needed:=LB.nil _ _ _
 runPath:=LB.nil _ _ _
 syms:=LB.nil _ _ _
 buckets:=LB.nil _ _ _
 bucketsL:=fun s hs=>(by cases hs)
 words:=LB.nil _ _ _
 wordsR:=fun s hs=>(by cases hs)
 shift:=⟨by decide,by decide⟩
 relocs:=LB.nil _ _ _
 relocsR:=fun s hs=>(by cases hs)
 slots:=LB.nil _ _ _
 slotsR:=fun s hs=>(by cases hs)
 init:=LB.nil _ _ _
 initR:=fun s hs=>(by cases hs)
 fini:=LB.nil _ _ _
 finiR:=fun s hs=>(by cases hs)
 tls:=LB.nil _ _ _
 tlsSize:=⟨by decide,by decide⟩
theorem results_row_tmp {P:Program} {fn:Func} {p u:Tmp} {ty:TypeId} (h:fn.results=#[.cell p ty,.tmp u]) (tmps:Array Value) (w:World) (g:Nat) (t:TypeId) (cs:Array Value) (fr:Nat × Nat) (d:TypeDesc)
  (hp:tmps.getD p undef=.pointer (some ⟨g,0,none⟩)) (hg:w.heap[g]? =some (.cells cs t fr))
  (hu:P.underlying ty=some d) (hd:(match d with | .struct _ | .array _ _=>true | _=>false)=true) (hi:(P.info? ty).map (·.size)=some cs.size):
  (results fn tmps).run P w=.ok (.tuple #[.agg cs,tmps.getD u undef]) w:=by
 rw [results_cell_tmp h,hp]
 simp [asAddr,run_loadVar_row w g t ty cs fr d hg hu hd hi,Result.andThen]
theorem wrap_word (n:Int):IntKind.u64.wrap n=n%18446744073709551616:=by
 first | rfl | simp [IntKind.wrap] | (unfold IntKind.wrap;rfl)
theorem got_word {st st':Option (List UInt8)} {n:Int} (h:Got (numP 8) st n st') (hk:okN 8 n):Got wordP st (n%18446744073709551616) st'∧(0≤n%18446744073709551616∧n%18446744073709551616<18446744073709551616):=by
 refine⟨⟨h.1,fun l e=> ?_⟩,by omega⟩
 obtain⟨h1,h2⟩:=h.2 l e
 by_cases hl:8≤l.length
 ·have e1:numP 8 l=some (sgnL (valL (l.take 8)),l.drop 8):=by rw [numP,if_pos hl,if_pos rfl]
  have e2:wordP l=some ((valL (l.take 8):Int),l.drop 8):=by rw [wordP,if_pos hl]
  rw [e2]
  refine⟨fun h=>(by cases h),fun y t hy=> ?_⟩
  obtain⟨rfl,rfl⟩:=Prod.mk.inj (Option.some.inj hy)
  obtain⟨hn,hs⟩:=h2 _ _ e1
  refine⟨?_,hs⟩
  have hv:=valL_lt (l.take 8)
  rw [List.length_take,Nat.min_eq_left hl]at hv
  have hv:valL (l.take 8)<18446744073709551616:=hv
  rw [hn,sgnL]
  split<;>omega
 ·have e1:numP 8 l=none:=by rw [numP,if_neg hl]
  have e2:wordP l=none:=by rw [wordP,if_neg hl]
  rw [e2]
  exact⟨fun _=>h1 e1,fun y t hy=>(by cases hy)⟩
theorem setCell_row {w:World} {b k:Nat} {cs:Array Value} {t:TypeId} {fr:Nat × Nat} (u:Value) (h:w.heap[b]? =some (.cells cs t fr)):(w.setCell ⟨b,k,none⟩ u).heap[b]? =some (.cells (cs.setIfInBounds k u) t fr):=by
 simp [World.setCell,Array.getElem?_modify,h]
theorem row_of {w:World} {b:Nat} {l:List Value} {t:TypeId} {fr:Nat × Nat} (h:w.heap[b]? =some (.cells l.toArray t fr)):∀ j u,l[j]? =some u→w.cell? ⟨b,j,none⟩=some u:=by
 intro j u hu
 rw [Lib.cell_of_heap h]
 simpa using hu
theorem info_seg:(Tryz.prog.info? 57).map (fun i=>(i.zero,i.size,i.bytes))=some (some (.agg #[.int .i64 0,.int .i64 0,.slice none 0 0,.int .i64 0]),4,48):=by kernel_rfl
theorem info_need:(Tryz.prog.info? 67).map (fun i=>(i.zero,i.size,i.bytes))=some (some (.agg #[.string ⟨#[]⟩,.slice none 0 0]),2,40):=by kernel_rfl
theorem info_sym:(Tryz.prog.info? 72).map (fun i=>(i.zero,i.size,i.bytes))=some (some (.agg #[.string ⟨#[]⟩,.string ⟨#[]⟩,.bool false,.int .i64 0,.bool false,.int .i64 0,.bool false,.int .i64 0,.int .i64 0]),9,88):=by kernel_rfl
theorem info_reloc:(Tryz.prog.info? 53).map (fun i=>(i.zero,i.size,i.bytes))=some (some (.agg #[.int .i64 0,.int .i64 0,.int .i64 0,.int .i64 0]),4,32):=by kernel_rfl
theorem info_slot:(Tryz.prog.info? 76).map (fun i=>(i.zero,i.size,i.bytes))=some (some (.agg #[.int .i64 0,.int .i64 0,.int .i64 0]),3,24):=by kernel_rfl
theorem info_ints:(Tryz.prog.info? 38).map (fun i=>(i.zero,i.size,i.bytes))=some (some (.slice none 0 0),1,24):=by kernel_rfl
theorem info_word:(Tryz.prog.info? 74).map (fun i=>(i.zero,i.size,i.bytes))=some (some (.int .u64 0),1,8):=by kernel_rfl
theorem step_setRow (w:World) (g:Nat) (cs:Array Value):Step (fun x=>x≠g) w (w.setRow g cs):=⟨rfl,rfl,rfl,by simp,fun b hb=>setRow_other _ _ _ _ hb⟩
def decL (b:List UInt8):ImgL × Int:=match wholeP b with
 | none=>(emptyL,98)
 | some x=>if mayL x=0 then (x,0) else (emptyL,mayL x)
theorem LQ.done {α:Type} {e:TypeId} {K:Kind α} {p:List UInt8→Option (α × List UInt8)} {ok:α→Prop} {lb rb gb:Nat} {S0:Nat→Prop} {w0 w:World} {st0:Option (List UInt8)} {v:Value} {k:Nat} (B:Nat) (hB:B≤w0.heap.size) (h:LQ e K p ok lb rb gb S0 w0 st0 w v k):
  ∃ xs st,xs.length=k∧(∀ x∈xs,ok x)∧Got (manyP p k) st0 xs st∧LD lb rb gb w st∧Step (fun x=>x<w0.heap.size∧S0 x) w0 w∧LB K (fun b=>B≤b∧b<w.heap.size) w v xs:=by
 obtain⟨xs,st,h1,h2,h3,h4,h5,h6⟩:=h
 exact⟨xs,st,h2,h3,h4,h5,h6,h1.lb.imp (fun b hb=>⟨Nat.le_trans hB (Nat.le_of_not_lt hb.2),hb.1⟩)⟩
theorem LB.far {α:Type} {K:Kind α} {B B':Nat} {S:Nat→Prop} {w w':World} {v:Value} {l:List α} (h:LB K (fun b=>B≤b∧b<w.heap.size) w v l) (hs:Step S w w') (hS:∀ b,B≤b→b<w.heap.size→S b) (hB:B'≤B):LB K (fun b=>B'≤b∧b<w'.heap.size) w' v l:=
 (h.keeps (fun b hb=>hs.block b (hS b hb.1 hb.2))).imp (fun b hb=>⟨by omega,by have:=hs.size;omega⟩)
def codeOf (f:Func):Code:=f.body.getD .skip
def behind:Nat→Code→Code
 | 0,c=>c
 | n+1,.seq _ b=>behind n b
 | _+1,c=>c
def firstOf:Code→Code
 | .seq a _=>a
 | c=>c
def inBlk:Code→Code
 | .block _ c=>c
 | c=>c
def inLoop:Code→Code
 | .loop c=>c
 | c=>c
def dRest (f:Func) (n:Nat):Code:=behind n (codeOf f)
def dCode (f:Func) (n:Nat):Code:=firstOf (dRest f n)
def dReg (f:Func) (n:Nat):Code:=firstOf (inBlk (firstOf (behind 2 (inLoop (inBlk (behind 1 (dCode f n)))))))
def FrL (t:Array Value):List (Nat × Value)→Prop
 | []=>True
 | p :: l=>t.getD p.1 undef=p.2∧FrL t l
def Fr (xs:List (Nat × Value)) (a:Act):Prop:=a.tmps.size=332∧a.defers=[]∧FrL a.tmps xs
theorem lists_cons {n:Nat} {p:List Value→Prop} (h:∀ x t,t.length=n→p (x :: t)):∀ l:List Value,l.length=n+1→p l:=by
 intro l hl
 cases l with
 | nil=>cases hl
 | cons x t=>exact h x t (Nat.succ.inj hl)
theorem lists_nil {p:List Value→Prop} (h:p []):∀ l:List Value,l.length=0→p l:=by
 intro l hl
 cases l with
 | nil=>exact h
 | cons x t=>cases hl
theorem frames {p:List Value→Prop} (h:∀ V0 V1 V2 V3 V4 V5 V6 V7 V8 V9 V10 V11 V12 V13 V14 V15 V16 V17 V18 V19 V20 V21 V22 V23 V24 V25 V26 V27 V28 V29 V30 V31 V32 V33 V34 V35 V36 V37 V38 V39
  V40 V41 V42 V43 V44 V45 V46 V47 V48 V49 V50 V51 V52 V53 V54 V55 V56 V57 V58 V59 V60 V61 V62 V63 V64 V65 V66 V67 V68 V69 V70 V71 V72 V73 V74 V75 V76 V77 V78 V79
  V80 V81 V82 V83 V84 V85 V86 V87 V88 V89 V90 V91 V92 V93 V94 V95 V96 V97 V98 V99 V100 V101 V102 V103 V104 V105 V106 V107 V108 V109 V110 V111 V112 V113 V114 V115 V116 V117 V118 V119
  V120 V121 V122 V123 V124 V125 V126 V127 V128 V129 V130 V131 V132 V133 V134 V135 V136 V137 V138 V139 V140 V141 V142 V143 V144 V145 V146 V147 V148 V149 V150 V151 V152 V153 V154 V155 V156 V157 V158 V159
  V160 V161 V162 V163 V164 V165 V166 V167 V168 V169 V170 V171 V172 V173 V174 V175 V176 V177 V178 V179 V180 V181 V182 V183 V184 V185 V186 V187 V188 V189 V190 V191 V192 V193 V194 V195 V196 V197 V198 V199
  V200 V201 V202 V203 V204 V205 V206 V207 V208 V209 V210 V211 V212 V213 V214 V215 V216 V217 V218 V219 V220 V221 V222 V223 V224 V225 V226 V227 V228 V229 V230 V231 V232 V233 V234 V235 V236 V237 V238 V239
  V240 V241 V242 V243 V244 V245 V246 V247 V248 V249 V250 V251 V252 V253 V254 V255 V256 V257 V258 V259 V260 V261 V262 V263 V264 V265 V266 V267 V268 V269 V270 V271 V272 V273 V274 V275 V276 V277 V278 V279
  V280 V281 V282 V283 V284 V285 V286 V287 V288 V289 V290 V291 V292 V293 V294 V295 V296 V297 V298 V299 V300 V301 V302 V303 V304 V305 V306 V307 V308 V309 V310 V311 V312 V313 V314 V315 V316 V317 V318 V319
  V320 V321 V322 V323 V324 V325 V326 V327 V328 V329 V330 V331:Value,p [V0,V1,V2,V3,V4,V5,V6,V7,V8,V9,V10,V11,V12,V13,V14,V15,V16,V17,V18,V19,V20,V21,V22,V23,V24,V25,V26,V27,V28,V29,V30,V31,V32,V33,V34,V35,V36,V37,V38,V39,V40,V41,V42,V43,V44,V45,V46,V47,V48,V49,V50,V51,V52,V53,V54,V55,V56,V57,V58,V59,V60,V61,V62,V63,V64,V65,V66,V67,V68,V69,V70,V71,V72,V73,V74,V75,V76,V77,V78,V79,V80,V81,V82,V83,V84,V85,V86,V87,V88,V89,V90,V91,V92,V93,V94,V95,V96,V97,V98,V99,V100,V101,V102,V103,V104,V105,V106,V107,V108,V109,V110,V111,V112,V113,V114,V115,V116,V117,V118,V119,V120,V121,V122,V123,V124,V125,V126,V127,V128,V129,V130,V131,V132,V133,V134,V135,V136,V137,V138,V139,V140,V141,V142,V143,V144,V145,V146,V147,V148,V149,V150,V151,V152,V153,V154,V155,V156,V157,V158,V159,V160,V161,V162,V163,V164,V165,V166,V167,V168,V169,V170,V171,V172,V173,V174,V175,V176,V177,V178,V179,V180,V181,V182,V183,V184,V185,V186,V187,V188,V189,V190,V191,V192,V193,V194,V195,V196,V197,V198,V199,V200,V201,V202,V203,V204,V205,V206,V207,V208,V209,V210,V211,V212,V213,V214,V215,V216,V217,V218,V219,V220,V221,V222,V223,V224,V225,V226,V227,V228,V229,V230,V231,V232,V233,V234,V235,V236,V237,V238,V239,V240,V241,V242,V243,V244,V245,V246,V247,V248,V249,V250,V251,V252,V253,V254,V255,V256,V257,V258,V259,V260,V261,V262,V263,V264,V265,V266,V267,V268,V269,V270,V271,V272,V273,V274,V275,V276,V277,V278,V279,V280,V281,V282,V283,V284,V285,V286,V287,V288,V289,V290,V291,V292,V293,V294,V295,V296,V297,V298,V299,V300,V301,V302,V303,V304,V305,V306,V307,V308,V309,V310,V311,V312,V313,V314,V315,V316,V317,V318,V319,V320,V321,V322,V323,V324,V325,V326,V327,V328,V329,V330,V331]):∀ l:List Value,l.length=332→p l:=by
 iterate 332 (refine lists_cons (fun _=> ?_))
 exact lists_nil (h _ _ _ _ _ _ _ _ _ _ _ _ _ _ _ _ _ _ _ _ _ _ _ _ _ _ _ _ _ _ _ _ _ _ _ _ _ _ _ _
  _ _ _ _ _ _ _ _ _ _ _ _ _ _ _ _ _ _ _ _ _ _ _ _ _ _ _ _ _ _ _ _ _ _ _ _ _ _ _ _
  _ _ _ _ _ _ _ _ _ _ _ _ _ _ _ _ _ _ _ _ _ _ _ _ _ _ _ _ _ _ _ _ _ _ _ _ _ _ _ _
  _ _ _ _ _ _ _ _ _ _ _ _ _ _ _ _ _ _ _ _ _ _ _ _ _ _ _ _ _ _ _ _ _ _ _ _ _ _ _ _
  _ _ _ _ _ _ _ _ _ _ _ _ _ _ _ _ _ _ _ _ _ _ _ _ _ _ _ _ _ _ _ _ _ _ _ _ _ _ _ _
  _ _ _ _ _ _ _ _ _ _ _ _ _ _ _ _ _ _ _ _ _ _ _ _ _ _ _ _ _ _ _ _ _ _ _ _ _ _ _ _
  _ _ _ _ _ _ _ _ _ _ _ _ _ _ _ _ _ _ _ _ _ _ _ _ _ _ _ _ _ _ _ _ _ _ _ _ _ _ _ _
  _ _ _ _ _ _ _ _ _ _ _ _ _ _ _ _ _ _ _ _ _ _ _ _ _ _ _ _ _ _ _ _ _ _ _ _ _ _ _ _
  _ _ _ _ _ _ _ _ _ _ _ _)
theorem Fr.elim {xs:List (Nat × Value)} {a:Act} {C:Act→Prop} (h:Fr xs a) (k:∀ V0 V1 V2 V3 V4 V5 V6 V7 V8 V9 V10 V11 V12 V13 V14 V15 V16 V17 V18 V19 V20 V21 V22 V23 V24 V25 V26 V27 V28 V29 V30 V31 V32 V33 V34 V35 V36 V37 V38 V39
  V40 V41 V42 V43 V44 V45 V46 V47 V48 V49 V50 V51 V52 V53 V54 V55 V56 V57 V58 V59 V60 V61 V62 V63 V64 V65 V66 V67 V68 V69 V70 V71 V72 V73 V74 V75 V76 V77 V78 V79
  V80 V81 V82 V83 V84 V85 V86 V87 V88 V89 V90 V91 V92 V93 V94 V95 V96 V97 V98 V99 V100 V101 V102 V103 V104 V105 V106 V107 V108 V109 V110 V111 V112 V113 V114 V115 V116 V117 V118 V119
  V120 V121 V122 V123 V124 V125 V126 V127 V128 V129 V130 V131 V132 V133 V134 V135 V136 V137 V138 V139 V140 V141 V142 V143 V144 V145 V146 V147 V148 V149 V150 V151 V152 V153 V154 V155 V156 V157 V158 V159
  V160 V161 V162 V163 V164 V165 V166 V167 V168 V169 V170 V171 V172 V173 V174 V175 V176 V177 V178 V179 V180 V181 V182 V183 V184 V185 V186 V187 V188 V189 V190 V191 V192 V193 V194 V195 V196 V197 V198 V199
  V200 V201 V202 V203 V204 V205 V206 V207 V208 V209 V210 V211 V212 V213 V214 V215 V216 V217 V218 V219 V220 V221 V222 V223 V224 V225 V226 V227 V228 V229 V230 V231 V232 V233 V234 V235 V236 V237 V238 V239
  V240 V241 V242 V243 V244 V245 V246 V247 V248 V249 V250 V251 V252 V253 V254 V255 V256 V257 V258 V259 V260 V261 V262 V263 V264 V265 V266 V267 V268 V269 V270 V271 V272 V273 V274 V275 V276 V277 V278 V279
  V280 V281 V282 V283 V284 V285 V286 V287 V288 V289 V290 V291 V292 V293 V294 V295 V296 V297 V298 V299 V300 V301 V302 V303 V304 V305 V306 V307 V308 V309 V310 V311 V312 V313 V314 V315 V316 V317 V318 V319
  V320 V321 V322 V323 V324 V325 V326 V327 V328 V329 V330 V331:Value,Fr xs ⟨#[V0,V1,V2,V3,V4,V5,V6,V7,V8,V9,V10,V11,V12,V13,V14,V15,V16,V17,V18,V19,V20,V21,V22,V23,V24,V25,V26,V27,V28,V29,V30,V31,V32,V33,V34,V35,V36,V37,V38,V39,V40,V41,V42,V43,V44,V45,V46,V47,V48,V49,V50,V51,V52,V53,V54,V55,V56,V57,V58,V59,V60,V61,V62,V63,V64,V65,V66,V67,V68,V69,V70,V71,V72,V73,V74,V75,V76,V77,V78,V79,V80,V81,V82,V83,V84,V85,V86,V87,V88,V89,V90,V91,V92,V93,V94,V95,V96,V97,V98,V99,V100,V101,V102,V103,V104,V105,V106,V107,V108,V109,V110,V111,V112,V113,V114,V115,V116,V117,V118,V119,V120,V121,V122,V123,V124,V125,V126,V127,V128,V129,V130,V131,V132,V133,V134,V135,V136,V137,V138,V139,V140,V141,V142,V143,V144,V145,V146,V147,V148,V149,V150,V151,V152,V153,V154,V155,V156,V157,V158,V159,V160,V161,V162,V163,V164,V165,V166,V167,V168,V169,V170,V171,V172,V173,V174,V175,V176,V177,V178,V179,V180,V181,V182,V183,V184,V185,V186,V187,V188,V189,V190,V191,V192,V193,V194,V195,V196,V197,V198,V199,V200,V201,V202,V203,V204,V205,V206,V207,V208,V209,V210,V211,V212,V213,V214,V215,V216,V217,V218,V219,V220,V221,V222,V223,V224,V225,V226,V227,V228,V229,V230,V231,V232,V233,V234,V235,V236,V237,V238,V239,V240,V241,V242,V243,V244,V245,V246,V247,V248,V249,V250,V251,V252,V253,V254,V255,V256,V257,V258,V259,V260,V261,V262,V263,V264,V265,V266,V267,V268,V269,V270,V271,V272,V273,V274,V275,V276,V277,V278,V279,V280,V281,V282,V283,V284,V285,V286,V287,V288,V289,V290,V291,V292,V293,V294,V295,V296,V297,V298,V299,V300,V301,V302,V303,V304,V305,V306,V307,V308,V309,V310,V311,V312,V313,V314,V315,V316,V317,V318,V319,V320,V321,V322,V323,V324,V325,V326,V327,V328,V329,V330,V331],[]⟩→C ⟨#[V0,V1,V2,V3,V4,V5,V6,V7,V8,V9,V10,V11,V12,V13,V14,V15,V16,V17,V18,V19,V20,V21,V22,V23,V24,V25,V26,V27,V28,V29,V30,V31,V32,V33,V34,V35,V36,V37,V38,V39,V40,V41,V42,V43,V44,V45,V46,V47,V48,V49,V50,V51,V52,V53,V54,V55,V56,V57,V58,V59,V60,V61,V62,V63,V64,V65,V66,V67,V68,V69,V70,V71,V72,V73,V74,V75,V76,V77,V78,V79,V80,V81,V82,V83,V84,V85,V86,V87,V88,V89,V90,V91,V92,V93,V94,V95,V96,V97,V98,V99,V100,V101,V102,V103,V104,V105,V106,V107,V108,V109,V110,V111,V112,V113,V114,V115,V116,V117,V118,V119,V120,V121,V122,V123,V124,V125,V126,V127,V128,V129,V130,V131,V132,V133,V134,V135,V136,V137,V138,V139,V140,V141,V142,V143,V144,V145,V146,V147,V148,V149,V150,V151,V152,V153,V154,V155,V156,V157,V158,V159,V160,V161,V162,V163,V164,V165,V166,V167,V168,V169,V170,V171,V172,V173,V174,V175,V176,V177,V178,V179,V180,V181,V182,V183,V184,V185,V186,V187,V188,V189,V190,V191,V192,V193,V194,V195,V196,V197,V198,V199,V200,V201,V202,V203,V204,V205,V206,V207,V208,V209,V210,V211,V212,V213,V214,V215,V216,V217,V218,V219,V220,V221,V222,V223,V224,V225,V226,V227,V228,V229,V230,V231,V232,V233,V234,V235,V236,V237,V238,V239,V240,V241,V242,V243,V244,V245,V246,V247,V248,V249,V250,V251,V252,V253,V254,V255,V256,V257,V258,V259,V260,V261,V262,V263,V264,V265,V266,V267,V268,V269,V270,V271,V272,V273,V274,V275,V276,V277,V278,V279,V280,V281,V282,V283,V284,V285,V286,V287,V288,V289,V290,V291,V292,V293,V294,V295,V296,V297,V298,V299,V300,V301,V302,V303,V304,V305,V306,V307,V308,V309,V310,V311,V312,V313,V314,V315,V316,V317,V318,V319,V320,V321,V322,V323,V324,V325,V326,V327,V328,V329,V330,V331],[]⟩):C a:=by
 obtain⟨⟨l⟩,d⟩:=a
 obtain⟨h1,h2,h3⟩:=h
 dsimp only at h2
 subst h2
 exact frames (p:=fun l=>Fr xs ⟨⟨l⟩,[]⟩→C ⟨⟨l⟩,[]⟩) k l h1 ⟨h1,rfl,h3⟩
theorem FrL.get {t:Array Value}:∀ {l:List (Nat × Value)},FrL t l→∀ p∈l,t.getD p.1 undef=p.2
 | _ :: _,h,p,hp=>by
  cases hp with
  | head=>exact h.1
  | tail _ hp=>exact FrL.get h.2 p hp
theorem wp_loop_n {P:Program} {c:Code} {Q:Exit→Act→World→Prop} {a:Act} {w:World} {k m:Nat} (I:Nat→Act→World→Prop) (hc:∀ q a w,I q a w→q≤m∧a.tmps.getD k undef=.int .i64 q) (h0:I 0 a w)
  (round:∀ q a w K,q≤m→I q a w→(∀ a' w',q<m→I (q+1) a' w'→K a' w')→c.wp P (Exit.then K Q) a w):(Code.loop c).wp P Q a w:=by
 refine wp_loop (fun a w=>∃ q,I q a w) (fun a _=>m-(intOf (a.tmps.getD k undef)).toNat) ⟨0,h0⟩ ?_
 rintro a w ⟨q,hI⟩
 obtain⟨hq,hk⟩:=hc q a w hI
 refine round q a w _ hq hI (fun a' w' hlt hI'=>⟨⟨q+1,hI'⟩,?_⟩)
 obtain⟨hq',hk'⟩:=hc _ _ _ hI'
 rw [hk,hk']
 show m-(((q+1:Nat):Int)).toNat<m-((q:Nat):Int).toNat
 omega
theorem d_seq (f:Func) (n:Nat) (h:(match dRest f n with | .seq _ _=>true | _=>false)=true):dRest f n=.seq (dCode f n) (dRest f (n+1)):=by
 have hb:∀ n c,behind (n+1) c=behind 1 (behind n c):=by
  intro n
  induction n with
  | zero=>intro c;rfl
  | succ n ih=>
   intro c
   cases c with
   | seq a b=>exact ih b
   | _=>rfl
 unfold dCode
 unfold dRest at h ⊢
 rw [hb n]
 generalize behind n (codeOf f)=c at h ⊢
 cases c with
 | seq a b=>rfl
 | _=>cases h
end Go.Proofs.YtfchpchabdhcgaaGreat
namespace Go.Proofs.YtfchpchabdhcgaaGreat
open Go.RowKit
theorem setCell_listX {w:World} {pb:Nat} {xs:List Value} {t:TypeId} (h:w.heap[pb]? =some (.cells xs.toArray t (0,0))) (i:Nat) (u:Value):(w.setCell ⟨pb,i,none⟩ u).heap[pb]? =some (.cells (xs.set i u).toArray t (0,0)):=by
 simp [World.setCell,Array.getElem?_modify,h]
theorem Got.anyv {α:Type} {p:List UInt8→Option (α × List UInt8)} {st:Option (List UInt8)} {x:α} (h:Got p st x none) (y:α):Got p st y none:=
 ⟨fun _=>rfl,fun l e=>⟨fun _=>rfl,fun z t hz=>absurd ((h.2 l e).2 z t hz).2 (by simp)⟩⟩
theorem Got.fine {α:Type} (f:Bool) (x:α) (st:Option (List UInt8)):Got (fun t=>if f=true then some (x,t) else none) st x (estS f st):=by
 cases f with
 | true=>exact Got.pure _ _
 | false=>exact⟨fun _=>rfl,fun l e=>⟨fun _=>rfl,fun y t h=>by simp at h⟩⟩
theorem many_two {α β:Type} (p:List UInt8→Option (α × List UInt8)) (d:α) (k:α→α→List UInt8→Option (β × List UInt8)):(bindP p fun a=>bindP p fun b=>k a b)=bindP (manyP p 2) fun l=>k (l.getD 0 d) (l.getD 1 d):=by
 funext l
 simp only [manyP,bindP]
 rcases p l with _ | ⟨a,t⟩
 ·rfl
 simp only
 rcases p t with _ | ⟨b,t⟩<;>rfl
theorem many_three {α β:Type} (p:List UInt8→Option (α × List UInt8)) (d:α) (k:α→α→α→List UInt8→Option (β × List UInt8)):(bindP p fun a=>bindP p fun b=>bindP p fun c=>k a b c)=bindP (manyP p 3) fun l=>k (l.getD 0 d) (l.getD 1 d) (l.getD 2 d):=by
 funext l
 simp only [manyP,bindP]
 rcases p l with _ | ⟨a,t⟩
 ·rfl
 simp only
 rcases p t with _ | ⟨b,t⟩
 ·rfl
 simp only
 rcases p t with _ | ⟨c,t⟩<;>rfl
def fineL (n:List Int):Bool:=decide (n.getD 2 0<2)&&decide (n.getD 3 0<2)&&decide (n.getD 4 0<2)
def symMk (a b:List UInt8) (n v:List Int):SymL:=⟨a,b,n.getD 2 0==1,n.getD 0 0,n.getD 3 0==1,n.getD 1 0,n.getD 4 0==1,v.getD 0 0,v.getD 1 0⟩
theorem symP_eq:symP=bindP textP fun a=>bindP textP fun b=>bindP (manyP (numP 1) 5) fun n=>bindP (manyP (numP 8) 2) fun v t=>if fineL n=true then some (symMk a b n v,t) else none:=by
 funext l
 simp only [symP,bitP,manyP,bindP]
 rcases textP l with _ | ⟨a,t⟩
 ·rfl
 simp only
 rcases textP t with _ | ⟨b,t⟩
 ·rfl
 simp only
 rcases numP 1 t with _ | ⟨n0,t⟩
 ·rfl
 simp only
 rcases numP 1 t with _ | ⟨n1,t⟩
 ·rfl
 simp only
 rcases numP 1 t with _ | ⟨n2,t⟩
 ·rfl
 simp only
 by_cases h2:1<n2
 ·rcases numP 1 t with _ | ⟨n3,t⟩
  ·simp [h2]
  simp only
  rcases numP 1 t with _ | ⟨n4,t⟩
  ·simp [h2]
  simp only
  rcases numP 8 t with _ | ⟨v0,t⟩
  ·simp [h2]
  simp only
  rcases numP 8 t with _ | ⟨v1,t⟩
  ·simp [h2]
  have e:fineL [n0,n1,n2,n3,n4]=false:=by simp only [fineL,List.getD_cons_succ,List.getD_cons_zero];rw [decide_eq_false (by omega)];rfl
  simp [h2,e]
 rw [if_neg h2]
 simp only
 rcases numP 1 t with _ | ⟨n3,t⟩
 ·rfl
 simp only
 by_cases h3:1<n3
 ·rcases numP 1 t with _ | ⟨n4,t⟩
  ·simp [h3]
  simp only
  rcases numP 8 t with _ | ⟨v0,t⟩
  ·simp [h3]
  simp only
  rcases numP 8 t with _ | ⟨v1,t⟩
  ·simp [h3]
  have e:fineL [n0,n1,n2,n3,n4]=false:=by simp only [fineL,List.getD_cons_succ,List.getD_cons_zero];rw [decide_eq_false (p:=n3<2) (by omega)];simp
  simp [h3,e]
 rw [if_neg h3]
 simp only
 rcases numP 1 t with _ | ⟨n4,t⟩
 ·rfl
 simp only
 by_cases h4:1<n4
 ·rcases numP 8 t with _ | ⟨v0,t⟩
  ·simp [h4]
  simp only
  rcases numP 8 t with _ | ⟨v1,t⟩
  ·simp [h4]
  have e:fineL [n0,n1,n2,n3,n4]=false:=by simp only [fineL,List.getD_cons_succ,List.getD_cons_zero];rw [decide_eq_false (p:=n4<2) (by omega)];simp
  simp [h4,e]
 rw [if_neg h4]
 simp only
 rcases numP 8 t with _ | ⟨v0,t⟩
 ·rfl
 simp only
 rcases numP 8 t with _ | ⟨v1,t⟩
 ·rfl
 have e:fineL [n0,n1,n2,n3,n4]=true:=by simp only [fineL,List.getD_cons_succ,List.getD_cons_zero];rw [decide_eq_true (by omega),decide_eq_true (by omega),decide_eq_true (by omega)];rfl
 simp only [e,if_true]
 rfl
theorem LX.shrunk {α:Type} {e:TypeId} {K:Kind α} {p:List UInt8→Option (α × List UInt8)} {ok:α→Prop} {b gb:Nat} {w0 w:World} {st0 st:Option (List UInt8)} {n:Nat} {v:Value} {xs:List α} (h:LX e K p ok b gb w0 st0 n w v xs st) (hl:xs.length<n):st=none:=by
 cases hs:st with
 | none=>rfl
 | some l=>
  have:=h.all (by rw [hs];simp)
  omega
theorem OwnK.rowx {α:Type} {e:TypeId} {K:Kind α} {B:Nat} {E:Nat→Prop} {w:World} {v:Value} {l:List α} {f:α→Value} (hp:Plain K f) (h:OwnK e K B E w v l) (h0:0<l.length):
  ∃ g cap cur,v=.slice (some ⟨g,0,none⟩) l.length cap∧B≤g∧w.heap[g]? =some (.cells cur e (0,0))∧l.length≤cap∧∀ (i:Nat) (x:α),l[i]? =some x→w.cell? ⟨g,i,none⟩=some (f x):=by
 have hr:=h.plain_row hp
 have hc:=fun g hg=>World.ownsRow.cells hr (g:=g) hg
 rcases hr.2 with ⟨_,hz⟩ | ⟨g,cap,cur,rfl,hg,hh,hle,_⟩
 ·omega
 ·refine⟨g,cap,cur,rfl,hg,hh,hle,fun i x hx=> ?_⟩
  have:=hc g rfl i (f x) (by rw [List.getElem?_map,hx];rfl)
  simpa [Addr.add_lit] using this
theorem OwnK.words {B:Nat} {E:Nat→Prop} {w:World} {v:Value} {l:List Int} (h:OwnK 3 kInt B E w v l) (h0:0<l.length):
  ∃ g c,v=.slice (some ⟨g,0,none⟩) l.length c∧B≤g∧g<w.heap.size∧l.length≤c∧∀ i,i<l.length→w.cell? ⟨g,i,none⟩=some (.int .i64 (l.getD i 0)):=by
 obtain⟨g,cap,cur,hv,hg,hh,hc,hw⟩:=h.rowx plain_int h0
 refine⟨g,cap,hv,hg,?_,hc,fun i hi=> ?_⟩
 ·rcases Nat.lt_or_ge g w.heap.size with h | h
  ·exact h
  ·rw [Array.getElem?_eq_none h]at hh;cases hh
 ·have:=hw i (l.getD i 0) (by rw [List.getD_eq_getElem?_getD,List.getElem?_eq_getElem hi];rfl)
  exact this
theorem okSym_ok {s:SymL} (h:okSym s):SymOk s:=by
 obtain⟨h1,h2,h3,h4,h5,h6⟩:=h
 simp [okN]at h3 h4 h5 h6
 exact⟨by omega,by omega,by omega,by omega,by omega,by omega⟩
theorem okN_getD {size:Nat} {l:List Int} (h:∀ x∈l,okN size x) (i:Nat) (hl:i<l.length):okN size (l.getD i 0):=by
 rw [List.getD_eq_getElem?_getD]
 cases hi:l[i]? with
 | none=>rw [List.getElem?_eq_getElem hl]at hi;cases hi
 | some x=>exact h x (List.mem_of_getElem? hi)
theorem zsymbol_any (w:World) (b gb:Nat) (st:Option (List UInt8)) (h:RX b gb w st):
  Calls Tryz.prog 50 #[.pointer (some ⟨b,0,none⟩)] w fun e w'=>∃ x fine st',e=.returned (.tuple #[.agg (symCells x).toArray,.bool fine])∧okSym x∧Got symP st x (estS fine st')∧RX b gb w' st'∧Step (fun y=>y<w.heap.size∧y≠b) w w':=by
 have hbl:=h.lt
 have hgl:=h.gblt
 obtain⟨oz,hoz⟩:∃ oz:Obj,oz=.cells #[.string ⟨#[]⟩,.string ⟨#[]⟩,.bool false,.int .i64 0,.bool false,.int .i64 0,.bool false,.int .i64 0,.int .i64 0] 72 (0,0):=⟨_,rfl⟩
 have H0:=Lib.hid ((h.alloc oz).alloc oz)
 have T0:=Lib.hid (((Step.refl (fun y=>y<w.heap.size∧y≠b) w).alloc (fun y hy=>hy.1) oz).alloc (fun y hy=>by have:=hy.1;rw [World.size_alloc];omega) oz)
 have FR0:=Lib.hid ((heap_alloc_old (w.alloc oz) oz (r:=w.heap.size) (by simp)).trans (heap_alloc_new w oz))
 have FS0:Hid (((w.alloc oz).alloc oz).heap[w.heap.size+1]? =some oz):=Lib.hid (by have h:=heap_alloc_new (w.alloc oz) oz;rwa [World.size_alloc]at h)
 have hsb:w.heap.size<w.heap.size+1:=by omega
 have hlt0:w.heap.size+1<((w.alloc oz).alloc oz).heap.size:=by simp
 clear h
 go_enter Tryz.func50,Tryz.ntmps50
 go_upto_region 2 with fail
 rw [← hoz]
 generalize (w.alloc oz).alloc oz=v0 at *
 generalize w.heap.size+1=sb at *
 subst hoz
 have hsbb:sb≠b:=by omega
 have hsbg:gb≠sb:=by omega
 have hrb:w.heap.size≠b:=by omega
 have hrs:w.heap.size≠sb:=by omega
 have HN:=Lib.hid (ytext_any v0 b gb st H0.out)
 have hgn:=got_part st 2 4096 (by decide)
 have hno:=partS_len st 2 4096 (by decide)
 obtain⟨xa,ha⟩:∃ x,x=(partS st 2 4096).1:=⟨_,rfl⟩
 obtain⟨s1,hs1⟩:∃ x,x=(partS st 2 4096).2:=⟨_,rfl⟩
 rw [← ha,← hs1]at HN hgn
 rw [← ha]at hno
 have G1:=Lib.hid hgn
 have K1:=Lib.hid hno
 clear hgn hno ha hs1
 go_wp2_with fail
 refine HN.out.mono ?_
 clear HN
 rintro e v1 ⟨rfl,hr,hs,hz⟩
 have H1:=Lib.hid hr
 have T1:=Lib.hid (T0.out.trans (hs.imp (S':=fun y=>y<w.heap.size∧y≠b) (fun _ h=>h.2)))
 have FS1:=Lib.hid ((hs.block sb hsbb).trans FS0.out)
 have FR1:=Lib.hid ((hs.block w.heap.size hrb).trans FR0.out)
 have hlt1:sb<v1.heap.size:=by omega
 clear hr hs hz H0 T0 FS0 FR0 hlt0
 have cS:v1.cell? ⟨sb,0,none⟩=some (.string ⟨#[]⟩):=by rw [Lib.cell_of_heap FS1.out];rfl
 have fS:v1.frozen? ⟨sb,0,none⟩=false:=Lib.frozen_of_heap FS1.out 0
 go_upto_region 3 with fail
 have hs:Step (fun x=>x≠sb) v1 (v1.setCell ⟨sb,0,none⟩ (.string ⟨xa.toArray⟩)):=(Step.refl _ v1).setCell (fun h=>h rfl) _
 have H2:=Lib.hid (H1.out.step hs (by show b≠sb;omega) (by show gb≠sb;omega))
 have T2:=Lib.hid (T1.out.trans (hs.imp (S':=fun y=>y<w.heap.size∧y≠b) (fun y h=>by have:=h.1;show y≠sb;omega)))
 have FS2:Hid ((v1.setCell ⟨sb,0,none⟩ (.string ⟨xa.toArray⟩)).heap[sb]? =some (.cells #[.string ⟨xa.toArray⟩,.string ⟨#[]⟩,.bool false,.int .i64 0,.bool false,.int .i64 0,.bool false,.int .i64 0,.int .i64 0] 72 (0,0))):=Lib.hid (setCell_listX FS1.out 0 (.string ⟨xa.toArray⟩))
 have FR2:=Lib.hid ((hs.block w.heap.size hrs).trans FR1.out)
 have hlt2:sb<(v1.setCell ⟨sb,0,none⟩ (.string ⟨xa.toArray⟩)).heap.size:=by simpa using hlt1
 clear cS fS hs H1 T1 FS1 FR1 hlt1
 generalize v1.setCell ⟨sb,0,none⟩ (.string ⟨xa.toArray⟩)=v2 at *
 have HN:=Lib.hid (ytext_any v2 b gb s1 H2.out)
 have hgn:=got_part s1 2 4096 (by decide)
 have hno:=partS_len s1 2 4096 (by decide)
 obtain⟨xb,ha⟩:∃ x,x=(partS s1 2 4096).1:=⟨_,rfl⟩
 obtain⟨s2,hs1⟩:∃ x,x=(partS s1 2 4096).2:=⟨_,rfl⟩
 rw [← ha,← hs1]at HN hgn
 rw [← ha]at hno
 have G2:=Lib.hid hgn
 have K2:=Lib.hid hno
 clear hgn hno ha hs1
 go_wp2_with fail
 refine HN.out.mono ?_
 clear HN
 rintro e v3 ⟨rfl,hr,hs,hz⟩
 have H3:=Lib.hid hr
 have T3:=Lib.hid (T2.out.trans (hs.imp (S':=fun y=>y<w.heap.size∧y≠b) (fun _ h=>h.2)))
 have FS3:=Lib.hid ((hs.block sb hsbb).trans FS2.out)
 have FR3:=Lib.hid ((hs.block w.heap.size hrb).trans FR2.out)
 have hlt3:sb<v3.heap.size:=by omega
 clear hr hs hz H2 T2 FS2 FR2 hlt2
 have cS:v3.cell? ⟨sb,1,none⟩=some (.string ⟨#[]⟩):=by rw [Lib.cell_of_heap FS3.out];rfl
 have fS:v3.frozen? ⟨sb,1,none⟩=false:=Lib.frozen_of_heap FS3.out 1
 go_upto_region 4 with fail
 have hs:Step (fun x=>x≠sb) v3 (v3.setCell ⟨sb,1,none⟩ (.string ⟨xb.toArray⟩)):=(Step.refl _ v3).setCell (fun h=>h rfl) _
 have H4:=Lib.hid (H3.out.step hs (by show b≠sb;omega) (by show gb≠sb;omega))
 have T4:=Lib.hid (T3.out.trans (hs.imp (S':=fun y=>y<w.heap.size∧y≠b) (fun y h=>by have:=h.1;show y≠sb;omega)))
 have FS4:Hid ((v3.setCell ⟨sb,1,none⟩ (.string ⟨xb.toArray⟩)).heap[sb]? =some (.cells #[.string ⟨xa.toArray⟩,.string ⟨xb.toArray⟩,.bool false,.int .i64 0,.bool false,.int .i64 0,.bool false,.int .i64 0,.int .i64 0] 72 (0,0))):=Lib.hid (setCell_listX FS3.out 1 (.string ⟨xb.toArray⟩))
 have FR4:=Lib.hid ((hs.block w.heap.size hrs).trans FR3.out)
 have hlt4:sb<(v3.setCell ⟨sb,1,none⟩ (.string ⟨xb.toArray⟩)).heap.size:=by simpa using hlt3
 clear cS fS hs H3 T3 FS3 FR3 hlt3
 generalize v3.setCell ⟨sb,1,none⟩ (.string ⟨xb.toArray⟩)=v4 at *
 have HN:=Lib.hid (zlist_any v4 b gb s2 5 1 H4.out (by decide) (by decide))
 go_wp2_with fail
 refine HN.out.mono ?_
 clear HN
 rintro e v5 ⟨yn,ns,s3,rfl,hq⟩
 have hs:=hq.step
 have HLa:=Lib.hid hq
 have H5:=Lib.hid hq.rd
 have T5:=Lib.hid (T4.out.trans (hs.imp (S':=fun y=>y<w.heap.size∧y≠b) (fun _ h=>⟨by have:=h.1;omega,h.2⟩)))
 have FS5:=Lib.hid ((hs.block sb ⟨by omega,hsbb⟩).trans FS4.out)
 have FR5:=Lib.hid ((hs.block w.heap.size ⟨by omega,hrb⟩).trans FR4.out)
 have hzza:=hs.size
 have hlt5:sb<v5.heap.size:=by omega
 clear hq hs H4 T4 FS4 FR4
 have HN:=Lib.hid (zlist_any v5 b gb s3 2 8 H5.out (by decide) (by decide))
 go_wp2_with fail
 refine HN.out.mono ?_
 clear HN
 rintro e v6 ⟨yv,vs,s4,rfl,hq⟩
 have hs:=hq.step
 have HLb:=Lib.hid hq
 have H6:=Lib.hid hq.rd
 have T6:=Lib.hid (T5.out.trans (hs.imp (S':=fun y=>y<w.heap.size∧y≠b) (fun _ h=>⟨by have:=h.1;omega,h.2⟩)))
 have FS6:=Lib.hid ((hs.block sb ⟨by omega,hsbb⟩).trans FS5.out)
 have FR6:=Lib.hid ((hs.block w.heap.size ⟨by omega,hrb⟩).trans FR5.out)
 have hzzb:=hs.size
 have hlt6:sb<v6.heap.size:=by omega
 have HO1:=Lib.hid (HLa.out.own.step hs (fun y h1 h2=>⟨h1,fun e=>h2 (by rw [e];show b<_;omega)⟩))
 have HO2:=Lib.hid hq.own
 have hn5:=HLa.out.le
 have hv2:=HLb.out.le
 obtain⟨na,nc,hyn⟩:=HO1.out.form
 obtain⟨va,vc,hyv⟩:=HO2.out.form
 obtain⟨nn,hnn⟩:∃ n,n=ns.length:=⟨_,rfl⟩
 obtain⟨nv,hnv⟩:∃ n,n=vs.length:=⟨_,rfl⟩
 have HG:Hid (Got symP st (symMk xa xb ns vs) (estS (fineL ns) s4)):=Lib.hid (by rw [symP_eq];exact G1.out.bind (G2.out.bind (HLa.out.got.bind (HLb.out.got.bind (Got.fine (fineL ns) (symMk xa xb ns vs) s4)))))
 have Hnn:=Lib.hid hnn
 have Hnv:=Lib.hid hnv
 rw [← hnn]at hyn hn5
 rw [← hnv]at hyv hv2
 subst hyn hyv
 clear hq hs H5 T5 FS5 FR5 hnn hnv
 by_cases hn:nn<5
 ·have hd:decide ((nn:Int)<5)=true:=by rw [decide_eq_true_eq];omega
  have hx:Hid (s4=none):=Lib.hid (HLb.out.got.1 (HLa.out.shrunk (by have:=Hnn.out;omega)))
  have HGn:=Lib.hid HG.out
  rw [hx.out,estS_none]at HGn
  have e0:v6.cell? ⟨sb,0,none⟩=some (.string ⟨xa.toArray⟩):=by rw [Lib.cell_of_heap FS6.out];rfl
  have e1:v6.cell? ⟨sb,1,none⟩=some (.string ⟨xb.toArray⟩):=by rw [Lib.cell_of_heap FS6.out];rfl
  have e2:v6.cell? ⟨sb,2,none⟩=some (.bool false):=by rw [Lib.cell_of_heap FS6.out];rfl
  have e3:v6.cell? ⟨sb,3,none⟩=some (.int .i64 0):=by rw [Lib.cell_of_heap FS6.out];rfl
  have e4:v6.cell? ⟨sb,4,none⟩=some (.bool false):=by rw [Lib.cell_of_heap FS6.out];rfl
  have e5:v6.cell? ⟨sb,5,none⟩=some (.int .i64 0):=by rw [Lib.cell_of_heap FS6.out];rfl
  have e6:v6.cell? ⟨sb,6,none⟩=some (.bool false):=by rw [Lib.cell_of_heap FS6.out];rfl
  have e7:v6.cell? ⟨sb,7,none⟩=some (.int .i64 0):=by rw [Lib.cell_of_heap FS6.out];rfl
  have e8:v6.cell? ⟨sb,8,none⟩=some (.int .i64 0):=by rw [Lib.cell_of_heap FS6.out];rfl
  go_wp2_with (refine wpList_store_row rfl 72 (.tmp 2) (.tmp 25) rfl w.heap.size (#[.string ⟨xa.toArray⟩,.string ⟨xb.toArray⟩,.bool false,.int .i64 0,.bool false,.int .i64 0,.bool false,.int .i64 0,.int .i64 0]) rfl rfl _ _ FR6.out (by kernel_rfl) rfl (by simp [Value.oneCell']) ?_)
  have FRR:=Lib.hid (setRow_heap _ w.heap.size _ (#[.string ⟨xa.toArray⟩,.string ⟨xb.toArray⟩,.bool false,.int .i64 0,.bool false,.int .i64 0,.bool false,.int .i64 0,.int .i64 0]) _ _ FR6.out)
  have hsr:Step (fun x=>x≠w.heap.size) v6 (v6.setRow w.heap.size (#[.string ⟨xa.toArray⟩,.string ⟨xb.toArray⟩,.bool false,.int .i64 0,.bool false,.int .i64 0,.bool false,.int .i64 0,.int .i64 0])):=⟨rfl,rfl,rfl,by simp,fun x hx=>setRow_other _ _ _ _ hx⟩
  have HR:=Lib.hid (H6.out.step hsr (by show b≠_;omega) (by show gb≠_;omega))
  have TR:=Lib.hid (T6.out.trans (hsr.imp (S':=fun y=>y<w.heap.size∧y≠b) (fun y h=>by have:=h.1;show y≠w.heap.size;omega)))
  clear hsr
  go_wp2_with fail
  refine bodyPost_ret (results_row_tmp rfl _ _ w.heap.size _ _ _ _ rfl FRR.out Tryz.underlying72 rfl (by kernel_rfl)) rfl ?_
  exact⟨⟨xa,xb,false,0,false,0,false,0,0⟩,true,s4,rfl,⟨K1.out,K2.out,by simp [okN],by simp [okN],by simp [okN],by simp [okN]⟩,by rw [hx.out];exact HGn.out.anyv _,HR.out,TR.out⟩
 obtain rfl:nn=5:=by omega
 by_cases hv:nv<2
 ·have hd:decide ((nv:Int)<2)=true:=by rw [decide_eq_true_eq];omega
  have hx:Hid (s4=none):=Lib.hid (HLb.out.shrunk (by have:=Hnv.out;omega))
  have HGn:=Lib.hid HG.out
  rw [hx.out,estS_none]at HGn
  have e0:v6.cell? ⟨sb,0,none⟩=some (.string ⟨xa.toArray⟩):=by rw [Lib.cell_of_heap FS6.out];rfl
  have e1:v6.cell? ⟨sb,1,none⟩=some (.string ⟨xb.toArray⟩):=by rw [Lib.cell_of_heap FS6.out];rfl
  have e2:v6.cell? ⟨sb,2,none⟩=some (.bool false):=by rw [Lib.cell_of_heap FS6.out];rfl
  have e3:v6.cell? ⟨sb,3,none⟩=some (.int .i64 0):=by rw [Lib.cell_of_heap FS6.out];rfl
  have e4:v6.cell? ⟨sb,4,none⟩=some (.bool false):=by rw [Lib.cell_of_heap FS6.out];rfl
  have e5:v6.cell? ⟨sb,5,none⟩=some (.int .i64 0):=by rw [Lib.cell_of_heap FS6.out];rfl
  have e6:v6.cell? ⟨sb,6,none⟩=some (.bool false):=by rw [Lib.cell_of_heap FS6.out];rfl
  have e7:v6.cell? ⟨sb,7,none⟩=some (.int .i64 0):=by rw [Lib.cell_of_heap FS6.out];rfl
  have e8:v6.cell? ⟨sb,8,none⟩=some (.int .i64 0):=by rw [Lib.cell_of_heap FS6.out];rfl
  go_wp2_with (refine wpList_store_row rfl 72 (.tmp 2) (.tmp 25) rfl w.heap.size (#[.string ⟨xa.toArray⟩,.string ⟨xb.toArray⟩,.bool false,.int .i64 0,.bool false,.int .i64 0,.bool false,.int .i64 0,.int .i64 0]) rfl rfl _ _ FR6.out (by kernel_rfl) rfl (by simp [Value.oneCell']) ?_)
  have FRR:=Lib.hid (setRow_heap _ w.heap.size _ (#[.string ⟨xa.toArray⟩,.string ⟨xb.toArray⟩,.bool false,.int .i64 0,.bool false,.int .i64 0,.bool false,.int .i64 0,.int .i64 0]) _ _ FR6.out)
  have hsr:Step (fun x=>x≠w.heap.size) v6 (v6.setRow w.heap.size (#[.string ⟨xa.toArray⟩,.string ⟨xb.toArray⟩,.bool false,.int .i64 0,.bool false,.int .i64 0,.bool false,.int .i64 0,.int .i64 0])):=⟨rfl,rfl,rfl,by simp,fun x hx=>setRow_other _ _ _ _ hx⟩
  have HR:=Lib.hid (H6.out.step hsr (by show b≠_;omega) (by show gb≠_;omega))
  have TR:=Lib.hid (T6.out.trans (hsr.imp (S':=fun y=>y<w.heap.size∧y≠b) (fun y h=>by have:=h.1;show y≠w.heap.size;omega)))
  clear hsr
  go_wp2_with fail
  refine bodyPost_ret (results_row_tmp rfl _ _ w.heap.size _ _ _ _ rfl FRR.out Tryz.underlying72 rfl (by kernel_rfl)) rfl ?_
  exact⟨⟨xa,xb,false,0,false,0,false,0,0⟩,true,s4,rfl,⟨K1.out,K2.out,by simp [okN],by simp [okN],by simp [okN],by simp [okN]⟩,by rw [hx.out];exact HGn.out.anyv _,HR.out,TR.out⟩
 obtain rfl:nv=2:=by omega
 obtain⟨gn,nc',hyn,hgn1,hgn2,hnc,hN⟩:=HO1.out.words (by have:=Hnn.out;omega)
 obtain⟨gv,vc',hyv,hgv1,hgv2,hvc,hV⟩:=HO2.out.words (by have:=Hnv.out;omega)
 rw [← Hnn.out]at hyn hN hnc
 rw [← Hnv.out]at hyv hV hvc
 obtain⟨rfl,-,rfl⟩:=Value.slice.inj hyn
 obtain⟨rfl,-,rfl⟩:=Value.slice.inj hyv
 have n0_6:=hN 0 (by decide)
 have k0:=okN_getD HLa.out.ok 0 (by have:=Hnn.out;omega)
 obtain⟨q0,hq0⟩:∃ q,q=ns.getD 0 0:=⟨_,rfl⟩
 rw [← hq0]at n0_6 k0
 have n1_6:=hN 1 (by decide)
 have k1:=okN_getD HLa.out.ok 1 (by have:=Hnn.out;omega)
 obtain⟨q1,hq1⟩:∃ q,q=ns.getD 1 0:=⟨_,rfl⟩
 rw [← hq1]at n1_6 k1
 have n2_6:=hN 2 (by decide)
 have k2:=okN_getD HLa.out.ok 2 (by have:=Hnn.out;omega)
 obtain⟨q2,hq2⟩:∃ q,q=ns.getD 2 0:=⟨_,rfl⟩
 rw [← hq2]at n2_6 k2
 have n3_6:=hN 3 (by decide)
 have k3:=okN_getD HLa.out.ok 3 (by have:=Hnn.out;omega)
 obtain⟨q3,hq3⟩:∃ q,q=ns.getD 3 0:=⟨_,rfl⟩
 rw [← hq3]at n3_6 k3
 have n4_6:=hN 4 (by decide)
 have k4:=okN_getD HLa.out.ok 4 (by have:=Hnn.out;omega)
 obtain⟨q4,hq4⟩:∃ q,q=ns.getD 4 0:=⟨_,rfl⟩
 rw [← hq4]at n4_6 k4
 have m0_6:=hV 0 (by decide)
 have j0:=okN_getD HLb.out.ok 0 (by have:=Hnv.out;omega)
 obtain⟨r0,hr0⟩:∃ q,q=vs.getD 0 0:=⟨_,rfl⟩
 rw [← hr0]at m0_6 j0
 have m1_6:=hV 1 (by decide)
 have j1:=okN_getD HLb.out.ok 1 (by have:=Hnv.out;omega)
 obtain⟨r1,hr1⟩:∃ q,q=vs.getD 1 0:=⟨_,rfl⟩
 rw [← hr1]at m1_6 j1
 have hsn:gn≠sb:=by omega
 have hsv:gv≠sb:=by omega
 have HX:Hid (symMk xa xb ns vs=⟨xa,xb,q2==1,q0,q3==1,q1,q4==1,r0,r1⟩):=Lib.hid (by rw [symMk,← hq0,← hq1,← hq2,← hq3,← hq4,← hr0,← hr1])
 have HF:Hid (fineL ns=(decide (q2<2)&&decide (q3<2)&&decide (q4<2))):=Lib.hid (by rw [fineL,← hq2,← hq3,← hq4])
 rw [HX.out,HF.out]at HG
 have HK:Hid (okSym ⟨xa,xb,q2==1,q0,q3==1,q1,q4==1,r0,r1⟩):=Lib.hid ⟨K1.out,K2.out,k0,k1,j0,j1⟩
 clear hN hV hyn hyv hq0 hq1 hq2 hq3 hq4 hr0 hr1 HX HF k0 k1 k2 k3 k4 j0 j1 HO1 HO2 HLa HLb Hnn Hnv G1 G2 K1 K2 hn hv
 have cS:v6.cell? ⟨sb,3,none⟩=some (.int .i64 0):=by rw [Lib.cell_of_heap FS6.out];rfl
 have fS:v6.frozen? ⟨sb,3,none⟩=false:=Lib.frozen_of_heap FS6.out 3
 go_upto_region 9 with fail
 have n0_7:=(World.cell?_of_block (a:=⟨gn,0,none⟩) (Below.heap_setCell v6 ⟨sb,3,none⟩ (.int .i64 q0) _ (by show gn≠sb;omega))).trans n0_6
 have n1_7:=(World.cell?_of_block (a:=⟨gn,1,none⟩) (Below.heap_setCell v6 ⟨sb,3,none⟩ (.int .i64 q0) _ (by show gn≠sb;omega))).trans n1_6
 have n2_7:=(World.cell?_of_block (a:=⟨gn,2,none⟩) (Below.heap_setCell v6 ⟨sb,3,none⟩ (.int .i64 q0) _ (by show gn≠sb;omega))).trans n2_6
 have n3_7:=(World.cell?_of_block (a:=⟨gn,3,none⟩) (Below.heap_setCell v6 ⟨sb,3,none⟩ (.int .i64 q0) _ (by show gn≠sb;omega))).trans n3_6
 have n4_7:=(World.cell?_of_block (a:=⟨gn,4,none⟩) (Below.heap_setCell v6 ⟨sb,3,none⟩ (.int .i64 q0) _ (by show gn≠sb;omega))).trans n4_6
 have m0_7:=(World.cell?_of_block (a:=⟨gv,0,none⟩) (Below.heap_setCell v6 ⟨sb,3,none⟩ (.int .i64 q0) _ (by show gv≠sb;omega))).trans m0_6
 have m1_7:=(World.cell?_of_block (a:=⟨gv,1,none⟩) (Below.heap_setCell v6 ⟨sb,3,none⟩ (.int .i64 q0) _ (by show gv≠sb;omega))).trans m1_6
 clear n0_6 n1_6 n2_6 n3_6 n4_6 m0_6 m1_6
 have hs:Step (fun x=>x≠sb) v6 (v6.setCell ⟨sb,3,none⟩ (.int .i64 q0)):=(Step.refl _ v6).setCell (fun h=>h rfl) _
 have H7:=Lib.hid (H6.out.step hs (by show b≠sb;omega) (by show gb≠sb;omega))
 have T7:=Lib.hid (T6.out.trans (hs.imp (S':=fun y=>y<w.heap.size∧y≠b) (fun y h=>by have:=h.1;show y≠sb;omega)))
 have FS7:Hid ((v6.setCell ⟨sb,3,none⟩ (.int .i64 q0)).heap[sb]? =some (.cells #[.string ⟨xa.toArray⟩,.string ⟨xb.toArray⟩,.bool false,.int .i64 q0,.bool false,.int .i64 0,.bool false,.int .i64 0,.int .i64 0] 72 (0,0))):=Lib.hid (setCell_listX FS6.out 3 (.int .i64 q0))
 have FR7:=Lib.hid ((hs.block w.heap.size hrs).trans FR6.out)
 have hlt7:sb<(v6.setCell ⟨sb,3,none⟩ (.int .i64 q0)).heap.size:=by simpa using hlt6
 clear cS fS hs H6 T6 FS6 FR6 hlt6
 generalize v6.setCell ⟨sb,3,none⟩ (.int .i64 q0)=v7 at *
 have cS:v7.cell? ⟨sb,5,none⟩=some (.int .i64 0):=by rw [Lib.cell_of_heap FS7.out];rfl
 have fS:v7.frozen? ⟨sb,5,none⟩=false:=Lib.frozen_of_heap FS7.out 5
 go_upto_region 10 with fail
 have n0_8:=(World.cell?_of_block (a:=⟨gn,0,none⟩) (Below.heap_setCell v7 ⟨sb,5,none⟩ (.int .i64 q1) _ (by show gn≠sb;omega))).trans n0_7
 have n1_8:=(World.cell?_of_block (a:=⟨gn,1,none⟩) (Below.heap_setCell v7 ⟨sb,5,none⟩ (.int .i64 q1) _ (by show gn≠sb;omega))).trans n1_7
 have n2_8:=(World.cell?_of_block (a:=⟨gn,2,none⟩) (Below.heap_setCell v7 ⟨sb,5,none⟩ (.int .i64 q1) _ (by show gn≠sb;omega))).trans n2_7
 have n3_8:=(World.cell?_of_block (a:=⟨gn,3,none⟩) (Below.heap_setCell v7 ⟨sb,5,none⟩ (.int .i64 q1) _ (by show gn≠sb;omega))).trans n3_7
 have n4_8:=(World.cell?_of_block (a:=⟨gn,4,none⟩) (Below.heap_setCell v7 ⟨sb,5,none⟩ (.int .i64 q1) _ (by show gn≠sb;omega))).trans n4_7
 have m0_8:=(World.cell?_of_block (a:=⟨gv,0,none⟩) (Below.heap_setCell v7 ⟨sb,5,none⟩ (.int .i64 q1) _ (by show gv≠sb;omega))).trans m0_7
 have m1_8:=(World.cell?_of_block (a:=⟨gv,1,none⟩) (Below.heap_setCell v7 ⟨sb,5,none⟩ (.int .i64 q1) _ (by show gv≠sb;omega))).trans m1_7
 clear n0_7 n1_7 n2_7 n3_7 n4_7 m0_7 m1_7
 have hs:Step (fun x=>x≠sb) v7 (v7.setCell ⟨sb,5,none⟩ (.int .i64 q1)):=(Step.refl _ v7).setCell (fun h=>h rfl) _
 have H8:=Lib.hid (H7.out.step hs (by show b≠sb;omega) (by show gb≠sb;omega))
 have T8:=Lib.hid (T7.out.trans (hs.imp (S':=fun y=>y<w.heap.size∧y≠b) (fun y h=>by have:=h.1;show y≠sb;omega)))
 have FS8:Hid ((v7.setCell ⟨sb,5,none⟩ (.int .i64 q1)).heap[sb]? =some (.cells #[.string ⟨xa.toArray⟩,.string ⟨xb.toArray⟩,.bool false,.int .i64 q0,.bool false,.int .i64 q1,.bool false,.int .i64 0,.int .i64 0] 72 (0,0))):=Lib.hid (setCell_listX FS7.out 5 (.int .i64 q1))
 have FR8:=Lib.hid ((hs.block w.heap.size hrs).trans FR7.out)
 have hlt8:sb<(v7.setCell ⟨sb,5,none⟩ (.int .i64 q1)).heap.size:=by simpa using hlt7
 clear cS fS hs H7 T7 FS7 FR7 hlt7
 generalize v7.setCell ⟨sb,5,none⟩ (.int .i64 q1)=v8 at *
 have cS:v8.cell? ⟨sb,2,none⟩=some (.bool false):=by rw [Lib.cell_of_heap FS8.out];rfl
 have fS:v8.frozen? ⟨sb,2,none⟩=false:=Lib.frozen_of_heap FS8.out 2
 go_upto_region 11 with fail
 have n0_9:=(World.cell?_of_block (a:=⟨gn,0,none⟩) (Below.heap_setCell v8 ⟨sb,2,none⟩ (.bool (q2==1)) _ (by show gn≠sb;omega))).trans n0_8
 have n1_9:=(World.cell?_of_block (a:=⟨gn,1,none⟩) (Below.heap_setCell v8 ⟨sb,2,none⟩ (.bool (q2==1)) _ (by show gn≠sb;omega))).trans n1_8
 have n2_9:=(World.cell?_of_block (a:=⟨gn,2,none⟩) (Below.heap_setCell v8 ⟨sb,2,none⟩ (.bool (q2==1)) _ (by show gn≠sb;omega))).trans n2_8
 have n3_9:=(World.cell?_of_block (a:=⟨gn,3,none⟩) (Below.heap_setCell v8 ⟨sb,2,none⟩ (.bool (q2==1)) _ (by show gn≠sb;omega))).trans n3_8
 have n4_9:=(World.cell?_of_block (a:=⟨gn,4,none⟩) (Below.heap_setCell v8 ⟨sb,2,none⟩ (.bool (q2==1)) _ (by show gn≠sb;omega))).trans n4_8
 have m0_9:=(World.cell?_of_block (a:=⟨gv,0,none⟩) (Below.heap_setCell v8 ⟨sb,2,none⟩ (.bool (q2==1)) _ (by show gv≠sb;omega))).trans m0_8
 have m1_9:=(World.cell?_of_block (a:=⟨gv,1,none⟩) (Below.heap_setCell v8 ⟨sb,2,none⟩ (.bool (q2==1)) _ (by show gv≠sb;omega))).trans m1_8
 clear n0_8 n1_8 n2_8 n3_8 n4_8 m0_8 m1_8
 have hs:Step (fun x=>x≠sb) v8 (v8.setCell ⟨sb,2,none⟩ (.bool (q2==1))):=(Step.refl _ v8).setCell (fun h=>h rfl) _
 have H9:=Lib.hid (H8.out.step hs (by show b≠sb;omega) (by show gb≠sb;omega))
 have T9:=Lib.hid (T8.out.trans (hs.imp (S':=fun y=>y<w.heap.size∧y≠b) (fun y h=>by have:=h.1;show y≠sb;omega)))
 have FS9:Hid ((v8.setCell ⟨sb,2,none⟩ (.bool (q2==1))).heap[sb]? =some (.cells #[.string ⟨xa.toArray⟩,.string ⟨xb.toArray⟩,.bool (q2==1),.int .i64 q0,.bool false,.int .i64 q1,.bool false,.int .i64 0,.int .i64 0] 72 (0,0))):=Lib.hid (setCell_listX FS8.out 2 (.bool (q2==1)))
 have FR9:=Lib.hid ((hs.block w.heap.size hrs).trans FR8.out)
 have hlt9:sb<(v8.setCell ⟨sb,2,none⟩ (.bool (q2==1))).heap.size:=by simpa using hlt8
 clear cS fS hs H8 T8 FS8 FR8 hlt8
 generalize v8.setCell ⟨sb,2,none⟩ (.bool (q2==1))=v9 at *
 have cS:v9.cell? ⟨sb,4,none⟩=some (.bool false):=by rw [Lib.cell_of_heap FS9.out];rfl
 have fS:v9.frozen? ⟨sb,4,none⟩=false:=Lib.frozen_of_heap FS9.out 4
 go_upto_region 12 with fail
 have n0_10:=(World.cell?_of_block (a:=⟨gn,0,none⟩) (Below.heap_setCell v9 ⟨sb,4,none⟩ (.bool (q3==1)) _ (by show gn≠sb;omega))).trans n0_9
 have n1_10:=(World.cell?_of_block (a:=⟨gn,1,none⟩) (Below.heap_setCell v9 ⟨sb,4,none⟩ (.bool (q3==1)) _ (by show gn≠sb;omega))).trans n1_9
 have n2_10:=(World.cell?_of_block (a:=⟨gn,2,none⟩) (Below.heap_setCell v9 ⟨sb,4,none⟩ (.bool (q3==1)) _ (by show gn≠sb;omega))).trans n2_9
 have n3_10:=(World.cell?_of_block (a:=⟨gn,3,none⟩) (Below.heap_setCell v9 ⟨sb,4,none⟩ (.bool (q3==1)) _ (by show gn≠sb;omega))).trans n3_9
 have n4_10:=(World.cell?_of_block (a:=⟨gn,4,none⟩) (Below.heap_setCell v9 ⟨sb,4,none⟩ (.bool (q3==1)) _ (by show gn≠sb;omega))).trans n4_9
 have m0_10:=(World.cell?_of_block (a:=⟨gv,0,none⟩) (Below.heap_setCell v9 ⟨sb,4,none⟩ (.bool (q3==1)) _ (by show gv≠sb;omega))).trans m0_9
 have m1_10:=(World.cell?_of_block (a:=⟨gv,1,none⟩) (Below.heap_setCell v9 ⟨sb,4,none⟩ (.bool (q3==1)) _ (by show gv≠sb;omega))).trans m1_9
 clear n0_9 n1_9 n2_9 n3_9 n4_9 m0_9 m1_9
 have hs:Step (fun x=>x≠sb) v9 (v9.setCell ⟨sb,4,none⟩ (.bool (q3==1))):=(Step.refl _ v9).setCell (fun h=>h rfl) _
 have H10:=Lib.hid (H9.out.step hs (by show b≠sb;omega) (by show gb≠sb;omega))
 have T10:=Lib.hid (T9.out.trans (hs.imp (S':=fun y=>y<w.heap.size∧y≠b) (fun y h=>by have:=h.1;show y≠sb;omega)))
 have FS10:Hid ((v9.setCell ⟨sb,4,none⟩ (.bool (q3==1))).heap[sb]? =some (.cells #[.string ⟨xa.toArray⟩,.string ⟨xb.toArray⟩,.bool (q2==1),.int .i64 q0,.bool (q3==1),.int .i64 q1,.bool false,.int .i64 0,.int .i64 0] 72 (0,0))):=Lib.hid (setCell_listX FS9.out 4 (.bool (q3==1)))
 have FR10:=Lib.hid ((hs.block w.heap.size hrs).trans FR9.out)
 have hlt10:sb<(v9.setCell ⟨sb,4,none⟩ (.bool (q3==1))).heap.size:=by simpa using hlt9
 clear cS fS hs H9 T9 FS9 FR9 hlt9
 generalize v9.setCell ⟨sb,4,none⟩ (.bool (q3==1))=v10 at *
 have cS:v10.cell? ⟨sb,6,none⟩=some (.bool false):=by rw [Lib.cell_of_heap FS10.out];rfl
 have fS:v10.frozen? ⟨sb,6,none⟩=false:=Lib.frozen_of_heap FS10.out 6
 go_upto_region 13 with fail
 have n0_11:=(World.cell?_of_block (a:=⟨gn,0,none⟩) (Below.heap_setCell v10 ⟨sb,6,none⟩ (.bool (q4==1)) _ (by show gn≠sb;omega))).trans n0_10
 have n1_11:=(World.cell?_of_block (a:=⟨gn,1,none⟩) (Below.heap_setCell v10 ⟨sb,6,none⟩ (.bool (q4==1)) _ (by show gn≠sb;omega))).trans n1_10
 have n2_11:=(World.cell?_of_block (a:=⟨gn,2,none⟩) (Below.heap_setCell v10 ⟨sb,6,none⟩ (.bool (q4==1)) _ (by show gn≠sb;omega))).trans n2_10
 have n3_11:=(World.cell?_of_block (a:=⟨gn,3,none⟩) (Below.heap_setCell v10 ⟨sb,6,none⟩ (.bool (q4==1)) _ (by show gn≠sb;omega))).trans n3_10
 have n4_11:=(World.cell?_of_block (a:=⟨gn,4,none⟩) (Below.heap_setCell v10 ⟨sb,6,none⟩ (.bool (q4==1)) _ (by show gn≠sb;omega))).trans n4_10
 have m0_11:=(World.cell?_of_block (a:=⟨gv,0,none⟩) (Below.heap_setCell v10 ⟨sb,6,none⟩ (.bool (q4==1)) _ (by show gv≠sb;omega))).trans m0_10
 have m1_11:=(World.cell?_of_block (a:=⟨gv,1,none⟩) (Below.heap_setCell v10 ⟨sb,6,none⟩ (.bool (q4==1)) _ (by show gv≠sb;omega))).trans m1_10
 clear n0_10 n1_10 n2_10 n3_10 n4_10 m0_10 m1_10
 have hs:Step (fun x=>x≠sb) v10 (v10.setCell ⟨sb,6,none⟩ (.bool (q4==1))):=(Step.refl _ v10).setCell (fun h=>h rfl) _
 have H11:=Lib.hid (H10.out.step hs (by show b≠sb;omega) (by show gb≠sb;omega))
 have T11:=Lib.hid (T10.out.trans (hs.imp (S':=fun y=>y<w.heap.size∧y≠b) (fun y h=>by have:=h.1;show y≠sb;omega)))
 have FS11:Hid ((v10.setCell ⟨sb,6,none⟩ (.bool (q4==1))).heap[sb]? =some (.cells #[.string ⟨xa.toArray⟩,.string ⟨xb.toArray⟩,.bool (q2==1),.int .i64 q0,.bool (q3==1),.int .i64 q1,.bool (q4==1),.int .i64 0,.int .i64 0] 72 (0,0))):=Lib.hid (setCell_listX FS10.out 6 (.bool (q4==1)))
 have FR11:=Lib.hid ((hs.block w.heap.size hrs).trans FR10.out)
 have hlt11:sb<(v10.setCell ⟨sb,6,none⟩ (.bool (q4==1))).heap.size:=by simpa using hlt10
 clear cS fS hs H10 T10 FS10 FR10 hlt10
 generalize v10.setCell ⟨sb,6,none⟩ (.bool (q4==1))=v11 at *
 have cS:v11.cell? ⟨sb,7,none⟩=some (.int .i64 0):=by rw [Lib.cell_of_heap FS11.out];rfl
 have fS:v11.frozen? ⟨sb,7,none⟩=false:=Lib.frozen_of_heap FS11.out 7
 go_upto_region 14 with fail
 have n0_12:=(World.cell?_of_block (a:=⟨gn,0,none⟩) (Below.heap_setCell v11 ⟨sb,7,none⟩ (.int .i64 r0) _ (by show gn≠sb;omega))).trans n0_11
 have n1_12:=(World.cell?_of_block (a:=⟨gn,1,none⟩) (Below.heap_setCell v11 ⟨sb,7,none⟩ (.int .i64 r0) _ (by show gn≠sb;omega))).trans n1_11
 have n2_12:=(World.cell?_of_block (a:=⟨gn,2,none⟩) (Below.heap_setCell v11 ⟨sb,7,none⟩ (.int .i64 r0) _ (by show gn≠sb;omega))).trans n2_11
 have n3_12:=(World.cell?_of_block (a:=⟨gn,3,none⟩) (Below.heap_setCell v11 ⟨sb,7,none⟩ (.int .i64 r0) _ (by show gn≠sb;omega))).trans n3_11
 have n4_12:=(World.cell?_of_block (a:=⟨gn,4,none⟩) (Below.heap_setCell v11 ⟨sb,7,none⟩ (.int .i64 r0) _ (by show gn≠sb;omega))).trans n4_11
 have m0_12:=(World.cell?_of_block (a:=⟨gv,0,none⟩) (Below.heap_setCell v11 ⟨sb,7,none⟩ (.int .i64 r0) _ (by show gv≠sb;omega))).trans m0_11
 have m1_12:=(World.cell?_of_block (a:=⟨gv,1,none⟩) (Below.heap_setCell v11 ⟨sb,7,none⟩ (.int .i64 r0) _ (by show gv≠sb;omega))).trans m1_11
 clear n0_11 n1_11 n2_11 n3_11 n4_11 m0_11 m1_11
 have hs:Step (fun x=>x≠sb) v11 (v11.setCell ⟨sb,7,none⟩ (.int .i64 r0)):=(Step.refl _ v11).setCell (fun h=>h rfl) _
 have H12:=Lib.hid (H11.out.step hs (by show b≠sb;omega) (by show gb≠sb;omega))
 have T12:=Lib.hid (T11.out.trans (hs.imp (S':=fun y=>y<w.heap.size∧y≠b) (fun y h=>by have:=h.1;show y≠sb;omega)))
 have FS12:Hid ((v11.setCell ⟨sb,7,none⟩ (.int .i64 r0)).heap[sb]? =some (.cells #[.string ⟨xa.toArray⟩,.string ⟨xb.toArray⟩,.bool (q2==1),.int .i64 q0,.bool (q3==1),.int .i64 q1,.bool (q4==1),.int .i64 r0,.int .i64 0] 72 (0,0))):=Lib.hid (setCell_listX FS11.out 7 (.int .i64 r0))
 have FR12:=Lib.hid ((hs.block w.heap.size hrs).trans FR11.out)
 have hlt12:sb<(v11.setCell ⟨sb,7,none⟩ (.int .i64 r0)).heap.size:=by simpa using hlt11
 clear cS fS hs H11 T11 FS11 FR11 hlt11
 generalize v11.setCell ⟨sb,7,none⟩ (.int .i64 r0)=v12 at *
 have cS:v12.cell? ⟨sb,8,none⟩=some (.int .i64 0):=by rw [Lib.cell_of_heap FS12.out];rfl
 have fS:v12.frozen? ⟨sb,8,none⟩=false:=Lib.frozen_of_heap FS12.out 8
 go_upto_region 15 with fail
 have n0_13:=(World.cell?_of_block (a:=⟨gn,0,none⟩) (Below.heap_setCell v12 ⟨sb,8,none⟩ (.int .i64 r1) _ (by show gn≠sb;omega))).trans n0_12
 have n1_13:=(World.cell?_of_block (a:=⟨gn,1,none⟩) (Below.heap_setCell v12 ⟨sb,8,none⟩ (.int .i64 r1) _ (by show gn≠sb;omega))).trans n1_12
 have n2_13:=(World.cell?_of_block (a:=⟨gn,2,none⟩) (Below.heap_setCell v12 ⟨sb,8,none⟩ (.int .i64 r1) _ (by show gn≠sb;omega))).trans n2_12
 have n3_13:=(World.cell?_of_block (a:=⟨gn,3,none⟩) (Below.heap_setCell v12 ⟨sb,8,none⟩ (.int .i64 r1) _ (by show gn≠sb;omega))).trans n3_12
 have n4_13:=(World.cell?_of_block (a:=⟨gn,4,none⟩) (Below.heap_setCell v12 ⟨sb,8,none⟩ (.int .i64 r1) _ (by show gn≠sb;omega))).trans n4_12
 have m0_13:=(World.cell?_of_block (a:=⟨gv,0,none⟩) (Below.heap_setCell v12 ⟨sb,8,none⟩ (.int .i64 r1) _ (by show gv≠sb;omega))).trans m0_12
 have m1_13:=(World.cell?_of_block (a:=⟨gv,1,none⟩) (Below.heap_setCell v12 ⟨sb,8,none⟩ (.int .i64 r1) _ (by show gv≠sb;omega))).trans m1_12
 clear n0_12 n1_12 n2_12 n3_12 n4_12 m0_12 m1_12
 have hs:Step (fun x=>x≠sb) v12 (v12.setCell ⟨sb,8,none⟩ (.int .i64 r1)):=(Step.refl _ v12).setCell (fun h=>h rfl) _
 have H13:=Lib.hid (H12.out.step hs (by show b≠sb;omega) (by show gb≠sb;omega))
 have T13:=Lib.hid (T12.out.trans (hs.imp (S':=fun y=>y<w.heap.size∧y≠b) (fun y h=>by have:=h.1;show y≠sb;omega)))
 have FS13:Hid ((v12.setCell ⟨sb,8,none⟩ (.int .i64 r1)).heap[sb]? =some (.cells #[.string ⟨xa.toArray⟩,.string ⟨xb.toArray⟩,.bool (q2==1),.int .i64 q0,.bool (q3==1),.int .i64 q1,.bool (q4==1),.int .i64 r0,.int .i64 r1] 72 (0,0))):=Lib.hid (setCell_listX FS12.out 8 (.int .i64 r1))
 have FR13:=Lib.hid ((hs.block w.heap.size hrs).trans FR12.out)
 have hlt13:sb<(v12.setCell ⟨sb,8,none⟩ (.int .i64 r1)).heap.size:=by simpa using hlt12
 clear cS fS hs H12 T12 FS12 FR12 hlt12
 generalize v12.setCell ⟨sb,8,none⟩ (.int .i64 r1)=v13 at *
 clear n0_13 n1_13 m0_13 m1_13
 have HH:(fun w':World=>w'.cell? ⟨sb,0,none⟩=some (.string ⟨xa.toArray⟩)∧w'.cell? ⟨sb,1,none⟩=some (.string ⟨xb.toArray⟩)∧w'.cell? ⟨sb,2,none⟩=some (.bool (q2==1))∧w'.cell? ⟨sb,3,none⟩=some (.int .i64 q0)∧w'.cell? ⟨sb,4,none⟩=some (.bool (q3==1))∧w'.cell? ⟨sb,5,none⟩=some (.int .i64 q1)∧w'.cell? ⟨sb,6,none⟩=some (.bool (q4==1))∧w'.cell? ⟨sb,7,none⟩=some (.int .i64 r0)∧w'.cell? ⟨sb,8,none⟩=some (.int .i64 r1)∧w'.cell? ⟨gn,2,none⟩=some (.int .i64 q2)∧w'.cell? ⟨gn,3,none⟩=some (.int .i64 q3)∧w'.cell? ⟨gn,4,none⟩=some (.int .i64 q4)) (World.drew v13):=⟨(Lib.cell_of_heap FS13.out _).trans rfl,(Lib.cell_of_heap FS13.out _).trans rfl,(Lib.cell_of_heap FS13.out _).trans rfl,(Lib.cell_of_heap FS13.out _).trans rfl,(Lib.cell_of_heap FS13.out _).trans rfl,(Lib.cell_of_heap FS13.out _).trans rfl,(Lib.cell_of_heap FS13.out _).trans rfl,(Lib.cell_of_heap FS13.out _).trans rfl,(Lib.cell_of_heap FS13.out _).trans rfl,n2_13,n3_13,n4_13⟩
 have Hd:=Lib.hid (H13.out.drew)
 have Td:=Lib.hid (T13.out.drew)
 have FSd:Hid ((World.drew v13).heap[sb]? =_):=Lib.hid FS13.out
 have FRd:Hid ((World.drew v13).heap[w.heap.size]? =_):=Lib.hid FR13.out
 have hgn3:gn≠w.heap.size:=by omega
 refine wp_region_phase 18 (by kernel_rfl) (by kernel_rfl) ?_
 simp only [List.take_succ_cons,List.take_zero,List.drop_succ_cons,List.drop_zero,List.take_nil,List.drop_nil]
 refine wpAny_of_held (S:=fun w':World=>w'.cell? ⟨sb,0,none⟩=some (.string ⟨xa.toArray⟩)∧w'.cell? ⟨sb,1,none⟩=some (.string ⟨xb.toArray⟩)∧w'.cell? ⟨sb,2,none⟩=some (.bool (q2==1))∧w'.cell? ⟨sb,3,none⟩=some (.int .i64 q0)∧w'.cell? ⟨sb,4,none⟩=some (.bool (q3==1))∧w'.cell? ⟨sb,5,none⟩=some (.int .i64 q1)∧w'.cell? ⟨sb,6,none⟩=some (.bool (q4==1))∧w'.cell? ⟨sb,7,none⟩=some (.int .i64 r0)∧w'.cell? ⟨sb,8,none⟩=some (.int .i64 r1)∧w'.cell? ⟨gn,2,none⟩=some (.int .i64 q2)∧w'.cell? ⟨gn,3,none⟩=some (.int .i64 q3)∧w'.cell? ⟨gn,4,none⟩=some (.int .i64 q4)) _ _ _ _ ?_
 have hHeld:=HH
 show wpAnyH _ _ _ _ _ _ _ _ (World.drew _)
 clear HH H13 T13 FS13 FR13 n2_13 n3_13 n4_13 hlt13
 generalize (World.drew v13)=wd at *
 refine wpAnyH_take (i:=0) (v:= ?_) rfl (by kernel_rfl) (by kernel_rfl) (by kernel_rfl) (fun _ _ _ h=>h) (Or.inl ⟨by rfl,?_⟩) hHeld ?_
 rotate_left
 ·(intro w hSw;(try dsimp only at hSw);go_simp;try with_reducible rfl)
 simp only [List.getElem_toArray,List.getElem_cons_zero,List.getElem_cons_succ,Act.put,List.setIfInBounds_toArray,List.set_cons_zero,List.set_cons_succ]
 refine wpAnyH_take (i:=1) (v:= ?_) rfl (by kernel_rfl) (by kernel_rfl) (by kernel_rfl) (fun _ _ _ h=>h) (Or.inl ⟨by rfl,?_⟩) hHeld ?_
 rotate_left
 ·(intro w hSw;(try dsimp only at hSw);go_simp;try with_reducible rfl)
 simp only [List.getElem_toArray,List.getElem_cons_zero,List.getElem_cons_succ,Act.put,List.setIfInBounds_toArray,List.set_cons_zero,List.set_cons_succ]
 refine wpAnyH_take (i:=2) (v:= ?_) rfl (by kernel_rfl) (by kernel_rfl) (by kernel_rfl) (fun _ _ _ h=>h) (Or.inl ⟨by rfl,?_⟩) hHeld ?_
 rotate_left
 ·(intro w hSw;(try dsimp only at hSw);go_simp;try with_reducible rfl)
 simp only [List.getElem_toArray,List.getElem_cons_zero,List.getElem_cons_succ,Act.put,List.setIfInBounds_toArray,List.set_cons_zero,List.set_cons_succ]
 refine wpAnyH_take (i:=3) (v:= ?_) rfl (by kernel_rfl) (by kernel_rfl) (by kernel_rfl) (fun _ _ _ h=>h) (Or.inl ⟨by rfl,?_⟩) hHeld ?_
 rotate_left
 ·(intro w hSw;(try dsimp only at hSw);go_simp;try with_reducible rfl)
 simp only [List.getElem_toArray,List.getElem_cons_zero,List.getElem_cons_succ,Act.put,List.setIfInBounds_toArray,List.set_cons_zero,List.set_cons_succ]
 refine wpAnyH_take (i:=4) (v:= ?_) rfl (by kernel_rfl) (by kernel_rfl) (by kernel_rfl) (fun _ _ _ h=>h) (Or.inl ⟨by rfl,?_⟩) hHeld ?_
 rotate_left
 ·(intro w hSw;(try dsimp only at hSw);go_simp;try with_reducible rfl)
 simp only [List.getElem_toArray,List.getElem_cons_zero,List.getElem_cons_succ,Act.put,List.setIfInBounds_toArray,List.set_cons_zero,List.set_cons_succ]
 obtain⟨d2,hd2⟩:∃ d,d=decide (q2<2):=⟨_,rfl⟩
 obtain⟨d3,hd3⟩:∃ d,d=decide (q3<2):=⟨_,rfl⟩
 obtain⟨d4,hd4⟩:∃ d,d=decide (q4<2):=⟨_,rfl⟩
 rw [← hd2,← hd3,← hd4]at HG
 have Hd3:=Lib.hid hd3
 have Hd4:=Lib.hid hd4
 rw [← hd2]
 clear hd2 hd3 hd4
 cases d2 with
 | false=>
  refine wpAnyH_take (i:=5) (v:= ?_) rfl (by kernel_rfl) (by kernel_rfl) (by kernel_rfl) (fun _ _ _ h=>h) (Or.inl ⟨by kernel_rfl,?_⟩) hHeld ?_
  rotate_left
  ·(intro w hSw;(try dsimp only at hSw);go_simp;try with_reducible rfl)
  simp only [List.getElem_toArray,List.getElem_cons_zero,List.getElem_cons_succ,Act.put,List.setIfInBounds_toArray,List.set_cons_zero,List.set_cons_succ]
  refine wpAnyH_take (i:=6) (v:=undef) rfl (by kernel_rfl) (by kernel_rfl) (by kernel_rfl) (fun _ _ _ h=>h) (Or.inr ⟨by kernel_rfl,rfl⟩) hHeld ?_
  simp only [List.getElem_toArray,List.getElem_cons_zero,List.getElem_cons_succ,Act.put,List.setIfInBounds_toArray,List.set_cons_zero,List.set_cons_succ]
  refine wpAnyH_take (i:=7) (v:=undef) rfl (by kernel_rfl) (by kernel_rfl) (by kernel_rfl) (fun _ _ _ h=>h) (Or.inr ⟨by kernel_rfl,rfl⟩) hHeld ?_
  simp only [List.getElem_toArray,List.getElem_cons_zero,List.getElem_cons_succ,Act.put,List.setIfInBounds_toArray,List.set_cons_zero,List.set_cons_succ]
  refine wpAnyH_take (i:=8) (v:=undef) rfl (by kernel_rfl) (by kernel_rfl) (by kernel_rfl) (fun _ _ _ h=>h) (Or.inr ⟨by kernel_rfl,rfl⟩) hHeld ?_
  simp only [List.getElem_toArray,List.getElem_cons_zero,List.getElem_cons_succ,Act.put,List.setIfInBounds_toArray,List.set_cons_zero,List.set_cons_succ]
  refine wpAnyH_take (i:=9) (v:=undef) rfl (by kernel_rfl) (by kernel_rfl) (by kernel_rfl) (fun _ _ _ h=>h) (Or.inr ⟨by kernel_rfl,rfl⟩) hHeld ?_
  simp only [List.getElem_toArray,List.getElem_cons_zero,List.getElem_cons_succ,Act.put,List.setIfInBounds_toArray,List.set_cons_zero,List.set_cons_succ]
  refine wpAnyH_take (i:=10) (v:= ?_) rfl (by kernel_rfl) (by kernel_rfl) (by kernel_rfl) (fun _ _ _ h=>h) (Or.inl ⟨by kernel_rfl,?_⟩) hHeld ?_
  rotate_left
  ·(intro w hSw;(try dsimp only at hSw);go_simp;try with_reducible rfl)
  simp only [List.getElem_toArray,List.getElem_cons_zero,List.getElem_cons_succ,Act.put,List.setIfInBounds_toArray,List.set_cons_zero,List.set_cons_succ]
  refine wpAnyH_take (i:=11) (v:= ?_) rfl (by kernel_rfl) (by kernel_rfl) (by kernel_rfl) (fun _ _ _ h=>h) (Or.inl ⟨by kernel_rfl,?_⟩) hHeld ?_
  rotate_left
  ·(intro w hSw;(try dsimp only at hSw);go_simp;try with_reducible rfl)
  simp only [List.getElem_toArray,List.getElem_cons_zero,List.getElem_cons_succ,Act.put,List.setIfInBounds_toArray,List.set_cons_zero,List.set_cons_succ]
  refine wpAnyH_take (i:=12) (v:=undef) rfl (by kernel_rfl) (by kernel_rfl) (by kernel_rfl) (fun _ _ _ h=>h) (Or.inr ⟨by kernel_rfl,rfl⟩) hHeld ?_
  simp only [List.getElem_toArray,List.getElem_cons_zero,List.getElem_cons_succ,Act.put,List.setIfInBounds_toArray,List.set_cons_zero,List.set_cons_succ]
  refine wpAnyH_take (i:=13) (v:=undef) rfl (by kernel_rfl) (by kernel_rfl) (by kernel_rfl) (fun _ _ _ h=>h) (Or.inr ⟨by kernel_rfl,rfl⟩) hHeld ?_
  simp only [List.getElem_toArray,List.getElem_cons_zero,List.getElem_cons_succ,Act.put,List.setIfInBounds_toArray,List.set_cons_zero,List.set_cons_succ]
  refine wpAnyH_take (i:=14) (v:=undef) rfl (by kernel_rfl) (by kernel_rfl) (by kernel_rfl) (fun _ _ _ h=>h) (Or.inr ⟨by kernel_rfl,rfl⟩) hHeld ?_
  simp only [List.getElem_toArray,List.getElem_cons_zero,List.getElem_cons_succ,Act.put,List.setIfInBounds_toArray,List.set_cons_zero,List.set_cons_succ]
  refine wpAnyH_take (i:=15) (v:=undef) rfl (by kernel_rfl) (by kernel_rfl) (by kernel_rfl) (fun _ _ _ h=>h) (Or.inr ⟨by kernel_rfl,rfl⟩) hHeld ?_
  simp only [List.getElem_toArray,List.getElem_cons_zero,List.getElem_cons_succ,Act.put,List.setIfInBounds_toArray,List.set_cons_zero,List.set_cons_succ]
  refine wpAnyH_take (i:=16) (v:= ?_) rfl (by kernel_rfl) (by kernel_rfl) (by kernel_rfl) (fun _ _ _ h=>h) (Or.inl ⟨by kernel_rfl,?_⟩) hHeld ?_
  rotate_left
  ·(intro w hSw;(try dsimp only at hSw);go_simp;try with_reducible rfl)
  simp only [List.getElem_toArray,List.getElem_cons_zero,List.getElem_cons_succ,Act.put,List.setIfInBounds_toArray,List.set_cons_zero,List.set_cons_succ]
  refine wpAnyH_ready (rs:=[17]) (by kernel_rfl) (by simp) ?_
  refine AllReadyH.cons rfl (fun K hK=> ?_) AllReadyH.nil
  refine wp_store_row 72 (.tmp 2) (.tmp 57) rfl w.heap.size (#[.string ⟨xa.toArray⟩,.string ⟨xb.toArray⟩,.bool (q2==1),.int .i64 q0,.bool (q3==1),.int .i64 q1,.bool (q4==1),.int .i64 r0,.int .i64 r1]) rfl rfl _ _ FRd.out (by kernel_rfl) rfl (by simp [Value.oneCell']) ?_
  have FRR:=Lib.hid (setRow_heap _ w.heap.size _ (#[.string ⟨xa.toArray⟩,.string ⟨xb.toArray⟩,.bool (q2==1),.int .i64 q0,.bool (q3==1),.int .i64 q1,.bool (q4==1),.int .i64 r0,.int .i64 r1]) _ _ FRd.out)
  have hsr:Step (fun x=>x≠w.heap.size) wd (wd.setRow w.heap.size (#[.string ⟨xa.toArray⟩,.string ⟨xb.toArray⟩,.bool (q2==1),.int .i64 q0,.bool (q3==1),.int .i64 q1,.bool (q4==1),.int .i64 r0,.int .i64 r1])):=⟨rfl,rfl,rfl,by simp,fun x hx=>setRow_other _ _ _ _ hx⟩
  have HR:=Lib.hid (Hd.out.step hsr (by show b≠_;omega) (by show gb≠_;omega))
  have TR:=Lib.hid (Td.out.trans (hsr.imp (S':=fun y=>y<w.heap.size∧y≠b) (fun y h=>by have:=h.1;show y≠w.heap.size;omega)))
  have hk:(fun w':World=>w'.cell? ⟨sb,0,none⟩=some (.string ⟨xa.toArray⟩)∧w'.cell? ⟨sb,1,none⟩=some (.string ⟨xb.toArray⟩)∧w'.cell? ⟨sb,2,none⟩=some (.bool (q2==1))∧w'.cell? ⟨sb,3,none⟩=some (.int .i64 q0)∧w'.cell? ⟨sb,4,none⟩=some (.bool (q3==1))∧w'.cell? ⟨sb,5,none⟩=some (.int .i64 q1)∧w'.cell? ⟨sb,6,none⟩=some (.bool (q4==1))∧w'.cell? ⟨sb,7,none⟩=some (.int .i64 r0)∧w'.cell? ⟨sb,8,none⟩=some (.int .i64 r1)∧w'.cell? ⟨gn,2,none⟩=some (.int .i64 q2)∧w'.cell? ⟨gn,3,none⟩=some (.int .i64 q3)∧w'.cell? ⟨gn,4,none⟩=some (.int .i64 q4)) (wd.setRow w.heap.size (#[.string ⟨xa.toArray⟩,.string ⟨xb.toArray⟩,.bool (q2==1),.int .i64 q0,.bool (q3==1),.int .i64 q1,.bool (q4==1),.int .i64 r0,.int .i64 r1])):=⟨(hsr.cell (p:=⟨sb,0,none⟩) hrs.symm).trans hHeld.1,(hsr.cell (p:=⟨sb,1,none⟩) hrs.symm).trans hHeld.2.1,(hsr.cell (p:=⟨sb,2,none⟩) hrs.symm).trans hHeld.2.2.1,(hsr.cell (p:=⟨sb,3,none⟩) hrs.symm).trans hHeld.2.2.2.1,(hsr.cell (p:=⟨sb,4,none⟩) hrs.symm).trans hHeld.2.2.2.2.1,(hsr.cell (p:=⟨sb,5,none⟩) hrs.symm).trans hHeld.2.2.2.2.2.1,(hsr.cell (p:=⟨sb,6,none⟩) hrs.symm).trans hHeld.2.2.2.2.2.2.1,(hsr.cell (p:=⟨sb,7,none⟩) hrs.symm).trans hHeld.2.2.2.2.2.2.2.1,(hsr.cell (p:=⟨sb,8,none⟩) hrs.symm).trans hHeld.2.2.2.2.2.2.2.2.1,(hsr.cell (p:=⟨gn,2,none⟩) hgn3).trans hHeld.2.2.2.2.2.2.2.2.2.1,(hsr.cell (p:=⟨gn,3,none⟩) hgn3).trans hHeld.2.2.2.2.2.2.2.2.2.2.1,(hsr.cell (p:=⟨gn,4,none⟩) hgn3).trans hHeld.2.2.2.2.2.2.2.2.2.2.2⟩
  refine hK.out _ _ hk (fun hHeld=> ?_)
  clear hK K hk hsr
  try simp only [List.getElem_toArray,List.getElem_cons_zero,List.getElem_cons_succ,Act.put,List.setIfInBounds_toArray,List.set_cons_zero,List.set_cons_succ]
  refine wpAnyH_done (by kernel_rfl) ?_ _
  simp only [phaseQ]
  clear hHeld
  go_wp2_with fail
  refine bodyPost_ret (results_row_tmp rfl _ _ w.heap.size _ _ _ _ rfl FRR.out Tryz.underlying72 rfl (by kernel_rfl)) rfl ?_
  exact⟨_,false,s4,rfl,HK.out,HG.out,HR.out,TR.out⟩
 | true=>
  refine wpAnyH_take (i:=5) (v:= ?_) rfl (by kernel_rfl) (by kernel_rfl) (by kernel_rfl) (fun _ _ _ h=>h) (Or.inl ⟨by kernel_rfl,?_⟩) hHeld ?_
  rotate_left
  ·(intro w hSw;(try dsimp only at hSw);go_simp;try with_reducible rfl)
  simp only [List.getElem_toArray,List.getElem_cons_zero,List.getElem_cons_succ,Act.put,List.setIfInBounds_toArray,List.set_cons_zero,List.set_cons_succ]
  refine wpAnyH_take (i:=6) (v:= ?_) rfl (by kernel_rfl) (by kernel_rfl) (by kernel_rfl) (fun _ _ _ h=>h) (Or.inl ⟨by kernel_rfl,?_⟩) hHeld ?_
  rotate_left
  ·(intro w hSw;(try dsimp only at hSw);go_simp;try with_reducible rfl)
  simp only [List.getElem_toArray,List.getElem_cons_zero,List.getElem_cons_succ,Act.put,List.setIfInBounds_toArray,List.set_cons_zero,List.set_cons_succ]
  refine wpAnyH_take (i:=7) (v:= ?_) rfl (by kernel_rfl) (by kernel_rfl) (by kernel_rfl) (fun _ _ _ h=>h) (Or.inl ⟨by kernel_rfl,?_⟩) hHeld ?_
  rotate_left
  ·(intro w hSw;(try dsimp only at hSw);go_simp;try with_reducible rfl)
  simp only [List.getElem_toArray,List.getElem_cons_zero,List.getElem_cons_succ,Act.put,List.setIfInBounds_toArray,List.set_cons_zero,List.set_cons_succ]
  refine wpAnyH_take (i:=8) (v:= ?_) rfl (by kernel_rfl) (by kernel_rfl) (by kernel_rfl) (fun _ _ _ h=>h) (Or.inl ⟨by kernel_rfl,?_⟩) hHeld ?_
  rotate_left
  ·(intro w hSw;(try dsimp only at hSw);go_simp;try with_reducible rfl)
  simp only [List.getElem_toArray,List.getElem_cons_zero,List.getElem_cons_succ,Act.put,List.setIfInBounds_toArray,List.set_cons_zero,List.set_cons_succ]
  refine wpAnyH_take (i:=9) (v:= ?_) rfl (by kernel_rfl) (by kernel_rfl) (by kernel_rfl) (fun _ _ _ h=>h) (Or.inl ⟨by kernel_rfl,?_⟩) hHeld ?_
  rotate_left
  ·(intro w hSw;(try dsimp only at hSw);go_simp;try with_reducible rfl)
  simp only [List.getElem_toArray,List.getElem_cons_zero,List.getElem_cons_succ,Act.put,List.setIfInBounds_toArray,List.set_cons_zero,List.set_cons_succ]
  rw [← Hd3.out]
  clear Hd3
  cases d3 with
  | false=>
   refine wpAnyH_take (i:=10) (v:= ?_) rfl (by kernel_rfl) (by kernel_rfl) (by kernel_rfl) (fun _ _ _ h=>h) (Or.inl ⟨by kernel_rfl,?_⟩) hHeld ?_
   rotate_left
   ·(intro w hSw;(try dsimp only at hSw);go_simp;try with_reducible rfl)
   simp only [List.getElem_toArray,List.getElem_cons_zero,List.getElem_cons_succ,Act.put,List.setIfInBounds_toArray,List.set_cons_zero,List.set_cons_succ]
   refine wpAnyH_take (i:=11) (v:= ?_) rfl (by kernel_rfl) (by kernel_rfl) (by kernel_rfl) (fun _ _ _ h=>h) (Or.inl ⟨by kernel_rfl,?_⟩) hHeld ?_
   rotate_left
   ·(intro w hSw;(try dsimp only at hSw);go_simp;try with_reducible rfl)
   simp only [List.getElem_toArray,List.getElem_cons_zero,List.getElem_cons_succ,Act.put,List.setIfInBounds_toArray,List.set_cons_zero,List.set_cons_succ]
   refine wpAnyH_take (i:=12) (v:=undef) rfl (by kernel_rfl) (by kernel_rfl) (by kernel_rfl) (fun _ _ _ h=>h) (Or.inr ⟨by kernel_rfl,rfl⟩) hHeld ?_
   simp only [List.getElem_toArray,List.getElem_cons_zero,List.getElem_cons_succ,Act.put,List.setIfInBounds_toArray,List.set_cons_zero,List.set_cons_succ]
   refine wpAnyH_take (i:=13) (v:=undef) rfl (by kernel_rfl) (by kernel_rfl) (by kernel_rfl) (fun _ _ _ h=>h) (Or.inr ⟨by kernel_rfl,rfl⟩) hHeld ?_
   simp only [List.getElem_toArray,List.getElem_cons_zero,List.getElem_cons_succ,Act.put,List.setIfInBounds_toArray,List.set_cons_zero,List.set_cons_succ]
   refine wpAnyH_take (i:=14) (v:=undef) rfl (by kernel_rfl) (by kernel_rfl) (by kernel_rfl) (fun _ _ _ h=>h) (Or.inr ⟨by kernel_rfl,rfl⟩) hHeld ?_
   simp only [List.getElem_toArray,List.getElem_cons_zero,List.getElem_cons_succ,Act.put,List.setIfInBounds_toArray,List.set_cons_zero,List.set_cons_succ]
   refine wpAnyH_take (i:=15) (v:=undef) rfl (by kernel_rfl) (by kernel_rfl) (by kernel_rfl) (fun _ _ _ h=>h) (Or.inr ⟨by kernel_rfl,rfl⟩) hHeld ?_
   simp only [List.getElem_toArray,List.getElem_cons_zero,List.getElem_cons_succ,Act.put,List.setIfInBounds_toArray,List.set_cons_zero,List.set_cons_succ]
   refine wpAnyH_take (i:=16) (v:= ?_) rfl (by kernel_rfl) (by kernel_rfl) (by kernel_rfl) (fun _ _ _ h=>h) (Or.inl ⟨by kernel_rfl,?_⟩) hHeld ?_
   rotate_left
   ·(intro w hSw;(try dsimp only at hSw);go_simp;try with_reducible rfl)
   simp only [List.getElem_toArray,List.getElem_cons_zero,List.getElem_cons_succ,Act.put,List.setIfInBounds_toArray,List.set_cons_zero,List.set_cons_succ]
   refine wpAnyH_ready (rs:=[17]) (by kernel_rfl) (by simp) ?_
   refine AllReadyH.cons rfl (fun K hK=> ?_) AllReadyH.nil
   refine wp_store_row 72 (.tmp 2) (.tmp 57) rfl w.heap.size (#[.string ⟨xa.toArray⟩,.string ⟨xb.toArray⟩,.bool (q2==1),.int .i64 q0,.bool (q3==1),.int .i64 q1,.bool (q4==1),.int .i64 r0,.int .i64 r1]) rfl rfl _ _ FRd.out (by kernel_rfl) rfl (by simp [Value.oneCell']) ?_
   have FRR:=Lib.hid (setRow_heap _ w.heap.size _ (#[.string ⟨xa.toArray⟩,.string ⟨xb.toArray⟩,.bool (q2==1),.int .i64 q0,.bool (q3==1),.int .i64 q1,.bool (q4==1),.int .i64 r0,.int .i64 r1]) _ _ FRd.out)
   have hsr:Step (fun x=>x≠w.heap.size) wd (wd.setRow w.heap.size (#[.string ⟨xa.toArray⟩,.string ⟨xb.toArray⟩,.bool (q2==1),.int .i64 q0,.bool (q3==1),.int .i64 q1,.bool (q4==1),.int .i64 r0,.int .i64 r1])):=⟨rfl,rfl,rfl,by simp,fun x hx=>setRow_other _ _ _ _ hx⟩
   have HR:=Lib.hid (Hd.out.step hsr (by show b≠_;omega) (by show gb≠_;omega))
   have TR:=Lib.hid (Td.out.trans (hsr.imp (S':=fun y=>y<w.heap.size∧y≠b) (fun y h=>by have:=h.1;show y≠w.heap.size;omega)))
   have hk:(fun w':World=>w'.cell? ⟨sb,0,none⟩=some (.string ⟨xa.toArray⟩)∧w'.cell? ⟨sb,1,none⟩=some (.string ⟨xb.toArray⟩)∧w'.cell? ⟨sb,2,none⟩=some (.bool (q2==1))∧w'.cell? ⟨sb,3,none⟩=some (.int .i64 q0)∧w'.cell? ⟨sb,4,none⟩=some (.bool (q3==1))∧w'.cell? ⟨sb,5,none⟩=some (.int .i64 q1)∧w'.cell? ⟨sb,6,none⟩=some (.bool (q4==1))∧w'.cell? ⟨sb,7,none⟩=some (.int .i64 r0)∧w'.cell? ⟨sb,8,none⟩=some (.int .i64 r1)∧w'.cell? ⟨gn,2,none⟩=some (.int .i64 q2)∧w'.cell? ⟨gn,3,none⟩=some (.int .i64 q3)∧w'.cell? ⟨gn,4,none⟩=some (.int .i64 q4)) (wd.setRow w.heap.size (#[.string ⟨xa.toArray⟩,.string ⟨xb.toArray⟩,.bool (q2==1),.int .i64 q0,.bool (q3==1),.int .i64 q1,.bool (q4==1),.int .i64 r0,.int .i64 r1])):=⟨(hsr.cell (p:=⟨sb,0,none⟩) hrs.symm).trans hHeld.1,(hsr.cell (p:=⟨sb,1,none⟩) hrs.symm).trans hHeld.2.1,(hsr.cell (p:=⟨sb,2,none⟩) hrs.symm).trans hHeld.2.2.1,(hsr.cell (p:=⟨sb,3,none⟩) hrs.symm).trans hHeld.2.2.2.1,(hsr.cell (p:=⟨sb,4,none⟩) hrs.symm).trans hHeld.2.2.2.2.1,(hsr.cell (p:=⟨sb,5,none⟩) hrs.symm).trans hHeld.2.2.2.2.2.1,(hsr.cell (p:=⟨sb,6,none⟩) hrs.symm).trans hHeld.2.2.2.2.2.2.1,(hsr.cell (p:=⟨sb,7,none⟩) hrs.symm).trans hHeld.2.2.2.2.2.2.2.1,(hsr.cell (p:=⟨sb,8,none⟩) hrs.symm).trans hHeld.2.2.2.2.2.2.2.2.1,(hsr.cell (p:=⟨gn,2,none⟩) hgn3).trans hHeld.2.2.2.2.2.2.2.2.2.1,(hsr.cell (p:=⟨gn,3,none⟩) hgn3).trans hHeld.2.2.2.2.2.2.2.2.2.2.1,(hsr.cell (p:=⟨gn,4,none⟩) hgn3).trans hHeld.2.2.2.2.2.2.2.2.2.2.2⟩
   refine hK.out _ _ hk (fun hHeld=> ?_)
   clear hK K hk hsr
   try simp only [List.getElem_toArray,List.getElem_cons_zero,List.getElem_cons_succ,Act.put,List.setIfInBounds_toArray,List.set_cons_zero,List.set_cons_succ]
   refine wpAnyH_done (by kernel_rfl) ?_ _
   simp only [phaseQ]
   clear hHeld
   go_wp2_with fail
   refine bodyPost_ret (results_row_tmp rfl _ _ w.heap.size _ _ _ _ rfl FRR.out Tryz.underlying72 rfl (by kernel_rfl)) rfl ?_
   exact⟨_,false,s4,rfl,HK.out,HG.out,HR.out,TR.out⟩
  | true=>
   refine wpAnyH_take (i:=10) (v:= ?_) rfl (by kernel_rfl) (by kernel_rfl) (by kernel_rfl) (fun _ _ _ h=>h) (Or.inl ⟨by kernel_rfl,?_⟩) hHeld ?_
   rotate_left
   ·(intro w hSw;(try dsimp only at hSw);go_simp;try with_reducible rfl)
   simp only [List.getElem_toArray,List.getElem_cons_zero,List.getElem_cons_succ,Act.put,List.setIfInBounds_toArray,List.set_cons_zero,List.set_cons_succ]
   refine wpAnyH_take (i:=11) (v:= ?_) rfl (by kernel_rfl) (by kernel_rfl) (by kernel_rfl) (fun _ _ _ h=>h) (Or.inl ⟨by kernel_rfl,?_⟩) hHeld ?_
   rotate_left
   ·(intro w hSw;(try dsimp only at hSw);go_simp;try with_reducible rfl)
   simp only [List.getElem_toArray,List.getElem_cons_zero,List.getElem_cons_succ,Act.put,List.setIfInBounds_toArray,List.set_cons_zero,List.set_cons_succ]
   refine wpAnyH_take (i:=12) (v:= ?_) rfl (by kernel_rfl) (by kernel_rfl) (by kernel_rfl) (fun _ _ _ h=>h) (Or.inl ⟨by kernel_rfl,?_⟩) hHeld ?_
   rotate_left
   ·(intro w hSw;(try dsimp only at hSw);go_simp;try with_reducible rfl)
   simp only [List.getElem_toArray,List.getElem_cons_zero,List.getElem_cons_succ,Act.put,List.setIfInBounds_toArray,List.set_cons_zero,List.set_cons_succ]
   refine wpAnyH_take (i:=13) (v:= ?_) rfl (by kernel_rfl) (by kernel_rfl) (by kernel_rfl) (fun _ _ _ h=>h) (Or.inl ⟨by kernel_rfl,?_⟩) hHeld ?_
   rotate_left
   ·(intro w hSw;(try dsimp only at hSw);go_simp;try with_reducible rfl)
   simp only [List.getElem_toArray,List.getElem_cons_zero,List.getElem_cons_succ,Act.put,List.setIfInBounds_toArray,List.set_cons_zero,List.set_cons_succ]
   refine wpAnyH_take (i:=14) (v:= ?_) rfl (by kernel_rfl) (by kernel_rfl) (by kernel_rfl) (fun _ _ _ h=>h) (Or.inl ⟨by kernel_rfl,?_⟩) hHeld ?_
   rotate_left
   ·(intro w hSw;(try dsimp only at hSw);go_simp;try with_reducible rfl)
   simp only [List.getElem_toArray,List.getElem_cons_zero,List.getElem_cons_succ,Act.put,List.setIfInBounds_toArray,List.set_cons_zero,List.set_cons_succ]
   refine wpAnyH_take (i:=15) (v:= ?_) rfl (by kernel_rfl) (by kernel_rfl) (by kernel_rfl) (fun _ _ _ h=>h) (Or.inl ⟨by kernel_rfl,?_⟩) hHeld ?_
   rotate_left
   ·(intro w hSw;(try dsimp only at hSw);go_simp;try with_reducible rfl)
   simp only [List.getElem_toArray,List.getElem_cons_zero,List.getElem_cons_succ,Act.put,List.setIfInBounds_toArray,List.set_cons_zero,List.set_cons_succ]
   rw [← Hd4.out]
   clear Hd4
   refine wpAnyH_take (i:=16) (v:= ?_) rfl (by kernel_rfl) (by kernel_rfl) (by kernel_rfl) (fun _ _ _ h=>h) (Or.inl ⟨by kernel_rfl,?_⟩) hHeld ?_
   rotate_left
   ·(intro w hSw;(try dsimp only at hSw);go_simp;try with_reducible rfl)
   simp only [List.getElem_toArray,List.getElem_cons_zero,List.getElem_cons_succ,Act.put,List.setIfInBounds_toArray,List.set_cons_zero,List.set_cons_succ]
   refine wpAnyH_ready (rs:=[17]) (by kernel_rfl) (by simp) ?_
   refine AllReadyH.cons rfl (fun K hK=> ?_) AllReadyH.nil
   refine wp_store_row 72 (.tmp 2) (.tmp 57) rfl w.heap.size (#[.string ⟨xa.toArray⟩,.string ⟨xb.toArray⟩,.bool (q2==1),.int .i64 q0,.bool (q3==1),.int .i64 q1,.bool (q4==1),.int .i64 r0,.int .i64 r1]) rfl rfl _ _ FRd.out (by kernel_rfl) rfl (by simp [Value.oneCell']) ?_
   have FRR:=Lib.hid (setRow_heap _ w.heap.size _ (#[.string ⟨xa.toArray⟩,.string ⟨xb.toArray⟩,.bool (q2==1),.int .i64 q0,.bool (q3==1),.int .i64 q1,.bool (q4==1),.int .i64 r0,.int .i64 r1]) _ _ FRd.out)
   have hsr:Step (fun x=>x≠w.heap.size) wd (wd.setRow w.heap.size (#[.string ⟨xa.toArray⟩,.string ⟨xb.toArray⟩,.bool (q2==1),.int .i64 q0,.bool (q3==1),.int .i64 q1,.bool (q4==1),.int .i64 r0,.int .i64 r1])):=⟨rfl,rfl,rfl,by simp,fun x hx=>setRow_other _ _ _ _ hx⟩
   have HR:=Lib.hid (Hd.out.step hsr (by show b≠_;omega) (by show gb≠_;omega))
   have TR:=Lib.hid (Td.out.trans (hsr.imp (S':=fun y=>y<w.heap.size∧y≠b) (fun y h=>by have:=h.1;show y≠w.heap.size;omega)))
   have hk:(fun w':World=>w'.cell? ⟨sb,0,none⟩=some (.string ⟨xa.toArray⟩)∧w'.cell? ⟨sb,1,none⟩=some (.string ⟨xb.toArray⟩)∧w'.cell? ⟨sb,2,none⟩=some (.bool (q2==1))∧w'.cell? ⟨sb,3,none⟩=some (.int .i64 q0)∧w'.cell? ⟨sb,4,none⟩=some (.bool (q3==1))∧w'.cell? ⟨sb,5,none⟩=some (.int .i64 q1)∧w'.cell? ⟨sb,6,none⟩=some (.bool (q4==1))∧w'.cell? ⟨sb,7,none⟩=some (.int .i64 r0)∧w'.cell? ⟨sb,8,none⟩=some (.int .i64 r1)∧w'.cell? ⟨gn,2,none⟩=some (.int .i64 q2)∧w'.cell? ⟨gn,3,none⟩=some (.int .i64 q3)∧w'.cell? ⟨gn,4,none⟩=some (.int .i64 q4)) (wd.setRow w.heap.size (#[.string ⟨xa.toArray⟩,.string ⟨xb.toArray⟩,.bool (q2==1),.int .i64 q0,.bool (q3==1),.int .i64 q1,.bool (q4==1),.int .i64 r0,.int .i64 r1])):=⟨(hsr.cell (p:=⟨sb,0,none⟩) hrs.symm).trans hHeld.1,(hsr.cell (p:=⟨sb,1,none⟩) hrs.symm).trans hHeld.2.1,(hsr.cell (p:=⟨sb,2,none⟩) hrs.symm).trans hHeld.2.2.1,(hsr.cell (p:=⟨sb,3,none⟩) hrs.symm).trans hHeld.2.2.2.1,(hsr.cell (p:=⟨sb,4,none⟩) hrs.symm).trans hHeld.2.2.2.2.1,(hsr.cell (p:=⟨sb,5,none⟩) hrs.symm).trans hHeld.2.2.2.2.2.1,(hsr.cell (p:=⟨sb,6,none⟩) hrs.symm).trans hHeld.2.2.2.2.2.2.1,(hsr.cell (p:=⟨sb,7,none⟩) hrs.symm).trans hHeld.2.2.2.2.2.2.2.1,(hsr.cell (p:=⟨sb,8,none⟩) hrs.symm).trans hHeld.2.2.2.2.2.2.2.2.1,(hsr.cell (p:=⟨gn,2,none⟩) hgn3).trans hHeld.2.2.2.2.2.2.2.2.2.1,(hsr.cell (p:=⟨gn,3,none⟩) hgn3).trans hHeld.2.2.2.2.2.2.2.2.2.2.1,(hsr.cell (p:=⟨gn,4,none⟩) hgn3).trans hHeld.2.2.2.2.2.2.2.2.2.2.2⟩
   refine hK.out _ _ hk (fun hHeld=> ?_)
   clear hK K hk hsr
   try simp only [List.getElem_toArray,List.getElem_cons_zero,List.getElem_cons_succ,Act.put,List.setIfInBounds_toArray,List.set_cons_zero,List.set_cons_succ]
   refine wpAnyH_done (by kernel_rfl) ?_ _
   simp only [phaseQ]
   clear hHeld
   go_wp2_with fail
   refine bodyPost_ret (results_row_tmp rfl _ _ w.heap.size _ _ _ _ rfl FRR.out Tryz.underlying72 rfl (by kernel_rfl)) rfl ?_
   exact⟨_,d4,s4,rfl,HK.out,HG.out,HR.out,TR.out⟩
end Go.Proofs.YtfchpchabdhcgaaGreat
namespace Go.Proofs.YtfchpchabdhcgaaGreat
open Go.RowKit
def zcodeOf (f:Func):Code:=f.body.getD .skip
def zbehind:Nat→Code→Code
 | 0,c=>c
 | n+1,.seq _ b=>zbehind n b
 | _+1,c=>c
def zfirstOf:Code→Code
 | .seq a _=>a
 | c=>c
def zRest (f:Func) (n:Nat):Code:=zbehind n (zcodeOf f)
def zCode (f:Func) (n:Nat):Code:=zfirstOf (zRest f n)
def zFrL (t:Array Value):List (Nat × Value)→Prop
 | []=>True
 | p :: l=>t.getD p.1 undef=p.2∧zFrL t l
def zFr (xs:List (Nat × Value)) (a:Act):Prop:=a.tmps.size=279∧a.defers=[]∧zFrL a.tmps xs
theorem zlists_cons {n:Nat} {p:List Value→Prop} (h:∀ x t,t.length=n→p (x :: t)):∀ l:List Value,l.length=n+1→p l:=by
 intro l hl
 cases l with
 | nil=>cases hl
 | cons x t=>exact h x t (Nat.succ.inj hl)
theorem zlists_nil {p:List Value→Prop} (h:p []):∀ l:List Value,l.length=0→p l:=by
 intro l hl
 cases l with
 | nil=>exact h
 | cons x t=>cases hl
theorem zframes {p:List Value→Prop} (h:∀ V0 V1 V2 V3 V4 V5 V6 V7 V8 V9 V10 V11 V12 V13 V14 V15 V16 V17 V18 V19 V20 V21 V22 V23 V24 V25 V26 V27 V28 V29 V30 V31 V32 V33 V34 V35 V36 V37 V38 V39
  V40 V41 V42 V43 V44 V45 V46 V47 V48 V49 V50 V51 V52 V53 V54 V55 V56 V57 V58 V59 V60 V61 V62 V63 V64 V65 V66 V67 V68 V69 V70 V71 V72 V73 V74 V75 V76 V77 V78 V79
  V80 V81 V82 V83 V84 V85 V86 V87 V88 V89 V90 V91 V92 V93 V94 V95 V96 V97 V98 V99 V100 V101 V102 V103 V104 V105 V106 V107 V108 V109 V110 V111 V112 V113 V114 V115 V116 V117 V118 V119
  V120 V121 V122 V123 V124 V125 V126 V127 V128 V129 V130 V131 V132 V133 V134 V135 V136 V137 V138 V139 V140 V141 V142 V143 V144 V145 V146 V147 V148 V149 V150 V151 V152 V153 V154 V155 V156 V157 V158 V159
  V160 V161 V162 V163 V164 V165 V166 V167 V168 V169 V170 V171 V172 V173 V174 V175 V176 V177 V178 V179 V180 V181 V182 V183 V184 V185 V186 V187 V188 V189 V190 V191 V192 V193 V194 V195 V196 V197 V198 V199
  V200 V201 V202 V203 V204 V205 V206 V207 V208 V209 V210 V211 V212 V213 V214 V215 V216 V217 V218 V219 V220 V221 V222 V223 V224 V225 V226 V227 V228 V229 V230 V231 V232 V233 V234 V235 V236 V237 V238 V239
  V240 V241 V242 V243 V244 V245 V246 V247 V248 V249 V250 V251 V252 V253 V254 V255 V256 V257 V258 V259 V260 V261 V262 V263 V264 V265 V266 V267 V268 V269 V270 V271 V272 V273 V274 V275 V276 V277 V278:Value,p [V0,V1,V2,V3,V4,V5,V6,V7,V8,V9,V10,V11,V12,V13,V14,V15,V16,V17,V18,V19,V20,V21,V22,V23,V24,V25,V26,V27,V28,V29,V30,V31,V32,V33,V34,V35,V36,V37,V38,V39,V40,V41,V42,V43,V44,V45,V46,V47,V48,V49,V50,V51,V52,V53,V54,V55,V56,V57,V58,V59,V60,V61,V62,V63,V64,V65,V66,V67,V68,V69,V70,V71,V72,V73,V74,V75,V76,V77,V78,V79,V80,V81,V82,V83,V84,V85,V86,V87,V88,V89,V90,V91,V92,V93,V94,V95,V96,V97,V98,V99,V100,V101,V102,V103,V104,V105,V106,V107,V108,V109,V110,V111,V112,V113,V114,V115,V116,V117,V118,V119,V120,V121,V122,V123,V124,V125,V126,V127,V128,V129,V130,V131,V132,V133,V134,V135,V136,V137,V138,V139,V140,V141,V142,V143,V144,V145,V146,V147,V148,V149,V150,V151,V152,V153,V154,V155,V156,V157,V158,V159,V160,V161,V162,V163,V164,V165,V166,V167,V168,V169,V170,V171,V172,V173,V174,V175,V176,V177,V178,V179,V180,V181,V182,V183,V184,V185,V186,V187,V188,V189,V190,V191,V192,V193,V194,V195,V196,V197,V198,V199,V200,V201,V202,V203,V204,V205,V206,V207,V208,V209,V210,V211,V212,V213,V214,V215,V216,V217,V218,V219,V220,V221,V222,V223,V224,V225,V226,V227,V228,V229,V230,V231,V232,V233,V234,V235,V236,V237,V238,V239,V240,V241,V242,V243,V244,V245,V246,V247,V248,V249,V250,V251,V252,V253,V254,V255,V256,V257,V258,V259,V260,V261,V262,V263,V264,V265,V266,V267,V268,V269,V270,V271,V272,V273,V274,V275,V276,V277,V278]):∀ l:List Value,l.length=279→p l:=by
 iterate 279 (refine zlists_cons (fun _=> ?_))
 exact zlists_nil (h _ _ _ _ _ _ _ _ _ _ _ _ _ _ _ _ _ _ _ _ _ _ _ _ _ _ _ _ _ _ _ _ _ _ _ _ _ _ _ _
  _ _ _ _ _ _ _ _ _ _ _ _ _ _ _ _ _ _ _ _ _ _ _ _ _ _ _ _ _ _ _ _ _ _ _ _ _ _ _ _
  _ _ _ _ _ _ _ _ _ _ _ _ _ _ _ _ _ _ _ _ _ _ _ _ _ _ _ _ _ _ _ _ _ _ _ _ _ _ _ _
  _ _ _ _ _ _ _ _ _ _ _ _ _ _ _ _ _ _ _ _ _ _ _ _ _ _ _ _ _ _ _ _ _ _ _ _ _ _ _ _
  _ _ _ _ _ _ _ _ _ _ _ _ _ _ _ _ _ _ _ _ _ _ _ _ _ _ _ _ _ _ _ _ _ _ _ _ _ _ _ _
  _ _ _ _ _ _ _ _ _ _ _ _ _ _ _ _ _ _ _ _ _ _ _ _ _ _ _ _ _ _ _ _ _ _ _ _ _ _ _ _
  _ _ _ _ _ _ _ _ _ _ _ _ _ _ _ _ _ _ _ _ _ _ _ _ _ _ _ _ _ _ _ _ _ _ _ _ _ _ _)
theorem zFr.elim {xs:List (Nat × Value)} {a:Act} {C:Act→Prop} (h:zFr xs a) (k:∀ V0 V1 V2 V3 V4 V5 V6 V7 V8 V9 V10 V11 V12 V13 V14 V15 V16 V17 V18 V19 V20 V21 V22 V23 V24 V25 V26 V27 V28 V29 V30 V31 V32 V33 V34 V35 V36 V37 V38 V39
  V40 V41 V42 V43 V44 V45 V46 V47 V48 V49 V50 V51 V52 V53 V54 V55 V56 V57 V58 V59 V60 V61 V62 V63 V64 V65 V66 V67 V68 V69 V70 V71 V72 V73 V74 V75 V76 V77 V78 V79
  V80 V81 V82 V83 V84 V85 V86 V87 V88 V89 V90 V91 V92 V93 V94 V95 V96 V97 V98 V99 V100 V101 V102 V103 V104 V105 V106 V107 V108 V109 V110 V111 V112 V113 V114 V115 V116 V117 V118 V119
  V120 V121 V122 V123 V124 V125 V126 V127 V128 V129 V130 V131 V132 V133 V134 V135 V136 V137 V138 V139 V140 V141 V142 V143 V144 V145 V146 V147 V148 V149 V150 V151 V152 V153 V154 V155 V156 V157 V158 V159
  V160 V161 V162 V163 V164 V165 V166 V167 V168 V169 V170 V171 V172 V173 V174 V175 V176 V177 V178 V179 V180 V181 V182 V183 V184 V185 V186 V187 V188 V189 V190 V191 V192 V193 V194 V195 V196 V197 V198 V199
  V200 V201 V202 V203 V204 V205 V206 V207 V208 V209 V210 V211 V212 V213 V214 V215 V216 V217 V218 V219 V220 V221 V222 V223 V224 V225 V226 V227 V228 V229 V230 V231 V232 V233 V234 V235 V236 V237 V238 V239
  V240 V241 V242 V243 V244 V245 V246 V247 V248 V249 V250 V251 V252 V253 V254 V255 V256 V257 V258 V259 V260 V261 V262 V263 V264 V265 V266 V267 V268 V269 V270 V271 V272 V273 V274 V275 V276 V277 V278:Value,zFr xs ⟨#[V0,V1,V2,V3,V4,V5,V6,V7,V8,V9,V10,V11,V12,V13,V14,V15,V16,V17,V18,V19,V20,V21,V22,V23,V24,V25,V26,V27,V28,V29,V30,V31,V32,V33,V34,V35,V36,V37,V38,V39,V40,V41,V42,V43,V44,V45,V46,V47,V48,V49,V50,V51,V52,V53,V54,V55,V56,V57,V58,V59,V60,V61,V62,V63,V64,V65,V66,V67,V68,V69,V70,V71,V72,V73,V74,V75,V76,V77,V78,V79,V80,V81,V82,V83,V84,V85,V86,V87,V88,V89,V90,V91,V92,V93,V94,V95,V96,V97,V98,V99,V100,V101,V102,V103,V104,V105,V106,V107,V108,V109,V110,V111,V112,V113,V114,V115,V116,V117,V118,V119,V120,V121,V122,V123,V124,V125,V126,V127,V128,V129,V130,V131,V132,V133,V134,V135,V136,V137,V138,V139,V140,V141,V142,V143,V144,V145,V146,V147,V148,V149,V150,V151,V152,V153,V154,V155,V156,V157,V158,V159,V160,V161,V162,V163,V164,V165,V166,V167,V168,V169,V170,V171,V172,V173,V174,V175,V176,V177,V178,V179,V180,V181,V182,V183,V184,V185,V186,V187,V188,V189,V190,V191,V192,V193,V194,V195,V196,V197,V198,V199,V200,V201,V202,V203,V204,V205,V206,V207,V208,V209,V210,V211,V212,V213,V214,V215,V216,V217,V218,V219,V220,V221,V222,V223,V224,V225,V226,V227,V228,V229,V230,V231,V232,V233,V234,V235,V236,V237,V238,V239,V240,V241,V242,V243,V244,V245,V246,V247,V248,V249,V250,V251,V252,V253,V254,V255,V256,V257,V258,V259,V260,V261,V262,V263,V264,V265,V266,V267,V268,V269,V270,V271,V272,V273,V274,V275,V276,V277,V278],[]⟩→C ⟨#[V0,V1,V2,V3,V4,V5,V6,V7,V8,V9,V10,V11,V12,V13,V14,V15,V16,V17,V18,V19,V20,V21,V22,V23,V24,V25,V26,V27,V28,V29,V30,V31,V32,V33,V34,V35,V36,V37,V38,V39,V40,V41,V42,V43,V44,V45,V46,V47,V48,V49,V50,V51,V52,V53,V54,V55,V56,V57,V58,V59,V60,V61,V62,V63,V64,V65,V66,V67,V68,V69,V70,V71,V72,V73,V74,V75,V76,V77,V78,V79,V80,V81,V82,V83,V84,V85,V86,V87,V88,V89,V90,V91,V92,V93,V94,V95,V96,V97,V98,V99,V100,V101,V102,V103,V104,V105,V106,V107,V108,V109,V110,V111,V112,V113,V114,V115,V116,V117,V118,V119,V120,V121,V122,V123,V124,V125,V126,V127,V128,V129,V130,V131,V132,V133,V134,V135,V136,V137,V138,V139,V140,V141,V142,V143,V144,V145,V146,V147,V148,V149,V150,V151,V152,V153,V154,V155,V156,V157,V158,V159,V160,V161,V162,V163,V164,V165,V166,V167,V168,V169,V170,V171,V172,V173,V174,V175,V176,V177,V178,V179,V180,V181,V182,V183,V184,V185,V186,V187,V188,V189,V190,V191,V192,V193,V194,V195,V196,V197,V198,V199,V200,V201,V202,V203,V204,V205,V206,V207,V208,V209,V210,V211,V212,V213,V214,V215,V216,V217,V218,V219,V220,V221,V222,V223,V224,V225,V226,V227,V228,V229,V230,V231,V232,V233,V234,V235,V236,V237,V238,V239,V240,V241,V242,V243,V244,V245,V246,V247,V248,V249,V250,V251,V252,V253,V254,V255,V256,V257,V258,V259,V260,V261,V262,V263,V264,V265,V266,V267,V268,V269,V270,V271,V272,V273,V274,V275,V276,V277,V278],[]⟩):C a:=by
 obtain⟨⟨l⟩,d⟩:=a
 obtain⟨h1,h2,h3⟩:=h
 dsimp only at h2
 subst h2
 exact zframes (p:=fun l=>zFr xs ⟨⟨l⟩,[]⟩→C ⟨⟨l⟩,[]⟩) k l h1 ⟨h1,rfl,h3⟩
theorem zd_seq (f:Func) (n:Nat) (h:(match zRest f n with | .seq _ _=>true | _=>false)=true):zRest f n=.seq (zCode f n) (zRest f (n+1)):=by
 have hb:∀ n c,zbehind (n+1) c=zbehind 1 (zbehind n c):=by
  intro n
  induction n with
  | zero=>intro c;rfl
  | succ n ih=>
   intro c
   cases c with
   | seq a b=>exact ih b
   | _=>rfl
 unfold zCode
 unfold zRest at h ⊢
 rw [hb n]
 generalize zbehind n (zcodeOf f)=c at h ⊢
 cases c with
 | seq a b=>rfl
 | _=>cases h
theorem wp_loop_dn {P:Program} {c:Code} {Q:Exit→Act→World→Prop} {a:Act} {w:World} {k m:Nat} (I:Nat→Act→World→Prop) (hc:∀ r a w,I r a w→a.tmps.getD k undef=.int .i64 r) (h0:I m a w)
  (round:∀ r a w K,I r a w→(∀ r' a' w',r=r'+1→I r' a' w'→K a' w')→c.wp P (Exit.then K Q) a w):(Code.loop c).wp P Q a w:=by
 refine wp_loop (fun a w=>∃ r,I r a w) (fun a _=>(intOf (a.tmps.getD k undef)).toNat) ⟨m,h0⟩ ?_
 rintro a w ⟨r,hI⟩
 have hk:=hc r a w hI
 refine round r a w _ hI (fun r' a' w' hr hI'=>⟨⟨r',hI'⟩,?_⟩)
 have hk':=hc _ _ _ hI'
 rw [hk,hk',hr]
 show((r':Nat):Int).toNat<(((r'+1:Nat)):Int).toNat
 omega
theorem zFrL.get {t:Array Value}:∀ {l:List (Nat × Value)},zFrL t l→∀ p∈l,t.getD p.1 undef=p.2
 | _ :: _,h,p,hp=>by
  cases hp with
  | head=>exact h.1
  | tail _ hp=>exact zFrL.get h.2 p hp
def ZQ {α:Type} (e:TypeId) (K:Kind α) (p:List UInt8→Option (α × List UInt8)) (ok:α→Prop) (rb gb ib:Nat) (w0:World) (f0:Bool) (st0:Option (List UInt8)) (w:World) (v:Value) (q:Nat) (f:Bool):Prop:=
 ∃ xs st,OwnK e K w0.heap.size (·<w0.heap.size) w v xs∧xs.length≤q∧(st≠none→xs.length=q)∧(∀ x∈xs,ok x)∧Got (manyP p q) (estS f0 st0) xs (estS f st)∧RX rb gb w st∧Step (fun x=>x<w0.heap.size∧x≠rb∧x≠ib) w0 w
section
variable {α : Type} {e : TypeId} {K : Kind α} {p : List UInt8 → Option (α × List UInt8)} {ok : α → Prop} {rb gb ib : Nat} {w0 w w' : World} {f0 f f' : Bool} {st0 st st' : Option (List UInt8)} {v v' : Value} {q m : Nat} {xs : List α} {x : α}
theorem ZQ.start (h:RX rb gb w0 st0):ZQ e K p ok rb gb ib w0 f0 st0 w0 (.slice none 0 0) 0 f0:=
 ⟨[],st0,OwnK.nil _ _ _ _ _,Nat.le_refl _,(fun _=>rfl),(fun x h=>by cases h),Got.many0 _ _,h,Step.refl _ _⟩
theorem ZQ.next (h2:xs.length=q) (h3:∀ x∈xs,ok x) (h4:Got (manyP p q) (estS f0 st0) xs (estS f st)) (h6:Step (fun x=>x<w0.heap.size∧x≠rb∧x≠ib) w0 w)
  (hg:Got p (estS f st) x (estS f' st')) (hk:ok x) (ho:OwnK e K w0.heap.size (·<w0.heap.size) w' v' (xs++[x])) (hr:RX rb gb w' st') (hs:Step (fun x=>x<w0.heap.size∧x≠rb∧x≠ib) w w'):ZQ e K p ok rb gb ib w0 f0 st0 w' v' (q+1) f':=
 ⟨xs++[x],st',ho,by simp [h2],fun _=>by simp [h2],fun y hy=>by
  rcases List.mem_append.1 hy with h | h
  ·exact h3 y h
  ·simp at h;rw [h];exact hk,h4.snoc hg,hr,h6.trans hs⟩
theorem ZQ.skip (h2:xs.length=q) (h3:∀ x∈xs,ok x) (h4:Got (manyP p q) (estS f0 st0) xs (estS f st)) (h6:Step (fun x=>x<w0.heap.size∧x≠rb∧x≠ib) w0 w)
  (hg:Got p (estS f st) x none) (ho:OwnK e K w0.heap.size (·<w0.heap.size) w' v' xs) (hr:RX rb gb w' none) (hs:Step (fun x=>x<w0.heap.size∧x≠rb∧x≠ib) w w'):ZQ e K p ok rb gb ib w0 f0 st0 w' v' (q+1) f':=
 ⟨xs,none,ho,by omega,fun h=>absurd rfl h,h3,by rw [estS_none];exact(h4.snoc hg).anyv xs,hr,h6.trans hs⟩
end
theorem seg_two:segP=bindP (manyP (numP 4) 2) fun x=>bindP (numP 1) fun p=>bindP blockP fun b t=>some (⟨x.getD 0 0,x.getD 1 0,b,p⟩,t):=
 many_two (numP 4) 0 (fun a s=>bindP (numP 1) fun p=>bindP blockP fun b t=>some ((⟨a,s,b,p⟩:SegL),t))
theorem rel_three:relP=bindP (numP 1) fun k=>bindP (manyP (numP 8) 3) fun x t=>some (⟨x.getD 0 0,k,x.getD 1 0,x.getD 2 0⟩,t):=by
 unfold relP
 congr 1
 funext k
 exact many_three (numP 8) 0 (fun a s d t=>some ((⟨a,k,s,d⟩:RelL),t))
theorem slot_three:slotP=bindP (manyP (numP 4) 3) fun x t=>some (⟨x.getD 0 0,x.getD 1 0,x.getD 2 0⟩,t):=
 many_three (numP 4) 0 (fun a s d t=>some ((⟨a,s,d⟩:SlotL),t))
def ReadPost (w:World) (l:List UInt8) (e:Ending) (w':World):Prop:=
 ∃ v im ok,e=.returned (.tuple #[.agg (imgCells v im),.bool ok])∧Below w.heap.size w w'∧ImgM (fun b=>w.heap.size≤b∧b<w'.heap.size) w' v im∧(ok=true→wholeP l=some im)∧(ok=false→wholeP l=none)
structure ZSt (w:World) (l:List UInt8) (B rb gb ib:Nat) (wc:World) (f:Bool) (s:Option (List UInt8)) (v:ImgV) (im:ImgL) (P:List UInt8→Option (ImgL × List UInt8)):Prop where
 rd:RX rb gb wc s
 ix:wc.heap[ib]? =some (.cells (imgCells v im) 40 (0,0))
 rx:wc.heap[w.heap.size]? =some (.cells #[.string ⟨#[]⟩,.int .i64 0,.slice none 0 0,.slice none 0 0,.slice none 0 0,.slice none 0 0,.slice none 0 0,.slice none 0 0,.int .i64 0,.slice none 0 0,.slice none 0 0,.slice none 0 0,.slice none 0 0,.slice none 0 0,.int .i64 0] 40 (0,0))
 img:ImgM (fun b=>B≤b∧b<wc.heap.size) wc v im
 below:Below w.heap.size w wc
 h1:gb<w.heap.size
 h2:w.heap.size<rb
 h3:rb<ib
 h4:ib<B
 h5:B≤wc.heap.size
 acc:∀ x st',Got P (estS f s) x st'→Got imgP (some l) x st'
theorem ZSt.imgStep {w:World} {l:List UInt8} {B rb gb ib:Nat} {wc w':World} {f:Bool} {s:Option (List UInt8)} {v:ImgV} {im:ImgL} {P:List UInt8→Option (ImgL × List UInt8)} (h:ZSt w l B rb gb ib wc f s v im P) (hs:Step (fun x=>x<wc.heap.size∧x≠rb∧x≠ib) wc w'):ImgM (fun b=>B≤b∧b<w'.heap.size) w' v im:=by
 have h3:=h.h3;have h4:=h.h4
 exact(h.img.keeps (fun b hb=>hs.block b ⟨hb.2,by have:=hb.1;omega,by have:=hb.1;omega⟩)).imp (fun b hb=>⟨hb.1,Nat.lt_of_lt_of_le hb.2 hs.size⟩)
theorem ZSt.go {w:World} {l:List UInt8} {B rb gb ib:Nat} {wc w':World} {f f':Bool} {s s':Option (List UInt8)} {v v':ImgV} {im im':ImgL} {P P':List UInt8→Option (ImgL × List UInt8)} (h:ZSt w l B rb gb ib wc f s v im P) (hs:Step (fun x=>x<wc.heap.size∧x≠rb∧x≠ib) wc w') (hr:RX rb gb w' s') (hx:w'.heap[ib]? =some (.cells (imgCells v' im') 40 (0,0)))
  (hM:ImgM (fun b=>B≤b∧b<w'.heap.size) w' v' im') (ha:∀ x st',Got P' (estS f' s') x st'→Got P (estS f s) x st'):ZSt w l B rb gb ib w' f' s' v' im' P':=by
 have h2:=h.h2;have h3:=h.h3;have h4:=h.h4;have h5:=h.h5
 exact⟨hr,hx,(hs.block _ ⟨by omega,by omega,by omega⟩).trans h.rx,hM,((Step.of_below h.below).trans (hs.imp (fun b hb=>⟨by omega,by omega,by omega⟩))).below,h.h1,h2,h3,h4,Nat.le_trans h5 hs.size,fun x st' hg=>h.acc x st' (ha x st' hg)⟩
end Go.Proofs.YtfchpchabdhcgaaGreat
