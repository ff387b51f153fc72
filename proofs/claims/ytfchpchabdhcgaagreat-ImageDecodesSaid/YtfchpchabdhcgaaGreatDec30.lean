/- Lemmas. -/
import Derived.Test.YtfchpchabdhcgaaGreatDec11
import Derived.Test.YtfchpchabdhcgaaGreatDec24
import Derived.Laws.BytesString
import Derived.Laws.BitsAllLaws
import Derived.Laws.BytesArg
set_option linter.unusedVariables false
set_option linter.unusedSimpArgs false
set_option maxHeartbeats 64000000
set_option maxRecDepth 100000
namespace Go.Proofs.YtfchpchabdhcgaaGreat
open Go.RowKit
structure RB (b gb:Nat) (w:World) (st:Option (List UInt8)):Prop where
 ex:∃ f v r,w.heap[b]? =some (.cells #[.int .i64 f,v] 95 (0,0))∧LB kByte (fun x=>x=gb) w v r∧gb≠b∧gb<w.heap.size∧(match st with | some l=>f=0∧r=l | none=>f≠0)
section
variable {b gb : Nat} {w w' : World} {st : Option (List UInt8)}
theorem RB.lt (h:RB b gb w st):b<w.heap.size:=by
 obtain⟨f,v,r,h1,_⟩:=h.ex
 rcases Nat.lt_or_ge b w.heap.size with h' | h'
 ·exact h'
 ·rw [Array.getElem?_eq_none h']at h1;cases h1
theorem RB.step {S:Nat→Prop} (h:RB b gb w st) (hs:Step S w w') (hb:S b) (hg:S gb):RB b gb w' st:=by
 obtain⟨f,v,r,h1,h2,h3,h4,h5⟩:=h.ex
 exact⟨f,v,r,(hs.block b hb).trans h1,h2.keeps (fun x hx=>by have hx:x=gb:=hx;subst hx;exact hs.block _ hg),h3,Nat.lt_of_lt_of_le h4 hs.size,h5⟩
theorem RB.below (h:RB b gb w st) (hb:Below w.heap.size w w'):RB b gb w' st:=by
 have h1:=h.lt
 obtain⟨f,v,r,_,_,_,h4,_⟩:=h.ex
 exact h.step (.of_below hb) h1 h4
theorem RB.alloc (h:RB b gb w st) (o:Obj):RB b gb (w.alloc o) st:=h.below ((Below.refl _ w).alloc (Nat.le_refl _) o)
end
theorem fail_any (w:World) (b gb:Nat) (e:Int) (st:Option (List UInt8)) (he:e≠0) (h:RB b gb w st):
  Calls Tryz.prog 41 #[.pointer (some ⟨b,0,none⟩),.int .i64 e] w fun e w'=>e=.returned (.tuple #[])∧RB b gb w' none∧Step (fun x=>x≠b) w w'∧w'.heap.size=w.heap.size:=by
 obtain⟨f,v,r,h1,h2,h3,h4,h5⟩:=h.ex
 have c0:w.cell? ⟨b,0,none⟩=some (.int .i64 f):=by rw [Lib.cell_of_heap h1];rfl
 have f0:w.frozen? ⟨b,0,none⟩=false:=Lib.frozen_of_heap h1 0
 have hb:=h.lt
 have H1:=Lib.hid h1
 have H2:=Lib.hid h2
 by_cases hf:f=0
 ·have hd:(f==0)=true:=by rw [beq_iff_eq];exact hf
  have Hfin:Hid (RB b gb (w.setCell ⟨b,0,none⟩ (.int .i64 e)) none):=Lib.hid ⟨e,v,r,by simp [World.setCell,Array.getElem?_modify,h1],h2.keeps (fun x hx=>by have hx:x=gb:=hx;subst hx;exact Below.heap_setCell _ _ _ _ h3),h3,by simpa using h4,he⟩
  have HS:Hid (Step (fun x=>x≠b) w (w.setCell ⟨b,0,none⟩ (.int .i64 e))):=Lib.hid ((Step.refl _ w).setCell (p:=⟨b,0,none⟩) (fun h=>h rfl) _)
  clear h h1 h2 h5 hf
  go_enter Tryz.func41,Tryz.ntmps41
  go_wp2
  go_end0
  exact⟨rfl,Hfin.out,HS.out,by simp⟩
 ·have hd:(f==0)=false:=by rw [beq_eq_false_iff_ne];exact hf
  have Hfin:Hid (RB b gb w none):=Lib.hid ⟨f,v,r,h1,h2,h3,h4,hf⟩
  clear h h1 h2 h5 hf
  go_enter Tryz.func41,Tryz.ntmps41
  go_wp2
  go_end0
  exact⟨rfl,Hfin.out,Step.refl _ _,rfl⟩
def cutS (st:Option (List UInt8)) (n:Nat):Option (List UInt8):=match st with
 | some l=>if n≤l.length then some (l.drop n) else none
 | none=>none
def cutL (st:Option (List UInt8)) (n:Nat):List UInt8:=match st with
 | some l=>if n≤l.length then l.take n else []
 | none=>[]
end Go.Proofs.YtfchpchabdhcgaaGreat
namespace Go.Proofs.YtfchpchabdhcgaaGreat
open Go.RowKit
theorem LB.take_byte {S:Nat→Prop} {w:World} {a:Option Addr} {cap:Nat} {l:List UInt8} (h:LB kByte S w (.slice a l.length cap) l) (n:Nat) (hn:n≤l.length):LB kByte S w (.slice a n cap) (l.take n):=by
 obtain⟨a',b,off,cap',hv,hm,ha,hc,hS,hr⟩:=h
 cases hv
 have hl:(l.take n).length=n:=by rw [List.length_take];omega
 refine⟨a,b,off,cap,by rw [hl],by omega,fun h0=>ha (by omega),⟨by omega,hc.2⟩,fun h0=>hS (by omega),fun i x hx=> ?_⟩
 rw [List.getElem?_take]at hx
 by_cases hi:i<n
 ·rw [if_pos hi]at hx;exact hr i x hx
 ·rw [if_neg hi]at hx;cases hx
theorem LB.drop_byte {S:Nat→Prop} {w:World} {a:Option Addr} {cap:Nat} {l:List UInt8} (h:LB kByte S w (.slice a l.length cap) l) (n:Nat) (hn:n≤l.length):LB kByte S w (.slice (if cap=n then a else a.map (·.add n)) (l.length-n) (cap-n)) (l.drop n):=by
 obtain⟨a',b,off,cap',hv,hm,ha,hc,hS,hr⟩:=h
 cases hv
 have hl:(l.drop n).length=l.length-n:=List.length_drop
 refine⟨_,b,off+n,cap-n,by rw [hl],by omega,fun h0=> ?_,⟨by omega,fun h0=> ?_⟩,fun h0=>hS (by omega),fun i x hx=> ?_⟩
 ·rw [hl]at h0
  rw [if_neg (by omega),ha (by omega)]
  simp [Addr.add_lit]
 ·by_cases hcn:cap=n
  ·omega
  ·rw [if_neg hcn]at h0
   have:a=none:=by cases a<;>simp at h0 ⊢
   have:=hc.2 this
   omega
 ·rw [List.getElem?_drop]at hx
  obtain⟨row,r1,r2⟩:=hr (n+i) x hx
  have hk:kByte.k=1:=rfl
  refine⟨row,r1,fun j u hu=> ?_⟩
  have:=r2 j u hu
  rw [hk]at this ⊢
  rw [show off+n+i*1+j=off+(n+i)*1+j by omega]
  exact this
theorem RB.first {b gb:Nat} {w:World} {st:Option (List UInt8)} (h:RB b gb w st):∃ f,w.cell? ⟨b,0,none⟩=some (.int .i64 f)∧(f==0)=st.isSome:=by
 obtain⟨f,v,r,h1,_,_,_,h5⟩:=h.ex
 refine⟨f,by rw [Lib.cell_of_heap h1];rfl,?_⟩
 cases st with
 | none=>rw [beq_eq_false_iff_ne.2 h5];rfl
 | some l=>rw [h5.1];rfl
theorem RB.put {b gb:Nat} {w:World} {f:Int} {v v':Value} {r:List UInt8} {st:Option (List UInt8)} (h1:w.heap[b]? =some (.cells #[.int .i64 f,v] 95 (0,0))) (h2:LB kByte (fun x=>x=gb) w v' r) (h3:gb≠b) (h4:gb<w.heap.size)
  (h5:match st with | some l=>f=0∧r=l | none=>f≠0):RB b gb (w.setCell ⟨b,1,none⟩ v') st:=
 ⟨f,v',r,by simp [World.setCell,Array.getElem?_modify,h1],h2.keeps (fun x hx=>by have hx:x=gb:=hx;subst hx;exact Below.heap_setCell _ _ _ _ h3),h3,by simpa using h4,h5⟩
theorem setCell_step (w:World) (b k:Nat) (v:Value):Step (fun x=>x≠b) w (w.setCell ⟨b,k,none⟩ v):=(Step.refl _ w).setCell (p:=⟨b,k,none⟩) (fun h=>h rfl) _
theorem rcut_any (w:World) (b gb:Nat) (st:Option (List UInt8)) (n:Nat) (h:RB b gb w st) (hn:n≤9223372036854775807):
  Calls Tryz.prog 42 #[.pointer (some ⟨b,0,none⟩),.int .i64 (n:Int)] w fun e w'=>∃ v,e=.returned v∧LB kByte (fun x=>x=gb) w' v (cutL st n)∧RB b gb w' (cutS st n)∧Step (fun x=>x≠b) w w'∧w'.heap.size=w.heap.size:=by
 obtain⟨f,hc0,hf⟩:=h.first
 have hbl:=h.lt
 have HS:=Lib.hid (sound_any w b f hc0)
 rw [hf]at HS
 cases st with
 | none=>
  have H:=Lib.hid h
  clear h
  go_enter Tryz.func42,Tryz.ntmps42
  go_wp2_with fail
  refine HS.out.mono ?_
  rintro e w2 ⟨rfl,rfl⟩
  go_wp2_with fail
  refine HS.out.mono ?_
  rintro e w3 ⟨rfl,rfl⟩
  go_wp2
  go_ret
  exact⟨_,rfl,LB.nil _ _ _,H.out,Step.refl _ _,rfl⟩
 | some l=>
  obtain⟨f',v,r,h1,h2,h3,h4,h5,h6⟩:=h.ex
  subst h5 h6
  obtain⟨va,vc,rfl⟩:=h2.form
  have hrm:=h2.max
  have hc1:w.cell? ⟨b,1,none⟩=some (.slice va r.length vc):=by rw [Lib.cell_of_heap h1];rfl
  have fx:w.frozen? ⟨b,1,none⟩=false:=Lib.frozen_of_heap h1 1
  have hcap:r.length≤vc:=by
   obtain⟨a',b',off',cap',hv,_,_,hc,_⟩:=h2
   cases hv;exact hc.1
  by_cases hlt:n≤r.length
  ·have hng:decide ((r.length:Int)<(n:Int))=false:=by rw [decide_eq_false_iff_not];omega
   have H1:=Lib.hid h1
   have H3:=Lib.hid (h2.take_byte n hlt)
   have H4':=h2.drop_byte n hlt
   have Hcl:Hid (cutL (some r) n=r.take n):=Lib.hid (by rw [cutL,if_pos hlt])
   have Hcs:Hid (cutS (some r) n=some (r.drop n)):=Lib.hid (by rw [cutS,if_pos hlt])
   clear h h1 h2
   by_cases hvn:vc=n
   ·subst hvn
    rw [if_pos rfl,Nat.sub_self,show r.length-vc=0 by omega]at H4'
    have H4:=Lib.hid H4'
    clear H4'
    go_enter Tryz.func42,Tryz.ntmps42
    go_wp2_with fail
    refine HS.out.mono ?_
    rintro e w2 ⟨rfl,rfl⟩
    go_wp2_with fail
    refine HS.out.mono ?_
    rintro e w3 ⟨rfl,rfl⟩
    go_wp2
    go_ret
    exact⟨_,rfl,by rw [Hcl.out];exact(H3.out.keeps (fun x hx=>by have hx:x=gb:=hx;subst hx;exact Below.heap_setCell _ _ _ _ h3)),by rw [Hcs.out];exact RB.put H1.out H4.out h3 h4 ⟨rfl,rfl⟩,setCell_step _ _ _ _,by simp⟩
   ·rw [if_neg hvn]at H4'
    have H4:=Lib.hid H4'
    clear H4'
    go_enter Tryz.func42,Tryz.ntmps42
    go_wp2_with fail
    refine HS.out.mono ?_
    rintro e w2 ⟨rfl,rfl⟩
    go_wp2_with fail
    refine HS.out.mono ?_
    rintro e w3 ⟨rfl,rfl⟩
    go_wp2
    go_ret
    exact⟨_,rfl,by rw [Hcl.out];exact(H3.out.keeps (fun x hx=>by have hx:x=gb:=hx;subst hx;exact Below.heap_setCell _ _ _ _ h3)),by rw [Hcs.out];exact RB.put H1.out H4.out h3 h4 ⟨rfl,rfl⟩,setCell_step _ _ _ _,by simp⟩
  ·have hng:decide ((r.length:Int)<(n:Int))=true:=by rw [decide_eq_true_eq];omega
   have HF:=Lib.hid (fail_any w b gb 11 (some r) (by decide) h)
   have Hcl:Hid (cutL (some r) n=[]):=Lib.hid (by rw [cutL,if_neg hlt])
   have Hcs:Hid (cutS (some r) n=none):=Lib.hid (by rw [cutS,if_neg hlt])
   clear h h1 h2 fx
   go_enter Tryz.func42,Tryz.ntmps42
   go_wp2_with fail
   refine HS.out.mono ?_
   rintro e w2 ⟨rfl,rfl⟩
   go_wp2_with fail
   refine HF.out.mono ?_
   rintro e w3 ⟨rfl,hr3,hs3,hz3⟩
   obtain⟨f3,hc3,hf3⟩:=hr3.first
   have HS3:=Lib.hid (sound_any w3 b f3 hc3)
   rw [hf3]at HS3
   have Hr3:=Lib.hid hr3
   have Hs3:=Lib.hid hs3
   have Hz3:=Lib.hid hz3
   clear hr3 hs3 hz3 hc1 hc0 HF HS
   have hbl3:=World.block_lt_of_cell? _ _ hc3
   go_wp2_with fail
   refine HS3.out.mono ?_
   rintro e w4 ⟨rfl,rfl⟩
   go_wp2
   go_ret
   exact⟨_,rfl,by rw [Hcl.out];exact LB.nil _ _ _,by rw [Hcs.out];exact Hr3.out,Hs3.out,Hz3.out⟩
end Go.Proofs.YtfchpchabdhcgaaGreat
namespace Go.Proofs.YtfchpchabdhcgaaGreat
open Go.RowKit
def numS (st:Option (List UInt8)) (size:Nat):Int × Option (List UInt8):=match st with
 | none=>(0,none)
 | some l=>match numP size l with
  | none=>(0,none)
  | some (n,t)=>(n,some t)
theorem valL_snoc:∀ (l:List UInt8) (c:UInt8),valL (l++[c])=valL l+256 ^ l.length*c.toNat
 | [],c=>by simp [valL]
 | d :: l,c=>by
  rw [List.cons_append,valL,valL_snoc l c,valL,List.length_cons,Nat.pow_succ,Nat.mul_add,← Nat.mul_assoc,Nat.mul_comm (256 ^ l.length) 256];omega
theorem numS_eq (st:Option (List UInt8)) (size:Nat) (hs:size=1∨size=2∨size=4∨size=8):numS st size=(IntKind.i64.wrap (valL (cutL st size):Int),cutS st size):=by
 have hw:∀ n:Nat,n<4294967296→IntKind.i64.wrap (n:Int)=(n:Int):=fun n h=>by rw [IntKind.wrap_i64];omega
 cases st with
 | none=>simp [numS,cutL,cutS,valL,IntKind.wrap_i64]
 | some l=>
  unfold numS numP cutL cutS
  by_cases hl:size≤l.length
  ·simp only [hl,if_true]
   have hlen:(l.take size).length=size:=by rw [List.length_take];omega
   have hv:=valL_lt (l.take size)
   rw [hlen]at hv
   by_cases h8:size=8
   ·subst h8
    rw [if_pos rfl]
    have:(256:Nat) ^ 8=18446744073709551616:=by decide
    congr 1
    rw [IntKind.wrap_i64]
    unfold sgnL
    split<;>omega
   ·rw [if_neg h8,hw _ (by
     have p1:(256:Nat) ^ 1=256:=by decide
     have p2:(256:Nat) ^ 2=65536:=by decide
     have p4:(256:Nat) ^ 4=4294967296:=by decide
     rcases hs with rfl | rfl | rfl | rfl<;>omega)]
  ·simp [hl,valL,IntKind.wrap_i64]
theorem wrap64_i (x:Int):wrap64 x=IntKind.i64.wrap x:=by rw [IntKind.wrap_i64];unfold wrap64;rfl
theorem or_step (a c i:Nat) (hi:i<8) (ha:a<256 ^ i) (hc:c<256):bits .or .i64 (IntKind.i64.wrap (a:Int)) (IntKind.i64.wrap ((c:Int)*2 ^ (8*i)))=IntKind.i64.wrap ((a+256 ^ i*c:Nat):Int):=by
 have hp:(256:Nat) ^ i=2 ^ (8*i):=by rw [Nat.pow_mul]
 have hle:256 ^ i≤72057594037927936:=Nat.le_trans (Nat.pow_le_pow_right (by decide) (show i≤7 by omega)) (by decide)
 have hprod:256 ^ i*c≤72057594037927936*255:=Nat.mul_le_mul hle (by omega)
 have ewrap:∀ m:Nat,m<18446744073709551616→(BitVec.ofInt 64 (IntKind.i64.wrap (m:Int))).toNat=m:=fun m hm=>by
  rw [BitVec.toNat_ofInt,IntKind.wrap_i64]
  have:(2:Nat) ^ 64=18446744073709551616:=by decide
  omega
 have e2:((c:Int)*2 ^ (8*i))=((256 ^ i*c:Nat):Int):=by rw [hp,Int.natCast_mul,Int.natCast_pow,Int.mul_comm];rfl
 rw [e2]
 show IntKind.i64.wrap ((BitVec.ofInt 64 (IntKind.i64.wrap (a:Int))|||BitVec.ofInt 64 (IntKind.i64.wrap ((256 ^ i*c:Nat):Int))).toNat:Int)=_
 rw [BitVec.toNat_or,ewrap _ (by omega),ewrap _ (by omega),Nat.or_comm,nat_join (8*i) (256 ^ i*c) a (by rw [hp];exact Nat.mul_mod_right _ _) (by rw [← hp];exact ha),Nat.add_comm]
theorem rnum_any (w:World) (b gb:Nat) (st:Option (List UInt8)) (size:Nat) (h:RB b gb w st) (hs:size=1∨size=2∨size=4∨size=8):
  Calls Tryz.prog 16 #[.pointer (some ⟨b,0,none⟩),.int .i64 (size:Int)] w fun e w'=>e=.returned (.int .i64 (numS st size).1)∧RB b gb w' (numS st size).2∧Step (fun x=>x≠b) w w'∧w'.heap.size=w.heap.size:=by
 rw [numS_eq st size hs]
 have hpl:(cutL st size).length≤8:=by
  cases st with
  | none=>simp [cutL]
  | some l=>
   unfold cutL;dsimp only
   by_cases h:size≤l.length
   ·rw [if_pos h,List.length_take];omega
   ·rw [if_neg h];simp
 have HC:=Lib.hid (rcut_any w b gb st size h (by omega))
 have HZ:=Lib.hid (sized_any w size hs)
 have hs8:1≤size∧size≤8:=by omega
 have hbl:=h.lt
 clear h hs
 generalize cutL st size=p at *
 generalize cutS st size=st' at *
 go_enter Tryz.func16,Tryz.ntmps16
 go_wp2_with fail
 refine HZ.out.mono ?_
 rintro e w2 ⟨rfl,rfl⟩
 go_wp2_with fail
 refine HC.out.mono ?_
 rintro e w3 ⟨v,rfl,hv,hr3,hs3,hz3⟩
 obtain⟨va,vb,voff,vcap,rfl,hvm,hvc,hat⟩:=hv.at
 have Hat:=Lib.hid hat
 have Hr3:=Lib.hid hr3
 have Hs3:=Lib.hid hs3
 have Hz3:=Lib.hid hz3
 clear hv hat hr3 hs3 hz3 HC HZ
 go_wp2_with fail
 go_loop [5,6,7,19] (fun n _ _ i=>∃ k:Nat,k≤p.length∧i=.int .i64 k∧n=.int .i64 (IntKind.i64.wrap (valL (p.take k):Int))) (fun _ _ _ i=>p.length-(intOf i).toNat)
 case atStart=>exact⟨0,Nat.zero_le _,rfl,rfl⟩
 case round=>
  obtain⟨k,hk,rfl,rfl⟩:=hrel
  by_cases hlt:k<p.length
  ·obtain rfl:=Hat.out.addr (by omega)
   obtain⟨c,hc⟩:∃ c,p[k]? =some c:=⟨_,List.getElem?_eq_getElem hlt⟩
   have g:=Hat.out.byte1 k c hc
   have hkl:(p.take k).length=k:=by rw [List.length_take];omega
   have hvl:=valL_lt (p.take k)
   rw [hkl]at hvl
   have hstep:bits .or .i64 (IntKind.i64.wrap (valL (p.take k):Int)) (IntKind.i64.wrap ((c.toNat:Int)*2 ^ (8*k)))=IntKind.i64.wrap (valL (p.take (k+1)):Int):=by
    obtain⟨h',rfl⟩:=List.getElem?_eq_some_iff.1 hc
    rw [List.take_succ_eq_append_getElem h',valL_snoc,hkl]
    exact or_step _ _ k (by omega) hvl p[k].toNat_lt
   rw [← wrap64_i,← wrap64_i]at hstep
   have hc256:=c.toNat_lt
   have Hstep:=Lib.hid hstep
   clear hstep hc
   go_wp2_with fail
   go_round
   case rel=>exact⟨k+1,by omega,by go_num,by rw [← Hstep.out]⟩
   case measure=>simp [intOf];omega
  ·have He:Hid (p.take k=p):=Lib.hid (List.take_of_length_le (by omega))
   rw [He.out]
   go_wp2
   go_ret
   exact⟨rfl,Hr3.out,Hs3.out,Hz3.out⟩
end Go.Proofs.YtfchpchabdhcgaaGreat
namespace Go.Proofs.YtfchpchabdhcgaaGreat
open Go.RowKit
theorem run_str {S:Nat→Prop} {w:World} {v:Value} {l:List UInt8} (h:LB kByte S w v l):(Go.convert 22 9 v).run Tryz.prog w=Result.ok (.string ⟨l.toArray⟩) w:=by
 obtain⟨a,b,off,cap,hv,hm,ha,hc,hS,hr⟩:=h
 subst hv
 cases a with
 | none=>
  have:l=[]:=by
   cases l with
   | nil=>rfl
   | cons y m=>exact absurd (ha (by simp)) (by simp)
  subst this
  exact run_convert_bytes_nil w 22 5 Tryz.underlying22 Tryz.underlying5 _ _ 9 Tryz.underlying9
 | some ad=>
  have hl:(loadCells ad l.length).run Tryz.prog w=.ok ((l.map fun c=>(c.toNat:Int)).map (Value.int .u8)).toArray w:=by
   have:=run_loadCells_list (P:=Tryz.prog) w ad ((l.map fun c=>(c.toNat:Int)).map (Value.int .u8)) (fun j u hj=>by
    rw [List.getElem?_map,List.getElem?_map]at hj
    cases hc':l[j]? with
    | none=>rw [hc']at hj;simp at hj
    | some c=>
     rw [hc']at hj
     simp at hj
     subst hj
     have hl0:0<l.length:=by have:=(List.getElem?_eq_some_iff.1 hc').1;omega
     obtain rfl:ad=⟨b,off,none⟩:=by have:=ha hl0;simpa using this
     obtain⟨row,r1,r2⟩:=hr j c hc'
     have:=r2 0 (.int .u8 c.toNat) (by rw [r1];rfl)
     have hk:kByte.k=1:=rfl
     rw [hk]at this
     simpa [Addr.add_lit] using this)
   simpa using this
  rw [run_convert_bytes_string w 22 9 5 _ _ cap Tryz.underlying22 Tryz.underlying5 Tryz.underlying9,run_bytesToString w ad l.length cap _ hl,foldl_push_bytes]
  have e:(l.map fun c=>(c.toNat:Int)).map (fun n=>UInt8.ofNat n.toNat)=l:=by
   rw [List.map_map]
   have:((fun n:Int=>UInt8.ofNat n.toNat)∘fun c:UInt8=>(c.toNat:Int))=id:=by funext c;simp
   rw [this,List.map_id]
  rw [e]
  simp [ByteArray.empty,ByteArray.emptyWithCapacity]
  rfl
def part0 (st:Option (List UInt8)) (size most:Nat):Option (List UInt8):=if (most:Int)<(numS st size).1 then none else (numS st size).2
def partS (st:Option (List UInt8)) (size most:Nat):List UInt8 × Option (List UInt8):=(cutL (part0 st size most) (numS st size).1.toNat,cutS (part0 st size most) (numS st size).1.toNat)
theorem numS_none (size:Nat):numS none size=(0,none):=rfl
theorem numS_bad {l:List UInt8} {size:Nat} (h:numP size l=none):numS (some l) size=(0,none):=by simp only [numS,h]
theorem numS_good {l t:List UInt8} {size:Nat} {n:Int} (h:numP size l=some (n,t)):numS (some l) size=(n,some t):=by simp only [numS,h]
theorem numS_range (st:Option (List UInt8)) (size:Nat) (hs:size=1∨size=2∨size=4):0≤(numS st size).1∧(numS st size).1<4294967296:=by
 cases st with
 | none=>rw [numS_none];decide
 | some l=>
  cases hp:numP size l with
  | none=>rw [numS_bad hp];decide
  | some q=>
   obtain⟨n,t⟩:=q
   have:=((num_codec size (by omega)).back _ _ _ hp).1
   unfold okN at this
   rw [if_neg (by omega)]at this
   have p1:(256:Int) ^ 1=256:=by decide
   have p2:(256:Int) ^ 2=65536:=by decide
   have p4:(256:Int) ^ 4=4294967296:=by decide
   rw [numS_good hp]
   dsimp only
   rcases hs with rfl | rfl | rfl<;>simp only [p1,p2,p4]at this<;>omega
theorem part0_none {st:Option (List UInt8)} {size most:Nat} (h:(numS st size).2=none):part0 st size most=none:=by
 unfold part0;rw [h];split<;>rfl
theorem partS_none (size most:Nat):partS none size most=([],none):=by
 unfold partS;rw [part0_none (by rw [numS_none])];rfl
theorem partS_bad {l:List UInt8} {size most:Nat} (hs:size=1∨size=2∨size=4) (h:partP size most l=none):partS (some l) size most=([],none):=by
 have hr:=numS_range (some l) size hs
 cases hp:numP size l with
 | none=>unfold partS;rw [part0_none (by rw [numS_bad hp])];rfl
 | some q=>
  obtain⟨n,t⟩:=q
  rw [numS_good hp]at hr
  dsimp only at hr
  unfold partS part0
  rw [numS_good hp]
  dsimp only
  by_cases h1:(most:Int)<n
  ·rw [if_pos h1];rfl
  ·rw [if_neg h1]
   have h3:¬ n.toNat≤t.length:=by
    intro h3
    rw [partP,bindP_at hp,if_pos (by omega)]at h
    cases h
   unfold cutL cutS
   dsimp only
   rw [if_neg h3,if_neg h3]
theorem partS_good {l x t:List UInt8} {size most:Nat} (hs:size=1∨size=2∨size=4) (h:partP size most l=some (x,t)):partS (some l) size most=(x,some t):=by
 have hr:=numS_range (some l) size hs
 obtain⟨n,u,hp,h2⟩:=bindP_some h
 rw [numS_good hp]at hr
 dsimp only at hr
 by_cases hc:n≤(most:Int)∧n≤u.length
 ·rw [if_pos hc]at h2
  obtain⟨rfl,rfl⟩:=Prod.mk.inj (Option.some.inj h2)
  unfold partS part0
  rw [numS_good hp]
  dsimp only
  rw [if_neg (by omega)]
  unfold cutL cutS
  dsimp only
  rw [if_pos (by omega),if_pos (by omega)]
 ·rw [if_neg hc]at h2;cases h2
theorem rpart_any (w:World) (b gb:Nat) (st:Option (List UInt8)) (size most:Nat) (h:RB b gb w st) (hs:size=1∨size=2∨size=4) (hm:most≤100000000):
  Calls Tryz.prog 39 #[.pointer (some ⟨b,0,none⟩),.int .i64 (size:Int),.int .i64 (most:Int)] w fun e w'=>∃ v,e=.returned v∧LB kByte (fun x=>x=gb) w' v (partS st size most).1∧RB b gb w' (partS st size most).2∧Step (fun x=>x≠b) w w'∧w'.heap.size=w.heap.size:=by
 obtain⟨f,v,r,h1,h2,h3,h4,h5⟩:=h.ex
 obtain⟨va,vc,rfl⟩:=h2.form
 have hc1:w.cell? ⟨b,1,none⟩=some (.slice va r.length vc):=by rw [Lib.cell_of_heap h1];rfl
 have hbl:=h.lt
 have H2:=Lib.hid h2
 have HN:=Lib.hid (rnum_any w b gb st size h (by omega))
 have hr:=numS_range st size hs
 obtain⟨n,hn⟩:∃ n:Nat,(numS st size).1=n:=⟨(numS st size).1.toNat,by omega⟩
 have hp0:part0 st size most=if most<n then none else (numS st size).2:=by
  unfold part0
  rw [hn]
  by_cases hx:most<n
  ·rw [if_pos hx,if_pos (by omega)]
  ·rw [if_neg hx,if_neg (by omega)]
 have Hres:Hid (partS st size most=(cutL (part0 st size most) n,cutS (part0 st size most) n)):=Lib.hid (by unfold partS;rw [hn,Int.toNat_natCast])
 rw [hn]at HN hr
 rw [Hres.out]
 clear h h1 h2 h5 hn Hres
 generalize (numS st size).2=st1 at *
 generalize part0 st size most=st2 at *
 go_enter Tryz.func39,Tryz.ntmps39
 go_wp2_with fail
 refine HN.out.mono ?_
 rintro e w2 ⟨rfl,hr2,hs2,hz2⟩
 have HS2:=Lib.hid hs2
 have hbl2:=hr2.lt
 clear hc1 HN
 have HK:Hid (∀ w3,RB b gb w3 st2→Step (fun x=>x≠b) w w3→w3.heap.size=w.heap.size→Calls Tryz.prog 42 #[.pointer (some ⟨b,0,none⟩),.int .i64 (n:Int)] w3 fun e w'=>∃ v,e=.returned v∧LB kByte (fun x=>x=gb) w' v (cutL st2 n)∧RB b gb w' (cutS st2 n)∧Step (fun x=>x≠b) w w'∧w'.heap.size=w.heap.size):=Lib.hid (fun w3 hr hs hz=>(rcut_any w3 b gb st2 n hr (by omega)).mono (by
  rintro e w4 ⟨v,he,hv,hr4,hs4,hz4⟩
  exact⟨v,he,hv,hr4,hs.trans hs4,hz4.trans hz⟩))
 by_cases hx:most<n
 ·rw [if_pos hx]at hp0
  subst hp0
  have hd:decide ((most:Int)<(n:Int))=true:=by rw [decide_eq_true_eq];omega
  have HF:=Lib.hid (fail_any w2 b gb 2 st1 (by decide) hr2)
  clear hr2 hs2
  go_wp2_with fail
  refine HF.out.mono ?_
  rintro e w3 ⟨rfl,hr3,hs3,hz3⟩
  have HC:=Lib.hid (HK.out w3 hr3 (HS2.out.trans hs3) (hz3.trans hz2))
  have hbl3:=hr3.lt
  clear hr3 hs3 HF
  go_wp2_with fail
  refine HC.out.mono ?_
  rintro e w4 ⟨v,rfl,hv4,hr4,hs4,hz4⟩
  obtain⟨f4,hc4,hf4⟩:=hr4.first
  have HSo:=Lib.hid (sound_any w4 b f4 hc4)
  rw [hf4]at HSo
  obtain⟨f',v',r',h1',_,_,_,hf'⟩:=hr4.ex
  have e4:cutS none n=none:=rfl
  rw [e4]at hf'
  have c1':w4.cell? ⟨b,1,none⟩=some v':=by rw [Lib.cell_of_heap h1'];rfl
  have fx':w4.frozen? ⟨b,1,none⟩=false:=Lib.frozen_of_heap h1' 1
  obtain⟨va4,vc4,rfl⟩:=hv4.form
  have hwas:=H2.out.keeps (fun x hx=>by have hx:x=gb:=hx;subst hx;exact hs4.block _ h3)
  have Hfin:Hid (RB b gb (w4.setCell ⟨b,1,none⟩ (.slice va r.length vc)) (cutS none n)):=Lib.hid (RB.put h1' hwas h3 (by omega) hf')
  have Hv4:=Lib.hid (hv4.keeps (w':=w4.setCell ⟨b,1,none⟩ (.slice va r.length vc)) (fun x hx=>by have hx:x=gb:=hx;subst hx;exact Below.heap_setCell _ _ _ _ h3))
  have Hs4:=Lib.hid (hs4.trans (setCell_step w4 b 1 (.slice va r.length vc)))
  have Hz4:=Lib.hid hz4
  have hbl4:=hr4.lt
  clear hv4 hr4 hs4 hz4 hc4 hwas h1' HC
  go_wp2_with fail
  refine HSo.out.mono ?_
  rintro e w5 ⟨rfl,rfl⟩
  go_wp2
  go_ret
  exact⟨_,rfl,Hv4.out,Hfin.out,Hs4.out,by rw [World.size_setCell];exact Hz4.out⟩
 ·rw [if_neg hx]at hp0
  subst hp0
  have hd:decide ((most:Int)<(n:Int))=false:=by rw [decide_eq_false_iff_not];omega
  have HC:=Lib.hid (HK.out w2 hr2 HS2.out hz2)
  clear hr2 hs2
  go_wp2_with fail
  refine HC.out.mono ?_
  rintro e w4 ⟨v,rfl,hv4,hr4,hs4,hz4⟩
  obtain⟨f4,hc4,hf4⟩:=hr4.first
  have HSo:=Lib.hid (sound_any w4 b f4 hc4)
  rw [hf4]at HSo
  obtain⟨f',v',r',h1',_,_,_,hf'⟩:=hr4.ex
  have c1':w4.cell? ⟨b,1,none⟩=some v':=by rw [Lib.cell_of_heap h1'];rfl
  have fx':w4.frozen? ⟨b,1,none⟩=false:=Lib.frozen_of_heap h1' 1
  obtain⟨va4,vc4,rfl⟩:=hv4.form
  have hwas:=H2.out.keeps (fun x hx=>by have hx:x=gb:=hx;subst hx;exact hs4.block _ h3)
  have hbl4:=hr4.lt
  cases hst:cutS st2 n with
  | none=>
   have Hst:=Lib.hid hst
   rw [hst]at HSo hf'
   have Hfin:Hid (RB b gb (w4.setCell ⟨b,1,none⟩ (.slice va r.length vc)) none):=Lib.hid (RB.put h1' hwas h3 (by omega) hf')
   have Hv4:=Lib.hid (hv4.keeps (w':=w4.setCell ⟨b,1,none⟩ (.slice va r.length vc)) (fun x hx=>by have hx:x=gb:=hx;subst hx;exact Below.heap_setCell _ _ _ _ h3))
   have Hs4:=Lib.hid (hs4.trans (setCell_step w4 b 1 (.slice va r.length vc)))
   have Hz4:=Lib.hid hz4
   clear hv4 hr4 hs4 hz4 hc4 hwas h1' HC hst
   go_wp2_with fail
   refine HSo.out.mono ?_
   rintro e w5 ⟨rfl,rfl⟩
   go_wp2
   go_ret
   exact⟨_,rfl,Hv4.out,by rw [Hst.out];exact Hfin.out,Hs4.out,by rw [World.size_setCell];exact Hz4.out⟩
  | some l4=>
   have Hst:=Lib.hid hst
   rw [hst]at HSo hr4
   have Hr4:=Lib.hid hr4
   have Hv4:=Lib.hid hv4
   have Hs4:=Lib.hid hs4
   have Hz4:=Lib.hid hz4
   clear hv4 hr4 hs4 hz4 hc4 hwas h1' HC hst c1' fx' hf'
   go_wp2_with fail
   refine HSo.out.mono ?_
   rintro e w5 ⟨rfl,rfl⟩
   go_wp2
   go_ret
   exact⟨_,rfl,Hv4.out,by rw [Hst.out];exact Hr4.out,Hs4.out,Hz4.out⟩
end Go.Proofs.YtfchpchabdhcgaaGreat
namespace Go.Proofs.YtfchpchabdhcgaaGreat
open Go.RowKit
theorem rtext_any (w:World) (b gb:Nat) (st:Option (List UInt8)) (h:RB b gb w st):
  Calls Tryz.prog 15 #[.pointer (some ⟨b,0,none⟩)] w fun e w'=>e=.returned (.string ⟨(partS st 2 4096).1.toArray⟩)∧RB b gb w' (partS st 2 4096).2∧Step (fun x=>x≠b) w w'∧w'.heap.size=w.heap.size:=by
 have HP:=Lib.hid (rpart_any w b gb st 2 4096 h (by decide) (by decide))
 clear h
 generalize partS st 2 4096=ps at *
 go_enter Tryz.func15,Tryz.ntmps15
 go_wp2_with fail
 refine HP.out.mono ?_
 rintro e w2 ⟨v,rfl,hv,hr,hs,hz⟩
 have hcv:=run_str hv
 obtain⟨va,vc,rfl⟩:=hv.form
 have Hr:=Lib.hid hr
 have Hs:=Lib.hid hs
 have Hz:=Lib.hid hz
 clear hv hr hs hz HP
 go_wp2
 go_ret
 exact⟨rfl,Hr.out,Hs.out,Hz.out⟩
theorem partS_len (st:Option (List UInt8)) (size most:Nat) (hs:size=1∨size=2∨size=4):(partS st size most).1.length≤most:=by
 cases st with
 | none=>rw [partS_none];simp
 | some l=>
  cases hp:partP size most l with
  | none=>rw [partS_bad hs hp];simp
  | some q=>
   obtain⟨x,t⟩:=q
   rw [partS_good hs hp]
   obtain⟨n,u,h1,h2⟩:=bindP_some hp
   by_cases hc:n≤(most:Int)∧n≤u.length
   ·rw [if_pos hc]at h2
    obtain⟨rfl,rfl⟩:=Prod.mk.inj (Option.some.inj h2)
    dsimp only
    rw [List.length_take];omega
   ·rw [if_neg hc]at h2;cases h2
theorem rblock_any (w:World) (b gb:Nat) (st:Option (List UInt8)) (h:RB b gb w st):
  Calls Tryz.prog 17 #[.pointer (some ⟨b,0,none⟩)] w fun e w'=>∃ v,e=.returned v∧OwnK 5 kByte w.heap.size (fun _=>False) w' v (partS st 4 1048576).1∧RB b gb w' (partS st 4 1048576).2∧Step (fun x=>x<w.heap.size∧x≠b) w w':=by
 have HP:=Lib.hid (rpart_any w b gb st 4 1048576 h (by decide) (by decide))
 have hpl:=partS_len st 4 1048576 (by decide)
 clear h
 generalize partS st 4 1048576=ps at *
 go_enter Tryz.func17,Tryz.ntmps17
 go_wp2_with fail
 refine HP.out.mono ?_
 rintro e w2 ⟨v,rfl,hv,hr,hs,hz⟩
 obtain⟨va,vc,hvf⟩:=hv.form
 have Hv:=Lib.hid hv
 have Hr:=Lib.hid hr
 have Hs:=Lib.hid hs
 subst hvf
 have hz':w.heap.size≤w2.heap.size:=by omega
 have hz'':w2.heap.size≤w.heap.size:=by omega
 clear hv hr hs hz HP
 go_wp2_with (at_builtin;refine wpList_appendsK (B:=w2.heap.size) (E:=fun _=>False) (l:=[]) plain_byte 22 (.int .u8 0) 1 Tryz.underlying22 info_byte rfl rfl (.const (.slice none 0 0)) (.tmp 4) rfl rfl (OwnK.nil _ _ _ _ _) (fun x hx=>hx.elim) _ ps.1 rfl Hv.out ?c1 ?c2 (Nat.le_refl _) ?_)
 case c1=>simp only [List.length_nil];omega
 case c2=>simp only [List.length_nil];omega
 intro v' w4 hown hst hne
 have hb4:Below w2.heap.size w2 w4:=(hst.imp (S':=(·<w2.heap.size)) (fun x hx=>⟨hx,by simp [Value.ownBlock]⟩)).below
 have Hr4:=Lib.hid (Hr.out.below hb4)
 have Hown:=Lib.hid (hown.mono (B':=w.heap.size) hz')
 have Hs4:Hid (Step (fun x=>x<w.heap.size∧x≠b) w w4):=Lib.hid ((Hs.out.imp (fun x hx=>hx.2)).trans ((Step.of_below hb4).imp (fun x hx=>by have:=hx.1;show x<w2.heap.size;omega)))
 clear hown hst hne hb4 Hv Hr Hs
 go_wp2
 go_ret
 exact⟨v',rfl,Hown.out,Hr4.out,Hs4.out⟩
theorem rnew_any (w:World) (v:Value) (l:List UInt8) (hl:LB kByte (·<w.heap.size) w v l) (hlen:l.length≤140737488355328) (hw:0<w.heap.size):
  Calls Tryz.prog 14 #[v] w fun e w'=>∃ b gb,e=.returned (.pointer (some ⟨b,0,none⟩))∧RB b gb w' (some l)∧Below w.heap.size w w'∧w.heap.size≤b:=by
 obtain⟨va,vc,rfl⟩:=hl.form
 have Hl:=Lib.hid hl
 clear hl
 go_enter Tryz.func14,Tryz.ntmps14
 go_wp2_with (at_builtin;refine wpList_appendsK (B:=w.heap.size) (E:=fun _=>False) (l:=[]) plain_byte 22 (.int .u8 0) 1 Tryz.underlying22 info_byte rfl rfl (.const (.slice none 0 0)) (.tmp 3) rfl rfl (OwnK.nil _ _ _ _ _) (fun x hx=>hx.elim) _ l rfl Hl.out ?c1 ?c2 (Nat.le_refl _) ?_)
 case c1=>simp only [List.length_nil];omega
 case c2=>simp only [List.length_nil];omega
 intro v' w4 hown hst hne
 have hb4:Below w.heap.size w w4:=(hst.imp (S':=(·<w.heap.size)) (fun x hx=>⟨hx,by simp [Value.ownBlock]⟩)).below
 have hz4:=hb4.size
 have hlb:∃ gb,LB kByte (fun x=>x=gb) w4 v' l∧gb<w4.heap.size:=by
  have h1:=hown.lb
  have h2:=hown.lt
  obtain⟨a,bb,off,cap,hv,hm,ha,hc,hS,hr⟩:=h1
  by_cases h0:0<l.length
  ·exact⟨bb,⟨a,bb,off,cap,hv,hm,ha,hc,fun _=>rfl,fun i x hx=>by
    obtain⟨row,r1,r2⟩:=hr i x hx
    exact⟨row,r1,r2⟩⟩,(hS h0).1⟩
  ·have:([]++l).length=0:=by simpa using h0
   exact⟨0,⟨a,bb,off,cap,hv,hm,ha,hc,fun h=>absurd h h0,fun i x hx=>by
    have:=(List.getElem?_eq_some_iff.1 hx).1
    omega⟩,by omega⟩
 obtain⟨gb,hlb,hgb⟩:=hlb
 obtain⟨va',vc',hvf⟩:=hlb.form
 have Hfin:Hid (RB w4.heap.size gb (w4.alloc (.cells #[.int .i64 0,v'] 95 (0,0))) (some l)):=Lib.hid ⟨0,v',l,heap_alloc_new w4 _,hlb.keeps (fun x hx=>by have hx:x=gb:=hx;subst hx;exact heap_alloc_old w4 _ hgb),by omega,by rw [World.size_alloc];omega,rfl,rfl⟩
 have Hb5:=Lib.hid (hb4.alloc hz4 (.cells #[.int .i64 0,v'] 95 (0,0)))
 subst hvf
 clear hown hst hne hb4 hlb Hl
 go_wp2
 go_ret
 exact⟨_,gb,rfl,Hfin.out,Hb5.out,hz4⟩
theorem rend_any (w:World) (b gb:Nat) (st:Option (List UInt8)) (h:RB b gb w st):
  Calls Tryz.prog 21 #[.pointer (some ⟨b,0,none⟩)] w fun e w'=>(∃ x,e=.returned (.int .i64 x)∧(x=0↔st=some []))∧w'=w:=by
 obtain⟨f,hc0,hf⟩:=h.first
 have HS:=Lib.hid (sound_any w b f hc0)
 obtain⟨f',v,r,h1,h2,h3,h4,h5⟩:=h.ex
 obtain⟨va,vc,rfl⟩:=h2.form
 have hrm:=h2.max
 have hff:f'=f:=by
  rw [Lib.cell_of_heap h1]at hc0
  simpa using hc0
 subst hff
 have hc1:w.cell? ⟨b,1,none⟩=some (.slice va r.length vc):=by rw [Lib.cell_of_heap h1];rfl
 rw [hf]at HS
 have hbl:=h.lt
 cases st with
 | none=>
  have hne:f'≠0:=h5
  clear h h1 h2 h5 hf
  go_enter Tryz.func21,Tryz.ntmps21
  go_wp2_with fail
  refine HS.out.mono ?_
  rintro e w2 ⟨rfl,rfl⟩
  go_wp2
  go_ret
  exact⟨⟨f',rfl,⟨fun h=>absurd h hne,fun h=>by cases h⟩⟩,rfl⟩
 | some l=>
  obtain⟨rfl,rfl⟩:=h5
  clear h h1 h2 hf
  by_cases h0:0<r.length
  ·have hd:decide ((0:Int)<(r.length:Int))=true:=by rw [decide_eq_true_eq];omega
   go_enter Tryz.func21,Tryz.ntmps21
   go_wp2_with fail
   refine HS.out.mono ?_
   rintro e w2 ⟨rfl,rfl⟩
   go_wp2
   go_ret
   refine⟨⟨12,rfl,⟨fun h=>absurd h (by decide),fun h=> ?_⟩⟩,rfl⟩
   have:=Option.some.inj h
   subst this
   simp at h0
  ·have hd:decide ((0:Int)<(r.length:Int))=false:=by rw [decide_eq_false_iff_not];omega
   have hr0:Hid (r=[]):=Lib.hid (List.eq_nil_of_length_eq_zero (by omega))
   go_enter Tryz.func21,Tryz.ntmps21
   go_wp2_with fail
   refine HS.out.mono ?_
   rintro e w2 ⟨rfl,rfl⟩
   go_wp2
   go_ret
   exact⟨⟨0,rfl,⟨fun _=>by rw [hr0.out],fun _=>rfl⟩⟩,rfl⟩
end Go.Proofs.YtfchpchabdhcgaaGreat
namespace Go.Proofs.YtfchpchabdhcgaaGreat
open Go.RowKit
def Got {α:Type} (p:List UInt8→Option (α × List UInt8)) (st:Option (List UInt8)) (x:α) (st':Option (List UInt8)):Prop:=
 (st=none→st'=none)∧∀ l,st=some l→(p l=none→st'=none)∧∀ y t,p l=some (y,t)→x=y∧st'=some t
section
variable {α β : Type} {p : List UInt8 → Option (α × List UInt8)} {st st' st'' : Option (List UInt8)} {x : α}
theorem Got.pure (x:α) (st:Option (List UInt8)):Got (fun t=>some (x,t)) st x st:=⟨id,fun l h=>⟨fun e=>by simp at e,fun y t e=>by simp at e;exact⟨e.1,by rw [h,e.2]⟩⟩⟩
theorem Got.bind {q:α→List UInt8→Option (β × List UInt8)} {y:β} (h:Got p st x st') (k:Got (q x) st' y st''):Got (bindP p q) st y st'':=by
 refine⟨fun e=>k.1 (h.1 e),fun l e=> ?_⟩
 obtain⟨h1,h2⟩:=h.2 l e
 cases hp:p l with
 | none=>
  have e0:bindP p q l=none:=by unfold bindP;rw [hp]
  rw [e0]
  exact⟨fun _=>k.1 (h1 hp),fun y t h=>by cases h⟩
 | some r=>
  obtain⟨x',t'⟩:=r
  obtain⟨rfl,hst⟩:=h2 _ _ hp
  rw [bindP_at hp]
  exact k.2 t' hst
theorem many_snoc (p:List UInt8→Option (α × List UInt8)):∀ n,manyP p (n+1)=bindP (manyP p n) fun xs=>bindP p fun x t=>some (xs++[x],t)
 | 0=>by
  funext l
  show bindP p (fun x=>bindP (manyP p 0) fun xs t=>some (x :: xs,t)) l=bindP p (fun x t=>some ([]++[x],t)) l
  rfl
 | n+1=>by
  have ih:=many_snoc p n
  funext l
  show bindP p (fun x=>bindP (manyP p (n+1)) fun xs t=>some (x :: xs,t)) l=bindP (bindP p fun x=>bindP (manyP p n) fun xs t=>some (x :: xs,t)) (fun xs=>bindP p fun x t=>some (xs++[x],t)) l
  rw [ih]
  unfold bindP
  cases p l with
  | none=>rfl
  | some r=>
   obtain⟨x,t⟩:=r
   dsimp only
   cases manyP p n t with
   | none=>rfl
   | some r=>
    obtain⟨xs,u⟩:=r
    dsimp only
    cases p u with
    | none=>rfl
    | some r=>rfl
theorem Got.many0 (p:List UInt8→Option (α × List UInt8)) (st:Option (List UInt8)):Got (manyP p 0) st [] st:=Got.pure _ _
theorem Got.snoc {n:Nat} {xs:List α} (h:Got (manyP p n) st xs st') (k:Got p st' x st''):Got (manyP p (n+1)) st (xs++[x]) st'':=by
 rw [many_snoc]
 exact h.bind (k.bind (Got.pure _ _))
theorem Got.whole {l:List UInt8} (h:Got p (some l) x (some [])):p l=some (x,[]):=by
 obtain⟨h1,h2⟩:=h.2 l rfl
 cases hp:p l with
 | none=>exact absurd (h1 hp) (by simp)
 | some r=>
  obtain⟨y,t⟩:=r
  obtain⟨rfl,e⟩:=h2 _ _ hp
  rw [← Option.some.inj e]
theorem Got.not_whole {l:List UInt8} (h:Got p (some l) x st) (hs:st≠some []) (y:α):p l≠some (y,[]):=fun e=>hs ((h.2 l rfl).2 _ _ e).2
end
theorem numS_ok (st:Option (List UInt8)) (size:Nat) (hs:size≤8):okN size (numS st size).1:=by
 have h0:okN size 0:=by
  unfold okN
  split
  ·omega
  ·exact⟨by omega,Int.pow_pos (by decide)⟩
 cases st with
 | none=>exact h0
 | some l=>
  cases hp:numP size l with
  | none=>rw [numS_bad hp];exact h0
  | some q=>
   obtain⟨n,t⟩:=q
   rw [numS_good hp]
   exact((num_codec size hs).back _ _ _ hp).1
theorem got_num (st:Option (List UInt8)) (size:Nat):Got (numP size) st (numS st size).1 (numS st size).2:=by
 refine⟨fun e=>by subst e;rfl,fun l e=> ?_⟩
 subst e
 refine⟨fun e=>by rw [numS_bad e],fun y t e=>by rw [numS_good e];exact⟨rfl,rfl⟩⟩
theorem got_part (st:Option (List UInt8)) (size most:Nat) (hs:size=1∨size=2∨size=4):Got (partP size most) st (partS st size most).1 (partS st size most).2:=by
 refine⟨fun e=>by subst e;rw [partS_none],fun l e=> ?_⟩
 subst e
 exact⟨fun e=>by rw [partS_bad hs e],fun y t e=>by rw [partS_good hs e];exact⟨rfl,rfl⟩⟩
structure LD (b rb gb:Nat) (w:World) (st:Option (List UInt8)):Prop where
 ex:∃ o st0,w.heap[b]? =some (.cells #[.pointer (some ⟨rb,0,none⟩),.bool o] 62 (0,0))∧RB rb gb w st0∧st=(if o then none else st0)
 ne:b≠rb
 ng:b≠gb
section
variable {b rb gb : Nat} {w w' : World} {st : Option (List UInt8)}
theorem LD.lt (h:LD b rb gb w st):b<w.heap.size:=by
 obtain⟨f,v,h1,_⟩:=h.ex
 rcases Nat.lt_or_ge b w.heap.size with h' | h'
 ·exact h'
 ·rw [Array.getElem?_eq_none h']at h1;cases h1
theorem LD.step {S:Nat→Prop} (h:LD b rb gb w st) (hs:Step S w w') (hb:S b) (hr:S rb) (hg:S gb):LD b rb gb w' st:=by
 obtain⟨o,st0,h1,h2,h3⟩:=h.ex
 exact⟨⟨o,st0,(hs.block b hb).trans h1,h2.step hs hr hg,h3⟩,h.ne,h.ng⟩
theorem LD.rblt (h:LD b rb gb w st):rb<w.heap.size:=by
 obtain⟨o,st0,h1,h2,h3⟩:=h.ex
 exact h2.lt
theorem LD.gblt (h:LD b rb gb w st):gb<w.heap.size:=by
 obtain⟨o,st0,h1,h2,h3⟩:=h.ex
 obtain⟨_,_,_,_,_,_,h4,_⟩:=h2.ex
 exact h4
theorem LD.below (h:LD b rb gb w st) (hb:Below w.heap.size w w'):LD b rb gb w' st:=h.step (.of_below hb) h.lt h.rblt h.gblt
theorem LD.alloc (h:LD b rb gb w st) (o:Obj):LD b rb gb (w.alloc o) st:=h.below ((Below.refl _ w).alloc (Nat.le_refl _) o)
theorem LD.drew (h:LD b rb gb w st):LD b rb gb w.drew st:=h.below ((Below.refl _ w).drew)
theorem LD.cell (h:LD b rb gb w st):w.cell? ⟨b,0,none⟩=some (.pointer (some ⟨rb,0,none⟩)):=by
 obtain⟨o,st0,h1,h2,h3⟩:=h.ex
 rw [Lib.cell_of_heap h1];rfl
theorem LD.read {α:Type} {p:List UInt8→Option (α × List UInt8)} (f:Option (List UInt8)→α × Option (List UInt8)) (hf:∀ s,Got p s (f s).1 (f s).2) {Q:Ending→World→Prop} {fn:Nat} {args:Array Value} (h:LD b rb gb w st)
  (hc:∀ st0,RB rb gb w st0→Calls Tryz.prog fn args w fun e w'=>RB rb gb w' (f st0).2∧Step (fun x=>x≠rb) w w'∧(∀ st',Got p st (f st0).1 st'→LD b rb gb w' st'→Q e w')):Calls Tryz.prog fn args w Q:=by
 obtain⟨o,st0,h1,h2,h3⟩:=h.ex
 refine(hc st0 h2).mono ?_
 rintro e w' ⟨hr,hs,hq⟩
 refine hq (if o then none else (f st0).2) ?_ ⟨⟨o,_,(hs.block b h.ne).trans h1,hr,rfl⟩,h.ne,h.ng⟩
 rw [h3]
 cases o with
 | true=>exact⟨fun _=>rfl,fun l e=>by simp at e⟩
 | false=>exact hf st0
end
theorem ldnum (w:World) (b rb gb:Nat) (st:Option (List UInt8)) (size:Nat) (h:LD b rb gb w st) (hs:size=1∨size=2∨size=4∨size=8):
  Calls Tryz.prog 16 #[.pointer (some ⟨rb,0,none⟩),.int .i64 (size:Int)] w fun e w'=>∃ n st',e=.returned (.int .i64 n)∧Got (numP size) st n st'∧okN size n∧LD b rb gb w' st'∧Step (fun x=>x≠rb) w w'∧w'.heap.size=w.heap.size:=by
 refine h.read (fun s=>numS s size) (fun s=>got_num s size) (fun st0 h0=> ?_)
 refine(rnum_any w rb gb st0 size h0 hs).mono ?_
 rintro e w' ⟨rfl,hr,hst,hz⟩
 exact⟨hr,hst,fun st' hg hl=>⟨_,st',rfl,hg,numS_ok _ _ (by omega),hl,hst,hz⟩⟩
theorem ldtext (w:World) (b rb gb:Nat) (st:Option (List UInt8)) (h:LD b rb gb w st):
  Calls Tryz.prog 15 #[.pointer (some ⟨rb,0,none⟩)] w fun e w'=>∃ x st',e=.returned (.string ⟨List.toArray x⟩)∧Got textP st x st'∧x.length≤4096∧LD b rb gb w' st'∧Step (fun x=>x≠rb) w w'∧w'.heap.size=w.heap.size:=by
 refine h.read (fun s=>partS s 2 4096) (fun s=>got_part s 2 4096 (by decide)) (fun st0 h0=> ?_)
 refine(rtext_any w rb gb st0 h0).mono ?_
 rintro e w' ⟨rfl,hr,hst,hz⟩
 exact⟨hr,hst,fun st' hg hl=>⟨_,st',rfl,hg,partS_len _ _ _ (by decide),hl,hst,hz⟩⟩
theorem ldblock (w:World) (b rb gb:Nat) (st:Option (List UInt8)) (h:LD b rb gb w st):
  Calls Tryz.prog 17 #[.pointer (some ⟨rb,0,none⟩)] w fun e w'=>∃ v x st',e=.returned v∧OwnK 5 kByte w.heap.size (fun _=>False) w' v x∧Got blockP st x st'∧x.length≤1048576∧LD b rb gb w' st'∧Step (fun x=>x<w.heap.size∧x≠rb) w w':=by
 obtain⟨o,st0,h1,h2,h3⟩:=h.ex
 refine(rblock_any w rb gb st0 h2).mono ?_
 rintro e w' ⟨v,rfl,hv,hr,hs⟩
 refine⟨v,_,(if o then none else (partS st0 4 1048576).2),rfl,hv,?_,partS_len _ _ _ (by decide),⟨⟨o,_,(hs.block b ⟨h.lt,h.ne⟩).trans h1,hr,rfl⟩,h.ne,h.ng⟩,hs⟩
 rw [h3]
 cases o with
 | true=>exact⟨fun _=>rfl,fun l e=>by simp at e⟩
 | false=>exact got_part st0 4 1048576 (by decide)
theorem ldbit (w:World) (b rb gb:Nat) (st:Option (List UInt8)) (h:LD b rb gb w st):
  Calls Tryz.prog 19 #[.pointer (some ⟨b,0,none⟩)] w fun e w'=>∃ x st',e=.returned (.bool x)∧Got bitP st x st'∧LD b rb gb w' st'∧Step (fun x=>x≠rb∧x≠b) w w':=by
 obtain⟨o,st0,h1,h2,h3⟩:=h.ex
 have hne:=h.ne
 have hng:=h.ng
 have HN:=Lib.hid (rnum_any w rb gb st0 1 h2 (by decide))
 have hc:=h.cell
 have hbl:=h.lt
 have H1:=Lib.hid h1
 have H3:=Lib.hid h3
 have Hn:=Lib.hid (got_num st0 1)
 have Ho:=Lib.hid (numS_ok st0 1 (by decide))
 clear h h1 h2 h3
 generalize numS st0 1=ns at *
 obtain⟨n,st1⟩:=ns
 go_enter Tryz.func19,Tryz.ntmps19
 go_wp2_with fail
 refine HN.out.mono ?_
 rintro e w2 ⟨rfl,hr2,hs2,hz2⟩
 have h2:=(hs2.block b hne).trans H1.out
 have hc2:w2.cell? ⟨b,1,none⟩=some (.bool o):=by rw [Lib.cell_of_heap h2];rfl
 have fz2:w2.frozen? ⟨b,1,none⟩=false:=Lib.frozen_of_heap h2 1
 have hbl2:b<w2.heap.size:=by omega
 obtain⟨rb2,hn2⟩:0≤n∧n<256:=by
  have:=Ho.out;simp only [okN]at this;simpa using this
 have Hfin:∀ o' x,(o'=true↔o=true∨1<n)→x=(n==1)→Hid (∃ st',Got bitP st x st'∧LD b rb gb (w2.setCell ⟨b,1,none⟩ (.bool o')) st'):=fun o' x ho' hx=>Lib.hid (by
  refine⟨if o' then none else st1,?_,⟨⟨o',st1,by simp [World.setCell,Array.getElem?_modify,h2],hr2.step (S:=fun x=>x≠b) (setCell_step w2 b 1 _) hne.symm hng.symm,rfl⟩,hne,hng⟩⟩
  ·rw [H3.out]
   by_cases ho:o=true
   ·have e1:o'=true:=ho'.2 (Or.inl ho)
    rw [if_pos ho,if_pos e1]
    exact⟨fun _=>rfl,fun l e=>by cases e⟩
   ·rw [if_neg ho]
    refine Hn.out.bind ?_
    by_cases h1:1<n
    ·have e1:o'=true:=ho'.2 (Or.inr h1)
     rw [if_pos e1]
     exact⟨fun _=>rfl,fun l e=>⟨fun _=>rfl,fun y t h=>by dsimp only at h;rw [if_pos h1]at h;cases h⟩⟩
    ·have e1:¬ o'=true:=fun h=>(ho'.1 h).elim ho h1
     rw [if_neg e1]
     refine⟨id,fun l e=>⟨fun h=>(by dsimp only at h;rw [if_neg h1]at h;cases h),fun y t h=> ?_⟩⟩
     dsimp only at h
     rw [if_neg h1]at h
     obtain⟨rfl,rfl⟩:=Prod.mk.inj (Option.some.inj h)
     exact⟨hx,e⟩
)
 have Hs:=Lib.hid (fun v=>(hs2.imp (S':=fun x=>x≠rb∧x≠b) (fun x hx=>hx.1)).trans ((setCell_step w2 b 1 v).imp (fun x hx=>hx.2)))
 clear h2 hr2 hs2 HN H1 H3 Hn
 cases o with
 | true=>
  have HF:=Hfin true (n==1) (by simp) rfl
  clear Hfin
  go_wp2
  go_ret
  obtain⟨st',g1,g2⟩:=HF.out
  exact⟨_,st',rfl,g1,g2,Hs.out _⟩
 | false=>
  by_cases h1:1<n
  ·have hd:decide (1<n)=true:=by rw [decide_eq_true_eq];exact h1
   have HF:=Hfin true (n==1) (by simp [h1]) rfl
   clear Hfin
   go_wp2
   go_ret
   obtain⟨st',g1,g2⟩:=HF.out
   exact⟨_,st',rfl,g1,g2,Hs.out _⟩
  ·have hd:decide (1<n)=false:=by rw [decide_eq_false_iff_not];exact h1
   have HF:=Hfin false (n==1) (by simp [h1]) rfl
   clear Hfin
   go_wp2
   go_ret
   obtain⟨st',g1,g2⟩:=HF.out
   exact⟨_,st',rfl,g1,g2,Hs.out _⟩
end Go.Proofs.YtfchpchabdhcgaaGreat
namespace Go.Proofs.YtfchpchabdhcgaaGreat
open Go.RowKit
def LQ {α:Type} (e:TypeId) (K:Kind α) (p:List UInt8→Option (α × List UInt8)) (ok:α→Prop) (lb rb gb:Nat) (S0:Nat→Prop) (w0:World) (st0:Option (List UInt8)) (w:World) (v:Value) (k:Nat):Prop:=
 ∃ xs st,OwnK e K w0.heap.size (·<w0.heap.size) w v xs∧xs.length=k∧(∀ x∈xs,ok x)∧Got (manyP p k) st0 xs st∧LD lb rb gb w st∧Step (fun x=>x<w0.heap.size∧S0 x) w0 w
section
variable {α : Type} {e : TypeId} {K : Kind α} {p : List UInt8 → Option (α × List UInt8)} {ok : α → Prop} {lb rb gb : Nat} {S0 : Nat → Prop} {w0 w w' w'' : World} {st0 st st' : Option (List UInt8)} {v v' : Value} {k : Nat}
theorem LQ.start (h:LD lb rb gb w0 st0):LQ e K p ok lb rb gb S0 w0 st0 w0 (.slice none 0 0) 0:=
 ⟨[],st0,OwnK.nil _ _ _ _ _,rfl,(fun x hx=>by simp at hx),Got.many0 _ _,h,Step.refl _ _⟩
theorem LQ.next {xs:List α} {x:α} (h2:xs.length=k) (h3:∀ x∈xs,ok x) (h4:Got (manyP p k) st0 xs st) (h6:Step (fun x=>x<w0.heap.size∧S0 x) w0 w)
  (hg:Got p st x st') (hx:ok x) (hs:Step (fun x=>x<w0.heap.size∧S0 x) w w'') (hl:LD lb rb gb w'' st') (ho:OwnK e K w0.heap.size (·<w0.heap.size) w'' v' (xs++[x])):LQ e K p ok lb rb gb S0 w0 st0 w'' v' (k+1):=
 ⟨xs++[x],st',ho,by simp [h2],fun y hy=>by
  rcases List.mem_append.1 hy with h | h
  ·exact h3 y h
  ·simp at h;rw [h];exact hx,h4.snoc hg,hl,h6.trans hs⟩
end
theorem info_str:(Tryz.prog.info? 9).map (fun i=>(i.zero,i.size,i.bytes))=some (some (.string ⟨#[]⟩),1,16):=by kernel_rfl
theorem row_one (w:World) (nb:Nat) (u:Value) (h:w.cell? ⟨nb,0,none⟩=some u):∀ j x,([u]:List Value)[j]? =some x→w.cell? ⟨nb,j,none⟩=some x:=by
 intro j x hx
 match j,hx with
 | 0,hx=>simp at hx;subst hx;exact h
 | j+1,hx=>simp at hx
theorem ldnums (w:World) (b rb gb:Nat) (st:Option (List UInt8)) (n size:Nat) (h:LD b rb gb w st) (hs:size=1∨size=2∨size=4∨size=8) (hn:n≤65536):
  Calls Tryz.prog 20 #[.pointer (some ⟨b,0,none⟩),.int .i64 (n:Int),.int .i64 (size:Int)] w fun e w'=>∃ v,e=.returned v∧LQ 3 kInt (numP size) (okN size) b rb gb (·≠rb) w st w' v n:=by
 have hbl:=h.lt
 have hne:=h.ne
 have hrl:=h.rblt
 have hgl:=h.gblt
 have H:=Lib.hid h
 have HS0:Hid (LQ 3 kInt (numP size) (okN size) b rb gb (·≠rb) w st w (.slice none 0 0) 0):=Lib.hid (.start h)
 clear h
 go_enter Tryz.func20,Tryz.ntmps20
 go_wp2
 go_loopw [7,9] (fun o i wr=>∃ k:Nat,i=.int .i64 k∧k≤n∧LQ 3 kInt (numP size) (okN size) b rb gb (·≠rb) w st wr o k) (fun _ i _=>n-(intOf i).toNat)
 case atStart=>exact⟨0,rfl,Nat.zero_le _,HS0.out⟩
 case round=>
  obtain⟨k,rfl,hk,hq⟩:=hrel
  by_cases hlt:k<n
  ·obtain⟨xs,st1,h1,h2,h3,h4,h5,h6⟩:=hq
   obtain⟨oa,oc,rfl⟩:=h1.form
   have hc:=h5.cell
   have hwr:=h6.size
   have HN:=Lib.hid (ldnum wr b rb gb st1 size h5 hs)
   rw [h2]at h1 ⊢
   have H1:=Lib.hid h1
   have H2:=Lib.hid h2
   have H3:=Lib.hid h3
   have H4:=Lib.hid h4
   have H6:=Lib.hid h6
   have hbr:=h5.lt
   clear h1 h2 h3 h4 h5 h6
   go_wp2_with fail
   refine HN.out.mono ?_
   rintro e w2 ⟨x,st2,rfl,hg,hok,hl,hst,-⟩
   have hz2:=hst.size
   have O2:=Lib.hid (H1.out.step hst (fun y _ hy e=>hy (by rw [e];exact hrl)))
   have HG:=Lib.hid hg
   have HO:=Lib.hid hok
   have HL:=Lib.hid (hl.alloc (.cells #[.int .i64 x] 3 (0,0)))
   have HT:=Lib.hid (hst.imp (S':=fun x=>x<w.heap.size∧x≠rb) (fun _ h=>h.2))
   clear hg hok hl hst HN hc
   go_wp2_with (at_builtin;refine wpList_appendK (α:=Int) (K:=kInt) (e:=3) (B:=w.heap.size) (E:=(·<w.heap.size)) 38 (.int .i64 0) 8 Tryz.underlying38 info_int rfl (by decide) rfl (.tmp 11) (.tmp 18) rfl k H2.out rfl (O2.out.alloc _) (fun b hb=>by have hb:b<w.heap.size:=hb;simp;omega) w2.heap.size x [.int .i64 x] rfl ?c1 ?c2 rfl ?c3 ?c4 ?c5 ?_)
   case c1=>exact row_one _ _ _ (by simp)
   case c2=>intro u hu;simp at hu;subst hu;rfl
   case c3=>rw [H2.out];omega
   case c4=>rw [H2.out];omega
   case c5=>simp;omega
   intro g c w3 hown3 hst3 _
   have hlo:=(O2.out.alloc (.cells #[.int .i64 x] 3 (0,0))).lt
   have hno:=(O2.out.alloc (.cells #[.int .i64 x] 3 (0,0))).notE
   have hS3:Step (·<w.heap.size) (w2.alloc (.cells #[.int .i64 x] 3 (0,0))) w3:=hst3.imp (fun y hy=>⟨by have hy:y<w.heap.size:=hy;simp;omega,fun e=>hno y e hy⟩)
   have Hfin:Hid (LQ 3 kInt (numP size) (okN size) b rb gb (·≠rb) w st w3 (.slice (some ⟨g,0,none⟩) (k+1) c) (k+1)):=Lib.hid (
    LQ.next H2.out H3.out H4.out H6.out HG.out HO.out ((HT.out.trans ((Step.of_below ((Below.refl _ w2).alloc (Nat.le_refl _) (.cells #[.int .i64 x] 3 (0,0)))).imp (fun y hy=>by have:=hy.1;show y<w2.heap.size;omega))).trans (hS3.imp (fun y hy=>hy.1))) (HL.out.step hS3 hbl hrl hgl) hown3)
   clear hown3 hst3 hlo hno hS3 O2 HG HO HL HT H1 H2 H3 H4 H6
   go_wp2
   go_roundw
   case rel=>exact⟨k+1,by go_num,by omega,Hfin.out⟩
   case measure=>simp [intOf];omega
  ·have he:k=n:=by omega
   subst he
   have Hq:=Lib.hid hq
   clear hq
   go_wp2
   go_ret
   exact⟨_,rfl,Hq.out⟩
theorem ldtexts (w:World) (b rb gb:Nat) (st:Option (List UInt8)) (n:Nat) (h:LD b rb gb w st) (hn:n≤65536):
  Calls Tryz.prog 18 #[.pointer (some ⟨b,0,none⟩),.int .i64 (n:Int)] w fun e w'=>∃ v,e=.returned v∧LQ 9 kStr textP (fun x=>x.length≤4096) b rb gb (·≠rb) w st w' v n:=by
 have hbl:=h.lt
 have hne:=h.ne
 have hrl:=h.rblt
 have hgl:=h.gblt
 have H:=Lib.hid h
 have HS0:Hid (LQ 9 kStr textP (fun x=>x.length≤4096) b rb gb (·≠rb) w st w (.slice none 0 0) 0):=Lib.hid (.start h)
 clear h
 go_enter Tryz.func18,Tryz.ntmps18
 go_wp2
 go_loopw [5,7] (fun o i wr=>∃ k:Nat,i=.int .i64 k∧k≤n∧LQ 9 kStr textP (fun x=>x.length≤4096) b rb gb (·≠rb) w st wr o k) (fun _ i _=>n-(intOf i).toNat)
 case atStart=>exact⟨0,rfl,Nat.zero_le _,HS0.out⟩
 case round=>
  obtain⟨k,rfl,hk,hq⟩:=hrel
  by_cases hlt:k<n
  ·obtain⟨xs,st1,h1,h2,h3,h4,h5,h6⟩:=hq
   obtain⟨oa,oc,rfl⟩:=h1.form
   have hc:=h5.cell
   have hwr:=h6.size
   have HN:=Lib.hid (ldtext wr b rb gb st1 h5)
   rw [h2]at h1 ⊢
   have H1:=Lib.hid h1
   have H2:=Lib.hid h2
   have H3:=Lib.hid h3
   have H4:=Lib.hid h4
   have H6:=Lib.hid h6
   have hbr:=h5.lt
   clear h1 h2 h3 h4 h5 h6
   go_wp2_with fail
   refine HN.out.mono ?_
   rintro e w2 ⟨x,st2,rfl,hg,hok,hl,hst,-⟩
   have hz2:=hst.size
   have O2:=Lib.hid (H1.out.step hst (fun y _ hy e=>hy (by rw [e];exact hrl)))
   have HG:=Lib.hid hg
   have HO:=Lib.hid hok
   have hx4:x.length≤4096:=hok
   have HL:=Lib.hid (hl.alloc (.cells #[.string ⟨x.toArray⟩] 9 (0,0)))
   have HT:=Lib.hid (hst.imp (S':=fun x=>x<w.heap.size∧x≠rb) (fun _ h=>h.2))
   clear hg hok hl hst HN hc
   go_wp2_with (at_builtin;refine wpList_appendK (α:=List UInt8) (K:=kStr) (e:=9) (B:=w.heap.size) (E:=(·<w.heap.size)) 28 (.string ⟨#[]⟩) 16 Tryz.underlying28 info_str rfl (by decide) rfl (.tmp 9) (.tmp 15) rfl k H2.out rfl (O2.out.alloc _) (fun b hb=>by have hb:b<w.heap.size:=hb;simp;omega) w2.heap.size x [.string ⟨x.toArray⟩] rfl ?c1 ?c2 ⟨rfl,by omega⟩ ?c3 ?c4 ?c5 ?_)
   case c1=>exact row_one _ _ _ (by simp)
   case c2=>intro u hu;simp at hu;subst hu;rfl
   case c3=>rw [H2.out];omega
   case c4=>rw [H2.out];omega
   case c5=>simp;omega
   intro g c w3 hown3 hst3 _
   have hlo:=(O2.out.alloc (.cells #[.string ⟨x.toArray⟩] 9 (0,0))).lt
   have hno:=(O2.out.alloc (.cells #[.string ⟨x.toArray⟩] 9 (0,0))).notE
   have hS3:Step (·<w.heap.size) (w2.alloc (.cells #[.string ⟨x.toArray⟩] 9 (0,0))) w3:=hst3.imp (fun y hy=>⟨by have hy:y<w.heap.size:=hy;simp;omega,fun e=>hno y e hy⟩)
   have Hfin:Hid (LQ 9 kStr textP (fun x=>x.length≤4096) b rb gb (·≠rb) w st w3 (.slice (some ⟨g,0,none⟩) (k+1) c) (k+1)):=Lib.hid (
    LQ.next H2.out H3.out H4.out H6.out HG.out HO.out ((HT.out.trans ((Step.of_below ((Below.refl _ w2).alloc (Nat.le_refl _) (.cells #[.string ⟨x.toArray⟩] 9 (0,0)))).imp (fun y hy=>by have:=hy.1;show y<w2.heap.size;omega))).trans (hS3.imp (fun y hy=>hy.1))) (HL.out.step hS3 hbl hrl hgl) hown3)
   clear hown3 hst3 hlo hno hS3 O2 HG HO HL HT H1 H2 H3 H4 H6
   go_wp2
   go_roundw
   case rel=>exact⟨k+1,by go_num,by omega,Hfin.out⟩
   case measure=>simp [intOf];omega
  ·have he:k=n:=by omega
   subst he
   have Hq:=Lib.hid hq
   clear hq
   go_wp2
   go_ret
   exact⟨_,rfl,Hq.out⟩
end Go.Proofs.YtfchpchabdhcgaaGreat
