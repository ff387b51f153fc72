/- Lemmas. -/
import Derived.Test.YtfchpchabdhcgaaGreatDec29
import Derived.Test.YtfchpchabdhcgaaGreatDec4
import Derived.Test.YtfchpchabdhcgaaGreatDec12
import Derived.Test.YtfchpchabdhcgaaGreatDec6
import Derived.Test.YtfchpchabdhcgaaGreatDec11
import Derived.Test.YtfchpchabdhcgaaGreatDec9
import Derived.Test.YtfchpchabdhcgaaGreatDec20
import Derived.Test.YtfchpchabdhcgaaGreatDec27
import Derived.Test.YtfchpchabdhcgaaGreatDec31
import Derived.Test.YtfchpchabdhcgaaGreatRows
import Derived.ProofKit
import Derived.OpenShut
import Derived.Carry
import Derived.Deep.Matrix
import Derived.Deep.Slices
import Derived.Deep.DeepCutAuto
import Derived.Deep.QuietTactic
import Derived.BigQuiet
import Derived.IntWalk
set_option linter.unusedVariables false
set_option linter.unusedSimpArgs false
set_option maxHeartbeats 64000000
set_option maxRecDepth 100000
namespace Go.Proofs.YtfchpchabdhcgaaGreat
open Go.ChangeShapes Go.WideShapes Go.ChangeAt Go.RowKit Go.Deep
theorem own:ownKnob Tryz.prog.godebug=none:=by kernel_rfl
theorem laidOut:laidOutB Tryz.prog=true:=by kernel_rfl
theorem wf_u8 {n:Int} (h:(Lit.int .u8 n).wf=true):0≤n∧n<256:=by
 simp [Lit.wf,IntKind.min,IntKind.max,IntKind.signed,IntKind.bits]at h
 omega
theorem bulk_count {H:Type}:∀ l:List (DataW H),l.length≤Rows.uptoBulkAll l
 | []=>by simp
 | d :: l=>by
  have:=bulk_count l
  have h1:1≤Rows.uptoBulk d:=by cases d with
   | lit x=>cases x<;>simp [Rows.uptoBulk]
   | _=>simp [Rows.uptoBulk]
  simp only [Rows.uptoBulkAll,List.length_cons]
  omega
theorem bulk_mem {H:Type} {d:DataW H}:∀ {l:List (DataW H)},d∈l→Rows.uptoBulk d≤Rows.uptoBulkAll l
 | [],h=>by cases h
 | x :: l,h=>by
  simp only [Rows.uptoBulkAll]
  rcases List.mem_cons.1 h with rfl | h
  ·omega
  ·have:=bulk_mem h;omega
theorem weights_mem {H:Type} {P:Program} {e:TypeId} {d:DataW H} {k:Nat}:∀ {l:List (DataW H)},d∈l→k∈DataW.weights P e d→k∈DataW.weightsAll P e l
 | [],h,_=>by cases h
 | x :: l,h,hk=>by
  rw [DataW.weightsAll]
  rcases List.mem_cons.1 h with rfl | h
  ·exact List.mem_append_left _ hk
  ·exact List.mem_append_right _ (weights_mem h hk)
section
variable {H : Type} {enc : TypeId × Value → H} {w : World}
theorem open_listW {α:Type} {K:Kind α} {t e:TypeId} {P:α→DataW H→Prop} (ht:Tryz.prog.underlying t=some (.slice e)) (hk:Tryz.prog.cellsOf e=K.k) (hk0:0<K.k)
  (el:∀ (fuel:Nat) (cs:List Value) (x:DataW H × List MemPlace),cs.length=K.k→DataW.trod enc Tryz.prog w 0 (fun _=>true) true fuel e cs=some x→∃ y,K.R (·<w.heap.size) w y cs∧P y x.1)
  {fuel:Nat} {c:Value} {x:DataW H × List MemPlace} (h:DataW.trod enc Tryz.prog w 0 (fun _=>true) true fuel t [c]=some x):
  ∃ l,LB K (·<w.heap.size) w c l∧l.length≤Rows.uptoBulk x.1∧(0<l.length→∃ k∈DataW.weights Tryz.prog t x.1,l.length*Tryz.prog.bytesOf e≤k)∧∀ y∈l,∃ d:DataW H,P y d∧Rows.uptoBulk d≤Rows.uptoBulk x.1∧∀ k∈DataW.weights Tryz.prog e d,k∈DataW.weights Tryz.prog t x.1:=by
 rcases open_slice ht h with ⟨hcs,hx⟩ | ⟨a,n,cap,m,q,D,Pl,hcs,_,hl,hm,hmm,hx,hi⟩
 ·simp at hcs
  subst hcs
  exact⟨[],LB.nil _ _ _,by simp,fun h=>absurd h (by simp),fun y hy=>(by cases hy)⟩
 ·simp at hcs
  subst hcs
  simp only [if_true]at hmm
  subst hmm
  have each:∀ i,i<m→∃ y,∃ row,K.R (·<w.heap.size) w y row∧(∀ j u,row[j]? =some u→w.cell? ((a.add (i*K.k)).add j)=some u)∧P y (D i)∧row.length=K.k:=fun i hin=>by
   obtain⟨cs',hc,ht'⟩:=hi i hin
   rw [hk]at hc
   obtain⟨_,hcl,hat⟩:=World.cells?_some hc
   obtain⟨y,hy,hp⟩:=el _ _ _ hcl ht'
   refine⟨y,cs',hy,fun j u hu=> ?_,hp,hcl⟩
   have hj:j<K.k:=by rw [← hcl];exact(List.getElem?_eq_some_iff.1 hu).1
   rw [hat j hj];exact hu
  have plain:0<n→a=⟨a.block,a.off,none⟩∧a.block<w.heap.size:=fun h0=>by
   obtain⟨y,row,_,hat,_,hrl⟩:=each 0 (by omega)
   obtain⟨u,hu⟩:∃ u,row[0]? =some u:=⟨_,List.getElem?_eq_getElem (by omega)⟩
   have h1:=hat 0 u hu
   have h2:=World.cell?_spot h1
   have h3:=World.block_lt_of_cell? _ _ h1
   obtain⟨b,o,s⟩:=a
   have:s=none:=by simpa [Addr.add] using h2
   subst this
   exact⟨rfl,by simpa [Addr.add] using h3⟩
  let f:Fin n→α:=fun i=>(each i.1 (by omega)).choose
  have hf:∀ i:Fin n,∃ row,K.R (·<w.heap.size) w (f i) row∧(∀ j u,row[j]? =some u→w.cell? ((a.add (i.1*K.k)).add j)=some u)∧P (f i) (D i.1)∧row.length=K.k:=fun i=>(each i.1 (by omega)).choose_spec
  have hx1:x.1=.slice ((List.range n).map D) ((List.range (m-n)).map fun j=>D (n+j)):=congrArg Prod.fst hx
  have hbk:Rows.uptoBulkAll ((List.range n).map D)<Rows.uptoBulk x.1:=by
   rw [hx1,Rows.uptoBulk];omega
  have hwt:DataW.weights Tryz.prog t x.1=(((List.range n).map D).length+((List.range (m-n)).map fun j=>D (n+j)).length)*Tryz.prog.bytesOf e :: (DataW.weightsAll Tryz.prog e ((List.range n).map D)++DataW.weightsAll Tryz.prog e ((List.range (m-n)).map fun j=>D (n+j))):=by
   rw [hx1]
   simp only [DataW.weights,ht]
  refine⟨List.ofFn f,⟨some a,a.block,a.off,m,by simp,by simp;unfold maxLen at hm;omega,fun h0=> ?_,⟨by simpa using hl,fun h=>by cases h⟩,fun h0=> ?_,fun i y hy=> ?_⟩,?_,fun h0=> ?_,fun y hy=> ?_⟩
  ·simp at h0
   rw [← (plain h0).1]
  ·simp at h0
   exact(plain h0).2
  ·rw [List.getElem?_ofFn]at hy
   split at hy
   ·rename_i hin
    cases hy
    obtain⟨row,h1,h2,_,_⟩:=hf ⟨i,hin⟩
    refine⟨row,h1,fun j u hu=> ?_⟩
    have h3:=h2 j u hu
    obtain⟨h4,_⟩:=plain (by omega)
    rw [h4,Addr.add_lit,Addr.add_lit]at h3
    exact h3
   ·cases hy
  ·have:=bulk_count ((List.range n).map D)
   simp at this ⊢
   omega
  ·refine⟨_,by rw [hwt];exact List.mem_cons_self,?_⟩
   simp only [List.length_ofFn,List.length_map,List.length_range]
   exact Nat.mul_le_mul_right _ (Nat.le_add_right _ _)
  ·obtain⟨i,rfl⟩:=List.mem_ofFn.1 hy
   obtain⟨_,_,_,hp,_⟩:=hf i
   have hm1:D i.1∈(List.range n).map D:=List.mem_map.2 ⟨i.1,by simp,rfl⟩
   refine⟨D i.1,hp,?_,fun k hk=> ?_⟩
   ·have:=bulk_mem hm1
    omega
   ·rw [hwt]
    exact List.mem_cons_of_mem _ (List.mem_append_left _ (weights_mem hm1 hk))
theorem open_list {α:Type} {K:Kind α} {t e:TypeId} {P:α→DataW H→Prop} (ht:Tryz.prog.underlying t=some (.slice e)) (hk:Tryz.prog.cellsOf e=K.k) (hk0:0<K.k)
  (el:∀ (fuel:Nat) (cs:List Value) (x:DataW H × List MemPlace),cs.length=K.k→DataW.trod enc Tryz.prog w 0 (fun _=>true) true fuel e cs=some x→∃ y,K.R (·<w.heap.size) w y cs∧P y x.1)
  {fuel:Nat} {c:Value} {x:DataW H × List MemPlace} (h:DataW.trod enc Tryz.prog w 0 (fun _=>true) true fuel t [c]=some x):
  ∃ l,LB K (·<w.heap.size) w c l∧l.length≤Rows.uptoBulk x.1∧∀ y∈l,∃ d:DataW H,P y d∧Rows.uptoBulk d≤Rows.uptoBulk x.1:=by
 obtain⟨l,h1,h2,_,h4⟩:=open_listW ht hk hk0 el h
 exact⟨l,h1,h2,fun y hy=>by obtain⟨d,a,b,_⟩:=h4 y hy;exact⟨d,a,b⟩⟩
theorem open_bytesL {fuel:Nat} {c:Value} {x:DataW H × List MemPlace} (h:DataW.trod enc Tryz.prog w 0 (fun _=>true) true fuel 22 [c]=some x):∃ l,LB kByte (·<w.heap.size) w c l∧l.length≤Rows.uptoBulk x.1:=by
 obtain⟨l,h1,h2,h3⟩:=open_list (K:=kByte) (P:=fun y _=>True) Tryz.underlying22 (by kernel_rfl) (by decide) (fun fuel cs x _ h=>by
  obtain⟨n,rfl,rfl,hw⟩:=DataW.trod_int Tryz.underlying5 h
  have:=wf_u8 hw
  refine⟨UInt8.ofNat n.toNat,?_,trivial⟩
  have e:((UInt8.ofNat n.toNat).toNat:Int)=n:=by
   rw [UInt8.toNat_ofNat']
   omega
  show [Value.int .u8 n]=[Value.int .u8 _]
  rw [e]) h
 exact⟨l,h1,h2⟩
theorem open_bytesW {fuel:Nat} {c:Value} {x:DataW H × List MemPlace} (h:DataW.trod enc Tryz.prog w 0 (fun _=>true) true fuel 22 [c]=some x):∃ l,LB kByte (·<w.heap.size) w c l∧(0<l.length→∃ k∈DataW.weights Tryz.prog 22 x.1,l.length*Tryz.prog.bytesOf 5≤k):=by
 obtain⟨l,h1,h2,h3,_⟩:=open_listW (K:=kByte) (P:=fun y _=>True) Tryz.underlying22 (by kernel_rfl) (by decide) (fun fuel cs x _ h=>by
  obtain⟨n,rfl,rfl,hw⟩:=DataW.trod_int Tryz.underlying5 h
  have:=wf_u8 hw
  refine⟨UInt8.ofNat n.toNat,?_,trivial⟩
  have e:((UInt8.ofNat n.toNat).toNat:Int)=n:=by
   rw [UInt8.toNat_ofNat']
   omega
  show [Value.int .u8 n]=[Value.int .u8 _]
  rw [e]) h
 exact⟨l,h1,h3⟩
end
end Go.Proofs.YtfchpchabdhcgaaGreat
namespace Go.Proofs.YtfchpchabdhcgaaGreat
open Go.ChangeShapes Go.WideShapes Go.ChangeAt Go.RowKit Go.Deep
section
variable {H : Type} {enc : TypeId × Value → H} {w : World}
end
end Go.Proofs.YtfchpchabdhcgaaGreat
namespace Go.Proofs.YtfchpchabdhcgaaGreat
open Go.RowKit
theorem dhead {Q:Exit→Act→World→Prop} {a:Act} {w:World} {va:Option Addr} {vc:Nat} {l:List UInt8} (hF:Fr [(0,.slice va l.length vc)] a) (hl:LB kByte (·<w.heap.size) w (.slice va l.length vc) l) (hlen:l.length≤140737488355328) (hw:0<w.heap.size)
  (hQ:∀ (a':Act) (w4:World) (lb rb gb:Nat) (x0:List UInt8) (st0 st1:Option (List UInt8)) (o:Bool),Fr [(2,.pointer (some ⟨w.heap.size,0,none⟩)),(4,.pointer (some ⟨lb,0,none⟩))] a'→LD lb rb gb w4 st1→Got textP (some l) x0 st0→(!x0==[99,108,101,118,105,115,49])=o→st1=(if o then none else st0)→Below w.heap.size w w4→w4.heap[w.heap.size]? =some (.cells #[.string ⟨#[]⟩,.int .i64 0,.slice none 0 0,.slice none 0 0,.slice none 0 0,.slice none 0 0,.slice none 0 0,.slice none 0 0,.int .i64 0,.slice none 0 0,.slice none 0 0,.slice none 0 0,.slice none 0 0,.slice none 0 0,.int .i64 0] 40 (0,0))→w.heap.size<rb→w.heap.size<lb→(dRest Tryz.f6 3).wp Tryz.prog Q a' w4):(dRest Tryz.f6 0).wp Tryz.prog Q a w:=by
 have HQ:=Lib.hid hQ
 have HR:=Lib.hid (fun o=>rnew_any (w.alloc o) (.slice va l.length vc) l ((hl.keeps (fun b hb=>heap_alloc_old w o hb)).imp (fun b hb=>by have hb:b<w.heap.size:=hb;rw [World.size_alloc];omega)) hlen (by rw [World.size_alloc];omega))
 clear hl hQ
 have e0:dRest Tryz.f6 0=.seq (dCode Tryz.f6 0) (dRest Tryz.f6 1):=d_seq _ 0 (by kernel_rfl)
 have e1:dRest Tryz.f6 1=.seq (dCode Tryz.f6 1) (dRest Tryz.f6 2):=d_seq _ 1 (by kernel_rfl)
 have e2:dRest Tryz.f6 2=.seq (dCode Tryz.f6 2) (dRest Tryz.f6 3):=d_seq _ 2 (by kernel_rfl)
 rw [e0,e1,e2]
 clear e0 e1 e2
 apply Fr.elim hF
 clear hF
 intro V0
 iterate 331 (intro _)
 intro hF
 obtain⟨-,-,e0,-⟩:=hF
 replace e0:V0=.slice va l.length vc:=e0
 subst e0
 conv in dCode _ 0=>whnf
 conv in dCode _ 1=>whnf
 conv in dCode _ 2=>whnf
 go_wp2_with fail
 obtain⟨oz,hoz⟩:∃ oz:Obj,oz=.cells #[.string ⟨#[]⟩,.int .i64 0,.slice none 0 0,.slice none 0 0,.slice none 0 0,.slice none 0 0,.slice none 0 0,.slice none 0 0,.int .i64 0,.slice none 0 0,.slice none 0 0,.slice none 0 0,.slice none 0 0,.slice none 0 0,.int .i64 0] 40 (0,0):=⟨_,rfl⟩
 have Hoz:=Lib.hid hoz
 rw [← hoz]
 clear hoz
 refine(HR.out oz).mono ?_
 rintro e w1 ⟨rb,gb,rfl,hr1,hb1,hrb⟩
 have HB1:=Lib.hid (((Below.refl w.heap.size w).alloc (Nat.le_refl _) oz).trans (hb1.mono (by rw [World.size_alloc];omega)))
 have F1:=Lib.hid ((hb1.block w.heap.size (by rw [World.size_alloc];omega)).trans (heap_alloc_new w oz))
 have HR1:=Lib.hid (hr1.alloc (.cells #[.pointer (some ⟨rb,0,none⟩),.bool false] 62 (0,0)))
 have hrl:=hr1.lt
 have HX1:=Lib.hid (heap_alloc_new w1 (.cells #[.pointer (some ⟨rb,0,none⟩),.bool false] 62 (0,0)))
 have hz1:w.heap.size+1≤w1.heap.size:=by have:=hb1.size;rw [World.size_alloc]at this;exact this
 have hgl:gb<w1.heap.size:=by
  obtain⟨_,_,_,_,_,_,h,_⟩:=hr1.ex
  exact h
 clear hr1 hb1 HR
 obtain⟨f1,v1,r1,R1,R2,R3,R4,R5,R6⟩:=HR1.out.ex
 have HP:=Lib.hid (rtext_any _ rb gb (some l) HR1.out)
 have HS0:=Lib.hid (Step.of_below ((Below.refl _ w1).alloc (Nat.le_refl _) (.cells #[.pointer (some ⟨rb,0,none⟩),.bool false] 62 (0,0))))
 have hz2:w1.heap.size<(w1.alloc (.cells #[.pointer (some ⟨rb,0,none⟩),.bool false] 62 (0,0))).heap.size:=by simp
 clear R1 R2 R3 R5 R6
 go_upto_region 2 with fail
 generalize w1.alloc (.cells #[.pointer (some ⟨rb,0,none⟩),.bool false] 62 (0,0))=w2 at *
 generalize w1.heap.size=lb at *
 have c2:w2.cell? ⟨lb,0,none⟩=some (.pointer (some ⟨rb,0,none⟩)):=by rw [Lib.cell_of_heap HX1.out];rfl
 go_wp2_with fail
 refine HP.out.mono ?_
 rintro e w3 ⟨rfl,hr3,hs3,-⟩
 have hne:lb≠rb:=by omega
 have hng:lb≠gb:=by omega
 have X3:=(hs3.block lb hne).trans HX1.out
 have c31:w3.cell? ⟨lb,1,none⟩=some (.bool false):=by rw [Lib.cell_of_heap X3];rfl
 have fz3:w3.frozen? ⟨lb,1,none⟩=false:=Lib.frozen_of_heap X3 1
 have HR3:=Lib.hid hr3
 have HX3:=Lib.hid X3
 have HG:=Lib.hid (got_part (some l) 2 4096 (by decide))
 have hsz3:=hs3.size
 have hlb3:lb<w3.heap.size:=by omega
 have HS3:=Lib.hid hs3
 clear X3 hr3 hs3 HP HX1
 generalize partS (some l) 2 4096=p0 at *
 obtain⟨x0,st0⟩:=p0
 dsimp only at HR3 HG
 have hrb3:rb<w3.heap.size:=by omega
 have hgb3:gb<w3.heap.size:=by omega
 go_upto_region 3 with fail
 obtain⟨o,ho⟩:∃ o,(!x0==[99,108,101,118,105,115,49])=o:=⟨_,rfl⟩
 rw [ho]
 obtain⟨st1,hst1⟩:∃ s:Option (List UInt8),s=if o then none else st0:=⟨_,rfl⟩
 have HL4:Hid (LD lb rb gb (w3.setCell ⟨lb,1,none⟩ (.bool o)) st1):=Lib.hid ⟨⟨o,st0,by simp [World.setCell,Array.getElem?_modify,HX3.out],HR3.out.step (S:=fun x=>x≠lb) (setCell_step w3 lb 1 _) hne.symm hng.symm,hst1⟩,hne,hng⟩
 have hlz:=hz1
 have HB4:Hid (Step (fun x=>x<lb∧x≠rb) w1 (w3.setCell ⟨lb,1,none⟩ (.bool o))):=Lib.hid ((HS0.out.imp (fun x hx=>hx.1)).trans ((HS3.out.imp (fun x hx=>hx.2)).trans ((setCell_step w3 lb 1 _).imp (fun x hx=>by have:=hx.1;omega))))
 have hz4:lb<(w3.setCell ⟨lb,1,none⟩ (.bool o)).heap.size:=by simpa using hlb3
 have Hst1:=Lib.hid hst1
 have Ho:=Lib.hid ho
 clear hst1 ho HX3 HR3 HS3 HS0 c31 fz3 c2 hsz3 hlb3 hrb3 hgb3 hz2
 generalize w3.setCell ⟨lb,1,none⟩ (.bool o)=w4 at *
 clear w3 HR1
 have c4:w4.cell? ⟨lb,0,none⟩=some (.pointer (some ⟨rb,0,none⟩)):=HL4.out.cell
 have HBw:Below w.heap.size w w4:=((Step.of_below HB1.out).trans (HB4.out.imp (fun x hx=>⟨by omega,by have:=hrb;rw [World.size_alloc]at this;omega⟩))).below
 have HZ:w4.heap[w.heap.size]? =some (.cells #[.string ⟨#[]⟩,.int .i64 0,.slice none 0 0,.slice none 0 0,.slice none 0 0,.slice none 0 0,.slice none 0 0,.slice none 0 0,.int .i64 0,.slice none 0 0,.slice none 0 0,.slice none 0 0,.slice none 0 0,.slice none 0 0,.int .i64 0] 40 (0,0)):=by
  rw [HB4.out.block w.heap.size ⟨by omega,by have:=hrb;rw [World.size_alloc]at this;omega⟩,F1.out,Hoz.out]
 exact HQ.out _ _ lb rb gb x0 st0 st1 o ⟨by kernel_rfl,rfl,(by kernel_rfl),(by kernel_rfl),trivial⟩ HL4.out HG.out Ho.out Hst1.out HBw HZ (by have:=hrb;rw [World.size_alloc]at this;omega) (by omega)
end Go.Proofs.YtfchpchabdhcgaaGreat
namespace Go.Proofs.YtfchpchabdhcgaaGreat
open Go.RowKit
theorem dreg0 {Q:Exit→Act→World→Prop} (hP:∀ x a a' w,a'.defers=a.defers→Q (.panic x) a w→Q (.panic x) a' w) {a:Act} {wr:World} {z lb rb gb:Nat} {s0:Option (List UInt8)} (hF:Fr [(2,.pointer (some ⟨z,0,none⟩)),(4,.pointer (some ⟨lb,0,none⟩))] a) (H:LD lb rb gb wr s0) (hne:lb≠rb) (hng:lb≠gb)
  (hR:∀ (a':Act) (wc:World) (sb:Nat) (name:List UInt8) (flags:Int) (s1 s2:Option (List UInt8)),Fr [(2,.pointer (some ⟨z,0,none⟩)),(4,.pointer (some ⟨lb,0,none⟩)),(5,.pointer (some ⟨sb,0,none⟩))] a'→Got textP s0 name s1→name.length≤4096→Got (numP 1) s1 flags s2→okN 1 flags→LD lb rb gb wc s2→wc.heap[sb]? =some (.cells #[.string ⟨name.toArray⟩,.int .i64 flags,.slice none 0 0,.slice none 0 0,.slice none 0 0,.slice none 0 0,.slice none 0 0,.slice none 0 0,.int .i64 0,.slice none 0 0,.slice none 0 0,.slice none 0 0,.slice none 0 0,.slice none 0 0,.int .i64 0] 40 (0,0))→Step (fun x=>x<wr.heap.size∧x≠rb) wr wc→wr.heap.size≤sb→Q .normal a' wc):(dCode Tryz.f6 3).wp Tryz.prog Q a wr:=by
 have H5:=Lib.hid H
 have HR:=Lib.hid hR
 have hlb:=H.lt
 have hrb:=H.rblt
 have hgb:=H.gblt
 have c:=H.cell
 clear H hR
 apply Fr.elim hF
 clear hF
 intro _ _
 intro V2
 intro _
 intro V4
 iterate 327 (intro _)
 intro hF
 obtain⟨-,-,e2,e4,-⟩:=hF
 replace e2:V2=.pointer (some ⟨z,0,none⟩):=e2
 subst e2
 replace e4:V4=.pointer (some ⟨lb,0,none⟩):=e4
 subst e4
 conv in dCode Tryz.f6 3=>whnf
 refine wp_region_held_drew (S:=fun w'=>w'.cell? ⟨lb,0,none⟩=some (.pointer (some ⟨rb,0,none⟩))) (by kernel_rfl) c (fun hHeld=> ?_)
 refine wpAnyH_take (i:=0) (v:= ?_) rfl (by kernel_rfl) (by kernel_rfl) (by kernel_rfl) (fun _ _ _ h=>hP _ _ _ _ (by rfl) h) (Or.inl ⟨by rfl,?_⟩) hHeld ?_
 rotate_left
 ·(intro w hSw;(try dsimp only at hSw);go_simp;try with_reducible rfl)
 simp only [List.getElem_toArray,List.getElem_cons_zero,List.getElem_cons_succ,Act.put,List.setIfInBounds_toArray,List.set_cons_zero,List.set_cons_succ]
 refine wpAnyH_take (i:=1) (v:= ?_) rfl (by kernel_rfl) (by kernel_rfl) (by kernel_rfl) (fun _ _ _ h=>hP _ _ _ _ (by rfl) h) (Or.inl ⟨by rfl,?_⟩) hHeld ?_
 rotate_left
 ·(intro w hSw;(try dsimp only at hSw);go_simp;try with_reducible rfl)
 simp only [List.getElem_toArray,List.getElem_cons_zero,List.getElem_cons_succ,Act.put,List.setIfInBounds_toArray,List.set_cons_zero,List.set_cons_succ]
 refine wpAnyH_take (i:=2) (v:= ?_) rfl (by kernel_rfl) (by kernel_rfl) (by kernel_rfl) (fun _ _ _ h=>hP _ _ _ _ (by rfl) h) (Or.inl ⟨by rfl,?_⟩) hHeld ?_
 rotate_left
 ·(intro w hSw;(try dsimp only at hSw);go_simp;try with_reducible rfl)
 simp only [List.getElem_toArray,List.getElem_cons_zero,List.getElem_cons_succ,Act.put,List.setIfInBounds_toArray,List.set_cons_zero,List.set_cons_succ]
 refine wpAnyH_take (i:=3) (v:= ?_) rfl (by kernel_rfl) (by kernel_rfl) (by kernel_rfl) (fun _ _ _ h=>hP _ _ _ _ (by rfl) h) (Or.inl ⟨by rfl,?_⟩) hHeld ?_
 rotate_left
 ·(intro w hSw;(try dsimp only at hSw);go_simp;try with_reducible rfl)
 simp only [List.getElem_toArray,List.getElem_cons_zero,List.getElem_cons_succ,Act.put,List.setIfInBounds_toArray,List.set_cons_zero,List.set_cons_succ]
 refine wpAnyH_take (i:=5) (v:= ?_) rfl (by kernel_rfl) (by kernel_rfl) (by kernel_rfl) (fun _ _ _ h=>hP _ _ _ _ (by rfl) h) (Or.inl ⟨by rfl,?_⟩) hHeld ?_
 rotate_left
 ·(intro w hSw;(try dsimp only at hSw);go_simp;try with_reducible rfl)
 simp only [List.getElem_toArray,List.getElem_cons_zero,List.getElem_cons_succ,Act.put,List.setIfInBounds_toArray,List.set_cons_zero,List.set_cons_succ]
 refine wpAnyH_take (i:=6) (v:= ?_) rfl (by kernel_rfl) (by kernel_rfl) (by kernel_rfl) (fun _ _ _ h=>hP _ _ _ _ (by rfl) h) (Or.inl ⟨by rfl,?_⟩) hHeld ?_
 rotate_left
 ·(intro w hSw;(try dsimp only at hSw);go_simp;try with_reducible rfl)
 simp only [List.getElem_toArray,List.getElem_cons_zero,List.getElem_cons_succ,Act.put,List.setIfInBounds_toArray,List.set_cons_zero,List.set_cons_succ]
 refine wpAnyH_take (i:=7) (v:= ?_) rfl (by kernel_rfl) (by kernel_rfl) (by kernel_rfl) (fun _ _ _ h=>hP _ _ _ _ (by rfl) h) (Or.inl ⟨by rfl,?_⟩) hHeld ?_
 rotate_left
 ·(intro w hSw;(try dsimp only at hSw);go_simp;try with_reducible rfl)
 simp only [List.getElem_toArray,List.getElem_cons_zero,List.getElem_cons_succ,Act.put,List.setIfInBounds_toArray,List.set_cons_zero,List.set_cons_succ]
 refine wpAnyH_take (i:=8) (v:= ?_) rfl (by kernel_rfl) (by kernel_rfl) (by kernel_rfl) (fun _ _ _ h=>hP _ _ _ _ (by rfl) h) (Or.inl ⟨by rfl,?_⟩) hHeld ?_
 rotate_left
 ·(intro w hSw;(try dsimp only at hSw);go_simp;try with_reducible rfl)
 simp only [List.getElem_toArray,List.getElem_cons_zero,List.getElem_cons_succ,Act.put,List.setIfInBounds_toArray,List.set_cons_zero,List.set_cons_succ]
 have L0:=Lib.hid (H5.out.drew)
 have T0:=Lib.hid ((Step.refl (fun x=>x<wr.heap.size∧x≠rb) wr).drew)
 have hzw:wr.heap.size≤wr.drew.heap.size:=Nat.le_refl _
 generalize wr.drew=v0 at L0 T0 hzw hHeld ⊢
 clear c
 refine wpAnyH_ready (rs:=[4,11]) (by kernel_rfl) (by simp) ?_
 refine AllReadyH.cons rfl (fun K hK=> ?_) (AllReadyH.cons rfl (fun K hK=> ?_) AllReadyH.nil)
 ·go_simp
  refine(ldtext _ lb rb gb _ L0.out).mono ?_
  rintro e v1 ⟨name,s1,rfl,g0,k0,hl,hs,-⟩
  have L1:=Lib.hid hl
  have T1:=Lib.hid (T0.out.trans (hs.imp (fun x hx=>hx.2)))
  refine hK.out _ _ ((hs.cell (p:=⟨lb,0,none⟩) hne).trans hHeld) (fun hHeld=> ?_)
  replace g0:=Lib.hid g0
  clear hK K hl hs
  try simp only [List.getElem_toArray,List.getElem_cons_zero,List.getElem_cons_succ,Act.put,List.setIfInBounds_toArray,List.set_cons_zero,List.set_cons_succ]
  refine wpAnyH_ready (rs:=[9,11]) (by kernel_rfl) (by simp) ?_
  refine AllReadyH.cons rfl (fun K hK=> ?_) (AllReadyH.cons rfl (fun K hK=> ?_) AllReadyH.nil)
  ·go_simp
   refine(ldnum _ lb rb gb _ 1 L1.out (by decide)).mono ?_
   rintro e v2 ⟨flags,s2,rfl,g1,k1,hl,hs,-⟩
   have L2:=Lib.hid hl
   have T2:=Lib.hid (T1.out.trans (hs.imp (fun x hx=>hx.2)))
   refine hK.out _ _ ((hs.cell (p:=⟨lb,0,none⟩) hne).trans hHeld) (fun hHeld=> ?_)
   replace g1:=Lib.hid g1
   clear hK K hl hs
   try simp only [List.getElem_toArray,List.getElem_cons_zero,List.getElem_cons_succ,Act.put,List.setIfInBounds_toArray,List.set_cons_zero,List.set_cons_succ]
   refine wpAnyH_take (i:=10) (v:= ?_) rfl (by kernel_rfl) (by kernel_rfl) (by kernel_rfl) (fun _ _ _ h=>hP _ _ _ _ (by rfl) h) (Or.inl ⟨by rfl,?_⟩) hHeld ?_
   rotate_left
   ·(intro w hSw;(try dsimp only at hSw);go_simp;try with_reducible rfl)
   simp only [List.getElem_toArray,List.getElem_cons_zero,List.getElem_cons_succ,Act.put,List.setIfInBounds_toArray,List.set_cons_zero,List.set_cons_succ]
   refine wpAnyH_ready (rs:=[11]) (by kernel_rfl) (by simp) ?_
   refine AllReadyH.cons rfl (fun K hK=> ?_) AllReadyH.nil
   go_simp
   have L3:=Lib.hid (L2.out.alloc (.cells #[.string ⟨#[]⟩,.int .i64 0,.slice none 0 0,.slice none 0 0,.slice none 0 0,.slice none 0 0,.slice none 0 0,.slice none 0 0,.int .i64 0,.slice none 0 0,.slice none 0 0,.slice none 0 0,.slice none 0 0,.slice none 0 0,.int .i64 0] 40 (0,0)))
   have T3:=Lib.hid (T2.out.alloc (fun b hb=>by have:=hb.1;have:=T2.out.size;omega) (.cells #[.string ⟨#[]⟩,.int .i64 0,.slice none 0 0,.slice none 0 0,.slice none 0 0,.slice none 0 0,.slice none 0 0,.slice none 0 0,.int .i64 0,.slice none 0 0,.slice none 0 0,.slice none 0 0,.slice none 0 0,.slice none 0 0,.int .i64 0] 40 (0,0)))
   have FA3:=Lib.hid (heap_alloc_new v2 (.cells #[.string ⟨#[]⟩,.int .i64 0,.slice none 0 0,.slice none 0 0,.slice none 0 0,.slice none 0 0,.slice none 0 0,.slice none 0 0,.int .i64 0,.slice none 0 0,.slice none 0 0,.slice none 0 0,.slice none 0 0,.slice none 0 0,.int .i64 0] 40 (0,0)))
   have hjb:wr.heap.size≤v2.heap.size:=T2.out.size
   refine hK.out _ _ ((World.cell?_alloc_lt _ _ _ (World.block_lt_of_cell? _ _ hHeld)).trans hHeld) (fun hHeld=> ?_)
   clear hK K
   try simp only [List.getElem_toArray,List.getElem_cons_zero,List.getElem_cons_succ,Act.put,List.setIfInBounds_toArray,List.set_cons_zero,List.set_cons_succ]
   generalize v2.alloc (.cells #[.string ⟨#[]⟩,.int .i64 0,.slice none 0 0,.slice none 0 0,.slice none 0 0,.slice none 0 0,.slice none 0 0,.slice none 0 0,.int .i64 0,.slice none 0 0,.slice none 0 0,.slice none 0 0,.slice none 0 0,.slice none 0 0,.int .i64 0] 40 (0,0))=v3 at *
   generalize v2.heap.size=jb at *
   refine wpAnyH_ready (rs:=[12]) (by kernel_rfl) (by simp) ?_
   refine AllReadyH.cons rfl (fun K hK=> ?_) AllReadyH.nil
   rw [if_pos (by rfl)]
   simp only [List.getElem_toArray,List.getElem_cons_succ,List.getElem_cons_zero]
   refine wp_store_row 40 (.tmp 5) (.tmp 34) rfl jb (#[.string ⟨name.toArray⟩,.int .i64 flags,.slice none 0 0,.slice none 0 0,.slice none 0 0,.slice none 0 0,.slice none 0 0,.slice none 0 0,.int .i64 0,.slice none 0 0,.slice none 0 0,.slice none 0 0,.slice none 0 0,.slice none 0 0,.int .i64 0]) rfl rfl _ _ FA3.out (by kernel_rfl) rfl (by simp [Value.oneCell']) ?_
   have FA4:=Lib.hid (setRow_heap _ jb _ (#[.string ⟨name.toArray⟩,.int .i64 flags,.slice none 0 0,.slice none 0 0,.slice none 0 0,.slice none 0 0,.slice none 0 0,.slice none 0 0,.int .i64 0,.slice none 0 0,.slice none 0 0,.slice none 0 0,.slice none 0 0,.slice none 0 0,.int .i64 0]) _ _ FA3.out)
   have L4:=Lib.hid (L3.out.step (step_setRow _ jb (#[.string ⟨name.toArray⟩,.int .i64 flags,.slice none 0 0,.slice none 0 0,.slice none 0 0,.slice none 0 0,.slice none 0 0,.slice none 0 0,.int .i64 0,.slice none 0 0,.slice none 0 0,.slice none 0 0,.slice none 0 0,.slice none 0 0,.int .i64 0])) (by show lb≠jb;omega) (by show rb≠jb;omega) (by show gb≠jb;omega))
   have T4:=Lib.hid (T3.out.trans ((step_setRow _ jb (#[.string ⟨name.toArray⟩,.int .i64 flags,.slice none 0 0,.slice none 0 0,.slice none 0 0,.slice none 0 0,.slice none 0 0,.slice none 0 0,.int .i64 0,.slice none 0 0,.slice none 0 0,.slice none 0 0,.slice none 0 0,.slice none 0 0,.int .i64 0])).imp (fun x hx=>by have:=hx.1;show x≠jb;omega)))
   refine hK.out _ _ ((cell_setRow_other _ _ _ _ (by show lb≠jb;omega)).trans hHeld) (fun hHeld=> ?_)
   clear hK K
   try simp only [List.getElem_toArray,List.getElem_cons_zero,List.getElem_cons_succ,Act.put,List.setIfInBounds_toArray,List.set_cons_zero,List.set_cons_succ]
   refine wpAnyH_done (by kernel_rfl) ?_ _
   exact HR.out _ _ jb name flags s1 s2 ⟨by kernel_rfl,rfl,(by kernel_rfl),(by kernel_rfl),(by kernel_rfl),trivial⟩ g0.out k0 g1.out k1 L4.out FA4.out T4.out hjb
  ·go_simp
   have L2:=Lib.hid (L1.out.alloc (.cells #[.string ⟨#[]⟩,.int .i64 0,.slice none 0 0,.slice none 0 0,.slice none 0 0,.slice none 0 0,.slice none 0 0,.slice none 0 0,.int .i64 0,.slice none 0 0,.slice none 0 0,.slice none 0 0,.slice none 0 0,.slice none 0 0,.int .i64 0] 40 (0,0)))
   have T2:=Lib.hid (T1.out.alloc (fun b hb=>by have:=hb.1;have:=T1.out.size;omega) (.cells #[.string ⟨#[]⟩,.int .i64 0,.slice none 0 0,.slice none 0 0,.slice none 0 0,.slice none 0 0,.slice none 0 0,.slice none 0 0,.int .i64 0,.slice none 0 0,.slice none 0 0,.slice none 0 0,.slice none 0 0,.slice none 0 0,.int .i64 0] 40 (0,0)))
   have FA2:=Lib.hid (heap_alloc_new v1 (.cells #[.string ⟨#[]⟩,.int .i64 0,.slice none 0 0,.slice none 0 0,.slice none 0 0,.slice none 0 0,.slice none 0 0,.slice none 0 0,.int .i64 0,.slice none 0 0,.slice none 0 0,.slice none 0 0,.slice none 0 0,.slice none 0 0,.int .i64 0] 40 (0,0)))
   have hjb:wr.heap.size≤v1.heap.size:=T1.out.size
   refine hK.out _ _ ((World.cell?_alloc_lt _ _ _ (World.block_lt_of_cell? _ _ hHeld)).trans hHeld) (fun hHeld=> ?_)
   clear hK K
   try simp only [List.getElem_toArray,List.getElem_cons_zero,List.getElem_cons_succ,Act.put,List.setIfInBounds_toArray,List.set_cons_zero,List.set_cons_succ]
   generalize v1.alloc (.cells #[.string ⟨#[]⟩,.int .i64 0,.slice none 0 0,.slice none 0 0,.slice none 0 0,.slice none 0 0,.slice none 0 0,.slice none 0 0,.int .i64 0,.slice none 0 0,.slice none 0 0,.slice none 0 0,.slice none 0 0,.slice none 0 0,.int .i64 0] 40 (0,0))=v2 at *
   generalize v1.heap.size=jb at *
   refine wpAnyH_ready (rs:=[9]) (by kernel_rfl) (by simp) ?_
   refine AllReadyH.cons rfl (fun K hK=> ?_) AllReadyH.nil
   go_simp
   refine(ldnum _ lb rb gb _ 1 L2.out (by decide)).mono ?_
   rintro e v3 ⟨flags,s2,rfl,g1,k1,hl,hs,-⟩
   have L3:=Lib.hid hl
   have T3:=Lib.hid (T2.out.trans (hs.imp (fun x hx=>hx.2)))
   have FA3:=Lib.hid ((hs.block jb (by omega)).trans FA2.out)
   refine hK.out _ _ ((hs.cell (p:=⟨lb,0,none⟩) hne).trans hHeld) (fun hHeld=> ?_)
   replace g1:=Lib.hid g1
   clear hK K hl hs
   try simp only [List.getElem_toArray,List.getElem_cons_zero,List.getElem_cons_succ,Act.put,List.setIfInBounds_toArray,List.set_cons_zero,List.set_cons_succ]
   refine wpAnyH_take (i:=10) (v:= ?_) rfl (by kernel_rfl) (by kernel_rfl) (by kernel_rfl) (fun _ _ _ h=>hP _ _ _ _ (by rfl) h) (Or.inl ⟨by rfl,?_⟩) hHeld ?_
   rotate_left
   ·(intro w hSw;(try dsimp only at hSw);go_simp;try with_reducible rfl)
   simp only [List.getElem_toArray,List.getElem_cons_zero,List.getElem_cons_succ,Act.put,List.setIfInBounds_toArray,List.set_cons_zero,List.set_cons_succ]
   refine wpAnyH_ready (rs:=[12]) (by kernel_rfl) (by simp) ?_
   refine AllReadyH.cons rfl (fun K hK=> ?_) AllReadyH.nil
   rw [if_pos (by rfl)]
   simp only [List.getElem_toArray,List.getElem_cons_succ,List.getElem_cons_zero]
   refine wp_store_row 40 (.tmp 5) (.tmp 34) rfl jb (#[.string ⟨name.toArray⟩,.int .i64 flags,.slice none 0 0,.slice none 0 0,.slice none 0 0,.slice none 0 0,.slice none 0 0,.slice none 0 0,.int .i64 0,.slice none 0 0,.slice none 0 0,.slice none 0 0,.slice none 0 0,.slice none 0 0,.int .i64 0]) rfl rfl _ _ FA3.out (by kernel_rfl) rfl (by simp [Value.oneCell']) ?_
   have FA4:=Lib.hid (setRow_heap _ jb _ (#[.string ⟨name.toArray⟩,.int .i64 flags,.slice none 0 0,.slice none 0 0,.slice none 0 0,.slice none 0 0,.slice none 0 0,.slice none 0 0,.int .i64 0,.slice none 0 0,.slice none 0 0,.slice none 0 0,.slice none 0 0,.slice none 0 0,.int .i64 0]) _ _ FA3.out)
   have L4:=Lib.hid (L3.out.step (step_setRow _ jb (#[.string ⟨name.toArray⟩,.int .i64 flags,.slice none 0 0,.slice none 0 0,.slice none 0 0,.slice none 0 0,.slice none 0 0,.slice none 0 0,.int .i64 0,.slice none 0 0,.slice none 0 0,.slice none 0 0,.slice none 0 0,.slice none 0 0,.int .i64 0])) (by show lb≠jb;omega) (by show rb≠jb;omega) (by show gb≠jb;omega))
   have T4:=Lib.hid (T3.out.trans ((step_setRow _ jb (#[.string ⟨name.toArray⟩,.int .i64 flags,.slice none 0 0,.slice none 0 0,.slice none 0 0,.slice none 0 0,.slice none 0 0,.slice none 0 0,.int .i64 0,.slice none 0 0,.slice none 0 0,.slice none 0 0,.slice none 0 0,.slice none 0 0,.int .i64 0])).imp (fun x hx=>by have:=hx.1;show x≠jb;omega)))
   refine hK.out _ _ ((cell_setRow_other _ _ _ _ (by show lb≠jb;omega)).trans hHeld) (fun hHeld=> ?_)
   clear hK K
   try simp only [List.getElem_toArray,List.getElem_cons_zero,List.getElem_cons_succ,Act.put,List.setIfInBounds_toArray,List.set_cons_zero,List.set_cons_succ]
   refine wpAnyH_done (by kernel_rfl) ?_ _
   exact HR.out _ _ jb name flags s1 s2 ⟨by kernel_rfl,rfl,(by kernel_rfl),(by kernel_rfl),(by kernel_rfl),trivial⟩ g0.out k0 g1.out k1 L4.out FA4.out T4.out hjb
 ·go_simp
  have L1:=Lib.hid (L0.out.alloc (.cells #[.string ⟨#[]⟩,.int .i64 0,.slice none 0 0,.slice none 0 0,.slice none 0 0,.slice none 0 0,.slice none 0 0,.slice none 0 0,.int .i64 0,.slice none 0 0,.slice none 0 0,.slice none 0 0,.slice none 0 0,.slice none 0 0,.int .i64 0] 40 (0,0)))
  have T1:=Lib.hid (T0.out.alloc (fun b hb=>by have:=hb.1;have:=T0.out.size;omega) (.cells #[.string ⟨#[]⟩,.int .i64 0,.slice none 0 0,.slice none 0 0,.slice none 0 0,.slice none 0 0,.slice none 0 0,.slice none 0 0,.int .i64 0,.slice none 0 0,.slice none 0 0,.slice none 0 0,.slice none 0 0,.slice none 0 0,.int .i64 0] 40 (0,0)))
  have FA1:=Lib.hid (heap_alloc_new v0 (.cells #[.string ⟨#[]⟩,.int .i64 0,.slice none 0 0,.slice none 0 0,.slice none 0 0,.slice none 0 0,.slice none 0 0,.slice none 0 0,.int .i64 0,.slice none 0 0,.slice none 0 0,.slice none 0 0,.slice none 0 0,.slice none 0 0,.int .i64 0] 40 (0,0)))
  have hjb:wr.heap.size≤v0.heap.size:=T0.out.size
  refine hK.out _ _ ((World.cell?_alloc_lt _ _ _ (World.block_lt_of_cell? _ _ hHeld)).trans hHeld) (fun hHeld=> ?_)
  clear hK K
  try simp only [List.getElem_toArray,List.getElem_cons_zero,List.getElem_cons_succ,Act.put,List.setIfInBounds_toArray,List.set_cons_zero,List.set_cons_succ]
  generalize v0.alloc (.cells #[.string ⟨#[]⟩,.int .i64 0,.slice none 0 0,.slice none 0 0,.slice none 0 0,.slice none 0 0,.slice none 0 0,.slice none 0 0,.int .i64 0,.slice none 0 0,.slice none 0 0,.slice none 0 0,.slice none 0 0,.slice none 0 0,.int .i64 0] 40 (0,0))=v1 at *
  generalize v0.heap.size=jb at *
  refine wpAnyH_ready (rs:=[4]) (by kernel_rfl) (by simp) ?_
  refine AllReadyH.cons rfl (fun K hK=> ?_) AllReadyH.nil
  go_simp
  refine(ldtext _ lb rb gb _ L1.out).mono ?_
  rintro e v2 ⟨name,s1,rfl,g0,k0,hl,hs,-⟩
  have L2:=Lib.hid hl
  have T2:=Lib.hid (T1.out.trans (hs.imp (fun x hx=>hx.2)))
  have FA2:=Lib.hid ((hs.block jb (by omega)).trans FA1.out)
  refine hK.out _ _ ((hs.cell (p:=⟨lb,0,none⟩) hne).trans hHeld) (fun hHeld=> ?_)
  replace g0:=Lib.hid g0
  clear hK K hl hs
  try simp only [List.getElem_toArray,List.getElem_cons_zero,List.getElem_cons_succ,Act.put,List.setIfInBounds_toArray,List.set_cons_zero,List.set_cons_succ]
  refine wpAnyH_ready (rs:=[9]) (by kernel_rfl) (by simp) ?_
  refine AllReadyH.cons rfl (fun K hK=> ?_) AllReadyH.nil
  go_simp
  refine(ldnum _ lb rb gb _ 1 L2.out (by decide)).mono ?_
  rintro e v3 ⟨flags,s2,rfl,g1,k1,hl,hs,-⟩
  have L3:=Lib.hid hl
  have T3:=Lib.hid (T2.out.trans (hs.imp (fun x hx=>hx.2)))
  have FA3:=Lib.hid ((hs.block jb (by omega)).trans FA2.out)
  refine hK.out _ _ ((hs.cell (p:=⟨lb,0,none⟩) hne).trans hHeld) (fun hHeld=> ?_)
  replace g1:=Lib.hid g1
  clear hK K hl hs
  try simp only [List.getElem_toArray,List.getElem_cons_zero,List.getElem_cons_succ,Act.put,List.setIfInBounds_toArray,List.set_cons_zero,List.set_cons_succ]
  refine wpAnyH_take (i:=10) (v:= ?_) rfl (by kernel_rfl) (by kernel_rfl) (by kernel_rfl) (fun _ _ _ h=>hP _ _ _ _ (by rfl) h) (Or.inl ⟨by rfl,?_⟩) hHeld ?_
  rotate_left
  ·(intro w hSw;(try dsimp only at hSw);go_simp;try with_reducible rfl)
  simp only [List.getElem_toArray,List.getElem_cons_zero,List.getElem_cons_succ,Act.put,List.setIfInBounds_toArray,List.set_cons_zero,List.set_cons_succ]
  refine wpAnyH_ready (rs:=[12]) (by kernel_rfl) (by simp) ?_
  refine AllReadyH.cons rfl (fun K hK=> ?_) AllReadyH.nil
  rw [if_pos (by rfl)]
  simp only [List.getElem_toArray,List.getElem_cons_succ,List.getElem_cons_zero]
  refine wp_store_row 40 (.tmp 5) (.tmp 34) rfl jb (#[.string ⟨name.toArray⟩,.int .i64 flags,.slice none 0 0,.slice none 0 0,.slice none 0 0,.slice none 0 0,.slice none 0 0,.slice none 0 0,.int .i64 0,.slice none 0 0,.slice none 0 0,.slice none 0 0,.slice none 0 0,.slice none 0 0,.int .i64 0]) rfl rfl _ _ FA3.out (by kernel_rfl) rfl (by simp [Value.oneCell']) ?_
  have FA4:=Lib.hid (setRow_heap _ jb _ (#[.string ⟨name.toArray⟩,.int .i64 flags,.slice none 0 0,.slice none 0 0,.slice none 0 0,.slice none 0 0,.slice none 0 0,.slice none 0 0,.int .i64 0,.slice none 0 0,.slice none 0 0,.slice none 0 0,.slice none 0 0,.slice none 0 0,.int .i64 0]) _ _ FA3.out)
  have L4:=Lib.hid (L3.out.step (step_setRow _ jb (#[.string ⟨name.toArray⟩,.int .i64 flags,.slice none 0 0,.slice none 0 0,.slice none 0 0,.slice none 0 0,.slice none 0 0,.slice none 0 0,.int .i64 0,.slice none 0 0,.slice none 0 0,.slice none 0 0,.slice none 0 0,.slice none 0 0,.int .i64 0])) (by show lb≠jb;omega) (by show rb≠jb;omega) (by show gb≠jb;omega))
  have T4:=Lib.hid (T3.out.trans ((step_setRow _ jb (#[.string ⟨name.toArray⟩,.int .i64 flags,.slice none 0 0,.slice none 0 0,.slice none 0 0,.slice none 0 0,.slice none 0 0,.slice none 0 0,.int .i64 0,.slice none 0 0,.slice none 0 0,.slice none 0 0,.slice none 0 0,.slice none 0 0,.int .i64 0])).imp (fun x hx=>by have:=hx.1;show x≠jb;omega)))
  refine hK.out _ _ ((cell_setRow_other _ _ _ _ (by show lb≠jb;omega)).trans hHeld) (fun hHeld=> ?_)
  clear hK K
  try simp only [List.getElem_toArray,List.getElem_cons_zero,List.getElem_cons_succ,Act.put,List.setIfInBounds_toArray,List.set_cons_zero,List.set_cons_succ]
  refine wpAnyH_done (by kernel_rfl) ?_ _
  exact HR.out _ _ jb name flags s1 s2 ⟨by kernel_rfl,rfl,(by kernel_rfl),(by kernel_rfl),(by kernel_rfl),trivial⟩ g0.out k0 g1.out k1 L4.out FA4.out T4.out hjb
end Go.Proofs.YtfchpchabdhcgaaGreat
namespace Go.Proofs.YtfchpchabdhcgaaGreat
open Go.RowKit
theorem dloop4 {Q:Exit→Act→World→Prop} (hP:∀ x a a' w,a'.defers=a.defers→Q (.panic x) a w→Q (.panic x) a' w) {a:Act} {w5:World} {z lb rb gb ib:Nat} {s:Option (List UInt8)} {name:List UInt8} {flags sh tl:Int} {y0 y1 y2 y3 y5 y6 y7 y8 y9 y10:Value} (hF:Fr [(2,.pointer (some ⟨z,0,none⟩)),(4,.pointer (some ⟨lb,0,none⟩)),(5,.pointer (some ⟨ib,0,none⟩))] a) (hL:LD lb rb gb w5 s) (hX:w5.heap[ib]? =some (imgBlock name flags ⟨y0,y1,y2,y3,.slice none 0 0,y5,y6,y7,y8,y9,y10⟩ sh tl)) (hir:ib≠rb) (hil:ib≠lb) (hig:ib≠gb) (hne:lb≠rb) (hng:lb≠gb) (hib5:ib<w5.heap.size)
  (hQ:∀ (a':Act) (w':World) (m:Nat) (xs:List (List Int)) (s1 s2:Option (List UInt8)) (v:Value),Fr [(2,.pointer (some ⟨z,0,none⟩)),(4,.pointer (some ⟨lb,0,none⟩)),(5,.pointer (some ⟨ib,0,none⟩))] a'→Got (numP 2) s m s1→okLen 2 m→xs.length=m→Got (manyP chainP m) s1 xs s2→(∀ x∈xs,(fun l=>okLen 2 l.length∧∀ x∈l,okN 2 x) x)→LD lb rb gb w' s2→w'.heap[ib]? =some (imgBlock name flags ⟨y0,y1,y2,y3,v,y5,y6,y7,y8,y9,y10⟩ sh tl)→Step (fun x=>x<w5.heap.size∧x≠rb∧x≠lb∧x≠ib) w5 w'→LB kInts (fun b=>w5.heap.size≤b∧b<w'.heap.size) w' v xs→Q .normal a' w'):(dCode Tryz.f6 8).wp Tryz.prog Q a w5:=by
 have L5:=Lib.hid hL
 have X5:=Lib.hid hX
 have HQ:=Lib.hid hQ
 have hz5:w5.heap.size≤w5.heap.size:=Nat.le_refl _
 have hlb5:=hL.lt
 have hrb5:=hL.rblt
 have hgb5:=hL.gblt
 clear hL hX hQ
 apply Fr.elim hF
 clear hF
 intro _ _
 intro V2
 intro _
 intro V4
 intro V5
 iterate 326 (intro _)
 intro hF
 obtain⟨-,-,e2,e4,e5,-⟩:=hF
 replace e2:V2=.pointer (some ⟨z,0,none⟩):=e2
 subst e2
 replace e4:V4=.pointer (some ⟨lb,0,none⟩):=e4
 subst e4
 replace e5:V5=.pointer (some ⟨ib,0,none⟩):=e5
 subst e5
 conv in dCode Tryz.f6 8=>whnf
 have c5:=L5.out.cell
 have HN:=Lib.hid (ldnum w5 lb rb gb s 2 L5.out (by decide))
 go_wp2_with fail
 refine HN.out.mono ?_
 rintro e w6 ⟨n1,t5,rfl,hg,hk,hl,hs,-⟩
 have Gn1:=Lib.hid hg
 have Kn1:=Lib.hid hk
 have L6:=Lib.hid hl
 have X6:=Lib.hid ((hs.block ib hir).trans X5.out)
 have hz6:w5.heap.size≤w6.heap.size:=Nat.le_trans hz5 hs.size
 have Q6:=Lib.hid (hs.imp (S':=fun x=>x<w5.heap.size∧x≠rb∧x≠lb∧x≠ib) (fun x hx=>hx.2.1))
 clear hg hk hl hs HN c5 X5 L5
 obtain⟨m1,rfl,hmm1⟩:=okN_idx (by decide) Kn1.out
 have hm1:m1<65536:=hmm1
 go_wp2_with fail
 refine wp_loop_n (k:=169) (m:=m1) (fun q a wr=>q≤m1∧Fr [(2,.pointer (some ⟨z,0,none⟩)),(4,.pointer (some ⟨lb,0,none⟩)),(5,.pointer (some ⟨ib,0,none⟩)),(168,.int .i64 m1),(169,.int .i64 q)] a∧∃ v,wr.heap[ib]? =some (imgBlock name flags ⟨y0,y1,y2,y3,v,y5,y6,y7,y8,y9,y10⟩ sh tl)∧LQ 38 kInts chainP (fun l=>okLen 2 l.length∧∀ x∈l,okN 2 x) lb rb gb (fun x=>x≠rb∧x≠lb∧x≠ib) w6 t5 wr v q) ?_ ?_ ?_
 ·exact fun q a w h=>⟨h.1,FrL.get h.2.1.2.2 (169,.int .i64 q) (by simp)⟩
 ·exact⟨Nat.zero_le _,⟨by kernel_rfl,rfl,(by kernel_rfl),(by kernel_rfl),(by kernel_rfl),(by kernel_rfl),(by kernel_rfl),trivial⟩,_,X6.out,.start L6.out⟩
 clear X6 L6
 intro q a wr K hq hI HK
 obtain⟨-,hF,v,hX,hlq⟩:=hI
 replace HK:=Lib.hid HK
 apply Fr.elim hF
 clear hF
 intro _ _
 intro V2
 intro _
 intro V4
 intro V5
 iterate 162 (intro _)
 intro V168
 intro V169
 iterate 162 (intro _)
 intro hF
 obtain⟨-,-,e2,e4,e5,e168,e169,-⟩:=hF
 replace e2:V2=.pointer (some ⟨z,0,none⟩):=e2
 subst e2
 replace e4:V4=.pointer (some ⟨lb,0,none⟩):=e4
 subst e4
 replace e5:V5=.pointer (some ⟨ib,0,none⟩):=e5
 subst e5
 replace e168:V168=.int .i64 m1:=e168
 subst e168
 replace e169:V169=.int .i64 q:=e169
 subst e169
 by_cases hlt:q<m1
 ·clear HQ Gn1 Kn1 Q6
  obtain⟨xs,s0,h1,h2,h3,h4,h5,h6⟩:=hlq
  obtain⟨oa,oc,rfl⟩:=h1.form
  rw [h2]at h1 hX
  have H1:=Lib.hid h1
  have H2:=Lib.hid h2
  have H3:=Lib.hid h3
  have H4:=Lib.hid h4
  have H5:=Lib.hid h5
  have H6:=Lib.hid h6
  have HX:=Lib.hid hX
  have hwr:=h6.size
  have c:=h5.cell
  clear h1 h2 h3 h4 h5 h6 hX
  have hrl:rb<wr.heap.size:=by omega
  have hll:lb<wr.heap.size:=by omega
  have hgl2:gb<wr.heap.size:=by omega
  have cI:wr.cell? ⟨ib,6,none⟩=some (.slice oa q oc):=by rw [Lib.cell_of_heap HX.out];rfl
  go_upto_region 26 with fail
  refine wp_region_phase 12 (by kernel_rfl) (by kernel_rfl) ?_
  simp only [List.take_succ_cons,List.take_zero,List.drop_succ_cons,List.drop_zero,List.take_nil,List.drop_nil]
  refine wpAny_of_held (S:=(fun w':World=>w'.cell? ⟨lb,0,none⟩=some (.pointer (some ⟨rb,0,none⟩))∧w'.cell? ⟨ib,6,none⟩=some (.slice oa q oc))) _ _ _ _ ?_
  have hHeld:(fun w':World=>w'.cell? ⟨lb,0,none⟩=some (.pointer (some ⟨rb,0,none⟩))∧w'.cell? ⟨ib,6,none⟩=some (.slice oa q oc)) wr.drew:=⟨c,cI⟩
  show wpAnyH _ _ _ _ _ _ _ _ (World.drew _)
  have L0:=Lib.hid (H5.out.drew)
  have T0:=Lib.hid ((Step.refl (fun x=>x<wr.heap.size∧x≠rb) wr).drew)
  have hz0':wr.heap.size≤wr.drew.heap.size:=Nat.le_refl _
  generalize wr.drew=v0 at L0 T0 hz0' hHeld ⊢
  clear c cI
  refine wpAnyH_take (i:=0) (v:= ?_) rfl (by kernel_rfl) (by kernel_rfl) (by kernel_rfl) (fun _ _ _ h=>hP _ _ _ _ (by rfl) h) (Or.inl ⟨by rfl,?_⟩) hHeld ?_
  rotate_left
  ·(intro w hSw;(try dsimp only at hSw);go_simp;try with_reducible rfl)
  simp only [List.getElem_toArray,List.getElem_cons_zero,List.getElem_cons_succ,Act.put,List.setIfInBounds_toArray,List.set_cons_zero,List.set_cons_succ]
  refine wpAnyH_take (i:=1) (v:= ?_) rfl (by kernel_rfl) (by kernel_rfl) (by kernel_rfl) (fun _ _ _ h=>hP _ _ _ _ (by rfl) h) (Or.inl ⟨by rfl,?_⟩) hHeld ?_
  rotate_left
  ·(intro w hSw;(try dsimp only at hSw);go_simp;try with_reducible rfl)
  simp only [List.getElem_toArray,List.getElem_cons_zero,List.getElem_cons_succ,Act.put,List.setIfInBounds_toArray,List.set_cons_zero,List.set_cons_succ]
  refine wpAnyH_take (i:=2) (v:= ?_) rfl (by kernel_rfl) (by kernel_rfl) (by kernel_rfl) (fun _ _ _ h=>hP _ _ _ _ (by rfl) h) (Or.inl ⟨by rfl,?_⟩) hHeld ?_
  rotate_left
  ·(intro w hSw;(try dsimp only at hSw);go_simp;try with_reducible rfl)
  simp only [List.getElem_toArray,List.getElem_cons_zero,List.getElem_cons_succ,Act.put,List.setIfInBounds_toArray,List.set_cons_zero,List.set_cons_succ]
  refine wpAnyH_take (i:=3) (v:= ?_) rfl (by kernel_rfl) (by kernel_rfl) (by kernel_rfl) (fun _ _ _ h=>hP _ _ _ _ (by rfl) h) (Or.inl ⟨by rfl,?_⟩) hHeld ?_
  rotate_left
  ·(intro w hSw;(try dsimp only at hSw);go_simp;try with_reducible rfl)
  simp only [List.getElem_toArray,List.getElem_cons_zero,List.getElem_cons_succ,Act.put,List.setIfInBounds_toArray,List.set_cons_zero,List.set_cons_succ]
  refine wpAnyH_take (i:=4) (v:= ?_) rfl (by kernel_rfl) (by kernel_rfl) (by kernel_rfl) (fun _ _ _ h=>hP _ _ _ _ (by rfl) h) (Or.inl ⟨by rfl,?_⟩) hHeld ?_
  rotate_left
  ·(intro w hSw;(try dsimp only at hSw);go_simp;try with_reducible rfl)
  simp only [List.getElem_toArray,List.getElem_cons_zero,List.getElem_cons_succ,Act.put,List.setIfInBounds_toArray,List.set_cons_zero,List.set_cons_succ]
  refine wpAnyH_take (i:=5) (v:= ?_) rfl (by kernel_rfl) (by kernel_rfl) (by kernel_rfl) (fun _ _ _ h=>hP _ _ _ _ (by rfl) h) (Or.inl ⟨by rfl,?_⟩) hHeld ?_
  rotate_left
  ·(intro w hSw;(try dsimp only at hSw);go_simp;try with_reducible rfl)
  simp only [List.getElem_toArray,List.getElem_cons_zero,List.getElem_cons_succ,Act.put,List.setIfInBounds_toArray,List.set_cons_zero,List.set_cons_succ]
  refine wpAnyH_take (i:=6) (v:= ?_) rfl (by kernel_rfl) (by kernel_rfl) (by kernel_rfl) (fun _ _ _ h=>hP _ _ _ _ (by rfl) h) (Or.inl ⟨by rfl,?_⟩) hHeld ?_
  rotate_left
  ·(intro w hSw;(try dsimp only at hSw);go_simp;try with_reducible rfl)
  simp only [List.getElem_toArray,List.getElem_cons_zero,List.getElem_cons_succ,Act.put,List.setIfInBounds_toArray,List.set_cons_zero,List.set_cons_succ]
  refine wpAnyH_take (i:=7) (v:= ?_) rfl (by kernel_rfl) (by kernel_rfl) (by kernel_rfl) (fun _ _ _ h=>hP _ _ _ _ (by rfl) h) (Or.inl ⟨by rfl,?_⟩) hHeld ?_
  rotate_left
  ·(intro w hSw;(try dsimp only at hSw);go_simp;try with_reducible rfl)
  simp only [List.getElem_toArray,List.getElem_cons_zero,List.getElem_cons_succ,Act.put,List.setIfInBounds_toArray,List.set_cons_zero,List.set_cons_succ]
  refine wpAnyH_ready (rs:=[8]) (by kernel_rfl) (by simp) ?_
  refine AllReadyH.cons rfl (fun K hK=> ?_) AllReadyH.nil
  go_simp
  refine(ldnum _ lb rb gb _ 2 L0.out (by decide)).mono ?_
  rintro e v1 ⟨n,s1,rfl,g1,k1,hl,hs,-⟩
  have hz1:=hs.size
  have L1:=Lib.hid hl
  have T1:=Lib.hid (T0.out.trans (hs.imp (fun x hx=>hx.2)))
  have g1:=Lib.hid g1
  refine hK.out _ _ (⟨(hs.cell (p:=⟨lb,0,none⟩) hne).trans hHeld.1,(hs.cell (p:=⟨ib,6,none⟩) hir).trans hHeld.2⟩) (fun hHeld=> ?_)
  clear hK K hl hs
  try simp only [List.getElem_toArray,List.getElem_cons_zero,List.getElem_cons_succ,Act.put,List.setIfInBounds_toArray,List.set_cons_zero,List.set_cons_succ]
  obtain⟨m,rfl,hmm⟩:=okN_idx (by decide) k1
  have hm:m<65536:=hmm
  refine wpAnyH_ready (rs:=[9]) (by kernel_rfl) (by simp) ?_
  refine AllReadyH.cons rfl (fun K hK=> ?_) AllReadyH.nil
  go_simp
  refine(ldnums _ lb rb gb _ m 2 L1.out (by decide) (by omega)).mono ?_
  rintro e v2 ⟨ya1,rfl,hq⟩
  obtain⟨a1,s2,Za1,k2,g2,hl,hs,HBk⟩:=LQ.done v1.heap.size (Nat.le_refl _) hq
  clear hq
  replace Za1:=Lib.hid Za1
  replace HBk:=Lib.hid HBk
  obtain⟨ya,yc,rfl⟩:=HBk.out.form
  have hz2:=hs.size
  have L2:=Lib.hid hl
  have T2:=Lib.hid (T1.out.trans (hs.imp (fun x hx=>⟨by have:=hx.1;omega,hx.2⟩)))
  have g2:=Lib.hid g2
  refine hK.out _ _ (⟨(hs.cell (p:=⟨lb,0,none⟩) ⟨by show lb<_;omega,hne⟩).trans hHeld.1,(hs.cell (p:=⟨ib,6,none⟩) ⟨by show ib<_;omega,hir⟩).trans hHeld.2⟩) (fun hHeld=> ?_)
  clear hK K hl hs
  try simp only [List.getElem_toArray,List.getElem_cons_zero,List.getElem_cons_succ,Act.put,List.setIfInBounds_toArray,List.set_cons_zero,List.set_cons_succ]
  have XI:=Lib.hid ((T2.out.block ib ⟨by omega,hir⟩).trans HX.out)
  refine wpAnyH_ready (rs:=[10]) (by kernel_rfl) (by simp) ?_
  refine AllReadyH.cons rfl (fun K hK=> ?_) AllReadyH.nil
  go_simp
  have hnz:v2.heap.size<(v2.alloc (.cells #[.slice ya a1.length yc] 38 (0,0))).heap.size:=by simp
  have O0:=Lib.hid (H1.out.step T2.out (fun y hy1 hy=>⟨hy1,fun e=>hy (by rw [e];show rb<w6.heap.size;omega)⟩))
  have OA:=Lib.hid (O0.out.alloc (.cells #[.slice ya a1.length yc] 38 (0,0)))
  have hown:=H1.out.lt
  have TA:=Lib.hid (T2.out.alloc (fun b hb=>by have:=hb.1;omega) (.cells #[.slice ya a1.length yc] 38 (0,0)))
  have LA:=Lib.hid (L2.out.alloc (.cells #[.slice ya a1.length yc] 38 (0,0)))
  have XA:=Lib.hid (heap_alloc_old v2 (.cells #[.slice ya a1.length yc] 38 (0,0)) (r:=ib) (by omega) |>.trans XI.out)
  have NA:=Lib.hid (heap_alloc_new v2 (.cells #[.slice ya a1.length yc] 38 (0,0)))
  have HRow:Hid (kInts.R (fun b=>b<(v2.alloc (.cells #[.slice ya a1.length yc] 38 (0,0))).heap.size∧¬ b<w6.heap.size∧(Value.slice oa q oc).ownBlock≠some b) (v2.alloc (.cells #[.slice ya a1.length yc] 38 (0,0))) a1 [.slice ya a1.length yc]):=Lib.hid ⟨_,rfl,(HBk.out.keeps (fun b hb=>by have h1:=hb.1;have h2:=hb.2;exact heap_alloc_old _ _ (by omega))).imp (fun b hb=>⟨by have:=hb.2;omega,by have:=hb.1;omega,fun e=>by have:=(hown b e).2;have:=hb.1;omega⟩)⟩
  have hk:(fun l=>okLen 2 l.length∧∀ x∈l,okN 2 x) a1:=⟨by rw [okLen,Za1.out];exact hmm,k2⟩
  have HOne:∀ u∈([.slice ya a1.length yc]:List Value),u.oneCell'=true:=by
   intro u hu
   simp only [List.mem_cons,List.not_mem_nil,or_false]at hu
   rcases hu with rfl<;>rfl
  replace HOne:=Lib.hid HOne
  refine hK.out _ _ ⟨(World.cell?_alloc_lt _ _ _ (World.block_lt_of_cell? _ _ hHeld.1)).trans hHeld.1,(World.cell?_alloc_lt _ _ _ (World.block_lt_of_cell? _ _ hHeld.2)).trans hHeld.2⟩ (fun hHeld=> ?_)
  clear hK K
  try simp only [List.getElem_toArray,List.getElem_cons_zero,List.getElem_cons_succ,Act.put,List.setIfInBounds_toArray,List.set_cons_zero,List.set_cons_succ]
  refine wpAnyH_ready (rs:=[11]) (by kernel_rfl) (by simp) ?_
  refine AllReadyH.cons rfl (fun K hK=> ?_) AllReadyH.nil
  rw [if_pos (by rfl)]
  simp only [List.getElem_toArray,List.getElem_cons_succ,List.getElem_cons_zero]
  refine wp_appendK (K:=kInts) (v:=.slice oa q oc) (e:=38) (B:=w6.heap.size) (E:=(·<w6.heap.size)) 30 (.slice none 0 0) 24 Tryz.underlying30 info_ints rfl (by decide) (.tmp 173) (.tmp 181) rfl q H2.out rfl OA.out (fun b hb=>by have hb:b<w6.heap.size:=hb;omega) v2.heap.size (a1) [.slice ya a1.length yc] rfl (row_of NA.out) HOne.out HRow.out (by rw [H2.out];omega) (by rw [H2.out];omega) (by omega) ?_
  rintro g c2 w9 ho9 hs9 hg9-
  have hno:=OA.out.notE
  have S9:Step (fun x=>x<v2.heap.size∧(x<w6.heap.size∨x=ib∨x=lb∨x=rb∨x=gb)) (v2.alloc (.cells #[.slice ya a1.length yc] 38 (0,0))) w9:=hs9.imp (fun x hx=>⟨by omega,fun e=>hno x e (by show x<w6.heap.size;omega)⟩)
  have X9:=Lib.hid ((S9.block ib ⟨by omega,by omega⟩).trans XA.out)
  have L9:=Lib.hid ((LA.out.step S9 ⟨by omega,by omega⟩ ⟨by omega,by omega⟩ ⟨by omega,by omega⟩).step (setCell_step w9 ib 6 (.slice (some ⟨g,0,none⟩) (q+1) c2)) (by show lb≠ib;omega) (by show rb≠ib;omega) (by show gb≠ib;omega))
  have Hfin:Hid (LQ 38 kInts chainP (fun l=>okLen 2 l.length∧∀ x∈l,okN 2 x) lb rb gb (fun x=>x≠rb∧x≠lb∧x≠ib) w6 t5 (w9.setCell ⟨ib,6,none⟩ (.slice (some ⟨g,0,none⟩) (q+1) c2)) (.slice (some ⟨g,0,none⟩) (q+1) c2) (q+1)):=Lib.hid (LQ.next H2.out H3.out H4.out H6.out (g1.out.bind g2.out) hk ((TA.out.imp (fun x hx=>⟨by have:=hx.1;omega,hx.2.1⟩)).trans ((S9.imp (fun x hx=>⟨by have:=hx.1;omega,Or.inl hx.1⟩)).trans ((setCell_step w9 ib 6 _).imp (fun x hx=>hx.2.2.2)))) L9.out (ho9.step (setCell_step w9 ib 6 _) (fun b _ hb e=>hb (by rw [e];show ib<w6.heap.size;omega))))
  have X10:=Lib.hid (setCell_row (k:=6) (.slice (some ⟨g,0,none⟩) (q+1) c2) X9.out)
  refine hK.out _ _ ⟨(S9.cell (p:=⟨lb,0,none⟩) ⟨by show lb<_;omega,Or.inr (Or.inr (Or.inl rfl))⟩).trans hHeld.1,(S9.cell (p:=⟨ib,6,none⟩) ⟨by show ib<_;omega,Or.inr (Or.inl rfl)⟩).trans hHeld.2⟩ (fun hHeld=> ?_)
  clear hK K
  try simp only [List.getElem_toArray,List.getElem_cons_zero,List.getElem_cons_succ,Act.put,List.setIfInBounds_toArray,List.set_cons_zero,List.set_cons_succ]
  refine wpAnyH_done (by kernel_rfl) ?_ _
  simp only [phaseQ]
  clear hHeld ho9 hs9 hg9 S9 hno
  have cI:w9.cell? ⟨ib,6,none⟩=some (.slice oa q oc):=by rw [Lib.cell_of_heap X9.out];rfl
  have fI:w9.frozen? ⟨ib,6,none⟩=false:=Lib.frozen_of_heap X9.out 6
  go_wp2_with fail
  exact HK.out _ _ hlt ⟨by omega,⟨by kernel_rfl,rfl,(by kernel_rfl),(by kernel_rfl),(by kernel_rfl),(by kernel_rfl),(by show Value.int .i64 _=_;go_num),trivial⟩,_,X10.out,Hfin.out⟩
 ·obtain⟨xs,s2,c1,c2,c3,c4,c5,c6⟩:=LQ.done w5.heap.size hz6 hlq
  obtain rfl:m1=q:=by omega
  clear HK hlq
  have HE:=Lib.hid (HQ.out (m:=m1) (xs:=xs) (s1:=t5) (s2:=s2) (v:=v))
  replace c3:=Lib.hid c3
  replace c4:=Lib.hid c4
  replace hX:=Lib.hid hX
  replace c5:=Lib.hid c5
  replace c6:=Lib.hid c6
  replace c2:=Lib.hid c2
  replace hmm1:=Lib.hid hmm1
  clear HQ
  go_wp2_with fail
  exact HE.out _ _ ⟨by kernel_rfl,rfl,(by kernel_rfl),(by kernel_rfl),(by kernel_rfl),trivial⟩ Gn1.out hmm1.out c1 c3.out c2.out c4.out hX.out (Q6.out.trans (c5.out.imp (S':=fun x=>x<w5.heap.size∧x≠rb∧x≠lb∧x≠ib) (fun x hx=>⟨Nat.lt_of_lt_of_le hx.1 Q6.out.size,hx.2⟩))) c6.out
end Go.Proofs.YtfchpchabdhcgaaGreat
namespace Go.Proofs.YtfchpchabdhcgaaGreat
open Go.RowKit
theorem dloop5 {Q:Exit→Act→World→Prop} (hP:∀ x a a' w,a'.defers=a.defers→Q (.panic x) a w→Q (.panic x) a' w) {a:Act} {w5:World} {z lb rb gb ib:Nat} {s:Option (List UInt8)} {name:List UInt8} {flags sh tl:Int} {y0 y1 y2 y3 y4 y6 y7 y8 y9 y10:Value} (hF:Fr [(2,.pointer (some ⟨z,0,none⟩)),(4,.pointer (some ⟨lb,0,none⟩)),(5,.pointer (some ⟨ib,0,none⟩))] a) (hL:LD lb rb gb w5 s) (hX:w5.heap[ib]? =some (imgBlock name flags ⟨y0,y1,y2,y3,y4,.slice none 0 0,y6,y7,y8,y9,y10⟩ sh tl)) (hir:ib≠rb) (hil:ib≠lb) (hig:ib≠gb) (hne:lb≠rb) (hng:lb≠gb) (hib5:ib<w5.heap.size)
  (hQ:∀ (a':Act) (w':World) (m:Nat) (xs:List Int) (s1 s2:Option (List UInt8)) (v:Value),Fr [(2,.pointer (some ⟨z,0,none⟩)),(4,.pointer (some ⟨lb,0,none⟩)),(5,.pointer (some ⟨ib,0,none⟩))] a'→Got (numP 1) s m s1→okLen 1 m→xs.length=m→Got (manyP wordP m) s1 xs s2→(∀ x∈xs,(fun x=>0≤x∧x<18446744073709551616) x)→LD lb rb gb w' s2→w'.heap[ib]? =some (imgBlock name flags ⟨y0,y1,y2,y3,y4,v,y6,y7,y8,y9,y10⟩ sh tl)→Step (fun x=>x<w5.heap.size∧x≠rb∧x≠lb∧x≠ib) w5 w'→LB kWord (fun b=>w5.heap.size≤b∧b<w'.heap.size) w' v xs→Q .normal a' w'):(dCode Tryz.f6 10).wp Tryz.prog Q a w5:=by
 have L5:=Lib.hid hL
 have X5:=Lib.hid hX
 have HQ:=Lib.hid hQ
 have hz5:w5.heap.size≤w5.heap.size:=Nat.le_refl _
 have hlb5:=hL.lt
 have hrb5:=hL.rblt
 have hgb5:=hL.gblt
 clear hL hX hQ
 apply Fr.elim hF
 clear hF
 intro _ _
 intro V2
 intro _
 intro V4
 intro V5
 iterate 326 (intro _)
 intro hF
 obtain⟨-,-,e2,e4,e5,-⟩:=hF
 replace e2:V2=.pointer (some ⟨z,0,none⟩):=e2
 subst e2
 replace e4:V4=.pointer (some ⟨lb,0,none⟩):=e4
 subst e4
 replace e5:V5=.pointer (some ⟨ib,0,none⟩):=e5
 subst e5
 conv in dCode Tryz.f6 10=>whnf
 have c5:=L5.out.cell
 have HN:=Lib.hid (ldnum w5 lb rb gb s 1 L5.out (by decide))
 go_wp2_with fail
 refine HN.out.mono ?_
 rintro e w6 ⟨n1,t5,rfl,hg,hk,hl,hs,-⟩
 have Gn1:=Lib.hid hg
 have Kn1:=Lib.hid hk
 have L6:=Lib.hid hl
 have X6:=Lib.hid ((hs.block ib hir).trans X5.out)
 have hz6:w5.heap.size≤w6.heap.size:=Nat.le_trans hz5 hs.size
 have Q6:=Lib.hid (hs.imp (S':=fun x=>x<w5.heap.size∧x≠rb∧x≠lb∧x≠ib) (fun x hx=>hx.2.1))
 clear hg hk hl hs HN c5 X5 L5
 obtain⟨m1,rfl,hmm1⟩:=okN_idx (by decide) Kn1.out
 have hm1:m1<256:=hmm1
 go_wp2_with fail
 refine wp_loop_n (k:=199) (m:=m1) (fun q a wr=>q≤m1∧Fr [(2,.pointer (some ⟨z,0,none⟩)),(4,.pointer (some ⟨lb,0,none⟩)),(5,.pointer (some ⟨ib,0,none⟩)),(198,.int .i64 m1),(199,.int .i64 q)] a∧∃ v,wr.heap[ib]? =some (imgBlock name flags ⟨y0,y1,y2,y3,y4,v,y6,y7,y8,y9,y10⟩ sh tl)∧LQ 74 kWord wordP (fun x=>0≤x∧x<18446744073709551616) lb rb gb (fun x=>x≠rb∧x≠lb∧x≠ib) w6 t5 wr v q) ?_ ?_ ?_
 ·exact fun q a w h=>⟨h.1,FrL.get h.2.1.2.2 (199,.int .i64 q) (by simp)⟩
 ·exact⟨Nat.zero_le _,⟨by kernel_rfl,rfl,(by kernel_rfl),(by kernel_rfl),(by kernel_rfl),(by kernel_rfl),(by kernel_rfl),trivial⟩,_,X6.out,.start L6.out⟩
 clear X6 L6
 intro q a wr K hq hI HK
 obtain⟨-,hF,v,hX,hlq⟩:=hI
 replace HK:=Lib.hid HK
 apply Fr.elim hF
 clear hF
 intro _ _
 intro V2
 intro _
 intro V4
 intro V5
 iterate 192 (intro _)
 intro V198
 intro V199
 iterate 132 (intro _)
 intro hF
 obtain⟨-,-,e2,e4,e5,e198,e199,-⟩:=hF
 replace e2:V2=.pointer (some ⟨z,0,none⟩):=e2
 subst e2
 replace e4:V4=.pointer (some ⟨lb,0,none⟩):=e4
 subst e4
 replace e5:V5=.pointer (some ⟨ib,0,none⟩):=e5
 subst e5
 replace e198:V198=.int .i64 m1:=e198
 subst e198
 replace e199:V199=.int .i64 q:=e199
 subst e199
 by_cases hlt:q<m1
 ·clear HQ Gn1 Kn1 Q6
  obtain⟨xs,s0,h1,h2,h3,h4,h5,h6⟩:=hlq
  obtain⟨oa,oc,rfl⟩:=h1.form
  rw [h2]at h1 hX
  have H1:=Lib.hid h1
  have H2:=Lib.hid h2
  have H3:=Lib.hid h3
  have H4:=Lib.hid h4
  have H5:=Lib.hid h5
  have H6:=Lib.hid h6
  have HX:=Lib.hid hX
  have hwr:=h6.size
  have c:=h5.cell
  clear h1 h2 h3 h4 h5 h6 hX
  have hrl:rb<wr.heap.size:=by omega
  have hll:lb<wr.heap.size:=by omega
  have hgl2:gb<wr.heap.size:=by omega
  have cI:wr.cell? ⟨ib,7,none⟩=some (.slice oa q oc):=by rw [Lib.cell_of_heap HX.out];rfl
  go_upto_region 31 with fail
  refine wp_region_phase 12 (by kernel_rfl) (by kernel_rfl) ?_
  simp only [List.take_succ_cons,List.take_zero,List.drop_succ_cons,List.drop_zero,List.take_nil,List.drop_nil]
  refine wpAny_of_held (S:=(fun w':World=>w'.cell? ⟨lb,0,none⟩=some (.pointer (some ⟨rb,0,none⟩))∧w'.cell? ⟨ib,7,none⟩=some (.slice oa q oc))) _ _ _ _ ?_
  have hHeld:(fun w':World=>w'.cell? ⟨lb,0,none⟩=some (.pointer (some ⟨rb,0,none⟩))∧w'.cell? ⟨ib,7,none⟩=some (.slice oa q oc)) wr.drew:=⟨c,cI⟩
  show wpAnyH _ _ _ _ _ _ _ _ (World.drew _)
  have L0:=Lib.hid (H5.out.drew)
  have T0:=Lib.hid ((Step.refl (fun x=>x<wr.heap.size∧x≠rb) wr).drew)
  have hz0':wr.heap.size≤wr.drew.heap.size:=Nat.le_refl _
  generalize wr.drew=v0 at L0 T0 hz0' hHeld ⊢
  clear c cI
  refine wpAnyH_take (i:=0) (v:= ?_) rfl (by kernel_rfl) (by kernel_rfl) (by kernel_rfl) (fun _ _ _ h=>hP _ _ _ _ (by rfl) h) (Or.inl ⟨by rfl,?_⟩) hHeld ?_
  rotate_left
  ·(intro w hSw;(try dsimp only at hSw);go_simp;try with_reducible rfl)
  simp only [List.getElem_toArray,List.getElem_cons_zero,List.getElem_cons_succ,Act.put,List.setIfInBounds_toArray,List.set_cons_zero,List.set_cons_succ]
  refine wpAnyH_take (i:=1) (v:= ?_) rfl (by kernel_rfl) (by kernel_rfl) (by kernel_rfl) (fun _ _ _ h=>hP _ _ _ _ (by rfl) h) (Or.inl ⟨by rfl,?_⟩) hHeld ?_
  rotate_left
  ·(intro w hSw;(try dsimp only at hSw);go_simp;try with_reducible rfl)
  simp only [List.getElem_toArray,List.getElem_cons_zero,List.getElem_cons_succ,Act.put,List.setIfInBounds_toArray,List.set_cons_zero,List.set_cons_succ]
  refine wpAnyH_take (i:=2) (v:= ?_) rfl (by kernel_rfl) (by kernel_rfl) (by kernel_rfl) (fun _ _ _ h=>hP _ _ _ _ (by rfl) h) (Or.inl ⟨by rfl,?_⟩) hHeld ?_
  rotate_left
  ·(intro w hSw;(try dsimp only at hSw);go_simp;try with_reducible rfl)
  simp only [List.getElem_toArray,List.getElem_cons_zero,List.getElem_cons_succ,Act.put,List.setIfInBounds_toArray,List.set_cons_zero,List.set_cons_succ]
  refine wpAnyH_take (i:=3) (v:= ?_) rfl (by kernel_rfl) (by kernel_rfl) (by kernel_rfl) (fun _ _ _ h=>hP _ _ _ _ (by rfl) h) (Or.inl ⟨by rfl,?_⟩) hHeld ?_
  rotate_left
  ·(intro w hSw;(try dsimp only at hSw);go_simp;try with_reducible rfl)
  simp only [List.getElem_toArray,List.getElem_cons_zero,List.getElem_cons_succ,Act.put,List.setIfInBounds_toArray,List.set_cons_zero,List.set_cons_succ]
  refine wpAnyH_take (i:=4) (v:= ?_) rfl (by kernel_rfl) (by kernel_rfl) (by kernel_rfl) (fun _ _ _ h=>hP _ _ _ _ (by rfl) h) (Or.inl ⟨by rfl,?_⟩) hHeld ?_
  rotate_left
  ·(intro w hSw;(try dsimp only at hSw);go_simp;try with_reducible rfl)
  simp only [List.getElem_toArray,List.getElem_cons_zero,List.getElem_cons_succ,Act.put,List.setIfInBounds_toArray,List.set_cons_zero,List.set_cons_succ]
  refine wpAnyH_take (i:=5) (v:= ?_) rfl (by kernel_rfl) (by kernel_rfl) (by kernel_rfl) (fun _ _ _ h=>hP _ _ _ _ (by rfl) h) (Or.inl ⟨by rfl,?_⟩) hHeld ?_
  rotate_left
  ·(intro w hSw;(try dsimp only at hSw);go_simp;try with_reducible rfl)
  simp only [List.getElem_toArray,List.getElem_cons_zero,List.getElem_cons_succ,Act.put,List.setIfInBounds_toArray,List.set_cons_zero,List.set_cons_succ]
  refine wpAnyH_take (i:=6) (v:= ?_) rfl (by kernel_rfl) (by kernel_rfl) (by kernel_rfl) (fun _ _ _ h=>hP _ _ _ _ (by rfl) h) (Or.inl ⟨by rfl,?_⟩) hHeld ?_
  rotate_left
  ·(intro w hSw;(try dsimp only at hSw);go_simp;try with_reducible rfl)
  simp only [List.getElem_toArray,List.getElem_cons_zero,List.getElem_cons_succ,Act.put,List.setIfInBounds_toArray,List.set_cons_zero,List.set_cons_succ]
  refine wpAnyH_take (i:=7) (v:= ?_) rfl (by kernel_rfl) (by kernel_rfl) (by kernel_rfl) (fun _ _ _ h=>hP _ _ _ _ (by rfl) h) (Or.inl ⟨by rfl,?_⟩) hHeld ?_
  rotate_left
  ·(intro w hSw;(try dsimp only at hSw);go_simp;try with_reducible rfl)
  simp only [List.getElem_toArray,List.getElem_cons_zero,List.getElem_cons_succ,Act.put,List.setIfInBounds_toArray,List.set_cons_zero,List.set_cons_succ]
  refine wpAnyH_ready (rs:=[8]) (by kernel_rfl) (by simp) ?_
  refine AllReadyH.cons rfl (fun K hK=> ?_) AllReadyH.nil
  go_simp
  refine(ldnum _ lb rb gb _ 8 L0.out (by decide)).mono ?_
  rintro e v1 ⟨a1,s1,rfl,g1,k1,hl,hs,-⟩
  have hz1:=hs.size
  have L1:=Lib.hid hl
  have T1:=Lib.hid (T0.out.trans (hs.imp (fun x hx=>hx.2)))
  have g1:=Lib.hid g1
  refine hK.out _ _ (⟨(hs.cell (p:=⟨lb,0,none⟩) hne).trans hHeld.1,(hs.cell (p:=⟨ib,7,none⟩) hir).trans hHeld.2⟩) (fun hHeld=> ?_)
  clear hK K hl hs
  try simp only [List.getElem_toArray,List.getElem_cons_zero,List.getElem_cons_succ,Act.put,List.setIfInBounds_toArray,List.set_cons_zero,List.set_cons_succ]
  obtain⟨g2,k2⟩:=got_word g1.out k1
  rw [← wrap_word]at g2 k2
  replace g2:=Lib.hid g2
  refine wpAnyH_take (i:=9) (v:= ?_) rfl (by kernel_rfl) (by kernel_rfl) (by kernel_rfl) (fun _ _ _ h=>hP _ _ _ _ (by rfl) h) (Or.inl ⟨by rfl,?_⟩) hHeld ?_
  rotate_left
  ·(intro w hSw;(try dsimp only at hSw);go_simp;try with_reducible rfl)
  simp only [List.getElem_toArray,List.getElem_cons_zero,List.getElem_cons_succ,Act.put,List.setIfInBounds_toArray,List.set_cons_zero,List.set_cons_succ]
  have XI:=Lib.hid ((T1.out.block ib ⟨by omega,hir⟩).trans HX.out)
  refine wpAnyH_ready (rs:=[10]) (by kernel_rfl) (by simp) ?_
  refine AllReadyH.cons rfl (fun K hK=> ?_) AllReadyH.nil
  go_simp
  have hnz:v1.heap.size<(v1.alloc (.cells #[.int .u64 (IntKind.u64.wrap a1)] 74 (0,0))).heap.size:=by simp
  have O0:=Lib.hid (H1.out.step T1.out (fun y hy1 hy=>⟨hy1,fun e=>hy (by rw [e];show rb<w6.heap.size;omega)⟩))
  have OA:=Lib.hid (O0.out.alloc (.cells #[.int .u64 (IntKind.u64.wrap a1)] 74 (0,0)))
  have hown:=H1.out.lt
  have TA:=Lib.hid (T1.out.alloc (fun b hb=>by have:=hb.1;omega) (.cells #[.int .u64 (IntKind.u64.wrap a1)] 74 (0,0)))
  have LA:=Lib.hid (L1.out.alloc (.cells #[.int .u64 (IntKind.u64.wrap a1)] 74 (0,0)))
  have XA:=Lib.hid (heap_alloc_old v1 (.cells #[.int .u64 (IntKind.u64.wrap a1)] 74 (0,0)) (r:=ib) (by omega) |>.trans XI.out)
  have NA:=Lib.hid (heap_alloc_new v1 (.cells #[.int .u64 (IntKind.u64.wrap a1)] 74 (0,0)))
  have HRow:Hid (kWord.R (fun b=>b<(v1.alloc (.cells #[.int .u64 (IntKind.u64.wrap a1)] 74 (0,0))).heap.size∧¬ b<w6.heap.size∧(Value.slice oa q oc).ownBlock≠some b) (v1.alloc (.cells #[.int .u64 (IntKind.u64.wrap a1)] 74 (0,0))) (IntKind.u64.wrap a1) [.int .u64 (IntKind.u64.wrap a1)]):=Lib.hid rfl
  have hk:(fun x=>0≤x∧x<18446744073709551616) (IntKind.u64.wrap a1):=k2
  have HOne:∀ u∈([.int .u64 (IntKind.u64.wrap a1)]:List Value),u.oneCell'=true:=by
   intro u hu
   simp only [List.mem_cons,List.not_mem_nil,or_false]at hu
   rcases hu with rfl<;>rfl
  replace HOne:=Lib.hid HOne
  refine hK.out _ _ ⟨(World.cell?_alloc_lt _ _ _ (World.block_lt_of_cell? _ _ hHeld.1)).trans hHeld.1,(World.cell?_alloc_lt _ _ _ (World.block_lt_of_cell? _ _ hHeld.2)).trans hHeld.2⟩ (fun hHeld=> ?_)
  clear hK K
  try simp only [List.getElem_toArray,List.getElem_cons_zero,List.getElem_cons_succ,Act.put,List.setIfInBounds_toArray,List.set_cons_zero,List.set_cons_succ]
  refine wpAnyH_ready (rs:=[11]) (by kernel_rfl) (by simp) ?_
  refine AllReadyH.cons rfl (fun K hK=> ?_) AllReadyH.nil
  rw [if_pos (by rfl)]
  simp only [List.getElem_toArray,List.getElem_cons_succ,List.getElem_cons_zero]
  refine wp_appendK (K:=kWord) (v:=.slice oa q oc) (e:=74) (B:=w6.heap.size) (E:=(·<w6.heap.size)) 31 (.int .u64 0) 8 Tryz.underlying31 info_word rfl (by decide) (.tmp 204) (.tmp 211) rfl q H2.out rfl OA.out (fun b hb=>by have hb:b<w6.heap.size:=hb;omega) v1.heap.size ((IntKind.u64.wrap a1)) [.int .u64 (IntKind.u64.wrap a1)] rfl (row_of NA.out) HOne.out HRow.out (by rw [H2.out];omega) (by rw [H2.out];omega) (by omega) ?_
  rintro g c2 w9 ho9 hs9 hg9-
  have hno:=OA.out.notE
  have S9:Step (fun x=>x<v1.heap.size∧(x<w6.heap.size∨x=ib∨x=lb∨x=rb∨x=gb)) (v1.alloc (.cells #[.int .u64 (IntKind.u64.wrap a1)] 74 (0,0))) w9:=hs9.imp (fun x hx=>⟨by omega,fun e=>hno x e (by show x<w6.heap.size;omega)⟩)
  have X9:=Lib.hid ((S9.block ib ⟨by omega,by omega⟩).trans XA.out)
  have L9:=Lib.hid ((LA.out.step S9 ⟨by omega,by omega⟩ ⟨by omega,by omega⟩ ⟨by omega,by omega⟩).step (setCell_step w9 ib 7 (.slice (some ⟨g,0,none⟩) (q+1) c2)) (by show lb≠ib;omega) (by show rb≠ib;omega) (by show gb≠ib;omega))
  have Hfin:Hid (LQ 74 kWord wordP (fun x=>0≤x∧x<18446744073709551616) lb rb gb (fun x=>x≠rb∧x≠lb∧x≠ib) w6 t5 (w9.setCell ⟨ib,7,none⟩ (.slice (some ⟨g,0,none⟩) (q+1) c2)) (.slice (some ⟨g,0,none⟩) (q+1) c2) (q+1)):=Lib.hid (LQ.next H2.out H3.out H4.out H6.out (g2.out) hk ((TA.out.imp (fun x hx=>⟨by have:=hx.1;omega,hx.2.1⟩)).trans ((S9.imp (fun x hx=>⟨by have:=hx.1;omega,Or.inl hx.1⟩)).trans ((setCell_step w9 ib 7 _).imp (fun x hx=>hx.2.2.2)))) L9.out (ho9.step (setCell_step w9 ib 7 _) (fun b _ hb e=>hb (by rw [e];show ib<w6.heap.size;omega))))
  have X10:=Lib.hid (setCell_row (k:=7) (.slice (some ⟨g,0,none⟩) (q+1) c2) X9.out)
  refine hK.out _ _ ⟨(S9.cell (p:=⟨lb,0,none⟩) ⟨by show lb<_;omega,Or.inr (Or.inr (Or.inl rfl))⟩).trans hHeld.1,(S9.cell (p:=⟨ib,7,none⟩) ⟨by show ib<_;omega,Or.inr (Or.inl rfl)⟩).trans hHeld.2⟩ (fun hHeld=> ?_)
  clear hK K
  try simp only [List.getElem_toArray,List.getElem_cons_zero,List.getElem_cons_succ,Act.put,List.setIfInBounds_toArray,List.set_cons_zero,List.set_cons_succ]
  refine wpAnyH_done (by kernel_rfl) ?_ _
  simp only [phaseQ]
  clear hHeld ho9 hs9 hg9 S9 hno
  have cI:w9.cell? ⟨ib,7,none⟩=some (.slice oa q oc):=by rw [Lib.cell_of_heap X9.out];rfl
  have fI:w9.frozen? ⟨ib,7,none⟩=false:=Lib.frozen_of_heap X9.out 7
  go_wp2_with fail
  exact HK.out _ _ hlt ⟨by omega,⟨by kernel_rfl,rfl,(by kernel_rfl),(by kernel_rfl),(by kernel_rfl),(by kernel_rfl),(by show Value.int .i64 _=_;go_num),trivial⟩,_,X10.out,Hfin.out⟩
 ·obtain⟨xs,s2,c1,c2,c3,c4,c5,c6⟩:=LQ.done w5.heap.size hz6 hlq
  obtain rfl:m1=q:=by omega
  clear HK hlq
  have HE:=Lib.hid (HQ.out (m:=m1) (xs:=xs) (s1:=t5) (s2:=s2) (v:=v))
  replace c3:=Lib.hid c3
  replace c4:=Lib.hid c4
  replace hX:=Lib.hid hX
  replace c5:=Lib.hid c5
  replace c6:=Lib.hid c6
  replace c2:=Lib.hid c2
  replace hmm1:=Lib.hid hmm1
  clear HQ
  go_wp2_with fail
  exact HE.out _ _ ⟨by kernel_rfl,rfl,(by kernel_rfl),(by kernel_rfl),(by kernel_rfl),trivial⟩ Gn1.out hmm1.out c1 c3.out c2.out c4.out hX.out (Q6.out.trans (c5.out.imp (S':=fun x=>x<w5.heap.size∧x≠rb∧x≠lb∧x≠ib) (fun x hx=>⟨Nat.lt_of_lt_of_le hx.1 Q6.out.size,hx.2⟩))) c6.out
end Go.Proofs.YtfchpchabdhcgaaGreat
