/- Lemmas. -/
import Derived.Test.YtpomdoliblilfaaBld4
import Derived.Test.YtpomdoliblilfaaBld3
import Derived.Deep.DeepCutAuto
import Derived.Deep.CutBlock
import Derived.Deep.RegionHeld
namespace Go.Proofs.Ytpomdoliblilfaa
set_option linter.unusedVariables false
set_option linter.unusedSimpArgs false
open Go.RowKit
def symA (s:SymL):Array Value:=#[.string ⟨s.name.toArray⟩,.string ⟨s.version.toArray⟩,.bool s.old,.int .i64 s.kind,.bool s.weak,.int .i64 s.vis,.bool s.defined,.int .i64 s.value,.int .i64 s.size]
theorem info_sym:(Try.prog.info? 52).map (fun i=>(i.zero,i.size,i.bytes))=some (some (.agg #[.string ⟨#[]⟩,.string ⟨#[]⟩,.bool false,.int .i64 0,.bool false,.int .i64 0,.bool false,.int .i64 0,.int .i64 0]),9,88):=by kernel_rfl
theorem defSym_ok {s:SymL} (h:SymOk s):SymOk (defSym s):=⟨h.name,h.version,h.kind,h.vis,by simp [defSym],by simp [defSym]⟩
theorem any_take_next {α:Type} {f:α→Bool} {l:List α} {k:Nat} {x:α} (hx:l[k]? =some x):(l.take (k+1)).any f=((l.take k).any f||f x):=by
 rw [List.take_add_one,hx,List.any_append];simp
theorem sameDef_name {t s:SymL} (h:¬ t.name=s.name):sameDef t s=false:=by simp [sameDef,h]
theorem sameDef_ver {t s:SymL} (h:t.name=s.name) (hv:t.version=s.version):sameDef t s=true:=by simp [sameDef,h,hv]
theorem sameDef_old {t s:SymL} (h:t.name=s.name) (hv:¬ t.version=s.version):sameDef t s=(!t.old&& !s.old):=by simp [sameDef,h,hv]
structure Kept (pb:Nat) (v:PlanV) (w:World) (b:Nat):Prop where
 lt:b<w.heap.size
 ne:b≠pb
 no:¬ v.has b
section
variable {B pb b : Nat} {w w' : World} {sv : SpecV} {s : SpecL} {own : Int} {v v' : PlanV} {p : PlanL}
theorem PStep.kept (h:PStep pb v v' w w') (k:Kept pb v w b):Kept pb v' w' b:=
 ⟨by have:=h.step.size;have:=k.lt;omega,k.ne,fun e=>by
  rcases h.new b e with h1 | h1
  ·exact k.no h1
  ·have:=k.lt;omega⟩
theorem PStep.block (h:PStep pb v v' w w') (k:Kept pb v w b):w'.heap[b]? =w.heap[b]? :=h.step.block b ⟨k.lt,k.ne,k.no⟩
theorem PlanM.kept_new (h:PlanM B pb w sv s own v p) (o:Obj):Kept pb v (w.alloc o) w.heap.size:=
 ⟨by simp,by have:=h.lt;omega,fun e=>by have:=(h.has_lt e).2.1;omega⟩
theorem Kept.alloc (k:Kept pb v w b) (o:Obj):Kept pb v (w.alloc o) b:=⟨by have:=k.lt;simp;omega,k.ne,k.no⟩
theorem Kept.below {C:Nat} (k:Kept pb v w b) (h:Below C w w'):Kept pb v w' b:=⟨by have:=k.lt;have:=h.size;omega,k.ne,k.no⟩
theorem PlanM.alloc (h:PlanM B pb w sv s own v p) (o:Obj):PlanM B pb (w.alloc o) sv s own v p:=h.below ((Below.refl _ w).alloc (Nat.le_refl _) o)
theorem PStep.alloc (v:PlanV) (w:World) (o:Obj):PStep pb v v w (w.alloc o):=.below ((Below.refl _ w).alloc (Nat.le_refl _) o)
end
theorem cells_row {w:World} {b:Nat} {xs:List Value} {t:TypeId} (h:w.heap[b]? =some (.cells xs.toArray t (0,0))):∀ j u,xs[j]? =some u→w.cell? ⟨b,j,none⟩=some u:=fun j u hu=>by
 rw [Lib.cell_of_heap h];simpa using hu
theorem one_sym (x:SymL):∀ u∈symCells x,u.oneCell'=true:=by
 intro u hu
 simp only [symCells,List.mem_cons,List.not_mem_nil,or_false]at hu
 rcases hu with rfl | rfl | rfl | rfl | rfl | rfl | rfl | rfl | rfl<;>rfl
theorem LB.at_form {α:Type} {K:Kind α} {S:Nat→Prop} {w:World} {v:Value} {l:List α} {b off n c:Nat} (h:LB K S w v l) (hv:v=.slice (some ⟨b,off,none⟩) n c) (hl:0<l.length):LAt K S w l (some ⟨b,off,none⟩) b off:=by
 obtain⟨a,b',off',cap,hf,_,_,hat⟩:=h.at
 have ha:=hat.addr hl
 rw [hv,ha]at hf
 cases hf
 rw [ha]at hat
 exact hat
theorem PlanM.symAt {B pb:Nat} {w:World} {sv:SpecV} {s:SpecL} {own:Int} {v:PlanV} {p:PlanL} (hM:PlanM B pb w sv s own v p) {b off n c:Nat} (hv:v.syms=.slice (some ⟨b,off,none⟩) n c) (k:Nat) (x:SymL) (hx:p.syms[k]? =some x):
  SymOk x∧w.cell? ⟨b,off+k*9,none⟩=some (.string ⟨x.name.toArray⟩)∧w.cell? ⟨b,off+k*9+1,none⟩=some (.string ⟨x.version.toArray⟩)∧
  w.cell? ⟨b,off+k*9+2,none⟩=some (.bool x.old)∧w.cell? ⟨b,off+k*9+3,none⟩=some (.int .i64 x.kind)∧w.cell? ⟨b,off+k*9+4,none⟩=some (.bool x.weak)∧w.cell? ⟨b,off+k*9+5,none⟩=some (.int .i64 x.vis)∧
  w.cell? ⟨b,off+k*9+6,none⟩=some (.bool x.defined)∧w.cell? ⟨b,off+k*9+7,none⟩=some (.int .i64 x.value)∧w.cell? ⟨b,off+k*9+8,none⟩=some (.int .i64 x.size):=
 (hM.syms.lb.at_form hv (by have:=(List.getElem?_eq_some_iff.1 hx).1;omega)).sym9 k x hx
set_option maxHeartbeats 16000000 in
set_option maxRecDepth 100000 in
theorem define_any {B pb:Nat} {w:World} {sv:SpecV} {s:SpecL} {own:Int} {v:PlanV} {p:PlanL} (x:SymL) (tls:Bool) (e:Int) (hM:PlanM B pb w sv s own v p) (hx:SymOk x) (hl:p.syms.length≤1000000) (hB:B≤w.heap.size):
  Calls Try.prog 40 #[.pointer (some ⟨pb,0,none⟩),.agg #[.string ⟨x.name.toArray⟩,.string ⟨x.version.toArray⟩,.bool x.old,.int .i64 x.kind,.bool x.weak,.int .i64 x.vis,.bool x.defined,.int .i64 x.value,.int .i64 x.size],.bool tls,.int .i64 e] w fun r w'=>∃ v',r=.returned (.tuple #[])∧PlanM B pb w' sv s own v' (p.define x tls e)∧PStep pb v v' w w':=by
 have HM:=Lib.hid hM
 have hpl:=hM.lt
 have Hx:=Lib.hid hx
 have HRt:=Lib.hid (fun w=>vright_any w (defSym x) (defSym_ok hx))
 have HD:Hid (p.define x tls e={ ((p.failIf (!symRightB (defSym x)||(decide (x.kind=3) != tls)) e).failIf (p.syms.any fun t=>sameDef t (defSym x)) 100)with syms:=p.syms++[defSym x]}):=Lib.hid rfl
 have Hb1:=Lib.hid ((Below.refl w.heap.size w).alloc (Nat.le_refl _) (.cells #[.string ⟨x.name.toArray⟩,.string ⟨x.version.toArray⟩,.bool x.old,.int .i64 x.kind,.bool x.weak,.int .i64 x.vis,.bool true,.int .i64 0,.int .i64 0] 52))
 have Hx1:=Lib.hid (heap_alloc_new w (.cells #[.string ⟨x.name.toArray⟩,.string ⟨x.version.toArray⟩,.bool x.old,.int .i64 x.kind,.bool x.weak,.int .i64 x.vis,.bool true,.int .i64 0,.int .i64 0] 52))
 have Hz1:Hid (w.heap.size<(w.alloc (.cells #[.string ⟨x.name.toArray⟩,.string ⟨x.version.toArray⟩,.bool x.old,.int .i64 x.kind,.bool x.weak,.int .i64 x.vis,.bool true,.int .i64 0,.int .i64 0] 52)).heap.size):=Lib.hid (by simp)
 have HK1:=Lib.hid (hM.kept_new (.cells #[.string ⟨x.name.toArray⟩,.string ⟨x.version.toArray⟩,.bool x.old,.int .i64 x.kind,.bool x.weak,.int .i64 x.vis,.bool true,.int .i64 0,.int .i64 0] 52))
 clear hM hx
 go_enter Try.func40,Try.ntmps40
 go_upto_region 2 with fail
 generalize w.alloc (.cells #[.string ⟨x.name.toArray⟩,.string ⟨x.version.toArray⟩,.bool x.old,.int .i64 x.kind,.bool x.weak,.int .i64 x.vis,.bool true,.int .i64 0,.int .i64 0] 52)=w1 at *
 have HM1:=Lib.hid (HM.out.below Hb1.out)
 obtain⟨d0,d1,d2,d3,d4,d5,d6,d7,d8⟩:=sym_cells (s:=defSym x) Hx1.out
 simp only [defSym]at d0 d1 d2 d3 d4 d5 d6 d7 d8
 go_cut [22]from 9 to 69 (fun v22 wx=>v22=.bool (!symRightB (defSym x)||(decide (x.kind=3) != tls))∧Below w1.heap.size w1 wx)
 case first=>
  go_wp2_with fail
  refine(HRt.out w1).mono ?_
  rintro e2 w2 ⟨rfl,hb2⟩
  have Hb2:=Lib.hid hb2
  have e3:w2.cell? ⟨w.heap.size,3,none⟩=some (.int .i64 x.kind):=by rw [Lib.cell_of_heap ((hb2.block w.heap.size Hz1.out).trans Hx1.out)];rfl
  clear hb2 d0 d1 d2 d3 d4 d5 d6 d7 d8
  cases hr:symRightB (defSym x)with
  | false=>
   rw [rightErr_bad hr]
   have Hr:=Lib.hid hr
   clear hr
   go_wp2
   go_meet
   exact⟨by rw [Hr.out];rfl,Hb2.out⟩
  | true=>
   rw [rightErr_ok hr]
   have Hd:Hid (decide (x.kind=3)=(x.kind==3)):=Lib.hid (by rw [Bool.eq_iff_iff];simp)
   have Hr:=Lib.hid hr
   clear hr
   go_wp2
   go_meet
   exact⟨by rw [Hd.out,Hr.out];simp [bne],Hb2.out⟩
 case rest=>
 obtain⟨rfl,hb2⟩:=hcut
 rename World=>w2
 have HM2:=Lib.hid (HM1.out.below hb2)
 have HK2:=Lib.hid (HK1.out.below hb2)
 have HX2:=Lib.hid ((hb2.block w.heap.size Hz1.out).trans Hx1.out)
 have HS2:=Lib.hid ((PStep.below (pb:=pb) (v:=v) Hb1.out).trans (PStep.below hb2))
 have hz2:w1.heap.size≤w2.heap.size:=hb2.size
 clear hb2 d0 d1 d2 d3 d4 d5 d6 d7 d8
 generalize (!symRightB (defSym x)||(decide (x.kind=3) != tls))=bad at *
 go_upto_if 22 with fail
 go_cut []from 9 to 69 (fun wx=>PlanM B pb wx sv s own v (p.failIf bad e)∧PStep pb v v w wx∧wx.heap[w.heap.size]? =some (.cells #[.string ⟨x.name.toArray⟩,.string ⟨x.version.toArray⟩,.bool x.old,.int .i64 x.kind,.bool x.weak,.int .i64 x.vis,.bool true,.int .i64 0,.int .i64 0] 52 (0,0))∧Kept pb v wx w.heap.size)
 case first=>
  rcases (by cases bad<;>simp:bad=true∨bad=false)with hbad | hbad
  ·subst hbad
   go_wp2_with fail
   refine(fail_any e HM2.out).mono ?_
   rintro e2 w3 ⟨rfl,hM3,hs3⟩
   go_wp2_with fail
   go_meet
   exact⟨hM3,HS2.out.trans hs3,(hs3.block HK2.out).trans HX2.out,hs3.kept HK2.out⟩
  ·subst hbad
   go_wp2_with fail
   go_meet
   exact⟨HM2.out,HS2.out,HX2.out,HK2.out⟩
 case rest=>
 obtain⟨hM3,hs3,hX3,hK3⟩:=hcut
 rename World=>w3
 have HM3:=Lib.hid hM3
 have HS3:=Lib.hid hs3
 have HX3:=Lib.hid hX3
 have HK3:=Lib.hid hK3
 have Hp1:=Lib.hid (show (p.failIf bad e).syms=p.syms from failIf_syms)
 have hz3:w.heap.size<w3.heap.size:=hK3.lt
 clear hM3 hs3 hX3 hK3 HM2 HK2 HX2 HS2 HM1 HK1 Hb1 Hx1 hz2
 generalize hp1:p.failIf bad e=p1 at *
 have Hp0:=Lib.hid hp1
 clear hp1
 have hp1s:p1.syms=p.syms:=Hp1.out
 obtain⟨sa,sbk,soff,scap,hsf,hsm,hscap,hat⟩:=HM3.out.syms.lb.at
 rw [hp1s]at hsf hsm hscap hat
 have Hsf:=Lib.hid hsf
 have sc:=HM3.out.c9
 rw [hsf]at sc
 have hsa:=hat.addr
 have hsin:=hat.inS
 have Hat:=Lib.hid hat
 obtain⟨n,hn⟩:∃ n,n=p.syms.length:=⟨_,rfl⟩
 have Hn:=Lib.hid hn
 rw [← hn]at hsm hsa hl hsin sc hscap
 rw [← hn]at Hsf
 clear hat hsf hn hp1s
 go_upto_block 0 with fail
 go_cut []from 9 to 69 (fun wx=>PlanM B pb wx sv s own v (p1.failIf (p.syms.any fun t=>sameDef t (defSym x)) 100)∧PStep pb v v w wx∧wx.heap[w.heap.size]? =some (.cells #[.string ⟨x.name.toArray⟩,.string ⟨x.version.toArray⟩,.bool x.old,.int .i64 x.kind,.bool x.weak,.int .i64 x.vis,.bool true,.int .i64 0,.int .i64 0] 52 (0,0))∧Kept pb v wx w.heap.size)
 case first=>
  go_wp2_with fail
  go_loopw [31] (fun i wr=>∃ k:Nat,i=.int .i64 k∧k≤n∧PlanM B pb wr sv s own v (p1.failIf ((p.syms.take k).any fun t=>sameDef t (defSym x)) 100)∧PStep pb v v w3 wr) (fun i _=>n-(intOf i).toNat)
  case atStart=>exact⟨0,rfl,Nat.zero_le _,HM3.out,PStep.refl _ _ _⟩
  case round=>
   obtain⟨k,rfl,hk,hMr,hsr⟩:=hrel
   have HMr:=Lib.hid hMr
   have Hsr:=Lib.hid hsr
   have Hxr:=Lib.hid ((hsr.block HK3.out).trans HX3.out)
   have HKr:=Lib.hid (hsr.kept HK3.out)
   have hrs:=hsr.step.size
   clear hMr hsr
   by_cases hlt:k<n
   ·obtain rfl:=hsa (by omega)
    obtain⟨t,ht⟩:∃ t,p.syms[k]? =some t:=⟨_,List.getElem?_eq_getElem (by rw [← Hn.out];exact hlt)⟩
    obtain⟨hto,g0,g1,g2,g3,g4,g5,g6,g7,g8⟩:=HMr.out.symAt Hsf.out k t (by rw [failIf_syms,Hp1.out];exact ht)
    have Ht:=Lib.hid ht
    have hk2:(k:Int)<(n:Int):=by omega
    clear ht hto
    go_upto_region 7 with fail
    have HMa:=Lib.hid (HMr.out.alloc (.cells (symA t) 52 (0,0)))
    have HKa:=Lib.hid (HKr.out.alloc (.cells (symA t) 52 (0,0)))
    have Hna:=Lib.hid (heap_alloc_new wr (.cells (symA t) 52 (0,0)))
    have Hxa:=Lib.hid ((heap_alloc_old wr (.cells (symA t) 52 (0,0)) HKr.out.lt).trans Hxr.out)
    have Hsa:=Lib.hid (Hsr.out.trans (PStep.alloc v wr (.cells (symA t) 52 (0,0))))
    have hza:(wr.alloc (.cells (symA t) 52 (0,0))).heap.size=wr.heap.size+1:=by simp
    clear g0 g1 g2 g3 g4 g5 g6 g7 g8
    unfold symA at *
    generalize wr.alloc (.cells #[.string ⟨t.name.toArray⟩,.string ⟨t.version.toArray⟩,.bool t.old,.int .i64 t.kind,.bool t.weak,.int .i64 t.vis,.bool t.defined,.int .i64 t.value,.int .i64 t.size] 52 (0,0))=wa at *
    have hza':wr.heap.size≤wa.heap.size:=by omega
    clear hza
    go_cut [56]from 32 to 59 (fun v56 wx=>v56=.bool (sameDef t (defSym x))∧wx=wa)
    case first=>
     have e0:wa.cell? ⟨w.heap.size,0,none⟩=some (.string ⟨x.name.toArray⟩):=by rw [Lib.cell_of_heap Hxa.out];rfl
     have e1:wa.cell? ⟨w.heap.size,1,none⟩=some (.string ⟨x.version.toArray⟩):=by rw [Lib.cell_of_heap Hxa.out];rfl
     have e2:wa.cell? ⟨w.heap.size,2,none⟩=some (.bool x.old):=by rw [Lib.cell_of_heap Hxa.out];rfl
     have f0:wa.cell? ⟨wr.heap.size,0,none⟩=some (.string ⟨t.name.toArray⟩):=by rw [Lib.cell_of_heap Hna.out];rfl
     have f1:wa.cell? ⟨wr.heap.size,1,none⟩=some (.string ⟨t.version.toArray⟩):=by rw [Lib.cell_of_heap Hna.out];rfl
     have f2:wa.cell? ⟨wr.heap.size,2,none⟩=some (.bool t.old):=by rw [Lib.cell_of_heap Hna.out];rfl
     by_cases h1:t.name=x.name
     ·by_cases h2:t.version=x.version
      ·have hb1:(t.name==x.name)=true:=by simp [h1]
       have hb2:(t.version==x.version)=true:=by simp [h2]
       have HS:=Lib.hid (sameDef_ver (t:=t) (s:=defSym x) h1 h2)
       clear h1 h2
       go_wp2
       go_meet
       exact⟨by rw [HS.out],rfl⟩
      ·have hb1:(t.name==x.name)=true:=by simp [h1]
       have hb2:(t.version==x.version)=false:=by simp [h2]
       have HS:=Lib.hid (sameDef_old (t:=t) (s:=defSym x) h1 h2)
       clear h1 h2
       cases ho1:t.old with
       | false=>
        rw [ho1]at f2
        go_wp2
        go_meet
        exact⟨by rw [HS.out,ho1];rfl,rfl⟩
       | true=>
        rw [ho1]at f2
        go_wp2
        go_meet
        exact⟨by rw [HS.out,ho1];rfl,rfl⟩
     ·have hb1:(t.name==x.name)=false:=by simp [h1]
      have HS:=Lib.hid (sameDef_name (t:=t) (s:=defSym x) h1)
      clear h1
      go_wp2
      go_meet
      exact⟨by rw [HS.out],rfl⟩
    case rest=>
    obtain⟨rfl,rfl⟩:=hcut
    have HN:=Lib.hid (any_take_next (f:=fun t=>sameDef t (defSym x)) Ht.out)
    clear hrs
    generalize hsd:sameDef t (defSym x)=sd at *
    clear hsd
    rcases (by cases sd<;>simp:sd=true∨sd=false)with hsd | hsd
    ·subst hsd
     go_wp2_with fail
     refine(fail_any 100 HMa.out).mono ?_
     rintro e2 w5 ⟨rfl,hM5,hs5⟩
     have HM5:=Lib.hid hM5
     have HS5:=Lib.hid (Hsa.out.trans hs5)
     clear hM5 hs5
     go_wp2
     go_roundw
     case rel=>exact⟨k+1,by go_num,by omega,by rw [HN.out,← failIf_or];exact HM5.out,HS5.out⟩
     case measure=>simp [intOf];omega
    ·subst hsd
     go_wp2
     go_roundw
     case rel=>exact⟨k+1,by go_num,by omega,by rw [HN.out,← failIf_or];exact HMa.out,Hsa.out⟩
     case measure=>simp [intOf];omega
   ·have HMe:Hid (PlanM B pb wr sv s own v (p1.failIf (p.syms.any fun t=>sameDef t (defSym x)) 100)):=Lib.hid (by
     have h:=HMr.out
     rwa [List.take_of_length_le (by rw [← Hn.out];omega)]at h)
    go_wp2_with fail
    go_meet
    exact⟨HMe.out,HS3.out.trans Hsr.out,Hxr.out,HKr.out⟩
 case rest=>
 obtain⟨hM4,hs4,hX4,hK4⟩:=hcut
 rename World=>w4
 have HM4:=Lib.hid hM4
 have HS4:=Lib.hid hs4
 have HX4:=Lib.hid hX4
 have HK4:=Lib.hid hK4
 have Hp4:=Lib.hid (show (p1.failIf (p.syms.any fun t=>sameDef t (defSym x)) 100).syms=p.syms by rw [failIf_syms,Hp1.out])
 have HD2:Hid (p.define x tls e={p1.failIf (p.syms.any fun t=>sameDef t (defSym x)) 100 with syms:=p.syms++[defSym x]}):=Lib.hid HD.out
 have hz4:=hs4.step.size
 clear hM4 hs4 hX4 hK4 HD Hp0 sc hsa hsin Hat HM3 HS3 HX3 HK3
 generalize p1.failIf (p.syms.any fun t=>sameDef t (defSym x)) 100=p4 at *
 have c9:=HM4.out.c9
 rw [Hsf.out]at c9
 have q0:w4.cell? ⟨w.heap.size,0,none⟩=some (.string ⟨x.name.toArray⟩):=by rw [Lib.cell_of_heap HX4.out];rfl
 have q1:w4.cell? ⟨w.heap.size,1,none⟩=some (.string ⟨x.version.toArray⟩):=by rw [Lib.cell_of_heap HX4.out];rfl
 have q2:w4.cell? ⟨w.heap.size,2,none⟩=some (.bool x.old):=by rw [Lib.cell_of_heap HX4.out];rfl
 have q3:w4.cell? ⟨w.heap.size,3,none⟩=some (.int .i64 x.kind):=by rw [Lib.cell_of_heap HX4.out];rfl
 have q4:w4.cell? ⟨w.heap.size,4,none⟩=some (.bool x.weak):=by rw [Lib.cell_of_heap HX4.out];rfl
 have q5:w4.cell? ⟨w.heap.size,5,none⟩=some (.int .i64 x.vis):=by rw [Lib.cell_of_heap HX4.out];rfl
 have q6:w4.cell? ⟨w.heap.size,6,none⟩=some (.bool true):=by rw [Lib.cell_of_heap HX4.out];rfl
 have q7:w4.cell? ⟨w.heap.size,7,none⟩=some (.int .i64 0):=by rw [Lib.cell_of_heap HX4.out];rfl
 have q8:w4.cell? ⟨w.heap.size,8,none⟩=some (.int .i64 0):=by rw [Lib.cell_of_heap HX4.out];rfl
 go_upto_region 10 with fail
 refine wp_region_phase 8 (by kernel_rfl) (by kernel_rfl) ?_
 simp only [List.take_succ_cons,List.take_zero,List.drop_succ_cons,List.drop_zero,List.take_nil,List.drop_nil]
 refine wpAny_of_held (S:=fun w':World=>w'.cell? ⟨pb,9,none⟩=some (.slice sa n scap)∧w'.cell? ⟨w.heap.size,0,none⟩=some (.string ⟨x.name.toArray⟩)∧w'.cell? ⟨w.heap.size,1,none⟩=some (.string ⟨x.version.toArray⟩)∧w'.cell? ⟨w.heap.size,2,none⟩=some (.bool x.old)∧w'.cell? ⟨w.heap.size,3,none⟩=some (.int .i64 x.kind)∧w'.cell? ⟨w.heap.size,4,none⟩=some (.bool x.weak)∧w'.cell? ⟨w.heap.size,5,none⟩=some (.int .i64 x.vis)∧w'.cell? ⟨w.heap.size,6,none⟩=some (.bool true)∧w'.cell? ⟨w.heap.size,7,none⟩=some (.int .i64 0)∧w'.cell? ⟨w.heap.size,8,none⟩=some (.int .i64 0)) _ _ _ _ ?_
 have hHeld:(fun w':World=>w'.cell? ⟨pb,9,none⟩=some (.slice sa n scap)∧w'.cell? ⟨w.heap.size,0,none⟩=some (.string ⟨x.name.toArray⟩)∧w'.cell? ⟨w.heap.size,1,none⟩=some (.string ⟨x.version.toArray⟩)∧w'.cell? ⟨w.heap.size,2,none⟩=some (.bool x.old)∧w'.cell? ⟨w.heap.size,3,none⟩=some (.int .i64 x.kind)∧w'.cell? ⟨w.heap.size,4,none⟩=some (.bool x.weak)∧w'.cell? ⟨w.heap.size,5,none⟩=some (.int .i64 x.vis)∧w'.cell? ⟨w.heap.size,6,none⟩=some (.bool true)∧w'.cell? ⟨w.heap.size,7,none⟩=some (.int .i64 0)∧w'.cell? ⟨w.heap.size,8,none⟩=some (.int .i64 0)) w4.drew:=⟨c9,q0,q1,q2,q3,q4,q5,q6,q7,q8⟩
 show wpAnyH _ _ _ _ _ _ _ _ (World.drew _)
 have HMd:=Lib.hid (HM4.out.below (Below.refl _ w4).drew)
 have HSd:=Lib.hid (HS4.out.trans (PStep.below (pb:=pb) (v:=v) (Below.refl _ w4).drew))
 have hzd:w4.heap.size≤w4.drew.heap.size:=Nat.le_refl _
 have HK4d:Hid (Kept pb v w4.drew w.heap.size):=Lib.hid (HK4.out.below (Below.refl w4.heap.size w4).drew)
 have hpd:=HMd.out.lt
 generalize w4.drew=wd at HMd HSd hHeld hzd hpd HK4d ⊢
 clear c9 q0 q1 q2 q3 q4 q5 q6 q7 q8
 refine wpAnyH_take (i:=0) (v:= ?_) rfl (by kernel_rfl) (by kernel_rfl) (by kernel_rfl) (fun _ _ _ h=>h) (Or.inl ⟨by rfl,?_⟩) hHeld ?_
 rotate_left
 ·(intro w hSw;(try dsimp only at hSw);go_simp;try with_reducible rfl)
 simp only [List.getElem_toArray,List.getElem_cons_zero,List.getElem_cons_succ,Act.put,List.setIfInBounds_toArray,List.set_cons_zero,List.set_cons_succ]
 refine wpAnyH_take (i:=1) (v:= ?_) rfl (by kernel_rfl) (by kernel_rfl) (by kernel_rfl) (fun _ _ _ h=>h) (Or.inl ⟨by rfl,?_⟩) hHeld ?_
 rotate_left
 ·(intro w hSw;(try dsimp only at hSw);go_simp;try with_reducible rfl)
 simp only [List.getElem_toArray,List.getElem_cons_zero,List.getElem_cons_succ,Act.put,List.setIfInBounds_toArray,List.set_cons_zero,List.set_cons_succ]
 refine wpAnyH_take (i:=2) (v:= ?_) rfl (by kernel_rfl) (by kernel_rfl) (by kernel_rfl) (fun _ _ _ h=>h) (Or.inl ⟨by rfl,?_⟩) hHeld ?_
 rotate_left
 ·(intro w hSw;(try dsimp only at hSw);go_simp;try with_reducible rfl)
 simp only [List.getElem_toArray,List.getElem_cons_zero,List.getElem_cons_succ,Act.put,List.setIfInBounds_toArray,List.set_cons_zero,List.set_cons_succ]
 refine wpAnyH_take (i:=3) (v:= ?_) rfl (by kernel_rfl) (by kernel_rfl) (by kernel_rfl) (fun _ _ _ h=>h) (Or.inl ⟨by rfl,?_⟩) hHeld ?_
 rotate_left
 ·(intro w hSw;(try dsimp only at hSw);go_simp;try with_reducible rfl)
 simp only [List.getElem_toArray,List.getElem_cons_zero,List.getElem_cons_succ,Act.put,List.setIfInBounds_toArray,List.set_cons_zero,List.set_cons_succ]
 refine wpAnyH_take (i:=4) (v:= ?_) rfl (by kernel_rfl) (by kernel_rfl) (by kernel_rfl) (fun _ _ _ h=>h) (Or.inl ⟨by rfl,?_⟩) hHeld ?_
 rotate_left
 ·(intro w hSw;(try dsimp only at hSw);go_simp;try with_reducible rfl)
 simp only [List.getElem_toArray,List.getElem_cons_zero,List.getElem_cons_succ,Act.put,List.setIfInBounds_toArray,List.set_cons_zero,List.set_cons_succ]
 refine wpAnyH_take (i:=5) (v:= ?_) rfl (by kernel_rfl) (by kernel_rfl) (by kernel_rfl) (fun _ _ _ h=>h) (Or.inl ⟨by rfl,?_⟩) hHeld ?_
 rotate_left
 ·(intro w hSw;(try dsimp only at hSw);go_simp;try with_reducible rfl)
 simp only [List.getElem_toArray,List.getElem_cons_zero,List.getElem_cons_succ,Act.put,List.setIfInBounds_toArray,List.set_cons_zero,List.set_cons_succ]
 refine wpAnyH_ready (rs:=[6]) (by kernel_rfl) (by simp) ?_
 refine AllReadyH.cons rfl (fun K hK=> ?_) AllReadyH.nil
 go_simp
 have HMn:=Lib.hid (HMd.out.alloc (.cells #[.string ⟨x.name.toArray⟩,.string ⟨x.version.toArray⟩,.bool x.old,.int .i64 x.kind,.bool x.weak,.int .i64 x.vis,.bool true,.int .i64 0,.int .i64 0] 52 (0,0)))
 have HNn:=Lib.hid (heap_alloc_new wd (.cells #[.string ⟨x.name.toArray⟩,.string ⟨x.version.toArray⟩,.bool x.old,.int .i64 x.kind,.bool x.weak,.int .i64 x.vis,.bool true,.int .i64 0,.int .i64 0] 52 (0,0)))
 have HSn:=Lib.hid (HSd.out.trans (PStep.alloc v wd (.cells #[.string ⟨x.name.toArray⟩,.string ⟨x.version.toArray⟩,.bool x.old,.int .i64 x.kind,.bool x.weak,.int .i64 x.vis,.bool true,.int .i64 0,.int .i64 0] 52 (0,0))))
 have hzn:(wd.alloc (.cells #[.string ⟨x.name.toArray⟩,.string ⟨x.version.toArray⟩,.bool x.old,.int .i64 x.kind,.bool x.weak,.int .i64 x.vis,.bool true,.int .i64 0,.int .i64 0] 52 (0,0))).heap.size=wd.heap.size+1:=by simp
 refine hK.out _ _ ⟨(World.cell?_alloc_lt _ _ _ (World.block_lt_of_cell? _ _ hHeld.1)).trans hHeld.1,(World.cell?_alloc_lt _ _ _ (World.block_lt_of_cell? _ _ hHeld.2.1)).trans hHeld.2.1,(World.cell?_alloc_lt _ _ _ (World.block_lt_of_cell? _ _ hHeld.2.2.1)).trans hHeld.2.2.1,(World.cell?_alloc_lt _ _ _ (World.block_lt_of_cell? _ _ hHeld.2.2.2.1)).trans hHeld.2.2.2.1,(World.cell?_alloc_lt _ _ _ (World.block_lt_of_cell? _ _ hHeld.2.2.2.2.1)).trans hHeld.2.2.2.2.1,(World.cell?_alloc_lt _ _ _ (World.block_lt_of_cell? _ _ hHeld.2.2.2.2.2.1)).trans hHeld.2.2.2.2.2.1,(World.cell?_alloc_lt _ _ _ (World.block_lt_of_cell? _ _ hHeld.2.2.2.2.2.2.1)).trans hHeld.2.2.2.2.2.2.1,(World.cell?_alloc_lt _ _ _ (World.block_lt_of_cell? _ _ hHeld.2.2.2.2.2.2.2.1)).trans hHeld.2.2.2.2.2.2.2.1,(World.cell?_alloc_lt _ _ _ (World.block_lt_of_cell? _ _ hHeld.2.2.2.2.2.2.2.2.1)).trans hHeld.2.2.2.2.2.2.2.2.1,(World.cell?_alloc_lt _ _ _ (World.block_lt_of_cell? _ _ hHeld.2.2.2.2.2.2.2.2.2)).trans hHeld.2.2.2.2.2.2.2.2.2⟩ (fun hHeld=> ?_)
 clear hK K
 try simp only [List.getElem_toArray,List.getElem_cons_zero,List.getElem_cons_succ,Act.put,List.setIfInBounds_toArray,List.set_cons_zero,List.set_cons_succ]
 have HA:Hid (OwnK 52 kSym B (fun b=>b<(wd.alloc (.cells #[.string ⟨x.name.toArray⟩,.string ⟨x.version.toArray⟩,.bool x.old,.int .i64 x.kind,.bool x.weak,.int .i64 x.vis,.bool true,.int .i64 0,.int .i64 0] 52 (0,0))).heap.size∧¬ v.syms.ownBlock=some b) (wd.alloc (.cells #[.string ⟨x.name.toArray⟩,.string ⟨x.version.toArray⟩,.bool x.old,.int .i64 x.kind,.bool x.weak,.int .i64 x.vis,.bool true,.int .i64 0,.int .i64 0] 52 (0,0))) (.slice sa n scap) p4.syms):=Lib.hid (by rw [← Hsf.out];exact HMn.out.syms.reE flat_sym (fun g hg h=>h.2 hg))
 have HR:Hid (kSym.R (fun b=>b<(wd.alloc (.cells #[.string ⟨x.name.toArray⟩,.string ⟨x.version.toArray⟩,.bool x.old,.int .i64 x.kind,.bool x.weak,.int .i64 x.vis,.bool true,.int .i64 0,.int .i64 0] 52 (0,0))).heap.size∧¬ (b<(wd.alloc (.cells #[.string ⟨x.name.toArray⟩,.string ⟨x.version.toArray⟩,.bool x.old,.int .i64 x.kind,.bool x.weak,.int .i64 x.vis,.bool true,.int .i64 0,.int .i64 0] 52 (0,0))).heap.size∧¬ v.syms.ownBlock=some b)∧(Value.slice sa n scap).ownBlock≠some b) (wd.alloc (.cells #[.string ⟨x.name.toArray⟩,.string ⟨x.version.toArray⟩,.bool x.old,.int .i64 x.kind,.bool x.weak,.int .i64 x.vis,.bool true,.int .i64 0,.int .i64 0] 52 (0,0))) (defSym x) (symCells (defSym x))):=Lib.hid ⟨rfl,defSym_ok Hx.out⟩
 have HKn:=Lib.hid (HK4d.out.alloc (.cells #[.string ⟨x.name.toArray⟩,.string ⟨x.version.toArray⟩,.bool x.old,.int .i64 x.kind,.bool x.weak,.int .i64 x.vis,.bool true,.int .i64 0,.int .i64 0] 52 (0,0)))
 generalize wd.alloc (.cells #[.string ⟨x.name.toArray⟩,.string ⟨x.version.toArray⟩,.bool x.old,.int .i64 x.kind,.bool x.weak,.int .i64 x.vis,.bool true,.int .i64 0,.int .i64 0] 52 (0,0))=wn at *
 refine wpAnyH_ready (rs:=[7]) (by kernel_rfl) (by simp) ?_
 refine AllReadyH.cons rfl (fun K hK=> ?_) AllReadyH.nil
 rw [if_pos (by rfl)]
 simp only [List.getElem_toArray,List.getElem_cons_succ,List.getElem_cons_zero]
 refine wp_appendK (K:=kSym) (v:=.slice sa n scap) (e:=52) (B:=B) 32 _ 88 Try.underlying32 info_sym rfl (by decide) (.tmp 64) (.tmp 66) rfl n (by rw [Hp4.out];exact Hn.out.symm) rfl HA.out (fun b hb=>hb.1) wd.heap.size (defSym x) (symCells (defSym x)) rfl (cells_row HNn.out) (one_sym _) HR.out (by rw [Hp4.out,← Hn.out];omega) (by rw [Hp4.out,← Hn.out];omega) (by omega) ?_
 rintro g c2 w9 ho9 hs9 hg9-
 have HP9:=Lib.hid (HMn.out.putSyms (u:=.slice (some ⟨g,0,none⟩) (n+1) c2) (l:=p4.syms++[defSym x]) (by rw [Hsf.out];exact hs9) (ho9.reE flat_sym (fun _ _ h=>h)) (by
  intro b hb
  rw [Hsf.out]at ho9 ⊢
  exact ho9.where_ b hb))
 have hpb9:pb<wn.heap.size∧(Value.slice sa n scap).ownBlock≠some pb:=⟨by omega,fun e=>HMn.out.syms.notE pb (by rw [Hsf.out];exact e) (Or.inl rfl)⟩
 have hbx9:w.heap.size<wn.heap.size∧(Value.slice sa n scap).ownBlock≠some w.heap.size:=⟨HKn.out.lt,fun e=>HKn.out.no (Or.inl (by rw [Hsf.out];exact e))⟩
 have Hex9:=Lib.hid ((hs9.block pb hpb9).trans HMn.out.ex)
 refine hK.out _ _ ⟨(hs9.cell (p:=⟨pb,9,none⟩) hpb9).trans hHeld.1,(hs9.cell (p:=⟨w.heap.size,0,none⟩) hbx9).trans hHeld.2.1,(hs9.cell (p:=⟨w.heap.size,1,none⟩) hbx9).trans hHeld.2.2.1,(hs9.cell (p:=⟨w.heap.size,2,none⟩) hbx9).trans hHeld.2.2.2.1,(hs9.cell (p:=⟨w.heap.size,3,none⟩) hbx9).trans hHeld.2.2.2.2.1,(hs9.cell (p:=⟨w.heap.size,4,none⟩) hbx9).trans hHeld.2.2.2.2.2.1,(hs9.cell (p:=⟨w.heap.size,5,none⟩) hbx9).trans hHeld.2.2.2.2.2.2.1,(hs9.cell (p:=⟨w.heap.size,6,none⟩) hbx9).trans hHeld.2.2.2.2.2.2.2.1,(hs9.cell (p:=⟨w.heap.size,7,none⟩) hbx9).trans hHeld.2.2.2.2.2.2.2.2.1,(hs9.cell (p:=⟨w.heap.size,8,none⟩) hbx9).trans hHeld.2.2.2.2.2.2.2.2.2⟩ (fun hHeld=> ?_)
 clear hK K ho9 hs9 hpb9 hbx9
 try simp only [List.getElem_toArray,List.getElem_cons_zero,List.getElem_cons_succ,Act.put,List.setIfInBounds_toArray,List.set_cons_zero,List.set_cons_succ]
 refine wpAnyH_done (by kernel_rfl) ?_ _
 simp only [phaseQ]
 clear hHeld
 have c9:w9.cell? ⟨pb,9,none⟩=some v.syms:=planCell Hex9.out 9 _ rfl
 rw [Hsf.out]at c9
 have f9:w9.frozen? ⟨pb,9,none⟩=false:=Lib.frozen_of_heap Hex9.out 9
 have HEnd:Hid (PlanM B pb (w9.setCell ⟨pb,9,none⟩ (.slice (some ⟨g,0,none⟩) (n+1) c2)) sv s own {v with syms:=.slice (some ⟨g,0,none⟩) (n+1) c2 } (p.define x tls e)∧PStep pb v {v with syms:=.slice (some ⟨g,0,none⟩) (n+1) c2 } w (w9.setCell ⟨pb,9,none⟩ (.slice (some ⟨g,0,none⟩) (n+1) c2))):=Lib.hid (by
  rw [HD2.out,← Hp4.out]
  exact⟨HP9.out.1,HSn.out.trans HP9.out.2⟩)
 clear Hex9
 go_wp2
 go_end0
 exact⟨rfl,_,HEnd.out.1,HEnd.out.2⟩
end Go.Proofs.Ytpomdoliblilfaa
