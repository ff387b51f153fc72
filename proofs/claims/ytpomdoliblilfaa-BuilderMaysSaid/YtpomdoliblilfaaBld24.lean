/- Lemmas. -/
import Derived.Test.YtpomdoliblilfaaBld23
import Derived.Test.YtpomdoliblilfaaBld17
import Derived.Outline
namespace Go.Proofs.Ytpomdoliblilfaa
set_option linter.unusedVariables false
set_option linter.unusedSimpArgs false
open Go.RowKit
theorem MakeL.appendN {α:Type} {e:TypeId} {K:Kind α} {B N:Nat} {w1 w w':World} {o:Value} {l:List α} (hK:FlatK K) (h:MakeL e K B w1 w o l) {o':Value} {l':List α} {E:Nat→Prop} (hown:OwnK e K B E w' o' l') (hN:w.heap.size=N) (hst:Step (fun b=>b<N∧¬ o.ownBlock=some b) w w'):MakeL e K B w1 w' o' l':=by
 subst hN
 exact h.append hK hown hst
theorem wp_appendM {α:Type} {e:TypeId} {K:Kind α} {f:α→List Value} {P:α→Prop} {B:Nat} {w1 w:World} {v:Value} {l:List α} {o:Oper} {a:Act} {C:Act→World→Prop} {Q:Exit→Act→World→Prop} (hp:RowK K f P) (hK:FlatK K) (t:TypeId) (z:Value) (bytes:Nat) (ht:Try.prog.underlying t=some (.slice e)) (hinfo:(Try.prog.info? e).map (fun i=>(i.zero,i.size,i.bytes))=some (some z,K.k,bytes))
  (hzs:z.cells.size=K.k) (s x:Operand) (ho:o.op=.call {callee:=.builtin .append,args:=#[s,x],argTypes:=#[t,t]})
  (n:Nat) (hn:l.length=n) (hs:a.eval s=v) (hM:MakeL e K B w1 w v l) (nb:Nat) (y:α) (hP:P y) (hx:a.eval x=.slice (some ⟨nb,0,none⟩) 1 1) (hcell:∀ j u,(f y)[j]? =some u→w.cell? ⟨nb,j,none⟩=some u)
  (hlen:(l.length+1)*bytes≤140737488355328) (hl63:l.length<1099511627776)
  (h:∀ g c w',MakeL e K B w1 w' (.slice (some ⟨g,0,none⟩) (n+1) c) (l++[y])→Step (fun b=>b<w.heap.size∧v.ownBlock≠some b) w w'→C (a.put o.dst (.slice (some ⟨g,0,none⟩) (n+1) c)) w'):o.wp Try.prog a w C Q:=
 wp_appendK (K:=K) (v:=v) (e:=e) (B:=B) t z bytes ht hinfo hzs hp.pos s x ho n hn hs hM.own (fun _ hb=>hb.elim) nb y (f y) hx hcell (hp.cell y) (hp.made _ _ y hP) hlen hl63 hM.hB (fun g c w' h1 h2 _ _=>h g c w' (hM.append hK h1 h2) h2)
set_option maxHeartbeats 16000000 in
set_option maxRecDepth 100000 in
theorem relocs_any {B pb:Nat} {w:World} {sv:SpecV} {s:SpecL} {own:Int} {v:PlanV} {p:PlanL} {y:LayN} {vars:List Int} (fa:Option Addr) (fl fc:Nat) (va:Option Addr) (vc:Nat) (yl:LayL) (hyl:yl.got=y.got∧yl.vars=vars)
  (hvv:LB kInt (·<w.heap.size) w (.slice va vars.length vc) vars) (hM:PlanM B pb w sv s own v p) (hS:SpecM (·<B) w sv s) (hB:B≤w.heap.size) (hin:∀ v∈s.vars,VarIn p v) (hcu:∀ c∈p.cells,0≤c.1∧c.1≤3) (hwd:∀ v∈s.vars,∀ r∈v.refs,0≤r.word∧r.word≤256)
  (hlen:vars.length=s.vars.length) (hvr:∀ x∈vars,0≤x∧x≤100000000) (hv:s.vars.length≤2000) (hf:s.funcs.length≤2000) (hr:(s.vars.flatMap (·.refs)).length≤2000) (hsz:p.sz≤999990) (hy:0≤y.got∧y.got≤25000000):
  Calls Try.prog 23 #[.agg (layCells pb (.slice fa fl fc) (.slice va vars.length vc) y).toArray] w (MadeK 124 kRel w (relsL s yl p).2):=by
 rw [rels_eq yl hin,hyl.1,hyl.2]
 obtain⟨nv,hnv⟩:∃ nv,nv=vars.length:=⟨_,rfl⟩
 have Hnv:=Lib.hid hnv
 have Hlen:=Lib.hid (hnv.trans hlen)
 rw [← hnv]at hvv ⊢
 have hv2:nv≤2000:=by omega
 have HYX:=Lib.hid (heap_alloc_new w (.cells #[.pointer (some ⟨pb,0,none⟩),.slice fa fl fc,.slice va nv vc,.int .i64 y.stubs,.int .i64 y.got,.int .i64 y.plt,.int .i64 0,.int .i64 y.text,.int .i64 y.data,.int .i64 y.tls] 83 (0,0)))
 have HMA:=Lib.hid (hM.alloc (.cells #[.pointer (some ⟨pb,0,none⟩),.slice fa fl fc,.slice va nv vc,.int .i64 y.stubs,.int .i64 y.got,.int .i64 y.plt,.int .i64 0,.int .i64 y.text,.int .i64 y.data,.int .i64 y.tls] 83 (0,0)))
 have HbA:=Lib.hid ((Below.refl w.heap.size w).alloc (Nat.le_refl _) (.cells #[.pointer (some ⟨pb,0,none⟩),.slice fa fl fc,.slice va nv vc,.int .i64 y.stubs,.int .i64 y.got,.int .i64 y.plt,.int .i64 0,.int .i64 y.text,.int .i64 y.data,.int .i64 y.tls] 83 (0,0)))
 have HVA:=Lib.hid (hvv.below HbA.out)
 have HSA:=Lib.hid (hS.keeps (.of_below (HbA.out.mono hB)))
 have Hin:=Lib.hid hin
 have Hcu:=Lib.hid hcu
 have Hwd:=Lib.hid hwd
 have Hvr:=Lib.hid hvr
 have Hsz:=Lib.hid hsz
 have Hr:=Lib.hid hr
 have hzA:w.heap.size<(w.alloc (.cells #[.pointer (some ⟨pb,0,none⟩),.slice fa fl fc,.slice va nv vc,.int .i64 y.stubs,.int .i64 y.got,.int .i64 y.plt,.int .i64 0,.int .i64 y.text,.int .i64 y.data,.int .i64 y.tls] 83 (0,0))).heap.size:=by simp
 obtain⟨w2,w3,w4,w5,r2,r3,r4,r5,hkm,hb5,hz5⟩:=kinds_made (w.alloc (.cells #[.pointer (some ⟨pb,0,none⟩),.slice fa fl fc,.slice va nv vc,.int .i64 y.stubs,.int .i64 y.got,.int .i64 y.plt,.int .i64 0,.int .i64 y.text,.int .i64 y.data,.int .i64 y.tls] 83 (0,0)))
 have hmm:= @run_makeMap Try.prog
 show Calls Try.prog 23 #[.agg #[.pointer (some ⟨pb,0,none⟩),.slice fa fl fc,.slice va nv vc,.int .i64 y.stubs,.int .i64 y.got,.int .i64 y.plt,.int .i64 0,.int .i64 y.text,.int .i64 y.data,.int .i64 y.tls]] w _
 rw [World.size_alloc]at r2 r3 r4 r5 hz5
 have HKm:Hid (KindsM (w.heap.size+1) w5):=Lib.hid (by rwa [World.size_alloc]at hkm)
 have HY5:=Lib.hid ((hb5.block w.heap.size hzA).trans HYX.out)
 have HM5:=Lib.hid (HMA.out.below hb5)
 have HV5:=Lib.hid (((HVA.out.mono (Nat.le_of_lt hzA)).below hb5).mono hb5.size)
 have HS5:=Lib.hid (HSA.out.keeps (.of_below (hb5.mono (Nat.le_of_lt (Nat.lt_of_le_of_lt hB hzA)))))
 have HBel5:=Lib.hid (HbA.out.trans (hb5.mono (Nat.le_of_lt hzA)))
 have hBz:B≤w5.heap.size:=by omega
 have hlbz:w.heap.size<w5.heap.size:=by omega
 have hSB:w.heap.size<(w.alloc (.cells #[.pointer (some ⟨pb,0,none⟩),.slice fa fl fc,.slice va nv vc,.int .i64 y.stubs,.int .i64 y.got,.int .i64 y.plt,.int .i64 0,.int .i64 y.text,.int .i64 y.data,.int .i64 y.tls] 83 (0,0))).heap.size:=hzA
 have hpl:=hM.lt
 have hpl5:pb<w5.heap.size:=by omega
 clear hM hS hvv hin hcu hwd hvr hlen hnv hyl hkm hb5 hsz hr
 go_enter Try.func23,Try.ntmps23
 have y0:w5.cell? ⟨w.heap.size,0,none⟩=some (.pointer (some ⟨pb,0,none⟩)):=by rw [Lib.cell_of_heap HY5.out];rfl
 obtain⟨cla,clc,hcl⟩:=HM5.out.cells.form
 have c11:=HM5.out.c11
 rw [hcl]at c11
 obtain⟨nc,hnc⟩:∃ nc,nc=p.cells.length:=⟨_,rfl⟩
 have Hnc:=Lib.hid hnc
 rw [← hnc]at c11
 have hnc2:nc≤999990:=by have:=Hsz.out;unfold PlanL.sz at this;omega
 have hlbC:∃ E:Nat→Prop,LB kCell (·<w5.heap.size) w5 (.slice cla nc clc) p.cells:=⟨fun _=>False,by have h:=(HM5.out.cells.lb).imp (S':=(·<w5.heap.size)) (fun b hb=>hb.1);rwa [hcl,← hnc]at h⟩
 obtain⟨-,hlbC⟩:=hlbC
 have HlbC:=Lib.hid hlbC
 clear hcl hnc hlbC hSB hzA hz5
 go_upto_block 0 with fail
 clear r2 r3 r4 r5 hmm
 have HO5:=Lib.hid (MakeL.start 124 kRel w5)
 generalize hlb:w.heap.size=lb at *
 have Hlb:=Lib.hid hlb
 clear hlb
 obtain⟨z5,hz5⟩:∃ z5,z5=w5.heap.size:=⟨_,rfl⟩
 have Hz5:=Lib.hid hz5
 rw [← hz5]at HO5 HlbC hBz hlbz hpl5 HV5
 clear hz5
 go_cut [3] (fun o wx=>MakeL 124 kRel z5 w5 wx o (cellRels y.got 0 p.cells))
 case first=>
  go_wp2_with fail
  clear y0 c11
  obtain⟨cb_,cbb,cbo,cbc,hcf,-,-,hcat⟩:=HlbC.out.at
  have hca:=hcat.addr
  have Hcat:=Lib.hid hcat
  rw [← Hnc.out]at hca hcf
  obtain rfl:cla=cb_:=by cases hcf;rfl
  clear hcat hcf
  go_loopw [3,19] (fun o i wr=>∃ k:Nat,i=.int .i64 k∧k≤nc∧MakeL 124 kRel z5 w5 wr o (cellRels y.got 0 (p.cells.take k))) (fun _ i _=>nc-(intOf i).toNat)
  case atStart=>exact⟨0,rfl,Nat.zero_le _,HO5.out⟩
  case round=>
   obtain⟨k,rfl,hk,hO⟩:=hrel
   have HO:=Lib.hid hO
   clear hO
   by_cases hlt:k<nc
   ·obtain⟨c,hc⟩:∃ c,p.cells[k]? =some c:=⟨_,List.getElem?_eq_getElem (by rw [← Hnc.out];exact hlt)⟩
    obtain rfl:=hca (by omega)
    obtain⟨g0,g1⟩:=(Hcat.out.below HO.out.below).cell2 k c hc
    have hcu:=Hcu.out c (List.mem_of_getElem? hc)
    have HSn:Hid (cellRels y.got 0 (p.cells.take (k+1))=cellRels y.got 0 (p.cells.take k)++[⟨y.got+8*(k:Int),useKind c.1,c.2,0⟩]):=Lib.hid (by
     rw [take_snocB hc,cellRels_snoc,List.length_take,Nat.min_eq_left (by have:=Hnc.out;omega),Nat.zero_add])
    have hll:=cellRels_len y.got (p.cells.take k) 0
    rw [List.length_take,Nat.min_eq_left (by have:=Hnc.out;omega)]at hll
    obtain⟨q,hq⟩:∃ q,q=cellRels y.got 0 (p.cells.take k):=⟨_,rfl⟩
    rw [← hq]at HO HSn hll
    obtain⟨oa,oc,hof⟩:=HO.out.own.form
    obtain⟨n,hn⟩:∃ n,n=q.length:=⟨_,rfl⟩
    have Hn:=Lib.hid hn
    rw [← hn]at hof hll
    subst hof
    have hnn:n≤999990:=by omega
    have hY:=(HO.out.below.block lb hlbz).trans HY5.out
    have y4:wr.cell? ⟨lb,4,none⟩=some (.int .i64 y.got):=by rw [Lib.cell_of_heap hY];rfl
    have hlbw:lb<wr.heap.size:=by have:=HO.out.hB;omega
    have HOa:=Lib.hid (HO.out.alloc (.cells #[.int .i64 c.1,.int .i64 c.2] 122 (0,0)))
    have HOb:=Lib.hid (HOa.out.alloc (.cells #[.int .i64 (y.got+8*(k:Int)),.int .i64 (useKind c.1),.int .i64 c.2,.int .i64 0] 124 (0,0)))
    have hlk:=(HKm.out.keep (HOa.out.below.block (lb+1) (by have:=HKm.out.lt;have:=Hz5.out;omega))).look (c:=c.1) (by unfold In63;omega)
    have HLb:Hid (LB kRel (fun b=>b=wr.heap.size+1) ((wr.alloc (.cells #[.int .i64 c.1,.int .i64 c.2] 122 (0,0))).alloc (.cells #[.int .i64 (y.got+8*(k:Int)),.int .i64 (useKind c.1),.int .i64 c.2,.int .i64 0] 124 (0,0))) (.slice (some ⟨wr.heap.size+1,0,none⟩) 1 1) [⟨y.got+8*(k:Int),useKind c.1,c.2,0⟩]):=Lib.hid (by
     have h:=row_rel.new_lb (wr.alloc (.cells #[.int .i64 c.1,.int .i64 c.2] 122 (0,0))) 124 [⟨y.got+8*(k:Int),useKind c.1,c.2,0⟩] (by simp) (fun _ _=>trivial)
     rw [World.size_alloc]at h;exact h)
    have hk2:(k:Int)<(nc:Int):=by omega
    clear hY hq hn hll hc hcu
    go_wp2_with (at_builtin;go_loud (refine wpList_appendsR (v:=.slice oa n oc) (l:=q) row_rel 39 _ 32 Try.underlying39 info_rel rfl rfl (.tmp 24) (.tmp 37) rfl rfl HOb.out.own (fun b hb=>hb.elim) (.slice (some ⟨wr.heap.size+1,0,none⟩) 1 1) [⟨y.got+8*(k:Int),useKind c.1,c.2,0⟩] rfl HLb.out (by rw [← Hn.out];simp only [List.length_cons,List.length_nil];omega) (by rw [← Hn.out];simp only [List.length_cons,List.length_nil];omega) HOb.out.hB ?_))
    intro o7 w7 hown7 hst7 hnew7
    have HO7:=Lib.hid (MakeL.appendN flat_rel HOb.out hown7 (by simp) hst7)
    obtain⟨oa7,oc7,hof7⟩:=hown7.form
    rw [hof7]at HO7 ⊢
    clear hown7 hst7 hnew7 hof7 g0 g1 y4 hlk
    go_wp2
    go_roundw
    case rel=>exact⟨k+1,by go_num,by omega,by rw [HSn.out];exact HO7.out⟩
    case measure=>simp [intOf];omega
   ·have HE:Hid (MakeL 124 kRel z5 w5 wr u3 (cellRels y.got 0 p.cells)):=Lib.hid (by
     have h:=HO.out
     rwa [List.take_of_length_le (by have:=Hnc.out;omega)]at h)
    go_wp2_with fail
    go_meet
    exact HE.out
 case rest=>
 have HO:=Lib.hid hcut
 clear hcut c11 y0
 rename World=>wc
 have hY:=(HO.out.below.block lb hlbz).trans HY5.out
 have y0:wc.cell? ⟨lb,0,none⟩=some (.pointer (some ⟨pb,0,none⟩)):=by rw [Lib.cell_of_heap hY];rfl
 obtain⟨vfa,vfb,vfo,vfc,hvf,-,-,hvat⟩:=HS5.out.vars.at
 have hva:=hvat.addr
 have Hvat:=Lib.hid hvat
 rw [← Hlen.out]at hva hvf
 have c5:wc.cell? ⟨pb,5,none⟩=some (.slice vfa nv vfc):=by
  have h:=(HM5.out.below (HO.out.below.mono (by have:=Hz5.out;omega))).c5
  rwa [hvf]at h
 clear hvat hvf hY
 go_wp2_with fail
 clear y0 c5
 obtain⟨nf,hnf⟩:∃ nf,nf=s.funcs.length:=⟨_,rfl⟩
 have Hnf:=Lib.hid hnf
 rw [← hnf]at hf
 have hcq:=cellRels_len y.got p.cells 0
 obtain⟨cq,hcq'⟩:∃ cq,cq=cellRels y.got 0 p.cells:=⟨_,rfl⟩
 have Hcq:=Lib.hid hcq'
 rw [← hcq']at HO hcq
 have hcq2:cq.length≤999990:=by have:=Hnc.out;omega
 clear hnf hcq hcq'
 go_loopw [3,47] (fun o i wr=>∃ k:Nat,i=.int .i64 k∧k≤nv∧MakeL 124 kRel z5 w5 wr o (cq++varsOut s.weak p nf vars 0 (s.vars.take k))) (fun _ i _=>nv-(intOf i).toNat)
 case atStart=>exact⟨0,rfl,Nat.zero_le _,by simpa [varsOut] using HO.out⟩
 case round=>
  obtain⟨k,rfl,hk,hO⟩:=hrel
  have HO:=Lib.hid hO
  clear hO
  by_cases hlt:k<nv
  ·obtain⟨x,hx⟩:∃ x,s.vars[k]? =some x:=⟨_,List.getElem?_eq_getElem (by rw [← Hlen.out];exact hlt)⟩
   obtain rfl:=hva (by omega)
   obtain⟨wv,rv,hwv,hrv,hso,g0,g1,g2,g3,g4,g5,g6,g7,g8,g9,g10,g11⟩:=Hvat.out.var12b (HO.out.below.mono hBz) k x hx
   obtain⟨wa_,wc_,rfl⟩:=hwv.form
   obtain⟨ra,rbk,roff,rc,hrf,hrm,hrcap,hrat⟩:=hrv.at
   subst hrf
   have hrl:x.refs.length≤2000:=by have:=refs_le hx;have:=Hr.out;omega
   have hra:=hrat.addr
   have HRat:=Lib.hid hrat
   obtain⟨a0,ha0⟩:∃ a0,vars[k]? =some a0:=⟨_,List.getElem?_eq_getElem (by rw [← Hnv.out];exact hlt)⟩
   have ha0r:=Hvr.out a0 (List.mem_of_getElem? ha0)
   have HSn:Hid (cq++varsOut s.weak p nf vars 0 (s.vars.take (k+1))=(cq++varsOut s.weak p nf vars 0 (s.vars.take k))++(copyRel a0 ((nf:Int)+(k:Int)) x++x.refs.map (refRel s.weak p a0))):=Lib.hid (by
    rw [take_snocB hx,varsOut_snoc,List.length_take,Nat.min_eq_left (by have:=Hlen.out;omega),Nat.zero_add,List.append_assoc]
    unfold varRel
    rw [show vars.getD k 0=a0 by rw [List.getD_eq_getElem?_getD,ha0];rfl,Int.natCast_add])
   have hvl:=varsOut_len s.weak p nf vars (s.vars.take k) 0
   rw [List.length_take,Nat.min_eq_left (by have:=Hlen.out;omega)]at hvl
   have hvl2:=take_refs_len s.vars k
   have hvl3:(cq++varsOut s.weak p nf vars 0 (s.vars.take k)).length≤1004000:=by rw [List.length_append];have:=Hr.out;omega
   have hwr:=Lib.hid (Hwd.out x (List.mem_of_getElem? hx))
   have hvi:=Lib.hid (Hin.out x (List.mem_of_getElem? hx))
   obtain⟨q,hq⟩:∃ q,q=cq++varsOut s.weak p nf vars 0 (s.vars.take k):=⟨_,rfl⟩
   rw [← hq]at HO HSn hvl3
   obtain⟨rn,hrn⟩:∃ rn,rn=x.refs.length:=⟨_,rfl⟩
   have Hrn:=Lib.hid hrn
   rw [← hrn]at g10 hra hrm hrcap hrl
   obtain⟨cp,hcp⟩:∃ cp,cp=x.copied:=⟨_,rfl⟩
   have Hcp:=Lib.hid hcp
   rw [← hcp]at g11
   have hk2:(k:Int)<(nv:Int):=by omega
   have HXa:=Lib.hid (heap_alloc_new wr (.cells #[.string ⟨x.sym.name.toArray⟩,.string ⟨x.sym.version.toArray⟩,.bool x.sym.old,.int .i64 x.sym.kind,.bool x.sym.weak,.int .i64 x.sym.vis,.bool x.sym.defined,.int .i64 x.sym.value,.int .i64 x.sym.size,.slice wa_ x.words.length wc_,.slice ra rn rc,.bool cp] 71 (0,0)))
   have HOa:=Lib.hid (HO.out.alloc (.cells #[.string ⟨x.sym.name.toArray⟩,.string ⟨x.sym.version.toArray⟩,.bool x.sym.old,.int .i64 x.sym.kind,.bool x.sym.weak,.int .i64 x.sym.vis,.bool x.sym.defined,.int .i64 x.sym.value,.int .i64 x.sym.size,.slice wa_ x.words.length wc_,.slice ra rn rc,.bool cp] 71 (0,0)))
   have Ha0:=Lib.hid ha0
   have hzb:wr.heap.size<(wr.alloc (.cells #[.string ⟨x.sym.name.toArray⟩,.string ⟨x.sym.version.toArray⟩,.bool x.sym.old,.int .i64 x.sym.kind,.bool x.sym.weak,.int .i64 x.sym.vis,.bool x.sym.defined,.int .i64 x.sym.value,.int .i64 x.sym.size,.slice wa_ x.words.length wc_,.slice ra rn rc,.bool cp] 71 (0,0))).heap.size:=by simp
   have hlbr:lb<wr.heap.size:=by have:=HO.out.hB;omega
   clear hq hvl hvl2 hx hso hwv hrv hrat hrn ha0 hcp
   obtain⟨oa,oc,hof⟩:=HO.out.own.form
   obtain⟨n,hn⟩:∃ n,n=q.length:=⟨_,rfl⟩
   have Hn:=Lib.hid hn
   rw [← hn]at hof hvl3
   subst hof
   have Hog:Hid (∀ g,(Value.slice oa n oc).ownBlock=some g→g<wr.heap.size):=Lib.hid (fun g hg=>(HO.out.own.lt g hg).2)
   clear hn
   obtain⟨sfa,sfc,hsf⟩:=HS5.out.funcs.form
   have Hsf:=Lib.hid hsf
   obtain⟨va',vvb,vvo,vvc,hvq,-,-,hvqat⟩:=HV5.out.at
   have hvqa:=hvqat.addr (by have:=Hnv.out;omega)
   rw [← Hnv.out]at hvq
   obtain⟨rfl,rfl⟩:va=va'∧vc=vvc:=by cases hvq;exact⟨rfl,rfl⟩
   subst hvqa
   have HVat:=Lib.hid hvqat
   clear hsf hvq hvqat
   go_upto_region 11 with fail
   clear g0 g1 g2 g3 g4 g5 g6 g7 g8 g9 g10 g11 HO
   generalize wr.alloc (.cells #[.string ⟨x.sym.name.toArray⟩,.string ⟨x.sym.version.toArray⟩,.bool x.sym.old,.int .i64 x.sym.kind,.bool x.sym.weak,.int .i64 x.sym.vis,.bool x.sym.defined,.int .i64 x.sym.value,.int .i64 x.sym.size,.slice wa_ x.words.length wc_,.slice ra rn rc,.bool cp] 71 (0,0))=wa at *
   generalize wr.heap.size=xb at *
   have l11:wa.cell? ⟨xb,11,none⟩=some (.bool cp):=cells_row HXa.out 11 _ rfl
   go_upto_if 53 with fail
   clear l11
   go_cut [3] (fun o wx=>MakeL 124 kRel z5 w5 wx o (q++copyRel a0 ((nf:Int)+(k:Int)) x)∧wx.heap[xb]? =some (.cells #[.string ⟨x.sym.name.toArray⟩,.string ⟨x.sym.version.toArray⟩,.bool x.sym.old,.int .i64 x.sym.kind,.bool x.sym.weak,.int .i64 x.sym.vis,.bool x.sym.defined,.int .i64 x.sym.value,.int .i64 x.sym.size,.slice wa_ x.words.length wc_,.slice ra rn rc,.bool cp] 71 (0,0)))
   case first=>
    have HYa:=Lib.hid ((HOa.out.below.block lb hlbz).trans HY5.out)
    have HMa:=Lib.hid (HM5.out.below (HOa.out.below.mono (by have:=Hz5.out;omega)))
    rcases (by cases cp<;>simp:cp=true∨cp=false)with hcp | hcp
    ·have HCR:Hid (copyRel a0 ((nf:Int)+(k:Int)) x=[⟨a0,2,(nf:Int)+(k:Int),0⟩]):=Lib.hid (by unfold copyRel;rw [← Hcp.out,hcp];rfl)
     subst hcp
     go_upto_region 12 with fail
     have hvv2:vvb<z5:=HVat.out.inS (by have:=Hnv.out;omega)
     refine wp_region_phase 18 (by kernel_rfl) (by kernel_rfl) ?_
     simp only [List.take_succ_cons,List.take_zero,List.drop_succ_cons,List.drop_zero,List.take_nil,List.drop_nil]
     refine wpAny_of_held (S:=fun w':World=>w'.cell? ⟨lb,0,none⟩=some (.pointer (some ⟨pb,0,none⟩))∧w'.cell? ⟨lb,2,none⟩=some (.slice (some ⟨vvb,vvo,none⟩) nv vc)∧w'.cell? ⟨vvb,vvo+k,none⟩=some (.int .i64 a0)∧w'.cell? ⟨pb,4,none⟩=some (.slice sfa nf sfc)) _ _ _ _ ?_
     have hHeld:(fun w':World=>w'.cell? ⟨lb,0,none⟩=some (.pointer (some ⟨pb,0,none⟩))∧w'.cell? ⟨lb,2,none⟩=some (.slice (some ⟨vvb,vvo,none⟩) nv vc)∧w'.cell? ⟨vvb,vvo+k,none⟩=some (.int .i64 a0)∧w'.cell? ⟨pb,4,none⟩=some (.slice sfa nf sfc)) (World.drew wa):=⟨(by rw [World.cell?_drew];rw [Lib.cell_of_heap HYa.out];rfl),(by rw [World.cell?_drew];rw [Lib.cell_of_heap HYa.out];rfl),(HVat.out.below HOa.out.below).int1 k a0 Ha0.out,(by have h:=HMa.out.c4;rw [Hsf.out,← Hnf.out]at h;exact h)⟩
     show wpAnyH _ _ _ _ _ _ _ _ (World.drew _)
     have HOd:=Lib.hid HOa.out.drew
     have HXd:Hid ((World.drew wa).heap[xb]? =some (.cells #[.string ⟨x.sym.name.toArray⟩,.string ⟨x.sym.version.toArray⟩,.bool x.sym.old,.int .i64 x.sym.kind,.bool x.sym.weak,.int .i64 x.sym.vis,.bool x.sym.defined,.int .i64 x.sym.value,.int .i64 x.sym.size,.slice wa_ x.words.length wc_,.slice ra rn rc,.bool true] 71 (0,0))):=Lib.hid HXa.out
     have hzd:xb<(World.drew wa).heap.size:=hzb
     generalize (World.drew wa)=wd at HOd HXd hHeld hzd ⊢
     have o1:IntKind.i64.wrap ((nf:Int)+(k:Int))=(nf:Int)+(k:Int):=IntWalk.i64_in _ (by omega)
     refine wpAnyH_take (i:=0) (v:= ?_) rfl (by kernel_rfl) (by kernel_rfl) (by kernel_rfl) (fun _ _ _ h=>h) (Or.inl ⟨by rfl,?_⟩) hHeld ?_
     rotate_left
     ·(intro w hSw;(try dsimp only at hSw);go_simp;try with_reducible rfl)
     simp only [List.getElem_toArray,List.getElem_cons_zero,List.getElem_cons_succ,Act.put,List.setIfInBounds_toArray,List.set_cons_zero,List.set_cons_succ]
     refine wpAnyH_take (i:=1) (v:= ?_) rfl (by kernel_rfl) (by kernel_rfl) (by kernel_rfl) (fun _ _ _ h=>h) (Or.inl ⟨by rfl,?_⟩) hHeld ?_
     rotate_left
     ·(intro w hSw;(try dsimp only at hSw);go_simp;try with_reducible rfl)
     simp only [List.getElem_toArray,List.getElem_cons_zero,List.getElem_cons_succ,Act.put,List.setIfInBounds_toArray,List.set_cons_zero,List.set_cons_succ]
     refine wpAnyH_take (i:=2) (v:= ?_) rfl (by kernel_rfl) (by kernel_rfl) (by kernel_rfl) (fun _ _ _ h=>h) (Or.inl ⟨by rfl,?_⟩) hHeld ?_
     rotate_left
     ·(intro w hSw;(try dsimp only at hSw);go_simp;try with_reducible rfl)
     simp only [List.getElem_toArray,List.getElem_cons_zero,List.getElem_cons_succ,Act.put,List.setIfInBounds_toArray,List.set_cons_zero,List.set_cons_succ]
     refine wpAnyH_take (i:=3) (v:= ?_) rfl (by kernel_rfl) (by kernel_rfl) (by kernel_rfl) (fun _ _ _ h=>h) (Or.inl ⟨by rfl,?_⟩) hHeld ?_
     rotate_left
     ·(intro w hSw;(try dsimp only at hSw);go_simp;try with_reducible rfl)
     simp only [List.getElem_toArray,List.getElem_cons_zero,List.getElem_cons_succ,Act.put,List.setIfInBounds_toArray,List.set_cons_zero,List.set_cons_succ]
     refine wpAnyH_take (i:=4) (v:= ?_) rfl (by kernel_rfl) (by kernel_rfl) (by kernel_rfl) (fun _ _ _ h=>h) (Or.inl ⟨by rfl,?_⟩) hHeld ?_
     rotate_left
     ·(intro w hSw;(try dsimp only at hSw);go_simp;try with_reducible rfl)
     simp only [List.getElem_toArray,List.getElem_cons_zero,List.getElem_cons_succ,Act.put,List.setIfInBounds_toArray,List.set_cons_zero,List.set_cons_succ]
     refine wpAnyH_take (i:=5) (v:= ?_) rfl (by kernel_rfl) (by kernel_rfl) (by kernel_rfl) (fun _ _ _ h=>h) (Or.inl ⟨by rfl,?_⟩) hHeld ?_
     rotate_left
     ·(intro w hSw;(try dsimp only at hSw);go_simp;try with_reducible rfl)
     simp only [List.getElem_toArray,List.getElem_cons_zero,List.getElem_cons_succ,Act.put,List.setIfInBounds_toArray,List.set_cons_zero,List.set_cons_succ]
     refine wpAnyH_take (i:=6) (v:= ?_) rfl (by kernel_rfl) (by kernel_rfl) (by kernel_rfl) (fun _ _ _ h=>h) (Or.inl ⟨by rfl,?_⟩) hHeld ?_
     rotate_left
     ·(intro w hSw;(try dsimp only at hSw);go_simp;try with_reducible rfl)
     simp only [List.getElem_toArray,List.getElem_cons_zero,List.getElem_cons_succ,Act.put,List.setIfInBounds_toArray,List.set_cons_zero,List.set_cons_succ]
     refine wpAnyH_take (i:=7) (v:= ?_) rfl (by kernel_rfl) (by kernel_rfl) (by kernel_rfl) (fun _ _ _ h=>h) (Or.inl ⟨by rfl,?_⟩) hHeld ?_
     rotate_left
     ·(intro w hSw;(try dsimp only at hSw);go_simp;try with_reducible rfl)
     simp only [List.getElem_toArray,List.getElem_cons_zero,List.getElem_cons_succ,Act.put,List.setIfInBounds_toArray,List.set_cons_zero,List.set_cons_succ]
     refine wpAnyH_take (i:=8) (v:= ?_) rfl (by kernel_rfl) (by kernel_rfl) (by kernel_rfl) (fun _ _ _ h=>h) (Or.inl ⟨by rfl,?_⟩) hHeld ?_
     rotate_left
     ·(intro w hSw;(try dsimp only at hSw);go_simp;try with_reducible rfl)
     simp only [List.getElem_toArray,List.getElem_cons_zero,List.getElem_cons_succ,Act.put,List.setIfInBounds_toArray,List.set_cons_zero,List.set_cons_succ]
     refine wpAnyH_take (i:=9) (v:= ?_) rfl (by kernel_rfl) (by kernel_rfl) (by kernel_rfl) (fun _ _ _ h=>h) (Or.inl ⟨by rfl,?_⟩) hHeld ?_
     rotate_left
     ·(intro w hSw;(try dsimp only at hSw);go_simp;try with_reducible rfl)
     simp only [List.getElem_toArray,List.getElem_cons_zero,List.getElem_cons_succ,Act.put,List.setIfInBounds_toArray,List.set_cons_zero,List.set_cons_succ]
     refine wpAnyH_take (i:=10) (v:= ?_) rfl (by kernel_rfl) (by kernel_rfl) (by kernel_rfl) (fun _ _ _ h=>h) (Or.inl ⟨by rfl,?_⟩) hHeld ?_
     rotate_left
     ·(intro w hSw;(try dsimp only at hSw);go_simp;try with_reducible rfl)
     simp only [List.getElem_toArray,List.getElem_cons_zero,List.getElem_cons_succ,Act.put,List.setIfInBounds_toArray,List.set_cons_zero,List.set_cons_succ]
     refine wpAnyH_take (i:=11) (v:= ?_) rfl (by kernel_rfl) (by kernel_rfl) (by kernel_rfl) (fun _ _ _ h=>h) (Or.inl ⟨by rfl,?_⟩) hHeld ?_
     rotate_left
     ·(intro w hSw;(try dsimp only at hSw);go_simp;try with_reducible rfl)
     simp only [List.getElem_toArray,List.getElem_cons_zero,List.getElem_cons_succ,Act.put,List.setIfInBounds_toArray,List.set_cons_zero,List.set_cons_succ]
     refine wpAnyH_take (i:=12) (v:= ?_) rfl (by kernel_rfl) (by kernel_rfl) (by kernel_rfl) (fun _ _ _ h=>h) (Or.inl ⟨by rfl,?_⟩) hHeld ?_
     rotate_left
     ·(intro w hSw;(try dsimp only at hSw);go_simp;try with_reducible rfl)
     simp only [List.getElem_toArray,List.getElem_cons_zero,List.getElem_cons_succ,Act.put,List.setIfInBounds_toArray,List.set_cons_zero,List.set_cons_succ]
     refine wpAnyH_take (i:=13) (v:= ?_) rfl (by kernel_rfl) (by kernel_rfl) (by kernel_rfl) (fun _ _ _ h=>h) (Or.inl ⟨by rfl,?_⟩) hHeld ?_
     rotate_left
     ·(intro w hSw;(try dsimp only at hSw);go_simp;try with_reducible rfl)
     simp only [List.getElem_toArray,List.getElem_cons_zero,List.getElem_cons_succ,Act.put,List.setIfInBounds_toArray,List.set_cons_zero,List.set_cons_succ]
     refine wpAnyH_take (i:=14) (v:= ?_) rfl (by kernel_rfl) (by kernel_rfl) (by kernel_rfl) (fun _ _ _ h=>h) (Or.inl ⟨by rfl,?_⟩) hHeld ?_
     rotate_left
     ·(intro w hSw;(try dsimp only at hSw);go_simp;try with_reducible rfl)
     simp only [List.getElem_toArray,List.getElem_cons_zero,List.getElem_cons_succ,Act.put,List.setIfInBounds_toArray,List.set_cons_zero,List.set_cons_succ]
     refine wpAnyH_take (i:=15) (v:= ?_) rfl (by kernel_rfl) (by kernel_rfl) (by kernel_rfl) (fun _ _ _ h=>h) (Or.inl ⟨by rfl,?_⟩) hHeld ?_
     rotate_left
     ·(intro w hSw;(try dsimp only at hSw);go_simp;try with_reducible rfl)
     simp only [List.getElem_toArray,List.getElem_cons_zero,List.getElem_cons_succ,Act.put,List.setIfInBounds_toArray,List.set_cons_zero,List.set_cons_succ]
     clear o1
     have HOb:=Lib.hid (HOd.out.alloc (.cells #[.int .i64 a0,.int .i64 2,.int .i64 ((nf:Int)+(k:Int)),.int .i64 0] 124 (0,0)))
     have HXb:=Lib.hid ((heap_alloc_old wd (.cells #[.int .i64 a0,.int .i64 2,.int .i64 ((nf:Int)+(k:Int)),.int .i64 0] 124 (0,0)) hzd).trans HXd.out)
     have HXn:=Lib.hid (heap_alloc_new wd (.cells #[.int .i64 a0,.int .i64 2,.int .i64 ((nf:Int)+(k:Int)),.int .i64 0] 124 (0,0)))
     refine wpAnyH_ready (rs:=[16]) (by kernel_rfl) (by simp) ?_
     refine AllReadyH.cons rfl (fun K hK=> ?_) AllReadyH.nil
     go_simp
     refine hK.out _ _ ⟨(World.cell?_alloc_lt _ _ _ (World.block_lt_of_cell? _ _ hHeld.1)).trans hHeld.1,(World.cell?_alloc_lt _ _ _ (World.block_lt_of_cell? _ _ hHeld.2.1)).trans hHeld.2.1,(World.cell?_alloc_lt _ _ _ (World.block_lt_of_cell? _ _ hHeld.2.2.1)).trans hHeld.2.2.1,(World.cell?_alloc_lt _ _ _ (World.block_lt_of_cell? _ _ hHeld.2.2.2)).trans hHeld.2.2.2⟩ (fun hHeld=> ?_)
     clear hK K
     try simp only [List.getElem_toArray,List.getElem_cons_zero,List.getElem_cons_succ,Act.put,List.setIfInBounds_toArray,List.set_cons_zero,List.set_cons_succ]
     have hzn:wd.heap.size<(wd.alloc (.cells #[.int .i64 a0,.int .i64 2,.int .i64 ((nf:Int)+(k:Int)),.int .i64 0] 124 (0,0))).heap.size:=by simp
     generalize wd.alloc (.cells #[.int .i64 a0,.int .i64 2,.int .i64 ((nf:Int)+(k:Int)),.int .i64 0] 124 (0,0))=wn at *
     refine wpAnyH_ready (rs:=[17]) (by kernel_rfl) (by simp) ?_
     refine AllReadyH.cons rfl (fun K hK=> ?_) AllReadyH.nil
     rw [if_pos (by rfl)]
     simp only [List.getElem_toArray,List.getElem_cons_succ,List.getElem_cons_zero]
     refine wp_appendM row_rel flat_rel 39 _ 32 Try.underlying39 info_rel rfl (.tmp 54) (.tmp 70) rfl n Hn.out.symm rfl HOb.out wd.heap.size ⟨a0,2,(nf:Int)+(k:Int),0⟩ trivial rfl (cells_row HXn.out) (by rw [← Hn.out];omega) (by rw [← Hn.out];omega) ?_
     rintro g7 c7 w7 hO7 hs7
     have HO7:=Lib.hid hO7
     have HX7:=Lib.hid ((hs7.block xb ⟨by omega,fun e=>by have:=Hog.out _ e;omega⟩).trans HXb.out)
     have hzB:=HOb.out.hB
     refine hK.out _ _ ⟨(hs7.cell (p:=⟨lb,0,none⟩) ⟨by show lb<_;omega,fun e=>by have:=(HOb.out.own.lt lb e).1;omega⟩).trans hHeld.1,(hs7.cell (p:=⟨lb,2,none⟩) ⟨by show lb<_;omega,fun e=>by have:=(HOb.out.own.lt lb e).1;omega⟩).trans hHeld.2.1,(hs7.cell (p:=⟨vvb,vvo+k,none⟩) ⟨by show vvb<_;omega,fun e=>by have:=(HOb.out.own.lt vvb e).1;omega⟩).trans hHeld.2.2.1,(hs7.cell (p:=⟨pb,4,none⟩) ⟨by show pb<_;omega,fun e=>by have:=(HOb.out.own.lt pb e).1;omega⟩).trans hHeld.2.2.2⟩ (fun hHeld=> ?_)
     clear hK K hO7 hs7
     try simp only [List.getElem_toArray,List.getElem_cons_zero,List.getElem_cons_succ,Act.put,List.setIfInBounds_toArray,List.set_cons_zero,List.set_cons_succ]
     refine wpAnyH_done (by kernel_rfl) ?_ _
     simp only [phaseQ]
     clear hHeld
     go_wp2_with fail
     go_meet
     exact⟨by rw [HCR.out];exact HO7.out,HX7.out⟩
    ·have HCR:Hid (copyRel a0 ((nf:Int)+(k:Int)) x=[]):=Lib.hid (by unfold copyRel;rw [← Hcp.out,hcp];rfl)
     subst hcp
     go_wp2_with fail
     go_meet
     exact⟨by rw [HCR.out,List.append_nil];exact HOa.out,HXa.out⟩
   case rest=>
   obtain⟨hcut1,hcut2⟩:=hcut
   have HOc:=Lib.hid hcut1
   have l10:=cells_row hcut2 10 _ rfl
   rename World=>wb
   have hcl:(copyRel a0 ((nf:Int)+(k:Int)) x).length≤1:=by unfold copyRel;split<;>simp
   have hql:q.length≤1004000:=by have:=Hn.out;omega
   have hcl2:(q++copyRel a0 ((nf:Int)+(k:Int)) x).length≤1004001:=by rw [List.length_append];omega
   obtain⟨acc,hacc⟩:∃ acc,acc=q++copyRel a0 ((nf:Int)+(k:Int)) x:=⟨_,rfl⟩
   have HSn2:Hid (cq++varsOut s.weak p nf vars 0 (s.vars.take (k+1))=acc++x.refs.map (refRel s.weak p a0)):=Lib.hid (by rw [HSn.out,hacc,List.append_assoc])
   rw [← hacc]at HOc hcl2
   clear hcut1 hcut2 hacc hcl hql HSn HOa HXa Hog
   go_wp2_with fail
   clear l10
   go_loopw [3,75] (fun o i wq=>∃ j:Nat,i=.int .i64 j∧j≤rn∧MakeL 124 kRel z5 w5 wq o (acc++(x.refs.take j).map (refRel s.weak p a0))) (fun _ i _=>rn-(intOf i).toNat)
   case atStart=>exact⟨0,rfl,Nat.zero_le _,by simpa using HOc.out⟩
   case round=>
    obtain⟨j,rfl,hj,hO⟩:=hrel
    have HO:=Lib.hid hO
    clear hO
    by_cases hjt:j<rn
    ·obtain rfl:=hra (by omega)
     obtain⟨r,hr⟩:∃ r,x.refs[j]? =some r:=⟨_,List.getElem?_eq_getElem (by rw [← Hrn.out];exact hjt)⟩
     obtain⟨⟨hrw,hrad,hrn,hrv⟩,g0,g1,g2,g3⟩:=(HRat.out.below (HO.out.below.mono hBz)).ref4 j r hr
     have hrw2:=hwr.out r (List.mem_of_getElem? hr)
     obtain⟨si,hsi⟩:=hvi.out r (List.mem_of_getElem? hr)
     have HSr:Hid (acc++(x.refs.take (j+1)).map (refRel s.weak p a0)=(acc++(x.refs.take j).map (refRel s.weak p a0))++[⟨a0+8*r.word,0,(si:Int),r.add⟩]):=Lib.hid (by
      rw [take_snocB hr,List.map_append,List.append_assoc]
      unfold refRel
      simp only [List.map_cons,List.map_nil,sym_found hsi])
     have hll:(acc++(x.refs.take j).map (refRel s.weak p a0)).length≤1007000:=by rw [List.length_append,List.length_map,List.length_take];omega
     have hsil:si≤999990:=by
      obtain⟨h,_⟩:=List.findIdx?_eq_some_iff_getElem.1 hsi
      have:=Hsz.out;unfold PlanL.sz at this;omega
     obtain⟨qr,hqr⟩:∃ qr,qr=acc++(x.refs.take j).map (refRel s.weak p a0):=⟨_,rfl⟩
     rw [← hqr]at HO HSr hll
     obtain⟨oa,oc,hof⟩:=HO.out.own.form
     obtain⟨n,hn⟩:∃ n,n=qr.length:=⟨_,rfl⟩
     have Hn:=Lib.hid hn
     rw [← hn]at hof hll
     subst hof
     have Hog:Hid (∀ g,(Value.slice oa n oc).ownBlock=some g→g<wr.heap.size):=Lib.hid (fun g hg=>(HO.out.own.lt g hg).2)
     have HOa:=Lib.hid (HO.out.alloc (.cells #[.int .i64 r.word,.string ⟨r.name.toArray⟩,.string ⟨r.ver.toArray⟩,.int .i64 r.add] 107 (0,0)))
     have HXr:=Lib.hid (heap_alloc_new wr (.cells #[.int .i64 r.word,.string ⟨r.name.toArray⟩,.string ⟨r.ver.toArray⟩,.int .i64 r.add] 107 (0,0)))
     have hj2:(j:Int)<(rn:Int):=by omega
     have hzr:wr.heap.size<(wr.alloc (.cells #[.int .i64 r.word,.string ⟨r.name.toArray⟩,.string ⟨r.ver.toArray⟩,.int .i64 r.add] 107 (0,0))).heap.size:=by simp
     have Hr2:=Lib.hid hrn
     have Hr3:=Lib.hid hrv
     have Hr4:=Lib.hid hsi
     clear hqr hn hr hrn hrv hsi
     go_upto_region 16 with fail
     clear g0 g1 g2 g3 HO
     generalize wr.alloc (.cells #[.int .i64 r.word,.string ⟨r.name.toArray⟩,.string ⟨r.ver.toArray⟩,.int .i64 r.add] 107 (0,0))=wa2 at *
     generalize wr.heap.size=rb at *
     have HYa:=Lib.hid ((HOa.out.below.block lb hlbz).trans HY5.out)
     have hlb2:lb<wa2.heap.size:=by have:=HOa.out.hB;omega
     have hvv2:vvb<z5:=by have:=HVat.out.inS (by have:=Hnv.out;omega);have:=Hz5.out;omega
     have hvv3:vvb<wa2.heap.size:=by have:=HOa.out.hB;omega
     refine wp_region_phase 22 (by kernel_rfl) (by kernel_rfl) ?_
     simp only [List.take_succ_cons,List.take_zero,List.drop_succ_cons,List.drop_zero,List.take_nil,List.drop_nil]
     refine wpAny_of_held (S:=fun w':World=>w'.cell? ⟨lb,0,none⟩=some (.pointer (some ⟨pb,0,none⟩))∧w'.cell? ⟨lb,2,none⟩=some (.slice (some ⟨vvb,vvo,none⟩) nv vc)∧w'.cell? ⟨vvb,vvo+k,none⟩=some (.int .i64 a0)∧w'.cell? ⟨rb,0,none⟩=some (.int .i64 r.word)∧w'.cell? ⟨rb,1,none⟩=some (.string ⟨r.name.toArray⟩)∧w'.cell? ⟨rb,2,none⟩=some (.string ⟨r.ver.toArray⟩)∧w'.cell? ⟨rb,3,none⟩=some (.int .i64 r.add)) _ _ _ _ ?_
     have hHeld:(fun w':World=>w'.cell? ⟨lb,0,none⟩=some (.pointer (some ⟨pb,0,none⟩))∧w'.cell? ⟨lb,2,none⟩=some (.slice (some ⟨vvb,vvo,none⟩) nv vc)∧w'.cell? ⟨vvb,vvo+k,none⟩=some (.int .i64 a0)∧w'.cell? ⟨rb,0,none⟩=some (.int .i64 r.word)∧w'.cell? ⟨rb,1,none⟩=some (.string ⟨r.name.toArray⟩)∧w'.cell? ⟨rb,2,none⟩=some (.string ⟨r.ver.toArray⟩)∧w'.cell? ⟨rb,3,none⟩=some (.int .i64 r.add)) (World.drew wa2):=⟨(by rw [World.cell?_drew];rw [Lib.cell_of_heap HYa.out];rfl),(by rw [World.cell?_drew];rw [Lib.cell_of_heap HYa.out];rfl),(HVat.out.below HOa.out.below).int1 k a0 Ha0.out,cells_row HXr.out 0 _ rfl,cells_row HXr.out 1 _ rfl,cells_row HXr.out 2 _ rfl,cells_row HXr.out 3 _ rfl⟩
     show wpAnyH _ _ _ _ _ _ _ _ (World.drew _)
     have HOd:=Lib.hid HOa.out.drew
     have hzd:rb<(World.drew wa2).heap.size:=hzr
     have hlbd:lb<(World.drew wa2).heap.size:=hlb2
     have hvvd:vvb<(World.drew wa2).heap.size:=hvv3
     generalize (World.drew wa2)=wd at HOd hHeld hzd hlbd hvvd ⊢
     have o1:IntKind.i64.wrap (8*r.word)=8*r.word:=IntWalk.i64_in _ (by omega)
     have o2:IntKind.i64.wrap (a0+8*r.word)=a0+8*r.word:=IntWalk.i64_in _ (by omega)
     refine wpAnyH_take (i:=0) (v:= ?_) rfl (by kernel_rfl) (by kernel_rfl) (by kernel_rfl) (fun _ _ _ h=>h) (Or.inl ⟨by rfl,?_⟩) hHeld ?_
     rotate_left
     ·(intro w hSw;(try dsimp only at hSw);go_simp;try with_reducible rfl)
     simp only [List.getElem_toArray,List.getElem_cons_zero,List.getElem_cons_succ,Act.put,List.setIfInBounds_toArray,List.set_cons_zero,List.set_cons_succ]
     refine wpAnyH_take (i:=1) (v:= ?_) rfl (by kernel_rfl) (by kernel_rfl) (by kernel_rfl) (fun _ _ _ h=>h) (Or.inl ⟨by rfl,?_⟩) hHeld ?_
     rotate_left
     ·(intro w hSw;(try dsimp only at hSw);go_simp;try with_reducible rfl)
     simp only [List.getElem_toArray,List.getElem_cons_zero,List.getElem_cons_succ,Act.put,List.setIfInBounds_toArray,List.set_cons_zero,List.set_cons_succ]
     refine wpAnyH_take (i:=2) (v:= ?_) rfl (by kernel_rfl) (by kernel_rfl) (by kernel_rfl) (fun _ _ _ h=>h) (Or.inl ⟨by rfl,?_⟩) hHeld ?_
     rotate_left
     ·(intro w hSw;(try dsimp only at hSw);go_simp;try with_reducible rfl)
     simp only [List.getElem_toArray,List.getElem_cons_zero,List.getElem_cons_succ,Act.put,List.setIfInBounds_toArray,List.set_cons_zero,List.set_cons_succ]
     refine wpAnyH_take (i:=3) (v:= ?_) rfl (by kernel_rfl) (by kernel_rfl) (by kernel_rfl) (fun _ _ _ h=>h) (Or.inl ⟨by rfl,?_⟩) hHeld ?_
     rotate_left
     ·(intro w hSw;(try dsimp only at hSw);go_simp;try with_reducible rfl)
     simp only [List.getElem_toArray,List.getElem_cons_zero,List.getElem_cons_succ,Act.put,List.setIfInBounds_toArray,List.set_cons_zero,List.set_cons_succ]
     refine wpAnyH_take (i:=4) (v:= ?_) rfl (by kernel_rfl) (by kernel_rfl) (by kernel_rfl) (fun _ _ _ h=>h) (Or.inl ⟨by rfl,?_⟩) hHeld ?_
     rotate_left
     ·(intro w hSw;(try dsimp only at hSw);go_simp;try with_reducible rfl)
     simp only [List.getElem_toArray,List.getElem_cons_zero,List.getElem_cons_succ,Act.put,List.setIfInBounds_toArray,List.set_cons_zero,List.set_cons_succ]
     refine wpAnyH_take (i:=5) (v:= ?_) rfl (by kernel_rfl) (by kernel_rfl) (by kernel_rfl) (fun _ _ _ h=>h) (Or.inl ⟨by rfl,?_⟩) hHeld ?_
     rotate_left
     ·(intro w hSw;(try dsimp only at hSw);go_simp;try with_reducible rfl)
     simp only [List.getElem_toArray,List.getElem_cons_zero,List.getElem_cons_succ,Act.put,List.setIfInBounds_toArray,List.set_cons_zero,List.set_cons_succ]
     refine wpAnyH_take (i:=6) (v:= ?_) rfl (by kernel_rfl) (by kernel_rfl) (by kernel_rfl) (fun _ _ _ h=>h) (Or.inl ⟨by rfl,?_⟩) hHeld ?_
     rotate_left
     ·(intro w hSw;(try dsimp only at hSw);go_simp;try with_reducible rfl)
     simp only [List.getElem_toArray,List.getElem_cons_zero,List.getElem_cons_succ,Act.put,List.setIfInBounds_toArray,List.set_cons_zero,List.set_cons_succ]
     refine wpAnyH_take (i:=7) (v:= ?_) rfl (by kernel_rfl) (by kernel_rfl) (by kernel_rfl) (fun _ _ _ h=>h) (Or.inl ⟨by rfl,?_⟩) hHeld ?_
     rotate_left
     ·(intro w hSw;(try dsimp only at hSw);go_simp;try with_reducible rfl)
     simp only [List.getElem_toArray,List.getElem_cons_zero,List.getElem_cons_succ,Act.put,List.setIfInBounds_toArray,List.set_cons_zero,List.set_cons_succ]
     refine wpAnyH_take (i:=8) (v:= ?_) rfl (by kernel_rfl) (by kernel_rfl) (by kernel_rfl) (fun _ _ _ h=>h) (Or.inl ⟨by rfl,?_⟩) hHeld ?_
     rotate_left
     ·(intro w hSw;(try dsimp only at hSw);go_simp;try with_reducible rfl)
     simp only [List.getElem_toArray,List.getElem_cons_zero,List.getElem_cons_succ,Act.put,List.setIfInBounds_toArray,List.set_cons_zero,List.set_cons_succ]
     refine wpAnyH_take (i:=9) (v:= ?_) rfl (by kernel_rfl) (by kernel_rfl) (by kernel_rfl) (fun _ _ _ h=>h) (Or.inl ⟨by rfl,?_⟩) hHeld ?_
     rotate_left
     ·(intro w hSw;(try dsimp only at hSw);go_simp;try with_reducible rfl)
     simp only [List.getElem_toArray,List.getElem_cons_zero,List.getElem_cons_succ,Act.put,List.setIfInBounds_toArray,List.set_cons_zero,List.set_cons_succ]
     refine wpAnyH_take (i:=10) (v:= ?_) rfl (by kernel_rfl) (by kernel_rfl) (by kernel_rfl) (fun _ _ _ h=>h) (Or.inl ⟨by rfl,?_⟩) hHeld ?_
     rotate_left
     ·(intro w hSw;(try dsimp only at hSw);go_simp;try with_reducible rfl)
     simp only [List.getElem_toArray,List.getElem_cons_zero,List.getElem_cons_succ,Act.put,List.setIfInBounds_toArray,List.set_cons_zero,List.set_cons_succ]
     refine wpAnyH_take (i:=11) (v:= ?_) rfl (by kernel_rfl) (by kernel_rfl) (by kernel_rfl) (fun _ _ _ h=>h) (Or.inl ⟨by rfl,?_⟩) hHeld ?_
     rotate_left
     ·(intro w hSw;(try dsimp only at hSw);go_simp;try with_reducible rfl)
     simp only [List.getElem_toArray,List.getElem_cons_zero,List.getElem_cons_succ,Act.put,List.setIfInBounds_toArray,List.set_cons_zero,List.set_cons_succ]
     refine wpAnyH_take (i:=12) (v:= ?_) rfl (by kernel_rfl) (by kernel_rfl) (by kernel_rfl) (fun _ _ _ h=>h) (Or.inl ⟨by rfl,?_⟩) hHeld ?_
     rotate_left
     ·(intro w hSw;(try dsimp only at hSw);go_simp;try with_reducible rfl)
     simp only [List.getElem_toArray,List.getElem_cons_zero,List.getElem_cons_succ,Act.put,List.setIfInBounds_toArray,List.set_cons_zero,List.set_cons_succ]
     refine wpAnyH_take (i:=13) (v:= ?_) rfl (by kernel_rfl) (by kernel_rfl) (by kernel_rfl) (fun _ _ _ h=>h) (Or.inl ⟨by rfl,?_⟩) hHeld ?_
     rotate_left
     ·(intro w hSw;(try dsimp only at hSw);go_simp;try with_reducible rfl)
     simp only [List.getElem_toArray,List.getElem_cons_zero,List.getElem_cons_succ,Act.put,List.setIfInBounds_toArray,List.set_cons_zero,List.set_cons_succ]
     refine wpAnyH_take (i:=14) (v:= ?_) rfl (by kernel_rfl) (by kernel_rfl) (by kernel_rfl) (fun _ _ _ h=>h) (Or.inl ⟨by rfl,?_⟩) hHeld ?_
     rotate_left
     ·(intro w hSw;(try dsimp only at hSw);go_simp;try with_reducible rfl)
     simp only [List.getElem_toArray,List.getElem_cons_zero,List.getElem_cons_succ,Act.put,List.setIfInBounds_toArray,List.set_cons_zero,List.set_cons_succ]
     refine wpAnyH_take (i:=15) (v:= ?_) rfl (by kernel_rfl) (by kernel_rfl) (by kernel_rfl) (fun _ _ _ h=>h) (Or.inl ⟨by rfl,?_⟩) hHeld ?_
     rotate_left
     ·(intro w hSw;(try dsimp only at hSw);go_simp;try with_reducible rfl)
     simp only [List.getElem_toArray,List.getElem_cons_zero,List.getElem_cons_succ,Act.put,List.setIfInBounds_toArray,List.set_cons_zero,List.set_cons_succ]
     refine wpAnyH_take (i:=17) (v:= ?_) rfl (by kernel_rfl) (by kernel_rfl) (by kernel_rfl) (fun _ _ _ h=>h) (Or.inl ⟨by rfl,?_⟩) hHeld ?_
     rotate_left
     ·(intro w hSw;(try dsimp only at hSw);go_simp;try with_reducible rfl)
     simp only [List.getElem_toArray,List.getElem_cons_zero,List.getElem_cons_succ,Act.put,List.setIfInBounds_toArray,List.set_cons_zero,List.set_cons_succ]
     refine wpAnyH_take (i:=18) (v:= ?_) rfl (by kernel_rfl) (by kernel_rfl) (by kernel_rfl) (fun _ _ _ h=>h) (Or.inl ⟨by rfl,?_⟩) hHeld ?_
     rotate_left
     ·(intro w hSw;(try dsimp only at hSw);go_simp;try with_reducible rfl)
     simp only [List.getElem_toArray,List.getElem_cons_zero,List.getElem_cons_succ,Act.put,List.setIfInBounds_toArray,List.set_cons_zero,List.set_cons_succ]
     refine wpAnyH_ready (rs:=[16]) (by kernel_rfl) (by simp) ?_
     refine AllReadyH.cons rfl (fun K hK=> ?_) AllReadyH.nil
     go_simp
     have HLw:=Lib.hid (HOd.out.below)
     refine(symHit_any r.name r.ver 2 (HM5.out.below (HLw.out.mono (by have:=Hz5.out;omega))) (HS5.out.keeps (.of_below (HLw.out.mono hBz))) Hr2.out Hr3.out (by decide) (by have:=Hsz.out;unfold PlanL.sz at this;omega) (by have:=HOd.out.hB;omega) Hr4.out).mono ?_
     rintro e w9 ⟨rfl,HB⟩
     have hz9:=HB.size
     have HO9:=Lib.hid (HOd.out.belowW HB)
     refine hK.out _ _ ⟨(HB.cell (p:=⟨lb,0,none⟩) hlbd).trans hHeld.1,(HB.cell (p:=⟨lb,2,none⟩) hlbd).trans hHeld.2.1,(HB.cell (p:=⟨vvb,vvo+k,none⟩) hvvd).trans hHeld.2.2.1,(HB.cell (p:=⟨rb,0,none⟩) hzd).trans hHeld.2.2.2.1,(HB.cell (p:=⟨rb,1,none⟩) hzd).trans hHeld.2.2.2.2.1,(HB.cell (p:=⟨rb,2,none⟩) hzd).trans hHeld.2.2.2.2.2.1,(HB.cell (p:=⟨rb,3,none⟩) hzd).trans hHeld.2.2.2.2.2.2⟩ (fun hHeld=> ?_)
     clear hK K HB
     try simp only [List.getElem_toArray,List.getElem_cons_zero,List.getElem_cons_succ,Act.put,List.setIfInBounds_toArray,List.set_cons_zero,List.set_cons_succ]
     refine wpAnyH_take (i:=19) (v:= ?_) rfl (by kernel_rfl) (by kernel_rfl) (by kernel_rfl) (fun _ _ _ h=>h) (Or.inl ⟨by rfl,?_⟩) hHeld ?_
     rotate_left
     ·(intro w hSw;(try dsimp only at hSw);go_simp;try with_reducible rfl)
     simp only [List.getElem_toArray,List.getElem_cons_zero,List.getElem_cons_succ,Act.put,List.setIfInBounds_toArray,List.set_cons_zero,List.set_cons_succ]
     clear o1 o2
     have HOb:=Lib.hid (HO9.out.alloc (.cells #[.int .i64 (a0+8*r.word),.int .i64 0,.int .i64 (si:Int),.int .i64 r.add] 124 (0,0)))
     have HXn:=Lib.hid (heap_alloc_new w9 (.cells #[.int .i64 (a0+8*r.word),.int .i64 0,.int .i64 (si:Int),.int .i64 r.add] 124 (0,0)))
     refine wpAnyH_ready (rs:=[20]) (by kernel_rfl) (by simp) ?_
     refine AllReadyH.cons rfl (fun K hK=> ?_) AllReadyH.nil
     go_simp
     refine hK.out _ _ ⟨(World.cell?_alloc_lt _ _ _ (World.block_lt_of_cell? _ _ hHeld.1)).trans hHeld.1,(World.cell?_alloc_lt _ _ _ (World.block_lt_of_cell? _ _ hHeld.2.1)).trans hHeld.2.1,(World.cell?_alloc_lt _ _ _ (World.block_lt_of_cell? _ _ hHeld.2.2.1)).trans hHeld.2.2.1,(World.cell?_alloc_lt _ _ _ (World.block_lt_of_cell? _ _ hHeld.2.2.2.1)).trans hHeld.2.2.2.1,(World.cell?_alloc_lt _ _ _ (World.block_lt_of_cell? _ _ hHeld.2.2.2.2.1)).trans hHeld.2.2.2.2.1,(World.cell?_alloc_lt _ _ _ (World.block_lt_of_cell? _ _ hHeld.2.2.2.2.2.1)).trans hHeld.2.2.2.2.2.1,(World.cell?_alloc_lt _ _ _ (World.block_lt_of_cell? _ _ hHeld.2.2.2.2.2.2)).trans hHeld.2.2.2.2.2.2⟩ (fun hHeld=> ?_)
     clear hK K
     try simp only [List.getElem_toArray,List.getElem_cons_zero,List.getElem_cons_succ,Act.put,List.setIfInBounds_toArray,List.set_cons_zero,List.set_cons_succ]
     have hzn:w9.heap.size<(w9.alloc (.cells #[.int .i64 (a0+8*r.word),.int .i64 0,.int .i64 (si:Int),.int .i64 r.add] 124 (0,0))).heap.size:=by simp
     generalize w9.alloc (.cells #[.int .i64 (a0+8*r.word),.int .i64 0,.int .i64 (si:Int),.int .i64 r.add] 124 (0,0))=wn at *
     refine wpAnyH_ready (rs:=[21]) (by kernel_rfl) (by simp) ?_
     refine AllReadyH.cons rfl (fun K hK=> ?_) AllReadyH.nil
     rw [if_pos (by rfl)]
     simp only [List.getElem_toArray,List.getElem_cons_succ,List.getElem_cons_zero]
     refine wp_appendM row_rel flat_rel 39 _ 32 Try.underlying39 info_rel rfl (.tmp 79) (.tmp 99) rfl n Hn.out.symm rfl HOb.out w9.heap.size ⟨a0+8*r.word,0,(si:Int),r.add⟩ trivial rfl (cells_row HXn.out) (by rw [← Hn.out];omega) (by rw [← Hn.out];omega) ?_
     rintro g7 c7 w7 hO7 hs7
     have HO7:=Lib.hid hO7
     have hzB:=HOb.out.hB
     refine hK.out _ _ ⟨(hs7.cell (p:=⟨lb,0,none⟩) ⟨by show lb<_;omega,fun e=>by have:=(HOb.out.own.lt lb e).1;omega⟩).trans hHeld.1,(hs7.cell (p:=⟨lb,2,none⟩) ⟨by show lb<_;omega,fun e=>by have:=(HOb.out.own.lt lb e).1;omega⟩).trans hHeld.2.1,(hs7.cell (p:=⟨vvb,vvo+k,none⟩) ⟨by show vvb<_;omega,fun e=>by have:=(HOb.out.own.lt vvb e).1;omega⟩).trans hHeld.2.2.1,(hs7.cell (p:=⟨rb,0,none⟩) ⟨by show rb<_;omega,fun e=>by have:=Hog.out rb e;omega⟩).trans hHeld.2.2.2.1,(hs7.cell (p:=⟨rb,1,none⟩) ⟨by show rb<_;omega,fun e=>by have:=Hog.out rb e;omega⟩).trans hHeld.2.2.2.2.1,(hs7.cell (p:=⟨rb,2,none⟩) ⟨by show rb<_;omega,fun e=>by have:=Hog.out rb e;omega⟩).trans hHeld.2.2.2.2.2.1,(hs7.cell (p:=⟨rb,3,none⟩) ⟨by show rb<_;omega,fun e=>by have:=Hog.out rb e;omega⟩).trans hHeld.2.2.2.2.2.2⟩ (fun hHeld=> ?_)
     clear hK K hO7 hs7
     try simp only [List.getElem_toArray,List.getElem_cons_zero,List.getElem_cons_succ,Act.put,List.setIfInBounds_toArray,List.set_cons_zero,List.set_cons_succ]
     refine wpAnyH_done (by kernel_rfl) ?_ _
     simp only [phaseQ]
     clear hHeld
     go_wp2
     go_roundw
     case rel=>exact⟨j+1,by go_num,by omega,by rw [HSr.out];exact HO7.out⟩
     case measure=>simp [intOf];omega
    ·have HE:Hid (MakeL 124 kRel z5 w5 wr u3 (cq++varsOut s.weak p nf vars 0 (s.vars.take (k+1)))):=Lib.hid (by
      have h:=HO.out
      rw [List.take_of_length_le (by have:=Hrn.out;omega)]at h
      rw [HSn2.out];exact h)
     go_wp2
     go_roundw
     case rel=>exact⟨k+1,by go_num,by omega,HE.out⟩
     case measure=>simp [intOf];omega
  ·have HE:Hid (MadeK 124 kRel w (cellRels y.got 0 p.cells++varsOut s.weak p s.funcs.length vars 0 s.vars) (.returned u3) wr):=Lib.hid (by
    rw [← Hcq.out,← Hnf.out]
    have h:=HO.out
    rw [List.take_of_length_le (by have:=Hlen.out;omega)]at h
    exact⟨u3,rfl,h.own.mono (by have:=Hlb.out;omega),by rw [Hlb.out];exact HBel5.out.trans (h.below.mono (by omega))⟩)
   go_wp2
   go_ret
   exact HE.out
end Go.Proofs.Ytpomdoliblilfaa
