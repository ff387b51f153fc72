/- Lemmas. -/
import Derived.Test.YtpomdoliblilfaaBld32
import Derived.Deep.DeepCutAuto
namespace Go.Proofs.Ytpomdoliblilfaa
set_option linter.unusedVariables false
set_option linter.unusedSimpArgs false
open Go.RowKit
section
variable {α : Type} {e : TypeId} {K : Kind α} {B : Nat} {E : Nat → Prop} {w w' : World} {v : Value} {l : List α}
theorem wp_appendN {o:Oper} {a:Act} {C:Act→World→Prop} {Q:Exit→Act→World→Prop} (t:TypeId) (z:Value) (bytes:Nat) (ht:Try.prog.underlying t=some (.slice e)) (hinfo:(Try.prog.info? e).map (fun i=>(i.zero,i.size,i.bytes))=some (some z,K.k,bytes))
  (hzs:z.cells.size=K.k) (hk:0<K.k) (s x:Operand)
  (ho:o.op=.call {callee:=.builtin .append,args:=#[s,x],argTypes:=#[t,t]})
  (n:Nat) (hn:l.length=n) (hs:a.eval s=v) (hown:OwnK e K B E w v l) (hE:∀ b,E b→b<w.heap.size) (nb:Nat) (y:α) (row:List Value) (hx:a.eval x=.slice (some ⟨nb,0,none⟩) 1 1)
  (hcell:∀ j u,row[j]? =some u→w.cell? ⟨nb,j,none⟩=some u) (hone:∀ u∈row,u.oneCell'=true) (hrow:K.R (fun b=>b<w.heap.size∧¬ E b∧v.ownBlock≠some b) w y row)
  (hlen:(l.length+1)*bytes≤140737488355328) (hl63:l.length<9223372036854775807) (hB:B≤w.heap.size)
  (h:∀ g c w',OwnK e K B E w' (.slice (some ⟨g,0,none⟩) (n+1) c) (l++[y])→Step (fun b=>b<w.heap.size∧v.ownBlock≠some b) w w'→g<w'.heap.size→(∀ b,b<w.heap.size→v.ownBlock≠some b→b≠g)→
   C (a.put o.dst (.slice (some ⟨g,0,none⟩) (n+1) c)) w'):o.wp Try.prog a w C Q:=by
 subst hn
 obtain⟨i0,hi,hz0,hz1,hz2⟩:=info_parts hinfo
 obtain⟨xs,h1,h2,h3⟩:=hown
 have hlt:=World.ownsRow.lt h1
 refine wp_append_lies w s x t ho B e i0 z K.k bytes ht hi hz0 hz1 hz2 hzs hk v l.length xs hs h1 ⟨nb,0,none⟩ 1 1 row hx (by rw [K.len hrow,Nat.one_mul]) ?_ hone (by decide) ?_ hlen hB _ rfl ?_
 ·intro j u hj
  have:=hcell j u hj
  simpa [Addr.add_lit] using this
 ·unfold maxLen;omega
 ·intro g c w' g1 g2 g3 g4
  have hst:Step (fun b=>b<w.heap.size∧v.ownBlock≠some b) w w':=Step.of_grown g2 (fun b hb=>⟨hb.1,hb.2⟩)
  have hsz:=hst.size
  have hgne:∀ b,b<w.heap.size→v.ownBlock≠some b→b≠g:=by
   intro b hb hne e
   subst e
   rcases g3 with h' | h'
   ·exact hne h'
   ·omega
  refine h g c w' ⟨xs++row,by simpa using g1,?_,?_⟩ hst g4 hgne
  ·have hr:=(h2.keeps (fun b hb=>hst.block b ⟨hb.1,hb.2.2⟩)).snoc (K.keeps hrow (fun b hb=>hst.block b ⟨hb.1,hb.2.2⟩))
   exact hr.imp fun b hb=>⟨by omega,hb.2.1,fun e=>hgne b hb.1 hb.2.2 (by simpa [Value.ownBlock] using e.symm)⟩
  ·intro g' hg' hEg
   have:g'=g:=by simpa [Value.ownBlock] using hg'.symm
   subst this
   rcases g3 with h' | h'
   ·exact h3 _ h' hEg
   ·have:=hE _ hEg;omega
end
theorem info_needB:(Try.prog.info? 73).map (fun i=>(i.zero,i.size,i.bytes))=some (some (.agg #[.string ⟨#[]⟩,.slice none 0 0]),2,40):=by kernel_rfl
set_option maxHeartbeats 64000000 in
set_option maxRecDepth 100000 in
theorem bt3 {w:World} {sv:SpecV} {s:SpecL} {a:Act} {w5:World} {own:Int} {v:PlanV} {p:PlanL} {fv vv:Value} {L0 lb ib:Nat} {rv:Value} {tl:Int} (hF:bFr [(1,.pointer (some ⟨w.heap.size,0,none⟩)),(2,.pointer (some ⟨w.heap.size+1,0,none⟩)),(3,.int .i64 0),(4,.pointer (some ⟨w.heap.size+2,0,none⟩)),(5,.pointer (some ⟨lb,0,none⟩)),(6,.pointer (some ⟨ib,0,none⟩))] a) (hC:BSt w sv s w5 own v p fv vv L0 lb ib {nilV with runPath:=rv } {imgNone with name:=s.name,flags:=s.flags,runPath:=s.runPath,tlsSize:=tl }) (hfew:FewL s)
  (hK:∀ a' wc nv,bFr [(1,.pointer (some ⟨w.heap.size,0,none⟩)),(2,.pointer (some ⟨w.heap.size+1,0,none⟩)),(3,.int .i64 0),(4,.pointer (some ⟨w.heap.size+2,0,none⟩)),(5,.pointer (some ⟨lb,0,none⟩)),(6,.pointer (some ⟨ib,0,none⟩))] a'→BSt w sv s wc own v p fv vv L0 lb ib {nilV with runPath:=rv,needed:=nv } {imgNone with name:=s.name,flags:=s.flags,runPath:=s.runPath,tlsSize:=tl,needed:=s.needed }→(bRest Try.f10 8).wp Try.prog (bodyPost Try.prog Try.f10 (BuildPost w s)) a' wc):(bRest Try.f10 7).wp Try.prog (bodyPost Try.prog Try.f10 (BuildPost w s)) a w5:=by
 have HK:=Lib.hid hK
 have HC:=Lib.hid hC
 have Hnd:=Lib.hid hfew.need
 have Hvs:=Lib.hid hfew.vers
 have hib:=hC.ibl
 have h0:=hC.h0
 obtain⟨na_,nb_,no_,nc_,hnf,hnm,hncap,hnat⟩:=hC.spec.needed.at
 have hna:=hnat.addr
 have Hnat:=Lib.hid hnat
 have c2:w5.cell? ⟨w.heap.size,2,none⟩=some sv.needed:=by rw [Lib.cell_of_heap hC.sx];rfl
 rw [hnf]at c2
 have hrl:=hC.img.runPath.form
 obtain⟨n,hn⟩:∃ n,n=s.needed.length:=⟨_,rfl⟩
 have Hn:=Lib.hid hn
 rw [← hn]at c2 hnm hncap hna
 have HX5:Hid (w5.heap[ib]? =some (.cells #[.string ⟨s.name.toArray⟩,.int .i64 s.flags,.slice none 0 0,.slice none 0 0,rv,.slice none 0 0,.slice none 0 0,.slice none 0 0,.int .i64 0,.slice none 0 0,.slice none 0 0,.slice none 0 0,.slice none 0 0,.slice none 0 0,.int .i64 tl] 44 (0,0))):=Lib.hid hC.ix
 have hn2:n*40≤140737488355328:=by have:=hfew.need;omega
 obtain⟨ra_,rc_,hrv⟩:=hrl
 replace hrv:rv=.slice ra_ s.runPath.length rc_:=hrv
 subst hrv
 clear hC hK hfew hnf hnat hn
 have e7:bRest Try.f10 7=.seq (bCode Try.f10 7) (bRest Try.f10 8):=bd_seq _ 7 (by kernel_rfl)
 rw [e7]
 clear e7
 apply bFr.elim hF
 clear hF
 intro V0 V1 V2 V3 V4 V5 V6 V7 V8 V9 V10 V11 V12 V13 V14 V15 V16 V17 V18 V19 V20 V21 V22 V23 V24 V25 V26 V27 V28 V29 V30 V31 V32 V33 V34 V35 V36 V37 V38 V39
  V40 V41 V42 V43 V44 V45 V46 V47 V48 V49 V50 V51 V52 V53 V54 V55 V56 V57 V58 V59 V60 V61 V62 V63 V64 V65 V66 V67 V68 V69 V70 V71 V72 V73 V74 V75 V76 V77 V78 V79
  V80 V81 V82 V83 V84 V85 V86 V87 V88 V89 V90 V91 V92 V93 V94 V95 V96 V97 V98 V99 V100 V101 V102 V103 V104 V105 V106 V107 V108 V109 V110 V111 V112 V113 V114 V115 V116 V117 V118 V119
  V120 V121 V122 V123 V124 V125 V126 V127 V128 V129 V130 V131 V132 V133 V134 V135 V136 V137 V138 V139 V140 V141 V142 V143 V144 V145 V146 V147 V148 V149 V150 V151 V152 V153 V154 V155 V156 V157 V158 V159
  V160 V161 V162 V163 V164 V165 V166 V167 V168 V169 V170 V171 V172 V173 V174 V175 V176 V177 V178 V179 V180 V181 V182 V183 V184 V185 V186 V187 V188 V189 V190 V191 V192 V193 V194 V195 V196 V197 V198 V199
  V200 V201 V202 V203 V204 V205 V206 V207 V208 V209 V210 V211 V212 V213 V214 V215 V216 V217 V218 V219 V220 V221 V222 V223 V224 V225 V226 V227 V228 V229 V230 V231 V232 V233 V234 V235 V236 V237 V238 V239
  V240 V241 V242 V243 V244 V245 V246 hF
 obtain⟨-,-,e1,e2,e3,e4,e5,e6,-⟩:=hF
 replace e1:V1=.pointer (some ⟨w.heap.size,0,none⟩):=e1
 subst e1
 replace e2:V2=.pointer (some ⟨w.heap.size+1,0,none⟩):=e2
 subst e2
 replace e3:V3=.int .i64 0:=e3
 subst e3
 replace e4:V4=.pointer (some ⟨w.heap.size+2,0,none⟩):=e4
 subst e4
 replace e5:V5=.pointer (some ⟨lb,0,none⟩):=e5
 subst e5
 replace e6:V6=.pointer (some ⟨ib,0,none⟩):=e6
 subst e6
 conv in bCode _ 7=>whnf
 go_wp2_with fail
 clear c2
 obtain⟨Bn,hBn⟩:∃ Bn,Bn=w5.heap.size:=⟨_,rfl⟩
 have HBn:=Lib.hid hBn
 have hib2:ib<Bn:=by omega
 have hw2:w.heap.size<Bn:=by omega
 clear hBn
 go_loopw [58] (fun i wr=>∃ k:Nat,i=.int .i64 k∧k≤n∧∃ nv,wr.heap[ib]? =some (.cells #[.string ⟨s.name.toArray⟩,.int .i64 s.flags,.slice none 0 0,nv,.slice ra_ s.runPath.length rc_,.slice none 0 0,.slice none 0 0,.slice none 0 0,.int .i64 0,.slice none 0 0,.slice none 0 0,.slice none 0 0,.slice none 0 0,.slice none 0 0,.int .i64 tl] 44 (0,0))∧OwnK 73 kNeed Bn (fun b=>b<Bn) wr nv (s.needed.take k)∧Step (fun b=>b<Bn∧b≠ib) w5 wr) (fun i _=>n-(intOf i).toNat)
 case atStart=>exact⟨0,rfl,Nat.zero_le _,_,HX5.out,OwnK.nil _ _ _ _ _,Step.refl _ _⟩
 case round=>
  obtain⟨k,rfl,hk,nv,hx,ho,hst⟩:=hrel
  have HX:=Lib.hid hx
  have HO:=Lib.hid ho
  have HS:=Lib.hid hst
  have hzr:=hst.size
  have hzB:Bn≤wr.heap.size:=by have:=HBn.out;omega
  have HLo:=Lib.hid (HC.out.low.trans ((hst.imp (S':=(·<w.heap.size)) (fun b hb=>by have hb:b<w.heap.size:=hb;omega)).below))
  obtain⟨oa,oc,hof⟩:=ho.form
  clear hx ho hst
  by_cases hlt:k<n
  ·obtain⟨x,hx⟩:∃ x,s.needed[k]? =some x:=⟨_,List.getElem?_eq_getElem (by rw [← Hn.out];exact hlt)⟩
   obtain rfl:=hna (by omega)
   obtain⟨cv,g0,g1,hcv,hxn⟩:=(Hnat.out.below HLo.out).need2 k x hx
   have hvl:=Hvs.out x (List.mem_of_getElem? hx)
   obtain⟨va_,vc_,hvf⟩:=hcv.form
   have HTk:Hid (s.needed.take (k+1)=s.needed.take k++[x]):=Lib.hid (take_snocB hx)
   have hkl:(s.needed.take k).length=k:=by rw [List.length_take];have:=Hn.out;omega
   rw [hkl]at hof
   subst hof
   subst hvf
   have Hkl:=Lib.hid hkl
   have HCv:=Lib.hid hcv
   have Hxn:=Lib.hid hxn
   have hk2:(k:Int)<(n:Int):=by omega
   have HXa:=Lib.hid ((heap_alloc_old wr (.cells #[.string ⟨x.name.toArray⟩,.slice va_ x.versions.length vc_] 73 (0,0)) (r:=ib) (by omega)).trans HX.out)
   have HNa:=Lib.hid (heap_alloc_new wr (.cells #[.string ⟨x.name.toArray⟩,.slice va_ x.versions.length vc_] 73 (0,0)))
   have HOa:=Lib.hid (HO.out.alloc (.cells #[.string ⟨x.name.toArray⟩,.slice va_ x.versions.length vc_] 73 (0,0)))
   have HSa:=Lib.hid (HS.out.alloc (fun b hb=>by omega) (.cells #[.string ⟨x.name.toArray⟩,.slice va_ x.versions.length vc_] 73 (0,0)))
   have HLa:=Lib.hid (HLo.out.alloc (by omega) (.cells #[.string ⟨x.name.toArray⟩,.slice va_ x.versions.length vc_] 73 (0,0)))
   have hza:wr.heap.size<(wr.alloc (.cells #[.string ⟨x.name.toArray⟩,.slice va_ x.versions.length vc_] 73 (0,0))).heap.size:=by simp
   clear hx hcv hkl hxn hzr
   go_upto_region 12 with fail
   have Hog:Hid (∀ g,(Value.slice oa k oc).ownBlock=some g→g<wr.heap.size):=Lib.hid (fun g hg=>(HO.out.lt g hg).2)
   have HLr:=HLo
   clear g0 g1 HX HO HS HLo
   generalize wr.alloc (.cells #[.string ⟨x.name.toArray⟩,.slice va_ x.versions.length vc_] 73 (0,0))=wa at *
   generalize wr.heap.size=xb at *
   have y3:wa.cell? ⟨ib,3,none⟩=some (.slice oa k oc):=by rw [Lib.cell_of_heap HXa.out];rfl
   have n0:wa.cell? ⟨xb,0,none⟩=some (.string ⟨x.name.toArray⟩):=by rw [Lib.cell_of_heap HNa.out];rfl
   have n1:wa.cell? ⟨xb,1,none⟩=some (.slice va_ x.versions.length vc_):=by rw [Lib.cell_of_heap HNa.out];rfl
   refine wp_region_phase 10 (by kernel_rfl) (by kernel_rfl) ?_
   simp only [List.take_succ_cons,List.take_zero,List.drop_succ_cons,List.drop_zero,List.take_nil,List.drop_nil]
   refine wpAny_of_held (S:=fun w':World=>w'.cell? ⟨ib,3,none⟩=some (.slice oa k oc)∧w'.cell? ⟨xb,0,none⟩=some (.string ⟨x.name.toArray⟩)∧w'.cell? ⟨xb,1,none⟩=some (.slice va_ x.versions.length vc_)) _ _ _ _ ?_
   have hHeld:(fun w':World=>w'.cell? ⟨ib,3,none⟩=some (.slice oa k oc)∧w'.cell? ⟨xb,0,none⟩=some (.string ⟨x.name.toArray⟩)∧w'.cell? ⟨xb,1,none⟩=some (.slice va_ x.versions.length vc_)) (World.drew wa):=⟨y3,n0,n1⟩
   show wpAnyH _ _ _ _ _ _ _ _ (World.drew _)
   have HXd:Hid ((World.drew wa).heap[ib]? =some (.cells #[.string ⟨s.name.toArray⟩,.int .i64 s.flags,.slice none 0 0,.slice oa k oc,.slice ra_ s.runPath.length rc_,.slice none 0 0,.slice none 0 0,.slice none 0 0,.int .i64 0,.slice none 0 0,.slice none 0 0,.slice none 0 0,.slice none 0 0,.slice none 0 0,.int .i64 tl] 44 (0,0))):=Lib.hid HXa.out
   have HOd:=Lib.hid (HOa.out.drew)
   have HSd:=Lib.hid (HSa.out.drew)
   have HLd:=Lib.hid (HLa.out.drew)
   have hzd:xb<(World.drew wa).heap.size:=hza
   have hid2:ib<(World.drew wa).heap.size:=by show ib<wa.heap.size;omega
   have hBd:Bn≤(World.drew wa).heap.size:=by show Bn≤wa.heap.size;omega
   clear y3 n0 n1 HXa HNa HOa HSa HLa
   generalize (World.drew wa)=wd at *
   refine wpAnyH_take (i:=0) (v:= ?_) rfl (by kernel_rfl) (by kernel_rfl) (by kernel_rfl) (fun _ _ _ h=>h) (Or.inl ⟨by rfl,?_⟩) hHeld ?_
   rotate_left
   ·(intro w hSw;(try dsimp only at hSw);go_simp;try with_reducible rfl)
   simp only [List.getElem_toArray,List.getElem_cons_zero,List.getElem_cons_succ,Act.put,List.setIfInBounds_toArray,List.set_cons_zero,List.set_cons_succ]
   refine wpAnyH_take (i:=1) (v:= ?_) rfl (by kernel_rfl) (by kernel_rfl) (by kernel_rfl) (fun _ _ _ h=>h) (Or.inl ⟨by rfl,?_⟩) hHeld ?_
   rotate_left
   ·(intro w hSw;(try dsimp only at hSw);go_simp;try with_reducible rfl)
   simp only [List.getElem_toArray,List.getElem_cons_zero,List.getElem_cons_succ,Act.put,List.setIfInBounds_toArray,List.set_cons_zero,List.set_cons_succ]
   refine wpAnyH_take (i:=2) (v:= ?_) rfl (by kernel_rfl) (by kernel_rfl) (by kernel_rfl) (fun _ _ _ h=>h) (Or.inl ⟨by rfl,?_⟩) hHeld ?_
   rotate_left
   ·(intro w hSw;(try dsimp only at hSw);go_simp;try with_reducible rfl)
   simp only [List.getElem_toArray,List.getElem_cons_zero,List.getElem_cons_succ,Act.put,List.setIfInBounds_toArray,List.set_cons_zero,List.set_cons_succ]
   refine wpAnyH_take (i:=3) (v:= ?_) rfl (by kernel_rfl) (by kernel_rfl) (by kernel_rfl) (fun _ _ _ h=>h) (Or.inl ⟨by rfl,?_⟩) hHeld ?_
   rotate_left
   ·(intro w hSw;(try dsimp only at hSw);go_simp;try with_reducible rfl)
   simp only [List.getElem_toArray,List.getElem_cons_zero,List.getElem_cons_succ,Act.put,List.setIfInBounds_toArray,List.set_cons_zero,List.set_cons_succ]
   refine wpAnyH_take (i:=4) (v:= ?_) rfl (by kernel_rfl) (by kernel_rfl) (by kernel_rfl) (fun _ _ _ h=>h) (Or.inl ⟨by rfl,?_⟩) hHeld ?_
   rotate_left
   ·(intro w hSw;(try dsimp only at hSw);go_simp;try with_reducible rfl)
   simp only [List.getElem_toArray,List.getElem_cons_zero,List.getElem_cons_succ,Act.put,List.setIfInBounds_toArray,List.set_cons_zero,List.set_cons_succ]
   refine wpAnyH_take (i:=5) (v:= ?_) rfl (by kernel_rfl) (by kernel_rfl) (by kernel_rfl) (fun _ _ _ h=>h) (Or.inl ⟨by rfl,?_⟩) hHeld ?_
   rotate_left
   ·(intro w hSw;(try dsimp only at hSw);go_simp;try with_reducible rfl)
   simp only [List.getElem_toArray,List.getElem_cons_zero,List.getElem_cons_succ,Act.put,List.setIfInBounds_toArray,List.set_cons_zero,List.set_cons_succ]
   refine wpAnyH_ready (rs:=[6]) (by kernel_rfl) (by simp) ?_
   refine AllReadyH.cons rfl (fun K hK=> ?_) AllReadyH.nil
   go_simp
   refine(sclone_any wd _ x.versions ((HCv.out.keeps (w':=wd) (fun b hb=>(HLd.out.block b hb).trans (HLr.out.block b hb).symm))) (fun b hb=>by have hb:b<w.heap.size:=hb;omega) (Nat.le_trans hvl (by decide))).mono ?_
   rintro e w8 ⟨r8,rfl,ho8,hb8⟩
   obtain⟨ca_,cc_,hcf⟩:=ho8.form
   subst hcf
   have HC8:=Lib.hid ho8
   have HX8:=Lib.hid ((hb8.block ib hid2).trans HXd.out)
   have HO8:=Lib.hid (HOd.out.below hb8)
   have HS8:=Lib.hid (HSd.out.trans ((Step.of_below hb8).imp (fun b hb=>by show b<wd.heap.size;omega)))
   have hz8:=hb8.size
   refine hK.out _ _ ⟨(hb8.cell (p:=⟨ib,3,none⟩) hid2).trans hHeld.1,(hb8.cell (p:=⟨xb,0,none⟩) hzd).trans hHeld.2.1,(hb8.cell (p:=⟨xb,1,none⟩) hzd).trans hHeld.2.2⟩ (fun hHeld=> ?_)
   clear hK K ho8 hb8
   try simp only [List.getElem_toArray,List.getElem_cons_zero,List.getElem_cons_succ,Act.put,List.setIfInBounds_toArray,List.set_cons_zero,List.set_cons_succ]
   refine wpAnyH_take (i:=7) (v:= ?_) rfl (by kernel_rfl) (by kernel_rfl) (by kernel_rfl) (fun _ _ _ h=>h) (Or.inl ⟨by rfl,?_⟩) hHeld ?_
   rotate_left
   ·(intro w hSw;(try dsimp only at hSw);go_simp;try with_reducible rfl)
   simp only [List.getElem_toArray,List.getElem_cons_zero,List.getElem_cons_succ,Act.put,List.setIfInBounds_toArray,List.set_cons_zero,List.set_cons_succ]
   have HXn:=Lib.hid ((heap_alloc_old w8 (.cells #[.string ⟨x.name.toArray⟩,.slice ca_ x.versions.length cc_] 73 (0,0)) (r:=ib) (by omega)).trans HX8.out)
   have HOn:=Lib.hid (HO8.out.alloc (.cells #[.string ⟨x.name.toArray⟩,.slice ca_ x.versions.length cc_] 73 (0,0)))
   have HSn:=Lib.hid (HS8.out.alloc (fun b hb=>by omega) (.cells #[.string ⟨x.name.toArray⟩,.slice ca_ x.versions.length cc_] 73 (0,0)))
   have HCn:=Lib.hid (HC8.out.alloc (.cells #[.string ⟨x.name.toArray⟩,.slice ca_ x.versions.length cc_] 73 (0,0)))
   have HNn:=Lib.hid (heap_alloc_new w8 (.cells #[.string ⟨x.name.toArray⟩,.slice ca_ x.versions.length cc_] 73 (0,0)))
   refine wpAnyH_ready (rs:=[8]) (by kernel_rfl) (by simp) ?_
   refine AllReadyH.cons rfl (fun K hK=> ?_) AllReadyH.nil
   go_simp
   refine hK.out _ _ ⟨(World.cell?_alloc_lt _ _ _ (World.block_lt_of_cell? _ _ hHeld.1)).trans hHeld.1,(World.cell?_alloc_lt _ _ _ (World.block_lt_of_cell? _ _ hHeld.2.1)).trans hHeld.2.1,(World.cell?_alloc_lt _ _ _ (World.block_lt_of_cell? _ _ hHeld.2.2)).trans hHeld.2.2⟩ (fun hHeld=> ?_)
   clear hK K
   try simp only [List.getElem_toArray,List.getElem_cons_zero,List.getElem_cons_succ,Act.put,List.setIfInBounds_toArray,List.set_cons_zero,List.set_cons_succ]
   have hzn:w8.heap.size<(w8.alloc (.cells #[.string ⟨x.name.toArray⟩,.slice ca_ x.versions.length cc_] 73 (0,0))).heap.size:=by simp
   clear HX8 HO8 HS8
   generalize w8.alloc (.cells #[.string ⟨x.name.toArray⟩,.slice ca_ x.versions.length cc_] 73 (0,0))=wn at *
   have HRow:Hid (kNeed.R (fun b=>b<wn.heap.size∧¬ b<Bn∧(Value.slice oa k oc).ownBlock≠some b) wn x [.string ⟨x.name.toArray⟩,.slice ca_ x.versions.length cc_]):=Lib.hid ⟨_,rfl,(OwnK.lb (HCn.out.reE flat_str (E':=fun b=>b<wd.heap.size) (fun g hg h=>by have:=(HCn.out.lt g hg).1;omega))).imp (fun b hb=>⟨hb.1,by have:=hb.2;omega,fun e=>by have h9:=(HOd.out.lt b e).2;have:=hb.2;omega⟩),Hxn.out⟩
   refine wpAnyH_ready (rs:=[9]) (by kernel_rfl) (by simp) ?_
   refine AllReadyH.cons rfl (fun K hK=> ?_) AllReadyH.nil
   rw [if_pos (by rfl)]
   simp only [List.getElem_toArray,List.getElem_cons_succ,List.getElem_cons_zero]
   refine wp_appendN (K:=kNeed) (v:=.slice oa k oc) (e:=73) (B:=Bn) (E:=fun b=>b<Bn) 23 _ 40 Try.underlying23 info_needB rfl (by decide) (.tmp 63) (.tmp 70) rfl k Hkl.out rfl HOn.out (fun b hb=>by have hb:b<Bn:=hb;omega) w8.heap.size x [.string ⟨x.name.toArray⟩,.slice ca_ x.versions.length cc_] rfl (cells_row HNn.out) (fun u hu=>by simp only [List.mem_cons,List.not_mem_nil,or_false]at hu;rcases hu with rfl | rfl<;>rfl) HRow.out (by rw [Hkl.out];omega) (by rw [Hkl.out];omega) (by omega) ?_
   rintro g7 c7 w7 ho7 hs7 hg7-
   have hne:∀ b,b<Bn→(Value.slice oa k oc).ownBlock≠some b:=fun b hb e=>by have:=(HOn.out.lt b e).1;omega
   have hnx:(Value.slice oa k oc).ownBlock≠some xb:=fun e=>by have:=Hog.out xb e;omega
   have HX7:=Lib.hid ((hs7.block ib ⟨by omega,hne ib hib2⟩).trans HXn.out)
   have HO7:=Lib.hid ho7
   have HS7:=Lib.hid (HSn.out.trans (hs7.imp (fun b hb=>⟨by omega,hne b hb.1⟩)))
   have hz7:=hs7.size
   refine hK.out _ _ ⟨(hs7.cell (p:=⟨ib,3,none⟩) ⟨by show ib<_;omega,hne ib hib2⟩).trans hHeld.1,(hs7.cell (p:=⟨xb,0,none⟩) ⟨by show xb<_;omega,hnx⟩).trans hHeld.2.1,(hs7.cell (p:=⟨xb,1,none⟩) ⟨by show xb<_;omega,hnx⟩).trans hHeld.2.2⟩ (fun hHeld=> ?_)
   clear hK K ho7 hs7 hne hnx
   try simp only [List.getElem_toArray,List.getElem_cons_zero,List.getElem_cons_succ,Act.put,List.setIfInBounds_toArray,List.set_cons_zero,List.set_cons_succ]
   refine wpAnyH_done (by kernel_rfl) ?_ _
   simp only [phaseQ]
   have u3:=hHeld.1
   have f3:w7.frozen? ⟨ib,3,none⟩=false:=Lib.frozen_of_heap HX7.out 3
   clear hHeld
   have hs9:Step (fun b=>b≠ib) w7 (w7.setCell ⟨ib,3,none⟩ (.slice (some ⟨g7,0,none⟩) (k+1) c7)):=(Step.refl _ w7).setCell (fun h=>h rfl) _
   have HX9:=Lib.hid (setCell_list HX7.out 3 (.slice (some ⟨g7,0,none⟩) (k+1) c7))
   have HO9:=Lib.hid (HO7.out.step hs9 (fun b _ hb=>by have hb:¬ b<Bn:=hb;omega))
   have HS9:=Lib.hid (HS7.out.trans (hs9.imp (fun b hb=>hb.2)))
   rw [← HTk.out]at HO9
   clear hs9
   go_wp2
   go_roundw
   case rel=>exact⟨k+1,by go_num,by omega,_,HX9.out,HO9.out,HS9.out⟩
   case measure=>simp [intOf];omega
  ·have hE:=HO.out
   rw [List.take_of_length_le (by have:=Hn.out;omega)]at hE
   have HB:=Lib.hid (HC.out.go (iv':={nilV with runPath:=.slice ra_ s.runPath.length rc_,needed:=nv }) (im':={imgNone with name:=s.name,flags:=s.flags,runPath:=s.runPath,tlsSize:=tl,needed:=s.needed }) (HS.out.imp (fun b hb=>by have:=HBn.out;omega)) HX.out {HC.out.imgStep (HS.out.imp (fun b hb=>by have:=HBn.out;omega))with needed:=hE.lb.imp (fun b hb=>⟨by have:=hb.2;omega,hb.1,by have:=hb.2;omega⟩)})
   clear hE
   go_wp2_with fail
   exact HK.out _ wr nv ⟨by kernel_rfl,rfl,(by kernel_rfl),(by kernel_rfl),(by kernel_rfl),(by kernel_rfl),(by kernel_rfl),(by kernel_rfl),trivial⟩ HB.out
end Go.Proofs.Ytpomdoliblilfaa
