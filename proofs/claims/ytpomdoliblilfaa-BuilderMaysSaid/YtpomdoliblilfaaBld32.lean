/- Lemmas. -/
import Derived.Test.YtpomdoliblilfaaBld31
import Derived.Deep.DeepCutAuto
namespace Go.Proofs.Ytpomdoliblilfaa
set_option linter.unusedVariables false
set_option linter.unusedSimpArgs false
open Go.RowKit
structure BSt (w:World) (sv:SpecV) (s:SpecL) (wc:World) (own:Int) (v:PlanV) (p:PlanL) (fv vv:Value) (L0 lb ib:Nat) (iv:ImgV) (im:ImgL):Prop where
 plan:PlanM w.heap.size (w.heap.size+2) wc sv s own v p
 spec:SpecM (·<w.heap.size) w sv s
 low:Below w.heap.size w wc
 sx:wc.heap[w.heap.size]? =some (.cells #[.string ⟨s.name.toArray⟩,.int .i64 s.flags,sv.needed,sv.runPath,sv.funcs,sv.vars,sv.weak,sv.init,sv.fini] 28 (0,0))
 rx:wc.heap[w.heap.size+1]? =some (.cells #[.string ⟨#[]⟩,.int .i64 0,.slice none 0 0,.slice none 0 0,.slice none 0 0,.slice none 0 0,.slice none 0 0,.slice none 0 0,.int .i64 0,.slice none 0 0,.slice none 0 0,.slice none 0 0,.slice none 0 0,.slice none 0 0,.int .i64 0] 44 (0,0))
 nx:¬ v.has w.heap.size∧¬ v.has (w.heap.size+1)
 vL:∀ b,v.has b→b<L0
 h0:w.heap.size+2<L0∧L0≤lb∧lb<ib
 ibl:ib<wc.heap.size
 lx:wc.heap[lb]? =some (.cells (layCells (w.heap.size+2) fv vv ⟨(layL s (checkL s)).stubs,(layL s (checkL s)).got,(layL s (checkL s)).plt,(layL s (checkL s)).stubs+24*(checkL s).jumps.length,(layL s (checkL s)).data,(layL s (checkL s)).tls⟩).toArray 83 (0,0))
 fl:LB kInt (fun b=>L0≤b∧b<lb) wc fv (layL s (checkL s)).funcs
 vl:LB kInt (fun b=>L0≤b∧b<lb) wc vv (layL s (checkL s)).vars
 ix:wc.heap[ib]? =some (.cells (imgCells iv im) 44 (0,0))
 img:ImgM (fun b=>lb<b∧b<wc.heap.size∧b≠ib) wc iv im
section
variable {w : World} {sv : SpecV} {s : SpecL} {wc w' : World} {own : Int} {v : PlanV} {p : PlanL} {fv vv : Value} {L0 lb ib : Nat} {iv iv' : ImgV} {im im' : ImgL}
theorem BSt.go (h:BSt w sv s wc own v p fv vv L0 lb ib iv im) (hs:Step (fun b=>b<wc.heap.size∧b≠ib) wc w') (hx:w'.heap[ib]? =some (.cells (imgCells iv' im') 44 (0,0))) (hi:ImgM (fun b=>lb<b∧b<w'.heap.size∧b≠ib) w' iv' im'):BSt w sv s w' own v p fv vv L0 lb ib iv' im':=by
 have h0:=h.h0
 have hl:=h.ibl
 have hz:=hs.size
 have hpl:=h.plan.lt
 refine⟨⟨(hs.block _ ⟨hpl,by omega⟩).trans h.plan.ex,h.plan.base,?_,?_,?_⟩,h.spec,?_,?_,?_,h.nx,h.vL,h.h0,by omega,?_,?_,?_,hx,hi⟩
 ·exact h.plan.syms.flat_keep flat_sym (fun g hg=>hs.block g (by have:=h.vL g (Or.inl hg);omega))
 ·exact h.plan.cells.flat_keep flat_cell (fun g hg=>hs.block g (by have:=h.vL g (Or.inr (Or.inl hg));omega))
 ·exact h.plan.jumps.flat_keep flat_int (fun g hg=>hs.block g (by have:=h.vL g (Or.inr (Or.inr hg));omega))
 ·exact h.low.trans ((hs.imp (S':=(·<w.heap.size)) (fun b hb=>by have hb:b<w.heap.size:=hb;omega)).below)
 ·exact(hs.block _ ⟨by omega,by omega⟩).trans h.sx
 ·exact(hs.block _ ⟨by omega,by omega⟩).trans h.rx
 ·exact(hs.block _ ⟨by omega,by omega⟩).trans h.lx
 ·exact h.fl.keeps (fun b hb=>hs.block b ⟨by omega,by omega⟩)
 ·exact h.vl.keeps (fun b hb=>hs.block b ⟨by omega,by omega⟩)
theorem BSt.imgStep (h:BSt w sv s wc own v p fv vv L0 lb ib iv im) (hs:Step (fun b=>b<wc.heap.size∧b≠ib) wc w'):ImgM (fun b=>lb<b∧b<w'.heap.size∧b≠ib) w' iv im:=
 (h.img.keeps (fun b hb=>hs.block b ⟨hb.2.1,hb.2.2⟩)).imp (fun b hb=>⟨hb.1,Nat.lt_of_lt_of_le hb.2.1 hs.size,hb.2.2⟩)
end
set_option maxHeartbeats 64000000 in
set_option maxRecDepth 100000 in
theorem bt2 {w:World} {sv:SpecV} {s:SpecL} {a:Act} {w5:World} {own:Int} {v:PlanV} (hF:bFr [(1,.pointer (some ⟨w.heap.size,0,none⟩)),(2,.pointer (some ⟨w.heap.size+1,0,none⟩)),(3,.int .i64 0),(4,.pointer (some ⟨w.heap.size+2,0,none⟩))] a) (hC:Chk w sv s w5 own v) (hfew:FewL s)
  (hK:∀ a' wc fv vv L0 lb ib rv,bFr [(1,.pointer (some ⟨w.heap.size,0,none⟩)),(2,.pointer (some ⟨w.heap.size+1,0,none⟩)),(3,.int .i64 0),(4,.pointer (some ⟨w.heap.size+2,0,none⟩)),(5,.pointer (some ⟨lb,0,none⟩)),(6,.pointer (some ⟨ib,0,none⟩))] a'→BSt w sv s wc own v (checkL s) fv vv L0 lb ib {nilV with runPath:=rv } {imgNone with name:=s.name,flags:=s.flags,runPath:=s.runPath,tlsSize:=(layL s (checkL s)).tls }→(bRest Try.f10 7).wp Try.prog (bodyPost Try.prog Try.f10 (BuildPost w s)) a' wc):(bRest Try.f10 5).wp Try.prog (bodyPost Try.prog Try.f10 (BuildPost w s)) a w5:=by
 have HK:=Lib.hid hK
 have HC:=Lib.hid hC
 have Hfew:=Lib.hid hfew
 have Hbd:=Lib.hid (lay_bd hfew (check_sz hfew))
 have HSp5:=Lib.hid (hC.spec.keeps (.of_below hC.low))
 have hz5:=hC.kr.lt
 have hpl:=hC.plan.lt
 have HL:=Lib.hid (lay_any hC.plan HSp5.out (by omega) hfew.funcs hfew.vars hfew.lines hfew.words (by have:=check_sz hfew;omega))
 have Hnm:=Lib.hid hC.spec.name
 have Hfl:=Lib.hid hC.spec.flags
 have Hrp:=Lib.hid hfew.run
 clear hC hK hfew
 have e5:bRest Try.f10 5=.seq (bCode Try.f10 5) (bRest Try.f10 6):=bd_seq _ 5 (by kernel_rfl)
 have e6:bRest Try.f10 6=.seq (bCode Try.f10 6) (bRest Try.f10 7):=bd_seq _ 6 (by kernel_rfl)
 rw [e5,e6]
 clear e5 e6
 apply bFr.elim hF
 clear hF
 intro V0 V1 V2 V3 V4 V5 V6 V7 V8 V9 V10 V11 V12 V13 V14 V15 V16 V17 V18 V19 V20 V21 V22 V23 V24 V25 V26 V27 V28 V29 V30 V31 V32 V33 V34 V35 V36 V37 V38 V39
  V40 V41 V42 V43 V44 V45 V46 V47 V48 V49 V50 V51 V52 V53 V54 V55 V56 V57 V58 V59 V60 V61 V62 V63 V64 V65 V66 V67 V68 V69 V70 V71 V72 V73 V74 V75 V76 V77 V78 V79
  V80 V81 V82 V83 V84 V85 V86 V87 V88 V89 V90 V91 V92 V93 V94 V95 V96 V97 V98 V99 V100 V101 V102 V103 V104 V105 V106 V107 V108 V109 V110 V111 V112 V113 V114 V115 V116 V117 V118 V119
  V120 V121 V122 V123 V124 V125 V126 V127 V128 V129 V130 V131 V132 V133 V134 V135 V136 V137 V138 V139 V140 V141 V142 V143 V144 V145 V146 V147 V148 V149 V150 V151 V152 V153 V154 V155 V156 V157 V158 V159
  V160 V161 V162 V163 V164 V165 V166 V167 V168 V169 V170 V171 V172 V173 V174 V175 V176 V177 V178 V179 V180 V181 V182 V183 V184 V185 V186 V187 V188 V189 V190 V191 V192 V193 V194 V195 V196 V197 V198 V199
  V200 V201 V202 V203 V204 V205 V206 V207 V208 V209 V210 V211 V212 V213 V214 V215 V216 V217 V218 V219 V220 V221 V222 V223 V224 V225 V226 V227 V228 V229 V230 V231 V232 V233 V234 V235 V236 V237 V238 V239
  V240 V241 V242 V243 V244 V245 V246 hF
 obtain⟨-,-,e1,e2,e3,e4,-⟩:=hF
 replace e1:V1=.pointer (some ⟨w.heap.size,0,none⟩):=e1
 subst e1
 replace e2:V2=.pointer (some ⟨w.heap.size+1,0,none⟩):=e2
 subst e2
 replace e3:V3=.int .i64 0:=e3
 subst e3
 replace e4:V4=.pointer (some ⟨w.heap.size+2,0,none⟩):=e4
 subst e4
 conv in bCode _ 5=>whnf
 conv in bCode _ 6=>whnf
 go_wp2_with fail
 refine HL.out.mono ?_
 rintro e w6 ⟨fv,vv,rfl,hb6,hfo,hvo⟩
 obtain⟨fa,fc,hff⟩:=hfo.form
 obtain⟨va,vc,hvf⟩:=hvo.form
 have Hfo:=Lib.hid ((OwnK.lb (hfo.reE flat_int (E':=(·<w5.heap.size)) (fun g hg h=>by have:=(hfo.lt g hg).1;omega))).imp (S':=fun b=>w5.heap.size≤b∧b<w6.heap.size) (fun b hb=>⟨Nat.le_of_not_lt hb.2,hb.1⟩))
 have Hvo:=Lib.hid ((OwnK.lb (hvo.reE flat_int (E':=(·<w5.heap.size)) (fun g hg h=>by have:=(hvo.lt g hg).1;omega))).imp (S':=fun b=>w5.heap.size≤b∧b<w6.heap.size) (fun b hb=>⟨Nat.le_of_not_lt hb.2,hb.1⟩))
 have Hfv:=Lib.hid hff
 have Hvv:=Lib.hid hvf
 have HB6:=Lib.hid hb6
 have hz6:=hb6.size
 subst hff hvf
 have hN:(layL s (checkL s)).stubs+24*(checkL s).jumps.length=(layL s (checkL s)).stubs+24*(checkL s).jumps.length:=rfl
 clear hb6 hfo hvo hN HL
 generalize hY:layL s (checkL s)=y at *
 have HYe:=Lib.hid hY
 generalize hJ:((checkL s).jumps.length:Int)=jn at *
 have HJe:=Lib.hid hJ
 clear hY hJ
 unfold layCells
 go_upto_region 8 with fail
 have HLx:=Lib.hid (heap_alloc_new w6 (.cells #[.pointer (some ⟨w.heap.size+2,0,none⟩),.slice fa y.funcs.length fc,.slice va y.vars.length vc,.int .i64 y.stubs,.int .i64 y.got,.int .i64 y.plt,.int .i64 0,.int .i64 (y.stubs+24*jn),.int .i64 y.data,.int .i64 y.tls] 83 (0,0)))
 have HB7:=Lib.hid (HB6.out.alloc hz6 (.cells #[.pointer (some ⟨w.heap.size+2,0,none⟩),.slice fa y.funcs.length fc,.slice va y.vars.length vc,.int .i64 y.stubs,.int .i64 y.got,.int .i64 y.plt,.int .i64 0,.int .i64 (y.stubs+24*jn),.int .i64 y.data,.int .i64 y.tls] 83 (0,0)))
 have hz7:w6.heap.size<(w6.alloc (.cells #[.pointer (some ⟨w.heap.size+2,0,none⟩),.slice fa y.funcs.length fc,.slice va y.vars.length vc,.int .i64 y.stubs,.int .i64 y.got,.int .i64 y.plt,.int .i64 0,.int .i64 (y.stubs+24*jn),.int .i64 y.data,.int .i64 y.tls] 83 (0,0))).heap.size:=by simp
 have HFo:=Lib.hid (Hfo.out.keeps (fun b hb=>heap_alloc_old w6 (.cells #[.pointer (some ⟨w.heap.size+2,0,none⟩),.slice fa y.funcs.length fc,.slice va y.vars.length vc,.int .i64 y.stubs,.int .i64 y.got,.int .i64 y.plt,.int .i64 0,.int .i64 (y.stubs+24*jn),.int .i64 y.data,.int .i64 y.tls] 83 (0,0)) hb.2))
 have HVo:=Lib.hid (Hvo.out.keeps (fun b hb=>heap_alloc_old w6 (.cells #[.pointer (some ⟨w.heap.size+2,0,none⟩),.slice fa y.funcs.length fc,.slice va y.vars.length vc,.int .i64 y.stubs,.int .i64 y.got,.int .i64 y.plt,.int .i64 0,.int .i64 (y.stubs+24*jn),.int .i64 y.data,.int .i64 y.tls] 83 (0,0)) hb.2))
 generalize w6.alloc (.cells #[.pointer (some ⟨w.heap.size+2,0,none⟩),.slice fa y.funcs.length fc,.slice va y.vars.length vc,.int .i64 y.stubs,.int .i64 y.got,.int .i64 y.plt,.int .i64 0,.int .i64 (y.stubs+24*jn),.int .i64 y.data,.int .i64 y.tls] 83 (0,0))=w7 at *
 clear HB6 Hfo Hvo
 generalize w6.heap.size=lb at *
 have HSx:=Lib.hid ((HB7.out.block w.heap.size (by omega)).trans HC.out.sx)
 obtain⟨rpa,rpb,rpo,rpc,hrf,-,-,-⟩:=HC.out.spec.runPath.at
 have HRun:=Lib.hid (((HC.out.spec.runPath.below HC.out.low).mono (by omega:w.heap.size≤w5.heap.size)).below HB7.out)
 have Hrf:=Lib.hid hrf
 rw [hrf]at HRun
 clear hrf
 have y0:w7.cell? ⟨w.heap.size,0,none⟩=some (.string ⟨s.name.toArray⟩):=by rw [Lib.cell_of_heap HSx.out];rfl
 have y1:w7.cell? ⟨w.heap.size,1,none⟩=some (.int .i64 s.flags):=by rw [Lib.cell_of_heap HSx.out];rfl
 have y3:w7.cell? ⟨w.heap.size,3,none⟩=some (.slice rpa s.runPath.length rpc):=by rw [Lib.cell_of_heap HSx.out,← Hrf.out];rfl
 have y9:w7.cell? ⟨lb,9,none⟩=some (.int .i64 y.tls):=by rw [Lib.cell_of_heap HLx.out];rfl
 refine wp_region_phase 11 (by kernel_rfl) (by kernel_rfl) ?_
 simp only [List.take_succ_cons,List.take_zero,List.drop_succ_cons,List.drop_zero,List.take_nil,List.drop_nil]
 refine wpAny_of_held (S:=fun w':World=>w'.cell? ⟨w.heap.size,0,none⟩=some (.string ⟨s.name.toArray⟩)∧w'.cell? ⟨w.heap.size,1,none⟩=some (.int .i64 s.flags)∧w'.cell? ⟨w.heap.size,3,none⟩=some (.slice rpa s.runPath.length rpc)∧w'.cell? ⟨lb,9,none⟩=some (.int .i64 y.tls)) _ _ _ _ ?_
 have hHeld:(fun w':World=>w'.cell? ⟨w.heap.size,0,none⟩=some (.string ⟨s.name.toArray⟩)∧w'.cell? ⟨w.heap.size,1,none⟩=some (.int .i64 s.flags)∧w'.cell? ⟨w.heap.size,3,none⟩=some (.slice rpa s.runPath.length rpc)∧w'.cell? ⟨lb,9,none⟩=some (.int .i64 y.tls)) (World.drew w7):=⟨y0,y1,y3,y9⟩
 show wpAnyH _ _ _ _ _ _ _ _ (World.drew _)
 have hdr:Below w7.heap.size w7 (World.drew w7):=(Below.refl _ _).drew
 have hzd:w7.heap.size≤(World.drew w7).heap.size:=Nat.le_refl _
 have hze:(World.drew w7).heap.size≤w7.heap.size:=Nat.le_refl _
 clear y0 y1 y3 y9
 generalize (World.drew w7)=wd at hdr hzd hze hHeld ⊢
 have hxl:w.heap.size<wd.heap.size:=by omega
 have hll:lb<wd.heap.size:=by omega
 have HCl:Hid (∀ wx,Below w7.heap.size w7 wx→Calls Try.prog 17 #[.slice rpa s.runPath.length rpc] wx (MadeK 9 kStr wx s.runPath)):=Lib.hid (fun wx hb=>sclone_any wx _ _ (HRun.out.keeps (S:=(·<w5.heap.size)) (fun b hb'=>hb.block b (by have hb':b<w5.heap.size:=hb';omega))) (fun b hb'=>by have hb':b<w5.heap.size:=hb';have:=hb.size;omega) (Nat.le_trans Hrp.out (by decide)))
 refine wpAnyH_take (i:=0) (v:= ?_) rfl (by kernel_rfl) (by kernel_rfl) (by kernel_rfl) (fun _ _ _ h=>h) (Or.inl ⟨by rfl,?_⟩) hHeld ?_
 rotate_left
 ·(intro w hSw;(try dsimp only at hSw);go_simp;try with_reducible rfl)
 simp only [List.getElem_toArray,List.getElem_cons_zero,List.getElem_cons_succ,Act.put,List.setIfInBounds_toArray,List.set_cons_zero,List.set_cons_succ]
 refine wpAnyH_take (i:=1) (v:= ?_) rfl (by kernel_rfl) (by kernel_rfl) (by kernel_rfl) (fun _ _ _ h=>h) (Or.inl ⟨by rfl,?_⟩) hHeld ?_
 rotate_left
 ·(intro w hSw;(try dsimp only at hSw);go_simp;try with_reducible rfl)
 simp only [List.getElem_toArray,List.getElem_cons_zero,List.getElem_cons_succ,Act.put,List.setIfInBounds_toArray,List.set_cons_zero,List.set_cons_succ]
 refine wpAnyH_take (i:=2) (v:= ?_) rfl (by kernel_rfl) (by kernel_rfl) (by kernel_rfl) (fun _ _ _ h=>h) (Or.inl ⟨by rfl,?_⟩) hHeld ?_
 rotate_left
 ·(intro w hSw;(try dsimp only at hSw);go_simp;try with_reducible rfl)
 simp only [List.getElem_toArray,List.getElem_cons_zero,List.getElem_cons_succ,Act.put,List.setIfInBounds_toArray,List.set_cons_zero,List.set_cons_succ]
 refine wpAnyH_take (i:=3) (v:= ?_) rfl (by kernel_rfl) (by kernel_rfl) (by kernel_rfl) (fun _ _ _ h=>h) (Or.inl ⟨by rfl,?_⟩) hHeld ?_
 rotate_left
 ·(intro w hSw;(try dsimp only at hSw);go_simp;try with_reducible rfl)
 simp only [List.getElem_toArray,List.getElem_cons_zero,List.getElem_cons_succ,Act.put,List.setIfInBounds_toArray,List.set_cons_zero,List.set_cons_succ]
 refine wpAnyH_take (i:=4) (v:= ?_) rfl (by kernel_rfl) (by kernel_rfl) (by kernel_rfl) (fun _ _ _ h=>h) (Or.inl ⟨by rfl,?_⟩) hHeld ?_
 rotate_left
 ·(intro w hSw;(try dsimp only at hSw);go_simp;try with_reducible rfl)
 simp only [List.getElem_toArray,List.getElem_cons_zero,List.getElem_cons_succ,Act.put,List.setIfInBounds_toArray,List.set_cons_zero,List.set_cons_succ]
 refine wpAnyH_take (i:=5) (v:= ?_) rfl (by kernel_rfl) (by kernel_rfl) (by kernel_rfl) (fun _ _ _ h=>h) (Or.inl ⟨by rfl,?_⟩) hHeld ?_
 rotate_left
 ·(intro w hSw;(try dsimp only at hSw);go_simp;try with_reducible rfl)
 simp only [List.getElem_toArray,List.getElem_cons_zero,List.getElem_cons_succ,Act.put,List.setIfInBounds_toArray,List.set_cons_zero,List.set_cons_succ]
 refine wpAnyH_take (i:=7) (v:= ?_) rfl (by kernel_rfl) (by kernel_rfl) (by kernel_rfl) (fun _ _ _ h=>h) (Or.inl ⟨by rfl,?_⟩) hHeld ?_
 rotate_left
 ·(intro w hSw;(try dsimp only at hSw);go_simp;try with_reducible rfl)
 simp only [List.getElem_toArray,List.getElem_cons_zero,List.getElem_cons_succ,Act.put,List.setIfInBounds_toArray,List.set_cons_zero,List.set_cons_succ]
 refine wpAnyH_take (i:=8) (v:= ?_) rfl (by kernel_rfl) (by kernel_rfl) (by kernel_rfl) (fun _ _ _ h=>h) (Or.inl ⟨by rfl,?_⟩) hHeld ?_
 rotate_left
 ·(intro w hSw;(try dsimp only at hSw);go_simp;try with_reducible rfl)
 simp only [List.getElem_toArray,List.getElem_cons_zero,List.getElem_cons_succ,Act.put,List.setIfInBounds_toArray,List.set_cons_zero,List.set_cons_succ]
 refine wpAnyH_ready (rs:=[6,10]) (by kernel_rfl) (by simp) ?_
 refine AllReadyH.cons rfl (fun K hK=> ?ra) (AllReadyH.cons rfl (fun K hK=> ?rb) AllReadyH.nil)
 case ra=>
  go_simp
  refine(HCl.out wd hdr).mono ?_
  rintro e w8 ⟨rv,rfl,ho8,hb8⟩
  obtain⟨ra_,rc_,hrv⟩:=ho8.form
  have HRv:=Lib.hid hrv
  subst hrv
  have HO8:=Lib.hid ho8
  have HB8:=Lib.hid (hdr.trans (hb8.mono hzd))
  have hz8:=hb8.size
  refine hK.out _ _ ⟨(hb8.cell (p:=⟨w.heap.size,0,none⟩) hxl).trans hHeld.1,(hb8.cell (p:=⟨w.heap.size,1,none⟩) hxl).trans hHeld.2.1,(hb8.cell (p:=⟨w.heap.size,3,none⟩) hxl).trans hHeld.2.2.1,(hb8.cell (p:=⟨lb,9,none⟩) hll).trans hHeld.2.2.2⟩ (fun hHeld=> ?_)
  clear hK K ho8 hb8
  try simp only [List.getElem_toArray,List.getElem_cons_zero,List.getElem_cons_succ,Act.put,List.setIfInBounds_toArray,List.set_cons_zero,List.set_cons_succ]
  refine wpAnyH_take (i:=9) (v:= ?_) rfl (by kernel_rfl) (by kernel_rfl) (by kernel_rfl) (fun _ _ _ h=>h) (Or.inl ⟨by rfl,?_⟩) hHeld ?_
  rotate_left
  ·(intro w hSw;(try dsimp only at hSw);go_simp;try with_reducible rfl)
  simp only [List.getElem_toArray,List.getElem_cons_zero,List.getElem_cons_succ,Act.put,List.setIfInBounds_toArray,List.set_cons_zero,List.set_cons_succ]
  refine wpAnyH_ready (rs:=[10]) (by kernel_rfl) (by simp) ?_
  refine AllReadyH.cons rfl (fun K hK=> ?_) AllReadyH.nil
  go_simp
  refine hK.out _ _ ⟨(World.cell?_alloc_lt _ _ _ (World.block_lt_of_cell? _ _ hHeld.1)).trans hHeld.1,(World.cell?_alloc_lt _ _ _ (World.block_lt_of_cell? _ _ hHeld.2.1)).trans hHeld.2.1,(World.cell?_alloc_lt _ _ _ (World.block_lt_of_cell? _ _ hHeld.2.2.1)).trans hHeld.2.2.1,(World.cell?_alloc_lt _ _ _ (World.block_lt_of_cell? _ _ hHeld.2.2.2)).trans hHeld.2.2.2⟩ (fun hHeld=> ?_)
  clear hK K
  try simp only [List.getElem_toArray,List.getElem_cons_zero,List.getElem_cons_succ,Act.put,List.setIfInBounds_toArray,List.set_cons_zero,List.set_cons_succ]
  have HT:=Lib.hid (heap_alloc_new w8 (.cells #[.string ⟨#[]⟩,.int .i64 0,.slice none 0 0,.slice none 0 0,.slice none 0 0,.slice none 0 0,.slice none 0 0,.slice none 0 0,.int .i64 0,.slice none 0 0,.slice none 0 0,.slice none 0 0,.slice none 0 0,.slice none 0 0,.int .i64 0] 44 (0,0)))
  have HO9:=Lib.hid (HO8.out.flat_keep (w':=w8.alloc (.cells #[.string ⟨#[]⟩,.int .i64 0,.slice none 0 0,.slice none 0 0,.slice none 0 0,.slice none 0 0,.slice none 0 0,.slice none 0 0,.int .i64 0,.slice none 0 0,.slice none 0 0,.slice none 0 0,.slice none 0 0,.slice none 0 0,.int .i64 0] 44 (0,0))) flat_str (fun b hb=>heap_alloc_old w8 (.cells #[.string ⟨#[]⟩,.int .i64 0,.slice none 0 0,.slice none 0 0,.slice none 0 0,.slice none 0 0,.slice none 0 0,.slice none 0 0,.int .i64 0,.slice none 0 0,.slice none 0 0,.slice none 0 0,.slice none 0 0,.slice none 0 0,.int .i64 0] 44 (0,0)) (HO8.out.lt b hb).2))
  have HB9:=Lib.hid (HB8.out.alloc (by omega) (.cells #[.string ⟨#[]⟩,.int .i64 0,.slice none 0 0,.slice none 0 0,.slice none 0 0,.slice none 0 0,.slice none 0 0,.slice none 0 0,.int .i64 0,.slice none 0 0,.slice none 0 0,.slice none 0 0,.slice none 0 0,.slice none 0 0,.int .i64 0] 44 (0,0)))
  have hz9:w8.heap.size<(w8.alloc (.cells #[.string ⟨#[]⟩,.int .i64 0,.slice none 0 0,.slice none 0 0,.slice none 0 0,.slice none 0 0,.slice none 0 0,.slice none 0 0,.int .i64 0,.slice none 0 0,.slice none 0 0,.slice none 0 0,.slice none 0 0,.slice none 0 0,.int .i64 0] 44 (0,0))).heap.size:=by simp
  generalize w8.alloc (.cells #[.string ⟨#[]⟩,.int .i64 0,.slice none 0 0,.slice none 0 0,.slice none 0 0,.slice none 0 0,.slice none 0 0,.slice none 0 0,.int .i64 0,.slice none 0 0,.slice none 0 0,.slice none 0 0,.slice none 0 0,.slice none 0 0,.int .i64 0] 44 (0,0))=w9 at *
  have hlo:=HO8.out.lt
  have hne:∀ g,(Value.slice ra_ s.runPath.length rc_).ownBlock=some g→g≠w8.heap.size:=fun g hg=>by have:=(HO8.out.lt g hg).2;omega
  refine wpAnyH_done (by kernel_rfl) ?_ _
  simp only [phaseQ]
  clear hHeld
  go_wp2_with (refine wpList_store_row rfl 44 (.tmp 6) (.tmp 54) rfl (w8.heap.size) (#[.string ⟨s.name.toArray⟩,.int .i64 s.flags,.slice none 0 0,.slice none 0 0,.slice ra_ s.runPath.length rc_,.slice none 0 0,.slice none 0 0,.slice none 0 0,.int .i64 0,.slice none 0 0,.slice none 0 0,.slice none 0 0,.slice none 0 0,.slice none 0 0,.int .i64 y.tls]) rfl rfl _ _ HT.out (by kernel_rfl) rfl (by simp [Value.oneCell']) ?_)
  go_wp2_with fail
  have hs9:Step (fun b=>b≠w8.heap.size) w9 (w9.setRow (w8.heap.size) (#[.string ⟨s.name.toArray⟩,.int .i64 s.flags,.slice none 0 0,.slice none 0 0,.slice ra_ s.runPath.length rc_,.slice none 0 0,.slice none 0 0,.slice none 0 0,.int .i64 0,.slice none 0 0,.slice none 0 0,.slice none 0 0,.slice none 0 0,.slice none 0 0,.int .i64 y.tls])):=⟨rfl,rfl,rfl,by simp,fun b hb=>setRow_other _ _ _ _ hb⟩
  have HX9:=Lib.hid (setRow_heap _ (w8.heap.size) _ (#[.string ⟨s.name.toArray⟩,.int .i64 s.flags,.slice none 0 0,.slice none 0 0,.slice ra_ s.runPath.length rc_,.slice none 0 0,.slice none 0 0,.slice none 0 0,.int .i64 0,.slice none 0 0,.slice none 0 0,.slice none 0 0,.slice none 0 0,.slice none 0 0,.int .i64 y.tls]) _ _ HT.out)
  have hsz:(w9.setRow (w8.heap.size) (#[.string ⟨s.name.toArray⟩,.int .i64 s.flags,.slice none 0 0,.slice none 0 0,.slice ra_ s.runPath.length rc_,.slice none 0 0,.slice none 0 0,.slice none 0 0,.int .i64 0,.slice none 0 0,.slice none 0 0,.slice none 0 0,.slice none 0 0,.slice none 0 0,.int .i64 y.tls])).heap.size=w9.heap.size:=by simp
  have hib:lb<w8.heap.size:=by omega
  have hPl:Step (·<w5.heap.size) w5 (w9.setRow (w8.heap.size) (#[.string ⟨s.name.toArray⟩,.int .i64 s.flags,.slice none 0 0,.slice none 0 0,.slice ra_ s.runPath.length rc_,.slice none 0 0,.slice none 0 0,.slice none 0 0,.int .i64 0,.slice none 0 0,.slice none 0 0,.slice none 0 0,.slice none 0 0,.slice none 0 0,.int .i64 y.tls])):=((Step.of_below HB7.out).trans (((Step.of_below HB9.out).imp (S':=(·<w5.heap.size)) (fun b hb=>by have hb:b<w5.heap.size:=hb;omega)))).trans (hs9.imp (fun b hb=>by have hb:b<w5.heap.size:=hb;omega))
  have hNw:Step (fun b=>b<w7.heap.size) w7 (w9.setRow (w8.heap.size) (#[.string ⟨s.name.toArray⟩,.int .i64 s.flags,.slice none 0 0,.slice none 0 0,.slice ra_ s.runPath.length rc_,.slice none 0 0,.slice none 0 0,.slice none 0 0,.int .i64 0,.slice none 0 0,.slice none 0 0,.slice none 0 0,.slice none 0 0,.slice none 0 0,.int .i64 y.tls])):=(Step.of_below HB9.out).trans (hs9.imp (fun b hb=>by omega))
  refine HK.out _ _ (.slice fa y.funcs.length fc) (.slice va y.vars.length vc) w5.heap.size lb (w8.heap.size) (.slice ra_ s.runPath.length rc_) ⟨by kernel_rfl,rfl,(by kernel_rfl),(by kernel_rfl),(by kernel_rfl),(by kernel_rfl),(by kernel_rfl),(by kernel_rfl),trivial⟩ ⟨HC.out.plan.below hPl.below,HC.out.spec,HC.out.low.trans (hPl.below.mono (by omega)),(hPl.block _ (by omega)).trans HC.out.sx,(hPl.block _ hz5).trans HC.out.rx,⟨HC.out.kx.no,HC.out.kr.no⟩,fun b hb=>(HC.out.plan.has_lt hb).2.1,⟨by omega,by omega,by omega⟩,by rw [hsz];omega,?_,?_,?_,?_,?_⟩
  ·rw [HYe.out,HJe.out];exact(hNw.block lb (by omega)).trans HLx.out
  ·rw [HYe.out];exact HFo.out.keeps (fun b hb=>hNw.block b (by omega))
  ·rw [HYe.out];exact HVo.out.keeps (fun b hb=>hNw.block b (by omega))
  ·exact HX9.out
  ·exact {imgM_none _ _ with name:=Hnm.out,flags:=Hfl.out,runPath:=((OwnK.lb (HO9.out.reE flat_str (E':=fun b=>b<w7.heap.size∨b=w8.heap.size) (fun g hg h=>by have:=(HO9.out.lt g hg).1;have:=hne g hg;omega))).keeps (fun b hb=>hs9.block b (fun e=>hb.2 (Or.inr e)))).imp (fun b hb=>⟨by have h1:=hb.2;omega,by rw [hsz];exact hb.1,fun e=>hb.2 (Or.inr e)⟩),tlsSize:=by have:=Hbd.out.tls;unfold I64;show -9223372036854775808≤y.tls∧y.tls≤9223372036854775807;omega }
 case rb=>
  go_simp
  refine hK.out _ _ ⟨(World.cell?_alloc_lt _ _ _ (World.block_lt_of_cell? _ _ hHeld.1)).trans hHeld.1,(World.cell?_alloc_lt _ _ _ (World.block_lt_of_cell? _ _ hHeld.2.1)).trans hHeld.2.1,(World.cell?_alloc_lt _ _ _ (World.block_lt_of_cell? _ _ hHeld.2.2.1)).trans hHeld.2.2.1,(World.cell?_alloc_lt _ _ _ (World.block_lt_of_cell? _ _ hHeld.2.2.2)).trans hHeld.2.2.2⟩ (fun hHeld=> ?_)
  clear hK K
  try simp only [List.getElem_toArray,List.getElem_cons_zero,List.getElem_cons_succ,Act.put,List.setIfInBounds_toArray,List.set_cons_zero,List.set_cons_succ]
  have HT0:=Lib.hid (heap_alloc_new wd (.cells #[.string ⟨#[]⟩,.int .i64 0,.slice none 0 0,.slice none 0 0,.slice none 0 0,.slice none 0 0,.slice none 0 0,.slice none 0 0,.int .i64 0,.slice none 0 0,.slice none 0 0,.slice none 0 0,.slice none 0 0,.slice none 0 0,.int .i64 0] 44 (0,0)))
  have hdn:=hdr.alloc (by omega) (.cells #[.string ⟨#[]⟩,.int .i64 0,.slice none 0 0,.slice none 0 0,.slice none 0 0,.slice none 0 0,.slice none 0 0,.slice none 0 0,.int .i64 0,.slice none 0 0,.slice none 0 0,.slice none 0 0,.slice none 0 0,.slice none 0 0,.int .i64 0] 44 (0,0))
  have hzn:wd.heap.size<(wd.alloc (.cells #[.string ⟨#[]⟩,.int .i64 0,.slice none 0 0,.slice none 0 0,.slice none 0 0,.slice none 0 0,.slice none 0 0,.slice none 0 0,.int .i64 0,.slice none 0 0,.slice none 0 0,.slice none 0 0,.slice none 0 0,.slice none 0 0,.int .i64 0] 44 (0,0))).heap.size:=by simp
  generalize wd.alloc (.cells #[.string ⟨#[]⟩,.int .i64 0,.slice none 0 0,.slice none 0 0,.slice none 0 0,.slice none 0 0,.slice none 0 0,.slice none 0 0,.int .i64 0,.slice none 0 0,.slice none 0 0,.slice none 0 0,.slice none 0 0,.slice none 0 0,.int .i64 0] 44 (0,0))=we at *
  refine wpAnyH_ready (rs:=[6]) (by kernel_rfl) (by simp) ?_
  refine AllReadyH.cons rfl (fun K hK=> ?_) AllReadyH.nil
  go_simp
  refine(HCl.out we hdn).mono ?_
  rintro e w9 ⟨rv,rfl,ho9,hb9⟩
  obtain⟨ra_,rc_,hrv⟩:=ho9.form
  have HRv:=Lib.hid hrv
  subst hrv
  have hxl2:w.heap.size<we.heap.size:=by omega
  have hll2:lb<we.heap.size:=by omega
  have HO9:=Lib.hid ho9
  have HB9:=Lib.hid (hdn.trans (hb9.mono (by omega)))
  have HT:=Lib.hid ((hb9.block wd.heap.size hzn).trans HT0.out)
  have hz9:=hb9.size
  refine hK.out _ _ ⟨(hb9.cell (p:=⟨w.heap.size,0,none⟩) hxl2).trans hHeld.1,(hb9.cell (p:=⟨w.heap.size,1,none⟩) hxl2).trans hHeld.2.1,(hb9.cell (p:=⟨w.heap.size,3,none⟩) hxl2).trans hHeld.2.2.1,(hb9.cell (p:=⟨lb,9,none⟩) hll2).trans hHeld.2.2.2⟩ (fun hHeld=> ?_)
  clear hK K ho9 hb9
  try simp only [List.getElem_toArray,List.getElem_cons_zero,List.getElem_cons_succ,Act.put,List.setIfInBounds_toArray,List.set_cons_zero,List.set_cons_succ]
  refine wpAnyH_take (i:=9) (v:= ?_) rfl (by kernel_rfl) (by kernel_rfl) (by kernel_rfl) (fun _ _ _ h=>h) (Or.inl ⟨by rfl,?_⟩) hHeld ?_
  rotate_left
  ·(intro w hSw;(try dsimp only at hSw);go_simp;try with_reducible rfl)
  simp only [List.getElem_toArray,List.getElem_cons_zero,List.getElem_cons_succ,Act.put,List.setIfInBounds_toArray,List.set_cons_zero,List.set_cons_succ]
  have hne:∀ g,(Value.slice ra_ s.runPath.length rc_).ownBlock=some g→g≠wd.heap.size:=fun g hg=>by have:=(HO9.out.lt g hg).1;omega
  refine wpAnyH_done (by kernel_rfl) ?_ _
  simp only [phaseQ]
  clear hHeld
  go_wp2_with (refine wpList_store_row rfl 44 (.tmp 6) (.tmp 54) rfl (wd.heap.size) (#[.string ⟨s.name.toArray⟩,.int .i64 s.flags,.slice none 0 0,.slice none 0 0,.slice ra_ s.runPath.length rc_,.slice none 0 0,.slice none 0 0,.slice none 0 0,.int .i64 0,.slice none 0 0,.slice none 0 0,.slice none 0 0,.slice none 0 0,.slice none 0 0,.int .i64 y.tls]) rfl rfl _ _ HT.out (by kernel_rfl) rfl (by simp [Value.oneCell']) ?_)
  go_wp2_with fail
  have hs9:Step (fun b=>b≠wd.heap.size) w9 (w9.setRow (wd.heap.size) (#[.string ⟨s.name.toArray⟩,.int .i64 s.flags,.slice none 0 0,.slice none 0 0,.slice ra_ s.runPath.length rc_,.slice none 0 0,.slice none 0 0,.slice none 0 0,.int .i64 0,.slice none 0 0,.slice none 0 0,.slice none 0 0,.slice none 0 0,.slice none 0 0,.int .i64 y.tls])):=⟨rfl,rfl,rfl,by simp,fun b hb=>setRow_other _ _ _ _ hb⟩
  have HX9:=Lib.hid (setRow_heap _ (wd.heap.size) _ (#[.string ⟨s.name.toArray⟩,.int .i64 s.flags,.slice none 0 0,.slice none 0 0,.slice ra_ s.runPath.length rc_,.slice none 0 0,.slice none 0 0,.slice none 0 0,.int .i64 0,.slice none 0 0,.slice none 0 0,.slice none 0 0,.slice none 0 0,.slice none 0 0,.int .i64 y.tls]) _ _ HT.out)
  have hsz:(w9.setRow (wd.heap.size) (#[.string ⟨s.name.toArray⟩,.int .i64 s.flags,.slice none 0 0,.slice none 0 0,.slice ra_ s.runPath.length rc_,.slice none 0 0,.slice none 0 0,.slice none 0 0,.int .i64 0,.slice none 0 0,.slice none 0 0,.slice none 0 0,.slice none 0 0,.slice none 0 0,.int .i64 y.tls])).heap.size=w9.heap.size:=by simp
  have hib:lb<wd.heap.size:=by omega
  have hPl:Step (·<w5.heap.size) w5 (w9.setRow (wd.heap.size) (#[.string ⟨s.name.toArray⟩,.int .i64 s.flags,.slice none 0 0,.slice none 0 0,.slice ra_ s.runPath.length rc_,.slice none 0 0,.slice none 0 0,.slice none 0 0,.int .i64 0,.slice none 0 0,.slice none 0 0,.slice none 0 0,.slice none 0 0,.slice none 0 0,.int .i64 y.tls])):=((Step.of_below HB7.out).trans (((Step.of_below HB9.out).imp (S':=(·<w5.heap.size)) (fun b hb=>by have hb:b<w5.heap.size:=hb;omega)))).trans (hs9.imp (fun b hb=>by have hb:b<w5.heap.size:=hb;omega))
  have hNw:Step (fun b=>b<w7.heap.size) w7 (w9.setRow (wd.heap.size) (#[.string ⟨s.name.toArray⟩,.int .i64 s.flags,.slice none 0 0,.slice none 0 0,.slice ra_ s.runPath.length rc_,.slice none 0 0,.slice none 0 0,.slice none 0 0,.int .i64 0,.slice none 0 0,.slice none 0 0,.slice none 0 0,.slice none 0 0,.slice none 0 0,.int .i64 y.tls])):=(Step.of_below HB9.out).trans (hs9.imp (fun b hb=>by omega))
  refine HK.out _ _ (.slice fa y.funcs.length fc) (.slice va y.vars.length vc) w5.heap.size lb (wd.heap.size) (.slice ra_ s.runPath.length rc_) ⟨by kernel_rfl,rfl,(by kernel_rfl),(by kernel_rfl),(by kernel_rfl),(by kernel_rfl),(by kernel_rfl),(by kernel_rfl),trivial⟩ ⟨HC.out.plan.below hPl.below,HC.out.spec,HC.out.low.trans (hPl.below.mono (by omega)),(hPl.block _ (by omega)).trans HC.out.sx,(hPl.block _ hz5).trans HC.out.rx,⟨HC.out.kx.no,HC.out.kr.no⟩,fun b hb=>(HC.out.plan.has_lt hb).2.1,⟨by omega,by omega,by omega⟩,by rw [hsz];omega,?_,?_,?_,?_,?_⟩
  ·rw [HYe.out,HJe.out];exact(hNw.block lb (by omega)).trans HLx.out
  ·rw [HYe.out];exact HFo.out.keeps (fun b hb=>hNw.block b (by omega))
  ·rw [HYe.out];exact HVo.out.keeps (fun b hb=>hNw.block b (by omega))
  ·exact HX9.out
  ·exact {imgM_none _ _ with name:=Hnm.out,flags:=Hfl.out,runPath:=((OwnK.lb (HO9.out.reE flat_str (E':=fun b=>b<w7.heap.size∨b=wd.heap.size) (fun g hg h=>by have:=(HO9.out.lt g hg).1;have:=hne g hg;omega))).keeps (fun b hb=>hs9.block b (fun e=>hb.2 (Or.inr e)))).imp (fun b hb=>⟨by have h1:=hb.2;omega,by rw [hsz];exact hb.1,fun e=>hb.2 (Or.inr e)⟩),tlsSize:=by have:=Hbd.out.tls;unfold I64;show -9223372036854775808≤y.tls∧y.tls≤9223372036854775807;omega }
end Go.Proofs.Ytpomdoliblilfaa
