/- Lemmas. -/
import Derived.Test.YtpomdoliblilfaaBld33
import Derived.Deep.DeepCutAuto
namespace Go.Proofs.Ytpomdoliblilfaa
set_option linter.unusedVariables false
set_option linter.unusedSimpArgs false
open Go.RowKit
theorem named_range (s:SpecL) (funcs:List Int) (hf:∀ x∈funcs,0≤x∧x≤100000000):∀ (l:List (List UInt8)) (q:PlanL × List Int),(∀ x∈q.2,0≤x∧x≤100000000)→∀ x∈(namedL s funcs l q).2,0≤x∧x≤100000000
 | [],q,h=>h
 | n :: l,q,h=>by
  unfold namedL
  split
  ·rename_i k _
   refine named_range s funcs hf l _ (fun x hx=> ?_)
   rcases List.mem_append.1 hx with hx | hx
   ·exact h x hx
   ·rcases List.mem_singleton.1 hx with rfl
    rw [List.getD_eq_getElem?_getD]
    cases e:funcs[k]? with
    | none=>exact⟨by simp,by simp⟩
    | some y=>exact hf y (List.mem_of_getElem? e)
  ·exact named_range s funcs hf l _ h
theorem setCell_arr {w:World} {b:Nat} {cs:Array Value} {t:TypeId} (h:w.heap[b]? =some (.cells cs t (0,0))) (i:Nat) (u:Value):(w.setCell ⟨b,i,none⟩ u).heap[b]? =some (.cells (cs.setIfInBounds i u) t (0,0)):=by
 simp [World.setCell,Array.getElem?_modify,h]
section
variable {w : World} {sv : SpecV} {s : SpecL} {wc w' : World} {own own' : Int} {v : PlanV} {p p' : PlanL} {fv vv : Value} {L0 lb ib : Nat} {iv iv' : ImgV} {im im' : ImgL}
theorem BSt.goP (h:BSt w sv s wc own v p fv vv L0 lb ib iv im) (hM:PlanM w.heap.size (w.heap.size+2) w' sv s own' v p') (hs:Step (fun b=>b<wc.heap.size∧b≠ib∧b≠w.heap.size+2∧¬ v.has b) wc w') (hx:w'.heap[ib]? =some (.cells (imgCells iv' im') 44 (0,0))) (hi:ImgM (fun b=>lb<b∧b<w'.heap.size∧b≠ib) w' iv' im'):BSt w sv s w' own' v p' fv vv L0 lb ib iv' im':=by
 have h0:=h.h0
 have hl:=h.ibl
 have hz:=hs.size
 have nl:∀ b,L0≤b→¬ v.has b:=fun b hb hh=>by have:=h.vL b hh;omega
 have nb:∀ b,b<w.heap.size→¬ v.has b:=fun b hb hh=>by have:=(h.plan.has_lt hh).1;omega
 refine⟨hM,h.spec,?_,?_,?_,h.nx,h.vL,h.h0,by omega,?_,?_,?_,hx,hi⟩
 ·exact h.low.trans ((hs.imp (S':=(·<w.heap.size)) (fun b hb=>⟨by have hb:b<w.heap.size:=hb;omega,by have hb:b<w.heap.size:=hb;omega,by have hb:b<w.heap.size:=hb;omega,nb b hb⟩)).below)
 ·exact(hs.block _ ⟨by omega,by omega,by omega,h.nx.1⟩).trans h.sx
 ·exact(hs.block _ ⟨by omega,by omega,by omega,h.nx.2⟩).trans h.rx
 ·exact(hs.block _ ⟨by omega,by omega,by omega,nl _ (by omega)⟩).trans h.lx
 ·exact h.fl.keeps (fun b hb=>hs.block b ⟨by omega,by omega,by omega,nl b hb.1⟩)
 ·exact h.vl.keeps (fun b hb=>hs.block b ⟨by omega,by omega,by omega,nl b hb.1⟩)
theorem BSt.imgStepP (h:BSt w sv s wc own v p fv vv L0 lb ib iv im) (hs:Step (fun b=>b<wc.heap.size∧b≠ib∧b≠w.heap.size+2∧¬ v.has b) wc w'):ImgM (fun b=>lb<b∧b<w'.heap.size∧b≠ib) w' iv im:=by
 have h0:=h.h0
 exact(h.img.keeps (fun b hb=>hs.block b ⟨hb.2.1,hb.2.2,by omega,fun hh=>by have:=h.vL b hh;omega⟩)).imp (fun b hb=>⟨hb.1,Nat.lt_of_lt_of_le hb.2.1 hs.size,hb.2.2⟩)
theorem BSt.specAt (h:BSt w sv s wc own v p fv vv L0 lb ib iv im):SpecM (·<w.heap.size) wc sv s:=h.spec.keeps (.of_below h.low)
theorem BSt.keptL (h:BSt w sv s wc own v p fv vv L0 lb ib iv im) {b:Nat} (h1:L0≤b) (h2:b<wc.heap.size):Kept (w.heap.size+2) v wc b:=⟨h2,by have:=h.h0;omega,fun hh=>by have:=h.vL b hh;omega⟩
theorem BSt.keptX (h:BSt w sv s wc own v p fv vv L0 lb ib iv im):Kept (w.heap.size+2) v wc w.heap.size:=⟨by have:=h.h0;have:=h.ibl;omega,by omega,h.nx.1⟩
theorem BSt.keptR (h:BSt w sv s wc own v p fv vv L0 lb ib iv im):Kept (w.heap.size+2) v wc (w.heap.size+1):=⟨by have:=h.h0;have:=h.ibl;omega,by omega,h.nx.2⟩
end
set_option maxHeartbeats 64000000 in
set_option maxRecDepth 100000 in
theorem bt4 {w:World} {sv:SpecV} {s:SpecL} {a:Act} {w5:World} {own:Int} {v:PlanV} {p:PlanL} {fv vv:Value} {L0 lb ib:Nat} {iv:ImgV} {tl:Int} (hF:bFr [(1,.pointer (some ⟨w.heap.size,0,none⟩)),(2,.pointer (some ⟨w.heap.size+1,0,none⟩)),(3,.int .i64 0),(4,.pointer (some ⟨w.heap.size+2,0,none⟩)),(5,.pointer (some ⟨lb,0,none⟩)),(6,.pointer (some ⟨ib,0,none⟩))] a) (hC:BSt w sv s w5 own v p fv vv L0 lb ib iv {imgNone with name:=s.name,flags:=s.flags,runPath:=s.runPath,tlsSize:=tl,needed:=s.needed }) (hfew:FewL s) (hiv:iv.init=.slice none 0 0∧iv.fini=.slice none 0 0)
  (hK:∀ a' wc i1 f1,bFr [(1,.pointer (some ⟨w.heap.size,0,none⟩)),(2,.pointer (some ⟨w.heap.size+1,0,none⟩)),(3,.int .i64 0),(4,.pointer (some ⟨w.heap.size+2,0,none⟩)),(5,.pointer (some ⟨lb,0,none⟩)),(6,.pointer (some ⟨ib,0,none⟩))] a'→BSt w sv s wc own v (namedL s (layL s (checkL s)).funcs s.fini ((namedL s (layL s (checkL s)).funcs s.init (p,[])).1,[])).1 fv vv L0 lb ib {iv with init:=i1,fini:=f1 } {imgNone with name:=s.name,flags:=s.flags,runPath:=s.runPath,tlsSize:=tl,needed:=s.needed,init:=(namedL s (layL s (checkL s)).funcs s.init (p,[])).2,fini:=(namedL s (layL s (checkL s)).funcs s.fini ((namedL s (layL s (checkL s)).funcs s.init (p,[])).1,[])).2 }→(bRest Try.f10 9).wp Try.prog (bodyPost Try.prog Try.f10 (BuildPost w s)) a' wc):(bRest Try.f10 8).wp Try.prog (bodyPost Try.prog Try.f10 (BuildPost w s)) a w5:=by
 have HK:=Lib.hid hK
 have HC:=Lib.hid hC
 have hib:=hC.ibl
 have h0:=hC.h0
 have Hbd:=Lib.hid (lay_bd hfew (check_sz hfew))
 obtain⟨fa,fc,hff⟩:=hC.fl.form
 obtain⟨va,vc,hvf⟩:=hC.vl.form
 obtain⟨na_,nc_,hnf⟩:=hC.spec.init.form
 obtain⟨ea_,ec_,hef⟩:=hC.spec.fini.form
 have Hnf:=Lib.hid hnf
 have Hef:=Lib.hid hef
 have HIv:=Lib.hid hiv
 have HNamed:Hid (∀ (wx:World) (px:PlanL) (nv:Value) (names:List (List UInt8)),PlanM w.heap.size (w.heap.size+2) wx sv s own v px→Step (fun b=>b<w5.heap.size∧b≠w.heap.size+2∧¬ v.has b) w5 wx→LB kStr (·<w.heap.size) w nv names→names.length≤2000→
   Calls Try.prog 18 #[.agg (layCells (w.heap.size+2) fv vv ⟨(layL s (checkL s)).stubs,(layL s (checkL s)).got,(layL s (checkL s)).plt,(layL s (checkL s)).stubs+24*(checkL s).jumps.length,(layL s (checkL s)).data,(layL s (checkL s)).tls⟩).toArray,nv] wx (NamedPost w.heap.size (w.heap.size+2) sv s own v wx (namedL s (layL s (checkL s)).funcs names (px,[])))):=Lib.hid (fun wx px nv names hM hs hn hl=>by
  have hz:=hs.size
  have nb:∀ b,b<w.heap.size→¬ v.has b:=fun b hb hh=>by have:=(hC.plan.has_lt hh).1;omega
  have hlo:Below w.heap.size w5 wx:=(hs.imp (S':=(·<w.heap.size)) (fun b hb=>⟨by have hb:b<w.heap.size:=hb;omega,by have hb:b<w.heap.size:=hb;omega,nb b hb⟩)).below
  exact named_any _ va vc _ hvf hM (hC.specAt.keeps (.of_below hlo)) (by omega) ((hC.fl.keeps (fun b hb=>hs.block b ⟨by omega,by omega,fun hh=>by have:=hC.vL b hh;omega⟩)).imp (fun b hb=>⟨by omega,by omega,fun hh=>by have:=hC.vL b hh;omega⟩)) Hbd.out.funcs (hn.below (hC.low.trans hlo)) hl)
 have hin:=hfew.init
 have hfi:=hfew.fini
 have hX5:=hC.ix
 have Hlx:=Lib.hid hC.lx
 subst hff hvf
 have HXl:Hid (w5.heap[lb]? =some (.cells #[.pointer (some ⟨w.heap.size+2,0,none⟩),.slice fa (layL s (checkL s)).funcs.length fc,.slice va (layL s (checkL s)).vars.length vc,.int .i64 (layL s (checkL s)).stubs,.int .i64 (layL s (checkL s)).got,.int .i64 (layL s (checkL s)).plt,.int .i64 0,.int .i64 ((layL s (checkL s)).stubs+24*(checkL s).jumps.length),.int .i64 (layL s (checkL s)).data,.int .i64 (layL s (checkL s)).tls] 83 (0,0))):=Lib.hid Hlx.out
 have HNM:Hid _:=HNamed
 clear hC hK hfew hnf hef hiv hX5 Hlx HNM
 have e8:bRest Try.f10 8=.seq (bCode Try.f10 8) (bRest Try.f10 9):=bd_seq _ 8 (by kernel_rfl)
 rw [e8]
 clear e8
 apply bFr.elim hF
 clear hF
 intro V0 V1 V2 V3 V4 V5 V6 V7 V8 V9 V10 V11 V12 V13 V14 V15 V16 V17 V18 V19 V20 V21 V22 V23 V24 V25 V26 V27 V28 V29 V30 V31 V32 V33 V34 V35 V36 V37 V38 V39
  V40 V41 V42 V43 V44 V45 V46 V47 V48 V49 V50 V51 V52 V53 V54 V55 V56 V57 V58 V59 V60 V61 V62 V63 V64 V65 V66 V67 V68 V69 V70 V71 V72 V73 V74 V75 V76 V77 V78 V79
  V80 V81 V82 V83 V84 V85 V86 V87 V88 V89 V90 V91 V92 V93 V94 V95 V96 V97 V98 V99 V100 V101 V102 V103 V104 V105 V106 V107 V108 V109 V110 V111 V112 V113 V114 V115 V116 V117 V118 V119
  V120 V121 V122 V123 V124 V125 V126 V127 V128 V129 V130 V131 V132 V133 V134 V135 V136 V137 V138 V139 V140 V141 V142 V143 V144 V145 V146 V147 V148 V149 V150 V151 V152 V153 V154 V155 V156 V157 V158 V159
  V160 V161 V162 V163 V164 V165 V166 V167 V168 V169 V170 V171 V172 V173 V174 V175 V176 V177 V178 V179 V180 V181 V182 V183 V184 V185 V186 V187 V188 V189 V190 V191 V192 V193 V194 V195 V196 V197 V198 V199
  V200 V201 V202 V203 V204 V205 V206 V207 V208 V209 V210 V211 V212 V213 V214 V215 V216 V217 V218 V219 V220 V221 V222 V223 V224 V225 V226 V227 V228 V229 V230 V231 V232 V233 V234 V235 V236 V237 V238 V239
  V240 V241 V242 V243 V244 V245 V246 hF
 obtain⟨-,-,e1,e2,e3,e4,e5,e6,-⟩:=hF
 replace e1:V1=.pointer (some ⟨w.heap.size,0,none⟩):=e1
 subst e1
 replace e2:V2=.pointer (some ⟨w.heap.size+1,0,none⟩):=e2
 subst e2
 replace e3:V3=.int .i64 0:=e3
 subst e3
 replace e4:V4=.pointer (some ⟨w.heap.size+2,0,none⟩):=e4
 subst e4
 replace e5:V5=.pointer (some ⟨lb,0,none⟩):=e5
 subst e5
 replace e6:V6=.pointer (some ⟨ib,0,none⟩):=e6
 subst e6
 conv in bCode _ 8=>whnf
 generalize hY:layL s (checkL s)=y at *
 have HYe:=Lib.hid hY
 generalize hJ:((checkL s).jumps.length:Int)=jn at *
 have HJe:=Lib.hid hJ
 clear hY hJ
 have l0:=cells_row HXl.out 0 _ rfl
 have l1:=cells_row HXl.out 1 _ rfl
 have l2:=cells_row HXl.out 2 _ rfl
 have l3:=cells_row HXl.out 3 _ rfl
 have l4:=cells_row HXl.out 4 _ rfl
 have l5:=cells_row HXl.out 5 _ rfl
 have l6:=cells_row HXl.out 6 _ rfl
 have l7:=cells_row HXl.out 7 _ rfl
 have l8:=cells_row HXl.out 8 _ rfl
 have l9:=cells_row HXl.out 9 _ rfl
 have x7:w5.cell? ⟨w.heap.size,7,none⟩=some (.slice na_ s.init.length nc_):=by rw [Lib.cell_of_heap HC.out.sx,← Hnf.out];rfl
 have x8:w5.cell? ⟨w.heap.size,8,none⟩=some (.slice ea_ s.fini.length ec_):=by rw [Lib.cell_of_heap HC.out.sx,← Hef.out];rfl
 go_upto_region 14 with fail
 refine wp_region_phase 10 (by kernel_rfl) (by kernel_rfl) ?_
 simp only [List.take_succ_cons,List.take_zero,List.drop_succ_cons,List.drop_zero,List.take_nil,List.drop_nil]
 refine wpAny_of_held (S:=fun w':World=>w'.cell? ⟨lb,0,none⟩=some (.pointer (some ⟨w.heap.size+2,0,none⟩))∧w'.cell? ⟨lb,1,none⟩=some (.slice fa y.funcs.length fc)∧w'.cell? ⟨lb,2,none⟩=some (.slice va y.vars.length vc)∧w'.cell? ⟨lb,3,none⟩=some (.int .i64 y.stubs)∧w'.cell? ⟨lb,4,none⟩=some (.int .i64 y.got)∧w'.cell? ⟨lb,5,none⟩=some (.int .i64 y.plt)∧w'.cell? ⟨lb,6,none⟩=some (.int .i64 0)∧w'.cell? ⟨lb,7,none⟩=some (.int .i64 (y.stubs+24*jn))∧w'.cell? ⟨lb,8,none⟩=some (.int .i64 y.data)∧w'.cell? ⟨lb,9,none⟩=some (.int .i64 y.tls)∧w'.cell? ⟨w.heap.size,7,none⟩=some (.slice na_ s.init.length nc_)∧w'.cell? ⟨w.heap.size,8,none⟩=some (.slice ea_ s.fini.length ec_)) _ _ _ _ ?_
 have hHeld:(fun w':World=>w'.cell? ⟨lb,0,none⟩=some (.pointer (some ⟨w.heap.size+2,0,none⟩))∧w'.cell? ⟨lb,1,none⟩=some (.slice fa y.funcs.length fc)∧w'.cell? ⟨lb,2,none⟩=some (.slice va y.vars.length vc)∧w'.cell? ⟨lb,3,none⟩=some (.int .i64 y.stubs)∧w'.cell? ⟨lb,4,none⟩=some (.int .i64 y.got)∧w'.cell? ⟨lb,5,none⟩=some (.int .i64 y.plt)∧w'.cell? ⟨lb,6,none⟩=some (.int .i64 0)∧w'.cell? ⟨lb,7,none⟩=some (.int .i64 (y.stubs+24*jn))∧w'.cell? ⟨lb,8,none⟩=some (.int .i64 y.data)∧w'.cell? ⟨lb,9,none⟩=some (.int .i64 y.tls)∧w'.cell? ⟨w.heap.size,7,none⟩=some (.slice na_ s.init.length nc_)∧w'.cell? ⟨w.heap.size,8,none⟩=some (.slice ea_ s.fini.length ec_)) (World.drew w5):=⟨l0,l1,l2,l3,l4,l5,l6,l7,l8,l9,x7,x8⟩
 show wpAnyH _ _ _ _ _ _ _ _ (World.drew _)
 have HMd:=Lib.hid (HC.out.plan.below (Below.refl _ w5).drew)
 have HSd:=Lib.hid ((Step.refl (fun b=>b<w5.heap.size∧b≠w.heap.size+2∧¬ v.has b) w5).drew)
 have HPd:=Lib.hid (PStep.below (pb:=w.heap.size+2) (v:=v) (Below.refl _ w5).drew)
 clear l0 l1 l2 l3 l4 l5 l6 l7 l8 l9 x7 x8
 generalize (World.drew w5)=wd at *
 refine wpAnyH_take (i:=0) (v:= ?_) rfl (by kernel_rfl) (by kernel_rfl) (by kernel_rfl) (fun _ _ _ h=>h) (Or.inl ⟨by rfl,?_⟩) hHeld ?_
 rotate_left
 ·(intro w hSw;(try dsimp only at hSw);go_simp;try with_reducible rfl)
 simp only [List.getElem_toArray,List.getElem_cons_zero,List.getElem_cons_succ,Act.put,List.setIfInBounds_toArray,List.set_cons_zero,List.set_cons_succ]
 refine wpAnyH_take (i:=1) (v:= ?_) rfl (by kernel_rfl) (by kernel_rfl) (by kernel_rfl) (fun _ _ _ h=>h) (Or.inl ⟨by rfl,?_⟩) hHeld ?_
 rotate_left
 ·(intro w hSw;(try dsimp only at hSw);go_simp;try with_reducible rfl)
 simp only [List.getElem_toArray,List.getElem_cons_zero,List.getElem_cons_succ,Act.put,List.setIfInBounds_toArray,List.set_cons_zero,List.set_cons_succ]
 refine wpAnyH_take (i:=2) (v:= ?_) rfl (by kernel_rfl) (by kernel_rfl) (by kernel_rfl) (fun _ _ _ h=>h) (Or.inl ⟨by rfl,?_⟩) hHeld ?_
 rotate_left
 ·(intro w hSw;(try dsimp only at hSw);go_simp;try with_reducible rfl)
 simp only [List.getElem_toArray,List.getElem_cons_zero,List.getElem_cons_succ,Act.put,List.setIfInBounds_toArray,List.set_cons_zero,List.set_cons_succ]
 refine wpAnyH_take (i:=4) (v:= ?_) rfl (by kernel_rfl) (by kernel_rfl) (by kernel_rfl) (fun _ _ _ h=>h) (Or.inl ⟨by rfl,?_⟩) hHeld ?_
 rotate_left
 ·(intro w hSw;(try dsimp only at hSw);go_simp;try with_reducible rfl)
 simp only [List.getElem_toArray,List.getElem_cons_zero,List.getElem_cons_succ,Act.put,List.setIfInBounds_toArray,List.set_cons_zero,List.set_cons_succ]
 refine wpAnyH_take (i:=5) (v:= ?_) rfl (by kernel_rfl) (by kernel_rfl) (by kernel_rfl) (fun _ _ _ h=>h) (Or.inl ⟨by rfl,?_⟩) hHeld ?_
 rotate_left
 ·(intro w hSw;(try dsimp only at hSw);go_simp;try with_reducible rfl)
 simp only [List.getElem_toArray,List.getElem_cons_zero,List.getElem_cons_succ,Act.put,List.setIfInBounds_toArray,List.set_cons_zero,List.set_cons_succ]
 refine wpAnyH_take (i:=6) (v:= ?_) rfl (by kernel_rfl) (by kernel_rfl) (by kernel_rfl) (fun _ _ _ h=>h) (Or.inl ⟨by rfl,?_⟩) hHeld ?_
 rotate_left
 ·(intro w hSw;(try dsimp only at hSw);go_simp;try with_reducible rfl)
 simp only [List.getElem_toArray,List.getElem_cons_zero,List.getElem_cons_succ,Act.put,List.setIfInBounds_toArray,List.set_cons_zero,List.set_cons_succ]
 refine wpAnyH_ready (rs:=[3]) (by kernel_rfl) (by simp) ?_
 refine AllReadyH.cons rfl (fun K hK=> ?_) AllReadyH.nil
 go_simp
 refine(HNamed.out wd p (.slice na_ s.init.length nc_) s.init HMd.out HSd.out (by rw [← Hnf.out];exact HC.out.spec.init) hin).mono ?_
 rintro e w6 ⟨i1,rfl,hM6,hs6,ho6⟩
 have HM6:=Lib.hid hM6
 have HO6:=Lib.hid ho6
 have HP6:=Lib.hid (HPd.out.trans hs6)
 have hkx:=(HPd.out.kept HC.out.keptX)
 have hkl:=(HPd.out.kept (HC.out.keptL h0.2.1 (by omega)))
 refine hK.out _ _ ⟨(World.cell?_of_block (hs6.block hkl)).trans hHeld.1,(World.cell?_of_block (hs6.block hkl)).trans hHeld.2.1,(World.cell?_of_block (hs6.block hkl)).trans hHeld.2.2.1,(World.cell?_of_block (hs6.block hkl)).trans hHeld.2.2.2.1,(World.cell?_of_block (hs6.block hkl)).trans hHeld.2.2.2.2.1,(World.cell?_of_block (hs6.block hkl)).trans hHeld.2.2.2.2.2.1,(World.cell?_of_block (hs6.block hkl)).trans hHeld.2.2.2.2.2.2.1,(World.cell?_of_block (hs6.block hkl)).trans hHeld.2.2.2.2.2.2.2.1,(World.cell?_of_block (hs6.block hkl)).trans hHeld.2.2.2.2.2.2.2.2.1,(World.cell?_of_block (hs6.block hkl)).trans hHeld.2.2.2.2.2.2.2.2.2.1,(World.cell?_of_block (hs6.block hkx)).trans hHeld.2.2.2.2.2.2.2.2.2.2.1,(World.cell?_of_block (hs6.block hkx)).trans hHeld.2.2.2.2.2.2.2.2.2.2.2⟩ (fun hHeld=> ?_)
 have hkx6:=hs6.kept hkx
 have hkl6:=hs6.kept hkl
 clear hK K hM6 hs6 ho6 hkx hkl
 try simp only [List.getElem_toArray,List.getElem_cons_zero,List.getElem_cons_succ,Act.put,List.setIfInBounds_toArray,List.set_cons_zero,List.set_cons_succ]
 refine wpAnyH_take (i:=8) (v:= ?_) rfl (by kernel_rfl) (by kernel_rfl) (by kernel_rfl) (fun _ _ _ h=>h) (Or.inl ⟨by rfl,?_⟩) hHeld ?_
 rotate_left
 ·(intro w hSw;(try dsimp only at hSw);go_simp;try with_reducible rfl)
 simp only [List.getElem_toArray,List.getElem_cons_zero,List.getElem_cons_succ,Act.put,List.setIfInBounds_toArray,List.set_cons_zero,List.set_cons_succ]
 refine wpAnyH_ready (rs:=[7]) (by kernel_rfl) (by simp) ?_
 refine AllReadyH.cons rfl (fun K hK=> ?_) AllReadyH.nil
 go_simp
 refine(HNamed.out w6 _ (.slice ea_ s.fini.length ec_) s.fini HM6.out (HP6.out.step) (by rw [← Hef.out];exact HC.out.spec.fini) hfi).mono ?_
 rintro e w7 ⟨f1,rfl,hM7,hs7,ho7⟩
 have HM7:=Lib.hid hM7
 have HO7:=Lib.hid ho7
 have HP7:=Lib.hid (HP6.out.trans hs7)
 have HO67:=Lib.hid (HO6.out.flat_keep flat_int (fun g hg=>hs7.block ⟨(HO6.out.lt g hg).2,by have:=(HO6.out.lt g hg).1;have:=HPd.out.step.size;omega,fun hh=>by have:=HC.out.vL g hh;have:=(HO6.out.lt g hg).1;have:=HPd.out.step.size;omega⟩))
 refine hK.out _ _ ⟨(World.cell?_of_block (hs7.block hkl6)).trans hHeld.1,(World.cell?_of_block (hs7.block hkl6)).trans hHeld.2.1,(World.cell?_of_block (hs7.block hkl6)).trans hHeld.2.2.1,(World.cell?_of_block (hs7.block hkl6)).trans hHeld.2.2.2.1,(World.cell?_of_block (hs7.block hkl6)).trans hHeld.2.2.2.2.1,(World.cell?_of_block (hs7.block hkl6)).trans hHeld.2.2.2.2.2.1,(World.cell?_of_block (hs7.block hkl6)).trans hHeld.2.2.2.2.2.2.1,(World.cell?_of_block (hs7.block hkl6)).trans hHeld.2.2.2.2.2.2.2.1,(World.cell?_of_block (hs7.block hkl6)).trans hHeld.2.2.2.2.2.2.2.2.1,(World.cell?_of_block (hs7.block hkl6)).trans hHeld.2.2.2.2.2.2.2.2.2.1,(World.cell?_of_block (hs7.block hkx6)).trans hHeld.2.2.2.2.2.2.2.2.2.2.1,(World.cell?_of_block (hs7.block hkx6)).trans hHeld.2.2.2.2.2.2.2.2.2.2.2⟩ (fun hHeld=> ?_)
 clear hK K hM7 hs7 ho7 hkx6 hkl6
 try simp only [List.getElem_toArray,List.getElem_cons_zero,List.getElem_cons_succ,Act.put,List.setIfInBounds_toArray,List.set_cons_zero,List.set_cons_succ]
 obtain⟨ia_,ic_,hif⟩:=HO67.out.form
 obtain⟨ja_,jc_,hjf⟩:=HO7.out.form
 subst hif hjf
 have HX7:Hid (w7.heap[ib]? =some (.cells (imgCells iv {imgNone with name:=s.name,flags:=s.flags,runPath:=s.runPath,tlsSize:=tl,needed:=s.needed }) 44 (0,0))):=Lib.hid ((HP7.out.block (HC.out.keptL (by omega) hib)).trans HC.out.ix)
 have c11:w7.cell? ⟨ib,11,none⟩=some (.slice none 0 0):=by rw [Lib.cell_of_heap HX7.out,← HIv.out.1];rfl
 have f11:w7.frozen? ⟨ib,11,none⟩=false:=Lib.frozen_of_heap HX7.out 11
 have hz7:=HP7.out.step.size
 have hxi:w.heap.size≠ib:=by omega
 have hli:lb≠ib:=by omega
 refine wpAnyH_ready (rs:=[9]) (by kernel_rfl) (by simp) ?_
 refine AllReadyH.cons rfl (fun K hK=> ?_) AllReadyH.nil
 go_simp
 generalize hw8:w7.setCell ⟨ib,11,none⟩ (.slice ia_ (namedL s y.funcs s.init (p,[])).2.length ic_)=w8
 have hs8:Step (fun b=>b≠ib) w7 w8:=by rw [← hw8];exact(Step.refl _ w7).setCell (fun h=>h rfl) _
 have HX8:Hid (w8.heap[ib]? =some (.cells (imgCells {iv with init:=.slice ia_ (namedL s y.funcs s.init (p,[])).2.length ic_ } {imgNone with name:=s.name,flags:=s.flags,runPath:=s.runPath,tlsSize:=tl,needed:=s.needed }) 44 (0,0))):=Lib.hid (by rw [← hw8];exact setCell_arr HX7.out 11 _)
 have HS8:=Lib.hid hs8
 refine hK.out _ _ ⟨(World.cell?_of_block (HS8.out.block _ hli)).trans hHeld.1,(World.cell?_of_block (HS8.out.block _ hli)).trans hHeld.2.1,(World.cell?_of_block (HS8.out.block _ hli)).trans hHeld.2.2.1,(World.cell?_of_block (HS8.out.block _ hli)).trans hHeld.2.2.2.1,(World.cell?_of_block (HS8.out.block _ hli)).trans hHeld.2.2.2.2.1,(World.cell?_of_block (HS8.out.block _ hli)).trans hHeld.2.2.2.2.2.1,(World.cell?_of_block (HS8.out.block _ hli)).trans hHeld.2.2.2.2.2.2.1,(World.cell?_of_block (HS8.out.block _ hli)).trans hHeld.2.2.2.2.2.2.2.1,(World.cell?_of_block (HS8.out.block _ hli)).trans hHeld.2.2.2.2.2.2.2.2.1,(World.cell?_of_block (HS8.out.block _ hli)).trans hHeld.2.2.2.2.2.2.2.2.2.1,(World.cell?_of_block (HS8.out.block _ hxi)).trans hHeld.2.2.2.2.2.2.2.2.2.2.1,(World.cell?_of_block (HS8.out.block _ hxi)).trans hHeld.2.2.2.2.2.2.2.2.2.2.2⟩ (fun hHeld=> ?_)
 clear hK K c11 f11 hw8 hs8
 try simp only [List.getElem_toArray,List.getElem_cons_zero,List.getElem_cons_succ,Act.put,List.setIfInBounds_toArray,List.set_cons_zero,List.set_cons_succ]
 refine wpAnyH_done (by kernel_rfl) ?_ _
 simp only [phaseQ]
 clear hHeld
 have c12:w8.cell? ⟨ib,12,none⟩=some (.slice none 0 0):=by rw [Lib.cell_of_heap HX8.out,← HIv.out.2];rfl
 have f12:w8.frozen? ⟨ib,12,none⟩=false:=Lib.frozen_of_heap HX8.out 12
 go_wp2_with fail
 have hs9:Step (fun b=>b≠ib) w8 (w8.setCell ⟨ib,12,none⟩ (.slice ja_ (namedL s y.funcs s.fini ((namedL s y.funcs s.init (p,[])).1,[])).2.length jc_)):=(Step.refl _ w8).setCell (fun h=>h rfl) _
 have hX9:(w8.setCell ⟨ib,12,none⟩ (.slice ja_ (namedL s y.funcs s.fini ((namedL s y.funcs s.init (p,[])).1,[])).2.length jc_)).heap[ib]? =some (.cells (imgCells {iv with init:=.slice ia_ (namedL s y.funcs s.init (p,[])).2.length ic_,fini:=.slice ja_ (namedL s y.funcs s.fini ((namedL s y.funcs s.init (p,[])).1,[])).2.length jc_ } {imgNone with name:=s.name,flags:=s.flags,runPath:=s.runPath,tlsSize:=tl,needed:=s.needed,init:=(namedL s (layL s (checkL s)).funcs s.init (p,[])).2,fini:=(namedL s (layL s (checkL s)).funcs s.fini ((namedL s (layL s (checkL s)).funcs s.init (p,[])).1,[])).2 }) 44 (0,0)):=setCell_arr HX8.out 12 _
 have hS79:Step (fun b=>b≠ib) w7 (w8.setCell ⟨ib,12,none⟩ (.slice ja_ (namedL s y.funcs s.fini ((namedL s y.funcs s.init (p,[])).1,[])).2.length jc_)):=HS8.out.trans hs9
 have hS:Step (fun b=>b<w5.heap.size∧b≠ib∧b≠w.heap.size+2∧¬ v.has b) w5 (w8.setCell ⟨ib,12,none⟩ (.slice ja_ (namedL s y.funcs s.fini ((namedL s y.funcs s.init (p,[])).1,[])).2.length jc_)):=(HP7.out.step.imp (fun b hb=>⟨hb.1,hb.2.2.1,hb.2.2.2⟩)).trans (hS79.imp (fun b hb=>hb.2.1))
 have hM9:PlanM w.heap.size (w.heap.size+2) (w8.setCell ⟨ib,12,none⟩ (.slice ja_ (namedL s y.funcs s.fini ((namedL s y.funcs s.init (p,[])).1,[])).2.length jc_)) sv s own v _:=⟨(hS79.block _ (by omega)).trans HM7.out.ex,HM7.out.base,HM7.out.syms.flat_keep flat_sym (fun g hg=>hS79.block g (by have:=HC.out.vL g (Or.inl hg);omega)),HM7.out.cells.flat_keep flat_cell (fun g hg=>hS79.block g (by have:=HC.out.vL g (Or.inr (Or.inl hg));omega)),HM7.out.jumps.flat_keep flat_int (fun g hg=>hS79.block g (by have:=HC.out.vL g (Or.inr (Or.inr hg));omega))⟩
 have hsz:(w8.setCell ⟨ib,12,none⟩ (.slice ja_ (namedL s y.funcs s.fini ((namedL s y.funcs s.init (p,[])).1,[])).2.length jc_)).heap.size=w8.heap.size:=by simp
 have hz8:=HS8.out.size
 have hzd:=HPd.out.step.size
 have hz6:=HP6.out.step.size
 have hi1:LB kInt (fun b=>lb<b∧b<(w8.setCell ⟨ib,12,none⟩ (.slice ja_ (namedL s y.funcs s.fini ((namedL s y.funcs s.init (p,[])).1,[])).2.length jc_)).heap.size∧b≠ib) (w8.setCell ⟨ib,12,none⟩ (.slice ja_ (namedL s y.funcs s.fini ((namedL s y.funcs s.init (p,[])).1,[])).2.length jc_)) (.slice ia_ (namedL s y.funcs s.init (p,[])).2.length ic_) (namedL s y.funcs s.init (p,[])).2:=((OwnK.lb (HO67.out.reE flat_int (E':=fun b=>b<wd.heap.size) (fun g hg h=>by have:=(HO67.out.lt g hg).1;omega))).keeps (fun b hb=>hS79.block b (by have:=hb.2;omega))).imp (fun b hb=>⟨by have:=hb.2;omega,by have:=hb.1;omega,by have:=hb.2;omega⟩)
 have hj1:LB kInt (fun b=>lb<b∧b<(w8.setCell ⟨ib,12,none⟩ (.slice ja_ (namedL s y.funcs s.fini ((namedL s y.funcs s.init (p,[])).1,[])).2.length jc_)).heap.size∧b≠ib) (w8.setCell ⟨ib,12,none⟩ (.slice ja_ (namedL s y.funcs s.fini ((namedL s y.funcs s.init (p,[])).1,[])).2.length jc_)) (.slice ja_ (namedL s y.funcs s.fini ((namedL s y.funcs s.init (p,[])).1,[])).2.length jc_) (namedL s y.funcs s.fini ((namedL s y.funcs s.init (p,[])).1,[])).2:=((OwnK.lb (HO7.out.reE flat_int (E':=fun b=>b<w6.heap.size) (fun g hg h=>by have:=(HO7.out.lt g hg).1;omega))).keeps (fun b hb=>hS79.block b (by have:=hb.2;omega))).imp (fun b hb=>⟨by have:=hb.2;omega,by have:=hb.1;omega,by have:=hb.2;omega⟩)
 have hr1:=named_range s y.funcs Hbd.out.funcsR s.init (p,[]) (fun x hx=>by cases hx)
 have hr2:=named_range s y.funcs Hbd.out.funcsR s.fini ((namedL s y.funcs s.init (p,[])).1,[]) (fun x hx=>by cases hx)
 exact HK.out _ _ _ _ ⟨by kernel_rfl,rfl,(by kernel_rfl),(by kernel_rfl),(by kernel_rfl),(by kernel_rfl),(by kernel_rfl),(by kernel_rfl),trivial⟩ (HC.out.goP hM9 hS hX9 {HC.out.imgStepP hS with init:=hi1,initR:=fun x hx=>by have:=hr1 x hx;unfold I64;omega,fini:=hj1,finiR:=fun x hx=>by have:=hr2 x hx;unfold I64;omega })
end Go.Proofs.Ytpomdoliblilfaa
