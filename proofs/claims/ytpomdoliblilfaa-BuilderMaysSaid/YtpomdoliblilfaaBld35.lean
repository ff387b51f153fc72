/- Lemmas. -/
import Derived.Test.YtpomdoliblilfaaBld34
import Derived.Deep.DeepCutAuto
namespace Go.Proofs.Ytpomdoliblilfaa
set_option linter.unusedVariables false
set_option linter.unusedSimpArgs false
open Go.RowKit
def initQ (s:SpecL):PlanL × List Int:=namedL s (layL s (checkL s)).funcs s.init (checkL s,[])
def finiQ (s:SpecL):PlanL × List Int:=namedL s (layL s (checkL s)).funcs s.fini ((initQ s).1,[])
theorem named_plan (s:SpecL) (funcs:List Int):∀ (l:List (List UInt8)) (q:PlanL × List Int),(namedL s funcs l q).1.syms=q.1.syms∧(namedL s funcs l q).1.cells=q.1.cells∧(namedL s funcs l q).1.jumps=q.1.jumps∧(q.1.fault≠0→(namedL s funcs l q).1.fault≠0)
 | [],q=>⟨rfl,rfl,rfl,fun h=>h⟩
 | n :: l,q=>by
  unfold namedL
  split
  ·exact named_plan s funcs l _
  ·obtain⟨h1,h2,h3,h4⟩:=named_plan s funcs l (q.1.fail 103,q.2)
   have e:∀ p:PlanL,(p.fail 103).syms=p.syms∧(p.fail 103).cells=p.cells∧(p.fail 103).jumps=p.jumps:=fun p=>by unfold PlanL.fail;split<;>exact⟨rfl,rfl,rfl⟩
   exact⟨h1.trans (e _).1,h2.trans (e _).2.1,h3.trans (e _).2.2,fun h=>h4 (by show(q.1.fail 103).fault≠0;rw [fail_keep h];exact h)⟩
theorem fini_plan (s:SpecL):(finiQ s).1.syms=(checkL s).syms∧(finiQ s).1.cells=(checkL s).cells∧(finiQ s).1.jumps=(checkL s).jumps:=by
 obtain⟨a1,a2,a3,_⟩:=named_plan s (layL s (checkL s)).funcs s.fini ((initQ s).1,[])
 obtain⟨b1,b2,b3,_⟩:=named_plan s (layL s (checkL s)).funcs s.init (checkL s,[])
 exact⟨a1.trans b1,a2.trans b2,a3.trans b3⟩
def placedQ (s:SpecL):PlanL:={ (finiQ s).1 with syms:=symsL s (layL s (checkL s)) (finiQ s).1.syms }
def instsQ (s:SpecL):PlanL × List InstL:=instsL s (layL s (checkL s)) (placedQ s)
theorem build_eq (s:SpecL):buildL s=if 512<s.funcs.length∨512<s.vars.length then (imgNone,104) else if (checkL s).fault≠0 then (imgNone,(checkL s).fault) else if (finiQ s).1.fault≠0 then (imgNone,(finiQ s).1.fault)
  else if 512<(checkL s).syms.length∨65536<(layL s (checkL s)).data∨4096<(layL s (checkL s)).tls then (imgNone,104)
  else if (instsQ s).2.all instB=false then (imgNone,101)
  else if mayL (imageL s (layL s (checkL s)) (initQ s).2 (finiQ s).2 (instsQ s).1 (instsQ s).2)≠0 then (imgNone,mayL (imageL s (layL s (checkL s)) (initQ s).2 (finiQ s).2 (instsQ s).1 (instsQ s).2)) else (imageL s (layL s (checkL s)) (initQ s).2 (finiQ s).2 (instsQ s).1 (instsQ s).2,0):=rfl
structure Sound (s:SpecL):Prop where
 lens:¬ (512<s.funcs.length∨512<s.vars.length)
 check:(checkL s).fault=0
 fini:(finiQ s).1.fault=0
 sizes:¬ (512<(checkL s).syms.length∨65536<(layL s (checkL s)).data∨4096<(layL s (checkL s)).tls)
set_option maxHeartbeats 64000000 in
set_option maxRecDepth 100000 in
theorem bt5 {w:World} {sv:SpecV} {s:SpecL} {a:Act} {w5:World} {own:Int} {v:PlanV} {fv vv:Value} {L0 lb ib:Nat} {iv:ImgV} {im:ImgL} (hF:bFr [(1,.pointer (some ⟨w.heap.size,0,none⟩)),(2,.pointer (some ⟨w.heap.size+1,0,none⟩)),(3,.int .i64 0),(4,.pointer (some ⟨w.heap.size+2,0,none⟩)),(5,.pointer (some ⟨lb,0,none⟩)),(6,.pointer (some ⟨ib,0,none⟩))] a) (hC:BSt w sv s w5 own v (finiQ s).1 fv vv L0 lb ib iv im) (hfew:FewL s) (hlens:¬ (512<s.funcs.length∨512<s.vars.length)) (hck:(checkL s).fault=0)
  (hK:Sound s→∀ a' wc,bFr [(1,.pointer (some ⟨w.heap.size,0,none⟩)),(2,.pointer (some ⟨w.heap.size+1,0,none⟩)),(3,.int .i64 0),(4,.pointer (some ⟨w.heap.size+2,0,none⟩)),(5,.pointer (some ⟨lb,0,none⟩)),(6,.pointer (some ⟨ib,0,none⟩))] a'→BSt w sv s wc own v (finiQ s).1 fv vv L0 lb ib iv im→(bRest Try.f10 11).wp Try.prog (bodyPost Try.prog Try.f10 (BuildPost w s)) a' wc):(bRest Try.f10 9).wp Try.prog (bodyPost Try.prog Try.f10 (BuildPost w s)) a w5:=by
 have HK:=Lib.hid hK
 have HC:=Lib.hid hC
 have Hlens:=Lib.hid hlens
 have Hck:=Lib.hid hck
 have hib:=hC.ibl
 have h0:=hC.h0
 have Hbd:=Lib.hid (lay_bd hfew (check_sz hfew))
 have HR5:=Lib.hid hC.rx
 have c13:=hC.plan.c13
 obtain⟨sya,syc,hsf⟩:=hC.plan.syms.form
 have c9:=hC.plan.c9
 rw [hsf,(fini_plan s).1]at c9
 have l8:=cells_row hC.lx 8 _ rfl
 have l9:=cells_row hC.lx 9 _ rfl
 have hsl:=check_sz hfew
 have hsl2:(checkL s).syms.length≤40000:=by unfold PlanL.sz at hsl;omega
 have hld:=Hbd.out.data
 have hlt:=Hbd.out.tls
 have HBe:=Lib.hid (build_eq s)
 clear hC hK hfew hsf hsl
 have e9:bRest Try.f10 9=.seq (bCode Try.f10 9) (bRest Try.f10 10):=bd_seq _ 9 (by kernel_rfl)
 have e10:bRest Try.f10 10=.seq (bCode Try.f10 10) (bRest Try.f10 11):=bd_seq _ 10 (by kernel_rfl)
 rw [e9,e10]
 clear e9 e10
 apply bFr.elim hF
 clear hF
 intro V0 V1 V2 V3 V4 V5 V6 V7 V8 V9 V10 V11 V12 V13 V14 V15 V16 V17 V18 V19 V20 V21 V22 V23 V24 V25 V26 V27 V28 V29 V30 V31 V32 V33 V34 V35 V36 V37 V38 V39
  V40 V41 V42 V43 V44 V45 V46 V47 V48 V49 V50 V51 V52 V53 V54 V55 V56 V57 V58 V59 V60 V61 V62 V63 V64 V65 V66 V67 V68 V69 V70 V71 V72 V73 V74 V75 V76 V77 V78 V79
  V80 V81 V82 V83 V84 V85 V86 V87 V88 V89 V90 V91 V92 V93 V94 V95 V96 V97 V98 V99 V100 V101 V102 V103 V104 V105 V106 V107 V108 V109 V110 V111 V112 V113 V114 V115 V116 V117 V118 V119
  V120 V121 V122 V123 V124 V125 V126 V127 V128 V129 V130 V131 V132 V133 V134 V135 V136 V137 V138 V139 V140 V141 V142 V143 V144 V145 V146 V147 V148 V149 V150 V151 V152 V153 V154 V155 V156 V157 V158 V159
  V160 V161 V162 V163 V164 V165 V166 V167 V168 V169 V170 V171 V172 V173 V174 V175 V176 V177 V178 V179 V180 V181 V182 V183 V184 V185 V186 V187 V188 V189 V190 V191 V192 V193 V194 V195 V196 V197 V198 V199
  V200 V201 V202 V203 V204 V205 V206 V207 V208 V209 V210 V211 V212 V213 V214 V215 V216 V217 V218 V219 V220 V221 V222 V223 V224 V225 V226 V227 V228 V229 V230 V231 V232 V233 V234 V235 V236 V237 V238 V239
  V240 V241 V242 V243 V244 V245 V246 hF
 obtain⟨-,-,e1,e2,e3,e4,e5,e6,-⟩:=hF
 replace e1:V1=.pointer (some ⟨w.heap.size,0,none⟩):=e1
 subst e1
 replace e2:V2=.pointer (some ⟨w.heap.size+1,0,none⟩):=e2
 subst e2
 replace e3:V3=.int .i64 0:=e3
 subst e3
 replace e4:V4=.pointer (some ⟨w.heap.size+2,0,none⟩):=e4
 subst e4
 replace e5:V5=.pointer (some ⟨lb,0,none⟩):=e5
 subst e5
 replace e6:V6=.pointer (some ⟨ib,0,none⟩):=e6
 subst e6
 conv in bCode _ 9=>whnf
 conv in bCode _ 10=>whnf
 by_cases hf:(finiQ s).1.fault=0
 ·have hfb:((finiQ s).1.fault != 0)=false:=by simp [hf]
  have Hf:=Lib.hid hf
  clear hf hlens hck
  by_cases hz:512<(checkL s).syms.length∨65536<(layL s (checkL s)).data∨4096<(layL s (checkL s)).tls
  ·have HE:Hid (buildL s=(imgNone,104)):=Lib.hid (by rw [HBe.out,if_neg Hlens.out,if_neg (by rw [Hck.out];exact fun h=>h rfl),if_neg (by rw [Hf.out];exact fun h=>h rfl),if_pos hz])
   generalize hS:(checkL s).syms.length=sl at *
   generalize hD:(layL s (checkL s)).data=dd at *
   generalize hT:(layL s (checkL s)).tls=tt at *
   clear hS hD hT
   by_cases h1:512<sl
   ·have h1':(512:Int)<(sl:Int):=by omega
    clear hz
    go_wp2_with (refine wpList_store_row rfl 44 (.tmp 2) (.tmp 110) rfl (w.heap.size+1) #[.string ⟨#[]⟩,.int .i64 0,.slice none 0 0,.slice none 0 0,.slice none 0 0,.slice none 0 0,.slice none 0 0,.slice none 0 0,.int .i64 0,.slice none 0 0,.slice none 0 0,.slice none 0 0,.slice none 0 0,.slice none 0 0,.int .i64 0] rfl rfl _ _ HR5.out (by kernel_rfl) rfl (by simp [Value.oneCell']) ?_)
    go_wp2_with fail
    have FR:=Lib.hid (setRow_heap _ (w.heap.size+1) _ #[.string ⟨#[]⟩,.int .i64 0,.slice none 0 0,.slice none 0 0,.slice none 0 0,.slice none 0 0,.slice none 0 0,.slice none 0 0,.int .i64 0,.slice none 0 0,.slice none 0 0,.slice none 0 0,.slice none 0 0,.slice none 0 0,.int .i64 0] _ _ HR5.out)
    refine bodyPost_ret (results_row_tmp rfl _ _ (w.heap.size+1) _ _ _ _ rfl FR.out Try.underlying44 rfl (by kernel_rfl)) rfl ?_
    exact build_none HE.out (below_setRow HC.out.low _ _ (by omega))
   ·have h1':¬ (512:Int)<(sl:Int):=by omega
    by_cases h2:65536<dd
    ·clear hz
     go_wp2_with (refine wpList_store_row rfl 44 (.tmp 2) (.tmp 110) rfl (w.heap.size+1) #[.string ⟨#[]⟩,.int .i64 0,.slice none 0 0,.slice none 0 0,.slice none 0 0,.slice none 0 0,.slice none 0 0,.slice none 0 0,.int .i64 0,.slice none 0 0,.slice none 0 0,.slice none 0 0,.slice none 0 0,.slice none 0 0,.int .i64 0] rfl rfl _ _ HR5.out (by kernel_rfl) rfl (by simp [Value.oneCell']) ?_)
     go_wp2_with fail
     have FR:=Lib.hid (setRow_heap _ (w.heap.size+1) _ #[.string ⟨#[]⟩,.int .i64 0,.slice none 0 0,.slice none 0 0,.slice none 0 0,.slice none 0 0,.slice none 0 0,.slice none 0 0,.int .i64 0,.slice none 0 0,.slice none 0 0,.slice none 0 0,.slice none 0 0,.slice none 0 0,.int .i64 0] _ _ HR5.out)
     refine bodyPost_ret (results_row_tmp rfl _ _ (w.heap.size+1) _ _ _ _ rfl FR.out Try.underlying44 rfl (by kernel_rfl)) rfl ?_
     exact build_none HE.out (below_setRow HC.out.low _ _ (by omega))
    ·have h3:4096<tt:=by omega
     clear hz
     go_wp2_with (refine wpList_store_row rfl 44 (.tmp 2) (.tmp 110) rfl (w.heap.size+1) #[.string ⟨#[]⟩,.int .i64 0,.slice none 0 0,.slice none 0 0,.slice none 0 0,.slice none 0 0,.slice none 0 0,.slice none 0 0,.int .i64 0,.slice none 0 0,.slice none 0 0,.slice none 0 0,.slice none 0 0,.slice none 0 0,.int .i64 0] rfl rfl _ _ HR5.out (by kernel_rfl) rfl (by simp [Value.oneCell']) ?_)
     go_wp2_with fail
     have FR:=Lib.hid (setRow_heap _ (w.heap.size+1) _ #[.string ⟨#[]⟩,.int .i64 0,.slice none 0 0,.slice none 0 0,.slice none 0 0,.slice none 0 0,.slice none 0 0,.slice none 0 0,.int .i64 0,.slice none 0 0,.slice none 0 0,.slice none 0 0,.slice none 0 0,.slice none 0 0,.int .i64 0] _ _ HR5.out)
     refine bodyPost_ret (results_row_tmp rfl _ _ (w.heap.size+1) _ _ _ _ rfl FR.out Try.underlying44 rfl (by kernel_rfl)) rfl ?_
     exact build_none HE.out (below_setRow HC.out.low _ _ (by omega))
  ·have Hz:=Lib.hid hz
   have h1':¬ (512:Int)<((checkL s).syms.length:Int):=by omega
   have h2:¬ 65536<(layL s (checkL s)).data:=by omega
   have h3:¬ 4096<(layL s (checkL s)).tls:=by omega
   clear hz
   go_wp2_with fail
   exact HK.out ⟨Hlens.out,Hck.out,Hf.out,Hz.out⟩ _ w5 ⟨by kernel_rfl,rfl,(by kernel_rfl),(by kernel_rfl),(by kernel_rfl),(by kernel_rfl),(by kernel_rfl),(by kernel_rfl),trivial⟩ HC.out
 ·have hfb:((finiQ s).1.fault != 0)=true:=by simp [hf]
  have HE:Hid (buildL s=(imgNone,(finiQ s).1.fault)):=Lib.hid (by rw [HBe.out,if_neg Hlens.out,if_neg (by rw [Hck.out];exact fun h=>h rfl),if_pos hf])
  have HB5:=Lib.hid HC.out.low
  clear HC HK HBe hck hlens
  generalize (finiQ s).1.fault=ft at *
  clear hf
  go_upto_region 16 with fail
  refine wp_region_phase 6 (by kernel_rfl) (by kernel_rfl) ?_
  simp only [List.take_succ_cons,List.take_zero,List.drop_succ_cons,List.drop_zero,List.take_nil,List.drop_nil]
  refine wpAny_of_held (S:=fun w':World=>w'.cell? ⟨w.heap.size+2,13,none⟩=some (.int .i64 ft)) _ _ _ _ ?_
  have hHeld:(fun w':World=>w'.cell? ⟨w.heap.size+2,13,none⟩=some (.int .i64 ft)) (World.drew w5):=(c13)
  show wpAnyH _ _ _ _ _ _ _ _ (World.drew _)
  have HRd:Hid ((World.drew w5).heap[w.heap.size+1]? =some (.cells #[.string ⟨#[]⟩,.int .i64 0,.slice none 0 0,.slice none 0 0,.slice none 0 0,.slice none 0 0,.slice none 0 0,.slice none 0 0,.int .i64 0,.slice none 0 0,.slice none 0 0,.slice none 0 0,.slice none 0 0,.slice none 0 0,.int .i64 0] 44 (0,0))):=Lib.hid HR5.out
  have HBd:=Lib.hid (HB5.out.drew)
  clear c13 c9 l8 l9
  generalize (World.drew w5)=wd at HRd HBd hHeld ⊢
  refine wpAnyH_take (i:=0) (v:= ?_) rfl (by kernel_rfl) (by kernel_rfl) (by kernel_rfl) (fun _ _ _ h=>h) (Or.inl ⟨by rfl,?_⟩) hHeld ?_
  rotate_left
  ·(intro w hSw;(try dsimp only at hSw);go_simp;try with_reducible rfl)
  simp only [List.getElem_toArray,List.getElem_cons_zero,List.getElem_cons_succ,Act.put,List.setIfInBounds_toArray,List.set_cons_zero,List.set_cons_succ]
  refine wpAnyH_take (i:=1) (v:= ?_) rfl (by kernel_rfl) (by kernel_rfl) (by kernel_rfl) (fun _ _ _ h=>h) (Or.inl ⟨by rfl,?_⟩) hHeld ?_
  rotate_left
  ·(intro w hSw;(try dsimp only at hSw);go_simp;try with_reducible rfl)
  simp only [List.getElem_toArray,List.getElem_cons_zero,List.getElem_cons_succ,Act.put,List.setIfInBounds_toArray,List.set_cons_zero,List.set_cons_succ]
  refine wpAnyH_take (i:=2) (v:= ?_) rfl (by kernel_rfl) (by kernel_rfl) (by kernel_rfl) (fun _ _ _ h=>h) (Or.inl ⟨by rfl,?_⟩) hHeld ?_
  rotate_left
  ·(intro w hSw;(try dsimp only at hSw);go_simp;try with_reducible rfl)
  simp only [List.getElem_toArray,List.getElem_cons_zero,List.getElem_cons_succ,Act.put,List.setIfInBounds_toArray,List.set_cons_zero,List.set_cons_succ]
  refine wpAnyH_take (i:=3) (v:= ?_) rfl (by kernel_rfl) (by kernel_rfl) (by kernel_rfl) (fun _ _ _ h=>h) (Or.inl ⟨by rfl,?_⟩) hHeld ?_
  rotate_left
  ·(intro w hSw;(try dsimp only at hSw);go_simp;try with_reducible rfl)
  simp only [List.getElem_toArray,List.getElem_cons_zero,List.getElem_cons_succ,Act.put,List.setIfInBounds_toArray,List.set_cons_zero,List.set_cons_succ]
  refine wpAnyH_take (i:=4) (v:= ?_) rfl (by kernel_rfl) (by kernel_rfl) (by kernel_rfl) (fun _ _ _ h=>h) (Or.inl ⟨by rfl,?_⟩) hHeld ?_
  rotate_left
  ·(intro w hSw;(try dsimp only at hSw);go_simp;try with_reducible rfl)
  simp only [List.getElem_toArray,List.getElem_cons_zero,List.getElem_cons_succ,Act.put,List.setIfInBounds_toArray,List.set_cons_zero,List.set_cons_succ]
  refine wpAnyH_ready (rs:=[5]) (by kernel_rfl) (by simp) ?_
  refine AllReadyH.cons rfl (fun K hK=> ?_) AllReadyH.nil
  refine wp_store_row 44 (.tmp 2) (.tmp 89) rfl (w.heap.size+1) #[.string ⟨#[]⟩,.int .i64 0,.slice none 0 0,.slice none 0 0,.slice none 0 0,.slice none 0 0,.slice none 0 0,.slice none 0 0,.int .i64 0,.slice none 0 0,.slice none 0 0,.slice none 0 0,.slice none 0 0,.slice none 0 0,.int .i64 0] rfl rfl _ _ HRd.out (by kernel_rfl) rfl (by simp [Value.oneCell']) ?_
  refine hK.out _ _ ((World.cell?_of_block (setRow_other _ (w.heap.size+1) (w.heap.size+2) _ (by omega))).trans hHeld) (fun hHeld=> ?_)
  clear hK K
  try simp only [List.getElem_toArray,List.getElem_cons_zero,List.getElem_cons_succ,Act.put,List.setIfInBounds_toArray,List.set_cons_zero,List.set_cons_succ]
  refine wpAnyH_done (by kernel_rfl) ?_ _
  simp only [phaseQ]
  clear hHeld
  go_wp2_with fail
  have FR:=Lib.hid (setRow_heap _ (w.heap.size+1) _ #[.string ⟨#[]⟩,.int .i64 0,.slice none 0 0,.slice none 0 0,.slice none 0 0,.slice none 0 0,.slice none 0 0,.slice none 0 0,.int .i64 0,.slice none 0 0,.slice none 0 0,.slice none 0 0,.slice none 0 0,.slice none 0 0,.int .i64 0] _ _ HRd.out)
  refine bodyPost_ret (results_row_tmp rfl _ _ (w.heap.size+1) _ _ _ _ rfl FR.out Try.underlying44 rfl (by kernel_rfl)) rfl ?_
  exact build_none HE.out (below_setRow HBd.out _ _ (by omega))
end Go.Proofs.Ytpomdoliblilfaa
