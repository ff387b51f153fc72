/- Lemmas. -/
import Derived.Test.YtpomdoliblilfaaBld37
import Derived.Deep.DeepCutAuto
namespace Go.Proofs.Ytpomdoliblilfaa
set_option linter.unusedVariables false
set_option linter.unusedSimpArgs false
open Go.RowKit
def segD (s:SpecL):SegL:=⟨(layL s (checkL s)).got,8*((dataT s).length:Int),wordsL (dataT s),3⟩
def segsT (s:SpecL):List SegL:=segC s :: (if dataT s=[] then [] else [segD s])
theorem dataT_len {s:SpecL} (hfew:FewL s):(dataT s).length≤42000:=by
 have h1:=(placed_sz hfew).1
 have h2:=dataL_len s.vars
 have h3:=hfew.words
 unfold dataT
 rw [(insts_plan s).1,List.length_append,List.length_replicate]
 unfold PlanL.sz at h1
 omega
theorem segsT_ok {s:SpecL} (hfew:FewL s):∀ x∈segsT s,I64 x.at_∧I64 x.size∧I64 x.perm:=by
 have h1:=codeL_small hfew
 have h2:=dataT_len hfew
 have h3:=(lay_bd hfew (check_sz hfew)).got
 have hc:I64 (segC s).at_∧I64 (segC s).size∧I64 (segC s).perm:=by
  refine⟨by show I64 0;unfold I64;omega,?_,by show I64 5;unfold I64;omega⟩
  show I64 (max 1 ((codeL (instsQ s).2).length:Int));unfold I64;omega
 have hd:I64 (segD s).at_∧I64 (segD s).size∧I64 (segD s).perm:=by
  refine⟨?_,?_,by show I64 3;unfold I64;omega⟩
  ·show I64 (layL s (checkL s)).got;unfold I64;omega
  ·show I64 (8*((dataT s).length:Int));unfold I64;omega
 intro x hx
 unfold segsT at hx
 rcases List.mem_cons.1 hx with rfl | hx
 ·exact hc
 ·split at hx
  ·cases hx
  ·rcases List.mem_singleton.1 hx with rfl;exact hd
set_option maxHeartbeats 64000000 in
set_option maxRecDepth 100000 in
theorem bt9 {w:World} {sv:SpecV} {s:SpecL} {a:Act} {w5:World} {own:Int} {v:PlanV} {fv vv d u:Value} {lb ib N1 Bd:Nat} {ivx iv:ImgV} {imx im:ImgL} {A:Nat→Prop} (hF:bFr [(1,.pointer (some ⟨w.heap.size,0,none⟩)),(2,.pointer (some ⟨w.heap.size+1,0,none⟩)),(3,.int .i64 0),(4,.pointer (some ⟨w.heap.size+2,0,none⟩)),(5,.pointer (some ⟨lb,0,none⟩)),(6,.pointer (some ⟨ib,0,none⟩)),(11,d)] a) (hC:BSt2 w sv s w5 own v fv vv lb ib {ivx with segs:=u } imx iv im A) (hfew:FewL s) (hD:OwnK 3 kInt Bd (fun b=>b<Bd) w5 d (dataT s)) (hU:OwnK 60 kSeg N1 (fun b=>b<N1) w5 u [segC s]) (hN:ib<N1)
  (hN2:N1≤w5.heap.size) (hAg:∀ g,u.ownBlock=some g→¬ A g) (hV:∀ b,v.has b→b<N1)
  (hK:∀ a' wc u',bFr [(1,.pointer (some ⟨w.heap.size,0,none⟩)),(2,.pointer (some ⟨w.heap.size+1,0,none⟩)),(3,.int .i64 0),(4,.pointer (some ⟨w.heap.size+2,0,none⟩)),(5,.pointer (some ⟨lb,0,none⟩)),(6,.pointer (some ⟨ib,0,none⟩))] a'→BSt2 w sv s wc own v fv vv lb ib {ivx with segs:=u' } imx {iv with segs:=u' } {im with segs:=segsT s } (fun b=>A b∨(N1≤b∧b<wc.heap.size))→(bRest Try.f10 18).wp Try.prog (bodyPost Try.prog Try.f10 (BuildPost w s)) a' wc):(bRest Try.f10 17).wp Try.prog (bodyPost Try.prog Try.f10 (BuildPost w s)) a w5:=by
 have HK:=Lib.hid hK
 have HC:=Lib.hid hC
 have HU:=Lib.hid hU
 have hib:=hC.ibl
 have h0:=hC.h0
 have hdl:=dataT_len hfew
 have Hok:=Lib.hid (segsT_ok hfew)
 have HAg:=Lib.hid hAg
 have HV:=Lib.hid hV
 obtain⟨da_,dc_,hdf⟩:=hD.form
 obtain⟨n,hn⟩:∃ n,n=(dataT s).length:=⟨_,rfl⟩
 have Hn:=Lib.hid hn
 rw [← hn]at hdf hdl
 subst hdf
 have HD:=Lib.hid hD
 obtain⟨ua_,uc_,huf⟩:=hU.form
 replace huf:u=.slice ua_ 1 uc_:=huf
 subst huf
 have HX5:Hid (w5.heap[ib]? =some (.cells #[.string ⟨imx.name.toArray⟩,.int .i64 imx.flags,.slice ua_ 1 uc_,ivx.needed,ivx.runPath,ivx.syms,ivx.buckets,ivx.words,.int .i64 imx.shift,ivx.relocs,ivx.slots,ivx.init,ivx.fini,ivx.tls,.int .i64 imx.tlsSize] 44 (0,0))):=Lib.hid hC.ix
 have l4:=cells_row hC.lx 4 _ rfl
 obtain⟨got,hgot⟩:∃ got,got=(layL s (checkL s)).got:=⟨_,rfl⟩
 replace l4:w5.cell? ⟨lb,4,none⟩=some (.int .i64 got):=by rw [hgot];exact l4
 have Hgot:=Lib.hid hgot
 have i2:w5.cell? ⟨ib,2,none⟩=some (.slice ua_ 1 uc_):=by rw [Lib.cell_of_heap HX5.out];rfl
 clear hC hK hfew hD hU hn hgot hAg hV
 have e17:bRest Try.f10 17=.seq (bCode Try.f10 17) (bRest Try.f10 18):=bd_seq _ 17 (by kernel_rfl)
 rw [e17]
 clear e17
 apply bFr.elim hF
 clear hF
 intro V0 V1 V2 V3 V4 V5 V6 V7 V8 V9 V10 V11 V12 V13 V14 V15 V16 V17 V18 V19 V20 V21 V22 V23 V24 V25 V26 V27 V28 V29 V30 V31 V32 V33 V34 V35 V36 V37 V38 V39
  V40 V41 V42 V43 V44 V45 V46 V47 V48 V49 V50 V51 V52 V53 V54 V55 V56 V57 V58 V59 V60 V61 V62 V63 V64 V65 V66 V67 V68 V69 V70 V71 V72 V73 V74 V75 V76 V77 V78 V79
  V80 V81 V82 V83 V84 V85 V86 V87 V88 V89 V90 V91 V92 V93 V94 V95 V96 V97 V98 V99 V100 V101 V102 V103 V104 V105 V106 V107 V108 V109 V110 V111 V112 V113 V114 V115 V116 V117 V118 V119
  V120 V121 V122 V123 V124 V125 V126 V127 V128 V129 V130 V131 V132 V133 V134 V135 V136 V137 V138 V139 V140 V141 V142 V143 V144 V145 V146 V147 V148 V149 V150 V151 V152 V153 V154 V155 V156 V157 V158 V159
  V160 V161 V162 V163 V164 V165 V166 V167 V168 V169 V170 V171 V172 V173 V174 V175 V176 V177 V178 V179 V180 V181 V182 V183 V184 V185 V186 V187 V188 V189 V190 V191 V192 V193 V194 V195 V196 V197 V198 V199
  V200 V201 V202 V203 V204 V205 V206 V207 V208 V209 V210 V211 V212 V213 V214 V215 V216 V217 V218 V219 V220 V221 V222 V223 V224 V225 V226 V227 V228 V229 V230 V231 V232 V233 V234 V235 V236 V237 V238 V239
  V240 V241 V242 V243 V244 V245 V246 hF
 obtain⟨-,-,e1,e2,e3,e4,e5,e6,e11,-⟩:=hF
 replace e1:V1=.pointer (some ⟨w.heap.size,0,none⟩):=e1
 subst e1
 replace e2:V2=.pointer (some ⟨w.heap.size+1,0,none⟩):=e2
 subst e2
 replace e3:V3=.int .i64 0:=e3
 subst e3
 replace e4:V4=.pointer (some ⟨w.heap.size+2,0,none⟩):=e4
 subst e4
 replace e5:V5=.pointer (some ⟨lb,0,none⟩):=e5
 subst e5
 replace e6:V6=.pointer (some ⟨ib,0,none⟩):=e6
 subst e6
 replace e11:V11=.slice da_ n dc_:=e11
 subst e11
 conv in bCode _ 17=>whnf
 by_cases h1:0<n
 ·have h1':(0:Int)<(n:Int):=by omega
  have HST:Hid (segsT s=[segC s]++[segD s]):=Lib.hid (by unfold segsT;rw [if_neg (by intro e;have:=Hn.out;rw [e]at this;simp at this;omega)];rfl)
  go_upto_region 34 with fail
  refine wp_region_phase 12 (by kernel_rfl) (by kernel_rfl) ?_
  simp only [List.take_succ_cons,List.take_zero,List.drop_succ_cons,List.drop_zero,List.take_nil,List.drop_nil]
  refine wpAny_of_held (S:=fun w':World=>w'.cell? ⟨ib,2,none⟩=some (.slice ua_ 1 uc_)∧w'.cell? ⟨lb,4,none⟩=some (.int .i64 got)) _ _ _ _ ?_
  have hHeld:(fun w':World=>w'.cell? ⟨ib,2,none⟩=some (.slice ua_ 1 uc_)∧w'.cell? ⟨lb,4,none⟩=some (.int .i64 got)) (World.drew w5):=⟨i2,l4⟩
  show wpAnyH _ _ _ _ _ _ _ _ (World.drew _)
  have HCd:=Lib.hid (HC.out.belowW ((Below.refl _ w5).drew))
  have HUd:=Lib.hid (HU.out.drew)
  have HDd:=Lib.hid (HD.out.drew)
  have hzl:lb<(World.drew w5).heap.size:=by show lb<w5.heap.size;omega
  have hzi:ib<(World.drew w5).heap.size:=hib
  have hzN:N1≤(World.drew w5).heap.size:=hN2
  have HX0:Hid ((World.drew w5).heap[ib]? =some (.cells #[.string ⟨imx.name.toArray⟩,.int .i64 imx.flags,.slice ua_ 1 uc_,ivx.needed,ivx.runPath,ivx.syms,ivx.buckets,ivx.words,.int .i64 imx.shift,ivx.relocs,ivx.slots,ivx.init,ivx.fini,ivx.tls,.int .i64 imx.tlsSize] 44 (0,0))):=Lib.hid HX5.out
  clear l4 i2 HC HU HD HX5
  generalize (World.drew w5)=wd at *
  have o1:IntKind.i64.wrap (8*(n:Int))=8*(n:Int):=IntWalk.i64_in _ (by omega)
  refine wpAnyH_take (i:=0) (v:= ?_) rfl (by kernel_rfl) (by kernel_rfl) (by kernel_rfl) (fun _ _ _ h=>h) (Or.inl ⟨by rfl,?_⟩) hHeld ?_
  rotate_left
  ·(intro w hSw;(try dsimp only at hSw);go_simp;try with_reducible rfl)
  simp only [List.getElem_toArray,List.getElem_cons_zero,List.getElem_cons_succ,Act.put,List.setIfInBounds_toArray,List.set_cons_zero,List.set_cons_succ]
  refine wpAnyH_take (i:=1) (v:= ?_) rfl (by kernel_rfl) (by kernel_rfl) (by kernel_rfl) (fun _ _ _ h=>h) (Or.inl ⟨by rfl,?_⟩) hHeld ?_
  rotate_left
  ·(intro w hSw;(try dsimp only at hSw);go_simp;try with_reducible rfl)
  simp only [List.getElem_toArray,List.getElem_cons_zero,List.getElem_cons_succ,Act.put,List.setIfInBounds_toArray,List.set_cons_zero,List.set_cons_succ]
  refine wpAnyH_take (i:=2) (v:= ?_) rfl (by kernel_rfl) (by kernel_rfl) (by kernel_rfl) (fun _ _ _ h=>h) (Or.inl ⟨by rfl,?_⟩) hHeld ?_
  rotate_left
  ·(intro w hSw;(try dsimp only at hSw);go_simp;try with_reducible rfl)
  simp only [List.getElem_toArray,List.getElem_cons_zero,List.getElem_cons_succ,Act.put,List.setIfInBounds_toArray,List.set_cons_zero,List.set_cons_succ]
  refine wpAnyH_take (i:=3) (v:= ?_) rfl (by kernel_rfl) (by kernel_rfl) (by kernel_rfl) (fun _ _ _ h=>h) (Or.inl ⟨by rfl,?_⟩) hHeld ?_
  rotate_left
  ·(intro w hSw;(try dsimp only at hSw);go_simp;try with_reducible rfl)
  simp only [List.getElem_toArray,List.getElem_cons_zero,List.getElem_cons_succ,Act.put,List.setIfInBounds_toArray,List.set_cons_zero,List.set_cons_succ]
  refine wpAnyH_take (i:=4) (v:= ?_) rfl (by kernel_rfl) (by kernel_rfl) (by kernel_rfl) (fun _ _ _ h=>h) (Or.inl ⟨by rfl,?_⟩) hHeld ?_
  rotate_left
  ·(intro w hSw;(try dsimp only at hSw);go_simp;try with_reducible rfl)
  simp only [List.getElem_toArray,List.getElem_cons_zero,List.getElem_cons_succ,Act.put,List.setIfInBounds_toArray,List.set_cons_zero,List.set_cons_succ]
  refine wpAnyH_take (i:=5) (v:= ?_) rfl (by kernel_rfl) (by kernel_rfl) (by kernel_rfl) (fun _ _ _ h=>h) (Or.inl ⟨by rfl,?_⟩) hHeld ?_
  rotate_left
  ·(intro w hSw;(try dsimp only at hSw);go_simp;try with_reducible rfl)
  simp only [List.getElem_toArray,List.getElem_cons_zero,List.getElem_cons_succ,Act.put,List.setIfInBounds_toArray,List.set_cons_zero,List.set_cons_succ]
  refine wpAnyH_take (i:=6) (v:= ?_) rfl (by kernel_rfl) (by kernel_rfl) (by kernel_rfl) (fun _ _ _ h=>h) (Or.inl ⟨by rfl,?_⟩) hHeld ?_
  rotate_left
  ·(intro w hSw;(try dsimp only at hSw);go_simp;try with_reducible rfl)
  simp only [List.getElem_toArray,List.getElem_cons_zero,List.getElem_cons_succ,Act.put,List.setIfInBounds_toArray,List.set_cons_zero,List.set_cons_succ]
  refine wpAnyH_take (i:=7) (v:= ?_) rfl (by kernel_rfl) (by kernel_rfl) (by kernel_rfl) (fun _ _ _ h=>h) (Or.inl ⟨by rfl,?_⟩) hHeld ?_
  rotate_left
  ·(intro w hSw;(try dsimp only at hSw);go_simp;try with_reducible rfl)
  simp only [List.getElem_toArray,List.getElem_cons_zero,List.getElem_cons_succ,Act.put,List.setIfInBounds_toArray,List.set_cons_zero,List.set_cons_succ]
  clear o1
  have HLB:Hid (LB kInt (fun b=>b<wd.heap.size) wd (.slice da_ n dc_) (dataT s)):=Lib.hid (HDd.out.lb.imp (fun b hb=>hb.1))
  refine wpAnyH_ready (rs:=[8]) (by kernel_rfl) (by simp) ?_
  refine AllReadyH.cons rfl (fun K hK=> ?_) AllReadyH.nil
  go_simp
  refine(words_any wd _ (dataT s) HLB.out (fun b hb=>hb) (by rw [← Hn.out];omega)).mono ?_
  rintro e w8 ⟨r8,rfl,ho8,hb8⟩
  obtain⟨ba_,bc_,hbf⟩:=ho8.form
  subst hbf
  have HO8:=Lib.hid ho8
  have HC8:=Lib.hid (HCd.out.belowW hb8)
  have HU8:=Lib.hid (HUd.out.below hb8)
  have HX8:=Lib.hid ((hb8.block ib hzi).trans HX0.out)
  have hz8:=hb8.size
  refine hK.out _ _ ⟨(hb8.cell (p:=⟨ib,2,none⟩) hzi).trans hHeld.1,(hb8.cell (p:=⟨lb,4,none⟩) hzl).trans hHeld.2⟩ (fun hHeld=> ?_)
  clear hK K ho8 hb8
  try simp only [List.getElem_toArray,List.getElem_cons_zero,List.getElem_cons_succ,Act.put,List.setIfInBounds_toArray,List.set_cons_zero,List.set_cons_succ]
  refine wpAnyH_take (i:=9) (v:= ?_) rfl (by kernel_rfl) (by kernel_rfl) (by kernel_rfl) (fun _ _ _ h=>h) (Or.inl ⟨by rfl,?_⟩) hHeld ?_
  rotate_left
  ·(intro w hSw;(try dsimp only at hSw);go_simp;try with_reducible rfl)
  simp only [List.getElem_toArray,List.getElem_cons_zero,List.getElem_cons_succ,Act.put,List.setIfInBounds_toArray,List.set_cons_zero,List.set_cons_succ]
  have HCn:=Lib.hid (HC8.out.belowW ((Below.refl _ w8).alloc (Nat.le_refl _) (.cells #[.int .i64 got,.int .i64 (8*(n:Int)),.slice ba_ (wordsL (dataT s)).length bc_,.int .i64 3] 60 (0,0))))
  have HUn:=Lib.hid (HU8.out.alloc (.cells #[.int .i64 got,.int .i64 (8*(n:Int)),.slice ba_ (wordsL (dataT s)).length bc_,.int .i64 3] 60 (0,0)))
  have HOn:=Lib.hid (HO8.out.alloc (.cells #[.int .i64 got,.int .i64 (8*(n:Int)),.slice ba_ (wordsL (dataT s)).length bc_,.int .i64 3] 60 (0,0)))
  have HXn:=Lib.hid (heap_alloc_new w8 (.cells #[.int .i64 got,.int .i64 (8*(n:Int)),.slice ba_ (wordsL (dataT s)).length bc_,.int .i64 3] 60 (0,0)))
  have HIn:=Lib.hid ((heap_alloc_old w8 (.cells #[.int .i64 got,.int .i64 (8*(n:Int)),.slice ba_ (wordsL (dataT s)).length bc_,.int .i64 3] 60 (0,0)) (r:=ib) (by omega)).trans HX8.out)
  refine wpAnyH_ready (rs:=[10]) (by kernel_rfl) (by simp) ?_
  refine AllReadyH.cons rfl (fun K hK=> ?_) AllReadyH.nil
  go_simp
  refine hK.out _ _ ⟨(World.cell?_alloc_lt _ _ _ (World.block_lt_of_cell? _ _ hHeld.1)).trans hHeld.1,(World.cell?_alloc_lt _ _ _ (World.block_lt_of_cell? _ _ hHeld.2)).trans hHeld.2⟩ (fun hHeld=> ?_)
  clear hK K
  try simp only [List.getElem_toArray,List.getElem_cons_zero,List.getElem_cons_succ,Act.put,List.setIfInBounds_toArray,List.set_cons_zero,List.set_cons_succ]
  have hzn:w8.heap.size<(w8.alloc (.cells #[.int .i64 got,.int .i64 (8*(n:Int)),.slice ba_ (wordsL (dataT s)).length bc_,.int .i64 3] 60 (0,0))).heap.size:=by simp
  clear HC8 HX8
  generalize w8.alloc (.cells #[.int .i64 got,.int .i64 (8*(n:Int)),.slice ba_ (wordsL (dataT s)).length bc_,.int .i64 3] 60 (0,0))=wn at *
  have HRow:Hid (kSeg.R (fun b=>b<wn.heap.size∧¬ b<N1∧(Value.slice ua_ 1 uc_).ownBlock≠some b) wn (segD s) [.int .i64 got,.int .i64 (8*(n:Int)),.slice ba_ (wordsL (dataT s)).length bc_,.int .i64 3]):=Lib.hid ⟨.slice ba_ (wordsL (dataT s)).length bc_,by rw [Hgot.out,Hn.out];rfl,(OwnK.lb (HOn.out.reE flat_byte (E':=fun b=>b<wd.heap.size) (fun g hg h=>by have:=(HOn.out.lt g hg).1;omega))).imp (fun b hb=>⟨hb.1,by have:=hb.2;omega,fun e=>by have:=(HUd.out.lt b e).2;have:=hb.2;omega⟩)⟩
  refine wpAnyH_ready (rs:=[11]) (by kernel_rfl) (by simp) ?_
  refine AllReadyH.cons rfl (fun K hK=> ?_) AllReadyH.nil
  rw [if_pos (by rfl)]
  simp only [List.getElem_toArray,List.getElem_cons_succ,List.getElem_cons_zero]
  refine wp_appendN (K:=kSeg) (v:=.slice ua_ 1 uc_) (e:=60) (B:=N1) (E:=fun b=>b<N1) 31 _ 48 Try.underlying31 info_segB rfl (by decide) (.tmp 179) (.tmp 188) rfl 1 rfl rfl HUn.out (fun b hb=>by have hb:b<N1:=hb;omega) w8.heap.size (segD s) [.int .i64 got,.int .i64 (8*(n:Int)),.slice ba_ (wordsL (dataT s)).length bc_,.int .i64 3] rfl (cells_row HXn.out) (fun u hu=>by simp only [List.mem_cons,List.not_mem_nil,or_false]at hu;rcases hu with rfl | rfl | rfl | rfl<;>rfl) HRow.out (by simp only [List.length_cons,List.length_nil];omega) (by simp only [List.length_cons,List.length_nil];omega) (by omega) ?_
  rintro g7 c7 w7 ho7 hs7 hg7-
  have hne:∀ b,b<N1→(Value.slice ua_ 1 uc_).ownBlock≠some b:=fun b hb e=>by have:=(HUn.out.lt b e).1;omega
  have hnl:(Value.slice ua_ 1 uc_).ownBlock≠some lb:=hne lb (by omega)
  have HX7:=Lib.hid ((hs7.block ib ⟨by omega,hne ib hN⟩).trans HIn.out)
  have HO7:=Lib.hid ho7
  have HS7:=Lib.hid hs7
  refine hK.out _ _ ⟨(hs7.cell (p:=⟨ib,2,none⟩) ⟨by show ib<_;omega,hne ib hN⟩).trans hHeld.1,(hs7.cell (p:=⟨lb,4,none⟩) ⟨by show lb<_;omega,hnl⟩).trans hHeld.2⟩ (fun hHeld=> ?_)
  clear hK K ho7 hs7 hne hnl
  try simp only [List.getElem_toArray,List.getElem_cons_zero,List.getElem_cons_succ,Act.put,List.setIfInBounds_toArray,List.set_cons_zero,List.set_cons_succ]
  refine wpAnyH_done (by kernel_rfl) ?_ _
  simp only [phaseQ]
  have u2:=hHeld.1
  have f2:w7.frozen? ⟨ib,2,none⟩=false:=Lib.frozen_of_heap HX7.out 2
  clear hHeld
  go_wp2_with fail
  have hs9:Step (fun b=>b≠ib) w7 (w7.setCell ⟨ib,2,none⟩ (.slice (some ⟨g7,0,none⟩) 2 c7)):=(Step.refl _ w7).setCell (fun h=>h rfl) _
  have hO9:=HO7.out.step hs9 (fun b _ hb=>by have hb:¬ b<N1:=hb;omega)
  have hS:Step (fun b=>b<wn.heap.size∧(Value.slice ua_ 1 uc_).ownBlock≠some b∧b≠ib) wn (w7.setCell ⟨ib,2,none⟩ (.slice (some ⟨g7,0,none⟩) 2 c7)):=(HS7.out.imp (fun b hb=>⟨hb.1,hb.2.1⟩)).trans (hs9.imp (fun b hb=>hb.2.2))
  have hG:∀ b,(Value.slice ua_ 1 uc_).ownBlock=some b→lb<b∧¬ v.has b:=fun b hb=>by
   have h1:=(HUn.out.lt b hb).1
   exact⟨by omega,fun hh=>by have:=HV.out b hh;omega⟩
  have hsz:(w7.setCell ⟨ib,2,none⟩ (.slice (some ⟨g7,0,none⟩) 2 c7)).heap.size=w7.heap.size:=by simp
  have hz7:=HS7.out.size
  have hi9:ImgM (fun b=>A b∨(N1≤b∧b<(w7.setCell ⟨ib,2,none⟩ (.slice (some ⟨g7,0,none⟩) 2 c7)).heap.size)) (w7.setCell ⟨ib,2,none⟩ (.slice (some ⟨g7,0,none⟩) 2 c7)) {iv with segs:=.slice (some ⟨g7,0,none⟩) 2 c7 } {im with segs:=segsT s }:=
   { (HCn.out.img.keeps (fun b hb=>hS.block b ⟨(HCn.out.hA b hb).2.1,fun e=>HAg.out b e hb,(HCn.out.hA b hb).2.2⟩)).imp (fun b hb=>Or.inl hb)with segs:=by rw [HST.out];exact hO9.lb.imp (fun b hb=>Or.inr ⟨Nat.le_of_not_lt hb.2,hb.1⟩),segsR:=Hok.out }
  exact HK.out _ _ _ ⟨by kernel_rfl,rfl,(by kernel_rfl),(by kernel_rfl),(by kernel_rfl),(by kernel_rfl),(by kernel_rfl),(by kernel_rfl),trivial⟩ (HCn.out.goX (G:=fun b=>(Value.slice ua_ 1 uc_).ownBlock=some b) hG (hS.imp (fun b hb=>⟨hb.1,hb.2.2,hb.2.1⟩)) (setCell_arr HX7.out 2 _) hi9 (fun b hb=>by
   rcases hb with hb | hb
   ·have:=HCn.out.hA b hb;exact⟨this.1,by omega,this.2.2⟩
   ·exact⟨by omega,hb.2,by omega⟩))
 ·have h1':¬ (0:Int)<(n:Int):=by omega
  have HST:Hid (segsT s=[segC s]):=Lib.hid (by unfold segsT;rw [if_pos (List.eq_nil_of_length_eq_zero (by have:=Hn.out;omega))])
  go_wp2_with fail
  refine HK.out _ w5 (.slice ua_ 1 uc_) ⟨by kernel_rfl,rfl,(by kernel_rfl),(by kernel_rfl),(by kernel_rfl),(by kernel_rfl),(by kernel_rfl),(by kernel_rfl),trivial⟩ (HC.out.go (A':=fun b=>A b∨(N1≤b∧b<w5.heap.size)) (Step.refl _ _) HC.out.ix {HC.out.img.imp (fun b hb=>Or.inl hb)with segs:= ?_,segsR:=Hok.out } (fun b hb=> ?_))
  ·rw [HST.out]
   exact HU.out.lb.imp (fun b hb=>Or.inr ⟨Nat.le_of_not_lt hb.2,hb.1⟩)
  ·rcases hb with hb | hb
   ·exact HC.out.hA b hb
   ·exact⟨by omega,hb.2,by omega⟩
end Go.Proofs.Ytpomdoliblilfaa
