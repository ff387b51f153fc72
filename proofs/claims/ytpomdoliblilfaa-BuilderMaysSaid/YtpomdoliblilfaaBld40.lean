/- Lemmas. -/
import Derived.Test.YtpomdoliblilfaaBld39
import Derived.Deep.DeepCutAuto
namespace Go.Proofs.Ytpomdoliblilfaa
set_option linter.unusedVariables false
set_option linter.unusedSimpArgs false
open Go.RowKit
theorem run_store_part {P:Program} (w:World) (g o:Nat) (t ty:TypeId) (cur cells new:Array Value) (hg:w.heap[g]? =some (.cells cur t (0,0))) (hi:(P.info? ty).map (·.size)=some cells.size)
  (hfit:o+cells.size≤cur.size) (h1:cells.all (·.oneCell')=true) (hnew:(cur.toList.take o++cells.toList++cur.toList.drop (o+cells.size)).toArray=new):
  (storeVar ty ⟨g,o,none⟩ (.agg cells)).run P w=.ok () (w.setRow g new):=by
 have:=run_storeCells_at P g o t cells.toList 0 cur w hg (by simpa using hfit) (fun v hv=>(Array.all_eq_true_iff_forall_mem.1 h1) v (by simpa using hv))
 cases hq:P.info? ty with
 | none=>simp [hq]at hi
 | some i=>
  have hs:cells.size=i.size:=by simp [hq]at hi;omega
  subst hnew
  simpa [storeVar,sizeOf,typeInfo,hq,Value.cells,hs] using this
theorem wpList_store_part {P:Program} {ops:Array Oper} {rest:List Oper} {o:Oper} {a:Act} {w:World} {Q:Exit→Act→World→Prop} (hgd:o.guard=none) (ty:TypeId) (x y:Operand) (ho:o.op=.store ty x y)
  (g k:Nat) (cells:Array Value) (hx:a.eval x=.pointer (some ⟨g,k,none⟩)) (hy:a.eval y=.agg cells)
  (t:TypeId) (cur new:Array Value) (hg:w.heap[g]? =some (.cells cur t (0,0))) (hi:(P.info? ty).map (·.size)=some cells.size)
  (hfit:k+cells.size≤cur.size) (h1:cells.all (·.oneCell')=true) (hnew:(cur.toList.take k++cells.toList++cur.toList.drop (k+cells.size)).toArray=new)
  (h:wpList P ops Q rest (a.put o.dst undef) (w.setRow g new)):wpList P ops Q (o :: rest) a w:=
 wpList_plain hgd fun _ hK=>by
  unfold Oper.wp execOp
  simp only [ho,hx,hy,Instr.storeAt,Instr.sureAddr,Sem.run_bind,Sem.run_pure,Result.andThen_ok,run_store_part w g k t ty cur cells new hg hi hfit h1 hnew]
  exact hK _ _ h
theorem img_one {S:Nat→Prop} {w:World} {v:ImgV} {im:ImgL} (h:ImgM S w v im):(imgCells v im).all (·.oneCell')=true:=by
 obtain⟨a0,c0,h0⟩:=h.segs.form
 obtain⟨a1,c1,h1⟩:=h.needed.form
 obtain⟨a2,c2,h2⟩:=h.runPath.form
 obtain⟨a3,c3,h3⟩:=h.syms.form
 obtain⟨a4,c4,h4⟩:=h.buckets.form
 obtain⟨a5,c5,h5⟩:=h.words.form
 obtain⟨a6,c6,h6⟩:=h.relocs.form
 obtain⟨a7,c7,h7⟩:=h.slots.form
 obtain⟨a8,c8,h8⟩:=h.init.form
 obtain⟨a9,c9,h9⟩:=h.fini.form
 obtain⟨a10,c10,h10⟩:=h.tls.form
 unfold imgCells
 rw [h0,h1,h2,h3,h4,h5,h6,h7,h8,h9,h10]
 simp [Value.oneCell']
theorem seenIx_le (l:List SymL):(seenIx l).length≤l.length:=by rw [seenIx_length];exact List.length_filter_le _ _
theorem bucketsT_small (l:List SymL) (many:Nat) (hl:l.length≤512):∀ c∈bucketsT l many,c.length≤9223372036854775807:=by
 intro c hc
 unfold bucketsT at hc
 rw [List.mem_map]at hc
 obtain⟨b,_,rfl⟩:=hc
 rw [List.length_map]
 have:=List.length_filter_le (fun k=>decide (homeL (symN l k).name many=b)) (seenIx l)
 have:=seenIx_le l
 omega
theorem filterT_range (l:List SymL):∀ x∈filterT l,0≤x∧x<18446744073709551616:=by
 rw [filterT_eq]
 exact marksT_range _ _ (fun x hx=>by have:=List.eq_of_mem_replicate hx;omega)
set_option maxHeartbeats 64000000 in
set_option maxRecDepth 100000 in
theorem bt12 {w:World} {sv:SpecV} {s:SpecL} {a:Act} {w5:World} {own:Int} {v:PlanV} {fv vv:Value} {lb ib:Nat} {iv:ImgV} {imx im:ImgL} {A:Nat→Prop} (hF:bFr [(1,.pointer (some ⟨w.heap.size,0,none⟩)),(2,.pointer (some ⟨w.heap.size+1,0,none⟩)),(3,.int .i64 0),(4,.pointer (some ⟨w.heap.size+2,0,none⟩)),(5,.pointer (some ⟨lb,0,none⟩)),(6,.pointer (some ⟨ib,0,none⟩))] a) (hC:BSt2 w sv s w5 own v fv vv lb ib iv imx iv im A) (hso:Sound s) (hal:(instsQ s).2.all instB=true)
  (hx:imx.name=im.name∧imx.flags=im.flags∧imx.tlsSize=im.tlsSize)
  (him:{im with syms:=(placedQ s).syms,buckets:=bucketsT (placedQ s).syms (countT (seenIx (placedQ s).syms).length),words:=filterT (placedQ s).syms,shift:=6 }=imageL s (layL s (checkL s)) (initQ s).2 (finiQ s).2 (instsQ s).1 (instsQ s).2):(bRest Try.f10 20).wp Try.prog (bodyPost Try.prog Try.f10 (BuildPost w s)) a w5:=by
 have HC:=Lib.hid hC
 have hib:=hC.ibl
 have h0:=hC.h0
 have HBe:Hid (buildL s=if mayL {im with syms:=(placedQ s).syms,buckets:=bucketsT (placedQ s).syms (countT (seenIx (placedQ s).syms).length),words:=filterT (placedQ s).syms,shift:=6 }≠0 then (imgNone,mayL {im with syms:=(placedQ s).syms,buckets:=bucketsT (placedQ s).syms (countT (seenIx (placedQ s).syms).length),words:=filterT (placedQ s).syms,shift:=6 }) else ({im with syms:=(placedQ s).syms,buckets:=bucketsT (placedQ s).syms (countT (seenIx (placedQ s).syms).length),words:=filterT (placedQ s).syms,shift:=6 },0)):=Lib.hid (by
  rw [build_eq,if_neg hso.lens,if_neg (by rw [hso.check];exact fun h=>h rfl),if_neg (by rw [hso.fini];exact fun h=>h rfl),if_neg hso.sizes,if_neg (by rw [hal];decide),← him])
 have hsl:(placedQ s).syms.length≤512:=by
  have h1:=hso.sizes
  have h2:(placedQ s).syms.length=(checkL s).syms.length:=by unfold placedQ;rw [symsL_len,(fini_plan s).1]
  omega
 have HLB:=Lib.hid ((OwnK.lb (hC.plan.syms.reE flat_sym (E':=fun b=>b<w.heap.size∨b=ib∨b=w.heap.size+1) (fun g hg e=>by
  rcases e with e | e | e
  ·have:=(hC.plan.syms.lt g hg).1;omega
  ·exact hC.vI (Or.inl (e ▸ hg))
  ·exact hC.vR (Or.inl (e ▸ hg))))).imp (S':=fun b=>w.heap.size≤b∧b<w5.heap.size∧b≠ib∧b≠w.heap.size+1) (fun b hb=>⟨by have:=hb.2;omega,hb.1,fun e=>hb.2 (Or.inr (Or.inl e)),fun e=>hb.2 (Or.inr (Or.inr e))⟩))
 have HIM:=Lib.hid (hC.img.imp (S':=fun b=>w.heap.size≤b∧b<w5.heap.size∧b≠ib∧b≠w.heap.size+1) (fun b hb=>by have:=hC.hA b hb;exact⟨by omega,this.2.1,this.2.2,by omega⟩))
 have HR5:=Lib.hid hC.rx
 have HB5:=Lib.hid hC.low
 have HX5:Hid (w5.heap[ib]? =some (.cells #[.string ⟨im.name.toArray⟩,.int .i64 im.flags,iv.segs,iv.needed,iv.runPath,iv.syms,iv.buckets,iv.words,.int .i64 imx.shift,iv.relocs,iv.slots,iv.init,iv.fini,iv.tls,.int .i64 im.tlsSize] 44 (0,0))):=Lib.hid (by have h:=hC.ix;unfold imgCells at h;rwa [hx.1,hx.2.1,hx.2.2]at h)
 obtain⟨sya,syc,hsf⟩:=hC.plan.syms.form
 have c9:=hC.plan.c9
 obtain⟨n,hn⟩:∃ n,n=(placedQ s).syms.length:=⟨_,rfl⟩
 rw [← hn]at hsf hsl
 rw [hsf]at c9 HLB
 have Hn:=Lib.hid hn
 clear hC hso hal hx him hsf hn
 have e20:bRest Try.f10 20=.seq (bCode Try.f10 20) (bRest Try.f10 21):=bd_seq _ 20 (by kernel_rfl)
 have e21:bRest Try.f10 21=.seq (bCode Try.f10 21) (bRest Try.f10 22):=bd_seq _ 21 (by kernel_rfl)
 have e22:bRest Try.f10 22=.seq (bCode Try.f10 22) (bRest Try.f10 23):=bd_seq _ 22 (by kernel_rfl)
 have e23:bRest Try.f10 23=.seq (bCode Try.f10 23) (bRest Try.f10 24):=bd_seq _ 23 (by kernel_rfl)
 rw [e20,e21,e22,e23]
 clear e20 e21 e22 e23
 apply bFr.elim hF
 clear hF
 intro V0 V1 V2 V3 V4 V5 V6 V7 V8 V9 V10 V11 V12 V13 V14 V15 V16 V17 V18 V19 V20 V21 V22 V23 V24 V25 V26 V27 V28 V29 V30 V31 V32 V33 V34 V35 V36 V37 V38 V39
  V40 V41 V42 V43 V44 V45 V46 V47 V48 V49 V50 V51 V52 V53 V54 V55 V56 V57 V58 V59 V60 V61 V62 V63 V64 V65 V66 V67 V68 V69 V70 V71 V72 V73 V74 V75 V76 V77 V78 V79
  V80 V81 V82 V83 V84 V85 V86 V87 V88 V89 V90 V91 V92 V93 V94 V95 V96 V97 V98 V99 V100 V101 V102 V103 V104 V105 V106 V107 V108 V109 V110 V111 V112 V113 V114 V115 V116 V117 V118 V119
  V120 V121 V122 V123 V124 V125 V126 V127 V128 V129 V130 V131 V132 V133 V134 V135 V136 V137 V138 V139 V140 V141 V142 V143 V144 V145 V146 V147 V148 V149 V150 V151 V152 V153 V154 V155 V156 V157 V158 V159
  V160 V161 V162 V163 V164 V165 V166 V167 V168 V169 V170 V171 V172 V173 V174 V175 V176 V177 V178 V179 V180 V181 V182 V183 V184 V185 V186 V187 V188 V189 V190 V191 V192 V193 V194 V195 V196 V197 V198 V199
  V200 V201 V202 V203 V204 V205 V206 V207 V208 V209 V210 V211 V212 V213 V214 V215 V216 V217 V218 V219 V220 V221 V222 V223 V224 V225 V226 V227 V228 V229 V230 V231 V232 V233 V234 V235 V236 V237 V238 V239
  V240 V241 V242 V243 V244 V245 V246 hF
 obtain⟨-,-,e1,e2,e3,e4,e5,e6,-⟩:=hF
 replace e1:V1=.pointer (some ⟨w.heap.size,0,none⟩):=e1
 subst e1
 replace e2:V2=.pointer (some ⟨w.heap.size+1,0,none⟩):=e2
 subst e2
 replace e3:V3=.int .i64 0:=e3
 subst e3
 replace e4:V4=.pointer (some ⟨w.heap.size+2,0,none⟩):=e4
 subst e4
 replace e5:V5=.pointer (some ⟨lb,0,none⟩):=e5
 subst e5
 replace e6:V6=.pointer (some ⟨ib,0,none⟩):=e6
 subst e6
 conv in bCode _ 20=>whnf
 conv in bCode _ 21=>whnf
 conv in bCode _ 22=>whnf
 conv in bCode _ 23=>whnf
 conv in bRest _ 24=>whnf
 have i5:w5.cell? ⟨ib,5,none⟩=some iv.syms:=by rw [Lib.cell_of_heap HX5.out];rfl
 have f5:w5.frozen? ⟨ib,5,none⟩=false:=Lib.frozen_of_heap HX5.out 5
 go_upto_region 42 with fail
 generalize hw6:w5.setCell ⟨ib,5,none⟩ (.slice sya n syc)=w6
 have hs6:Step (fun b=>b≠ib) w5 w6:=by rw [← hw6];exact(Step.refl _ w5).setCell (fun h=>h rfl) _
 have HX6:Hid (w6.heap[ib]? =some (.cells #[.string ⟨im.name.toArray⟩,.int .i64 im.flags,iv.segs,iv.needed,iv.runPath,.slice sya n syc,iv.buckets,iv.words,.int .i64 imx.shift,iv.relocs,iv.slots,iv.init,iv.fini,iv.tls,.int .i64 im.tlsSize] 44 (0,0))):=Lib.hid (by rw [← hw6];exact setCell_arr HX5.out 5 _)
 have hz6:w6.heap.size=w5.heap.size:=by rw [← hw6];simp
 have i5':w6.cell? ⟨ib,5,none⟩=some (.slice sya n syc):=by rw [Lib.cell_of_heap HX6.out];rfl
 have HLB6:=Lib.hid (HLB.out.keeps (fun b hb=>hs6.block b hb.2.2.1))
 have HIM6:=Lib.hid (HIM.out.keeps (fun b hb=>hs6.block b hb.2.2.1))
 have HR6:=Lib.hid ((hs6.block (w.heap.size+1) (by omega)).trans HR5.out)
 have HB6:=Lib.hid (HB5.out.trans ((hs6.imp (S':=(·<w.heap.size)) (fun b hb=>by have hb:b<w.heap.size:=hb;omega)).below))
 have HMk:=Lib.hid (tmake_any w6 (.slice sya n syc) (placedQ s).syms (HLB6.out.imp (fun b hb=>by have:=hb.2.1;show b<w6.heap.size;omega)) (by have:=Hn.out;omega))
 clear hw6 hs6 i5 f5 c9
 go_wp2_with fail
 refine HMk.out.mono ?_
 rintro e w7 ⟨bv,wv,rfl,hbv,hwv,hb7⟩
 obtain⟨ba_,bc_,hbf⟩:=hbv.form
 obtain⟨wa_,wc_,hwf⟩:=hwv.form
 subst hbf hwf
 have hz7:=hb7.size
 obtain⟨nb,hnb⟩:∃ nb,nb=(bucketsT (placedQ s).syms (countT (seenIx (placedQ s).syms).length)).length:=⟨_,rfl⟩
 obtain⟨nw,hnw⟩:∃ nw,nw=(filterT (placedQ s).syms).length:=⟨_,rfl⟩
 rw [← hnb]at hbv ⊢
 rw [← hnw]at hwv ⊢
 have HLB7:=Lib.hid (HLB6.out.keeps (fun b hb=>hb7.block b (by have:=hb.2.1;omega)))
 have HIM7:=Lib.hid (HIM6.out.keeps (fun b hb=>hb7.block b (by have:=hb.2.1;omega)))
 have HR7:=Lib.hid ((hb7.block (w.heap.size+1) (by omega)).trans HR6.out)
 have HB7:=Lib.hid (HB6.out.trans (hb7.mono (by have:=HB6.out.size;omega)))
 have HX7:=Lib.hid ((hb7.block ib (by omega)).trans HX6.out)
 have HBv:=Lib.hid hbv
 have HWv:=Lib.hid hwv
 have Hnb:=Lib.hid hnb
 have Hnw:=Lib.hid hnw
 clear hbv hwv hb7 hnb hnw i5' HMk HX6 HR6 HB6 HLB6 HIM6
 go_upto_region 45 with (refine wpList_store_part rfl 38 (.tmp 236) (.tmp 234) rfl ib 6 #[.slice ba_ nb bc_,.slice wa_ nw wc_,.int .i64 6] rfl rfl _ _ (#[.string ⟨im.name.toArray⟩,.int .i64 im.flags,iv.segs,iv.needed,iv.runPath,.slice sya n syc,.slice ba_ nb bc_,.slice wa_ nw wc_,.int .i64 6,iv.relocs,iv.slots,iv.init,iv.fini,iv.tls,.int .i64 im.tlsSize]) HX7.out (by kernel_rfl) (by simp) (by simp [Value.oneCell']) rfl ?_)
 generalize hw8:w7.setRow ib #[.string ⟨im.name.toArray⟩,.int .i64 im.flags,iv.segs,iv.needed,iv.runPath,.slice sya n syc,.slice ba_ nb bc_,.slice wa_ nw wc_,.int .i64 6,iv.relocs,iv.slots,iv.init,iv.fini,iv.tls,.int .i64 im.tlsSize]=w8
 have hs8:Step (fun b=>b≠ib) w7 w8:=by rw [← hw8];exact⟨rfl,rfl,rfl,by simp,fun b hb=>setRow_other _ _ _ _ hb⟩
 have HX8:Hid (w8.heap[ib]? =some (.cells #[.string ⟨im.name.toArray⟩,.int .i64 im.flags,iv.segs,iv.needed,iv.runPath,.slice sya n syc,.slice ba_ nb bc_,.slice wa_ nw wc_,.int .i64 6,iv.relocs,iv.slots,iv.init,iv.fini,iv.tls,.int .i64 im.tlsSize] 44 (0,0))):=Lib.hid (by rw [← hw8];exact setRow_heap _ _ _ _ _ _ HX7.out)
 have hz8:w8.heap.size=w7.heap.size:=by rw [← hw8];simp
 have HR8:=Lib.hid ((hs8.block (w.heap.size+1) (by omega)).trans HR7.out)
 have HB8:=Lib.hid (HB7.out.trans ((hs8.imp (S':=(·<w.heap.size)) (fun b hb=>by have hb:b<w.heap.size:=hb;omega)).below))
 have HM8:Hid (ImgM (fun b=>w.heap.size≤b∧b<w8.heap.size∧b≠w.heap.size+1) w8 {iv with syms:=.slice sya n syc,buckets:=.slice ba_ nb bc_,words:=.slice wa_ nw wc_ } {im with syms:=(placedQ s).syms,buckets:=bucketsT (placedQ s).syms (countT (seenIx (placedQ s).syms).length),words:=filterT (placedQ s).syms,shift:=6 }):=Lib.hid (by
  have k5:∀ b,(w.heap.size≤b∧b<w5.heap.size∧b≠ib∧b≠w.heap.size+1)→(w.heap.size≤b∧b<w8.heap.size∧b≠w.heap.size+1):=fun b hb=>⟨hb.1,by omega,hb.2.2.2⟩
  have k7:∀ b,(w6.heap.size≤b∧b<w7.heap.size)→(w.heap.size≤b∧b<w8.heap.size∧b≠w.heap.size+1):=fun b hb=>⟨by omega,by omega,by omega⟩
  exact { (HIM7.out.keeps (fun b hb=>hs8.block b hb.2.2.1)).imp k5 with
   syms:=(HLB7.out.keeps (fun b hb=>hs8.block b hb.2.2.1)).imp k5
   buckets:=(HBv.out.keeps (fun b hb=>hs8.block b (by have:=hb.1;omega))).imp k7
   bucketsL:=bucketsT_small _ _ (by have:=Hn.out;omega)
   words:=(HWv.out.keeps (fun b hb=>hs8.block b (by have:=hb.1;omega))).imp k7
   wordsR:=filterT_range _
   shift:=⟨by show(-9223372036854775808:Int)≤6;decide,by show(6:Int)≤9223372036854775807;decide⟩})
 obtain⟨im9,him9⟩:∃ im9:ImgL,im9={im with syms:=(placedQ s).syms,buckets:=bucketsT (placedQ s).syms (countT (seenIx (placedQ s).syms).length),words:=filterT (placedQ s).syms,shift:=6 }:=⟨_,rfl⟩
 obtain⟨iv9,hiv9⟩:∃ iv9:ImgV,iv9={iv with syms:=.slice sya n syc,buckets:=.slice ba_ nb bc_,words:=.slice wa_ nw wc_ }:=⟨_,rfl⟩
 rw [← him9]at HM8 HBe
 rw [← hiv9]at HM8
 have Hrow:Hid (imgCells iv9 im9=#[.string ⟨im.name.toArray⟩,.int .i64 im.flags,iv.segs,iv.needed,iv.runPath,.slice sya n syc,.slice ba_ nb bc_,.slice wa_ nw wc_,.int .i64 6,iv.relocs,iv.slots,iv.init,iv.fini,iv.tls,.int .i64 im.tlsSize]):=Lib.hid (by rw [him9,hiv9];rfl)
 have HMay:=Lib.hid (imay_any w8 iv9 im9 (HM8.out.imp (fun b hb=>hb.2.1)))
 rw [Hrow.out]at HMay
 obtain⟨m,hm⟩:∃ m,m=mayL im9:=⟨_,rfl⟩
 rw [← hm]at HMay HBe
 have x0:=cells_row HX8.out 0 _ rfl
 have x1:=cells_row HX8.out 1 _ rfl
 have x2:=cells_row HX8.out 2 _ rfl
 have x3:=cells_row HX8.out 3 _ rfl
 have x4:=cells_row HX8.out 4 _ rfl
 have x5:=cells_row HX8.out 5 _ rfl
 have x6:=cells_row HX8.out 6 _ rfl
 have x7:=cells_row HX8.out 7 _ rfl
 have x8:=cells_row HX8.out 8 _ rfl
 have x9:=cells_row HX8.out 9 _ rfl
 have x10:=cells_row HX8.out 10 _ rfl
 have x11:=cells_row HX8.out 11 _ rfl
 have x12:=cells_row HX8.out 12 _ rfl
 have x13:=cells_row HX8.out 13 _ rfl
 have x14:=cells_row HX8.out 14 _ rfl
 skip
 clear hw8 hs8 HX7 HR7 HB7 HLB7 HIM7 HBv HWv Hnb Hnw him9 hiv9 hm
 go_wp2_with fail
 refine HMay.out.mono ?_
 rintro e w10 ⟨rfl,hb10⟩
 have hz10:=hb10.size
 have HX10:=Lib.hid ((hb10.block ib (by omega)).trans HX8.out)
 have HR10:=Lib.hid ((hb10.block (w.heap.size+1) (by omega)).trans HR8.out)
 have HB10:=Lib.hid (HB8.out.trans (hb10.mono (by have:=HB8.out.size;omega)))
 have HM10:=Lib.hid (HM8.out.keeps (fun b hb=>hb10.block b hb.2.1))
 clear hb10 x0 x1 x2 x3 x4 x5 x6 x7 x8 x9 x10 x11 x12 x13 x14 HMay
 by_cases hm:m=0
 ·subst hm
  have HE:Hid (buildL s=(im9,0)):=Lib.hid (by rw [HBe.out,if_neg (fun h=>h rfl)])
  have x0:=cells_row HX10.out 0 _ rfl
  have x1:=cells_row HX10.out 1 _ rfl
  have x2:=cells_row HX10.out 2 _ rfl
  have x3:=cells_row HX10.out 3 _ rfl
  have x4:=cells_row HX10.out 4 _ rfl
  have x5:=cells_row HX10.out 5 _ rfl
  have x6:=cells_row HX10.out 6 _ rfl
  have x7:=cells_row HX10.out 7 _ rfl
  have x8:=cells_row HX10.out 8 _ rfl
  have x9:=cells_row HX10.out 9 _ rfl
  have x10:=cells_row HX10.out 10 _ rfl
  have x11:=cells_row HX10.out 11 _ rfl
  have x12:=cells_row HX10.out 12 _ rfl
  have x13:=cells_row HX10.out 13 _ rfl
  have x14:=cells_row HX10.out 14 _ rfl
  go_wp2_with (refine wpList_store_row rfl 44 (.tmp 2) (.tmp 246) rfl (w.heap.size+1) (#[.string ⟨im.name.toArray⟩,.int .i64 im.flags,iv.segs,iv.needed,iv.runPath,.slice sya n syc,.slice ba_ nb bc_,.slice wa_ nw wc_,.int .i64 6,iv.relocs,iv.slots,iv.init,iv.fini,iv.tls,.int .i64 im.tlsSize]) rfl rfl _ _ HR10.out (by kernel_rfl) rfl (by rw [← Hrow.out];exact img_one HM8.out) ?_)
  clear x0 x1 x2 x3 x4 x5 x6 x7 x8 x9 x10 x11 x12 x13 x14
  go_wp2_with fail
  have FR:=Lib.hid (setRow_heap _ (w.heap.size+1) _ (#[.string ⟨im.name.toArray⟩,.int .i64 im.flags,iv.segs,iv.needed,iv.runPath,.slice sya n syc,.slice ba_ nb bc_,.slice wa_ nw wc_,.int .i64 6,iv.relocs,iv.slots,iv.init,iv.fini,iv.tls,.int .i64 im.tlsSize]) _ _ HR10.out)
  refine bodyPost_ret (results_row_tmp rfl _ _ (w.heap.size+1) _ _ _ _ rfl FR.out Try.underlying44 rfl (by kernel_rfl)) rfl ?_
  have hsz:(w10.setRow (w.heap.size+1) (#[.string ⟨im.name.toArray⟩,.int .i64 im.flags,iv.segs,iv.needed,iv.runPath,.slice sya n syc,.slice ba_ nb bc_,.slice wa_ nw wc_,.int .i64 6,iv.relocs,iv.slots,iv.init,iv.fini,iv.tls,.int .i64 im.tlsSize])).heap.size=w10.heap.size:=by simp
  refine⟨iv9,?_,below_setRow HB10.out _ _ (by omega),?_⟩
  ·rw [HE.out,Hrow.out];rfl
  ·rw [HE.out]
   exact(HM10.out.keeps (fun b hb=>setRow_other _ _ b _ hb.2.2)).imp (fun b hb=>⟨hb.1,by rw [hsz];omega⟩)
 ·have HE:Hid (buildL s=(imgNone,m)):=Lib.hid (by rw [HBe.out,if_pos hm])
  have hmb:(m != 0)=true:=by simp [hm]
  clear hm
  go_wp2_with (refine wpList_store_row rfl 44 (.tmp 2) (.tmp 244) rfl (w.heap.size+1) #[.string ⟨#[]⟩,.int .i64 0,.slice none 0 0,.slice none 0 0,.slice none 0 0,.slice none 0 0,.slice none 0 0,.slice none 0 0,.int .i64 0,.slice none 0 0,.slice none 0 0,.slice none 0 0,.slice none 0 0,.slice none 0 0,.int .i64 0] rfl rfl _ _ HR10.out (by kernel_rfl) rfl (by simp [Value.oneCell']) ?_)
  go_wp2_with fail
  have FR:=Lib.hid (setRow_heap _ (w.heap.size+1) _ #[.string ⟨#[]⟩,.int .i64 0,.slice none 0 0,.slice none 0 0,.slice none 0 0,.slice none 0 0,.slice none 0 0,.slice none 0 0,.int .i64 0,.slice none 0 0,.slice none 0 0,.slice none 0 0,.slice none 0 0,.slice none 0 0,.int .i64 0] _ _ HR10.out)
  refine bodyPost_ret (results_row_tmp rfl _ _ (w.heap.size+1) _ _ _ _ rfl FR.out Try.underlying44 rfl (by kernel_rfl)) rfl ?_
  exact build_none HE.out (below_setRow HB10.out _ _ (by omega))
end Go.Proofs.Ytpomdoliblilfaa
