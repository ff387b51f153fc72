/- Lemmas. -/
import Derived.Test.YtpomdoliblilfaaBld36
import Derived.Deep.DeepCutAuto
namespace Go.Proofs.Ytpomdoliblilfaa
set_option linter.unusedVariables false
set_option linter.unusedSimpArgs false
open Go.RowKit
section
variable {α : Type} {e : TypeId} {K : Kind α} {f : α → Value} {B : Nat} {E : Nat → Prop} {w w' : World} {v : Value} {l : List α}
theorem wp_appendsB {o:Oper} {a:Act} {C:Act→World→Prop} {Q:Exit→Act→World→Prop} (hp:Plain K f) (t:TypeId) (z:Value) (bytes:Nat) (ht:Try.prog.underlying t=some (.slice e)) (hinfo:(Try.prog.info? e).map (fun i=>(i.zero,i.size,i.bytes))=some (some z,1,bytes))
  (hzs:z.cells.size=1) (s x:Operand)
  (ho:o.op=.call {callee:=.builtin .append,args:=#[s,x],argTypes:=#[t,t]})
  (hs:a.eval s=v) (hown:OwnK e K B E w v l) (hE:∀ b,E b→b<w.heap.size) {S:Nat→Prop} (u:Value) (m:List α) (hx:a.eval x=u) (hu:LB K S w u m)
  (hlen:(l.length+m.length)*bytes≤140737488355328) (hl63:l.length+m.length≤9223372036854775807) (hB:B≤w.heap.size)
  (h:∀ v' w',OwnK e K B E w' v' (l++m)→Step (fun b=>b<w.heap.size∧v.ownBlock≠some b) w w'→(∀ b,b<w.heap.size→v.ownBlock≠some b→v'.ownBlock≠some b)→C (a.put o.dst v') w'):o.wp Try.prog a w C Q:=by
 obtain⟨i0,hi,hz0,hz1,hz2⟩:=info_parts hinfo
 have h1:=hown.plain_row hp
 obtain⟨ua,ub,uoff,ucap,hv,hm,ha,hcap,hS,hc⟩:=hu
 cases ua with
 | none=>
  have hm0:m=[]:=by
   cases m with
   | nil=>rfl
   | cons y m=>exact absurd (ha (by simp)) (by simp)
  subst hm0
  have hc0:=hcap.2 rfl
  subst hc0
  have hxx:a.eval x=.slice none 0 0:=hx.trans hv
  have hrun:=run_append_owned_none (P:=Try.prog) (w:=w) B t o.type e i0 1 ht hi v l.length (l.map f) h1
  unfold Oper.wp
  simp [execOp,ho,resolve,invoke,builtin,hs,hxx,hrun,Result.andThen]
  exact h v w (by rw [List.append_nil];exact hown) (Step.refl _ _) (fun b _ h=>h)
 | some ad=>
  have hxx:a.eval x=.slice (some ad) m.length ucap:=hx.trans hv
  have hcl:∀ j u,(m.map f)[j]? =some u→w.cell? (ad.add j)=some u:=by
   intro j u hj
   rw [List.getElem?_map]at hj
   cases hmj:m[j]? with
   | none=>rw [hmj]at hj;cases hj
   | some y=>
    rw [hmj]at hj
    have hu:f y=u:=by simpa using hj
    subst hu
    have hml:0<m.length:=by have:=(List.getElem?_eq_some_iff.1 hmj).1;omega
    obtain rfl:ad=⟨ub,uoff,none⟩:=by have:=ha hml;simpa using this
    obtain⟨row,r1,r2⟩:=hc j y hmj
    have:=hp.into r1
    subst this
    have:=r2 0 (f y) rfl
    rw [hp.one]at this
    simpa [Addr.add_lit] using this
  have hone:∀ u∈m.map f,u.oneCell'=true:=by
   intro u hu
   simp only [List.mem_map]at hu
   obtain⟨y,_,rfl⟩:=hu
   exact hp.cell y
  obtain⟨v',w',hr,g1,g2,_,g4⟩:=run_append_own_at (P:=Try.prog) w B t o.type e i0 z 1 bytes ht hi hz0 hz1 hz2 hzs (by decide) v l.length (l.map f) h1 ad m.length ucap (m.map f) (by simp) hcl hone (by unfold maxLen;omega) hlen hB
  have hlt:=World.ownsRow.lt h1
  have hst:Step (fun b=>b<w.heap.size∧v.ownBlock≠some b) w w':=Step.of_grown g2 (fun b hb=>⟨hb.1,hb.2⟩)
  have hfin:=h v' w' (.of_plain hp (by rw [List.length_append,List.map_append];exact g1) (by
    intro g hg hEg
    rcases g4 with h' | h'
    ·exact hown.notE g (by rw [← h'];exact hg) hEg
    ·have:g=w.heap.size:=by rw [h']at hg;exact(Option.some.inj hg).symm
     have:=hE _ hEg;omega)) hst (by
    intro b hb hne e
    rcases g4 with h' | h'
    ·exact hne (by rw [← h'];exact e)
    ·have:b=w.heap.size:=by rw [h']at e;exact(Option.some.inj e).symm
     omega)
  unfold Oper.wp execOp
  simp only [ho,resolve,invoke,builtin,Sem.run_bind,Sem.run_pure,Result.andThen_ok,List.map_toArray,List.map_cons,List.map_nil,hs,hxx,hr]
  exact hfin
end
section
variable {B : Nat} {E : Nat → Prop} {w w' : World} {v : Value} {l : List UInt8}
end
theorem dataL_len (l:List VarL):(dataL l).length≤(l.flatMap (·.words)).length:=by
 induction l with
 | nil=>exact Nat.le_refl _
 | cons v l ih=>
  unfold dataL at ih ⊢
  simp only [List.flatMap_cons,List.length_append]
  split<;>(try simp only [List.length_nil])<;>omega
theorem blockT_len (l:List VarL):(blockT l).length≤(l.flatMap (·.words)).length:=by
 induction l with
 | nil=>exact Nat.le_refl _
 | cons v l ih=>
  unfold blockT at ih ⊢
  simp only [List.flatMap_cons,List.length_append]
  split<;>(try simp only [List.length_nil])<;>omega
theorem wordsL_append (a b:List Int):wordsL (a++b)=wordsL a++wordsL b:=by unfold wordsL;rw [List.flatMap_append]
def dataT (s:SpecL):List Int:=List.replicate ((instsQ s).1.cells.length+(instsQ s).1.jumps.length) 0++dataL s.vars
theorem replicate_zeroI (n:Nat):(madeCells (Value.int .i64 0).cells (n*1)).toList=(List.replicate n (0:Int)).map (fun x=>Value.int .i64 x):=by
 have e:(Value.int .i64 0).cells=#[.int .i64 0]:=rfl
 rw [Nat.mul_one,List.map_replicate]
 apply List.ext_getElem?
 intro i
 simp only [madeCells,e]
 by_cases h:i<n
 ·simp [h,Nat.mod_one]
 ·simp [h]
structure DatM (Bd ib:Nat) (w0 w:World) (d tv:Value) (l:List Int) (m:List UInt8) (ivx:ImgV) (imx:ImgL):Prop where
 ix:w.heap[ib]? =some (.cells (imgCells {ivx with tls:=tv } imx) 44 (0,0))
 dd:OwnK 3 kInt Bd (fun b=>b<Bd) w d l
 tt:OwnK 5 kByte Bd (fun b=>b<Bd) w tv m
 apart:∀ g,d.ownBlock=some g→tv.ownBlock≠some g
 step:Step (fun b=>b<Bd∧b≠ib) w0 w
 hB:Bd≤w.heap.size
 ibl:ib<Bd
section
variable {Bd ib : Nat} {w0 w w' : World} {d tv : Value} {l : List Int} {m : List UInt8} {ivx : ImgV} {imx : ImgL}
theorem DatM.belowW (h:DatM Bd ib w0 w d tv l m ivx imx) (hb:Below w.heap.size w w'):DatM Bd ib w0 w' d tv l m ivx imx:=by
 have:=h.ibl;have:=h.hB
 exact⟨(hb.block ib (by omega)).trans h.ix,h.dd.below hb,h.tt.below hb,h.apart,h.step.trans ((Step.of_below hb).imp (fun b hb'=>by show b<w.heap.size;omega)),by have:=hb.size;omega,h.ibl⟩
theorem DatM.alloc (h:DatM Bd ib w0 w d tv l m ivx imx) (o:Obj):DatM Bd ib w0 (w.alloc o) d tv l m ivx imx:=h.belowW ((Below.refl _ w).alloc (Nat.le_refl _) o)
theorem DatM.drew (h:DatM Bd ib w0 w d tv l m ivx imx):DatM Bd ib w0 w.drew d tv l m ivx imx:=h.belowW ((Below.refl _ w).drew)
theorem DatM.growD (h:DatM Bd ib w0 w d tv l m ivx imx) {d':Value} {l':List Int} (ho:OwnK 3 kInt Bd (fun b=>b<Bd) w' d' l') (hs:Step (fun b=>b<w.heap.size∧d.ownBlock≠some b) w w') (hn:∀ b,b<w.heap.size→d.ownBlock≠some b→d'.ownBlock≠some b):DatM Bd ib w0 w' d' tv l' m ivx imx:=by
 have hi:=h.ibl;have hB:=h.hB
 have hlo:∀ b,b<Bd→d.ownBlock≠some b:=fun b hb e=>by have:=(h.dd.lt b e).1;omega
 refine⟨(hs.block ib ⟨by omega,hlo ib hi⟩).trans h.ix,ho,h.tt.flat_keep flat_byte (fun g hg=>hs.block g ⟨(h.tt.lt g hg).2,fun e=>h.apart g e hg⟩),fun g hg e=> ?_,h.step.trans (hs.imp (fun b hb=>⟨by omega,hlo b hb.1⟩)),by have:=hs.size;omega,hi⟩
 exact hn g (h.tt.lt g e).2 (fun e'=>h.apart g e' e) hg
theorem DatM.growT (h:DatM Bd ib w0 w d tv l m ivx imx) {t':Value} {m':List UInt8} (ho:OwnK 5 kByte Bd (fun b=>b<Bd) w' t' m') (hs:Step (fun b=>b<w.heap.size∧tv.ownBlock≠some b) w w') (hn:∀ b,b<w.heap.size→tv.ownBlock≠some b→t'.ownBlock≠some b):DatM Bd ib w0 (w'.setCell ⟨ib,13,none⟩ t') d t' l m' ivx imx:=by
 have hi:=h.ibl;have hB:=h.hB
 have hlo:∀ b,b<Bd→tv.ownBlock≠some b:=fun b hb e=>by have:=(h.tt.lt b e).1;omega
 have hx:=(hs.block ib ⟨by omega,hlo ib hi⟩).trans h.ix
 have hs2:Step (fun b=>b≠ib) w' (w'.setCell ⟨ib,13,none⟩ t'):=(Step.refl _ w').setCell (fun h=>h rfl) _
 have hd:OwnK 3 kInt Bd (fun b=>b<Bd) w' d l:=h.dd.flat_keep flat_int (fun g hg=>hs.block g ⟨(h.dd.lt g hg).2,fun e=>h.apart g hg e⟩)
 refine⟨setCell_arr hx 13 _,hd.step hs2 (fun b _ hb=>by have hb:¬ b<Bd:=hb;omega),ho.step hs2 (fun b _ hb=>by have hb:¬ b<Bd:=hb;omega),fun g hg e=>hn g (h.dd.lt g hg).2 (fun e'=>h.apart g hg e') e,(h.step.trans (hs.imp (fun b hb=>⟨by omega,hlo b hb.1⟩))).trans (hs2.imp (fun b hb=>hb.2)),by have:=hs.size;simp;omega,hi⟩
end
set_option maxHeartbeats 64000000 in
set_option maxRecDepth 100000 in
theorem bt8 {w:World} {sv:SpecV} {s:SpecL} {a:Act} {w5:World} {own:Int} {v:PlanV} {fv vv:Value} {lb ib:Nat} {ivx iv:ImgV} {imx im:ImgL} {A:Nat→Prop} (hF:bFr [(1,.pointer (some ⟨w.heap.size,0,none⟩)),(2,.pointer (some ⟨w.heap.size+1,0,none⟩)),(3,.int .i64 0),(4,.pointer (some ⟨w.heap.size+2,0,none⟩)),(5,.pointer (some ⟨lb,0,none⟩)),(6,.pointer (some ⟨ib,0,none⟩))] a) (hC:BSt2 w sv s w5 own v fv vv lb ib ivx imx iv im A) (hfew:FewL s) (hsg:ivx.tls=.slice none 0 0)
  (hK:∀ a' wc d tv Bd,bFr [(1,.pointer (some ⟨w.heap.size,0,none⟩)),(2,.pointer (some ⟨w.heap.size+1,0,none⟩)),(3,.int .i64 0),(4,.pointer (some ⟨w.heap.size+2,0,none⟩)),(5,.pointer (some ⟨lb,0,none⟩)),(6,.pointer (some ⟨ib,0,none⟩)),(11,d)] a'→DatM Bd ib w5 wc d tv (dataT s) (wordsL (blockT s.vars)) ivx imx→w5.heap.size≤Bd→(bRest Try.f10 17).wp Try.prog (bodyPost Try.prog Try.f10 (BuildPost w s)) a' wc):(bRest Try.f10 15).wp Try.prog (bodyPost Try.prog Try.f10 (BuildPost w s)) a w5:=by
 have HK:=Lib.hid hK
 have HC:=Lib.hid hC
 have hib:=hC.ibl
 have h0:=hC.h0
 have hps:=(placed_sz hfew).1
 have Hwl:=Lib.hid hfew.words
 have hfv:=hfew.vars
 have hvl:=hC.vl.max
 have Hvl:=Lib.hid (lay_bd hfew (check_sz hfew)).vars
 obtain⟨va,vc,hvf⟩:=hC.vl.form
 rw [Hvl.out]at hvf
 have HQ:Hid (dataT s=List.replicate ((placedQ s).cells.length+(placedQ s).jumps.length) 0++dataL s.vars):=Lib.hid (by unfold dataT;rw [(insts_plan s).1])
 obtain⟨ca_,cc_,hcf⟩:=hC.plan.cells.form
 obtain⟨ja_,jc_,hjf⟩:=hC.plan.jumps.form
 have c11:=hC.plan.c11
 have c12:=hC.plan.c12
 rw [hcf]at c11
 rw [hjf]at c12
 obtain⟨nc,hnc⟩:∃ nc,nc=(placedQ s).cells.length:=⟨_,rfl⟩
 obtain⟨nj,hnj⟩:∃ nj,nj=(placedQ s).jumps.length:=⟨_,rfl⟩
 have hnn:nc+nj≤40000:=by unfold PlanL.sz at hps;omega
 rw [← hnc]at c11 HQ
 rw [← hnj]at c12 HQ
 have l0:=cells_row hC.lx 0 _ rfl
 have HX5:Hid (w5.heap[ib]? =some (.cells (imgCells {ivx with tls:=.slice none 0 0 } imx) 44 (0,0))):=Lib.hid (by have h:=hC.ix;rw [← hsg];exact h)
 obtain⟨sfa,sfb,sfo,sfc,hsf,hsm,hsc,hsat⟩:=hC.spec.vars.at
 have hsaa:=hsat.addr
 have Hsat:=Lib.hid hsat
 have x5:w5.cell? ⟨w.heap.size,5,none⟩=some sv.vars:=by rw [Lib.cell_of_heap hC.sx];rfl
 have HX5s:=Lib.hid hC.sx
 rw [hsf]at x5
 obtain⟨nv,hnv⟩:∃ nv,nv=s.vars.length:=⟨_,rfl⟩
 have Hnv:=Lib.hid hnv
 rw [← hnv]at x5 hsm hsc hsaa hvf hfv
 have Hsf:=Lib.hid hsf
 have Hvf:=Lib.hid hvf
 obtain⟨i0,hi,hi0,hi1,hi2⟩:=info_parts info_intB
 clear hC hK hfew hcf hjf hsf hnc hnj hnv hsat hsg hvl hvf hps
 have e15:bRest Try.f10 15=.seq (bCode Try.f10 15) (bRest Try.f10 16):=bd_seq _ 15 (by kernel_rfl)
 have e16:bRest Try.f10 16=.seq (bCode Try.f10 16) (bRest Try.f10 17):=bd_seq _ 16 (by kernel_rfl)
 rw [e15,e16]
 clear e15 e16
 apply bFr.elim hF
 clear hF
 intro V0 V1 V2 V3 V4 V5 V6 V7 V8 V9 V10 V11 V12 V13 V14 V15 V16 V17 V18 V19 V20 V21 V22 V23 V24 V25 V26 V27 V28 V29 V30 V31 V32 V33 V34 V35 V36 V37 V38 V39
  V40 V41 V42 V43 V44 V45 V46 V47 V48 V49 V50 V51 V52 V53 V54 V55 V56 V57 V58 V59 V60 V61 V62 V63 V64 V65 V66 V67 V68 V69 V70 V71 V72 V73 V74 V75 V76 V77 V78 V79
  V80 V81 V82 V83 V84 V85 V86 V87 V88 V89 V90 V91 V92 V93 V94 V95 V96 V97 V98 V99 V100 V101 V102 V103 V104 V105 V106 V107 V108 V109 V110 V111 V112 V113 V114 V115 V116 V117 V118 V119
  V120 V121 V122 V123 V124 V125 V126 V127 V128 V129 V130 V131 V132 V133 V134 V135 V136 V137 V138 V139 V140 V141 V142 V143 V144 V145 V146 V147 V148 V149 V150 V151 V152 V153 V154 V155 V156 V157 V158 V159
  V160 V161 V162 V163 V164 V165 V166 V167 V168 V169 V170 V171 V172 V173 V174 V175 V176 V177 V178 V179 V180 V181 V182 V183 V184 V185 V186 V187 V188 V189 V190 V191 V192 V193 V194 V195 V196 V197 V198 V199
  V200 V201 V202 V203 V204 V205 V206 V207 V208 V209 V210 V211 V212 V213 V214 V215 V216 V217 V218 V219 V220 V221 V222 V223 V224 V225 V226 V227 V228 V229 V230 V231 V232 V233 V234 V235 V236 V237 V238 V239
  V240 V241 V242 V243 V244 V245 V246 hF
 obtain⟨-,-,e1,e2,e3,e4,e5,e6,-⟩:=hF
 replace e1:V1=.pointer (some ⟨w.heap.size,0,none⟩):=e1
 subst e1
 replace e2:V2=.pointer (some ⟨w.heap.size+1,0,none⟩):=e2
 subst e2
 replace e3:V3=.int .i64 0:=e3
 subst e3
 replace e4:V4=.pointer (some ⟨w.heap.size+2,0,none⟩):=e4
 subst e4
 replace e5:V5=.pointer (some ⟨lb,0,none⟩):=e5
 subst e5
 replace e6:V6=.pointer (some ⟨ib,0,none⟩):=e6
 subst e6
 conv in bCode _ 15=>whnf
 conv in bCode _ 16=>whnf
 go_upto_region 24 with fail
 have HB0:=Lib.hid (Below.refl w5.heap.size w5)
 refine wp_region_phase 14 (by kernel_rfl) (by kernel_rfl) ?_
 simp only [List.take_succ_cons,List.take_zero,List.drop_succ_cons,List.drop_zero,List.take_nil,List.drop_nil]
 refine wpAny_of_held (S:=fun w':World=>w'.cell? ⟨lb,0,none⟩=some (.pointer (some ⟨w.heap.size+2,0,none⟩))∧w'.cell? ⟨w.heap.size+2,11,none⟩=some (.slice ca_ nc cc_)∧w'.cell? ⟨w.heap.size+2,12,none⟩=some (.slice ja_ nj jc_)) _ _ _ _ ?_
 have hHeld:(fun w':World=>w'.cell? ⟨lb,0,none⟩=some (.pointer (some ⟨w.heap.size+2,0,none⟩))∧w'.cell? ⟨w.heap.size+2,11,none⟩=some (.slice ca_ nc cc_)∧w'.cell? ⟨w.heap.size+2,12,none⟩=some (.slice ja_ nj jc_)) (World.drew w5):=⟨l0,c11,c12⟩
 show wpAnyH _ _ _ _ _ _ _ _ (World.drew _)
 have hdr:Below w5.heap.size w5 (World.drew w5):=(Below.refl _ _).drew
 have hzd:w5.heap.size≤(World.drew w5).heap.size:=Nat.le_refl _
 have hze:(World.drew w5).heap.size≤w5.heap.size:=Nat.le_refl _
 clear l0 c11 c12
 generalize (World.drew w5)=wd at hdr hzd hze hHeld ⊢
 have o1:IntKind.i64.wrap ((nc:Int)+(nj:Int))=(nc:Int)+(nj:Int):=IntWalk.i64_in _ (by omega)
 refine wpAnyH_take (i:=0) (v:= ?_) rfl (by kernel_rfl) (by kernel_rfl) (by kernel_rfl) (fun _ _ _ h=>h) (Or.inl ⟨by rfl,?_⟩) hHeld ?_
 rotate_left
 ·(intro w hSw;(try dsimp only at hSw);go_simp;try with_reducible rfl)
 simp only [List.getElem_toArray,List.getElem_cons_zero,List.getElem_cons_succ,Act.put,List.setIfInBounds_toArray,List.set_cons_zero,List.set_cons_succ]
 refine wpAnyH_take (i:=1) (v:= ?_) rfl (by kernel_rfl) (by kernel_rfl) (by kernel_rfl) (fun _ _ _ h=>h) (Or.inl ⟨by rfl,?_⟩) hHeld ?_
 rotate_left
 ·(intro w hSw;(try dsimp only at hSw);go_simp;try with_reducible rfl)
 simp only [List.getElem_toArray,List.getElem_cons_zero,List.getElem_cons_succ,Act.put,List.setIfInBounds_toArray,List.set_cons_zero,List.set_cons_succ]
 refine wpAnyH_take (i:=2) (v:= ?_) rfl (by kernel_rfl) (by kernel_rfl) (by kernel_rfl) (fun _ _ _ h=>h) (Or.inl ⟨by rfl,?_⟩) hHeld ?_
 rotate_left
 ·(intro w hSw;(try dsimp only at hSw);go_simp;try with_reducible rfl)
 simp only [List.getElem_toArray,List.getElem_cons_zero,List.getElem_cons_succ,Act.put,List.setIfInBounds_toArray,List.set_cons_zero,List.set_cons_succ]
 refine wpAnyH_take (i:=3) (v:= ?_) rfl (by kernel_rfl) (by kernel_rfl) (by kernel_rfl) (fun _ _ _ h=>h) (Or.inl ⟨by rfl,?_⟩) hHeld ?_
 rotate_left
 ·(intro w hSw;(try dsimp only at hSw);go_simp;try with_reducible rfl)
 simp only [List.getElem_toArray,List.getElem_cons_zero,List.getElem_cons_succ,Act.put,List.setIfInBounds_toArray,List.set_cons_zero,List.set_cons_succ]
 refine wpAnyH_take (i:=4) (v:= ?_) rfl (by kernel_rfl) (by kernel_rfl) (by kernel_rfl) (fun _ _ _ h=>h) (Or.inl ⟨by rfl,?_⟩) hHeld ?_
 rotate_left
 ·(intro w hSw;(try dsimp only at hSw);go_simp;try with_reducible rfl)
 simp only [List.getElem_toArray,List.getElem_cons_zero,List.getElem_cons_succ,Act.put,List.setIfInBounds_toArray,List.set_cons_zero,List.set_cons_succ]
 refine wpAnyH_take (i:=5) (v:= ?_) rfl (by kernel_rfl) (by kernel_rfl) (by kernel_rfl) (fun _ _ _ h=>h) (Or.inl ⟨by rfl,?_⟩) hHeld ?_
 rotate_left
 ·(intro w hSw;(try dsimp only at hSw);go_simp;try with_reducible rfl)
 simp only [List.getElem_toArray,List.getElem_cons_zero,List.getElem_cons_succ,Act.put,List.setIfInBounds_toArray,List.set_cons_zero,List.set_cons_succ]
 refine wpAnyH_take (i:=6) (v:= ?_) rfl (by kernel_rfl) (by kernel_rfl) (by kernel_rfl) (fun _ _ _ h=>h) (Or.inl ⟨by rfl,?_⟩) hHeld ?_
 rotate_left
 ·(intro w hSw;(try dsimp only at hSw);go_simp;try with_reducible rfl)
 simp only [List.getElem_toArray,List.getElem_cons_zero,List.getElem_cons_succ,Act.put,List.setIfInBounds_toArray,List.set_cons_zero,List.set_cons_succ]
 refine wpAnyH_take (i:=7) (v:= ?_) rfl (by kernel_rfl) (by kernel_rfl) (by kernel_rfl) (fun _ _ _ h=>h) (Or.inl ⟨by rfl,?_⟩) hHeld ?_
 rotate_left
 ·(intro w hSw;(try dsimp only at hSw);go_simp;try with_reducible rfl)
 simp only [List.getElem_toArray,List.getElem_cons_zero,List.getElem_cons_succ,Act.put,List.setIfInBounds_toArray,List.set_cons_zero,List.set_cons_succ]
 refine wpAnyH_take (i:=8) (v:= ?_) rfl (by kernel_rfl) (by kernel_rfl) (by kernel_rfl) (fun _ _ _ h=>h) (Or.inl ⟨by rfl,?_⟩) hHeld ?_
 rotate_left
 ·(intro w hSw;(try dsimp only at hSw);go_simp;try with_reducible rfl)
 simp only [List.getElem_toArray,List.getElem_cons_zero,List.getElem_cons_succ,Act.put,List.setIfInBounds_toArray,List.set_cons_zero,List.set_cons_succ]
 refine wpAnyH_take (i:=9) (v:= ?_) rfl (by kernel_rfl) (by kernel_rfl) (by kernel_rfl) (fun _ _ _ h=>h) (Or.inl ⟨by rfl,?_⟩) hHeld ?_
 rotate_left
 ·(intro w hSw;(try dsimp only at hSw);go_simp;try with_reducible rfl)
 simp only [List.getElem_toArray,List.getElem_cons_zero,List.getElem_cons_succ,Act.put,List.setIfInBounds_toArray,List.set_cons_zero,List.set_cons_succ]
 refine wpAnyH_take (i:=10) (v:= ?_) rfl (by kernel_rfl) (by kernel_rfl) (by kernel_rfl) (fun _ _ _ h=>h) (Or.inl ⟨by rfl,?_⟩) hHeld ?_
 rotate_left
 ·(intro w hSw;(try dsimp only at hSw);go_simp;try with_reducible rfl)
 simp only [List.getElem_toArray,List.getElem_cons_zero,List.getElem_cons_succ,Act.put,List.setIfInBounds_toArray,List.set_cons_zero,List.set_cons_succ]
 refine wpAnyH_take (i:=11) (v:= ?_) rfl (by kernel_rfl) (by kernel_rfl) (by kernel_rfl) (fun _ _ _ h=>h) (Or.inl ⟨by rfl,?_⟩) hHeld ?_
 rotate_left
 ·(intro w hSw;(try dsimp only at hSw);go_simp;try with_reducible rfl)
 simp only [List.getElem_toArray,List.getElem_cons_zero,List.getElem_cons_succ,Act.put,List.setIfInBounds_toArray,List.set_cons_zero,List.set_cons_succ]
 refine wpAnyH_take (i:=12) (v:= ?_) rfl (by kernel_rfl) (by kernel_rfl) (by kernel_rfl) (fun _ _ _ h=>h) (Or.inl ⟨by rfl,?_⟩) hHeld ?_
 rotate_left
 ·(intro w hSw;(try dsimp only at hSw);go_simp;try with_reducible rfl)
 simp only [List.getElem_toArray,List.getElem_cons_zero,List.getElem_cons_succ,Act.put,List.setIfInBounds_toArray,List.set_cons_zero,List.set_cons_succ]
 clear o1
 obtain⟨wm,hrun,hrow,hg⟩:=run_make_full (P:=Try.prog) (w:=wd) wd.heap.size 41 3 i0 (.int .i64 0) 1 Try.underlying41 hi hi0 hi1 .i64 .i64 (nc+nj) (by rw [hi2];omega) (by unfold maxLen;omega) (Nat.le_refl _)
 rw [replicate_zeroI]at hrow
 rw [Int.natCast_add]at hrun
 have ho:=OwnK.of_plain (e:=3) (B:=wd.heap.size) (E:=fun b=>b<wd.heap.size) (l:=List.replicate (nc+nj) 0) plain_int (by rw [List.length_replicate];exact hrow) (fun g hg h=>by simp [Value.ownBlock]at hg;subst hg;exact Nat.lt_irrefl _ h)
 refine wpAnyH_ready (rs:=[13]) (by kernel_rfl) (by simp) ?_
 refine AllReadyH.cons rfl (fun K hK=> ?_) AllReadyH.nil
 have hll:lb<wd.heap.size:=by omega
 have hpp:w.heap.size+2<wd.heap.size:=by omega
 go_simp
 refine hK.out _ _ ⟨(World.cell?_of_block (hg.block lb hll (by simp))).trans hHeld.1,(World.cell?_of_block (hg.block _ hpp (by simp))).trans hHeld.2.1,(World.cell?_of_block (hg.block _ hpp (by simp))).trans hHeld.2.2⟩ (fun hHeld=> ?_)
 clear hK K hrun
 try simp only [List.getElem_toArray,List.getElem_cons_zero,List.getElem_cons_succ,Act.put,List.setIfInBounds_toArray,List.set_cons_zero,List.set_cons_succ]
 refine wpAnyH_done (by kernel_rfl) ?_ _
 simp only [phaseQ]
 clear hHeld
 have hlt:=(World.ownsRow.lt hrow _ rfl).2
 have HD:Hid (DatM wd.heap.size ib w5 wm (.slice (some ⟨wd.heap.size,0,none⟩) (nc+nj) (nc+nj)) (.slice none 0 0) (List.replicate (nc+nj) 0) [] ivx imx):=Lib.hid ⟨(hg.block ib (by omega) (by simp)).trans ((hdr.block ib hib).trans HX5.out),ho,OwnK.nil _ _ _ _ _,fun g _=>by simp [Value.ownBlock],(Step.of_below hdr).imp (fun b hb=>by omega) |>.trans (Step.of_grown hg (fun b hb=>⟨by omega,by simp⟩)),Nat.le_of_lt hlt,by omega⟩
 generalize wd.heap.size=Bd at *
 have hBd2:w5.heap.size≤Bd:=by omega
 clear hrow hg ho hi hi0 hi1 hdr hzd hze HX5 hll hpp
 have HXs:=Lib.hid ((HD.out.step.block w.heap.size ⟨by omega,by omega⟩).trans HX5s.out)
 have x5:wm.cell? ⟨w.heap.size,5,none⟩=some (.slice sfa nv sfc):=by rw [Lib.cell_of_heap HXs.out];show some sv.vars=_;rw [Hsf.out,← Hnv.out]
 go_wp2_with fail
 clear x5
 go_loopw [11,149] (fun d i wr=>∃ k:Nat,i=.int .i64 k∧k≤nv∧∃ tv,DatM Bd ib w5 wr d tv (List.replicate (nc+nj) 0++dataL (s.vars.take k)) (wordsL (blockT (s.vars.take k))) ivx imx) (fun _ i _=>nv-(intOf i).toNat)
 case atStart=>exact⟨0,rfl,Nat.zero_le _,_,by show DatM Bd ib w5 wm _ _ (List.replicate (nc+nj) 0++[]) [] ivx imx;rw [List.append_nil];exact HD.out⟩
 case round=>
  obtain⟨k,rfl,hk,tv,hD⟩:=hrel
  have HD:=Lib.hid hD
  clear hD
  by_cases hlt2:k<nv
  ·obtain⟨x,hx⟩:∃ x,s.vars[k]? =some x:=⟨_,List.getElem?_eq_getElem (by rw [← Hnv.out];exact hlt2)⟩
   obtain rfl:=hsaa (by omega)
   have HLow:=Lib.hid (HC.out.low.trans ((HD.out.step.imp (S':=(·<w.heap.size)) (fun b hb=>by have hb:b<w.heap.size:=hb;omega)).below))
   obtain⟨wv,rv,hwv,hrv,hso,g0,g1,g2,g3,g4,g5,g6,g7,g8,g9,g10,g11⟩:=Hsat.out.var12b HLow.out k x hx
   obtain⟨wa_,wc_,rfl⟩:=hwv.form
   obtain⟨ra,rc,rfl⟩:=hrv.form
   have hwl:x.words.length≤2000:=by have:=words_le hx;have:=Hwl.out;omega
   have hdl:(dataL (s.vars.take k)).length≤2000:=by have:=dataL_len (s.vars.take k);have:=take_words_len s.vars k;have:=Hwl.out;omega
   have hbl:(blockT (s.vars.take k)).length≤2000:=by have:=blockT_len (s.vars.take k);have:=take_words_len s.vars k;have:=Hwl.out;omega
   have HDn:Hid (dataL (s.vars.take (k+1))=dataL (s.vars.take k)++if x.sym.kind=3 then [] else x.words):=Lib.hid (by rw [take_snocB hx];unfold dataL;rw [List.flatMap_append];simp)
   have HBn:Hid (blockT (s.vars.take (k+1))=blockT (s.vars.take k)++if x.sym.kind=3 then x.words else []):=Lib.hid (by rw [take_snocB hx];unfold blockT;rw [List.flatMap_append];simp)
   obtain⟨wn,hwn⟩:∃ wn,wn=x.words.length:=⟨_,rfl⟩
   have Hwn:=Lib.hid hwn
   rw [← hwn]at g9 hwl
   have HWv:=Lib.hid hwv
   obtain⟨DL,hDL⟩:∃ DL,DL=List.replicate (nc+nj) 0++dataL (s.vars.take k):=⟨_,rfl⟩
   obtain⟨BL,hBL⟩:∃ BL,BL=blockT (s.vars.take k):=⟨_,rfl⟩
   have hdl2:DL.length≤42000:=by rw [hDL,List.length_append,List.length_replicate];omega
   have HDn2:Hid (List.replicate (nc+nj) 0++dataL (s.vars.take (k+1))=DL++if x.sym.kind=3 then [] else x.words):=Lib.hid (by rw [HDn.out,hDL,List.append_assoc])
   rw [← hDL]at HD
   rw [← hBL]at HD HBn hbl
   have HDa:=Lib.hid (HD.out.alloc (.cells #[.string ⟨x.sym.name.toArray⟩,.string ⟨x.sym.version.toArray⟩,.bool x.sym.old,.int .i64 x.sym.kind,.bool x.sym.weak,.int .i64 x.sym.vis,.bool x.sym.defined,.int .i64 x.sym.value,.int .i64 x.sym.size,.slice wa_ wn wc_,.slice ra x.refs.length rc,.bool x.copied] 71 (0,0)))
   have HXa:=Lib.hid (heap_alloc_new wr (.cells #[.string ⟨x.sym.name.toArray⟩,.string ⟨x.sym.version.toArray⟩,.bool x.sym.old,.int .i64 x.sym.kind,.bool x.sym.weak,.int .i64 x.sym.vis,.bool x.sym.defined,.int .i64 x.sym.value,.int .i64 x.sym.size,.slice wa_ wn wc_,.slice ra x.refs.length rc,.bool x.copied] 71 (0,0)))
   have HWa:Hid (LB kInt (·<wr.heap.size) wr (.slice wa_ wn wc_) x.words):=Lib.hid (by rw [Hwn.out];exact((HWv.out.below HLow.out).mono (by have:=HD.out.hB;omega)))
   have hza:wr.heap.size<(wr.alloc (.cells #[.string ⟨x.sym.name.toArray⟩,.string ⟨x.sym.version.toArray⟩,.bool x.sym.old,.int .i64 x.sym.kind,.bool x.sym.weak,.int .i64 x.sym.vis,.bool x.sym.defined,.int .i64 x.sym.value,.int .i64 x.sym.size,.slice wa_ wn wc_,.slice ra x.refs.length rc,.bool x.copied] 71 (0,0))).heap.size:=by simp
   have HWb:=Lib.hid (HWa.out.keeps (w':=wr.alloc (.cells #[.string ⟨x.sym.name.toArray⟩,.string ⟨x.sym.version.toArray⟩,.bool x.sym.old,.int .i64 x.sym.kind,.bool x.sym.weak,.int .i64 x.sym.vis,.bool x.sym.defined,.int .i64 x.sym.value,.int .i64 x.sym.size,.slice wa_ wn wc_,.slice ra x.refs.length rc,.bool x.copied] 71 (0,0))) (fun b hb=>heap_alloc_old wr (.cells #[.string ⟨x.sym.name.toArray⟩,.string ⟨x.sym.version.toArray⟩,.bool x.sym.old,.int .i64 x.sym.kind,.bool x.sym.weak,.int .i64 x.sym.vis,.bool x.sym.defined,.int .i64 x.sym.value,.int .i64 x.sym.size,.slice wa_ wn wc_,.slice ra x.refs.length rc,.bool x.copied] 71 (0,0)) hb))
   have hk2:(k:Int)<(nv:Int):=by omega
   clear hx hso hwv hrv hwn hDL hBL HDn hdl HWa
   go_upto_region 28 with fail
   have Hox:Hid (∀ g,tv.ownBlock=some g→g≠wr.heap.size):=Lib.hid (fun g hg e=>by have:=(HD.out.tt.lt g hg).2;omega)
   clear g0 g1 g2 g3 g4 g5 g6 g7 g8 g9 g10 g11 HD HLow
   generalize wr.alloc (.cells #[.string ⟨x.sym.name.toArray⟩,.string ⟨x.sym.version.toArray⟩,.bool x.sym.old,.int .i64 x.sym.kind,.bool x.sym.weak,.int .i64 x.sym.vis,.bool x.sym.defined,.int .i64 x.sym.value,.int .i64 x.sym.size,.slice wa_ wn wc_,.slice ra x.refs.length rc,.bool x.copied] 71 (0,0))=wa at *
   generalize wr.heap.size=xb at *
   have x3:wa.cell? ⟨xb,3,none⟩=some (.int .i64 x.sym.kind):=cells_row HXa.out 3 _ rfl
   have x9:wa.cell? ⟨xb,9,none⟩=some (.slice wa_ wn wc_):=cells_row HXa.out 9 _ rfl
   have hfl:x.words.length=wn:=Hwn.out.symm
   by_cases hkd:x.sym.kind=3
   ·have hkb:(x.sym.kind==3)=true:=by simp [hkd]
    have HD3:Hid (List.replicate (nc+nj) 0++dataL (s.vars.take (k+1))=DL):=Lib.hid (by rw [HDn2.out,if_pos hkd,List.append_nil])
    have HB3:Hid (wordsL (blockT (s.vars.take (k+1)))=wordsL BL++wordsL x.words):=Lib.hid (by rw [HBn.out,if_pos hkd,wordsL_append])
    clear hkd hfl
    go_upto_region 29 with fail
    obtain⟨ta_,tc_,htf⟩:=HDa.out.tt.form
    rw [htf]at Hox
    have Htl:=Lib.hid (wordsL_len BL)
    subst htf
    have HI:Hid (wa.heap[ib]? =some (.cells #[.string ⟨imx.name.toArray⟩,.int .i64 imx.flags,ivx.segs,ivx.needed,ivx.runPath,ivx.syms,ivx.buckets,ivx.words,.int .i64 imx.shift,ivx.relocs,ivx.slots,ivx.init,ivx.fini,.slice ta_ (wordsL BL).length tc_,.int .i64 imx.tlsSize] 44 (0,0))):=Lib.hid HDa.out.ix
    have i13:wa.cell? ⟨ib,13,none⟩=some (.slice ta_ (wordsL BL).length tc_):=by rw [Lib.cell_of_heap HI.out];rfl
    clear x3
    refine wp_region_phase 6 (by kernel_rfl) (by kernel_rfl) ?_
    simp only [List.take_succ_cons,List.take_zero,List.drop_succ_cons,List.drop_zero,List.take_nil,List.drop_nil]
    refine wpAny_of_held (S:=fun w':World=>w'.cell? ⟨ib,13,none⟩=some (.slice ta_ (wordsL BL).length tc_)∧w'.cell? ⟨xb,9,none⟩=some (.slice wa_ wn wc_)) _ _ _ _ ?_
    have hHeld:(fun w':World=>w'.cell? ⟨ib,13,none⟩=some (.slice ta_ (wordsL BL).length tc_)∧w'.cell? ⟨xb,9,none⟩=some (.slice wa_ wn wc_)) (World.drew wa):=⟨i13,x9⟩
    show wpAnyH _ _ _ _ _ _ _ _ (World.drew _)
    have HDd:=Lib.hid (HDa.out.drew)
    have HWd:Hid (LB kInt (·<xb) (World.drew wa) (.slice wa_ wn wc_) x.words):=Lib.hid HWb.out
    have hzd:xb<(World.drew wa).heap.size:=hza
    have hid2:ib<(World.drew wa).heap.size:=by have:=HDa.out.hB;have:=HDa.out.ibl;show ib<wa.heap.size;omega
    clear i13 x9 HDa HWb
    generalize (World.drew wa)=wd2 at *
    refine wpAnyH_take (i:=0) (v:= ?_) rfl (by kernel_rfl) (by kernel_rfl) (by kernel_rfl) (fun _ _ _ h=>h) (Or.inl ⟨by rfl,?_⟩) hHeld ?_
    rotate_left
    ·(intro w hSw;(try dsimp only at hSw);go_simp;try with_reducible rfl)
    simp only [List.getElem_toArray,List.getElem_cons_zero,List.getElem_cons_succ,Act.put,List.setIfInBounds_toArray,List.set_cons_zero,List.set_cons_succ]
    refine wpAnyH_take (i:=1) (v:= ?_) rfl (by kernel_rfl) (by kernel_rfl) (by kernel_rfl) (fun _ _ _ h=>h) (Or.inl ⟨by rfl,?_⟩) hHeld ?_
    rotate_left
    ·(intro w hSw;(try dsimp only at hSw);go_simp;try with_reducible rfl)
    simp only [List.getElem_toArray,List.getElem_cons_zero,List.getElem_cons_succ,Act.put,List.setIfInBounds_toArray,List.set_cons_zero,List.set_cons_succ]
    refine wpAnyH_take (i:=2) (v:= ?_) rfl (by kernel_rfl) (by kernel_rfl) (by kernel_rfl) (fun _ _ _ h=>h) (Or.inl ⟨by rfl,?_⟩) hHeld ?_
    rotate_left
    ·(intro w hSw;(try dsimp only at hSw);go_simp;try with_reducible rfl)
    simp only [List.getElem_toArray,List.getElem_cons_zero,List.getElem_cons_succ,Act.put,List.setIfInBounds_toArray,List.set_cons_zero,List.set_cons_succ]
    refine wpAnyH_take (i:=3) (v:= ?_) rfl (by kernel_rfl) (by kernel_rfl) (by kernel_rfl) (fun _ _ _ h=>h) (Or.inl ⟨by rfl,?_⟩) hHeld ?_
    rotate_left
    ·(intro w hSw;(try dsimp only at hSw);go_simp;try with_reducible rfl)
    simp only [List.getElem_toArray,List.getElem_cons_zero,List.getElem_cons_succ,Act.put,List.setIfInBounds_toArray,List.set_cons_zero,List.set_cons_succ]
    refine wpAnyH_ready (rs:=[4]) (by kernel_rfl) (by simp) ?_
    refine AllReadyH.cons rfl (fun K hK=> ?_) AllReadyH.nil
    go_simp
    refine(words_any wd2 _ x.words HWd.out (fun b hb=>by have hb:b<xb:=hb;omega) (by have:=Hwn.out;omega)).mono ?_
    rintro e w8 ⟨r8,rfl,ho8,hb8⟩
    obtain⟨ba_,bc_,hbf⟩:=ho8.form
    subst hbf
    have HO8:=Lib.hid ho8
    have HD8:=Lib.hid (HDd.out.belowW hb8)
    have hz8:=hb8.size
    refine hK.out _ _ ⟨(hb8.cell (p:=⟨ib,13,none⟩) hid2).trans hHeld.1,(hb8.cell (p:=⟨xb,9,none⟩) hzd).trans hHeld.2⟩ (fun hHeld=> ?_)
    clear hK K ho8 hb8
    try simp only [List.getElem_toArray,List.getElem_cons_zero,List.getElem_cons_succ,Act.put,List.setIfInBounds_toArray,List.set_cons_zero,List.set_cons_succ]
    refine wpAnyH_ready (rs:=[5]) (by kernel_rfl) (by simp) ?_
    refine AllReadyH.cons rfl (fun K hK=> ?_) AllReadyH.nil
    rw [if_pos (by rfl)]
    simp only [List.getElem_toArray,List.getElem_cons_succ,List.getElem_cons_zero]
    have hB8:=HD8.out.hB
    have Hwl2:=Lib.hid (wordsL_len x.words)
    refine wp_appendsB (B:=Bd) (E:=fun b=>b<Bd) plain_byte 42 (.int .u8 0) 1 Try.underlying42 info_byte rfl (.tmp 159) (.tmp 162) (by rfl) (by rfl) HD8.out.tt (fun b hb=>by have hb:b<Bd:=hb;omega) _ (wordsL x.words) (by rfl) HO8.out.lb (by rw [Htl.out,Hwl2.out];have:=Hwn.out;omega) (by rw [Htl.out,Hwl2.out];have:=Hwn.out;omega) hB8 ?_
    rintro t7 w7 ho7 hs7 hn7
    obtain⟨tb_,td_,ht7⟩:=ho7.form
    obtain⟨tl7,htl7⟩:∃ tl7,tl7=(wordsL BL++wordsL x.words).length:=⟨_,rfl⟩
    rw [← htl7]at ht7
    subst ht7
    clear htl7
    have hne:∀ b,b<Bd→(Value.slice ta_ (wordsL BL).length tc_).ownBlock≠some b:=fun b hb e=>by have:=(HD8.out.tt.lt b e).1;omega
    have hI7:w7.heap[ib]? =_:=(hs7.block ib ⟨by omega,hne ib HD8.out.ibl⟩).trans HD8.out.ix
    have HI7:Hid (w7.heap[ib]? =some (.cells #[.string ⟨imx.name.toArray⟩,.int .i64 imx.flags,ivx.segs,ivx.needed,ivx.runPath,ivx.syms,ivx.buckets,ivx.words,.int .i64 imx.shift,ivx.relocs,ivx.slots,ivx.init,ivx.fini,.slice ta_ (wordsL BL).length tc_,.int .i64 imx.tlsSize] 44 (0,0))):=Lib.hid hI7
    have HD9:=Lib.hid (HD8.out.growT ho7 hs7 hn7)
    rw [← HB3.out,← HD3.out]at HD9
    have hnx:(Value.slice ta_ (wordsL BL).length tc_).ownBlock≠some xb:=fun e=>Hox.out xb e rfl
    refine hK.out _ _ ⟨(hs7.cell (p:=⟨ib,13,none⟩) ⟨by show ib<_;omega,hne ib HD8.out.ibl⟩).trans hHeld.1,(hs7.cell (p:=⟨xb,9,none⟩) ⟨by show xb<_;omega,hnx⟩).trans hHeld.2⟩ (fun hHeld=> ?_)
    clear hK K ho7 hs7 hn7 hne hI7 hnx
    try simp only [List.getElem_toArray,List.getElem_cons_zero,List.getElem_cons_succ,Act.put,List.setIfInBounds_toArray,List.set_cons_zero,List.set_cons_succ]
    refine wpAnyH_done (by kernel_rfl) ?_ _
    simp only [phaseQ]
    clear hHeld
    have i13:w7.cell? ⟨ib,13,none⟩=some (.slice ta_ (wordsL BL).length tc_):=by rw [Lib.cell_of_heap HI7.out];rfl
    have f13:w7.frozen? ⟨ib,13,none⟩=false:=Lib.frozen_of_heap HI7.out 13
    go_wp2
    go_roundw
    case rel=>exact⟨k+1,by go_num,by omega,_,HD9.out⟩
    case measure=>simp [intOf];omega
   ·have hkb:(x.sym.kind==3)=false:=by simp [hkd]
    have HD3:Hid (List.replicate (nc+nj) 0++dataL (s.vars.take (k+1))=DL++x.words):=Lib.hid (by rw [HDn2.out,if_neg hkd])
    have HB3:Hid (wordsL (blockT (s.vars.take (k+1)))=wordsL BL):=Lib.hid (by rw [HBn.out,if_neg hkd,List.append_nil])
    clear hkd hfl
    have HLx:=Lib.hid ((HDa.out.step.block lb ⟨by omega,by omega⟩).trans HC.out.lx)
    have l2:wa.cell? ⟨lb,2,none⟩=some (.slice va nv vc):=by rw [Lib.cell_of_heap HLx.out,← Hvf.out];rfl
    obtain⟨da_,dc_,hdf⟩:=HDa.out.dd.form
    subst hdf
    have hB8:=HDa.out.hB
    have HOd:=Lib.hid HDa.out.dd
    have HWc:Hid (LB kInt (·<xb) wa (.slice wa_ wn wc_) x.words):=Lib.hid HWb.out
    go_wp2_with (at_builtin;go_loud (refine wpList_appendsK (B:=Bd) (E:=fun b=>b<Bd) (v:=.slice da_ DL.length dc_) (l:=DL) plain_int 41 _ 8 Try.underlying41 info_intB rfl rfl (.tmp 170) (.tmp 172) rfl rfl HOd.out (fun b hb=>Nat.lt_of_lt_of_le hb hB8) (.slice wa_ wn wc_) x.words rfl HWc.out (by have:=Hwn.out;omega) (by have:=Hwn.out;omega) hB8 ?_))
    intro d7 w7 ho7 hs7 hn7
    have HD9:=Lib.hid (HDa.out.growD ho7 hs7 hn7)
    rw [← HB3.out,← HD3.out]at HD9
    clear ho7 hs7 hn7 l2 x3 x9
    go_wp2
    go_roundw
    case rel=>exact⟨k+1,by go_num,by omega,tv,HD9.out⟩
    case measure=>simp [intOf];omega
  ·have HE:Hid (DatM Bd ib w5 wr u11 tv (dataT s) (wordsL (blockT s.vars)) ivx imx):=Lib.hid (by
    have h:=HD.out
    rw [List.take_of_length_le (by have:=Hnv.out;omega)]at h
    rw [HQ.out];exact h)
   go_wp2_with fail
   exact HK.out _ wr u11 tv Bd ⟨by kernel_rfl,rfl,(by kernel_rfl),(by kernel_rfl),(by kernel_rfl),(by kernel_rfl),(by kernel_rfl),(by kernel_rfl),(by kernel_rfl),trivial⟩ HE.out hBd2
end Go.Proofs.Ytpomdoliblilfaa
