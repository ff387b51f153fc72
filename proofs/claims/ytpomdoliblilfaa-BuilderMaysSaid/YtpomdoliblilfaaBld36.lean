/- Lemmas. -/
import Derived.Test.YtpomdoliblilfaaBld35
import Derived.Deep.DeepCutAuto
namespace Go.Proofs.Ytpomdoliblilfaa
set_option linter.unusedVariables false
set_option linter.unusedSimpArgs false
open Go.RowKit
theorem insts_plan (s:SpecL):(instsQ s).1=placedQ s∧∀ l∈s.lines,LineIn (placedQ s) l:=by
 have h:∀ l∈s.lines,LineIn (placedQ s) l:=fun l hl=>((check_in s).lines l hl).bare (by
  unfold placedQ;rw [symsL_bare,(fini_plan s).1]) (fini_plan s).2.1 (fini_plan s).2.2
 refine⟨?_,h⟩
 unfold instsQ instsL
 exact(lowers_same (weak:=s.weak) (y:=layL s (checkL s)) (p:=placedQ s) s.lines [] h).1
theorem placed_sz {s:SpecL} (hfew:FewL s):(placedQ s).sz≤40000∧(finiQ s).1.sz≤40000:=by
 have h:=check_sz hfew
 obtain⟨e1,e2,e3⟩:=fini_plan s
 have e4:(finiQ s).1.sz=(checkL s).sz:=by unfold PlanL.sz;rw [e1,e2,e3]
 have e5:(placedQ s).sz=(finiQ s).1.sz:=by unfold PlanL.sz placedQ;simp only [symsL_len]
 omega
theorem insts_len {s:SpecL} (hfew:FewL s):(instsQ s).2.length≤200000:=by
 obtain⟨h1,h2⟩:=insts_plan s
 have h3:=lowers_same (weak:=s.weak) (y:=layL s (checkL s)) (p:=placedQ s) s.lines [] h2
 have h4:=linesLen_bd s.lines
 have h5:=hfew.lines
 have h6:=(placed_sz hfew).1
 have h7:=(stubs_at (layL s (checkL s)).plt (placedQ s).jumps.length 0 (lowersL s.weak (layL s (checkL s)) s.lines (placedQ s,[])).2).1
 have e:(instsQ s).2=stubsL (layL s (checkL s)).plt 0 (placedQ s).jumps.length (lowersL s.weak (layL s (checkL s)) s.lines (placedQ s,[])).2:=by
  unfold instsQ instsL
  simp only [h3.1]
 rw [e,h7]
 have h8:=h3.2
 simp only [List.length_nil]at h8
 unfold PlanL.sz at h6
 omega
structure BSt2 (w:World) (sv:SpecV) (s:SpecL) (wc:World) (own:Int) (v:PlanV) (fv vv:Value) (lb ib:Nat) (ivx:ImgV) (imx:ImgL) (iv:ImgV) (im:ImgL) (A:Nat→Prop):Prop where
 plan:PlanM w.heap.size (w.heap.size+2) wc sv s own v (placedQ s)
 spec:SpecM (·<w.heap.size) w sv s
 low:Below w.heap.size w wc
 sx:wc.heap[w.heap.size]? =some (.cells #[.string ⟨s.name.toArray⟩,.int .i64 s.flags,sv.needed,sv.runPath,sv.funcs,sv.vars,sv.weak,sv.init,sv.fini] 28 (0,0))
 rx:wc.heap[w.heap.size+1]? =some (.cells #[.string ⟨#[]⟩,.int .i64 0,.slice none 0 0,.slice none 0 0,.slice none 0 0,.slice none 0 0,.slice none 0 0,.slice none 0 0,.int .i64 0,.slice none 0 0,.slice none 0 0,.slice none 0 0,.slice none 0 0,.slice none 0 0,.int .i64 0] 44 (0,0))
 vI:¬ v.has ib
 vR:¬ v.has (w.heap.size+1)
 h0:w.heap.size+2<lb∧lb<ib
 ibl:ib<wc.heap.size
 lx:wc.heap[lb]? =some (.cells (layCells (w.heap.size+2) fv vv ⟨(layL s (checkL s)).stubs,(layL s (checkL s)).got,(layL s (checkL s)).plt,(layL s (checkL s)).stubs+24*(checkL s).jumps.length,(layL s (checkL s)).data,(layL s (checkL s)).tls⟩).toArray 83 (0,0))
 vl:LB kInt (·<lb) wc vv (layL s (checkL s)).vars
 fl:∃ fa fc,fv=.slice fa (layL s (checkL s)).funcs.length fc
 ix:wc.heap[ib]? =some (.cells (imgCells ivx imx) 44 (0,0))
 img:ImgM A wc iv im
 hA:∀ b,A b→lb<b∧b<wc.heap.size∧b≠ib
section
variable {w : World} {sv : SpecV} {s : SpecL} {wc w' : World} {own : Int} {v : PlanV} {fv vv : Value} {lb ib : Nat} {ivx iv ivx' iv' : ImgV} {imx im imx' im' : ImgL} {A A' : Nat → Prop}
theorem BSt2.goX (h:BSt2 w sv s wc own v fv vv lb ib ivx imx iv im A) {G:Nat→Prop} (hG:∀ b,G b→lb<b∧¬ v.has b) (hs:Step (fun b=>b<wc.heap.size∧b≠ib∧¬ G b) wc w') (hx:w'.heap[ib]? =some (.cells (imgCells ivx' imx') 44 (0,0))) (hi:ImgM A' w' iv' im') (hA:∀ b,A' b→lb<b∧b<w'.heap.size∧b≠ib):BSt2 w sv s w' own v fv vv lb ib ivx' imx' iv' im' A':=by
 have h0:=h.h0
 have hl:=h.ibl
 have hz:=hs.size
 have hpl:=h.plan.lt
 have nG:∀ b,b≤lb→¬ G b:=fun b hb hg=>by have:=(hG b hg).1;omega
 refine⟨⟨(hs.block _ ⟨hpl,by omega,nG _ (by omega)⟩).trans h.plan.ex,h.plan.base,?_,?_,?_⟩,h.spec,?_,?_,?_,h.vI,h.vR,h.h0,by omega,?_,?_,h.fl,hx,hi,hA⟩
 ·exact h.plan.syms.flat_keep flat_sym (fun g hg=>hs.block g ⟨(h.plan.syms.lt g hg).2,fun e=>h.vI (Or.inl (e ▸ hg)),fun hh=>(hG g hh).2 (Or.inl hg)⟩)
 ·exact h.plan.cells.flat_keep flat_cell (fun g hg=>hs.block g ⟨(h.plan.cells.lt g hg).2,fun e=>h.vI (Or.inr (Or.inl (e ▸ hg))),fun hh=>(hG g hh).2 (Or.inr (Or.inl hg))⟩)
 ·exact h.plan.jumps.flat_keep flat_int (fun g hg=>hs.block g ⟨(h.plan.jumps.lt g hg).2,fun e=>h.vI (Or.inr (Or.inr (e ▸ hg))),fun hh=>(hG g hh).2 (Or.inr (Or.inr hg))⟩)
 ·exact h.low.trans ((hs.imp (S':=(·<w.heap.size)) (fun b hb=>by have hb:b<w.heap.size:=hb;exact⟨by omega,by omega,nG b (by omega)⟩)).below)
 ·exact(hs.block _ ⟨by omega,by omega,nG _ (by omega)⟩).trans h.sx
 ·exact(hs.block _ ⟨by omega,by omega,nG _ (by omega)⟩).trans h.rx
 ·exact(hs.block _ ⟨by omega,by omega,nG _ (Nat.le_refl _)⟩).trans h.lx
 ·exact h.vl.keeps (fun b hb=>hs.block b (by have hb:b<lb:=hb;exact⟨by omega,by omega,nG b (by omega)⟩))
theorem BSt2.go (h:BSt2 w sv s wc own v fv vv lb ib ivx imx iv im A) (hs:Step (fun b=>b<wc.heap.size∧b≠ib) wc w') (hx:w'.heap[ib]? =some (.cells (imgCells ivx' imx') 44 (0,0))) (hi:ImgM A' w' iv' im') (hA:∀ b,A' b→lb<b∧b<w'.heap.size∧b≠ib):BSt2 w sv s w' own v fv vv lb ib ivx' imx' iv' im' A':=
 h.goX (G:=fun _=>False) (fun _ h=>h.elim) (hs.imp (fun b hb=>⟨hb.1,hb.2.1⟩)) hx hi hA
theorem BSt2.imgStep (h:BSt2 w sv s wc own v fv vv lb ib ivx imx iv im A) (hs:Step (fun b=>b<wc.heap.size∧b≠ib) wc w'):ImgM A w' iv im:=
 h.img.keeps (fun b hb=>hs.block b (h.hA b hb).2)
theorem BSt2.hA' (h:BSt2 w sv s wc own v fv vv lb ib ivx imx iv im A) (hz:wc.heap.size≤w'.heap.size):∀ b,A b→lb<b∧b<w'.heap.size∧b≠ib:=fun b hb=>by
 have:=h.hA b hb;exact⟨this.1,by omega,this.2.2⟩
theorem BSt2.belowW (h:BSt2 w sv s wc own v fv vv lb ib ivx imx iv im A) (hb:Below wc.heap.size wc w'):BSt2 w sv s w' own v fv vv lb ib ivx imx iv im A:=by
 have hs:Step (fun b=>b<wc.heap.size∧b≠ib) wc w':=(Step.of_below hb).imp (fun b hb=>hb.1)
 exact h.go hs ((hb.block ib h.ibl).trans h.ix) (h.imgStep hs) (h.hA' hb.size)
theorem BSt2.specAt (h:BSt2 w sv s wc own v fv vv lb ib ivx imx iv im A):SpecM (·<w.heap.size) wc sv s:=h.spec.keeps (.of_below h.low)
end
set_option maxHeartbeats 64000000 in
set_option maxRecDepth 100000 in
theorem bt6 {w:World} {sv:SpecV} {s:SpecL} {a:Act} {w5:World} {own:Int} {v:PlanV} {fv vv:Value} {L0 lb ib:Nat} {iv:ImgV} {im:ImgL} (hF:bFr [(1,.pointer (some ⟨w.heap.size,0,none⟩)),(2,.pointer (some ⟨w.heap.size+1,0,none⟩)),(3,.int .i64 0),(4,.pointer (some ⟨w.heap.size+2,0,none⟩)),(5,.pointer (some ⟨lb,0,none⟩)),(6,.pointer (some ⟨ib,0,none⟩))] a) (hC:BSt w sv s w5 own v (finiQ s).1 fv vv L0 lb ib iv im) (hfew:FewL s) (hso:Sound s)
  (hK:(instsQ s).2.all instB=true→∀ a' wc v' tx N1,bFr [(1,.pointer (some ⟨w.heap.size,0,none⟩)),(2,.pointer (some ⟨w.heap.size+1,0,none⟩)),(3,.int .i64 0),(4,.pointer (some ⟨w.heap.size+2,0,none⟩)),(5,.pointer (some ⟨lb,0,none⟩)),(6,.pointer (some ⟨ib,0,none⟩)),(9,tx)] a'→BSt2 w sv s wc own v' fv vv lb ib iv im iv im (fun b=>lb<b∧b<N1∧b≠ib)→(∀ b,v'.has b→b<N1)→OwnK 5 kByte N1 (fun _=>False) wc tx (codeL (instsQ s).2)→ib<N1→N1≤wc.heap.size→(bRest Try.f10 14).wp Try.prog (bodyPost Try.prog Try.f10 (BuildPost w s)) a' wc):(bRest Try.f10 11).wp Try.prog (bodyPost Try.prog Try.f10 (BuildPost w s)) a w5:=by
 have HK:=Lib.hid hK
 have HC:=Lib.hid hC
 have Hso:=Lib.hid hso
 have hib:=hC.ibl
 have h0:=hC.h0
 have hbd:=lay_bd hfew (check_sz hfew)
 have Hbd:=Lib.hid hbd
 have Hil:=Lib.hid (insts_len hfew)
 have hps:=placed_sz hfew
 obtain⟨fa,fc,hff⟩:=hC.fl.form
 obtain⟨va,vc,hvf⟩:=hC.vl.form
 have hks:∀ b,(L0≤b∧b<lb)→Kept (w.heap.size+2) v w5 b:=fun b hb=>hC.keptL hb.1 (by omega)
 have HSyms:=Lib.hid (symbols_any (y:=⟨(layL s (checkL s)).stubs,(layL s (checkL s)).got,(layL s (checkL s)).plt,(layL s (checkL s)).stubs+24*(checkL s).jumps.length,(layL s (checkL s)).data,(layL s (checkL s)).tls⟩) (layL s (checkL s)) rfl hC.plan hC.specAt (by omega) (hC.fl.imp hks) (hC.vl.imp hks) hbd.funcs hbd.vars (by rw [(fini_plan s).1];exact check_syms_len s) hbd.funcsR hbd.varsR hfew.funcs hfew.vars hfew.words (by have:=hbd.stubs;show 0≤(layL s (checkL s)).stubs∧(layL s (checkL s)).stubs≤25000000;omega) (by omega))
 have HIns:Hid (∀ wx,PlanM w.heap.size (w.heap.size+2) wx sv s own v (placedQ s)→SpecM (·<w.heap.size) wx sv s→w.heap.size≤wx.heap.size→Calls Try.prog 21 #[.agg (layCells (w.heap.size+2) fv vv ⟨(layL s (checkL s)).stubs,(layL s (checkL s)).got,(layL s (checkL s)).plt,(layL s (checkL s)).stubs+24*(checkL s).jumps.length,(layL s (checkL s)).data,(layL s (checkL s)).tls⟩).toArray] wx (InsPost w.heap.size (w.heap.size+2) sv s own v wx (placedQ s) (instsQ s).2)):=Lib.hid (fun wx hM hS hz=>
  insts_any fa _ fc va _ vc hff hvf (layL s (checkL s)) ⟨rfl,rfl,rfl⟩ hM hS hz (insts_plan s).2 hfew.funcs hfew.lines (by omega) (by have:=hbd.got;show 0≤(layL s (checkL s)).got∧(layL s (checkL s)).got≤25000000;omega) (by have:=hbd.stubs;show 0≤(layL s (checkL s)).stubs∧(layL s (checkL s)).stubs≤25000000;omega) (by have:=hbd.plt;show 0≤(layL s (checkL s)).plt∧(layL s (checkL s)).plt≤50000000;omega))
 have Hff:=Lib.hid hff
 have HBe:=Lib.hid (build_eq s)
 have Hlx:=Lib.hid hC.lx
 subst hff hvf
 have HXl:Hid (w5.heap[lb]? =some (.cells #[.pointer (some ⟨w.heap.size+2,0,none⟩),.slice fa (layL s (checkL s)).funcs.length fc,.slice va (layL s (checkL s)).vars.length vc,.int .i64 (layL s (checkL s)).stubs,.int .i64 (layL s (checkL s)).got,.int .i64 (layL s (checkL s)).plt,.int .i64 0,.int .i64 ((layL s (checkL s)).stubs+24*(checkL s).jumps.length),.int .i64 (layL s (checkL s)).data,.int .i64 (layL s (checkL s)).tls] 83 (0,0))):=Lib.hid Hlx.out
 clear hC hK hfew hso hbd hks hps Hlx
 unfold layCells at HSyms HIns
 have e11:bRest Try.f10 11=.seq (bCode Try.f10 11) (bRest Try.f10 12):=bd_seq _ 11 (by kernel_rfl)
 have e12:bRest Try.f10 12=.seq (bCode Try.f10 12) (bRest Try.f10 13):=bd_seq _ 12 (by kernel_rfl)
 have e13:bRest Try.f10 13=.seq (bCode Try.f10 13) (bRest Try.f10 14):=bd_seq _ 13 (by kernel_rfl)
 rw [e11,e12,e13]
 clear e11 e12 e13
 apply bFr.elim hF
 clear hF
 intro V0 V1 V2 V3 V4 V5 V6 V7 V8 V9 V10 V11 V12 V13 V14 V15 V16 V17 V18 V19 V20 V21 V22 V23 V24 V25 V26 V27 V28 V29 V30 V31 V32 V33 V34 V35 V36 V37 V38 V39
  V40 V41 V42 V43 V44 V45 V46 V47 V48 V49 V50 V51 V52 V53 V54 V55 V56 V57 V58 V59 V60 V61 V62 V63 V64 V65 V66 V67 V68 V69 V70 V71 V72 V73 V74 V75 V76 V77 V78 V79
  V80 V81 V82 V83 V84 V85 V86 V87 V88 V89 V90 V91 V92 V93 V94 V95 V96 V97 V98 V99 V100 V101 V102 V103 V104 V105 V106 V107 V108 V109 V110 V111 V112 V113 V114 V115 V116 V117 V118 V119
  V120 V121 V122 V123 V124 V125 V126 V127 V128 V129 V130 V131 V132 V133 V134 V135 V136 V137 V138 V139 V140 V141 V142 V143 V144 V145 V146 V147 V148 V149 V150 V151 V152 V153 V154 V155 V156 V157 V158 V159
  V160 V161 V162 V163 V164 V165 V166 V167 V168 V169 V170 V171 V172 V173 V174 V175 V176 V177 V178 V179 V180 V181 V182 V183 V184 V185 V186 V187 V188 V189 V190 V191 V192 V193 V194 V195 V196 V197 V198 V199
  V200 V201 V202 V203 V204 V205 V206 V207 V208 V209 V210 V211 V212 V213 V214 V215 V216 V217 V218 V219 V220 V221 V222 V223 V224 V225 V226 V227 V228 V229 V230 V231 V232 V233 V234 V235 V236 V237 V238 V239
  V240 V241 V242 V243 V244 V245 V246 hF
 obtain⟨-,-,e1,e2,e3,e4,e5,e6,-⟩:=hF
 replace e1:V1=.pointer (some ⟨w.heap.size,0,none⟩):=e1
 subst e1
 replace e2:V2=.pointer (some ⟨w.heap.size+1,0,none⟩):=e2
 subst e2
 replace e3:V3=.int .i64 0:=e3
 subst e3
 replace e4:V4=.pointer (some ⟨w.heap.size+2,0,none⟩):=e4
 subst e4
 replace e5:V5=.pointer (some ⟨lb,0,none⟩):=e5
 subst e5
 replace e6:V6=.pointer (some ⟨ib,0,none⟩):=e6
 subst e6
 conv in bCode _ 11=>whnf
 conv in bCode _ 12=>whnf
 conv in bCode _ 13=>whnf
 have l0:=cells_row HXl.out 0 _ rfl
 have l1:=cells_row HXl.out 1 _ rfl
 have l2:=cells_row HXl.out 2 _ rfl
 have l3:=cells_row HXl.out 3 _ rfl
 have l4:=cells_row HXl.out 4 _ rfl
 have l5:=cells_row HXl.out 5 _ rfl
 have l6:=cells_row HXl.out 6 _ rfl
 have l7:=cells_row HXl.out 7 _ rfl
 have l8:=cells_row HXl.out 8 _ rfl
 have l9:=cells_row HXl.out 9 _ rfl
 go_wp2_with fail
 refine HSyms.out.mono ?_
 rintro e w6 ⟨rfl,hM6,hs6⟩
 have HS6:Hid (BSt w sv s w6 own v (placedQ s) _ _ L0 lb ib iv im):=Lib.hid (HC.out.goP (w':=w6) hM6 (hs6.step.imp (fun b hb=>⟨hb.1,hb.2.2.1,hb.2.2.2⟩)) ((hs6.block (HC.out.keptL (by omega) hib)).trans HC.out.ix) (HC.out.imgStepP (hs6.step.imp (fun b hb=>⟨hb.1,hb.2.2.1,hb.2.2.2⟩))))
 have HX6:Hid (w6.heap[lb]? =some (.cells #[.pointer (some ⟨w.heap.size+2,0,none⟩),.slice fa (layL s (checkL s)).funcs.length fc,.slice va (layL s (checkL s)).vars.length vc,.int .i64 (layL s (checkL s)).stubs,.int .i64 (layL s (checkL s)).got,.int .i64 (layL s (checkL s)).plt,.int .i64 0,.int .i64 ((layL s (checkL s)).stubs+24*(checkL s).jumps.length),.int .i64 (layL s (checkL s)).data,.int .i64 (layL s (checkL s)).tls] 83 (0,0))):=Lib.hid HS6.out.lx
 clear hM6 hs6 l0 l1 l2 l3 l4 l5 l6 l7 l8 l9 HSyms HC HXl
 have l0:=cells_row HX6.out 0 _ rfl
 have l1:=cells_row HX6.out 1 _ rfl
 have l2:=cells_row HX6.out 2 _ rfl
 have l3:=cells_row HX6.out 3 _ rfl
 have l4:=cells_row HX6.out 4 _ rfl
 have l5:=cells_row HX6.out 5 _ rfl
 have l6:=cells_row HX6.out 6 _ rfl
 have l7:=cells_row HX6.out 7 _ rfl
 have l8:=cells_row HX6.out 8 _ rfl
 have l9:=cells_row HX6.out 9 _ rfl
 have hib6:=HS6.out.ibl
 have HIn6:=Lib.hid (HIns.out w6 HS6.out.plan HS6.out.specAt (by omega))
 clear HIns
 go_wp2_with fail
 refine HIn6.out.mono ?_
 rintro e w7 ⟨v7,r7,rfl,hM7,hs7,ho7,hk7⟩
 have hki:=HS6.out.keptL (b:=ib) (by omega) hib6
 have hkl:=HS6.out.keptL (b:=lb) (by omega) (by omega)
 have hz7:=hs7.step.size
 have nl:∀ b,L0≤b→¬ v.has b:=fun b hb hh=>by have:=HS6.out.vL b hh;omega
 have nb:∀ b,b<w.heap.size→¬ v.has b:=fun b hb hh=>by have:=(HS6.out.plan.has_lt hh).1;omega
 have H7:Hid (BSt2 w sv s w7 own v7 _ _ lb ib iv im iv im (fun b=>lb<b∧b<w7.heap.size∧b≠ib)):=Lib.hid ⟨hM7,HS6.out.spec,HS6.out.low.trans ((hs7.step.imp (S':=(·<w.heap.size)) (fun b hb=>⟨by have hb:b<w.heap.size:=hb;omega,by have hb:b<w.heap.size:=hb;omega,nb b hb⟩)).below),(hs7.block HS6.out.keptX).trans HS6.out.sx,(hs7.block HS6.out.keptR).trans HS6.out.rx,(hs7.kept hki).no,(hs7.kept HS6.out.keptR).no,⟨by omega,by omega⟩,by omega,(hs7.block hkl).trans HS6.out.lx,(HS6.out.vl.keeps (fun b hb=>hs7.block (HS6.out.keptL hb.1 (by omega)))).imp (fun b hb=>hb.2),⟨fa,fc,rfl⟩,(hs7.block hki).trans HS6.out.ix,(HS6.out.img.keeps (fun b hb=>hs7.block (HS6.out.keptL (by omega) hb.2.1))).imp (fun b hb=>⟨by omega,by omega,hb.2.2⟩),fun b hb=>hb⟩
 have HV7:Hid (∀ b,v7.has b→b<w7.heap.size):=Lib.hid (fun b hb=>(hM7.has_lt hb).2.1)
 obtain⟨ra_,rc_,hrf⟩:=ho7.form
 have HO7:=Lib.hid ho7
 subst hrf
 have HEnc:=Lib.hid (encode_any w7 _ (instsQ s).2 ho7.lb (fun b hb=>hb.1) (by have:=Hil.out;omega))
 clear hM7 hs7 ho7 hk7 hki hkl nl nb l0 l1 l2 l3 l4 l5 l6 l7 l8 l9 HIn6
 obtain⟨ins,hins⟩:∃ ins,ins=(instsQ s).2:=⟨_,rfl⟩
 have Hins:=Lib.hid hins
 rw [← hins]at HEnc HK HBe HO7 ⊢
 clear hins
 go_wp2_with fail
 refine HEnc.out.mono ?_
 rintro e w8 ⟨r8,rfl,hb8,ho8⟩
 have H8:=Lib.hid (H7.out.belowW hb8)
 have Ho8:=Lib.hid ho8
 have hz8:=hb8.size
 clear hb8 ho8 HEnc H7
 by_cases hal:ins.all instB=true
 ·have hif:(if ins.all instB=true then (0:Int) else 40)=0:=if_pos hal
  rw [hif]
  have Hal:=Lib.hid hal
  clear hal hif
  go_wp2_with fail
  exact HK.out Hal.out _ w8 v7 r8 w7.heap.size ⟨by kernel_rfl,rfl,(by kernel_rfl),(by kernel_rfl),(by kernel_rfl),(by kernel_rfl),(by kernel_rfl),(by kernel_rfl),(by kernel_rfl),trivial⟩ H8.out HV7.out (Ho8.out Hal.out) (by omega) hz8
 ·have hif:(if ins.all instB=true then (0:Int) else 40)=40:=if_neg hal
  rw [hif]
  have HE:Hid (buildL s=(imgNone,101)):=Lib.hid (by rw [HBe.out,if_neg Hso.out.lens,if_neg (by rw [Hso.out.check];exact fun h=>h rfl),if_neg (by rw [Hso.out.fini];exact fun h=>h rfl),if_neg Hso.out.sizes,if_pos (by simpa using hal)])
  clear hal hif
  go_wp2_with (refine wpList_store_row rfl 44 (.tmp 2) (.tmp 121) rfl (w.heap.size+1) #[.string ⟨#[]⟩,.int .i64 0,.slice none 0 0,.slice none 0 0,.slice none 0 0,.slice none 0 0,.slice none 0 0,.slice none 0 0,.int .i64 0,.slice none 0 0,.slice none 0 0,.slice none 0 0,.slice none 0 0,.slice none 0 0,.int .i64 0] rfl rfl _ _ H8.out.rx (by kernel_rfl) rfl (by simp [Value.oneCell']) ?_)
  go_wp2_with fail
  have FR:=Lib.hid (setRow_heap _ (w.heap.size+1) _ #[.string ⟨#[]⟩,.int .i64 0,.slice none 0 0,.slice none 0 0,.slice none 0 0,.slice none 0 0,.slice none 0 0,.slice none 0 0,.int .i64 0,.slice none 0 0,.slice none 0 0,.slice none 0 0,.slice none 0 0,.slice none 0 0,.int .i64 0] _ _ H8.out.rx)
  refine bodyPost_ret (results_row_tmp rfl _ _ (w.heap.size+1) _ _ _ _ rfl FR.out Try.underlying44 rfl (by kernel_rfl)) rfl ?_
  exact build_none HE.out (below_setRow H8.out.low _ _ (by omega))
end Go.Proofs.Ytpomdoliblilfaa
namespace Go.Proofs.Ytpomdoliblilfaa
set_option linter.unusedVariables false
set_option linter.unusedSimpArgs false
open Go.RowKit
theorem info_segB:(Try.prog.info? 60).map (fun i=>(i.zero,i.size,i.bytes))=some (some (.agg #[.int .i64 0,.int .i64 0,.slice none 0 0,.int .i64 0]),4,48):=by kernel_rfl
theorem codeL_small {s:SpecL} (hfew:FewL s):(codeL (instsQ s).2).length≤1600000:=by
 rw [codeL_len];have:=insts_len hfew;omega
def segC (s:SpecL):SegL:=⟨0,max 1 (codeL (instsQ s).2).length,codeL (instsQ s).2,5⟩
set_option maxHeartbeats 64000000 in
set_option maxRecDepth 100000 in
theorem bt7 {w:World} {sv:SpecV} {s:SpecL} {a:Act} {w5:World} {own:Int} {v:PlanV} {fv vv tx:Value} {lb ib N1:Nat} {ivx iv:ImgV} {imx im:ImgL} {A:Nat→Prop} (hF:bFr [(1,.pointer (some ⟨w.heap.size,0,none⟩)),(2,.pointer (some ⟨w.heap.size+1,0,none⟩)),(3,.int .i64 0),(4,.pointer (some ⟨w.heap.size+2,0,none⟩)),(5,.pointer (some ⟨lb,0,none⟩)),(6,.pointer (some ⟨ib,0,none⟩)),(9,tx)] a) (hC:BSt2 w sv s w5 own v fv vv lb ib ivx imx iv im A) (hfew:FewL s) (hT:OwnK 5 kByte N1 (fun _=>False) w5 tx (codeL (instsQ s).2)) (hN:ib<N1) (hN2:N1≤w5.heap.size) (hsg:ivx.segs=.slice none 0 0)
  (hK:∀ a' wc u,bFr [(1,.pointer (some ⟨w.heap.size,0,none⟩)),(2,.pointer (some ⟨w.heap.size+1,0,none⟩)),(3,.int .i64 0),(4,.pointer (some ⟨w.heap.size+2,0,none⟩)),(5,.pointer (some ⟨lb,0,none⟩)),(6,.pointer (some ⟨ib,0,none⟩))] a'→BSt2 w sv s wc own v fv vv lb ib {ivx with segs:=u } imx iv im A→w5.heap.size≤wc.heap.size→OwnK 60 kSeg N1 (fun b=>b<N1) wc u [segC s]→(bRest Try.f10 15).wp Try.prog (bodyPost Try.prog Try.f10 (BuildPost w s)) a' wc):(bRest Try.f10 14).wp Try.prog (bodyPost Try.prog Try.f10 (BuildPost w s)) a w5:=by
 have HK:=Lib.hid hK
 have HC:=Lib.hid hC
 have HT:=Lib.hid hT
 have hib:=hC.ibl
 have h0:=hC.h0
 have hcs:=codeL_small hfew
 obtain⟨ta_,tc_,htf⟩:=hT.form
 obtain⟨n,hn⟩:∃ n,n=(codeL (instsQ s).2).length:=⟨_,rfl⟩
 have HX5:Hid (w5.heap[ib]? =some (.cells #[.string ⟨imx.name.toArray⟩,.int .i64 imx.flags,.slice none 0 0,ivx.needed,ivx.runPath,ivx.syms,ivx.buckets,ivx.words,.int .i64 imx.shift,ivx.relocs,ivx.slots,ivx.init,ivx.fini,ivx.tls,.int .i64 imx.tlsSize] 44 (0,0))):=Lib.hid (by have h:=hC.ix;unfold imgCells at h;rwa [hsg]at h)
 rw [← hn]at htf hcs
 subst htf
 obtain⟨x0,hx0⟩:∃ x0,x0=segC s:=⟨_,rfl⟩
 have Hx0:=Lib.hid hx0
 have hxs:x0.size=max 1 (n:Int):=by rw [hx0,hn];rfl
 have Hxx:Hid (x0.at_=0∧x0.perm=5∧x0.bytes=codeL (instsQ s).2):=Lib.hid (by rw [hx0];exact⟨rfl,rfl,rfl⟩)
 rw [← hx0]at HK
 clear hC hK hfew hT hsg hn hx0
 have e14:bRest Try.f10 14=.seq (bCode Try.f10 14) (bRest Try.f10 15):=bd_seq _ 14 (by kernel_rfl)
 rw [e14]
 clear e14
 apply bFr.elim hF
 clear hF
 intro V0 V1 V2 V3 V4 V5 V6 V7 V8 V9 V10 V11 V12 V13 V14 V15 V16 V17 V18 V19 V20 V21 V22 V23 V24 V25 V26 V27 V28 V29 V30 V31 V32 V33 V34 V35 V36 V37 V38 V39
  V40 V41 V42 V43 V44 V45 V46 V47 V48 V49 V50 V51 V52 V53 V54 V55 V56 V57 V58 V59 V60 V61 V62 V63 V64 V65 V66 V67 V68 V69 V70 V71 V72 V73 V74 V75 V76 V77 V78 V79
  V80 V81 V82 V83 V84 V85 V86 V87 V88 V89 V90 V91 V92 V93 V94 V95 V96 V97 V98 V99 V100 V101 V102 V103 V104 V105 V106 V107 V108 V109 V110 V111 V112 V113 V114 V115 V116 V117 V118 V119
  V120 V121 V122 V123 V124 V125 V126 V127 V128 V129 V130 V131 V132 V133 V134 V135 V136 V137 V138 V139 V140 V141 V142 V143 V144 V145 V146 V147 V148 V149 V150 V151 V152 V153 V154 V155 V156 V157 V158 V159
  V160 V161 V162 V163 V164 V165 V166 V167 V168 V169 V170 V171 V172 V173 V174 V175 V176 V177 V178 V179 V180 V181 V182 V183 V184 V185 V186 V187 V188 V189 V190 V191 V192 V193 V194 V195 V196 V197 V198 V199
  V200 V201 V202 V203 V204 V205 V206 V207 V208 V209 V210 V211 V212 V213 V214 V215 V216 V217 V218 V219 V220 V221 V222 V223 V224 V225 V226 V227 V228 V229 V230 V231 V232 V233 V234 V235 V236 V237 V238 V239
  V240 V241 V242 V243 V244 V245 V246 hF
 obtain⟨-,-,e1,e2,e3,e4,e5,e6,e9,-⟩:=hF
 replace e1:V1=.pointer (some ⟨w.heap.size,0,none⟩):=e1
 subst e1
 replace e2:V2=.pointer (some ⟨w.heap.size+1,0,none⟩):=e2
 subst e2
 replace e3:V3=.int .i64 0:=e3
 subst e3
 replace e4:V4=.pointer (some ⟨w.heap.size+2,0,none⟩):=e4
 subst e4
 replace e5:V5=.pointer (some ⟨lb,0,none⟩):=e5
 subst e5
 replace e6:V6=.pointer (some ⟨ib,0,none⟩):=e6
 subst e6
 replace e9:V9=.slice ta_ n tc_:=e9
 subst e9
 conv in bCode _ 14=>whnf
 have i2:w5.cell? ⟨ib,2,none⟩=some (.slice none 0 0):=by rw [Lib.cell_of_heap HX5.out];rfl
 obtain⟨sz,hsz⟩:∃ sz,sz=x0.size:=⟨_,rfl⟩
 rw [← hsz]at hxs
 have Hsz:=Lib.hid hsz
 clear hsz
 have HN0:=Lib.hid ((OwnK.nil 60 kSeg N1 (fun b=>b<N1) w5).alloc (.cells #[.int .i64 0,.int .i64 sz,.slice ta_ n tc_,.int .i64 5] 60 (0,0)))
 have HXb:=Lib.hid ((heap_alloc_old w5 (.cells #[.int .i64 0,.int .i64 sz,.slice ta_ n tc_,.int .i64 5] 60 (0,0)) (r:=ib) hib).trans HX5.out)
 have HXn:=Lib.hid (heap_alloc_new w5 (.cells #[.int .i64 0,.int .i64 sz,.slice ta_ n tc_,.int .i64 5] 60 (0,0)))
 have HTb:=Lib.hid (HT.out.alloc (.cells #[.int .i64 0,.int .i64 sz,.slice ta_ n tc_,.int .i64 5] 60 (0,0)))
 have HSb:=Lib.hid ((Step.refl (fun b=>b<w5.heap.size∧b≠ib) w5).alloc (fun b hb=>hb.1) (.cells #[.int .i64 0,.int .i64 sz,.slice ta_ n tc_,.int .i64 5] 60 (0,0)))
 have Hzb:Hid ((w5.alloc (.cells #[.int .i64 0,.int .i64 sz,.slice ta_ n tc_,.int .i64 5] 60 (0,0))).heap.size=w5.heap.size+1):=Lib.hid (by simp)
 have HRow:Hid (kSeg.R (fun b=>b<(w5.alloc (.cells #[.int .i64 0,.int .i64 sz,.slice ta_ n tc_,.int .i64 5] 60 (0,0))).heap.size∧¬ b<N1∧(Value.slice none 0 0).ownBlock≠some b) (w5.alloc (.cells #[.int .i64 0,.int .i64 sz,.slice ta_ n tc_,.int .i64 5] 60 (0,0))) x0 [.int .i64 0,.int .i64 sz,.slice ta_ n tc_,.int .i64 5]):=Lib.hid ⟨.slice ta_ n tc_,by rw [Hxx.out.1,Hxx.out.2.1,← Hsz.out],by rw [Hxx.out.2.2];exact(OwnK.lb (HTb.out.reE flat_byte (E':=fun b=>b<N1) (fun g hg h=>by have:=(HTb.out.lt g hg).1;omega))).imp (fun b hb=>⟨hb.1,hb.2,by simp [Value.ownBlock]⟩)⟩
 have hE:∀ b,b<N1→b<(w5.alloc (.cells #[.int .i64 0,.int .i64 sz,.slice ta_ n tc_,.int .i64 5] 60 (0,0))).heap.size:=fun b hb=>by rw [Hzb.out];omega
 have HE:=Lib.hid hE
 have HW1:Hid (N1≤(w5.alloc (.cells #[.int .i64 0,.int .i64 sz,.slice ta_ n tc_,.int .i64 5] 60 (0,0))).heap.size):=Lib.hid (by rw [Hzb.out];omega)
 clear hE
 rcases (by omega:¬ (1:Int)<(n:Int)∨(1:Int)<(n:Int))with h1 | h1
 ·obtain rfl:sz=1:=by omega
  clear hxs
  go_wp2_with (at_builtin;go_loud (refine wpList_appendK (K:=kSeg) (v:=.slice none 0 0) (l:=[]) (E:=fun b=>b<N1) (B:=N1) 31 _ 48 Try.underlying31 info_segB rfl (by decide) rfl (.tmp 123) (.tmp 129) rfl 0 rfl rfl HN0.out HE.out w5.heap.size x0 [.int .i64 0,.int .i64 1,.slice ta_ n tc_,.int .i64 5] rfl (cells_row HXn.out) (fun u hu=>by simp only [List.mem_cons,List.not_mem_nil,or_false]at hu;rcases hu with rfl | rfl | rfl | rfl<;>rfl) HRow.out (by decide) (by decide) HW1.out ?_))
  intro g7 c7 w7 ho7 hs7 hg7
  have hs7':Step (fun b=>b<w5.heap.size∧b≠ib) (w5.alloc (.cells #[.int .i64 0,.int .i64 1,.slice ta_ n tc_,.int .i64 5] 60 (0,0))) w7:=hs7.imp (fun b hb=>⟨by first | (rw [Hzb.out];omega) | omega,by simp [Value.ownBlock]⟩)
  have hsI:w7.heap[ib]? =(w5.alloc (.cells #[.int .i64 0,.int .i64 1,.slice ta_ n tc_,.int .i64 5] 60 (0,0))).heap[ib]? :=hs7.block ib ⟨by first | (rw [Hzb.out];omega) | omega,by simp [Value.ownBlock]⟩
  have HX7:=Lib.hid (hsI.trans HXb.out)
  have HO7:=Lib.hid ho7
  have HS7:=Lib.hid (HSb.out.trans hs7')
  have i2:w7.cell? ⟨ib,2,none⟩=some (.slice none 0 0):=by rw [Lib.cell_of_heap HX7.out];rfl
  have f2:w7.frozen? ⟨ib,2,none⟩=false:=Lib.frozen_of_heap HX7.out 2
  clear ho7 hs7 hs7' hsI
  go_wp2_with fail
  have hs9:Step (fun b=>b≠ib) w7 (w7.setCell ⟨ib,2,none⟩ (.slice (some ⟨g7,0,none⟩) 1 c7)):=(Step.refl _ w7).setCell (fun h=>h rfl) _
  have hS:Step (fun b=>b<w5.heap.size∧b≠ib) w5 (w7.setCell ⟨ib,2,none⟩ (.slice (some ⟨g7,0,none⟩) 1 c7)):=HS7.out.trans (hs9.imp (fun b hb=>hb.2))
  exact HK.out _ _ (.slice (some ⟨g7,0,none⟩) 1 c7) ⟨by kernel_rfl,rfl,(by kernel_rfl),(by kernel_rfl),(by kernel_rfl),(by kernel_rfl),(by kernel_rfl),(by kernel_rfl),trivial⟩ (HC.out.go hS (setCell_arr HX7.out 2 _) (HC.out.imgStep hS) (HC.out.hA' hS.size)) hS.size (by simpa using HO7.out.step hs9 (fun b _ hb=>by have hb:¬ b<N1:=hb;omega))
 ·obtain rfl:sz=(n:Int):=by omega
  clear hxs
  go_wp2_with (at_builtin;go_loud (refine wpList_appendK (K:=kSeg) (v:=.slice none 0 0) (l:=[]) (E:=fun b=>b<N1) (B:=N1) 31 _ 48 Try.underlying31 info_segB rfl (by decide) rfl (.tmp 123) (.tmp 129) rfl 0 rfl rfl HN0.out HE.out w5.heap.size x0 [.int .i64 0,.int .i64 (n:Int),.slice ta_ n tc_,.int .i64 5] rfl (cells_row HXn.out) (fun u hu=>by simp only [List.mem_cons,List.not_mem_nil,or_false]at hu;rcases hu with rfl | rfl | rfl | rfl<;>rfl) HRow.out (by decide) (by decide) HW1.out ?_))
  intro g7 c7 w7 ho7 hs7 hg7
  have hs7':Step (fun b=>b<w5.heap.size∧b≠ib) (w5.alloc (.cells #[.int .i64 0,.int .i64 (n:Int),.slice ta_ n tc_,.int .i64 5] 60 (0,0))) w7:=hs7.imp (fun b hb=>⟨by first | (rw [Hzb.out];omega) | omega,by simp [Value.ownBlock]⟩)
  have hsI:w7.heap[ib]? =(w5.alloc (.cells #[.int .i64 0,.int .i64 (n:Int),.slice ta_ n tc_,.int .i64 5] 60 (0,0))).heap[ib]? :=hs7.block ib ⟨by first | (rw [Hzb.out];omega) | omega,by simp [Value.ownBlock]⟩
  have HX7:=Lib.hid (hsI.trans HXb.out)
  have HO7:=Lib.hid ho7
  have HS7:=Lib.hid (HSb.out.trans hs7')
  have i2:w7.cell? ⟨ib,2,none⟩=some (.slice none 0 0):=by rw [Lib.cell_of_heap HX7.out];rfl
  have f2:w7.frozen? ⟨ib,2,none⟩=false:=Lib.frozen_of_heap HX7.out 2
  clear ho7 hs7 hs7' hsI
  go_wp2_with fail
  have hs9:Step (fun b=>b≠ib) w7 (w7.setCell ⟨ib,2,none⟩ (.slice (some ⟨g7,0,none⟩) 1 c7)):=(Step.refl _ w7).setCell (fun h=>h rfl) _
  have hS:Step (fun b=>b<w5.heap.size∧b≠ib) w5 (w7.setCell ⟨ib,2,none⟩ (.slice (some ⟨g7,0,none⟩) 1 c7)):=HS7.out.trans (hs9.imp (fun b hb=>hb.2))
  exact HK.out _ _ (.slice (some ⟨g7,0,none⟩) 1 c7) ⟨by kernel_rfl,rfl,(by kernel_rfl),(by kernel_rfl),(by kernel_rfl),(by kernel_rfl),(by kernel_rfl),(by kernel_rfl),trivial⟩ (HC.out.go hS (setCell_arr HX7.out 2 _) (HC.out.imgStep hS) (HC.out.hA' hS.size)) hS.size (by simpa using HO7.out.step hs9 (fun b _ hb=>by have hb:¬ b<N1:=hb;omega))
end Go.Proofs.Ytpomdoliblilfaa
