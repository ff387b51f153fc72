/- Lemmas. -/
import Derived.Test.YtpomdoliblilfaaBld38
import Derived.Deep.DeepCutAuto
namespace Go.Proofs.Ytpomdoliblilfaa
set_option linter.unusedVariables false
set_option linter.unusedSimpArgs false
open Go.RowKit
def PlacesOk (p:PlanL):Prop:=(∀ c∈p.cells,0≤c.2∧c.2≤(p.syms.length:Int))∧∀ j∈p.jumps,0≤j∧j≤(p.syms.length:Int)
theorem places_more {p q:PlanL} (h:PlacesOk p) (hc:q.cells=p.cells) (hj:q.jumps=p.jumps) (hs:p.syms.length≤q.syms.length):PlacesOk q:=
 ⟨fun c hc'=>by have:=h.1 c (hc ▸ hc');omega,fun j hj'=>by have:=h.2 j (hj ▸ hj');omega⟩
theorem places_asked {weak:List (List UInt8)} {n v:List UInt8} {e:Int} {ks:List Int} {p:PlanL} (h:PlacesOk p):PlacesOk (p.asked weak n v e ks).1∧((p.asked weak n v e ks).2:Int)≤((p.asked weak n v e ks).1.syms.length:Int):=by
 have h1:=(asked_ext weak n v e ks p).syms.length_le
 refine⟨places_more h (asked_cells ..) (asked_jumps ..) h1,?_⟩
 have h2:=asked_find weak n v e ks p
 obtain⟨h3,_⟩:=List.findIdx?_eq_some_iff_getElem.1 h2
 omega
theorem places_cell {u x:Int} {p:PlanL} (h:PlacesOk p) (hx:0≤x∧x≤(p.syms.length:Int)):PlacesOk (p.cell u x).1:=by
 refine⟨fun c hc=> ?_,h.2⟩
 have hc:c∈(placeIn p.cells (u,x)).1:=hc
 show 0≤c.2∧c.2≤(p.syms.length:Int)
 unfold placeIn at hc
 split at hc
 ·exact h.1 c hc
 ·rcases List.mem_append.1 hc with hc | hc
  ·exact h.1 c hc
  ·rcases List.mem_singleton.1 hc with rfl;exact hx
theorem places_jump {x:Int} {p:PlanL} (h:PlacesOk p) (hx:0≤x∧x≤(p.syms.length:Int)):PlacesOk (p.jump x):=by
 refine⟨h.1,fun c hc=> ?_⟩
 have hc:c∈(placeIn p.jumps x).1:=hc
 show 0≤c∧c≤(p.syms.length:Int)
 unfold placeIn at hc
 split at hc
 ·exact h.2 c hc
 ·rcases List.mem_append.1 hc with hc | hc
  ·exact h.2 c hc
  ·rcases List.mem_singleton.1 hc with rfl;exact hx
theorem places_fold {α:Type} {f:PlanL→α→PlanL} (hf:∀ p x,PlacesOk p→PlacesOk (f p x)):∀ (l:List α) (p:PlanL),PlacesOk p→PlacesOk (l.foldl f p)
 | [],_,h=>h
 | x :: l,p,h=>places_fold hf l (f p x) (hf p x h)
theorem refsFrom_jumps (v:VarL):∀ (l:List RefL) (last:Int) (p:PlanL),(refsFrom v last l p).jumps=p.jumps
 | [],_,_=>rfl
 | r :: l,last,p=>by unfold refsFrom;rw [refsFrom_jumps v l];simp
theorem check_places (s:SpecL):PlacesOk (checkL s):=by
 rw [checkL_eq]
 refine places_fold (fun p v h=>places_fold (fun p r h=>(places_asked h).1) _ _ h) _ _ ?_
 unfold PlanL.needs
 refine places_fold (fun p l h=> ?_) _ _ (places_fold (fun p l h=> ?_) _ _ (places_fold (fun p l h=> ?_) _ _ ?_))
 ·unfold PlanL.addressed
  split
  ·have:=places_asked (weak:=s.weak) (n:=l.name) (v:=l.ver) (e:=101) (ks:=[2,1]) h
   exact places_cell this.1 ⟨by omega,this.2⟩
  ·exact h
 ·unfold PlanL.called
  split
  ·have:=places_asked (weak:=s.weak) (n:=l.name) (v:=l.ver) (e:=101) (ks:=[1]) h
   exact places_jump this.1 ⟨by omega,this.2⟩
  ·split
   ·have:=places_asked (weak:=s.weak) (n:=l.name) (v:=l.ver) (e:=101) (ks:=[3]) h
    exact places_cell (places_cell this.1 ⟨by omega,this.2⟩) ⟨by omega,this.2⟩
   ·split
    ·have:=places_asked (weak:=s.weak) (n:=l.name) (v:=l.ver) (e:=101) (ks:=[3]) h
     exact places_cell this.1 ⟨by omega,this.2⟩
    ·exact h
 ·exact places_more h (by unfold PlanL.line;simp) (by unfold PlanL.line;simp) (by unfold PlanL.line;simp)
 ·have h0:(check2 s).cells=[]∧(check2 s).jumps=[]:=by
   have hv:∀ (l:List VarL) (p:PlanL),(l.foldl (fun p v=>p.var s.flags v) p).cells=p.cells∧(l.foldl (fun p v=>p.var s.flags v) p).jumps=p.jumps:=by
    intro l
    induction l with
    | nil=>intro p;exact⟨rfl,rfl⟩
    | cons v l ih=>intro p;have:=ih (p.var s.flags v);rw [List.foldl_cons];refine⟨this.1.trans ?_,this.2.trans ?_⟩<;>(unfold PlanL.var;first | rw [refsFrom_cells] | rw [refsFrom_jumps])<;>(unfold PlanL.define;simp)
   have hf:∀ (l:List FuncL) (p:PlanL),(l.foldl (fun p f=>p.func f) p).cells=p.cells∧(l.foldl (fun p f=>p.func f) p).jumps=p.jumps:=by
    intro l
    induction l with
    | nil=>intro p;exact⟨rfl,rfl⟩
    | cons v l ih=>intro p;have:=ih (p.func v);rw [List.foldl_cons];refine⟨this.1.trans ?_,this.2.trans ?_⟩<;>(unfold PlanL.func PlanL.define;simp)
   unfold check2 check1
   have h1:=hv s.vars (s.funcs.foldl (fun p f=>p.func f) ((⟨[],[],[],0⟩:PlanL).failIf (decide (s.flags<0)||decide (15<s.flags)) 100))
   have h2:=hf s.funcs ((⟨[],[],[],0⟩:PlanL).failIf (decide (s.flags<0)||decide (15<s.flags)) 100)
   exact⟨h1.1.trans (h2.1.trans (by simp)),h1.2.trans (h2.2.trans (by simp))⟩
  refine⟨fun c hc=> ?_,fun j hj=> ?_⟩
  ·rw [h0.1]at hc;exact absurd hc List.not_mem_nil
  ·rw [h0.2]at hj;exact absurd hj List.not_mem_nil
theorem placed_places {s:SpecL} (hfew:FewL s):(∀ c∈(placedQ s).cells,0≤c.2∧c.2≤40000)∧∀ j∈(placedQ s).jumps,0≤j∧j≤40000:=by
 have h:=check_places s
 have h2:=check_sz hfew
 have e:=fini_plan s
 unfold PlanL.sz at h2
 refine⟨fun c hc=> ?_,fun j hj=> ?_⟩
 ·have hc:c∈(finiQ s).1.cells:=hc
  rw [e.2.1]at hc;have:=h.1 c hc;omega
 ·have hj:j∈(finiQ s).1.jumps:=hj
  rw [e.2.2]at hj;have:=h.2 j hj;omega
theorem SpecM.adds {S:Nat→Prop} {w:World} {sv:SpecV} {s:SpecL} (h:SpecM S w sv s):∀ v∈s.vars,∀ r∈v.refs,In63 r.add:=fun v hv r hr=>by
 obtain⟨a,b,off,cap,_,_,_,hat⟩:=h.vars.at
 obtain⟨i,hi⟩:=List.getElem?_of_mem hv
 obtain⟨_,d,_,hd,_⟩:=hat.var12 i v hi
 obtain⟨a',b',off',cap',_,_,_,hat'⟩:=hd.at
 obtain⟨j,hj⟩:=List.getElem?_of_mem hr
 exact(hat'.ref4 j r hj).1.2.1
theorem placed_vars (s:SpecL):∀ v∈s.vars,VarIn (placedQ s) v:=fun v hv=>((check_in s).vars v hv).bare (by unfold placedQ;rw [symsL_bare,(fini_plan s).1])
def relsQ (s:SpecL):List RelL:=(relsL s (layL s (checkL s)) (placedQ s)).2
theorem relsQ_ok {s:SpecL} {S:Nat→Prop} {w:World} {sv:SpecV} (hfew:FewL s) (hS:SpecM S w sv s) (hck:(checkL s).fault=0):∀ r∈relsQ s,RelOk r:=by
 have hbd:=lay_bd hfew (check_sz hfew)
 have hpl:=(placed_places hfew).1
 have hsz:=(placed_sz hfew).1
 have hrw:=check_refs hck
 have hvw:=(check_zero hck).2.2
 have hadd:=hS.adds
 have hf:=hfew.funcs
 have hv:=hfew.vars
 unfold PlanL.sz at hsz
 unfold relsQ
 rw [rels_eq _ (placed_vars s)]
 obtain⟨y,hy⟩:∃ y,y=layL s (checkL s):=⟨_,rfl⟩
 rw [← hy]at hbd ⊢
 obtain⟨q,hq⟩:∃ q,q=placedQ s:=⟨_,rfl⟩
 rw [← hq]at hpl hsz ⊢
 have hin:∀ v∈s.vars,VarIn q v:=by rw [hq];exact placed_vars s
 have hgot:=hbd.got
 have hc:∀ (l:List (Int × Int)) (k:Nat),k+l.length≤40000→(∀ c∈l,0≤c.2∧c.2≤40000)→∀ r∈cellRels y.got k l,RelOk r:=by
  intro l
  induction l with
  | nil=>intro k _ _ r hr;cases hr
  | cons c l ih=>
   intro k hk hcl r hr
   rw [List.length_cons]at hk
   rcases List.mem_cons.1 hr with rfl | hr
   ·have:=hcl c (List.mem_cons_self ..)
    unfold RelOk
    refine⟨?_,?_,?_⟩
    ·show _≤c.2∧c.2≤_;omega
    ·show _≤y.got+8*(k:Int)∧y.got+8*(k:Int)≤_;omega
    ·show _≤(0:Int)∧(0:Int)≤_;omega
   ·exact ih (k+1) (by omega) (fun c hc=>hcl c (List.mem_cons_of_mem _ hc)) r hr
 have hvr:∀ (l:List VarL) (k:Nat),(∀ v∈l,v∈s.vars)→k+l.length≤2000→∀ r∈varsOut s.weak q s.funcs.length y.vars k l,RelOk r:=by
  intro l
  induction l with
  | nil=>intro k _ _ r hr;cases hr
  | cons v l ih=>
   intro k hl hk r hr
   rw [List.length_cons]at hk
   have ha:0≤y.vars.getD k 0∧y.vars.getD k 0≤100000000:=by
    rw [List.getD_eq_getElem?_getD]
    cases e:y.vars[k]? with
    | none=>exact⟨by simp,by simp⟩
    | some a=>exact hbd.varsR a (List.mem_of_getElem? e)
   have hvm:=hl v (List.mem_cons_self ..)
   unfold varsOut at hr
   rcases List.mem_append.1 hr with hr | hr
   ·unfold varRel at hr
    rcases List.mem_append.1 hr with hr | hr
    ·unfold copyRel at hr
     split at hr
     ·rcases List.mem_singleton.1 hr with rfl
      unfold RelOk
      refine⟨?_,?_,?_⟩
      ·show _≤((s.funcs.length+k:Nat):Int)∧((s.funcs.length+k:Nat):Int)≤_;omega
      ·show _≤y.vars.getD k 0∧y.vars.getD k 0≤_;omega
      ·show _≤(0:Int)∧(0:Int)≤_;omega
     ·cases hr
    ·obtain⟨x,hx,rfl⟩:=List.mem_map.1 hr
     obtain⟨i,hi⟩:=hin v hvm x hx
     have h1:=hrw v hvm x hx
     have h2:=hadd v hvm x hx
     have h3:=hvw v hvm
     obtain⟨h4,_⟩:=List.findIdx?_eq_some_iff_getElem.1 hi
     unfold RelOk refRel
     rw [sym_found hi]
     refine⟨?_,?_,h2⟩
     ·show _≤(i:Int)∧(i:Int)≤_;omega
     ·show _≤y.vars.getD k 0+8*x.word∧y.vars.getD k 0+8*x.word≤_;omega
   ·exact ih (k+1) (fun v hv=>hl v (List.mem_cons_of_mem _ hv)) (by omega) r hr
 intro r hr
 rcases List.mem_append.1 hr with hr | hr
 ·exact hc q.cells 0 (by omega) hpl r hr
 ·exact hvr s.vars 0 (fun v hv=>hv) (by omega) r hr
set_option maxHeartbeats 64000000 in
set_option maxRecDepth 100000 in
theorem bt10 {w:World} {sv:SpecV} {s:SpecL} {a:Act} {w5:World} {own:Int} {v:PlanV} {fv vv:Value} {lb ib:Nat} {ivx iv:ImgV} {imx im:ImgL} {A:Nat→Prop} (hF:bFr [(1,.pointer (some ⟨w.heap.size,0,none⟩)),(2,.pointer (some ⟨w.heap.size+1,0,none⟩)),(3,.int .i64 0),(4,.pointer (some ⟨w.heap.size+2,0,none⟩)),(5,.pointer (some ⟨lb,0,none⟩)),(6,.pointer (some ⟨ib,0,none⟩))] a) (hC:BSt2 w sv s w5 own v fv vv lb ib ivx imx iv im A) (hfew:FewL s) (hck:(checkL s).fault=0) (hrl:ivx.relocs=.slice none 0 0)
  (hK:∀ a' wc rv,bFr [(1,.pointer (some ⟨w.heap.size,0,none⟩)),(2,.pointer (some ⟨w.heap.size+1,0,none⟩)),(3,.int .i64 0),(4,.pointer (some ⟨w.heap.size+2,0,none⟩)),(5,.pointer (some ⟨lb,0,none⟩)),(6,.pointer (some ⟨ib,0,none⟩))] a'→BSt2 w sv s wc own v fv vv lb ib {ivx with relocs:=rv } imx {iv with relocs:=rv } {im with relocs:=relsQ s } (fun b=>A b∨(w5.heap.size≤b∧b<wc.heap.size))→(bRest Try.f10 19).wp Try.prog (bodyPost Try.prog Try.f10 (BuildPost w s)) a' wc):(bRest Try.f10 18).wp Try.prog (bodyPost Try.prog Try.f10 (BuildPost w s)) a w5:=by
 have HK:=Lib.hid hK
 have HC:=Lib.hid hC
 have hib:=hC.ibl
 have h0:=hC.h0
 have hbd:=lay_bd hfew (check_sz hfew)
 have hps:=placed_sz hfew
 have Hok:=Lib.hid (relsQ_ok hfew hC.spec hck)
 obtain⟨fa,fc,hff⟩:=hC.fl
 obtain⟨va,vc,hvf⟩:=hC.vl.form
 subst hff hvf
 have HR:=Lib.hid (relocs_any (y:=⟨(layL s (checkL s)).stubs,(layL s (checkL s)).got,(layL s (checkL s)).plt,(layL s (checkL s)).stubs+24*(checkL s).jumps.length,(layL s (checkL s)).data,(layL s (checkL s)).tls⟩) fa (layL s (checkL s)).funcs.length fc va vc (layL s (checkL s)) ⟨rfl,rfl⟩ (hC.vl.imp (S':=(·<w5.heap.size)) (fun b hb=>by have hb:b<lb:=hb;omega)) hC.plan hC.specAt (by omega) (placed_vars s) (fun c hc=>check_use s c (by have hc:c∈(finiQ s).1.cells:=hc;rwa [(fini_plan s).2.1]at hc)) (fun v hv r hr=>by have:=check_refs hck v hv r hr;have:=(check_zero hck).2.2 v hv;omega) hbd.vars hbd.varsR hfew.vars hfew.funcs hfew.refs (by omega) (by have:=hbd.got;show 0≤(layL s (checkL s)).got∧(layL s (checkL s)).got≤25000000;omega))
 have HXl:Hid (w5.heap[lb]? =some (.cells #[.pointer (some ⟨w.heap.size+2,0,none⟩),.slice fa (layL s (checkL s)).funcs.length fc,.slice va (layL s (checkL s)).vars.length vc,.int .i64 (layL s (checkL s)).stubs,.int .i64 (layL s (checkL s)).got,.int .i64 (layL s (checkL s)).plt,.int .i64 0,.int .i64 ((layL s (checkL s)).stubs+24*(checkL s).jumps.length),.int .i64 (layL s (checkL s)).data,.int .i64 (layL s (checkL s)).tls] 83 (0,0))):=Lib.hid hC.lx
 have HX5:Hid (w5.heap[ib]? =some (.cells #[.string ⟨imx.name.toArray⟩,.int .i64 imx.flags,ivx.segs,ivx.needed,ivx.runPath,ivx.syms,ivx.buckets,ivx.words,.int .i64 imx.shift,.slice none 0 0,ivx.slots,ivx.init,ivx.fini,ivx.tls,.int .i64 imx.tlsSize] 44 (0,0))):=Lib.hid (by have h:=hC.ix;unfold imgCells at h;rwa [hrl]at h)
 unfold layCells at HR
 clear hC hK hfew hck hbd hps hrl
 have e18:bRest Try.f10 18=.seq (bCode Try.f10 18) (bRest Try.f10 19):=bd_seq _ 18 (by kernel_rfl)
 rw [e18]
 clear e18
 apply bFr.elim hF
 clear hF
 intro V0 V1 V2 V3 V4 V5 V6 V7 V8 V9 V10 V11 V12 V13 V14 V15 V16 V17 V18 V19 V20 V21 V22 V23 V24 V25 V26 V27 V28 V29 V30 V31 V32 V33 V34 V35 V36 V37 V38 V39
  V40 V41 V42 V43 V44 V45 V46 V47 V48 V49 V50 V51 V52 V53 V54 V55 V56 V57 V58 V59 V60 V61 V62 V63 V64 V65 V66 V67 V68 V69 V70 V71 V72 V73 V74 V75 V76 V77 V78 V79
  V80 V81 V82 V83 V84 V85 V86 V87 V88 V89 V90 V91 V92 V93 V94 V95 V96 V97 V98 V99 V100 V101 V102 V103 V104 V105 V106 V107 V108 V109 V110 V111 V112 V113 V114 V115 V116 V117 V118 V119
  V120 V121 V122 V123 V124 V125 V126 V127 V128 V129 V130 V131 V132 V133 V134 V135 V136 V137 V138 V139 V140 V141 V142 V143 V144 V145 V146 V147 V148 V149 V150 V151 V152 V153 V154 V155 V156 V157 V158 V159
  V160 V161 V162 V163 V164 V165 V166 V167 V168 V169 V170 V171 V172 V173 V174 V175 V176 V177 V178 V179 V180 V181 V182 V183 V184 V185 V186 V187 V188 V189 V190 V191 V192 V193 V194 V195 V196 V197 V198 V199
  V200 V201 V202 V203 V204 V205 V206 V207 V208 V209 V210 V211 V212 V213 V214 V215 V216 V217 V218 V219 V220 V221 V222 V223 V224 V225 V226 V227 V228 V229 V230 V231 V232 V233 V234 V235 V236 V237 V238 V239
  V240 V241 V242 V243 V244 V245 V246 hF
 obtain⟨-,-,e1,e2,e3,e4,e5,e6,-⟩:=hF
 replace e1:V1=.pointer (some ⟨w.heap.size,0,none⟩):=e1
 subst e1
 replace e2:V2=.pointer (some ⟨w.heap.size+1,0,none⟩):=e2
 subst e2
 replace e3:V3=.int .i64 0:=e3
 subst e3
 replace e4:V4=.pointer (some ⟨w.heap.size+2,0,none⟩):=e4
 subst e4
 replace e5:V5=.pointer (some ⟨lb,0,none⟩):=e5
 subst e5
 replace e6:V6=.pointer (some ⟨ib,0,none⟩):=e6
 subst e6
 conv in bCode _ 18=>whnf
 have l0:=cells_row HXl.out 0 _ rfl
 have l1:=cells_row HXl.out 1 _ rfl
 have l2:=cells_row HXl.out 2 _ rfl
 have l3:=cells_row HXl.out 3 _ rfl
 have l4:=cells_row HXl.out 4 _ rfl
 have l5:=cells_row HXl.out 5 _ rfl
 have l6:=cells_row HXl.out 6 _ rfl
 have l7:=cells_row HXl.out 7 _ rfl
 have l8:=cells_row HXl.out 8 _ rfl
 have l9:=cells_row HXl.out 9 _ rfl
 go_wp2_with fail
 refine HR.out.mono ?_
 rintro e w6 ⟨rv,rfl,ho6,hb6⟩
 obtain⟨ra_,rc_,hrf⟩:=ho6.form
 subst hrf
 have HO6:=Lib.hid ho6
 have HC6:=Lib.hid (HC.out.belowW hb6)
 have HX6:=Lib.hid ((hb6.block ib hib).trans HX5.out)
 have hz6:=hb6.size
 clear ho6 hb6 l0 l1 l2 l3 l4 l5 l6 l7 l8 l9
 have i9:w6.cell? ⟨ib,9,none⟩=some (.slice none 0 0):=by rw [Lib.cell_of_heap HX6.out];rfl
 have f9:w6.frozen? ⟨ib,9,none⟩=false:=Lib.frozen_of_heap HX6.out 9
 obtain⟨rl,hrl⟩:∃ rl,rl=(relsL s (layL s (checkL s)) (placedQ s)).2.length:=⟨_,rfl⟩
 rw [← hrl]at HO6 ⊢
 clear hrl
 go_wp2_with fail
 have hs9:Step (fun b=>b≠ib) w6 (w6.setCell ⟨ib,9,none⟩ (.slice ra_ rl rc_)):=(Step.refl _ w6).setCell (fun h=>h rfl) _
 have hsz:(w6.setCell ⟨ib,9,none⟩ (.slice ra_ rl rc_)).heap.size=w6.heap.size:=by simp
 refine HK.out _ _ (.slice ra_ rl rc_) ⟨by kernel_rfl,rfl,(by kernel_rfl),(by kernel_rfl),(by kernel_rfl),(by kernel_rfl),(by kernel_rfl),(by kernel_rfl),trivial⟩ (HC6.out.go (hs9.imp (fun b hb=>hb.2)) (setCell_arr HX6.out 9 _) { (HC6.out.imgStep (hs9.imp (fun b hb=>hb.2))).imp (fun b hb=>Or.inl hb)with relocs:= ?_,relocsR:=Hok.out } (fun b hb=> ?_))
 ·exact((OwnK.lb (HO6.out.reE flat_rel (E':=fun b=>b<w5.heap.size) (fun g hg h=>by have:=(HO6.out.lt g hg).1;omega))).keeps (fun b hb=>hs9.block b (by have:=hb.2;omega))).imp (fun b hb=>Or.inr ⟨Nat.le_of_not_lt hb.2,by rw [hsz];exact hb.1⟩)
 ·rcases hb with hb | hb
  ·have:=HC6.out.hA b hb;exact⟨this.1,by omega,this.2.2⟩
  ·exact⟨by omega,hb.2,by omega⟩
end Go.Proofs.Ytpomdoliblilfaa
namespace Go.Proofs.Ytpomdoliblilfaa
set_option linter.unusedVariables false
set_option linter.unusedSimpArgs false
open Go.RowKit
theorem slotsT_snoc (y:LayL) (j:Int):∀ (l:List Int) (k:Nat),slotsT y k (l++[j])=slotsT y k l++[⟨y.plt+8*((k+l.length:Nat):Int),j,y.stubs+(3*((k+l.length:Nat):Int)+2)*8⟩]
 | [],k=>by simp [slotsT]
 | x :: l,k=>by
  have h:=slotsT_snoc y j l (k+1)
  rw [List.cons_append]
  simp only [slotsT,List.length_cons,List.cons_append]
  rw [h,show k+1+l.length=k+(l.length+1) by omega]
theorem slotsT_len (y:LayL):∀ (l:List Int) (k:Nat),(slotsT y k l).length=l.length
 | [],_=>rfl
 | x :: l,k=>by simp [slotsT,slotsT_len y l]
theorem slotsT_ok {s:SpecL} (hfew:FewL s):∀ x∈slotsT (layL s (checkL s)) 0 (placedQ s).jumps,SlotOk x:=by
 have hbd:=lay_bd hfew (check_sz hfew)
 have hpl:=(placed_places hfew).2
 have hsz:=(placed_sz hfew).1
 unfold PlanL.sz at hsz
 obtain⟨y,hy⟩:∃ y,y=layL s (checkL s):=⟨_,rfl⟩
 rw [← hy]at hbd ⊢
 have hp:=hbd.plt
 have hs:=hbd.stubs
 have h:∀ (l:List Int) (k:Nat),k+l.length≤40000→(∀ j∈l,0≤j∧j≤40000)→∀ x∈slotsT y k l,SlotOk x:=by
  intro l
  induction l with
  | nil=>intro k _ _ x hx;cases hx
  | cons j l ih=>
   intro k hk hl x hx
   rw [List.length_cons]at hk
   rcases List.mem_cons.1 hx with rfl | hx
   ·have:=hl j (List.mem_cons_self ..)
    unfold SlotOk
    refine⟨?_,?_,?_⟩
    ·show _≤j∧j≤_;omega
    ·show _≤y.plt+8*(k:Int)∧y.plt+8*(k:Int)≤_;omega
    ·show _≤y.stubs+(3*(k:Int)+2)*8∧y.stubs+(3*(k:Int)+2)*8≤_;omega
   ·exact ih (k+1) (by omega) (fun j hj=>hl j (List.mem_cons_of_mem _ hj)) x hx
 exact h _ 0 (by omega) hpl
set_option maxHeartbeats 64000000 in
set_option maxRecDepth 100000 in
theorem bt11 {w:World} {sv:SpecV} {s:SpecL} {a:Act} {w5:World} {own:Int} {v:PlanV} {fv vv:Value} {lb ib:Nat} {ivx iv:ImgV} {imx im:ImgL} {A:Nat→Prop} (hF:bFr [(1,.pointer (some ⟨w.heap.size,0,none⟩)),(2,.pointer (some ⟨w.heap.size+1,0,none⟩)),(3,.int .i64 0),(4,.pointer (some ⟨w.heap.size+2,0,none⟩)),(5,.pointer (some ⟨lb,0,none⟩)),(6,.pointer (some ⟨ib,0,none⟩))] a) (hC:BSt2 w sv s w5 own v fv vv lb ib ivx imx iv im A) (hfew:FewL s) (hsl:ivx.slots=.slice none 0 0)
  (hK:∀ a' wc o,bFr [(1,.pointer (some ⟨w.heap.size,0,none⟩)),(2,.pointer (some ⟨w.heap.size+1,0,none⟩)),(3,.int .i64 0),(4,.pointer (some ⟨w.heap.size+2,0,none⟩)),(5,.pointer (some ⟨lb,0,none⟩)),(6,.pointer (some ⟨ib,0,none⟩))] a'→BSt2 w sv s wc own v fv vv lb ib {ivx with slots:=o } imx {iv with slots:=o } {im with slots:=slotsT (layL s (checkL s)) 0 (placedQ s).jumps } (fun b=>A b∨(w5.heap.size≤b∧b<wc.heap.size))→(bRest Try.f10 20).wp Try.prog (bodyPost Try.prog Try.f10 (BuildPost w s)) a' wc):(bRest Try.f10 19).wp Try.prog (bodyPost Try.prog Try.f10 (BuildPost w s)) a w5:=by
 have HK:=Lib.hid hK
 have HC:=Lib.hid hC
 have hib:=hC.ibl
 have h0:=hC.h0
 have hbd:=lay_bd hfew (check_sz hfew)
 have hps:=(placed_sz hfew).1
 have Hok:=Lib.hid (slotsT_ok hfew)
 have hplt:=hbd.plt
 have hstb:=hbd.stubs
 obtain⟨ja_,jb_,jo_,jc_,hjf,hjm,hjcap,hjat⟩:=((OwnK.lb (hC.plan.jumps.reE flat_int (E':=fun b=>b=ib) (fun g hg e=>hC.vI (Or.inr (Or.inr (e ▸ hg)))))).imp (S':=fun b=>b<w5.heap.size∧b≠ib) (fun b hb=>hb)).at
 have hjaa:=hjat.addr
 have Hjat:=Lib.hid hjat
 have c12:=hC.plan.c12
 rw [hjf]at c12
 obtain⟨nj,hnj⟩:∃ nj,nj=(placedQ s).jumps.length:=⟨_,rfl⟩
 have Hnj:=Lib.hid hnj
 rw [← hnj]at c12 hjm hjcap hjaa
 have hnj2:nj≤40000:=by unfold PlanL.sz at hps;omega
 have Hlx:=Lib.hid hC.lx
 obtain⟨plt,hp1⟩:∃ plt,plt=(layL s (checkL s)).plt:=⟨_,rfl⟩
 obtain⟨stubs,hs1⟩:∃ stubs,stubs=(layL s (checkL s)).stubs:=⟨_,rfl⟩
 have Hplt:=Lib.hid hp1
 have Hstb:=Lib.hid hs1
 rw [← hp1]at hplt
 rw [← hs1]at hstb
 have HX5:Hid (w5.heap[ib]? =some (.cells #[.string ⟨imx.name.toArray⟩,.int .i64 imx.flags,ivx.segs,ivx.needed,ivx.runPath,ivx.syms,ivx.buckets,ivx.words,.int .i64 imx.shift,ivx.relocs,.slice none 0 0,ivx.init,ivx.fini,ivx.tls,.int .i64 imx.tlsSize] 44 (0,0))):=Lib.hid (by have h:=hC.ix;unfold imgCells at h;rwa [hsl]at h)
 have l0:=cells_row hC.lx 0 _ rfl
 clear hC hK hfew hsl hbd hps hnj hjf hjat hp1 hs1
 have e19:bRest Try.f10 19=.seq (bCode Try.f10 19) (bRest Try.f10 20):=bd_seq _ 19 (by kernel_rfl)
 rw [e19]
 clear e19
 apply bFr.elim hF
 clear hF
 intro V0 V1 V2 V3 V4 V5 V6 V7 V8 V9 V10 V11 V12 V13 V14 V15 V16 V17 V18 V19 V20 V21 V22 V23 V24 V25 V26 V27 V28 V29 V30 V31 V32 V33 V34 V35 V36 V37 V38 V39
  V40 V41 V42 V43 V44 V45 V46 V47 V48 V49 V50 V51 V52 V53 V54 V55 V56 V57 V58 V59 V60 V61 V62 V63 V64 V65 V66 V67 V68 V69 V70 V71 V72 V73 V74 V75 V76 V77 V78 V79
  V80 V81 V82 V83 V84 V85 V86 V87 V88 V89 V90 V91 V92 V93 V94 V95 V96 V97 V98 V99 V100 V101 V102 V103 V104 V105 V106 V107 V108 V109 V110 V111 V112 V113 V114 V115 V116 V117 V118 V119
  V120 V121 V122 V123 V124 V125 V126 V127 V128 V129 V130 V131 V132 V133 V134 V135 V136 V137 V138 V139 V140 V141 V142 V143 V144 V145 V146 V147 V148 V149 V150 V151 V152 V153 V154 V155 V156 V157 V158 V159
  V160 V161 V162 V163 V164 V165 V166 V167 V168 V169 V170 V171 V172 V173 V174 V175 V176 V177 V178 V179 V180 V181 V182 V183 V184 V185 V186 V187 V188 V189 V190 V191 V192 V193 V194 V195 V196 V197 V198 V199
  V200 V201 V202 V203 V204 V205 V206 V207 V208 V209 V210 V211 V212 V213 V214 V215 V216 V217 V218 V219 V220 V221 V222 V223 V224 V225 V226 V227 V228 V229 V230 V231 V232 V233 V234 V235 V236 V237 V238 V239
  V240 V241 V242 V243 V244 V245 V246 hF
 obtain⟨-,-,e1,e2,e3,e4,e5,e6,-⟩:=hF
 replace e1:V1=.pointer (some ⟨w.heap.size,0,none⟩):=e1
 subst e1
 replace e2:V2=.pointer (some ⟨w.heap.size+1,0,none⟩):=e2
 subst e2
 replace e3:V3=.int .i64 0:=e3
 subst e3
 replace e4:V4=.pointer (some ⟨w.heap.size+2,0,none⟩):=e4
 subst e4
 replace e5:V5=.pointer (some ⟨lb,0,none⟩):=e5
 subst e5
 replace e6:V6=.pointer (some ⟨ib,0,none⟩):=e6
 subst e6
 conv in bCode _ 19=>whnf
 obtain⟨Bs,hBs⟩:∃ Bs,Bs=w5.heap.size:=⟨_,rfl⟩
 have HBs:=Lib.hid hBs
 have hiB:ib<Bs:=by omega
 clear hBs
 go_wp2_with fail
 clear l0 c12
 go_loopw [200] (fun i wr=>∃ k:Nat,i=.int .i64 k∧k≤nj∧∃ o,wr.heap[ib]? =some (.cells #[.string ⟨imx.name.toArray⟩,.int .i64 imx.flags,ivx.segs,ivx.needed,ivx.runPath,ivx.syms,ivx.buckets,ivx.words,.int .i64 imx.shift,ivx.relocs,o,ivx.init,ivx.fini,ivx.tls,.int .i64 imx.tlsSize] 44 (0,0))∧OwnK 62 kSlot Bs (fun b=>b<Bs) wr o (slotsT (layL s (checkL s)) 0 ((placedQ s).jumps.take k))∧Step (fun b=>b<Bs∧b≠ib) w5 wr) (fun i _=>nj-(intOf i).toNat)
 case atStart=>exact⟨0,rfl,Nat.zero_le _,_,HX5.out,OwnK.nil _ _ _ _ _,Step.refl _ _⟩
 case round=>
  obtain⟨k,rfl,hk,o,hx,ho,hst⟩:=hrel
  have HX:=Lib.hid hx
  have HO:=Lib.hid ho
  have HS:=Lib.hid hst
  have hzB:Bs≤wr.heap.size:=by have:=HBs.out;have:=hst.size;omega
  clear hx ho hst
  by_cases hlt:k<nj
  ·obtain⟨j,hj⟩:∃ j,(placedQ s).jumps[k]? =some j:=⟨_,List.getElem?_eq_getElem (by rw [← Hnj.out];exact hlt)⟩
   obtain rfl:=hjaa (by omega)
   have g0:=(Hjat.out.keeps (w':=wr) (fun b hb=>HS.out.block b (by have:=HBs.out;omega))).int1 k j hj
   have HLx:=Lib.hid ((HS.out.block lb (by omega)).trans Hlx.out)
   have l3:wr.cell? ⟨lb,3,none⟩=some (.int .i64 stubs):=by rw [Lib.cell_of_heap HLx.out,Hstb.out];rfl
   have l5:wr.cell? ⟨lb,5,none⟩=some (.int .i64 plt):=by rw [Lib.cell_of_heap HLx.out,Hplt.out];rfl
   have HSn:Hid (slotsT (layL s (checkL s)) 0 ((placedQ s).jumps.take (k+1))=slotsT (layL s (checkL s)) 0 ((placedQ s).jumps.take k)++[⟨plt+8*(k:Int),j,stubs+(3*(k:Int)+2)*8⟩]):=Lib.hid (by
    rw [take_snocB hj,slotsT_snoc,List.length_take,Nat.min_eq_left (by have:=Hnj.out;omega),Nat.zero_add,← Hplt.out,← Hstb.out])
   have hql:(slotsT (layL s (checkL s)) 0 ((placedQ s).jumps.take k)).length=k:=by rw [slotsT_len,List.length_take];have:=Hnj.out;omega
   obtain⟨q,hq⟩:∃ q,q=slotsT (layL s (checkL s)) 0 ((placedQ s).jumps.take k):=⟨_,rfl⟩
   rw [← hq]at HO HSn hql
   have Hql:=Lib.hid hql
   obtain⟨oa,oc,hof⟩:=HO.out.form
   rw [hql]at hof
   subst hof
   have i10:wr.cell? ⟨ib,10,none⟩=some (.slice oa k oc):=by rw [Lib.cell_of_heap HX.out];rfl
   have HXb:=Lib.hid ((heap_alloc_old wr (.cells #[.int .i64 (plt+8*(k:Int)),.int .i64 j,.int .i64 (stubs+(3*(k:Int)+2)*8)] 62 (0,0)) (r:=ib) (by omega)).trans HX.out)
   have HOb:=Lib.hid (HO.out.alloc (.cells #[.int .i64 (plt+8*(k:Int)),.int .i64 j,.int .i64 (stubs+(3*(k:Int)+2)*8)] 62 (0,0)))
   have HSb:=Lib.hid (HS.out.alloc (fun b hb=>by omega) (.cells #[.int .i64 (plt+8*(k:Int)),.int .i64 j,.int .i64 (stubs+(3*(k:Int)+2)*8)] 62 (0,0)))
   have HNb:=Lib.hid (heap_alloc_new wr (.cells #[.int .i64 (plt+8*(k:Int)),.int .i64 j,.int .i64 (stubs+(3*(k:Int)+2)*8)] 62 (0,0)))
   have Hzb:Hid ((wr.alloc (.cells #[.int .i64 (plt+8*(k:Int)),.int .i64 j,.int .i64 (stubs+(3*(k:Int)+2)*8)] 62 (0,0))).heap.size=wr.heap.size+1):=Lib.hid (by simp)
   have HE:Hid (∀ b,b<Bs→b<(wr.alloc (.cells #[.int .i64 (plt+8*(k:Int)),.int .i64 j,.int .i64 (stubs+(3*(k:Int)+2)*8)] 62 (0,0))).heap.size):=Lib.hid (fun b hb=>by rw [Hzb.out];omega)
   have HW1:Hid (Bs≤(wr.alloc (.cells #[.int .i64 (plt+8*(k:Int)),.int .i64 j,.int .i64 (stubs+(3*(k:Int)+2)*8)] 62 (0,0))).heap.size):=Lib.hid (by rw [Hzb.out];omega)
   have hk2:(k:Int)<(nj:Int):=by omega
   have hk3:0≤(k:Int):=by omega
   clear hj hq hql
   go_wp2_with (at_builtin;go_loud (refine wpList_appendK (K:=kSlot) (v:=.slice oa k oc) (l:=q) (E:=fun b=>b<Bs) (B:=Bs) 40 _ 24 Try.underlying40 info_slot rfl (by decide) rfl (.tmp 206) (.tmp 221) rfl k Hql.out rfl HOb.out HE.out wr.heap.size ⟨plt+8*(k:Int),j,stubs+(3*(k:Int)+2)*8⟩ [.int .i64 (plt+8*(k:Int)),.int .i64 j,.int .i64 (stubs+(3*(k:Int)+2)*8)] rfl (cells_row HNb.out) (fun u hu=>by simp only [List.mem_cons,List.not_mem_nil,or_false]at hu;rcases hu with rfl | rfl | rfl<;>rfl) rfl (by rw [Hql.out];omega) (by rw [Hql.out];omega) HW1.out ?_))
   intro g7 c7 w7 ho7 hs7 hg7
   have hne:∀ b,b<Bs→(Value.slice oa k oc).ownBlock≠some b:=fun b hb e=>by have:=(HO.out.lt b e).1;omega
   have hsI:w7.heap[ib]? =(wr.alloc (.cells #[.int .i64 (plt+8*(k:Int)),.int .i64 j,.int .i64 (stubs+(3*(k:Int)+2)*8)] 62 (0,0))).heap[ib]? :=hs7.block ib ⟨by first | (rw [Hzb.out];omega) | omega,hne ib hiB⟩
   have HX7:=Lib.hid (hsI.trans HXb.out)
   have HO7:=Lib.hid ho7
   have HS7:=Lib.hid (HSb.out.trans (hs7.imp (fun b hb=>⟨by first | (rw [Hzb.out];omega) | omega,hne b hb.1⟩)))
   rw [← HSn.out]at HO7
   have u10:w7.cell? ⟨ib,10,none⟩=some (.slice oa k oc):=by rw [Lib.cell_of_heap HX7.out];rfl
   have f10:w7.frozen? ⟨ib,10,none⟩=false:=Lib.frozen_of_heap HX7.out 10
   clear ho7 hs7 hsI hne g0 l3 l5 i10
   have hs9:Step (fun b=>b≠ib) w7 (w7.setCell ⟨ib,10,none⟩ (.slice (some ⟨g7,0,none⟩) (k+1) c7)):=(Step.refl _ w7).setCell (fun h=>h rfl) _
   have HX9:=Lib.hid (setCell_arr HX7.out 10 (.slice (some ⟨g7,0,none⟩) (k+1) c7))
   have HO9:=Lib.hid (HO7.out.step hs9 (fun b _ hb=>by have hb:¬ b<Bs:=hb;omega))
   have HS9:=Lib.hid (HS7.out.trans (hs9.imp (fun b hb=>hb.2)))
   clear hs9
   go_wp2
   go_roundw
   case rel=>exact⟨k+1,by go_num,by omega,_,HX9.out,HO9.out,HS9.out⟩
   case measure=>simp [intOf];omega
  ·have hE:=HO.out
   rw [List.take_of_length_le (by have:=Hnj.out;omega)]at hE
   have hS5:Step (fun b=>b<w5.heap.size∧b≠ib) w5 wr:=HS.out.imp (fun b hb=>by have:=HBs.out;omega)
   have HB:=Lib.hid (HC.out.go (ivx':={ivx with slots:=o }) (imx':=imx) (iv':={iv with slots:=o }) (im':={im with slots:=slotsT (layL s (checkL s)) 0 (placedQ s).jumps }) (A':=fun b=>A b∨(w5.heap.size≤b∧b<wr.heap.size)) hS5 HX.out { (HC.out.imgStep hS5).imp (fun b hb=>Or.inl hb)with slots:=hE.lb.imp (fun b hb=>Or.inr ⟨by have:=HBs.out;have:=hb.2;omega,hb.1⟩),slotsR:=Hok.out } (fun b hb=>by
    rcases hb with hb | hb
    ·exact HC.out.hA' hS5.size b hb
    ·exact⟨by omega,hb.2,by omega⟩))
   clear hE hS5
   go_wp2_with fail
   exact HK.out _ wr o ⟨by kernel_rfl,rfl,(by kernel_rfl),(by kernel_rfl),(by kernel_rfl),(by kernel_rfl),(by kernel_rfl),(by kernel_rfl),trivial⟩ HB.out
end Go.Proofs.Ytpomdoliblilfaa
