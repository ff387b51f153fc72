/- Lemmas. -/
import Derived.Test.YtpomdoliblilfaaBld29
import Derived.Deep.DeepCutAuto
namespace Go.Proofs.Ytpomdoliblilfaa
set_option linter.unusedVariables false
set_option linter.unusedSimpArgs false
open Go.RowKit
structure Chk (w:World) (sv:SpecV) (s:SpecL) (w5:World) (own:Int) (v:PlanV):Prop where
 plan:PlanM w.heap.size (w.heap.size+2) w5 sv s own v (checkL s)
 spec:SpecM (·<w.heap.size) w sv s
 low:Below w.heap.size w w5
 sx:w5.heap[w.heap.size]? =some (.cells #[.string ⟨s.name.toArray⟩,.int .i64 s.flags,sv.needed,sv.runPath,sv.funcs,sv.vars,sv.weak,sv.init,sv.fini] 28 (0,0))
 rx:w5.heap[w.heap.size+1]? =some (.cells #[.string ⟨#[]⟩,.int .i64 0,.slice none 0 0,.slice none 0 0,.slice none 0 0,.slice none 0 0,.slice none 0 0,.slice none 0 0,.int .i64 0,.slice none 0 0,.slice none 0 0,.slice none 0 0,.slice none 0 0,.slice none 0 0,.int .i64 0] 44 (0,0))
 kx:Kept (w.heap.size+2) v w5 w.heap.size
 kr:Kept (w.heap.size+2) v w5 (w.heap.size+1)
 lens:s.funcs.length≤512∧s.vars.length≤512
 fault:(checkL s).fault=0
set_option maxHeartbeats 64000000 in
set_option maxRecDepth 100000 in
theorem bt1 {w:World} {sv:SpecV} {s:SpecL} {a:Act} (hF:bFr [(0,.agg #[.string ⟨s.name.toArray⟩,.int .i64 s.flags,sv.needed,sv.runPath,sv.funcs,sv.vars,sv.weak,sv.init,sv.fini])] a) (hS:SpecM (·<w.heap.size) w sv s) (hfew:FewL s)
  (hK:∀ a' w5 own v,bFr [(1,.pointer (some ⟨w.heap.size,0,none⟩)),(2,.pointer (some ⟨w.heap.size+1,0,none⟩)),(3,.int .i64 0),(4,.pointer (some ⟨w.heap.size+2,0,none⟩))] a'→Chk w sv s w5 own v→(bRest Try.f10 5).wp Try.prog (bodyPost Try.prog Try.f10 (BuildPost w s)) a' w5):(bRest Try.f10 0).wp Try.prog (bodyPost Try.prog Try.f10 (BuildPost w s)) a w:=by
 have HK:=Lib.hid hK
 have HSp:=Lib.hid hS
 have Hfew:=Lib.hid hfew
 obtain⟨fa,fc,hff⟩:=hS.funcs.form
 obtain⟨va,vc,hvf⟩:=hS.vars.form
 have Hff:=Lib.hid hff
 have Hvf:=Lib.hid hvf
 have hfl:=hS.funcs.max
 have hvl:=hS.vars.max
 have HX1:=Lib.hid (heap_alloc_new w (.cells #[.string ⟨s.name.toArray⟩,.int .i64 s.flags,sv.needed,sv.runPath,sv.funcs,sv.vars,sv.weak,sv.init,sv.fini] 28 (0,0)))
 have HX2:=Lib.hid ((heap_alloc_old (w.alloc (.cells #[.string ⟨s.name.toArray⟩,.int .i64 s.flags,sv.needed,sv.runPath,sv.funcs,sv.vars,sv.weak,sv.init,sv.fini] 28 (0,0))) (.cells #[.string ⟨#[]⟩,.int .i64 0,.slice none 0 0,.slice none 0 0,.slice none 0 0,.slice none 0 0,.slice none 0 0,.slice none 0 0,.int .i64 0,.slice none 0 0,.slice none 0 0,.slice none 0 0,.slice none 0 0,.slice none 0 0,.int .i64 0] 44 (0,0)) (r:=w.heap.size) (by simp)).trans HX1.out)
 have HR2:Hid (((w.alloc (.cells #[.string ⟨s.name.toArray⟩,.int .i64 s.flags,sv.needed,sv.runPath,sv.funcs,sv.vars,sv.weak,sv.init,sv.fini] 28 (0,0))).alloc (.cells #[.string ⟨#[]⟩,.int .i64 0,.slice none 0 0,.slice none 0 0,.slice none 0 0,.slice none 0 0,.slice none 0 0,.slice none 0 0,.int .i64 0,.slice none 0 0,.slice none 0 0,.slice none 0 0,.slice none 0 0,.slice none 0 0,.int .i64 0] 44 (0,0))).heap[w.heap.size+1]? =some (.cells #[.string ⟨#[]⟩,.int .i64 0,.slice none 0 0,.slice none 0 0,.slice none 0 0,.slice none 0 0,.slice none 0 0,.slice none 0 0,.int .i64 0,.slice none 0 0,.slice none 0 0,.slice none 0 0,.slice none 0 0,.slice none 0 0,.int .i64 0] 44 (0,0))):=Lib.hid (by
  have h:=heap_alloc_new (w.alloc (.cells #[.string ⟨s.name.toArray⟩,.int .i64 s.flags,sv.needed,sv.runPath,sv.funcs,sv.vars,sv.weak,sv.init,sv.fini] 28 (0,0))) (.cells #[.string ⟨#[]⟩,.int .i64 0,.slice none 0 0,.slice none 0 0,.slice none 0 0,.slice none 0 0,.slice none 0 0,.slice none 0 0,.int .i64 0,.slice none 0 0,.slice none 0 0,.slice none 0 0,.slice none 0 0,.slice none 0 0,.int .i64 0] 44 (0,0))
  rwa [World.size_alloc]at h)
 have HB2:=Lib.hid (((Below.refl w.heap.size w).alloc (Nat.le_refl _) (.cells #[.string ⟨s.name.toArray⟩,.int .i64 s.flags,sv.needed,sv.runPath,sv.funcs,sv.vars,sv.weak,sv.init,sv.fini] 28 (0,0))).alloc (by simp) (.cells #[.string ⟨#[]⟩,.int .i64 0,.slice none 0 0,.slice none 0 0,.slice none 0 0,.slice none 0 0,.slice none 0 0,.slice none 0 0,.int .i64 0,.slice none 0 0,.slice none 0 0,.slice none 0 0,.slice none 0 0,.slice none 0 0,.int .i64 0] 44 (0,0)))
 have hz2:((w.alloc (.cells #[.string ⟨s.name.toArray⟩,.int .i64 s.flags,sv.needed,sv.runPath,sv.funcs,sv.vars,sv.weak,sv.init,sv.fini] 28 (0,0))).alloc (.cells #[.string ⟨#[]⟩,.int .i64 0,.slice none 0 0,.slice none 0 0,.slice none 0 0,.slice none 0 0,.slice none 0 0,.slice none 0 0,.int .i64 0,.slice none 0 0,.slice none 0 0,.slice none 0 0,.slice none 0 0,.slice none 0 0,.int .i64 0] 44 (0,0))).heap.size=w.heap.size+2:=by simp
 have Hz2:=Lib.hid hz2
 clear hS hff hvf hK hfew hz2
 have e0:bRest Try.f10 0=.seq (bCode Try.f10 0) (bRest Try.f10 1):=bd_seq _ 0 (by kernel_rfl)
 have e1:bRest Try.f10 1=.seq (bCode Try.f10 1) (bRest Try.f10 2):=bd_seq _ 1 (by kernel_rfl)
 have e2:bRest Try.f10 2=.seq (bCode Try.f10 2) (bRest Try.f10 3):=bd_seq _ 2 (by kernel_rfl)
 have e3:bRest Try.f10 3=.seq (bCode Try.f10 3) (bRest Try.f10 4):=bd_seq _ 3 (by kernel_rfl)
 have e4:bRest Try.f10 4=.seq (bCode Try.f10 4) (bRest Try.f10 5):=bd_seq _ 4 (by kernel_rfl)
 rw [e0,e1,e2,e3,e4]
 clear e0 e1 e2 e3 e4
 apply bFr.elim hF
 clear hF
 intro V0 V1 V2 V3 V4 V5 V6 V7 V8 V9 V10 V11 V12 V13 V14 V15 V16 V17 V18 V19 V20 V21 V22 V23 V24 V25 V26 V27 V28 V29 V30 V31 V32 V33 V34 V35 V36 V37 V38 V39
  V40 V41 V42 V43 V44 V45 V46 V47 V48 V49 V50 V51 V52 V53 V54 V55 V56 V57 V58 V59 V60 V61 V62 V63 V64 V65 V66 V67 V68 V69 V70 V71 V72 V73 V74 V75 V76 V77 V78 V79
  V80 V81 V82 V83 V84 V85 V86 V87 V88 V89 V90 V91 V92 V93 V94 V95 V96 V97 V98 V99 V100 V101 V102 V103 V104 V105 V106 V107 V108 V109 V110 V111 V112 V113 V114 V115 V116 V117 V118 V119
  V120 V121 V122 V123 V124 V125 V126 V127 V128 V129 V130 V131 V132 V133 V134 V135 V136 V137 V138 V139 V140 V141 V142 V143 V144 V145 V146 V147 V148 V149 V150 V151 V152 V153 V154 V155 V156 V157 V158 V159
  V160 V161 V162 V163 V164 V165 V166 V167 V168 V169 V170 V171 V172 V173 V174 V175 V176 V177 V178 V179 V180 V181 V182 V183 V184 V185 V186 V187 V188 V189 V190 V191 V192 V193 V194 V195 V196 V197 V198 V199
  V200 V201 V202 V203 V204 V205 V206 V207 V208 V209 V210 V211 V212 V213 V214 V215 V216 V217 V218 V219 V220 V221 V222 V223 V224 V225 V226 V227 V228 V229 V230 V231 V232 V233 V234 V235 V236 V237 V238 V239
  V240 V241 V242 V243 V244 V245 V246 hF
 obtain⟨-,-,e0,-⟩:=hF
 replace e0:V0=.agg #[.string ⟨s.name.toArray⟩,.int .i64 s.flags,sv.needed,sv.runPath,sv.funcs,sv.vars,sv.weak,sv.init,sv.fini]:=e0
 subst e0
 conv in bCode _ 0=>whnf
 conv in bCode _ 1=>whnf
 conv in bCode _ 2=>whnf
 conv in bCode _ 3=>whnf
 conv in bCode _ 4=>whnf
 go_upto_region 1 with fail
 have c0:((w.alloc (.cells #[.string ⟨s.name.toArray⟩,.int .i64 s.flags,sv.needed,sv.runPath,sv.funcs,sv.vars,sv.weak,sv.init,sv.fini] 28 (0,0))).alloc (.cells #[.string ⟨#[]⟩,.int .i64 0,.slice none 0 0,.slice none 0 0,.slice none 0 0,.slice none 0 0,.slice none 0 0,.slice none 0 0,.int .i64 0,.slice none 0 0,.slice none 0 0,.slice none 0 0,.slice none 0 0,.slice none 0 0,.int .i64 0] 44 (0,0))).cell? ⟨w.heap.size,0,none⟩=some (.string ⟨s.name.toArray⟩):=by rw [Lib.cell_of_heap HX2.out];rfl
 have c1:((w.alloc (.cells #[.string ⟨s.name.toArray⟩,.int .i64 s.flags,sv.needed,sv.runPath,sv.funcs,sv.vars,sv.weak,sv.init,sv.fini] 28 (0,0))).alloc (.cells #[.string ⟨#[]⟩,.int .i64 0,.slice none 0 0,.slice none 0 0,.slice none 0 0,.slice none 0 0,.slice none 0 0,.slice none 0 0,.int .i64 0,.slice none 0 0,.slice none 0 0,.slice none 0 0,.slice none 0 0,.slice none 0 0,.int .i64 0] 44 (0,0))).cell? ⟨w.heap.size,1,none⟩=some (.int .i64 s.flags):=by rw [Lib.cell_of_heap HX2.out];rfl
 have c2:((w.alloc (.cells #[.string ⟨s.name.toArray⟩,.int .i64 s.flags,sv.needed,sv.runPath,sv.funcs,sv.vars,sv.weak,sv.init,sv.fini] 28 (0,0))).alloc (.cells #[.string ⟨#[]⟩,.int .i64 0,.slice none 0 0,.slice none 0 0,.slice none 0 0,.slice none 0 0,.slice none 0 0,.slice none 0 0,.int .i64 0,.slice none 0 0,.slice none 0 0,.slice none 0 0,.slice none 0 0,.slice none 0 0,.int .i64 0] 44 (0,0))).cell? ⟨w.heap.size,2,none⟩=some sv.needed:=by rw [Lib.cell_of_heap HX2.out];rfl
 have c3:((w.alloc (.cells #[.string ⟨s.name.toArray⟩,.int .i64 s.flags,sv.needed,sv.runPath,sv.funcs,sv.vars,sv.weak,sv.init,sv.fini] 28 (0,0))).alloc (.cells #[.string ⟨#[]⟩,.int .i64 0,.slice none 0 0,.slice none 0 0,.slice none 0 0,.slice none 0 0,.slice none 0 0,.slice none 0 0,.int .i64 0,.slice none 0 0,.slice none 0 0,.slice none 0 0,.slice none 0 0,.slice none 0 0,.int .i64 0] 44 (0,0))).cell? ⟨w.heap.size,3,none⟩=some sv.runPath:=by rw [Lib.cell_of_heap HX2.out];rfl
 have c4:((w.alloc (.cells #[.string ⟨s.name.toArray⟩,.int .i64 s.flags,sv.needed,sv.runPath,sv.funcs,sv.vars,sv.weak,sv.init,sv.fini] 28 (0,0))).alloc (.cells #[.string ⟨#[]⟩,.int .i64 0,.slice none 0 0,.slice none 0 0,.slice none 0 0,.slice none 0 0,.slice none 0 0,.slice none 0 0,.int .i64 0,.slice none 0 0,.slice none 0 0,.slice none 0 0,.slice none 0 0,.slice none 0 0,.int .i64 0] 44 (0,0))).cell? ⟨w.heap.size,4,none⟩=some sv.funcs:=by rw [Lib.cell_of_heap HX2.out];rfl
 have c5:((w.alloc (.cells #[.string ⟨s.name.toArray⟩,.int .i64 s.flags,sv.needed,sv.runPath,sv.funcs,sv.vars,sv.weak,sv.init,sv.fini] 28 (0,0))).alloc (.cells #[.string ⟨#[]⟩,.int .i64 0,.slice none 0 0,.slice none 0 0,.slice none 0 0,.slice none 0 0,.slice none 0 0,.slice none 0 0,.int .i64 0,.slice none 0 0,.slice none 0 0,.slice none 0 0,.slice none 0 0,.slice none 0 0,.int .i64 0] 44 (0,0))).cell? ⟨w.heap.size,5,none⟩=some sv.vars:=by rw [Lib.cell_of_heap HX2.out];rfl
 have c6:((w.alloc (.cells #[.string ⟨s.name.toArray⟩,.int .i64 s.flags,sv.needed,sv.runPath,sv.funcs,sv.vars,sv.weak,sv.init,sv.fini] 28 (0,0))).alloc (.cells #[.string ⟨#[]⟩,.int .i64 0,.slice none 0 0,.slice none 0 0,.slice none 0 0,.slice none 0 0,.slice none 0 0,.slice none 0 0,.int .i64 0,.slice none 0 0,.slice none 0 0,.slice none 0 0,.slice none 0 0,.slice none 0 0,.int .i64 0] 44 (0,0))).cell? ⟨w.heap.size,6,none⟩=some sv.weak:=by rw [Lib.cell_of_heap HX2.out];rfl
 have c7:((w.alloc (.cells #[.string ⟨s.name.toArray⟩,.int .i64 s.flags,sv.needed,sv.runPath,sv.funcs,sv.vars,sv.weak,sv.init,sv.fini] 28 (0,0))).alloc (.cells #[.string ⟨#[]⟩,.int .i64 0,.slice none 0 0,.slice none 0 0,.slice none 0 0,.slice none 0 0,.slice none 0 0,.slice none 0 0,.int .i64 0,.slice none 0 0,.slice none 0 0,.slice none 0 0,.slice none 0 0,.slice none 0 0,.int .i64 0] 44 (0,0))).cell? ⟨w.heap.size,7,none⟩=some sv.init:=by rw [Lib.cell_of_heap HX2.out];rfl
 have c8:((w.alloc (.cells #[.string ⟨s.name.toArray⟩,.int .i64 s.flags,sv.needed,sv.runPath,sv.funcs,sv.vars,sv.weak,sv.init,sv.fini] 28 (0,0))).alloc (.cells #[.string ⟨#[]⟩,.int .i64 0,.slice none 0 0,.slice none 0 0,.slice none 0 0,.slice none 0 0,.slice none 0 0,.slice none 0 0,.int .i64 0,.slice none 0 0,.slice none 0 0,.slice none 0 0,.slice none 0 0,.slice none 0 0,.int .i64 0] 44 (0,0))).cell? ⟨w.heap.size,8,none⟩=some sv.fini:=by rw [Lib.cell_of_heap HX2.out];rfl
 generalize (w.alloc (.cells #[.string ⟨s.name.toArray⟩,.int .i64 s.flags,sv.needed,sv.runPath,sv.funcs,sv.vars,sv.weak,sv.init,sv.fini] 28 (0,0))).alloc (.cells #[.string ⟨#[]⟩,.int .i64 0,.slice none 0 0,.slice none 0 0,.slice none 0 0,.slice none 0 0,.slice none 0 0,.slice none 0 0,.int .i64 0,.slice none 0 0,.slice none 0 0,.slice none 0 0,.slice none 0 0,.slice none 0 0,.int .i64 0] 44 (0,0))=w2 at *
 obtain⟨xb,hxb⟩:∃ xb,xb=w.heap.size:=⟨_,rfl⟩
 have HX3:=Lib.hid ((heap_alloc_old w2 (.cells #[.string ⟨s.name.toArray⟩,.int .i64 s.flags,sv.needed,sv.runPath,sv.funcs,sv.vars,sv.weak,sv.init,sv.fini,.slice none 0 0,.int .i64 0,.slice none 0 0,.slice none 0 0,.int .i64 0] 81 (0,0)) (r:=w.heap.size) (by have:=Hz2.out;omega)).trans HX2.out)
 have HR3:=Lib.hid ((heap_alloc_old w2 (.cells #[.string ⟨s.name.toArray⟩,.int .i64 s.flags,sv.needed,sv.runPath,sv.funcs,sv.vars,sv.weak,sv.init,sv.fini,.slice none 0 0,.int .i64 0,.slice none 0 0,.slice none 0 0,.int .i64 0] 81 (0,0)) (r:=w.heap.size+1) (by have:=Hz2.out;omega)).trans HR2.out)
 have HP3:Hid ((w2.alloc (.cells #[.string ⟨s.name.toArray⟩,.int .i64 s.flags,sv.needed,sv.runPath,sv.funcs,sv.vars,sv.weak,sv.init,sv.fini,.slice none 0 0,.int .i64 0,.slice none 0 0,.slice none 0 0,.int .i64 0] 81 (0,0))).heap[w.heap.size+2]? =some (.cells #[.string ⟨s.name.toArray⟩,.int .i64 s.flags,sv.needed,sv.runPath,sv.funcs,sv.vars,sv.weak,sv.init,sv.fini,.slice none 0 0,.int .i64 0,.slice none 0 0,.slice none 0 0,.int .i64 0] 81 (0,0))):=Lib.hid (by
  have h:=heap_alloc_new w2 (.cells #[.string ⟨s.name.toArray⟩,.int .i64 s.flags,sv.needed,sv.runPath,sv.funcs,sv.vars,sv.weak,sv.init,sv.fini,.slice none 0 0,.int .i64 0,.slice none 0 0,.slice none 0 0,.int .i64 0] 81 (0,0))
  rwa [Hz2.out]at h)
 have HB3:=Lib.hid (HB2.out.alloc (by have:=Hz2.out;omega) (.cells #[.string ⟨s.name.toArray⟩,.int .i64 s.flags,sv.needed,sv.runPath,sv.funcs,sv.vars,sv.weak,sv.init,sv.fini,.slice none 0 0,.int .i64 0,.slice none 0 0,.slice none 0 0,.int .i64 0] 81 (0,0)))
 have HM3:Hid (PlanM w.heap.size (w.heap.size+2) (w2.alloc (.cells #[.string ⟨s.name.toArray⟩,.int .i64 s.flags,sv.needed,sv.runPath,sv.funcs,sv.vars,sv.weak,sv.init,sv.fini,.slice none 0 0,.int .i64 0,.slice none 0 0,.slice none 0 0,.int .i64 0] 81 (0,0))) sv s 0 ⟨.slice none 0 0,.slice none 0 0,.slice none 0 0⟩ ⟨[],[],[],0⟩):=Lib.hid ⟨HP3.out,by omega,OwnK.nil _ _ _ _ _,OwnK.nil _ _ _ _ _,OwnK.nil _ _ _ _ _⟩
 have hz3:(w2.alloc (.cells #[.string ⟨s.name.toArray⟩,.int .i64 s.flags,sv.needed,sv.runPath,sv.funcs,sv.vars,sv.weak,sv.init,sv.fini,.slice none 0 0,.int .i64 0,.slice none 0 0,.slice none 0 0,.int .i64 0] 81 (0,0))).heap.size=w2.heap.size+1:=by simp
 have Hz3:Hid ((w2.alloc (.cells #[.string ⟨s.name.toArray⟩,.int .i64 s.flags,sv.needed,sv.runPath,sv.funcs,sv.vars,sv.weak,sv.init,sv.fini,.slice none 0 0,.int .i64 0,.slice none 0 0,.slice none 0 0,.int .i64 0] 81 (0,0))).heap.size=w.heap.size+3):=Lib.hid (by rw [hz3,Hz2.out])
 have hno:∀ b,¬ (⟨.slice none 0 0,.slice none 0 0,.slice none 0 0⟩:PlanV).has b:=fun b h=>by
  rcases h with h | h | h<;>simp [Value.ownBlock]at h
 have HKx:Hid (Kept (w.heap.size+2) ⟨.slice none 0 0,.slice none 0 0,.slice none 0 0⟩ (w2.alloc (.cells #[.string ⟨s.name.toArray⟩,.int .i64 s.flags,sv.needed,sv.runPath,sv.funcs,sv.vars,sv.weak,sv.init,sv.fini,.slice none 0 0,.int .i64 0,.slice none 0 0,.slice none 0 0,.int .i64 0] 81 (0,0))) w.heap.size):=Lib.hid ⟨by rw [Hz3.out];omega,by omega,hno _⟩
 have HKr:Hid (Kept (w.heap.size+2) ⟨.slice none 0 0,.slice none 0 0,.slice none 0 0⟩ (w2.alloc (.cells #[.string ⟨s.name.toArray⟩,.int .i64 s.flags,sv.needed,sv.runPath,sv.funcs,sv.vars,sv.weak,sv.init,sv.fini,.slice none 0 0,.int .i64 0,.slice none 0 0,.slice none 0 0,.int .i64 0] 81 (0,0))) (w.heap.size+1)):=Lib.hid ⟨by rw [Hz3.out];omega,by omega,hno _⟩
 clear hz3 hno hxb
 have hpb:w2.heap.size=w.heap.size+2:=Hz2.out
 go_upto_region 2 with fail
 clear c0 c1 c2 c3 c4 c5 c6 c7 c8 hpb
 generalize w2.alloc (.cells #[.string ⟨s.name.toArray⟩,.int .i64 s.flags,sv.needed,sv.runPath,sv.funcs,sv.vars,sv.weak,sv.init,sv.fini,.slice none 0 0,.int .i64 0,.slice none 0 0,.slice none 0 0,.int .i64 0] 81 (0,0))=w3 at *
 have c4:w3.cell? ⟨w.heap.size,4,none⟩=some (.slice fa s.funcs.length fc):=by rw [Lib.cell_of_heap HX3.out,← Hff.out];rfl
 have c5:w3.cell? ⟨w.heap.size,5,none⟩=some (.slice va s.vars.length vc):=by rw [Lib.cell_of_heap HX3.out,← Hvf.out];rfl
 by_cases hb:512<s.funcs.length∨512<s.vars.length
 ·have HE:Hid (buildL s=(imgNone,104)):=Lib.hid (by unfold buildL;rw [if_pos hb])
  by_cases h1:512<s.funcs.length
  ·have h1':(512:Int)<(s.funcs.length:Int):=by omega
   clear hb
   go_wp2_with (refine wpList_store_row rfl 44 (.tmp 2) (.tmp 30) rfl (w.heap.size+1) #[.string ⟨#[]⟩,.int .i64 0,.slice none 0 0,.slice none 0 0,.slice none 0 0,.slice none 0 0,.slice none 0 0,.slice none 0 0,.int .i64 0,.slice none 0 0,.slice none 0 0,.slice none 0 0,.slice none 0 0,.slice none 0 0,.int .i64 0] rfl rfl _ _ HR3.out (by kernel_rfl) rfl (by simp [Value.oneCell']) ?_)
   go_wp2_with fail
   have FR:=Lib.hid (setRow_heap _ (w.heap.size+1) _ #[.string ⟨#[]⟩,.int .i64 0,.slice none 0 0,.slice none 0 0,.slice none 0 0,.slice none 0 0,.slice none 0 0,.slice none 0 0,.int .i64 0,.slice none 0 0,.slice none 0 0,.slice none 0 0,.slice none 0 0,.slice none 0 0,.int .i64 0] _ _ HR3.out)
   refine bodyPost_ret (results_row_tmp rfl _ _ (w.heap.size+1) _ _ _ _ rfl FR.out Try.underlying44 rfl (by kernel_rfl)) rfl ?_
   exact build_none HE.out (below_setRow HB3.out _ _ (by omega))
  ·have h1':¬ (512:Int)<(s.funcs.length:Int):=by omega
   have h2':(512:Int)<(s.vars.length:Int):=by omega
   clear hb
   go_wp2_with (refine wpList_store_row rfl 44 (.tmp 2) (.tmp 30) rfl (w.heap.size+1) #[.string ⟨#[]⟩,.int .i64 0,.slice none 0 0,.slice none 0 0,.slice none 0 0,.slice none 0 0,.slice none 0 0,.slice none 0 0,.int .i64 0,.slice none 0 0,.slice none 0 0,.slice none 0 0,.slice none 0 0,.slice none 0 0,.int .i64 0] rfl rfl _ _ HR3.out (by kernel_rfl) rfl (by simp [Value.oneCell']) ?_)
   go_wp2_with fail
   have FR:=Lib.hid (setRow_heap _ (w.heap.size+1) _ #[.string ⟨#[]⟩,.int .i64 0,.slice none 0 0,.slice none 0 0,.slice none 0 0,.slice none 0 0,.slice none 0 0,.slice none 0 0,.int .i64 0,.slice none 0 0,.slice none 0 0,.slice none 0 0,.slice none 0 0,.slice none 0 0,.int .i64 0] _ _ HR3.out)
   refine bodyPost_ret (results_row_tmp rfl _ _ (w.heap.size+1) _ _ _ _ rfl FR.out Try.underlying44 rfl (by kernel_rfl)) rfl ?_
   exact build_none HE.out (below_setRow HB3.out _ _ (by omega))
 ·have h1':¬ (512:Int)<(s.funcs.length:Int):=by omega
  have h2':¬ (512:Int)<(s.vars.length:Int):=by omega
  have Hb:=Lib.hid hb
  clear hb
  have HC:=Lib.hid (check_any HM3.out (HSp.out.keeps (.of_below HB3.out)) (by rw [Hz3.out];omega) Hfew.out.funcs Hfew.out.vars Hfew.out.lines Hfew.out.refs)
  go_wp2_with fail
  refine HC.out.mono ?_
  rintro e w5 ⟨own,v,rfl,hM5,hs5⟩
  have HM5:=Lib.hid hM5
  have HS5:=Lib.hid hs5
  have HX5:=Lib.hid ((hs5.block HKx.out).trans HX3.out)
  have HR5:=Lib.hid ((hs5.block HKr.out).trans HR3.out)
  have HB5:=Lib.hid (HB3.out.trans (hs5.low HM3.out (by rw [Hz3.out];omega)))
  have HKx5:=Lib.hid (hs5.kept HKx.out)
  have HKr5:=Lib.hid (hs5.kept HKr.out)
  have c13:=hM5.c13
  clear hM5 hs5 c4 c5
  by_cases hf:(checkL s).fault=0
  ·have hfb:((checkL s).fault != 0)=false:=by simp [hf]
   have Hf:=Lib.hid hf
   clear hf
   go_wp2_with fail
   exact HK.out _ w5 own v ⟨by kernel_rfl,rfl,(by kernel_rfl),(by kernel_rfl),(by kernel_rfl),(by kernel_rfl),trivial⟩ ⟨HM5.out,HSp.out,HB5.out,HX5.out,HR5.out,HKx5.out,HKr5.out,by have:=Hb.out;omega,Hf.out⟩
  ·have hfb:((checkL s).fault != 0)=true:=by simp [hf]
   have HE:Hid (buildL s=(imgNone,(checkL s).fault)):=Lib.hid (by unfold buildL;rw [if_neg Hb.out,if_pos hf])
   generalize (checkL s).fault=ft at *
   clear hf
   have fr0:=HR5.out
   go_upto_region 6 with fail
   refine wp_region_phase 6 (by kernel_rfl) (by kernel_rfl) ?_
   simp only [List.take_succ_cons,List.take_zero,List.drop_succ_cons,List.drop_zero,List.take_nil,List.drop_nil]
   refine wpAny_of_held (S:=fun w':World=>w'.cell? ⟨w.heap.size+2,13,none⟩=some (.int .i64 ft)) _ _ _ _ ?_
   have hHeld:(fun w':World=>w'.cell? ⟨w.heap.size+2,13,none⟩=some (.int .i64 ft)) (World.drew w5):=(c13)
   show wpAnyH _ _ _ _ _ _ _ _ (World.drew _)
   have HRd:Hid ((World.drew w5).heap[w.heap.size+1]? =some (.cells #[.string ⟨#[]⟩,.int .i64 0,.slice none 0 0,.slice none 0 0,.slice none 0 0,.slice none 0 0,.slice none 0 0,.slice none 0 0,.int .i64 0,.slice none 0 0,.slice none 0 0,.slice none 0 0,.slice none 0 0,.slice none 0 0,.int .i64 0] 44 (0,0))):=Lib.hid HR5.out
   have HBd:=Lib.hid (HB5.out.drew)
   clear c13 fr0
   generalize (World.drew w5)=wd at HRd HBd hHeld ⊢
   refine wpAnyH_take (i:=0) (v:= ?_) rfl (by kernel_rfl) (by kernel_rfl) (by kernel_rfl) (fun _ _ _ h=>h) (Or.inl ⟨by rfl,?_⟩) hHeld ?_
   rotate_left
   ·(intro w hSw;(try dsimp only at hSw);go_simp;try with_reducible rfl)
   simp only [List.getElem_toArray,List.getElem_cons_zero,List.getElem_cons_succ,Act.put,List.setIfInBounds_toArray,List.set_cons_zero,List.set_cons_succ]
   refine wpAnyH_take (i:=1) (v:= ?_) rfl (by kernel_rfl) (by kernel_rfl) (by kernel_rfl) (fun _ _ _ h=>h) (Or.inl ⟨by rfl,?_⟩) hHeld ?_
   rotate_left
   ·(intro w hSw;(try dsimp only at hSw);go_simp;try with_reducible rfl)
   simp only [List.getElem_toArray,List.getElem_cons_zero,List.getElem_cons_succ,Act.put,List.setIfInBounds_toArray,List.set_cons_zero,List.set_cons_succ]
   refine wpAnyH_take (i:=2) (v:= ?_) rfl (by kernel_rfl) (by kernel_rfl) (by kernel_rfl) (fun _ _ _ h=>h) (Or.inl ⟨by rfl,?_⟩) hHeld ?_
   rotate_left
   ·(intro w hSw;(try dsimp only at hSw);go_simp;try with_reducible rfl)
   simp only [List.getElem_toArray,List.getElem_cons_zero,List.getElem_cons_succ,Act.put,List.setIfInBounds_toArray,List.set_cons_zero,List.set_cons_succ]
   refine wpAnyH_take (i:=3) (v:= ?_) rfl (by kernel_rfl) (by kernel_rfl) (by kernel_rfl) (fun _ _ _ h=>h) (Or.inl ⟨by rfl,?_⟩) hHeld ?_
   rotate_left
   ·(intro w hSw;(try dsimp only at hSw);go_simp;try with_reducible rfl)
   simp only [List.getElem_toArray,List.getElem_cons_zero,List.getElem_cons_succ,Act.put,List.setIfInBounds_toArray,List.set_cons_zero,List.set_cons_succ]
   refine wpAnyH_take (i:=4) (v:= ?_) rfl (by kernel_rfl) (by kernel_rfl) (by kernel_rfl) (fun _ _ _ h=>h) (Or.inl ⟨by rfl,?_⟩) hHeld ?_
   rotate_left
   ·(intro w hSw;(try dsimp only at hSw);go_simp;try with_reducible rfl)
   simp only [List.getElem_toArray,List.getElem_cons_zero,List.getElem_cons_succ,Act.put,List.setIfInBounds_toArray,List.set_cons_zero,List.set_cons_succ]
   refine wpAnyH_ready (rs:=[5]) (by kernel_rfl) (by simp) ?_
   refine AllReadyH.cons rfl (fun K hK=> ?_) AllReadyH.nil
   refine wp_store_row 44 (.tmp 2) (.tmp 38) rfl (w.heap.size+1) #[.string ⟨#[]⟩,.int .i64 0,.slice none 0 0,.slice none 0 0,.slice none 0 0,.slice none 0 0,.slice none 0 0,.slice none 0 0,.int .i64 0,.slice none 0 0,.slice none 0 0,.slice none 0 0,.slice none 0 0,.slice none 0 0,.int .i64 0] rfl rfl _ _ HRd.out (by kernel_rfl) rfl (by simp [Value.oneCell']) ?_
   refine hK.out _ _ ((World.cell?_of_block (setRow_other _ (w.heap.size+1) (w.heap.size+2) _ (by omega))).trans hHeld) (fun hHeld=> ?_)
   clear hK K
   try simp only [List.getElem_toArray,List.getElem_cons_zero,List.getElem_cons_succ,Act.put,List.setIfInBounds_toArray,List.set_cons_zero,List.set_cons_succ]
   refine wpAnyH_done (by kernel_rfl) ?_ _
   simp only [phaseQ]
   clear hHeld
   go_wp2_with fail
   have FR:=Lib.hid (setRow_heap _ (w.heap.size+1) _ #[.string ⟨#[]⟩,.int .i64 0,.slice none 0 0,.slice none 0 0,.slice none 0 0,.slice none 0 0,.slice none 0 0,.slice none 0 0,.int .i64 0,.slice none 0 0,.slice none 0 0,.slice none 0 0,.slice none 0 0,.slice none 0 0,.int .i64 0] _ _ HRd.out)
   refine bodyPost_ret (results_row_tmp rfl _ _ (w.heap.size+1) _ _ _ _ rfl FR.out Try.underlying44 rfl (by kernel_rfl)) rfl ?_
   exact build_none HE.out (below_setRow HBd.out _ _ (by omega))
end Go.Proofs.Ytpomdoliblilfaa
