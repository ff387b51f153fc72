/- Lemmas. -/
import Derived.Test.YtpomdoliblilfaaBld19
import Derived.Test.YtpomdoliblilfaaBld4
namespace Go.Proofs.Ytpomdoliblilfaa
set_option linter.unusedVariables false
set_option linter.unusedSimpArgs false
open Go.RowKit
theorem flat_get {α:Type} (f:α→List Value) (k:Nat) (hf:∀ x,(f x).length=k):∀ (l:List α) (i:Nat) (x:α),l[i]? =some x→∀ (j:Nat) (u:Value),(f x)[j]? =some u→(l.flatMap f)[i*k+j]? =some u
 | [],i,x,hx,_,_,_=>by simp at hx
 | z :: l,0,x,hx,j,u,hu=>by
  simp only [List.getElem?_cons_zero,Option.some.injEq]at hx
  subst hx
  have hj:j<(f z).length:=(List.getElem?_eq_some_iff.1 hu).1
  rw [List.flatMap_cons,Nat.zero_mul,Nat.zero_add,List.getElem?_append_left hj];exact hu
 | z :: l,i+1,x,hx,j,u,hu=>by
  simp only [List.getElem?_cons_succ]at hx
  have h:=flat_get f k hf l i x hx j u hu
  have e:(i+1)*k+j=(f z).length+(i*k+j):=by rw [hf z,Nat.add_mul,Nat.one_mul];omega
  rw [List.flatMap_cons,e,List.getElem?_append_right (by omega),Nat.add_sub_cancel_left];exact h
theorem insts_lb (w:World) (l:List InstL) (hl:l.length≤9223372036854775807) (hok:∀ x∈l,InstOk x):LB kInst (fun b=>b=w.heap.size) (w.alloc (.cells (l.flatMap instCells).toArray 65 (0,0))) (.slice (some ⟨w.heap.size,0,none⟩) l.length l.length) l:=by
 refine⟨some ⟨w.heap.size,0,none⟩,w.heap.size,0,l.length,rfl,hl,fun _=>rfl,⟨Nat.le_refl _,fun h=>by cases h⟩,fun _=>rfl,fun i x hx=>⟨instCells x,⟨rfl,hok x (List.mem_of_getElem? hx)⟩,fun j u hu=> ?_⟩⟩
 rw [Lib.cell_of_heap (heap_alloc_new _ _),Nat.zero_add]
 simpa [kInst] using flat_get instCells 5 (fun _=>rfl) l i x hx j u hu
theorem instOk_mk {a b c d e:Int} (h1:In63 a) (h2:In63 b) (h3:In63 c) (h4:In63 d) (h5:In63 e):InstOk ⟨a,b,c,d,e⟩:=⟨h1,h2,h3,h4,h5⟩
def LowersPost (B pb:Nat) (sv:SpecV) (s:SpecL) (own:Int) (v:PlanV) (w:World) (p:PlanL) (l:List InstL) (e:Ending) (w':World):Prop:=
 ∃ v' r,e=.returned r∧PlanM B pb w' sv s own v' p∧PStep pb v v' w w'∧LB kInst (fun b=>w.heap.size≤b∧Kept pb v' w' b) w' r l
theorem LowersPost.mk' {B pb:Nat} {sv:SpecV} {s:SpecL} {own:Int} {v v':PlanV} {w w2:World} {p:PlanL} (l:List InstL) (hM:PlanM B pb w2 sv s own v' p) (hs:PStep pb v v' w w2) (hl:l.length≤9223372036854775807) (hok:∀ x∈l,InstOk x):
  LowersPost B pb sv s own v w p l (.returned (.slice (some ⟨w2.heap.size,0,none⟩) l.length l.length)) (w2.alloc (.cells (l.flatMap instCells).toArray 65 (0,0))):=
 ⟨v',_,rfl,hM.alloc _,hs.trans (PStep.alloc v' w2 _),(insts_lb w2 l hl hok).imp (fun b hb=>by rw [hb];exact⟨hs.step.size,hM.kept_new _⟩)⟩
theorem symHit_from {B pb:Nat} {w:World} {sv:SpecV} {s:SpecL} {own:Int} {v:PlanV} {p:PlanL} {i:Nat} (name ver:List UInt8) (kind:Int) (hM:PlanM B pb w sv s own v p) (hS:SpecM (·<B) w sv s) (hn:Small63 name) (hv:Small63 ver) (hk:In63 kind) (hl:p.syms.length≤1000000) (hB:B≤w.heap.size) (hi:p.syms.findIdx? (meantB name ver)=some i) (w':World) (hb:Below w.heap.size w w'):
  Calls Try.prog 49 #[.pointer (some ⟨pb,0,none⟩),.string ⟨name.toArray⟩,.string ⟨ver.toArray⟩,.int .i64 kind] w' fun r w2=>r=.returned (.int .i64 i)∧Below w.heap.size w' w2:=
 (symHit_any name ver kind (hM.below hb) (hS.keeps (.of_below (hb.mono hB))) hn hv hk hl (by have:=hb.size;omega) hi).mono fun _ _ h=>⟨h.1,h.2.mono hb.size⟩
set_option maxHeartbeats 16000000 in
set_option maxRecDepth 100000 in
theorem lower_any {B pb:Nat} {w:World} {sv:SpecV} {s:SpecL} {own:Int} {v:PlanV} {p:PlanL} {fv vv:Value} {y:LayN} (fa:Option Addr) (fl fc:Nat) (va:Option Addr) (vl vc:Nat) (hfv:fv=.slice fa fl fc) (hvv:vv=.slice va vl vc) (yl:LayL) (hyl:yl.stubs=y.stubs∧yl.got=y.got) (x:LineL) (at_:Int)
  (hM:PlanM B pb w sv s own v p) (hS:SpecM (·<B) w sv s) (hB:B≤w.heap.size) (hx:LineOk x) (hin:LineIn p x) (hsz:p.sz≤999990) (hy:0≤y.got∧y.got≤25000000) (hy2:0≤y.stubs∧y.stubs≤25000000) (ha:0≤at_∧at_≤100000000):
  Calls Try.prog 48 #[.agg (layCells pb fv vv y).toArray,.agg #[.int .i64 x.kind,.int .i64 x.inst.op,.int .i64 x.inst.a,.int .i64 x.inst.b,.int .i64 x.inst.c,.int .i64 x.inst.imm,.int .i64 x.a,.string ⟨x.name.toArray⟩,.string ⟨x.ver.toArray⟩],.int .i64 at_] w (LowersPost B pb sv s own v w p (lowerL s.weak yl x at_ p).2):=by
 subst hfv hvv
 have hM1:=hM.alloc (.cells #[.pointer (some ⟨pb,0,none⟩),.slice fa fl fc,.slice va vl vc,.int .i64 y.stubs,.int .i64 y.got,.int .i64 y.plt,.int .i64 0,.int .i64 y.text,.int .i64 y.data,.int .i64 y.tls] 83)
 have HK1:=Lib.hid ((hM.kept_new (.cells #[.pointer (some ⟨pb,0,none⟩),.slice fa fl fc,.slice va vl vc,.int .i64 y.stubs,.int .i64 y.got,.int .i64 y.plt,.int .i64 0,.int .i64 y.text,.int .i64 y.data,.int .i64 y.tls] 83)).alloc (.cells #[.int .i64 x.kind,.int .i64 x.inst.op,.int .i64 x.inst.a,.int .i64 x.inst.b,.int .i64 x.inst.c,.int .i64 x.inst.imm,.int .i64 x.a,.string ⟨x.name.toArray⟩,.string ⟨x.ver.toArray⟩] 77))
 have HX1:=Lib.hid ((heap_alloc_old (w.alloc (.cells #[.pointer (some ⟨pb,0,none⟩),.slice fa fl fc,.slice va vl vc,.int .i64 y.stubs,.int .i64 y.got,.int .i64 y.plt,.int .i64 0,.int .i64 y.text,.int .i64 y.data,.int .i64 y.tls] 83)) (.cells #[.int .i64 x.kind,.int .i64 x.inst.op,.int .i64 x.inst.a,.int .i64 x.inst.b,.int .i64 x.inst.c,.int .i64 x.inst.imm,.int .i64 x.a,.string ⟨x.name.toArray⟩,.string ⟨x.ver.toArray⟩] 77) (r:=w.heap.size) (by simp)).trans (heap_alloc_new w (.cells #[.pointer (some ⟨pb,0,none⟩),.slice fa fl fc,.slice va vl vc,.int .i64 y.stubs,.int .i64 y.got,.int .i64 y.plt,.int .i64 0,.int .i64 y.text,.int .i64 y.data,.int .i64 y.tls] 83)))
 have HM2:=Lib.hid (hM1.alloc (.cells #[.int .i64 x.kind,.int .i64 x.inst.op,.int .i64 x.inst.a,.int .i64 x.inst.b,.int .i64 x.inst.c,.int .i64 x.inst.imm,.int .i64 x.a,.string ⟨x.name.toArray⟩,.string ⟨x.ver.toArray⟩] 77))
 have HS2:=Lib.hid ((PStep.alloc (pb:=pb) v w (.cells #[.pointer (some ⟨pb,0,none⟩),.slice fa fl fc,.slice va vl vc,.int .i64 y.stubs,.int .i64 y.got,.int .i64 y.plt,.int .i64 0,.int .i64 y.text,.int .i64 y.data,.int .i64 y.tls] 83)).trans (PStep.alloc (pb:=pb) v (w.alloc (.cells #[.pointer (some ⟨pb,0,none⟩),.slice fa fl fc,.slice va vl vc,.int .i64 y.stubs,.int .i64 y.got,.int .i64 y.plt,.int .i64 0,.int .i64 y.text,.int .i64 y.data,.int .i64 y.tls] 83)) (.cells #[.int .i64 x.kind,.int .i64 x.inst.op,.int .i64 x.inst.a,.int .i64 x.inst.b,.int .i64 x.inst.c,.int .i64 x.inst.imm,.int .i64 x.a,.string ⟨x.name.toArray⟩,.string ⟨x.ver.toArray⟩] 77)))
 have HK2:=Lib.hid (hM1.kept_new (.cells #[.int .i64 x.kind,.int .i64 x.inst.op,.int .i64 x.inst.a,.int .i64 x.inst.b,.int .i64 x.inst.c,.int .i64 x.inst.imm,.int .i64 x.a,.string ⟨x.name.toArray⟩,.string ⟨x.ver.toArray⟩] 77))
 have HX2:=Lib.hid (heap_alloc_new (w.alloc (.cells #[.pointer (some ⟨pb,0,none⟩),.slice fa fl fc,.slice va vl vc,.int .i64 y.stubs,.int .i64 y.got,.int .i64 y.plt,.int .i64 0,.int .i64 y.text,.int .i64 y.data,.int .i64 y.tls] 83)) (.cells #[.int .i64 x.kind,.int .i64 x.inst.op,.int .i64 x.inst.a,.int .i64 x.inst.b,.int .i64 x.inst.c,.int .i64 x.inst.imm,.int .i64 x.a,.string ⟨x.name.toArray⟩,.string ⟨x.ver.toArray⟩] 77))
 have HSp:=Lib.hid (hS.keeps (.of_below (((Below.refl B w).alloc hB (.cells #[.pointer (some ⟨pb,0,none⟩),.slice fa fl fc,.slice va vl vc,.int .i64 y.stubs,.int .i64 y.got,.int .i64 y.plt,.int .i64 0,.int .i64 y.text,.int .i64 y.data,.int .i64 y.tls] 83)).alloc (by simp;omega) (.cells #[.int .i64 x.kind,.int .i64 x.inst.op,.int .i64 x.inst.a,.int .i64 x.inst.b,.int .i64 x.inst.c,.int .i64 x.inst.imm,.int .i64 x.a,.string ⟨x.name.toArray⟩,.string ⟨x.ver.toArray⟩] 77))))
 have hz2:w.heap.size+1<((w.alloc (.cells #[.pointer (some ⟨pb,0,none⟩),.slice fa fl fc,.slice va vl vc,.int .i64 y.stubs,.int .i64 y.got,.int .i64 y.plt,.int .i64 0,.int .i64 y.text,.int .i64 y.data,.int .i64 y.tls] 83)).alloc (.cells #[.int .i64 x.kind,.int .i64 x.inst.op,.int .i64 x.inst.a,.int .i64 x.inst.b,.int .i64 x.inst.c,.int .i64 x.inst.imm,.int .i64 x.a,.string ⟨x.name.toArray⟩,.string ⟨x.ver.toArray⟩] 77)).heap.size:=by simp
 have Hx:=Lib.hid hx
 have Hsz:=Lib.hid hsz
 have hk:=hx.kind
 have hpl:=hM.lt
 have Hin:=Lib.hid hin
 have Hyl:=Lib.hid hyl
 rw [World.size_alloc]at HK2 HX2
 clear hM hM1 hS hx hin hsz hyl
 show Calls Try.prog 48 #[.agg #[.pointer (some ⟨pb,0,none⟩),.slice fa fl fc,.slice va vl vc,.int .i64 y.stubs,.int .i64 y.got,.int .i64 y.plt,.int .i64 0,.int .i64 y.text,.int .i64 y.data,.int .i64 y.tls],.agg #[.int .i64 x.kind,.int .i64 x.inst.op,.int .i64 x.inst.a,.int .i64 x.inst.b,.int .i64 x.inst.c,.int .i64 x.inst.imm,.int .i64 x.a,.string ⟨x.name.toArray⟩,.string ⟨x.ver.toArray⟩],.int .i64 at_] w _
 go_enter Try.func48,Try.ntmps48
 go_upto_region 2 with fail
 generalize hw2:(w.alloc (.cells #[.pointer (some ⟨pb,0,none⟩),.slice fa fl fc,.slice va vl vc,.int .i64 y.stubs,.int .i64 y.got,.int .i64 y.plt,.int .i64 0,.int .i64 y.text,.int .i64 y.data,.int .i64 y.tls] 83)).alloc (.cells #[.int .i64 x.kind,.int .i64 x.inst.op,.int .i64 x.inst.a,.int .i64 x.inst.b,.int .i64 x.inst.c,.int .i64 x.inst.imm,.int .i64 x.a,.string ⟨x.name.toArray⟩,.string ⟨x.ver.toArray⟩] 77)=w2 at *
 clear hw2
 obtain⟨xb,hxb⟩:∃ xb,xb=w.heap.size+1:=⟨_,rfl⟩
 obtain⟨lb,hlb⟩:∃ lb,lb=w.heap.size:=⟨_,rfl⟩
 have Hlb:=Lib.hid hlb
 rw [← hxb]at HK2 HX2 hz2 ⊢
 rw [← hlb]at HK1 HX1 ⊢
 have HLB:Hid (LayBox pb lb (.slice fa fl fc) (.slice va vl vc) y v w2):=Lib.hid ⟨HX1.out,HK1.out⟩
 have hBw:B≤w2.heap.size:=by omega
 clear hxb hlb
 have c0:w2.cell? ⟨xb,0,none⟩=some (.int .i64 x.kind):=cells_row HX2.out 0 _ rfl
 by_cases hk1:x.kind=1
 ·obtain⟨i,hi,k,hki⟩:=Hin.out.call hk1
  have HQ:Hid ((lowerL s.weak yl x at_ p).2=[⟨15,0,0,0,y.stubs+24*(k:Int)-at_-8⟩]):=Lib.hid (by
   unfold lowerL
   rw [if_pos hk1]
   simp only [sym_found hi]
   rw [indexL_eq,hki,Hyl.out.1];rfl)
  have HSymF:=Lib.hid (fun (w':World) (hb:Below w2.heap.size w2 w')=>symHit_from (kind:=1) x.name x.ver HM2.out HSp.out Hx.out.name Hx.out.ver (by decide) (by have:=Hsz.out;unfold PlanL.sz at this;omega) hBw hi w' hb)
  have hkl:k≤999990:=by
   obtain⟨h,_⟩:=List.findIdx?_eq_some_iff_getElem.1 hki
   have:=Hsz.out;unfold PlanL.sz at this;omega
  obtain⟨ja,jc,hjf⟩:=HM2.out.jumps.form
  have Hjf:=Lib.hid hjf
  have HIx:=Lib.hid (fun (w':World) (hb:Below w2.heap.size w2 w')=>indexInt_any w' v.jumps p.jumps (i:Int) (HM2.out.below hb).jumps.lb)
  have Hki:=Lib.hid hki
  rw [hk1]at c0
  obtain⟨nj,hnj⟩:∃ nj,nj=p.jumps.length:=⟨_,rfl⟩
  rw [← hnj]at Hjf hjf
  rw [hjf]at HIx
  clear hi hki hjf hk hk1 hnj
  go_upto_region 4 with fail
  clear c0
  refine wp_region_phase 14 (by kernel_rfl) (by kernel_rfl) ?_
  simp only [List.take_succ_cons,List.take_zero,List.drop_succ_cons,List.drop_zero,List.take_nil,List.drop_nil]
  refine wpAny_of_held (S:=fun w':World=>w'.cell? ⟨lb,0,none⟩=some (.pointer (some ⟨pb,0,none⟩))∧w'.cell? ⟨pb,12,none⟩=some (.slice ja nj jc)∧w'.cell? ⟨xb,7,none⟩=some (.string ⟨x.name.toArray⟩)∧w'.cell? ⟨xb,8,none⟩=some (.string ⟨x.ver.toArray⟩)) _ _ _ _ ?_
  have hHeld:(fun w':World=>w'.cell? ⟨lb,0,none⟩=some (.pointer (some ⟨pb,0,none⟩))∧w'.cell? ⟨pb,12,none⟩=some (.slice ja nj jc)∧w'.cell? ⟨xb,7,none⟩=some (.string ⟨x.name.toArray⟩)∧w'.cell? ⟨xb,8,none⟩=some (.string ⟨x.ver.toArray⟩)) (World.drew w2):=⟨HLB.out.cell 0 _ rfl,HM2.out.c12.trans (by rw [Hjf.out]),cells_row HX2.out 7 _ rfl,cells_row HX2.out 8 _ rfl⟩
  show wpAnyH _ _ _ _ _ _ _ _ (World.drew _)
  have HBd:=Lib.hid (Below.refl w2.heap.size w2).drew
  have HSd:Hid (Calls Try.prog 49 #[.pointer (some ⟨pb,0,none⟩),.string ⟨x.name.toArray⟩,.string ⟨x.ver.toArray⟩,.int .i64 1] (World.drew w2) fun r w'=>r=.returned (.int .i64 i)∧Below w2.heap.size (World.drew w2) w'):=Lib.hid (HSymF.out _ HBd.out)
  generalize (World.drew w2)=wd at HBd HSd hHeld ⊢
  refine wpAnyH_take (i:=0) (v:= ?_) rfl (by kernel_rfl) (by kernel_rfl) (by kernel_rfl) (fun _ _ _ h=>h) (Or.inl ⟨by rfl,?_⟩) hHeld ?_
  rotate_left
  ·(intro w hSw;(try dsimp only at hSw);go_simp;try with_reducible rfl)
  simp only [List.getElem_toArray,List.getElem_cons_zero,List.getElem_cons_succ,Act.put,List.setIfInBounds_toArray,List.set_cons_zero,List.set_cons_succ]
  refine wpAnyH_take (i:=1) (v:= ?_) rfl (by kernel_rfl) (by kernel_rfl) (by kernel_rfl) (fun _ _ _ h=>h) (Or.inl ⟨by rfl,?_⟩) hHeld ?_
  rotate_left
  ·(intro w hSw;(try dsimp only at hSw);go_simp;try with_reducible rfl)
  simp only [List.getElem_toArray,List.getElem_cons_zero,List.getElem_cons_succ,Act.put,List.setIfInBounds_toArray,List.set_cons_zero,List.set_cons_succ]
  refine wpAnyH_take (i:=2) (v:= ?_) rfl (by kernel_rfl) (by kernel_rfl) (by kernel_rfl) (fun _ _ _ h=>h) (Or.inl ⟨by rfl,?_⟩) hHeld ?_
  rotate_left
  ·(intro w hSw;(try dsimp only at hSw);go_simp;try with_reducible rfl)
  simp only [List.getElem_toArray,List.getElem_cons_zero,List.getElem_cons_succ,Act.put,List.setIfInBounds_toArray,List.set_cons_zero,List.set_cons_succ]
  refine wpAnyH_take (i:=3) (v:= ?_) rfl (by kernel_rfl) (by kernel_rfl) (by kernel_rfl) (fun _ _ _ h=>h) (Or.inl ⟨by rfl,?_⟩) hHeld ?_
  rotate_left
  ·(intro w hSw;(try dsimp only at hSw);go_simp;try with_reducible rfl)
  simp only [List.getElem_toArray,List.getElem_cons_zero,List.getElem_cons_succ,Act.put,List.setIfInBounds_toArray,List.set_cons_zero,List.set_cons_succ]
  refine wpAnyH_take (i:=4) (v:= ?_) rfl (by kernel_rfl) (by kernel_rfl) (by kernel_rfl) (fun _ _ _ h=>h) (Or.inl ⟨by rfl,?_⟩) hHeld ?_
  rotate_left
  ·(intro w hSw;(try dsimp only at hSw);go_simp;try with_reducible rfl)
  simp only [List.getElem_toArray,List.getElem_cons_zero,List.getElem_cons_succ,Act.put,List.setIfInBounds_toArray,List.set_cons_zero,List.set_cons_succ]
  refine wpAnyH_take (i:=5) (v:= ?_) rfl (by kernel_rfl) (by kernel_rfl) (by kernel_rfl) (fun _ _ _ h=>h) (Or.inl ⟨by rfl,?_⟩) hHeld ?_
  rotate_left
  ·(intro w hSw;(try dsimp only at hSw);go_simp;try with_reducible rfl)
  simp only [List.getElem_toArray,List.getElem_cons_zero,List.getElem_cons_succ,Act.put,List.setIfInBounds_toArray,List.set_cons_zero,List.set_cons_succ]
  refine wpAnyH_take (i:=6) (v:= ?_) rfl (by kernel_rfl) (by kernel_rfl) (by kernel_rfl) (fun _ _ _ h=>h) (Or.inl ⟨by rfl,?_⟩) hHeld ?_
  rotate_left
  ·(intro w hSw;(try dsimp only at hSw);go_simp;try with_reducible rfl)
  simp only [List.getElem_toArray,List.getElem_cons_zero,List.getElem_cons_succ,Act.put,List.setIfInBounds_toArray,List.set_cons_zero,List.set_cons_succ]
  refine wpAnyH_take (i:=7) (v:= ?_) rfl (by kernel_rfl) (by kernel_rfl) (by kernel_rfl) (fun _ _ _ h=>h) (Or.inl ⟨by rfl,?_⟩) hHeld ?_
  rotate_left
  ·(intro w hSw;(try dsimp only at hSw);go_simp;try with_reducible rfl)
  simp only [List.getElem_toArray,List.getElem_cons_zero,List.getElem_cons_succ,Act.put,List.setIfInBounds_toArray,List.set_cons_zero,List.set_cons_succ]
  refine wpAnyH_take (i:=8) (v:= ?_) rfl (by kernel_rfl) (by kernel_rfl) (by kernel_rfl) (fun _ _ _ h=>h) (Or.inl ⟨by rfl,?_⟩) hHeld ?_
  rotate_left
  ·(intro w hSw;(try dsimp only at hSw);go_simp;try with_reducible rfl)
  simp only [List.getElem_toArray,List.getElem_cons_zero,List.getElem_cons_succ,Act.put,List.setIfInBounds_toArray,List.set_cons_zero,List.set_cons_succ]
  refine wpAnyH_take (i:=9) (v:= ?_) rfl (by kernel_rfl) (by kernel_rfl) (by kernel_rfl) (fun _ _ _ h=>h) (Or.inl ⟨by rfl,?_⟩) hHeld ?_
  rotate_left
  ·(intro w hSw;(try dsimp only at hSw);go_simp;try with_reducible rfl)
  simp only [List.getElem_toArray,List.getElem_cons_zero,List.getElem_cons_succ,Act.put,List.setIfInBounds_toArray,List.set_cons_zero,List.set_cons_succ]
  refine wpAnyH_take (i:=10) (v:= ?_) rfl (by kernel_rfl) (by kernel_rfl) (by kernel_rfl) (fun _ _ _ h=>h) (Or.inl ⟨by rfl,?_⟩) hHeld ?_
  rotate_left
  ·(intro w hSw;(try dsimp only at hSw);go_simp;try with_reducible rfl)
  simp only [List.getElem_toArray,List.getElem_cons_zero,List.getElem_cons_succ,Act.put,List.setIfInBounds_toArray,List.set_cons_zero,List.set_cons_succ]
  refine wpAnyH_ready (rs:=[11]) (by kernel_rfl) (by simp) ?_
  refine AllReadyH.cons rfl (fun K hK=> ?_) AllReadyH.nil
  go_simp
  refine(HSd.out).mono ?_
  rintro e w5 ⟨rfl,hb5⟩
  have HB5:=Lib.hid (HBd.out.trans hb5)
  have hlb:=HLB.out.kept.lt
  have hpb:=HM2.out.lt
  refine hK.out _ _ ⟨(hb5.cell (p:=⟨lb,0,none⟩) hlb).trans hHeld.1,(hb5.cell (p:=⟨pb,12,none⟩) hpb).trans hHeld.2.1,(hb5.cell (p:=⟨xb,7,none⟩) hz2).trans hHeld.2.2.1,(hb5.cell (p:=⟨xb,8,none⟩) hz2).trans hHeld.2.2.2⟩ (fun hHeld=> ?_)
  clear hK K
  try simp only [List.getElem_toArray,List.getElem_cons_zero,List.getElem_cons_succ,Act.put,List.setIfInBounds_toArray,List.set_cons_zero,List.set_cons_succ]
  clear hb5
  refine wpAnyH_ready (rs:=[12]) (by kernel_rfl) (by simp) ?_
  refine AllReadyH.cons rfl (fun K hK=> ?_) AllReadyH.nil
  go_simp
  refine(HIx.out w5 HB5.out).mono ?_
  rintro e w6 ⟨rfl,rfl⟩
  rw [Hki.out]
  refine hK.out _ _ ⟨hHeld.1,hHeld.2.1,hHeld.2.2.1,hHeld.2.2.2⟩ (fun hHeld=> ?_)
  clear hK K
  try simp only [List.getElem_toArray,List.getElem_cons_zero,List.getElem_cons_succ,Act.put,List.setIfInBounds_toArray,List.set_cons_zero,List.set_cons_succ]
  refine wpAnyH_take (i:=13) (v:= ?_) rfl (by kernel_rfl) (by kernel_rfl) (by kernel_rfl) (fun _ _ _ h=>h) (Or.inl ⟨by rfl,?_⟩) hHeld ?_
  rotate_left
  ·(intro w hSw;(try dsimp only at hSw);go_simp;try with_reducible rfl)
  simp only [List.getElem_toArray,List.getElem_cons_zero,List.getElem_cons_succ,Act.put,List.setIfInBounds_toArray,List.set_cons_zero,List.set_cons_succ]
  refine wpAnyH_done (by kernel_rfl) ?_ _
  simp only [phaseQ]
  clear hHeld
  have HB6:=Lib.hid HB5.out
  have c3:w6.cell? ⟨lb,3,none⟩=some (.int .i64 y.stubs):=(HB5.out.cell (p:=⟨lb,3,none⟩) HLB.out.kept.lt).trans (HLB.out.cell 3 _ rfl)
  have hpos:idxV (some k)=(k:Int):=rfl
  rw [hpos]
  have HE:=Lib.hid (LowersPost.mk' (l:=[⟨15,0,0,0,y.stubs+24*(k:Int)-at_-8⟩]) (HM2.out.below HB5.out) (HS2.out.trans (PStep.below HB5.out)) (by simp) (by intro z hz;rw [List.mem_singleton.1 hz];exact instOk_mk (by decide) (by decide) (by decide) (by decide) ⟨by omega,by omega⟩))
  clear hpos
  go_wp2
  go_ret
  rw [HQ.out]
  exact HE.out
 by_cases hk2:x.kind=2
 ·obtain⟨i,hi,k,hki⟩:=Hin.out.addr hk2
  have HQ:Hid ((lowerL s.weak yl x at_ p).2=[⟨11,x.a,0,0,y.got+8*(k:Int)-at_-8⟩]):=Lib.hid (by
   unfold lowerL
   rw [if_neg hk1,if_pos hk2]
   simp only [sym_found hi]
   unfold loadL
   simp only [cell_found hki,Hyl.out.2])
  have HSymF:=Lib.hid (fun (w':World) (hb:Below w2.heap.size w2 w')=>symHit_from (kind:=2) x.name x.ver HM2.out HSp.out Hx.out.name Hx.out.ver (by decide) (by have:=Hsz.out;unfold PlanL.sz at this;omega) hBw hi w' hb)
  have hkl:k≤999990:=by
   obtain⟨h,_⟩:=List.findIdx?_eq_some_iff_getElem.1 hki
   have:=Hsz.out;unfold PlanL.sz at this;omega
  have HLo:=Lib.hid (fun (w':World) (hb:Below w2.heap.size w2 w')=>lower1_any x.a 0 (i:Int) at_ k (HM2.out.below hb) (by have:=hb.size;omega) (HLB.out.below hb HLB.out.kept.lt) hki Hsz.out hy ⟨ha.1,by omega⟩)
  rw [hk2]at c0
  clear hi hki hk hk1 hk2
  go_upto_region 7 with fail
  clear c0
  refine wp_region_phase 14 (by kernel_rfl) (by kernel_rfl) ?_
  simp only [List.take_succ_cons,List.take_zero,List.drop_succ_cons,List.drop_zero,List.take_nil,List.drop_nil]
  refine wpAny_of_held (S:=fun w':World=>w'.cell? ⟨lb,0,none⟩=some (.pointer (some ⟨pb,0,none⟩))∧w'.cell? ⟨xb,6,none⟩=some (.int .i64 x.a)∧w'.cell? ⟨xb,7,none⟩=some (.string ⟨x.name.toArray⟩)∧w'.cell? ⟨xb,8,none⟩=some (.string ⟨x.ver.toArray⟩)) _ _ _ _ ?_
  have hHeld:(fun w':World=>w'.cell? ⟨lb,0,none⟩=some (.pointer (some ⟨pb,0,none⟩))∧w'.cell? ⟨xb,6,none⟩=some (.int .i64 x.a)∧w'.cell? ⟨xb,7,none⟩=some (.string ⟨x.name.toArray⟩)∧w'.cell? ⟨xb,8,none⟩=some (.string ⟨x.ver.toArray⟩)) (World.drew w2):=⟨HLB.out.cell 0 _ rfl,cells_row HX2.out 6 _ rfl,cells_row HX2.out 7 _ rfl,cells_row HX2.out 8 _ rfl⟩
  show wpAnyH _ _ _ _ _ _ _ _ (World.drew _)
  have HBd:=Lib.hid (Below.refl w2.heap.size w2).drew
  have HSd:Hid (Calls Try.prog 49 #[.pointer (some ⟨pb,0,none⟩),.string ⟨x.name.toArray⟩,.string ⟨x.ver.toArray⟩,.int .i64 2] (World.drew w2) fun r w'=>r=.returned (.int .i64 i)∧Below w2.heap.size (World.drew w2) w'):=Lib.hid (HSymF.out _ HBd.out)
  generalize (World.drew w2)=wd at HBd HSd hHeld ⊢
  refine wpAnyH_take (i:=0) (v:= ?_) rfl (by kernel_rfl) (by kernel_rfl) (by kernel_rfl) (fun _ _ _ h=>h) (Or.inl ⟨by rfl,?_⟩) hHeld ?_
  rotate_left
  ·(intro w hSw;(try dsimp only at hSw);go_simp;try with_reducible rfl)
  simp only [List.getElem_toArray,List.getElem_cons_zero,List.getElem_cons_succ,Act.put,List.setIfInBounds_toArray,List.set_cons_zero,List.set_cons_succ]
  refine wpAnyH_take (i:=1) (v:= ?_) rfl (by kernel_rfl) (by kernel_rfl) (by kernel_rfl) (fun _ _ _ h=>h) (Or.inl ⟨by rfl,?_⟩) hHeld ?_
  rotate_left
  ·(intro w hSw;(try dsimp only at hSw);go_simp;try with_reducible rfl)
  simp only [List.getElem_toArray,List.getElem_cons_zero,List.getElem_cons_succ,Act.put,List.setIfInBounds_toArray,List.set_cons_zero,List.set_cons_succ]
  refine wpAnyH_take (i:=2) (v:= ?_) rfl (by kernel_rfl) (by kernel_rfl) (by kernel_rfl) (fun _ _ _ h=>h) (Or.inl ⟨by rfl,?_⟩) hHeld ?_
  rotate_left
  ·(intro w hSw;(try dsimp only at hSw);go_simp;try with_reducible rfl)
  simp only [List.getElem_toArray,List.getElem_cons_zero,List.getElem_cons_succ,Act.put,List.setIfInBounds_toArray,List.set_cons_zero,List.set_cons_succ]
  refine wpAnyH_take (i:=3) (v:= ?_) rfl (by kernel_rfl) (by kernel_rfl) (by kernel_rfl) (fun _ _ _ h=>h) (Or.inl ⟨by rfl,?_⟩) hHeld ?_
  rotate_left
  ·(intro w hSw;(try dsimp only at hSw);go_simp;try with_reducible rfl)
  simp only [List.getElem_toArray,List.getElem_cons_zero,List.getElem_cons_succ,Act.put,List.setIfInBounds_toArray,List.set_cons_zero,List.set_cons_succ]
  refine wpAnyH_take (i:=4) (v:= ?_) rfl (by kernel_rfl) (by kernel_rfl) (by kernel_rfl) (fun _ _ _ h=>h) (Or.inl ⟨by rfl,?_⟩) hHeld ?_
  rotate_left
  ·(intro w hSw;(try dsimp only at hSw);go_simp;try with_reducible rfl)
  simp only [List.getElem_toArray,List.getElem_cons_zero,List.getElem_cons_succ,Act.put,List.setIfInBounds_toArray,List.set_cons_zero,List.set_cons_succ]
  refine wpAnyH_take (i:=5) (v:= ?_) rfl (by kernel_rfl) (by kernel_rfl) (by kernel_rfl) (fun _ _ _ h=>h) (Or.inl ⟨by rfl,?_⟩) hHeld ?_
  rotate_left
  ·(intro w hSw;(try dsimp only at hSw);go_simp;try with_reducible rfl)
  simp only [List.getElem_toArray,List.getElem_cons_zero,List.getElem_cons_succ,Act.put,List.setIfInBounds_toArray,List.set_cons_zero,List.set_cons_succ]
  refine wpAnyH_take (i:=6) (v:= ?_) rfl (by kernel_rfl) (by kernel_rfl) (by kernel_rfl) (fun _ _ _ h=>h) (Or.inl ⟨by rfl,?_⟩) hHeld ?_
  rotate_left
  ·(intro w hSw;(try dsimp only at hSw);go_simp;try with_reducible rfl)
  simp only [List.getElem_toArray,List.getElem_cons_zero,List.getElem_cons_succ,Act.put,List.setIfInBounds_toArray,List.set_cons_zero,List.set_cons_succ]
  refine wpAnyH_take (i:=7) (v:= ?_) rfl (by kernel_rfl) (by kernel_rfl) (by kernel_rfl) (fun _ _ _ h=>h) (Or.inl ⟨by rfl,?_⟩) hHeld ?_
  rotate_left
  ·(intro w hSw;(try dsimp only at hSw);go_simp;try with_reducible rfl)
  simp only [List.getElem_toArray,List.getElem_cons_zero,List.getElem_cons_succ,Act.put,List.setIfInBounds_toArray,List.set_cons_zero,List.set_cons_succ]
  refine wpAnyH_take (i:=8) (v:= ?_) rfl (by kernel_rfl) (by kernel_rfl) (by kernel_rfl) (fun _ _ _ h=>h) (Or.inl ⟨by rfl,?_⟩) hHeld ?_
  rotate_left
  ·(intro w hSw;(try dsimp only at hSw);go_simp;try with_reducible rfl)
  simp only [List.getElem_toArray,List.getElem_cons_zero,List.getElem_cons_succ,Act.put,List.setIfInBounds_toArray,List.set_cons_zero,List.set_cons_succ]
  refine wpAnyH_take (i:=10) (v:= ?_) rfl (by kernel_rfl) (by kernel_rfl) (by kernel_rfl) (fun _ _ _ h=>h) (Or.inl ⟨by rfl,?_⟩) hHeld ?_
  rotate_left
  ·(intro w hSw;(try dsimp only at hSw);go_simp;try with_reducible rfl)
  simp only [List.getElem_toArray,List.getElem_cons_zero,List.getElem_cons_succ,Act.put,List.setIfInBounds_toArray,List.set_cons_zero,List.set_cons_succ]
  refine wpAnyH_ready (rs:=[9]) (by kernel_rfl) (by simp) ?_
  refine AllReadyH.cons rfl (fun K hK=> ?_) AllReadyH.nil
  go_simp
  refine(HSd.out).mono ?_
  rintro e w5 ⟨rfl,hb5⟩
  have HB5:=Lib.hid (HBd.out.trans hb5)
  have hlb:=HLB.out.kept.lt
  refine hK.out _ _ ⟨(hb5.cell (p:=⟨lb,0,none⟩) hlb).trans hHeld.1,(hb5.cell (p:=⟨xb,6,none⟩) hz2).trans hHeld.2.1,(hb5.cell (p:=⟨xb,7,none⟩) hz2).trans hHeld.2.2.1,(hb5.cell (p:=⟨xb,8,none⟩) hz2).trans hHeld.2.2.2⟩ (fun hHeld=> ?_)
  clear hK K
  try simp only [List.getElem_toArray,List.getElem_cons_zero,List.getElem_cons_succ,Act.put,List.setIfInBounds_toArray,List.set_cons_zero,List.set_cons_succ]
  clear hb5
  have HLo5:=Lib.hid (HLo.out w5 HB5.out)
  refine wpAnyH_ready (rs:=[11]) (by kernel_rfl) (by simp) ?_
  refine AllReadyH.cons rfl (fun K hK=> ?_) AllReadyH.nil
  go_simp
  refine(HLo5.out).mono ?_
  rintro e w6 ⟨v6,rfl,hM6,hs6⟩
  have HM6:=Lib.hid hM6
  have HS6:=Lib.hid (HS2.out.trans ((PStep.below HB5.out).trans hs6))
  have hkx:Kept pb v w5 xb:=HK2.out.below HB5.out
  have hXx:=(hs6.block hkx).trans ((HB5.out.block xb hz2).trans HX2.out)
  have hlx:=(HLB.out.below HB5.out HLB.out.kept.lt).step hs6
  refine hK.out _ _ ⟨hlx.cell 0 _ rfl,cells_row hXx 6 _ rfl,cells_row hXx 7 _ rfl,cells_row hXx 8 _ rfl⟩ (fun hHeld=> ?_)
  clear hK K
  try simp only [List.getElem_toArray,List.getElem_cons_zero,List.getElem_cons_succ,Act.put,List.setIfInBounds_toArray,List.set_cons_zero,List.set_cons_succ]
  clear hM6 hs6 hkx
  refine wpAnyH_ready (rs:=[12]) (by kernel_rfl) (by simp) ?_
  refine AllReadyH.cons rfl (fun K hK=> ?_) AllReadyH.nil
  go_simp
  have HE:=Lib.hid (LowersPost.mk' (l:=[⟨11,x.a,0,0,y.got+8*(k:Int)-at_-8⟩]) HM6.out HS6.out (by simp) (by intro z hz;rw [List.mem_singleton.1 hz];exact instOk_mk (by decide) Hx.out.a (by decide) (by decide) ⟨by omega,by omega⟩))
  refine hK.out _ _ ⟨(World.cell?_alloc_lt _ _ _ (World.block_lt_of_cell? _ _ hHeld.1)).trans hHeld.1,(World.cell?_alloc_lt _ _ _ (World.block_lt_of_cell? _ _ hHeld.2.1)).trans hHeld.2.1,(World.cell?_alloc_lt _ _ _ (World.block_lt_of_cell? _ _ hHeld.2.2.1)).trans hHeld.2.2.1,(World.cell?_alloc_lt _ _ _ (World.block_lt_of_cell? _ _ hHeld.2.2.2)).trans hHeld.2.2.2⟩ (fun hHeld=> ?_)
  clear hK K
  try simp only [List.getElem_toArray,List.getElem_cons_zero,List.getElem_cons_succ,Act.put,List.setIfInBounds_toArray,List.set_cons_zero,List.set_cons_succ]
  refine wpAnyH_take (i:=13) (v:= ?_) rfl (by kernel_rfl) (by kernel_rfl) (by kernel_rfl) (fun _ _ _ h=>h) (Or.inl ⟨by rfl,?_⟩) hHeld ?_
  rotate_left
  ·(intro w hSw;(try dsimp only at hSw);go_simp;try with_reducible rfl)
  simp only [List.getElem_toArray,List.getElem_cons_zero,List.getElem_cons_succ,Act.put,List.setIfInBounds_toArray,List.set_cons_zero,List.set_cons_succ]
  refine wpAnyH_done (by kernel_rfl) ?_ _
  simp only [phaseQ]
  clear hHeld
  go_wp2
  go_ret
  rw [HQ.out]
  exact HE.out
 by_cases hk3:x.kind=3
 ·obtain⟨i,hi,⟨k1,hki1⟩,k2,hki2⟩:=Hin.out.tls hk3
  have HQ:Hid ((lowerL s.weak yl x at_ p).2=[⟨11,13,0,0,y.got+8*(k2:Int)-at_-8⟩,⟨11,x.a,0,0,y.got+8*(k1:Int)-(at_+8)-8⟩,⟨21,x.a,13,0,0⟩]):=Lib.hid (by
   unfold lowerL
   rw [if_neg hk1,if_neg hk2,if_pos hk3]
   simp only [sym_found hi]
   unfold loadL
   simp only [cell_found hki1,cell_found hki2,Hyl.out.2])
  have HSymF:=Lib.hid (fun (w':World) (hb:Below w2.heap.size w2 w')=>symHit_from (kind:=3) x.name x.ver HM2.out HSp.out Hx.out.name Hx.out.ver (by decide) (by have:=Hsz.out;unfold PlanL.sz at this;omega) hBw hi w' hb)
  have hkl1:k1≤999990:=by
   obtain⟨h,_⟩:=List.findIdx?_eq_some_iff_getElem.1 hki1
   have:=Hsz.out;unfold PlanL.sz at this;omega
  have hkl2:k2≤999990:=by
   obtain⟨h,_⟩:=List.findIdx?_eq_some_iff_getElem.1 hki2
   have:=Hsz.out;unfold PlanL.sz at this;omega
  have HLo1:=Lib.hid (fun (w':World) (hb:Below w2.heap.size w2 w')=>lower1_any 13 2 (i:Int) at_ k2 (HM2.out.below hb) (by have:=hb.size;omega) (HLB.out.below hb HLB.out.kept.lt) hki2 Hsz.out hy ⟨ha.1,by omega⟩)
  have HLo2:Hid (∀ (v':PlanV) (w':World),PlanM B pb w' sv s own v' p→B≤w'.heap.size→LayBox pb lb (.slice fa fl fc) (.slice va vl vc) y v' w'→Calls Try.prog 84 #[.int .i64 x.a,.int .i64 1,.int .i64 (i:Int),.int .i64 (at_+8),.pointer (some ⟨lb,0,none⟩)] w' (LowPost B pb sv s own v' w' p ⟨11,x.a,0,0,y.got+8*(k1:Int)-(at_+8)-8⟩)):=Lib.hid (fun v' w' hM hB hL=>lower1_any x.a 1 (i:Int) (at_+8) k1 hM hB hL hki1 Hsz.out hy ⟨by omega,by omega⟩)
  rw [hk3]at c0
  clear hi hki1 hki2 hk hk1 hk2 hk3
  have hc0:w2.cell? ⟨lb,0,none⟩=some (.pointer (some ⟨pb,0,none⟩)):=HLB.out.cell 0 _ rfl
  have hc7:w2.cell? ⟨xb,7,none⟩=some (.string ⟨x.name.toArray⟩):=cells_row HX2.out 7 _ rfl
  have hc8:w2.cell? ⟨xb,8,none⟩=some (.string ⟨x.ver.toArray⟩):=cells_row HX2.out 8 _ rfl
  go_wp2_with fail
  refine(HSymF.out w2 (Below.refl _ _)).mono ?_
  rintro e w3 ⟨rfl,hb3⟩
  have HB3:=Lib.hid hb3
  clear hb3 c0 hc0 hc7 hc8
  go_upto_region 10 with fail
  have HM3:=Lib.hid (HM2.out.below HB3.out)
  have HS3:=Lib.hid (HS2.out.trans (PStep.below HB3.out))
  have HLB3:=Lib.hid (HLB.out.below HB3.out HLB.out.kept.lt)
  have HK3:=Lib.hid (HK2.out.below HB3.out)
  have HX3:=Lib.hid ((HB3.out.block xb hz2).trans HX2.out)
  have HL13:=Lib.hid (HLo1.out (World.drew w3) (HB3.out.drew))
  have hz3:B≤w3.heap.size:=by have:=HB3.out.size;omega
  refine wp_region_phase 16 (by kernel_rfl) (by kernel_rfl) ?_
  simp only [List.take_succ_cons,List.take_zero,List.drop_succ_cons,List.drop_zero,List.take_nil,List.drop_nil]
  refine wpAny_of_held (S:=fun w':World=>w'.cell? ⟨xb,6,none⟩=some (.int .i64 x.a)) _ _ _ _ ?_
  have hHeld:(fun w':World=>w'.cell? ⟨xb,6,none⟩=some (.int .i64 x.a)) (World.drew w3):=(cells_row HX3.out 6 _ rfl)
  show wpAnyH _ _ _ _ _ _ _ _ (World.drew _)
  have HS3d:=Lib.hid (HS3.out.trans (PStep.below (pb:=pb) (v:=v) (Below.refl _ w3).drew))
  have HK3d:=Lib.hid (HK3.out.below (Below.refl w3.heap.size w3).drew)
  have HLB3d:=Lib.hid (HLB3.out.step (PStep.below (pb:=pb) (v:=v) (Below.refl _ w3).drew))
  have HX3d:Hid ((World.drew w3).heap[xb]? =some (.cells #[.int .i64 x.kind,.int .i64 x.inst.op,.int .i64 x.inst.a,.int .i64 x.inst.b,.int .i64 x.inst.c,.int .i64 x.inst.imm,.int .i64 x.a,.string ⟨x.name.toArray⟩,.string ⟨x.ver.toArray⟩] 77 (0,0))):=Lib.hid HX3.out
  have hzd:B≤(World.drew w3).heap.size:=hz3
  generalize (World.drew w3)=wd at HL13 HS3d HK3d HLB3d HX3d hzd hHeld ⊢
  have o1:IntKind.i64.wrap (at_+8)=at_+8:=IntWalk.i64_in _ (by omega)
  refine wpAnyH_take (i:=0) (v:= ?_) rfl (by kernel_rfl) (by kernel_rfl) (by kernel_rfl) (fun _ _ _ h=>h) (Or.inl ⟨by rfl,?_⟩) hHeld ?_
  rotate_left
  ·(intro w hSw;(try dsimp only at hSw);go_simp;try with_reducible rfl)
  simp only [List.getElem_toArray,List.getElem_cons_zero,List.getElem_cons_succ,Act.put,List.setIfInBounds_toArray,List.set_cons_zero,List.set_cons_succ]
  refine wpAnyH_take (i:=1) (v:= ?_) rfl (by kernel_rfl) (by kernel_rfl) (by kernel_rfl) (fun _ _ _ h=>h) (Or.inl ⟨by rfl,?_⟩) hHeld ?_
  rotate_left
  ·(intro w hSw;(try dsimp only at hSw);go_simp;try with_reducible rfl)
  simp only [List.getElem_toArray,List.getElem_cons_zero,List.getElem_cons_succ,Act.put,List.setIfInBounds_toArray,List.set_cons_zero,List.set_cons_succ]
  refine wpAnyH_take (i:=2) (v:= ?_) rfl (by kernel_rfl) (by kernel_rfl) (by kernel_rfl) (fun _ _ _ h=>h) (Or.inl ⟨by rfl,?_⟩) hHeld ?_
  rotate_left
  ·(intro w hSw;(try dsimp only at hSw);go_simp;try with_reducible rfl)
  simp only [List.getElem_toArray,List.getElem_cons_zero,List.getElem_cons_succ,Act.put,List.setIfInBounds_toArray,List.set_cons_zero,List.set_cons_succ]
  refine wpAnyH_take (i:=4) (v:= ?_) rfl (by kernel_rfl) (by kernel_rfl) (by kernel_rfl) (fun _ _ _ h=>h) (Or.inl ⟨by rfl,?_⟩) hHeld ?_
  rotate_left
  ·(intro w hSw;(try dsimp only at hSw);go_simp;try with_reducible rfl)
  simp only [List.getElem_toArray,List.getElem_cons_zero,List.getElem_cons_succ,Act.put,List.setIfInBounds_toArray,List.set_cons_zero,List.set_cons_succ]
  refine wpAnyH_take (i:=5) (v:= ?_) rfl (by kernel_rfl) (by kernel_rfl) (by kernel_rfl) (fun _ _ _ h=>h) (Or.inl ⟨by rfl,?_⟩) hHeld ?_
  rotate_left
  ·(intro w hSw;(try dsimp only at hSw);go_simp;try with_reducible rfl)
  simp only [List.getElem_toArray,List.getElem_cons_zero,List.getElem_cons_succ,Act.put,List.setIfInBounds_toArray,List.set_cons_zero,List.set_cons_succ]
  refine wpAnyH_take (i:=6) (v:= ?_) rfl (by kernel_rfl) (by kernel_rfl) (by kernel_rfl) (fun _ _ _ h=>h) (Or.inl ⟨by rfl,?_⟩) hHeld ?_
  rotate_left
  ·(intro w hSw;(try dsimp only at hSw);go_simp;try with_reducible rfl)
  simp only [List.getElem_toArray,List.getElem_cons_zero,List.getElem_cons_succ,Act.put,List.setIfInBounds_toArray,List.set_cons_zero,List.set_cons_succ]
  refine wpAnyH_take (i:=7) (v:= ?_) rfl (by kernel_rfl) (by kernel_rfl) (by kernel_rfl) (fun _ _ _ h=>h) (Or.inl ⟨by rfl,?_⟩) hHeld ?_
  rotate_left
  ·(intro w hSw;(try dsimp only at hSw);go_simp;try with_reducible rfl)
  simp only [List.getElem_toArray,List.getElem_cons_zero,List.getElem_cons_succ,Act.put,List.setIfInBounds_toArray,List.set_cons_zero,List.set_cons_succ]
  refine wpAnyH_take (i:=8) (v:= ?_) rfl (by kernel_rfl) (by kernel_rfl) (by kernel_rfl) (fun _ _ _ h=>h) (Or.inl ⟨by rfl,?_⟩) hHeld ?_
  rotate_left
  ·(intro w hSw;(try dsimp only at hSw);go_simp;try with_reducible rfl)
  simp only [List.getElem_toArray,List.getElem_cons_zero,List.getElem_cons_succ,Act.put,List.setIfInBounds_toArray,List.set_cons_zero,List.set_cons_succ]
  refine wpAnyH_take (i:=9) (v:= ?_) rfl (by kernel_rfl) (by kernel_rfl) (by kernel_rfl) (fun _ _ _ h=>h) (Or.inl ⟨by rfl,?_⟩) hHeld ?_
  rotate_left
  ·(intro w hSw;(try dsimp only at hSw);go_simp;try with_reducible rfl)
  simp only [List.getElem_toArray,List.getElem_cons_zero,List.getElem_cons_succ,Act.put,List.setIfInBounds_toArray,List.set_cons_zero,List.set_cons_succ]
  refine wpAnyH_take (i:=11) (v:= ?_) rfl (by kernel_rfl) (by kernel_rfl) (by kernel_rfl) (fun _ _ _ h=>h) (Or.inl ⟨by rfl,?_⟩) hHeld ?_
  rotate_left
  ·(intro w hSw;(try dsimp only at hSw);go_simp;try with_reducible rfl)
  simp only [List.getElem_toArray,List.getElem_cons_zero,List.getElem_cons_succ,Act.put,List.setIfInBounds_toArray,List.set_cons_zero,List.set_cons_succ]
  refine wpAnyH_take (i:=12) (v:= ?_) rfl (by kernel_rfl) (by kernel_rfl) (by kernel_rfl) (fun _ _ _ h=>h) (Or.inl ⟨by rfl,?_⟩) hHeld ?_
  rotate_left
  ·(intro w hSw;(try dsimp only at hSw);go_simp;try with_reducible rfl)
  simp only [List.getElem_toArray,List.getElem_cons_zero,List.getElem_cons_succ,Act.put,List.setIfInBounds_toArray,List.set_cons_zero,List.set_cons_succ]
  refine wpAnyH_take (i:=13) (v:= ?_) rfl (by kernel_rfl) (by kernel_rfl) (by kernel_rfl) (fun _ _ _ h=>h) (Or.inl ⟨by rfl,?_⟩) hHeld ?_
  rotate_left
  ·(intro w hSw;(try dsimp only at hSw);go_simp;try with_reducible rfl)
  simp only [List.getElem_toArray,List.getElem_cons_zero,List.getElem_cons_succ,Act.put,List.setIfInBounds_toArray,List.set_cons_zero,List.set_cons_succ]
  clear o1
  refine wpAnyH_ready (rs:=[3]) (by kernel_rfl) (by simp) ?_
  refine AllReadyH.cons rfl (fun K hK=> ?_) AllReadyH.nil
  go_simp
  refine(HL13.out).mono ?_
  rintro e w6 ⟨v6,rfl,hM6,hs6⟩
  have HM6:=Lib.hid hM6
  have HS6:=Lib.hid (HS3d.out.trans hs6)
  have HL6:=Lib.hid (HLB3d.out.step hs6)
  have HK6:=Lib.hid (hs6.kept HK3d.out)
  have HX6:=Lib.hid ((hs6.block HK3d.out).trans HX3d.out)
  have hz6:=hs6.step.size
  refine hK.out _ _ (cells_row HX6.out 6 _ rfl) (fun hHeld=> ?_)
  clear hK K
  try simp only [List.getElem_toArray,List.getElem_cons_zero,List.getElem_cons_succ,Act.put,List.setIfInBounds_toArray,List.set_cons_zero,List.set_cons_succ]
  clear hM6 hs6
  have HL26:=Lib.hid (HLo2.out v6 w6 HM6.out (by omega) HL6.out)
  refine wpAnyH_ready (rs:=[10]) (by kernel_rfl) (by simp) ?_
  refine AllReadyH.cons rfl (fun K hK=> ?_) AllReadyH.nil
  go_simp
  refine(HL26.out).mono ?_
  rintro e w7 ⟨v7,rfl,hM7,hs7⟩
  have HM7:=Lib.hid hM7
  have HS7:=Lib.hid (HS6.out.trans hs7)
  have HX7:=Lib.hid ((hs7.block HK6.out).trans HX6.out)
  refine hK.out _ _ (cells_row HX7.out 6 _ rfl) (fun hHeld=> ?_)
  clear hK K
  try simp only [List.getElem_toArray,List.getElem_cons_zero,List.getElem_cons_succ,Act.put,List.setIfInBounds_toArray,List.set_cons_zero,List.set_cons_succ]
  clear hM7 hs7
  refine wpAnyH_ready (rs:=[14]) (by kernel_rfl) (by simp) ?_
  refine AllReadyH.cons rfl (fun K hK=> ?_) AllReadyH.nil
  go_simp
  have HE:=Lib.hid (LowersPost.mk' (l:=[⟨11,13,0,0,y.got+8*(k2:Int)-at_-8⟩,⟨11,x.a,0,0,y.got+8*(k1:Int)-(at_+8)-8⟩,⟨21,x.a,13,0,0⟩]) HM7.out HS7.out (by simp) (by intro z hz;simp only [List.mem_cons,List.not_mem_nil,or_false]at hz;rcases hz with rfl | rfl | rfl;exact instOk_mk (by decide) (by decide) (by decide) (by decide) ⟨by omega,by omega⟩;exact instOk_mk (by decide) Hx.out.a (by decide) (by decide) ⟨by omega,by omega⟩;exact instOk_mk (by decide) Hx.out.a (by decide) (by decide) (by decide)))
  refine hK.out _ _ ((World.cell?_alloc_lt _ _ _ (World.block_lt_of_cell? _ _ hHeld)).trans hHeld) (fun hHeld=> ?_)
  clear hK K
  try simp only [List.getElem_toArray,List.getElem_cons_zero,List.getElem_cons_succ,Act.put,List.setIfInBounds_toArray,List.set_cons_zero,List.set_cons_succ]
  refine wpAnyH_take (i:=15) (v:= ?_) rfl (by kernel_rfl) (by kernel_rfl) (by kernel_rfl) (fun _ _ _ h=>h) (Or.inl ⟨by rfl,?_⟩) hHeld ?_
  rotate_left
  ·(intro w hSw;(try dsimp only at hSw);go_simp;try with_reducible rfl)
  simp only [List.getElem_toArray,List.getElem_cons_zero,List.getElem_cons_succ,Act.put,List.setIfInBounds_toArray,List.set_cons_zero,List.set_cons_succ]
  refine wpAnyH_done (by kernel_rfl) ?_ _
  simp only [phaseQ]
  clear hHeld
  go_wp2
  go_ret
  rw [HQ.out]
  exact HE.out
 by_cases hk4:x.kind=4
 ·obtain⟨i,hi,k,hki⟩:=Hin.out.tp hk4
  have HQ:Hid ((lowerL s.weak yl x at_ p).2=[⟨11,13,0,0,y.got+8*(k:Int)-at_-8⟩,⟨20,x.a,0,0,0⟩,⟨3,x.a,x.a,13,0⟩]):=Lib.hid (by
   unfold lowerL
   rw [if_neg hk1,if_neg hk2,if_neg hk3,if_pos hk4]
   simp only [sym_found hi]
   unfold loadL
   simp only [cell_found hki,Hyl.out.2])
  have HSymF:=Lib.hid (fun (w':World) (hb:Below w2.heap.size w2 w')=>symHit_from (kind:=3) x.name x.ver HM2.out HSp.out Hx.out.name Hx.out.ver (by decide) (by have:=Hsz.out;unfold PlanL.sz at this;omega) hBw hi w' hb)
  have hkl:k≤999990:=by
   obtain⟨h,_⟩:=List.findIdx?_eq_some_iff_getElem.1 hki
   have:=Hsz.out;unfold PlanL.sz at this;omega
  have HLo1:=Lib.hid (fun (w':World) (hb:Below w2.heap.size w2 w')=>lower1_any 13 3 (i:Int) at_ k (HM2.out.below hb) (by have:=hb.size;omega) (HLB.out.below hb HLB.out.kept.lt) hki Hsz.out hy ⟨ha.1,by omega⟩)
  rw [hk4]at c0
  clear hi hki hk hk1 hk2 hk3 hk4
  have hc0:w2.cell? ⟨lb,0,none⟩=some (.pointer (some ⟨pb,0,none⟩)):=HLB.out.cell 0 _ rfl
  have hc7:w2.cell? ⟨xb,7,none⟩=some (.string ⟨x.name.toArray⟩):=cells_row HX2.out 7 _ rfl
  have hc8:w2.cell? ⟨xb,8,none⟩=some (.string ⟨x.ver.toArray⟩):=cells_row HX2.out 8 _ rfl
  go_wp2_with fail
  refine(HSymF.out w2 (Below.refl _ _)).mono ?_
  rintro e w3 ⟨rfl,hb3⟩
  have HB3:=Lib.hid hb3
  clear hb3 c0 hc0 hc7 hc8
  go_upto_region 13 with fail
  have HS3:=Lib.hid (HS2.out.trans (PStep.below HB3.out))
  have HK3:=Lib.hid (HK2.out.below HB3.out)
  have HX3:=Lib.hid ((HB3.out.block xb hz2).trans HX2.out)
  have HL13:=Lib.hid (HLo1.out (World.drew w3) (HB3.out.drew))
  refine wp_region_phase 14 (by kernel_rfl) (by kernel_rfl) ?_
  simp only [List.take_succ_cons,List.take_zero,List.drop_succ_cons,List.drop_zero,List.take_nil,List.drop_nil]
  refine wpAny_of_held (S:=fun w':World=>w'.cell? ⟨xb,6,none⟩=some (.int .i64 x.a)) _ _ _ _ ?_
  have hHeld:(fun w':World=>w'.cell? ⟨xb,6,none⟩=some (.int .i64 x.a)) (World.drew w3):=(cells_row HX3.out 6 _ rfl)
  show wpAnyH _ _ _ _ _ _ _ _ (World.drew _)
  have HS3d:=Lib.hid (HS3.out.trans (PStep.below (pb:=pb) (v:=v) (Below.refl _ w3).drew))
  have HK3d:=Lib.hid (HK3.out.below (Below.refl w3.heap.size w3).drew)
  have HX3d:Hid ((World.drew w3).heap[xb]? =some (.cells #[.int .i64 x.kind,.int .i64 x.inst.op,.int .i64 x.inst.a,.int .i64 x.inst.b,.int .i64 x.inst.c,.int .i64 x.inst.imm,.int .i64 x.a,.string ⟨x.name.toArray⟩,.string ⟨x.ver.toArray⟩] 77 (0,0))):=Lib.hid HX3.out
  generalize (World.drew w3)=wd at HL13 HS3d HK3d HX3d hHeld ⊢
  refine wpAnyH_take (i:=0) (v:= ?_) rfl (by kernel_rfl) (by kernel_rfl) (by kernel_rfl) (fun _ _ _ h=>h) (Or.inl ⟨by rfl,?_⟩) hHeld ?_
  rotate_left
  ·(intro w hSw;(try dsimp only at hSw);go_simp;try with_reducible rfl)
  simp only [List.getElem_toArray,List.getElem_cons_zero,List.getElem_cons_succ,Act.put,List.setIfInBounds_toArray,List.set_cons_zero,List.set_cons_succ]
  refine wpAnyH_take (i:=1) (v:= ?_) rfl (by kernel_rfl) (by kernel_rfl) (by kernel_rfl) (fun _ _ _ h=>h) (Or.inl ⟨by rfl,?_⟩) hHeld ?_
  rotate_left
  ·(intro w hSw;(try dsimp only at hSw);go_simp;try with_reducible rfl)
  simp only [List.getElem_toArray,List.getElem_cons_zero,List.getElem_cons_succ,Act.put,List.setIfInBounds_toArray,List.set_cons_zero,List.set_cons_succ]
  refine wpAnyH_take (i:=2) (v:= ?_) rfl (by kernel_rfl) (by kernel_rfl) (by kernel_rfl) (fun _ _ _ h=>h) (Or.inl ⟨by rfl,?_⟩) hHeld ?_
  rotate_left
  ·(intro w hSw;(try dsimp only at hSw);go_simp;try with_reducible rfl)
  simp only [List.getElem_toArray,List.getElem_cons_zero,List.getElem_cons_succ,Act.put,List.setIfInBounds_toArray,List.set_cons_zero,List.set_cons_succ]
  refine wpAnyH_take (i:=4) (v:= ?_) rfl (by kernel_rfl) (by kernel_rfl) (by kernel_rfl) (fun _ _ _ h=>h) (Or.inl ⟨by rfl,?_⟩) hHeld ?_
  rotate_left
  ·(intro w hSw;(try dsimp only at hSw);go_simp;try with_reducible rfl)
  simp only [List.getElem_toArray,List.getElem_cons_zero,List.getElem_cons_succ,Act.put,List.setIfInBounds_toArray,List.set_cons_zero,List.set_cons_succ]
  refine wpAnyH_take (i:=5) (v:= ?_) rfl (by kernel_rfl) (by kernel_rfl) (by kernel_rfl) (fun _ _ _ h=>h) (Or.inl ⟨by rfl,?_⟩) hHeld ?_
  rotate_left
  ·(intro w hSw;(try dsimp only at hSw);go_simp;try with_reducible rfl)
  simp only [List.getElem_toArray,List.getElem_cons_zero,List.getElem_cons_succ,Act.put,List.setIfInBounds_toArray,List.set_cons_zero,List.set_cons_succ]
  refine wpAnyH_take (i:=6) (v:= ?_) rfl (by kernel_rfl) (by kernel_rfl) (by kernel_rfl) (fun _ _ _ h=>h) (Or.inl ⟨by rfl,?_⟩) hHeld ?_
  rotate_left
  ·(intro w hSw;(try dsimp only at hSw);go_simp;try with_reducible rfl)
  simp only [List.getElem_toArray,List.getElem_cons_zero,List.getElem_cons_succ,Act.put,List.setIfInBounds_toArray,List.set_cons_zero,List.set_cons_succ]
  refine wpAnyH_take (i:=7) (v:= ?_) rfl (by kernel_rfl) (by kernel_rfl) (by kernel_rfl) (fun _ _ _ h=>h) (Or.inl ⟨by rfl,?_⟩) hHeld ?_
  rotate_left
  ·(intro w hSw;(try dsimp only at hSw);go_simp;try with_reducible rfl)
  simp only [List.getElem_toArray,List.getElem_cons_zero,List.getElem_cons_succ,Act.put,List.setIfInBounds_toArray,List.set_cons_zero,List.set_cons_succ]
  refine wpAnyH_take (i:=8) (v:= ?_) rfl (by kernel_rfl) (by kernel_rfl) (by kernel_rfl) (fun _ _ _ h=>h) (Or.inl ⟨by rfl,?_⟩) hHeld ?_
  rotate_left
  ·(intro w hSw;(try dsimp only at hSw);go_simp;try with_reducible rfl)
  simp only [List.getElem_toArray,List.getElem_cons_zero,List.getElem_cons_succ,Act.put,List.setIfInBounds_toArray,List.set_cons_zero,List.set_cons_succ]
  refine wpAnyH_take (i:=9) (v:= ?_) rfl (by kernel_rfl) (by kernel_rfl) (by kernel_rfl) (fun _ _ _ h=>h) (Or.inl ⟨by rfl,?_⟩) hHeld ?_
  rotate_left
  ·(intro w hSw;(try dsimp only at hSw);go_simp;try with_reducible rfl)
  simp only [List.getElem_toArray,List.getElem_cons_zero,List.getElem_cons_succ,Act.put,List.setIfInBounds_toArray,List.set_cons_zero,List.set_cons_succ]
  refine wpAnyH_take (i:=10) (v:= ?_) rfl (by kernel_rfl) (by kernel_rfl) (by kernel_rfl) (fun _ _ _ h=>h) (Or.inl ⟨by rfl,?_⟩) hHeld ?_
  rotate_left
  ·(intro w hSw;(try dsimp only at hSw);go_simp;try with_reducible rfl)
  simp only [List.getElem_toArray,List.getElem_cons_zero,List.getElem_cons_succ,Act.put,List.setIfInBounds_toArray,List.set_cons_zero,List.set_cons_succ]
  refine wpAnyH_take (i:=11) (v:= ?_) rfl (by kernel_rfl) (by kernel_rfl) (by kernel_rfl) (fun _ _ _ h=>h) (Or.inl ⟨by rfl,?_⟩) hHeld ?_
  rotate_left
  ·(intro w hSw;(try dsimp only at hSw);go_simp;try with_reducible rfl)
  simp only [List.getElem_toArray,List.getElem_cons_zero,List.getElem_cons_succ,Act.put,List.setIfInBounds_toArray,List.set_cons_zero,List.set_cons_succ]
  refine wpAnyH_ready (rs:=[3]) (by kernel_rfl) (by simp) ?_
  refine AllReadyH.cons rfl (fun K hK=> ?_) AllReadyH.nil
  go_simp
  refine(HL13.out).mono ?_
  rintro e w6 ⟨v6,rfl,hM6,hs6⟩
  have HM6:=Lib.hid hM6
  have HS6:=Lib.hid (HS3d.out.trans hs6)
  have HX6:=Lib.hid ((hs6.block HK3d.out).trans HX3d.out)
  refine hK.out _ _ (cells_row HX6.out 6 _ rfl) (fun hHeld=> ?_)
  clear hK K
  try simp only [List.getElem_toArray,List.getElem_cons_zero,List.getElem_cons_succ,Act.put,List.setIfInBounds_toArray,List.set_cons_zero,List.set_cons_succ]
  clear hM6 hs6
  refine wpAnyH_ready (rs:=[12]) (by kernel_rfl) (by simp) ?_
  refine AllReadyH.cons rfl (fun K hK=> ?_) AllReadyH.nil
  go_simp
  have HE:=Lib.hid (LowersPost.mk' (l:=[⟨11,13,0,0,y.got+8*(k:Int)-at_-8⟩,⟨20,x.a,0,0,0⟩,⟨3,x.a,x.a,13,0⟩]) HM6.out HS6.out (by simp) (by intro z hz;simp only [List.mem_cons,List.not_mem_nil,or_false]at hz;rcases hz with rfl | rfl | rfl;exact instOk_mk (by decide) (by decide) (by decide) (by decide) ⟨by omega,by omega⟩;exact instOk_mk (by decide) Hx.out.a (by decide) (by decide) (by decide);exact instOk_mk (by decide) Hx.out.a Hx.out.a (by decide) (by decide)))
  refine hK.out _ _ ((World.cell?_alloc_lt _ _ _ (World.block_lt_of_cell? _ _ hHeld)).trans hHeld) (fun hHeld=> ?_)
  clear hK K
  try simp only [List.getElem_toArray,List.getElem_cons_zero,List.getElem_cons_succ,Act.put,List.setIfInBounds_toArray,List.set_cons_zero,List.set_cons_succ]
  refine wpAnyH_take (i:=13) (v:= ?_) rfl (by kernel_rfl) (by kernel_rfl) (by kernel_rfl) (fun _ _ _ h=>h) (Or.inl ⟨by rfl,?_⟩) hHeld ?_
  rotate_left
  ·(intro w hSw;(try dsimp only at hSw);go_simp;try with_reducible rfl)
  simp only [List.getElem_toArray,List.getElem_cons_zero,List.getElem_cons_succ,Act.put,List.setIfInBounds_toArray,List.set_cons_zero,List.set_cons_succ]
  refine wpAnyH_done (by kernel_rfl) ?_ _
  simp only [phaseQ]
  clear hHeld
  go_wp2
  go_ret
  rw [HQ.out]
  exact HE.out
 ·have HQ:Hid ((lowerL s.weak yl x at_ p).2=[x.inst]):=Lib.hid (by unfold lowerL;rw [if_neg hk1,if_neg hk2,if_neg hk3,if_neg hk4])
  have e1:(x.kind==1)=false:=by simp [hk1]
  have e2:(x.kind==2)=false:=by simp [hk2]
  have e3:(x.kind==3)=false:=by simp [hk3]
  have e4:(x.kind==4)=false:=by simp [hk4]
  have i1:w2.cell? ⟨xb,1,none⟩=some (.int .i64 x.inst.op):=cells_row HX2.out 1 _ rfl
  have i2:w2.cell? ⟨xb,2,none⟩=some (.int .i64 x.inst.a):=cells_row HX2.out 2 _ rfl
  have i3:w2.cell? ⟨xb,3,none⟩=some (.int .i64 x.inst.b):=cells_row HX2.out 3 _ rfl
  have i4:w2.cell? ⟨xb,4,none⟩=some (.int .i64 x.inst.c):=cells_row HX2.out 4 _ rfl
  have i5:w2.cell? ⟨xb,5,none⟩=some (.int .i64 x.inst.imm):=cells_row HX2.out 5 _ rfl
  have HE:=Lib.hid (LowersPost.mk' (l:=[x.inst]) HM2.out HS2.out (by simp) (by intro z hz;rw [List.mem_singleton.1 hz];exact Hx.out.inst))
  clear hk1 hk2 hk3 hk4
  go_wp2
  go_ret
  rw [HQ.out]
  exact HE.out
end Go.Proofs.Ytpomdoliblilfaa
