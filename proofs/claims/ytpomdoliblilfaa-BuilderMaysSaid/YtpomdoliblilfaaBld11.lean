/- Lemmas. -/
import Derived.Test.YtpomdoliblilfaaBld10
namespace Go.Proofs.Ytpomdoliblilfaa
set_option linter.unusedVariables false
set_option linter.unusedSimpArgs false
open Go.RowKit
theorem asked_cells (weak:List (List UInt8)) (n v:List UInt8) (e:Int) (ks:List Int) (p:PlanL):(p.asked weak n v e ks).1.cells=p.cells:=by
 unfold PlanL.asked PlanL.sym;simp only [failIf_cells];split<;>rfl
theorem asked_jumps (weak:List (List UInt8)) (n v:List UInt8) (e:Int) (ks:List Int) (p:PlanL):(p.asked weak n v e ks).1.jumps=p.jumps:=by
 unfold PlanL.asked PlanL.sym;simp only [failIf_jumps];split<;>rfl
theorem asked_syms_len (weak:List (List UInt8)) (n v:List UInt8) (e:Int) (ks:List Int) (p:PlanL):(p.asked weak n v e ks).1.syms.length≤p.syms.length+1:=by
 unfold PlanL.asked;simp only [failIf_syms];exact(sym_len p).1
theorem placeIn_len {α:Type} [DecidableEq α] (l:List α) (x:α):(placeIn l x).1.length≤l.length+1:=by
 unfold placeIn;split<;>simp
theorem cell_cells_len (u x:Int) (p:PlanL):(p.cell u x).1.cells.length≤p.cells.length+1:=placeIn_len _ _
theorem kinds_lb {B pb:Nat} {w:World} {sv:SpecV} {s:SpecL} {own:Int} {v:PlanV} {p:PlanL} (hM:PlanM B pb w sv s own v p) (t:TypeId) (ks:List Int) (hk:ks.length≤9223372036854775807):
  LB kInt (Kept pb v (w.alloc (.cells (ks.map (Value.int .i64)).toArray t (0,0)))) (w.alloc (.cells (ks.map (Value.int .i64)).toArray t (0,0))) (.slice (some ⟨w.heap.size,0,none⟩) ks.length ks.length) ks:=by
 refine⟨some ⟨w.heap.size,0,none⟩,w.heap.size,0,ks.length,rfl,hk,fun _=>rfl,⟨Nat.le_refl _,fun h=>by cases h⟩,fun _=>hM.kept_new _,fun i x hx=>⟨[.int .i64 x],rfl,fun j u hu=> ?_⟩⟩
 match j,hu with
 | 0,hu=>
  simp at hu;subst hu
  rw [Lib.cell_of_heap (heap_alloc_new _ _)]
  simp [kInt,hx]
 | j+1,hu=>simp at hu
set_option maxHeartbeats 16000000 in
set_option maxRecDepth 100000 in
theorem called_any {B pb:Nat} {w:World} {sv:SpecV} {s:SpecL} {own:Int} {v:PlanV} {p:PlanL} (l:LineL) (hM:PlanM B pb w sv s own v p) (hS:SpecM (·<B) w sv s) (hl:LineOk l) (h1:p.syms.length≤999990) (h2:p.cells.length≤999990) (h3:p.jumps.length≤999990) (hB:B≤w.heap.size):
  Calls Try.prog 77 #[.pointer (some ⟨pb,0,none⟩),.agg #[.int .i64 l.kind,.int .i64 l.inst.op,.int .i64 l.inst.a,.int .i64 l.inst.b,.int .i64 l.inst.c,.int .i64 l.inst.imm,.int .i64 l.a,.string ⟨l.name.toArray⟩,.string ⟨l.ver.toArray⟩]] w (DoPost B pb sv s own v w (p.called s.weak l)):=by
 have HM1:=Lib.hid (hM.alloc (.cells #[.int .i64 l.kind,.int .i64 l.inst.op,.int .i64 l.inst.a,.int .i64 l.inst.b,.int .i64 l.inst.c,.int .i64 l.inst.imm,.int .i64 l.a,.string ⟨l.name.toArray⟩,.string ⟨l.ver.toArray⟩] 77))
 have HS1:=Lib.hid (PStep.alloc (pb:=pb) v w (.cells #[.int .i64 l.kind,.int .i64 l.inst.op,.int .i64 l.inst.a,.int .i64 l.inst.b,.int .i64 l.inst.c,.int .i64 l.inst.imm,.int .i64 l.a,.string ⟨l.name.toArray⟩,.string ⟨l.ver.toArray⟩] 77))
 have HX1:=Lib.hid (heap_alloc_new w (.cells #[.int .i64 l.kind,.int .i64 l.inst.op,.int .i64 l.inst.a,.int .i64 l.inst.b,.int .i64 l.inst.c,.int .i64 l.inst.imm,.int .i64 l.a,.string ⟨l.name.toArray⟩,.string ⟨l.ver.toArray⟩] 77))
 have HK1:=Lib.hid (hM.kept_new (.cells #[.int .i64 l.kind,.int .i64 l.inst.op,.int .i64 l.inst.a,.int .i64 l.inst.b,.int .i64 l.inst.c,.int .i64 l.inst.imm,.int .i64 l.a,.string ⟨l.name.toArray⟩,.string ⟨l.ver.toArray⟩] 77))
 have HSp:=Lib.hid (hS.keeps (.of_below ((Below.refl w.heap.size w).alloc (Nat.le_refl _) (.cells #[.int .i64 l.kind,.int .i64 l.inst.op,.int .i64 l.inst.a,.int .i64 l.inst.b,.int .i64 l.inst.c,.int .i64 l.inst.imm,.int .i64 l.a,.string ⟨l.name.toArray⟩,.string ⟨l.ver.toArray⟩] 77) |>.mono hB)))
 have hz1:w.heap.size<(w.alloc (.cells #[.int .i64 l.kind,.int .i64 l.inst.op,.int .i64 l.inst.a,.int .i64 l.inst.b,.int .i64 l.inst.c,.int .i64 l.inst.imm,.int .i64 l.a,.string ⟨l.name.toArray⟩,.string ⟨l.ver.toArray⟩] 77)).heap.size:=by simp
 have Hl:=Lib.hid hl
 have hk:=hl.kind
 clear hM hl hS
 go_enter Try.func77,Try.ntmps77
 go_upto_region 1 with fail
 generalize w.alloc (.cells #[.int .i64 l.kind,.int .i64 l.inst.op,.int .i64 l.inst.a,.int .i64 l.inst.b,.int .i64 l.inst.c,.int .i64 l.inst.imm,.int .i64 l.a,.string ⟨l.name.toArray⟩,.string ⟨l.ver.toArray⟩] 77)=w1 at *
 have c0:w1.cell? ⟨w.heap.size,0,none⟩=some (.int .i64 l.kind):=by rw [Lib.cell_of_heap HX1.out];rfl
 have c7:w1.cell? ⟨w.heap.size,7,none⟩=some (.string ⟨l.name.toArray⟩):=by rw [Lib.cell_of_heap HX1.out];rfl
 have c8:w1.cell? ⟨w.heap.size,8,none⟩=some (.string ⟨l.ver.toArray⟩):=by rw [Lib.cell_of_heap HX1.out];rfl
 by_cases hk1:l.kind=1
 ·have HQ:Hid (p.called s.weak l=(p.asked s.weak l.name l.ver 101 [1]).1.jump (p.asked s.weak l.name l.ver 101 [1]).2):=Lib.hid (by unfold PlanL.called;rw [if_pos hk1])
  have HJ:Hid ((p.asked s.weak l.name l.ver 101 [1]).1.jumps=p.jumps):=Lib.hid (asked_jumps _ _ _ _ _ _)
  rw [hk1]at c0
  clear hk hk1
  go_wp2_with fail
  have HA:=Lib.hid (asked_any l.name l.ver 101 1 [] (.slice (some ⟨w1.heap.size,0,none⟩) 1 1) (HM1.out.alloc (.cells #[.int .i64 1] 49)) (HSp.out.keeps (.of_below ((Below.refl w1.heap.size w1).alloc (Nat.le_refl _) (.cells #[.int .i64 1] 49) |>.mono (by omega)))) (kinds_lb HM1.out 49 [1] (by decide)) Hl.out.name Hl.out.ver (by decide) (by omega) (by simp;omega))
  refine HA.out.mono ?_
  rintro e w2 ⟨v2,rfl,hM2,hs2⟩
  have HM2:=Lib.hid hM2
  have HS2:=Lib.hid ((HS1.out.trans (PStep.alloc v w1 (.cells #[.int .i64 1] 49))).trans hs2)
  clear hM2 hs2 HA
  generalize p.asked s.weak l.name l.ver 101 [1]=q at *
  obtain⟨q1,q2⟩:=q
  simp only at HM2 HJ HQ ⊢
  have c12:=HM2.out.c12
  have hz2:=HS2.out.step.size
  have HPl:=Lib.hid (placeInt_any B w2 v2.jumps q1.jumps q2 HM2.out.jumps (by rw [HJ.out];omega) (by omega))
  have Hpb:Hid (pb<w2.heap.size∧v2.jumps.ownBlock≠some pb):=Lib.hid ⟨HM2.out.lt,fun e=>HM2.out.jumps.notE pb e (Or.inl rfl)⟩
  obtain⟨ja,jc,hjf⟩:=HM2.out.jumps.form
  rw [hjf]at c12 HPl
  have Hjf:=Lib.hid hjf
  obtain⟨n,hn⟩:∃ n,n=q1.jumps.length:=⟨_,rfl⟩
  rw [← hn]at c12 HPl Hjf
  unfold PlanL.jump at HQ
  clear hjf hn
  generalize hpi:placeIn q1.jumps (q2:Int)=pi at *
  have Hpi:=Lib.hid hpi
  clear hpi
  obtain⟨l',i⟩:=pi
  simp only at HPl HQ
  go_wp2_with fail
  refine HPl.out.mono ?_
  rintro e w3 ⟨u',rfl,hown,hst,hnew⟩
  have hex:w3.heap[pb]? =_:=(hst.block pb ⟨Hpb.out.1,by rw [← Hjf.out];exact Hpb.out.2⟩).trans HM2.out.ex
  have hfz:w3.frozen? ⟨pb,12,none⟩=false:=Lib.frozen_of_heap hex 12
  have c2:=planCell hex 12 _ rfl
  have HR:=Lib.hid (HM2.out.putJumps (by rw [Hjf.out];exact hst) hown (by rw [Hjf.out];exact hnew))
  obtain⟨ua,uc,rfl⟩:=hown.form
  have HE:Hid (DoPost B pb sv s own v w (p.called s.weak l) (.returned (.tuple #[])) (w3.setCell ⟨pb,12,none⟩ (.slice ua l'.length uc))):=Lib.hid ⟨_,rfl,by rw [HQ.out];exact HR.out.1,HS2.out.trans HR.out.2⟩
  clear hown hst hnew hex
  go_wp2
  go_end0
  exact HE.out
 by_cases hk3:l.kind=3
 ·have HQ:Hid (p.called s.weak l=(((p.asked s.weak l.name l.ver 101 [3]).1.cell 1 (p.asked s.weak l.name l.ver 101 [3]).2).1.cell 2 (p.asked s.weak l.name l.ver 101 [3]).2).1):=Lib.hid (by unfold PlanL.called;rw [if_neg hk1,if_pos hk3])
  have HC:Hid ((p.asked s.weak l.name l.ver 101 [3]).1.cells=p.cells):=Lib.hid (asked_cells _ _ _ _ _ _)
  rw [hk3]at c0
  clear hk hk1 hk3
  go_wp2_with fail
  have HA:=Lib.hid (asked_any l.name l.ver 101 3 [] (.slice (some ⟨w1.heap.size,0,none⟩) 1 1) (HM1.out.alloc (.cells #[.int .i64 3] 49)) (HSp.out.keeps (.of_below ((Below.refl w1.heap.size w1).alloc (Nat.le_refl _) (.cells #[.int .i64 3] 49) |>.mono (by omega)))) (kinds_lb HM1.out 49 [3] (by decide)) Hl.out.name Hl.out.ver (by decide) (by omega) (by simp;omega))
  refine HA.out.mono ?_
  rintro e w2 ⟨v2,rfl,hM2,hs2⟩
  have HM2:=Lib.hid hM2
  have HS2:=Lib.hid ((HS1.out.trans (PStep.alloc v w1 (.cells #[.int .i64 3] 49))).trans hs2)
  clear hM2 hs2 HA
  generalize p.asked s.weak l.name l.ver 101 [3]=q at *
  obtain⟨q1,q2⟩:=q
  simp only at HM2 HC HQ ⊢
  have hz2:=HS2.out.step.size
  go_wp2_with fail
  refine(cell_any 1 q2 HM2.out (by rw [HC.out];omega) (by omega)).mono ?_
  rintro e w3 ⟨v3,rfl,hM3,hs3⟩
  have HM3:=Lib.hid hM3
  have HS3:=Lib.hid (HS2.out.trans hs3)
  have hz3:=HS3.out.step.size
  clear hM3 hs3
  have HC3:Hid ((q1.cell 1 q2).1.cells.length≤999995):=Lib.hid (by have:=cell_cells_len 1 q2 q1;rw [HC.out]at this;omega)
  generalize q1.cell 1 q2=r at *
  obtain⟨r1,r2⟩:=r
  simp only at HM3 HC3 HQ ⊢
  go_wp2_with fail
  refine(cell_any 2 q2 HM3.out (by have:=HC3.out;omega) (by omega)).mono ?_
  rintro e w4 ⟨v4,rfl,hM4,hs4⟩
  have HE:Hid (DoPost B pb sv s own v w (p.called s.weak l) (.returned (.tuple #[])) w4):=Lib.hid ⟨_,rfl,by rw [HQ.out];exact hM4,HS3.out.trans hs4⟩
  clear hM4 hs4
  generalize r1.cell 2 q2=z at *
  go_wp2
  go_end0
  exact HE.out
 by_cases hk4:l.kind=4
 ·have HQ:Hid (p.called s.weak l=((p.asked s.weak l.name l.ver 101 [3]).1.cell 3 (p.asked s.weak l.name l.ver 101 [3]).2).1):=Lib.hid (by unfold PlanL.called;rw [if_neg hk1,if_neg hk3,if_pos hk4])
  have HC:Hid ((p.asked s.weak l.name l.ver 101 [3]).1.cells=p.cells):=Lib.hid (asked_cells _ _ _ _ _ _)
  rw [hk4]at c0
  clear hk hk1 hk3 hk4
  go_wp2_with fail
  have HA:=Lib.hid (asked_any l.name l.ver 101 3 [] (.slice (some ⟨w1.heap.size,0,none⟩) 1 1) (HM1.out.alloc (.cells #[.int .i64 3] 49)) (HSp.out.keeps (.of_below ((Below.refl w1.heap.size w1).alloc (Nat.le_refl _) (.cells #[.int .i64 3] 49) |>.mono (by omega)))) (kinds_lb HM1.out 49 [3] (by decide)) Hl.out.name Hl.out.ver (by decide) (by omega) (by simp;omega))
  refine HA.out.mono ?_
  rintro e w2 ⟨v2,rfl,hM2,hs2⟩
  have HM2:=Lib.hid hM2
  have HS2:=Lib.hid ((HS1.out.trans (PStep.alloc v w1 (.cells #[.int .i64 3] 49))).trans hs2)
  clear hM2 hs2 HA
  generalize p.asked s.weak l.name l.ver 101 [3]=q at *
  obtain⟨q1,q2⟩:=q
  simp only at HM2 HC HQ ⊢
  have hz2:=HS2.out.step.size
  go_wp2_with fail
  refine(cell_any 3 q2 HM2.out (by rw [HC.out];omega) (by omega)).mono ?_
  rintro e w4 ⟨v4,rfl,hM4,hs4⟩
  have HE:Hid (DoPost B pb sv s own v w (p.called s.weak l) (.returned (.tuple #[])) w4):=Lib.hid ⟨_,rfl,by rw [HQ.out];exact hM4,HS2.out.trans hs4⟩
  clear hM4 hs4
  generalize q1.cell 3 q2=z at *
  go_wp2
  go_end0
  exact HE.out
 ·have HE:Hid (DoPost B pb sv s own v w (p.called s.weak l) (.returned (.tuple #[])) w1):=Lib.hid ⟨v,rfl,by unfold PlanL.called;rw [if_neg hk1,if_neg hk3,if_neg hk4];exact HM1.out,HS1.out⟩
  have e1:(l.kind==1)=false:=by simp [hk1]
  have e3:(l.kind==3)=false:=by simp [hk3]
  have e4:(l.kind==4)=false:=by simp [hk4]
  clear hk1 hk3 hk4
  go_wp2
  go_end0
  exact HE.out
set_option maxHeartbeats 16000000 in
set_option maxRecDepth 100000 in
theorem addressed_any {B pb:Nat} {w:World} {sv:SpecV} {s:SpecL} {own:Int} {v:PlanV} {p:PlanL} (l:LineL) (hM:PlanM B pb w sv s own v p) (hS:SpecM (·<B) w sv s) (hl:LineOk l) (h1:p.syms.length≤999990) (h2:p.cells.length≤999990) (hB:B≤w.heap.size):
  Calls Try.prog 78 #[.pointer (some ⟨pb,0,none⟩),.agg #[.int .i64 l.kind,.int .i64 l.inst.op,.int .i64 l.inst.a,.int .i64 l.inst.b,.int .i64 l.inst.c,.int .i64 l.inst.imm,.int .i64 l.a,.string ⟨l.name.toArray⟩,.string ⟨l.ver.toArray⟩]] w (DoPost B pb sv s own v w (p.addressed s.weak l)):=by
 have HM1:=Lib.hid (hM.alloc (.cells #[.int .i64 l.kind,.int .i64 l.inst.op,.int .i64 l.inst.a,.int .i64 l.inst.b,.int .i64 l.inst.c,.int .i64 l.inst.imm,.int .i64 l.a,.string ⟨l.name.toArray⟩,.string ⟨l.ver.toArray⟩] 77))
 have HS1:=Lib.hid (PStep.alloc (pb:=pb) v w (.cells #[.int .i64 l.kind,.int .i64 l.inst.op,.int .i64 l.inst.a,.int .i64 l.inst.b,.int .i64 l.inst.c,.int .i64 l.inst.imm,.int .i64 l.a,.string ⟨l.name.toArray⟩,.string ⟨l.ver.toArray⟩] 77))
 have HX1:=Lib.hid (heap_alloc_new w (.cells #[.int .i64 l.kind,.int .i64 l.inst.op,.int .i64 l.inst.a,.int .i64 l.inst.b,.int .i64 l.inst.c,.int .i64 l.inst.imm,.int .i64 l.a,.string ⟨l.name.toArray⟩,.string ⟨l.ver.toArray⟩] 77))
 have HSp:=Lib.hid (hS.keeps (.of_below ((Below.refl w.heap.size w).alloc (Nat.le_refl _) (.cells #[.int .i64 l.kind,.int .i64 l.inst.op,.int .i64 l.inst.a,.int .i64 l.inst.b,.int .i64 l.inst.c,.int .i64 l.inst.imm,.int .i64 l.a,.string ⟨l.name.toArray⟩,.string ⟨l.ver.toArray⟩] 77) |>.mono hB)))
 have hz1:w.heap.size<(w.alloc (.cells #[.int .i64 l.kind,.int .i64 l.inst.op,.int .i64 l.inst.a,.int .i64 l.inst.b,.int .i64 l.inst.c,.int .i64 l.inst.imm,.int .i64 l.a,.string ⟨l.name.toArray⟩,.string ⟨l.ver.toArray⟩] 77)).heap.size:=by simp
 have Hl:=Lib.hid hl
 have hk:=hl.kind
 clear hM hl hS
 go_enter Try.func78,Try.ntmps78
 go_upto_region 1 with fail
 generalize w.alloc (.cells #[.int .i64 l.kind,.int .i64 l.inst.op,.int .i64 l.inst.a,.int .i64 l.inst.b,.int .i64 l.inst.c,.int .i64 l.inst.imm,.int .i64 l.a,.string ⟨l.name.toArray⟩,.string ⟨l.ver.toArray⟩] 77)=w1 at *
 have c0:w1.cell? ⟨w.heap.size,0,none⟩=some (.int .i64 l.kind):=by rw [Lib.cell_of_heap HX1.out];rfl
 have c7:w1.cell? ⟨w.heap.size,7,none⟩=some (.string ⟨l.name.toArray⟩):=by rw [Lib.cell_of_heap HX1.out];rfl
 have c8:w1.cell? ⟨w.heap.size,8,none⟩=some (.string ⟨l.ver.toArray⟩):=by rw [Lib.cell_of_heap HX1.out];rfl
 by_cases hk2:l.kind=2
 ·have HQ:Hid (p.addressed s.weak l=((p.asked s.weak l.name l.ver 101 [2,1]).1.cell 0 (p.asked s.weak l.name l.ver 101 [2,1]).2).1):=Lib.hid (by unfold PlanL.addressed;rw [if_pos hk2])
  have HC:Hid ((p.asked s.weak l.name l.ver 101 [2,1]).1.cells=p.cells):=Lib.hid (asked_cells _ _ _ _ _ _)
  rw [hk2]at c0
  clear hk hk2
  go_wp2_with fail
  have HA:=Lib.hid (asked_any l.name l.ver 101 2 [1] (.slice (some ⟨w1.heap.size,0,none⟩) 2 2) (HM1.out.alloc (.cells #[.int .i64 2,.int .i64 1] 49)) (HSp.out.keeps (.of_below ((Below.refl w1.heap.size w1).alloc (Nat.le_refl _) (.cells #[.int .i64 2,.int .i64 1] 49) |>.mono (by omega)))) (kinds_lb HM1.out 49 [2,1] (by decide)) Hl.out.name Hl.out.ver (by decide) (by omega) (by simp;omega))
  refine HA.out.mono ?_
  rintro e w2 ⟨v2,rfl,hM2,hs2⟩
  have HM2:=Lib.hid hM2
  have HS2:=Lib.hid ((HS1.out.trans (PStep.alloc v w1 (.cells #[.int .i64 2,.int .i64 1] 49))).trans hs2)
  clear hM2 hs2 HA
  generalize p.asked s.weak l.name l.ver 101 [2,1]=q at *
  obtain⟨q1,q2⟩:=q
  simp only at HM2 HC HQ ⊢
  have hz2:=HS2.out.step.size
  go_wp2_with fail
  refine(cell_any 0 q2 HM2.out (by rw [HC.out];omega) (by omega)).mono ?_
  rintro e w4 ⟨v4,rfl,hM4,hs4⟩
  have HE:Hid (DoPost B pb sv s own v w (p.addressed s.weak l) (.returned (.tuple #[])) w4):=Lib.hid ⟨_,rfl,by rw [HQ.out];exact hM4,HS2.out.trans hs4⟩
  clear hM4 hs4
  generalize q1.cell 0 q2=z at *
  go_wp2
  go_end0
  exact HE.out
 ·have HE:Hid (DoPost B pb sv s own v w (p.addressed s.weak l) (.returned (.tuple #[])) w1):=Lib.hid ⟨v,rfl,by unfold PlanL.addressed;rw [if_neg hk2];exact HM1.out,HS1.out⟩
  have e1:(l.kind==2)=false:=by simp [hk2]
  clear hk2
  go_wp2
  go_end0
  exact HE.out
end Go.Proofs.Ytpomdoliblilfaa
