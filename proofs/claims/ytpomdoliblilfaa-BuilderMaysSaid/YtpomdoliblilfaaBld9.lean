/- Lemmas. -/
import Derived.Test.YtpomdoliblilfaaBld8
namespace Go.Proofs.Ytpomdoliblilfaa
set_option linter.unusedVariables false
set_option linter.unusedSimpArgs false
open Go.RowKit
theorem newSym_ok {weak:List (List UInt8)} {name ver:List UInt8} {kind:Int} (hn:Small63 name) (hv:Small63 ver) (hk:In63 kind):SymOk (newSym weak name ver kind):=⟨hn,hv,hk,by simp [newSym],by simp [newSym],by simp [newSym]⟩
theorem meant_name {name ver:List UInt8} {t:SymL} (h:¬ t.name=name):meantB name ver t=false:=by simp [meantB,h]
theorem sym_none {weak:List (List UInt8)} {name ver:List UInt8} {kind:Int} {p:PlanL} (h:p.syms.findIdx? (meantB name ver)=none):p.sym weak name ver kind=({p with syms:=p.syms++[newSym weak name ver kind]},p.syms.length):=by
 unfold PlanL.sym;rw [h]
def AskPost (B pb:Nat) (sv:SpecV) (s:SpecL) (own:Int) (v:PlanV) (w:World) (q:PlanL × Nat) (r:Ending) (w':World):Prop:=
 ∃ v',r=.returned (.int .i64 q.2)∧PlanM B pb w' sv s own v' q.1∧PStep pb v v' w w'
def SymPost (B pb:Nat) (sv:SpecV) (s:SpecL) (own:Int) (v:PlanV) (w:World) (name ver:List UInt8) (p:PlanL) (q:PlanL × Nat) (r:Ending) (w':World):Prop:=
 AskPost B pb sv s own v w q r w'∧((p.syms.findIdx? (meantB name ver)).isSome=true→Below w.heap.size w w')
set_option maxHeartbeats 16000000 in
set_option maxRecDepth 100000 in
theorem sym2_any {B pb:Nat} {w:World} {sv:SpecV} {s:SpecL} {own:Int} {v:PlanV} {p:PlanL} (name ver:List UInt8) (kind:Int) (hM:PlanM B pb w sv s own v p) (hS:SpecM (·<B) w sv s) (hn:Small63 name) (hv:Small63 ver) (hk:In63 kind) (hl:p.syms.length≤1000000) (hB:B≤w.heap.size):
  Calls Try.prog 49 #[.pointer (some ⟨pb,0,none⟩),.string ⟨name.toArray⟩,.string ⟨ver.toArray⟩,.int .i64 kind] w (SymPost B pb sv s own v w name ver p (p.sym s.weak name ver kind)):=by
 have HM:=Lib.hid hM
 have HS:=Lib.hid hS
 have Hok:=Lib.hid (newSym_ok (weak:=s.weak) hn hv hk)
 have hpl:=hM.lt
 obtain⟨sa,sbk,soff,scap,hsf,hsm,hscap,hat⟩:=hM.syms.lb.at
 have Hsf:=Lib.hid hsf
 have c9:=hM.c9
 rw [hsf]at c9
 have hsa:=hat.addr
 obtain⟨n,hn'⟩:∃ n,n=p.syms.length:=⟨_,rfl⟩
 have Hn:=Lib.hid hn'
 rw [← hn']at hsm hsa hl c9 hscap Hsf
 clear hat hsf hn' hM hS hn hv hk
 go_enter Try.func49,Try.ntmps49
 go_wp2_with fail
 go_loopw [16] (fun i wr=>∃ k:Nat,i=.int .i64 k∧k≤n∧(p.syms.take k).findIdx? (meantB name ver)=none∧Below w.heap.size w wr) (fun i _=>n-(intOf i).toNat)
 case atStart=>exact⟨0,rfl,Nat.zero_le _,find_start _ _,Below.refl _ _⟩
 case round=>
  obtain⟨k,rfl,hk,hf,hbel⟩:=hrel
  have Hf:=Lib.hid hf
  have HMr:=Lib.hid (HM.out.below hbel)
  have Hbel:=Lib.hid hbel
  have hzr:=hbel.size
  clear hf hbel
  by_cases hlt:k<n
  ·obtain rfl:=hsa (by omega)
   obtain⟨t,ht⟩:∃ t,p.syms[k]? =some t:=⟨_,List.getElem?_eq_getElem (by rw [← Hn.out];exact hlt)⟩
   obtain⟨hto,g0,g1,g2,g3,g4,g5,g6,g7,g8⟩:=HMr.out.symAt Hsf.out k t ht
   have Ht:=Lib.hid ht
   have hk2:(k:Int)<(n:Int):=by omega
   clear ht hto
   go_upto_region 4 with fail
   have Hba:=Lib.hid (Hbel.out.alloc hzr (.cells (symA t) 52 (0,0)))
   have HMa:=Lib.hid (HMr.out.alloc (.cells (symA t) 52 (0,0)))
   have Hna:=Lib.hid (heap_alloc_new wr (.cells (symA t) 52 (0,0)))
   clear g0 g1 g2 g3 g4 g5 g6 g7 g8
   unfold symA at *
   generalize wr.alloc (.cells #[.string ⟨t.name.toArray⟩,.string ⟨t.version.toArray⟩,.bool t.old,.int .i64 t.kind,.bool t.weak,.int .i64 t.vis,.bool t.defined,.int .i64 t.value,.int .i64 t.size] 52 (0,0))=wa at *
   have f0:wa.cell? ⟨wr.heap.size,0,none⟩=some (.string ⟨t.name.toArray⟩):=by rw [Lib.cell_of_heap Hna.out];rfl
   have f1:wa.cell? ⟨wr.heap.size,1,none⟩=some (.string ⟨t.version.toArray⟩):=by rw [Lib.cell_of_heap Hna.out];rfl
   have f2:wa.cell? ⟨wr.heap.size,2,none⟩=some (.bool t.old):=by rw [Lib.cell_of_heap Hna.out];rfl
   have f6:wa.cell? ⟨wr.heap.size,6,none⟩=some (.bool t.defined):=by rw [Lib.cell_of_heap Hna.out];rfl
   have Hhit:Hid (meantB name ver t=true→∃ v',PlanM B pb wa sv s own v' (p.sym s.weak name ver kind).1∧PStep pb v v' w wa∧(p.sym s.weak name ver kind).2=k):=Lib.hid (fun h=>by
    rw [sym_found (find_hit Hf.out Ht.out h)]
    exact⟨v,HMa.out,PStep.below Hba.out,rfl⟩)
   have Hnext:Hid (meantB name ver t=false→(p.syms.take (k+1)).findIdx? (meantB name ver)=none):=Lib.hid (fun h=>find_next Hf.out Ht.out h)
   clear hzr
   by_cases h1:t.name=name
   ·have hb1:(t.name != name)=false:=by simp [h1]
    have hb1':(t.name==name)=true:=by simp [h1]
    cases hd:t.defined with
    | true=>
     rw [hd]at f6
     cases hq:ver.isEmpty with
     | true=>
      have Hv0:=Lib.hid (List.isEmpty_iff.1 hq)
      cases ho:t.old with
      | true=>
       rw [ho]at f2
       have HX:=Lib.hid (Hnext.out (by simp [meantB,h1,hd,ho,Hv0.out]))
       clear h1 hd ho
       go_wp2
       go_roundw
       case rel=>exact⟨k+1,by go_num,by omega,HX.out,Hba.out⟩
       case measure=>simp [intOf];omega
      | false=>
       rw [ho]at f2
       have HX:=Lib.hid (Hhit.out (by simp [meantB,h1,hd,ho,Hv0.out]))
       clear h1 hd ho
       go_wp2
       go_ret
       obtain⟨v',x1,x2,x3⟩:=HX.out
       exact⟨⟨v',by rw [x3];rfl,x1,x2⟩,fun _=>Hba.out⟩
     | false=>
      have Hv0:Hid (¬ ver=[]):=Lib.hid (fun e=>by rw [e]at hq;simp at hq)
      by_cases hv:t.version=ver
      ·have hbv:(t.version==ver)=true:=by simp [hv]
       have HX:=Lib.hid (Hhit.out (by simp [meantB,h1,hd,hv,Hv0.out]))
       clear h1 hd hv
       go_wp2
       go_ret
       obtain⟨v',x1,x2,x3⟩:=HX.out
       exact⟨⟨v',by rw [x3];rfl,x1,x2⟩,fun _=>Hba.out⟩
      ·have hbv:(t.version==ver)=false:=by simp [hv]
       have HX:=Lib.hid (Hnext.out (by simp [meantB,h1,hd,hv,Hv0.out]))
       clear h1 hd hv
       go_wp2
       go_roundw
       case rel=>exact⟨k+1,by go_num,by omega,HX.out,Hba.out⟩
       case measure=>simp [intOf];omega
    | false=>
     rw [hd]at f6
     by_cases hv:t.version=ver
     ·have hbv:(t.version==ver)=true:=by simp [hv]
      have HX:=Lib.hid (Hhit.out (by simp [meantB,h1,hd,hv]))
      clear h1 hd hv
      go_wp2
      go_ret
      obtain⟨v',x1,x2,x3⟩:=HX.out
      exact⟨⟨v',by rw [x3];rfl,x1,x2⟩,fun _=>Hba.out⟩
     ·have hbv:(t.version==ver)=false:=by simp [hv]
      have HX:=Lib.hid (Hnext.out (by simp [meantB,h1,hd,hv]))
      clear h1 hd hv
      go_wp2
      go_roundw
      case rel=>exact⟨k+1,by go_num,by omega,HX.out,Hba.out⟩
      case measure=>simp [intOf];omega
   ·have hb1:(t.name != name)=true:=by simp [h1]
    have hb1':(t.name==name)=false:=by simp [h1]
    have HX:=Lib.hid (Hnext.out (meant_name h1))
    clear h1
    go_wp2
    go_roundw
    case rel=>exact⟨k+1,by go_num,by omega,HX.out,Hba.out⟩
    case measure=>simp [intOf];omega
  ·have Hnone:=Lib.hid (find_end (by have h:=Hf.out;rwa [show k=p.syms.length by have:=Hn.out;omega]at h))
   have HD:=Lib.hid (sym_none (weak:=s.weak) (kind:=kind) Hnone.out)
   have c9r:=HMr.out.c9
   rw [Hsf.out]at c9r
   have c6r:=HMr.out.c6
   obtain⟨wka,wkc,hwk⟩:=HS.out.weak.form
   rw [hwk]at c6r
   have HW:=Lib.hid (fun (w':World) (hb:Below B w w')=>hasStr_any w' sv.weak s.weak name (HS.out.weak.below hb))
   rw [hwk]at HW
   clear hwk
   go_upto_region 10 with fail
   refine wp_region_phase 18 (by kernel_rfl) (by kernel_rfl) ?_
   simp only [List.take_succ_cons,List.take_zero,List.drop_succ_cons,List.drop_zero,List.take_nil,List.drop_nil]
   refine wpAny_of_held (S:=fun w':World=>w'.cell? ⟨pb,9,none⟩=some (.slice sa n scap)∧w'.cell? ⟨pb,6,none⟩=some (.slice wka s.weak.length wkc)) _ _ _ _ ?_
   have hHeld:(fun w':World=>w'.cell? ⟨pb,9,none⟩=some (.slice sa n scap)∧w'.cell? ⟨pb,6,none⟩=some (.slice wka s.weak.length wkc)) wr.drew:=⟨c9r,c6r⟩
   show wpAnyH _ _ _ _ _ _ _ _ (World.drew _)
   have HMd:=Lib.hid (HMr.out.below (Below.refl _ wr).drew)
   have HSd:=Lib.hid (PStep.below (pb:=pb) (v:=v) (Hbel.out.drew))
   have Hlow:=Lib.hid ((Hbel.out.drew).mono hB)
   have hzd:w.heap.size≤wr.drew.heap.size:=hzr
   have hpd:=HMd.out.lt
   generalize wr.drew=wd at HMd HSd hHeld hzd hpd Hlow ⊢
   clear c9r c6r
   refine wpAnyH_take (i:=0) (v:= ?_) rfl (by kernel_rfl) (by kernel_rfl) (by kernel_rfl) (fun _ _ _ h=>h) (Or.inl ⟨by rfl,?_⟩) hHeld ?_
   rotate_left
   ·(intro w hSw;(try dsimp only at hSw);go_simp;try with_reducible rfl)
   simp only [List.getElem_toArray,List.getElem_cons_zero,List.getElem_cons_succ,Act.put,List.setIfInBounds_toArray,List.set_cons_zero,List.set_cons_succ]
   refine wpAnyH_take (i:=1) (v:= ?_) rfl (by kernel_rfl) (by kernel_rfl) (by kernel_rfl) (fun _ _ _ h=>h) (Or.inl ⟨by rfl,?_⟩) hHeld ?_
   rotate_left
   ·(intro w hSw;(try dsimp only at hSw);go_simp;try with_reducible rfl)
   simp only [List.getElem_toArray,List.getElem_cons_zero,List.getElem_cons_succ,Act.put,List.setIfInBounds_toArray,List.set_cons_zero,List.set_cons_succ]
   refine wpAnyH_take (i:=2) (v:= ?_) rfl (by kernel_rfl) (by kernel_rfl) (by kernel_rfl) (fun _ _ _ h=>h) (Or.inl ⟨by rfl,?_⟩) hHeld ?_
   rotate_left
   ·(intro w hSw;(try dsimp only at hSw);go_simp;try with_reducible rfl)
   simp only [List.getElem_toArray,List.getElem_cons_zero,List.getElem_cons_succ,Act.put,List.setIfInBounds_toArray,List.set_cons_zero,List.set_cons_succ]
   refine wpAnyH_take (i:=3) (v:= ?_) rfl (by kernel_rfl) (by kernel_rfl) (by kernel_rfl) (fun _ _ _ h=>h) (Or.inl ⟨by rfl,?_⟩) hHeld ?_
   rotate_left
   ·(intro w hSw;(try dsimp only at hSw);go_simp;try with_reducible rfl)
   simp only [List.getElem_toArray,List.getElem_cons_zero,List.getElem_cons_succ,Act.put,List.setIfInBounds_toArray,List.set_cons_zero,List.set_cons_succ]
   refine wpAnyH_take (i:=4) (v:= ?_) rfl (by kernel_rfl) (by kernel_rfl) (by kernel_rfl) (fun _ _ _ h=>h) (Or.inl ⟨by rfl,?_⟩) hHeld ?_
   rotate_left
   ·(intro w hSw;(try dsimp only at hSw);go_simp;try with_reducible rfl)
   simp only [List.getElem_toArray,List.getElem_cons_zero,List.getElem_cons_succ,Act.put,List.setIfInBounds_toArray,List.set_cons_zero,List.set_cons_succ]
   refine wpAnyH_take (i:=5) (v:= ?_) rfl (by kernel_rfl) (by kernel_rfl) (by kernel_rfl) (fun _ _ _ h=>h) (Or.inl ⟨by rfl,?_⟩) hHeld ?_
   rotate_left
   ·(intro w hSw;(try dsimp only at hSw);go_simp;try with_reducible rfl)
   simp only [List.getElem_toArray,List.getElem_cons_zero,List.getElem_cons_succ,Act.put,List.setIfInBounds_toArray,List.set_cons_zero,List.set_cons_succ]
   refine wpAnyH_take (i:=6) (v:= ?_) rfl (by kernel_rfl) (by kernel_rfl) (by kernel_rfl) (fun _ _ _ h=>h) (Or.inl ⟨by rfl,?_⟩) hHeld ?_
   rotate_left
   ·(intro w hSw;(try dsimp only at hSw);go_simp;try with_reducible rfl)
   simp only [List.getElem_toArray,List.getElem_cons_zero,List.getElem_cons_succ,Act.put,List.setIfInBounds_toArray,List.set_cons_zero,List.set_cons_succ]
   refine wpAnyH_take (i:=7) (v:= ?_) rfl (by kernel_rfl) (by kernel_rfl) (by kernel_rfl) (fun _ _ _ h=>h) (Or.inl ⟨by rfl,?_⟩) hHeld ?_
   rotate_left
   ·(intro w hSw;(try dsimp only at hSw);go_simp;try with_reducible rfl)
   simp only [List.getElem_toArray,List.getElem_cons_zero,List.getElem_cons_succ,Act.put,List.setIfInBounds_toArray,List.set_cons_zero,List.set_cons_succ]
   refine wpAnyH_take (i:=8) (v:= ?_) rfl (by kernel_rfl) (by kernel_rfl) (by kernel_rfl) (fun _ _ _ h=>h) (Or.inl ⟨by rfl,?_⟩) hHeld ?_
   rotate_left
   ·(intro w hSw;(try dsimp only at hSw);go_simp;try with_reducible rfl)
   simp only [List.getElem_toArray,List.getElem_cons_zero,List.getElem_cons_succ,Act.put,List.setIfInBounds_toArray,List.set_cons_zero,List.set_cons_succ]
   refine wpAnyH_take (i:=9) (v:= ?_) rfl (by kernel_rfl) (by kernel_rfl) (by kernel_rfl) (fun _ _ _ h=>h) (Or.inl ⟨by rfl,?_⟩) hHeld ?_
   rotate_left
   ·(intro w hSw;(try dsimp only at hSw);go_simp;try with_reducible rfl)
   simp only [List.getElem_toArray,List.getElem_cons_zero,List.getElem_cons_succ,Act.put,List.setIfInBounds_toArray,List.set_cons_zero,List.set_cons_succ]
   refine wpAnyH_take (i:=10) (v:= ?_) rfl (by kernel_rfl) (by kernel_rfl) (by kernel_rfl) (fun _ _ _ h=>h) (Or.inl ⟨by rfl,?_⟩) hHeld ?_
   rotate_left
   ·(intro w hSw;(try dsimp only at hSw);go_simp;try with_reducible rfl)
   simp only [List.getElem_toArray,List.getElem_cons_zero,List.getElem_cons_succ,Act.put,List.setIfInBounds_toArray,List.set_cons_zero,List.set_cons_succ]
   refine wpAnyH_take (i:=11) (v:= ?_) rfl (by kernel_rfl) (by kernel_rfl) (by kernel_rfl) (fun _ _ _ h=>h) (Or.inl ⟨by rfl,?_⟩) hHeld ?_
   rotate_left
   ·(intro w hSw;(try dsimp only at hSw);go_simp;try with_reducible rfl)
   simp only [List.getElem_toArray,List.getElem_cons_zero,List.getElem_cons_succ,Act.put,List.setIfInBounds_toArray,List.set_cons_zero,List.set_cons_succ]
   refine wpAnyH_take (i:=12) (v:= ?_) rfl (by kernel_rfl) (by kernel_rfl) (by kernel_rfl) (fun _ _ _ h=>h) (Or.inl ⟨by rfl,?_⟩) hHeld ?_
   rotate_left
   ·(intro w hSw;(try dsimp only at hSw);go_simp;try with_reducible rfl)
   simp only [List.getElem_toArray,List.getElem_cons_zero,List.getElem_cons_succ,Act.put,List.setIfInBounds_toArray,List.set_cons_zero,List.set_cons_succ]
   refine wpAnyH_take (i:=13) (v:= ?_) rfl (by kernel_rfl) (by kernel_rfl) (by kernel_rfl) (fun _ _ _ h=>h) (Or.inl ⟨by rfl,?_⟩) hHeld ?_
   rotate_left
   ·(intro w hSw;(try dsimp only at hSw);go_simp;try with_reducible rfl)
   simp only [List.getElem_toArray,List.getElem_cons_zero,List.getElem_cons_succ,Act.put,List.setIfInBounds_toArray,List.set_cons_zero,List.set_cons_succ]
   refine wpAnyH_ready (rs:=[14]) (by kernel_rfl) (by simp) ?_
   refine AllReadyH.cons rfl (fun K hK=> ?_) AllReadyH.nil
   go_simp
   refine(HW.out wd Hlow.out).mono ?_
   rintro e w2 ⟨rfl,rfl⟩
   refine hK.out _ _ hHeld (fun hHeld=> ?_)
   clear hK K
   try simp only [List.getElem_toArray,List.getElem_cons_zero,List.getElem_cons_succ,Act.put,List.setIfInBounds_toArray,List.set_cons_zero,List.set_cons_succ]
   refine wpAnyH_take (i:=15) (v:= ?_) rfl (by kernel_rfl) (by kernel_rfl) (by kernel_rfl) (fun _ _ _ h=>h) (Or.inl ⟨by rfl,?_⟩) hHeld ?_
   rotate_left
   ·(intro w hSw;(try dsimp only at hSw);go_simp;try with_reducible rfl)
   simp only [List.getElem_toArray,List.getElem_cons_zero,List.getElem_cons_succ,Act.put,List.setIfInBounds_toArray,List.set_cons_zero,List.set_cons_succ]
   refine wpAnyH_ready (rs:=[16]) (by kernel_rfl) (by simp) ?_
   refine AllReadyH.cons rfl (fun K hK=> ?_) AllReadyH.nil
   go_simp
   have HMn:=Lib.hid (HMd.out.alloc (.cells #[.string ⟨name.toArray⟩,.string ⟨ver.toArray⟩,.bool false,.int .i64 kind,.bool (decide (name∈s.weak)),.int .i64 0,.bool false,.int .i64 0,.int .i64 0] 52 (0,0)))
   have HNn:=Lib.hid (heap_alloc_new w2 (.cells #[.string ⟨name.toArray⟩,.string ⟨ver.toArray⟩,.bool false,.int .i64 kind,.bool (decide (name∈s.weak)),.int .i64 0,.bool false,.int .i64 0,.int .i64 0] 52 (0,0)))
   have HSn:=Lib.hid (HSd.out.trans (PStep.alloc v w2 (.cells #[.string ⟨name.toArray⟩,.string ⟨ver.toArray⟩,.bool false,.int .i64 kind,.bool (decide (name∈s.weak)),.int .i64 0,.bool false,.int .i64 0,.int .i64 0] 52 (0,0))))
   have hzn:(w2.alloc (.cells #[.string ⟨name.toArray⟩,.string ⟨ver.toArray⟩,.bool false,.int .i64 kind,.bool (decide (name∈s.weak)),.int .i64 0,.bool false,.int .i64 0,.int .i64 0] 52 (0,0))).heap.size=w2.heap.size+1:=by simp
   refine hK.out _ _ ⟨(World.cell?_alloc_lt _ _ _ (World.block_lt_of_cell? _ _ hHeld.1)).trans hHeld.1,(World.cell?_alloc_lt _ _ _ (World.block_lt_of_cell? _ _ hHeld.2)).trans hHeld.2⟩ (fun hHeld=> ?_)
   clear hK K
   try simp only [List.getElem_toArray,List.getElem_cons_zero,List.getElem_cons_succ,Act.put,List.setIfInBounds_toArray,List.set_cons_zero,List.set_cons_succ]
   have HA:Hid (OwnK 52 kSym B (fun b=>b<(w2.alloc (.cells #[.string ⟨name.toArray⟩,.string ⟨ver.toArray⟩,.bool false,.int .i64 kind,.bool (decide (name∈s.weak)),.int .i64 0,.bool false,.int .i64 0,.int .i64 0] 52 (0,0))).heap.size∧¬ v.syms.ownBlock=some b) (w2.alloc (.cells #[.string ⟨name.toArray⟩,.string ⟨ver.toArray⟩,.bool false,.int .i64 kind,.bool (decide (name∈s.weak)),.int .i64 0,.bool false,.int .i64 0,.int .i64 0] 52 (0,0))) (.slice sa n scap) p.syms):=Lib.hid (by rw [← Hsf.out];exact HMn.out.syms.reE flat_sym (fun g hg h=>h.2 hg))
   have HR:Hid (kSym.R (fun b=>b<(w2.alloc (.cells #[.string ⟨name.toArray⟩,.string ⟨ver.toArray⟩,.bool false,.int .i64 kind,.bool (decide (name∈s.weak)),.int .i64 0,.bool false,.int .i64 0,.int .i64 0] 52 (0,0))).heap.size∧¬ (b<(w2.alloc (.cells #[.string ⟨name.toArray⟩,.string ⟨ver.toArray⟩,.bool false,.int .i64 kind,.bool (decide (name∈s.weak)),.int .i64 0,.bool false,.int .i64 0,.int .i64 0] 52 (0,0))).heap.size∧¬ v.syms.ownBlock=some b)∧(Value.slice sa n scap).ownBlock≠some b) (w2.alloc (.cells #[.string ⟨name.toArray⟩,.string ⟨ver.toArray⟩,.bool false,.int .i64 kind,.bool (decide (name∈s.weak)),.int .i64 0,.bool false,.int .i64 0,.int .i64 0] 52 (0,0))) (newSym s.weak name ver kind) (symCells (newSym s.weak name ver kind))):=Lib.hid ⟨rfl,Hok.out⟩
   generalize w2.alloc (.cells #[.string ⟨name.toArray⟩,.string ⟨ver.toArray⟩,.bool false,.int .i64 kind,.bool (decide (name∈s.weak)),.int .i64 0,.bool false,.int .i64 0,.int .i64 0] 52 (0,0))=wn at *
   refine wpAnyH_ready (rs:=[17]) (by kernel_rfl) (by simp) ?_
   refine AllReadyH.cons rfl (fun K hK=> ?_) AllReadyH.nil
   rw [if_pos (by rfl)]
   simp only [List.getElem_toArray,List.getElem_cons_succ,List.getElem_cons_zero]
   refine wp_appendK (K:=kSym) (v:=.slice sa n scap) (e:=52) (B:=B) 32 _ 88 Try.underlying32 info_sym rfl (by decide) (.tmp 65) (.tmp 77) rfl n Hn.out.symm rfl HA.out (fun b hb=>hb.1) w2.heap.size (newSym s.weak name ver kind) (symCells (newSym s.weak name ver kind)) rfl (cells_row HNn.out) (one_sym _) HR.out (by rw [← Hn.out];omega) (by rw [← Hn.out];omega) (by omega) ?_
   rintro g c2 w9 ho9 hs9 hg9-
   have HP9:=Lib.hid (HMn.out.putSyms (u:=.slice (some ⟨g,0,none⟩) (n+1) c2) (l:=p.syms++[newSym s.weak name ver kind]) (by rw [Hsf.out];exact hs9) (ho9.reE flat_sym (fun _ _ h=>h)) (by
    intro b hb
    rw [Hsf.out]at ho9 ⊢
    exact ho9.where_ b hb))
   have hpb9:pb<wn.heap.size∧(Value.slice sa n scap).ownBlock≠some pb:=⟨by omega,fun e=>HMn.out.syms.notE pb (by rw [Hsf.out];exact e) (Or.inl rfl)⟩
   have Hex9:=Lib.hid ((hs9.block pb hpb9).trans HMn.out.ex)
   refine hK.out _ _ ⟨(hs9.cell (p:=⟨pb,9,none⟩) hpb9).trans hHeld.1,(hs9.cell (p:=⟨pb,6,none⟩) hpb9).trans hHeld.2⟩ (fun hHeld=> ?_)
   clear hK K ho9 hs9 hpb9
   try simp only [List.getElem_toArray,List.getElem_cons_zero,List.getElem_cons_succ,Act.put,List.setIfInBounds_toArray,List.set_cons_zero,List.set_cons_succ]
   refine wpAnyH_done (by kernel_rfl) ?_ _
   simp only [phaseQ]
   clear hHeld
   have c9:w9.cell? ⟨pb,9,none⟩=some v.syms:=planCell Hex9.out 9 _ rfl
   rw [Hsf.out]at c9
   have f9:w9.frozen? ⟨pb,9,none⟩=false:=Lib.frozen_of_heap Hex9.out 9
   have HEnd:Hid (PlanM B pb (w9.setCell ⟨pb,9,none⟩ (.slice (some ⟨g,0,none⟩) (n+1) c2)) sv s own {v with syms:=.slice (some ⟨g,0,none⟩) (n+1) c2 } (p.sym s.weak name ver kind).1∧PStep pb v {v with syms:=.slice (some ⟨g,0,none⟩) (n+1) c2 } w (w9.setCell ⟨pb,9,none⟩ (.slice (some ⟨g,0,none⟩) (n+1) c2))):=Lib.hid (by
    rw [HD.out]
    exact⟨HP9.out.1,HSn.out.trans HP9.out.2⟩)
   have HE2:Hid (((p.sym s.weak name ver kind).2:Int)=n):=Lib.hid (by rw [HD.out,Hn.out])
   clear Hex9
   go_wp2
   go_ret
   exact⟨⟨_,by rw [HE2.out];rfl,HEnd.out.1,HEnd.out.2⟩,fun h=>by rw [Hnone.out]at h;cases h⟩
theorem sym_any {B pb:Nat} {w:World} {sv:SpecV} {s:SpecL} {own:Int} {v:PlanV} {p:PlanL} (name ver:List UInt8) (kind:Int) (hM:PlanM B pb w sv s own v p) (hS:SpecM (·<B) w sv s) (hn:Small63 name) (hv:Small63 ver) (hk:In63 kind) (hl:p.syms.length≤1000000) (hB:B≤w.heap.size):
  Calls Try.prog 49 #[.pointer (some ⟨pb,0,none⟩),.string ⟨name.toArray⟩,.string ⟨ver.toArray⟩,.int .i64 kind] w (AskPost B pb sv s own v w (p.sym s.weak name ver kind)):=(sym2_any name ver kind hM hS hn hv hk hl hB).mono fun _ _ h=>h.1
theorem symHit_any {B pb:Nat} {w:World} {sv:SpecV} {s:SpecL} {own:Int} {v:PlanV} {p:PlanL} {i:Nat} (name ver:List UInt8) (kind:Int) (hM:PlanM B pb w sv s own v p) (hS:SpecM (·<B) w sv s) (hn:Small63 name) (hv:Small63 ver) (hk:In63 kind) (hl:p.syms.length≤1000000) (hB:B≤w.heap.size) (hi:p.syms.findIdx? (meantB name ver)=some i):
  Calls Try.prog 49 #[.pointer (some ⟨pb,0,none⟩),.string ⟨name.toArray⟩,.string ⟨ver.toArray⟩,.int .i64 kind] w fun r w'=>r=.returned (.int .i64 i)∧Below w.heap.size w w':=(sym2_any name ver kind hM hS hn hv hk hl hB).mono fun r w' h=>by
 obtain⟨⟨v',h1,-,-⟩,h2⟩:=h
 rw [sym_found hi]at h1
 exact⟨h1,h2 (by rw [hi];rfl)⟩
end Go.Proofs.Ytpomdoliblilfaa
