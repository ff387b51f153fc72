/- Lemmas. -/
import Derived.Test.YtpomdoliblilfaaBld25
namespace Go.Proofs.Ytpomdoliblilfaa
set_option linter.unusedVariables false
set_option linter.unusedSimpArgs false
open Go.RowKit
theorem OwnK.form1 {α:Type} {e:TypeId} {K:Kind α} {B:Nat} {E:Nat→Prop} {w:World} {v:Value} {l:List α} (h:OwnK e K B E w v l) (hl:0<l.length):∃ g c,v=.slice (some ⟨g,0,none⟩) l.length c∧∀ j,w.frozen? ⟨g,j,none⟩=false:=by
 obtain⟨xs,h1,_⟩:=h
 rcases h1.2 with ⟨_,h0⟩ | ⟨g,cap,cur,rfl,_,hh,_⟩
 ·omega
 ·exact⟨g,cap,rfl,Lib.frozen_of_heap hh⟩
def SymsPost (B pb:Nat) (sv:SpecV) (s:SpecL) (own:Int) (v:PlanV) (w:World) (p:PlanL) (l:List SymL) (e:Ending) (w':World):Prop:=
 e=.returned (.tuple #[])∧PlanM B pb w' sv s own v {p with syms:=l }∧PStep pb v v w w'
set_option maxHeartbeats 16000000 in
set_option maxRecDepth 100000 in
theorem symbols_any {B pb:Nat} {w:World} {sv:SpecV} {s:SpecL} {own:Int} {v:PlanV} {p:PlanL} {fv vv:Value} {y:LayN} (yl:LayL) (hyl:yl.stubs=y.stubs)
  (hM:PlanM B pb w sv s own v p) (hS:SpecM (·<B) w sv s) (hB:B≤w.heap.size) (hF:LB kInt (Kept pb v w) w fv yl.funcs) (hV:LB kInt (Kept pb v w) w vv yl.vars) (hlf:yl.funcs.length=s.funcs.length) (hlv:yl.vars.length=s.vars.length)
  (hsl:s.funcs.length+s.vars.length≤p.syms.length) (hfr:∀ x∈yl.funcs,0≤x∧x≤100000000) (hvr:∀ x∈yl.vars,0≤x∧x≤100000000) (hf:s.funcs.length≤2000) (hv:s.vars.length≤2000) (hw:(s.vars.flatMap (·.words)).length≤2000) (hy:0≤y.stubs∧y.stubs≤25000000) (hsz:p.sz≤999990):
  Calls Try.prog 19 #[.agg (layCells pb fv vv y).toArray] w (SymsPost B pb sv s own v w p (symsL s yl p.syms)):=by
 have HQ:=Lib.hid (symsL_fold (l:=p.syms) hlf hlv)
 rw [hyl]at HQ
 rw [HQ.out]
 clear HQ
 obtain⟨fa,fc,hff⟩:=hF.form
 obtain⟨va,vc,hvv⟩:=hV.form
 subst hff hvv
 have hsl2:p.syms.length≤999990:=by unfold PlanL.sz at hsz;omega
 obtain⟨nf,hnf⟩:∃ nf,nf=s.funcs.length:=⟨_,rfl⟩
 obtain⟨nv,hnv⟩:∃ nv,nv=s.vars.length:=⟨_,rfl⟩
 rw [← hnf]at hlf hsl hf ⊢
 rw [← hnv]at hlv hsl hv ⊢
 obtain⟨funcs,hfu⟩:∃ funcs,funcs=yl.funcs:=⟨_,rfl⟩
 obtain⟨vars,hva⟩:∃ vars,vars=yl.vars:=⟨_,rfl⟩
 rw [← hfu]at hF hlf hfr ⊢
 rw [← hva]at hV hlv hvr ⊢
 have Hnf:=Lib.hid hnf
 have Hnv:=Lib.hid hnv
 have Hlf:=Lib.hid hlf
 have Hlv:=Lib.hid hlv
 have Hfr:=Lib.hid hfr
 have Hvr:=Lib.hid hvr
 have Hw:=Lib.hid hw
 rw [hlf]at hF ⊢
 rw [hlv]at hV ⊢
 have HM1:=Lib.hid (hM.alloc (.cells #[.pointer (some ⟨pb,0,none⟩),.slice fa nf fc,.slice va nv vc,.int .i64 y.stubs,.int .i64 y.got,.int .i64 y.plt,.int .i64 0,.int .i64 y.text,.int .i64 y.data,.int .i64 y.tls] 83 (0,0)))
 have HS1:=Lib.hid (PStep.alloc (pb:=pb) v w (.cells #[.pointer (some ⟨pb,0,none⟩),.slice fa nf fc,.slice va nv vc,.int .i64 y.stubs,.int .i64 y.got,.int .i64 y.plt,.int .i64 0,.int .i64 y.text,.int .i64 y.data,.int .i64 y.tls] 83 (0,0)))
 have HK1:=Lib.hid (hM.kept_new (.cells #[.pointer (some ⟨pb,0,none⟩),.slice fa nf fc,.slice va nv vc,.int .i64 y.stubs,.int .i64 y.got,.int .i64 y.plt,.int .i64 0,.int .i64 y.text,.int .i64 y.data,.int .i64 y.tls] 83 (0,0)))
 have HX1:=Lib.hid (heap_alloc_new w (.cells #[.pointer (some ⟨pb,0,none⟩),.slice fa nf fc,.slice va nv vc,.int .i64 y.stubs,.int .i64 y.got,.int .i64 y.plt,.int .i64 0,.int .i64 y.text,.int .i64 y.data,.int .i64 y.tls] 83 (0,0)))
 have HF1:=Lib.hid ((hF.keeps (fun b hb=>HS1.out.block hb)).imp (fun b hb=>HS1.out.kept hb))
 have HV1:=Lib.hid ((hV.keeps (fun b hb=>HS1.out.block hb)).imp (fun b hb=>HS1.out.kept hb))
 have HSp1:=Lib.hid (hS.keeps (.of_below ((Below.refl B w).alloc hB (.cells #[.pointer (some ⟨pb,0,none⟩),.slice fa nf fc,.slice va nv vc,.int .i64 y.stubs,.int .i64 y.got,.int .i64 y.plt,.int .i64 0,.int .i64 y.text,.int .i64 y.data,.int .i64 y.tls] 83 (0,0)))))
 have hz1:w.heap.size<(w.alloc (.cells #[.pointer (some ⟨pb,0,none⟩),.slice fa nf fc,.slice va nv vc,.int .i64 y.stubs,.int .i64 y.got,.int .i64 y.plt,.int .i64 0,.int .i64 y.text,.int .i64 y.data,.int .i64 y.tls] 83 (0,0))).heap.size:=by simp
 clear hnf hnv hfu hva hlf hlv hfr hvr hw hM hS hF hV hsz hyl
 show Calls Try.prog 19 #[.agg #[.pointer (some ⟨pb,0,none⟩),.slice fa nf fc,.slice va nv vc,.int .i64 y.stubs,.int .i64 y.got,.int .i64 y.plt,.int .i64 0,.int .i64 y.text,.int .i64 y.data,.int .i64 y.tls]] w _
 go_enter Try.func19,Try.ntmps19
 have k1:(w.alloc (.cells #[.pointer (some ⟨pb,0,none⟩),.slice fa nf fc,.slice va nv vc,.int .i64 y.stubs,.int .i64 y.got,.int .i64 y.plt,.int .i64 0,.int .i64 y.text,.int .i64 y.data,.int .i64 y.tls] 83 (0,0))).cell? ⟨w.heap.size,1,none⟩=some (.slice fa nf fc):=by rw [Lib.cell_of_heap HX1.out];rfl
 go_upto_block 0 with fail
 generalize hws:w.heap.size=lb at *
 have Hws:=Lib.hid hws
 clear hws
 generalize w.alloc (.cells #[.pointer (some ⟨pb,0,none⟩),.slice fa nf fc,.slice va nv vc,.int .i64 y.stubs,.int .i64 y.got,.int .i64 y.plt,.int .i64 0,.int .i64 y.text,.int .i64 y.data,.int .i64 y.tls] 83 (0,0))=w1 at *
 go_cut [] (fun wx=>PlanM B pb wx sv s own v {p with syms:=foldF y.stubs funcs p.syms nf }∧PStep pb v v w1 wx)
 case first=>
  go_wp2_with fail
  clear k1
  obtain⟨fa',fb,fo,fc',hfe,-,-,hfat⟩:=HF1.out.at
  have hfaa:=hfat.addr
  rw [Hlf.out]at hfaa hfe
  obtain⟨rfl,rfl⟩:fa=fa'∧fc=fc':=by cases hfe;exact⟨rfl,rfl⟩
  have HFat:=Lib.hid hfat
  clear hfe hfat
  go_loopw [11] (fun i wr=>∃ k:Nat,i=.int .i64 k∧k≤nf∧PlanM B pb wr sv s own v {p with syms:=foldF y.stubs funcs p.syms k }∧PStep pb v v w1 wr) (fun i _=>nf-(intOf i).toNat)
  case atStart=>exact⟨0,rfl,Nat.zero_le _,HM1.out,PStep.refl _ _ _⟩
  case round=>
   obtain⟨k,rfl,hk,hM,hP⟩:=hrel
   have HM:=Lib.hid hM
   have HP:=Lib.hid hP
   clear hM hP
   by_cases hlt:k<nf
   ·obtain⟨a0,ha0⟩:∃ a0,funcs[k]? =some a0:=⟨_,List.getElem?_eq_getElem (by rw [Hlf.out];exact hlt)⟩
    obtain rfl:=hfaa (by omega)
    have hfbk:=HFat.out.inS (by rw [Hlf.out];omega)
    have HFb:=Lib.hid (HP.out.block hfbk)
    have hFr:=Lib.hid (HFat.out.keeps (w':=wr) (fun b hb=>HP.out.block hb))
    have g0:=hFr.out.int1 k a0 ha0
    have ha0r:=Hfr.out a0 (List.mem_of_getElem? ha0)
    have HA0:Hid (funcs.getD k 0=a0):=Lib.hid (by rw [List.getD_eq_getElem?_getD,ha0];rfl)
    have HLr:=Lib.hid ((HP.out.block HK1.out).trans HX1.out)
    have y1:wr.cell? ⟨lb,1,none⟩=some (.slice (some ⟨fb,fo,none⟩) nf fc):=by rw [Lib.cell_of_heap HLr.out];rfl
    have y3:wr.cell? ⟨lb,3,none⟩=some (.int .i64 y.stubs):=by rw [Lib.cell_of_heap HLr.out];rfl
    obtain⟨E,hE⟩:∃ E,E=endF y.stubs funcs k:=⟨_,rfl⟩
    have HE:=Lib.hid hE
    have hk2:(k:Int)<(nf:Int):=by omega
    clear ha0 hE
    go_upto_if 23 with fail
    go_cut [4] (fun e wx=>e=.int .i64 E∧wx=wr)
    case first=>
     by_cases hk1:k+1<nf
     ·obtain⟨a1,ha1⟩:∃ a1,funcs[k+1]? =some a1:=⟨_,List.getElem?_eq_getElem (by rw [Hlf.out];exact hk1)⟩
      have g1:=hFr.out.int1 (k+1) a1 ha1
      have HEE:Hid (a1=E):=Lib.hid (by rw [HE.out];unfold endF;rw [ha1];rfl)
      have hk3:(k:Int)+1<(nf:Int):=by omega
      have hk4:((k:Int)+1).toNat=k+1:=by omega
      clear ha1
      go_wp2_with fail
      go_meet
      exact⟨by rw [HEE.out],rfl⟩
     ·have HEE:Hid (y.stubs=E):=Lib.hid (by rw [HE.out];unfold endF;rw [List.getElem?_eq_none (by rw [Hlf.out];omega)];rfl)
      have hk3:¬ (k:Int)+1<(nf:Int):=by omega
      go_wp2_with fail
      go_meet
      exact⟨by rw [HEE.out],rfl⟩
    case rest=>
    obtain⟨rfl,rfl⟩:=hcut
    rename World=>wr
    clear g0 y1 y3
    have hEr:0≤E∧E≤100000000:=by
     have h:=HE.out
     unfold endF at h
     by_cases hk1:k+1<nf
     ·obtain⟨a1,ha1⟩:∃ a1,funcs[k+1]? =some a1:=⟨_,List.getElem?_eq_getElem (by rw [Hlf.out];exact hk1)⟩
      rw [ha1]at h
      rw [h];exact Hfr.out a1 (List.mem_of_getElem? ha1)
     ·rw [List.getElem?_eq_none (by rw [Hlf.out];omega)]at h
      rw [h];show 0≤y.stubs∧y.stubs≤100000000;omega
    have hfl:=foldF_len y.stubs funcs p.syms k
    have HSt:Hid (foldF y.stubs funcs p.syms (k+1)=(foldF y.stubs funcs p.syms k).modify k (placeS a0 (E-a0))):=Lib.hid (by rw [foldF,HA0.out,HE.out])
    obtain⟨q,hq⟩:∃ q,q=foldF y.stubs funcs p.syms k:=⟨_,rfl⟩
    rw [← hq]at HM HSt hfl
    have hkq:k<q.length:=by omega
    have hql:q.length≤999990:=by omega
    obtain⟨g,sc,hsy,hfz⟩:=HM.out.syms.form1 (by show 0<q.length;omega)
    obtain⟨x,hx⟩:∃ x,q[k]? =some x:=⟨_,List.getElem?_eq_getElem hkq⟩
    obtain⟨-,-,-,-,-,-,-,-,c7,c8⟩:=HM.out.symAt hsy k x hx
    obtain⟨n,hn⟩:∃ n,n=q.length:=⟨_,rfl⟩
    have c9:=HM.out.c9
    have Hsy:=Lib.hid hsy
    rw [hsy]at c9
    rw [show ({p with syms:=q }:PlanL).syms.length=n from hn.symm]at c9
    have hkn:(k:Int)<(n:Int):=by omega
    have hn2:n≤999990:=by omega
    have Hown:Hid (v.syms.ownBlock=some g):=Lib.hid (by rw [Hsy.out];rfl)
    have Hkq:=Lib.hid hkq
    rw [Nat.zero_add]at c7 c8
    have f7:=hfz (k*9+7)
    have f8:=hfz (k*9+8)
    have y0:wr.cell? ⟨lb,0,none⟩=some (.pointer (some ⟨pb,0,none⟩)):=by rw [Lib.cell_of_heap HLr.out];rfl
    have hlg:lb≠g:=fun e=>(HP.out.kept HK1.out).no (Or.inl (by rw [e];exact Hown.out))
    have hpg:pb≠g:=fun e=>HM.out.syms.notE g Hown.out (Or.inl e.symm)
    clear hq hsy hx hn hfl hkq hfz
    go_upto_region 7 with fail
    refine wp_region_phase 19 (by kernel_rfl) (by kernel_rfl) ?_
    simp only [List.take_succ_cons,List.take_zero,List.drop_succ_cons,List.drop_zero,List.take_nil,List.drop_nil]
    refine wpAny_of_held (S:=fun w':World=>w'.cell? ⟨lb,0,none⟩=some (.pointer (some ⟨pb,0,none⟩))∧w'.cell? ⟨pb,9,none⟩=some (.slice (some ⟨g,0,none⟩) n sc)) _ _ _ _ ?_
    have hHeld:(fun w':World=>w'.cell? ⟨lb,0,none⟩=some (.pointer (some ⟨pb,0,none⟩))∧w'.cell? ⟨pb,9,none⟩=some (.slice (some ⟨g,0,none⟩) n sc)) (World.drew wr):=⟨y0,c9⟩
    show wpAnyH _ _ _ _ _ _ _ _ (World.drew _)
    have HMd:=Lib.hid (HM.out.below (Below.refl _ wr).drew)
    have HPd:=Lib.hid (HP.out.trans (PStep.below (pb:=pb) (v:=v) (Below.refl _ wr).drew))
    have d7:wr.drew.cell? ⟨g,k*9+7,none⟩=some (.int .i64 x.value):=c7
    have d8:wr.drew.cell? ⟨g,k*9+8,none⟩=some (.int .i64 x.size):=c8
    have e7:wr.drew.frozen? ⟨g,k*9+7,none⟩=false:=f7
    have e8:wr.drew.frozen? ⟨g,k*9+8,none⟩=false:=f8
    clear c7 c8 f7 f8 c9 y0
    generalize (World.drew wr)=wd at *
    have o1:IntKind.i64.wrap (E-a0)=E-a0:=IntWalk.i64_in _ (by omega)
    refine wpAnyH_take (i:=0) (v:= ?_) rfl (by kernel_rfl) (by kernel_rfl) (by kernel_rfl) (fun _ _ _ h=>h) (Or.inl ⟨by rfl,?_⟩) hHeld ?_
    rotate_left
    ·(intro w hSw;(try dsimp only at hSw);go_simp;try with_reducible rfl)
    simp only [List.getElem_toArray,List.getElem_cons_zero,List.getElem_cons_succ,Act.put,List.setIfInBounds_toArray,List.set_cons_zero,List.set_cons_succ]
    refine wpAnyH_take (i:=1) (v:= ?_) rfl (by kernel_rfl) (by kernel_rfl) (by kernel_rfl) (fun _ _ _ h=>h) (Or.inl ⟨by rfl,?_⟩) hHeld ?_
    rotate_left
    ·(intro w hSw;(try dsimp only at hSw);go_simp;try with_reducible rfl)
    simp only [List.getElem_toArray,List.getElem_cons_zero,List.getElem_cons_succ,Act.put,List.setIfInBounds_toArray,List.set_cons_zero,List.set_cons_succ]
    refine wpAnyH_take (i:=2) (v:= ?_) rfl (by kernel_rfl) (by kernel_rfl) (by kernel_rfl) (fun _ _ _ h=>h) (Or.inl ⟨by rfl,?_⟩) hHeld ?_
    rotate_left
    ·(intro w hSw;(try dsimp only at hSw);go_simp;try with_reducible rfl)
    simp only [List.getElem_toArray,List.getElem_cons_zero,List.getElem_cons_succ,Act.put,List.setIfInBounds_toArray,List.set_cons_zero,List.set_cons_succ]
    refine wpAnyH_take (i:=3) (v:= ?_) rfl (by kernel_rfl) (by kernel_rfl) (by kernel_rfl) (fun _ _ _ h=>h) (Or.inl ⟨by rfl,?_⟩) hHeld ?_
    rotate_left
    ·(intro w hSw;(try dsimp only at hSw);go_simp;try with_reducible rfl)
    simp only [List.getElem_toArray,List.getElem_cons_zero,List.getElem_cons_succ,Act.put,List.setIfInBounds_toArray,List.set_cons_zero,List.set_cons_succ]
    refine wpAnyH_take (i:=4) (v:= ?_) rfl (by kernel_rfl) (by kernel_rfl) (by kernel_rfl) (fun _ _ _ h=>h) (Or.inl ⟨by rfl,?_⟩) hHeld ?_
    rotate_left
    ·(intro w hSw;(try dsimp only at hSw);go_simp;try with_reducible rfl)
    simp only [List.getElem_toArray,List.getElem_cons_zero,List.getElem_cons_succ,Act.put,List.setIfInBounds_toArray,List.set_cons_zero,List.set_cons_succ]
    refine wpAnyH_take (i:=5) (v:= ?_) rfl (by kernel_rfl) (by kernel_rfl) (by kernel_rfl) (fun _ _ _ h=>h) (Or.inl ⟨by rfl,?_⟩) hHeld ?_
    rotate_left
    ·(intro w hSw;(try dsimp only at hSw);go_simp;try with_reducible rfl)
    simp only [List.getElem_toArray,List.getElem_cons_zero,List.getElem_cons_succ,Act.put,List.setIfInBounds_toArray,List.set_cons_zero,List.set_cons_succ]
    refine wpAnyH_take (i:=6) (v:= ?_) rfl (by kernel_rfl) (by kernel_rfl) (by kernel_rfl) (fun _ _ _ h=>h) (Or.inl ⟨by rfl,?_⟩) hHeld ?_
    rotate_left
    ·(intro w hSw;(try dsimp only at hSw);go_simp;try with_reducible rfl)
    simp only [List.getElem_toArray,List.getElem_cons_zero,List.getElem_cons_succ,Act.put,List.setIfInBounds_toArray,List.set_cons_zero,List.set_cons_succ]
    refine wpAnyH_take (i:=7) (v:= ?_) rfl (by kernel_rfl) (by kernel_rfl) (by kernel_rfl) (fun _ _ _ h=>h) (Or.inl ⟨by rfl,?_⟩) hHeld ?_
    rotate_left
    ·(intro w hSw;(try dsimp only at hSw);go_simp;try with_reducible rfl)
    simp only [List.getElem_toArray,List.getElem_cons_zero,List.getElem_cons_succ,Act.put,List.setIfInBounds_toArray,List.set_cons_zero,List.set_cons_succ]
    refine wpAnyH_take (i:=8) (v:= ?_) rfl (by kernel_rfl) (by kernel_rfl) (by kernel_rfl) (fun _ _ _ h=>h) (Or.inl ⟨by rfl,?_⟩) hHeld ?_
    rotate_left
    ·(intro w hSw;(try dsimp only at hSw);go_simp;try with_reducible rfl)
    simp only [List.getElem_toArray,List.getElem_cons_zero,List.getElem_cons_succ,Act.put,List.setIfInBounds_toArray,List.set_cons_zero,List.set_cons_succ]
    refine wpAnyH_take (i:=9) (v:= ?_) rfl (by kernel_rfl) (by kernel_rfl) (by kernel_rfl) (fun _ _ _ h=>h) (Or.inl ⟨by rfl,?_⟩) hHeld ?_
    rotate_left
    ·(intro w hSw;(try dsimp only at hSw);go_simp;try with_reducible rfl)
    simp only [List.getElem_toArray,List.getElem_cons_zero,List.getElem_cons_succ,Act.put,List.setIfInBounds_toArray,List.set_cons_zero,List.set_cons_succ]
    refine wpAnyH_take (i:=10) (v:= ?_) rfl (by kernel_rfl) (by kernel_rfl) (by kernel_rfl) (fun _ _ _ h=>h) (Or.inl ⟨by rfl,?_⟩) hHeld ?_
    rotate_left
    ·(intro w hSw;(try dsimp only at hSw);go_simp;try with_reducible rfl)
    simp only [List.getElem_toArray,List.getElem_cons_zero,List.getElem_cons_succ,Act.put,List.setIfInBounds_toArray,List.set_cons_zero,List.set_cons_succ]
    refine wpAnyH_take (i:=11) (v:= ?_) rfl (by kernel_rfl) (by kernel_rfl) (by kernel_rfl) (fun _ _ _ h=>h) (Or.inl ⟨by rfl,?_⟩) hHeld ?_
    rotate_left
    ·(intro w hSw;(try dsimp only at hSw);go_simp;try with_reducible rfl)
    simp only [List.getElem_toArray,List.getElem_cons_zero,List.getElem_cons_succ,Act.put,List.setIfInBounds_toArray,List.set_cons_zero,List.set_cons_succ]
    refine wpAnyH_take (i:=12) (v:= ?_) rfl (by kernel_rfl) (by kernel_rfl) (by kernel_rfl) (fun _ _ _ h=>h) (Or.inl ⟨by rfl,?_⟩) hHeld ?_
    rotate_left
    ·(intro w hSw;(try dsimp only at hSw);go_simp;try with_reducible rfl)
    simp only [List.getElem_toArray,List.getElem_cons_zero,List.getElem_cons_succ,Act.put,List.setIfInBounds_toArray,List.set_cons_zero,List.set_cons_succ]
    refine wpAnyH_take (i:=13) (v:= ?_) rfl (by kernel_rfl) (by kernel_rfl) (by kernel_rfl) (fun _ _ _ h=>h) (Or.inl ⟨by rfl,?_⟩) hHeld ?_
    rotate_left
    ·(intro w hSw;(try dsimp only at hSw);go_simp;try with_reducible rfl)
    simp only [List.getElem_toArray,List.getElem_cons_zero,List.getElem_cons_succ,Act.put,List.setIfInBounds_toArray,List.set_cons_zero,List.set_cons_succ]
    refine wpAnyH_take (i:=14) (v:= ?_) rfl (by kernel_rfl) (by kernel_rfl) (by kernel_rfl) (fun _ _ _ h=>h) (Or.inl ⟨by rfl,?_⟩) hHeld ?_
    rotate_left
    ·(intro w hSw;(try dsimp only at hSw);go_simp;try with_reducible rfl)
    simp only [List.getElem_toArray,List.getElem_cons_zero,List.getElem_cons_succ,Act.put,List.setIfInBounds_toArray,List.set_cons_zero,List.set_cons_succ]
    refine wpAnyH_take (i:=15) (v:= ?_) rfl (by kernel_rfl) (by kernel_rfl) (by kernel_rfl) (fun _ _ _ h=>h) (Or.inl ⟨by rfl,?_⟩) hHeld ?_
    rotate_left
    ·(intro w hSw;(try dsimp only at hSw);go_simp;try with_reducible rfl)
    simp only [List.getElem_toArray,List.getElem_cons_zero,List.getElem_cons_succ,Act.put,List.setIfInBounds_toArray,List.set_cons_zero,List.set_cons_succ]
    refine wpAnyH_take (i:=16) (v:= ?_) rfl (by kernel_rfl) (by kernel_rfl) (by kernel_rfl) (fun _ _ _ h=>h) (Or.inl ⟨by rfl,?_⟩) hHeld ?_
    rotate_left
    ·(intro w hSw;(try dsimp only at hSw);go_simp;try with_reducible rfl)
    simp only [List.getElem_toArray,List.getElem_cons_zero,List.getElem_cons_succ,Act.put,List.setIfInBounds_toArray,List.set_cons_zero,List.set_cons_succ]
    refine wpAnyH_take (i:=17) (v:= ?_) rfl (by kernel_rfl) (by kernel_rfl) (by kernel_rfl) (fun _ _ _ h=>h) (Or.inl ⟨by rfl,?_⟩) hHeld ?_
    rotate_left
    ·(intro w hSw;(try dsimp only at hSw);go_simp;try with_reducible rfl)
    simp only [List.getElem_toArray,List.getElem_cons_zero,List.getElem_cons_succ,Act.put,List.setIfInBounds_toArray,List.set_cons_zero,List.set_cons_succ]
    refine wpAnyH_ready (rs:=[18]) (by kernel_rfl) (by simp) ?_
    refine AllReadyH.cons rfl (fun K hK=> ?_) AllReadyH.nil
    go_simp
    have hsc:Step (fun b=>b≠g) wd (wd.setCell ⟨g,k*9+7,none⟩ (.int .i64 a0)):=(Step.refl _ wd).setCell (fun h=>h rfl) _
    refine hK.out _ _ ⟨(hsc.cell (p:=⟨lb,0,none⟩) hlg).trans hHeld.1,(hsc.cell (p:=⟨pb,9,none⟩) hpg).trans hHeld.2⟩ (fun hHeld=> ?_)
    clear hK K hsc
    try simp only [List.getElem_toArray,List.getElem_cons_zero,List.getElem_cons_succ,Act.put,List.setIfInBounds_toArray,List.set_cons_zero,List.set_cons_succ]
    refine wpAnyH_done (by kernel_rfl) ?_ _
    simp only [phaseQ]
    clear hHeld o1
    have HMn:=Lib.hid (HMd.out.placeSym Hown.out Hkq.out a0 (E-a0) (by unfold In63;omega) (by unfold In63;omega))
    have HPn:=Lib.hid ((HPd.out.trans (PStep.setHas (pb:=pb) v wd (Or.inl Hown.out) (k*9+7) (.int .i64 a0))).trans (PStep.setHas (pb:=pb) v _ (Or.inl Hown.out) (k*9+8) (.int .i64 (E-a0))))
    go_wp2
    go_roundw
    case rel=>exact⟨k+1,by go_num,by omega,by rw [HSt.out];exact HMn.out,HPn.out⟩
    case measure=>simp [intOf];omega
   ·have HE:Hid (PlanM B pb wr sv s own v {p with syms:=foldF y.stubs funcs p.syms nf }∧PStep pb v v w1 wr):=Lib.hid (by
     rw [show nf=k by omega];exact⟨HM.out,HP.out⟩)
    go_wp2_with fail
    go_meet
    exact HE.out
 case rest=>
 obtain⟨hM,hP⟩:=hcut
 have HM:=Lib.hid hM
 have HP:=Lib.hid hP
 clear hM hP k1
 rename World=>w2
 have hpf:=foldF_len y.stubs funcs p.syms nf
 obtain⟨ps,hps⟩:∃ ps,ps=foldF y.stubs funcs p.syms nf:=⟨_,rfl⟩
 have Hps:=Lib.hid hps
 rw [← hps]at HM hpf
 have hpl2:ps.length≤999990:=by omega
 have hpl3:nf+nv≤ps.length:=by omega
 have HLr:=Lib.hid ((HP.out.block HK1.out).trans HX1.out)
 have y0:w2.cell? ⟨lb,0,none⟩=some (.pointer (some ⟨pb,0,none⟩)):=by rw [Lib.cell_of_heap HLr.out];rfl
 obtain⟨vfa,vfb,vfo,vfc,hvf,-,-,hvat⟩:=HSp1.out.vars.at
 have hvaa:=hvat.addr
 have Hvat:=Lib.hid hvat
 rw [← Hnv.out]at hvaa hvf
 have c5:=HM.out.c5
 rw [hvf]at c5
 have hBw:B≤w1.heap.size:=by omega
 clear hvat hvf hps hpf
 go_wp2_with fail
 clear y0 c5
 obtain⟨va',vvb,vvo,vvc,hvq,-,-,hvqat⟩:=HV1.out.at
 have hvqa:=hvqat.addr
 rw [Hlv.out]at hvqa hvq
 obtain⟨rfl,rfl⟩:va=va'∧vc=vvc:=by cases hvq;exact⟨rfl,rfl⟩
 have HVat:=Lib.hid hvqat
 clear hvq hvqat
 go_loopw [58] (fun i wr=>∃ k:Nat,i=.int .i64 k∧k≤nv∧PlanM B pb wr sv s own v {p with syms:=foldV nf vars s.vars ps k }∧PStep pb v v w1 wr) (fun i _=>nv-(intOf i).toNat)
 case atStart=>exact⟨0,rfl,Nat.zero_le _,HM.out,HP.out⟩
 case round=>
  obtain⟨k,rfl,hk,hM2,hP2⟩:=hrel
  have HM2:=Lib.hid hM2
  have HP2:=Lib.hid hP2
  clear hM2 hP2
  by_cases hlt:k<nv
  ·obtain⟨x,hx⟩:∃ x,s.vars[k]? =some x:=⟨_,List.getElem?_eq_getElem (by rw [← Hnv.out];exact hlt)⟩
   obtain rfl:=hvaa (by omega)
   have HLow:=Lib.hid (HP2.out.low HM1.out hBw)
   obtain⟨wv,rv,hwv,hrv,hso,g0,g1,g2,g3,g4,g5,g6,g7,g8,g9,g10,g11⟩:=Hvat.out.var12b HLow.out k x hx
   obtain⟨wa_,wc_,rfl⟩:=hwv.form
   obtain⟨ra,rc,rfl⟩:=hrv.form
   obtain⟨m,hm⟩:∃ m,m=x.words.length:=⟨_,rfl⟩
   have hm2:m≤2000:=by have:=words_le hx;have:=Hw.out;omega
   rw [← hm]at g9
   have HW:Hid (((s.vars.map (·.words.length)).getD k 0:Nat)=m):=Lib.hid (by rw [List.getD_eq_getElem?_getD,List.getElem?_map,hx,hm];rfl)
   obtain⟨a0,ha0⟩:∃ a0,vars[k]? =some a0:=⟨_,List.getElem?_eq_getElem (by rw [Hlv.out];exact hlt)⟩
   have ha0r:=Hvr.out a0 (List.mem_of_getElem? ha0)
   have HA0:Hid (vars.getD k 0=a0):=Lib.hid (by rw [List.getD_eq_getElem?_getD,ha0];rfl)
   obtain rfl:=hvqa (by omega)
   have hvbk:=HVat.out.inS (by rw [Hlv.out];omega)
   have HSt:Hid (foldV nf vars s.vars ps (k+1)=(foldV nf vars s.vars ps k).modify (nf+k) (placeS a0 (8*(m:Int)))):=Lib.hid (by rw [foldV,HA0.out,HW.out])
   have hfl:=foldV_len nf vars s.vars ps k
   obtain⟨q,hq⟩:∃ q,q=foldV nf vars s.vars ps k:=⟨_,rfl⟩
   rw [← hq]at HM2 HSt hfl
   have HMa:=Lib.hid (HM2.out.alloc (.cells #[.string ⟨x.sym.name.toArray⟩,.string ⟨x.sym.version.toArray⟩,.bool x.sym.old,.int .i64 x.sym.kind,.bool x.sym.weak,.int .i64 x.sym.vis,.bool x.sym.defined,.int .i64 x.sym.value,.int .i64 x.sym.size,.slice wa_ m wc_,.slice ra x.refs.length rc,.bool x.copied] 71 (0,0)))
   have HPa:=Lib.hid (HP2.out.trans (PStep.alloc (pb:=pb) v wr (.cells #[.string ⟨x.sym.name.toArray⟩,.string ⟨x.sym.version.toArray⟩,.bool x.sym.old,.int .i64 x.sym.kind,.bool x.sym.weak,.int .i64 x.sym.vis,.bool x.sym.defined,.int .i64 x.sym.value,.int .i64 x.sym.size,.slice wa_ m wc_,.slice ra x.refs.length rc,.bool x.copied] 71 (0,0))))
   have HXa:=Lib.hid (heap_alloc_new wr (.cells #[.string ⟨x.sym.name.toArray⟩,.string ⟨x.sym.version.toArray⟩,.bool x.sym.old,.int .i64 x.sym.kind,.bool x.sym.weak,.int .i64 x.sym.vis,.bool x.sym.defined,.int .i64 x.sym.value,.int .i64 x.sym.size,.slice wa_ m wc_,.slice ra x.refs.length rc,.bool x.copied] 71 (0,0)))
   have HKa:=Lib.hid (HM2.out.kept_new (.cells #[.string ⟨x.sym.name.toArray⟩,.string ⟨x.sym.version.toArray⟩,.bool x.sym.old,.int .i64 x.sym.kind,.bool x.sym.weak,.int .i64 x.sym.vis,.bool x.sym.defined,.int .i64 x.sym.value,.int .i64 x.sym.size,.slice wa_ m wc_,.slice ra x.refs.length rc,.bool x.copied] 71 (0,0)))
   have Ha0:=Lib.hid ha0
   have hk2:(k:Int)<(nv:Int):=by omega
   clear hx hso hwv hrv hm ha0 hq
   go_upto_region 12 with fail
   clear g0 g1 g2 g3 g4 g5 g6 g7 g8 g9 g10 g11
   generalize wr.alloc (.cells #[.string ⟨x.sym.name.toArray⟩,.string ⟨x.sym.version.toArray⟩,.bool x.sym.old,.int .i64 x.sym.kind,.bool x.sym.weak,.int .i64 x.sym.vis,.bool x.sym.defined,.int .i64 x.sym.value,.int .i64 x.sym.size,.slice wa_ m wc_,.slice ra x.refs.length rc,.bool x.copied] 71 (0,0))=wa at *
   generalize wr.heap.size=xb at *
   have HLa:=Lib.hid ((HPa.out.block HK1.out).trans HX1.out)
   obtain⟨g,sc,hsy,hfz⟩:=HMa.out.syms.form1 (by show 0<q.length;omega)
   obtain⟨z,hz⟩:∃ z,q[nf+k]? =some z:=⟨_,List.getElem?_eq_getElem (by omega)⟩
   obtain⟨-,-,-,-,-,-,-,-,c7,c8⟩:=HMa.out.symAt hsy (nf+k) z hz
   obtain⟨n,hn⟩:∃ n,n=q.length:=⟨_,rfl⟩
   have c9:=HMa.out.c9
   have c4:=HMa.out.c4
   obtain⟨sfa,sfc,hsf⟩:=HSp1.out.funcs.form
   rw [hsf,← Hnf.out]at c4
   have Hsy:=Lib.hid hsy
   rw [hsy]at c9
   rw [show ({p with syms:=q }:PlanL).syms.length=n from hn.symm]at c9
   have hkn:(nf:Int)+(k:Int)<(n:Int):=by omega
   have hn2:n≤999990:=by omega
   have Hown:Hid (v.syms.ownBlock=some g):=Lib.hid (by rw [Hsy.out];rfl)
   have Hkq:Hid (nf+k<q.length):=Lib.hid (by omega)
   rw [Nat.zero_add]at c7 c8
   have f7:=hfz ((nf+k)*9+7)
   have f8:=hfz ((nf+k)*9+8)
   have y0:wa.cell? ⟨lb,0,none⟩=some (.pointer (some ⟨pb,0,none⟩)):=by rw [Lib.cell_of_heap HLa.out];rfl
   have hlg:lb≠g:=fun e=>(HPa.out.kept HK1.out).no (Or.inl (by rw [e];exact Hown.out))
   have hvg:vvb≠g:=fun e=>(HPa.out.kept hvbk).no (Or.inl (by rw [e];exact Hown.out))
   have hxg:xb≠g:=fun e=>HKa.out.no (Or.inl (by rw [e];exact Hown.out))
   clear hsy hz hn hfl hfz hsf
   have o1:IntKind.i64.wrap ((nf:Int)+(k:Int))=(nf:Int)+(k:Int):=IntWalk.i64_in _ (by omega)
   have o2:((nf:Int)+(k:Int)).toNat=nf+k:=by omega
   have o3:(0:Int)≤(nf:Int)+(k:Int):=by omega
   refine wp_region_phase 15 (by kernel_rfl) (by kernel_rfl) ?_
   simp only [List.take_succ_cons,List.take_zero,List.drop_succ_cons,List.drop_zero,List.take_nil,List.drop_nil]
   refine wpAny_of_held (S:=fun w':World=>w'.cell? ⟨lb,0,none⟩=some (.pointer (some ⟨pb,0,none⟩))∧w'.cell? ⟨pb,9,none⟩=some (.slice (some ⟨g,0,none⟩) n sc)∧w'.cell? ⟨pb,4,none⟩=some (.slice sfa nf sfc)) _ _ _ _ ?_
   have hHeld:(fun w':World=>w'.cell? ⟨lb,0,none⟩=some (.pointer (some ⟨pb,0,none⟩))∧w'.cell? ⟨pb,9,none⟩=some (.slice (some ⟨g,0,none⟩) n sc)∧w'.cell? ⟨pb,4,none⟩=some (.slice sfa nf sfc)) (World.drew wa):=⟨y0,c9,c4⟩
   show wpAnyH _ _ _ _ _ _ _ _ (World.drew _)
   have HMd:=Lib.hid (HMa.out.below (Below.refl _ wa).drew)
   have HPd:=Lib.hid (HPa.out.trans (PStep.below (pb:=pb) (v:=v) (Below.refl _ wa).drew))
   have HKd:=Lib.hid (HKa.out.below (Below.refl wa.heap.size wa).drew)
   have HXd:Hid ((World.drew wa).heap[xb]? =some (.cells #[.string ⟨x.sym.name.toArray⟩,.string ⟨x.sym.version.toArray⟩,.bool x.sym.old,.int .i64 x.sym.kind,.bool x.sym.weak,.int .i64 x.sym.vis,.bool x.sym.defined,.int .i64 x.sym.value,.int .i64 x.sym.size,.slice wa_ m wc_,.slice ra x.refs.length rc,.bool x.copied] 71 (0,0))):=Lib.hid HXa.out
   have HLd:=Lib.hid ((HPd.out.block HK1.out).trans HX1.out)
   have d7:wa.drew.cell? ⟨g,(nf+k)*9+7,none⟩=some (.int .i64 z.value):=c7
   have d8:wa.drew.cell? ⟨g,(nf+k)*9+8,none⟩=some (.int .i64 z.size):=c8
   have e7:wa.drew.frozen? ⟨g,(nf+k)*9+7,none⟩=false:=f7
   have e8:wa.drew.frozen? ⟨g,(nf+k)*9+8,none⟩=false:=f8
   clear c7 c8 f7 f8 c9 y0 c4
   generalize (World.drew wa)=wd at *
   refine wpAnyH_take (i:=0) (v:= ?_) rfl (by kernel_rfl) (by kernel_rfl) (by kernel_rfl) (fun _ _ _ h=>h) (Or.inl ⟨by rfl,?_⟩) hHeld ?_
   rotate_left
   ·(intro w hSw;(try dsimp only at hSw);go_simp;try with_reducible rfl)
   simp only [List.getElem_toArray,List.getElem_cons_zero,List.getElem_cons_succ,Act.put,List.setIfInBounds_toArray,List.set_cons_zero,List.set_cons_succ]
   refine wpAnyH_take (i:=1) (v:= ?_) rfl (by kernel_rfl) (by kernel_rfl) (by kernel_rfl) (fun _ _ _ h=>h) (Or.inl ⟨by rfl,?_⟩) hHeld ?_
   rotate_left
   ·(intro w hSw;(try dsimp only at hSw);go_simp;try with_reducible rfl)
   simp only [List.getElem_toArray,List.getElem_cons_zero,List.getElem_cons_succ,Act.put,List.setIfInBounds_toArray,List.set_cons_zero,List.set_cons_succ]
   refine wpAnyH_take (i:=2) (v:= ?_) rfl (by kernel_rfl) (by kernel_rfl) (by kernel_rfl) (fun _ _ _ h=>h) (Or.inl ⟨by rfl,?_⟩) hHeld ?_
   rotate_left
   ·(intro w hSw;(try dsimp only at hSw);go_simp;try with_reducible rfl)
   simp only [List.getElem_toArray,List.getElem_cons_zero,List.getElem_cons_succ,Act.put,List.setIfInBounds_toArray,List.set_cons_zero,List.set_cons_succ]
   refine wpAnyH_take (i:=3) (v:= ?_) rfl (by kernel_rfl) (by kernel_rfl) (by kernel_rfl) (fun _ _ _ h=>h) (Or.inl ⟨by rfl,?_⟩) hHeld ?_
   rotate_left
   ·(intro w hSw;(try dsimp only at hSw);go_simp;try with_reducible rfl)
   simp only [List.getElem_toArray,List.getElem_cons_zero,List.getElem_cons_succ,Act.put,List.setIfInBounds_toArray,List.set_cons_zero,List.set_cons_succ]
   refine wpAnyH_take (i:=4) (v:= ?_) rfl (by kernel_rfl) (by kernel_rfl) (by kernel_rfl) (fun _ _ _ h=>h) (Or.inl ⟨by rfl,?_⟩) hHeld ?_
   rotate_left
   ·(intro w hSw;(try dsimp only at hSw);go_simp;try with_reducible rfl)
   simp only [List.getElem_toArray,List.getElem_cons_zero,List.getElem_cons_succ,Act.put,List.setIfInBounds_toArray,List.set_cons_zero,List.set_cons_succ]
   refine wpAnyH_take (i:=5) (v:= ?_) rfl (by kernel_rfl) (by kernel_rfl) (by kernel_rfl) (fun _ _ _ h=>h) (Or.inl ⟨by rfl,?_⟩) hHeld ?_
   rotate_left
   ·(intro w hSw;(try dsimp only at hSw);go_simp;try with_reducible rfl)
   simp only [List.getElem_toArray,List.getElem_cons_zero,List.getElem_cons_succ,Act.put,List.setIfInBounds_toArray,List.set_cons_zero,List.set_cons_succ]
   refine wpAnyH_take (i:=6) (v:= ?_) rfl (by kernel_rfl) (by kernel_rfl) (by kernel_rfl) (fun _ _ _ h=>h) (Or.inl ⟨by rfl,?_⟩) hHeld ?_
   rotate_left
   ·(intro w hSw;(try dsimp only at hSw);go_simp;try with_reducible rfl)
   simp only [List.getElem_toArray,List.getElem_cons_zero,List.getElem_cons_succ,Act.put,List.setIfInBounds_toArray,List.set_cons_zero,List.set_cons_succ]
   refine wpAnyH_take (i:=7) (v:= ?_) rfl (by kernel_rfl) (by kernel_rfl) (by kernel_rfl) (fun _ _ _ h=>h) (Or.inl ⟨by rfl,?_⟩) hHeld ?_
   rotate_left
   ·(intro w hSw;(try dsimp only at hSw);go_simp;try with_reducible rfl)
   simp only [List.getElem_toArray,List.getElem_cons_zero,List.getElem_cons_succ,Act.put,List.setIfInBounds_toArray,List.set_cons_zero,List.set_cons_succ]
   refine wpAnyH_take (i:=8) (v:= ?_) rfl (by kernel_rfl) (by kernel_rfl) (by kernel_rfl) (fun _ _ _ h=>h) (Or.inl ⟨by rfl,?_⟩) hHeld ?_
   rotate_left
   ·(intro w hSw;(try dsimp only at hSw);go_simp;try with_reducible rfl)
   simp only [List.getElem_toArray,List.getElem_cons_zero,List.getElem_cons_succ,Act.put,List.setIfInBounds_toArray,List.set_cons_zero,List.set_cons_succ]
   refine wpAnyH_take (i:=9) (v:= ?_) rfl (by kernel_rfl) (by kernel_rfl) (by kernel_rfl) (fun _ _ _ h=>h) (Or.inl ⟨by rfl,?_⟩) hHeld ?_
   rotate_left
   ·(intro w hSw;(try dsimp only at hSw);go_simp;try with_reducible rfl)
   simp only [List.getElem_toArray,List.getElem_cons_zero,List.getElem_cons_succ,Act.put,List.setIfInBounds_toArray,List.set_cons_zero,List.set_cons_succ]
   refine wpAnyH_take (i:=10) (v:= ?_) rfl (by kernel_rfl) (by kernel_rfl) (by kernel_rfl) (fun _ _ _ h=>h) (Or.inl ⟨by rfl,?_⟩) hHeld ?_
   rotate_left
   ·(intro w hSw;(try dsimp only at hSw);go_simp;try with_reducible rfl)
   simp only [List.getElem_toArray,List.getElem_cons_zero,List.getElem_cons_succ,Act.put,List.setIfInBounds_toArray,List.set_cons_zero,List.set_cons_succ]
   refine wpAnyH_take (i:=11) (v:= ?_) rfl (by kernel_rfl) (by kernel_rfl) (by kernel_rfl) (fun _ _ _ h=>h) (Or.inl ⟨by rfl,?_⟩) hHeld ?_
   rotate_left
   ·(intro w hSw;(try dsimp only at hSw);go_simp;try with_reducible rfl)
   simp only [List.getElem_toArray,List.getElem_cons_zero,List.getElem_cons_succ,Act.put,List.setIfInBounds_toArray,List.set_cons_zero,List.set_cons_succ]
   refine wpAnyH_take (i:=12) (v:= ?_) rfl (by kernel_rfl) (by kernel_rfl) (by kernel_rfl) (fun _ _ _ h=>h) (Or.inl ⟨by rfl,?_⟩) hHeld ?_
   rotate_left
   ·(intro w hSw;(try dsimp only at hSw);go_simp;try with_reducible rfl)
   simp only [List.getElem_toArray,List.getElem_cons_zero,List.getElem_cons_succ,Act.put,List.setIfInBounds_toArray,List.set_cons_zero,List.set_cons_succ]
   refine wpAnyH_take (i:=13) (v:= ?_) rfl (by kernel_rfl) (by kernel_rfl) (by kernel_rfl) (fun _ _ _ h=>h) (Or.inl ⟨by rfl,?_⟩) hHeld ?_
   rotate_left
   ·(intro w hSw;(try dsimp only at hSw);go_simp;try with_reducible rfl)
   simp only [List.getElem_toArray,List.getElem_cons_zero,List.getElem_cons_succ,Act.put,List.setIfInBounds_toArray,List.set_cons_zero,List.set_cons_succ]
   refine wpAnyH_take (i:=14) (v:= ?_) rfl (by kernel_rfl) (by kernel_rfl) (by kernel_rfl) (fun _ _ _ h=>h) (Or.inl ⟨by rfl,?_⟩) hHeld ?_
   rotate_left
   ·(intro w hSw;(try dsimp only at hSw);go_simp;try with_reducible rfl)
   simp only [List.getElem_toArray,List.getElem_cons_zero,List.getElem_cons_succ,Act.put,List.setIfInBounds_toArray,List.set_cons_zero,List.set_cons_succ]
   refine wpAnyH_done (by kernel_rfl) ?_ _
   simp only [phaseQ]
   clear hHeld o1 o2 o3
   go_upto_region 13 with fail
   refine wp_region_phase 14 (by kernel_rfl) (by kernel_rfl) ?_
   simp only [List.take_succ_cons,List.take_zero,List.drop_succ_cons,List.drop_zero,List.take_nil,List.drop_nil]
   refine wpAny_of_held (S:=fun w':World=>w'.cell? ⟨lb,2,none⟩=some (.slice (some ⟨vvb,vvo,none⟩) nv vc)∧w'.cell? ⟨vvb,vvo+k,none⟩=some (.int .i64 a0)∧w'.cell? ⟨xb,9,none⟩=some (.slice wa_ m wc_)) _ _ _ _ ?_
   have hHeld:(fun w':World=>w'.cell? ⟨lb,2,none⟩=some (.slice (some ⟨vvb,vvo,none⟩) nv vc)∧w'.cell? ⟨vvb,vvo+k,none⟩=some (.int .i64 a0)∧w'.cell? ⟨xb,9,none⟩=some (.slice wa_ m wc_)) (World.drew wd):=⟨(by rw [World.cell?_drew];rw [Lib.cell_of_heap HLd.out];rfl),(HVat.out.keeps (w':=wd.drew) (fun b hb=>HPd.out.block hb)).int1 k a0 Ha0.out,cells_row HXd.out 9 _ rfl⟩
   show wpAnyH _ _ _ _ _ _ _ _ (World.drew _)
   have HMe:=Lib.hid (HMd.out.below (Below.refl _ wd).drew)
   have HPe:=Lib.hid (HPd.out.trans (PStep.below (pb:=pb) (v:=v) (Below.refl _ wd).drew))
   have i7:wd.drew.cell? ⟨g,(nf+k)*9+7,none⟩=some (.int .i64 z.value):=d7
   have i8:wd.drew.cell? ⟨g,(nf+k)*9+8,none⟩=some (.int .i64 z.size):=d8
   have j7:wd.drew.frozen? ⟨g,(nf+k)*9+7,none⟩=false:=e7
   have j8:wd.drew.frozen? ⟨g,(nf+k)*9+8,none⟩=false:=e8
   clear d7 d8 e7 e8
   generalize (World.drew wd)=we at *
   have o1:IntKind.i64.wrap (8*(m:Int))=8*(m:Int):=IntWalk.i64_in _ (by omega)
   refine wpAnyH_take (i:=0) (v:= ?_) rfl (by kernel_rfl) (by kernel_rfl) (by kernel_rfl) (fun _ _ _ h=>h) (Or.inl ⟨by rfl,?_⟩) hHeld ?_
   rotate_left
   ·(intro w hSw;(try dsimp only at hSw);go_simp;try with_reducible rfl)
   simp only [List.getElem_toArray,List.getElem_cons_zero,List.getElem_cons_succ,Act.put,List.setIfInBounds_toArray,List.set_cons_zero,List.set_cons_succ]
   refine wpAnyH_take (i:=1) (v:= ?_) rfl (by kernel_rfl) (by kernel_rfl) (by kernel_rfl) (fun _ _ _ h=>h) (Or.inl ⟨by rfl,?_⟩) hHeld ?_
   rotate_left
   ·(intro w hSw;(try dsimp only at hSw);go_simp;try with_reducible rfl)
   simp only [List.getElem_toArray,List.getElem_cons_zero,List.getElem_cons_succ,Act.put,List.setIfInBounds_toArray,List.set_cons_zero,List.set_cons_succ]
   refine wpAnyH_take (i:=2) (v:= ?_) rfl (by kernel_rfl) (by kernel_rfl) (by kernel_rfl) (fun _ _ _ h=>h) (Or.inl ⟨by rfl,?_⟩) hHeld ?_
   rotate_left
   ·(intro w hSw;(try dsimp only at hSw);go_simp;try with_reducible rfl)
   simp only [List.getElem_toArray,List.getElem_cons_zero,List.getElem_cons_succ,Act.put,List.setIfInBounds_toArray,List.set_cons_zero,List.set_cons_succ]
   refine wpAnyH_take (i:=3) (v:= ?_) rfl (by kernel_rfl) (by kernel_rfl) (by kernel_rfl) (fun _ _ _ h=>h) (Or.inl ⟨by rfl,?_⟩) hHeld ?_
   rotate_left
   ·(intro w hSw;(try dsimp only at hSw);go_simp;try with_reducible rfl)
   simp only [List.getElem_toArray,List.getElem_cons_zero,List.getElem_cons_succ,Act.put,List.setIfInBounds_toArray,List.set_cons_zero,List.set_cons_succ]
   refine wpAnyH_take (i:=4) (v:= ?_) rfl (by kernel_rfl) (by kernel_rfl) (by kernel_rfl) (fun _ _ _ h=>h) (Or.inl ⟨by rfl,?_⟩) hHeld ?_
   rotate_left
   ·(intro w hSw;(try dsimp only at hSw);go_simp;try with_reducible rfl)
   simp only [List.getElem_toArray,List.getElem_cons_zero,List.getElem_cons_succ,Act.put,List.setIfInBounds_toArray,List.set_cons_zero,List.set_cons_succ]
   refine wpAnyH_take (i:=5) (v:= ?_) rfl (by kernel_rfl) (by kernel_rfl) (by kernel_rfl) (fun _ _ _ h=>h) (Or.inl ⟨by rfl,?_⟩) hHeld ?_
   rotate_left
   ·(intro w hSw;(try dsimp only at hSw);go_simp;try with_reducible rfl)
   simp only [List.getElem_toArray,List.getElem_cons_zero,List.getElem_cons_succ,Act.put,List.setIfInBounds_toArray,List.set_cons_zero,List.set_cons_succ]
   refine wpAnyH_take (i:=6) (v:= ?_) rfl (by kernel_rfl) (by kernel_rfl) (by kernel_rfl) (fun _ _ _ h=>h) (Or.inl ⟨by rfl,?_⟩) hHeld ?_
   rotate_left
   ·(intro w hSw;(try dsimp only at hSw);go_simp;try with_reducible rfl)
   simp only [List.getElem_toArray,List.getElem_cons_zero,List.getElem_cons_succ,Act.put,List.setIfInBounds_toArray,List.set_cons_zero,List.set_cons_succ]
   refine wpAnyH_take (i:=7) (v:= ?_) rfl (by kernel_rfl) (by kernel_rfl) (by kernel_rfl) (fun _ _ _ h=>h) (Or.inl ⟨by rfl,?_⟩) hHeld ?_
   rotate_left
   ·(intro w hSw;(try dsimp only at hSw);go_simp;try with_reducible rfl)
   simp only [List.getElem_toArray,List.getElem_cons_zero,List.getElem_cons_succ,Act.put,List.setIfInBounds_toArray,List.set_cons_zero,List.set_cons_succ]
   refine wpAnyH_take (i:=8) (v:= ?_) rfl (by kernel_rfl) (by kernel_rfl) (by kernel_rfl) (fun _ _ _ h=>h) (Or.inl ⟨by rfl,?_⟩) hHeld ?_
   rotate_left
   ·(intro w hSw;(try dsimp only at hSw);go_simp;try with_reducible rfl)
   simp only [List.getElem_toArray,List.getElem_cons_zero,List.getElem_cons_succ,Act.put,List.setIfInBounds_toArray,List.set_cons_zero,List.set_cons_succ]
   refine wpAnyH_take (i:=9) (v:= ?_) rfl (by kernel_rfl) (by kernel_rfl) (by kernel_rfl) (fun _ _ _ h=>h) (Or.inl ⟨by rfl,?_⟩) hHeld ?_
   rotate_left
   ·(intro w hSw;(try dsimp only at hSw);go_simp;try with_reducible rfl)
   simp only [List.getElem_toArray,List.getElem_cons_zero,List.getElem_cons_succ,Act.put,List.setIfInBounds_toArray,List.set_cons_zero,List.set_cons_succ]
   refine wpAnyH_take (i:=10) (v:= ?_) rfl (by kernel_rfl) (by kernel_rfl) (by kernel_rfl) (fun _ _ _ h=>h) (Or.inl ⟨by rfl,?_⟩) hHeld ?_
   rotate_left
   ·(intro w hSw;(try dsimp only at hSw);go_simp;try with_reducible rfl)
   simp only [List.getElem_toArray,List.getElem_cons_zero,List.getElem_cons_succ,Act.put,List.setIfInBounds_toArray,List.set_cons_zero,List.set_cons_succ]
   refine wpAnyH_take (i:=11) (v:= ?_) rfl (by kernel_rfl) (by kernel_rfl) (by kernel_rfl) (fun _ _ _ h=>h) (Or.inl ⟨by rfl,?_⟩) hHeld ?_
   rotate_left
   ·(intro w hSw;(try dsimp only at hSw);go_simp;try with_reducible rfl)
   simp only [List.getElem_toArray,List.getElem_cons_zero,List.getElem_cons_succ,Act.put,List.setIfInBounds_toArray,List.set_cons_zero,List.set_cons_succ]
   refine wpAnyH_take (i:=12) (v:= ?_) rfl (by kernel_rfl) (by kernel_rfl) (by kernel_rfl) (fun _ _ _ h=>h) (Or.inl ⟨by rfl,?_⟩) hHeld ?_
   rotate_left
   ·(intro w hSw;(try dsimp only at hSw);go_simp;try with_reducible rfl)
   simp only [List.getElem_toArray,List.getElem_cons_zero,List.getElem_cons_succ,Act.put,List.setIfInBounds_toArray,List.set_cons_zero,List.set_cons_succ]
   refine wpAnyH_ready (rs:=[13]) (by kernel_rfl) (by simp) ?_
   refine AllReadyH.cons rfl (fun K hK=> ?_) AllReadyH.nil
   go_simp
   have hsc:Step (fun b=>b≠g) we (we.setCell ⟨g,(nf+k)*9+7,none⟩ (.int .i64 a0)):=(Step.refl _ we).setCell (fun h=>h rfl) _
   refine hK.out _ _ ⟨(hsc.cell (p:=⟨lb,2,none⟩) hlg).trans hHeld.1,(hsc.cell (p:=⟨vvb,vvo+k,none⟩) hvg).trans hHeld.2.1,(hsc.cell (p:=⟨xb,9,none⟩) hxg).trans hHeld.2.2⟩ (fun hHeld=> ?_)
   clear hK K hsc
   try simp only [List.getElem_toArray,List.getElem_cons_zero,List.getElem_cons_succ,Act.put,List.setIfInBounds_toArray,List.set_cons_zero,List.set_cons_succ]
   refine wpAnyH_done (by kernel_rfl) ?_ _
   simp only [phaseQ]
   clear hHeld o1
   have HMn:=Lib.hid (HMe.out.placeSym Hown.out Hkq.out a0 (8*(m:Int)) (by unfold In63;omega) (by unfold In63;omega))
   have HPn:=Lib.hid ((HPe.out.trans (PStep.setHas (pb:=pb) v we (Or.inl Hown.out) ((nf+k)*9+7) (.int .i64 a0))).trans (PStep.setHas (pb:=pb) v _ (Or.inl Hown.out) ((nf+k)*9+8) (.int .i64 (8*(m:Int)))))
   go_wp2
   go_roundw
   case rel=>exact⟨k+1,by go_num,by omega,by rw [HSt.out];exact HMn.out,HPn.out⟩
   case measure=>simp [intOf];omega
  ·have HE:Hid (PlanM B pb wr sv s own v {p with syms:=foldV nf vars s.vars (foldF y.stubs funcs p.syms nf) nv }∧PStep pb v v w wr):=Lib.hid (by
    rw [← Hps.out,show nv=k by omega];exact⟨HM2.out,HS1.out.trans HP2.out⟩)
   go_wp2
   go_end0
   exact⟨rfl,HE.out⟩
end Go.Proofs.Ytpomdoliblilfaa
