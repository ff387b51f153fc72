/- Lemmas. -/
import Derived.Test.YtpomdoliblilfaaBld42
import Derived.BigQuiet
namespace Go.Proofs.Ytpomdoliblilfaa
set_option linter.unusedVariables false
set_option linter.unusedSimpArgs false
open Go.RowKit
structure FewB (s:SpecL):Prop where
 funcs:s.funcs.length≤2000
 vars:s.vars.length≤2000
 lines:s.lines.length≤2000
 words:(s.vars.flatMap (·.words)).length≤2000
 refs:(s.vars.flatMap (·.refs)).length≤2000
 init:s.init.length≤2000
 fini:s.fini.length≤2000
def FewPost (w:World) (s:SpecL) (e:Ending) (w':World):Prop:=∃ r:Bool,e=.returned (.bool r)∧(r=true→FewB s)∧Below w.heap.size w w'
theorem few_no {w w':World} {s:SpecL} (h:Below w.heap.size w w'):FewPost w s (.returned (.bool false)) w':=⟨false,rfl,fun h=>(by cases h),h⟩
set_option maxHeartbeats 16000000 in
set_option maxRecDepth 100000 in
theorem bfew_any (w:World) (sv:SpecV) (s:SpecL) (hS:SpecM (·<w.heap.size) w sv s):Calls Try.prog 9 #[.agg (specCells sv s).toArray] w (FewPost w s):=by
 obtain⟨fa,fb,fo,fc,hff,hfm,hfc,hfat⟩:=hS.funcs.at
 obtain⟨va,vb,vo,vc,hvf,hvm,hvc,hvat⟩:=hS.vars.at
 obtain⟨wa,wc,hwf⟩:=hS.weak.form
 obtain⟨ia,ic,hif⟩:=hS.init.form
 obtain⟨ea,ec,hef⟩:=hS.fini.form
 have hwm:=hS.weak.max
 have him:=hS.init.max
 have hem:=hS.fini.max
 unfold specCells
 rw [hff,hvf,hwf,hif,hef]
 clear hff hvf hwf hif hef hS
 have hfaa:=hfat.addr
 have hvaa:=hvat.addr
 have hfin:=hfat.inS
 have hvin:=hvat.inS
 have Hfat:=Lib.hid hfat
 have Hvat:=Lib.hid hvat
 clear hfat hvat
 obtain⟨nf,hnf⟩:∃ nf,nf=s.funcs.length:=⟨_,rfl⟩
 obtain⟨nv,hnv⟩:∃ nv,nv=s.vars.length:=⟨_,rfl⟩
 obtain⟨nw,hnw⟩:∃ nw,nw=s.weak.length:=⟨_,rfl⟩
 obtain⟨ni,hni⟩:∃ ni,ni=s.init.length:=⟨_,rfl⟩
 obtain⟨ne,hne⟩:∃ ne,ne=s.fini.length:=⟨_,rfl⟩
 rw [← hnf]at hfm hfc hfaa hfin ⊢
 rw [← hnv]at hvm hvc hvaa hvin ⊢
 rw [← hnw]at hwm ⊢
 rw [← hni]at him ⊢
 rw [← hne]at hem ⊢
 have Hnf:=Lib.hid hnf
 have Hnv:=Lib.hid hnv
 have Hni:=Lib.hid hni
 have Hne:=Lib.hid hne
 clear hnf hnv hnw hni hne
 have HX1:=Lib.hid (heap_alloc_new w (.cells #[.string ⟨s.name.toArray⟩,.int .i64 s.flags,sv.needed,sv.runPath,.slice fa nf fc,.slice va nv vc,.slice wa nw wc,.slice ia ni ic,.slice ea ne ec] 28 (0,0)))
 have HB1:=Lib.hid ((Below.refl w.heap.size w).alloc (Nat.le_refl _) (.cells #[.string ⟨s.name.toArray⟩,.int .i64 s.flags,sv.needed,sv.runPath,.slice fa nf fc,.slice va nv vc,.slice wa nw wc,.slice ia ni ic,.slice ea ne ec] 28 (0,0)))
 have Hz1:Hid ((w.alloc (.cells #[.string ⟨s.name.toArray⟩,.int .i64 s.flags,sv.needed,sv.runPath,.slice fa nf fc,.slice va nv vc,.slice wa nw wc,.slice ia ni ic,.slice ea ne ec] 28 (0,0))).heap.size=w.heap.size+1):=Lib.hid (by simp)
 go_enter Try.func9,Try.ntmps9
 go_upto_region 1 with fail
 generalize w.alloc (.cells #[.string ⟨s.name.toArray⟩,.int .i64 s.flags,sv.needed,sv.runPath,.slice fa nf fc,.slice va nv vc,.slice wa nw wc,.slice ia ni ic,.slice ea ne ec] 28 (0,0))=w1 at *
 have s4:w1.cell? ⟨w.heap.size,4,none⟩=some (.slice fa nf fc):=by rw [Lib.cell_of_heap HX1.out];rfl
 have s5:w1.cell? ⟨w.heap.size,5,none⟩=some (.slice va nv vc):=by rw [Lib.cell_of_heap HX1.out];rfl
 have s6:w1.cell? ⟨w.heap.size,6,none⟩=some (.slice wa nw wc):=by rw [Lib.cell_of_heap HX1.out];rfl
 have s7:w1.cell? ⟨w.heap.size,7,none⟩=some (.slice ia ni ic):=by rw [Lib.cell_of_heap HX1.out];rfl
 have s8:w1.cell? ⟨w.heap.size,8,none⟩=some (.slice ea ne ec):=by rw [Lib.cell_of_heap HX1.out];rfl
 by_cases h4:(2000:Int)<(nf:Int)
 ·go_wp2
  go_ret
  exact few_no HB1.out
 by_cases h5:(2000:Int)<(nv:Int)
 ·go_wp2
  go_ret
  exact few_no HB1.out
 by_cases h6:(2000:Int)<(nw:Int)
 ·go_wp2
  go_ret
  exact few_no HB1.out
 by_cases h7:(2000:Int)<(ni:Int)
 ·go_wp2
  go_ret
  exact few_no HB1.out
 by_cases h8:(2000:Int)<(ne:Int)
 ·go_wp2
  go_ret
  exact few_no HB1.out
 go_wp2_with fail
 clear s6 s7 s8 hwm him hem h6
 go_loop [3,4] (fun z i=>∃ k:Nat,i=.int .i64 k∧k≤nf∧∃ m:Nat,z=.int .i64 m∧m=((s.funcs.take k).flatMap (·.lines)).length∧m≤2000) (fun _ i=>nf-(intOf i).toNat)
 case atStart=>exact⟨0,rfl,Nat.zero_le _,0,rfl,rfl,by omega⟩
 case round=>
  obtain⟨k,rfl,hk,m,rfl,hm,hm2⟩:=hrel
  have Hm:=Lib.hid hm
  clear hm
  by_cases hlt:k<nf
  ·obtain rfl:=hfaa (by omega)
   obtain⟨x,hx⟩:∃ x,s.funcs[k]? =some x:=⟨_,List.getElem?_eq_getElem (by rw [← Hnf.out];exact hlt)⟩
   obtain⟨c,hc,-,-,-,-,-,-,-,-,-,-,f9⟩:=Hfat.out.func10b HB1.out k x hx
   obtain⟨la,lc,rfl⟩:=hc.form
   have hlm:=hc.max
   have HSn:Hid (((s.funcs.take (k+1)).flatMap (·.lines)).length=m+x.lines.length):=Lib.hid (by rw [take_snocB hx,List.flatMap_append,List.length_append,← Hm.out];simp)
   obtain⟨q,hq⟩:∃ q,q=x.lines.length:=⟨_,rfl⟩
   rw [← hq]at HSn f9 hlm
   clear hx hc hq
   have hk2:(k:Int)<(nf:Int):=by omega
   have hk3:0≤(k:Int):=by omega
   by_cases hq2:(2000:Int)<(q:Int)
   ·go_wp2
    go_ret
    exact few_no HB1.out
   by_cases hq3:(2000:Int)<(m:Int)+(q:Int)
   ·go_wp2
    go_ret
    exact few_no HB1.out
   go_wp2_with fail
   go_round
   case rel=>exact⟨k+1,by go_num,by omega,m+q,by go_num,HSn.out.symm,by omega⟩
   case measure=>simp [intOf];omega
  ·have HM:=Lib.hid Hm.out
   have hlines:s.lines.length≤2000:=by
    have h:=Hm.out
    rw [List.take_of_length_le (by have:=Hnf.out;omega)]at h
    unfold SpecL.lines;omega
   have Hlines:=Lib.hid hlines
   clear hlines HM Hm
   go_wp2_with fail
   go_loopw [3,5] (fun z i wr=>∃ k:Nat,i=.int .i64 k∧k≤nv∧∃ m:Nat,z=.int .i64 m∧m≤2000∧((s.vars.take k).flatMap (·.words)).length+((s.vars.take k).flatMap (·.refs)).length≤m∧Below (w.heap.size+1) w1 wr) (fun _ i _=>nv-(intOf i).toNat)
   case atStart=>exact⟨0,rfl,Nat.zero_le _,m,rfl,hm2,Nat.zero_le _,Below.refl _ _⟩
   case round=>
    obtain⟨k,rfl,hk,m,rfl,hm2,hm,hbr⟩:=hrel
    have Hm:=Lib.hid hm
    have HBr:=Lib.hid hbr
    have HW:=Lib.hid (HB1.out.trans (hbr.mono (by omega)))
    have s5:wr.cell? ⟨w.heap.size,5,none⟩=some (.slice va nv vc):=(hbr.cell (p:=⟨w.heap.size,5,none⟩) (by show w.heap.size<_;omega)).trans s5
    clear hm hbr
    by_cases hlt:k<nv
    ·obtain rfl:=hvaa (by omega)
     obtain⟨x,hx⟩:∃ x,s.vars[k]? =some x:=⟨_,List.getElem?_eq_getElem (by rw [← Hnv.out];exact hlt)⟩
     obtain⟨c,d,hc,hd,-,-,-,-,-,-,-,-,-,-,f9,f10,-⟩:=Hvat.out.var12b HW.out k x hx
     obtain⟨la,lc,rfl⟩:=hc.form
     obtain⟨ra,rc,rfl⟩:=hd.form
     have hlm:=hc.max
     have hrm:=hd.max
     have HSn:Hid (((s.vars.take (k+1)).flatMap (·.words)).length+((s.vars.take (k+1)).flatMap (·.refs)).length≤m+(x.words.length+x.refs.length)):=Lib.hid (by
      rw [take_snocB hx,List.flatMap_append,List.flatMap_append,List.length_append,List.length_append]
      have:=Hm.out
      simp only [List.flatMap_cons,List.flatMap_nil,List.append_nil]
      omega)
     obtain⟨q,hq⟩:∃ q,q=x.words.length:=⟨_,rfl⟩
     obtain⟨r,hr⟩:∃ r,r=x.refs.length:=⟨_,rfl⟩
     rw [← hq]at HSn f9 hlm
     rw [← hr]at HSn f10 hrm
     clear hx hc hd hq hr
     have hk2:(k:Int)<(nv:Int):=by omega
     have hk3:0≤(k:Int):=by omega
     by_cases hq2:(2000:Int)<(q:Int)
     ·go_wp2
      go_ret
      exact few_no HW.out
     by_cases hr2:(2000:Int)<(r:Int)
     ·go_wp2
      go_ret
      exact few_no HW.out
     go_wp2_with fail
     go_quiet (fail)
     have HB2:=Lib.hid (show Below (w.heap.size+1) w1 (wr.drewN nq)from⟨HBr.out.os,HBr.out.tape,HBr.out.output,HBr.out.size,HBr.out.block⟩)
     have HW2:=Lib.hid (show Below w.heap.size w (wr.drewN nq)from⟨HW.out.os,HW.out.tape,HW.out.output,HW.out.size,HW.out.block⟩)
     by_cases hq3:(2000:Int)<(m:Int)+((q:Int)+(r:Int))
     ·go_wp2
      go_ret
      exact few_no HW2.out
     go_wp2_with fail
     go_roundw
     case rel=>exact⟨k+1,by go_num,by omega,m+(q+r),by go_num,by omega,HSn.out,HB2.out⟩
     case measure=>simp [intOf];omega
    ·have hv:=Hm.out
     rw [List.take_of_length_le (by have:=Hnv.out;omega)]at hv
     have HF:=Lib.hid (show FewB s from⟨by have:=Hnf.out;omega,by have:=Hnv.out;omega,Hlines.out,by omega,by omega,by have:=Hni.out;omega,by have:=Hne.out;omega⟩)
     clear hv
     go_wp2
     go_ret
     exact⟨true,rfl,fun _=>HF.out,HW.out⟩
end Go.Proofs.Ytpomdoliblilfaa
