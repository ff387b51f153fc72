/- Lemmas. -/
import Derived.Test.YtpomdoliblilfaaBld44
import Derived.BigQuiet
namespace Go.Proofs.Ytpomdoliblilfaa
set_option linter.unusedVariables false
set_option linter.unusedSimpArgs false
open Go.RowKit
theorem FewB.l {s:SpecL} (h:FewB s) (hr:Reach s):FewL s:=⟨h.funcs,h.vars,h.lines,h.words,h.refs,h.init,h.fini,hr.run,hr.need,hr.vers⟩
theorem SpecM.imp {S S':Nat→Prop} {w:World} {v:SpecV} {s:SpecL} (h:SpecM S w v s) (hi:∀ b,S b→S' b):SpecM S' w v s:=
 ⟨h.needed.imp hi,h.runPath.imp hi,h.funcs.imp hi,h.vars.imp hi,h.weak.imp hi,h.init.imp hi,h.fini.imp hi,h.name,h.flags⟩
theorem SpecM.later {w w':World} {v:SpecV} {s:SpecL} (h:SpecM (·<w.heap.size) w v s) (hb:Below w.heap.size w w'):SpecM (·<w'.heap.size) w' v s:=
 (h.keeps (.of_below hb)).imp fun _ hb'=>Nat.lt_of_lt_of_le hb' hb.size
theorem Placed.bare {s:SpecL} {l m:List SymL} (h:Placed s l) (hm:m.map bareS=l.map bareS):(∀ (i:Nat) (x:SymL),m[i]? =some x→i<s.funcs.length+s.vars.length→∃ y,(s.funcs.map (fun f=>defSym f.sym)++s.vars.map (fun v=>defSym v.sym))[i]? =some y∧bareS x=bareS y)∧
  ∀ (i:Nat) (x:SymL),s.funcs.length+s.vars.length≤i→m[i]? =some x→x.defined=false∧∀ (k:Nat) (y:SymL),s.funcs.length+s.vars.length≤k→k<i→m[k]? =some y→¬ (y.name=x.name∧y.version=x.version):=by
 have hg:∀ (i:Nat) (x:SymL),m[i]? =some x→∃ y,l[i]? =some y∧bareS x=bareS y:=by
  intro i x hx
  have h1:(m.map bareS)[i]? =some (bareS x):=by rw [List.getElem?_map,hx];rfl
  rw [hm,List.getElem?_map]at h1
  cases hl:l[i]? with
  | none=>rw [hl]at h1;cases h1
  | some y=>rw [hl]at h1;exact⟨y,rfl,(Option.some.inj h1).symm⟩
 refine⟨fun i x hx hi=> ?_,fun i x hi hx=> ?_⟩
 ·obtain⟨y,hy,hb⟩:=hg i x hx
  obtain⟨t,ht⟩:=h.own
  rw [← ht,List.getElem?_append_left (by simp;omega)]at hy
  exact⟨y,hy,hb⟩
 ·obtain⟨y,hy,hb⟩:=hg i x hx
  obtain⟨g1,g2⟩:=h.rest i y hi hy
  have e1:x.defined=y.defined:=(by have e0:=congrArg (fun q:SymL=>q.defined) hb;exact e0)
  refine⟨by rw [e1];exact g1,fun k z hk hki hz hh=> ?_⟩
  obtain⟨z',hz',hb'⟩:=hg k z hz
  refine g2 k z' hk hki hz' ⟨?_,?_⟩
  ·have a1:z.name=z'.name:=(by have e0:=congrArg (fun q:SymL=>q.name) hb';exact e0)
   have a2:x.name=y.name:=(by have e0:=congrArg (fun q:SymL=>q.name) hb;exact e0)
   rw [← a1,← a2];exact hh.1
  ·have a1:z.version=z'.version:=(by have e0:=congrArg (fun q:SymL=>q.version) hb';exact e0)
   have a2:x.version=y.version:=(by have e0:=congrArg (fun q:SymL=>q.version) hb;exact e0)
   rw [← a1,← a2];exact hh.2
open Go.RowKit
theorem below_drewN {B n:Nat} {a w:World} (h:Below B a w):Below B a (w.drewN n):=⟨h.os,h.tape,h.output,h.size,h.block⟩
end Go.Proofs.Ytpomdoliblilfaa
namespace Go.Proofs.Ytpomdoliblilfaa
set_option linter.unusedVariables false
set_option linter.unusedSimpArgs false
open Go.RowKit
theorem build_symsQ {s:SpecL} (h:(buildL s).2=0):(buildL s).1.syms=(placedQ s).syms:=by
 obtain⟨_,_,he,_⟩:=buildL_ok h
 rw [he,(insts_plan s).1]
 show(relsL s (layL s (checkL s)) (placedQ s)).1.syms=_
 rw [rels_eq _ (placed_vars s)]
structure SymsB (s:SpecL) (l:List SymL):Prop where
 func:∀ i x,l[i]? =some x→i<s.funcs.length→∃ f,s.funcs[i]? =some f∧x.name=f.sym.name∧x.defined=true
 var:∀ i x,l[i]? =some x→s.funcs.length≤i→i<s.funcs.length+s.vars.length→∃ v,s.vars[i-s.funcs.length]? =some v∧x.name=v.sym.name∧x.defined=true
 rest:∀ i x,s.funcs.length+s.vars.length≤i→l[i]? =some x→x.defined=false∧∀ k y,s.funcs.length+s.vars.length≤k→k<i→l[k]? =some y→¬ (y.name=x.name∧y.version=x.version)
 len:s.funcs.length+s.vars.length≤l.length∧l.length≤512
theorem build_syms {s:SpecL} (h:(buildL s).2=0):SymsB s (buildL s).1.syms:=by
 have hb:(placedQ s).syms.map bareS=(checkL s).syms.map bareS:=by unfold placedQ;rw [symsL_bare,(fini_plan s).1]
 obtain⟨h1,h2⟩:=(check_placed s).bare hb
 have hlen:(placedQ s).syms.length=(checkL s).syms.length:=by have:=congrArg List.length hb;simpa using this
 have hp:=(check_placed s).own.length_le
 rw [build_symsQ h]
 refine⟨fun i x hx hi=> ?_,fun i x hx hi hi2=> ?_,h2,?_⟩
 ·obtain⟨y,hy,hbb⟩:=h1 i x hx (by omega)
  rw [List.getElem?_append_left (by simpa using hi),List.getElem?_map]at hy
  cases hf:s.funcs[i]? with
  | none=>rw [hf]at hy;cases hy
  | some f=>
   rw [hf]at hy
   have hy:=Option.some.inj hy
   subst hy
   exact⟨f,rfl,by have e:=congrArg (fun q:SymL=>q.name) hbb;exact e,by have e:=congrArg (fun q:SymL=>q.defined) hbb;exact e⟩
 ·obtain⟨y,hy,hbb⟩:=h1 i x hx hi2
  rw [List.getElem?_append_right (by simpa using hi),List.getElem?_map,List.length_map]at hy
  cases hf:s.vars[i-s.funcs.length]? with
  | none=>rw [hf]at hy;cases hy
  | some f=>
   rw [hf]at hy
   have hy:=Option.some.inj hy
   subst hy
   exact⟨f,rfl,by have e:=congrArg (fun q:SymL=>q.name) hbb;exact e,by have e:=congrArg (fun q:SymL=>q.defined) hbb;exact e⟩
 ·have:=(buildL_ok h).1.sizes
  simp at hp
  omega
set_option maxHeartbeats 16000000 in
set_option maxRecDepth 100000 in
theorem bsymsLaw_any (w:World) (sv:SpecV) (s:SpecL) (hS:SpecM (·<w.heap.size) w sv s) (hR:Reach s):
  Calls Try.prog 5 #[.agg (specCells sv s).toArray] w fun e w'=>e=.returned (.bool true)∧Below w.heap.size w w':=by
 have HS:=Lib.hid hS
 have HR:=Lib.hid hR
 have hone:=spec_one hS
 obtain⟨fa,fb,fo,fc,hff,hfm,hfc,hfat⟩:=hS.funcs.at
 obtain⟨va,vb,vo,vc,hvf,hvm,hvc,hvat⟩:=hS.vars.at
 obtain⟨nf,hnf⟩:∃ nf,nf=s.funcs.length:=⟨_,rfl⟩
 obtain⟨nv,hnv⟩:∃ nv,nv=s.vars.length:=⟨_,rfl⟩
 have hfaa:=hfat.addr
 have hvaa:=hvat.addr
 have Hfat:=Lib.hid hfat
 have Hvat:=Lib.hid hvat
 rw [← hnf]at hff hfm hfc hfaa
 rw [← hnv]at hvf hvm hvc hvaa
 have Hnf:=Lib.hid hnf
 have Hnv:=Lib.hid hnv
 have hrow:(specCells sv s).toArray=(#[.string ⟨s.name.toArray⟩,.int .i64 s.flags,sv.needed,sv.runPath,.slice fa nf fc,.slice va nv vc,sv.weak,sv.init,sv.fini]):=by unfold specCells;rw [hff,hvf]
 have Hrow:=Lib.hid hrow
 rw [hrow]at hone ⊢
 clear hrow hS hR hfat hvat hff hvf hnf hnv hone
 have HX1:=Lib.hid (heap_alloc_new w (.cells (#[.string ⟨s.name.toArray⟩,.int .i64 s.flags,sv.needed,sv.runPath,.slice fa nf fc,.slice va nv vc,sv.weak,sv.init,sv.fini]) 28 (0,0)))
 have HB1:=Lib.hid ((Below.refl w.heap.size w).alloc (Nat.le_refl _) (.cells (#[.string ⟨s.name.toArray⟩,.int .i64 s.flags,sv.needed,sv.runPath,.slice fa nf fc,.slice va nv vc,sv.weak,sv.init,sv.fini]) 28 (0,0)))
 have Hz1:Hid ((w.alloc (.cells (#[.string ⟨s.name.toArray⟩,.int .i64 s.flags,sv.needed,sv.runPath,.slice fa nf fc,.slice va nv vc,sv.weak,sv.init,sv.fini]) 28 (0,0))).heap.size=w.heap.size+1):=Lib.hid (by simp)
 go_enter Try.func5,Try.ntmps5
 go_upto_region 1 with fail
 generalize w.alloc (.cells (#[.string ⟨s.name.toArray⟩,.int .i64 s.flags,sv.needed,sv.runPath,.slice fa nf fc,.slice va nv vc,sv.weak,sv.init,sv.fini]) 28 (0,0))=w1 at *
 have HA:=Lib.hid (bawake_any w1)
 go_wp2_with fail
 refine HA.out.mono ?_
 rintro e w2 ⟨rfl,hb2⟩
 have HX2:=Lib.hid ((hb2.block w.heap.size (by have:=Hz1.out;omega)).trans HX1.out)
 have HB2:=Lib.hid (HB1.out.trans (hb2.mono (by have:=Hz1.out;omega)))
 have Hz2:Hid (w.heap.size<w2.heap.size):=Lib.hid (by have:=Hz1.out;have:=hb2.size;omega)
 clear hb2 HX1 HB1 Hz1 HA
 have HF:Hid (Calls Try.prog 9 #[.agg (#[.string ⟨s.name.toArray⟩,.int .i64 s.flags,sv.needed,sv.runPath,.slice fa nf fc,.slice va nv vc,sv.weak,sv.init,sv.fini])] w2 (FewPost w2 s)):=Lib.hid (by have:=bfew_any w2 sv s (HS.out.later HB2.out);rwa [Hrow.out]at this)
 have x0:=cells_row HX2.out 0 _ rfl
 have x1:=cells_row HX2.out 1 _ rfl
 have x2:=cells_row HX2.out 2 _ rfl
 have x3:=cells_row HX2.out 3 _ rfl
 have x4:=cells_row HX2.out 4 _ rfl
 have x5:=cells_row HX2.out 5 _ rfl
 have x6:=cells_row HX2.out 6 _ rfl
 have x7:=cells_row HX2.out 7 _ rfl
 have x8:=cells_row HX2.out 8 _ rfl
 go_wp2_with fail
 refine HF.out.mono ?_
 clear x0 x1 x2 x3 x4 x5 x6 x7 x8
 rintro e w3 ⟨r,rfl,hr,hb3⟩
 have HX3:=Lib.hid ((hb3.block w.heap.size Hz2.out).trans HX2.out)
 have HB3:=Lib.hid (HB2.out.trans (hb3.mono (Nat.le_of_lt Hz2.out)))
 have Hz3:Hid (w.heap.size<w3.heap.size):=Lib.hid (by have:=Hz2.out;have:=hb3.size;omega)
 have Hr:=Lib.hid hr
 clear hb3 HX2 HB2 Hz2 HF hr
 cases r with
 | false=>
  go_wp2
  go_ret
  exact⟨rfl,HB3.out⟩
 | true=>
  have HFew:=Lib.hid ((Hr.out rfl).l HR.out)
  have hn2:nf≤2000∧nv≤2000:=by have:=HFew.out.funcs;have:=HFew.out.vars;have:=Hnf.out;have:=Hnv.out;omega
  clear Hr
  have HC:Hid (Calls Try.prog 10 #[.agg (#[.string ⟨s.name.toArray⟩,.int .i64 s.flags,sv.needed,sv.runPath,.slice fa nf fc,.slice va nv vc,sv.weak,sv.init,sv.fini])] w3 (BuildPost w3 s)):=Lib.hid (by have:=build_any w3 sv s (HS.out.later HB3.out) HFew.out;rwa [Hrow.out]at this)
  have x0:=cells_row HX3.out 0 _ rfl
  have x1:=cells_row HX3.out 1 _ rfl
  have x2:=cells_row HX3.out 2 _ rfl
  have x3:=cells_row HX3.out 3 _ rfl
  have x4:=cells_row HX3.out 4 _ rfl
  have x5:=cells_row HX3.out 5 _ rfl
  have x6:=cells_row HX3.out 6 _ rfl
  have x7:=cells_row HX3.out 7 _ rfl
  have x8:=cells_row HX3.out 8 _ rfl
  go_wp2_with fail
  refine HC.out.mono ?_
  clear x0 x1 x2 x3 x4 x5 x6 x7 x8
  rintro e w4 ⟨iv,rfl,hb4,hm4⟩
  obtain⟨im,him1⟩:∃ im,im=(buildL s).1:=⟨_,rfl⟩
  obtain⟨er,her⟩:∃ er,er=(buildL s).2:=⟨_,rfl⟩
  rw [← him1,← her]
  rw [← him1]at hm4
  have Him:=Lib.hid him1
  have Her:=Lib.hid her
  have hone4:=img_one hm4
  have HM4:=Lib.hid hm4
  have HX4:=Lib.hid ((hb4.block w.heap.size Hz3.out).trans HX3.out)
  have HB4:=Lib.hid (HB3.out.trans (hb4.mono (Nat.le_of_lt Hz3.out)))
  have Hz4:Hid (w.heap.size<w4.heap.size):=Lib.hid (by have:=Hz3.out;have:=hb4.size;omega)
  clear hb4 hm4 him1 her HX3 HB3 HC
  go_upto_region 5 with (refine wpList_store_row rfl 44 (.tmp 4) (.tmp 18) rfl w4.heap.size (imgCells iv im) rfl rfl _ _ (heap_alloc_new w4 _) (by kernel_rfl) rfl hone4 ?_)
  have HI5:=Lib.hid (setRow_heap (w4.alloc (.cells (#[.string ⟨#[]⟩,.int .i64 0,.slice none 0 0,.slice none 0 0,.slice none 0 0,.slice none 0 0,.slice none 0 0,.slice none 0 0,.int .i64 0,.slice none 0 0,.slice none 0 0,.slice none 0 0,.slice none 0 0,.slice none 0 0,.int .i64 0]) 44 (0,0))) w4.heap.size _ (imgCells iv im) _ _ (heap_alloc_new w4 _))
  have hold:∀ b,b<w4.heap.size→((w4.alloc (.cells (#[.string ⟨#[]⟩,.int .i64 0,.slice none 0 0,.slice none 0 0,.slice none 0 0,.slice none 0 0,.slice none 0 0,.slice none 0 0,.int .i64 0,.slice none 0 0,.slice none 0 0,.slice none 0 0,.slice none 0 0,.slice none 0 0,.int .i64 0]) 44 (0,0))).setRow w4.heap.size (imgCells iv im)).heap[b]? =w4.heap[b]? :=fun b hb=>(setRow_other _ _ b _ (by omega)).trans (heap_alloc_old w4 _ hb)
  have HX5:=Lib.hid ((hold w.heap.size Hz4.out).trans HX4.out)
  have HM5:=Lib.hid (HM4.out.keeps (fun b hb=>hold b hb.2))
  have HB5:=Lib.hid (below_setRow (HB4.out.alloc HB4.out.size (.cells (#[.string ⟨#[]⟩,.int .i64 0,.slice none 0 0,.slice none 0 0,.slice none 0 0,.slice none 0 0,.slice none 0 0,.slice none 0 0,.int .i64 0,.slice none 0 0,.slice none 0 0,.slice none 0 0,.slice none 0 0,.slice none 0 0,.int .i64 0]) 44 (0,0))) w4.heap.size (imgCells iv im) HB4.out.size)
  have hz5:((w4.alloc (.cells (#[.string ⟨#[]⟩,.int .i64 0,.slice none 0 0,.slice none 0 0,.slice none 0 0,.slice none 0 0,.slice none 0 0,.slice none 0 0,.int .i64 0,.slice none 0 0,.slice none 0 0,.slice none 0 0,.slice none 0 0,.slice none 0 0,.int .i64 0]) 44 (0,0))).setRow w4.heap.size (imgCells iv im)).heap.size=w4.heap.size+1:=by simp
  obtain⟨ib,hib⟩:∃ ib,ib=w4.heap.size:=⟨_,rfl⟩
  rw [← hib]at HI5 HX5 HM5 HB5 hz5 hold ⊢
  generalize (w4.alloc (.cells (#[.string ⟨#[]⟩,.int .i64 0,.slice none 0 0,.slice none 0 0,.slice none 0 0,.slice none 0 0,.slice none 0 0,.slice none 0 0,.int .i64 0,.slice none 0 0,.slice none 0 0,.slice none 0 0,.slice none 0 0,.slice none 0 0,.int .i64 0]) 44 (0,0))).setRow ib (imgCells iv im)=w5 at *
  have Hz5:Hid (w.heap.size<ib∧w5.heap.size=ib+1):=Lib.hid ⟨by have:=Hz4.out;omega,hz5⟩
  clear hone4 HM4 HX4 HB4 Hz4 hold hib hz5 Hz3
  by_cases hez:er=0
  ·have Hsb:=Lib.hid (build_syms (by rw [← Her.out];exact hez))
   rw [← Him.out]at Hsb
   subst hez
   obtain⟨ya,yb,yo,yc,hyf,-,hyc,hyat⟩:=HM5.out.syms.at
   obtain⟨m,hm⟩:∃ m,m=im.syms.length:=⟨_,rfl⟩
   have hm2:nf+nv≤m∧m≤512:=by have:=Hsb.out.len;have:=Hnf.out;have:=Hnv.out;omega
   have hyaa:=hyat.addr
   have Hyat:=Lib.hid hyat
   rw [← hm]at hyf hyc hyaa
   have Hm:=Lib.hid hm
   obtain⟨n,hn⟩:∃ n,n=nf+nv:=⟨_,rfl⟩
   have Hn:=Lib.hid hn
   have hnI:(nf:Int)+(nv:Int)=(n:Int):=by omega
   have hnm:¬ (m:Int)<(n:Int):=by omega
   have s4:w5.cell? ⟨w.heap.size,4,none⟩=some (.slice fa nf fc):=by rw [Lib.cell_of_heap HX5.out];rfl
   have s5:w5.cell? ⟨w.heap.size,5,none⟩=some (.slice va nv vc):=by rw [Lib.cell_of_heap HX5.out];rfl
   have i5:w5.cell? ⟨ib,5,none⟩=some (.slice ya m yc):=by rw [Lib.cell_of_heap HI5.out,← hyf];rfl
   have S4:=Lib.hid s4
   have S5:=Lib.hid s5
   have I5:=Lib.hid i5
   clear hyat hyf hm hn HX5 HI5 HM5 Him Her HS HR Hrow
   go_wp2_with fail
   have HnI:=Lib.hid hnI
   clear s4 s5 i5 hnI hnm
   go_loopw [7] (fun i wr=>∃ k:Nat,i=.int .i64 k∧k≤m∧Below w5.heap.size w5 wr) (fun i _=>m-(intOf i).toNat)
   case atStart=>exact⟨0,rfl,Nat.zero_le _,Below.refl _ _⟩
   case round=>
    obtain⟨k,rfl,hk,hbr⟩:=hrel
    have HBr:=Lib.hid hbr
    have HW:=Lib.hid (HB5.out.trans (hbr.mono HB5.out.size))
    have i5:wr.cell? ⟨ib,5,none⟩=some (.slice ya m yc):=(hbr.cell (p:=⟨ib,5,none⟩) (by have:=Hz5.out;show ib<_;omega)).trans I5.out
    by_cases hlt:k<m
    ·obtain rfl:=hyaa (by omega)
     obtain⟨x,hx⟩:∃ x,im.syms[k]? =some x:=⟨_,List.getElem?_eq_getElem (by rw [← Hm.out];exact hlt)⟩
     obtain⟨-,c0,c1,c2,c3,c4,c5,c6,c7,c8⟩:=(Hyat.out.keeps (w':=wr) (fun b hb=>hbr.block b (by have:=hb.2;have:=Hz5.out;omega))).sym9 k x hx
     have Hx:=Lib.hid hx
     have hk2:(k:Int)<(m:Int):=by omega
     have hk3:0≤(k:Int):=by omega
     have hzr:=hbr.size
     have HXb:=Lib.hid (heap_alloc_new wr (.cells (#[.string ⟨x.name.toArray⟩,.string ⟨x.version.toArray⟩,.bool x.old,.int .i64 x.kind,.bool x.weak,.int .i64 x.vis,.bool x.defined,.int .i64 x.value,.int .i64 x.size]) 52 (0,0)))
     have HBa:=Lib.hid (hbr.alloc hbr.size (.cells (#[.string ⟨x.name.toArray⟩,.string ⟨x.version.toArray⟩,.bool x.old,.int .i64 x.kind,.bool x.weak,.int .i64 x.vis,.bool x.defined,.int .i64 x.value,.int .i64 x.size]) 52 (0,0)))
     have hza:(wr.alloc (.cells (#[.string ⟨x.name.toArray⟩,.string ⟨x.version.toArray⟩,.bool x.old,.int .i64 x.kind,.bool x.weak,.int .i64 x.vis,.bool x.defined,.int .i64 x.value,.int .i64 x.size]) 52 (0,0))).heap.size=wr.heap.size+1:=by simp
     clear hx hbr
     go_upto_region 14 with fail
     obtain⟨xb,hxb⟩:∃ xb,xb=wr.heap.size:=⟨_,rfl⟩
     rw [← hxb]at HXb hza hzr ⊢
     generalize wr.alloc (.cells (#[.string ⟨x.name.toArray⟩,.string ⟨x.version.toArray⟩,.bool x.old,.int .i64 x.kind,.bool x.weak,.int .i64 x.vis,.bool x.defined,.int .i64 x.value,.int .i64 x.size]) 52 (0,0))=wx at *
     have Hza:=Lib.hid hza
     clear c0 c1 c2 c3 c4 c5 c6 c7 c8 i5 hza hxb
     have p0:wx.cell? ⟨xb,0,none⟩=some (.string ⟨x.name.toArray⟩):=by rw [Lib.cell_of_heap HXb.out];rfl
     have p1:wx.cell? ⟨xb,1,none⟩=some (.string ⟨x.version.toArray⟩):=by rw [Lib.cell_of_heap HXb.out];rfl
     have p6:wx.cell? ⟨xb,6,none⟩=some (.bool x.defined):=by rw [Lib.cell_of_heap HXb.out];rfl
     have P0:=Lib.hid p0
     have P1:=Lib.hid p1
     have HWx:=Lib.hid (HB5.out.trans (HBa.out.mono HB5.out.size))
     have s4:wx.cell? ⟨w.heap.size,4,none⟩=some (.slice fa nf fc):=(HBa.out.cell (p:=⟨w.heap.size,4,none⟩) (by have:=Hz5.out;show w.heap.size<_;omega)).trans S4.out
     have s5:wx.cell? ⟨w.heap.size,5,none⟩=some (.slice va nv vc):=(HBa.out.cell (p:=⟨w.heap.size,5,none⟩) (by have:=Hz5.out;show w.heap.size<_;omega)).trans S5.out
     have i5:wx.cell? ⟨ib,5,none⟩=some (.slice (some ⟨yb,yo,none⟩) m yc):=(HBa.out.cell (p:=⟨ib,5,none⟩) (by have:=Hz5.out;show ib<_;omega)).trans I5.out
     by_cases hA:k<nf
     ·obtain⟨f,hf,hfn,hfd⟩:=Hsb.out.func k x Hx.out (by rw [← Hnf.out];exact hA)
      obtain rfl:=hfaa (by omega)
      obtain⟨fl,-,-,f0,-⟩:=Hfat.out.func10b HWx.out k f hf
      rw [← hfn]at f0
      rw [hfd]at p6
      have hA1:(k:Int)<(nf:Int):=by omega
      have hA1d:decide ((k:Int)<(nf:Int))=true:=decide_eq_true hA1
      have hA2:(k:Int)<(n:Int):=by have:=Hn.out;omega
      have hA2d:decide ((k:Int)<(n:Int))=true:=decide_eq_true hA2
      have hA3:¬ (nf:Int)≤(k:Int):=by omega
      have hA3e:decide (nf≤k)=false:=decide_eq_false (by omega)
      have hA3d:decide ((nf:Int)≤(k:Int))=false:=decide_eq_false hA3
      clear hf hfn hfd
      go_wp2_with fail
      go_quiet (fail)
      have HBq:=Lib.hid (show Below wx.heap.size wx (wx.drewN nq)from below_drewN (Below.refl _ _))
      clear f0 p0 p1 p6 s4 s5 i5
      go_wp2_with fail
      go_loopw [9] (fun i wr=>∃ j:Nat,i=.int .i64 j∧n≤j∧j≤k+n∧Below wx.heap.size wx wr) (fun i _=>k+n-(intOf i).toNat)
      case atStart=>exact⟨n,rfl,Nat.le_refl _,by omega,HBq.out⟩
      case round=>
       obtain⟨j,rfl,hnj,hjk,hbq⟩:=hrel
       have HBw:=Lib.hid (HBa.out.trans (hbq.mono HBa.out.size))
       have HWw:=Lib.hid (HB5.out.trans (HBw.out.mono HB5.out.size))
       have hjk2:¬ (j:Int)<(k:Int):=by omega
       clear hbq
       go_wp2_with fail
       go_roundw
       case rel=>exact⟨k+1,by go_num,by omega,HBw.out⟩
       case measure=>simp [intOf];omega
     by_cases hB:k<n
     ·obtain⟨f,hf,hfn,hfd⟩:=Hsb.out.var k x Hx.out (by rw [← Hnf.out];omega) (by rw [← Hnf.out,← Hnv.out,← Hn.out];exact hB)
      rw [← Hnf.out]at hf
      obtain⟨j0,hj0⟩:∃ j0,j0=k-nf:=⟨_,rfl⟩
      rw [← hj0]at hf
      have hj1:(k:Int)-(nf:Int)=(j0:Int):=by omega
      have hj2:(j0:Int)<(nv:Int):=by have:=Hn.out;omega
      have hj3:0≤(j0:Int):=by omega
      obtain rfl:=hvaa (by have:=Hn.out;omega)
      obtain⟨fl,fr,-,-,-,f0,-⟩:=Hvat.out.var12b HWx.out j0 f hf
      rw [← hfn]at f0
      rw [hfd]at p6
      have hA1:¬ (k:Int)<(nf:Int):=by omega
      have hA1d:decide ((k:Int)<(nf:Int))=false:=decide_eq_false hA1
      have hA2:(k:Int)<(n:Int):=by omega
      have hA2d:decide ((k:Int)<(n:Int))=true:=decide_eq_true hA2
      have hA3:(nf:Int)≤(k:Int):=by omega
      have hA3e:decide (nf≤k)=true:=decide_eq_true (by omega)
      have hA3d:decide ((nf:Int)≤(k:Int))=true:=decide_eq_true hA3
      clear hf hfn hfd hj0
      go_wp2_with fail
      go_quiet (fail)
      have HBq:=Lib.hid (show Below wx.heap.size wx (wx.drewN nq)from below_drewN (Below.refl _ _))
      clear f0 p0 p1 p6 s4 s5 i5
      go_wp2_with fail
      go_loopw [9] (fun i wr=>∃ j:Nat,i=.int .i64 j∧n≤j∧j≤k+n∧Below wx.heap.size wx wr) (fun i _=>k+n-(intOf i).toNat)
      case atStart=>exact⟨n,rfl,Nat.le_refl _,by omega,HBq.out⟩
      case round=>
       obtain⟨j,rfl,hnj,hjk,hbq⟩:=hrel
       have HBw:=Lib.hid (HBa.out.trans (hbq.mono HBa.out.size))
       have HWw:=Lib.hid (HB5.out.trans (HBw.out.mono HB5.out.size))
       have hjk2:¬ (j:Int)<(k:Int):=by omega
       clear hbq
       go_wp2_with fail
       go_roundw
       case rel=>exact⟨k+1,by go_num,by omega,HBw.out⟩
       case measure=>simp [intOf];omega
     have hdf:=(Hsb.out.rest k x (by rw [← Hnf.out,← Hnv.out,← Hn.out];omega) Hx.out).1
     rw [hdf]at p6
     have hA1:¬ (k:Int)<(nf:Int):=by omega
     have hA1d:decide ((k:Int)<(nf:Int))=false:=decide_eq_false hA1
     have hA2:¬ (k:Int)<(n:Int):=by omega
     have hA2d:decide ((k:Int)<(n:Int))=false:=decide_eq_false hA2
     have hA3:(nf:Int)≤(k:Int):=by omega
     have hA3e:decide (nf≤k)=true:=decide_eq_true (by omega)
     have hA3d:decide ((nf:Int)≤(k:Int))=true:=decide_eq_true hA3
     have f0:=p0
     clear hdf
     go_wp2_with fail
     go_quiet (fail)
     have HBq:=Lib.hid (show Below wx.heap.size wx (wx.drewN nq)from below_drewN (Below.refl _ _))
     clear f0 p0 p1 p6 s4 s5 i5
     go_wp2_with fail
     go_loopw [9] (fun i wr=>∃ j:Nat,i=.int .i64 j∧n≤j∧j≤k+n∧Below wx.heap.size wx wr) (fun i _=>k+n-(intOf i).toNat)
     case atStart=>exact⟨n,rfl,Nat.le_refl _,by omega,HBq.out⟩
     case round=>
      obtain⟨j,rfl,hnj,hjk,hbq⟩:=hrel
      have HBw:=Lib.hid (HBa.out.trans (hbq.mono HBa.out.size))
      have HWw:=Lib.hid (HB5.out.trans (HBw.out.mono HB5.out.size))
      by_cases hjk2:j<k
      ·obtain⟨y,hy⟩:∃ y,im.syms[j]? =some y:=⟨_,List.getElem?_eq_getElem (by rw [← Hm.out];omega)⟩
       have hno:=(Hsb.out.rest k x (by rw [← Hnf.out,← Hnv.out,← Hn.out];omega) Hx.out).2 j y (by rw [← Hnf.out,← Hnv.out,← Hn.out];omega) hjk2 hy
       obtain⟨-,d0,d1,-⟩:=(Hyat.out.keeps (w':=wr) (fun b hb=>HBw.out.block b (by have:=hb.2;have:=Hz5.out;omega))).sym9 j y hy
       have i5:wr.cell? ⟨ib,5,none⟩=some (.slice (some ⟨yb,yo,none⟩) m yc):=(HBw.out.cell (p:=⟨ib,5,none⟩) (by have:=Hz5.out;show ib<_;omega)).trans I5.out
       have p0:wr.cell? ⟨xb,0,none⟩=some (.string ⟨x.name.toArray⟩):=(hbq.cell (p:=⟨xb,0,none⟩) (by have:=Hza.out;show xb<_;omega)).trans P0.out
       have p1:wr.cell? ⟨xb,1,none⟩=some (.string ⟨x.version.toArray⟩):=(hbq.cell (p:=⟨xb,1,none⟩) (by have:=Hza.out;show xb<_;omega)).trans P1.out
       have hj2:(j:Int)<(m:Int):=by omega
       have hj3:0≤(j:Int):=by omega
       have hj4:(j:Int)<(k:Int):=by omega
       have hbq':=Lib.hid hbq
       clear hbq hy
       by_cases hnm:y.name=x.name
       ·have hbn:(y.name==x.name)=true:=by simp [hnm]
        have hbv:(y.version==x.version)=false:=by
         rw [Bool.eq_false_iff];intro h;exact hno ⟨hnm,by simpa using h⟩
        clear hnm hno
        go_wp2_with fail
        go_quiet (fail)
        have HB2:=Lib.hid (show Below wx.heap.size wx (wr.drewN nq)from below_drewN (by exact hbq'.out))
        clear d0 d1 i5 p0 p1
        go_wp2_with fail
        go_roundw
        case rel=>exact⟨j+1,by go_num,by omega,by omega,HB2.out⟩
        case measure=>simp [intOf];omega
       ·have hbn:(y.name==x.name)=false:=by
         rw [Bool.eq_false_iff];intro h;exact hnm (by simpa using h)
        clear hnm hno
        go_wp2_with fail
        go_quiet (fail)
        have HB2:=Lib.hid (show Below wx.heap.size wx (wr.drewN nq)from below_drewN (by exact hbq'.out))
        clear d0 d1 i5 p0 p1
        go_wp2_with fail
        go_roundw
        case rel=>exact⟨j+1,by go_num,by omega,by omega,HB2.out⟩
        case measure=>simp [intOf];omega
      ·clear hbq
       go_wp2_with fail
       go_roundw
       case rel=>exact⟨k+1,by go_num,by omega,HBw.out⟩
       case measure=>simp [intOf];omega
    ·clear hbr
     go_wp2
     go_ret
     exact⟨rfl,HW.out⟩
  ·have hmb:(er != 0)=true:=by simp [hez]
   clear hez
   go_wp2
   go_ret
   exact⟨rfl,HB5.out⟩
end Go.Proofs.Ytpomdoliblilfaa
