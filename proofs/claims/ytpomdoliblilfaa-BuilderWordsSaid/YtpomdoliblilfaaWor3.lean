/- BuilderWords, no condition: for every such input the law returns true, and its arguments read behind the call as they did. -/
import Derived.Test.YtpomdoliblilfaaWor2
import Derived.Test.YtpomdoliblilfaaBld18
namespace Go.Proofs.Ytpomdoliblilfaa
set_option linter.unusedVariables false
set_option linter.unusedSimpArgs false
theorem wordsL_get:∀ (l:List Int) (q r:Nat) (n:Int),l[q]? =some n→r<8→(wordsL l)[8*q+r]? =some (byteAt n r)
 | [],q,r,n,h,_=>by simp at h
 | m :: l,0,r,n,h,hr=>by
  have h:m=n:=by simpa using h
  subst h
  show(digitsL 8 m++wordsL l)[8*0+r]? =_
  rw [Nat.mul_zero,Nat.zero_add,List.getElem?_append_left (by rw [digitsL_len];exact hr)]
  simp [digitsL,byteAt,hr]
 | m :: l,q+1,r,n,h,hr=>by
  show(digitsL 8 m++wordsL l)[8*(q+1)+r]? =_
  rw [List.getElem?_append_right (by rw [digitsL_len];omega),digitsL_len,show 8*(q+1)+r-8=8*q+r by omega]
  exact wordsL_get l q r n (by simpa using h) hr
theorem varsL_get:∀ (l:List VarL) (d t:Int) (i:Nat) (v:VarL),l[i]? =some v→(varsL d t l).1[i]? =some (if v.sym.kind=3 then t+8*(blockT (l.take i)).length else d+8*(dataL (l.take i)).length)
 | [],d,t,i,v,h=>by simp at h
 | x :: l,d,t,0,v,h=>by
  have h:x=v:=by simpa using h
  subst h
  unfold varsL
  split<;>simp [blockT,dataL]
 | x :: l,d,t,i+1,v,h=>by
  have h:l[i]? =some v:=by simpa using h
  by_cases hx:x.sym.kind=3
  ·have ih:=varsL_get l d (t+8*x.words.length) i v h
   have e:(varsL d t (x :: l)).1=t :: (varsL d (t+8*x.words.length) l).1:=by rw [varsL,if_pos hx]
   rw [e,List.getElem?_cons_succ,ih,List.take_succ_cons]
   congr 1
   split
   ·simp only [blockT,List.flatMap_cons,if_pos hx,List.length_append];omega
   ·simp only [dataL,List.flatMap_cons,if_pos hx,List.nil_append]
  ·have ih:=varsL_get l (d+8*x.words.length) t i v h
   have e:(varsL d t (x :: l)).1=d :: (varsL (d+8*x.words.length) t l).1:=by rw [varsL,if_neg hx]
   rw [e,List.getElem?_cons_succ,ih,List.take_succ_cons]
   congr 1
   split
   ·simp only [blockT,List.flatMap_cons,if_neg hx,List.nil_append]
   ·simp only [dataL,List.flatMap_cons,if_neg hx,List.length_append];omega
theorem flat_place {α:Type} (f:α→List Int):∀ (l:List α) (i:Nat) (v:α) (j:Nat) (n:Int),l[i]? =some v→(f v)[j]? =some n→(l.flatMap f)[((l.take i).flatMap f).length+j]? =some n
 | [],i,v,j,n,h,_=>by simp at h
 | x :: l,0,v,j,n,h,hj=>by
  have h:x=v:=by simpa using h
  subst h
  have hl:j<(f x).length:=(List.getElem?_eq_some_iff.1 hj).1
  simp only [List.take_zero,List.flatMap_nil,List.length_nil,Nat.zero_add,List.flatMap_cons]
  rw [List.getElem?_append_left hl];exact hj
 | x :: l,i+1,v,j,n,h,hj=>by
  simp only [List.take_succ_cons,List.flatMap_cons,List.length_append]
  rw [List.getElem?_append_right (by omega),show(f x).length+((l.take i).flatMap f).length+j-(f x).length=((l.take i).flatMap f).length+j by omega]
  exact flat_place f l i v j n (by simpa using h) hj
theorem symsV_at:∀ (ps:List Int) (vs:List VarL) (l:List SymL) (i:Nat) (a:Int) (v:VarL) (z:SymL),ps[i]? =some a→vs[i]? =some v→l[i]? =some z→(symsV ps vs l)[i]? =some {z with value:=a,size:=8*v.words.length }
 | [],_,_,i,_,_,_,h,_,_=>by simp at h
 | _ :: _,[],_,i,_,_,_,_,h,_=>by simp at h
 | _ :: _,_ :: _,[],i,_,_,_,_,_,h=>by simp at h
 | b :: ps,u :: vs,y :: l,0,a,v,z,h1,h2,h3=>by
  have h1:b=a:=by simpa using h1
  have h2:u=v:=by simpa using h2
  have h3:y=z:=by simpa using h3
  subst h1 h2 h3
  rfl
 | b :: ps,u :: vs,y :: l,i+1,a,v,z,h1,h2,h3=>by
  show(_ :: symsV ps vs l)[i+1]? =_
  rw [List.getElem?_cons_succ]
  exact symsV_at ps vs l i a v z (by simpa using h1) (by simpa using h2) (by simpa using h3)
structure WordsAt (s:SpecL) (im:ImgL) (i:Nat) (v:VarL) (x:SymL):Prop where
 sym:im.syms[s.funcs.length+i]? =some x
 kind:x.kind=v.sym.kind
 size:x.size=8*v.words.length
 tls:v.sym.kind=3→∃ o:Nat,x.value=8*o∧∀ j n,v.words[j]? =some n→(blockT s.vars)[o+j]? =some n
 data:v.sym.kind≠3→∃ o:Nat,x.value=(layL s (checkL s)).got+8*o∧∀ j n,v.words[j]? =some n→(dataT s)[o+j]? =some n
theorem build_words {s:SpecL} (h:(buildL s).2=0) (i:Nat) (v:VarL) (hv:s.vars[i]? =some v):∃ x,WordsAt s (buildL s).1 i v x:=by
 have hb:(placedQ s).syms.map bareS=(checkL s).syms.map bareS:=by unfold placedQ;rw [symsL_bare,(fini_plan s).1]
 have hS:=build_syms h
 have hil:i<s.vars.length:=(List.getElem?_eq_some_iff.1 hv).1
 obtain⟨x,hx⟩:∃ x,(buildL s).1.syms[s.funcs.length+i]? =some x:=⟨_,List.getElem?_eq_getElem (by have:=hS.len;omega)⟩
 have hsy:=build_symsQ h
 have hp:=(check_placed s).own.length_le
 simp at hp
 obtain⟨l,hl⟩:∃ l,l=(checkL s).syms:=⟨_,rfl⟩
 obtain⟨y,hy⟩:∃ y,y=layL s (checkL s):=⟨_,rfl⟩
 have hq:(placedQ s).syms=(symsF y.stubs y.funcs l).take s.funcs.length++symsV y.vars s.vars ((symsF y.stubs y.funcs l).drop s.funcs.length):=by
  show symsL s (layL s (checkL s)) (finiQ s).1.syms=_
  rw [(fini_plan s).1,← hy,← hl];rfl
 have hfl:(symsF y.stubs y.funcs l).length=l.length:=by have:=congrArg List.length (symsF_bare y.stubs y.funcs l);simpa using this
 have htl:((symsF y.stubs y.funcs l).take s.funcs.length).length=s.funcs.length:=by rw [List.length_take,hfl];rw [← hl]at hp;omega
 have ha:y.vars[i]? =some (if v.sym.kind=3 then (0:Int)+8*((blockT (s.vars.take i)).length:Int) else (y.plt+8*((checkL s).jumps.length:Int))+8*((dataL (s.vars.take i)).length:Int)):=by
  have:=varsL_get s.vars (y.plt+8*((checkL s).jumps.length:Int)) 0 i v hv
  rw [hy];rw [hy]at this;exact this
 obtain⟨z,hz⟩:∃ z,((symsF y.stubs y.funcs l).drop s.funcs.length)[i]? =some z:=⟨_,List.getElem?_eq_getElem (by rw [List.length_drop,hfl,hl];omega)⟩
 have hx2:=hx
 rw [hsy,hq,List.getElem?_append_right (by omega),htl,Nat.add_sub_cancel_left,symsV_at _ _ _ i _ v z ha hv hz]at hx2
 have hx2:=Option.some.inj hx2
 obtain⟨y0,hy0,hb0⟩:=((check_placed s).bare hb).1 (s.funcs.length+i) x (by rw [← hsy];exact hx) (by omega)
 rw [List.getElem?_append_right (by simp),List.length_map,Nat.add_sub_cancel_left,List.getElem?_map,hv]at hy0
 have hy0:=Option.some.inj hy0
 subst hy0
 have hk:x.kind=v.sym.kind:=by have e:=congrArg (fun q:SymL=>q.kind) hb0;exact e
 refine⟨x,hx,hk,by rw [← hx2],fun h3=>⟨(blockT (s.vars.take i)).length,by rw [← hx2];show(if _ then _ else _)=_;rw [if_pos h3];omega,fun j n hj=>flat_place _ s.vars i v j n hv (by rw [if_pos h3];exact hj)⟩,fun h3=>⟨(checkL s).cells.length+(checkL s).jumps.length+(dataL (s.vars.take i)).length,?_,fun j n hj=> ?_⟩⟩
 ·rw [← hx2]
  show(if _ then _ else _)=_
  rw [if_neg h3,hy]
  have e:(layL s (checkL s)).plt=(layL s (checkL s)).got+8*((checkL s).cells.length:Int):=rfl
  rw [e];omega
 ·unfold dataT
  rw [(insts_plan s).1]
  have e1:(placedQ s).cells=(checkL s).cells:=(fini_plan s).2.1
  have e2:(placedQ s).jumps=(checkL s).jumps:=(fini_plan s).2.2
  rw [e1,e2,List.getElem?_append_right (by rw [List.length_replicate];omega),List.length_replicate,Nat.add_assoc,Nat.add_sub_cancel_left]
  exact flat_place _ s.vars i v j n hv (by rw [if_neg h3];exact hj)
theorem build_segs {s:SpecL} (h:(buildL s).2=0):(buildL s).1.segs=segsT s∧(buildL s).1.tls=wordsL (blockT s.vars)∧(buildL s).1.slots=slotsT (layL s (checkL s)) 0 (placedQ s).jumps:=by
 obtain⟨_,_,he,_⟩:=buildL_ok h
 rw [he,← image_eq s _ rfl]
 exact⟨rfl,rfl,rfl⟩
end Go.Proofs.Ytpomdoliblilfaa
namespace Go.Proofs.Ytpomdoliblilfaa
set_option linter.unusedVariables false
set_option linter.unusedSimpArgs false
open Go.RowKit
theorem words_byte {l v:List Int} {o:Nat} (h:o+v.length≤l.length∧∀ (j:Nat) (n:Int),v[j]? =some n→l[o+j]? =some n) (k:Nat) (hk:k<8*v.length):∃ n,v[k/8]? =some n∧(wordsL l)[8*o+k]? =some (byteAt n (k%8)):=by
 obtain⟨n,hn⟩:∃ n,v[k/8]? =some n:=⟨_,List.getElem?_eq_getElem (by omega)⟩
 refine⟨n,hn,?_⟩
 have:=wordsL_get l (o+k/8) (k%8) n (h.2 _ n hn) (by omega)
 rwa [show 8*(o+k/8)+k%8=8*o+k by omega]at this
theorem words_in {l v:List Int} {o:Nat} (hv:1≤v.length) (h:∀ (j:Nat) (n:Int),v[j]? =some n→l[o+j]? =some n):o+v.length≤l.length∧∀ (j:Nat) (n:Int),v[j]? =some n→l[o+j]? =some n:=by
 refine⟨?_,h⟩
 have h1:=h (v.length-1) v[v.length-1] (List.getElem?_eq_getElem (by omega))
 have:=(List.getElem?_eq_some_iff.1 h1).1
 omega
set_option maxHeartbeats 16000000 in
set_option maxRecDepth 100000 in
theorem bwordsLaw_any (w:World) (sv:SpecV) (s:SpecL) (hS:SpecM (·<w.heap.size) w sv s) (hR:Reach s):
  Calls Try.prog 6 #[.agg (specCells sv s).toArray] w fun e w'=>e=.returned (.bool true)∧Below w.heap.size w w':=by
 have HS:=Lib.hid hS
 have HR:=Lib.hid hR
 have hone:=spec_one hS
 obtain⟨fa,fb,fo,fc,hff,hfm,hfc,hfat⟩:=hS.funcs.at
 obtain⟨va,vb,vo,vc,hvf,hvm,hvc,hvat⟩:=hS.vars.at
 obtain⟨nf,hnf⟩:∃ nf,nf=s.funcs.length:=⟨_,rfl⟩
 obtain⟨nv,hnv⟩:∃ nv,nv=s.vars.length:=⟨_,rfl⟩
 have hfaa:=hfat.addr
 have hvaa:=hvat.addr
 have Hfat:=Lib.hid hfat
 have Hvat:=Lib.hid hvat
 rw [← hnf]at hff hfm hfc hfaa
 rw [← hnv]at hvf hvm hvc hvaa
 have Hnf:=Lib.hid hnf
 have Hnv:=Lib.hid hnv
 have hrow:(specCells sv s).toArray=(#[.string ⟨s.name.toArray⟩,.int .i64 s.flags,sv.needed,sv.runPath,.slice fa nf fc,.slice va nv vc,sv.weak,sv.init,sv.fini]):=by unfold specCells;rw [hff,hvf]
 have Hrow:=Lib.hid hrow
 rw [hrow]at hone ⊢
 clear hrow hS hR hfat hvat hff hvf hnf hnv hone
 have HX1:=Lib.hid (heap_alloc_new w (.cells (#[.string ⟨s.name.toArray⟩,.int .i64 s.flags,sv.needed,sv.runPath,.slice fa nf fc,.slice va nv vc,sv.weak,sv.init,sv.fini]) 28 (0,0)))
 have HB1:=Lib.hid ((Below.refl w.heap.size w).alloc (Nat.le_refl _) (.cells (#[.string ⟨s.name.toArray⟩,.int .i64 s.flags,sv.needed,sv.runPath,.slice fa nf fc,.slice va nv vc,sv.weak,sv.init,sv.fini]) 28 (0,0)))
 have Hz1:Hid ((w.alloc (.cells (#[.string ⟨s.name.toArray⟩,.int .i64 s.flags,sv.needed,sv.runPath,.slice fa nf fc,.slice va nv vc,sv.weak,sv.init,sv.fini]) 28 (0,0))).heap.size=w.heap.size+1):=Lib.hid (by simp)
 go_enter Try.func6,Try.ntmps6
 go_upto_region 1 with fail
 generalize w.alloc (.cells (#[.string ⟨s.name.toArray⟩,.int .i64 s.flags,sv.needed,sv.runPath,.slice fa nf fc,.slice va nv vc,sv.weak,sv.init,sv.fini]) 28 (0,0))=w1 at *
 have HA:=Lib.hid (bawake_any w1)
 go_wp2_with fail
 refine HA.out.mono ?_
 rintro e w2 ⟨rfl,hb2⟩
 have HX2:=Lib.hid ((hb2.block w.heap.size (by have:=Hz1.out;omega)).trans HX1.out)
 have HB2:=Lib.hid (HB1.out.trans (hb2.mono (by have:=Hz1.out;omega)))
 have Hz2:Hid (w.heap.size<w2.heap.size):=Lib.hid (by have:=Hz1.out;have:=hb2.size;omega)
 clear hb2 HX1 HB1 Hz1 HA
 have HF:Hid (Calls Try.prog 9 #[.agg (#[.string ⟨s.name.toArray⟩,.int .i64 s.flags,sv.needed,sv.runPath,.slice fa nf fc,.slice va nv vc,sv.weak,sv.init,sv.fini])] w2 (FewPost w2 s)):=Lib.hid (by have:=bfew_any w2 sv s (HS.out.later HB2.out);rwa [Hrow.out]at this)
 have x0:=cells_row HX2.out 0 _ rfl
 have x1:=cells_row HX2.out 1 _ rfl
 have x2:=cells_row HX2.out 2 _ rfl
 have x3:=cells_row HX2.out 3 _ rfl
 have x4:=cells_row HX2.out 4 _ rfl
 have x5:=cells_row HX2.out 5 _ rfl
 have x6:=cells_row HX2.out 6 _ rfl
 have x7:=cells_row HX2.out 7 _ rfl
 have x8:=cells_row HX2.out 8 _ rfl
 go_wp2_with fail
 refine HF.out.mono ?_
 clear x0 x1 x2 x3 x4 x5 x6 x7 x8
 rintro e w3 ⟨r,rfl,hr,hb3⟩
 have HX3:=Lib.hid ((hb3.block w.heap.size Hz2.out).trans HX2.out)
 have HB3:=Lib.hid (HB2.out.trans (hb3.mono (Nat.le_of_lt Hz2.out)))
 have Hz3:Hid (w.heap.size<w3.heap.size):=Lib.hid (by have:=Hz2.out;have:=hb3.size;omega)
 have Hr:=Lib.hid hr
 clear hb3 HX2 HB2 Hz2 HF hr
 cases r with
 | false=>
  go_wp2
  go_ret
  exact⟨rfl,HB3.out⟩
 | true=>
  have HFew:=Lib.hid ((Hr.out rfl).l HR.out)
  have hn2:nf≤2000∧nv≤2000:=by have:=HFew.out.funcs;have:=HFew.out.vars;have:=Hnf.out;have:=Hnv.out;omega
  clear Hr
  have HC:Hid (Calls Try.prog 10 #[.agg (#[.string ⟨s.name.toArray⟩,.int .i64 s.flags,sv.needed,sv.runPath,.slice fa nf fc,.slice va nv vc,sv.weak,sv.init,sv.fini])] w3 (BuildPost w3 s)):=Lib.hid (by have:=build_any w3 sv s (HS.out.later HB3.out) HFew.out;rwa [Hrow.out]at this)
  have x0:=cells_row HX3.out 0 _ rfl
  have x1:=cells_row HX3.out 1 _ rfl
  have x2:=cells_row HX3.out 2 _ rfl
  have x3:=cells_row HX3.out 3 _ rfl
  have x4:=cells_row HX3.out 4 _ rfl
  have x5:=cells_row HX3.out 5 _ rfl
  have x6:=cells_row HX3.out 6 _ rfl
  have x7:=cells_row HX3.out 7 _ rfl
  have x8:=cells_row HX3.out 8 _ rfl
  go_wp2_with fail
  refine HC.out.mono ?_
  clear x0 x1 x2 x3 x4 x5 x6 x7 x8
  rintro e w4 ⟨iv,rfl,hb4,hm4⟩
  obtain⟨im,him1⟩:∃ im,im=(buildL s).1:=⟨_,rfl⟩
  obtain⟨er,her⟩:∃ er,er=(buildL s).2:=⟨_,rfl⟩
  rw [← him1,← her]
  rw [← him1]at hm4
  have Him:=Lib.hid him1
  have Her:=Lib.hid her
  have hone4:=img_one hm4
  have HM4:=Lib.hid hm4
  have HX4:=Lib.hid ((hb4.block w.heap.size Hz3.out).trans HX3.out)
  have HB4:=Lib.hid (HB3.out.trans (hb4.mono (Nat.le_of_lt Hz3.out)))
  have Hz4:Hid (w.heap.size<w4.heap.size):=Lib.hid (by have:=Hz3.out;have:=hb4.size;omega)
  clear hb4 hm4 him1 her HX3 HB3 HC
  go_upto_region 5 with (refine wpList_store_row rfl 44 (.tmp 4) (.tmp 19) rfl w4.heap.size (imgCells iv im) rfl rfl _ _ (heap_alloc_new w4 _) (by kernel_rfl) rfl hone4 ?_)
  have HI5:=Lib.hid (setRow_heap (w4.alloc (.cells (#[.string ⟨#[]⟩,.int .i64 0,.slice none 0 0,.slice none 0 0,.slice none 0 0,.slice none 0 0,.slice none 0 0,.slice none 0 0,.int .i64 0,.slice none 0 0,.slice none 0 0,.slice none 0 0,.slice none 0 0,.slice none 0 0,.int .i64 0]) 44 (0,0))) w4.heap.size _ (imgCells iv im) _ _ (heap_alloc_new w4 _))
  have hold:∀ b,b<w4.heap.size→((w4.alloc (.cells (#[.string ⟨#[]⟩,.int .i64 0,.slice none 0 0,.slice none 0 0,.slice none 0 0,.slice none 0 0,.slice none 0 0,.slice none 0 0,.int .i64 0,.slice none 0 0,.slice none 0 0,.slice none 0 0,.slice none 0 0,.slice none 0 0,.int .i64 0]) 44 (0,0))).setRow w4.heap.size (imgCells iv im)).heap[b]? =w4.heap[b]? :=fun b hb=>(setRow_other _ _ b _ (by omega)).trans (heap_alloc_old w4 _ hb)
  have HX5:=Lib.hid ((hold w.heap.size Hz4.out).trans HX4.out)
  have HM5:=Lib.hid (HM4.out.keeps (fun b hb=>hold b hb.2))
  have HB5:=Lib.hid (below_setRow (HB4.out.alloc HB4.out.size (.cells (#[.string ⟨#[]⟩,.int .i64 0,.slice none 0 0,.slice none 0 0,.slice none 0 0,.slice none 0 0,.slice none 0 0,.slice none 0 0,.int .i64 0,.slice none 0 0,.slice none 0 0,.slice none 0 0,.slice none 0 0,.slice none 0 0,.int .i64 0]) 44 (0,0))) w4.heap.size (imgCells iv im) HB4.out.size)
  have hz5:((w4.alloc (.cells (#[.string ⟨#[]⟩,.int .i64 0,.slice none 0 0,.slice none 0 0,.slice none 0 0,.slice none 0 0,.slice none 0 0,.slice none 0 0,.int .i64 0,.slice none 0 0,.slice none 0 0,.slice none 0 0,.slice none 0 0,.slice none 0 0,.int .i64 0]) 44 (0,0))).setRow w4.heap.size (imgCells iv im)).heap.size=w4.heap.size+1:=by simp
  obtain⟨ib,hib⟩:∃ ib,ib=w4.heap.size:=⟨_,rfl⟩
  rw [← hib]at HI5 HX5 HM5 HB5 hz5 hold ⊢
  generalize (w4.alloc (.cells (#[.string ⟨#[]⟩,.int .i64 0,.slice none 0 0,.slice none 0 0,.slice none 0 0,.slice none 0 0,.slice none 0 0,.slice none 0 0,.int .i64 0,.slice none 0 0,.slice none 0 0,.slice none 0 0,.slice none 0 0,.slice none 0 0,.int .i64 0]) 44 (0,0))).setRow ib (imgCells iv im)=w5 at *
  have Hz5:Hid (w.heap.size<ib∧w5.heap.size=ib+1):=Lib.hid ⟨by have:=Hz4.out;omega,hz5⟩
  clear hone4 HM4 HX4 HB4 Hz4 hold hib hz5 Hz3
  by_cases hez:er=0
  ·have Hwd:=Lib.hid (fun (i:Nat) (v:VarL) (hv:s.vars[i]? =some v)=>build_words (s:=s) (by rw [← Her.out];exact hez) i v hv)
   have hsg:=build_segs (s:=s) (by rw [← Her.out];exact hez)
   have Hsb:=Lib.hid (build_syms (by rw [← Her.out];exact hez))
   have hck:=(check_zero (buildL_ok (s:=s) (by rw [← Her.out];exact hez)).1.check).2.2
   rw [← Him.out]at Hwd hsg Hsb
   have Hsg:=Lib.hid hsg
   have Hck:=Lib.hid hck
   have Hsr:=Lib.hid HM5.out.segsR
   subst hez
   obtain⟨ya,yb,yo,yc,hyf,-,hyc,hyat⟩:=HM5.out.syms.at
   obtain⟨ga,gb,go,gc,hgf,-,hgc,hgat⟩:=HM5.out.segs.at
   obtain⟨ta,tb,to_,tc,htf,htm,htc,htat⟩:=HM5.out.tls.at
   obtain⟨m,hm⟩:∃ m,m=im.syms.length:=⟨_,rfl⟩
   have hm2:nf+nv≤m∧m≤512:=by have:=Hsb.out.len;have:=Hnf.out;have:=Hnv.out;omega
   obtain⟨tl,htl⟩:∃ tl,tl=im.tls.length:=⟨_,rfl⟩
   obtain⟨gl,hgl⟩:∃ gl,gl=im.segs.length:=⟨_,rfl⟩
   have hyaa:=hyat.addr
   have hgaa:=hgat.addr
   have htaa:=htat.addr
   have Hyat:=Lib.hid hyat
   have Hgat:=Lib.hid hgat
   have Htat:=Lib.hid htat
   rw [← hm]at hyf hyc hyaa
   rw [← htl]at htf htc htaa htm
   rw [← hgl]at hgf hgc hgaa
   have Hm:=Lib.hid hm
   have Htl:=Lib.hid htl
   have Hgl:=Lib.hid hgl
   have S4:Hid (w5.cell? ⟨w.heap.size,4,none⟩=some (.slice fa nf fc)):=Lib.hid (by rw [Lib.cell_of_heap HX5.out];rfl)
   have S5:Hid (w5.cell? ⟨w.heap.size,5,none⟩=some (.slice va nv vc)):=Lib.hid (by rw [Lib.cell_of_heap HX5.out];rfl)
   have I5:Hid (w5.cell? ⟨ib,5,none⟩=some (.slice ya m yc)):=Lib.hid (by rw [Lib.cell_of_heap HI5.out,← hyf];rfl)
   have I2:Hid (w5.cell? ⟨ib,2,none⟩=some (.slice ga gl gc)):=Lib.hid (by rw [Lib.cell_of_heap HI5.out,← hgf];rfl)
   have I11:Hid (w5.cell? ⟨ib,13,none⟩=some (.slice ta tl tc)):=Lib.hid (by rw [Lib.cell_of_heap HI5.out,← htf];rfl)
   clear hyat hgat htat hyf hgf htf hm htl hgl hsg hck HX5 HI5 HM5 Him Her HS HR Hrow Hfat hfaa
   go_wp2_with fail
   go_loopw [6] (fun i wr=>∃ k:Nat,i=.int .i64 k∧k≤nv∧Below w5.heap.size w5 wr) (fun i _=>nv-(intOf i).toNat)
   case atStart=>exact⟨0,rfl,Nat.zero_le _,Below.refl _ _⟩
   case round=>
    obtain⟨i0,rfl,hk,hbr⟩:=hrel
    have HBr:=Lib.hid hbr
    have HW:=Lib.hid (HB5.out.trans (hbr.mono HB5.out.size))
    have s5:wr.cell? ⟨w.heap.size,5,none⟩=some (.slice va nv vc):=(hbr.cell (p:=⟨w.heap.size,5,none⟩) (by have:=Hz5.out;show w.heap.size<_;omega)).trans S5.out
    by_cases hlt:i0<nv
    ·obtain⟨v,hv⟩:∃ v,s.vars[i0]? =some v:=⟨_,List.getElem?_eq_getElem (by rw [← Hnv.out];exact hlt)⟩
     obtain⟨x,hxw⟩:=Hwd.out i0 v hv
     have hw1:=Hck.out v (List.mem_of_getElem? hv)
     obtain⟨j0,hj0⟩:∃ j0,j0=nf+i0:=⟨_,rfl⟩
     have hxs:=hxw.sym
     rw [← Hnf.out,← hj0]at hxs
     obtain rfl:=hyaa (by omega)
     obtain rfl:=hvaa (by omega)
     have hjI:(nf:Int)+(i0:Int)=(j0:Int):=by omega
     have hjm:(j0:Int)<(m:Int):=by omega
     have hj0':0≤(j0:Int):=by omega
     have hjm2:¬ (m:Int)≤(j0:Int):=by omega
     have hlt2:(i0:Int)<(nv:Int):=by omega
     obtain⟨-,c0,c1,c2,c3,c4,c5,c6,c7,c8⟩:=(Hyat.out.keeps (w':=wr) (fun b hb=>hbr.block b (by have:=hb.2;have:=Hz5.out;omega))).sym9 j0 x hxs
     have hsz:=hxw.size
     have Hxk:=Lib.hid hxw.kind
     have Hxt:=Lib.hid hxw.tls
     have Hxd:=Lib.hid hxw.data
     obtain⟨xn,xv,xo,xk,xw,xi,xd,xa,xz⟩:=x
     simp only at hsz Hxk Hxt Hxd c0 c1 c2 c3 c4 c5 c6 c7 c8
     obtain⟨nw,hnw⟩:∃ nw,nw=v.words.length:=⟨_,rfl⟩
     obtain⟨z,hz⟩:∃ z,z=8*nw:=⟨_,rfl⟩
     obtain rfl:xz=(z:Int):=by omega
     have Hz:=Lib.hid hz
     have Hnw:=Lib.hid hnw
     have hz8:(8:Int)*(nw:Int)=(z:Int):=by omega
     have hz2:z≤2048:=by omega
     have hz1:1≤nw:=by omega
     have HF9:Hid (∃ wa wb wo wc,(∀ w',Below w.heap.size w w'→w'.cell? ⟨vb,vo+i0*12+9,none⟩=some (.slice (some ⟨wb,wo,none⟩) nw wc))∧nw≤wc∧∀ w',Below w.heap.size w w'→LAt kInt (·<w.heap.size) w' v.words wa wb wo):=Lib.hid (by
      obtain⟨c,d,hc,-,-,-,-,-,-,-,-,-,-,-,f9,-⟩:=Hvat.out.var12b (Below.refl _ _) i0 v hv
      obtain⟨wa,wb,wo,wc,rfl,-,hwc,hwat⟩:=hc.at
      obtain rfl:=hwat.addr (by omega)
      refine⟨_,wb,wo,wc,fun w' hb=> ?_,by omega,fun w' hb=>hwat.below hb⟩
      rw [hnw,← f9]
      exact hb.cell (p:=⟨vb,vo+i0*12+9,none⟩) (Hvat.out.inS (by rw [← Hnv.out];omega)))
     obtain⟨wa,wb,wo,wc,hF9,hwc,hWd⟩:=HF9.out
     clear HF9
     have HF9:=Lib.hid hF9
     have HWd:=Lib.hid hWd
     have HXb:=Lib.hid (heap_alloc_new wr (.cells (#[.string ⟨xn.toArray⟩,.string ⟨xv.toArray⟩,.bool xo,.int .i64 xk,.bool xw,.int .i64 xi,.bool xd,.int .i64 xa,.int .i64 (z:Int)]) 52 (0,0)))
     have HBa:=Lib.hid (hbr.alloc hbr.size (.cells (#[.string ⟨xn.toArray⟩,.string ⟨xv.toArray⟩,.bool xo,.int .i64 xk,.bool xw,.int .i64 xi,.bool xd,.int .i64 xa,.int .i64 (z:Int)]) 52 (0,0)))
     have hza:(wr.alloc (.cells (#[.string ⟨xn.toArray⟩,.string ⟨xv.toArray⟩,.bool xo,.int .i64 xk,.bool xw,.int .i64 xi,.bool xd,.int .i64 xa,.int .i64 (z:Int)]) 52 (0,0))).heap.size=wr.heap.size+1:=by simp
     have hzr:=hbr.size
     have s4:wr.cell? ⟨w.heap.size,4,none⟩=some (.slice fa nf fc):=(hbr.cell (p:=⟨w.heap.size,4,none⟩) (by have:=Hz5.out;show w.heap.size<_;omega)).trans S4.out
     have i5:wr.cell? ⟨ib,5,none⟩=some (.slice (some ⟨yb,yo,none⟩) m yc):=(hbr.cell (p:=⟨ib,5,none⟩) (by have:=Hz5.out;show ib<_;omega)).trans I5.out
     clear hxs hxw hv hsz hz hnw hj0 hF9 hWd hbr
     go_upto_region 13 with fail
     obtain⟨xb,hxb⟩:∃ xb,xb=wr.heap.size:=⟨_,rfl⟩
     rw [← hxb]at HXb hza hzr ⊢
     generalize wr.alloc (.cells (#[.string ⟨xn.toArray⟩,.string ⟨xv.toArray⟩,.bool xo,.int .i64 xk,.bool xw,.int .i64 xi,.bool xd,.int .i64 xa,.int .i64 (z:Int)]) 52 (0,0))=wx at *
     have Hza:=Lib.hid hza
     clear c0 c1 c2 c3 c4 c5 c6 c7 c8 s4 s5 i5 hza hxb
     have p3:wx.cell? ⟨xb,3,none⟩=some (.int .i64 xk):=by rw [Lib.cell_of_heap HXb.out];rfl
     have p7:wx.cell? ⟨xb,7,none⟩=some (.int .i64 xa):=by rw [Lib.cell_of_heap HXb.out];rfl
     have p8:wx.cell? ⟨xb,8,none⟩=some (.int .i64 (z:Int)):=by rw [Lib.cell_of_heap HXb.out];rfl
     have P8:=Lib.hid p8
     have HWx:=Lib.hid (HB5.out.trans (HBa.out.mono HB5.out.size))
     have s5:wx.cell? ⟨w.heap.size,5,none⟩=some (.slice (some ⟨vb,vo,none⟩) nv vc):=(HBa.out.cell (p:=⟨w.heap.size,5,none⟩) (by have:=Hz5.out;show w.heap.size<_;omega)).trans S5.out
     have i2:wx.cell? ⟨ib,2,none⟩=some (.slice ga gl gc):=(HBa.out.cell (p:=⟨ib,2,none⟩) (by have:=Hz5.out;show ib<_;omega)).trans I2.out
     have i11:wx.cell? ⟨ib,13,none⟩=some (.slice ta tl tc):=(HBa.out.cell (p:=⟨ib,13,none⟩) (by have:=Hz5.out;show ib<_;omega)).trans I11.out
     have f9:wx.cell? ⟨vb,vo+i0*12+9,none⟩=some (.slice (some ⟨wb,wo,none⟩) nw wc):=HF9.out wx HWx.out
     by_cases hk3:xk=3
     ·obtain⟨o,ho,hoj⟩:=Hxt.out (by rw [← Hxk.out];exact hk3)
      have Hoj:=Lib.hid (words_in (by rw [← Hnw.out];exact hz1) hoj)
      obtain⟨q,hq⟩:∃ q,q=8*o:=⟨_,rfl⟩
      obtain rfl:xa=(q:Int):=by omega
      have Hq:=Lib.hid hq
      have hbt:tl=8*(blockT s.vars).length:=by rw [Htl.out,Hsg.out.2.1,wordsL_len]
      have hbo:=Hoj.out.1
      have hqz:q+z≤tl:=by have:=Hz.out;have:=Hnw.out;omega
      obtain rfl:=htaa (by omega)
      have HAT:Hid (∀ w',Below w5.heap.size w5 w'→LAt kByte (fun b=>w3.heap.size≤b∧b<ib) w' (wordsL (blockT s.vars)) (some ⟨tb,to_,none⟩) tb to_):=Lib.hid (fun w' hb=>by
       rw [← Hsg.out.2.1]
       exact Htat.out.keeps (w':=w') (fun b hb'=>hb.block b (by have:=hb'.2;have:=Hz5.out;omega)))
      obtain⟨L,hL⟩:∃ L,L=tl:=⟨_,rfl⟩
      rw [← hL]at i11 hqz htm htc
      have hxkb:(xk != 3)=false:=by simp [hk3]
      subst hk3
      clear hoj ho hq hbt hbo hL Hxk Hxt Hxd
      go_wp2_with fail
      have g1:decide ((q:Int)<0)=false:=decide_eq_false (by omega)
      have g2:decide ((L:Int)<(q:Int)+(z:Int))=false:=decide_eq_false (by omega)
      have g3:decide (L<q+z)=false:=decide_eq_false (by omega)
      go_quiet (fail)
      have HBq:=Lib.hid (show Below wx.heap.size wx (wx.drewN nq)from below_drewN (Below.refl _ _))
      clear p3 p7 p8 s5 i2 i11 f9 g1 g2 g3
      go_wp2_with fail
      go_loopw [10] (fun u wr=>∃ k:Nat,u=.int .i64 k∧k≤z∧Below wx.heap.size wx wr) (fun u _=>z-(intOf u).toNat)
      case atStart=>exact⟨0,rfl,Nat.zero_le _,HBq.out⟩
      case round=>
       obtain⟨k,rfl,hkz,hbq⟩:=hrel
       have HBw:=Lib.hid (HBa.out.trans (hbq.mono HBa.out.size))
       have HWw:=Lib.hid (HB5.out.trans (HBw.out.mono HB5.out.size))
       have p8:wr.cell? ⟨xb,8,none⟩=some (.int .i64 (z:Int)):=(hbq.cell (p:=⟨xb,8,none⟩) (by have:=Hza.out;show xb<_;omega)).trans P8.out
       have Hbq:=Lib.hid hbq
       clear hbq
       by_cases hkt:k<z
       ·obtain⟨n,hn,hby⟩:=words_byte Hoj.out k (by rw [← Hnw.out,← Hz.out];exact hkt)
        obtain⟨j,hj⟩:∃ j,j=k/8:=⟨_,rfl⟩
        obtain⟨r,hr⟩:∃ r,r=k%8:=⟨_,rfl⟩
        rw [← hj]at hn
        rw [← hr]at hby
        have hr8:r<8:=by omega
        have s5:wr.cell? ⟨w.heap.size,5,none⟩=some (.slice (some ⟨vb,vo,none⟩) nv vc):=(HBw.out.cell (p:=⟨w.heap.size,5,none⟩) (by have:=Hz5.out;show w.heap.size<_;omega)).trans S5.out
        have f9:wr.cell? ⟨vb,vo+i0*12+9,none⟩=some (.slice (some ⟨wb,wo,none⟩) nw wc):=(HF9.out wr HWw.out).trans rfl
        have wd:wr.cell? ⟨wb,wo+j,none⟩=some (.int .i64 n):=(HWd.out wr HWw.out).int1 j n hn
        obtain⟨pq,hpq⟩:∃ pq,pq=q+k:=⟨_,rfl⟩
        have hq8:8*o+k=pq:=by rw [hpq,Hq.out]
        rw [hq8]at hby
        have bc:wr.cell? ⟨tb,to_+pq,none⟩=some (.int .u8 (byteAt n r).toNat):=(HAT.out wr HBw.out).byte1 pq _ hby
        have hsb:=shr_byteB n r hr8
        obtain⟨cb,hcb⟩:∃ cb,byteAt n r=cb:=⟨_,rfl⟩
        rw [hcb]at hsb bc
        have e1:(q:Int)+(k:Int)=(pq:Int):=by omega
        have hpL:(pq:Int)<(L:Int):=by omega
        have e2:Int.tdiv (k:Int) 8=(j:Int):=by rw [hj];exact(Int.ofNat_tdiv k 8).symm
        have e3:Int.tmod (k:Int) 8=(r:Int):=by rw [hr];exact(Int.ofNat_tmod k 8).symm
        have e4:(8*(r:Int)).toNat=8*r:=by omega
        have e5:IntKind.i64.wrap (8*(r:Int))=8*(r:Int):=by rw [IntKind.wrap_i64];omega
        have hkz2:(k:Int)<(z:Int):=by omega
        have hjw:j<nw:=by have:=Hz.out;omega
        have hjw2:(j:Int)<(nw:Int):=by omega
        clear hn hby hcb hj hr hpq hq8
        go_wp2_with fail
        go_quiet (fail)
        have HB2:=Lib.hid (show Below wx.heap.size wx (wr.drewN nq)from below_drewN (by exact Hbq.out))
        clear p8 s5 f9 wd bc
        go_wp2_with fail
        go_roundw
        case rel=>exact⟨k+1,by go_num,by omega,HB2.out⟩
        case measure=>simp [intOf];omega
       ·clear Hbq
        go_wp2_with fail
        go_roundw
        case rel=>exact⟨i0+1,by go_num,by omega,HBw.out⟩
        case measure=>simp [intOf];omega
     ·obtain⟨o,ho,hoj⟩:=Hxd.out (by rw [← Hxk.out];exact hk3)
      have Hoj:=Lib.hid (words_in (by rw [← Hnw.out];exact hz1) hoj)
      have hbo:=Hoj.out.1
      have hne:dataT s≠[]:=by intro h;rw [h,← Hnw.out]at hbo;simp at hbo;omega
      have hseg:im.segs=[segC s,segD s]:=by rw [Hsg.out.1];unfold segsT;rw [if_neg hne]
      have hgl2:gl=2:=by rw [Hgl.out,hseg];rfl
      obtain rfl:=hgaa (by omega)
      obtain⟨q,hq⟩:∃ q,q=8*o:=⟨_,rfl⟩
      have Hq:=Lib.hid hq
      obtain⟨cb,a0,-,a2,-,hcb⟩:=(Hgat.out.keeps (w':=wx) (fun b hb=>HBa.out.block b (by have:=hb.2;have:=Hz5.out;omega))).seg4 1 (segD s) (by rw [hseg];rfl)
      have hgR:=(Hsr.out (segD s) (by rw [hseg];simp)).1
      obtain⟨G,hG⟩:∃ G,G=(segD s).at_:=⟨_,rfl⟩
      rw [← hG]at a0 hgR
      obtain⟨da,db,dof,dc,rfl,hdm,hdc,hdat⟩:=hcb.at
      obtain⟨L,hL⟩:∃ L,L=(segD s).bytes.length:=⟨_,rfl⟩
      have hL2:L=8*(dataT s).length:=by rw [hL];show(wordsL (dataT s)).length=_;rw [wordsL_len]
      have hqz:q+z≤L:=by have:=Hz.out;have:=Hnw.out;omega
      have hda:=hdat.addr
      have hdin:=hdat.inS
      rw [← hL]at a2 hdm hdc hda hdin
      obtain rfl:=hda (by omega)
      have hdb:=hdin (by omega)
      have HAT:Hid (∀ w',Below wx.heap.size wx w'→LAt kByte (fun b=>w3.heap.size≤b∧b<ib) w' (wordsL (dataT s)) (some ⟨db,dof,none⟩) db dof):=Lib.hid (fun w' hb=>hdat.keeps (w':=w') (fun b hb'=>hb.block b (by have:=hb'.2;have:=Hz5.out;have:=Hza.out;have:=HBa.out.size;omega)))
      have hxa:xa-G=(q:Int):=by rw [ho,hG];show _-(layL s (checkL s)).got=_;omega
      have hgI:(1:Int)<(gl:Int):=by omega
      have hgI2:¬ (gl:Int)<2:=by omega
      have hxkb:(xk != 3)=true:=by simp [hk3]
      clear hoj ho hq hbo hne hseg hgl2 hL hL2 hG hcb hdat hdin hdb hda Hxt Hxd Hxk hk3
      rw [Nat.one_mul]at a0 a2
      go_wp2_with fail
      have g1:decide ((q:Int)<0)=false:=decide_eq_false (by omega)
      have g2:decide ((L:Int)<(q:Int)+(z:Int))=false:=decide_eq_false (by omega)
      have g3:decide (L<q+z)=false:=decide_eq_false (by omega)
      go_quiet (fail)
      have HBq:=Lib.hid (show Below wx.heap.size wx (wx.drewN nq)from below_drewN (Below.refl _ _))
      clear p3 p7 p8 s5 i2 i11 f9 g1 g2 g3
      go_wp2_with fail
      go_loopw [10] (fun u wr=>∃ k:Nat,u=.int .i64 k∧k≤z∧Below wx.heap.size wx wr) (fun u _=>z-(intOf u).toNat)
      case atStart=>exact⟨0,rfl,Nat.zero_le _,HBq.out⟩
      case round=>
       obtain⟨k,rfl,hkz,hbq⟩:=hrel
       have HBw:=Lib.hid (HBa.out.trans (hbq.mono HBa.out.size))
       have HWw:=Lib.hid (HB5.out.trans (HBw.out.mono HB5.out.size))
       have p8:wr.cell? ⟨xb,8,none⟩=some (.int .i64 (z:Int)):=(hbq.cell (p:=⟨xb,8,none⟩) (by have:=Hza.out;show xb<_;omega)).trans P8.out
       have Hbq:=Lib.hid hbq
       clear hbq
       by_cases hkt:k<z
       ·obtain⟨n,hn,hby⟩:=words_byte Hoj.out k (by rw [← Hnw.out,← Hz.out];exact hkt)
        obtain⟨j,hj⟩:∃ j,j=k/8:=⟨_,rfl⟩
        obtain⟨r,hr⟩:∃ r,r=k%8:=⟨_,rfl⟩
        rw [← hj]at hn
        rw [← hr]at hby
        have hr8:r<8:=by omega
        have s5:wr.cell? ⟨w.heap.size,5,none⟩=some (.slice (some ⟨vb,vo,none⟩) nv vc):=(HBw.out.cell (p:=⟨w.heap.size,5,none⟩) (by have:=Hz5.out;show w.heap.size<_;omega)).trans S5.out
        have f9:wr.cell? ⟨vb,vo+i0*12+9,none⟩=some (.slice (some ⟨wb,wo,none⟩) nw wc):=(HF9.out wr HWw.out).trans rfl
        have wd:wr.cell? ⟨wb,wo+j,none⟩=some (.int .i64 n):=(HWd.out wr HWw.out).int1 j n hn
        obtain⟨pq,hpq⟩:∃ pq,pq=q+k:=⟨_,rfl⟩
        have hq8:8*o+k=pq:=by rw [hpq,Hq.out]
        rw [hq8]at hby
        have bc:wr.cell? ⟨db,dof+pq,none⟩=some (.int .u8 (byteAt n r).toNat):=(HAT.out wr Hbq.out).byte1 pq _ hby
        have hsb:=shr_byteB n r hr8
        obtain⟨cb,hcb⟩:∃ cb,byteAt n r=cb:=⟨_,rfl⟩
        rw [hcb]at hsb bc
        have e1:(q:Int)+(k:Int)=(pq:Int):=by omega
        have hpL:(pq:Int)<(L:Int):=by omega
        have e2:Int.tdiv (k:Int) 8=(j:Int):=by rw [hj];exact(Int.ofNat_tdiv k 8).symm
        have e3:Int.tmod (k:Int) 8=(r:Int):=by rw [hr];exact(Int.ofNat_tmod k 8).symm
        have e4:(8*(r:Int)).toNat=8*r:=by omega
        have e5:IntKind.i64.wrap (8*(r:Int))=8*(r:Int):=by rw [IntKind.wrap_i64];omega
        have hkz2:(k:Int)<(z:Int):=by omega
        have hjw:j<nw:=by have:=Hz.out;omega
        have hjw2:(j:Int)<(nw:Int):=by omega
        clear hn hby hcb hj hr hpq hq8
        go_wp2_with fail
        go_quiet (fail)
        have HB2:=Lib.hid (show Below wx.heap.size wx (wr.drewN nq)from below_drewN (by exact Hbq.out))
        clear p8 s5 f9 wd bc
        go_wp2_with fail
        go_roundw
        case rel=>exact⟨k+1,by go_num,by omega,HB2.out⟩
        case measure=>simp [intOf];omega
       ·clear Hbq
        go_wp2_with fail
        go_roundw
        case rel=>exact⟨i0+1,by go_num,by omega,HBw.out⟩
        case measure=>simp [intOf];omega
    ·clear hbr
     go_wp2
     go_ret
     exact⟨rfl,HW.out⟩
  ·have hmb:(er != 0)=true:=by simp [hez]
   clear hez
   go_wp2
   go_ret
   exact⟨rfl,HB5.out⟩
end Go.Proofs.Ytpomdoliblilfaa
namespace Go.Proofs.Ytpomdoliblilfaa.builderWordsLaw
set_option linter.unusedVariables false
set_option linter.unusedSimpArgs false
open Go.ChangeShapes Go.WideShapes Go.ChangeAt Go.RowKit
set_option maxRecDepth 100000 in
theorem contract (H:Type) (enc:TypeId × Value→H) (W:World) (base:Nat) (args:Array Value) (ds gs:List (DataW H)) (before:List MemPlace)
  (hval:∀ (j:Nat) t v,Try.f6.params[j]? =some t→args[j]? =some v→Value.okWide Try.prog W .any base t v)
  (hW:DataW.Whole enc Try.prog Try.f6.params.toList Rows.builderWordsSpec.vars false W args.toList ds gs before) (hsz:(DataW.weightsEach Try.prog (Try.f6.params.toList++Rows.builderWordsSpec.plain.varTypes Try.prog) (ds++gs)).all (·≤reachBytes)=true):
  Calls Try.prog 6 args W fun e W'=>∃ v,e=.returned v∧Rows.builderWordsSpec.post enc Try.prog Try.f6 false true false false W args v W':=by
 have hW':=hW
 obtain⟨p,q,hA0,hV,rfl,hfz,hnd⟩:=hW
 have hA:DataW.TrodAll enc Try.prog W 0 (fun _=>true) true Try.f6.params.toList args.toList ds p:=hA0
 rw [Try.params6]at hA hval hsz
 obtain⟨v0,d0,rfl,rfl,h0⟩:=trodAll_one hA
 obtain⟨rfl,rfl⟩:=trodVars_none hV
 have hwt0:∀ k∈DataW.weights Try.prog 28 d0,k≤reachBytes:=fun k hk=>of_decide_eq_true (List.all_eq_true.1 hsz k (by exact List.mem_append_left _ hk))
 obtain⟨sv,sp,rfl,hm,hrun,hneed,hvers,hwords⟩:=open_spec (hval 0 28 v0 rfl rfl) h0 hwt0
 clear hA0
 simp only [List.append_nil,List.nil_append]at hW' hfz
 have hlt0:∀ x∈p,x.block<W.heap.size:=fun x hx=>hW'.lt x (by simp [hx])
 refine(bwordsLaw_any W sv sp hm ⟨hrun,hneed,hvers⟩).mono fun e W' ⟨he,hbl⟩=> ?_
 subst he
 exact⟨_,rfl,⟨_,_,_,[],p,[],hW',trodAll_mk1 (shut_bool Try.underlying4 _),
  trodAll_mk1 (Below.trod laidOut (by kernel_rfl) (of_decide_eq_true (by kernel_rfl)) h0 hbl hlt0),rfl,hbl.frame _,fun h=>by cases h⟩⟩
set_option maxRecDepth 100000 in
theorem lifted (os:Os) (started:os.Started) (H:Type) (enc:TypeId × Value→H):
  ReturnsInHanded {} Try.checked os 6 .any (Rows.builderWordsSpec.pre6 enc Try.prog Try.f6 Rows.builderWordsRow.domain false) (Rows.builderWordsSpec.post enc Try.prog Try.f6 false true false false):=by
 refine returnsInHanded_of_change_sized (C:=Try.checked) own started (by kernel_rfl) Try.func6
  (ChangeSpec.witness6 (enc:=enc) (C:=Try.checked) false ⟨#[],#[.agg #[.string ⟨#[]⟩,.int .i64 0,.slice none 0 0,.slice none 0 0,.slice none 0 0,.slice none 0 0,.slice none 0 0,.slice none 0 0,.slice none 0 0]],[]⟩ 12 (by kernel_rfl) (by kernel_rfl) (by kernel_rfl) (by kernel_rfl)) ?_
 intro W base args ds gs before hval hW _ hsz _
 exact contract H enc W base args ds gs before hval hW hsz
theorem over:Rows.BuilderWordsSaid:=
 OpenClaim.holds_of_wide 6 Try.f6 rfl rfl rfl rfl rfl rfl rfl ⟨rfl,rfl,rfl,rfl,rfl⟩ rfl rfl rfl rfl rfl (by kernel_rfl) Try.func6 (by kernel_rfl)
  (of_decide_eq_true (by kernel_rfl)) (by unfold Func.isWrapper;first | (rw [if_pos (by decide +kernel)];kernel_rfl) | (rw [if_neg (by decide +kernel)];exact⟨rfl,rfl⟩))
  (fun os started H enc _=>lifted os started H enc)
end Go.Proofs.Ytpomdoliblilfaa.builderWordsLaw
namespace Go.Proofs.Ytpomdoliblilfaa.builderWordsLaw
set_option linter.unusedVariables false
set_option linter.unusedSimpArgs false
theorem proved:Rows.BuilderWordsSaid:=over
end Go.Proofs.Ytpomdoliblilfaa.builderWordsLaw
