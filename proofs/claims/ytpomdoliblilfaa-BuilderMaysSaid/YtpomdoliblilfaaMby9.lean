/- Lemmas. -/
import Derived.Test.YtpomdoliblilfaaMby2
import Derived.Test.YtpomdoliblilfaaMby8
namespace Go.Proofs.Ytpomdoliblilfaa
set_option linter.unusedVariables false
set_option linter.unusedSimpArgs false
open Go.RowKit
theorem build_table {s:SpecL} (h:(buildL s).2=0):(seenIx (buildL s).1.syms).length≤4*(buildL s).1.buckets.length:=by
 obtain⟨_,_,he,_⟩:=buildL_ok h
 rw [he]
 show(seenIx (relsL s (layL s (checkL s)) (instsQ s).1).1.syms).length≤4*(bucketsT (relsL s (layL s (checkL s)) (instsQ s).1).1.syms (countT (seenIx (relsL s (layL s (checkL s)) (instsQ s).1).1.syms).length)).length
 unfold bucketsT countT
 rw [List.length_map,List.length_range]
 omega
theorem build_noimg {s:SpecL} (h:(buildL s).2≠0):(buildL s).1=imgNone:=by
 rw [build_eq]at h ⊢
 repeat' split
 all_goals first | rfl | skip
 simp_all
set_option maxHeartbeats 16000000 in
set_option maxRecDepth 100000 in
theorem bmaysLaw_any (w:World) (sv:SpecV) (s:SpecL) (hS:SpecM (·<w.heap.size) w sv s) (hR:Reach s):
  Calls Try.prog 3 #[.agg (specCells sv s).toArray] w fun e w'=>e=.returned (.bool true)∧Below w.heap.size w w':=by
 have HS:=Lib.hid hS
 have HR:=Lib.hid hR
 have hone:=spec_one hS
 obtain⟨fa,fb,fo,fc,hff,hfm,hfc,hfat⟩:=hS.funcs.at
 obtain⟨va,vb,vo,vc,hvf,hvm,hvc,hvat⟩:=hS.vars.at
 obtain⟨nf,hnf⟩:∃ nf,nf=s.funcs.length:=⟨_,rfl⟩
 obtain⟨nv,hnv⟩:∃ nv,nv=s.vars.length:=⟨_,rfl⟩
 have hfaa:=hfat.addr
 have hvaa:=hvat.addr
 have Hfat:=Lib.hid hfat
 have Hvat:=Lib.hid hvat
 rw [← hnf]at hff hfm hfc hfaa
 rw [← hnv]at hvf hvm hvc hvaa
 have Hnf:=Lib.hid hnf
 have Hnv:=Lib.hid hnv
 have hrow:(specCells sv s).toArray=(#[.string ⟨s.name.toArray⟩,.int .i64 s.flags,sv.needed,sv.runPath,.slice fa nf fc,.slice va nv vc,sv.weak,sv.init,sv.fini]):=by unfold specCells;rw [hff,hvf]
 have Hrow:=Lib.hid hrow
 rw [hrow]at hone ⊢
 clear hrow hS hR hfat hvat hff hvf hnf hnv hone
 have HX1:=Lib.hid (heap_alloc_new w (.cells (#[.string ⟨s.name.toArray⟩,.int .i64 s.flags,sv.needed,sv.runPath,.slice fa nf fc,.slice va nv vc,sv.weak,sv.init,sv.fini]) 28 (0,0)))
 have HB1:=Lib.hid ((Below.refl w.heap.size w).alloc (Nat.le_refl _) (.cells (#[.string ⟨s.name.toArray⟩,.int .i64 s.flags,sv.needed,sv.runPath,.slice fa nf fc,.slice va nv vc,sv.weak,sv.init,sv.fini]) 28 (0,0)))
 have Hz1:Hid ((w.alloc (.cells (#[.string ⟨s.name.toArray⟩,.int .i64 s.flags,sv.needed,sv.runPath,.slice fa nf fc,.slice va nv vc,sv.weak,sv.init,sv.fini]) 28 (0,0))).heap.size=w.heap.size+1):=Lib.hid (by simp)
 go_enter Try.func3,Try.ntmps3
 go_upto_region 1 with fail
 generalize w.alloc (.cells (#[.string ⟨s.name.toArray⟩,.int .i64 s.flags,sv.needed,sv.runPath,.slice fa nf fc,.slice va nv vc,sv.weak,sv.init,sv.fini]) 28 (0,0))=w1 at *
 have HA:=Lib.hid (bawake_any w1)
 go_wp2_with fail
 refine HA.out.mono ?_
 rintro e w2 ⟨rfl,hb2⟩
 have HX2:=Lib.hid ((hb2.block w.heap.size (by have:=Hz1.out;omega)).trans HX1.out)
 have HB2:=Lib.hid (HB1.out.trans (hb2.mono (by have:=Hz1.out;omega)))
 have Hz2:Hid (w.heap.size<w2.heap.size):=Lib.hid (by have:=Hz1.out;have:=hb2.size;omega)
 clear hb2 HX1 HB1 Hz1 HA
 have HF:Hid (Calls Try.prog 9 #[.agg (#[.string ⟨s.name.toArray⟩,.int .i64 s.flags,sv.needed,sv.runPath,.slice fa nf fc,.slice va nv vc,sv.weak,sv.init,sv.fini])] w2 (FewPost w2 s)):=Lib.hid (by have:=bfew_any w2 sv s (HS.out.later HB2.out);rwa [Hrow.out]at this)
 have x0:=cells_row HX2.out 0 _ rfl
 have x1:=cells_row HX2.out 1 _ rfl
 have x2:=cells_row HX2.out 2 _ rfl
 have x3:=cells_row HX2.out 3 _ rfl
 have x4:=cells_row HX2.out 4 _ rfl
 have x5:=cells_row HX2.out 5 _ rfl
 have x6:=cells_row HX2.out 6 _ rfl
 have x7:=cells_row HX2.out 7 _ rfl
 have x8:=cells_row HX2.out 8 _ rfl
 go_wp2_with fail
 refine HF.out.mono ?_
 clear x0 x1 x2 x3 x4 x5 x6 x7 x8
 rintro e w3 ⟨r,rfl,hr,hb3⟩
 have HX3:=Lib.hid ((hb3.block w.heap.size Hz2.out).trans HX2.out)
 have HB3:=Lib.hid (HB2.out.trans (hb3.mono (Nat.le_of_lt Hz2.out)))
 have Hz3:Hid (w.heap.size<w3.heap.size):=Lib.hid (by have:=Hz2.out;have:=hb3.size;omega)
 have Hr:=Lib.hid hr
 clear hb3 HX2 HB2 Hz2 HF hr
 cases r with
 | false=>
  go_wp2
  go_ret
  exact⟨rfl,HB3.out⟩
 | true=>
  have HFew:=Lib.hid ((Hr.out rfl).l HR.out)
  have hn2:nf≤2000∧nv≤2000:=by have:=HFew.out.funcs;have:=HFew.out.vars;have:=Hnf.out;have:=Hnv.out;omega
  clear Hr
  have HC:Hid (Calls Try.prog 10 #[.agg (#[.string ⟨s.name.toArray⟩,.int .i64 s.flags,sv.needed,sv.runPath,.slice fa nf fc,.slice va nv vc,sv.weak,sv.init,sv.fini])] w3 (BuildPost w3 s)):=Lib.hid (by have:=build_any w3 sv s (HS.out.later HB3.out) HFew.out;rwa [Hrow.out]at this)
  have x0:=cells_row HX3.out 0 _ rfl
  have x1:=cells_row HX3.out 1 _ rfl
  have x2:=cells_row HX3.out 2 _ rfl
  have x3:=cells_row HX3.out 3 _ rfl
  have x4:=cells_row HX3.out 4 _ rfl
  have x5:=cells_row HX3.out 5 _ rfl
  have x6:=cells_row HX3.out 6 _ rfl
  have x7:=cells_row HX3.out 7 _ rfl
  have x8:=cells_row HX3.out 8 _ rfl
  go_wp2_with fail
  refine HC.out.mono ?_
  clear x0 x1 x2 x3 x4 x5 x6 x7 x8
  rintro e w4 ⟨iv,rfl,hb4,hm4⟩
  obtain⟨im,him1⟩:∃ im,im=(buildL s).1:=⟨_,rfl⟩
  obtain⟨er,her⟩:∃ er,er=(buildL s).2:=⟨_,rfl⟩
  rw [← him1,← her]
  rw [← him1]at hm4
  have Him:=Lib.hid him1
  have Her:=Lib.hid her
  have hone4:=img_one hm4
  have HM4:=Lib.hid hm4
  have HX4:=Lib.hid ((hb4.block w.heap.size Hz3.out).trans HX3.out)
  have HB4:=Lib.hid (HB3.out.trans (hb4.mono (Nat.le_of_lt Hz3.out)))
  have Hz4:Hid (w.heap.size<w4.heap.size):=Lib.hid (by have:=Hz3.out;have:=hb4.size;omega)
  clear hb4 hm4 him1 her HX3 HB3 HC
  go_upto_region 5 with (refine wpList_store_row rfl 44 (.tmp 4) (.tmp 16) rfl w4.heap.size (imgCells iv im) rfl rfl _ _ (heap_alloc_new w4 _) (by kernel_rfl) rfl hone4 ?_)
  have HI5:=Lib.hid (setRow_heap (w4.alloc (.cells (#[.string ⟨#[]⟩,.int .i64 0,.slice none 0 0,.slice none 0 0,.slice none 0 0,.slice none 0 0,.slice none 0 0,.slice none 0 0,.int .i64 0,.slice none 0 0,.slice none 0 0,.slice none 0 0,.slice none 0 0,.slice none 0 0,.int .i64 0]) 44 (0,0))) w4.heap.size _ (imgCells iv im) _ _ (heap_alloc_new w4 _))
  have hold:∀ b,b<w4.heap.size→((w4.alloc (.cells (#[.string ⟨#[]⟩,.int .i64 0,.slice none 0 0,.slice none 0 0,.slice none 0 0,.slice none 0 0,.slice none 0 0,.slice none 0 0,.int .i64 0,.slice none 0 0,.slice none 0 0,.slice none 0 0,.slice none 0 0,.slice none 0 0,.int .i64 0]) 44 (0,0))).setRow w4.heap.size (imgCells iv im)).heap[b]? =w4.heap[b]? :=fun b hb=>(setRow_other _ _ b _ (by omega)).trans (heap_alloc_old w4 _ hb)
  have HX5:=Lib.hid ((hold w.heap.size Hz4.out).trans HX4.out)
  have HM5:=Lib.hid (HM4.out.keeps (fun b hb=>hold b hb.2))
  have HB5:=Lib.hid (below_setRow (HB4.out.alloc HB4.out.size (.cells (#[.string ⟨#[]⟩,.int .i64 0,.slice none 0 0,.slice none 0 0,.slice none 0 0,.slice none 0 0,.slice none 0 0,.slice none 0 0,.int .i64 0,.slice none 0 0,.slice none 0 0,.slice none 0 0,.slice none 0 0,.slice none 0 0,.int .i64 0]) 44 (0,0))) w4.heap.size (imgCells iv im) HB4.out.size)
  have hz5:((w4.alloc (.cells (#[.string ⟨#[]⟩,.int .i64 0,.slice none 0 0,.slice none 0 0,.slice none 0 0,.slice none 0 0,.slice none 0 0,.slice none 0 0,.int .i64 0,.slice none 0 0,.slice none 0 0,.slice none 0 0,.slice none 0 0,.slice none 0 0,.int .i64 0]) 44 (0,0))).setRow w4.heap.size (imgCells iv im)).heap.size=w4.heap.size+1:=by simp
  obtain⟨ib,hib⟩:∃ ib,ib=w4.heap.size:=⟨_,rfl⟩
  rw [← hib]at HI5 HX5 HM5 HB5 hz5 hold ⊢
  generalize (w4.alloc (.cells (#[.string ⟨#[]⟩,.int .i64 0,.slice none 0 0,.slice none 0 0,.slice none 0 0,.slice none 0 0,.slice none 0 0,.slice none 0 0,.int .i64 0,.slice none 0 0,.slice none 0 0,.slice none 0 0,.slice none 0 0,.slice none 0 0,.int .i64 0]) 44 (0,0))).setRow ib (imgCells iv im)=w5 at *
  have Hz5:Hid (w.heap.size<ib∧w5.heap.size=ib+1):=Lib.hid ⟨by have:=Hz4.out;omega,hz5⟩
  clear hone4 HM4 HX4 HB4 Hz4 hold hib hz5 Hz3
  by_cases hez:er=0
  ·have hok:=buildL_ok (s:=s) (by rw [← Her.out];exact hez)
   have hbk:=build_table (s:=s) (by rw [← Her.out];exact hez)
   have hmy:=hok.2.2.2
   have Hsb:=Lib.hid (build_syms (by rw [← Her.out];exact hez))
   rw [← Him.out]at hmy hbk Hsb
   have htb:=(may_parts hmy).2.2.2.2.1
   have hch:∀ c∈im.buckets,c.length≤140737488355328:=fun c hc=>Nat.le_trans (chain_good htb c hc).1 (by decide)
   have HIM:Hid (∀ w',Below w5.heap.size w5 w'→ImgM (·<w'.heap.size) w' iv im):=Lib.hid (fun w' hb=>(HM5.out.imp (S':=(·<w5.heap.size)) (fun b hb=>by have h2:=hb.2;have h3:=Hz5.out;show b<_;omega)).later hb)
   have HMay:Hid (∀ w',Below w5.heap.size w5 w'→Calls Try.prog 12 #[.agg (imgCells iv im)] w' fun e w''=>e=.returned (.int .i64 0)∧Below w'.heap.size w' w''):=Lib.hid (fun w' hb=>by have:=jmay_any w' iv im (HIM.out w' hb) hch;rwa [hmy]at this)
   have HRt:Hid (∀ w',Below w5.heap.size w5 w'→Calls Try.prog 13 #[.agg #[iv.buckets,iv.words,.int .i64 im.shift],iv.syms] w' fun e w''=>e=.returned (.bool true)∧Below w'.heap.size w' w''):=Lib.hid (fun w' hb=>by have:=jtright_any w' im _ _ _ (HIM.out w' hb).buckets (HIM.out w' hb).words (HIM.out w' hb).syms (HIM.out w' hb).wordsR hch;rwa [tableJ_eq,htb]at this)
   unfold imgCells at HMay
   subst hez
   obtain⟨ya,yb,yo,yc,hyf,-,hyc,hyat⟩:=HM5.out.syms.at
   obtain⟨ba,bc,hbf⟩:=HM5.out.buckets.form
   obtain⟨m,hm⟩:∃ m,m=im.syms.length:=⟨_,rfl⟩
   obtain⟨bl,hbl⟩:∃ bl,bl=im.buckets.length:=⟨_,rfl⟩
   have hm2:m≤512:=by have:=Hsb.out.len;omega
   have hbl2:bl≤512:=by
    have h:=htb
    simp only [tableB,Bool.and_eq_true,decide_eq_true_eq]at h
    rw [hbl];exact h.1.1.1.2
   have hyaa:=hyat.addr
   have Hyat:=Lib.hid hyat
   rw [← hbl]at hbf hbk
   rw [← hm]at hyf hyc hyaa
   rw [hyf,hbf]at HMay HRt
   have F5:Hid (w5.heap[ib]? =some (.cells (#[.string ⟨im.name.toArray⟩,.int .i64 im.flags,iv.segs,iv.needed,iv.runPath,.slice ya m yc,.slice ba bl bc,iv.words,.int .i64 im.shift,iv.relocs,iv.slots,iv.init,iv.fini,iv.tls,.int .i64 im.tlsSize]) 44 (0,0))):=Lib.hid (by rw [← hyf,← hbf];exact HI5.out)
   have Hbk:=Lib.hid hbk
   have Hm:=Lib.hid hm
   clear hyat hyf hbf hm hbl hbk hmy htb hch hok HX5 HI5 HM5 HIM Him Her HS HR Hrow Hfat Hvat hfaa hvaa Hnf Hnv Hsb HFew
   go_wp2_with fail
   go_loopw [6,7] (fun n i wr=>∃ k:Nat,i=.int .i64 k∧n=.int .i64 (seenK im.syms k).length∧k≤m∧Below w5.heap.size w5 wr) (fun _ i _=>m-(intOf i).toNat)
   case atStart=>exact⟨0,rfl,rfl,Nat.zero_le _,Below.refl _ _⟩
   case round=>
    obtain⟨k,rfl,rfl,hk,hbr⟩:=hrel
    have hz5:=Hz5.out
    have F6:=Lib.hid ((hbr.block ib (by omega)).trans F5.out)
    have HBr:=Lib.hid hbr
    have hsl:=seenK_le im.syms k
    clear hbr hz5
    obtain⟨i0,i1,i2,i3,i4,i5,i6,i7,i8,i9,i10,i11,i12,i13,i14⟩:=img_cells F6.out
    by_cases hlt:k<m
    ·obtain rfl:=hyaa (by omega)
     obtain⟨x,hx⟩:∃ x,im.syms[k]? =some x:=⟨_,List.getElem?_eq_getElem (by rw [← Hm.out];exact hlt)⟩
     obtain⟨-,c0,c1,c2,c3,c4,c5,c6,c7,c8⟩:=(Hyat.out.keeps (w':=wr) (fun b hb=>HBr.out.block b (by have:=hb.2;have:=Hz5.out;omega))).sym9 k x hx
     have HK:=Lib.hid (seenK_succ im.syms k)
     rw [symN_at hx]at HK
     have HSe:=Lib.hid (jseen_any wr x)
     have hk2:(k:Int)<(m:Int):=by omega
     have hk3:0≤(k:Int):=by omega
     clear hx
     go_wp2_with fail
     refine HSe.out.mono ?_
     rintro e w6 ⟨rfl,hb6⟩
     have HB6:=Lib.hid (HBr.out.trans (hb6.mono HBr.out.size))
     clear hb6 HSe c0 c1 c2 c3 c4 c5 c6 c7 c8 i0 i1 i2 i3 i4 i5 i6 i7 i8 i9 i10 i11 i12 i13 i14 F6 HBr
     cases hsn:seenB x with
     | false=>
      rw [hsn]at HK
      have HE:Hid ((seenK im.syms k).length=(seenK im.syms (k+1)).length):=Lib.hid (by have:=HK.out;simp only [Bool.false_eq_true,if_false,List.append_nil]at this;rw [this])
      generalize (seenK im.syms k).length=q at *
      go_wp2
      go_roundw
      case rel=>exact⟨k+1,by go_num,by rw [← HE.out],by omega,HB6.out⟩
      case measure=>simp [intOf];omega
     | true=>
      rw [hsn]at HK
      have HE:Hid ((seenK im.syms k).length+1=(seenK im.syms (k+1)).length):=Lib.hid (by have:=HK.out;simp only [if_true]at this;rw [this];simp)
      generalize (seenK im.syms k).length=q at *
      go_wp2
      go_roundw
      case rel=>exact⟨k+1,by go_num,by rw [← HE.out];go_num,by omega,HB6.out⟩
      case measure=>simp [intOf];omega
    ·have he:k=im.syms.length:=by have:=Hm.out;omega
     have hq:(seenK im.syms k).length≤4*bl:=by rw [he];exact Hbk.out
     generalize (seenK im.syms k).length=q at *
     have hq2:(q:Int)≤4*(bl:Int):=by omega
     have hq3:decide ((q:Int)≤4*(bl:Int))=true:=decide_eq_true hq2
     have hz5:=Hz5.out
     have HW:=Lib.hid (HB5.out.trans (HBr.out.mono HB5.out.size))
     clear he hq hz5
     go_wp2_with fail
     refine(HMay.out _ HBr.out).mono ?_
     rintro e w6 ⟨rfl,hb6⟩
     have HB6:=Lib.hid (HBr.out.trans (hb6.mono HBr.out.size))
     have F7:=Lib.hid ((HB6.out.block ib (by have:=Hz5.out;omega)).trans F5.out)
     clear hb6 i0 i1 i2 i3 i4 i5 i6 i7 i8 i9 i10 i11 i12 i13 i14 F6 HBr HMay
     obtain⟨i0,i1,i2,i3,i4,i5,i6,i7,i8,i9,i10,i11,i12,i13,i14⟩:=img_cells F7.out
     go_wp2_with fail
     refine(HRt.out _ HB6.out).mono ?_
     rintro e w7 ⟨rfl,hb7⟩
     have HB7:=Lib.hid (HB6.out.trans (hb7.mono HB6.out.size))
     have HW7:=Lib.hid (HB5.out.trans (HB7.out.mono HB5.out.size))
     clear hb7 i0 i1 i2 i3 i4 i5 i6 i7 i8 i9 i10 i11 i12 i13 i14 F7 HB6 HRt
     go_wp2
     go_ret
     exact⟨rfl,HW7.out⟩
  ·have hmb:(er != 0)=true:=by simp [hez]
   have hno:=build_noimg (s:=s) (by rw [← Her.out];exact hez)
   rw [← Him.out]at hno
   obtain⟨ga,gc,hgf⟩:=HM5.out.segs.form
   have hg0:im.segs.length=0:=by rw [hno];rfl
   rw [hg0]at hgf
   have i2:w5.cell? ⟨ib,2,none⟩=some (.slice ga 0 gc):=by rw [Lib.cell_of_heap HI5.out,← hgf];rfl
   clear hez hno hgf hg0
   go_wp2
   go_ret
   exact⟨rfl,HB5.out⟩
end Go.Proofs.Ytpomdoliblilfaa
