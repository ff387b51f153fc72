/- BuilderCode, no condition: for every such input the law returns true, and its arguments read behind the call as they did. -/
import Derived.Test.YtpomdoliblilfaaCod3
import Derived.Test.YtpomdoliblilfaaCod4
import Derived.Test.YtpomdoliblilfaaBld18
namespace Go.Proofs.Ytpomdoliblilfaa
set_option linter.unusedVariables false
set_option linter.unusedSimpArgs false
open Go.RowKit
set_option maxHeartbeats 16000000 in
set_option maxRecDepth 100000 in
theorem bcodeLaw_any (w:World) (sv:SpecV) (s:SpecL) (hS:SpecM (·<w.heap.size) w sv s) (hR:Reach s):
  Calls Try.prog 4 #[.agg (specCells sv s).toArray] w fun e w'=>e=.returned (.bool true)∧Below w.heap.size w w':=by
 have HS:=Lib.hid hS
 have HR:=Lib.hid hR
 have hone:=spec_one hS
 obtain⟨fa,fb,fo,fc,hff,hfm,hfc,hfat⟩:=hS.funcs.at
 obtain⟨va,vb,vo,vc,hvf,hvm,hvc,hvat⟩:=hS.vars.at
 obtain⟨nf,hnf⟩:∃ nf,nf=s.funcs.length:=⟨_,rfl⟩
 obtain⟨nv,hnv⟩:∃ nv,nv=s.vars.length:=⟨_,rfl⟩
 have hfaa:=hfat.addr
 have hvaa:=hvat.addr
 have Hfat:=Lib.hid hfat
 have Hvat:=Lib.hid hvat
 rw [← hnf]at hff hfm hfc hfaa
 rw [← hnv]at hvf hvm hvc hvaa
 have Hnf:=Lib.hid hnf
 have Hnv:=Lib.hid hnv
 have hrow:(specCells sv s).toArray=(#[.string ⟨s.name.toArray⟩,.int .i64 s.flags,sv.needed,sv.runPath,.slice fa nf fc,.slice va nv vc,sv.weak,sv.init,sv.fini]):=by unfold specCells;rw [hff,hvf]
 have Hrow:=Lib.hid hrow
 rw [hrow]at hone ⊢
 clear hrow hS hR hfat hvat hff hvf hnf hnv hone
 have HX1:=Lib.hid (heap_alloc_new w (.cells (#[.string ⟨s.name.toArray⟩,.int .i64 s.flags,sv.needed,sv.runPath,.slice fa nf fc,.slice va nv vc,sv.weak,sv.init,sv.fini]) 28 (0,0)))
 have HB1:=Lib.hid ((Below.refl w.heap.size w).alloc (Nat.le_refl _) (.cells (#[.string ⟨s.name.toArray⟩,.int .i64 s.flags,sv.needed,sv.runPath,.slice fa nf fc,.slice va nv vc,sv.weak,sv.init,sv.fini]) 28 (0,0)))
 have Hz1:Hid ((w.alloc (.cells (#[.string ⟨s.name.toArray⟩,.int .i64 s.flags,sv.needed,sv.runPath,.slice fa nf fc,.slice va nv vc,sv.weak,sv.init,sv.fini]) 28 (0,0))).heap.size=w.heap.size+1):=Lib.hid (by simp)
 go_enter Try.func4,Try.ntmps4
 go_upto_region 1 with fail
 generalize w.alloc (.cells (#[.string ⟨s.name.toArray⟩,.int .i64 s.flags,sv.needed,sv.runPath,.slice fa nf fc,.slice va nv vc,sv.weak,sv.init,sv.fini]) 28 (0,0))=w1 at *
 have HA:=Lib.hid (bawake_any w1)
 go_wp2_with fail
 refine HA.out.mono ?_
 rintro e w2 ⟨rfl,hb2⟩
 have HX2:=Lib.hid ((hb2.block w.heap.size (by have:=Hz1.out;omega)).trans HX1.out)
 have HB2:=Lib.hid (HB1.out.trans (hb2.mono (by have:=Hz1.out;omega)))
 have Hz2:Hid (w.heap.size<w2.heap.size):=Lib.hid (by have:=Hz1.out;have:=hb2.size;omega)
 clear hb2 HX1 HB1 Hz1 HA
 have HF:Hid (Calls Try.prog 9 #[.agg (#[.string ⟨s.name.toArray⟩,.int .i64 s.flags,sv.needed,sv.runPath,.slice fa nf fc,.slice va nv vc,sv.weak,sv.init,sv.fini])] w2 (FewPost w2 s)):=Lib.hid (by have:=bfew_any w2 sv s (HS.out.later HB2.out);rwa [Hrow.out]at this)
 have x0:=cells_row HX2.out 0 _ rfl
 have x1:=cells_row HX2.out 1 _ rfl
 have x2:=cells_row HX2.out 2 _ rfl
 have x3:=cells_row HX2.out 3 _ rfl
 have x4:=cells_row HX2.out 4 _ rfl
 have x5:=cells_row HX2.out 5 _ rfl
 have x6:=cells_row HX2.out 6 _ rfl
 have x7:=cells_row HX2.out 7 _ rfl
 have x8:=cells_row HX2.out 8 _ rfl
 go_wp2_with fail
 refine HF.out.mono ?_
 clear x0 x1 x2 x3 x4 x5 x6 x7 x8
 rintro e w3 ⟨r,rfl,hr,hb3⟩
 have HX3:=Lib.hid ((hb3.block w.heap.size Hz2.out).trans HX2.out)
 have HB3:=Lib.hid (HB2.out.trans (hb3.mono (Nat.le_of_lt Hz2.out)))
 have Hz3:Hid (w.heap.size<w3.heap.size):=Lib.hid (by have:=Hz2.out;have:=hb3.size;omega)
 have Hr:=Lib.hid hr
 clear hb3 HX2 HB2 Hz2 HF hr
 cases r with
 | false=>
  go_wp2
  go_ret
  exact⟨rfl,HB3.out⟩
 | true=>
  have HFew:=Lib.hid ((Hr.out rfl).l HR.out)
  have hn2:nf≤2000∧nv≤2000:=by have:=HFew.out.funcs;have:=HFew.out.vars;have:=Hnf.out;have:=Hnv.out;omega
  clear Hr
  have HC:Hid (Calls Try.prog 10 #[.agg (#[.string ⟨s.name.toArray⟩,.int .i64 s.flags,sv.needed,sv.runPath,.slice fa nf fc,.slice va nv vc,sv.weak,sv.init,sv.fini])] w3 (BuildPost w3 s)):=Lib.hid (by have:=build_any w3 sv s (HS.out.later HB3.out) HFew.out;rwa [Hrow.out]at this)
  have x0:=cells_row HX3.out 0 _ rfl
  have x1:=cells_row HX3.out 1 _ rfl
  have x2:=cells_row HX3.out 2 _ rfl
  have x3:=cells_row HX3.out 3 _ rfl
  have x4:=cells_row HX3.out 4 _ rfl
  have x5:=cells_row HX3.out 5 _ rfl
  have x6:=cells_row HX3.out 6 _ rfl
  have x7:=cells_row HX3.out 7 _ rfl
  have x8:=cells_row HX3.out 8 _ rfl
  go_wp2_with fail
  refine HC.out.mono ?_
  clear x0 x1 x2 x3 x4 x5 x6 x7 x8
  rintro e w4 ⟨iv,rfl,hb4,hm4⟩
  obtain⟨im,him1⟩:∃ im,im=(buildL s).1:=⟨_,rfl⟩
  obtain⟨er,her⟩:∃ er,er=(buildL s).2:=⟨_,rfl⟩
  rw [← him1,← her]
  rw [← him1]at hm4
  have Him:=Lib.hid him1
  have Her:=Lib.hid her
  have hone4:=img_one hm4
  have HM4:=Lib.hid hm4
  have HX4:=Lib.hid ((hb4.block w.heap.size Hz3.out).trans HX3.out)
  have HB4:=Lib.hid (HB3.out.trans (hb4.mono (Nat.le_of_lt Hz3.out)))
  have Hz4:Hid (w.heap.size<w4.heap.size):=Lib.hid (by have:=Hz3.out;have:=hb4.size;omega)
  clear hb4 hm4 him1 her HX3 HB3 HC
  go_upto_region 5 with (refine wpList_store_row rfl 44 (.tmp 4) (.tmp 18) rfl w4.heap.size (imgCells iv im) rfl rfl _ _ (heap_alloc_new w4 _) (by kernel_rfl) rfl hone4 ?_)
  have HI5:=Lib.hid (setRow_heap (w4.alloc (.cells (#[.string ⟨#[]⟩,.int .i64 0,.slice none 0 0,.slice none 0 0,.slice none 0 0,.slice none 0 0,.slice none 0 0,.slice none 0 0,.int .i64 0,.slice none 0 0,.slice none 0 0,.slice none 0 0,.slice none 0 0,.slice none 0 0,.int .i64 0]) 44 (0,0))) w4.heap.size _ (imgCells iv im) _ _ (heap_alloc_new w4 _))
  have hold:∀ b,b<w4.heap.size→((w4.alloc (.cells (#[.string ⟨#[]⟩,.int .i64 0,.slice none 0 0,.slice none 0 0,.slice none 0 0,.slice none 0 0,.slice none 0 0,.slice none 0 0,.int .i64 0,.slice none 0 0,.slice none 0 0,.slice none 0 0,.slice none 0 0,.slice none 0 0,.int .i64 0]) 44 (0,0))).setRow w4.heap.size (imgCells iv im)).heap[b]? =w4.heap[b]? :=fun b hb=>(setRow_other _ _ b _ (by omega)).trans (heap_alloc_old w4 _ hb)
  have HX5:=Lib.hid ((hold w.heap.size Hz4.out).trans HX4.out)
  have HM5:=Lib.hid (HM4.out.keeps (fun b hb=>hold b hb.2))
  have HB5:=Lib.hid (below_setRow (HB4.out.alloc HB4.out.size (.cells (#[.string ⟨#[]⟩,.int .i64 0,.slice none 0 0,.slice none 0 0,.slice none 0 0,.slice none 0 0,.slice none 0 0,.slice none 0 0,.int .i64 0,.slice none 0 0,.slice none 0 0,.slice none 0 0,.slice none 0 0,.slice none 0 0,.int .i64 0]) 44 (0,0))) w4.heap.size (imgCells iv im) HB4.out.size)
  have hz5:((w4.alloc (.cells (#[.string ⟨#[]⟩,.int .i64 0,.slice none 0 0,.slice none 0 0,.slice none 0 0,.slice none 0 0,.slice none 0 0,.slice none 0 0,.int .i64 0,.slice none 0 0,.slice none 0 0,.slice none 0 0,.slice none 0 0,.slice none 0 0,.int .i64 0]) 44 (0,0))).setRow w4.heap.size (imgCells iv im)).heap.size=w4.heap.size+1:=by simp
  obtain⟨ib,hib⟩:∃ ib,ib=w4.heap.size:=⟨_,rfl⟩
  rw [← hib]at HI5 HX5 HM5 HB5 hz5 hold ⊢
  generalize (w4.alloc (.cells (#[.string ⟨#[]⟩,.int .i64 0,.slice none 0 0,.slice none 0 0,.slice none 0 0,.slice none 0 0,.slice none 0 0,.slice none 0 0,.int .i64 0,.slice none 0 0,.slice none 0 0,.slice none 0 0,.slice none 0 0,.slice none 0 0,.int .i64 0]) 44 (0,0))).setRow ib (imgCells iv im)=w5 at *
  have Hz5:Hid (w.heap.size<ib∧w5.heap.size=ib+1):=Lib.hid ⟨by have:=Hz4.out;omega,hz5⟩
  clear hone4 HM4 HX4 HB4 Hz4 hold hib hz5 Hz3
  by_cases hez:er=0
  ·obtain⟨⟨g,hg0,hgb⟩,hall,hst⟩:=build_code (s:=s) (by rw [← Her.out];exact hez)
   have hil:=insts_len HFew.out
   rw [← Him.out]at hg0 hst
   obtain⟨l,hl⟩:∃ l,l=(instsQ s).2:=⟨_,rfl⟩
   rw [← hl]at hgb hall hst hil
   have Hst:=Lib.hid hst
   have Hso:=Lib.hid HM5.out.slotsR
   subst hez
   obtain⟨ga,gb,go,gc,hgf,-,hgc,hgat⟩:=HM5.out.segs.at
   obtain⟨ya,yb,yo,yc,hyf,hym,hyc,hyat⟩:=HM5.out.slots.at
   obtain⟨gl,hgl⟩:∃ gl,gl=im.segs.length:=⟨_,rfl⟩
   obtain⟨m,hm⟩:∃ m,m=im.slots.length:=⟨_,rfl⟩
   have hg1:0<gl:=by rw [hgl];exact(List.getElem?_eq_some_iff.1 hg0).1
   have hgaa:=hgat.addr
   have hyaa:=hyat.addr
   have Hyat:=Lib.hid hyat
   rw [← hgl]at hgf hgc hgaa
   rw [← hm]at hyf hyc hyaa hym
   have Hm:=Lib.hid hm
   obtain rfl:=hgaa hg1
   obtain⟨cb,-,-,g2,-,hcb⟩:=hgat.seg4 0 g hg0
   rw [hgb]at hcb
   rw [Nat.zero_mul,Nat.add_zero]at g2
   have HD:=Lib.hid (qdecode_any w5 cb l hcb (fun b hb=>by have h2:=hb.2;have:=Hz5.out;omega) hall hil)
   have i2:w5.cell? ⟨ib,2,none⟩=some (.slice (some ⟨gb,go,none⟩) gl gc):=by rw [Lib.cell_of_heap HI5.out,← hgf];rfl
   have I10:Hid (w5.cell? ⟨ib,10,none⟩=some (.slice ya m yc)):=Lib.hid (by rw [Lib.cell_of_heap HI5.out,← hyf];rfl)
   have hgl0:¬ (gl:Int)=0:=by omega
   have hgl1:((gl:Int)==0)=false:=by rw [Bool.eq_false_iff];intro h;simp only [beq_iff_eq]at h;omega
   have hgl2:(0:Int)<(gl:Int):=by omega
   clear hyat hyf hgf hm hgl hg0 hgb hall hst hl hcb hgat HX5 HI5 HM5 Him Her HS HR Hrow Hfat Hvat hfaa hvaa HFew Hnf Hnv
   go_wp2_with fail
   refine HD.out.mono ?_
   rintro e w6 ⟨r,rfl,ho6,hb6⟩
   obtain⟨n,hn⟩:∃ n,n=l.length:=⟨_,rfl⟩
   obtain⟨la,lb,lo,lc,rfl,-,hlc,hlat⟩:=ho6.lb.at
   have hlaa:=hlat.addr
   have Hlat:=Lib.hid hlat
   have HB6:=Lib.hid hb6
   rw [← hn]at hil hlc hlaa ⊢
   have Hn:=Lib.hid hn
   clear ho6 hb6 hlat HD i2 hgl0 hgl1 hgl2 hn
   go_wp2_with fail
   go_loopw [8] (fun i wr=>∃ k:Nat,i=.int .i64 k∧k≤m∧Below w6.heap.size w6 wr) (fun i _=>m-(intOf i).toNat)
   case atStart=>exact⟨0,rfl,Nat.zero_le _,Below.refl _ _⟩
   case round=>
    obtain⟨k,rfl,hk,hbr⟩:=hrel
    have HBr:=Lib.hid (HB6.out.trans (hbr.mono HB6.out.size))
    have HW:=Lib.hid (HB5.out.trans (HBr.out.mono HB5.out.size))
    have HLr:=Lib.hid (Hlat.out.keeps (w':=wr) (fun b hb=>hbr.block b hb.1))
    have hbr':=Lib.hid hbr
    have i10:wr.cell? ⟨ib,10,none⟩=some (.slice ya m yc):=(HBr.out.cell (p:=⟨ib,10,none⟩) (by have:=Hz5.out;show ib<_;omega)).trans I10.out
    clear hbr
    by_cases hlt:k<m
    ·obtain rfl:=hyaa (by omega)
     obtain⟨z,hz⟩:∃ z,im.slots[k]? =some z:=⟨_,List.getElem?_eq_getElem (by rw [← Hm.out];exact hlt)⟩
     obtain⟨i,hi⟩:=Hst.out k z hz
     have hzo:=Hso.out z (List.mem_of_getElem? hz)
     obtain⟨y0,y1,y2⟩:=(Hyat.out.keeps (w':=wr) (fun b hb=>HBr.out.block b (by have:=hb.2;have:=Hz5.out;omega))).slot3 k z hz
     obtain⟨md,hl0,hat⟩:=hi.ldp
     obtain⟨p0,c00,c01,c02,c03,c04⟩:=HLr.out.inst5 i _ hl0
     obtain⟨-,c10,c11,c12,c13,c14⟩:=HLr.out.inst5 (i+1) _ hi.jmp
     obtain⟨-,c20,c21,c22,c23,c24⟩:=HLr.out.inst5 (i+2) _ hi.bind
     have hilt:=hi.lt
     rw [← Hn.out]at hilt
     obtain rfl:=hlaa (by omega)
     obtain⟨i1,hi1⟩:∃ i1,i1=i+1:=⟨_,rfl⟩
     obtain⟨i2,hi2⟩:∃ i2,i2=i+2:=⟨_,rfl⟩
     rw [← hi1]at c10 c11 c12 c13 c14
     rw [← hi2]at c20 c21 c22 c23 c24
     have hstub:=hi.stub
     obtain⟨U,hU⟩:∃ U,U=z.stub:=⟨_,rfl⟩
     obtain⟨AT,hAT⟩:∃ AT,AT=z.at_:=⟨_,rfl⟩
     rw [← hU]at y2 hstub
     rw [← hAT]at y0 hat
     have hU2:U=((8*i2:Nat):Int):=by omega
     have e1:Int.tdiv U 8=(i2:Int):=by rw [hU2];exact(Int.ofNat_tdiv (8*i2) 8).symm.trans (by rw [Nat.mul_div_cancel_left _ (by decide)])
     have e2:Int.tmod U 8=0:=by rw [hU2];exact(Int.ofNat_tmod (8*i2) 8).symm.trans (by rw [Nat.mul_mod_right];rfl)
     have e3:(i2:Int)-2=(i:Int):=by omega
     have e4:(i:Int)+2=(i2:Int):=by omega
     have e5:(i:Int)+1=(i1:Int):=by omega
     have e6:decide ((i:Int)<0)=false:=decide_eq_false (by omega)
     have e7:decide ((n:Int)≤(i2:Int))=false:=decide_eq_false (by omega)
     have e8:decide (n≤i2)=false:=decide_eq_false (by omega)
     have e9:¬ (n:Int)≤(i2:Int):=by omega
     have hat2:AT≤9223372036854775807∧ -9223372036854775808≤AT:=by rw [hAT];exact⟨hzo.2.1.2,hzo.2.1.1⟩
     have hmd:=p0.imm
     unfold In63 at hmd
     have hk2:(k:Int)<(m:Int):=by omega
     have hin:(i:Int)<(n:Int):=by omega
     have hin1:(i1:Int)<(n:Int):=by omega
     have hin2:(i2:Int)<(n:Int):=by omega
     have hi200:i≤200000:=by omega
     clear hi hz hl0 hU hAT hU2 hstub p0 hzo hi1 hi2
     go_wp2_with fail
     go_quiet (fail)
     have HQ:=Lib.hid (show Below w6.heap.size w6 (wr.drewN nq)from below_drewN (by exact hbr'.out))
     clear c00 c01 c02 c03 c04 c10 c11 c12 c13 c14 c20 c21 c22 c23 c24 y0 y1 y2 i10 e1 e2 e3 e4 e5 hat
     go_wp2_with fail
     go_roundw
     case rel=>exact⟨k+1,by go_num,by omega,HQ.out⟩
     case measure=>simp [intOf];omega
    ·clear hbr'
     go_wp2
     go_ret
     exact⟨rfl,HW.out⟩
  ·have hmb:(er != 0)=true:=by simp [hez]
   clear hez
   go_wp2
   go_ret
   exact⟨rfl,HB5.out⟩
end Go.Proofs.Ytpomdoliblilfaa
namespace Go.Proofs.Ytpomdoliblilfaa.builderCodeLaw
set_option linter.unusedVariables false
set_option linter.unusedSimpArgs false
open Go.ChangeShapes Go.WideShapes Go.ChangeAt Go.RowKit
set_option maxRecDepth 100000 in
theorem contract (H:Type) (enc:TypeId × Value→H) (W:World) (base:Nat) (args:Array Value) (ds gs:List (DataW H)) (before:List MemPlace)
  (hval:∀ (j:Nat) t v,Try.f4.params[j]? =some t→args[j]? =some v→Value.okWide Try.prog W .any base t v)
  (hW:DataW.Whole enc Try.prog Try.f4.params.toList Rows.builderCodeSpec.vars false W args.toList ds gs before) (hsz:(DataW.weightsEach Try.prog (Try.f4.params.toList++Rows.builderCodeSpec.plain.varTypes Try.prog) (ds++gs)).all (·≤reachBytes)=true):
  Calls Try.prog 4 args W fun e W'=>∃ v,e=.returned v∧Rows.builderCodeSpec.post enc Try.prog Try.f4 false true false false W args v W':=by
 have hW':=hW
 obtain⟨p,q,hA0,hV,rfl,hfz,hnd⟩:=hW
 have hA:DataW.TrodAll enc Try.prog W 0 (fun _=>true) true Try.f4.params.toList args.toList ds p:=hA0
 rw [Try.params4]at hA hval hsz
 obtain⟨v0,d0,rfl,rfl,h0⟩:=trodAll_one hA
 obtain⟨rfl,rfl⟩:=trodVars_none hV
 have hwt0:∀ k∈DataW.weights Try.prog 28 d0,k≤reachBytes:=fun k hk=>of_decide_eq_true (List.all_eq_true.1 hsz k (by exact List.mem_append_left _ hk))
 obtain⟨sv,sp,rfl,hm,hrun,hneed,hvers,hwords⟩:=open_spec (hval 0 28 v0 rfl rfl) h0 hwt0
 clear hA0
 simp only [List.append_nil,List.nil_append]at hW' hfz
 have hlt0:∀ x∈p,x.block<W.heap.size:=fun x hx=>hW'.lt x (by simp [hx])
 refine(bcodeLaw_any W sv sp hm ⟨hrun,hneed,hvers⟩).mono fun e W' ⟨he,hbl⟩=> ?_
 subst he
 exact⟨_,rfl,⟨_,_,_,[],p,[],hW',trodAll_mk1 (shut_bool Try.underlying4 _),
  trodAll_mk1 (Below.trod laidOut (by kernel_rfl) (of_decide_eq_true (by kernel_rfl)) h0 hbl hlt0),rfl,hbl.frame _,fun h=>by cases h⟩⟩
set_option maxRecDepth 100000 in
theorem lifted (os:Os) (started:os.Started) (H:Type) (enc:TypeId × Value→H):
  ReturnsInHanded {} Try.checked os 4 .any (Rows.builderCodeSpec.pre6 enc Try.prog Try.f4 Rows.builderCodeRow.domain false) (Rows.builderCodeSpec.post enc Try.prog Try.f4 false true false false):=by
 refine returnsInHanded_of_change_sized (C:=Try.checked) own started (by kernel_rfl) Try.func4
  (ChangeSpec.witness6 (enc:=enc) (C:=Try.checked) false ⟨#[],#[.agg #[.string ⟨#[]⟩,.int .i64 0,.slice none 0 0,.slice none 0 0,.slice none 0 0,.slice none 0 0,.slice none 0 0,.slice none 0 0,.slice none 0 0]],[]⟩ 12 (by kernel_rfl) (by kernel_rfl) (by kernel_rfl) (by kernel_rfl)) ?_
 intro W base args ds gs before hval hW _ hsz _
 exact contract H enc W base args ds gs before hval hW hsz
theorem over:Rows.BuilderCodeSaid:=
 OpenClaim.holds_of_wide 4 Try.f4 rfl rfl rfl rfl rfl rfl rfl ⟨rfl,rfl,rfl,rfl,rfl⟩ rfl rfl rfl rfl rfl (by kernel_rfl) Try.func4 (by kernel_rfl)
  (of_decide_eq_true (by kernel_rfl)) (by unfold Func.isWrapper;first | (rw [if_pos (by decide +kernel)];kernel_rfl) | (rw [if_neg (by decide +kernel)];exact⟨rfl,rfl⟩))
  (fun os started H enc _=>lifted os started H enc)
end Go.Proofs.Ytpomdoliblilfaa.builderCodeLaw
namespace Go.Proofs.Ytpomdoliblilfaa.builderCodeLaw
set_option linter.unusedVariables false
set_option linter.unusedSimpArgs false
theorem proved:Rows.BuilderCodeSaid:=over
end Go.Proofs.Ytpomdoliblilfaa.builderCodeLaw
