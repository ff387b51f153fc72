/- Lemmas. -/
import Derived.Test.YtpomdoliblilfaaBld44
import Derived.BigQuiet
namespace Go.Proofs.Ytpomdoliblilfaa
set_option linter.unusedVariables false
set_option linter.unusedSimpArgs false
open Go.RowKit
theorem FewB.l {s:SpecL} (h:FewB s) (hr:Reach s):FewL s:=⟨h.funcs,h.vars,h.lines,h.words,h.refs,h.init,h.fini,hr.run,hr.need,hr.vers⟩
theorem SpecM.imp {S S':Nat→Prop} {w:World} {v:SpecV} {s:SpecL} (h:SpecM S w v s) (hi:∀ b,S b→S' b):SpecM S' w v s:=
 ⟨h.needed.imp hi,h.runPath.imp hi,h.funcs.imp hi,h.vars.imp hi,h.weak.imp hi,h.init.imp hi,h.fini.imp hi,h.name,h.flags⟩
theorem SpecM.later {w w':World} {v:SpecV} {s:SpecL} (h:SpecM (·<w.heap.size) w v s) (hb:Below w.heap.size w w'):SpecM (·<w'.heap.size) w' v s:=
 (h.keeps (.of_below hb)).imp fun _ hb'=>Nat.lt_of_lt_of_le hb' hb.size
open Go.RowKit
theorem below_drewN {B n:Nat} {a w:World} (h:Below B a w):Below B a (w.drewN n):=⟨h.os,h.tape,h.output,h.size,h.block⟩
set_option maxHeartbeats 16000000 in
set_option maxRecDepth 100000 in
theorem bnames_any (w:World) (sv:SpecV) (s:SpecL) (flags:Int) (hfl:In63 flags) (hS:SpecM (·<w.heap.size) w sv s) (hR:Reach s):
  Calls Try.prog 7 #[.agg (specCells sv s).toArray,.int .i64 flags] w fun e w'=>e=.returned (.bool true)∧Below w.heap.size w w':=by
 have HS:=Lib.hid hS
 have HR:=Lib.hid hR
 have hone:=spec_one hS
 have honeX:=spec_one (s:={s with flags:=flags }) (v:=sv) ⟨hS.needed,hS.runPath,hS.funcs,hS.vars,hS.weak,hS.init,hS.fini,hS.name,hfl⟩
 have HSX:=Lib.hid (show SpecM (·<w.heap.size) w sv {s with flags:=flags }from⟨hS.needed,hS.runPath,hS.funcs,hS.vars,hS.weak,hS.init,hS.fini,hS.name,hfl⟩)
 obtain⟨na,nb,no,nc,hnf,hnm,hnc,hnat⟩:=hS.needed.at
 obtain⟨ra,rb,ro,rc,hrf,hrm,hrc,hrat⟩:=hS.runPath.at
 obtain⟨ia,ic,hif⟩:=hS.init.form
 obtain⟨ea,ec,hef⟩:=hS.fini.form
 have him:=hS.init.max
 have hem:=hS.fini.max
 obtain⟨nn,hnn⟩:∃ nn,nn=s.needed.length:=⟨_,rfl⟩
 obtain⟨nr,hnr⟩:∃ nr,nr=s.runPath.length:=⟨_,rfl⟩
 obtain⟨ni,hni⟩:∃ ni,ni=s.init.length:=⟨_,rfl⟩
 obtain⟨ne,hne⟩:∃ ne,ne=s.fini.length:=⟨_,rfl⟩
 have hnaa:=hnat.addr
 have hraa:=hrat.addr
 have hnin:=hnat.inS
 have hrin:=hrat.inS
 have Hnat:=Lib.hid hnat
 have Hrat:=Lib.hid hrat
 rw [← hnn]at hnf hnm hnc hnaa hnin
 rw [← hnr]at hrf hrm hrc hraa hrin
 rw [← hni]at hif him
 rw [← hne]at hef hem
 have Hnn:=Lib.hid hnn
 have Hnr:=Lib.hid hnr
 have Hni:=Lib.hid hni
 have Hne:=Lib.hid hne
 have hrow:(specCells sv s).toArray=(#[.string ⟨s.name.toArray⟩,.int .i64 s.flags,.slice na nn nc,.slice ra nr rc,sv.funcs,sv.vars,sv.weak,.slice ia ni ic,.slice ea ne ec]):=by unfold specCells;rw [hnf,hrf,hif,hef]
 have hrowX:(specCells sv {s with flags:=flags }).toArray=(#[.string ⟨s.name.toArray⟩,.int .i64 flags,.slice na nn nc,.slice ra nr rc,sv.funcs,sv.vars,sv.weak,.slice ia ni ic,.slice ea ne ec]):=by unfold specCells;rw [hnf,hrf,hif,hef]
 have Hrow:=Lib.hid hrow
 have HrowX:=Lib.hid hrowX
 rw [hrow]at hone ⊢
 rw [hrowX]at honeX
 clear hrow hrowX hS hR hnat hrat hnf hrf hif hef hnn hnr hni hne
 have Hone:=Lib.hid hone
 have HoneX:=Lib.hid honeX
 clear hone honeX
 have HX1:=Lib.hid (heap_alloc_new w (.cells (#[.string ⟨s.name.toArray⟩,.int .i64 s.flags,.slice na nn nc,.slice ra nr rc,sv.funcs,sv.vars,sv.weak,.slice ia ni ic,.slice ea ne ec]) 28 (0,0)))
 have HB1:=Lib.hid ((Below.refl w.heap.size w).alloc (Nat.le_refl _) (.cells (#[.string ⟨s.name.toArray⟩,.int .i64 s.flags,.slice na nn nc,.slice ra nr rc,sv.funcs,sv.vars,sv.weak,.slice ia ni ic,.slice ea ne ec]) 28 (0,0)))
 have Hz1:Hid ((w.alloc (.cells (#[.string ⟨s.name.toArray⟩,.int .i64 s.flags,.slice na nn nc,.slice ra nr rc,sv.funcs,sv.vars,sv.weak,.slice ia ni ic,.slice ea ne ec]) 28 (0,0))).heap.size=w.heap.size+1):=Lib.hid (by simp)
 go_enter Try.func7,Try.ntmps7
 go_upto_region 1 with fail
 generalize w.alloc (.cells (#[.string ⟨s.name.toArray⟩,.int .i64 s.flags,.slice na nn nc,.slice ra nr rc,sv.funcs,sv.vars,sv.weak,.slice ia ni ic,.slice ea ne ec]) 28 (0,0))=w1 at *
 have HA:=Lib.hid (bawake_any w1)
 go_wp2_with fail
 refine HA.out.mono ?_
 rintro e w2 ⟨rfl,hb2⟩
 have HX2:=Lib.hid ((hb2.block w.heap.size (by have:=Hz1.out;omega)).trans HX1.out)
 have HB2:=Lib.hid (HB1.out.trans (hb2.mono (by have:=Hz1.out;omega)))
 have Hz2:Hid (w.heap.size<w2.heap.size):=Lib.hid (by have:=Hz1.out;have:=hb2.size;omega)
 clear hb2 HX1 HB1 Hz1 HA
 have HF:Hid (Calls Try.prog 9 #[.agg (#[.string ⟨s.name.toArray⟩,.int .i64 s.flags,.slice na nn nc,.slice ra nr rc,sv.funcs,sv.vars,sv.weak,.slice ia ni ic,.slice ea ne ec])] w2 (FewPost w2 s)):=Lib.hid (by have:=bfew_any w2 sv s (HS.out.later HB2.out);rwa [Hrow.out]at this)
 have x0:=cells_row HX2.out 0 _ rfl
 have x1:=cells_row HX2.out 1 _ rfl
 have x2:=cells_row HX2.out 2 _ rfl
 have x3:=cells_row HX2.out 3 _ rfl
 have x4:=cells_row HX2.out 4 _ rfl
 have x5:=cells_row HX2.out 5 _ rfl
 have x6:=cells_row HX2.out 6 _ rfl
 have x7:=cells_row HX2.out 7 _ rfl
 have x8:=cells_row HX2.out 8 _ rfl
 go_wp2_with fail
 refine HF.out.mono ?_
 clear x0 x1 x2 x3 x4 x5 x6 x7 x8
 rintro e w3 ⟨r,rfl,hr,hb3⟩
 have HX3:=Lib.hid ((hb3.block w.heap.size Hz2.out).trans HX2.out)
 have HB3:=Lib.hid (HB2.out.trans (hb3.mono (Nat.le_of_lt Hz2.out)))
 have Hz3:Hid (w.heap.size<w3.heap.size):=Lib.hid (by have:=Hz2.out;have:=hb3.size;omega)
 have Hr:=Lib.hid hr
 clear hb3 HX2 HB2 Hz2 HF hr
 cases r with
 | false=>
  go_wp2
  go_ret
  exact⟨rfl,HB3.out⟩
 | true=>
  have HFew:=Lib.hid ((Hr.out rfl).l HR.out)
  have HFewX:=Lib.hid (show FewL {s with flags:=flags }from⟨HFew.out.funcs,HFew.out.vars,HFew.out.lines,HFew.out.words,HFew.out.refs,HFew.out.init,HFew.out.fini,HFew.out.run,HFew.out.need,HFew.out.vers⟩)
  clear Hr
  have HC:Hid (Calls Try.prog 10 #[.agg (#[.string ⟨s.name.toArray⟩,.int .i64 s.flags,.slice na nn nc,.slice ra nr rc,sv.funcs,sv.vars,sv.weak,.slice ia ni ic,.slice ea ne ec])] w3 (BuildPost w3 s)):=Lib.hid (by have:=build_any w3 sv s (HS.out.later HB3.out) HFew.out;rwa [Hrow.out]at this)
  have x0:=cells_row HX3.out 0 _ rfl
  have x1:=cells_row HX3.out 1 _ rfl
  have x2:=cells_row HX3.out 2 _ rfl
  have x3:=cells_row HX3.out 3 _ rfl
  have x4:=cells_row HX3.out 4 _ rfl
  have x5:=cells_row HX3.out 5 _ rfl
  have x6:=cells_row HX3.out 6 _ rfl
  have x7:=cells_row HX3.out 7 _ rfl
  have x8:=cells_row HX3.out 8 _ rfl
  go_wp2_with fail
  refine HC.out.mono ?_
  clear x0 x1 x2 x3 x4 x5 x6 x7 x8
  rintro e w4 ⟨iv,rfl,hb4,hm4⟩
  obtain⟨im,him1⟩:∃ im,im=(buildL s).1:=⟨_,rfl⟩
  obtain⟨er,her⟩:∃ er,er=(buildL s).2:=⟨_,rfl⟩
  rw [← him1,← her]
  rw [← him1]at hm4
  have Him:=Lib.hid him1
  have Her:=Lib.hid her
  have hone4:=img_one hm4
  have HM4:=Lib.hid hm4
  have HX4:=Lib.hid ((hb4.block w.heap.size Hz3.out).trans HX3.out)
  have HB4:=Lib.hid (HB3.out.trans (hb4.mono (Nat.le_of_lt Hz3.out)))
  have Hz4:Hid (w.heap.size<w4.heap.size):=Lib.hid (by have:=Hz3.out;have:=hb4.size;omega)
  clear hb4 hm4 him1 her HX3 HB3 HC
  go_upto_region 5 with (refine wpList_store_row rfl 44 (.tmp 6) (.tmp 21) rfl w4.heap.size (imgCells iv im) rfl rfl _ _ (heap_alloc_new w4 _) (by kernel_rfl) rfl hone4 ?_)
  have HI5:=Lib.hid (setRow_heap (w4.alloc (.cells (#[.string ⟨#[]⟩,.int .i64 0,.slice none 0 0,.slice none 0 0,.slice none 0 0,.slice none 0 0,.slice none 0 0,.slice none 0 0,.int .i64 0,.slice none 0 0,.slice none 0 0,.slice none 0 0,.slice none 0 0,.slice none 0 0,.int .i64 0]) 44 (0,0))) w4.heap.size _ (imgCells iv im) _ _ (heap_alloc_new w4 _))
  have hold:∀ b,b<w4.heap.size→((w4.alloc (.cells (#[.string ⟨#[]⟩,.int .i64 0,.slice none 0 0,.slice none 0 0,.slice none 0 0,.slice none 0 0,.slice none 0 0,.slice none 0 0,.int .i64 0,.slice none 0 0,.slice none 0 0,.slice none 0 0,.slice none 0 0,.slice none 0 0,.int .i64 0]) 44 (0,0))).setRow w4.heap.size (imgCells iv im)).heap[b]? =w4.heap[b]? :=fun b hb=>(setRow_other _ _ b _ (by omega)).trans (heap_alloc_old w4 _ hb)
  have HX5:=Lib.hid ((hold w.heap.size Hz4.out).trans HX4.out)
  have HM5:=Lib.hid (HM4.out.keeps (fun b hb=>hold b hb.2))
  have HB5:=Lib.hid (below_setRow (HB4.out.alloc HB4.out.size (.cells (#[.string ⟨#[]⟩,.int .i64 0,.slice none 0 0,.slice none 0 0,.slice none 0 0,.slice none 0 0,.slice none 0 0,.slice none 0 0,.int .i64 0,.slice none 0 0,.slice none 0 0,.slice none 0 0,.slice none 0 0,.slice none 0 0,.int .i64 0]) 44 (0,0))) w4.heap.size (imgCells iv im) HB4.out.size)
  have hz5:((w4.alloc (.cells (#[.string ⟨#[]⟩,.int .i64 0,.slice none 0 0,.slice none 0 0,.slice none 0 0,.slice none 0 0,.slice none 0 0,.slice none 0 0,.int .i64 0,.slice none 0 0,.slice none 0 0,.slice none 0 0,.slice none 0 0,.slice none 0 0,.int .i64 0]) 44 (0,0))).setRow w4.heap.size (imgCells iv im)).heap.size=w4.heap.size+1:=by simp
  obtain⟨ib,hib⟩:∃ ib,ib=w4.heap.size:=⟨_,rfl⟩
  rw [← hib]at HI5 HX5 HM5 HB5 hz5 hold ⊢
  generalize (w4.alloc (.cells (#[.string ⟨#[]⟩,.int .i64 0,.slice none 0 0,.slice none 0 0,.slice none 0 0,.slice none 0 0,.slice none 0 0,.slice none 0 0,.int .i64 0,.slice none 0 0,.slice none 0 0,.slice none 0 0,.slice none 0 0,.slice none 0 0,.int .i64 0]) 44 (0,0))).setRow ib (imgCells iv im)=w5 at *
  have Hz5:Hid (w.heap.size<ib∧w5.heap.size=ib+1):=Lib.hid ⟨by have:=Hz4.out;omega,hz5⟩
  clear hone4 HM4 HX4 HB4 Hz4 hold hib hz5 Hz3
  have x0:=cells_row HX5.out 0 _ rfl
  have x1:=cells_row HX5.out 1 _ rfl
  have x2:=cells_row HX5.out 2 _ rfl
  have x3:=cells_row HX5.out 3 _ rfl
  have x4:=cells_row HX5.out 4 _ rfl
  have x5:=cells_row HX5.out 5 _ rfl
  have x6:=cells_row HX5.out 6 _ rfl
  have x7:=cells_row HX5.out 7 _ rfl
  have x8:=cells_row HX5.out 8 _ rfl
  go_upto_region 6 with (refine wpList_store_row rfl 28 (.tmp 8) (.tmp 23) rfl w5.heap.size (#[.string ⟨s.name.toArray⟩,.int .i64 s.flags,.slice na nn nc,.slice ra nr rc,sv.funcs,sv.vars,sv.weak,.slice ia ni ic,.slice ea ne ec]) rfl rfl _ _ (heap_alloc_new w5 _) (by kernel_rfl) rfl Hone.out ?_)
  clear x0 x1 x2 x3 x4 x5 x6 x7 x8
  have HY6:=Lib.hid (setRow_heap (w5.alloc (.cells (#[.string ⟨#[]⟩,.int .i64 0,.slice none 0 0,.slice none 0 0,.slice none 0 0,.slice none 0 0,.slice none 0 0,.slice none 0 0,.slice none 0 0]) 28 (0,0))) w5.heap.size _ (#[.string ⟨s.name.toArray⟩,.int .i64 s.flags,.slice na nn nc,.slice ra nr rc,sv.funcs,sv.vars,sv.weak,.slice ia ni ic,.slice ea ne ec]) _ _ (heap_alloc_new w5 _))
  have hold:∀ b,b<w5.heap.size→((w5.alloc (.cells (#[.string ⟨#[]⟩,.int .i64 0,.slice none 0 0,.slice none 0 0,.slice none 0 0,.slice none 0 0,.slice none 0 0,.slice none 0 0,.slice none 0 0]) 28 (0,0))).setRow w5.heap.size (#[.string ⟨s.name.toArray⟩,.int .i64 s.flags,.slice na nn nc,.slice ra nr rc,sv.funcs,sv.vars,sv.weak,.slice ia ni ic,.slice ea ne ec])).heap[b]? =w5.heap[b]? :=fun b hb=>(setRow_other _ _ b _ (by omega)).trans (heap_alloc_old w5 _ hb)
  have HX6:=Lib.hid ((hold w.heap.size (by have:=Hz5.out;omega)).trans HX5.out)
  have HI6:=Lib.hid ((hold ib (by have:=Hz5.out;omega)).trans HI5.out)
  have HM6:=Lib.hid (HM5.out.keeps (fun b hb=>hold b (by have:=Hz5.out;omega)))
  have HB6:=Lib.hid (below_setRow (HB5.out.alloc HB5.out.size (.cells (#[.string ⟨#[]⟩,.int .i64 0,.slice none 0 0,.slice none 0 0,.slice none 0 0,.slice none 0 0,.slice none 0 0,.slice none 0 0,.slice none 0 0]) 28 (0,0))) w5.heap.size (#[.string ⟨s.name.toArray⟩,.int .i64 s.flags,.slice na nn nc,.slice ra nr rc,sv.funcs,sv.vars,sv.weak,.slice ia ni ic,.slice ea ne ec]) HB5.out.size)
  have hz6:((w5.alloc (.cells (#[.string ⟨#[]⟩,.int .i64 0,.slice none 0 0,.slice none 0 0,.slice none 0 0,.slice none 0 0,.slice none 0 0,.slice none 0 0,.slice none 0 0]) 28 (0,0))).setRow w5.heap.size (#[.string ⟨s.name.toArray⟩,.int .i64 s.flags,.slice na nn nc,.slice ra nr rc,sv.funcs,sv.vars,sv.weak,.slice ia ni ic,.slice ea ne ec])).heap.size=w5.heap.size+1:=by simp
  obtain⟨xb,hxb⟩:∃ xb,xb=w5.heap.size:=⟨_,rfl⟩
  rw [← hxb]at HY6 HX6 HI6 HM6 HB6 hz6 hold ⊢
  generalize (w5.alloc (.cells (#[.string ⟨#[]⟩,.int .i64 0,.slice none 0 0,.slice none 0 0,.slice none 0 0,.slice none 0 0,.slice none 0 0,.slice none 0 0,.slice none 0 0]) 28 (0,0))).setRow xb (#[.string ⟨s.name.toArray⟩,.int .i64 s.flags,.slice na nn nc,.slice ra nr rc,sv.funcs,sv.vars,sv.weak,.slice ia ni ic,.slice ea ne ec])=w6 at *
  have Hz6:Hid (w.heap.size<ib∧xb=ib+1∧w6.heap.size=xb+1):=Lib.hid ⟨Hz5.out.1,by have:=Hz5.out;omega,hz6⟩
  clear hold hxb hz6 Hz5 HI5 HX5 HM5 HB5
  have y1:w6.cell? ⟨xb,1,none⟩=some (.int .i64 s.flags):=by rw [Lib.cell_of_heap HY6.out];rfl
  have q1:w6.frozen? ⟨xb,1,none⟩=false:=Lib.frozen_of_heap HY6.out 1
  go_upto_region 7 with fail
  have hs7:Step (fun b=>b≠xb) w6 (w6.setCell ⟨xb,1,none⟩ (.int .i64 flags)):=(Step.refl _ w6).setCell (fun h=>h rfl) _
  have HY7:Hid ((w6.setCell ⟨xb,1,none⟩ (.int .i64 flags)).heap[xb]? =some (.cells (#[.string ⟨s.name.toArray⟩,.int .i64 flags,.slice na nn nc,.slice ra nr rc,sv.funcs,sv.vars,sv.weak,.slice ia ni ic,.slice ea ne ec]) 28 (0,0))):=Lib.hid (setCell_arr HY6.out 1 _)
  have hz7:(w6.setCell ⟨xb,1,none⟩ (.int .i64 flags)).heap.size=w6.heap.size:=by simp
  generalize w6.setCell ⟨xb,1,none⟩ (.int .i64 flags)=w7 at *
  have HX7:=Lib.hid ((hs7.block w.heap.size (by have:=Hz6.out;omega)).trans HX6.out)
  have HI7:=Lib.hid ((hs7.block ib (by have:=Hz6.out;omega)).trans HI6.out)
  have HM7:=Lib.hid (HM6.out.keeps (fun b hb=>hs7.block b (by have:=Hz6.out;omega)))
  have HB7:=Lib.hid (HB6.out.trans ((hs7.imp (S':=(·<w.heap.size)) (fun b hb=>by have hb:b<w.heap.size:=hb;have:=Hz6.out;omega)).below))
  have Hz7:Hid (w.heap.size<ib∧xb=ib+1∧w7.heap.size=xb+1):=Lib.hid ⟨Hz6.out.1,Hz6.out.2.1,hz7.trans Hz6.out.2.2⟩
  clear y1 q1 hs7 hz7 HY6 HX6 HI6 HM6 HB6 Hz6
  have HCX:Hid (Calls Try.prog 10 #[.agg (#[.string ⟨s.name.toArray⟩,.int .i64 flags,.slice na nn nc,.slice ra nr rc,sv.funcs,sv.vars,sv.weak,.slice ia ni ic,.slice ea ne ec])] w7 (BuildPost w7 {s with flags:=flags })):=Lib.hid (by have:=build_any w7 sv {s with flags:=flags } (HSX.out.later HB7.out) HFewX.out;rwa [HrowX.out]at this)
  have x0:=cells_row HY7.out 0 _ rfl
  have x1:=cells_row HY7.out 1 _ rfl
  have x2:=cells_row HY7.out 2 _ rfl
  have x3:=cells_row HY7.out 3 _ rfl
  have x4:=cells_row HY7.out 4 _ rfl
  have x5:=cells_row HY7.out 5 _ rfl
  have x6:=cells_row HY7.out 6 _ rfl
  have x7:=cells_row HY7.out 7 _ rfl
  have x8:=cells_row HY7.out 8 _ rfl
  go_wp2_with fail
  refine HCX.out.mono ?_
  clear x0 x1 x2 x3 x4 x5 x6 x7 x8
  rintro e w8 ⟨ix,rfl,hb8,hm8⟩
  obtain⟨ex,hex⟩:∃ ex,ex=(buildL {s with flags:=flags }).2:=⟨_,rfl⟩
  obtain⟨imx,himx⟩:∃ imx,imx=(buildL {s with flags:=flags }).1:=⟨_,rfl⟩
  rw [← himx,← hex]
  rw [← himx]at hm8
  have Hex:=Lib.hid hex
  have hone8:=img_one hm8
  have HX8:=Lib.hid ((hb8.block w.heap.size (by have:=Hz7.out;omega)).trans HX7.out)
  have HI8:=Lib.hid ((hb8.block ib (by have:=Hz7.out;omega)).trans HI7.out)
  have HM8:=Lib.hid (HM7.out.keeps (fun b hb=>hb8.block b (by have:=Hz7.out;omega)))
  have HB8:=Lib.hid (HB7.out.trans (hb8.mono HB7.out.size))
  have Hz8:Hid (w.heap.size<ib∧ib<w8.heap.size):=Lib.hid ⟨Hz7.out.1,by have:=Hz7.out;have:=hb8.size;omega⟩
  clear hb8 hm8 hex himx HX7 HI7 HM7 HB7 Hz7 HY7 HCX
  go_upto_region 8 with (refine wpList_store_row rfl 44 (.tmp 9) (.tmp 29) rfl w8.heap.size (imgCells ix imx) rfl rfl _ _ (heap_alloc_new w8 _) (by kernel_rfl) rfl hone8 ?_)
  have hold:∀ b,b<w8.heap.size→((w8.alloc (.cells (#[.string ⟨#[]⟩,.int .i64 0,.slice none 0 0,.slice none 0 0,.slice none 0 0,.slice none 0 0,.slice none 0 0,.slice none 0 0,.int .i64 0,.slice none 0 0,.slice none 0 0,.slice none 0 0,.slice none 0 0,.slice none 0 0,.int .i64 0]) 44 (0,0))).setRow w8.heap.size (imgCells ix imx)).heap[b]? =w8.heap[b]? :=fun b hb=>(setRow_other _ _ b _ (by omega)).trans (heap_alloc_old w8 _ hb)
  have HX9:=Lib.hid ((hold w.heap.size (by have:=Hz8.out;omega)).trans HX8.out)
  have HI9:=Lib.hid ((hold ib Hz8.out.2).trans HI8.out)
  have HM9:=Lib.hid (HM8.out.keeps (fun b hb=>hold b (by have:=Hz8.out;omega)))
  have HB9:=Lib.hid (below_setRow (HB8.out.alloc HB8.out.size (.cells (#[.string ⟨#[]⟩,.int .i64 0,.slice none 0 0,.slice none 0 0,.slice none 0 0,.slice none 0 0,.slice none 0 0,.slice none 0 0,.int .i64 0,.slice none 0 0,.slice none 0 0,.slice none 0 0,.slice none 0 0,.slice none 0 0,.int .i64 0]) 44 (0,0))) w8.heap.size (imgCells ix imx) HB8.out.size)
  have hz9:ib<((w8.alloc (.cells (#[.string ⟨#[]⟩,.int .i64 0,.slice none 0 0,.slice none 0 0,.slice none 0 0,.slice none 0 0,.slice none 0 0,.slice none 0 0,.int .i64 0,.slice none 0 0,.slice none 0 0,.slice none 0 0,.slice none 0 0,.slice none 0 0,.int .i64 0]) 44 (0,0))).setRow w8.heap.size (imgCells ix imx)).heap.size:=by have:=Hz8.out;simp;omega
  generalize (w8.alloc (.cells (#[.string ⟨#[]⟩,.int .i64 0,.slice none 0 0,.slice none 0 0,.slice none 0 0,.slice none 0 0,.slice none 0 0,.slice none 0 0,.int .i64 0,.slice none 0 0,.slice none 0 0,.slice none 0 0,.slice none 0 0,.slice none 0 0,.int .i64 0]) 44 (0,0))).setRow w8.heap.size (imgCells ix imx)=w9 at *
  have Hz9:Hid (w.heap.size<ib∧ib<w9.heap.size):=Lib.hid ⟨Hz8.out.1,hz9⟩
  clear hone8 hold hz9 HX8 HI8 HM8 HB8 Hz8
  by_cases hn:flags<0
  ·rcases build_flags (s:={s with flags:=flags }) (Or.inl hn)with he | he
   all_goals
    rw [← Hex.out]at he
    subst he
    go_wp2
    go_ret
    exact⟨rfl,HB9.out⟩
  by_cases hp:15<flags
  ·rcases build_flags (s:={s with flags:=flags }) (Or.inr hp)with he | he
   all_goals
    rw [← Hex.out]at he
    subst he
    go_wp2
    go_ret
    exact⟨rfl,HB9.out⟩
  by_cases hez:er=0
  ·have hnames:=build_names (by rw [← Her.out];exact hez)
   rw [← Him.out]at hnames
   obtain⟨e0,e1,e2,e3,e4,e5⟩:=hnames
   subst hez
   obtain⟨ja,jb,jo,jc,hjf,-,hjc,hjat⟩:=HM9.out.needed.at
   obtain⟨ka,kb,ko,kc,hkf,-,hkc,hkat⟩:=HM9.out.runPath.at
   obtain⟨la,lc,hlf⟩:=HM9.out.init.form
   obtain⟨ma,mc,hmf⟩:=HM9.out.fini.form
   rw [e2]at hjf hjc hjat
   rw [e3]at hkf hkc hkat
   rw [e4,← Hni.out]at hlf
   rw [e5,← Hne.out]at hmf
   have hjaa:=hjat.addr
   have hkaa:=hkat.addr
   have hjin:=hjat.inS
   have hkin:=hkat.inS
   rw [← Hnn.out]at hjf hjc hjaa hjin
   rw [← Hnr.out]at hkf hkc hkaa hkin
   have Hjat:=Lib.hid hjat
   have Hkat:=Lib.hid hkat
   have s0:w9.cell? ⟨w.heap.size,0,none⟩=some (.string ⟨s.name.toArray⟩):=by rw [Lib.cell_of_heap HX9.out];rfl
   have s1:w9.cell? ⟨w.heap.size,1,none⟩=some (.int .i64 s.flags):=by rw [Lib.cell_of_heap HX9.out];rfl
   have s2:w9.cell? ⟨w.heap.size,2,none⟩=some (.slice na nn nc):=by rw [Lib.cell_of_heap HX9.out];rfl
   have s3:w9.cell? ⟨w.heap.size,3,none⟩=some (.slice ra nr rc):=by rw [Lib.cell_of_heap HX9.out];rfl
   have s7:w9.cell? ⟨w.heap.size,7,none⟩=some (.slice ia ni ic):=by rw [Lib.cell_of_heap HX9.out];rfl
   have s8:w9.cell? ⟨w.heap.size,8,none⟩=some (.slice ea ne ec):=by rw [Lib.cell_of_heap HX9.out];rfl
   have i0:w9.cell? ⟨ib,0,none⟩=some (.string ⟨s.name.toArray⟩):=by rw [Lib.cell_of_heap HI9.out,← e0];rfl
   have i1:w9.cell? ⟨ib,1,none⟩=some (.int .i64 s.flags):=by rw [Lib.cell_of_heap HI9.out,← e1];rfl
   have i3:w9.cell? ⟨ib,3,none⟩=some (.slice ja nn jc):=by rw [Lib.cell_of_heap HI9.out,← hjf];rfl
   have i4:w9.cell? ⟨ib,4,none⟩=some (.slice ka nr kc):=by rw [Lib.cell_of_heap HI9.out,← hkf];rfl
   have i11:w9.cell? ⟨ib,11,none⟩=some (.slice la ni lc):=by rw [Lib.cell_of_heap HI9.out,← hlf];rfl
   have i12:w9.cell? ⟨ib,12,none⟩=some (.slice ma ne mc):=by rw [Lib.cell_of_heap HI9.out,← hmf];rfl
   have S2:=Lib.hid s2
   have S3:=Lib.hid s3
   have I3:=Lib.hid i3
   have I4:=Lib.hid i4
   clear hjat hkat hjf hkf hlf hmf e0 e1 e2 e3 e4 e5 HX9 HI9 HM9 Him Her Hex HS HR HSX Hone HoneX Hrow HrowX
   go_wp2_with fail
   clear s0 s1 s2 s3 s7 s8 i0 i1 i3 i4 i11 i12
   go_loopw [11] (fun i wr=>∃ k:Nat,i=.int .i64 k∧k≤nn∧Below w9.heap.size w9 wr) (fun i _=>nn-(intOf i).toNat)
   case atStart=>exact⟨0,rfl,Nat.zero_le _,Below.refl _ _⟩
   case round=>
    obtain⟨k,rfl,hk,hbr⟩:=hrel
    have HBr:=Lib.hid hbr
    have HW:=Lib.hid (HB9.out.trans (hbr.mono HB9.out.size))
    have s2:wr.cell? ⟨w.heap.size,2,none⟩=some (.slice na nn nc):=(hbr.cell (p:=⟨w.heap.size,2,none⟩) (by have:=Hz9.out;show w.heap.size<_;omega)).trans S2.out
    by_cases hlt:k<nn
    ·have i3:wr.cell? ⟨ib,3,none⟩=some (.slice ja nn jc):=(hbr.cell (p:=⟨ib,3,none⟩) Hz9.out.2).trans I3.out
     obtain rfl:=hnaa (by omega)
     obtain rfl:=hjaa (by omega)
     obtain⟨x,hx⟩:∃ x,s.needed[k]? =some x:=⟨_,List.getElem?_eq_getElem (by rw [← Hnn.out];exact hlt)⟩
     obtain⟨c,f0,f1,hc,hxm⟩:=(Hnat.out.below HW.out).need2 k x hx
     obtain⟨d,g0,g1,hd,-⟩:=(Hjat.out.keeps (w':=wr) (fun b hb=>hbr.block b (Nat.lt_trans hb.2 Hz9.out.2))).need2 k x hx
     obtain⟨ca,cc,rfl⟩:=hc.form
     obtain⟨da,dc,rfl⟩:=hd.form
     have hcm:=hc.max
     obtain⟨q,hq⟩:∃ q,q=x.versions.length:=⟨_,rfl⟩
     rw [← hq]at f1 g1 hcm
     have hk2:(k:Int)<(nn:Int):=by omega
     have hk3:0≤(k:Int):=by omega
     clear hx hc hd hq hbr
     go_wp2_with fail
     go_quiet (fail)
     have HB2:=Lib.hid (show Below w9.heap.size w9 (wr.drewN nq)from below_drewN HBr.out)
     clear f0 f1 g0 g1 s2 i3
     go_wp2_with fail
     go_roundw
     case rel=>exact⟨k+1,by go_num,by omega,HB2.out⟩
     case measure=>simp [intOf];omega
    ·have s3:wr.cell? ⟨w.heap.size,3,none⟩=some (.slice ra nr rc):=(hbr.cell (p:=⟨w.heap.size,3,none⟩) (by have:=Hz9.out;show w.heap.size<_;omega)).trans S3.out
     clear hbr
     go_wp2_with fail
     clear s2 s3
     go_loopw [12] (fun i wr=>∃ k:Nat,i=.int .i64 k∧k≤nr∧Below w9.heap.size w9 wr) (fun i _=>nr-(intOf i).toNat)
     case atStart=>exact⟨0,rfl,Nat.zero_le _,HBr.out⟩
     case round=>
      obtain⟨k,rfl,hk,hbt⟩:=hrel
      have HBt:=Lib.hid hbt
      have HV:=Lib.hid (HB9.out.trans (hbt.mono HB9.out.size))
      have s3:wr.cell? ⟨w.heap.size,3,none⟩=some (.slice ra nr rc):=(hbt.cell (p:=⟨w.heap.size,3,none⟩) (by have:=Hz9.out;show w.heap.size<_;omega)).trans S3.out
      by_cases hlt:k<nr
      ·have i4:wr.cell? ⟨ib,4,none⟩=some (.slice ka nr kc):=(hbt.cell (p:=⟨ib,4,none⟩) Hz9.out.2).trans I4.out
       obtain rfl:=hraa (by omega)
       obtain rfl:=hkaa (by omega)
       obtain⟨x,hx⟩:∃ x,s.runPath[k]? =some x:=⟨_,List.getElem?_eq_getElem (by rw [← Hnr.out];exact hlt)⟩
       obtain⟨f0,-⟩:=(Hrat.out.below HV.out).str1 k x hx
       obtain⟨g0,-⟩:=(Hkat.out.keeps (w':=wr) (fun b hb=>hbt.block b (Nat.lt_trans hb.2 Hz9.out.2))).str1 k x hx
       have hk2:(k:Int)<(nr:Int):=by omega
       have hk3:0≤(k:Int):=by omega
       clear hx hbt
       go_wp2_with fail
       go_quiet (fail)
       have HB2:=Lib.hid (show Below w9.heap.size w9 (wr.drewN nq)from below_drewN HBt.out)
       clear f0 g0 s3 i4
       go_wp2_with fail
       go_roundw
       case rel=>exact⟨k+1,by go_num,by omega,HB2.out⟩
       case measure=>simp [intOf];omega
      ·clear hbt
       go_wp2
       go_ret
       exact⟨rfl,HV.out⟩
  ·have hmb:(er != 0)=true:=by simp [hez]
   clear hez
   go_wp2
   go_ret
   exact⟨rfl,HB9.out⟩
end Go.Proofs.Ytpomdoliblilfaa
