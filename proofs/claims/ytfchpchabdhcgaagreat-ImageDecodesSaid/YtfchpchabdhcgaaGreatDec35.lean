/- Lemmas. -/
import Derived.Test.YtfchpchabdhcgaaGreatDec31
import Derived.Test.YtfchpchabdhcgaaGreatDec5
import Derived.Test.YtfchpchabdhcgaaGreatDec24
import Derived.Test.YtfchpchabdhcgaaGreatDec30
import Derived.Test.YtfchpchabdhcgaaGreatDec29
import Derived.Test.YtfchpchabdhcgaaGreatDec11
import Derived.Test.YtfchpchabdhcgaaGreatDec34
import Derived.Deep.DeepCutAuto
import Derived.Laws.CopyOwn
import Derived.Laws.ResultCell
import Derived.Laws.Tables
set_option linter.unusedVariables false
set_option linter.unusedSimpArgs false
set_option maxHeartbeats 64000000
set_option maxRecDepth 100000
namespace Go.Proofs.YtfchpchabdhcgaaGreat
open Go.RowKit
theorem ztl1 {w:World} {l:List UInt8} {a:Act} {w5:World} {B rb gb ib:Nat} {f:Bool} {s:Option (List UInt8)} {v:ImgV} {im:ImgL} {P':List SegL→List UInt8→Option (ImgL × List UInt8)} (hF:zFr [(2,.pointer (some ⟨w.heap.size,0,none⟩)),(4,.pointer (some ⟨rb,0,none⟩)),(5,.pointer (some ⟨ib,0,none⟩)),(6,.bool f)] a) (hC:ZSt w l B rb gb ib w5 f s v im (bindP (numP 1) fun n=>bindP (manyP segP n.toNat) P')) (hv:v.segs=.slice none 0 0)
  (hK:∀ (a':Act) (w':World) (f':Bool) (s':Option (List UInt8)) (u:Value) (xs:List SegL),zFr [(2,.pointer (some ⟨w.heap.size,0,none⟩)),(4,.pointer (some ⟨rb,0,none⟩)),(5,.pointer (some ⟨ib,0,none⟩)),(6,.bool f')] a'→ZSt w l B rb gb ib w' f' s' {v with segs:=u } {im with segs:=xs } (P' xs)→(zRest Tryz.f22 7).wp Tryz.prog (bodyPost Tryz.prog Tryz.f22 (ReadPost w l)) a' w'):(zRest Tryz.f22 6).wp Tryz.prog (bodyPost Tryz.prog Tryz.f22 (ReadPost w l)) a w5:=by
 have HK:=Lib.hid hK
 have HC:=Lib.hid hC
 have b1:=hC.h1
 have b2:=hC.h2
 have b3:=hC.h3
 have b4:=hC.h4
 have b5:=hC.h5
 have R5:=Lib.hid hC.rd
 have X5:=Lib.hid hC.ix
 clear hC hK
 obtain⟨y0,y1,y2,y3,y4,y5,y6,y7,y8,y9,y10⟩:=v
 replace hv:y0=.slice none 0 0:=hv
 subst hv
 have e6:zRest Tryz.f22 6=.seq (zCode Tryz.f22 6) (zRest Tryz.f22 7):=zd_seq _ 6 (by kernel_rfl)
 rw [e6]
 clear e6
 apply zFr.elim hF
 clear hF
 intro _ _
 intro V2
 intro _
 intro V4
 intro V5
 intro V6
 iterate 272 (intro _)
 intro hF
 obtain⟨-,-,e2,e4,e5,e6,-⟩:=hF
 replace e2:V2=.pointer (some ⟨w.heap.size,0,none⟩):=e2
 subst e2
 replace e4:V4=.pointer (some ⟨rb,0,none⟩):=e4
 subst e4
 replace e5:V5=.pointer (some ⟨ib,0,none⟩):=e5
 subst e5
 replace e6:V6=.bool f:=e6
 subst e6
 conv in zCode _ 6=>whnf
 have HN:=Lib.hid (ynum_any w5 rb gb s 1 R5.out (by decide))
 have hgn:=got_num s 1
 obtain⟨m,hm,hmm⟩:=okN_idx (by decide) (numS_ok s 1 (by decide))
 have hm1:m<256:=hmm
 clear hmm
 obtain⟨s1,hs1⟩:∃ x,x=(numS s 1).2:=⟨_,rfl⟩
 rw [hm,← hs1]at HN hgn
 have GN:=Lib.hid hgn
 clear hgn hm hs1
 go_wp2_with fail
 refine HN.out.mono ?_
 clear HN
 rintro e w6 ⟨rfl,hr,hs,hzn⟩
 have R6:=Lib.hid hr
 have X6:=Lib.hid ((hs.block ib (by omega)).trans X5.out)
 have Q6:=Lib.hid hs
 have hB6:B≤w6.heap.size:=by omega
 clear hr hs X5 R5
 have FIN:Hid (∀ (a':Act) (wr:World) (f':Bool) (st:Option (List UInt8)) (u:Value) (xs:List SegL),zFr [(2,.pointer (some ⟨w.heap.size,0,none⟩)),(4,.pointer (some ⟨rb,0,none⟩)),(5,.pointer (some ⟨ib,0,none⟩)),(6,.bool f')] a'→OwnK 57 kSeg w6.heap.size (·<w6.heap.size) wr u xs→(∀ x∈xs,okSeg x)→Got (manyP segP m) (estS f s1) xs (estS f' st)→RX rb gb wr st→Step (fun x=>x<w6.heap.size∧x≠rb∧x≠ib) w6 wr→wr.heap[ib]? =some (.cells (imgCells ⟨u,y1,y2,y3,y4,y5,y6,y7,y8,y9,y10⟩ im) 40 (0,0))→(zRest Tryz.f22 7).wp Tryz.prog (bodyPost Tryz.prog Tryz.f22 (ReadPost w l)) a' wr):=Lib.hid (by
  intro a' wr f' st u xs hFr ho hK hg hr hs hx
  have hs5:Step (fun x=>x<w5.heap.size∧x≠rb∧x≠ib) w5 wr:=(Q6.out.imp (fun x h=>h.2.1)).trans (hs.imp (fun x h=>⟨by have:=h.1;omega,h.2⟩))
  exact HK.out a' wr f' st u xs hFr (HC.out.go (v':=⟨u,y1,y2,y3,y4,y5,y6,y7,y8,y9,y10⟩) (im':={im with segs:=xs }) hs5 hr hx
   {
    HC.out.imgStep hs5 with
    segs:=ho.lb.imp (fun b hb=>⟨by have:=hb.2;omega,hb.1⟩)
    segsR:=fun s hs=>⟨okN_int64 (hK s hs).1,okN_int64 (hK s hs).2.1,okN_int64 (hK s hs).2.2.1⟩} (fun x st' h=>(GN.out.eff f).bind (hg.bind h))))
 clear HK hzn
 go_wp2_with fail
 refine wp_loop_dn (k:=7) (m:=m) (fun r a wr=>r≤m∧∃ f',zFr [(2,.pointer (some ⟨w.heap.size,0,none⟩)),(4,.pointer (some ⟨rb,0,none⟩)),(5,.pointer (some ⟨ib,0,none⟩)),(6,.bool f'),(7,.int .i64 (r:Nat))] a∧∃ u,wr.heap[ib]? =some (.cells (imgCells ⟨u,y1,y2,y3,y4,y5,y6,y7,y8,y9,y10⟩ im) 40 (0,0))∧ZQ 57 kSeg segP okSeg rb gb ib w6 f s1 wr u (m-r) f') ?_ ?_ ?_
 ·rintro r a wr ⟨-,f',h,-⟩
  exact zFrL.get h.2.2 (7,.int .i64 (r:Nat)) (by simp)
 ·exact⟨Nat.le_refl _,f,⟨by kernel_rfl,rfl,(by kernel_rfl),(by kernel_rfl),(by kernel_rfl),(by kernel_rfl),(by kernel_rfl),trivial⟩,_,X6.out,by rw [Nat.sub_self];exact ZQ.start R6.out⟩
 clear X6 R6 Q6 GN HC
 intro r a v0 K hI HK
 obtain⟨hrm,f1,hF,u,hX,hq⟩:=hI
 replace HK:=Lib.hid HK
 obtain⟨xs,st,h1,h2,h3,h4,h5,h6,h7⟩:=hq
 apply zFr.elim hF
 clear hF
 intro _ _
 intro V2
 intro _
 intro V4
 intro V5
 intro V6
 intro V7
 iterate 271 (intro _)
 intro hF
 obtain⟨-,-,e2,e4,e5,e6,e7,-⟩:=hF
 replace e2:V2=.pointer (some ⟨w.heap.size,0,none⟩):=e2
 subst e2
 replace e4:V4=.pointer (some ⟨rb,0,none⟩):=e4
 subst e4
 replace e5:V5=.pointer (some ⟨ib,0,none⟩):=e5
 subst e5
 replace e6:V6=.bool f1:=e6
 subst e6
 replace e7:V7=.int .i64 (r:Nat):=e7
 subst e7
 have HO:=Lib.hid h1
 have HX:=Lib.hid hX
 have H4:=Lib.hid h4
 have H5:=Lib.hid h5
 have R0:=Lib.hid h6
 have H7:=Lib.hid h7
 have hz00:=h7.size
 obtain⟨fe,hfe,hfs⟩:=h6.fault
 clear h1 hX h4 h5 h6 h7
 cases r with
 | zero=>
  have hd:decide ((0:Int)<((0:Nat):Int))=false:=rfl
  go_wp2_with fail
  exact FIN.out _ v0 f1 st u xs ⟨by kernel_rfl,rfl,(by kernel_rfl),(by kernel_rfl),(by kernel_rfl),(by kernel_rfl),trivial⟩ HO.out H4.out H5.out R0.out H7.out HX.out
 | succ r=>
  obtain⟨rr,hrr⟩:∃ x:Int,x=((r+1:Nat):Int):=⟨_,rfl⟩
  have Hrr:=Lib.hid hrr
  have hrr1:1≤rr:=by omega
  have hrr2:rr≤256:=by omega
  have hd:decide ((0:Int)<rr)=true:=by rw [decide_eq_true_eq];omega
  rw [← hrr]
  clear hrr
  cases st with
  | none=>
   have hf2:(fe==0)=false:=hfs
   clear hfs
   go_wp2_with fail
   have hs4:=H5.out
   rw [estS_none]at hs4
   exact FIN.out _ v0 f1 none u xs ⟨by kernel_rfl,rfl,(by kernel_rfl),(by kernel_rfl),(by kernel_rfl),(by kernel_rfl),trivial⟩ HO.out H4.out (by rw [estS_none];exact hs4.stop (by omega) _) R0.out H7.out HX.out
  | some lb=>
   have hf2:(fe==0)=true:=hfs
   have hxl:=h3 (by simp)
   clear hfs h2 h3 FIN
   obtain⟨oa,oc,huf⟩:=HO.out.form
   obtain⟨q,hqq⟩:∃ q,q=m-(r+1):=⟨_,rfl⟩
   have hq1:m-r=q+1:=by omega
   have hq2:q≤256:=by omega
   rw [← hqq]at hxl H5
   rw [hxl]at huf
   subst huf
   have Hxl:=Lib.hid hxl
   have Hq1:=Lib.hid hq1
   clear hxl hq1 hqq
   have T0:=Lib.hid (Step.refl (fun x=>x<v0.heap.size∧x≠rb) v0)
   have hz0:v0.heap.size≤v0.heap.size:=Nat.le_refl _
   have HN:=Lib.hid (zlist_any v0 rb gb (some lb) 2 4 R0.out (by decide) (by decide))
   go_wp2_with fail
   refine HN.out.mono ?_
   clear HN
   rintro e v1 ⟨yl,ls,s2,rfl,hq⟩
   have hs:=hq.step
   have R1:=Lib.hid hq.rd
   have T1:=Lib.hid (T0.out.trans (hs.imp (fun x hx=>⟨by have:=hx.1;omega,hx.2⟩)))
   have hz1:=Nat.le_trans hz0 hs.size
   clear T0
   have HLls:=Lib.hid hq
   have Oyl_1:=Lib.hid ((hq.own.mono (B':=v0.heap.size) (by omega)).less (E':=(·<v0.heap.size)) (fun b hb=>by have hb:b<v0.heap.size:=hb;show b<_;omega))
   clear hq hs R0
   obtain⟨yla,ylc,hfyl⟩:=Oyl_1.out.form
   obtain⟨lsn,hlsn⟩:∃ n,n=ls.length:=⟨_,rfl⟩
   have Hlsn:=Lib.hid hlsn
   have hle:=HLls.out.le
   rw [← hlsn]at hfyl hle
   subst hfyl
   clear hlsn
   have HN:=Lib.hid (ynum_any v1 rb gb s2 1 R1.out (by decide))
   have hgn:=got_num s2 1
   have hno:=numS_ok s2 1 (by decide)
   obtain⟨pm,hx1⟩:∃ x,x=(numS s2 1).1:=⟨_,rfl⟩
   obtain⟨s3,hs1⟩:∃ x,x=(numS s2 1).2:=⟨_,rfl⟩
   rw [← hx1,← hs1]at HN hgn
   rw [← hx1]at hno
   have Gpm:=Lib.hid hgn
   have Kpm:=Lib.hid hno
   clear hgn hno hx1 hs1
   go_wp2_with fail
   refine HN.out.mono ?_
   clear HN
   rintro e v2 ⟨rfl,hr,hs,hzn⟩
   have R2:=Lib.hid hr
   have T2:=Lib.hid (T1.out.trans (hs.imp (fun x hx=>hx.2)))
   have hz2:=Nat.le_trans hz1 hs.size
   clear T1
   have Oyl_2:=Lib.hid (Oyl_1.out.step hs (fun y h1 h2=>fun e=>h2 (by rw [e];show rb<_;omega)))
   clear Oyl_1
   clear hr hs hzn R1
   have HN:=Lib.hid (yblock_any v2 rb gb s3 R2.out)
   have hgn:=got_part s3 4 1048576 (by decide)
   have hno:=partS_len s3 4 1048576 (by decide)
   obtain⟨db,hx1⟩:∃ x,x=(partS s3 4 1048576).1:=⟨_,rfl⟩
   obtain⟨s4,hs1⟩:∃ x,x=(partS s3 4 1048576).2:=⟨_,rfl⟩
   rw [← hx1,← hs1]at HN hgn
   rw [← hx1]at hno
   have Gdb:=Lib.hid hgn
   have Kdb:=Lib.hid hno
   clear hgn hno hx1 hs1
   go_wp2_with fail
   refine HN.out.mono ?_
   clear HN
   rintro e v3 ⟨bv,rfl,hbv,hr,hs,hzn⟩
   have R3:=Lib.hid hr
   have T3:=Lib.hid (T2.out.trans (hs.imp (fun x hx=>hx.2)))
   have hz3:=Nat.le_trans hz2 hs.size
   clear T2
   have Oyl_3:=Lib.hid (Oyl_2.out.step hs (fun y h1 h2=>fun e=>h2 (by rw [e];show rb<_;omega)))
   clear Oyl_2
   have HN:=Lib.hid (zbytes_any v3 bv db hbv (fun b hb=>by have hb:b=gb:=hb;omega) Kdb.out)
   clear hr hs hzn R2 hbv
   go_wp2_with fail
   refine HN.out.mono ?_
   clear HN
   rintro e v4 ⟨yd,rfl,hob,hb⟩
   have hs:=Step.of_below hb
   have R4:=Lib.hid (R3.out.below hb)
   have T4:=Lib.hid (T3.out.trans (hs.imp (fun x hx=>by have:=hx.1;show x<_;omega)))
   have hz4:=Nat.le_trans hz3 hs.size
   clear T3
   have Oyl_4:=Lib.hid (Oyl_3.out.below hb)
   clear Oyl_3
   have Oyd_4:=Lib.hid (hob.mono (B':=v0.heap.size) (by omega))
   have hByd:v0.heap.size≤v3.heap.size:=by omega
   obtain⟨yda,ydc,hfyd⟩:=Oyd_4.out.form
   subst hfyd
   clear hob hs hb R3
   have HG:Hid (Got segP (some lb) (⟨ls.getD 0 0,ls.getD 1 0,db,pm⟩:SegL) s4):=Lib.hid (by rw [seg_two];exact HLls.out.got.bind (Gpm.out.bind (Gdb.out.bind (Got.pure _ _))))
   by_cases hx2:lsn=2
   ·subst hx2
    have hx2:ls.length=2:=Hlsn.out.symm
    obtain⟨ylg,ylc',hf,hg1,hg2,hg3,hW⟩:=Oyl_4.out.words (by omega)
    rw [hx2]at hf hW hg3
    obtain⟨rfl,-,rfl⟩:=Value.slice.inj hf
    have hyl1:v0.heap.size≤ylg:=hg1
    have hyl2:ylg<v4.heap.size:=hg2
    clear hf hg1 hg2
    have kyl0:=okN_getD HLls.out.ok 0 (by omega)
    have qyl0:=hW 0 (by omega)
    obtain⟨yl0,ha⟩:∃ z,z=ls.getD 0 0:=⟨_,rfl⟩
    rw [← ha]at kyl0 qyl0 HG
    clear ha
    have kyl1:=okN_getD HLls.out.ok 1 (by omega)
    have qyl1:=hW 1 (by omega)
    obtain⟨yl1,ha⟩:∃ z,z=ls.getD 1 0:=⟨_,rfl⟩
    rw [← ha]at kyl1 qyl1 HG
    clear ha
    clear hW hx2 HLls Hlsn
    go_upto_region 13 with fail
    have XI:=Lib.hid ((T4.out.block ib ⟨by omega,by omega⟩).trans HX.out)
    have OI:=Lib.hid (HO.out.step T4.out (fun y h1 h2=>⟨h1,fun e=>h2 (by rw [e];show rb<_;omega)⟩))
    have hown:=Lib.hid HO.out.lt
    have cI:v4.cell? ⟨ib,2,none⟩=some (.slice oa q oc):=by rw [Lib.cell_of_heap XI.out];rfl
    clear HO HX
    refine wp_region_phase 13 (by kernel_rfl) (by kernel_rfl) ?_
    simp only [List.take_succ_cons,List.take_zero,List.drop_succ_cons,List.drop_zero,List.take_nil,List.drop_nil]
    refine wpAny_of_held (S:=fun w':World=>w'.cell? ⟨ib,2,none⟩=some (.slice oa q oc)∧w'.cell? ⟨ylg,0,none⟩=some (.int .i64 yl0)∧w'.cell? ⟨ylg,1,none⟩=some (.int .i64 yl1)) _ _ _ _ ?_
    have hHeld:(fun w':World=>w'.cell? ⟨ib,2,none⟩=some (.slice oa q oc)∧w'.cell? ⟨ylg,0,none⟩=some (.int .i64 yl0)∧w'.cell? ⟨ylg,1,none⟩=some (.int .i64 yl1)) (World.drew v4):=⟨cI,qyl0,qyl1⟩
    show wpAnyH _ _ _ _ _ _ _ _ (World.drew _)
    have XId:Hid ((World.drew v4).heap[ib]? =_):=Lib.hid XI.out
    have OId:=Lib.hid OI.out.drew
    have RId:=Lib.hid R4.out.drew
    have TId:=Lib.hid T4.out.drew
    have hzd:v0.heap.size≤(World.drew v4).heap.size:=hz4
    have hzd2:v4.heap.size≤(World.drew v4).heap.size:=Nat.le_refl _
    have Oyl_d:=Lib.hid Oyl_4.out.drew
    clear Oyl_4
    have Oyd_d:=Lib.hid Oyd_4.out.drew
    clear Oyd_4
    clear XI OI R4 T4 cI
    generalize (World.drew v4)=wd at *
    refine wpAnyH_reads [0,1,2,3,4,5,6,7,8,9,10] hHeld (fun _ _ _ _ _ h=>h) (by kernel_rfl) rfl rfl ?_
    simp only [Takes,List.toList_toArray,opN_zero,opN_succ]
    iterate 11 (refine ⟨?_,Or.inl ⟨by rfl,?_⟩,?_⟩;rotate_left;(· (intro w hSw;(try dsimp only at hSw);go_simp;try with_reducible rfl));try simp only [Act.put,List.setIfInBounds_toArray,List.set_cons_zero,List.set_cons_succ])
    have XN:=Lib.hid ((heap_alloc_old wd (.cells #[.int .i64 yl0,.int .i64 yl1,.slice yda db.length ydc,.int .i64 pm] 57 (0,0)) (r:=ib) (by omega)).trans XId.out)
    have ON:=Lib.hid (OId.out.alloc (.cells #[.int .i64 yl0,.int .i64 yl1,.slice yda db.length ydc,.int .i64 pm] 57 (0,0)))
    have RN:=Lib.hid (RId.out.alloc (.cells #[.int .i64 yl0,.int .i64 yl1,.slice yda db.length ydc,.int .i64 pm] 57 (0,0)))
    have TN:=Lib.hid (TId.out.alloc (fun b hb=>by have:=hb.1;omega) (.cells #[.int .i64 yl0,.int .i64 yl1,.slice yda db.length ydc,.int .i64 pm] 57 (0,0)))
    have NN:=Lib.hid (heap_alloc_new wd (.cells #[.int .i64 yl0,.int .i64 yl1,.slice yda db.length ydc,.int .i64 pm] 57 (0,0)))
    have hzn:wd.heap.size<(wd.alloc (.cells #[.int .i64 yl0,.int .i64 yl1,.slice yda db.length ydc,.int .i64 pm] 57 (0,0))).heap.size:=by simp
    have Oyl_n:=Lib.hid (Oyl_d.out.alloc (.cells #[.int .i64 yl0,.int .i64 yl1,.slice yda db.length ydc,.int .i64 pm] 57 (0,0)))
    have Oyd_n:=Lib.hid (Oyd_d.out.alloc (.cells #[.int .i64 yl0,.int .i64 yl1,.slice yda db.length ydc,.int .i64 pm] 57 (0,0)))
    refine wpAnyH_ready (rs:=[11]) (by kernel_rfl) (by simp) ?_
    refine AllReadyH.cons rfl (fun K hK=> ?_) AllReadyH.nil
    go_simp
    refine hK.out _ _ ⟨(World.cell?_alloc_lt _ _ _ (World.block_lt_of_cell? _ _ hHeld.1)).trans hHeld.1,(World.cell?_alloc_lt _ _ _ (World.block_lt_of_cell? _ _ hHeld.2.1)).trans hHeld.2.1,(World.cell?_alloc_lt _ _ _ (World.block_lt_of_cell? _ _ hHeld.2.2)).trans hHeld.2.2⟩ (fun hHeld=> ?_)
    clear hK K
    try simp only [List.getElem_toArray,List.getElem_cons_zero,List.getElem_cons_succ,Act.put,List.setIfInBounds_toArray,List.set_cons_zero,List.set_cons_succ]
    clear XId OId RId TId
    generalize wd.alloc (.cells #[.int .i64 yl0,.int .i64 yl1,.slice yda db.length ydc,.int .i64 pm] 57 (0,0))=wn at *
    have HRow:Hid (kSeg.R (fun b=>b<wn.heap.size∧¬ b<w6.heap.size∧(Value.slice oa q oc).ownBlock≠some b) wn (⟨yl0,yl1,db,pm⟩:SegL) [.int .i64 yl0,.int .i64 yl1,.slice yda db.length ydc,.int .i64 pm]):=Lib.hid ⟨_,rfl,(OwnK.lbB plain_byte Oyd_n.out).imp (fun b hb=>⟨hb.1,by have:=hb.2;omega,fun e=>by have:=(hown.out b e).2;have:=hb.2;omega⟩)⟩
    have HOne:Hid (∀ u∈([.int .i64 yl0,.int .i64 yl1,.slice yda db.length ydc,.int .i64 pm]:List Value),u.oneCell'=true):=Lib.hid (by
     intro u hu
     simp only [List.mem_cons,List.not_mem_nil,or_false]at hu
     rcases hu with rfl | rfl | rfl | rfl<;>rfl)
    refine wpAnyH_ready (rs:=[12]) (by kernel_rfl) (by simp) ?_
    refine AllReadyH.cons rfl (fun K hK=> ?_) AllReadyH.nil
    rw [if_pos (by rfl)]
    simp only [List.getElem_toArray,List.getElem_cons_succ,List.getElem_cons_zero]
    refine wp_appendK (K:=kSeg) (v:=.slice oa q oc) (e:=57) (B:=w6.heap.size) (E:=(·<w6.heap.size)) 26 (.agg #[.int .i64 0,.int .i64 0,.slice none 0 0,.int .i64 0]) 48 Tryz.underlying26 info_seg rfl (by decide) (.tmp 61) (.tmp 71) rfl q Hxl.out rfl ON.out (fun b hb=>by have hb:b<w6.heap.size:=hb;omega) wd.heap.size (⟨yl0,yl1,db,pm⟩:SegL) [.int .i64 yl0,.int .i64 yl1,.slice yda db.length ydc,.int .i64 pm] rfl (row_of NN.out) HOne.out HRow.out (by rw [Hxl.out];omega) (by rw [Hxl.out];omega) (by omega) ?_
    rintro g7 c7 w7 ho7 hs7 hg7-
    have hne:∀ b,b<w6.heap.size→(Value.slice oa q oc).ownBlock≠some b:=fun b hb e=>by have:=(hown.out b e).1;omega
    have hnv:∀ b,v0.heap.size≤b→(Value.slice oa q oc).ownBlock≠some b:=fun b hb e=>by have:=(hown.out b e).2;omega
    have X7:=Lib.hid ((hs7.block ib ⟨by omega,hne ib (by omega)⟩).trans XN.out)
    have R7:=Lib.hid (RN.out.step hs7 ⟨by omega,hne rb (by omega)⟩ ⟨by omega,hne gb (by omega)⟩)
    have S7:=Lib.hid ((TN.out.imp (S':=fun x=>x<w6.heap.size∧x≠rb∧x≠ib) (fun x hx=>⟨by have:=hx.1;omega,hx.2.1⟩)).trans (hs7.imp (fun x hx=>⟨by have:=hx.1;omega,hne x hx.1⟩)))
    have O7:=Lib.hid ho7
    refine hK.out _ _ ⟨(hs7.cell (p:=⟨ib,2,none⟩) ⟨by show ib<_;omega,hne ib (by omega)⟩).trans hHeld.1,(hs7.cell (p:=⟨ylg,0,none⟩) ⟨by show ylg<_;omega,hnv ylg (by omega)⟩).trans hHeld.2.1,(hs7.cell (p:=⟨ylg,1,none⟩) ⟨by show ylg<_;omega,hnv ylg (by omega)⟩).trans hHeld.2.2⟩ (fun hHeld=> ?_)
    clear hK K ho7 hs7 hg7
    try simp only [List.getElem_toArray,List.getElem_cons_zero,List.getElem_cons_succ,Act.put,List.setIfInBounds_toArray,List.set_cons_zero,List.set_cons_succ]
    refine wpAnyH_done (by kernel_rfl) ?_ _
    simp only [phaseQ]
    clear hHeld
    have cI:w7.cell? ⟨ib,2,none⟩=some (.slice oa q oc):=by rw [Lib.cell_of_heap X7.out];rfl
    have fI:w7.frozen? ⟨ib,2,none⟩=false:=Lib.frozen_of_heap X7.out 2
    have hs9:Step (fun b=>b≠ib) w7 (w7.setCell ⟨ib,2,none⟩ (.slice (some ⟨g7,0,none⟩) (q+1) c7)):=(Step.refl _ w7).setCell (fun h=>h rfl) _
    have X9:Hid ((w7.setCell ⟨ib,2,none⟩ (.slice (some ⟨g7,0,none⟩) (q+1) c7)).heap[ib]? =some (.cells (imgCells ⟨.slice (some ⟨g7,0,none⟩) (q+1) c7,y1,y2,y3,y4,y5,y6,y7,y8,y9,y10⟩ im) 40 (0,0))):=Lib.hid (setCell_listX X7.out 2 (.slice (some ⟨g7,0,none⟩) (q+1) c7))
    have Hfin:=Lib.hid (ZQ.next Hxl.out H4.out H5.out H7.out (HG.out.eff f1) (⟨kyl0,kyl1,Kpm.out,Kdb.out⟩) (O7.out.step hs9 (fun b _ hb e=>hb (by rw [e];show ib<_;omega))) (R7.out.step hs9 (by show rb≠ib;omega) (by show gb≠ib;omega)) (S7.out.trans (hs9.imp (fun x hx=>hx.2.2))))
    clear hs9
    go_wp2_with fail
    exact HK.out r _ _ rfl ⟨by omega,f1,⟨by kernel_rfl,rfl,(by kernel_rfl),(by kernel_rfl),(by kernel_rfl),(by kernel_rfl),(by show Value.int .i64 _=_;rw [Hrr.out];go_num),trivial⟩,_,X9.out,by rw [Hq1.out];exact Hfin.out⟩
   ·have hd2:((lsn:Int)==2)=false:=by rw [beq_eq_false_iff_ne];omega
    have hst:s4=none:=Gdb.out.1 (Gpm.out.1 (HLls.out.shrunk (by have:=Hlsn.out;omega)))
    have X9:=Lib.hid ((T4.out.block ib ⟨by omega,by omega⟩).trans HX.out)
    have hrn:=R4.out
    rw [hst]at hrn
    have hgn:=HG.out.eff f1
    rw [hst,estS_none]at hgn
    have Hfin:=Lib.hid (ZQ.skip (f':=f1) Hxl.out H4.out H5.out H7.out hgn (HO.out.step T4.out (fun y h1 h2=>⟨h1,fun e=>h2 (by rw [e];show rb<_;omega)⟩)) hrn (T4.out.imp (fun x hx=>⟨by have:=hx.1;omega,hx.2.1⟩)))
    clear hrn hgn
    go_wp2_with fail
    exact HK.out r _ _ rfl ⟨by omega,f1,⟨by kernel_rfl,rfl,(by kernel_rfl),(by kernel_rfl),(by kernel_rfl),(by kernel_rfl),(by show Value.int .i64 _=_;rw [Hrr.out];go_num),trivial⟩,_,X9.out,by rw [Hq1.out];exact Hfin.out⟩
end Go.Proofs.YtfchpchabdhcgaaGreat
namespace Go.Proofs.YtfchpchabdhcgaaGreat
open Go.RowKit
theorem ztl2 {w:World} {l:List UInt8} {a:Act} {w5:World} {B rb gb ib:Nat} {f:Bool} {s:Option (List UInt8)} {v:ImgV} {im:ImgL} {P':List NeedL→List UInt8→Option (ImgL × List UInt8)} (hF:zFr [(2,.pointer (some ⟨w.heap.size,0,none⟩)),(4,.pointer (some ⟨rb,0,none⟩)),(5,.pointer (some ⟨ib,0,none⟩)),(6,.bool f)] a) (hC:ZSt w l B rb gb ib w5 f s v im (bindP (numP 1) fun n=>bindP (manyP needP n.toNat) P')) (hv:v.needed=.slice none 0 0)
  (hK:∀ (a':Act) (w':World) (f':Bool) (s':Option (List UInt8)) (u:Value) (xs:List NeedL),zFr [(2,.pointer (some ⟨w.heap.size,0,none⟩)),(4,.pointer (some ⟨rb,0,none⟩)),(5,.pointer (some ⟨ib,0,none⟩)),(6,.bool f')] a'→ZSt w l B rb gb ib w' f' s' {v with needed:=u } {im with needed:=xs } (P' xs)→(zRest Tryz.f22 8).wp Tryz.prog (bodyPost Tryz.prog Tryz.f22 (ReadPost w l)) a' w'):(zRest Tryz.f22 7).wp Tryz.prog (bodyPost Tryz.prog Tryz.f22 (ReadPost w l)) a w5:=by
 have HK:=Lib.hid hK
 have HC:=Lib.hid hC
 have b1:=hC.h1
 have b2:=hC.h2
 have b3:=hC.h3
 have b4:=hC.h4
 have b5:=hC.h5
 have R5:=Lib.hid hC.rd
 have X5:=Lib.hid hC.ix
 clear hC hK
 obtain⟨y0,y1,y2,y3,y4,y5,y6,y7,y8,y9,y10⟩:=v
 replace hv:y1=.slice none 0 0:=hv
 subst hv
 have e7:zRest Tryz.f22 7=.seq (zCode Tryz.f22 7) (zRest Tryz.f22 8):=zd_seq _ 7 (by kernel_rfl)
 rw [e7]
 clear e7
 apply zFr.elim hF
 clear hF
 intro _ _
 intro V2
 intro _
 intro V4
 intro V5
 intro V6
 iterate 272 (intro _)
 intro hF
 obtain⟨-,-,e2,e4,e5,e6,-⟩:=hF
 replace e2:V2=.pointer (some ⟨w.heap.size,0,none⟩):=e2
 subst e2
 replace e4:V4=.pointer (some ⟨rb,0,none⟩):=e4
 subst e4
 replace e5:V5=.pointer (some ⟨ib,0,none⟩):=e5
 subst e5
 replace e6:V6=.bool f:=e6
 subst e6
 conv in zCode _ 7=>whnf
 have HN:=Lib.hid (ynum_any w5 rb gb s 1 R5.out (by decide))
 have hgn:=got_num s 1
 obtain⟨m,hm,hmm⟩:=okN_idx (by decide) (numS_ok s 1 (by decide))
 have hm1:m<256:=hmm
 clear hmm
 obtain⟨s1,hs1⟩:∃ x,x=(numS s 1).2:=⟨_,rfl⟩
 rw [hm,← hs1]at HN hgn
 have GN:=Lib.hid hgn
 clear hgn hm hs1
 go_wp2_with fail
 refine HN.out.mono ?_
 clear HN
 rintro e w6 ⟨rfl,hr,hs,hzn⟩
 have R6:=Lib.hid hr
 have X6:=Lib.hid ((hs.block ib (by omega)).trans X5.out)
 have Q6:=Lib.hid hs
 have hB6:B≤w6.heap.size:=by omega
 clear hr hs X5 R5
 have FIN:Hid (∀ (a':Act) (wr:World) (f':Bool) (st:Option (List UInt8)) (u:Value) (xs:List NeedL),zFr [(2,.pointer (some ⟨w.heap.size,0,none⟩)),(4,.pointer (some ⟨rb,0,none⟩)),(5,.pointer (some ⟨ib,0,none⟩)),(6,.bool f')] a'→OwnK 67 kNeed w6.heap.size (·<w6.heap.size) wr u xs→(∀ x∈xs,okNeed x)→Got (manyP needP m) (estS f s1) xs (estS f' st)→RX rb gb wr st→Step (fun x=>x<w6.heap.size∧x≠rb∧x≠ib) w6 wr→wr.heap[ib]? =some (.cells (imgCells ⟨y0,u,y2,y3,y4,y5,y6,y7,y8,y9,y10⟩ im) 40 (0,0))→(zRest Tryz.f22 8).wp Tryz.prog (bodyPost Tryz.prog Tryz.f22 (ReadPost w l)) a' wr):=Lib.hid (by
  intro a' wr f' st u xs hFr ho hK hg hr hs hx
  have hs5:Step (fun x=>x<w5.heap.size∧x≠rb∧x≠ib) w5 wr:=(Q6.out.imp (fun x h=>h.2.1)).trans (hs.imp (fun x h=>⟨by have:=h.1;omega,h.2⟩))
  exact HK.out a' wr f' st u xs hFr (HC.out.go (v':=⟨y0,u,y2,y3,y4,y5,y6,y7,y8,y9,y10⟩) (im':={im with needed:=xs }) hs5 hr hx
   {
    HC.out.imgStep hs5 with
    needed:=ho.lb.imp (fun b hb=>⟨by have:=hb.2;omega,hb.1⟩)} (fun x st' h=>(GN.out.eff f).bind (hg.bind h))))
 clear HK hzn
 go_wp2_with fail
 refine wp_loop_dn (k:=11) (m:=m) (fun r a wr=>r≤m∧∃ f',zFr [(2,.pointer (some ⟨w.heap.size,0,none⟩)),(4,.pointer (some ⟨rb,0,none⟩)),(5,.pointer (some ⟨ib,0,none⟩)),(6,.bool f'),(11,.int .i64 (r:Nat))] a∧∃ u,wr.heap[ib]? =some (.cells (imgCells ⟨y0,u,y2,y3,y4,y5,y6,y7,y8,y9,y10⟩ im) 40 (0,0))∧ZQ 67 kNeed needP okNeed rb gb ib w6 f s1 wr u (m-r) f') ?_ ?_ ?_
 ·rintro r a wr ⟨-,f',h,-⟩
  exact zFrL.get h.2.2 (11,.int .i64 (r:Nat)) (by simp)
 ·exact⟨Nat.le_refl _,f,⟨by kernel_rfl,rfl,(by kernel_rfl),(by kernel_rfl),(by kernel_rfl),(by kernel_rfl),(by kernel_rfl),trivial⟩,_,X6.out,by rw [Nat.sub_self];exact ZQ.start R6.out⟩
 clear X6 R6 Q6 GN HC
 intro r a v0 K hI HK
 obtain⟨hrm,f1,hF,u,hX,hq⟩:=hI
 replace HK:=Lib.hid HK
 obtain⟨xs,st,h1,h2,h3,h4,h5,h6,h7⟩:=hq
 apply zFr.elim hF
 clear hF
 intro _ _
 intro V2
 intro _
 intro V4
 intro V5
 intro V6
 intro _ _ _ _
 intro V11
 iterate 267 (intro _)
 intro hF
 obtain⟨-,-,e2,e4,e5,e6,e11,-⟩:=hF
 replace e2:V2=.pointer (some ⟨w.heap.size,0,none⟩):=e2
 subst e2
 replace e4:V4=.pointer (some ⟨rb,0,none⟩):=e4
 subst e4
 replace e5:V5=.pointer (some ⟨ib,0,none⟩):=e5
 subst e5
 replace e6:V6=.bool f1:=e6
 subst e6
 replace e11:V11=.int .i64 (r:Nat):=e11
 subst e11
 have HO:=Lib.hid h1
 have HX:=Lib.hid hX
 have H4:=Lib.hid h4
 have H5:=Lib.hid h5
 have R0:=Lib.hid h6
 have H7:=Lib.hid h7
 have hz00:=h7.size
 obtain⟨fe,hfe,hfs⟩:=h6.fault
 clear h1 hX h4 h5 h6 h7
 cases r with
 | zero=>
  have hd:decide ((0:Int)<((0:Nat):Int))=false:=rfl
  go_wp2_with fail
  exact FIN.out _ v0 f1 st u xs ⟨by kernel_rfl,rfl,(by kernel_rfl),(by kernel_rfl),(by kernel_rfl),(by kernel_rfl),trivial⟩ HO.out H4.out H5.out R0.out H7.out HX.out
 | succ r=>
  obtain⟨rr,hrr⟩:∃ x:Int,x=((r+1:Nat):Int):=⟨_,rfl⟩
  have Hrr:=Lib.hid hrr
  have hrr1:1≤rr:=by omega
  have hrr2:rr≤256:=by omega
  have hd:decide ((0:Int)<rr)=true:=by rw [decide_eq_true_eq];omega
  rw [← hrr]
  clear hrr
  cases st with
  | none=>
   have hf2:(fe==0)=false:=hfs
   clear hfs
   go_wp2_with fail
   have hs4:=H5.out
   rw [estS_none]at hs4
   exact FIN.out _ v0 f1 none u xs ⟨by kernel_rfl,rfl,(by kernel_rfl),(by kernel_rfl),(by kernel_rfl),(by kernel_rfl),trivial⟩ HO.out H4.out (by rw [estS_none];exact hs4.stop (by omega) _) R0.out H7.out HX.out
  | some lb=>
   have hf2:(fe==0)=true:=hfs
   have hxl:=h3 (by simp)
   clear hfs h2 h3 FIN
   obtain⟨oa,oc,huf⟩:=HO.out.form
   obtain⟨q,hqq⟩:∃ q,q=m-(r+1):=⟨_,rfl⟩
   have hq1:m-r=q+1:=by omega
   have hq2:q≤256:=by omega
   rw [← hqq]at hxl H5
   rw [hxl]at huf
   subst huf
   have Hxl:=Lib.hid hxl
   have Hq1:=Lib.hid hq1
   clear hxl hq1 hqq
   have T0:=Lib.hid (Step.refl (fun x=>x<v0.heap.size∧x≠rb) v0)
   have hz0:v0.heap.size≤v0.heap.size:=Nat.le_refl _
   have HN:=Lib.hid (ytext_any v0 rb gb (some lb) R0.out)
   have hgn:=got_part (some lb) 2 4096 (by decide)
   have hno:=partS_len (some lb) 2 4096 (by decide)
   obtain⟨nm,hx1⟩:∃ x,x=(partS (some lb) 2 4096).1:=⟨_,rfl⟩
   obtain⟨s2,hs1⟩:∃ x,x=(partS (some lb) 2 4096).2:=⟨_,rfl⟩
   rw [← hx1,← hs1]at HN hgn
   rw [← hx1]at hno
   have Gnm:=Lib.hid hgn
   have Knm:=Lib.hid hno
   clear hgn hno hx1 hs1
   go_wp2_with fail
   refine HN.out.mono ?_
   clear HN
   rintro e v1 ⟨rfl,hr,hs,hzn⟩
   have R1:=Lib.hid hr
   have T1:=Lib.hid (T0.out.trans (hs.imp (fun x hx=>hx.2)))
   have hz1:=Nat.le_trans hz0 hs.size
   clear T0
   clear hr hs hzn R0
   go_upto_region 18 with fail
   have XI:=Lib.hid ((T1.out.block ib ⟨by omega,by omega⟩).trans HX.out)
   have OI:=Lib.hid (HO.out.step T1.out (fun y h1 h2=>⟨h1,fun e=>h2 (by rw [e];show rb<_;omega)⟩))
   have hown:=Lib.hid HO.out.lt
   have cI:v1.cell? ⟨ib,3,none⟩=some (.slice oa q oc):=by rw [Lib.cell_of_heap XI.out];rfl
   clear HO HX
   refine wp_region_phase 8 (by kernel_rfl) (by kernel_rfl) ?_
   simp only [List.take_succ_cons,List.take_zero,List.drop_succ_cons,List.drop_zero,List.take_nil,List.drop_nil]
   refine wpAny_of_held (S:=fun w':World=>w'.cell? ⟨ib,3,none⟩=some (.slice oa q oc)) _ _ _ _ ?_
   have hHeld:(fun w':World=>w'.cell? ⟨ib,3,none⟩=some (.slice oa q oc)) (World.drew v1):=(cI)
   show wpAnyH _ _ _ _ _ _ _ _ (World.drew _)
   have XId:Hid ((World.drew v1).heap[ib]? =_):=Lib.hid XI.out
   have OId:=Lib.hid OI.out.drew
   have RId:=Lib.hid R1.out.drew
   have TId:=Lib.hid T1.out.drew
   have hzd:v0.heap.size≤(World.drew v1).heap.size:=hz1
   have hzd2:v1.heap.size≤(World.drew v1).heap.size:=Nat.le_refl _
   clear XI OI R1 T1 cI
   generalize (World.drew v1)=wd at *
   refine wpAnyH_reads [0,1,2,3] hHeld (fun _ _ _ _ _ h=>h) (by kernel_rfl) rfl rfl ?_
   simp only [Takes,List.toList_toArray,opN_zero,opN_succ]
   iterate 4 (refine ⟨?_,Or.inl ⟨by rfl,?_⟩,?_⟩;rotate_left;(· (intro w hSw;(try dsimp only at hSw);go_simp;try with_reducible rfl));try simp only [Act.put,List.setIfInBounds_toArray,List.set_cons_zero,List.set_cons_succ])
   refine wpAnyH_ready (rs:=[4]) (by kernel_rfl) (by simp) ?_
   refine AllReadyH.cons rfl (fun K hK=> ?_) AllReadyH.nil
   go_simp
   refine(zwords_any wd rb gb s2 RId.out).mono ?_
   rintro e we ⟨kn,s3,yw,ws,s4,rfl,hgk,hkn,hq⟩
   have hs:=hq.step
   have RIe:=Lib.hid hq.rd
   have TIe:=Lib.hid (TId.out.trans (hs.imp (fun x hx=>⟨by have:=hx.1;omega,hx.2⟩)))
   have XIe:=Lib.hid ((hs.block ib ⟨by omega,by omega⟩).trans XId.out)
   have OIe:=Lib.hid (OId.out.step hs (fun y h1 h2=>⟨h1,fun e=>h2 (by rw [e];show rb<_;omega)⟩))
   have hze:v0.heap.size≤we.heap.size:=by have:=hs.size;omega
   have hde:=hs.size
   have HLq:=Lib.hid hq
   have Oyw_e:=Lib.hid hq.own
   obtain⟨ywa,ywc,hyw⟩:=Oyw_e.out.form
   subst hyw
   refine hK.out _ _ ((hs.cell (p:=⟨ib,3,none⟩) ⟨by show ib<_;omega,by show ib≠rb;omega⟩).trans hHeld) (fun hHeld=> ?_)
   clear hK K hs hq XId OId RId TId
   try simp only [List.getElem_toArray,List.getElem_cons_zero,List.getElem_cons_succ,Act.put,List.setIfInBounds_toArray,List.set_cons_zero,List.set_cons_succ]
   have HG:Hid (Got needP (some lb) (⟨nm,ws⟩:NeedL) s4):=Lib.hid (Gnm.out.bind (hgk.bind (HLq.out.got.bind (Got.pure _ _))))
   clear hgk
   refine wpAnyH_reads [5] hHeld (fun _ _ _ _ _ h=>h) (by kernel_rfl) rfl rfl ?_
   simp only [Takes,List.toList_toArray,opN_zero,opN_succ]
   iterate 1 (refine ⟨?_,Or.inl ⟨by rfl,?_⟩,?_⟩;rotate_left;(· (intro w hSw;(try dsimp only at hSw);go_simp;try with_reducible rfl));try simp only [Act.put,List.setIfInBounds_toArray,List.set_cons_zero,List.set_cons_succ])
   have XN:=Lib.hid ((heap_alloc_old we (.cells #[.string ⟨nm.toArray⟩,.slice ywa ws.length ywc] 67 (0,0)) (r:=ib) (by omega)).trans XIe.out)
   have ON:=Lib.hid (OIe.out.alloc (.cells #[.string ⟨nm.toArray⟩,.slice ywa ws.length ywc] 67 (0,0)))
   have RN:=Lib.hid (RIe.out.alloc (.cells #[.string ⟨nm.toArray⟩,.slice ywa ws.length ywc] 67 (0,0)))
   have TN:=Lib.hid (TIe.out.alloc (fun b hb=>by have:=hb.1;omega) (.cells #[.string ⟨nm.toArray⟩,.slice ywa ws.length ywc] 67 (0,0)))
   have NN:=Lib.hid (heap_alloc_new we (.cells #[.string ⟨nm.toArray⟩,.slice ywa ws.length ywc] 67 (0,0)))
   have hzn:we.heap.size<(we.alloc (.cells #[.string ⟨nm.toArray⟩,.slice ywa ws.length ywc] 67 (0,0))).heap.size:=by simp
   have Oyw_n:=Lib.hid (Oyw_e.out.alloc (.cells #[.string ⟨nm.toArray⟩,.slice ywa ws.length ywc] 67 (0,0)))
   refine wpAnyH_ready (rs:=[6]) (by kernel_rfl) (by simp) ?_
   refine AllReadyH.cons rfl (fun K hK=> ?_) AllReadyH.nil
   go_simp
   refine hK.out _ _ ((World.cell?_alloc_lt _ _ _ (World.block_lt_of_cell? _ _ hHeld)).trans hHeld) (fun hHeld=> ?_)
   clear hK K
   try simp only [List.getElem_toArray,List.getElem_cons_zero,List.getElem_cons_succ,Act.put,List.setIfInBounds_toArray,List.set_cons_zero,List.set_cons_succ]
   clear XIe OIe RIe TIe
   generalize we.alloc (.cells #[.string ⟨nm.toArray⟩,.slice ywa ws.length ywc] 67 (0,0))=wn at *
   have HRow:Hid (kNeed.R (fun b=>b<wn.heap.size∧¬ b<w6.heap.size∧(Value.slice oa q oc).ownBlock≠some b) wn (⟨nm,ws⟩:NeedL) [.string ⟨nm.toArray⟩,.slice ywa ws.length ywc]):=Lib.hid ⟨_,rfl,Oyw_n.out.lb.imp (fun b hb=>⟨hb.1,by have:=hb.2;omega,fun e=>by have:=(hown.out b e).2;have:=hb.2;omega⟩),Nat.le_trans Knm.out (by decide)⟩
   have HOne:Hid (∀ u∈([.string ⟨nm.toArray⟩,.slice ywa ws.length ywc]:List Value),u.oneCell'=true):=Lib.hid (by
    intro u hu
    simp only [List.mem_cons,List.not_mem_nil,or_false]at hu
    rcases hu with rfl | rfl<;>rfl)
   refine wpAnyH_ready (rs:=[7]) (by kernel_rfl) (by simp) ?_
   refine AllReadyH.cons rfl (fun K hK=> ?_) AllReadyH.nil
   rw [if_pos (by rfl)]
   simp only [List.getElem_toArray,List.getElem_cons_succ,List.getElem_cons_zero]
   refine wp_appendK (K:=kNeed) (v:=.slice oa q oc) (e:=67) (B:=w6.heap.size) (E:=(·<w6.heap.size)) 27 (.agg #[.string ⟨#[]⟩,.slice none 0 0]) 40 Tryz.underlying27 info_need rfl (by decide) (.tmp 90) (.tmp 95) rfl q Hxl.out rfl ON.out (fun b hb=>by have hb:b<w6.heap.size:=hb;omega) we.heap.size (⟨nm,ws⟩:NeedL) [.string ⟨nm.toArray⟩,.slice ywa ws.length ywc] rfl (row_of NN.out) HOne.out HRow.out (by rw [Hxl.out];omega) (by rw [Hxl.out];omega) (by omega) ?_
   rintro g7 c7 w7 ho7 hs7 hg7-
   have hne:∀ b,b<w6.heap.size→(Value.slice oa q oc).ownBlock≠some b:=fun b hb e=>by have:=(hown.out b e).1;omega
   have hnv:∀ b,v0.heap.size≤b→(Value.slice oa q oc).ownBlock≠some b:=fun b hb e=>by have:=(hown.out b e).2;omega
   have X7:=Lib.hid ((hs7.block ib ⟨by omega,hne ib (by omega)⟩).trans XN.out)
   have R7:=Lib.hid (RN.out.step hs7 ⟨by omega,hne rb (by omega)⟩ ⟨by omega,hne gb (by omega)⟩)
   have S7:=Lib.hid ((TN.out.imp (S':=fun x=>x<w6.heap.size∧x≠rb∧x≠ib) (fun x hx=>⟨by have:=hx.1;omega,hx.2.1⟩)).trans (hs7.imp (fun x hx=>⟨by have:=hx.1;omega,hne x hx.1⟩)))
   have O7:=Lib.hid ho7
   refine hK.out _ _ ((hs7.cell (p:=⟨ib,3,none⟩) ⟨by show ib<_;omega,hne ib (by omega)⟩).trans hHeld) (fun hHeld=> ?_)
   clear hK K ho7 hs7 hg7
   try simp only [List.getElem_toArray,List.getElem_cons_zero,List.getElem_cons_succ,Act.put,List.setIfInBounds_toArray,List.set_cons_zero,List.set_cons_succ]
   refine wpAnyH_done (by kernel_rfl) ?_ _
   simp only [phaseQ]
   clear hHeld
   have cI:w7.cell? ⟨ib,3,none⟩=some (.slice oa q oc):=by rw [Lib.cell_of_heap X7.out];rfl
   have fI:w7.frozen? ⟨ib,3,none⟩=false:=Lib.frozen_of_heap X7.out 3
   have hs9:Step (fun b=>b≠ib) w7 (w7.setCell ⟨ib,3,none⟩ (.slice (some ⟨g7,0,none⟩) (q+1) c7)):=(Step.refl _ w7).setCell (fun h=>h rfl) _
   have X9:Hid ((w7.setCell ⟨ib,3,none⟩ (.slice (some ⟨g7,0,none⟩) (q+1) c7)).heap[ib]? =some (.cells (imgCells ⟨y0,.slice (some ⟨g7,0,none⟩) (q+1) c7,y2,y3,y4,y5,y6,y7,y8,y9,y10⟩ im) 40 (0,0))):=Lib.hid (setCell_listX X7.out 3 (.slice (some ⟨g7,0,none⟩) (q+1) c7))
   have Hfin:=Lib.hid (ZQ.next Hxl.out H4.out H5.out H7.out (HG.out.eff f1) (⟨Knm.out,(by have:=HLq.out.le;show ws.length<256;omega),HLq.out.ok⟩) (O7.out.step hs9 (fun b _ hb e=>hb (by rw [e];show ib<_;omega))) (R7.out.step hs9 (by show rb≠ib;omega) (by show gb≠ib;omega)) (S7.out.trans (hs9.imp (fun x hx=>hx.2.2))))
   clear hs9
   go_wp2_with fail
   exact HK.out r _ _ rfl ⟨by omega,f1,⟨by kernel_rfl,rfl,(by kernel_rfl),(by kernel_rfl),(by kernel_rfl),(by kernel_rfl),(by show Value.int .i64 _=_;rw [Hrr.out];go_num),trivial⟩,_,X9.out,by rw [Hq1.out];exact Hfin.out⟩
end Go.Proofs.YtfchpchabdhcgaaGreat
namespace Go.Proofs.YtfchpchabdhcgaaGreat
open Go.RowKit
theorem ztl3 {w:World} {l:List UInt8} {a:Act} {w5:World} {B rb gb ib:Nat} {f:Bool} {s:Option (List UInt8)} {v:ImgV} {im:ImgL} {P':List SymL→List UInt8→Option (ImgL × List UInt8)} (hF:zFr [(2,.pointer (some ⟨w.heap.size,0,none⟩)),(4,.pointer (some ⟨rb,0,none⟩)),(5,.pointer (some ⟨ib,0,none⟩)),(6,.bool f)] a) (hC:ZSt w l B rb gb ib w5 f s v im (bindP (numP 2) fun n=>bindP (manyP symP n.toNat) P')) (hv:v.syms=.slice none 0 0)
  (hK:∀ (a':Act) (w':World) (f':Bool) (s':Option (List UInt8)) (u:Value) (xs:List SymL),zFr [(2,.pointer (some ⟨w.heap.size,0,none⟩)),(4,.pointer (some ⟨rb,0,none⟩)),(5,.pointer (some ⟨ib,0,none⟩)),(6,.bool f')] a'→ZSt w l B rb gb ib w' f' s' {v with syms:=u } {im with syms:=xs } (P' xs)→(zRest Tryz.f22 10).wp Tryz.prog (bodyPost Tryz.prog Tryz.f22 (ReadPost w l)) a' w'):(zRest Tryz.f22 9).wp Tryz.prog (bodyPost Tryz.prog Tryz.f22 (ReadPost w l)) a w5:=by
 have HK:=Lib.hid hK
 have HC:=Lib.hid hC
 have b1:=hC.h1
 have b2:=hC.h2
 have b3:=hC.h3
 have b4:=hC.h4
 have b5:=hC.h5
 have R5:=Lib.hid hC.rd
 have X5:=Lib.hid hC.ix
 clear hC hK
 obtain⟨y0,y1,y2,y3,y4,y5,y6,y7,y8,y9,y10⟩:=v
 replace hv:y3=.slice none 0 0:=hv
 subst hv
 have e9:zRest Tryz.f22 9=.seq (zCode Tryz.f22 9) (zRest Tryz.f22 10):=zd_seq _ 9 (by kernel_rfl)
 rw [e9]
 clear e9
 apply zFr.elim hF
 clear hF
 intro _ _
 intro V2
 intro _
 intro V4
 intro V5
 intro V6
 iterate 272 (intro _)
 intro hF
 obtain⟨-,-,e2,e4,e5,e6,-⟩:=hF
 replace e2:V2=.pointer (some ⟨w.heap.size,0,none⟩):=e2
 subst e2
 replace e4:V4=.pointer (some ⟨rb,0,none⟩):=e4
 subst e4
 replace e5:V5=.pointer (some ⟨ib,0,none⟩):=e5
 subst e5
 replace e6:V6=.bool f:=e6
 subst e6
 conv in zCode _ 9=>whnf
 have HN:=Lib.hid (ynum_any w5 rb gb s 2 R5.out (by decide))
 have hgn:=got_num s 2
 obtain⟨m,hm,hmm⟩:=okN_idx (by decide) (numS_ok s 2 (by decide))
 have hm1:m<65536:=hmm
 clear hmm
 obtain⟨s1,hs1⟩:∃ x,x=(numS s 2).2:=⟨_,rfl⟩
 rw [hm,← hs1]at HN hgn
 have GN:=Lib.hid hgn
 clear hgn hm hs1
 go_wp2_with fail
 refine HN.out.mono ?_
 clear HN
 rintro e w6 ⟨rfl,hr,hs,hzn⟩
 have R6:=Lib.hid hr
 have X6:=Lib.hid ((hs.block ib (by omega)).trans X5.out)
 have Q6:=Lib.hid hs
 have hB6:B≤w6.heap.size:=by omega
 clear hr hs X5 R5
 have FIN:Hid (∀ (a':Act) (wr:World) (f':Bool) (st:Option (List UInt8)) (u:Value) (xs:List SymL),zFr [(2,.pointer (some ⟨w.heap.size,0,none⟩)),(4,.pointer (some ⟨rb,0,none⟩)),(5,.pointer (some ⟨ib,0,none⟩)),(6,.bool f')] a'→OwnK 72 kSym w6.heap.size (·<w6.heap.size) wr u xs→(∀ x∈xs,okSym x)→Got (manyP symP m) (estS f s1) xs (estS f' st)→RX rb gb wr st→Step (fun x=>x<w6.heap.size∧x≠rb∧x≠ib) w6 wr→wr.heap[ib]? =some (.cells (imgCells ⟨y0,y1,y2,u,y4,y5,y6,y7,y8,y9,y10⟩ im) 40 (0,0))→(zRest Tryz.f22 10).wp Tryz.prog (bodyPost Tryz.prog Tryz.f22 (ReadPost w l)) a' wr):=Lib.hid (by
  intro a' wr f' st u xs hFr ho hK hg hr hs hx
  have hs5:Step (fun x=>x<w5.heap.size∧x≠rb∧x≠ib) w5 wr:=(Q6.out.imp (fun x h=>h.2.1)).trans (hs.imp (fun x h=>⟨by have:=h.1;omega,h.2⟩))
  exact HK.out a' wr f' st u xs hFr (HC.out.go (v':=⟨y0,y1,y2,u,y4,y5,y6,y7,y8,y9,y10⟩) (im':={im with syms:=xs }) hs5 hr hx
   {
    HC.out.imgStep hs5 with
    syms:=ho.lb.imp (fun b hb=>⟨by have:=hb.2;omega,hb.1⟩)} (fun x st' h=>(GN.out.eff f).bind (hg.bind h))))
 clear HK hzn
 go_wp2_with fail
 refine wp_loop_dn (k:=13) (m:=m) (fun r a wr=>r≤m∧∃ f',zFr [(2,.pointer (some ⟨w.heap.size,0,none⟩)),(4,.pointer (some ⟨rb,0,none⟩)),(5,.pointer (some ⟨ib,0,none⟩)),(6,.bool f'),(13,.int .i64 (r:Nat))] a∧∃ u,wr.heap[ib]? =some (.cells (imgCells ⟨y0,y1,y2,u,y4,y5,y6,y7,y8,y9,y10⟩ im) 40 (0,0))∧ZQ 72 kSym symP okSym rb gb ib w6 f s1 wr u (m-r) f') ?_ ?_ ?_
 ·rintro r a wr ⟨-,f',h,-⟩
  exact zFrL.get h.2.2 (13,.int .i64 (r:Nat)) (by simp)
 ·exact⟨Nat.le_refl _,f,⟨by kernel_rfl,rfl,(by kernel_rfl),(by kernel_rfl),(by kernel_rfl),(by kernel_rfl),(by kernel_rfl),trivial⟩,_,X6.out,by rw [Nat.sub_self];exact ZQ.start R6.out⟩
 clear X6 R6 Q6 GN HC
 intro r a v0 K hI HK
 obtain⟨hrm,f1,hF,u,hX,hq⟩:=hI
 replace HK:=Lib.hid HK
 obtain⟨xs,st,h1,h2,h3,h4,h5,h6,h7⟩:=hq
 apply zFr.elim hF
 clear hF
 intro _ _
 intro V2
 intro _
 intro V4
 intro V5
 intro V6
 iterate 6 (intro _)
 intro V13
 iterate 265 (intro _)
 intro hF
 obtain⟨-,-,e2,e4,e5,e6,e13,-⟩:=hF
 replace e2:V2=.pointer (some ⟨w.heap.size,0,none⟩):=e2
 subst e2
 replace e4:V4=.pointer (some ⟨rb,0,none⟩):=e4
 subst e4
 replace e5:V5=.pointer (some ⟨ib,0,none⟩):=e5
 subst e5
 replace e6:V6=.bool f1:=e6
 subst e6
 replace e13:V13=.int .i64 (r:Nat):=e13
 subst e13
 have HO:=Lib.hid h1
 have HX:=Lib.hid hX
 have H4:=Lib.hid h4
 have H5:=Lib.hid h5
 have R0:=Lib.hid h6
 have H7:=Lib.hid h7
 have hz00:=h7.size
 obtain⟨fe,hfe,hfs⟩:=h6.fault
 clear h1 hX h4 h5 h6 h7
 cases r with
 | zero=>
  have hd:decide ((0:Int)<((0:Nat):Int))=false:=rfl
  go_wp2_with fail
  exact FIN.out _ v0 f1 st u xs ⟨by kernel_rfl,rfl,(by kernel_rfl),(by kernel_rfl),(by kernel_rfl),(by kernel_rfl),trivial⟩ HO.out H4.out H5.out R0.out H7.out HX.out
 | succ r=>
  obtain⟨rr,hrr⟩:∃ x:Int,x=((r+1:Nat):Int):=⟨_,rfl⟩
  have Hrr:=Lib.hid hrr
  have hrr1:1≤rr:=by omega
  have hrr2:rr≤65536:=by omega
  have hd:decide ((0:Int)<rr)=true:=by rw [decide_eq_true_eq];omega
  rw [← hrr]
  clear hrr
  cases st with
  | none=>
   have hf2:(fe==0)=false:=hfs
   clear hfs
   go_wp2_with fail
   have hs4:=H5.out
   rw [estS_none]at hs4
   exact FIN.out _ v0 f1 none u xs ⟨by kernel_rfl,rfl,(by kernel_rfl),(by kernel_rfl),(by kernel_rfl),(by kernel_rfl),trivial⟩ HO.out H4.out (by rw [estS_none];exact hs4.stop (by omega) _) R0.out H7.out HX.out
  | some lb=>
   have hf2:(fe==0)=true:=hfs
   have hxl:=h3 (by simp)
   clear hfs h2 h3 FIN
   obtain⟨oa,oc,huf⟩:=HO.out.form
   obtain⟨q,hqq⟩:∃ q,q=m-(r+1):=⟨_,rfl⟩
   have hq1:m-r=q+1:=by omega
   have hq2:q≤65536:=by omega
   rw [← hqq]at hxl H5
   rw [hxl]at huf
   subst huf
   have Hxl:=Lib.hid hxl
   have Hq1:=Lib.hid hq1
   clear hxl hq1 hqq
   have T0:=Lib.hid (Step.refl (fun x=>x<v0.heap.size∧x≠rb) v0)
   have hz0:v0.heap.size≤v0.heap.size:=Nat.le_refl _
   have HN:=Lib.hid (zsymbol_any v0 rb gb (some lb) R0.out)
   go_wp2_with fail
   refine HN.out.mono ?_
   clear HN
   rintro e v1 ⟨y,fine,s2,rfl,hok,hgs,hr,hs⟩
   have R1:=Lib.hid hr
   have T1:=Lib.hid (T0.out.trans hs)
   have hz1:=Nat.le_trans hz0 hs.size
   have Hok:=Lib.hid hok
   have HGs:=Lib.hid hgs
   clear hr hs hok hgs R0 T0
   have FA:=Lib.hid (heap_alloc_new v1 (.cells #[.string ⟨#[]⟩,.string ⟨#[]⟩,.bool false,.int .i64 0,.bool false,.int .i64 0,.bool false,.int .i64 0,.int .i64 0] 72 (0,0)))
   go_upto_region 24 with (refine wpList_store_row rfl 72 (.tmp 14) (.tmp 117) rfl v1.heap.size (#[.string ⟨y.name.toArray⟩,.string ⟨y.version.toArray⟩,.bool y.old,.int .i64 y.kind,.bool y.weak,.int .i64 y.vis,.bool y.defined,.int .i64 y.value,.int .i64 y.size]) rfl rfl _ _ FA.out (by kernel_rfl) rfl (by simp [Value.oneCell']) ?_)
   have FS2:=Lib.hid (setRow_heap _ v1.heap.size _ (#[.string ⟨y.name.toArray⟩,.string ⟨y.version.toArray⟩,.bool y.old,.int .i64 y.kind,.bool y.weak,.int .i64 y.vis,.bool y.defined,.int .i64 y.value,.int .i64 y.size]) _ _ FA.out)
   have hsr:Step (fun x=>x<v1.heap.size) v1 ((v1.alloc (.cells #[.string ⟨#[]⟩,.string ⟨#[]⟩,.bool false,.int .i64 0,.bool false,.int .i64 0,.bool false,.int .i64 0,.int .i64 0] 72 (0,0))).setRow v1.heap.size (#[.string ⟨y.name.toArray⟩,.string ⟨y.version.toArray⟩,.bool y.old,.int .i64 y.kind,.bool y.weak,.int .i64 y.vis,.bool y.defined,.int .i64 y.value,.int .i64 y.size])):=(Step.of_below ((Below.refl _ v1).alloc (Nat.le_refl _) (.cells #[.string ⟨#[]⟩,.string ⟨#[]⟩,.bool false,.int .i64 0,.bool false,.int .i64 0,.bool false,.int .i64 0,.int .i64 0] 72 (0,0)))).trans ((step_setRow _ v1.heap.size (#[.string ⟨y.name.toArray⟩,.string ⟨y.version.toArray⟩,.bool y.old,.int .i64 y.kind,.bool y.weak,.int .i64 y.vis,.bool y.defined,.int .i64 y.value,.int .i64 y.size])).imp (fun x h=>by have h:x<v1.heap.size:=h;show x≠_;omega))
   have hr1:=R1.out.lt
   have hg1:=R1.out.gblt
   have R2:=Lib.hid (R1.out.step hsr hr1 hg1)
   have T2:=Lib.hid (T1.out.trans (hsr.imp (S':=fun x=>x<v0.heap.size∧x≠rb) (fun x h=>by have:=h.1;show x<_;omega)))
   have hz2:v1.heap.size<((v1.alloc (.cells #[.string ⟨#[]⟩,.string ⟨#[]⟩,.bool false,.int .i64 0,.bool false,.int .i64 0,.bool false,.int .i64 0,.int .i64 0] 72 (0,0))).setRow v1.heap.size (#[.string ⟨y.name.toArray⟩,.string ⟨y.version.toArray⟩,.bool y.old,.int .i64 y.kind,.bool y.weak,.int .i64 y.vis,.bool y.defined,.int .i64 y.value,.int .i64 y.size])).heap.size:=by simp
   clear hsr R1 T1 FA hr1 hg1
   generalize (v1.alloc (.cells #[.string ⟨#[]⟩,.string ⟨#[]⟩,.bool false,.int .i64 0,.bool false,.int .i64 0,.bool false,.int .i64 0,.int .i64 0] 72 (0,0))).setRow v1.heap.size (#[.string ⟨y.name.toArray⟩,.string ⟨y.version.toArray⟩,.bool y.old,.int .i64 y.kind,.bool y.weak,.int .i64 y.vis,.bool y.defined,.int .i64 y.value,.int .i64 y.size])=v2 at *
   generalize v1.heap.size=sb at *
   have XI:=Lib.hid ((T2.out.block ib ⟨by omega,by omega⟩).trans HX.out)
   have OI:=Lib.hid (HO.out.step T2.out (fun y h1 h2=>⟨h1,fun e=>h2 (by rw [e];show rb<_;omega)⟩))
   have hown:=Lib.hid HO.out.lt
   have cI:v2.cell? ⟨ib,5,none⟩=some (.slice oa q oc):=by rw [Lib.cell_of_heap XI.out];rfl
   have e0:v2.cell? ⟨sb,0,none⟩=some (.string ⟨y.name.toArray⟩):=by rw [Lib.cell_of_heap FS2.out];rfl
   have e1:v2.cell? ⟨sb,1,none⟩=some (.string ⟨y.version.toArray⟩):=by rw [Lib.cell_of_heap FS2.out];rfl
   have e2:v2.cell? ⟨sb,2,none⟩=some (.bool y.old):=by rw [Lib.cell_of_heap FS2.out];rfl
   have e3:v2.cell? ⟨sb,3,none⟩=some (.int .i64 y.kind):=by rw [Lib.cell_of_heap FS2.out];rfl
   have e4:v2.cell? ⟨sb,4,none⟩=some (.bool y.weak):=by rw [Lib.cell_of_heap FS2.out];rfl
   have e5:v2.cell? ⟨sb,5,none⟩=some (.int .i64 y.vis):=by rw [Lib.cell_of_heap FS2.out];rfl
   have e6:v2.cell? ⟨sb,6,none⟩=some (.bool y.defined):=by rw [Lib.cell_of_heap FS2.out];rfl
   have e7:v2.cell? ⟨sb,7,none⟩=some (.int .i64 y.value):=by rw [Lib.cell_of_heap FS2.out];rfl
   have e8:v2.cell? ⟨sb,8,none⟩=some (.int .i64 y.size):=by rw [Lib.cell_of_heap FS2.out];rfl
   have ON:=Lib.hid (OI.out.alloc (.cells #[.string ⟨y.name.toArray⟩,.string ⟨y.version.toArray⟩,.bool y.old,.int .i64 y.kind,.bool y.weak,.int .i64 y.vis,.bool y.defined,.int .i64 y.value,.int .i64 y.size] 72 (0,0)))
   have XN:=Lib.hid ((heap_alloc_old v2 (.cells #[.string ⟨y.name.toArray⟩,.string ⟨y.version.toArray⟩,.bool y.old,.int .i64 y.kind,.bool y.weak,.int .i64 y.vis,.bool y.defined,.int .i64 y.value,.int .i64 y.size] 72 (0,0)) (r:=ib) (by omega)).trans XI.out)
   have RN:=Lib.hid (R2.out.alloc (.cells #[.string ⟨y.name.toArray⟩,.string ⟨y.version.toArray⟩,.bool y.old,.int .i64 y.kind,.bool y.weak,.int .i64 y.vis,.bool y.defined,.int .i64 y.value,.int .i64 y.size] 72 (0,0)))
   have TN:=Lib.hid (T2.out.alloc (fun b hb=>by have:=hb.1;omega) (.cells #[.string ⟨y.name.toArray⟩,.string ⟨y.version.toArray⟩,.bool y.old,.int .i64 y.kind,.bool y.weak,.int .i64 y.vis,.bool y.defined,.int .i64 y.value,.int .i64 y.size] 72 (0,0)))
   have NN:=Lib.hid (heap_alloc_new v2 (.cells #[.string ⟨y.name.toArray⟩,.string ⟨y.version.toArray⟩,.bool y.old,.int .i64 y.kind,.bool y.weak,.int .i64 y.vis,.bool y.defined,.int .i64 y.value,.int .i64 y.size] 72 (0,0)))
   have hzn:v2.heap.size<(v2.alloc (.cells #[.string ⟨y.name.toArray⟩,.string ⟨y.version.toArray⟩,.bool y.old,.int .i64 y.kind,.bool y.weak,.int .i64 y.vis,.bool y.defined,.int .i64 y.value,.int .i64 y.size] 72 (0,0))).heap.size:=by simp
   have HRow:Hid (kSym.R (fun b=>b<(v2.alloc (.cells #[.string ⟨y.name.toArray⟩,.string ⟨y.version.toArray⟩,.bool y.old,.int .i64 y.kind,.bool y.weak,.int .i64 y.vis,.bool y.defined,.int .i64 y.value,.int .i64 y.size] 72 (0,0))).heap.size∧¬ b<w6.heap.size∧(Value.slice oa q oc).ownBlock≠some b) (v2.alloc (.cells #[.string ⟨y.name.toArray⟩,.string ⟨y.version.toArray⟩,.bool y.old,.int .i64 y.kind,.bool y.weak,.int .i64 y.vis,.bool y.defined,.int .i64 y.value,.int .i64 y.size] 72 (0,0))) y [.string ⟨y.name.toArray⟩,.string ⟨y.version.toArray⟩,.bool y.old,.int .i64 y.kind,.bool y.weak,.int .i64 y.vis,.bool y.defined,.int .i64 y.value,.int .i64 y.size]):=Lib.hid ⟨rfl,okSym_ok Hok.out⟩
   have HOne:Hid (∀ u∈([.string ⟨y.name.toArray⟩,.string ⟨y.version.toArray⟩,.bool y.old,.int .i64 y.kind,.bool y.weak,.int .i64 y.vis,.bool y.defined,.int .i64 y.value,.int .i64 y.size]:List Value),u.oneCell'=true):=Lib.hid (by
    intro u hu
    simp only [List.mem_cons,List.not_mem_nil,or_false]at hu
    rcases hu with rfl | rfl | rfl | rfl | rfl | rfl | rfl | rfl | rfl<;>rfl)
   clear HO HX XI OI R2 T2 FS2
   cases f1 with
   | false=>
    go_upto_region 25 with fail
    go_wp2_with (at_builtin;go_loud (refine wpList_appendK (K:=kSym) (v:=.slice oa q oc) (e:=72) (B:=w6.heap.size) (E:=(·<w6.heap.size)) 29 (.agg #[.string ⟨#[]⟩,.string ⟨#[]⟩,.bool false,.int .i64 0,.bool false,.int .i64 0,.bool false,.int .i64 0,.int .i64 0]) 88 Tryz.underlying29 info_sym rfl (by decide) rfl (.tmp 124) (.tmp 126) rfl q Hxl.out rfl ON.out (fun b hb=>by have hb:b<w6.heap.size:=hb;omega) v2.heap.size y [.string ⟨y.name.toArray⟩,.string ⟨y.version.toArray⟩,.bool y.old,.int .i64 y.kind,.bool y.weak,.int .i64 y.vis,.bool y.defined,.int .i64 y.value,.int .i64 y.size] rfl (row_of NN.out) HOne.out HRow.out (by rw [Hxl.out];omega) (by rw [Hxl.out];omega) (by omega) ?_))
    intro g7 c7 w7 ho7 hs7 hg7
    have hne:∀ b,b<w6.heap.size→(Value.slice oa q oc).ownBlock≠some b:=fun b hb e=>by have:=(hown.out b e).1;omega
    have X7:=Lib.hid ((hs7.block ib ⟨by omega,hne ib (by omega)⟩).trans XN.out)
    have R7:=Lib.hid (RN.out.step hs7 ⟨by omega,hne rb (by omega)⟩ ⟨by omega,hne gb (by omega)⟩)
    have S7:=Lib.hid ((TN.out.imp (S':=fun x=>x<w6.heap.size∧x≠rb∧x≠ib) (fun x hx=>⟨by have:=hx.1;omega,hx.2.1⟩)).trans (hs7.imp (fun x hx=>⟨by have:=hx.1;omega,hne x hx.1⟩)))
    have O7:=Lib.hid ho7
    clear ho7 hs7 hg7 cI
    have hgE:Got symP (estS false (some lb)) y (estS false s2):=HGs.out.eff false
    have cI:w7.cell? ⟨ib,5,none⟩=some (.slice oa q oc):=by rw [Lib.cell_of_heap X7.out];rfl
    have fI:w7.frozen? ⟨ib,5,none⟩=false:=Lib.frozen_of_heap X7.out 5
    have hs9:Step (fun b=>b≠ib) w7 (w7.setCell ⟨ib,5,none⟩ (.slice (some ⟨g7,0,none⟩) (q+1) c7)):=(Step.refl _ w7).setCell (fun h=>h rfl) _
    have X9:Hid ((w7.setCell ⟨ib,5,none⟩ (.slice (some ⟨g7,0,none⟩) (q+1) c7)).heap[ib]? =some (.cells (imgCells ⟨y0,y1,y2,.slice (some ⟨g7,0,none⟩) (q+1) c7,y4,y5,y6,y7,y8,y9,y10⟩ im) 40 (0,0))):=Lib.hid (setCell_listX X7.out 5 (.slice (some ⟨g7,0,none⟩) (q+1) c7))
    have Hfin:=Lib.hid (ZQ.next Hxl.out H4.out H5.out H7.out (hgE) (Hok.out) (O7.out.step hs9 (fun b _ hb e=>hb (by rw [e];show ib<_;omega))) (R7.out.step hs9 (by show rb≠ib;omega) (by show gb≠ib;omega)) (S7.out.trans (hs9.imp (fun x hx=>hx.2.2))))
    clear hs9
    go_wp2_with fail
    exact HK.out r _ _ rfl ⟨by omega,false,⟨by kernel_rfl,rfl,(by kernel_rfl),(by kernel_rfl),(by kernel_rfl),(by kernel_rfl),(by show Value.int .i64 _=_;rw [Hrr.out];go_num),trivial⟩,_,X9.out,by rw [Hq1.out];exact Hfin.out⟩
   | true=>
    go_upto_region 25 with fail
    go_wp2_with (at_builtin;go_loud (refine wpList_appendK (K:=kSym) (v:=.slice oa q oc) (e:=72) (B:=w6.heap.size) (E:=(·<w6.heap.size)) 29 (.agg #[.string ⟨#[]⟩,.string ⟨#[]⟩,.bool false,.int .i64 0,.bool false,.int .i64 0,.bool false,.int .i64 0,.int .i64 0]) 88 Tryz.underlying29 info_sym rfl (by decide) rfl (.tmp 124) (.tmp 126) rfl q Hxl.out rfl ON.out (fun b hb=>by have hb:b<w6.heap.size:=hb;omega) v2.heap.size y [.string ⟨y.name.toArray⟩,.string ⟨y.version.toArray⟩,.bool y.old,.int .i64 y.kind,.bool y.weak,.int .i64 y.vis,.bool y.defined,.int .i64 y.value,.int .i64 y.size] rfl (row_of NN.out) HOne.out HRow.out (by rw [Hxl.out];omega) (by rw [Hxl.out];omega) (by omega) ?_))
    intro g7 c7 w7 ho7 hs7 hg7
    have hne:∀ b,b<w6.heap.size→(Value.slice oa q oc).ownBlock≠some b:=fun b hb e=>by have:=(hown.out b e).1;omega
    have X7:=Lib.hid ((hs7.block ib ⟨by omega,hne ib (by omega)⟩).trans XN.out)
    have R7:=Lib.hid (RN.out.step hs7 ⟨by omega,hne rb (by omega)⟩ ⟨by omega,hne gb (by omega)⟩)
    have S7:=Lib.hid ((TN.out.imp (S':=fun x=>x<w6.heap.size∧x≠rb∧x≠ib) (fun x hx=>⟨by have:=hx.1;omega,hx.2.1⟩)).trans (hs7.imp (fun x hx=>⟨by have:=hx.1;omega,hne x hx.1⟩)))
    have O7:=Lib.hid ho7
    clear ho7 hs7 hg7 cI
    have hgE:Got symP (estS true (some lb)) y (estS fine s2):=HGs.out.eff true
    have cI:w7.cell? ⟨ib,5,none⟩=some (.slice oa q oc):=by rw [Lib.cell_of_heap X7.out];rfl
    have fI:w7.frozen? ⟨ib,5,none⟩=false:=Lib.frozen_of_heap X7.out 5
    have hs9:Step (fun b=>b≠ib) w7 (w7.setCell ⟨ib,5,none⟩ (.slice (some ⟨g7,0,none⟩) (q+1) c7)):=(Step.refl _ w7).setCell (fun h=>h rfl) _
    have X9:Hid ((w7.setCell ⟨ib,5,none⟩ (.slice (some ⟨g7,0,none⟩) (q+1) c7)).heap[ib]? =some (.cells (imgCells ⟨y0,y1,y2,.slice (some ⟨g7,0,none⟩) (q+1) c7,y4,y5,y6,y7,y8,y9,y10⟩ im) 40 (0,0))):=Lib.hid (setCell_listX X7.out 5 (.slice (some ⟨g7,0,none⟩) (q+1) c7))
    have Hfin:=Lib.hid (ZQ.next Hxl.out H4.out H5.out H7.out (hgE) (Hok.out) (O7.out.step hs9 (fun b _ hb e=>hb (by rw [e];show ib<_;omega))) (R7.out.step hs9 (by show rb≠ib;omega) (by show gb≠ib;omega)) (S7.out.trans (hs9.imp (fun x hx=>hx.2.2))))
    clear hs9
    go_wp2_with fail
    exact HK.out r _ _ rfl ⟨by omega,fine,⟨by kernel_rfl,rfl,(by kernel_rfl),(by kernel_rfl),(by kernel_rfl),(by kernel_rfl),(by show Value.int .i64 _=_;rw [Hrr.out];go_num),trivial⟩,_,X9.out,by rw [Hq1.out];exact Hfin.out⟩
end Go.Proofs.YtfchpchabdhcgaaGreat
namespace Go.Proofs.YtfchpchabdhcgaaGreat
open Go.RowKit
theorem ztl4 {w:World} {l:List UInt8} {a:Act} {w5:World} {B rb gb ib:Nat} {f:Bool} {s:Option (List UInt8)} {v:ImgV} {im:ImgL} {P':List (List Int)→List UInt8→Option (ImgL × List UInt8)} (hF:zFr [(2,.pointer (some ⟨w.heap.size,0,none⟩)),(4,.pointer (some ⟨rb,0,none⟩)),(5,.pointer (some ⟨ib,0,none⟩)),(6,.bool f)] a) (hC:ZSt w l B rb gb ib w5 f s v im (bindP (numP 2) fun n=>bindP (manyP chainP n.toNat) P')) (hv:v.buckets=.slice none 0 0)
  (hK:∀ (a':Act) (w':World) (f':Bool) (s':Option (List UInt8)) (u:Value) (xs:List (List Int)),zFr [(2,.pointer (some ⟨w.heap.size,0,none⟩)),(4,.pointer (some ⟨rb,0,none⟩)),(5,.pointer (some ⟨ib,0,none⟩)),(6,.bool f')] a'→ZSt w l B rb gb ib w' f' s' {v with buckets:=u } {im with buckets:=xs } (P' xs)→(zRest Tryz.f22 11).wp Tryz.prog (bodyPost Tryz.prog Tryz.f22 (ReadPost w l)) a' w'):(zRest Tryz.f22 10).wp Tryz.prog (bodyPost Tryz.prog Tryz.f22 (ReadPost w l)) a w5:=by
 have HK:=Lib.hid hK
 have HC:=Lib.hid hC
 have b1:=hC.h1
 have b2:=hC.h2
 have b3:=hC.h3
 have b4:=hC.h4
 have b5:=hC.h5
 have R5:=Lib.hid hC.rd
 have X5:=Lib.hid hC.ix
 clear hC hK
 obtain⟨y0,y1,y2,y3,y4,y5,y6,y7,y8,y9,y10⟩:=v
 replace hv:y4=.slice none 0 0:=hv
 subst hv
 have e10:zRest Tryz.f22 10=.seq (zCode Tryz.f22 10) (zRest Tryz.f22 11):=zd_seq _ 10 (by kernel_rfl)
 rw [e10]
 clear e10
 apply zFr.elim hF
 clear hF
 intro _ _
 intro V2
 intro _
 intro V4
 intro V5
 intro V6
 iterate 272 (intro _)
 intro hF
 obtain⟨-,-,e2,e4,e5,e6,-⟩:=hF
 replace e2:V2=.pointer (some ⟨w.heap.size,0,none⟩):=e2
 subst e2
 replace e4:V4=.pointer (some ⟨rb,0,none⟩):=e4
 subst e4
 replace e5:V5=.pointer (some ⟨ib,0,none⟩):=e5
 subst e5
 replace e6:V6=.bool f:=e6
 subst e6
 conv in zCode _ 10=>whnf
 have HN:=Lib.hid (ynum_any w5 rb gb s 2 R5.out (by decide))
 have hgn:=got_num s 2
 obtain⟨m,hm,hmm⟩:=okN_idx (by decide) (numS_ok s 2 (by decide))
 have hm1:m<65536:=hmm
 clear hmm
 obtain⟨s1,hs1⟩:∃ x,x=(numS s 2).2:=⟨_,rfl⟩
 rw [hm,← hs1]at HN hgn
 have GN:=Lib.hid hgn
 clear hgn hm hs1
 go_wp2_with fail
 refine HN.out.mono ?_
 clear HN
 rintro e w6 ⟨rfl,hr,hs,hzn⟩
 have R6:=Lib.hid hr
 have X6:=Lib.hid ((hs.block ib (by omega)).trans X5.out)
 have Q6:=Lib.hid hs
 have hB6:B≤w6.heap.size:=by omega
 clear hr hs X5 R5
 have FIN:Hid (∀ (a':Act) (wr:World) (f':Bool) (st:Option (List UInt8)) (u:Value) (xs:List (List Int)),zFr [(2,.pointer (some ⟨w.heap.size,0,none⟩)),(4,.pointer (some ⟨rb,0,none⟩)),(5,.pointer (some ⟨ib,0,none⟩)),(6,.bool f')] a'→OwnK 38 kInts w6.heap.size (·<w6.heap.size) wr u xs→(∀ x∈xs,(fun l=>okLen 2 l.length∧∀ x∈l,okN 2 x) x)→Got (manyP chainP m) (estS f s1) xs (estS f' st)→RX rb gb wr st→Step (fun x=>x<w6.heap.size∧x≠rb∧x≠ib) w6 wr→wr.heap[ib]? =some (.cells (imgCells ⟨y0,y1,y2,y3,u,y5,y6,y7,y8,y9,y10⟩ im) 40 (0,0))→(zRest Tryz.f22 11).wp Tryz.prog (bodyPost Tryz.prog Tryz.f22 (ReadPost w l)) a' wr):=Lib.hid (by
  intro a' wr f' st u xs hFr ho hK hg hr hs hx
  have hs5:Step (fun x=>x<w5.heap.size∧x≠rb∧x≠ib) w5 wr:=(Q6.out.imp (fun x h=>h.2.1)).trans (hs.imp (fun x h=>⟨by have:=h.1;omega,h.2⟩))
  exact HK.out a' wr f' st u xs hFr (HC.out.go (v':=⟨y0,y1,y2,y3,u,y5,y6,y7,y8,y9,y10⟩) (im':={im with buckets:=xs }) hs5 hr hx
   {
    HC.out.imgStep hs5 with
    buckets:=ho.lb.imp (fun b hb=>⟨by have:=hb.2;omega,hb.1⟩)
    bucketsL:=fun c hc=>by
     have h:c.length<65536:=(hK c hc).1
     omega } (fun x st' h=>(GN.out.eff f).bind (hg.bind h))))
 clear HK hzn
 go_wp2_with fail
 refine wp_loop_dn (k:=16) (m:=m) (fun r a wr=>r≤m∧∃ f',zFr [(2,.pointer (some ⟨w.heap.size,0,none⟩)),(4,.pointer (some ⟨rb,0,none⟩)),(5,.pointer (some ⟨ib,0,none⟩)),(6,.bool f'),(16,.int .i64 (r:Nat))] a∧∃ u,wr.heap[ib]? =some (.cells (imgCells ⟨y0,y1,y2,y3,u,y5,y6,y7,y8,y9,y10⟩ im) 40 (0,0))∧ZQ 38 kInts chainP (fun l=>okLen 2 l.length∧∀ x∈l,okN 2 x) rb gb ib w6 f s1 wr u (m-r) f') ?_ ?_ ?_
 ·rintro r a wr ⟨-,f',h,-⟩
  exact zFrL.get h.2.2 (16,.int .i64 (r:Nat)) (by simp)
 ·exact⟨Nat.le_refl _,f,⟨by kernel_rfl,rfl,(by kernel_rfl),(by kernel_rfl),(by kernel_rfl),(by kernel_rfl),(by kernel_rfl),trivial⟩,_,X6.out,by rw [Nat.sub_self];exact ZQ.start R6.out⟩
 clear X6 R6 Q6 GN HC
 intro r a v0 K hI HK
 obtain⟨hrm,f1,hF,u,hX,hq⟩:=hI
 replace HK:=Lib.hid HK
 obtain⟨xs,st,h1,h2,h3,h4,h5,h6,h7⟩:=hq
 apply zFr.elim hF
 clear hF
 intro _ _
 intro V2
 intro _
 intro V4
 intro V5
 intro V6
 iterate 9 (intro _)
 intro V16
 iterate 262 (intro _)
 intro hF
 obtain⟨-,-,e2,e4,e5,e6,e16,-⟩:=hF
 replace e2:V2=.pointer (some ⟨w.heap.size,0,none⟩):=e2
 subst e2
 replace e4:V4=.pointer (some ⟨rb,0,none⟩):=e4
 subst e4
 replace e5:V5=.pointer (some ⟨ib,0,none⟩):=e5
 subst e5
 replace e6:V6=.bool f1:=e6
 subst e6
 replace e16:V16=.int .i64 (r:Nat):=e16
 subst e16
 have HO:=Lib.hid h1
 have HX:=Lib.hid hX
 have H4:=Lib.hid h4
 have H5:=Lib.hid h5
 have R0:=Lib.hid h6
 have H7:=Lib.hid h7
 have hz00:=h7.size
 obtain⟨fe,hfe,hfs⟩:=h6.fault
 clear h1 hX h4 h5 h6 h7
 cases r with
 | zero=>
  have hd:decide ((0:Int)<((0:Nat):Int))=false:=rfl
  go_wp2_with fail
  exact FIN.out _ v0 f1 st u xs ⟨by kernel_rfl,rfl,(by kernel_rfl),(by kernel_rfl),(by kernel_rfl),(by kernel_rfl),trivial⟩ HO.out H4.out H5.out R0.out H7.out HX.out
 | succ r=>
  obtain⟨rr,hrr⟩:∃ x:Int,x=((r+1:Nat):Int):=⟨_,rfl⟩
  have Hrr:=Lib.hid hrr
  have hrr1:1≤rr:=by omega
  have hrr2:rr≤65536:=by omega
  have hd:decide ((0:Int)<rr)=true:=by rw [decide_eq_true_eq];omega
  rw [← hrr]
  clear hrr
  cases st with
  | none=>
   have hf2:(fe==0)=false:=hfs
   clear hfs
   go_wp2_with fail
   have hs4:=H5.out
   rw [estS_none]at hs4
   exact FIN.out _ v0 f1 none u xs ⟨by kernel_rfl,rfl,(by kernel_rfl),(by kernel_rfl),(by kernel_rfl),(by kernel_rfl),trivial⟩ HO.out H4.out (by rw [estS_none];exact hs4.stop (by omega) _) R0.out H7.out HX.out
  | some lb=>
   have hf2:(fe==0)=true:=hfs
   have hxl:=h3 (by simp)
   clear hfs h2 h3 FIN
   obtain⟨oa,oc,huf⟩:=HO.out.form
   obtain⟨q,hqq⟩:∃ q,q=m-(r+1):=⟨_,rfl⟩
   have hq1:m-r=q+1:=by omega
   have hq2:q≤65536:=by omega
   rw [← hqq]at hxl H5
   rw [hxl]at huf
   subst huf
   have Hxl:=Lib.hid hxl
   have Hq1:=Lib.hid hq1
   clear hxl hq1 hqq
   have T0:=Lib.hid (Step.refl (fun x=>x<v0.heap.size∧x≠rb) v0)
   have hz0:v0.heap.size≤v0.heap.size:=Nat.le_refl _
   have HN:=Lib.hid (ynum_any v0 rb gb (some lb) 2 R0.out (by decide))
   have hgn:=got_num (some lb) 2
   have hno:=numS_ok (some lb) 2 (by decide)
   obtain⟨km,hx1⟩:∃ x,x=(numS (some lb) 2).1:=⟨_,rfl⟩
   obtain⟨s2,hs1⟩:∃ x,x=(numS (some lb) 2).2:=⟨_,rfl⟩
   rw [← hx1,← hs1]at HN hgn
   rw [← hx1]at hno
   have Gkm:=Lib.hid hgn
   have Kkm:=Lib.hid hno
   clear hgn hno hx1 hs1
   go_wp2_with fail
   refine HN.out.mono ?_
   clear HN
   rintro e v1 ⟨rfl,hr,hs,hzn⟩
   have R1:=Lib.hid hr
   have T1:=Lib.hid (T0.out.trans (hs.imp (fun x hx=>hx.2)))
   have hz1:=Nat.le_trans hz0 hs.size
   clear T0
   clear hr hs hzn R0
   obtain⟨kk,hkm,hkk⟩:=okN_idx (by decide) Kkm.out
   have hkk2:kk<65536:=hkk
   subst hkm
   clear hkk
   go_upto_region 30 with fail
   have XI:=Lib.hid ((T1.out.block ib ⟨by omega,by omega⟩).trans HX.out)
   have OI:=Lib.hid (HO.out.step T1.out (fun y h1 h2=>⟨h1,fun e=>h2 (by rw [e];show rb<_;omega)⟩))
   have hown:=Lib.hid HO.out.lt
   have cI:v1.cell? ⟨ib,6,none⟩=some (.slice oa q oc):=by rw [Lib.cell_of_heap XI.out];rfl
   clear HO HX
   refine wp_region_phase 8 (by kernel_rfl) (by kernel_rfl) ?_
   simp only [List.take_succ_cons,List.take_zero,List.drop_succ_cons,List.drop_zero,List.take_nil,List.drop_nil]
   refine wpAny_of_held (S:=fun w':World=>w'.cell? ⟨ib,6,none⟩=some (.slice oa q oc)) _ _ _ _ ?_
   have hHeld:(fun w':World=>w'.cell? ⟨ib,6,none⟩=some (.slice oa q oc)) (World.drew v1):=(cI)
   show wpAnyH _ _ _ _ _ _ _ _ (World.drew _)
   have XId:Hid ((World.drew v1).heap[ib]? =_):=Lib.hid XI.out
   have OId:=Lib.hid OI.out.drew
   have RId:=Lib.hid R1.out.drew
   have TId:=Lib.hid T1.out.drew
   have hzd:v0.heap.size≤(World.drew v1).heap.size:=hz1
   have hzd2:v1.heap.size≤(World.drew v1).heap.size:=Nat.le_refl _
   clear XI OI R1 T1 cI
   generalize (World.drew v1)=wd at *
   refine wpAnyH_reads [0,1,2,3,4] hHeld (fun _ _ _ _ _ h=>h) (by kernel_rfl) rfl rfl ?_
   simp only [Takes,List.toList_toArray,opN_zero,opN_succ]
   iterate 5 (refine ⟨?_,Or.inl ⟨by rfl,?_⟩,?_⟩;rotate_left;(· (intro w hSw;(try dsimp only at hSw);go_simp;try with_reducible rfl));try simp only [Act.put,List.setIfInBounds_toArray,List.set_cons_zero,List.set_cons_succ])
   refine wpAnyH_ready (rs:=[5]) (by kernel_rfl) (by simp) ?_
   refine AllReadyH.cons rfl (fun K hK=> ?_) AllReadyH.nil
   go_simp
   refine(zlist_any wd rb gb s2 kk 2 RId.out (by decide) (by omega)).mono ?_
   rintro e we ⟨yw,ws,s4,rfl,hq⟩
   have hs:=hq.step
   have RIe:=Lib.hid hq.rd
   have TIe:=Lib.hid (TId.out.trans (hs.imp (fun x hx=>⟨by have:=hx.1;omega,hx.2⟩)))
   have XIe:=Lib.hid ((hs.block ib ⟨by omega,by omega⟩).trans XId.out)
   have OIe:=Lib.hid (OId.out.step hs (fun y h1 h2=>⟨h1,fun e=>h2 (by rw [e];show rb<_;omega)⟩))
   have hze:v0.heap.size≤we.heap.size:=by have:=hs.size;omega
   have hde:=hs.size
   have HLq:=Lib.hid hq
   have Oyw_e:=Lib.hid hq.own
   obtain⟨ywa,ywc,hyw⟩:=Oyw_e.out.form
   subst hyw
   refine hK.out _ _ ((hs.cell (p:=⟨ib,6,none⟩) ⟨by show ib<_;omega,by show ib≠rb;omega⟩).trans hHeld) (fun hHeld=> ?_)
   clear hK K hs hq XId OId RId TId
   try simp only [List.getElem_toArray,List.getElem_cons_zero,List.getElem_cons_succ,Act.put,List.setIfInBounds_toArray,List.set_cons_zero,List.set_cons_succ]
   have HG:Hid (Got chainP (some lb) ws s4):=Lib.hid (Gkm.out.bind HLq.out.got)
   have XN:=Lib.hid ((heap_alloc_old we (.cells #[.slice ywa ws.length ywc] 38 (0,0)) (r:=ib) (by omega)).trans XIe.out)
   have ON:=Lib.hid (OIe.out.alloc (.cells #[.slice ywa ws.length ywc] 38 (0,0)))
   have RN:=Lib.hid (RIe.out.alloc (.cells #[.slice ywa ws.length ywc] 38 (0,0)))
   have TN:=Lib.hid (TIe.out.alloc (fun b hb=>by have:=hb.1;omega) (.cells #[.slice ywa ws.length ywc] 38 (0,0)))
   have NN:=Lib.hid (heap_alloc_new we (.cells #[.slice ywa ws.length ywc] 38 (0,0)))
   have hzn:we.heap.size<(we.alloc (.cells #[.slice ywa ws.length ywc] 38 (0,0))).heap.size:=by simp
   have Oyw_n:=Lib.hid (Oyw_e.out.alloc (.cells #[.slice ywa ws.length ywc] 38 (0,0)))
   refine wpAnyH_ready (rs:=[6]) (by kernel_rfl) (by simp) ?_
   refine AllReadyH.cons rfl (fun K hK=> ?_) AllReadyH.nil
   go_simp
   refine hK.out _ _ ((World.cell?_alloc_lt _ _ _ (World.block_lt_of_cell? _ _ hHeld)).trans hHeld) (fun hHeld=> ?_)
   clear hK K
   try simp only [List.getElem_toArray,List.getElem_cons_zero,List.getElem_cons_succ,Act.put,List.setIfInBounds_toArray,List.set_cons_zero,List.set_cons_succ]
   clear XIe OIe RIe TIe
   generalize we.alloc (.cells #[.slice ywa ws.length ywc] 38 (0,0))=wn at *
   have HRow:Hid (kInts.R (fun b=>b<wn.heap.size∧¬ b<w6.heap.size∧(Value.slice oa q oc).ownBlock≠some b) wn ws [.slice ywa ws.length ywc]):=Lib.hid ⟨_,rfl,Oyw_n.out.lb.imp (fun b hb=>⟨hb.1,by have:=hb.2;omega,fun e=>by have:=(hown.out b e).2;have:=hb.2;omega⟩)⟩
   have HOne:Hid (∀ u∈([.slice ywa ws.length ywc]:List Value),u.oneCell'=true):=Lib.hid (by
    intro u hu
    simp only [List.mem_cons,List.not_mem_nil,or_false]at hu
    rcases hu with rfl<;>rfl)
   refine wpAnyH_ready (rs:=[7]) (by kernel_rfl) (by simp) ?_
   refine AllReadyH.cons rfl (fun K hK=> ?_) AllReadyH.nil
   rw [if_pos (by rfl)]
   simp only [List.getElem_toArray,List.getElem_cons_succ,List.getElem_cons_zero]
   refine wp_appendK (K:=kInts) (v:=.slice oa q oc) (e:=38) (B:=w6.heap.size) (E:=(·<w6.heap.size)) 30 (.slice none 0 0) 24 Tryz.underlying30 info_ints rfl (by decide) (.tmp 146) (.tmp 150) rfl q Hxl.out rfl ON.out (fun b hb=>by have hb:b<w6.heap.size:=hb;omega) we.heap.size ws [.slice ywa ws.length ywc] rfl (row_of NN.out) HOne.out HRow.out (by rw [Hxl.out];omega) (by rw [Hxl.out];omega) (by omega) ?_
   rintro g7 c7 w7 ho7 hs7 hg7-
   have hne:∀ b,b<w6.heap.size→(Value.slice oa q oc).ownBlock≠some b:=fun b hb e=>by have:=(hown.out b e).1;omega
   have hnv:∀ b,v0.heap.size≤b→(Value.slice oa q oc).ownBlock≠some b:=fun b hb e=>by have:=(hown.out b e).2;omega
   have X7:=Lib.hid ((hs7.block ib ⟨by omega,hne ib (by omega)⟩).trans XN.out)
   have R7:=Lib.hid (RN.out.step hs7 ⟨by omega,hne rb (by omega)⟩ ⟨by omega,hne gb (by omega)⟩)
   have S7:=Lib.hid ((TN.out.imp (S':=fun x=>x<w6.heap.size∧x≠rb∧x≠ib) (fun x hx=>⟨by have:=hx.1;omega,hx.2.1⟩)).trans (hs7.imp (fun x hx=>⟨by have:=hx.1;omega,hne x hx.1⟩)))
   have O7:=Lib.hid ho7
   refine hK.out _ _ ((hs7.cell (p:=⟨ib,6,none⟩) ⟨by show ib<_;omega,hne ib (by omega)⟩).trans hHeld) (fun hHeld=> ?_)
   clear hK K ho7 hs7 hg7
   try simp only [List.getElem_toArray,List.getElem_cons_zero,List.getElem_cons_succ,Act.put,List.setIfInBounds_toArray,List.set_cons_zero,List.set_cons_succ]
   refine wpAnyH_done (by kernel_rfl) ?_ _
   simp only [phaseQ]
   clear hHeld
   have cI:w7.cell? ⟨ib,6,none⟩=some (.slice oa q oc):=by rw [Lib.cell_of_heap X7.out];rfl
   have fI:w7.frozen? ⟨ib,6,none⟩=false:=Lib.frozen_of_heap X7.out 6
   have hs9:Step (fun b=>b≠ib) w7 (w7.setCell ⟨ib,6,none⟩ (.slice (some ⟨g7,0,none⟩) (q+1) c7)):=(Step.refl _ w7).setCell (fun h=>h rfl) _
   have X9:Hid ((w7.setCell ⟨ib,6,none⟩ (.slice (some ⟨g7,0,none⟩) (q+1) c7)).heap[ib]? =some (.cells (imgCells ⟨y0,y1,y2,y3,.slice (some ⟨g7,0,none⟩) (q+1) c7,y5,y6,y7,y8,y9,y10⟩ im) 40 (0,0))):=Lib.hid (setCell_listX X7.out 6 (.slice (some ⟨g7,0,none⟩) (q+1) c7))
   have Hfin:=Lib.hid (ZQ.next Hxl.out H4.out H5.out H7.out (HG.out.eff f1) (⟨(by have:=HLq.out.le;show ws.length<65536;omega),HLq.out.ok⟩) (O7.out.step hs9 (fun b _ hb e=>hb (by rw [e];show ib<_;omega))) (R7.out.step hs9 (by show rb≠ib;omega) (by show gb≠ib;omega)) (S7.out.trans (hs9.imp (fun x hx=>hx.2.2))))
   clear hs9
   go_wp2_with fail
   exact HK.out r _ _ rfl ⟨by omega,f1,⟨by kernel_rfl,rfl,(by kernel_rfl),(by kernel_rfl),(by kernel_rfl),(by kernel_rfl),(by show Value.int .i64 _=_;rw [Hrr.out];go_num),trivial⟩,_,X9.out,by rw [Hq1.out];exact Hfin.out⟩
end Go.Proofs.YtfchpchabdhcgaaGreat
namespace Go.Proofs.YtfchpchabdhcgaaGreat
open Go.RowKit
theorem ztl5 {w:World} {l:List UInt8} {a:Act} {w5:World} {B rb gb ib:Nat} {f:Bool} {s:Option (List UInt8)} {v:ImgV} {im:ImgL} {P':List Int→List UInt8→Option (ImgL × List UInt8)} (hF:zFr [(2,.pointer (some ⟨w.heap.size,0,none⟩)),(4,.pointer (some ⟨rb,0,none⟩)),(5,.pointer (some ⟨ib,0,none⟩)),(6,.bool f)] a) (hC:ZSt w l B rb gb ib w5 f s v im (bindP (numP 1) fun n=>bindP (manyP wordP n.toNat) P')) (hv:v.words=.slice none 0 0)
  (hK:∀ (a':Act) (w':World) (f':Bool) (s':Option (List UInt8)) (u:Value) (xs:List Int),zFr [(2,.pointer (some ⟨w.heap.size,0,none⟩)),(4,.pointer (some ⟨rb,0,none⟩)),(5,.pointer (some ⟨ib,0,none⟩)),(6,.bool f')] a'→ZSt w l B rb gb ib w' f' s' {v with words:=u } {im with words:=xs } (P' xs)→(zRest Tryz.f22 13).wp Tryz.prog (bodyPost Tryz.prog Tryz.f22 (ReadPost w l)) a' w'):(zRest Tryz.f22 12).wp Tryz.prog (bodyPost Tryz.prog Tryz.f22 (ReadPost w l)) a w5:=by
 have HK:=Lib.hid hK
 have HC:=Lib.hid hC
 have b1:=hC.h1
 have b2:=hC.h2
 have b3:=hC.h3
 have b4:=hC.h4
 have b5:=hC.h5
 have R5:=Lib.hid hC.rd
 have X5:=Lib.hid hC.ix
 clear hC hK
 obtain⟨y0,y1,y2,y3,y4,y5,y6,y7,y8,y9,y10⟩:=v
 replace hv:y5=.slice none 0 0:=hv
 subst hv
 have e12:zRest Tryz.f22 12=.seq (zCode Tryz.f22 12) (zRest Tryz.f22 13):=zd_seq _ 12 (by kernel_rfl)
 rw [e12]
 clear e12
 apply zFr.elim hF
 clear hF
 intro _ _
 intro V2
 intro _
 intro V4
 intro V5
 intro V6
 iterate 272 (intro _)
 intro hF
 obtain⟨-,-,e2,e4,e5,e6,-⟩:=hF
 replace e2:V2=.pointer (some ⟨w.heap.size,0,none⟩):=e2
 subst e2
 replace e4:V4=.pointer (some ⟨rb,0,none⟩):=e4
 subst e4
 replace e5:V5=.pointer (some ⟨ib,0,none⟩):=e5
 subst e5
 replace e6:V6=.bool f:=e6
 subst e6
 conv in zCode _ 12=>whnf
 have HN:=Lib.hid (ynum_any w5 rb gb s 1 R5.out (by decide))
 have hgn:=got_num s 1
 obtain⟨m,hm,hmm⟩:=okN_idx (by decide) (numS_ok s 1 (by decide))
 have hm1:m<256:=hmm
 clear hmm
 obtain⟨s1,hs1⟩:∃ x,x=(numS s 1).2:=⟨_,rfl⟩
 rw [hm,← hs1]at HN hgn
 have GN:=Lib.hid hgn
 clear hgn hm hs1
 go_wp2_with fail
 refine HN.out.mono ?_
 clear HN
 rintro e w6 ⟨rfl,hr,hs,hzn⟩
 have R6:=Lib.hid hr
 have X6:=Lib.hid ((hs.block ib (by omega)).trans X5.out)
 have Q6:=Lib.hid hs
 have hB6:B≤w6.heap.size:=by omega
 clear hr hs X5 R5
 have FIN:Hid (∀ (a':Act) (wr:World) (f':Bool) (st:Option (List UInt8)) (u:Value) (xs:List Int),zFr [(2,.pointer (some ⟨w.heap.size,0,none⟩)),(4,.pointer (some ⟨rb,0,none⟩)),(5,.pointer (some ⟨ib,0,none⟩)),(6,.bool f')] a'→OwnK 74 kWord w6.heap.size (·<w6.heap.size) wr u xs→(∀ x∈xs,(fun x=>0≤x∧x<18446744073709551616) x)→Got (manyP wordP m) (estS f s1) xs (estS f' st)→RX rb gb wr st→Step (fun x=>x<w6.heap.size∧x≠rb∧x≠ib) w6 wr→wr.heap[ib]? =some (.cells (imgCells ⟨y0,y1,y2,y3,y4,u,y6,y7,y8,y9,y10⟩ im) 40 (0,0))→(zRest Tryz.f22 13).wp Tryz.prog (bodyPost Tryz.prog Tryz.f22 (ReadPost w l)) a' wr):=Lib.hid (by
  intro a' wr f' st u xs hFr ho hK hg hr hs hx
  have hs5:Step (fun x=>x<w5.heap.size∧x≠rb∧x≠ib) w5 wr:=(Q6.out.imp (fun x h=>h.2.1)).trans (hs.imp (fun x h=>⟨by have:=h.1;omega,h.2⟩))
  exact HK.out a' wr f' st u xs hFr (HC.out.go (v':=⟨y0,y1,y2,y3,y4,u,y6,y7,y8,y9,y10⟩) (im':={im with words:=xs }) hs5 hr hx
   {
    HC.out.imgStep hs5 with
    words:=ho.lb.imp (fun b hb=>⟨by have:=hb.2;omega,hb.1⟩)
    wordsR:=hK } (fun x st' h=>(GN.out.eff f).bind (hg.bind h))))
 clear HK hzn
 go_wp2_with fail
 refine wp_loop_dn (k:=18) (m:=m) (fun r a wr=>r≤m∧∃ f',zFr [(2,.pointer (some ⟨w.heap.size,0,none⟩)),(4,.pointer (some ⟨rb,0,none⟩)),(5,.pointer (some ⟨ib,0,none⟩)),(6,.bool f'),(18,.int .i64 (r:Nat))] a∧∃ u,wr.heap[ib]? =some (.cells (imgCells ⟨y0,y1,y2,y3,y4,u,y6,y7,y8,y9,y10⟩ im) 40 (0,0))∧ZQ 74 kWord wordP (fun x=>0≤x∧x<18446744073709551616) rb gb ib w6 f s1 wr u (m-r) f') ?_ ?_ ?_
 ·rintro r a wr ⟨-,f',h,-⟩
  exact zFrL.get h.2.2 (18,.int .i64 (r:Nat)) (by simp)
 ·exact⟨Nat.le_refl _,f,⟨by kernel_rfl,rfl,(by kernel_rfl),(by kernel_rfl),(by kernel_rfl),(by kernel_rfl),(by kernel_rfl),trivial⟩,_,X6.out,by rw [Nat.sub_self];exact ZQ.start R6.out⟩
 clear X6 R6 Q6 GN HC
 intro r a v0 K hI HK
 obtain⟨hrm,f1,hF,u,hX,hq⟩:=hI
 replace HK:=Lib.hid HK
 obtain⟨xs,st,h1,h2,h3,h4,h5,h6,h7⟩:=hq
 apply zFr.elim hF
 clear hF
 intro _ _
 intro V2
 intro _
 intro V4
 intro V5
 intro V6
 iterate 11 (intro _)
 intro V18
 iterate 260 (intro _)
 intro hF
 obtain⟨-,-,e2,e4,e5,e6,e18,-⟩:=hF
 replace e2:V2=.pointer (some ⟨w.heap.size,0,none⟩):=e2
 subst e2
 replace e4:V4=.pointer (some ⟨rb,0,none⟩):=e4
 subst e4
 replace e5:V5=.pointer (some ⟨ib,0,none⟩):=e5
 subst e5
 replace e6:V6=.bool f1:=e6
 subst e6
 replace e18:V18=.int .i64 (r:Nat):=e18
 subst e18
 have HO:=Lib.hid h1
 have HX:=Lib.hid hX
 have H4:=Lib.hid h4
 have H5:=Lib.hid h5
 have R0:=Lib.hid h6
 have H7:=Lib.hid h7
 have hz00:=h7.size
 obtain⟨fe,hfe,hfs⟩:=h6.fault
 clear h1 hX h4 h5 h6 h7
 cases r with
 | zero=>
  have hd:decide ((0:Int)<((0:Nat):Int))=false:=rfl
  go_wp2_with fail
  exact FIN.out _ v0 f1 st u xs ⟨by kernel_rfl,rfl,(by kernel_rfl),(by kernel_rfl),(by kernel_rfl),(by kernel_rfl),trivial⟩ HO.out H4.out H5.out R0.out H7.out HX.out
 | succ r=>
  obtain⟨rr,hrr⟩:∃ x:Int,x=((r+1:Nat):Int):=⟨_,rfl⟩
  have Hrr:=Lib.hid hrr
  have hrr1:1≤rr:=by omega
  have hrr2:rr≤256:=by omega
  have hd:decide ((0:Int)<rr)=true:=by rw [decide_eq_true_eq];omega
  rw [← hrr]
  clear hrr
  cases st with
  | none=>
   have hf2:(fe==0)=false:=hfs
   clear hfs
   go_wp2_with fail
   have hs4:=H5.out
   rw [estS_none]at hs4
   exact FIN.out _ v0 f1 none u xs ⟨by kernel_rfl,rfl,(by kernel_rfl),(by kernel_rfl),(by kernel_rfl),(by kernel_rfl),trivial⟩ HO.out H4.out (by rw [estS_none];exact hs4.stop (by omega) _) R0.out H7.out HX.out
  | some lb=>
   have hf2:(fe==0)=true:=hfs
   have hxl:=h3 (by simp)
   clear hfs h2 h3 FIN
   obtain⟨oa,oc,huf⟩:=HO.out.form
   obtain⟨q,hqq⟩:∃ q,q=m-(r+1):=⟨_,rfl⟩
   have hq1:m-r=q+1:=by omega
   have hq2:q≤256:=by omega
   rw [← hqq]at hxl H5
   rw [hxl]at huf
   subst huf
   have Hxl:=Lib.hid hxl
   have Hq1:=Lib.hid hq1
   clear hxl hq1 hqq
   have T0:=Lib.hid (Step.refl (fun x=>x<v0.heap.size∧x≠rb) v0)
   have hz0:v0.heap.size≤v0.heap.size:=Nat.le_refl _
   have HN:=Lib.hid (fun (wd:World) (h:RX rb gb wd (some lb))=>ynum_any wd rb gb (some lb) 8 h (by decide))
   have hgn:=got_num (some lb) 8
   have hno:=numS_ok (some lb) 8 (by decide)
   obtain⟨x,hx1⟩:∃ x,x=(numS (some lb) 8).1:=⟨_,rfl⟩
   obtain⟨s2,hs1⟩:∃ x,x=(numS (some lb) 8).2:=⟨_,rfl⟩
   have HN2:Hid (∀ wd,RX rb gb wd (some lb)→Calls Tryz.prog 45 #[.pointer (some ⟨rb,0,none⟩),.int .i64 ((8:Nat):Int)] wd fun e w'=>e=.returned (.int .i64 x)∧RX rb gb w' s2∧Step (fun y=>y≠rb) wd w'∧w'.heap.size=wd.heap.size):=Lib.hid (by intro wd h;rw [hx1,hs1];exact HN.out wd h)
   rw [← hx1,← hs1]at hgn
   clear HN
   rw [← hx1]at hno
   have Gx:=Lib.hid hgn
   have Kx:=Lib.hid hno
   clear hgn hno hx1 hs1
   obtain⟨hgw,hgr⟩:=got_word Gx.out Kx.out
   have HG:=Lib.hid hgw
   have HGr:=Lib.hid hgr
   clear hgw hgr
   have wx:=wrap_word x
   obtain⟨y,hy⟩:∃ y,y=x%18446744073709551616:=⟨_,rfl⟩
   rw [← hy]at HG HGr wx
   clear hy
   go_upto_region 35 with fail
   have XI:=Lib.hid ((T0.out.block ib ⟨by omega,by omega⟩).trans HX.out)
   have OI:=Lib.hid (HO.out.step T0.out (fun y h1 h2=>⟨h1,fun e=>h2 (by rw [e];show rb<_;omega)⟩))
   have hown:=Lib.hid HO.out.lt
   have cI:v0.cell? ⟨ib,7,none⟩=some (.slice oa q oc):=by rw [Lib.cell_of_heap XI.out];rfl
   clear HO HX
   refine wp_region_phase 9 (by kernel_rfl) (by kernel_rfl) ?_
   simp only [List.take_succ_cons,List.take_zero,List.drop_succ_cons,List.drop_zero,List.take_nil,List.drop_nil]
   refine wpAny_of_held (S:=fun w':World=>w'.cell? ⟨ib,7,none⟩=some (.slice oa q oc)) _ _ _ _ ?_
   have hHeld:(fun w':World=>w'.cell? ⟨ib,7,none⟩=some (.slice oa q oc)) (World.drew v0):=(cI)
   show wpAnyH _ _ _ _ _ _ _ _ (World.drew _)
   have XId:Hid ((World.drew v0).heap[ib]? =_):=Lib.hid XI.out
   have OId:=Lib.hid OI.out.drew
   have RId:=Lib.hid R0.out.drew
   have TId:=Lib.hid T0.out.drew
   have hzd:v0.heap.size≤(World.drew v0).heap.size:=hz0
   have hzd2:v0.heap.size≤(World.drew v0).heap.size:=Nat.le_refl _
   clear XI OI R0 T0 cI
   generalize (World.drew v0)=wd at *
   refine wpAnyH_reads [0,1,2,3,4] hHeld (fun _ _ _ _ _ h=>h) (by kernel_rfl) rfl rfl ?_
   simp only [Takes,List.toList_toArray,opN_zero,opN_succ]
   iterate 5 (refine ⟨?_,Or.inl ⟨by rfl,?_⟩,?_⟩;rotate_left;(· (intro w hSw;(try dsimp only at hSw);go_simp;try with_reducible rfl));try simp only [Act.put,List.setIfInBounds_toArray,List.set_cons_zero,List.set_cons_succ])
   refine wpAnyH_ready (rs:=[5]) (by kernel_rfl) (by simp) ?_
   refine AllReadyH.cons rfl (fun K hK=> ?_) AllReadyH.nil
   go_simp
   refine(HN2.out wd RId.out).mono ?_
   rintro e we ⟨rfl,hr,hs,hzw⟩
   have RIe:=Lib.hid hr
   have TIe:=Lib.hid (TId.out.trans (hs.imp (fun x hx=>hx.2)))
   have XIe:=Lib.hid ((hs.block ib (by omega)).trans XId.out)
   have OIe:=Lib.hid (OId.out.step hs (fun y h1 h2=>fun e=>h2 (by rw [e];show rb<_;omega)))
   have hze:v0.heap.size≤we.heap.size:=by have:=hs.size;omega
   have hde:=hs.size
   refine hK.out _ _ ((hs.cell (p:=⟨ib,7,none⟩) (by show ib≠rb;omega)).trans hHeld) (fun hHeld=> ?_)
   clear hK K hs hr hzw XId OId RId TId
   try simp only [List.getElem_toArray,List.getElem_cons_zero,List.getElem_cons_succ,Act.put,List.setIfInBounds_toArray,List.set_cons_zero,List.set_cons_succ]
   refine wpAnyH_reads [6] hHeld (fun _ _ _ _ _ h=>h) (by kernel_rfl) rfl rfl ?_
   simp only [Takes,List.toList_toArray,opN_zero,opN_succ]
   iterate 1 (refine ⟨?_,Or.inl ⟨by rfl,?_⟩,?_⟩;rotate_left;(· (intro w hSw;(try dsimp only at hSw);go_simp;try with_reducible rfl));try simp only [Act.put,List.setIfInBounds_toArray,List.set_cons_zero,List.set_cons_succ])
   have XN:=Lib.hid ((heap_alloc_old we (.cells #[.int .u64 y] 74 (0,0)) (r:=ib) (by omega)).trans XIe.out)
   have ON:=Lib.hid (OIe.out.alloc (.cells #[.int .u64 y] 74 (0,0)))
   have RN:=Lib.hid (RIe.out.alloc (.cells #[.int .u64 y] 74 (0,0)))
   have TN:=Lib.hid (TIe.out.alloc (fun b hb=>by have:=hb.1;omega) (.cells #[.int .u64 y] 74 (0,0)))
   have NN:=Lib.hid (heap_alloc_new we (.cells #[.int .u64 y] 74 (0,0)))
   have hzn:we.heap.size<(we.alloc (.cells #[.int .u64 y] 74 (0,0))).heap.size:=by simp
   refine wpAnyH_ready (rs:=[7]) (by kernel_rfl) (by simp) ?_
   refine AllReadyH.cons rfl (fun K hK=> ?_) AllReadyH.nil
   go_simp
   refine hK.out _ _ ((World.cell?_alloc_lt _ _ _ (World.block_lt_of_cell? _ _ hHeld)).trans hHeld) (fun hHeld=> ?_)
   clear hK K
   try simp only [List.getElem_toArray,List.getElem_cons_zero,List.getElem_cons_succ,Act.put,List.setIfInBounds_toArray,List.set_cons_zero,List.set_cons_succ]
   clear XIe OIe RIe TIe
   generalize we.alloc (.cells #[.int .u64 y] 74 (0,0))=wn at *
   have HRow:Hid (kWord.R (fun b=>b<wn.heap.size∧¬ b<w6.heap.size∧(Value.slice oa q oc).ownBlock≠some b) wn y [.int .u64 y]):=Lib.hid rfl
   have HOne:Hid (∀ u∈([.int .u64 y]:List Value),u.oneCell'=true):=Lib.hid (by
    intro u hu
    simp only [List.mem_cons,List.not_mem_nil,or_false]at hu
    rcases hu with rfl<;>rfl)
   refine wpAnyH_ready (rs:=[8]) (by kernel_rfl) (by simp) ?_
   refine AllReadyH.cons rfl (fun K hK=> ?_) AllReadyH.nil
   rw [if_pos (by rfl)]
   simp only [List.getElem_toArray,List.getElem_cons_succ,List.getElem_cons_zero]
   refine wp_appendK (K:=kWord) (v:=.slice oa q oc) (e:=74) (B:=w6.heap.size) (E:=(·<w6.heap.size)) 31 (.int .u64 0) 8 Tryz.underlying31 info_word rfl (by decide) (.tmp 175) (.tmp 179) rfl q Hxl.out rfl ON.out (fun b hb=>by have hb:b<w6.heap.size:=hb;omega) we.heap.size y [.int .u64 y] rfl (row_of NN.out) HOne.out HRow.out (by rw [Hxl.out];omega) (by rw [Hxl.out];omega) (by omega) ?_
   rintro g7 c7 w7 ho7 hs7 hg7-
   have hne:∀ b,b<w6.heap.size→(Value.slice oa q oc).ownBlock≠some b:=fun b hb e=>by have:=(hown.out b e).1;omega
   have hnv:∀ b,v0.heap.size≤b→(Value.slice oa q oc).ownBlock≠some b:=fun b hb e=>by have:=(hown.out b e).2;omega
   have X7:=Lib.hid ((hs7.block ib ⟨by omega,hne ib (by omega)⟩).trans XN.out)
   have R7:=Lib.hid (RN.out.step hs7 ⟨by omega,hne rb (by omega)⟩ ⟨by omega,hne gb (by omega)⟩)
   have S7:=Lib.hid ((TN.out.imp (S':=fun x=>x<w6.heap.size∧x≠rb∧x≠ib) (fun x hx=>⟨by have:=hx.1;omega,hx.2.1⟩)).trans (hs7.imp (fun x hx=>⟨by have:=hx.1;omega,hne x hx.1⟩)))
   have O7:=Lib.hid ho7
   refine hK.out _ _ ((hs7.cell (p:=⟨ib,7,none⟩) ⟨by show ib<_;omega,hne ib (by omega)⟩).trans hHeld) (fun hHeld=> ?_)
   clear hK K ho7 hs7 hg7
   try simp only [List.getElem_toArray,List.getElem_cons_zero,List.getElem_cons_succ,Act.put,List.setIfInBounds_toArray,List.set_cons_zero,List.set_cons_succ]
   refine wpAnyH_done (by kernel_rfl) ?_ _
   simp only [phaseQ]
   clear hHeld
   have cI:w7.cell? ⟨ib,7,none⟩=some (.slice oa q oc):=by rw [Lib.cell_of_heap X7.out];rfl
   have fI:w7.frozen? ⟨ib,7,none⟩=false:=Lib.frozen_of_heap X7.out 7
   have hs9:Step (fun b=>b≠ib) w7 (w7.setCell ⟨ib,7,none⟩ (.slice (some ⟨g7,0,none⟩) (q+1) c7)):=(Step.refl _ w7).setCell (fun h=>h rfl) _
   have X9:Hid ((w7.setCell ⟨ib,7,none⟩ (.slice (some ⟨g7,0,none⟩) (q+1) c7)).heap[ib]? =some (.cells (imgCells ⟨y0,y1,y2,y3,y4,.slice (some ⟨g7,0,none⟩) (q+1) c7,y6,y7,y8,y9,y10⟩ im) 40 (0,0))):=Lib.hid (setCell_listX X7.out 7 (.slice (some ⟨g7,0,none⟩) (q+1) c7))
   have Hfin:=Lib.hid (ZQ.next Hxl.out H4.out H5.out H7.out (HG.out.eff f1) (HGr.out) (O7.out.step hs9 (fun b _ hb e=>hb (by rw [e];show ib<_;omega))) (R7.out.step hs9 (by show rb≠ib;omega) (by show gb≠ib;omega)) (S7.out.trans (hs9.imp (fun x hx=>hx.2.2))))
   clear hs9
   go_wp2_with fail
   exact HK.out r _ _ rfl ⟨by omega,f1,⟨by kernel_rfl,rfl,(by kernel_rfl),(by kernel_rfl),(by kernel_rfl),(by kernel_rfl),(by show Value.int .i64 _=_;rw [Hrr.out];go_num),trivial⟩,_,X9.out,by rw [Hq1.out];exact Hfin.out⟩
end Go.Proofs.YtfchpchabdhcgaaGreat
namespace Go.Proofs.YtfchpchabdhcgaaGreat
open Go.RowKit
theorem ztl6 {w:World} {l:List UInt8} {a:Act} {w5:World} {B rb gb ib:Nat} {f:Bool} {s:Option (List UInt8)} {v:ImgV} {im:ImgL} {P':List RelL→List UInt8→Option (ImgL × List UInt8)} (hF:zFr [(2,.pointer (some ⟨w.heap.size,0,none⟩)),(4,.pointer (some ⟨rb,0,none⟩)),(5,.pointer (some ⟨ib,0,none⟩)),(6,.bool f)] a) (hC:ZSt w l B rb gb ib w5 f s v im (bindP (numP 2) fun n=>bindP (manyP relP n.toNat) P')) (hv:v.relocs=.slice none 0 0)
  (hK:∀ (a':Act) (w':World) (f':Bool) (s':Option (List UInt8)) (u:Value) (xs:List RelL),zFr [(2,.pointer (some ⟨w.heap.size,0,none⟩)),(4,.pointer (some ⟨rb,0,none⟩)),(5,.pointer (some ⟨ib,0,none⟩)),(6,.bool f')] a'→ZSt w l B rb gb ib w' f' s' {v with relocs:=u } {im with relocs:=xs } (P' xs)→(zRest Tryz.f22 14).wp Tryz.prog (bodyPost Tryz.prog Tryz.f22 (ReadPost w l)) a' w'):(zRest Tryz.f22 13).wp Tryz.prog (bodyPost Tryz.prog Tryz.f22 (ReadPost w l)) a w5:=by
 have HK:=Lib.hid hK
 have HC:=Lib.hid hC
 have b1:=hC.h1
 have b2:=hC.h2
 have b3:=hC.h3
 have b4:=hC.h4
 have b5:=hC.h5
 have R5:=Lib.hid hC.rd
 have X5:=Lib.hid hC.ix
 clear hC hK
 obtain⟨y0,y1,y2,y3,y4,y5,y6,y7,y8,y9,y10⟩:=v
 replace hv:y6=.slice none 0 0:=hv
 subst hv
 have e13:zRest Tryz.f22 13=.seq (zCode Tryz.f22 13) (zRest Tryz.f22 14):=zd_seq _ 13 (by kernel_rfl)
 rw [e13]
 clear e13
 apply zFr.elim hF
 clear hF
 intro _ _
 intro V2
 intro _
 intro V4
 intro V5
 intro V6
 iterate 272 (intro _)
 intro hF
 obtain⟨-,-,e2,e4,e5,e6,-⟩:=hF
 replace e2:V2=.pointer (some ⟨w.heap.size,0,none⟩):=e2
 subst e2
 replace e4:V4=.pointer (some ⟨rb,0,none⟩):=e4
 subst e4
 replace e5:V5=.pointer (some ⟨ib,0,none⟩):=e5
 subst e5
 replace e6:V6=.bool f:=e6
 subst e6
 conv in zCode _ 13=>whnf
 have HN:=Lib.hid (ynum_any w5 rb gb s 2 R5.out (by decide))
 have hgn:=got_num s 2
 obtain⟨m,hm,hmm⟩:=okN_idx (by decide) (numS_ok s 2 (by decide))
 have hm1:m<65536:=hmm
 clear hmm
 obtain⟨s1,hs1⟩:∃ x,x=(numS s 2).2:=⟨_,rfl⟩
 rw [hm,← hs1]at HN hgn
 have GN:=Lib.hid hgn
 clear hgn hm hs1
 go_wp2_with fail
 refine HN.out.mono ?_
 clear HN
 rintro e w6 ⟨rfl,hr,hs,hzn⟩
 have R6:=Lib.hid hr
 have X6:=Lib.hid ((hs.block ib (by omega)).trans X5.out)
 have Q6:=Lib.hid hs
 have hB6:B≤w6.heap.size:=by omega
 clear hr hs X5 R5
 have FIN:Hid (∀ (a':Act) (wr:World) (f':Bool) (st:Option (List UInt8)) (u:Value) (xs:List RelL),zFr [(2,.pointer (some ⟨w.heap.size,0,none⟩)),(4,.pointer (some ⟨rb,0,none⟩)),(5,.pointer (some ⟨ib,0,none⟩)),(6,.bool f')] a'→OwnK 53 kRel w6.heap.size (·<w6.heap.size) wr u xs→(∀ x∈xs,okRel x)→Got (manyP relP m) (estS f s1) xs (estS f' st)→RX rb gb wr st→Step (fun x=>x<w6.heap.size∧x≠rb∧x≠ib) w6 wr→wr.heap[ib]? =some (.cells (imgCells ⟨y0,y1,y2,y3,y4,y5,u,y7,y8,y9,y10⟩ im) 40 (0,0))→(zRest Tryz.f22 14).wp Tryz.prog (bodyPost Tryz.prog Tryz.f22 (ReadPost w l)) a' wr):=Lib.hid (by
  intro a' wr f' st u xs hFr ho hK hg hr hs hx
  have hs5:Step (fun x=>x<w5.heap.size∧x≠rb∧x≠ib) w5 wr:=(Q6.out.imp (fun x h=>h.2.1)).trans (hs.imp (fun x h=>⟨by have:=h.1;omega,h.2⟩))
  exact HK.out a' wr f' st u xs hFr (HC.out.go (v':=⟨y0,y1,y2,y3,y4,y5,u,y7,y8,y9,y10⟩) (im':={im with relocs:=xs }) hs5 hr hx
   {
    HC.out.imgStep hs5 with
    relocs:=ho.lb.imp (fun b hb=>⟨by have:=hb.2;omega,hb.1⟩)
    relocsR:=fun r hr=>⟨okN_int64 (hK r hr).2.2.1,okN_int64 (hK r hr).2.1,okN_int64 (hK r hr).2.2.2⟩} (fun x st' h=>(GN.out.eff f).bind (hg.bind h))))
 clear HK hzn
 go_wp2_with fail
 refine wp_loop_dn (k:=19) (m:=m) (fun r a wr=>r≤m∧∃ f',zFr [(2,.pointer (some ⟨w.heap.size,0,none⟩)),(4,.pointer (some ⟨rb,0,none⟩)),(5,.pointer (some ⟨ib,0,none⟩)),(6,.bool f'),(19,.int .i64 (r:Nat))] a∧∃ u,wr.heap[ib]? =some (.cells (imgCells ⟨y0,y1,y2,y3,y4,y5,u,y7,y8,y9,y10⟩ im) 40 (0,0))∧ZQ 53 kRel relP okRel rb gb ib w6 f s1 wr u (m-r) f') ?_ ?_ ?_
 ·rintro r a wr ⟨-,f',h,-⟩
  exact zFrL.get h.2.2 (19,.int .i64 (r:Nat)) (by simp)
 ·exact⟨Nat.le_refl _,f,⟨by kernel_rfl,rfl,(by kernel_rfl),(by kernel_rfl),(by kernel_rfl),(by kernel_rfl),(by kernel_rfl),trivial⟩,_,X6.out,by rw [Nat.sub_self];exact ZQ.start R6.out⟩
 clear X6 R6 Q6 GN HC
 intro r a v0 K hI HK
 obtain⟨hrm,f1,hF,u,hX,hq⟩:=hI
 replace HK:=Lib.hid HK
 obtain⟨xs,st,h1,h2,h3,h4,h5,h6,h7⟩:=hq
 apply zFr.elim hF
 clear hF
 intro _ _
 intro V2
 intro _
 intro V4
 intro V5
 intro V6
 iterate 12 (intro _)
 intro V19
 iterate 259 (intro _)
 intro hF
 obtain⟨-,-,e2,e4,e5,e6,e19,-⟩:=hF
 replace e2:V2=.pointer (some ⟨w.heap.size,0,none⟩):=e2
 subst e2
 replace e4:V4=.pointer (some ⟨rb,0,none⟩):=e4
 subst e4
 replace e5:V5=.pointer (some ⟨ib,0,none⟩):=e5
 subst e5
 replace e6:V6=.bool f1:=e6
 subst e6
 replace e19:V19=.int .i64 (r:Nat):=e19
 subst e19
 have HO:=Lib.hid h1
 have HX:=Lib.hid hX
 have H4:=Lib.hid h4
 have H5:=Lib.hid h5
 have R0:=Lib.hid h6
 have H7:=Lib.hid h7
 have hz00:=h7.size
 obtain⟨fe,hfe,hfs⟩:=h6.fault
 clear h1 hX h4 h5 h6 h7
 cases r with
 | zero=>
  have hd:decide ((0:Int)<((0:Nat):Int))=false:=rfl
  go_wp2_with fail
  exact FIN.out _ v0 f1 st u xs ⟨by kernel_rfl,rfl,(by kernel_rfl),(by kernel_rfl),(by kernel_rfl),(by kernel_rfl),trivial⟩ HO.out H4.out H5.out R0.out H7.out HX.out
 | succ r=>
  obtain⟨rr,hrr⟩:∃ x:Int,x=((r+1:Nat):Int):=⟨_,rfl⟩
  have Hrr:=Lib.hid hrr
  have hrr1:1≤rr:=by omega
  have hrr2:rr≤65536:=by omega
  have hd:decide ((0:Int)<rr)=true:=by rw [decide_eq_true_eq];omega
  rw [← hrr]
  clear hrr
  cases st with
  | none=>
   have hf2:(fe==0)=false:=hfs
   clear hfs
   go_wp2_with fail
   have hs4:=H5.out
   rw [estS_none]at hs4
   exact FIN.out _ v0 f1 none u xs ⟨by kernel_rfl,rfl,(by kernel_rfl),(by kernel_rfl),(by kernel_rfl),(by kernel_rfl),trivial⟩ HO.out H4.out (by rw [estS_none];exact hs4.stop (by omega) _) R0.out H7.out HX.out
  | some lb=>
   have hf2:(fe==0)=true:=hfs
   have hxl:=h3 (by simp)
   clear hfs h2 h3 FIN
   obtain⟨oa,oc,huf⟩:=HO.out.form
   obtain⟨q,hqq⟩:∃ q,q=m-(r+1):=⟨_,rfl⟩
   have hq1:m-r=q+1:=by omega
   have hq2:q≤65536:=by omega
   rw [← hqq]at hxl H5
   rw [hxl]at huf
   subst huf
   have Hxl:=Lib.hid hxl
   have Hq1:=Lib.hid hq1
   clear hxl hq1 hqq
   have T0:=Lib.hid (Step.refl (fun x=>x<v0.heap.size∧x≠rb) v0)
   have hz0:v0.heap.size≤v0.heap.size:=Nat.le_refl _
   have HN:=Lib.hid (ynum_any v0 rb gb (some lb) 1 R0.out (by decide))
   have hgn:=got_num (some lb) 1
   have hno:=numS_ok (some lb) 1 (by decide)
   obtain⟨km,hx1⟩:∃ x,x=(numS (some lb) 1).1:=⟨_,rfl⟩
   obtain⟨s2,hs1⟩:∃ x,x=(numS (some lb) 1).2:=⟨_,rfl⟩
   rw [← hx1,← hs1]at HN hgn
   rw [← hx1]at hno
   have Gkm:=Lib.hid hgn
   have Kkm:=Lib.hid hno
   clear hgn hno hx1 hs1
   go_wp2_with fail
   refine HN.out.mono ?_
   clear HN
   rintro e v1 ⟨rfl,hr,hs,hzn⟩
   have R1:=Lib.hid hr
   have T1:=Lib.hid (T0.out.trans (hs.imp (fun x hx=>hx.2)))
   have hz1:=Nat.le_trans hz0 hs.size
   clear T0
   clear hr hs hzn R0
   have HN:=Lib.hid (zlist_any v1 rb gb s2 3 8 R1.out (by decide) (by decide))
   go_wp2_with fail
   refine HN.out.mono ?_
   clear HN
   rintro e v2 ⟨yl,ls,s3,rfl,hq⟩
   have hs:=hq.step
   have R2:=Lib.hid hq.rd
   have T2:=Lib.hid (T1.out.trans (hs.imp (fun x hx=>⟨by have:=hx.1;omega,hx.2⟩)))
   have hz2:=Nat.le_trans hz1 hs.size
   clear T1
   have HLls:=Lib.hid hq
   have Oyl_2:=Lib.hid ((hq.own.mono (B':=v0.heap.size) (by omega)).less (E':=(·<v0.heap.size)) (fun b hb=>by have hb:b<v0.heap.size:=hb;show b<_;omega))
   clear hq hs R1
   obtain⟨yla,ylc,hfyl⟩:=Oyl_2.out.form
   obtain⟨lsn,hlsn⟩:∃ n,n=ls.length:=⟨_,rfl⟩
   have Hlsn:=Lib.hid hlsn
   have hle:=HLls.out.le
   rw [← hlsn]at hfyl hle
   subst hfyl
   clear hlsn
   have HG:Hid (Got relP (some lb) (⟨ls.getD 0 0,km,ls.getD 1 0,ls.getD 2 0⟩:RelL) s3):=Lib.hid (by rw [rel_three];exact Gkm.out.bind (HLls.out.got.bind (Got.pure _ _)))
   by_cases hx2:lsn=3
   ·subst hx2
    have hx2:ls.length=3:=Hlsn.out.symm
    obtain⟨ylg,ylc',hf,hg1,hg2,hg3,hW⟩:=Oyl_2.out.words (by omega)
    rw [hx2]at hf hW hg3
    obtain⟨rfl,-,rfl⟩:=Value.slice.inj hf
    have hyl1:v0.heap.size≤ylg:=hg1
    have hyl2:ylg<v2.heap.size:=hg2
    clear hf hg1 hg2
    have kyl0:=okN_getD HLls.out.ok 0 (by omega)
    have qyl0:=hW 0 (by omega)
    obtain⟨yl0,ha⟩:∃ z,z=ls.getD 0 0:=⟨_,rfl⟩
    rw [← ha]at kyl0 qyl0 HG
    clear ha
    have kyl1:=okN_getD HLls.out.ok 1 (by omega)
    have qyl1:=hW 1 (by omega)
    obtain⟨yl1,ha⟩:∃ z,z=ls.getD 1 0:=⟨_,rfl⟩
    rw [← ha]at kyl1 qyl1 HG
    clear ha
    have kyl2:=okN_getD HLls.out.ok 2 (by omega)
    have qyl2:=hW 2 (by omega)
    obtain⟨yl2,ha⟩:∃ z,z=ls.getD 2 0:=⟨_,rfl⟩
    rw [← ha]at kyl2 qyl2 HG
    clear ha
    clear hW hx2 HLls Hlsn
    go_upto_region 42 with fail
    have XI:=Lib.hid ((T2.out.block ib ⟨by omega,by omega⟩).trans HX.out)
    have OI:=Lib.hid (HO.out.step T2.out (fun y h1 h2=>⟨h1,fun e=>h2 (by rw [e];show rb<_;omega)⟩))
    have hown:=Lib.hid HO.out.lt
    have cI:v2.cell? ⟨ib,9,none⟩=some (.slice oa q oc):=by rw [Lib.cell_of_heap XI.out];rfl
    clear HO HX
    refine wp_region_phase 15 (by kernel_rfl) (by kernel_rfl) ?_
    simp only [List.take_succ_cons,List.take_zero,List.drop_succ_cons,List.drop_zero,List.take_nil,List.drop_nil]
    refine wpAny_of_held (S:=fun w':World=>w'.cell? ⟨ib,9,none⟩=some (.slice oa q oc)∧w'.cell? ⟨ylg,0,none⟩=some (.int .i64 yl0)∧w'.cell? ⟨ylg,1,none⟩=some (.int .i64 yl1)∧w'.cell? ⟨ylg,2,none⟩=some (.int .i64 yl2)) _ _ _ _ ?_
    have hHeld:(fun w':World=>w'.cell? ⟨ib,9,none⟩=some (.slice oa q oc)∧w'.cell? ⟨ylg,0,none⟩=some (.int .i64 yl0)∧w'.cell? ⟨ylg,1,none⟩=some (.int .i64 yl1)∧w'.cell? ⟨ylg,2,none⟩=some (.int .i64 yl2)) (World.drew v2):=⟨cI,qyl0,qyl1,qyl2⟩
    show wpAnyH _ _ _ _ _ _ _ _ (World.drew _)
    have XId:Hid ((World.drew v2).heap[ib]? =_):=Lib.hid XI.out
    have OId:=Lib.hid OI.out.drew
    have RId:=Lib.hid R2.out.drew
    have TId:=Lib.hid T2.out.drew
    have hzd:v0.heap.size≤(World.drew v2).heap.size:=hz2
    have hzd2:v2.heap.size≤(World.drew v2).heap.size:=Nat.le_refl _
    have Oyl_d:=Lib.hid Oyl_2.out.drew
    clear Oyl_2
    clear XI OI R2 T2 cI
    generalize (World.drew v2)=wd at *
    refine wpAnyH_reads [0,1,2,3,4,5,6,7,8,9,10,11,12] hHeld (fun _ _ _ _ _ h=>h) (by kernel_rfl) rfl rfl ?_
    simp only [Takes,List.toList_toArray,opN_zero,opN_succ]
    iterate 13 (refine ⟨?_,Or.inl ⟨by rfl,?_⟩,?_⟩;rotate_left;(· (intro w hSw;(try dsimp only at hSw);go_simp;try with_reducible rfl));try simp only [Act.put,List.setIfInBounds_toArray,List.set_cons_zero,List.set_cons_succ])
    have XN:=Lib.hid ((heap_alloc_old wd (.cells #[.int .i64 yl0,.int .i64 km,.int .i64 yl1,.int .i64 yl2] 53 (0,0)) (r:=ib) (by omega)).trans XId.out)
    have ON:=Lib.hid (OId.out.alloc (.cells #[.int .i64 yl0,.int .i64 km,.int .i64 yl1,.int .i64 yl2] 53 (0,0)))
    have RN:=Lib.hid (RId.out.alloc (.cells #[.int .i64 yl0,.int .i64 km,.int .i64 yl1,.int .i64 yl2] 53 (0,0)))
    have TN:=Lib.hid (TId.out.alloc (fun b hb=>by have:=hb.1;omega) (.cells #[.int .i64 yl0,.int .i64 km,.int .i64 yl1,.int .i64 yl2] 53 (0,0)))
    have NN:=Lib.hid (heap_alloc_new wd (.cells #[.int .i64 yl0,.int .i64 km,.int .i64 yl1,.int .i64 yl2] 53 (0,0)))
    have hzn:wd.heap.size<(wd.alloc (.cells #[.int .i64 yl0,.int .i64 km,.int .i64 yl1,.int .i64 yl2] 53 (0,0))).heap.size:=by simp
    have Oyl_n:=Lib.hid (Oyl_d.out.alloc (.cells #[.int .i64 yl0,.int .i64 km,.int .i64 yl1,.int .i64 yl2] 53 (0,0)))
    refine wpAnyH_ready (rs:=[13]) (by kernel_rfl) (by simp) ?_
    refine AllReadyH.cons rfl (fun K hK=> ?_) AllReadyH.nil
    go_simp
    refine hK.out _ _ ⟨(World.cell?_alloc_lt _ _ _ (World.block_lt_of_cell? _ _ hHeld.1)).trans hHeld.1,(World.cell?_alloc_lt _ _ _ (World.block_lt_of_cell? _ _ hHeld.2.1)).trans hHeld.2.1,(World.cell?_alloc_lt _ _ _ (World.block_lt_of_cell? _ _ hHeld.2.2.1)).trans hHeld.2.2.1,(World.cell?_alloc_lt _ _ _ (World.block_lt_of_cell? _ _ hHeld.2.2.2)).trans hHeld.2.2.2⟩ (fun hHeld=> ?_)
    clear hK K
    try simp only [List.getElem_toArray,List.getElem_cons_zero,List.getElem_cons_succ,Act.put,List.setIfInBounds_toArray,List.set_cons_zero,List.set_cons_succ]
    clear XId OId RId TId
    generalize wd.alloc (.cells #[.int .i64 yl0,.int .i64 km,.int .i64 yl1,.int .i64 yl2] 53 (0,0))=wn at *
    have HRow:Hid (kRel.R (fun b=>b<wn.heap.size∧¬ b<w6.heap.size∧(Value.slice oa q oc).ownBlock≠some b) wn (⟨yl0,km,yl1,yl2⟩:RelL) [.int .i64 yl0,.int .i64 km,.int .i64 yl1,.int .i64 yl2]):=Lib.hid rfl
    have HOne:Hid (∀ u∈([.int .i64 yl0,.int .i64 km,.int .i64 yl1,.int .i64 yl2]:List Value),u.oneCell'=true):=Lib.hid (by
     intro u hu
     simp only [List.mem_cons,List.not_mem_nil,or_false]at hu
     rcases hu with rfl | rfl | rfl | rfl<;>rfl)
    refine wpAnyH_ready (rs:=[14]) (by kernel_rfl) (by simp) ?_
    refine AllReadyH.cons rfl (fun K hK=> ?_) AllReadyH.nil
    rw [if_pos (by rfl)]
    simp only [List.getElem_toArray,List.getElem_cons_succ,List.getElem_cons_zero]
    refine wp_appendK (K:=kRel) (v:=.slice oa q oc) (e:=53) (B:=w6.heap.size) (E:=(·<w6.heap.size)) 36 (.agg #[.int .i64 0,.int .i64 0,.int .i64 0,.int .i64 0]) 32 Tryz.underlying36 info_reloc rfl (by decide) (.tmp 205) (.tmp 217) rfl q Hxl.out rfl ON.out (fun b hb=>by have hb:b<w6.heap.size:=hb;omega) wd.heap.size (⟨yl0,km,yl1,yl2⟩:RelL) [.int .i64 yl0,.int .i64 km,.int .i64 yl1,.int .i64 yl2] rfl (row_of NN.out) HOne.out HRow.out (by rw [Hxl.out];omega) (by rw [Hxl.out];omega) (by omega) ?_
    rintro g7 c7 w7 ho7 hs7 hg7-
    have hne:∀ b,b<w6.heap.size→(Value.slice oa q oc).ownBlock≠some b:=fun b hb e=>by have:=(hown.out b e).1;omega
    have hnv:∀ b,v0.heap.size≤b→(Value.slice oa q oc).ownBlock≠some b:=fun b hb e=>by have:=(hown.out b e).2;omega
    have X7:=Lib.hid ((hs7.block ib ⟨by omega,hne ib (by omega)⟩).trans XN.out)
    have R7:=Lib.hid (RN.out.step hs7 ⟨by omega,hne rb (by omega)⟩ ⟨by omega,hne gb (by omega)⟩)
    have S7:=Lib.hid ((TN.out.imp (S':=fun x=>x<w6.heap.size∧x≠rb∧x≠ib) (fun x hx=>⟨by have:=hx.1;omega,hx.2.1⟩)).trans (hs7.imp (fun x hx=>⟨by have:=hx.1;omega,hne x hx.1⟩)))
    have O7:=Lib.hid ho7
    refine hK.out _ _ ⟨(hs7.cell (p:=⟨ib,9,none⟩) ⟨by show ib<_;omega,hne ib (by omega)⟩).trans hHeld.1,(hs7.cell (p:=⟨ylg,0,none⟩) ⟨by show ylg<_;omega,hnv ylg (by omega)⟩).trans hHeld.2.1,(hs7.cell (p:=⟨ylg,1,none⟩) ⟨by show ylg<_;omega,hnv ylg (by omega)⟩).trans hHeld.2.2.1,(hs7.cell (p:=⟨ylg,2,none⟩) ⟨by show ylg<_;omega,hnv ylg (by omega)⟩).trans hHeld.2.2.2⟩ (fun hHeld=> ?_)
    clear hK K ho7 hs7 hg7
    try simp only [List.getElem_toArray,List.getElem_cons_zero,List.getElem_cons_succ,Act.put,List.setIfInBounds_toArray,List.set_cons_zero,List.set_cons_succ]
    refine wpAnyH_done (by kernel_rfl) ?_ _
    simp only [phaseQ]
    clear hHeld
    have cI:w7.cell? ⟨ib,9,none⟩=some (.slice oa q oc):=by rw [Lib.cell_of_heap X7.out];rfl
    have fI:w7.frozen? ⟨ib,9,none⟩=false:=Lib.frozen_of_heap X7.out 9
    have hs9:Step (fun b=>b≠ib) w7 (w7.setCell ⟨ib,9,none⟩ (.slice (some ⟨g7,0,none⟩) (q+1) c7)):=(Step.refl _ w7).setCell (fun h=>h rfl) _
    have X9:Hid ((w7.setCell ⟨ib,9,none⟩ (.slice (some ⟨g7,0,none⟩) (q+1) c7)).heap[ib]? =some (.cells (imgCells ⟨y0,y1,y2,y3,y4,y5,.slice (some ⟨g7,0,none⟩) (q+1) c7,y7,y8,y9,y10⟩ im) 40 (0,0))):=Lib.hid (setCell_listX X7.out 9 (.slice (some ⟨g7,0,none⟩) (q+1) c7))
    have Hfin:=Lib.hid (ZQ.next Hxl.out H4.out H5.out H7.out (HG.out.eff f1) (⟨Kkm.out,kyl0,kyl1,kyl2⟩) (O7.out.step hs9 (fun b _ hb e=>hb (by rw [e];show ib<_;omega))) (R7.out.step hs9 (by show rb≠ib;omega) (by show gb≠ib;omega)) (S7.out.trans (hs9.imp (fun x hx=>hx.2.2))))
    clear hs9
    go_wp2_with fail
    exact HK.out r _ _ rfl ⟨by omega,f1,⟨by kernel_rfl,rfl,(by kernel_rfl),(by kernel_rfl),(by kernel_rfl),(by kernel_rfl),(by show Value.int .i64 _=_;rw [Hrr.out];go_num),trivial⟩,_,X9.out,by rw [Hq1.out];exact Hfin.out⟩
   ·have hd2:((lsn:Int)==3)=false:=by rw [beq_eq_false_iff_ne];omega
    have hst:s3=none:=HLls.out.shrunk (by have:=Hlsn.out;omega)
    have X9:=Lib.hid ((T2.out.block ib ⟨by omega,by omega⟩).trans HX.out)
    have hrn:=R2.out
    rw [hst]at hrn
    have hgn:=HG.out.eff f1
    rw [hst,estS_none]at hgn
    have Hfin:=Lib.hid (ZQ.skip (f':=f1) Hxl.out H4.out H5.out H7.out hgn (HO.out.step T2.out (fun y h1 h2=>⟨h1,fun e=>h2 (by rw [e];show rb<_;omega)⟩)) hrn (T2.out.imp (fun x hx=>⟨by have:=hx.1;omega,hx.2.1⟩)))
    clear hrn hgn
    go_wp2_with fail
    exact HK.out r _ _ rfl ⟨by omega,f1,⟨by kernel_rfl,rfl,(by kernel_rfl),(by kernel_rfl),(by kernel_rfl),(by kernel_rfl),(by show Value.int .i64 _=_;rw [Hrr.out];go_num),trivial⟩,_,X9.out,by rw [Hq1.out];exact Hfin.out⟩
end Go.Proofs.YtfchpchabdhcgaaGreat
namespace Go.Proofs.YtfchpchabdhcgaaGreat
open Go.RowKit
theorem ztl7 {w:World} {l:List UInt8} {a:Act} {w5:World} {B rb gb ib:Nat} {f:Bool} {s:Option (List UInt8)} {v:ImgV} {im:ImgL} {P':List SlotL→List UInt8→Option (ImgL × List UInt8)} (hF:zFr [(2,.pointer (some ⟨w.heap.size,0,none⟩)),(4,.pointer (some ⟨rb,0,none⟩)),(5,.pointer (some ⟨ib,0,none⟩)),(6,.bool f)] a) (hC:ZSt w l B rb gb ib w5 f s v im (bindP (numP 2) fun n=>bindP (manyP slotP n.toNat) P')) (hv:v.slots=.slice none 0 0)
  (hK:∀ (a':Act) (w':World) (f':Bool) (s':Option (List UInt8)) (u:Value) (xs:List SlotL),zFr [(2,.pointer (some ⟨w.heap.size,0,none⟩)),(4,.pointer (some ⟨rb,0,none⟩)),(5,.pointer (some ⟨ib,0,none⟩)),(6,.bool f')] a'→ZSt w l B rb gb ib w' f' s' {v with slots:=u } {im with slots:=xs } (P' xs)→(zRest Tryz.f22 15).wp Tryz.prog (bodyPost Tryz.prog Tryz.f22 (ReadPost w l)) a' w'):(zRest Tryz.f22 14).wp Tryz.prog (bodyPost Tryz.prog Tryz.f22 (ReadPost w l)) a w5:=by
 have HK:=Lib.hid hK
 have HC:=Lib.hid hC
 have b1:=hC.h1
 have b2:=hC.h2
 have b3:=hC.h3
 have b4:=hC.h4
 have b5:=hC.h5
 have R5:=Lib.hid hC.rd
 have X5:=Lib.hid hC.ix
 clear hC hK
 obtain⟨y0,y1,y2,y3,y4,y5,y6,y7,y8,y9,y10⟩:=v
 replace hv:y7=.slice none 0 0:=hv
 subst hv
 have e14:zRest Tryz.f22 14=.seq (zCode Tryz.f22 14) (zRest Tryz.f22 15):=zd_seq _ 14 (by kernel_rfl)
 rw [e14]
 clear e14
 apply zFr.elim hF
 clear hF
 intro _ _
 intro V2
 intro _
 intro V4
 intro V5
 intro V6
 iterate 272 (intro _)
 intro hF
 obtain⟨-,-,e2,e4,e5,e6,-⟩:=hF
 replace e2:V2=.pointer (some ⟨w.heap.size,0,none⟩):=e2
 subst e2
 replace e4:V4=.pointer (some ⟨rb,0,none⟩):=e4
 subst e4
 replace e5:V5=.pointer (some ⟨ib,0,none⟩):=e5
 subst e5
 replace e6:V6=.bool f:=e6
 subst e6
 conv in zCode _ 14=>whnf
 have HN:=Lib.hid (ynum_any w5 rb gb s 2 R5.out (by decide))
 have hgn:=got_num s 2
 obtain⟨m,hm,hmm⟩:=okN_idx (by decide) (numS_ok s 2 (by decide))
 have hm1:m<65536:=hmm
 clear hmm
 obtain⟨s1,hs1⟩:∃ x,x=(numS s 2).2:=⟨_,rfl⟩
 rw [hm,← hs1]at HN hgn
 have GN:=Lib.hid hgn
 clear hgn hm hs1
 go_wp2_with fail
 refine HN.out.mono ?_
 clear HN
 rintro e w6 ⟨rfl,hr,hs,hzn⟩
 have R6:=Lib.hid hr
 have X6:=Lib.hid ((hs.block ib (by omega)).trans X5.out)
 have Q6:=Lib.hid hs
 have hB6:B≤w6.heap.size:=by omega
 clear hr hs X5 R5
 have FIN:Hid (∀ (a':Act) (wr:World) (f':Bool) (st:Option (List UInt8)) (u:Value) (xs:List SlotL),zFr [(2,.pointer (some ⟨w.heap.size,0,none⟩)),(4,.pointer (some ⟨rb,0,none⟩)),(5,.pointer (some ⟨ib,0,none⟩)),(6,.bool f')] a'→OwnK 76 kSlot w6.heap.size (·<w6.heap.size) wr u xs→(∀ x∈xs,okSlot x)→Got (manyP slotP m) (estS f s1) xs (estS f' st)→RX rb gb wr st→Step (fun x=>x<w6.heap.size∧x≠rb∧x≠ib) w6 wr→wr.heap[ib]? =some (.cells (imgCells ⟨y0,y1,y2,y3,y4,y5,y6,u,y8,y9,y10⟩ im) 40 (0,0))→(zRest Tryz.f22 15).wp Tryz.prog (bodyPost Tryz.prog Tryz.f22 (ReadPost w l)) a' wr):=Lib.hid (by
  intro a' wr f' st u xs hFr ho hK hg hr hs hx
  have hs5:Step (fun x=>x<w5.heap.size∧x≠rb∧x≠ib) w5 wr:=(Q6.out.imp (fun x h=>h.2.1)).trans (hs.imp (fun x h=>⟨by have:=h.1;omega,h.2⟩))
  exact HK.out a' wr f' st u xs hFr (HC.out.go (v':=⟨y0,y1,y2,y3,y4,y5,y6,u,y8,y9,y10⟩) (im':={im with slots:=xs }) hs5 hr hx
   {
    HC.out.imgStep hs5 with
    slots:=ho.lb.imp (fun b hb=>⟨by have:=hb.2;omega,hb.1⟩)
    slotsR:=fun r hr=>⟨okN_int64 (hK r hr).2.1,okN_int64 (hK r hr).1,okN_int64 (hK r hr).2.2⟩} (fun x st' h=>(GN.out.eff f).bind (hg.bind h))))
 clear HK hzn
 go_wp2_with fail
 refine wp_loop_dn (k:=22) (m:=m) (fun r a wr=>r≤m∧∃ f',zFr [(2,.pointer (some ⟨w.heap.size,0,none⟩)),(4,.pointer (some ⟨rb,0,none⟩)),(5,.pointer (some ⟨ib,0,none⟩)),(6,.bool f'),(22,.int .i64 (r:Nat))] a∧∃ u,wr.heap[ib]? =some (.cells (imgCells ⟨y0,y1,y2,y3,y4,y5,y6,u,y8,y9,y10⟩ im) 40 (0,0))∧ZQ 76 kSlot slotP okSlot rb gb ib w6 f s1 wr u (m-r) f') ?_ ?_ ?_
 ·rintro r a wr ⟨-,f',h,-⟩
  exact zFrL.get h.2.2 (22,.int .i64 (r:Nat)) (by simp)
 ·exact⟨Nat.le_refl _,f,⟨by kernel_rfl,rfl,(by kernel_rfl),(by kernel_rfl),(by kernel_rfl),(by kernel_rfl),(by kernel_rfl),trivial⟩,_,X6.out,by rw [Nat.sub_self];exact ZQ.start R6.out⟩
 clear X6 R6 Q6 GN HC
 intro r a v0 K hI HK
 obtain⟨hrm,f1,hF,u,hX,hq⟩:=hI
 replace HK:=Lib.hid HK
 obtain⟨xs,st,h1,h2,h3,h4,h5,h6,h7⟩:=hq
 apply zFr.elim hF
 clear hF
 intro _ _
 intro V2
 intro _
 intro V4
 intro V5
 intro V6
 iterate 15 (intro _)
 intro V22
 iterate 256 (intro _)
 intro hF
 obtain⟨-,-,e2,e4,e5,e6,e22,-⟩:=hF
 replace e2:V2=.pointer (some ⟨w.heap.size,0,none⟩):=e2
 subst e2
 replace e4:V4=.pointer (some ⟨rb,0,none⟩):=e4
 subst e4
 replace e5:V5=.pointer (some ⟨ib,0,none⟩):=e5
 subst e5
 replace e6:V6=.bool f1:=e6
 subst e6
 replace e22:V22=.int .i64 (r:Nat):=e22
 subst e22
 have HO:=Lib.hid h1
 have HX:=Lib.hid hX
 have H4:=Lib.hid h4
 have H5:=Lib.hid h5
 have R0:=Lib.hid h6
 have H7:=Lib.hid h7
 have hz00:=h7.size
 obtain⟨fe,hfe,hfs⟩:=h6.fault
 clear h1 hX h4 h5 h6 h7
 cases r with
 | zero=>
  have hd:decide ((0:Int)<((0:Nat):Int))=false:=rfl
  go_wp2_with fail
  exact FIN.out _ v0 f1 st u xs ⟨by kernel_rfl,rfl,(by kernel_rfl),(by kernel_rfl),(by kernel_rfl),(by kernel_rfl),trivial⟩ HO.out H4.out H5.out R0.out H7.out HX.out
 | succ r=>
  obtain⟨rr,hrr⟩:∃ x:Int,x=((r+1:Nat):Int):=⟨_,rfl⟩
  have Hrr:=Lib.hid hrr
  have hrr1:1≤rr:=by omega
  have hrr2:rr≤65536:=by omega
  have hd:decide ((0:Int)<rr)=true:=by rw [decide_eq_true_eq];omega
  rw [← hrr]
  clear hrr
  cases st with
  | none=>
   have hf2:(fe==0)=false:=hfs
   clear hfs
   go_wp2_with fail
   have hs4:=H5.out
   rw [estS_none]at hs4
   exact FIN.out _ v0 f1 none u xs ⟨by kernel_rfl,rfl,(by kernel_rfl),(by kernel_rfl),(by kernel_rfl),(by kernel_rfl),trivial⟩ HO.out H4.out (by rw [estS_none];exact hs4.stop (by omega) _) R0.out H7.out HX.out
  | some lb=>
   have hf2:(fe==0)=true:=hfs
   have hxl:=h3 (by simp)
   clear hfs h2 h3 FIN
   obtain⟨oa,oc,huf⟩:=HO.out.form
   obtain⟨q,hqq⟩:∃ q,q=m-(r+1):=⟨_,rfl⟩
   have hq1:m-r=q+1:=by omega
   have hq2:q≤65536:=by omega
   rw [← hqq]at hxl H5
   rw [hxl]at huf
   subst huf
   have Hxl:=Lib.hid hxl
   have Hq1:=Lib.hid hq1
   clear hxl hq1 hqq
   have T0:=Lib.hid (Step.refl (fun x=>x<v0.heap.size∧x≠rb) v0)
   have hz0:v0.heap.size≤v0.heap.size:=Nat.le_refl _
   have HN:=Lib.hid (zlist_any v0 rb gb (some lb) 3 4 R0.out (by decide) (by decide))
   go_wp2_with fail
   refine HN.out.mono ?_
   clear HN
   rintro e v1 ⟨yl,ls,s3,rfl,hq⟩
   have hs:=hq.step
   have R1:=Lib.hid hq.rd
   have T1:=Lib.hid (T0.out.trans (hs.imp (fun x hx=>⟨by have:=hx.1;omega,hx.2⟩)))
   have hz1:=Nat.le_trans hz0 hs.size
   clear T0
   have HLls:=Lib.hid hq
   have Oyl_1:=Lib.hid ((hq.own.mono (B':=v0.heap.size) (by omega)).less (E':=(·<v0.heap.size)) (fun b hb=>by have hb:b<v0.heap.size:=hb;show b<_;omega))
   clear hq hs R0
   obtain⟨yla,ylc,hfyl⟩:=Oyl_1.out.form
   obtain⟨lsn,hlsn⟩:∃ n,n=ls.length:=⟨_,rfl⟩
   have Hlsn:=Lib.hid hlsn
   have hle:=HLls.out.le
   rw [← hlsn]at hfyl hle
   subst hfyl
   clear hlsn
   have HG:Hid (Got slotP (some lb) (⟨ls.getD 0 0,ls.getD 1 0,ls.getD 2 0⟩:SlotL) s3):=Lib.hid (by rw [slot_three];exact HLls.out.got.bind (Got.pure _ _))
   by_cases hx2:lsn=3
   ·subst hx2
    have hx2:ls.length=3:=Hlsn.out.symm
    obtain⟨ylg,ylc',hf,hg1,hg2,hg3,hW⟩:=Oyl_1.out.words (by omega)
    rw [hx2]at hf hW hg3
    obtain⟨rfl,-,rfl⟩:=Value.slice.inj hf
    have hyl1:v0.heap.size≤ylg:=hg1
    have hyl2:ylg<v1.heap.size:=hg2
    clear hf hg1 hg2
    have kyl0:=okN_getD HLls.out.ok 0 (by omega)
    have qyl0:=hW 0 (by omega)
    obtain⟨yl0,ha⟩:∃ z,z=ls.getD 0 0:=⟨_,rfl⟩
    rw [← ha]at kyl0 qyl0 HG
    clear ha
    have kyl1:=okN_getD HLls.out.ok 1 (by omega)
    have qyl1:=hW 1 (by omega)
    obtain⟨yl1,ha⟩:∃ z,z=ls.getD 1 0:=⟨_,rfl⟩
    rw [← ha]at kyl1 qyl1 HG
    clear ha
    have kyl2:=okN_getD HLls.out.ok 2 (by omega)
    have qyl2:=hW 2 (by omega)
    obtain⟨yl2,ha⟩:∃ z,z=ls.getD 2 0:=⟨_,rfl⟩
    rw [← ha]at kyl2 qyl2 HG
    clear ha
    clear hW hx2 HLls Hlsn
    go_upto_region 48 with fail
    have XI:=Lib.hid ((T1.out.block ib ⟨by omega,by omega⟩).trans HX.out)
    have OI:=Lib.hid (HO.out.step T1.out (fun y h1 h2=>⟨h1,fun e=>h2 (by rw [e];show rb<_;omega)⟩))
    have hown:=Lib.hid HO.out.lt
    have cI:v1.cell? ⟨ib,10,none⟩=some (.slice oa q oc):=by rw [Lib.cell_of_heap XI.out];rfl
    clear HO HX
    refine wp_region_phase 14 (by kernel_rfl) (by kernel_rfl) ?_
    simp only [List.take_succ_cons,List.take_zero,List.drop_succ_cons,List.drop_zero,List.take_nil,List.drop_nil]
    refine wpAny_of_held (S:=fun w':World=>w'.cell? ⟨ib,10,none⟩=some (.slice oa q oc)∧w'.cell? ⟨ylg,0,none⟩=some (.int .i64 yl0)∧w'.cell? ⟨ylg,1,none⟩=some (.int .i64 yl1)∧w'.cell? ⟨ylg,2,none⟩=some (.int .i64 yl2)) _ _ _ _ ?_
    have hHeld:(fun w':World=>w'.cell? ⟨ib,10,none⟩=some (.slice oa q oc)∧w'.cell? ⟨ylg,0,none⟩=some (.int .i64 yl0)∧w'.cell? ⟨ylg,1,none⟩=some (.int .i64 yl1)∧w'.cell? ⟨ylg,2,none⟩=some (.int .i64 yl2)) (World.drew v1):=⟨cI,qyl0,qyl1,qyl2⟩
    show wpAnyH _ _ _ _ _ _ _ _ (World.drew _)
    have XId:Hid ((World.drew v1).heap[ib]? =_):=Lib.hid XI.out
    have OId:=Lib.hid OI.out.drew
    have RId:=Lib.hid R1.out.drew
    have TId:=Lib.hid T1.out.drew
    have hzd:v0.heap.size≤(World.drew v1).heap.size:=hz1
    have hzd2:v1.heap.size≤(World.drew v1).heap.size:=Nat.le_refl _
    have Oyl_d:=Lib.hid Oyl_1.out.drew
    clear Oyl_1
    clear XI OI R1 T1 cI
    generalize (World.drew v1)=wd at *
    refine wpAnyH_reads [0,1,2,3,4,5,6,7,8,9,10,11] hHeld (fun _ _ _ _ _ h=>h) (by kernel_rfl) rfl rfl ?_
    simp only [Takes,List.toList_toArray,opN_zero,opN_succ]
    iterate 12 (refine ⟨?_,Or.inl ⟨by rfl,?_⟩,?_⟩;rotate_left;(· (intro w hSw;(try dsimp only at hSw);go_simp;try with_reducible rfl));try simp only [Act.put,List.setIfInBounds_toArray,List.set_cons_zero,List.set_cons_succ])
    have XN:=Lib.hid ((heap_alloc_old wd (.cells #[.int .i64 yl0,.int .i64 yl1,.int .i64 yl2] 76 (0,0)) (r:=ib) (by omega)).trans XId.out)
    have ON:=Lib.hid (OId.out.alloc (.cells #[.int .i64 yl0,.int .i64 yl1,.int .i64 yl2] 76 (0,0)))
    have RN:=Lib.hid (RId.out.alloc (.cells #[.int .i64 yl0,.int .i64 yl1,.int .i64 yl2] 76 (0,0)))
    have TN:=Lib.hid (TId.out.alloc (fun b hb=>by have:=hb.1;omega) (.cells #[.int .i64 yl0,.int .i64 yl1,.int .i64 yl2] 76 (0,0)))
    have NN:=Lib.hid (heap_alloc_new wd (.cells #[.int .i64 yl0,.int .i64 yl1,.int .i64 yl2] 76 (0,0)))
    have hzn:wd.heap.size<(wd.alloc (.cells #[.int .i64 yl0,.int .i64 yl1,.int .i64 yl2] 76 (0,0))).heap.size:=by simp
    have Oyl_n:=Lib.hid (Oyl_d.out.alloc (.cells #[.int .i64 yl0,.int .i64 yl1,.int .i64 yl2] 76 (0,0)))
    refine wpAnyH_ready (rs:=[12]) (by kernel_rfl) (by simp) ?_
    refine AllReadyH.cons rfl (fun K hK=> ?_) AllReadyH.nil
    go_simp
    refine hK.out _ _ ⟨(World.cell?_alloc_lt _ _ _ (World.block_lt_of_cell? _ _ hHeld.1)).trans hHeld.1,(World.cell?_alloc_lt _ _ _ (World.block_lt_of_cell? _ _ hHeld.2.1)).trans hHeld.2.1,(World.cell?_alloc_lt _ _ _ (World.block_lt_of_cell? _ _ hHeld.2.2.1)).trans hHeld.2.2.1,(World.cell?_alloc_lt _ _ _ (World.block_lt_of_cell? _ _ hHeld.2.2.2)).trans hHeld.2.2.2⟩ (fun hHeld=> ?_)
    clear hK K
    try simp only [List.getElem_toArray,List.getElem_cons_zero,List.getElem_cons_succ,Act.put,List.setIfInBounds_toArray,List.set_cons_zero,List.set_cons_succ]
    clear XId OId RId TId
    generalize wd.alloc (.cells #[.int .i64 yl0,.int .i64 yl1,.int .i64 yl2] 76 (0,0))=wn at *
    have HRow:Hid (kSlot.R (fun b=>b<wn.heap.size∧¬ b<w6.heap.size∧(Value.slice oa q oc).ownBlock≠some b) wn (⟨yl0,yl1,yl2⟩:SlotL) [.int .i64 yl0,.int .i64 yl1,.int .i64 yl2]):=Lib.hid rfl
    have HOne:Hid (∀ u∈([.int .i64 yl0,.int .i64 yl1,.int .i64 yl2]:List Value),u.oneCell'=true):=Lib.hid (by
     intro u hu
     simp only [List.mem_cons,List.not_mem_nil,or_false]at hu
     rcases hu with rfl | rfl | rfl<;>rfl)
    refine wpAnyH_ready (rs:=[13]) (by kernel_rfl) (by simp) ?_
    refine AllReadyH.cons rfl (fun K hK=> ?_) AllReadyH.nil
    rw [if_pos (by rfl)]
    simp only [List.getElem_toArray,List.getElem_cons_succ,List.getElem_cons_zero]
    refine wp_appendK (K:=kSlot) (v:=.slice oa q oc) (e:=76) (B:=w6.heap.size) (E:=(·<w6.heap.size)) 37 (.agg #[.int .i64 0,.int .i64 0,.int .i64 0]) 24 Tryz.underlying37 info_slot rfl (by decide) (.tmp 239) (.tmp 250) rfl q Hxl.out rfl ON.out (fun b hb=>by have hb:b<w6.heap.size:=hb;omega) wd.heap.size (⟨yl0,yl1,yl2⟩:SlotL) [.int .i64 yl0,.int .i64 yl1,.int .i64 yl2] rfl (row_of NN.out) HOne.out HRow.out (by rw [Hxl.out];omega) (by rw [Hxl.out];omega) (by omega) ?_
    rintro g7 c7 w7 ho7 hs7 hg7-
    have hne:∀ b,b<w6.heap.size→(Value.slice oa q oc).ownBlock≠some b:=fun b hb e=>by have:=(hown.out b e).1;omega
    have hnv:∀ b,v0.heap.size≤b→(Value.slice oa q oc).ownBlock≠some b:=fun b hb e=>by have:=(hown.out b e).2;omega
    have X7:=Lib.hid ((hs7.block ib ⟨by omega,hne ib (by omega)⟩).trans XN.out)
    have R7:=Lib.hid (RN.out.step hs7 ⟨by omega,hne rb (by omega)⟩ ⟨by omega,hne gb (by omega)⟩)
    have S7:=Lib.hid ((TN.out.imp (S':=fun x=>x<w6.heap.size∧x≠rb∧x≠ib) (fun x hx=>⟨by have:=hx.1;omega,hx.2.1⟩)).trans (hs7.imp (fun x hx=>⟨by have:=hx.1;omega,hne x hx.1⟩)))
    have O7:=Lib.hid ho7
    refine hK.out _ _ ⟨(hs7.cell (p:=⟨ib,10,none⟩) ⟨by show ib<_;omega,hne ib (by omega)⟩).trans hHeld.1,(hs7.cell (p:=⟨ylg,0,none⟩) ⟨by show ylg<_;omega,hnv ylg (by omega)⟩).trans hHeld.2.1,(hs7.cell (p:=⟨ylg,1,none⟩) ⟨by show ylg<_;omega,hnv ylg (by omega)⟩).trans hHeld.2.2.1,(hs7.cell (p:=⟨ylg,2,none⟩) ⟨by show ylg<_;omega,hnv ylg (by omega)⟩).trans hHeld.2.2.2⟩ (fun hHeld=> ?_)
    clear hK K ho7 hs7 hg7
    try simp only [List.getElem_toArray,List.getElem_cons_zero,List.getElem_cons_succ,Act.put,List.setIfInBounds_toArray,List.set_cons_zero,List.set_cons_succ]
    refine wpAnyH_done (by kernel_rfl) ?_ _
    simp only [phaseQ]
    clear hHeld
    have cI:w7.cell? ⟨ib,10,none⟩=some (.slice oa q oc):=by rw [Lib.cell_of_heap X7.out];rfl
    have fI:w7.frozen? ⟨ib,10,none⟩=false:=Lib.frozen_of_heap X7.out 10
    have hs9:Step (fun b=>b≠ib) w7 (w7.setCell ⟨ib,10,none⟩ (.slice (some ⟨g7,0,none⟩) (q+1) c7)):=(Step.refl _ w7).setCell (fun h=>h rfl) _
    have X9:Hid ((w7.setCell ⟨ib,10,none⟩ (.slice (some ⟨g7,0,none⟩) (q+1) c7)).heap[ib]? =some (.cells (imgCells ⟨y0,y1,y2,y3,y4,y5,y6,.slice (some ⟨g7,0,none⟩) (q+1) c7,y8,y9,y10⟩ im) 40 (0,0))):=Lib.hid (setCell_listX X7.out 10 (.slice (some ⟨g7,0,none⟩) (q+1) c7))
    have Hfin:=Lib.hid (ZQ.next Hxl.out H4.out H5.out H7.out (HG.out.eff f1) (⟨kyl0,kyl1,kyl2⟩) (O7.out.step hs9 (fun b _ hb e=>hb (by rw [e];show ib<_;omega))) (R7.out.step hs9 (by show rb≠ib;omega) (by show gb≠ib;omega)) (S7.out.trans (hs9.imp (fun x hx=>hx.2.2))))
    clear hs9
    go_wp2_with fail
    exact HK.out r _ _ rfl ⟨by omega,f1,⟨by kernel_rfl,rfl,(by kernel_rfl),(by kernel_rfl),(by kernel_rfl),(by kernel_rfl),(by show Value.int .i64 _=_;rw [Hrr.out];go_num),trivial⟩,_,X9.out,by rw [Hq1.out];exact Hfin.out⟩
   ·have hd2:((lsn:Int)==3)=false:=by rw [beq_eq_false_iff_ne];omega
    have hst:s3=none:=HLls.out.shrunk (by have:=Hlsn.out;omega)
    have X9:=Lib.hid ((T1.out.block ib ⟨by omega,by omega⟩).trans HX.out)
    have hrn:=R1.out
    rw [hst]at hrn
    have hgn:=HG.out.eff f1
    rw [hst,estS_none]at hgn
    have Hfin:=Lib.hid (ZQ.skip (f':=f1) Hxl.out H4.out H5.out H7.out hgn (HO.out.step T1.out (fun y h1 h2=>⟨h1,fun e=>h2 (by rw [e];show rb<_;omega)⟩)) hrn (T1.out.imp (fun x hx=>⟨by have:=hx.1;omega,hx.2.1⟩)))
    clear hrn hgn
    go_wp2_with fail
    exact HK.out r _ _ rfl ⟨by omega,f1,⟨by kernel_rfl,rfl,(by kernel_rfl),(by kernel_rfl),(by kernel_rfl),(by kernel_rfl),(by show Value.int .i64 _=_;rw [Hrr.out];go_num),trivial⟩,_,X9.out,by rw [Hq1.out];exact Hfin.out⟩
end Go.Proofs.YtfchpchabdhcgaaGreat
namespace Go.Proofs.YtfchpchabdhcgaaGreat
open Go.RowKit
theorem zt8 {w:World} {l:List UInt8} {a:Act} {w5:World} {B rb gb ib:Nat} {f:Bool} {s:Option (List UInt8)} {v:ImgV} {im:ImgL} {P':List (List UInt8)→List UInt8→Option (ImgL × List UInt8)} (hF:zFr [(2,.pointer (some ⟨w.heap.size,0,none⟩)),(4,.pointer (some ⟨rb,0,none⟩)),(5,.pointer (some ⟨ib,0,none⟩)),(6,.bool f)] a) (hC:ZSt w l B rb gb ib w5 f s v im (bindP (numP 1) fun n=>bindP (textsP n) P')) (hv:v.runPath=.slice none 0 0)
  (hK:∀ (a':Act) (w':World) (s':Option (List UInt8)) (u:Value) (xs:List (List UInt8)),zFr [(2,.pointer (some ⟨w.heap.size,0,none⟩)),(4,.pointer (some ⟨rb,0,none⟩)),(5,.pointer (some ⟨ib,0,none⟩)),(6,.bool f)] a'→ZSt w l B rb gb ib w' f s' {v with runPath:=u } {im with runPath:=xs } (P' xs)→(zRest Tryz.f22 9).wp Tryz.prog (bodyPost Tryz.prog Tryz.f22 (ReadPost w l)) a' w'):(zRest Tryz.f22 8).wp Tryz.prog (bodyPost Tryz.prog Tryz.f22 (ReadPost w l)) a w5:=by
 have HK:=Lib.hid hK
 have HC:=Lib.hid hC
 have b1:=hC.h1
 have b2:=hC.h2
 have b3:=hC.h3
 have b4:=hC.h4
 have b5:=hC.h5
 have R5:=Lib.hid hC.rd
 have X5:=Lib.hid hC.ix
 clear hC hK
 obtain⟨y0,y1,y2,y3,y4,y5,y6,y7,y8,y9,y10⟩:=v
 replace hv:y2=.slice none 0 0:=hv
 subst hv
 have e8:zRest Tryz.f22 8=.seq (zCode Tryz.f22 8) (zRest Tryz.f22 9):=zd_seq _ 8 (by kernel_rfl)
 rw [e8]
 clear e8
 apply zFr.elim hF
 clear hF
 intro _ _
 intro V2
 intro _
 intro V4
 intro V5
 intro V6
 iterate 272 (intro _)
 intro hF
 obtain⟨-,-,e2,e4,e5,e6,-⟩:=hF
 replace e2:V2=.pointer (some ⟨w.heap.size,0,none⟩):=e2
 subst e2
 replace e4:V4=.pointer (some ⟨rb,0,none⟩):=e4
 subst e4
 replace e5:V5=.pointer (some ⟨ib,0,none⟩):=e5
 subst e5
 replace e6:V6=.bool f:=e6
 subst e6
 conv in zCode _ 8=>whnf
 have HN:=Lib.hid (zwords_any w5 rb gb s R5.out)
 go_wp2_with fail
 refine HN.out.mono ?_
 clear HN
 rintro e w6 ⟨kn,sa,u,xs,s',rfl,hgk,hkn,hq⟩
 have hs:=hq.step
 have hz6:=hs.size
 obtain⟨ua,uc,hu⟩:=hq.own.form
 have HQ:=Lib.hid hq
 have HG:=Lib.hid hgk
 have HS:=Lib.hid hs
 have X6:=Lib.hid ((hs.block ib ⟨by omega,by omega⟩).trans X5.out)
 subst hu
 clear hq hgk hs X5
 have cI:w6.cell? ⟨ib,4,none⟩=some (.slice none 0 0):=by rw [Lib.cell_of_heap X6.out];rfl
 have fI:w6.frozen? ⟨ib,4,none⟩=false:=Lib.frozen_of_heap X6.out 4
 have hs7:Step (fun b=>b≠ib) w6 (w6.setCell ⟨ib,4,none⟩ (.slice ua xs.length uc)):=(Step.refl _ w6).setCell (fun h=>h rfl) _
 have X7:Hid ((w6.setCell ⟨ib,4,none⟩ (.slice ua xs.length uc)).heap[ib]? =some (.cells (imgCells ⟨y0,y1,.slice ua xs.length uc,y3,y4,y5,y6,y7,y8,y9,y10⟩ {im with runPath:=xs }) 40 (0,0))):=Lib.hid (setCell_listX X6.out 4 (.slice ua xs.length uc))
 have HS5:Step (fun x=>x<w5.heap.size∧x≠rb∧x≠ib) w5 (w6.setCell ⟨ib,4,none⟩ (.slice ua xs.length uc)):=(HS.out.imp (fun x h=>⟨h.1,h.2.1⟩)).trans (hs7.imp (fun x h=>h.2.2))
 replace HS5:=Lib.hid HS5
 replace hs7:=Lib.hid hs7
 go_wp2_with fail
 replace HS5:=HS5.out
 replace hs7:=hs7.out
 exact HK.out _ _ s' _ xs ⟨by kernel_rfl,rfl,(by kernel_rfl),(by kernel_rfl),(by kernel_rfl),(by kernel_rfl),trivial⟩ (HC.out.go (v':=⟨y0,y1,.slice ua xs.length uc,y3,y4,y5,y6,y7,y8,y9,y10⟩) (im':={im with runPath:=xs }) HS5 (HQ.out.rd.step hs7 (by show rb≠ib;omega) (by show gb≠ib;omega)) X7.out {HC.out.imgStep HS5 with runPath:=(HQ.out.own.step hs7 (fun b _ hb e=>hb (by rw [e];show ib<_;omega))).lb.imp (fun b hb=>⟨by have:=hb.2;omega,hb.1⟩)} (fun x st' h=>(HG.out.eff f).bind ((HQ.out.got.eff f).bind h)))
theorem zt5 {w:World} {l:List UInt8} {a:Act} {w5:World} {B rb gb ib:Nat} {f:Bool} {s:Option (List UInt8)} {v:ImgV} {im:ImgL} {P':Int→List UInt8→Option (ImgL × List UInt8)} (hF:zFr [(2,.pointer (some ⟨w.heap.size,0,none⟩)),(4,.pointer (some ⟨rb,0,none⟩)),(5,.pointer (some ⟨ib,0,none⟩)),(6,.bool f)] a) (hC:ZSt w l B rb gb ib w5 f s v im (bindP (numP 1) P'))
  (hK:∀ (a':Act) (w':World) (s':Option (List UInt8)) (n:Int),zFr [(2,.pointer (some ⟨w.heap.size,0,none⟩)),(4,.pointer (some ⟨rb,0,none⟩)),(5,.pointer (some ⟨ib,0,none⟩)),(6,.bool f)] a'→ZSt w l B rb gb ib w' f s' v {im with flags:=n } (P' n)→(zRest Tryz.f22 6).wp Tryz.prog (bodyPost Tryz.prog Tryz.f22 (ReadPost w l)) a' w'):(zRest Tryz.f22 5).wp Tryz.prog (bodyPost Tryz.prog Tryz.f22 (ReadPost w l)) a w5:=by
 have HK:=Lib.hid hK
 have HC:=Lib.hid hC
 have b1:=hC.h1
 have b2:=hC.h2
 have b3:=hC.h3
 have b4:=hC.h4
 have b5:=hC.h5
 have R5:=Lib.hid hC.rd
 have X5:=Lib.hid hC.ix
 clear hC hK
 obtain⟨y0,y1,y2,y3,y4,y5,y6,y7,y8,y9,y10⟩:=v
 have e5:zRest Tryz.f22 5=.seq (zCode Tryz.f22 5) (zRest Tryz.f22 6):=zd_seq _ 5 (by kernel_rfl)
 rw [e5]
 clear e5
 apply zFr.elim hF
 clear hF
 intro _ _
 intro V2
 intro _
 intro V4
 intro V5
 intro V6
 iterate 272 (intro _)
 intro hF
 obtain⟨-,-,e2,e4,e5,e6,-⟩:=hF
 replace e2:V2=.pointer (some ⟨w.heap.size,0,none⟩):=e2
 subst e2
 replace e4:V4=.pointer (some ⟨rb,0,none⟩):=e4
 subst e4
 replace e5:V5=.pointer (some ⟨ib,0,none⟩):=e5
 subst e5
 replace e6:V6=.bool f:=e6
 subst e6
 conv in zCode _ 5=>whnf
 have HN:=Lib.hid (ynum_any w5 rb gb s 1 R5.out (by decide))
 have hgn:=got_num s 1
 have hno:=numS_ok s 1 (by decide)
 obtain⟨n,hn⟩:∃ x,x=(numS s 1).1:=⟨_,rfl⟩
 obtain⟨s1,hs1⟩:∃ x,x=(numS s 1).2:=⟨_,rfl⟩
 rw [← hn,← hs1]at HN hgn
 rw [← hn]at hno
 have HG:=Lib.hid hgn
 have HNo:=Lib.hid hno
 clear hgn hno hn hs1
 go_wp2_with fail
 refine HN.out.mono ?_
 clear HN
 rintro e w6 ⟨rfl,hr,hs,-⟩
 have R6:=Lib.hid hr
 have HS:=Lib.hid hs
 have hz6:=hs.size
 have X6:=Lib.hid ((hs.block ib (by omega)).trans X5.out)
 clear hr hs X5
 have cI:w6.cell? ⟨ib,1,none⟩=some (.int .i64 im.flags):=by rw [Lib.cell_of_heap X6.out];rfl
 have fI:w6.frozen? ⟨ib,1,none⟩=false:=Lib.frozen_of_heap X6.out 1
 have hs7:Step (fun b=>b≠ib) w6 (w6.setCell ⟨ib,1,none⟩ (.int .i64 n)):=(Step.refl _ w6).setCell (fun h=>h rfl) _
 have X7:Hid ((w6.setCell ⟨ib,1,none⟩ (.int .i64 n)).heap[ib]? =some (.cells (imgCells ⟨y0,y1,y2,y3,y4,y5,y6,y7,y8,y9,y10⟩ {im with flags:=n }) 40 (0,0))):=Lib.hid (setCell_listX X6.out 1 (.int .i64 n))
 have HS5:Step (fun x=>x<w5.heap.size∧x≠rb∧x≠ib) w5 (w6.setCell ⟨ib,1,none⟩ (.int .i64 n)):=(HS.out.imp (fun x h=>h.2.1)).trans (hs7.imp (fun x h=>h.2.2))
 replace HS5:=Lib.hid HS5
 replace hs7:=Lib.hid hs7
 go_wp2_with fail
 replace HS5:=HS5.out
 replace hs7:=hs7.out
 exact HK.out _ _ s1 n ⟨by kernel_rfl,rfl,(by kernel_rfl),(by kernel_rfl),(by kernel_rfl),(by kernel_rfl),trivial⟩ (HC.out.go (v':=⟨y0,y1,y2,y3,y4,y5,y6,y7,y8,y9,y10⟩) (im':={im with flags:=n }) HS5 (R6.out.step hs7 (by show rb≠ib;omega) (by show gb≠ib;omega)) X7.out {HC.out.imgStep HS5 with flags:=okN_int64 HNo.out } (fun x st' h=>(HG.out.eff f).bind h))
theorem zt11 {w:World} {l:List UInt8} {a:Act} {w5:World} {B rb gb ib:Nat} {f:Bool} {s:Option (List UInt8)} {v:ImgV} {im:ImgL} {P':Int→List UInt8→Option (ImgL × List UInt8)} (hF:zFr [(2,.pointer (some ⟨w.heap.size,0,none⟩)),(4,.pointer (some ⟨rb,0,none⟩)),(5,.pointer (some ⟨ib,0,none⟩)),(6,.bool f)] a) (hC:ZSt w l B rb gb ib w5 f s v im (bindP (numP 1) P'))
  (hK:∀ (a':Act) (w':World) (s':Option (List UInt8)) (n:Int),zFr [(2,.pointer (some ⟨w.heap.size,0,none⟩)),(4,.pointer (some ⟨rb,0,none⟩)),(5,.pointer (some ⟨ib,0,none⟩)),(6,.bool f)] a'→ZSt w l B rb gb ib w' f s' v {im with shift:=n } (P' n)→(zRest Tryz.f22 12).wp Tryz.prog (bodyPost Tryz.prog Tryz.f22 (ReadPost w l)) a' w'):(zRest Tryz.f22 11).wp Tryz.prog (bodyPost Tryz.prog Tryz.f22 (ReadPost w l)) a w5:=by
 have HK:=Lib.hid hK
 have HC:=Lib.hid hC
 have b1:=hC.h1
 have b2:=hC.h2
 have b3:=hC.h3
 have b4:=hC.h4
 have b5:=hC.h5
 have R5:=Lib.hid hC.rd
 have X5:=Lib.hid hC.ix
 clear hC hK
 obtain⟨y0,y1,y2,y3,y4,y5,y6,y7,y8,y9,y10⟩:=v
 have e11:zRest Tryz.f22 11=.seq (zCode Tryz.f22 11) (zRest Tryz.f22 12):=zd_seq _ 11 (by kernel_rfl)
 rw [e11]
 clear e11
 apply zFr.elim hF
 clear hF
 intro _ _
 intro V2
 intro _
 intro V4
 intro V5
 intro V6
 iterate 272 (intro _)
 intro hF
 obtain⟨-,-,e2,e4,e5,e6,-⟩:=hF
 replace e2:V2=.pointer (some ⟨w.heap.size,0,none⟩):=e2
 subst e2
 replace e4:V4=.pointer (some ⟨rb,0,none⟩):=e4
 subst e4
 replace e5:V5=.pointer (some ⟨ib,0,none⟩):=e5
 subst e5
 replace e6:V6=.bool f:=e6
 subst e6
 conv in zCode _ 11=>whnf
 have HN:=Lib.hid (ynum_any w5 rb gb s 1 R5.out (by decide))
 have hgn:=got_num s 1
 have hno:=numS_ok s 1 (by decide)
 obtain⟨n,hn⟩:∃ x,x=(numS s 1).1:=⟨_,rfl⟩
 obtain⟨s1,hs1⟩:∃ x,x=(numS s 1).2:=⟨_,rfl⟩
 rw [← hn,← hs1]at HN hgn
 rw [← hn]at hno
 have HG:=Lib.hid hgn
 have HNo:=Lib.hid hno
 clear hgn hno hn hs1
 go_wp2_with fail
 refine HN.out.mono ?_
 clear HN
 rintro e w6 ⟨rfl,hr,hs,-⟩
 have R6:=Lib.hid hr
 have HS:=Lib.hid hs
 have hz6:=hs.size
 have X6:=Lib.hid ((hs.block ib (by omega)).trans X5.out)
 clear hr hs X5
 have cI:w6.cell? ⟨ib,8,none⟩=some (.int .i64 im.shift):=by rw [Lib.cell_of_heap X6.out];rfl
 have fI:w6.frozen? ⟨ib,8,none⟩=false:=Lib.frozen_of_heap X6.out 8
 have hs7:Step (fun b=>b≠ib) w6 (w6.setCell ⟨ib,8,none⟩ (.int .i64 n)):=(Step.refl _ w6).setCell (fun h=>h rfl) _
 have X7:Hid ((w6.setCell ⟨ib,8,none⟩ (.int .i64 n)).heap[ib]? =some (.cells (imgCells ⟨y0,y1,y2,y3,y4,y5,y6,y7,y8,y9,y10⟩ {im with shift:=n }) 40 (0,0))):=Lib.hid (setCell_listX X6.out 8 (.int .i64 n))
 have HS5:Step (fun x=>x<w5.heap.size∧x≠rb∧x≠ib) w5 (w6.setCell ⟨ib,8,none⟩ (.int .i64 n)):=(HS.out.imp (fun x h=>h.2.1)).trans (hs7.imp (fun x h=>h.2.2))
 replace HS5:=Lib.hid HS5
 replace hs7:=Lib.hid hs7
 go_wp2_with fail
 replace HS5:=HS5.out
 replace hs7:=hs7.out
 exact HK.out _ _ s1 n ⟨by kernel_rfl,rfl,(by kernel_rfl),(by kernel_rfl),(by kernel_rfl),(by kernel_rfl),trivial⟩ (HC.out.go (v':=⟨y0,y1,y2,y3,y4,y5,y6,y7,y8,y9,y10⟩) (im':={im with shift:=n }) HS5 (R6.out.step hs7 (by show rb≠ib;omega) (by show gb≠ib;omega)) X7.out {HC.out.imgStep HS5 with shift:=okN_int64 HNo.out } (fun x st' h=>(HG.out.eff f).bind h))
theorem zt19 {w:World} {l:List UInt8} {a:Act} {w5:World} {B rb gb ib:Nat} {f:Bool} {s:Option (List UInt8)} {v:ImgV} {im:ImgL} {P':Int→List UInt8→Option (ImgL × List UInt8)} (hF:zFr [(2,.pointer (some ⟨w.heap.size,0,none⟩)),(4,.pointer (some ⟨rb,0,none⟩)),(5,.pointer (some ⟨ib,0,none⟩)),(6,.bool f)] a) (hC:ZSt w l B rb gb ib w5 f s v im (bindP (numP 2) P'))
  (hK:∀ (a':Act) (w':World) (s':Option (List UInt8)) (n:Int),zFr [(2,.pointer (some ⟨w.heap.size,0,none⟩)),(4,.pointer (some ⟨rb,0,none⟩)),(5,.pointer (some ⟨ib,0,none⟩)),(6,.bool f)] a'→ZSt w l B rb gb ib w' f s' v {im with tlsSize:=n } (P' n)→(zRest Tryz.f22 20).wp Tryz.prog (bodyPost Tryz.prog Tryz.f22 (ReadPost w l)) a' w'):(zRest Tryz.f22 19).wp Tryz.prog (bodyPost Tryz.prog Tryz.f22 (ReadPost w l)) a w5:=by
 have HK:=Lib.hid hK
 have HC:=Lib.hid hC
 have b1:=hC.h1
 have b2:=hC.h2
 have b3:=hC.h3
 have b4:=hC.h4
 have b5:=hC.h5
 have R5:=Lib.hid hC.rd
 have X5:=Lib.hid hC.ix
 clear hC hK
 obtain⟨y0,y1,y2,y3,y4,y5,y6,y7,y8,y9,y10⟩:=v
 have e19:zRest Tryz.f22 19=.seq (zCode Tryz.f22 19) (zRest Tryz.f22 20):=zd_seq _ 19 (by kernel_rfl)
 rw [e19]
 clear e19
 apply zFr.elim hF
 clear hF
 intro _ _
 intro V2
 intro _
 intro V4
 intro V5
 intro V6
 iterate 272 (intro _)
 intro hF
 obtain⟨-,-,e2,e4,e5,e6,-⟩:=hF
 replace e2:V2=.pointer (some ⟨w.heap.size,0,none⟩):=e2
 subst e2
 replace e4:V4=.pointer (some ⟨rb,0,none⟩):=e4
 subst e4
 replace e5:V5=.pointer (some ⟨ib,0,none⟩):=e5
 subst e5
 replace e6:V6=.bool f:=e6
 subst e6
 conv in zCode _ 19=>whnf
 have HN:=Lib.hid (ynum_any w5 rb gb s 2 R5.out (by decide))
 have hgn:=got_num s 2
 have hno:=numS_ok s 2 (by decide)
 obtain⟨n,hn⟩:∃ x,x=(numS s 2).1:=⟨_,rfl⟩
 obtain⟨s1,hs1⟩:∃ x,x=(numS s 2).2:=⟨_,rfl⟩
 rw [← hn,← hs1]at HN hgn
 rw [← hn]at hno
 have HG:=Lib.hid hgn
 have HNo:=Lib.hid hno
 clear hgn hno hn hs1
 go_wp2_with fail
 refine HN.out.mono ?_
 clear HN
 rintro e w6 ⟨rfl,hr,hs,-⟩
 have R6:=Lib.hid hr
 have HS:=Lib.hid hs
 have hz6:=hs.size
 have X6:=Lib.hid ((hs.block ib (by omega)).trans X5.out)
 clear hr hs X5
 have cI:w6.cell? ⟨ib,14,none⟩=some (.int .i64 im.tlsSize):=by rw [Lib.cell_of_heap X6.out];rfl
 have fI:w6.frozen? ⟨ib,14,none⟩=false:=Lib.frozen_of_heap X6.out 14
 have hs7:Step (fun b=>b≠ib) w6 (w6.setCell ⟨ib,14,none⟩ (.int .i64 n)):=(Step.refl _ w6).setCell (fun h=>h rfl) _
 have X7:Hid ((w6.setCell ⟨ib,14,none⟩ (.int .i64 n)).heap[ib]? =some (.cells (imgCells ⟨y0,y1,y2,y3,y4,y5,y6,y7,y8,y9,y10⟩ {im with tlsSize:=n }) 40 (0,0))):=Lib.hid (setCell_listX X6.out 14 (.int .i64 n))
 have HS5:Step (fun x=>x<w5.heap.size∧x≠rb∧x≠ib) w5 (w6.setCell ⟨ib,14,none⟩ (.int .i64 n)):=(HS.out.imp (fun x h=>h.2.1)).trans (hs7.imp (fun x h=>h.2.2))
 replace HS5:=Lib.hid HS5
 replace hs7:=Lib.hid hs7
 go_wp2_with fail
 replace HS5:=HS5.out
 replace hs7:=hs7.out
 exact HK.out _ _ s1 n ⟨by kernel_rfl,rfl,(by kernel_rfl),(by kernel_rfl),(by kernel_rfl),(by kernel_rfl),trivial⟩ (HC.out.go (v':=⟨y0,y1,y2,y3,y4,y5,y6,y7,y8,y9,y10⟩) (im':={im with tlsSize:=n }) HS5 (R6.out.step hs7 (by show rb≠ib;omega) (by show gb≠ib;omega)) X7.out {HC.out.imgStep HS5 with tlsSize:=okN_int64 HNo.out } (fun x st' h=>(HG.out.eff f).bind h))
theorem zt4 {w:World} {l:List UInt8} {a:Act} {w5:World} {B rb gb ib:Nat} {f:Bool} {s:Option (List UInt8)} {v:ImgV} {im:ImgL} {P':List UInt8→List UInt8→Option (ImgL × List UInt8)} (hF:zFr [(2,.pointer (some ⟨w.heap.size,0,none⟩)),(4,.pointer (some ⟨rb,0,none⟩)),(5,.pointer (some ⟨ib,0,none⟩)),(6,.bool f)] a) (hC:ZSt w l B rb gb ib w5 f s v im (bindP textP P'))
  (hK:∀ (a':Act) (w':World) (s':Option (List UInt8)) (n:List UInt8),zFr [(2,.pointer (some ⟨w.heap.size,0,none⟩)),(4,.pointer (some ⟨rb,0,none⟩)),(5,.pointer (some ⟨ib,0,none⟩)),(6,.bool f)] a'→ZSt w l B rb gb ib w' f s' v {im with name:=n } (P' n)→(zRest Tryz.f22 5).wp Tryz.prog (bodyPost Tryz.prog Tryz.f22 (ReadPost w l)) a' w'):(zRest Tryz.f22 4).wp Tryz.prog (bodyPost Tryz.prog Tryz.f22 (ReadPost w l)) a w5:=by
 have HK:=Lib.hid hK
 have HC:=Lib.hid hC
 have b1:=hC.h1
 have b2:=hC.h2
 have b3:=hC.h3
 have b4:=hC.h4
 have b5:=hC.h5
 have R5:=Lib.hid hC.rd
 have X5:=Lib.hid hC.ix
 clear hC hK
 obtain⟨y0,y1,y2,y3,y4,y5,y6,y7,y8,y9,y10⟩:=v
 have e4:zRest Tryz.f22 4=.seq (zCode Tryz.f22 4) (zRest Tryz.f22 5):=zd_seq _ 4 (by kernel_rfl)
 rw [e4]
 clear e4
 apply zFr.elim hF
 clear hF
 intro _ _
 intro V2
 intro _
 intro V4
 intro V5
 intro V6
 iterate 272 (intro _)
 intro hF
 obtain⟨-,-,e2,e4,e5,e6,-⟩:=hF
 replace e2:V2=.pointer (some ⟨w.heap.size,0,none⟩):=e2
 subst e2
 replace e4:V4=.pointer (some ⟨rb,0,none⟩):=e4
 subst e4
 replace e5:V5=.pointer (some ⟨ib,0,none⟩):=e5
 subst e5
 replace e6:V6=.bool f:=e6
 subst e6
 conv in zCode _ 4=>whnf
 have HN:=Lib.hid (ytext_any w5 rb gb s R5.out)
 have hgn:=got_part s 2 4096 (by decide)
 have hno:=partS_len s 2 4096 (by decide)
 obtain⟨n,hn⟩:∃ x,x=(partS s 2 4096).1:=⟨_,rfl⟩
 obtain⟨s1,hs1⟩:∃ x,x=(partS s 2 4096).2:=⟨_,rfl⟩
 rw [← hn,← hs1]at HN hgn
 rw [← hn]at hno
 have HG:Hid (Got textP s n s1):=Lib.hid hgn
 have HNo:=Lib.hid hno
 clear hgn hno hn hs1
 go_wp2_with fail
 refine HN.out.mono ?_
 clear HN
 rintro e w6 ⟨rfl,hr,hs,-⟩
 have R6:=Lib.hid hr
 have HS:=Lib.hid hs
 have hz6:=hs.size
 have X6:=Lib.hid ((hs.block ib (by omega)).trans X5.out)
 clear hr hs X5
 have cI:w6.cell? ⟨ib,0,none⟩=some (.string ⟨im.name.toArray⟩):=by rw [Lib.cell_of_heap X6.out];rfl
 have fI:w6.frozen? ⟨ib,0,none⟩=false:=Lib.frozen_of_heap X6.out 0
 have hs7:Step (fun b=>b≠ib) w6 (w6.setCell ⟨ib,0,none⟩ (.string ⟨n.toArray⟩)):=(Step.refl _ w6).setCell (fun h=>h rfl) _
 have X7:Hid ((w6.setCell ⟨ib,0,none⟩ (.string ⟨n.toArray⟩)).heap[ib]? =some (.cells (imgCells ⟨y0,y1,y2,y3,y4,y5,y6,y7,y8,y9,y10⟩ {im with name:=n }) 40 (0,0))):=Lib.hid (setCell_listX X6.out 0 (.string ⟨n.toArray⟩))
 have HS5:Step (fun x=>x<w5.heap.size∧x≠rb∧x≠ib) w5 (w6.setCell ⟨ib,0,none⟩ (.string ⟨n.toArray⟩)):=(HS.out.imp (fun x h=>h.2.1)).trans (hs7.imp (fun x h=>h.2.2))
 replace HS5:=Lib.hid HS5
 replace hs7:=Lib.hid hs7
 go_wp2_with fail
 replace HS5:=HS5.out
 replace hs7:=hs7.out
 exact HK.out _ _ s1 n ⟨by kernel_rfl,rfl,(by kernel_rfl),(by kernel_rfl),(by kernel_rfl),(by kernel_rfl),trivial⟩ (HC.out.go (v':=⟨y0,y1,y2,y3,y4,y5,y6,y7,y8,y9,y10⟩) (im':={im with name:=n }) HS5 (R6.out.step hs7 (by show rb≠ib;omega) (by show gb≠ib;omega)) X7.out {HC.out.imgStep HS5 with name:=Nat.le_trans HNo.out (by decide)} (fun x st' h=>(HG.out.eff f).bind h))
theorem zt15 {w:World} {l:List UInt8} {a:Act} {w5:World} {B rb gb ib:Nat} {f:Bool} {s:Option (List UInt8)} {v:ImgV} {im:ImgL} {P':List Int→List UInt8→Option (ImgL × List UInt8)} (hF:zFr [(2,.pointer (some ⟨w.heap.size,0,none⟩)),(4,.pointer (some ⟨rb,0,none⟩)),(5,.pointer (some ⟨ib,0,none⟩)),(6,.bool f)] a) (hC:ZSt w l B rb gb ib w5 f s v im (bindP (numP 1) fun n=>bindP (manyP (numP 4) n.toNat) P')) (hv:v.init=.slice none 0 0)
  (hK:∀ (a':Act) (w':World) (s':Option (List UInt8)) (u:Value) (xs:List Int),zFr [(2,.pointer (some ⟨w.heap.size,0,none⟩)),(4,.pointer (some ⟨rb,0,none⟩)),(5,.pointer (some ⟨ib,0,none⟩)),(6,.bool f)] a'→ZSt w l B rb gb ib w' f s' {v with init:=u } {im with init:=xs } (P' xs)→(zRest Tryz.f22 17).wp Tryz.prog (bodyPost Tryz.prog Tryz.f22 (ReadPost w l)) a' w'):(zRest Tryz.f22 15).wp Tryz.prog (bodyPost Tryz.prog Tryz.f22 (ReadPost w l)) a w5:=by
 have HK:=Lib.hid hK
 have HC:=Lib.hid hC
 have b1:=hC.h1
 have b2:=hC.h2
 have b3:=hC.h3
 have b4:=hC.h4
 have b5:=hC.h5
 have R5:=Lib.hid hC.rd
 have X5:=Lib.hid hC.ix
 clear hC hK
 obtain⟨y0,y1,y2,y3,y4,y5,y6,y7,y8,y9,y10⟩:=v
 replace hv:y8=.slice none 0 0:=hv
 subst hv
 have e15:zRest Tryz.f22 15=.seq (zCode Tryz.f22 15) (zRest Tryz.f22 16):=zd_seq _ 15 (by kernel_rfl)
 have e16:zRest Tryz.f22 16=.seq (zCode Tryz.f22 16) (zRest Tryz.f22 17):=zd_seq _ 16 (by kernel_rfl)
 rw [e15,e16]
 clear e15 e16
 apply zFr.elim hF
 clear hF
 intro _ _
 intro V2
 intro _
 intro V4
 intro V5
 intro V6
 iterate 272 (intro _)
 intro hF
 obtain⟨-,-,e2,e4,e5,e6,-⟩:=hF
 replace e2:V2=.pointer (some ⟨w.heap.size,0,none⟩):=e2
 subst e2
 replace e4:V4=.pointer (some ⟨rb,0,none⟩):=e4
 subst e4
 replace e5:V5=.pointer (some ⟨ib,0,none⟩):=e5
 subst e5
 replace e6:V6=.bool f:=e6
 subst e6
 conv in zCode _ 15=>whnf
 conv in zCode _ 16=>whnf
 have HN:=Lib.hid (ynum_any w5 rb gb s 1 R5.out (by decide))
 have hgn:=got_num s 1
 obtain⟨m,hm,hmm⟩:=okN_idx (by decide) (numS_ok s 1 (by decide))
 have hm1:m<256:=hmm
 clear hmm
 obtain⟨s1,hs1⟩:∃ x,x=(numS s 1).2:=⟨_,rfl⟩
 rw [hm,← hs1]at HN hgn
 have HG:=Lib.hid hgn
 clear hgn hm hs1
 go_wp2_with fail
 refine HN.out.mono ?_
 clear HN
 rintro e w6 ⟨rfl,hr,hs,hzn⟩
 have X6:=Lib.hid ((hs.block ib (by omega)).trans X5.out)
 have HS6:=Lib.hid hs
 have hz6:=hs.size
 have HN:=Lib.hid (zlist_any w6 rb gb s1 m 4 hr (by decide) (by omega))
 clear hr hs hzn X5 R5
 go_wp2_with fail
 refine HN.out.mono ?_
 clear HN
 rintro e w7 ⟨u,xs,s',rfl,hq⟩
 have hs:=hq.step
 have hz7:=hs.size
 obtain⟨ua,uc,hu⟩:=hq.own.form
 have HQ:=Lib.hid hq
 have HS:=Lib.hid ((HS6.out.imp (S':=fun x=>x<w5.heap.size∧x≠rb) (fun x h=>h.2)).trans (hs.imp (fun x h=>⟨by have:=h.1;omega,h.2⟩)))
 have X8:=Lib.hid ((hs.block ib ⟨by omega,by omega⟩).trans X6.out)
 subst hu
 clear hq hs X6 HS6
 have cI:w7.cell? ⟨ib,11,none⟩=some (.slice none 0 0):=by rw [Lib.cell_of_heap X8.out];rfl
 have fI:w7.frozen? ⟨ib,11,none⟩=false:=Lib.frozen_of_heap X8.out 11
 have hs7:Step (fun b=>b≠ib) w7 (w7.setCell ⟨ib,11,none⟩ (.slice ua xs.length uc)):=(Step.refl _ w7).setCell (fun h=>h rfl) _
 have X7:Hid ((w7.setCell ⟨ib,11,none⟩ (.slice ua xs.length uc)).heap[ib]? =some (.cells (imgCells ⟨y0,y1,y2,y3,y4,y5,y6,y7,.slice ua xs.length uc,y9,y10⟩ {im with init:=xs }) 40 (0,0))):=Lib.hid (setCell_listX X8.out 11 (.slice ua xs.length uc))
 have HS5:Step (fun x=>x<w5.heap.size∧x≠rb∧x≠ib) w5 (w7.setCell ⟨ib,11,none⟩ (.slice ua xs.length uc)):=(HS.out.imp (fun x h=>⟨h.1,h.2.1⟩)).trans (hs7.imp (fun x h=>h.2.2))
 replace HS5:=Lib.hid HS5
 replace hs7:=Lib.hid hs7
 go_wp2_with fail
 replace HS5:=HS5.out
 replace hs7:=hs7.out
 have hK:=HQ.out.ok
 exact HK.out _ _ s' _ xs ⟨by kernel_rfl,rfl,(by kernel_rfl),(by kernel_rfl),(by kernel_rfl),(by kernel_rfl),trivial⟩ (HC.out.go (v':=⟨y0,y1,y2,y3,y4,y5,y6,y7,.slice ua xs.length uc,y9,y10⟩) (im':={im with init:=xs }) HS5 (HQ.out.rd.step hs7 (by show rb≠ib;omega) (by show gb≠ib;omega)) X7.out
  {
   HC.out.imgStep HS5 with
   init:=(HQ.out.own.step hs7 (fun b _ hb e=>hb (by rw [e];show ib<_;omega))).lb.imp (fun b hb=>⟨by have:=hb.2;omega,hb.1⟩)
   initR:=fun x hx=>okN_int64 (hK x hx)} (fun x st' h=>(HG.out.eff f).bind ((HQ.out.got.eff f).bind h)))
theorem zt17 {w:World} {l:List UInt8} {a:Act} {w5:World} {B rb gb ib:Nat} {f:Bool} {s:Option (List UInt8)} {v:ImgV} {im:ImgL} {P':List Int→List UInt8→Option (ImgL × List UInt8)} (hF:zFr [(2,.pointer (some ⟨w.heap.size,0,none⟩)),(4,.pointer (some ⟨rb,0,none⟩)),(5,.pointer (some ⟨ib,0,none⟩)),(6,.bool f)] a) (hC:ZSt w l B rb gb ib w5 f s v im (bindP (numP 1) fun n=>bindP (manyP (numP 4) n.toNat) P')) (hv:v.fini=.slice none 0 0)
  (hK:∀ (a':Act) (w':World) (s':Option (List UInt8)) (u:Value) (xs:List Int),zFr [(2,.pointer (some ⟨w.heap.size,0,none⟩)),(4,.pointer (some ⟨rb,0,none⟩)),(5,.pointer (some ⟨ib,0,none⟩)),(6,.bool f)] a'→ZSt w l B rb gb ib w' f s' {v with fini:=u } {im with fini:=xs } (P' xs)→(zRest Tryz.f22 19).wp Tryz.prog (bodyPost Tryz.prog Tryz.f22 (ReadPost w l)) a' w'):(zRest Tryz.f22 17).wp Tryz.prog (bodyPost Tryz.prog Tryz.f22 (ReadPost w l)) a w5:=by
 have HK:=Lib.hid hK
 have HC:=Lib.hid hC
 have b1:=hC.h1
 have b2:=hC.h2
 have b3:=hC.h3
 have b4:=hC.h4
 have b5:=hC.h5
 have R5:=Lib.hid hC.rd
 have X5:=Lib.hid hC.ix
 clear hC hK
 obtain⟨y0,y1,y2,y3,y4,y5,y6,y7,y8,y9,y10⟩:=v
 replace hv:y9=.slice none 0 0:=hv
 subst hv
 have e17:zRest Tryz.f22 17=.seq (zCode Tryz.f22 17) (zRest Tryz.f22 18):=zd_seq _ 17 (by kernel_rfl)
 have e18:zRest Tryz.f22 18=.seq (zCode Tryz.f22 18) (zRest Tryz.f22 19):=zd_seq _ 18 (by kernel_rfl)
 rw [e17,e18]
 clear e17 e18
 apply zFr.elim hF
 clear hF
 intro _ _
 intro V2
 intro _
 intro V4
 intro V5
 intro V6
 iterate 272 (intro _)
 intro hF
 obtain⟨-,-,e2,e4,e5,e6,-⟩:=hF
 replace e2:V2=.pointer (some ⟨w.heap.size,0,none⟩):=e2
 subst e2
 replace e4:V4=.pointer (some ⟨rb,0,none⟩):=e4
 subst e4
 replace e5:V5=.pointer (some ⟨ib,0,none⟩):=e5
 subst e5
 replace e6:V6=.bool f:=e6
 subst e6
 conv in zCode _ 17=>whnf
 conv in zCode _ 18=>whnf
 have HN:=Lib.hid (ynum_any w5 rb gb s 1 R5.out (by decide))
 have hgn:=got_num s 1
 obtain⟨m,hm,hmm⟩:=okN_idx (by decide) (numS_ok s 1 (by decide))
 have hm1:m<256:=hmm
 clear hmm
 obtain⟨s1,hs1⟩:∃ x,x=(numS s 1).2:=⟨_,rfl⟩
 rw [hm,← hs1]at HN hgn
 have HG:=Lib.hid hgn
 clear hgn hm hs1
 go_wp2_with fail
 refine HN.out.mono ?_
 clear HN
 rintro e w6 ⟨rfl,hr,hs,hzn⟩
 have X6:=Lib.hid ((hs.block ib (by omega)).trans X5.out)
 have HS6:=Lib.hid hs
 have hz6:=hs.size
 have HN:=Lib.hid (zlist_any w6 rb gb s1 m 4 hr (by decide) (by omega))
 clear hr hs hzn X5 R5
 go_wp2_with fail
 refine HN.out.mono ?_
 clear HN
 rintro e w7 ⟨u,xs,s',rfl,hq⟩
 have hs:=hq.step
 have hz7:=hs.size
 obtain⟨ua,uc,hu⟩:=hq.own.form
 have HQ:=Lib.hid hq
 have HS:=Lib.hid ((HS6.out.imp (S':=fun x=>x<w5.heap.size∧x≠rb) (fun x h=>h.2)).trans (hs.imp (fun x h=>⟨by have:=h.1;omega,h.2⟩)))
 have X8:=Lib.hid ((hs.block ib ⟨by omega,by omega⟩).trans X6.out)
 subst hu
 clear hq hs X6 HS6
 have cI:w7.cell? ⟨ib,12,none⟩=some (.slice none 0 0):=by rw [Lib.cell_of_heap X8.out];rfl
 have fI:w7.frozen? ⟨ib,12,none⟩=false:=Lib.frozen_of_heap X8.out 12
 have hs7:Step (fun b=>b≠ib) w7 (w7.setCell ⟨ib,12,none⟩ (.slice ua xs.length uc)):=(Step.refl _ w7).setCell (fun h=>h rfl) _
 have X7:Hid ((w7.setCell ⟨ib,12,none⟩ (.slice ua xs.length uc)).heap[ib]? =some (.cells (imgCells ⟨y0,y1,y2,y3,y4,y5,y6,y7,y8,.slice ua xs.length uc,y10⟩ {im with fini:=xs }) 40 (0,0))):=Lib.hid (setCell_listX X8.out 12 (.slice ua xs.length uc))
 have HS5:Step (fun x=>x<w5.heap.size∧x≠rb∧x≠ib) w5 (w7.setCell ⟨ib,12,none⟩ (.slice ua xs.length uc)):=(HS.out.imp (fun x h=>⟨h.1,h.2.1⟩)).trans (hs7.imp (fun x h=>h.2.2))
 replace HS5:=Lib.hid HS5
 replace hs7:=Lib.hid hs7
 go_wp2_with fail
 replace HS5:=HS5.out
 replace hs7:=hs7.out
 have hK:=HQ.out.ok
 exact HK.out _ _ s' _ xs ⟨by kernel_rfl,rfl,(by kernel_rfl),(by kernel_rfl),(by kernel_rfl),(by kernel_rfl),trivial⟩ (HC.out.go (v':=⟨y0,y1,y2,y3,y4,y5,y6,y7,y8,.slice ua xs.length uc,y10⟩) (im':={im with fini:=xs }) HS5 (HQ.out.rd.step hs7 (by show rb≠ib;omega) (by show gb≠ib;omega)) X7.out
  {
   HC.out.imgStep HS5 with
   fini:=(HQ.out.own.step hs7 (fun b _ hb e=>hb (by rw [e];show ib<_;omega))).lb.imp (fun b hb=>⟨by have:=hb.2;omega,hb.1⟩)
   finiR:=fun x hx=>okN_int64 (hK x hx)} (fun x st' h=>(HG.out.eff f).bind ((HQ.out.got.eff f).bind h)))
theorem zt20 {w:World} {l:List UInt8} {a:Act} {w5:World} {B rb gb ib:Nat} {f:Bool} {s:Option (List UInt8)} {v:ImgV} {im:ImgL} {P':List UInt8→List UInt8→Option (ImgL × List UInt8)} (hF:zFr [(2,.pointer (some ⟨w.heap.size,0,none⟩)),(4,.pointer (some ⟨rb,0,none⟩)),(5,.pointer (some ⟨ib,0,none⟩)),(6,.bool f)] a) (hC:ZSt w l B rb gb ib w5 f s v im (bindP blockP P')) (hv:v.tls=.slice none 0 0)
  (hK:∀ (a':Act) (w':World) (s':Option (List UInt8)) (u:Value) (n:List UInt8),zFr [(2,.pointer (some ⟨w.heap.size,0,none⟩)),(4,.pointer (some ⟨rb,0,none⟩)),(5,.pointer (some ⟨ib,0,none⟩)),(6,.bool f)] a'→ZSt w l B rb gb ib w' f s' {v with tls:=u } {im with tls:=n } (P' n)→(zRest Tryz.f22 21).wp Tryz.prog (bodyPost Tryz.prog Tryz.f22 (ReadPost w l)) a' w'):(zRest Tryz.f22 20).wp Tryz.prog (bodyPost Tryz.prog Tryz.f22 (ReadPost w l)) a w5:=by
 have HK:=Lib.hid hK
 have HC:=Lib.hid hC
 have b1:=hC.h1
 have b2:=hC.h2
 have b3:=hC.h3
 have b4:=hC.h4
 have b5:=hC.h5
 have R5:=Lib.hid hC.rd
 have X5:=Lib.hid hC.ix
 clear hC hK
 obtain⟨y0,y1,y2,y3,y4,y5,y6,y7,y8,y9,y10⟩:=v
 replace hv:y10=.slice none 0 0:=hv
 subst hv
 have e20:zRest Tryz.f22 20=.seq (zCode Tryz.f22 20) (zRest Tryz.f22 21):=zd_seq _ 20 (by kernel_rfl)
 rw [e20]
 clear e20
 apply zFr.elim hF
 clear hF
 intro _ _
 intro V2
 intro _
 intro V4
 intro V5
 intro V6
 iterate 272 (intro _)
 intro hF
 obtain⟨-,-,e2,e4,e5,e6,-⟩:=hF
 replace e2:V2=.pointer (some ⟨w.heap.size,0,none⟩):=e2
 subst e2
 replace e4:V4=.pointer (some ⟨rb,0,none⟩):=e4
 subst e4
 replace e5:V5=.pointer (some ⟨ib,0,none⟩):=e5
 subst e5
 replace e6:V6=.bool f:=e6
 subst e6
 conv in zCode _ 20=>whnf
 have HN:=Lib.hid (yblock_any w5 rb gb s R5.out)
 have hgn:=got_part s 4 1048576 (by decide)
 have hno:=partS_len s 4 1048576 (by decide)
 obtain⟨n,hn⟩:∃ x,x=(partS s 4 1048576).1:=⟨_,rfl⟩
 obtain⟨s1,hs1⟩:∃ x,x=(partS s 4 1048576).2:=⟨_,rfl⟩
 rw [← hn,← hs1]at HN hgn
 rw [← hn]at hno
 have HG:Hid (Got blockP s n s1):=Lib.hid hgn
 have HNo:=Lib.hid hno
 clear hgn hno hn hs1
 go_wp2_with fail
 refine HN.out.mono ?_
 clear HN
 rintro e w6 ⟨bv,rfl,hbv,hr,hs,-⟩
 have HN:=Lib.hid (zbytes_any w6 bv n hbv (fun b hb=>by have hb:b=gb:=hb;have:=hs.size;omega) HNo.out)
 have R6:=Lib.hid hr
 have hz6:=hs.size
 have X6:=Lib.hid ((hs.block ib (by omega)).trans X5.out)
 have HS6:=Lib.hid hs
 clear hr hs X5 hbv R5
 go_wp2_with fail
 refine HN.out.mono ?_
 clear HN
 rintro e w7 ⟨u,rfl,hob,hb⟩
 have hz7:=hb.size
 obtain⟨ua,uc,hu⟩:=hob.form
 have HO2:Hid (OwnK 5 kByte w6.heap.size (fun b=>b<w6.heap.size) w7 u n):=Lib.hid (OwnK.of_plain plain_byte (hob.plain_row plain_byte) (fun g hg h=>by have:=(hob.lt g hg).1;have h:g<w6.heap.size:=h;omega))
 have HS:=Lib.hid ((HS6.out.imp (S':=fun x=>x<w5.heap.size∧x≠rb) (fun x h=>h.2)).trans ((Step.of_below hb).imp (fun x h=>by have:=h.1;show x<_;omega)))
 have X8:=Lib.hid ((hb.block ib (by omega)).trans X6.out)
 have R7:=Lib.hid (R6.out.below hb)
 subst hu
 clear hob hb X6 HS6 R6
 have cI:w7.cell? ⟨ib,13,none⟩=some (.slice none 0 0):=by rw [Lib.cell_of_heap X8.out];rfl
 have fI:w7.frozen? ⟨ib,13,none⟩=false:=Lib.frozen_of_heap X8.out 13
 have hs7:Step (fun b=>b≠ib) w7 (w7.setCell ⟨ib,13,none⟩ (.slice ua n.length uc)):=(Step.refl _ w7).setCell (fun h=>h rfl) _
 have X7:Hid ((w7.setCell ⟨ib,13,none⟩ (.slice ua n.length uc)).heap[ib]? =some (.cells (imgCells ⟨y0,y1,y2,y3,y4,y5,y6,y7,y8,y9,.slice ua n.length uc⟩ {im with tls:=n }) 40 (0,0))):=Lib.hid (setCell_listX X8.out 13 (.slice ua n.length uc))
 have HS5:Step (fun x=>x<w5.heap.size∧x≠rb∧x≠ib) w5 (w7.setCell ⟨ib,13,none⟩ (.slice ua n.length uc)):=(HS.out.imp (fun x h=>⟨h.1,h.2.1⟩)).trans (hs7.imp (fun x h=>h.2.2))
 replace HS5:=Lib.hid HS5
 replace hs7:=Lib.hid hs7
 go_wp2_with fail
 replace HS5:=HS5.out
 replace hs7:=hs7.out
 exact HK.out _ _ s1 _ n ⟨by kernel_rfl,rfl,(by kernel_rfl),(by kernel_rfl),(by kernel_rfl),(by kernel_rfl),trivial⟩ (HC.out.go (v':=⟨y0,y1,y2,y3,y4,y5,y6,y7,y8,y9,.slice ua n.length uc⟩) (im':={im with tls:=n }) HS5 (R7.out.step hs7 (by show rb≠ib;omega) (by show gb≠ib;omega)) X7.out
  {HC.out.imgStep HS5 with tls:=(OwnK.lbB plain_byte (HO2.out.step hs7 (fun b _ hb e=>hb (by rw [e];show ib<_;omega)))).imp (fun b hb=>⟨by have:=hb.2;omega,hb.1⟩)} (fun x st' h=>(HG.out.eff f).bind h))
end Go.Proofs.YtfchpchabdhcgaaGreat
namespace Go.Proofs.YtfchpchabdhcgaaGreat
open Go.RowKit
theorem lb_one {w:World} {v:Value} {l:List UInt8} (h:LB kByte (·<w.heap.size) w v l) (hw:0<w.heap.size):∃ gb,gb<w.heap.size∧LB kByte (fun x=>x=gb) w v l:=by
 obtain⟨a,bb,off,cap,hv,hm,ha,hc,hS,hr⟩:=h
 by_cases h0:0<l.length
 ·exact⟨bb,hS h0,a,bb,off,cap,hv,hm,ha,hc,fun _=>rfl,fun i x hx=>hr i x hx⟩
 ·exact⟨0,hw,a,bb,off,cap,hv,hm,ha,hc,fun h=>absurd h h0,fun i x hx=>by
   have:=(List.getElem?_eq_some_iff.1 hx).1
   omega⟩
theorem zthead {w:World} {l:List UInt8} {a:Act} {va:Option Addr} {vc:Nat} (hF:zFr [(0,.slice va l.length vc)] a) (hl:LB kByte (·<w.heap.size) w (.slice va l.length vc) l) (hw:0<w.heap.size)
  (hK:∀ (a':Act) (w5:World) (gb:Nat) (f:Bool) (s:Option (List UInt8)),zFr [(2,.pointer (some ⟨w.heap.size,0,none⟩)),(4,.pointer (some ⟨w.heap.size+1,0,none⟩)),(5,.pointer (some ⟨w.heap.size+2,0,none⟩)),(6,.bool f)] a'→ZSt w l (w.heap.size+3) (w.heap.size+1) gb (w.heap.size+2) w5 f s ⟨.slice none 0 0,.slice none 0 0,.slice none 0 0,.slice none 0 0,.slice none 0 0,.slice none 0 0,.slice none 0 0,.slice none 0 0,.slice none 0 0,.slice none 0 0,.slice none 0 0⟩ emptyL tailP→(zRest Tryz.f22 4).wp Tryz.prog (bodyPost Tryz.prog Tryz.f22 (ReadPost w l)) a' w5):(zRest Tryz.f22 0).wp Tryz.prog (bodyPost Tryz.prog Tryz.f22 (ReadPost w l)) a w:=by
 have HK:=Lib.hid hK
 obtain⟨gb,hg1,hg2⟩:=lb_one hl hw
 have HL:=Lib.hid hg2
 clear hK hl hg2
 have e0:zRest Tryz.f22 0=.seq (zCode Tryz.f22 0) (zRest Tryz.f22 1):=zd_seq _ 0 (by kernel_rfl)
 have e1:zRest Tryz.f22 1=.seq (zCode Tryz.f22 1) (zRest Tryz.f22 2):=zd_seq _ 1 (by kernel_rfl)
 have e2:zRest Tryz.f22 2=.seq (zCode Tryz.f22 2) (zRest Tryz.f22 3):=zd_seq _ 2 (by kernel_rfl)
 have e3:zRest Tryz.f22 3=.seq (zCode Tryz.f22 3) (zRest Tryz.f22 4):=zd_seq _ 3 (by kernel_rfl)
 rw [e0,e1,e2,e3]
 clear e0 e1 e2 e3
 apply zFr.elim hF
 clear hF
 intro V0
 iterate 278 (intro _)
 intro hF
 obtain⟨-,-,e0,-⟩:=hF
 replace e0:V0=.slice va l.length vc:=e0
 subst e0
 conv in zCode _ 0=>whnf
 conv in zCode _ 1=>whnf
 conv in zCode _ 2=>whnf
 conv in zCode _ 3=>whnf
 have F0:Hid ((((w.alloc (.cells #[.string ⟨#[]⟩,.int .i64 0,.slice none 0 0,.slice none 0 0,.slice none 0 0,.slice none 0 0,.slice none 0 0,.slice none 0 0,.int .i64 0,.slice none 0 0,.slice none 0 0,.slice none 0 0,.slice none 0 0,.slice none 0 0,.int .i64 0] 40 (0,0))).alloc (.cells #[.slice va l.length vc,.int .i64 0] 102 (0,0))).alloc (.cells #[.string ⟨#[]⟩,.int .i64 0,.slice none 0 0,.slice none 0 0,.slice none 0 0,.slice none 0 0,.slice none 0 0,.slice none 0 0,.int .i64 0,.slice none 0 0,.slice none 0 0,.slice none 0 0,.slice none 0 0,.slice none 0 0,.int .i64 0] 40 (0,0))).heap[w.heap.size]? =some (.cells #[.string ⟨#[]⟩,.int .i64 0,.slice none 0 0,.slice none 0 0,.slice none 0 0,.slice none 0 0,.slice none 0 0,.slice none 0 0,.int .i64 0,.slice none 0 0,.slice none 0 0,.slice none 0 0,.slice none 0 0,.slice none 0 0,.int .i64 0] 40 (0,0))):=Lib.hid ((heap_alloc_old _ _ (by simp;omega)).trans ((heap_alloc_old _ _ (by simp)).trans (heap_alloc_new w _)))
 have F1:Hid ((((w.alloc (.cells #[.string ⟨#[]⟩,.int .i64 0,.slice none 0 0,.slice none 0 0,.slice none 0 0,.slice none 0 0,.slice none 0 0,.slice none 0 0,.int .i64 0,.slice none 0 0,.slice none 0 0,.slice none 0 0,.slice none 0 0,.slice none 0 0,.int .i64 0] 40 (0,0))).alloc (.cells #[.slice va l.length vc,.int .i64 0] 102 (0,0))).alloc (.cells #[.string ⟨#[]⟩,.int .i64 0,.slice none 0 0,.slice none 0 0,.slice none 0 0,.slice none 0 0,.slice none 0 0,.slice none 0 0,.int .i64 0,.slice none 0 0,.slice none 0 0,.slice none 0 0,.slice none 0 0,.slice none 0 0,.int .i64 0] 40 (0,0))).heap[w.heap.size+1]? =some (.cells #[.slice va l.length vc,.int .i64 0] 102 (0,0))):=Lib.hid (by have h:=heap_alloc_new (w.alloc (.cells #[.string ⟨#[]⟩,.int .i64 0,.slice none 0 0,.slice none 0 0,.slice none 0 0,.slice none 0 0,.slice none 0 0,.slice none 0 0,.int .i64 0,.slice none 0 0,.slice none 0 0,.slice none 0 0,.slice none 0 0,.slice none 0 0,.int .i64 0] 40 (0,0))) (.cells #[.slice va l.length vc,.int .i64 0] 102 (0,0));rw [World.size_alloc]at h;exact(heap_alloc_old _ _ (by simp)).trans h)
 have F2:Hid ((((w.alloc (.cells #[.string ⟨#[]⟩,.int .i64 0,.slice none 0 0,.slice none 0 0,.slice none 0 0,.slice none 0 0,.slice none 0 0,.slice none 0 0,.int .i64 0,.slice none 0 0,.slice none 0 0,.slice none 0 0,.slice none 0 0,.slice none 0 0,.int .i64 0] 40 (0,0))).alloc (.cells #[.slice va l.length vc,.int .i64 0] 102 (0,0))).alloc (.cells #[.string ⟨#[]⟩,.int .i64 0,.slice none 0 0,.slice none 0 0,.slice none 0 0,.slice none 0 0,.slice none 0 0,.slice none 0 0,.int .i64 0,.slice none 0 0,.slice none 0 0,.slice none 0 0,.slice none 0 0,.slice none 0 0,.int .i64 0] 40 (0,0))).heap[w.heap.size+2]? =some (.cells #[.string ⟨#[]⟩,.int .i64 0,.slice none 0 0,.slice none 0 0,.slice none 0 0,.slice none 0 0,.slice none 0 0,.slice none 0 0,.int .i64 0,.slice none 0 0,.slice none 0 0,.slice none 0 0,.slice none 0 0,.slice none 0 0,.int .i64 0] 40 (0,0))):=Lib.hid (by have h:=heap_alloc_new ((w.alloc (.cells #[.string ⟨#[]⟩,.int .i64 0,.slice none 0 0,.slice none 0 0,.slice none 0 0,.slice none 0 0,.slice none 0 0,.slice none 0 0,.int .i64 0,.slice none 0 0,.slice none 0 0,.slice none 0 0,.slice none 0 0,.slice none 0 0,.int .i64 0] 40 (0,0))).alloc (.cells #[.slice va l.length vc,.int .i64 0] 102 (0,0))) (.cells #[.string ⟨#[]⟩,.int .i64 0,.slice none 0 0,.slice none 0 0,.slice none 0 0,.slice none 0 0,.slice none 0 0,.slice none 0 0,.int .i64 0,.slice none 0 0,.slice none 0 0,.slice none 0 0,.slice none 0 0,.slice none 0 0,.int .i64 0] 40 (0,0));rw [World.size_alloc,World.size_alloc]at h;exact h)
 have HB:Hid (Below w.heap.size w (((w.alloc (.cells #[.string ⟨#[]⟩,.int .i64 0,.slice none 0 0,.slice none 0 0,.slice none 0 0,.slice none 0 0,.slice none 0 0,.slice none 0 0,.int .i64 0,.slice none 0 0,.slice none 0 0,.slice none 0 0,.slice none 0 0,.slice none 0 0,.int .i64 0] 40 (0,0))).alloc (.cells #[.slice va l.length vc,.int .i64 0] 102 (0,0))).alloc (.cells #[.string ⟨#[]⟩,.int .i64 0,.slice none 0 0,.slice none 0 0,.slice none 0 0,.slice none 0 0,.slice none 0 0,.slice none 0 0,.int .i64 0,.slice none 0 0,.slice none 0 0,.slice none 0 0,.slice none 0 0,.slice none 0 0,.int .i64 0] 40 (0,0)))):=Lib.hid ((((Below.refl _ w).alloc (Nat.le_refl _) _).alloc (by simp) _).alloc (by simp;omega) _)
 have hz:(((w.alloc (.cells #[.string ⟨#[]⟩,.int .i64 0,.slice none 0 0,.slice none 0 0,.slice none 0 0,.slice none 0 0,.slice none 0 0,.slice none 0 0,.int .i64 0,.slice none 0 0,.slice none 0 0,.slice none 0 0,.slice none 0 0,.slice none 0 0,.int .i64 0] 40 (0,0))).alloc (.cells #[.slice va l.length vc,.int .i64 0] 102 (0,0))).alloc (.cells #[.string ⟨#[]⟩,.int .i64 0,.slice none 0 0,.slice none 0 0,.slice none 0 0,.slice none 0 0,.slice none 0 0,.slice none 0 0,.int .i64 0,.slice none 0 0,.slice none 0 0,.slice none 0 0,.slice none 0 0,.slice none 0 0,.int .i64 0] 40 (0,0))).heap.size=w.heap.size+3:=by simp
 go_upto_region 3 with fail
 generalize ((w.alloc (.cells #[.string ⟨#[]⟩,.int .i64 0,.slice none 0 0,.slice none 0 0,.slice none 0 0,.slice none 0 0,.slice none 0 0,.slice none 0 0,.int .i64 0,.slice none 0 0,.slice none 0 0,.slice none 0 0,.slice none 0 0,.slice none 0 0,.int .i64 0] 40 (0,0))).alloc (.cells #[.slice va l.length vc,.int .i64 0] 102 (0,0))).alloc (.cells #[.string ⟨#[]⟩,.int .i64 0,.slice none 0 0,.slice none 0 0,.slice none 0 0,.slice none 0 0,.slice none 0 0,.slice none 0 0,.int .i64 0,.slice none 0 0,.slice none 0 0,.slice none 0 0,.slice none 0 0,.slice none 0 0,.int .i64 0] 40 (0,0))=v0 at *
 have R0:Hid (RX (w.heap.size+1) gb v0 (some l)):=Lib.hid ⟨0,_,l,F1.out,HL.out.keeps (fun b hb=>HB.out.block b (by have hb:b=gb:=hb;omega)),by omega,by omega,rfl,rfl⟩
 have HN:=Lib.hid (ytext_any v0 (w.heap.size+1) gb (some l) R0.out)
 have hgn:=got_part (some l) 2 4096 (by decide)
 obtain⟨x0,hn⟩:∃ x,x=(partS (some l) 2 4096).1:=⟨_,rfl⟩
 obtain⟨s1,hs1⟩:∃ x,x=(partS (some l) 2 4096).2:=⟨_,rfl⟩
 rw [← hn,← hs1]at HN hgn
 have HG:Hid (Got textP (some l) x0 s1):=Lib.hid hgn
 clear hgn hn hs1 HL F1
 go_wp2_with fail
 refine HN.out.mono ?_
 clear HN
 rintro e w5 ⟨rfl,hr,hs,hz5⟩
 have R5:=Lib.hid hr
 have HS:=Lib.hid hs
 clear hr hs R0
 go_wp2_with fail
 have HBw:Below w.heap.size w w5:=((Step.of_below HB.out).trans (HS.out.imp (fun x h=>by have h:x<w.heap.size:=h;show x≠_;omega))).below
 refine HK.out _ w5 gb (x0==[99,108,101,118,105,115,49]) s1 ⟨by kernel_rfl,rfl,(by kernel_rfl),(by kernel_rfl),(by kernel_rfl),(by kernel_rfl),trivial⟩ ⟨R5.out,(HS.out.block _ (by omega)).trans F2.out,(HS.out.block _ (by omega)).trans F0.out,imgM_empty _ _,HBw,hg1,by omega,by omega,by omega,by omega,fun x st' h=> ?_⟩
 refine got_img HG.out rfl ?_ h
 cases (x0==[99,108,101,118,105,115,49])<;>rfl
theorem whole_got {l:List UInt8} {im:ImgL} {st:Option (List UInt8)} (h:Got imgP (some l) im st):(st=some []→wholeP l=some im)∧(st≠some []→wholeP l=none):=by
 refine⟨fun e=> ?_,fun e=> ?_⟩
 ·subst e
  have h1:=h.whole
  unfold wholeP
  rw [h1]
 ·have h1:=h.not_whole e
  unfold wholeP
  rcases h2:imgP l with _ | ⟨y,t⟩
  ·rfl
  ·cases t with
   | nil=>exact absurd h2 (h1 y)
   | cons c t=>rfl
theorem ztend {w:World} {l:List UInt8} {a:Act} {w5:World} {B rb gb ib:Nat} {f:Bool} {s:Option (List UInt8)} {v:ImgV} {im:ImgL} (hF:zFr [(2,.pointer (some ⟨w.heap.size,0,none⟩)),(4,.pointer (some ⟨rb,0,none⟩)),(5,.pointer (some ⟨ib,0,none⟩)),(6,.bool f)] a) (hC:ZSt w l B rb gb ib w5 f s v im (fun t=>some (im,t))):(zRest Tryz.f22 21).wp Tryz.prog (bodyPost Tryz.prog Tryz.f22 (ReadPost w l)) a w5:=by
 have HA:=Lib.hid (hC.acc im _ (Got.pure im (estS f s)))
 have b1:=hC.h1
 have b2:=hC.h2
 have b3:=hC.h3
 have b4:=hC.h4
 have b5:=hC.h5
 have R5:=Lib.hid hC.rd
 have X5:=Lib.hid hC.ix
 have XR:=Lib.hid hC.rx
 have HM:=Lib.hid hC.img
 have HB:=Lib.hid hC.below
 clear hC
 obtain⟨y0,y1,y2,y3,y4,y5,y6,y7,y8,y9,y10⟩:=v
 obtain⟨a0,c0,h0⟩:=HM.out.segs.form
 replace h0:y0=.slice a0 im.segs.length c0:=h0
 subst h0
 obtain⟨a1,c1,h1⟩:=HM.out.needed.form
 replace h1:y1=.slice a1 im.needed.length c1:=h1
 subst h1
 obtain⟨a2,c2,h2⟩:=HM.out.runPath.form
 replace h2:y2=.slice a2 im.runPath.length c2:=h2
 subst h2
 obtain⟨a3,c3,h3⟩:=HM.out.syms.form
 replace h3:y3=.slice a3 im.syms.length c3:=h3
 subst h3
 obtain⟨a4,c4,h4⟩:=HM.out.buckets.form
 replace h4:y4=.slice a4 im.buckets.length c4:=h4
 subst h4
 obtain⟨a5,c5,h5⟩:=HM.out.words.form
 replace h5:y5=.slice a5 im.words.length c5:=h5
 subst h5
 obtain⟨a6,c6,h6⟩:=HM.out.relocs.form
 replace h6:y6=.slice a6 im.relocs.length c6:=h6
 subst h6
 obtain⟨a7,c7,h7⟩:=HM.out.slots.form
 replace h7:y7=.slice a7 im.slots.length c7:=h7
 subst h7
 obtain⟨a8,c8,h8⟩:=HM.out.init.form
 replace h8:y8=.slice a8 im.init.length c8:=h8
 subst h8
 obtain⟨a9,c9,h9⟩:=HM.out.fini.form
 replace h9:y9=.slice a9 im.fini.length c9:=h9
 subst h9
 obtain⟨a10,c10,h10⟩:=HM.out.tls.form
 replace h10:y10=.slice a10 im.tls.length c10:=h10
 subst h10
 apply zFr.elim hF
 clear hF
 intro _ _
 intro V2
 intro _
 intro V4
 intro V5
 intro V6
 iterate 272 (intro _)
 intro hF
 obtain⟨-,-,e2,e4,e5,e6,-⟩:=hF
 replace e2:V2=.pointer (some ⟨w.heap.size,0,none⟩):=e2
 subst e2
 replace e4:V4=.pointer (some ⟨rb,0,none⟩):=e4
 subst e4
 replace e5:V5=.pointer (some ⟨ib,0,none⟩):=e5
 subst e5
 replace e6:V6=.bool f:=e6
 subst e6
 conv in zRest _ 21=>whnf
 go_upto_region 55 with fail
 have e0:w5.cell? ⟨ib,0,none⟩=some (.string ⟨im.name.toArray⟩):=by rw [Lib.cell_of_heap X5.out];rfl
 have e1:w5.cell? ⟨ib,1,none⟩=some (.int .i64 im.flags):=by rw [Lib.cell_of_heap X5.out];rfl
 have e2:w5.cell? ⟨ib,2,none⟩=some (.slice a0 im.segs.length c0):=by rw [Lib.cell_of_heap X5.out];rfl
 have e3:w5.cell? ⟨ib,3,none⟩=some (.slice a1 im.needed.length c1):=by rw [Lib.cell_of_heap X5.out];rfl
 have e4:w5.cell? ⟨ib,4,none⟩=some (.slice a2 im.runPath.length c2):=by rw [Lib.cell_of_heap X5.out];rfl
 have e5:w5.cell? ⟨ib,5,none⟩=some (.slice a3 im.syms.length c3):=by rw [Lib.cell_of_heap X5.out];rfl
 have e6:w5.cell? ⟨ib,6,none⟩=some (.slice a4 im.buckets.length c4):=by rw [Lib.cell_of_heap X5.out];rfl
 have e7:w5.cell? ⟨ib,7,none⟩=some (.slice a5 im.words.length c5):=by rw [Lib.cell_of_heap X5.out];rfl
 have e8:w5.cell? ⟨ib,8,none⟩=some (.int .i64 im.shift):=by rw [Lib.cell_of_heap X5.out];rfl
 have e9:w5.cell? ⟨ib,9,none⟩=some (.slice a6 im.relocs.length c6):=by rw [Lib.cell_of_heap X5.out];rfl
 have e10:w5.cell? ⟨ib,10,none⟩=some (.slice a7 im.slots.length c7):=by rw [Lib.cell_of_heap X5.out];rfl
 have e11:w5.cell? ⟨ib,11,none⟩=some (.slice a8 im.init.length c8):=by rw [Lib.cell_of_heap X5.out];rfl
 have e12:w5.cell? ⟨ib,12,none⟩=some (.slice a9 im.fini.length c9):=by rw [Lib.cell_of_heap X5.out];rfl
 have e13:w5.cell? ⟨ib,13,none⟩=some (.slice a10 im.tls.length c10):=by rw [Lib.cell_of_heap X5.out];rfl
 have e14:w5.cell? ⟨ib,14,none⟩=some (.int .i64 im.tlsSize):=by rw [Lib.cell_of_heap X5.out];rfl
 refine wp_region_phase 8 (by kernel_rfl) (by kernel_rfl) ?_
 simp only [List.take_succ_cons,List.take_zero,List.drop_succ_cons,List.drop_zero,List.take_nil,List.drop_nil]
 refine wpAny_of_held (S:=fun w':World=>w'.cell? ⟨ib,0,none⟩=some (.string ⟨im.name.toArray⟩)∧w'.cell? ⟨ib,1,none⟩=some (.int .i64 im.flags)∧w'.cell? ⟨ib,2,none⟩=some (.slice a0 im.segs.length c0)∧w'.cell? ⟨ib,3,none⟩=some (.slice a1 im.needed.length c1)∧w'.cell? ⟨ib,4,none⟩=some (.slice a2 im.runPath.length c2)∧w'.cell? ⟨ib,5,none⟩=some (.slice a3 im.syms.length c3)∧w'.cell? ⟨ib,6,none⟩=some (.slice a4 im.buckets.length c4)∧w'.cell? ⟨ib,7,none⟩=some (.slice a5 im.words.length c5)∧w'.cell? ⟨ib,8,none⟩=some (.int .i64 im.shift)∧w'.cell? ⟨ib,9,none⟩=some (.slice a6 im.relocs.length c6)∧w'.cell? ⟨ib,10,none⟩=some (.slice a7 im.slots.length c7)∧w'.cell? ⟨ib,11,none⟩=some (.slice a8 im.init.length c8)∧w'.cell? ⟨ib,12,none⟩=some (.slice a9 im.fini.length c9)∧w'.cell? ⟨ib,13,none⟩=some (.slice a10 im.tls.length c10)∧w'.cell? ⟨ib,14,none⟩=some (.int .i64 im.tlsSize)) _ _ _ _ ?_
 have hHeld:(fun w':World=>w'.cell? ⟨ib,0,none⟩=some (.string ⟨im.name.toArray⟩)∧w'.cell? ⟨ib,1,none⟩=some (.int .i64 im.flags)∧w'.cell? ⟨ib,2,none⟩=some (.slice a0 im.segs.length c0)∧w'.cell? ⟨ib,3,none⟩=some (.slice a1 im.needed.length c1)∧w'.cell? ⟨ib,4,none⟩=some (.slice a2 im.runPath.length c2)∧w'.cell? ⟨ib,5,none⟩=some (.slice a3 im.syms.length c3)∧w'.cell? ⟨ib,6,none⟩=some (.slice a4 im.buckets.length c4)∧w'.cell? ⟨ib,7,none⟩=some (.slice a5 im.words.length c5)∧w'.cell? ⟨ib,8,none⟩=some (.int .i64 im.shift)∧w'.cell? ⟨ib,9,none⟩=some (.slice a6 im.relocs.length c6)∧w'.cell? ⟨ib,10,none⟩=some (.slice a7 im.slots.length c7)∧w'.cell? ⟨ib,11,none⟩=some (.slice a8 im.init.length c8)∧w'.cell? ⟨ib,12,none⟩=some (.slice a9 im.fini.length c9)∧w'.cell? ⟨ib,13,none⟩=some (.slice a10 im.tls.length c10)∧w'.cell? ⟨ib,14,none⟩=some (.int .i64 im.tlsSize)) (World.drew w5):=⟨e0,e1,e2,e3,e4,e5,e6,e7,e8,e9,e10,e11,e12,e13,e14⟩
 show wpAnyH _ _ _ _ _ _ _ _ (World.drew _)
 have Rd:=Lib.hid R5.out.drew
 have XRd:Hid ((World.drew w5).heap[w.heap.size]? =_):=Lib.hid XR.out
 have HMd:Hid (ImgM (fun b=>B≤b∧b<(World.drew w5).heap.size) (World.drew w5) ⟨.slice a0 im.segs.length c0,.slice a1 im.needed.length c1,.slice a2 im.runPath.length c2,.slice a3 im.syms.length c3,.slice a4 im.buckets.length c4,.slice a5 im.words.length c5,.slice a6 im.relocs.length c6,.slice a7 im.slots.length c7,.slice a8 im.init.length c8,.slice a9 im.fini.length c9,.slice a10 im.tls.length c10⟩ im):=Lib.hid (HM.out.keeps (fun b hb=>rfl))
 have HBd:=Lib.hid HB.out.drew
 have hzd:w5.heap.size≤(World.drew w5).heap.size:=Nat.le_refl _
 clear R5 X5 XR HM HB e0 e1 e2 e3 e4 e5 e6 e7 e8 e9 e10 e11 e12 e13 e14
 generalize (World.drew w5)=wd at *
 cases f with
 | false=>
  have hno:=(whole_got HA.out).2 (by simp [estS])
  have HNo:=Lib.hid hno
  clear hno HA
  refine wpAnyH_take (i:=0) (v:= ?_) rfl (by kernel_rfl) (by kernel_rfl) (by kernel_rfl) (fun _ _ _ h=>h) (Or.inl ⟨by rfl,?_⟩) hHeld ?_
  rotate_left
  ·(intro w hSw;(try dsimp only at hSw);go_simp;try with_reducible rfl)
  simp only [List.getElem_toArray,List.getElem_cons_zero,List.getElem_cons_succ,Act.put,List.setIfInBounds_toArray,List.set_cons_zero,List.set_cons_succ]
  refine wpAnyH_take (i:=1) (v:= ?_) rfl (by kernel_rfl) (by kernel_rfl) (by kernel_rfl) (fun _ _ _ h=>h) (Or.inl ⟨by rfl,?_⟩) hHeld ?_
  rotate_left
  ·(intro w hSw;(try dsimp only at hSw);go_simp;try with_reducible rfl)
  simp only [List.getElem_toArray,List.getElem_cons_zero,List.getElem_cons_succ,Act.put,List.setIfInBounds_toArray,List.set_cons_zero,List.set_cons_succ]
  refine wpAnyH_take (i:=2) (v:= ?_) rfl (by kernel_rfl) (by kernel_rfl) (by kernel_rfl) (fun _ _ _ h=>h) (Or.inl ⟨by rfl,?_⟩) hHeld ?_
  rotate_left
  ·(intro w hSw;(try dsimp only at hSw);go_simp;try with_reducible rfl)
  simp only [List.getElem_toArray,List.getElem_cons_zero,List.getElem_cons_succ,Act.put,List.setIfInBounds_toArray,List.set_cons_zero,List.set_cons_succ]
  refine wpAnyH_take (i:=3) (v:=undef) rfl (by kernel_rfl) (by kernel_rfl) (by kernel_rfl) (fun _ _ _ h=>h) (Or.inr ⟨by kernel_rfl,rfl⟩) hHeld ?_
  simp only [List.getElem_toArray,List.getElem_cons_zero,List.getElem_cons_succ,Act.put,List.setIfInBounds_toArray,List.set_cons_zero,List.set_cons_succ]
  refine wpAnyH_take (i:=4) (v:=undef) rfl (by kernel_rfl) (by kernel_rfl) (by kernel_rfl) (fun _ _ _ h=>h) (Or.inr ⟨by kernel_rfl,rfl⟩) hHeld ?_
  simp only [List.getElem_toArray,List.getElem_cons_zero,List.getElem_cons_succ,Act.put,List.setIfInBounds_toArray,List.set_cons_zero,List.set_cons_succ]
  refine wpAnyH_take (i:=5) (v:=undef) rfl (by kernel_rfl) (by kernel_rfl) (by kernel_rfl) (fun _ _ _ h=>h) (Or.inr ⟨by kernel_rfl,rfl⟩) hHeld ?_
  simp only [List.getElem_toArray,List.getElem_cons_zero,List.getElem_cons_succ,Act.put,List.setIfInBounds_toArray,List.set_cons_zero,List.set_cons_succ]
  refine wpAnyH_take (i:=6) (v:= ?_) rfl (by kernel_rfl) (by kernel_rfl) (by kernel_rfl) (fun _ _ _ h=>h) (Or.inl ⟨by kernel_rfl,?_⟩) hHeld ?_
  rotate_left
  ·(intro w hSw;(try dsimp only at hSw);go_simp;try with_reducible rfl)
  simp only [List.getElem_toArray,List.getElem_cons_zero,List.getElem_cons_succ,Act.put,List.setIfInBounds_toArray,List.set_cons_zero,List.set_cons_succ]
  refine wpAnyH_ready (rs:=[7]) (by kernel_rfl) (by simp) ?_
  refine AllReadyH.cons rfl (fun K hK=> ?_) AllReadyH.nil
  refine wp_store_row 40 (.tmp 2) (.tmp 272) rfl w.heap.size (#[.string ⟨im.name.toArray⟩,.int .i64 im.flags,.slice a0 im.segs.length c0,.slice a1 im.needed.length c1,.slice a2 im.runPath.length c2,.slice a3 im.syms.length c3,.slice a4 im.buckets.length c4,.slice a5 im.words.length c5,.int .i64 im.shift,.slice a6 im.relocs.length c6,.slice a7 im.slots.length c7,.slice a8 im.init.length c8,.slice a9 im.fini.length c9,.slice a10 im.tls.length c10,.int .i64 im.tlsSize]) rfl rfl _ _ XRd.out (by kernel_rfl) rfl (by simp [Value.oneCell']) ?_
  have FRR:=Lib.hid (setRow_heap _ w.heap.size _ (#[.string ⟨im.name.toArray⟩,.int .i64 im.flags,.slice a0 im.segs.length c0,.slice a1 im.needed.length c1,.slice a2 im.runPath.length c2,.slice a3 im.syms.length c3,.slice a4 im.buckets.length c4,.slice a5 im.words.length c5,.int .i64 im.shift,.slice a6 im.relocs.length c6,.slice a7 im.slots.length c7,.slice a8 im.init.length c8,.slice a9 im.fini.length c9,.slice a10 im.tls.length c10,.int .i64 im.tlsSize]) _ _ XRd.out)
  have hsr:Step (fun x=>x≠w.heap.size) wd (wd.setRow w.heap.size (#[.string ⟨im.name.toArray⟩,.int .i64 im.flags,.slice a0 im.segs.length c0,.slice a1 im.needed.length c1,.slice a2 im.runPath.length c2,.slice a3 im.syms.length c3,.slice a4 im.buckets.length c4,.slice a5 im.words.length c5,.int .i64 im.shift,.slice a6 im.relocs.length c6,.slice a7 im.slots.length c7,.slice a8 im.init.length c8,.slice a9 im.fini.length c9,.slice a10 im.tls.length c10,.int .i64 im.tlsSize])):=step_setRow _ _ _
  have HBr:=Lib.hid (((Step.of_below HBd.out).trans (hsr.imp (fun x h=>by have h:x<w.heap.size:=h;show x≠_;omega))).below)
  have HMr:=Lib.hid ((HMd.out.keeps (fun b hb=>hsr.block b (by have:=hb.1;show b≠_;omega))).imp (S':=fun b=>w.heap.size≤b∧b<(wd.setRow w.heap.size (#[.string ⟨im.name.toArray⟩,.int .i64 im.flags,.slice a0 im.segs.length c0,.slice a1 im.needed.length c1,.slice a2 im.runPath.length c2,.slice a3 im.syms.length c3,.slice a4 im.buckets.length c4,.slice a5 im.words.length c5,.int .i64 im.shift,.slice a6 im.relocs.length c6,.slice a7 im.slots.length c7,.slice a8 im.init.length c8,.slice a9 im.fini.length c9,.slice a10 im.tls.length c10,.int .i64 im.tlsSize])).heap.size) (fun b hb=>⟨by have:=hb.1;omega,by have:=hb.2;have:=hsr.size;omega⟩))
  refine hK.out _ _ ⟨(hsr.cell (p:=⟨ib,0,none⟩) (by show ib≠_;omega)).trans hHeld.1,(hsr.cell (p:=⟨ib,1,none⟩) (by show ib≠_;omega)).trans hHeld.2.1,(hsr.cell (p:=⟨ib,2,none⟩) (by show ib≠_;omega)).trans hHeld.2.2.1,(hsr.cell (p:=⟨ib,3,none⟩) (by show ib≠_;omega)).trans hHeld.2.2.2.1,(hsr.cell (p:=⟨ib,4,none⟩) (by show ib≠_;omega)).trans hHeld.2.2.2.2.1,(hsr.cell (p:=⟨ib,5,none⟩) (by show ib≠_;omega)).trans hHeld.2.2.2.2.2.1,(hsr.cell (p:=⟨ib,6,none⟩) (by show ib≠_;omega)).trans hHeld.2.2.2.2.2.2.1,(hsr.cell (p:=⟨ib,7,none⟩) (by show ib≠_;omega)).trans hHeld.2.2.2.2.2.2.2.1,(hsr.cell (p:=⟨ib,8,none⟩) (by show ib≠_;omega)).trans hHeld.2.2.2.2.2.2.2.2.1,(hsr.cell (p:=⟨ib,9,none⟩) (by show ib≠_;omega)).trans hHeld.2.2.2.2.2.2.2.2.2.1,(hsr.cell (p:=⟨ib,10,none⟩) (by show ib≠_;omega)).trans hHeld.2.2.2.2.2.2.2.2.2.2.1,(hsr.cell (p:=⟨ib,11,none⟩) (by show ib≠_;omega)).trans hHeld.2.2.2.2.2.2.2.2.2.2.2.1,(hsr.cell (p:=⟨ib,12,none⟩) (by show ib≠_;omega)).trans hHeld.2.2.2.2.2.2.2.2.2.2.2.2.1,(hsr.cell (p:=⟨ib,13,none⟩) (by show ib≠_;omega)).trans hHeld.2.2.2.2.2.2.2.2.2.2.2.2.2.1,(hsr.cell (p:=⟨ib,14,none⟩) (by show ib≠_;omega)).trans hHeld.2.2.2.2.2.2.2.2.2.2.2.2.2.2⟩ (fun hHeld=> ?_)
  clear hK K hsr
  try simp only [List.getElem_toArray,List.getElem_cons_zero,List.getElem_cons_succ,Act.put,List.setIfInBounds_toArray,List.set_cons_zero,List.set_cons_succ]
  refine wpAnyH_done (by kernel_rfl) ?_ _
  simp only [phaseQ]
  clear hHeld
  go_wp2_with fail
  refine bodyPost_ret (results_row_tmp rfl _ _ w.heap.size _ _ _ _ rfl FRR.out Tryz.underlying40 rfl (by kernel_rfl)) rfl ?_
  exact⟨⟨.slice a0 im.segs.length c0,.slice a1 im.needed.length c1,.slice a2 im.runPath.length c2,.slice a3 im.syms.length c3,.slice a4 im.buckets.length c4,.slice a5 im.words.length c5,.slice a6 im.relocs.length c6,.slice a7 im.slots.length c7,.slice a8 im.init.length c8,.slice a9 im.fini.length c9,.slice a10 im.tls.length c10⟩,im,false,rfl,HBr.out,HMr.out,(fun h=>by cases h),(fun _=>HNo.out)⟩
 | true=>
  refine wpAnyH_take (i:=0) (v:= ?_) rfl (by kernel_rfl) (by kernel_rfl) (by kernel_rfl) (fun _ _ _ h=>h) (Or.inl ⟨by rfl,?_⟩) hHeld ?_
  rotate_left
  ·(intro w hSw;(try dsimp only at hSw);go_simp;try with_reducible rfl)
  simp only [List.getElem_toArray,List.getElem_cons_zero,List.getElem_cons_succ,Act.put,List.setIfInBounds_toArray,List.set_cons_zero,List.set_cons_succ]
  refine wpAnyH_take (i:=1) (v:= ?_) rfl (by kernel_rfl) (by kernel_rfl) (by kernel_rfl) (fun _ _ _ h=>h) (Or.inl ⟨by rfl,?_⟩) hHeld ?_
  rotate_left
  ·(intro w hSw;(try dsimp only at hSw);go_simp;try with_reducible rfl)
  simp only [List.getElem_toArray,List.getElem_cons_zero,List.getElem_cons_succ,Act.put,List.setIfInBounds_toArray,List.set_cons_zero,List.set_cons_succ]
  refine wpAnyH_take (i:=2) (v:= ?_) rfl (by kernel_rfl) (by kernel_rfl) (by kernel_rfl) (fun _ _ _ h=>h) (Or.inl ⟨by rfl,?_⟩) hHeld ?_
  rotate_left
  ·(intro w hSw;(try dsimp only at hSw);go_simp;try with_reducible rfl)
  simp only [List.getElem_toArray,List.getElem_cons_zero,List.getElem_cons_succ,Act.put,List.setIfInBounds_toArray,List.set_cons_zero,List.set_cons_succ]
  refine wpAnyH_take (i:=3) (v:= ?_) rfl (by kernel_rfl) (by kernel_rfl) (by kernel_rfl) (fun _ _ _ h=>h) (Or.inl ⟨by kernel_rfl,?_⟩) hHeld ?_
  rotate_left
  ·(intro w hSw;(try dsimp only at hSw);go_simp;try with_reducible rfl)
  simp only [List.getElem_toArray,List.getElem_cons_zero,List.getElem_cons_succ,Act.put,List.setIfInBounds_toArray,List.set_cons_zero,List.set_cons_succ]
  refine wpAnyH_ready (rs:=[4]) (by kernel_rfl) (by simp) ?_
  refine AllReadyH.cons rfl (fun K hK=> ?_) AllReadyH.nil
  rw [if_pos (by kernel_rfl)]
  go_simp
  refine(yend_any wd rb gb s Rd.out).mono ?_
  rintro e wq ⟨n,rfl,hn,hwq⟩
  rw [hwq]
  clear hwq wq
  obtain⟨nb,hnb⟩:∃ nb,nb=(n==0):=⟨_,rfl⟩
  have Hnb:=Lib.hid hnb
  have Hn:=Lib.hid hn
  refine hK.out _ _ hHeld (fun hHeld=> ?_)
  clear hK K hn hnb
  try simp only [List.getElem_toArray,List.getElem_cons_zero,List.getElem_cons_succ,Act.put,List.setIfInBounds_toArray,List.set_cons_zero,List.set_cons_succ]
  refine wpAnyH_take (i:=5) (v:= ?_) rfl (by kernel_rfl) (by kernel_rfl) (by kernel_rfl) (fun _ _ _ h=>h) (Or.inl ⟨by kernel_rfl,?_⟩) hHeld ?_
  rotate_left
  ·(intro w hSw;(try dsimp only at hSw);go_simp;try with_reducible rfl)
  simp only [List.getElem_toArray,List.getElem_cons_zero,List.getElem_cons_succ,Act.put,List.setIfInBounds_toArray,List.set_cons_zero,List.set_cons_succ]
  rw [← Hnb.out]
  refine wpAnyH_take (i:=6) (v:= ?_) rfl (by kernel_rfl) (by kernel_rfl) (by kernel_rfl) (fun _ _ _ h=>h) (Or.inl ⟨by kernel_rfl,?_⟩) hHeld ?_
  rotate_left
  ·(intro w hSw;(try dsimp only at hSw);go_simp;try with_reducible rfl)
  simp only [List.getElem_toArray,List.getElem_cons_zero,List.getElem_cons_succ,Act.put,List.setIfInBounds_toArray,List.set_cons_zero,List.set_cons_succ]
  have hy:nb=decide (s=some []):=Hnb.out.trans Hn.out
  have HY1:Hid (nb=true→wholeP l=some im):=Lib.hid (fun h=>(whole_got HA.out).1 (by rw [hy]at h;exact of_decide_eq_true h))
  have HY2:Hid (nb=false→wholeP l=none):=Lib.hid (fun h=>(whole_got HA.out).2 (by rw [hy]at h;exact of_decide_eq_false h))
  clear hy HA Hn Hnb
  refine wpAnyH_ready (rs:=[7]) (by kernel_rfl) (by simp) ?_
  refine AllReadyH.cons rfl (fun K hK=> ?_) AllReadyH.nil
  refine wp_store_row 40 (.tmp 2) (.tmp 272) rfl w.heap.size (#[.string ⟨im.name.toArray⟩,.int .i64 im.flags,.slice a0 im.segs.length c0,.slice a1 im.needed.length c1,.slice a2 im.runPath.length c2,.slice a3 im.syms.length c3,.slice a4 im.buckets.length c4,.slice a5 im.words.length c5,.int .i64 im.shift,.slice a6 im.relocs.length c6,.slice a7 im.slots.length c7,.slice a8 im.init.length c8,.slice a9 im.fini.length c9,.slice a10 im.tls.length c10,.int .i64 im.tlsSize]) rfl rfl _ _ XRd.out (by kernel_rfl) rfl (by simp [Value.oneCell']) ?_
  have FRR:=Lib.hid (setRow_heap _ w.heap.size _ (#[.string ⟨im.name.toArray⟩,.int .i64 im.flags,.slice a0 im.segs.length c0,.slice a1 im.needed.length c1,.slice a2 im.runPath.length c2,.slice a3 im.syms.length c3,.slice a4 im.buckets.length c4,.slice a5 im.words.length c5,.int .i64 im.shift,.slice a6 im.relocs.length c6,.slice a7 im.slots.length c7,.slice a8 im.init.length c8,.slice a9 im.fini.length c9,.slice a10 im.tls.length c10,.int .i64 im.tlsSize]) _ _ XRd.out)
  have hsr:Step (fun x=>x≠w.heap.size) wd (wd.setRow w.heap.size (#[.string ⟨im.name.toArray⟩,.int .i64 im.flags,.slice a0 im.segs.length c0,.slice a1 im.needed.length c1,.slice a2 im.runPath.length c2,.slice a3 im.syms.length c3,.slice a4 im.buckets.length c4,.slice a5 im.words.length c5,.int .i64 im.shift,.slice a6 im.relocs.length c6,.slice a7 im.slots.length c7,.slice a8 im.init.length c8,.slice a9 im.fini.length c9,.slice a10 im.tls.length c10,.int .i64 im.tlsSize])):=step_setRow _ _ _
  have HBr:=Lib.hid (((Step.of_below HBd.out).trans (hsr.imp (fun x h=>by have h:x<w.heap.size:=h;show x≠_;omega))).below)
  have HMr:=Lib.hid ((HMd.out.keeps (fun b hb=>hsr.block b (by have:=hb.1;show b≠_;omega))).imp (S':=fun b=>w.heap.size≤b∧b<(wd.setRow w.heap.size (#[.string ⟨im.name.toArray⟩,.int .i64 im.flags,.slice a0 im.segs.length c0,.slice a1 im.needed.length c1,.slice a2 im.runPath.length c2,.slice a3 im.syms.length c3,.slice a4 im.buckets.length c4,.slice a5 im.words.length c5,.int .i64 im.shift,.slice a6 im.relocs.length c6,.slice a7 im.slots.length c7,.slice a8 im.init.length c8,.slice a9 im.fini.length c9,.slice a10 im.tls.length c10,.int .i64 im.tlsSize])).heap.size) (fun b hb=>⟨by have:=hb.1;omega,by have:=hb.2;have:=hsr.size;omega⟩))
  refine hK.out _ _ ⟨(hsr.cell (p:=⟨ib,0,none⟩) (by show ib≠_;omega)).trans hHeld.1,(hsr.cell (p:=⟨ib,1,none⟩) (by show ib≠_;omega)).trans hHeld.2.1,(hsr.cell (p:=⟨ib,2,none⟩) (by show ib≠_;omega)).trans hHeld.2.2.1,(hsr.cell (p:=⟨ib,3,none⟩) (by show ib≠_;omega)).trans hHeld.2.2.2.1,(hsr.cell (p:=⟨ib,4,none⟩) (by show ib≠_;omega)).trans hHeld.2.2.2.2.1,(hsr.cell (p:=⟨ib,5,none⟩) (by show ib≠_;omega)).trans hHeld.2.2.2.2.2.1,(hsr.cell (p:=⟨ib,6,none⟩) (by show ib≠_;omega)).trans hHeld.2.2.2.2.2.2.1,(hsr.cell (p:=⟨ib,7,none⟩) (by show ib≠_;omega)).trans hHeld.2.2.2.2.2.2.2.1,(hsr.cell (p:=⟨ib,8,none⟩) (by show ib≠_;omega)).trans hHeld.2.2.2.2.2.2.2.2.1,(hsr.cell (p:=⟨ib,9,none⟩) (by show ib≠_;omega)).trans hHeld.2.2.2.2.2.2.2.2.2.1,(hsr.cell (p:=⟨ib,10,none⟩) (by show ib≠_;omega)).trans hHeld.2.2.2.2.2.2.2.2.2.2.1,(hsr.cell (p:=⟨ib,11,none⟩) (by show ib≠_;omega)).trans hHeld.2.2.2.2.2.2.2.2.2.2.2.1,(hsr.cell (p:=⟨ib,12,none⟩) (by show ib≠_;omega)).trans hHeld.2.2.2.2.2.2.2.2.2.2.2.2.1,(hsr.cell (p:=⟨ib,13,none⟩) (by show ib≠_;omega)).trans hHeld.2.2.2.2.2.2.2.2.2.2.2.2.2.1,(hsr.cell (p:=⟨ib,14,none⟩) (by show ib≠_;omega)).trans hHeld.2.2.2.2.2.2.2.2.2.2.2.2.2.2⟩ (fun hHeld=> ?_)
  clear hK K hsr
  try simp only [List.getElem_toArray,List.getElem_cons_zero,List.getElem_cons_succ,Act.put,List.setIfInBounds_toArray,List.set_cons_zero,List.set_cons_succ]
  refine wpAnyH_done (by kernel_rfl) ?_ _
  simp only [phaseQ]
  clear hHeld
  go_wp2_with fail
  refine bodyPost_ret (results_row_tmp rfl _ _ w.heap.size _ _ _ _ rfl FRR.out Tryz.underlying40 rfl (by kernel_rfl)) rfl ?_
  exact⟨⟨.slice a0 im.segs.length c0,.slice a1 im.needed.length c1,.slice a2 im.runPath.length c2,.slice a3 im.syms.length c3,.slice a4 im.buckets.length c4,.slice a5 im.words.length c5,.slice a6 im.relocs.length c6,.slice a7 im.slots.length c7,.slice a8 im.init.length c8,.slice a9 im.fini.length c9,.slice a10 im.tls.length c10⟩,im,nb,rfl,HBr.out,HMr.out,(HY1.out),(HY2.out)⟩
end Go.Proofs.YtfchpchabdhcgaaGreat
namespace Go.Proofs.YtfchpchabdhcgaaGreat
open Go.RowKit
def BytesV (w:World) (v:Value) (l:List UInt8):Prop:=
 (l=[]∧∃ a c,v=.slice a 0 c)∨∃ g off cap,v=.slice (some ⟨g,off,none⟩) l.length cap∧∀ j (hj:j<l.length),w.cell? ⟨g,off+j,none⟩=some (.int .u8 (l[j].toNat:Int))
theorem BytesV.below {w w':World} {v:Value} {l:List UInt8} (h:BytesV w v l) (hb:Below w.heap.size w w'):BytesV w' v l:=by
 rcases h with ⟨rfl,a,c,rfl⟩ | ⟨g,off,cap,rfl,hc⟩
 ·exact Or.inl ⟨rfl,a,c,rfl⟩
 ·exact Or.inr ⟨g,off,cap,rfl,fun j hj=>(hb.cell (p:=⟨g,off+j,none⟩) (World.block_lt_of_cell? _ _ (hc j hj))).trans (hc j hj)⟩
theorem BytesV.form {w:World} {v:Value} {l:List UInt8} (h:BytesV w v l):∃ a c,v=.slice a l.length c:=by
 rcases h with ⟨rfl,a,c,rfl⟩ | ⟨g,off,cap,rfl,hc⟩
 ·exact⟨_,_,rfl⟩
 ·exact⟨_,_,rfl⟩
theorem LB.bytesV {S:Nat→Prop} {w:World} {v:Value} {l:List UInt8} (h:LB kByte S w v l):BytesV w v l:=by
 obtain⟨a,b,off,cap,hv,hm,hcap,hat⟩:=h.at
 by_cases h0:l=[]
 ·subst h0
  exact Or.inl ⟨rfl,a,cap,hv⟩
 ·have h1:0<l.length:=List.length_pos_iff.2 h0
  have ha:=hat.addr h1
  subst ha
  exact Or.inr ⟨b,off,cap,hv,fun j hj=>hat.byte1 j l[j] (List.getElem?_eq_getElem hj)⟩
def bvs (l:List UInt8):List Value:=l.map fun c=>Value.int .u8 (c.toNat:Int)
theorem bvs_length (l:List UInt8):(bvs l).length=l.length:=by simp [bvs]
theorem bvs_at (l:List UInt8) (j:Nat) (h:j<l.length):(bvs l)[j]? =some (.int .u8 (l[j].toNat:Int)):=by simp [bvs,h]
theorem BytesV.src {w w1:World} {a:Option Addr} {c0:Nat} {l:List UInt8} (h:BytesV w (.slice a l.length c0) l) (hb:Below w.heap.size w w1) (h0:0<(bvs l).length):∃ ad,a=some ad∧∀ j v,(bvs l)[j]? =some v→w1.cell? (ad.add j)=some v:=by
 rcases h.below hb with ⟨rfl,_,c,hv⟩ | ⟨g,off,cap,hv,hc⟩
 ·simp [bvs]at h0
 ·simp only [Value.slice.injEq]at hv
  refine⟨⟨g,off,none⟩,hv.1,fun j v hj=> ?_⟩
  have hjl:j<l.length:=by
   rcases Nat.lt_or_ge j l.length with h | h
   ·exact h
   ·rw [List.getElem?_eq_none (by rw [bvs_length];exact h)]at hj;cases hj
  rw [bvs_at l j hjl]at hj
  obtain rfl:=Option.some.inj hj
  have e1:(⟨g,off,none⟩:Addr).add j=⟨g,off+j,none⟩:=by unfold Addr.add;split<;>simp_all
  rw [e1];exact hc j hjl
theorem heap_set {w:World} {g k:Nat} {xs:List Value} {t:TypeId} (h:w.heap[g]? =some (.cells xs.toArray t (0,0))) (u:Value):(w.setCell ⟨g,k,none⟩ u).heap[g]? =some (.cells (xs.set k u).toArray t (0,0)):=by
 simp [World.setCell,Array.getElem?_modify,h]
theorem take_set_succ (xs:List Value) (k:Nat) (u:Value) (h:k<xs.length):(xs.set k u).take (k+1)=xs.take k++[u]:=by
 rw [List.take_succ_eq_append_getElem (by simpa using h)]
 simp [List.take_set_of_le]
theorem heap_cell {w:World} {g k:Nat} {xs:List Value} {t:TypeId} {v:Value} (h:w.heap[g]? =some (.cells xs.toArray t (0,0))) (hv:xs[k]? =some v):w.cell? ⟨g,k,none⟩=some v:=by
 rw [Lib.cell_of_heap h];simpa using hv
theorem copy_run (w:World) (g n N:Nat) (a:Option Addr) (c0:Nat) (cur cs:List Value) (hg:w.heap[g]? =some (.cells cur.toArray 5 (0,0))) (hN:cur.length=N) (hn:n≤N) (hcs:cs.length=n)
  (hsrc:0<cs.length→∃ ad,a=some ad∧∀ j v,cs[j]? =some v→w.cell? (ad.add j)=some v) (h1:∀ v∈cs,v.oneCell'=true):
  ∃ w2,(Builtin.copy_ #[22,22] 3 #[.slice (some ⟨g,0,none⟩) N N,.slice a n c0]).run Tryz.prog w=.ok (.int .i64 n) w2∧w2.heap[g]? =some (.cells (splice cur 0 cs).toArray 5 (0,0))∧Below g w w2:=by
 by_cases h0:cs.length=0
 ·obtain rfl:cs=[]:=List.eq_nil_of_length_eq_zero h0
  simp only [List.length_nil]at hcs
  subst hcs
  exact⟨w,run_copy_none (P:=Tryz.prog) w 22 22 3 5 _ a _ _ _ _ Tryz.underlying22 (by kernel_rfl) (by simp),by simpa [splice] using hg,Below.refl _ _⟩
 ·obtain⟨ad,rfl,hs⟩:=hsrc (by omega)
  subst hcs
  refine⟨_,run_copy_row (P:=Tryz.prog) w 22 22 3 5 g 0 N N ad cs.length c0 cur.toArray 5 cs Tryz.underlying22 (by kernel_rfl) hg (Nat.min_eq_left hn).symm hs (by simp;omega) h1,?_,Go.below_setRow (Below.refl _ _) (Nat.le_refl _) _⟩
  simpa [splice] using setRow_heap w g _ _ 5 _ hg
theorem lent_any (w:World) (v:Value) (l:List UInt8) (hv:BytesV w v l) (hl:l.length≤140737488355328):
  Calls Tryz.prog 5 #[v] w fun e w'=>∃ g,e=.returned (.slice (some ⟨g,0,none⟩) l.length (l.length+3))∧w.heap.size≤g∧w'.heap[g]? =some (.cells (bvs (l++[201,201,201])).toArray 5 (0,0))∧Below w.heap.size w w':=by
 obtain⟨a,c0,rfl⟩:=hv.form
 obtain⟨i0,hi,hz0,hz1,hz2⟩:=info_parts info_byte
 have Hv:=Lib.hid hv
 obtain⟨n,hn⟩:∃ n,n=l.length:=⟨_,rfl⟩
 have Hn:=Lib.hid hn
 obtain⟨cs,hcs⟩:∃ cs,cs=bvs l:=⟨_,rfl⟩
 have Hcl:Hid (cs.length=n):=Lib.hid (by rw [hcs,hn,bvs_length])
 have Hone:Hid (∀ v∈cs,v.oneCell'=true):=Lib.hid (by rw [hcs];intro v hv;simp [bvs]at hv;obtain⟨c,_,rfl⟩:=hv;rfl)
 have Hsrc:Hid (∀ w1,Below w.heap.size w w1→0<cs.length→∃ ad,a=some ad∧∀ j v,cs[j]? =some v→w1.cell? (ad.add j)=some v):=Lib.hid (fun w1 hb h0=>by rw [hcs]at h0 ⊢;exact hv.src hb h0)
 have Hcs:=Lib.hid hcs
 rw [← hn]at hl ⊢
 clear hv hn hcs
 go_enter Tryz.func5,Tryz.ntmps5
 go_wp2_with (at_make;refine wpList_make_full _ rfl _ _ 22 rfl w.heap.size 5 i0 (.int .u8 0) 1 Tryz.underlying22 hi hz0 hz1 .i64 .i64 _ _ (n+3) rfl rfl (by omega) (by omega) (by rw [hz2];omega) (by unfold maxLen;omega) (Nat.le_refl _) ?_;intro w1 hrow1 hg1)
 obtain⟨cur,Hcur,HcurL⟩:∃ cur:List Value,Hid (w1.heap[w.heap.size]? =some (.cells cur.toArray 5 (0,0)))∧Hid (cur.length=n+3):=by
  rcases hrow1.2 with ⟨h,_⟩ | ⟨g,cap,cur,h,_,hh,_,_,hs,_⟩
  ·cases h
  ·cases h;exact⟨cur.toList,Lib.hid (by simpa using hh),Lib.hid (by simpa using hs)⟩
 have HB1:=Lib.hid ((Below.refl w.heap.size w).grown hg1 (Nat.le_refl _) (fun j hj=>by cases hj))
 clear hrow1 hg1
 obtain⟨w2,hrun,hc2,hb2⟩:=copy_run w1 w.heap.size n (n+3) a c0 cur cs Hcur.out HcurL.out (by omega) Hcl.out (fun h0=>Hsrc.out _ HB1.out h0) Hone.out
 have Hc2':Hid (∃ xs:List Value,xs.length=n+3∧xs.take n=cs∧w2.heap[w.heap.size]? =some (.cells xs.toArray 5 (0,0))):=Lib.hid ⟨splice cur 0 cs,by rw [length_splice _ _ _ (by rw [Hcl.out,HcurL.out];omega)];exact HcurL.out,by simp [splice,← Hcl.out],hc2⟩
 have HB:=Lib.hid (HB1.out.trans hb2)
 clear hc2 hb2 HB1 Hcur
 rw [hrun]
 simp only [Result.andThen]
 rw [Oper.upon_value]
 clear hrun
 go_wp2
 go_loopw [4] (fun i wr=>∃ (j:Nat) (xs:List Value),i=.int .i64 ((n+j:Nat):Int)∧j≤3∧xs.length=n+3∧xs.take (n+j)=cs++List.replicate j (.int .u8 201)∧wr.heap[w.heap.size]? =some (.cells xs.toArray 5 (0,0))∧Below w.heap.size w wr) (fun i _=>n+3-(intOf i).toNat)
 case atStart=>
  obtain⟨xs,h1,h2,h3⟩:=Hc2'.out
  exact⟨0,xs,by simp,by omega,h1,by simpa using h2,h3,HB.out⟩
 case round=>
  clear Hc2' HB
  obtain⟨j,xs,rfl,hj,hxl,htk,hhp,hbel⟩:=hrel
  have Htk:=Lib.hid htk
  have Hhp:=Lib.hid hhp
  have Hbel:=Lib.hid hbel
  have Hxl:=Lib.hid hxl
  obtain⟨q,hq⟩:∃ q,q=n+j:=⟨_,rfl⟩
  by_cases hlt:j<3
  ·obtain⟨u,hu⟩:∃ u,xs[q]? =some u:=⟨_,List.getElem?_eq_getElem (by omega)⟩
   have hc:=heap_cell hhp hu
   have hf:=Lib.frozen_of_heap hhp q
   have Hnew:=Lib.hid (heap_set (k:=q) hhp (.int .u8 201))
   have Hb2:=Lib.hid (hbel.setCell (p:=⟨w.heap.size,q,none⟩) (Nat.le_refl _) (.int .u8 201))
   have hqn:q<n+3:=by omega
   have Hq:=Lib.hid hq
   rw [← hq]
   clear htk hhp hbel hu hxl hq
   go_wp2
   go_roundw
   case rel=>exact⟨j+1,xs.set q (.int .u8 201),by have:=Hq.out;go_num,by omega,by rw [List.length_set];exact Hxl.out,by
    have e1:n+(j+1)=q+1:=by rw [Hq.out];omega
    rw [e1,take_set_succ _ _ _ (by rw [Hxl.out];exact hqn),List.replicate_succ',← List.append_assoc,← Htk.out,Hq.out],Hnew.out,Hb2.out⟩
   case measure=>simp [intOf];omega
  ·have hj3:j=3:=by omega
   subst hj3
   have HR:Hid (wr.heap[w.heap.size]? =some (.cells (bvs (l++[201,201,201])).toArray 5 (0,0))):=Lib.hid (by
    rw [hhp]
    have e2:xs=bvs (l++[201,201,201]):=by
     rw [List.take_of_length_le (by omega)]at htk
     rw [htk,Hcs.out];simp [bvs,List.replicate]
    rw [e2])
   clear htk hhp hbel hxl
   go_wp2
   go_ret
   exact⟨_,rfl,Nat.le_refl _,HR.out,Hbel.out⟩
theorem grown_set {w w':World} {g:Nat} (h:w.grownBy w' (some g)) (k:Nat) (u:Value):w.grownBy (w'.setCell ⟨g,k,none⟩ u) (some g):=
 ⟨h.os,h.tape,h.output,by simpa using h.size,fun i hi hne=>(Below.heap_setCell w' ⟨g,k,none⟩ u i (fun e=>hne (by rw [e]))).trans (h.block i hi hne)⟩
theorem back_any (w:World) (g:Nat) (v:Value) (l:List UInt8) (hg:w.heap[g]? =some (.cells (bvs (l++[201,201,201])).toArray 5 (0,0))) (hv:BytesV w v l) (hne:∀ g2 off cap,v=.slice (some ⟨g2,off,none⟩) l.length cap→0<l.length→g2≠g) (hl:l.length≤140737488355328):
  Calls Tryz.prog 7 #[.slice (some ⟨g,0,none⟩) l.length (l.length+3),v] w fun e w'=>e=.returned (.bool true)∧w.grownBy w' (some g):=by
 obtain⟨a,c0,rfl⟩:=hv.form
 have Hbl:Hid (∀ wr,w.grownBy wr (some g)→∀ k (hk:k<l.length),∃ g2 off,a=some ⟨g2,off,none⟩∧wr.cell? ⟨g2,off+k,none⟩=some (.int .u8 (l[k].toNat:Int))):=Lib.hid (fun wr hgr k hk=>by
  rcases hv with ⟨rfl,_,c,hx⟩ | ⟨g2,off,cap,hx,hc⟩
  ·cases hk
  ·have h2:=hne g2 off cap hx (by omega)
   simp only [Value.slice.injEq]at hx
   refine⟨g2,off,hx.1,?_⟩
   have h1:=hc k hk
   have hlt:=World.block_lt_of_cell? _ _ h1
   exact(World.cell?_of_block (w:=w) (a:=⟨g2,off+k,none⟩) (hgr.block g2 hlt (fun e=>h2 (Option.some.inj e)))).trans h1)
 have HO:Hid (∀ k (hk:k<l.length),(bvs (l++[201,201,201]))[k]? =some (.int .u8 (l[k].toNat:Int))):=Lib.hid (fun k hk=>by
  rw [bvs_at _ k (by simp;omega)];simp [List.getElem_append_left hk])
 have HO2:Hid (∀ k,l.length≤k→k<l.length+3→(bvs (l++[201,201,201]))[k]? =some (.int .u8 201)):=Lib.hid (fun k h1 h2=>by
  rw [bvs_at _ k (by simp;omega)]
  obtain⟨j,rfl⟩:∃ j,k=l.length+j:=⟨k-l.length,by omega⟩
  have:j=0∨j=1∨j=2:=by omega
  rcases this with rfl | rfl | rfl<;>simp [List.getElem_append_right])
 have HL:Hid ((bvs (l++[201,201,201])).length=l.length+3):=Lib.hid (by rw [bvs_length];simp)
 have Hg:=Lib.hid hg
 clear hv hne hg
 generalize bvs (l++[201,201,201])=O at *
 obtain⟨n,hn⟩:∃ n,n=l.length:=⟨_,rfl⟩
 have Hn:=Lib.hid hn
 rw [← hn]at hl HO2 HL ⊢
 clear hn
 go_enter Tryz.func7,Tryz.ntmps7
 go_wp2
 go_loopw [6,7] (fun ok i wr=>∃ (k:Nat) (xs:List Value),ok=.bool true∧i=.int .i64 k∧k≤n+3∧xs.length=n+3∧(∀ j,k≤j→xs[j]? =O[j]?)∧wr.heap[g]? =some (.cells xs.toArray 5 (0,0))∧w.grownBy wr (some g)) (fun _ i _=>n+3-(intOf i).toNat)
 case atStart=>exact⟨0,O,rfl,rfl,by omega,HL.out,fun _ _=>rfl,Hg.out,World.grownBy.refl _ _⟩
 case round=>
  clear Hg
  obtain⟨k,xs,rfl,rfl,hk,hxl,hxo,hhp,hgr⟩:=hrel
  have Hgr:=Lib.hid hgr
  have Hhp:=Lib.hid hhp
  have Hxl:=Lib.hid hxl
  have Hxo:=Lib.hid hxo
  have hf:=Lib.frozen_of_heap hhp k
  by_cases hlt:k<n+3
  ·by_cases hkn:k<n
   ·have hkl:k<l.length:=by rw [← Hn.out];exact hkn
    obtain⟨g2,off,rfl,hb⟩:=Hbl.out wr hgr k hkl
    have hc:=heap_cell hhp ((hxo k (Nat.le_refl _)).trans (HO.out k hkl))
    have Hnew:=Lib.hid (fun u=>heap_set (k:=k) hhp u)
    have Hg2:=Lib.hid (fun u=>grown_set hgr k u)
    generalize (l[k].toNat:Int)=cz at *
    clear hhp hgr hxl hxo hkl
    go_wp2
    go_roundw
    case rel=>exact⟨k+1,xs.set k _,rfl,by go_num,by omega,by rw [List.length_set];exact Hxl.out,fun j hj=>by rw [List.getElem?_set_ne (by omega)];exact Hxo.out j (by omega),Hnew.out _,Hg2.out _⟩
    case measure=>simp [intOf];omega
   ·have hc:=heap_cell hhp ((hxo k (Nat.le_refl _)).trans (HO2.out k (by omega) hlt))
    have Hnew:=Lib.hid (fun u=>heap_set (k:=k) hhp u)
    have Hg2:=Lib.hid (fun u=>grown_set hgr k u)
    clear hhp hgr hxl hxo
    go_wp2
    go_roundw
    case rel=>exact⟨k+1,xs.set k _,rfl,by go_num,by omega,by rw [List.length_set];exact Hxl.out,fun j hj=>by rw [List.getElem?_set_ne (by omega)];exact Hxo.out j (by omega),Hnew.out _,Hg2.out _⟩
    case measure=>simp [intOf];omega
  ·clear hhp hgr hxl hxo hf
   go_wp2
   go_ret
   exact⟨rfl,Hgr.out⟩
end Go.Proofs.YtfchpchabdhcgaaGreat
namespace Go.Proofs.YtfchpchabdhcgaaGreat
open Go.RowKit
theorem info_word1:(Tryz.prog.info? 74).map (fun i=>(i.zero,i.size,i.bytes))=some (some (.int .u64 0),1,8):=by kernel_rfl
theorem jm_results {P:Program} {fn:Func} {p u:Tmp} {ty:TypeId} (h:fn.results=#[.cell p ty,.tmp u]) (tmps:Array Value) (w:World) (g:Nat) (t:TypeId) (cs:Array Value) (fr:Nat × Nat) (d:TypeDesc)
  (hp:tmps.getD p undef=.pointer (some ⟨g,0,none⟩)) (hg:w.heap[g]? =some (.cells cs t fr))
  (hu:P.underlying ty=some d) (hd:(match d with | .struct _ | .array _ _=>true | _=>false)=true) (hi:(P.info? ty).map (·.size)=some cs.size):
  (results fn tmps).run P w=.ok (.tuple #[.agg cs,tmps.getD u undef]) w:=by
 rw [results_cell_tmp h,hp]
 simp [asAddr,run_loadVar_row w g t ty cs fr d hg hu hd hi,Result.andThen]
theorem jm_row (w:World) (g:Nat) (cs:Array Value):Step (fun x=>x≠g) w (w.setRow g cs):=⟨rfl,rfl,rfl,by simp,fun b hb=>setRow_other _ _ _ _ hb⟩
theorem jm_below {w w1 w2:World} {o:Obj} (h:Below (w.alloc o).heap.size (w.alloc o) w1) (k:Step (·<w1.heap.size) w1 w2):Step (·<(w.alloc o).heap.size) (w.alloc o) w2:=
 (Step.of_below h).trans (k.imp (fun x hx=>Nat.lt_of_lt_of_le hx h.size))
theorem word_lb {w:World} {g:Nat} (h:w.cell? ⟨g,0,none⟩=some (.int .u64 0)):LB kWord (·=g) w (.slice (some ⟨g,0,none⟩) 1 1) [0]:=by
 refine⟨some ⟨g,0,none⟩,g,0,1,rfl,by decide,fun _=>rfl,⟨Nat.le_refl _,fun h=>by cases h⟩,fun _=>rfl,fun i x hx=> ?_⟩
 match i,hx with
 | 0,hx=>
  simp at hx;subst hx
  refine⟨[.int .u64 0],rfl,fun j u hu=> ?_⟩
  match j,hu with
  | 0,hu=>simp at hu;subst hu;exact h
  | j+1,hu=>simp at hu
 | i+1,hx=>simp at hx
theorem setCell_row1 {w:World} {b k:Nat} {cs:Array Value} {t:TypeId} {fr:Nat × Nat} (u:Value) (h:w.heap[b]? =some (.cells cs t fr)):(w.setCell ⟨b,k,none⟩ u).heap[b]? =some (.cells (cs.setIfInBounds k u) t fr):=by
 simp [World.setCell,Array.getElem?_modify,h]
theorem info_ints1:(Tryz.prog.info? 38).map (fun i=>(i.zero,i.size,i.bytes))=some (some (.slice none 0 0),1,24):=by kernel_rfl
theorem jcount_zero (w:World):Calls Tryz.prog 66 #[.int .i64 0] w fun e w'=>e=.returned (.int .i64 1)∧w'=w:=by
 go_enter Tryz.func66,Tryz.ntmps66
 go_wp2
 go_ret
 exact⟨rfl,rfl⟩
theorem jwords_zero (w:World):Calls Tryz.prog 67 #[.int .i64 0] w fun e w'=>e=.returned (.int .i64 1)∧w'=w:=by
 go_enter Tryz.func67,Tryz.ntmps67
 go_wp2
 go_loop [3] (fun i=>i=.int .i64 1) (fun _=>0)
 case atStart=>rfl
 case round=>
  subst hrel
  go_wp2
  go_ret
  exact⟨rfl,rfl⟩
theorem jmake_nil (w:World):Calls Tryz.prog 25 #[.slice none 0 0] w fun e w'=>∃ bv wv,e=.returned (.tuple #[.agg #[bv,wv,.int .i64 6],.int .i64 0])∧Below w.heap.size w w'∧
  LB kInts (fun b=>w.heap.size≤b∧b<w'.heap.size) w' bv [[]]∧LB kWord (fun b=>w.heap.size≤b∧b<w'.heap.size) w' wv [0]:=by
 have HSeen:=Lib.hid (fun w'=>jseenl_any w' (.slice none 0 0) [] (LB.nil _ _ _) (by decide))
 go_enter Tryz.func25,Tryz.ntmps25
 go_wp2_with fail
 refine(HSeen.out _).mono ?_
 rintro e w1 ⟨r,rfl,hr,hb1⟩
 obtain⟨ra,rc,rfl⟩:=hr.form
 have e0:(toInts (seenIx [])).length=0:=rfl
 rw [e0]
 clear e0 hr HSeen
 go_wp2_with fail
 refine(jcount_zero _).mono ?_
 rintro e _ ⟨rfl,rfl⟩
 go_wp2_with fail
 refine(jwords_zero _).mono ?_
 rintro e _ ⟨rfl,rfl⟩
 obtain⟨i0,hi,hz0,hz1,hz2⟩:=info_parts info_word1
 rename World=>w1
 have hbase:=hb1.size
 go_wp2_with (at_make;refine wpList_make_full _ rfl (.tmp 22) (.tmp 22) 31 rfl w1.heap.size 74 i0 _ 1 Tryz.underlying31 hi hz0 hz1 .i64 .i64 1 1 1 rfl rfl rfl rfl (by rw [hz2];decide) (by unfold maxLen;decide) (Nat.le_refl _) ?_)
 intro w2 ho2 hg2
 have hlt2:w1.heap.size<w2.heap.size:=(World.ownsRow.lt ho2 _ rfl).2
 have TW:Hid (LB kWord (·=w1.heap.size) w2 (.slice (some ⟨w1.heap.size,0,none⟩) 1 1) [0]):=Lib.hid (word_lb (World.ownsRow.cells ho2 (g:=w1.heap.size) rfl 0 _ (by simp [madeCells,Value.cells])))
 have S2:Hid (Step (·<w1.heap.size) w1 w2):=Lib.hid (Step.of_grown hg2 (fun b hb=>⟨hb,by simp⟩))
 have HB1:=Lib.hid hb1
 have hz2:=S2.out.size
 clear ho2 hg2 hb1 hi hz0 hz1
 go_upto_region 6 with fail
 have FT:=Lib.hid (heap_alloc_new w2 (.cells #[.slice none 0 0,.slice (some ⟨w1.heap.size,0,none⟩) 1 1,.int .i64 6] 35 (0,0)))
 have S3:=Lib.hid (S2.out.alloc (fun b hb=>by have hb:b<w1.heap.size:=hb;omega) (.cells #[.slice none 0 0,.slice (some ⟨w1.heap.size,0,none⟩) 1 1,.int .i64 6] 35 (0,0)))
 have TW3:=Lib.hid (TW.out.keeps (fun b hb=>heap_alloc_old w2 (.cells #[.slice none 0 0,.slice (some ⟨w1.heap.size,0,none⟩) 1 1,.int .i64 6] 35 (0,0)) (by have hb:b=w1.heap.size:=hb;omega)))
 have hz3:(w2.alloc (.cells #[.slice none 0 0,.slice (some ⟨w1.heap.size,0,none⟩) 1 1,.int .i64 6] 35 (0,0))).heap.size=w2.heap.size+1:=by simp
 have hz3':w2.heap.size<(w2.alloc (.cells #[.slice none 0 0,.slice (some ⟨w1.heap.size,0,none⟩) 1 1,.int .i64 6] 35 (0,0))).heap.size:=by omega
 clear hz3 S2 TW
 generalize w2.alloc (.cells #[.slice none 0 0,.slice (some ⟨w1.heap.size,0,none⟩) 1 1,.int .i64 6] 35 (0,0))=w3 at FT S3 TW3 hz3' ⊢
 generalize w2.heap.size=tb at *
 go_wp2_with fail
 go_loopw [7,8,9] (fun b ch k wr=>∃ n:Nat,b=.int .i64 n∧n≤1∧∃ bv,wr.heap[tb]? =some (.cells #[bv,.slice (some ⟨w1.heap.size,0,none⟩) 1 1,.int .i64 6] 35 (0,0))∧OwnK 38 kInts w3.heap.size (·<w3.heap.size) wr bv (List.replicate n [])∧Step (fun x=>x<w3.heap.size∧x≠tb) w3 wr) (fun b _ _ _=>1-(intOf b).toNat)
 case atStart=>exact⟨0,rfl,by omega,_,FT.out,OwnK.nil _ _ _ _ _,Step.refl _ _⟩
 case round=>
  obtain⟨n,rfl,hn,bv,hf,ho,hs⟩:=hrel
  obtain⟨oa,oc,rfl⟩:=ho.form
  rw [List.length_replicate]at ho hf
  have HF:=Lib.hid hf
  have HO:=Lib.hid ho
  have HS:=Lib.hid hs
  have hzr:=hs.size
  clear hf ho hs
  by_cases hlt:n<1
  ·obtain rfl:n=0:=by omega
   have cI:wr.cell? ⟨tb,0,none⟩=some (.slice oa 0 oc):=by rw [Lib.cell_of_heap HF.out];rfl
   have htb:tb<wr.heap.size:=by omega
   go_wp2_with fail
   go_loop [8,9] (fun ch i=>ch=.slice none 0 0∧i=.int .i64 0) (fun _ _=>0)
   case atStart=>exact⟨rfl,rfl⟩
   case round=>
    obtain⟨rfl,rfl⟩:=hrel
    have OA:=Lib.hid (HO.out.alloc (.cells #[.slice none 0 0] 38 (0,0)))
    have NA:=Lib.hid (heap_alloc_new wr (.cells #[.slice none 0 0] 38 (0,0)))
    have XA:=Lib.hid ((heap_alloc_old wr (.cells #[.slice none 0 0] 38 (0,0)) htb).trans HF.out)
    have HA:=Lib.hid (HS.out.alloc (fun b hb=>by have:=hb.1;omega) (.cells #[.slice none 0 0] 38 (0,0)))
    have hza:wr.heap.size<(wr.alloc (.cells #[.slice none 0 0] 38 (0,0))).heap.size:=by simp
    go_wp2_with (at_builtin;refine wpList_appendK (K:=kInts) (v:=.slice oa 0 oc) (e:=38) (B:=w3.heap.size) (E:=(·<w3.heap.size)) 30 (.slice none 0 0) 24 Tryz.underlying30 info_ints1 rfl (by decide) rfl (.tmp 57) (.tmp 59) rfl 0 (by rfl) rfl OA.out (fun b hb=>by have hb:b<w3.heap.size:=hb;omega) wr.heap.size ([]:List Int) [.slice none 0 0] rfl (row_one _ _ _ ((Lib.cell_of_heap NA.out 0).trans rfl)) (fun u hu=>by simp at hu;subst hu;rfl) ⟨_,rfl,LB.nil _ _ _⟩ (by decide) (by decide) (by omega) ?_)
    intro g c w9 ho9 hs9 hg9
    have hno:=OA.out.notE
    have S9:Step (fun x=>x<w3.heap.size) (wr.alloc (.cells #[.slice none 0 0] 38 (0,0))) w9:=hs9.imp (fun x hx=>⟨by have hx:x<w3.heap.size:=hx;omega,fun e=>hno x e hx⟩)
    have X9:=Lib.hid ((S9.block tb hz3').trans XA.out)
    have cI:w9.cell? ⟨tb,0,none⟩=some (.slice oa 0 oc):=by rw [Lib.cell_of_heap X9.out];rfl
    have fI:w9.frozen? ⟨tb,0,none⟩=false:=Lib.frozen_of_heap X9.out 0
    have Hfin:=Lib.hid (ho9.step (setCell_step w9 tb 0 (.slice (some ⟨g,0,none⟩) (0+1) c)) (fun b _ hb e=>hb (by rw [e];exact hz3')))
    have X10:=Lib.hid (setCell_row1 (k:=0) (.slice (some ⟨g,0,none⟩) (0+1) c) X9.out)
    have S10:=Lib.hid ((HA.out.trans (S9.imp (fun x hx=>hx.1))).trans ((setCell_step w9 tb 0 (.slice (some ⟨g,0,none⟩) (0+1) c)).imp (fun x hx=>hx.2)))
    clear ho9 hs9 hg9 S9 hno
    go_wp2_with fail
    go_roundw
    case rel=>exact⟨1,by go_num,by omega,_,X10.out,Hfin.out,S10.out⟩
    case measure=>simp [intOf]
  ·obtain rfl:n=1:=by omega
   have SA:Hid (Step (·<(w.alloc (.cells #[.slice none 0 0,.slice none 0 0,.int .i64 0] 35 (0,0))).heap.size) (w.alloc (.cells #[.slice none 0 0,.slice none 0 0,.int .i64 0] 35 (0,0))) wr):=Lib.hid ((jm_below HB1.out S3.out).trans (HS.out.imp (fun x hx=>by have hx:x<(w.alloc (.cells #[.slice none 0 0,.slice none 0 0,.int .i64 0] 35 (0,0))).heap.size:=hx;have:=S3.out.size;exact⟨by omega,by show x≠tb;omega⟩)))
   have hw0:(w.alloc (.cells #[.slice none 0 0,.slice none 0 0,.int .i64 0] 35 (0,0))).heap.size=w.heap.size+1:=by simp
   have FM:=Lib.hid ((SA.out.block w.heap.size (by show _<_;rw [hw0];omega)).trans (heap_alloc_new w (.cells #[.slice none 0 0,.slice none 0 0,.int .i64 0] 35 (0,0))))
   have hwb:w.heap.size<w1.heap.size:=by omega
   have LBb:Hid (LB kInts (fun b=>w.heap.size<b∧b<wr.heap.size) wr (.slice oa 1 oc) [[]]):=Lib.hid (HO.out.lb.imp (fun b hb=>⟨by have:=hb.2;have:=S3.out.size;omega,hb.1⟩))
   have LBw:Hid (LB kWord (fun b=>w.heap.size<b∧b<wr.heap.size) wr (.slice (some ⟨w1.heap.size,0,none⟩) 1 1) [0]):=Lib.hid ((TW3.out.keeps (fun b hb=>HS.out.block b ⟨by have hb:b=w1.heap.size:=hb;omega,by have hb:b=w1.heap.size:=hb;omega⟩)).imp (fun b hb=>⟨by have hb:b=w1.heap.size:=hb;omega,by have hb:b=w1.heap.size:=hb;omega⟩))
   clear HO TW3 HS
   go_wp2_with fail
   go_loop [10] (fun i=>i=.int .i64 0) (fun _=>0)
   case atStart=>rfl
   case round=>
    subst hrel
    go_wp2_with (first | refine wpList_load_row rfl 35 (.tmp 6) rfl tb rfl _ _ _ _ HF.out Tryz.underlying35 rfl (by kernel_rfl) ?_ | refine wpList_store_row rfl 35 (.tmp 2) (.tmp 82) rfl w.heap.size #[.slice oa 1 oc,.slice (some ⟨w1.heap.size,0,none⟩) 1 1,.int .i64 6] rfl rfl _ _ FM.out (by kernel_rfl) rfl (by simp [Value.oneCell']) ?_)
    go_wp2_with (first | refine wpList_load_row rfl 35 (.tmp 6) rfl tb rfl _ _ _ _ HF.out Tryz.underlying35 rfl (by kernel_rfl) ?_ | refine wpList_store_row rfl 35 (.tmp 2) (.tmp 82) rfl w.heap.size #[.slice oa 1 oc,.slice (some ⟨w1.heap.size,0,none⟩) 1 1,.int .i64 6] rfl rfl _ _ FM.out (by kernel_rfl) rfl (by simp [Value.oneCell']) ?_)
    go_wp2_with fail
    have FR:=Lib.hid (setRow_heap _ w.heap.size _ #[.slice oa 1 oc,.slice (some ⟨w1.heap.size,0,none⟩) 1 1,.int .i64 6] _ _ FM.out)
    refine bodyPost_ret (jm_results rfl _ _ w.heap.size _ _ _ _ rfl FR.out Tryz.underlying35 rfl (by kernel_rfl)) rfl ?_
    refine⟨.slice oa 1 oc,.slice (some ⟨w1.heap.size,0,none⟩) 1 1,rfl,?_,?_,?_⟩
    ·exact(((Step.of_below ((Below.refl w.heap.size w).alloc (Nat.le_refl _) _)).trans (SA.out.imp (fun x hx=>by have hx:x<w.heap.size:=hx;show _<_;rw [hw0];omega))).trans ((jm_row wr w.heap.size #[.slice oa 1 oc,.slice (some ⟨w1.heap.size,0,none⟩) 1 1,.int .i64 6]).imp (fun x hx=>Nat.ne_of_lt hx))).below
    ·exact(LBb.out.keeps (fun b hb=>setRow_other _ _ _ _ (Nat.ne_of_gt hb.1))).imp (fun b hb=>⟨by have:=hb.1;omega,by have:=hb.2;simpa using this⟩)
    ·exact(LBw.out.keeps (fun b hb=>setRow_other _ _ _ _ (Nat.ne_of_gt hb.1))).imp (fun b hb=>⟨by have:=hb.1;omega,by have:=hb.2;simpa using this⟩)
end Go.Proofs.YtfchpchabdhcgaaGreat
namespace Go.Proofs.YtfchpchabdhcgaaGreat
open Go.RowKit
def leastL:ImgL:=⟨[],0,[⟨0,1,[],5⟩],[],[],[],[[]],[0],6,[],[],[],[],[],0⟩
def leastV (s b c:Value):ImgV:=⟨s,.slice none 0 0,.slice none 0 0,.slice none 0 0,b,c,.slice none 0 0,.slice none 0 0,.slice none 0 0,.slice none 0 0,.slice none 0 0⟩
theorem may_least:mayL leastL=0:=by kernel_rfl
theorem may_rel:mayL {leastL with relocs:=[⟨0,1,-1,0⟩]}=94:=by kernel_rfl
theorem may_empty:mayL ⟨[],0,[],[],[],[],[],[],0,[],[],[],[],[],0⟩=91:=by kernel_rfl
theorem seg_lb {w:World} {B g:Nat} (h1:g<w.heap.size) (h0:B≤g) (h:w.heap[g]? =some (.cells #[.int .i64 0,.int .i64 1,.slice none 0 0,.int .i64 5] 57 (0,0))):
  LB kSeg (fun b=>B≤b∧b<w.heap.size) w (.slice (some ⟨g,0,none⟩) 1 1) [⟨0,1,[],5⟩]:=by
 refine⟨some ⟨g,0,none⟩,g,0,1,rfl,by decide,fun _=>rfl,⟨Nat.le_refl _,fun h=>by cases h⟩,fun _=>⟨h0,h1⟩,fun i x hx=> ?_⟩
 match i,hx with
 | 0,hx=>
  simp at hx;subst hx
  refine⟨[.int .i64 0,.int .i64 1,.slice none 0 0,.int .i64 5],⟨_,rfl,LB.nil _ _ _⟩,fun j u hu=> ?_⟩
  rw [Lib.cell_of_heap h]
  simpa using hu
 | i+1,hx=>simp at hx
theorem ileast_any (w:World):Calls Tryz.prog 11 #[] w fun e w'=>∃ s b c,e=.returned (.agg (imgCells (leastV s b c) leastL))∧Below w.heap.size w w'∧ImgM (fun b=>w.heap.size≤b∧b<w'.heap.size) w' (leastV s b c) leastL:=by
 go_enter Tryz.func11,Tryz.ntmps11
 go_wp2_with fail
 refine(jmake_nil _).mono ?_
 rintro e w1 ⟨bv,wv,rfl,hb,hlb,hlw⟩
 obtain⟨ba,bc,rfl⟩:=hlb.form
 obtain⟨wa,wc,rfl⟩:=hlw.form
 simp only [List.length_cons,List.length_nil,Nat.zero_add]at*
 have HB:=Lib.hid hb
 have HLb:=Lib.hid hlb
 have HLw:=Lib.hid hlw
 clear hb hlb hlw
 have hz0:=HB.out.size
 rw [World.size_alloc]at hz0
 have B1:Hid (Below w.heap.size w (w1.alloc (.cells #[.slice ba 1 bc,.slice wa 1 wc,.int .i64 6] 35 (0,0)))):=Lib.hid ((((Below.refl w.heap.size w).alloc (Nat.le_refl _) _).trans (HB.out.mono (by rw [World.size_alloc];omega))).alloc (by omega) _)
 have FM:=Lib.hid ((heap_alloc_old w1 (.cells #[.slice ba 1 bc,.slice wa 1 wc,.int .i64 6] 35 (0,0)) (r:=w.heap.size) (by omega)).trans ((HB.out.block w.heap.size (by rw [World.size_alloc];omega)).trans (heap_alloc_new w (.cells #[.string ⟨#[]⟩,.int .i64 0,.slice none 0 0,.slice none 0 0,.slice none 0 0,.slice none 0 0,.slice none 0 0,.slice none 0 0,.int .i64 0,.slice none 0 0,.slice none 0 0,.slice none 0 0,.slice none 0 0,.slice none 0 0,.int .i64 0] 40 (0,0)))))
 have FT:=Lib.hid (heap_alloc_new w1 (.cells #[.slice ba 1 bc,.slice wa 1 wc,.int .i64 6] 35 (0,0)))
 have Lb:=Lib.hid ((HLb.out.keeps (fun b hb=>heap_alloc_old w1 (.cells #[.slice ba 1 bc,.slice wa 1 wc,.int .i64 6] 35 (0,0)) hb.2)).imp (S':=fun b=>w.heap.size<b∧b<(w1.alloc (.cells #[.slice ba 1 bc,.slice wa 1 wc,.int .i64 6] 35 (0,0))).heap.size) (fun b hb=>⟨by have:=hb.1;rw [World.size_alloc]at this;omega,by have:=hb.2;rw [World.size_alloc];omega⟩))
 have Lw:=Lib.hid ((HLw.out.keeps (fun b hb=>heap_alloc_old w1 (.cells #[.slice ba 1 bc,.slice wa 1 wc,.int .i64 6] 35 (0,0)) hb.2)).imp (S':=fun b=>w.heap.size<b∧b<(w1.alloc (.cells #[.slice ba 1 bc,.slice wa 1 wc,.int .i64 6] 35 (0,0))).heap.size) (fun b hb=>⟨by have:=hb.1;rw [World.size_alloc]at this;omega,by have:=hb.2;rw [World.size_alloc];omega⟩))
 have hz1:w1.heap.size<(w1.alloc (.cells #[.slice ba 1 bc,.slice wa 1 wc,.int .i64 6] 35 (0,0))).heap.size:=by simp
 clear HB HLb HLw
 go_upto_region 2 with fail
 generalize w1.alloc (.cells #[.slice ba 1 bc,.slice wa 1 wc,.int .i64 6] 35 (0,0))=w2 at *
 generalize w1.heap.size=tb at *
 have FT2:=Lib.hid ((heap_alloc_old w2 (.cells #[.int .i64 0,.int .i64 1,.slice none 0 0,.int .i64 5] 57 (0,0)) hz1).trans FT.out)
 have FM2:=Lib.hid ((heap_alloc_old w2 (.cells #[.int .i64 0,.int .i64 1,.slice none 0 0,.int .i64 5] 57 (0,0)) (r:=w.heap.size) (by omega)).trans FM.out)
 have FS:=Lib.hid (heap_alloc_new w2 (.cells #[.int .i64 0,.int .i64 1,.slice none 0 0,.int .i64 5] 57 (0,0)))
 have B2:=Lib.hid (B1.out.alloc (by omega) (.cells #[.int .i64 0,.int .i64 1,.slice none 0 0,.int .i64 5] 57 (0,0)))
 have Lb2:=Lib.hid (Lb.out.keeps (fun b hb=>heap_alloc_old w2 (.cells #[.int .i64 0,.int .i64 1,.slice none 0 0,.int .i64 5] 57 (0,0)) hb.2))
 have Lw2:=Lib.hid (Lw.out.keeps (fun b hb=>heap_alloc_old w2 (.cells #[.int .i64 0,.int .i64 1,.slice none 0 0,.int .i64 5] 57 (0,0)) hb.2))
 have hz2:w2.heap.size<(w2.alloc (.cells #[.int .i64 0,.int .i64 1,.slice none 0 0,.int .i64 5] 57 (0,0))).heap.size:=by simp
 have hz2':=hz2
 clear FT FM B1 Lb Lw
 go_wp2_with (first | refine wpList_load_row rfl 35 (.tmp 1) rfl tb rfl _ _ _ _ FT2.out Tryz.underlying35 rfl (by kernel_rfl) ?_ | refine wpList_store_row rfl 40 (.tmp 0) (.tmp 10) rfl w.heap.size #[.string ⟨#[]⟩,.int .i64 0,.slice (some ⟨w2.heap.size,0,none⟩) 1 1,.slice none 0 0,.slice none 0 0,.slice none 0 0,.slice ba 1 bc,.slice wa 1 wc,.int .i64 6,.slice none 0 0,.slice none 0 0,.slice none 0 0,.slice none 0 0,.slice none 0 0,.int .i64 0] rfl rfl _ _ FM2.out (by kernel_rfl) rfl (by simp [Value.oneCell']) ?_)
 go_wp2_with (first | refine wpList_load_row rfl 35 (.tmp 1) rfl tb rfl _ _ _ _ FT2.out Tryz.underlying35 rfl (by kernel_rfl) ?_ | refine wpList_store_row rfl 40 (.tmp 0) (.tmp 10) rfl w.heap.size #[.string ⟨#[]⟩,.int .i64 0,.slice (some ⟨w2.heap.size,0,none⟩) 1 1,.slice none 0 0,.slice none 0 0,.slice none 0 0,.slice ba 1 bc,.slice wa 1 wc,.int .i64 6,.slice none 0 0,.slice none 0 0,.slice none 0 0,.slice none 0 0,.slice none 0 0,.int .i64 0] rfl rfl _ _ FM2.out (by kernel_rfl) rfl (by simp [Value.oneCell']) ?_)
 go_wp2_with fail
 generalize w2.alloc (.cells #[.int .i64 0,.int .i64 1,.slice none 0 0,.int .i64 5] 57 (0,0))=w3 at *
 have FR:=Lib.hid (setRow_heap _ w.heap.size _ #[.string ⟨#[]⟩,.int .i64 0,.slice (some ⟨w2.heap.size,0,none⟩) 1 1,.slice none 0 0,.slice none 0 0,.slice none 0 0,.slice ba 1 bc,.slice wa 1 wc,.int .i64 6,.slice none 0 0,.slice none 0 0,.slice none 0 0,.slice none 0 0,.slice none 0 0,.int .i64 0] _ _ FM2.out)
 refine bodyPost_ret (results_cell_row rfl _ _ w.heap.size _ _ _ _ rfl FR.out Tryz.underlying40 rfl (by kernel_rfl)) rfl ?_
 have hsz:(w3.setRow w.heap.size #[.string ⟨#[]⟩,.int .i64 0,.slice (some ⟨w2.heap.size,0,none⟩) 1 1,.slice none 0 0,.slice none 0 0,.slice none 0 0,.slice ba 1 bc,.slice wa 1 wc,.int .i64 6,.slice none 0 0,.slice none 0 0,.slice none 0 0,.slice none 0 0,.slice none 0 0,.int .i64 0]).heap.size=w3.heap.size:=by simp
 have hk:∀ b,w.heap.size<b→(w3.setRow w.heap.size #[.string ⟨#[]⟩,.int .i64 0,.slice (some ⟨w2.heap.size,0,none⟩) 1 1,.slice none 0 0,.slice none 0 0,.slice none 0 0,.slice ba 1 bc,.slice wa 1 wc,.int .i64 6,.slice none 0 0,.slice none 0 0,.slice none 0 0,.slice none 0 0,.slice none 0 0,.int .i64 0]).heap[b]? =w3.heap[b]? :=fun b hb=>setRow_other _ _ _ _ (Nat.ne_of_gt hb)
 refine⟨.slice (some ⟨w2.heap.size,0,none⟩) 1 1,.slice ba 1 bc,.slice wa 1 wc,rfl,((Step.of_below B2.out).trans ((jm_row w3 w.heap.size #[.string ⟨#[]⟩,.int .i64 0,.slice (some ⟨w2.heap.size,0,none⟩) 1 1,.slice none 0 0,.slice none 0 0,.slice none 0 0,.slice ba 1 bc,.slice wa 1 wc,.int .i64 6,.slice none 0 0,.slice none 0 0,.slice none 0 0,.slice none 0 0,.slice none 0 0,.int .i64 0]).imp (fun x hx=>Nat.ne_of_lt hx))).below,?_⟩
 exact
  {
   name:=Nat.zero_le _
   flags:=⟨by decide,by decide⟩
   segs:=seg_lb (hsz ▸ hz2') (by omega) ((hk _ (by omega)).trans FS.out)
   segsR:=fun s hs=>by simp [leastL]at hs;subst hs;exact⟨⟨by decide,by decide⟩,⟨by decide,by decide⟩,⟨by decide,by decide⟩⟩
   needed:=LB.nil _ _ _
   runPath:=LB.nil _ _ _
   syms:=LB.nil _ _ _
   buckets:=(Lb2.out.keeps (fun b hb=>hk b hb.1)).imp (fun b hb=>⟨Nat.le_of_lt hb.1,by rw [hsz];have:=hb.2;omega⟩)
   bucketsL:=fun c hc=>by simp [leastL]at hc;subst hc;decide
   words:=(Lw2.out.keeps (fun b hb=>hk b hb.1)).imp (fun b hb=>⟨Nat.le_of_lt hb.1,by rw [hsz];have:=hb.2;omega⟩)
   wordsR:=fun x hx=>by simp [leastL]at hx;subst hx;decide
   shift:=⟨by decide,by decide⟩
   relocs:=LB.nil _ _ _
   relocsR:=fun s hs=>by simp [leastL]at hs
   slots:=LB.nil _ _ _
   slotsR:=fun s hs=>by simp [leastL]at hs
   init:=LB.nil _ _ _
   initR:=fun s hs=>by simp [leastL]at hs
   fini:=LB.nil _ _ _
   finiR:=fun s hs=>by simp [leastL]at hs
   tls:=LB.nil _ _ _
   tlsSize:=⟨by decide,by decide⟩}
end Go.Proofs.YtfchpchabdhcgaaGreat
namespace Go.Proofs.YtfchpchabdhcgaaGreat
open Go.RowKit
def relV (s b c r:Value):ImgV:=⟨s,.slice none 0 0,.slice none 0 0,.slice none 0 0,b,c,r,.slice none 0 0,.slice none 0 0,.slice none 0 0,.slice none 0 0⟩
def relImg:ImgL:={leastL with relocs:=[⟨0,1,-1,0⟩]}
def noneImg:ImgL:=⟨[],0,[],[],[],[],[],[],0,[],[],[],[],[],0⟩
def noneV:ImgV:=⟨.slice none 0 0,.slice none 0 0,.slice none 0 0,.slice none 0 0,.slice none 0 0,.slice none 0 0,.slice none 0 0,.slice none 0 0,.slice none 0 0,.slice none 0 0,.slice none 0 0⟩
theorem imgM_none (S:Nat→Prop) (w:World):ImgM S w noneV noneImg where
 name:=Nat.zero_le _
 flags:=⟨by decide,by decide⟩
 segs:=LB.nil _ _ _
 segsR:=fun s hs=>(by cases hs)
 needed:=LB.nil _ _ _
 runPath:=LB.nil _ _ _
 syms:=LB.nil _ _ _
 buckets:=LB.nil _ _ _
 bucketsL:=fun s hs=>(by cases hs)
 words:=LB.nil _ _ _
 wordsR:=fun s hs=>(by cases hs)
 shift:=⟨by decide,by decide⟩
 relocs:=LB.nil _ _ _
 relocsR:=fun s hs=>(by cases hs)
 slots:=LB.nil _ _ _
 slotsR:=fun s hs=>(by cases hs)
 init:=LB.nil _ _ _
 initR:=fun s hs=>(by cases hs)
 fini:=LB.nil _ _ _
 finiR:=fun s hs=>(by cases hs)
 tls:=LB.nil _ _ _
 tlsSize:=⟨by decide,by decide⟩
theorem rel_lb {w:World} {g:Nat} (h1:g<w.heap.size) (h:w.heap[g]? =some (.cells #[.int .i64 0,.int .i64 1,.int .i64 (-1),.int .i64 0] 53 (0,0))):
  LB kRel (·<w.heap.size) w (.slice (some ⟨g,0,none⟩) 1 1) [⟨0,1,-1,0⟩]:=by
 refine⟨some ⟨g,0,none⟩,g,0,1,rfl,by decide,fun _=>rfl,⟨Nat.le_refl _,fun h=>by cases h⟩,fun _=>h1,fun i x hx=> ?_⟩
 match i,hx with
 | 0,hx=>
  simp at hx;subst hx
  refine⟨[.int .i64 0,.int .i64 1,.int .i64 (-1),.int .i64 0],rfl,fun j u hu=> ?_⟩
  rw [Lib.cell_of_heap h]
  simpa using hu
 | i+1,hx=>simp at hx
theorem rel_img {S:Nat→Prop} {w:World} {s b c r:Value} (h:ImgM S w (leastV s b c) leastL) (hr:LB kRel S w r [⟨0,1,-1,0⟩]):ImgM S w (relV s b c r) relImg:=
 ⟨h.name,h.flags,h.segs,h.segsR,h.needed,h.runPath,h.syms,h.buckets,h.bucketsL,h.words,h.wordsR,h.shift,hr,fun x hx=>by
  have hx:x∈[(⟨0,1,-1,0⟩:RelL)]:=hx
  simp at hx;subst hx;exact⟨⟨by decide,by decide⟩,⟨by decide,by decide⟩,⟨by decide,by decide⟩⟩,h.slots,h.slotsR,h.init,h.initR,h.fini,h.finiR,h.tls,h.tlsSize⟩
theorem enc_least (w:World) (sa ba ca:Option Addr) (sc bc cc:Nat) (h:ImgM (·<w.heap.size) w (leastV (.slice sa 1 sc) (.slice ba 1 bc) (.slice ca 1 cc)) leastL):
  Calls Tryz.prog 12 #[.agg #[.string ⟨#[]⟩,.int .i64 0,.slice sa 1 sc,.slice none 0 0,.slice none 0 0,.slice none 0 0,.slice ba 1 bc,.slice ca 1 cc,.int .i64 6,.slice none 0 0,.slice none 0 0,.slice none 0 0,.slice none 0 0,.slice none 0 0,.int .i64 0]] w fun e w'=>
   ∃ ra n rc,e=.returned (.tuple #[.slice ra n rc,.int .i64 0])∧Below w.heap.size w w'∧LB kByte (·<w'.heap.size) w' (.slice ra n rc) (formL leastL):=by
 refine(iencode_any w _ _ h).mono ?_
 rintro e w' ⟨r,rfl,hb,-,hr⟩
 have HR:=hr may_least
 obtain⟨ra,rc,rfl⟩:=HR.form
 exact⟨ra,_,rc,by rw [may_least],hb,HR.lb.imp (fun b hb=>hb.1)⟩
theorem may_of (w:World) (v:ImgV) (im:ImgL) (n:Int) (h:ImgM (·<w.heap.size) w v im) (hn:mayL im=n):
  Calls Tryz.prog 13 #[.agg (imgCells v im)] w fun e w'=>e=.returned (.int .i64 n)∧Below w.heap.size w w':=by
 subst hn;exact imay_any w v im h
theorem awake_of (HDec:∀ (w:World) (bv:Value),LB kByte (·<w.heap.size) w bv (formL leastL)→0<w.heap.size→Calls Tryz.prog 6 #[bv] w fun e w'=>∃ v,e=.returned (.tuple #[.agg (imgCells v leastL),.int .i64 0])∧Below w.heap.size w w'∧ImgM (fun b=>w.heap.size≤b∧b<w'.heap.size) w' v leastL)
  (w:World):Calls Tryz.prog 4 #[] w fun e w'=>e=.returned (.bool true)∧Below w.heap.size w w':=by
 have HD:=Lib.hid HDec
 clear HDec
 go_enter Tryz.func4,Tryz.ntmps4
 go_wp2_with fail
 refine(ileast_any _).mono ?_
 rintro e w1 ⟨s,b,c,rfl,hb1,hm1⟩
 obtain⟨sa,sc,hs⟩:=hm1.segs.form
 obtain⟨ba,bc,hb⟩:=hm1.buckets.form
 obtain⟨ca,cc,hc⟩:=hm1.words.form
 replace hs:s=.slice sa 1 sc:=hs
 replace hb:b=.slice ba 1 bc:=hb
 replace hc:c=.slice ca 1 cc:=hc
 subst hs hb hc
 have hz1:=hb1.size
 have B1:=Lib.hid (hb1.alloc (by omega) (.cells #[.string ⟨#[]⟩,.int .i64 0,.slice sa 1 sc,.slice none 0 0,.slice none 0 0,.slice none 0 0,.slice ba 1 bc,.slice ca 1 cc,.int .i64 6,.slice none 0 0,.slice none 0 0,.slice none 0 0,.slice none 0 0,.slice none 0 0,.int .i64 0] 40 (0,0)))
 have M1:=Lib.hid ((hm1.imp (S':=(·<w1.heap.size)) (fun b hb=>hb.2)).keeps (fun b hb=>heap_alloc_old w1 (.cells #[.string ⟨#[]⟩,.int .i64 0,.slice sa 1 sc,.slice none 0 0,.slice none 0 0,.slice none 0 0,.slice ba 1 bc,.slice ca 1 cc,.int .i64 6,.slice none 0 0,.slice none 0 0,.slice none 0 0,.slice none 0 0,.slice none 0 0,.int .i64 0] 40 (0,0)) hb))
 have F1:=Lib.hid (heap_alloc_new w1 (.cells #[.string ⟨#[]⟩,.int .i64 0,.slice sa 1 sc,.slice none 0 0,.slice none 0 0,.slice none 0 0,.slice ba 1 bc,.slice ca 1 cc,.int .i64 6,.slice none 0 0,.slice none 0 0,.slice none 0 0,.slice none 0 0,.slice none 0 0,.int .i64 0] 40 (0,0)))
 have hz2:w1.heap.size<(w1.alloc (.cells #[.string ⟨#[]⟩,.int .i64 0,.slice sa 1 sc,.slice none 0 0,.slice none 0 0,.slice none 0 0,.slice ba 1 bc,.slice ca 1 cc,.int .i64 6,.slice none 0 0,.slice none 0 0,.slice none 0 0,.slice none 0 0,.slice none 0 0,.int .i64 0] 40 (0,0))).heap.size:=by simp
 clear hm1 hb1
 simp only [imgCells,leastV,leastL]
 have HE:=Lib.hid (enc_least _ _ _ _ _ _ _ (M1.out.imp (fun b hb=>Nat.lt_trans hb hz2)))
 go_upto_region 2 with fail
 generalize w1.alloc (.cells #[.string ⟨#[]⟩,.int .i64 0,.slice sa 1 sc,.slice none 0 0,.slice none 0 0,.slice none 0 0,.slice ba 1 bc,.slice ca 1 cc,.int .i64 6,.slice none 0 0,.slice none 0 0,.slice none 0 0,.slice none 0 0,.slice none 0 0,.int .i64 0] 40 (0,0))=w2 at *
 generalize w1.heap.size=xb at *
 go_wp2_with (refine wpList_load_row rfl 40 (.tmp 1) rfl xb rfl _ _ _ _ F1.out Tryz.underlying40 rfl (by kernel_rfl) ?_)
 go_wp2_with fail
 refine HE.out.mono ?_
 rintro e w3 ⟨ra,N0,rc,rfl,hb3,hLB⟩
 have hz3:=hb3.size
 have HDd:=Lib.hid (HD.out w3 _ hLB (by omega))
 have B3:=Lib.hid (B1.out.trans (hb3.mono (by omega)))
 have M3:=Lib.hid (M1.out.keeps (fun b hb=>hb3.block b (by have hb:b<xb:=hb;omega)))
 have F3:=Lib.hid ((hb3.block xb hz2).trans F1.out)
 clear HE HD hLB hb3 B1 M1 F1
 go_wp2_with fail
 refine HDd.out.mono ?_
 rintro e w4 ⟨v,rfl,hb4,hm4⟩
 obtain⟨v1,v2,v3,v4,v5,v6,v7,v8,v9,v10,v11⟩:=v
 obtain⟨da,dc,e1⟩:=hm4.segs.form
 replace e1:v1=.slice da 1 dc:=e1
 obtain⟨a2,c2,e2⟩:=hm4.needed.form
 replace e2:v2=.slice a2 0 c2:=e2
 obtain⟨a3,c3,e3⟩:=hm4.runPath.form
 replace e3:v3=.slice a3 0 c3:=e3
 obtain⟨a4,c4,e4⟩:=hm4.syms.form
 replace e4:v4=.slice a4 0 c4:=e4
 obtain⟨a5,c5,e5⟩:=hm4.buckets.form
 replace e5:v5=.slice a5 1 c5:=e5
 obtain⟨a6,c6,e6⟩:=hm4.words.form
 replace e6:v6=.slice a6 1 c6:=e6
 obtain⟨a7,c7,e7⟩:=hm4.relocs.form
 replace e7:v7=.slice a7 0 c7:=e7
 obtain⟨a8,c8,e8⟩:=hm4.slots.form
 replace e8:v8=.slice a8 0 c8:=e8
 obtain⟨a9,c9,e9⟩:=hm4.init.form
 replace e9:v9=.slice a9 0 c9:=e9
 obtain⟨a10,c10,e10⟩:=hm4.fini.form
 replace e10:v10=.slice a10 0 c10:=e10
 obtain⟨a11,c11,e11⟩:=hm4.tls.form
 replace e11:v11=.slice a11 0 c11:=e11
 subst e1 e2 e3 e4 e5 e6 e7 e8 e9 e10 e11
 have hz4:=hb4.size
 obtain⟨sb,so,h0,h1,h2,h3⟩:∃ sb so,da=some ⟨sb,so,none⟩∧(w3.heap.size≤sb∧sb<w4.heap.size)∧w4.cell? ⟨sb,so+3,none⟩=some (.int .i64 5)∧1≤dc:=by
  obtain⟨aa,bb,off,cap,hv,hm,ha,hcap,hS,hc⟩:=hm4.segs
  cases hv
  obtain⟨row,⟨cc,hrow,_⟩,hcell⟩:=hc 0 _ rfl
  refine⟨bb,off,ha (by decide),hS (by decide),?_,hcap.1⟩
  have:=hcell 3 (.int .i64 5) (by rw [hrow];rfl)
  simpa using this
 subst h0
 have G3:=Lib.hid h2
 have B4:=Lib.hid (B3.out.trans (hb4.mono (by omega)))
 have M4:=Lib.hid (M3.out.keeps (fun b hb=>hb4.block b (by have hb:b<xb:=hb;omega)))
 have F4:=Lib.hid ((hb4.block xb (by omega)).trans F3.out)
 clear h2 hb4 hm4 HDd B3 M3 F3
 simp only [imgCells,leastL]
 go_upto_region 4 with fail
 have FJ:=Lib.hid (heap_alloc_new w4 (.cells #[.string ⟨#[]⟩,.int .i64 0,.slice (some ⟨sb,so,none⟩) 1 dc,.slice a2 0 c2,.slice a3 0 c3,.slice a4 0 c4,.slice a5 1 c5,.slice a6 1 c6,.int .i64 6,.slice a7 0 c7,.slice a8 0 c8,.slice a9 0 c9,.slice a10 0 c10,.slice a11 0 c11,.int .i64 0] 40 (0,0)))
 have F5:=Lib.hid ((heap_alloc_old w4 (.cells #[.string ⟨#[]⟩,.int .i64 0,.slice (some ⟨sb,so,none⟩) 1 dc,.slice a2 0 c2,.slice a3 0 c3,.slice a4 0 c4,.slice a5 1 c5,.slice a6 1 c6,.int .i64 6,.slice a7 0 c7,.slice a8 0 c8,.slice a9 0 c9,.slice a10 0 c10,.slice a11 0 c11,.int .i64 0] 40 (0,0)) (r:=xb) (by omega)).trans F4.out)
 have M5:=Lib.hid (M4.out.keeps (fun b hb=>heap_alloc_old w4 (.cells #[.string ⟨#[]⟩,.int .i64 0,.slice (some ⟨sb,so,none⟩) 1 dc,.slice a2 0 c2,.slice a3 0 c3,.slice a4 0 c4,.slice a5 1 c5,.slice a6 1 c6,.int .i64 6,.slice a7 0 c7,.slice a8 0 c8,.slice a9 0 c9,.slice a10 0 c10,.slice a11 0 c11,.int .i64 0] 40 (0,0)) (by have hb:b<xb:=hb;omega)))
 have G5:=Lib.hid ((World.cell?_alloc_lt w4 (.cells #[.string ⟨#[]⟩,.int .i64 0,.slice (some ⟨sb,so,none⟩) 1 dc,.slice a2 0 c2,.slice a3 0 c3,.slice a4 0 c4,.slice a5 1 c5,.slice a6 1 c6,.int .i64 6,.slice a7 0 c7,.slice a8 0 c8,.slice a9 0 c9,.slice a10 0 c10,.slice a11 0 c11,.int .i64 0] 40 (0,0)) _ h1.2).trans G3.out)
 have B5:=Lib.hid (B4.out.alloc (by omega) (.cells #[.string ⟨#[]⟩,.int .i64 0,.slice (some ⟨sb,so,none⟩) 1 dc,.slice a2 0 c2,.slice a3 0 c3,.slice a4 0 c4,.slice a5 1 c5,.slice a6 1 c6,.int .i64 6,.slice a7 0 c7,.slice a8 0 c8,.slice a9 0 c9,.slice a10 0 c10,.slice a11 0 c11,.int .i64 0] 40 (0,0)))
 have hz5:w4.heap.size<(w4.alloc (.cells #[.string ⟨#[]⟩,.int .i64 0,.slice (some ⟨sb,so,none⟩) 1 dc,.slice a2 0 c2,.slice a3 0 c3,.slice a4 0 c4,.slice a5 1 c5,.slice a6 1 c6,.int .i64 6,.slice a7 0 c7,.slice a8 0 c8,.slice a9 0 c9,.slice a10 0 c10,.slice a11 0 c11,.int .i64 0] 40 (0,0))).heap.size:=by simp
 have hj:xb<w4.heap.size:=by omega
 clear F4 M4 G3 B4
 generalize w4.alloc (.cells #[.string ⟨#[]⟩,.int .i64 0,.slice (some ⟨sb,so,none⟩) 1 dc,.slice a2 0 c2,.slice a3 0 c3,.slice a4 0 c4,.slice a5 1 c5,.slice a6 1 c6,.int .i64 6,.slice a7 0 c7,.slice a8 0 c8,.slice a9 0 c9,.slice a10 0 c10,.slice a11 0 c11,.int .i64 0] 40 (0,0))=w5 at *
 generalize w4.heap.size=jb at *
 have FJ6:=Lib.hid ((heap_alloc_old w5 (.cells #[.int .i64 0,.int .i64 1,.int .i64 (-1),.int .i64 0] 53 (0,0)) hz5).trans FJ.out)
 have F6:=Lib.hid ((heap_alloc_old w5 (.cells #[.int .i64 0,.int .i64 1,.int .i64 (-1),.int .i64 0] 53 (0,0)) (r:=xb) (by omega)).trans F5.out)
 have M6:=Lib.hid (M5.out.keeps (fun b hb=>heap_alloc_old w5 (.cells #[.int .i64 0,.int .i64 1,.int .i64 (-1),.int .i64 0] 53 (0,0)) (by have hb:b<xb:=hb;omega)))
 have G6:=Lib.hid ((World.cell?_alloc_lt w5 (.cells #[.int .i64 0,.int .i64 1,.int .i64 (-1),.int .i64 0] 53 (0,0)) ⟨sb,so+3,none⟩ (by show sb<_;omega)).trans G5.out)
 have B6:=Lib.hid (B5.out.alloc (by omega) (.cells #[.int .i64 0,.int .i64 1,.int .i64 (-1),.int .i64 0] 53 (0,0)))
 have FR6:=Lib.hid (heap_alloc_new w5 (.cells #[.int .i64 0,.int .i64 1,.int .i64 (-1),.int .i64 0] 53 (0,0)))
 have hz6:w5.heap.size<(w5.alloc (.cells #[.int .i64 0,.int .i64 1,.int .i64 (-1),.int .i64 0] 53 (0,0))).heap.size:=by simp
 have c9:(w5.alloc (.cells #[.int .i64 0,.int .i64 1,.int .i64 (-1),.int .i64 0] 53 (0,0))).cell? ⟨xb,9,none⟩=some (.slice none 0 0):=by rw [Lib.cell_of_heap F6.out];rfl
 have f9:(w5.alloc (.cells #[.int .i64 0,.int .i64 1,.int .i64 (-1),.int .i64 0] 53 (0,0))).frozen? ⟨xb,9,none⟩=false:=Lib.frozen_of_heap F6.out 9
 clear F5 M5 G5 B5 FJ
 go_upto_region 5 with fail
 have hrb:xb<w5.heap.size:=by omega
 have FX7:=Lib.hid (setCell_row1 (k:=9) (.slice (some ⟨w5.heap.size,0,none⟩) 1 1) F6.out)
 have hs9:=setCell_step (w5.alloc (.cells #[.int .i64 0,.int .i64 1,.int .i64 (-1),.int .i64 0] 53 (0,0))) xb 9 (.slice (some ⟨w5.heap.size,0,none⟩) 1 1)
 have FJ7:=Lib.hid ((hs9.block jb (by omega)).trans FJ6.out)
 have FR7:=Lib.hid ((hs9.block w5.heap.size (by omega)).trans FR6.out)
 have M7:=Lib.hid (M6.out.keeps (fun b hb=>hs9.block b (by have hb:b<xb:=hb;omega)))
 have G7:=Lib.hid ((hs9.cell (p:=⟨sb,so+3,none⟩) (by show sb≠xb;omega)).trans G6.out)
 have B7:=Lib.hid (((Step.of_below B6.out).trans (hs9.imp (fun x hx=>by have hx:x<w.heap.size:=hx;show x≠xb;omega))).below)
 have hz7:(w5.alloc (.cells #[.int .i64 0,.int .i64 1,.int .i64 (-1),.int .i64 0] 53 (0,0))).heap.size=((w5.alloc (.cells #[.int .i64 0,.int .i64 1,.int .i64 (-1),.int .i64 0] 53 (0,0))).setCell ⟨xb,9,none⟩ (.slice (some ⟨w5.heap.size,0,none⟩) 1 1)).heap.size:=by simp
 rw [hz7]at hz6
 clear c9 f9 hs9 F6 FJ6 FR6 M6 G6 B6 hz7
 generalize (w5.alloc (.cells #[.int .i64 0,.int .i64 1,.int .i64 (-1),.int .i64 0] 53 (0,0))).setCell ⟨xb,9,none⟩ (.slice (some ⟨w5.heap.size,0,none⟩) 1 1)=w7 at *
 generalize w5.heap.size=rb at *
 have HY:=Lib.hid (may_of w7 noneV noneImg 91 (imgM_none _ _) may_empty)
 go_wp2_with fail
 refine HY.out.mono ?_
 rintro e w8 ⟨rfl,hb8⟩
 have hz8:=hb8.size
 have FX8:=Lib.hid ((hb8.block xb (by omega)).trans FX7.out)
 have FJ8:=Lib.hid ((hb8.block jb (by omega)).trans FJ7.out)
 have FR8:=Lib.hid ((hb8.block rb (by omega)).trans FR7.out)
 have M8:=Lib.hid (M7.out.keeps (fun b hb=>hb8.block b (by have hb:b<xb:=hb;omega)))
 have G8:w8.cell? ⟨sb,so+3,none⟩=some (.int .i64 5):=(World.cell?_of_block (a:=⟨sb,so+3,none⟩) (hb8.block sb (by omega))).trans G7.out
 have B8:=Lib.hid (B7.out.trans (hb8.mono (by omega)))
 have cJ:w8.cell? ⟨jb,2,none⟩=some (.slice (some ⟨sb,so,none⟩) 1 dc):=by rw [Lib.cell_of_heap FJ8.out];rfl
 have x0:w8.cell? ⟨xb,0,none⟩=some (.string ⟨#[]⟩):=by rw [Lib.cell_of_heap FX8.out];rfl
 have x1:w8.cell? ⟨xb,1,none⟩=some (.int .i64 0):=by rw [Lib.cell_of_heap FX8.out];rfl
 have x2:w8.cell? ⟨xb,2,none⟩=some (.slice sa 1 sc):=by rw [Lib.cell_of_heap FX8.out];rfl
 have x3:w8.cell? ⟨xb,3,none⟩=some (.slice none 0 0):=by rw [Lib.cell_of_heap FX8.out];rfl
 have x4:w8.cell? ⟨xb,4,none⟩=some (.slice none 0 0):=by rw [Lib.cell_of_heap FX8.out];rfl
 have x5:w8.cell? ⟨xb,5,none⟩=some (.slice none 0 0):=by rw [Lib.cell_of_heap FX8.out];rfl
 have x6:w8.cell? ⟨xb,6,none⟩=some (.slice ba 1 bc):=by rw [Lib.cell_of_heap FX8.out];rfl
 have x7:w8.cell? ⟨xb,7,none⟩=some (.slice ca 1 cc):=by rw [Lib.cell_of_heap FX8.out];rfl
 have x8:w8.cell? ⟨xb,8,none⟩=some (.int .i64 6):=by rw [Lib.cell_of_heap FX8.out];rfl
 have x9:w8.cell? ⟨xb,9,none⟩=some (.slice (some ⟨rb,0,none⟩) 1 1):=by rw [Lib.cell_of_heap FX8.out];rfl
 have x10:w8.cell? ⟨xb,10,none⟩=some (.slice none 0 0):=by rw [Lib.cell_of_heap FX8.out];rfl
 have x11:w8.cell? ⟨xb,11,none⟩=some (.slice none 0 0):=by rw [Lib.cell_of_heap FX8.out];rfl
 have x12:w8.cell? ⟨xb,12,none⟩=some (.slice none 0 0):=by rw [Lib.cell_of_heap FX8.out];rfl
 have x13:w8.cell? ⟨xb,13,none⟩=some (.slice none 0 0):=by rw [Lib.cell_of_heap FX8.out];rfl
 have x14:w8.cell? ⟨xb,14,none⟩=some (.int .i64 0):=by rw [Lib.cell_of_heap FX8.out];rfl
 have HZ:=Lib.hid (may_of w8 (relV (.slice sa 1 sc) (.slice ba 1 bc) (.slice ca 1 cc) (.slice (some ⟨rb,0,none⟩) 1 1)) relImg 94 (rel_img (M8.out.imp (fun b hb=>by have hb:b<xb:=hb;show b<_;omega)) (rel_lb (by omega) FR8.out)) may_rel)
 clear HY hb8 FX7 FJ7 FR7 M7 G7 B7 FX8 FJ8 FR8 M8
 go_wp2_with fail
 refine HZ.out.mono ?_
 rintro e w9 ⟨rfl,hb9⟩
 have B9:=Lib.hid (B8.out.trans (hb9.mono (by omega)))
 clear HZ hb9
 go_wp2
 go_ret
 exact⟨rfl,B9.out⟩
end Go.Proofs.YtfchpchabdhcgaaGreat
namespace Go.Proofs.YtfchpchabdhcgaaGreat
open Go.RowKit
def DecSays:Prop:=∀ (w:World) (bv:Value) (l:List UInt8),LB kByte (·<w.heap.size) w bv l→l.length≤140737488355328→0<w.heap.size→
 Calls Tryz.prog 6 #[bv] w fun e w'=>∃ v im code,e=.returned (.tuple #[.agg (imgCells v im),.int .i64 code])∧Below w.heap.size w w'∧ImgM (fun b=>w.heap.size≤b∧b<w'.heap.size) w' v im∧
  (wholeP l=none→code=98)∧(∀ x,wholeP l=some x→mayL x=0→im=x∧code=0)∧(code=0→∃ x,wholeP l=some x∧mayL x=0)
def AwakeSays:Prop:=∀ w:World,Calls Tryz.prog 4 #[] w fun e w'=>e=.returned (.bool true)∧Below w.heap.size w w'
theorem awake_says (h:DecSays):AwakeSays:=fun w=>awake_of (fun w bv hl hw=>(h w bv (formL leastL) hl (of_decide_eq_true (by kernel_rfl)) hw).mono (fun e w' ⟨v,im,code,he,hb,hm,_,h2,_⟩=>by
 obtain⟨rfl,rfl⟩:=h2 leastL (whole_form (may_ok may_least (fun x hx=>by simp [leastL]at hx;subst hx;decide))) may_least
 exact⟨v,he,hb,hm⟩)) w
end Go.Proofs.YtfchpchabdhcgaaGreat
