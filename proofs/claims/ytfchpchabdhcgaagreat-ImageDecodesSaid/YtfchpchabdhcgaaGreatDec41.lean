/- Lemmas. -/
import Derived.Test.YtfchpchabdhcgaaGreatDec38
import Derived.Test.YtfchpchabdhcgaaGreatDec32
import Derived.Test.YtfchpchabdhcgaaGreatDec40
import Derived.Deep.DeepCutAuto
set_option linter.unusedVariables false
set_option linter.unusedSimpArgs false
set_option maxHeartbeats 64000000
set_option maxRecDepth 100000
namespace Go.Proofs.YtfchpchabdhcgaaGreat
open Go.RowKit
theorem whole_ok {l:List UInt8} {im:ImgL} (h:wholeP l=some im):OkImg im:=by
 unfold wholeP at h
 split at h
 ·rename_i x heq
  cases h
  exact(img_codec.back _ _ _ heq).1
 ·cases h
theorem dec_none {l:List UInt8} (h:wholeP l=none):decL l=(emptyL,98):=by unfold decL;rw [h]
theorem dec_bad {l:List UInt8} {im:ImgL} (h:wholeP l=some im) (hm:mayL im≠0):decL l=(emptyL,mayL im):=by unfold decL;rw [h];exact if_neg hm
theorem dec_good {l:List UInt8} {im:ImgL} (h:wholeP l=some im) (hm:mayL im=0):decL l=(im,0):=by unfold decL;rw [h];exact if_pos hm
theorem zdecode_any (w:World) (bv:Value) (l:List UInt8) (hl:LB kByte (·<w.heap.size) w bv l) (hw:0<w.heap.size):
  Calls Tryz.prog 8 #[bv] w fun e w'=>∃ v,e=.returned (.tuple #[.agg (imgCells v (decL l).1),.int .i64 (decL l).2])∧Below w.heap.size w w'∧ImgM (fun b=>w.heap.size≤b∧b<w'.heap.size) w' v (decL l).1:=by
 have HN:=Lib.hid (zread_any (w.alloc (.cells #[.string ⟨#[]⟩,.int .i64 0,.slice none 0 0,.slice none 0 0,.slice none 0 0,.slice none 0 0,.slice none 0 0,.slice none 0 0,.int .i64 0,.slice none 0 0,.slice none 0 0,.slice none 0 0,.slice none 0 0,.slice none 0 0,.int .i64 0] 40 (0,0))) bv l ((hl.keeps (fun b hb=>heap_alloc_old w (.cells #[.string ⟨#[]⟩,.int .i64 0,.slice none 0 0,.slice none 0 0,.slice none 0 0,.slice none 0 0,.slice none 0 0,.slice none 0 0,.int .i64 0,.slice none 0 0,.slice none 0 0,.slice none 0 0,.slice none 0 0,.slice none 0 0,.int .i64 0] 40 (0,0)) hb)).imp (fun b hb=>by have hb:b<w.heap.size:=hb;rw [World.size_alloc];omega)) (by rw [World.size_alloc];omega))
 have F0:=Lib.hid (heap_alloc_new w (.cells #[.string ⟨#[]⟩,.int .i64 0,.slice none 0 0,.slice none 0 0,.slice none 0 0,.slice none 0 0,.slice none 0 0,.slice none 0 0,.int .i64 0,.slice none 0 0,.slice none 0 0,.slice none 0 0,.slice none 0 0,.slice none 0 0,.int .i64 0] 40 (0,0)))
 have B0:=Lib.hid ((Below.refl w.heap.size w).alloc (Nat.le_refl _) (.cells #[.string ⟨#[]⟩,.int .i64 0,.slice none 0 0,.slice none 0 0,.slice none 0 0,.slice none 0 0,.slice none 0 0,.slice none 0 0,.int .i64 0,.slice none 0 0,.slice none 0 0,.slice none 0 0,.slice none 0 0,.slice none 0 0,.int .i64 0] 40 (0,0)))
 have z0:w.heap.size<(w.alloc (.cells #[.string ⟨#[]⟩,.int .i64 0,.slice none 0 0,.slice none 0 0,.slice none 0 0,.slice none 0 0,.slice none 0 0,.slice none 0 0,.int .i64 0,.slice none 0 0,.slice none 0 0,.slice none 0 0,.slice none 0 0,.slice none 0 0,.int .i64 0] 40 (0,0))).heap.size:=by simp
 clear hl
 go_enter Tryz.func8,Tryz.ntmps8
 go_upto_region 1 with fail
 generalize w.alloc (.cells #[.string ⟨#[]⟩,.int .i64 0,.slice none 0 0,.slice none 0 0,.slice none 0 0,.slice none 0 0,.slice none 0 0,.slice none 0 0,.int .i64 0,.slice none 0 0,.slice none 0 0,.slice none 0 0,.slice none 0 0,.slice none 0 0,.int .i64 0] 40 (0,0))=w1 at *
 go_wp2_with fail
 refine HN.out.mono ?_
 clear HN
 rintro e w2 ⟨v,im,ok,rfl,hb,hm,h1,h2⟩
 have z1:=hb.size
 have F1:=Lib.hid ((hb.block w.heap.size z0).trans F0.out)
 have B1:=Lib.hid (B0.out.trans (hb.mono (Nat.le_of_lt z0)))
 have H1:=Lib.hid h1
 have H2:=Lib.hid h2
 obtain⟨y0,y1,y2,y3,y4,y5,y6,y7,y8,y9,y10⟩:=v
 obtain⟨a0,c0,hf⟩:=hm.segs.form
 replace hf:y0=.slice a0 im.segs.length c0:=hf
 subst hf
 obtain⟨a1,c1,hf⟩:=hm.needed.form
 replace hf:y1=.slice a1 im.needed.length c1:=hf
 subst hf
 obtain⟨a2,c2,hf⟩:=hm.runPath.form
 replace hf:y2=.slice a2 im.runPath.length c2:=hf
 subst hf
 obtain⟨a3,c3,hf⟩:=hm.syms.form
 replace hf:y3=.slice a3 im.syms.length c3:=hf
 subst hf
 obtain⟨a4,c4,hf⟩:=hm.buckets.form
 replace hf:y4=.slice a4 im.buckets.length c4:=hf
 subst hf
 obtain⟨a5,c5,hf⟩:=hm.words.form
 replace hf:y5=.slice a5 im.words.length c5:=hf
 subst hf
 obtain⟨a6,c6,hf⟩:=hm.relocs.form
 replace hf:y6=.slice a6 im.relocs.length c6:=hf
 subst hf
 obtain⟨a7,c7,hf⟩:=hm.slots.form
 replace hf:y7=.slice a7 im.slots.length c7:=hf
 subst hf
 obtain⟨a8,c8,hf⟩:=hm.init.form
 replace hf:y8=.slice a8 im.init.length c8:=hf
 subst hf
 obtain⟨a9,c9,hf⟩:=hm.fini.form
 replace hf:y9=.slice a9 im.fini.length c9:=hf
 subst hf
 obtain⟨a10,c10,hf⟩:=hm.tls.form
 replace hf:y10=.slice a10 im.tls.length c10:=hf
 subst hf
 have HM:=Lib.hid hm
 clear hb hm h1 h2 F0 B0
 have FA:=Lib.hid (heap_alloc_new w2 (.cells #[.string ⟨#[]⟩,.int .i64 0,.slice none 0 0,.slice none 0 0,.slice none 0 0,.slice none 0 0,.slice none 0 0,.slice none 0 0,.int .i64 0,.slice none 0 0,.slice none 0 0,.slice none 0 0,.slice none 0 0,.slice none 0 0,.int .i64 0] 40 (0,0)))
 go_upto_region 2 with (refine wpList_store_row rfl 40 (.tmp 4) (.tmp 10) rfl w2.heap.size (#[.string ⟨im.name.toArray⟩,.int .i64 im.flags,.slice a0 im.segs.length c0,.slice a1 im.needed.length c1,.slice a2 im.runPath.length c2,.slice a3 im.syms.length c3,.slice a4 im.buckets.length c4,.slice a5 im.words.length c5,.int .i64 im.shift,.slice a6 im.relocs.length c6,.slice a7 im.slots.length c7,.slice a8 im.init.length c8,.slice a9 im.fini.length c9,.slice a10 im.tls.length c10,.int .i64 im.tlsSize]) rfl rfl _ _ FA.out (by kernel_rfl) rfl (by simp [Value.oneCell']) ?_)
 have FS:=Lib.hid (setRow_heap _ w2.heap.size _ (#[.string ⟨im.name.toArray⟩,.int .i64 im.flags,.slice a0 im.segs.length c0,.slice a1 im.needed.length c1,.slice a2 im.runPath.length c2,.slice a3 im.syms.length c3,.slice a4 im.buckets.length c4,.slice a5 im.words.length c5,.int .i64 im.shift,.slice a6 im.relocs.length c6,.slice a7 im.slots.length c7,.slice a8 im.init.length c8,.slice a9 im.fini.length c9,.slice a10 im.tls.length c10,.int .i64 im.tlsSize]) _ _ FA.out)
 have hs:Step (fun x=>x<w2.heap.size) w2 ((w2.alloc (.cells #[.string ⟨#[]⟩,.int .i64 0,.slice none 0 0,.slice none 0 0,.slice none 0 0,.slice none 0 0,.slice none 0 0,.slice none 0 0,.int .i64 0,.slice none 0 0,.slice none 0 0,.slice none 0 0,.slice none 0 0,.slice none 0 0,.int .i64 0] 40 (0,0))).setRow w2.heap.size (#[.string ⟨im.name.toArray⟩,.int .i64 im.flags,.slice a0 im.segs.length c0,.slice a1 im.needed.length c1,.slice a2 im.runPath.length c2,.slice a3 im.syms.length c3,.slice a4 im.buckets.length c4,.slice a5 im.words.length c5,.int .i64 im.shift,.slice a6 im.relocs.length c6,.slice a7 im.slots.length c7,.slice a8 im.init.length c8,.slice a9 im.fini.length c9,.slice a10 im.tls.length c10,.int .i64 im.tlsSize])):=(Step.of_below ((Below.refl _ w2).alloc (Nat.le_refl _) (.cells #[.string ⟨#[]⟩,.int .i64 0,.slice none 0 0,.slice none 0 0,.slice none 0 0,.slice none 0 0,.slice none 0 0,.slice none 0 0,.int .i64 0,.slice none 0 0,.slice none 0 0,.slice none 0 0,.slice none 0 0,.slice none 0 0,.int .i64 0] 40 (0,0)))).trans ((step_setRow _ w2.heap.size (#[.string ⟨im.name.toArray⟩,.int .i64 im.flags,.slice a0 im.segs.length c0,.slice a1 im.needed.length c1,.slice a2 im.runPath.length c2,.slice a3 im.syms.length c3,.slice a4 im.buckets.length c4,.slice a5 im.words.length c5,.int .i64 im.shift,.slice a6 im.relocs.length c6,.slice a7 im.slots.length c7,.slice a8 im.init.length c8,.slice a9 im.fini.length c9,.slice a10 im.tls.length c10,.int .i64 im.tlsSize])).imp (fun x h=>by have h:x<w2.heap.size:=h;show x≠_;omega))
 have hz3:w2.heap.size<((w2.alloc (.cells #[.string ⟨#[]⟩,.int .i64 0,.slice none 0 0,.slice none 0 0,.slice none 0 0,.slice none 0 0,.slice none 0 0,.slice none 0 0,.int .i64 0,.slice none 0 0,.slice none 0 0,.slice none 0 0,.slice none 0 0,.slice none 0 0,.int .i64 0] 40 (0,0))).setRow w2.heap.size (#[.string ⟨im.name.toArray⟩,.int .i64 im.flags,.slice a0 im.segs.length c0,.slice a1 im.needed.length c1,.slice a2 im.runPath.length c2,.slice a3 im.syms.length c3,.slice a4 im.buckets.length c4,.slice a5 im.words.length c5,.int .i64 im.shift,.slice a6 im.relocs.length c6,.slice a7 im.slots.length c7,.slice a8 im.init.length c8,.slice a9 im.fini.length c9,.slice a10 im.tls.length c10,.int .i64 im.tlsSize])).heap.size:=by simp
 have F3:=Lib.hid ((hs.block w.heap.size (by show _<_;omega)).trans F1.out)
 have B3:=Lib.hid (B1.out.trans ((hs.imp (S':=fun x=>x<w.heap.size) (fun x h=>by have h:x<w.heap.size:=h;show x<_;omega)).below))
 have HM3:=Lib.hid ((HM.out.keeps (fun b hb=>hs.block b hb.2)).imp (S':=fun b=>w1.heap.size≤b∧b<((w2.alloc (.cells #[.string ⟨#[]⟩,.int .i64 0,.slice none 0 0,.slice none 0 0,.slice none 0 0,.slice none 0 0,.slice none 0 0,.slice none 0 0,.int .i64 0,.slice none 0 0,.slice none 0 0,.slice none 0 0,.slice none 0 0,.slice none 0 0,.int .i64 0] 40 (0,0))).setRow w2.heap.size (#[.string ⟨im.name.toArray⟩,.int .i64 im.flags,.slice a0 im.segs.length c0,.slice a1 im.needed.length c1,.slice a2 im.runPath.length c2,.slice a3 im.syms.length c3,.slice a4 im.buckets.length c4,.slice a5 im.words.length c5,.int .i64 im.shift,.slice a6 im.relocs.length c6,.slice a7 im.slots.length c7,.slice a8 im.init.length c8,.slice a9 im.fini.length c9,.slice a10 im.tls.length c10,.int .i64 im.tlsSize])).heap.size) (fun b hb=>⟨hb.1,by have:=hb.2;omega⟩))
 clear hs F1 B1 HM FA
 generalize (w2.alloc (.cells #[.string ⟨#[]⟩,.int .i64 0,.slice none 0 0,.slice none 0 0,.slice none 0 0,.slice none 0 0,.slice none 0 0,.slice none 0 0,.int .i64 0,.slice none 0 0,.slice none 0 0,.slice none 0 0,.slice none 0 0,.slice none 0 0,.int .i64 0] 40 (0,0))).setRow w2.heap.size (#[.string ⟨im.name.toArray⟩,.int .i64 im.flags,.slice a0 im.segs.length c0,.slice a1 im.needed.length c1,.slice a2 im.runPath.length c2,.slice a3 im.syms.length c3,.slice a4 im.buckets.length c4,.slice a5 im.words.length c5,.int .i64 im.shift,.slice a6 im.relocs.length c6,.slice a7 im.slots.length c7,.slice a8 im.init.length c8,.slice a9 im.fini.length c9,.slice a10 im.tls.length c10,.int .i64 im.tlsSize])=w3 at *
 generalize w2.heap.size=sb at *
 cases ok with
 | false=>
  have HD:=Lib.hid (dec_none (H2.out rfl))
  clear H1 H2
  go_wp2_with (refine wpList_store_row rfl 40 (.tmp 2) (.tmp 14) rfl w.heap.size (#[.string ⟨#[]⟩,.int .i64 0,.slice none 0 0,.slice none 0 0,.slice none 0 0,.slice none 0 0,.slice none 0 0,.slice none 0 0,.int .i64 0,.slice none 0 0,.slice none 0 0,.slice none 0 0,.slice none 0 0,.slice none 0 0,.int .i64 0]) rfl rfl _ _ F3.out (by kernel_rfl) rfl (by simp [Value.oneCell']) ?_)
  have FR:=Lib.hid (setRow_heap _ w.heap.size _ (#[.string ⟨#[]⟩,.int .i64 0,.slice none 0 0,.slice none 0 0,.slice none 0 0,.slice none 0 0,.slice none 0 0,.slice none 0 0,.int .i64 0,.slice none 0 0,.slice none 0 0,.slice none 0 0,.slice none 0 0,.slice none 0 0,.int .i64 0]) _ _ F3.out)
  have hsr:Step (fun x=>x≠w.heap.size) w3 (w3.setRow w.heap.size (#[.string ⟨#[]⟩,.int .i64 0,.slice none 0 0,.slice none 0 0,.slice none 0 0,.slice none 0 0,.slice none 0 0,.slice none 0 0,.int .i64 0,.slice none 0 0,.slice none 0 0,.slice none 0 0,.slice none 0 0,.slice none 0 0,.int .i64 0])):=step_setRow _ _ _
  have BR:=Lib.hid (((Step.of_below B3.out).trans (hsr.imp (fun x h=>by have h:x<w.heap.size:=h;show x≠_;omega))).below)
  clear hsr
  go_wp2_with fail
  refine bodyPost_ret (results_row_tmp rfl _ _ w.heap.size _ _ _ _ rfl FR.out Tryz.underlying40 rfl (by kernel_rfl)) rfl ?_
  rw [HD.out]
  exact⟨⟨.slice none 0 0,.slice none 0 0,.slice none 0 0,.slice none 0 0,.slice none 0 0,.slice none 0 0,.slice none 0 0,.slice none 0 0,.slice none 0 0,.slice none 0 0,.slice none 0 0⟩,rfl,BR.out,imgM_empty _ _⟩
 | true=>
  have hwh:=H1.out rfl
  have Hwh:=Lib.hid hwh
  have Hbk:=Lib.hid ((whole_ok hwh).buckets.2)
  clear hwh H1 H2
  have e0:w3.cell? ⟨sb,0,none⟩=some (.string ⟨im.name.toArray⟩):=by rw [Lib.cell_of_heap FS.out];rfl
  have e1:w3.cell? ⟨sb,1,none⟩=some (.int .i64 im.flags):=by rw [Lib.cell_of_heap FS.out];rfl
  have e2:w3.cell? ⟨sb,2,none⟩=some (.slice a0 im.segs.length c0):=by rw [Lib.cell_of_heap FS.out];rfl
  have e3:w3.cell? ⟨sb,3,none⟩=some (.slice a1 im.needed.length c1):=by rw [Lib.cell_of_heap FS.out];rfl
  have e4:w3.cell? ⟨sb,4,none⟩=some (.slice a2 im.runPath.length c2):=by rw [Lib.cell_of_heap FS.out];rfl
  have e5:w3.cell? ⟨sb,5,none⟩=some (.slice a3 im.syms.length c3):=by rw [Lib.cell_of_heap FS.out];rfl
  have e6:w3.cell? ⟨sb,6,none⟩=some (.slice a4 im.buckets.length c4):=by rw [Lib.cell_of_heap FS.out];rfl
  have e7:w3.cell? ⟨sb,7,none⟩=some (.slice a5 im.words.length c5):=by rw [Lib.cell_of_heap FS.out];rfl
  have e8:w3.cell? ⟨sb,8,none⟩=some (.int .i64 im.shift):=by rw [Lib.cell_of_heap FS.out];rfl
  have e9:w3.cell? ⟨sb,9,none⟩=some (.slice a6 im.relocs.length c6):=by rw [Lib.cell_of_heap FS.out];rfl
  have e10:w3.cell? ⟨sb,10,none⟩=some (.slice a7 im.slots.length c7):=by rw [Lib.cell_of_heap FS.out];rfl
  have e11:w3.cell? ⟨sb,11,none⟩=some (.slice a8 im.init.length c8):=by rw [Lib.cell_of_heap FS.out];rfl
  have e12:w3.cell? ⟨sb,12,none⟩=some (.slice a9 im.fini.length c9):=by rw [Lib.cell_of_heap FS.out];rfl
  have e13:w3.cell? ⟨sb,13,none⟩=some (.slice a10 im.tls.length c10):=by rw [Lib.cell_of_heap FS.out];rfl
  have e14:w3.cell? ⟨sb,14,none⟩=some (.int .i64 im.tlsSize):=by rw [Lib.cell_of_heap FS.out];rfl
  have HJ:=Lib.hid (jmay_any w3 ⟨.slice a0 im.segs.length c0,.slice a1 im.needed.length c1,.slice a2 im.runPath.length c2,.slice a3 im.syms.length c3,.slice a4 im.buckets.length c4,.slice a5 im.words.length c5,.slice a6 im.relocs.length c6,.slice a7 im.slots.length c7,.slice a8 im.init.length c8,.slice a9 im.fini.length c9,.slice a10 im.tls.length c10⟩ im (HM3.out.imp (fun b hb=>hb.2)) (fun c hc=>by have h:c.length<65536:=(Hbk.out c hc).1;omega))
  go_wp2_with fail
  refine HJ.out.mono ?_
  clear HJ
  rintro e w4 ⟨rfl,hb4⟩
  have z4:=hb4.size
  have F4:=Lib.hid ((hb4.block w.heap.size (by omega)).trans F3.out)
  have FS4:=Lib.hid ((hb4.block sb hz3).trans FS.out)
  have B4:=Lib.hid (B3.out.trans (hb4.mono (by omega)))
  have HM4:=Lib.hid ((HM3.out.keeps (fun b hb=>hb4.block b hb.2)).imp (S':=fun b=>w1.heap.size≤b∧b<w4.heap.size) (fun b hb=>⟨hb.1,by have:=hb.2;omega⟩))
  clear hb4 F3 FS B3 HM3 e0 e1 e2 e3 e4 e5 e6 e7 e8 e9 e10 e11 e12 e13 e14
  by_cases hm:mayL im=0
  ·have HD:=Lib.hid (dec_good Hwh.out hm)
   have hd:(mayL im != 0)=false:=by simp [hm]
   have e0:w4.cell? ⟨sb,0,none⟩=some (.string ⟨im.name.toArray⟩):=by rw [Lib.cell_of_heap FS4.out];rfl
   have e1:w4.cell? ⟨sb,1,none⟩=some (.int .i64 im.flags):=by rw [Lib.cell_of_heap FS4.out];rfl
   have e2:w4.cell? ⟨sb,2,none⟩=some (.slice a0 im.segs.length c0):=by rw [Lib.cell_of_heap FS4.out];rfl
   have e3:w4.cell? ⟨sb,3,none⟩=some (.slice a1 im.needed.length c1):=by rw [Lib.cell_of_heap FS4.out];rfl
   have e4:w4.cell? ⟨sb,4,none⟩=some (.slice a2 im.runPath.length c2):=by rw [Lib.cell_of_heap FS4.out];rfl
   have e5:w4.cell? ⟨sb,5,none⟩=some (.slice a3 im.syms.length c3):=by rw [Lib.cell_of_heap FS4.out];rfl
   have e6:w4.cell? ⟨sb,6,none⟩=some (.slice a4 im.buckets.length c4):=by rw [Lib.cell_of_heap FS4.out];rfl
   have e7:w4.cell? ⟨sb,7,none⟩=some (.slice a5 im.words.length c5):=by rw [Lib.cell_of_heap FS4.out];rfl
   have e8:w4.cell? ⟨sb,8,none⟩=some (.int .i64 im.shift):=by rw [Lib.cell_of_heap FS4.out];rfl
   have e9:w4.cell? ⟨sb,9,none⟩=some (.slice a6 im.relocs.length c6):=by rw [Lib.cell_of_heap FS4.out];rfl
   have e10:w4.cell? ⟨sb,10,none⟩=some (.slice a7 im.slots.length c7):=by rw [Lib.cell_of_heap FS4.out];rfl
   have e11:w4.cell? ⟨sb,11,none⟩=some (.slice a8 im.init.length c8):=by rw [Lib.cell_of_heap FS4.out];rfl
   have e12:w4.cell? ⟨sb,12,none⟩=some (.slice a9 im.fini.length c9):=by rw [Lib.cell_of_heap FS4.out];rfl
   have e13:w4.cell? ⟨sb,13,none⟩=some (.slice a10 im.tls.length c10):=by rw [Lib.cell_of_heap FS4.out];rfl
   have e14:w4.cell? ⟨sb,14,none⟩=some (.int .i64 im.tlsSize):=by rw [Lib.cell_of_heap FS4.out];rfl
   clear hm
   go_wp2_with (refine wpList_store_row rfl 40 (.tmp 2) (.tmp 21) rfl w.heap.size (#[.string ⟨im.name.toArray⟩,.int .i64 im.flags,.slice a0 im.segs.length c0,.slice a1 im.needed.length c1,.slice a2 im.runPath.length c2,.slice a3 im.syms.length c3,.slice a4 im.buckets.length c4,.slice a5 im.words.length c5,.int .i64 im.shift,.slice a6 im.relocs.length c6,.slice a7 im.slots.length c7,.slice a8 im.init.length c8,.slice a9 im.fini.length c9,.slice a10 im.tls.length c10,.int .i64 im.tlsSize]) rfl rfl _ _ F4.out (by kernel_rfl) rfl (by simp [Value.oneCell']) ?_)
   have FR:=Lib.hid (setRow_heap _ w.heap.size _ (#[.string ⟨im.name.toArray⟩,.int .i64 im.flags,.slice a0 im.segs.length c0,.slice a1 im.needed.length c1,.slice a2 im.runPath.length c2,.slice a3 im.syms.length c3,.slice a4 im.buckets.length c4,.slice a5 im.words.length c5,.int .i64 im.shift,.slice a6 im.relocs.length c6,.slice a7 im.slots.length c7,.slice a8 im.init.length c8,.slice a9 im.fini.length c9,.slice a10 im.tls.length c10,.int .i64 im.tlsSize]) _ _ F4.out)
   have hsr:Step (fun x=>x≠w.heap.size) w4 (w4.setRow w.heap.size (#[.string ⟨im.name.toArray⟩,.int .i64 im.flags,.slice a0 im.segs.length c0,.slice a1 im.needed.length c1,.slice a2 im.runPath.length c2,.slice a3 im.syms.length c3,.slice a4 im.buckets.length c4,.slice a5 im.words.length c5,.int .i64 im.shift,.slice a6 im.relocs.length c6,.slice a7 im.slots.length c7,.slice a8 im.init.length c8,.slice a9 im.fini.length c9,.slice a10 im.tls.length c10,.int .i64 im.tlsSize])):=step_setRow _ _ _
   have BR:=Lib.hid (((Step.of_below B4.out).trans (hsr.imp (fun x h=>by have h:x<w.heap.size:=h;show x≠_;omega))).below)
   have HMr:=Lib.hid ((HM4.out.keeps (fun b hb=>hsr.block b (by have:=hb.1;show b≠_;omega))).imp (S':=fun b=>w.heap.size≤b∧b<(w4.setRow w.heap.size (#[.string ⟨im.name.toArray⟩,.int .i64 im.flags,.slice a0 im.segs.length c0,.slice a1 im.needed.length c1,.slice a2 im.runPath.length c2,.slice a3 im.syms.length c3,.slice a4 im.buckets.length c4,.slice a5 im.words.length c5,.int .i64 im.shift,.slice a6 im.relocs.length c6,.slice a7 im.slots.length c7,.slice a8 im.init.length c8,.slice a9 im.fini.length c9,.slice a10 im.tls.length c10,.int .i64 im.tlsSize])).heap.size) (fun b hb=>⟨by have:=hb.1;omega,by have:=hb.2;have:=hsr.size;omega⟩))
   clear hsr
   go_wp2_with fail
   refine bodyPost_ret (results_row_tmp rfl _ _ w.heap.size _ _ _ _ rfl FR.out Tryz.underlying40 rfl (by kernel_rfl)) rfl ?_
   rw [HD.out]
   exact⟨⟨.slice a0 im.segs.length c0,.slice a1 im.needed.length c1,.slice a2 im.runPath.length c2,.slice a3 im.syms.length c3,.slice a4 im.buckets.length c4,.slice a5 im.words.length c5,.slice a6 im.relocs.length c6,.slice a7 im.slots.length c7,.slice a8 im.init.length c8,.slice a9 im.fini.length c9,.slice a10 im.tls.length c10⟩,rfl,BR.out,HMr.out⟩
  ·have HD:=Lib.hid (dec_bad Hwh.out hm)
   have hd:(mayL im != 0)=true:=by simp [hm]
   obtain⟨mz,hmz⟩:∃ mz,mz=mayL im:=⟨_,rfl⟩
   rw [← hmz]at HD hd
   rw [← hmz]
   clear hmz hm
   go_wp2_with (refine wpList_store_row rfl 40 (.tmp 2) (.tmp 19) rfl w.heap.size (#[.string ⟨#[]⟩,.int .i64 0,.slice none 0 0,.slice none 0 0,.slice none 0 0,.slice none 0 0,.slice none 0 0,.slice none 0 0,.int .i64 0,.slice none 0 0,.slice none 0 0,.slice none 0 0,.slice none 0 0,.slice none 0 0,.int .i64 0]) rfl rfl _ _ F4.out (by kernel_rfl) rfl (by simp [Value.oneCell']) ?_)
   have FR:=Lib.hid (setRow_heap _ w.heap.size _ (#[.string ⟨#[]⟩,.int .i64 0,.slice none 0 0,.slice none 0 0,.slice none 0 0,.slice none 0 0,.slice none 0 0,.slice none 0 0,.int .i64 0,.slice none 0 0,.slice none 0 0,.slice none 0 0,.slice none 0 0,.slice none 0 0,.int .i64 0]) _ _ F4.out)
   have hsr:Step (fun x=>x≠w.heap.size) w4 (w4.setRow w.heap.size (#[.string ⟨#[]⟩,.int .i64 0,.slice none 0 0,.slice none 0 0,.slice none 0 0,.slice none 0 0,.slice none 0 0,.slice none 0 0,.int .i64 0,.slice none 0 0,.slice none 0 0,.slice none 0 0,.slice none 0 0,.slice none 0 0,.int .i64 0])):=step_setRow _ _ _
   have BR:=Lib.hid (((Step.of_below B4.out).trans (hsr.imp (fun x h=>by have h:x<w.heap.size:=h;show x≠_;omega))).below)
   clear hsr
   go_wp2_with fail
   refine bodyPost_ret (results_row_tmp rfl _ _ w.heap.size _ _ _ _ rfl FR.out Tryz.underlying40 rfl (by kernel_rfl)) rfl ?_
   rw [HD.out]
   exact⟨⟨.slice none 0 0,.slice none 0 0,.slice none 0 0,.slice none 0 0,.slice none 0 0,.slice none 0 0,.slice none 0 0,.slice none 0 0,.slice none 0 0,.slice none 0 0,.slice none 0 0⟩,rfl,BR.out,imgM_empty _ _⟩
theorem zsame_any (w:World) (va vb:ImgV) (im:ImgL) (h1:ImgM (·<w.heap.size) w va im) (h2:ImgM (·<w.heap.size) w vb im) (hmay:mayL im=0):
  Calls Tryz.prog 10 #[.agg (imgCells va im),.agg (imgCells vb im)] w fun e w'=>e=.returned (.bool true)∧Below w.heap.size w w':=by
 obtain⟨py0,py1,py2,py3,py4,py5,py6,py7,py8,py9,py10⟩:=va
 obtain⟨pa0,pc0,hf⟩:=h1.segs.form
 replace hf:py0=.slice pa0 im.segs.length pc0:=hf
 subst hf
 obtain⟨pa1,pc1,hf⟩:=h1.needed.form
 replace hf:py1=.slice pa1 im.needed.length pc1:=hf
 subst hf
 obtain⟨pa2,pc2,hf⟩:=h1.runPath.form
 replace hf:py2=.slice pa2 im.runPath.length pc2:=hf
 subst hf
 obtain⟨pa3,pc3,hf⟩:=h1.syms.form
 replace hf:py3=.slice pa3 im.syms.length pc3:=hf
 subst hf
 obtain⟨pa4,pc4,hf⟩:=h1.buckets.form
 replace hf:py4=.slice pa4 im.buckets.length pc4:=hf
 subst hf
 obtain⟨pa5,pc5,hf⟩:=h1.words.form
 replace hf:py5=.slice pa5 im.words.length pc5:=hf
 subst hf
 obtain⟨pa6,pc6,hf⟩:=h1.relocs.form
 replace hf:py6=.slice pa6 im.relocs.length pc6:=hf
 subst hf
 obtain⟨pa7,pc7,hf⟩:=h1.slots.form
 replace hf:py7=.slice pa7 im.slots.length pc7:=hf
 subst hf
 obtain⟨pa8,pc8,hf⟩:=h1.init.form
 replace hf:py8=.slice pa8 im.init.length pc8:=hf
 subst hf
 obtain⟨pa9,pc9,hf⟩:=h1.fini.form
 replace hf:py9=.slice pa9 im.fini.length pc9:=hf
 subst hf
 obtain⟨pa10,pc10,hf⟩:=h1.tls.form
 replace hf:py10=.slice pa10 im.tls.length pc10:=hf
 subst hf
 obtain⟨qy0,qy1,qy2,qy3,qy4,qy5,qy6,qy7,qy8,qy9,qy10⟩:=vb
 obtain⟨qa0,qc0,hf⟩:=h2.segs.form
 replace hf:qy0=.slice qa0 im.segs.length qc0:=hf
 subst hf
 obtain⟨qa1,qc1,hf⟩:=h2.needed.form
 replace hf:qy1=.slice qa1 im.needed.length qc1:=hf
 subst hf
 obtain⟨qa2,qc2,hf⟩:=h2.runPath.form
 replace hf:qy2=.slice qa2 im.runPath.length qc2:=hf
 subst hf
 obtain⟨qa3,qc3,hf⟩:=h2.syms.form
 replace hf:qy3=.slice qa3 im.syms.length qc3:=hf
 subst hf
 obtain⟨qa4,qc4,hf⟩:=h2.buckets.form
 replace hf:qy4=.slice qa4 im.buckets.length qc4:=hf
 subst hf
 obtain⟨qa5,qc5,hf⟩:=h2.words.form
 replace hf:qy5=.slice qa5 im.words.length qc5:=hf
 subst hf
 obtain⟨qa6,qc6,hf⟩:=h2.relocs.form
 replace hf:qy6=.slice qa6 im.relocs.length qc6:=hf
 subst hf
 obtain⟨qa7,qc7,hf⟩:=h2.slots.form
 replace hf:qy7=.slice qa7 im.slots.length qc7:=hf
 subst hf
 obtain⟨qa8,qc8,hf⟩:=h2.init.form
 replace hf:qy8=.slice qa8 im.init.length qc8:=hf
 subst hf
 obtain⟨qa9,qc9,hf⟩:=h2.fini.form
 replace hf:qy9=.slice qa9 im.fini.length qc9:=hf
 subst hf
 obtain⟨qa10,qc10,hf⟩:=h2.tls.form
 replace hf:qy10=.slice qa10 im.tls.length qc10:=hf
 subst hf
 have HA:=Lib.hid h1
 have HB:=Lib.hid h2
 clear h1 h2
 unfold imgCells
 go_enter Tryz.func10,Tryz.ntmps10
 go_upto_region 1 with fail
 have F0:=Lib.hid ((heap_alloc_old (w.alloc (.cells #[.string ⟨im.name.toArray⟩,.int .i64 im.flags,.slice pa0 im.segs.length pc0,.slice pa1 im.needed.length pc1,.slice pa2 im.runPath.length pc2,.slice pa3 im.syms.length pc3,.slice pa4 im.buckets.length pc4,.slice pa5 im.words.length pc5,.int .i64 im.shift,.slice pa6 im.relocs.length pc6,.slice pa7 im.slots.length pc7,.slice pa8 im.init.length pc8,.slice pa9 im.fini.length pc9,.slice pa10 im.tls.length pc10,.int .i64 im.tlsSize] 40 (0,0))) (.cells #[.string ⟨im.name.toArray⟩,.int .i64 im.flags,.slice qa0 im.segs.length qc0,.slice qa1 im.needed.length qc1,.slice qa2 im.runPath.length qc2,.slice qa3 im.syms.length qc3,.slice qa4 im.buckets.length qc4,.slice qa5 im.words.length qc5,.int .i64 im.shift,.slice qa6 im.relocs.length qc6,.slice qa7 im.slots.length qc7,.slice qa8 im.init.length qc8,.slice qa9 im.fini.length qc9,.slice qa10 im.tls.length qc10,.int .i64 im.tlsSize] 40 (0,0)) (r:=w.heap.size) (by simp)).trans (heap_alloc_new w (.cells #[.string ⟨im.name.toArray⟩,.int .i64 im.flags,.slice pa0 im.segs.length pc0,.slice pa1 im.needed.length pc1,.slice pa2 im.runPath.length pc2,.slice pa3 im.syms.length pc3,.slice pa4 im.buckets.length pc4,.slice pa5 im.words.length pc5,.int .i64 im.shift,.slice pa6 im.relocs.length pc6,.slice pa7 im.slots.length pc7,.slice pa8 im.init.length pc8,.slice pa9 im.fini.length pc9,.slice pa10 im.tls.length pc10,.int .i64 im.tlsSize] 40 (0,0))))
 have F1:Hid (((w.alloc (.cells #[.string ⟨im.name.toArray⟩,.int .i64 im.flags,.slice pa0 im.segs.length pc0,.slice pa1 im.needed.length pc1,.slice pa2 im.runPath.length pc2,.slice pa3 im.syms.length pc3,.slice pa4 im.buckets.length pc4,.slice pa5 im.words.length pc5,.int .i64 im.shift,.slice pa6 im.relocs.length pc6,.slice pa7 im.slots.length pc7,.slice pa8 im.init.length pc8,.slice pa9 im.fini.length pc9,.slice pa10 im.tls.length pc10,.int .i64 im.tlsSize] 40 (0,0))).alloc (.cells #[.string ⟨im.name.toArray⟩,.int .i64 im.flags,.slice qa0 im.segs.length qc0,.slice qa1 im.needed.length qc1,.slice qa2 im.runPath.length qc2,.slice qa3 im.syms.length qc3,.slice qa4 im.buckets.length qc4,.slice qa5 im.words.length qc5,.int .i64 im.shift,.slice qa6 im.relocs.length qc6,.slice qa7 im.slots.length qc7,.slice qa8 im.init.length qc8,.slice qa9 im.fini.length qc9,.slice qa10 im.tls.length qc10,.int .i64 im.tlsSize] 40 (0,0))).heap[w.heap.size+1]? =some (.cells #[.string ⟨im.name.toArray⟩,.int .i64 im.flags,.slice qa0 im.segs.length qc0,.slice qa1 im.needed.length qc1,.slice qa2 im.runPath.length qc2,.slice qa3 im.syms.length qc3,.slice qa4 im.buckets.length qc4,.slice qa5 im.words.length qc5,.int .i64 im.shift,.slice qa6 im.relocs.length qc6,.slice qa7 im.slots.length qc7,.slice qa8 im.init.length qc8,.slice qa9 im.fini.length qc9,.slice qa10 im.tls.length qc10,.int .i64 im.tlsSize] 40 (0,0))):=Lib.hid (by have h:=heap_alloc_new (w.alloc (.cells #[.string ⟨im.name.toArray⟩,.int .i64 im.flags,.slice pa0 im.segs.length pc0,.slice pa1 im.needed.length pc1,.slice pa2 im.runPath.length pc2,.slice pa3 im.syms.length pc3,.slice pa4 im.buckets.length pc4,.slice pa5 im.words.length pc5,.int .i64 im.shift,.slice pa6 im.relocs.length pc6,.slice pa7 im.slots.length pc7,.slice pa8 im.init.length pc8,.slice pa9 im.fini.length pc9,.slice pa10 im.tls.length pc10,.int .i64 im.tlsSize] 40 (0,0))) (.cells #[.string ⟨im.name.toArray⟩,.int .i64 im.flags,.slice qa0 im.segs.length qc0,.slice qa1 im.needed.length qc1,.slice qa2 im.runPath.length qc2,.slice qa3 im.syms.length qc3,.slice qa4 im.buckets.length qc4,.slice qa5 im.words.length qc5,.int .i64 im.shift,.slice qa6 im.relocs.length qc6,.slice qa7 im.slots.length qc7,.slice qa8 im.init.length qc8,.slice qa9 im.fini.length qc9,.slice qa10 im.tls.length qc10,.int .i64 im.tlsSize] 40 (0,0));rw [World.size_alloc]at h;exact h)
 have B0:Hid (Below w.heap.size w ((w.alloc (.cells #[.string ⟨im.name.toArray⟩,.int .i64 im.flags,.slice pa0 im.segs.length pc0,.slice pa1 im.needed.length pc1,.slice pa2 im.runPath.length pc2,.slice pa3 im.syms.length pc3,.slice pa4 im.buckets.length pc4,.slice pa5 im.words.length pc5,.int .i64 im.shift,.slice pa6 im.relocs.length pc6,.slice pa7 im.slots.length pc7,.slice pa8 im.init.length pc8,.slice pa9 im.fini.length pc9,.slice pa10 im.tls.length pc10,.int .i64 im.tlsSize] 40 (0,0))).alloc (.cells #[.string ⟨im.name.toArray⟩,.int .i64 im.flags,.slice qa0 im.segs.length qc0,.slice qa1 im.needed.length qc1,.slice qa2 im.runPath.length qc2,.slice qa3 im.syms.length qc3,.slice qa4 im.buckets.length qc4,.slice qa5 im.words.length qc5,.int .i64 im.shift,.slice qa6 im.relocs.length qc6,.slice qa7 im.slots.length qc7,.slice qa8 im.init.length qc8,.slice qa9 im.fini.length qc9,.slice qa10 im.tls.length qc10,.int .i64 im.tlsSize] 40 (0,0)))):=Lib.hid (((Below.refl _ w).alloc (Nat.le_refl _) _).alloc (by simp) _)
 have hz:((w.alloc (.cells #[.string ⟨im.name.toArray⟩,.int .i64 im.flags,.slice pa0 im.segs.length pc0,.slice pa1 im.needed.length pc1,.slice pa2 im.runPath.length pc2,.slice pa3 im.syms.length pc3,.slice pa4 im.buckets.length pc4,.slice pa5 im.words.length pc5,.int .i64 im.shift,.slice pa6 im.relocs.length pc6,.slice pa7 im.slots.length pc7,.slice pa8 im.init.length pc8,.slice pa9 im.fini.length pc9,.slice pa10 im.tls.length pc10,.int .i64 im.tlsSize] 40 (0,0))).alloc (.cells #[.string ⟨im.name.toArray⟩,.int .i64 im.flags,.slice qa0 im.segs.length qc0,.slice qa1 im.needed.length qc1,.slice qa2 im.runPath.length qc2,.slice qa3 im.syms.length qc3,.slice qa4 im.buckets.length qc4,.slice qa5 im.words.length qc5,.int .i64 im.shift,.slice qa6 im.relocs.length qc6,.slice qa7 im.slots.length qc7,.slice qa8 im.init.length qc8,.slice qa9 im.fini.length qc9,.slice qa10 im.tls.length qc10,.int .i64 im.tlsSize] 40 (0,0))).heap.size=w.heap.size+2:=by simp
 generalize (w.alloc (.cells #[.string ⟨im.name.toArray⟩,.int .i64 im.flags,.slice pa0 im.segs.length pc0,.slice pa1 im.needed.length pc1,.slice pa2 im.runPath.length pc2,.slice pa3 im.syms.length pc3,.slice pa4 im.buckets.length pc4,.slice pa5 im.words.length pc5,.int .i64 im.shift,.slice pa6 im.relocs.length pc6,.slice pa7 im.slots.length pc7,.slice pa8 im.init.length pc8,.slice pa9 im.fini.length pc9,.slice pa10 im.tls.length pc10,.int .i64 im.tlsSize] 40 (0,0))).alloc (.cells #[.string ⟨im.name.toArray⟩,.int .i64 im.flags,.slice qa0 im.segs.length qc0,.slice qa1 im.needed.length qc1,.slice qa2 im.runPath.length qc2,.slice qa3 im.syms.length qc3,.slice qa4 im.buckets.length qc4,.slice qa5 im.words.length qc5,.int .i64 im.shift,.slice qa6 im.relocs.length qc6,.slice qa7 im.slots.length qc7,.slice qa8 im.init.length qc8,.slice qa9 im.fini.length qc9,.slice qa10 im.tls.length qc10,.int .i64 im.tlsSize] 40 (0,0))=w1 at *
 have e0:w1.cell? ⟨w.heap.size,0,none⟩=some (.string ⟨im.name.toArray⟩):=by rw [Lib.cell_of_heap F0.out];rfl
 have e1:w1.cell? ⟨w.heap.size,1,none⟩=some (.int .i64 im.flags):=by rw [Lib.cell_of_heap F0.out];rfl
 have e2:w1.cell? ⟨w.heap.size,2,none⟩=some (.slice pa0 im.segs.length pc0):=by rw [Lib.cell_of_heap F0.out];rfl
 have e3:w1.cell? ⟨w.heap.size,3,none⟩=some (.slice pa1 im.needed.length pc1):=by rw [Lib.cell_of_heap F0.out];rfl
 have e4:w1.cell? ⟨w.heap.size,4,none⟩=some (.slice pa2 im.runPath.length pc2):=by rw [Lib.cell_of_heap F0.out];rfl
 have e5:w1.cell? ⟨w.heap.size,5,none⟩=some (.slice pa3 im.syms.length pc3):=by rw [Lib.cell_of_heap F0.out];rfl
 have e6:w1.cell? ⟨w.heap.size,6,none⟩=some (.slice pa4 im.buckets.length pc4):=by rw [Lib.cell_of_heap F0.out];rfl
 have e7:w1.cell? ⟨w.heap.size,7,none⟩=some (.slice pa5 im.words.length pc5):=by rw [Lib.cell_of_heap F0.out];rfl
 have e8:w1.cell? ⟨w.heap.size,8,none⟩=some (.int .i64 im.shift):=by rw [Lib.cell_of_heap F0.out];rfl
 have e9:w1.cell? ⟨w.heap.size,9,none⟩=some (.slice pa6 im.relocs.length pc6):=by rw [Lib.cell_of_heap F0.out];rfl
 have e10:w1.cell? ⟨w.heap.size,10,none⟩=some (.slice pa7 im.slots.length pc7):=by rw [Lib.cell_of_heap F0.out];rfl
 have e11:w1.cell? ⟨w.heap.size,11,none⟩=some (.slice pa8 im.init.length pc8):=by rw [Lib.cell_of_heap F0.out];rfl
 have e12:w1.cell? ⟨w.heap.size,12,none⟩=some (.slice pa9 im.fini.length pc9):=by rw [Lib.cell_of_heap F0.out];rfl
 have e13:w1.cell? ⟨w.heap.size,13,none⟩=some (.slice pa10 im.tls.length pc10):=by rw [Lib.cell_of_heap F0.out];rfl
 have e14:w1.cell? ⟨w.heap.size,14,none⟩=some (.int .i64 im.tlsSize):=by rw [Lib.cell_of_heap F0.out];rfl
 have HJ:=Lib.hid (jform_any w1 ⟨.slice pa0 im.segs.length pc0,.slice pa1 im.needed.length pc1,.slice pa2 im.runPath.length pc2,.slice pa3 im.syms.length pc3,.slice pa4 im.buckets.length pc4,.slice pa5 im.words.length pc5,.slice pa6 im.relocs.length pc6,.slice pa7 im.slots.length pc7,.slice pa8 im.init.length pc8,.slice pa9 im.fini.length pc9,.slice pa10 im.tls.length pc10⟩ im (HA.out.later B0.out) hmay)
 go_wp2_with fail
 refine HJ.out.mono ?_
 clear HJ e0 e1 e2 e3 e4 e5 e6 e7 e8 e9 e10 e11 e12 e13 e14
 rintro e w2 ⟨r1,rfl,hb2,ho1⟩
 have z2:=hb2.size
 have F2:=Lib.hid ((hb2.block (w.heap.size+1) (by omega)).trans F1.out)
 have B2:=Lib.hid (B0.out.trans (hb2.mono (by omega)))
 obtain⟨ra,rc,hr1⟩:=ho1.form
 have HO1:=Lib.hid ho1
 subst hr1
 clear hb2 ho1 F0 F1 B0
 have e0:w2.cell? ⟨w.heap.size+1,0,none⟩=some (.string ⟨im.name.toArray⟩):=by rw [Lib.cell_of_heap F2.out];rfl
 have e1:w2.cell? ⟨w.heap.size+1,1,none⟩=some (.int .i64 im.flags):=by rw [Lib.cell_of_heap F2.out];rfl
 have e2:w2.cell? ⟨w.heap.size+1,2,none⟩=some (.slice qa0 im.segs.length qc0):=by rw [Lib.cell_of_heap F2.out];rfl
 have e3:w2.cell? ⟨w.heap.size+1,3,none⟩=some (.slice qa1 im.needed.length qc1):=by rw [Lib.cell_of_heap F2.out];rfl
 have e4:w2.cell? ⟨w.heap.size+1,4,none⟩=some (.slice qa2 im.runPath.length qc2):=by rw [Lib.cell_of_heap F2.out];rfl
 have e5:w2.cell? ⟨w.heap.size+1,5,none⟩=some (.slice qa3 im.syms.length qc3):=by rw [Lib.cell_of_heap F2.out];rfl
 have e6:w2.cell? ⟨w.heap.size+1,6,none⟩=some (.slice qa4 im.buckets.length qc4):=by rw [Lib.cell_of_heap F2.out];rfl
 have e7:w2.cell? ⟨w.heap.size+1,7,none⟩=some (.slice qa5 im.words.length qc5):=by rw [Lib.cell_of_heap F2.out];rfl
 have e8:w2.cell? ⟨w.heap.size+1,8,none⟩=some (.int .i64 im.shift):=by rw [Lib.cell_of_heap F2.out];rfl
 have e9:w2.cell? ⟨w.heap.size+1,9,none⟩=some (.slice qa6 im.relocs.length qc6):=by rw [Lib.cell_of_heap F2.out];rfl
 have e10:w2.cell? ⟨w.heap.size+1,10,none⟩=some (.slice qa7 im.slots.length qc7):=by rw [Lib.cell_of_heap F2.out];rfl
 have e11:w2.cell? ⟨w.heap.size+1,11,none⟩=some (.slice qa8 im.init.length qc8):=by rw [Lib.cell_of_heap F2.out];rfl
 have e12:w2.cell? ⟨w.heap.size+1,12,none⟩=some (.slice qa9 im.fini.length qc9):=by rw [Lib.cell_of_heap F2.out];rfl
 have e13:w2.cell? ⟨w.heap.size+1,13,none⟩=some (.slice qa10 im.tls.length qc10):=by rw [Lib.cell_of_heap F2.out];rfl
 have e14:w2.cell? ⟨w.heap.size+1,14,none⟩=some (.int .i64 im.tlsSize):=by rw [Lib.cell_of_heap F2.out];rfl
 have HJ:=Lib.hid (jform_any w2 ⟨.slice qa0 im.segs.length qc0,.slice qa1 im.needed.length qc1,.slice qa2 im.runPath.length qc2,.slice qa3 im.syms.length qc3,.slice qa4 im.buckets.length qc4,.slice qa5 im.words.length qc5,.slice qa6 im.relocs.length qc6,.slice qa7 im.slots.length qc7,.slice qa8 im.init.length qc8,.slice qa9 im.fini.length qc9,.slice qa10 im.tls.length qc10⟩ im (HB.out.later B2.out) hmay)
 go_wp2_with fail
 refine HJ.out.mono ?_
 clear HJ e0 e1 e2 e3 e4 e5 e6 e7 e8 e9 e10 e11 e12 e13 e14
 rintro e w3 ⟨r2,rfl,hb3,ho2⟩
 have B3:=Lib.hid (B2.out.trans (hb3.mono (by omega)))
 obtain⟨sa,sc,hr2⟩:=ho2.form
 have hc1:=run_str (HO1.out.below hb3).lb
 have hc2:=run_str ho2.lb
 subst hr2
 clear hb3 ho2 F2 B2 HO1 HA HB hmay
 generalize formL im=fl at *
 go_wp2
 go_ret
 exact⟨rfl,B3.out⟩
theorem dempty_any (w:World) (v:ImgV) {S:Nat→Prop} (h1:ImgM S w v emptyL):
  Calls Tryz.prog 9 #[.agg (imgCells v emptyL)] w fun e w'=>e=.returned (.bool true)∧Below w.heap.size w w':=by
 obtain⟨y0,y1,y2,y3,y4,y5,y6,y7,y8,y9,y10⟩:=v
 obtain⟨a0,c0,hf⟩:=h1.segs.form
 replace hf:y0=.slice a0 0 c0:=hf
 subst hf
 obtain⟨a1,c1,hf⟩:=h1.needed.form
 replace hf:y1=.slice a1 0 c1:=hf
 subst hf
 obtain⟨a2,c2,hf⟩:=h1.runPath.form
 replace hf:y2=.slice a2 0 c2:=hf
 subst hf
 obtain⟨a3,c3,hf⟩:=h1.syms.form
 replace hf:y3=.slice a3 0 c3:=hf
 subst hf
 obtain⟨a4,c4,hf⟩:=h1.buckets.form
 replace hf:y4=.slice a4 0 c4:=hf
 subst hf
 obtain⟨a5,c5,hf⟩:=h1.words.form
 replace hf:y5=.slice a5 0 c5:=hf
 subst hf
 obtain⟨a6,c6,hf⟩:=h1.relocs.form
 replace hf:y6=.slice a6 0 c6:=hf
 subst hf
 obtain⟨a7,c7,hf⟩:=h1.slots.form
 replace hf:y7=.slice a7 0 c7:=hf
 subst hf
 obtain⟨a8,c8,hf⟩:=h1.init.form
 replace hf:y8=.slice a8 0 c8:=hf
 subst hf
 obtain⟨a9,c9,hf⟩:=h1.fini.form
 replace hf:y9=.slice a9 0 c9:=hf
 subst hf
 obtain⟨a10,c10,hf⟩:=h1.tls.form
 replace hf:y10=.slice a10 0 c10:=hf
 subst hf
 clear h1
 have he:imgCells ⟨.slice a0 0 c0,.slice a1 0 c1,.slice a2 0 c2,.slice a3 0 c3,.slice a4 0 c4,.slice a5 0 c5,.slice a6 0 c6,.slice a7 0 c7,.slice a8 0 c8,.slice a9 0 c9,.slice a10 0 c10⟩ emptyL=#[.string ⟨#[]⟩,.int .i64 0,.slice a0 0 c0,.slice a1 0 c1,.slice a2 0 c2,.slice a3 0 c3,.slice a4 0 c4,.slice a5 0 c5,.int .i64 0,.slice a6 0 c6,.slice a7 0 c7,.slice a8 0 c8,.slice a9 0 c9,.slice a10 0 c10,.int .i64 0]:=rfl
 rw [he]
 clear he
 have F0:=Lib.hid (heap_alloc_new w (.cells #[.string ⟨#[]⟩,.int .i64 0,.slice a0 0 c0,.slice a1 0 c1,.slice a2 0 c2,.slice a3 0 c3,.slice a4 0 c4,.slice a5 0 c5,.int .i64 0,.slice a6 0 c6,.slice a7 0 c7,.slice a8 0 c8,.slice a9 0 c9,.slice a10 0 c10,.int .i64 0] 40 (0,0)))
 have B0:=Lib.hid ((Below.refl w.heap.size w).alloc (Nat.le_refl _) (.cells #[.string ⟨#[]⟩,.int .i64 0,.slice a0 0 c0,.slice a1 0 c1,.slice a2 0 c2,.slice a3 0 c3,.slice a4 0 c4,.slice a5 0 c5,.int .i64 0,.slice a6 0 c6,.slice a7 0 c7,.slice a8 0 c8,.slice a9 0 c9,.slice a10 0 c10,.int .i64 0] 40 (0,0)))
 go_enter Tryz.func9,Tryz.ntmps9
 go_upto_region 1 with fail
 generalize w.alloc (.cells #[.string ⟨#[]⟩,.int .i64 0,.slice a0 0 c0,.slice a1 0 c1,.slice a2 0 c2,.slice a3 0 c3,.slice a4 0 c4,.slice a5 0 c5,.int .i64 0,.slice a6 0 c6,.slice a7 0 c7,.slice a8 0 c8,.slice a9 0 c9,.slice a10 0 c10,.int .i64 0] 40 (0,0))=w1 at *
 have e0:w1.cell? ⟨w.heap.size,0,none⟩=some (.string ⟨#[]⟩):=by rw [Lib.cell_of_heap F0.out];rfl
 have e1:w1.cell? ⟨w.heap.size,1,none⟩=some (.int .i64 0):=by rw [Lib.cell_of_heap F0.out];rfl
 have e2:w1.cell? ⟨w.heap.size,2,none⟩=some (.slice a0 0 c0):=by rw [Lib.cell_of_heap F0.out];rfl
 have e3:w1.cell? ⟨w.heap.size,3,none⟩=some (.slice a1 0 c1):=by rw [Lib.cell_of_heap F0.out];rfl
 have e4:w1.cell? ⟨w.heap.size,4,none⟩=some (.slice a2 0 c2):=by rw [Lib.cell_of_heap F0.out];rfl
 have e5:w1.cell? ⟨w.heap.size,5,none⟩=some (.slice a3 0 c3):=by rw [Lib.cell_of_heap F0.out];rfl
 have e6:w1.cell? ⟨w.heap.size,6,none⟩=some (.slice a4 0 c4):=by rw [Lib.cell_of_heap F0.out];rfl
 have e7:w1.cell? ⟨w.heap.size,7,none⟩=some (.slice a5 0 c5):=by rw [Lib.cell_of_heap F0.out];rfl
 have e8:w1.cell? ⟨w.heap.size,8,none⟩=some (.int .i64 0):=by rw [Lib.cell_of_heap F0.out];rfl
 have e9:w1.cell? ⟨w.heap.size,9,none⟩=some (.slice a6 0 c6):=by rw [Lib.cell_of_heap F0.out];rfl
 have e10:w1.cell? ⟨w.heap.size,10,none⟩=some (.slice a7 0 c7):=by rw [Lib.cell_of_heap F0.out];rfl
 have e11:w1.cell? ⟨w.heap.size,11,none⟩=some (.slice a8 0 c8):=by rw [Lib.cell_of_heap F0.out];rfl
 have e12:w1.cell? ⟨w.heap.size,12,none⟩=some (.slice a9 0 c9):=by rw [Lib.cell_of_heap F0.out];rfl
 have e13:w1.cell? ⟨w.heap.size,13,none⟩=some (.slice a10 0 c10):=by rw [Lib.cell_of_heap F0.out];rfl
 have e14:w1.cell? ⟨w.heap.size,14,none⟩=some (.int .i64 0):=by rw [Lib.cell_of_heap F0.out];rfl
 go_wp2
 go_ret
 exact⟨rfl,B0.out⟩
end Go.Proofs.YtfchpchabdhcgaaGreat
