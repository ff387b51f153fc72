/- Lemmas. -/
import Derived.Test.YtfchpchabdhcgaaGreatDec41
import Derived.Test.YtfchpchabdhcgaaGreatDec35
import Derived.Test.YtfchpchabdhcgaaGreatDec38
import Derived.Deep.DeepCutAuto
set_option linter.unusedVariables false
set_option linter.unusedSimpArgs false
set_option maxHeartbeats 64000000
set_option maxRecDepth 100000
namespace Go.Proofs.YtfchpchabdhcgaaGreat
open Go.RowKit
theorem lb_row {w:World} {g:Nat} {l:List UInt8} (h:w.heap[g]? =some (.cells (bvs (l++[201,201,201])).toArray 5 (0,0))) (hl:l.length≤140737488355328):LB kByte (fun x=>x=g) w (.slice (some ⟨g,0,none⟩) l.length (l.length+3)) l:=
 ⟨some ⟨g,0,none⟩,g,0,l.length+3,rfl,by omega,fun _=>rfl,⟨by omega,fun h=>by cases h⟩,fun _=>rfl,fun i x hx=>⟨[.int .u8 x.toNat],rfl,fun j u hu=>by
  obtain⟨hi,rfl⟩:=List.getElem?_eq_some_iff.1 hx
  cases j with
  | zero=>
   obtain rfl:=Option.some.inj hu
   show w.cell? ⟨g,0+i*1+0,none⟩=_
   rw [Nat.zero_add,Nat.mul_one,Nat.add_zero]
   refine heap_cell h ?_
   rw [bvs_at _ i (by simp;omega)]
   simp [List.getElem_append_left hi]
  | succ j=>cases hu⟩⟩
theorem dec_cases (l:List UInt8):((decL l).2=0∧mayL (decL l).1=0)∨((decL l).2≠0∧(decL l).1=emptyL):=by
 unfold decL
 split
 ·right;exact⟨by decide,rfl⟩
 ·rename_i x _
  by_cases hm:mayL x=0
  ·left;rw [if_pos hm];exact⟨rfl,hm⟩
  ·right;rw [if_neg hm];exact⟨hm,rfl⟩
theorem decodes_of (HDec:DecSays) (w:World) (bv:Value) (l:List UInt8) (hl:LB kByte (·<w.heap.size) w bv l) (hlen:l.length≤140737488355328):
  Calls Tryz.prog 3 #[bv] w fun e w'=>e=.returned (.bool true)∧Below w.heap.size w w':=by
 have HAw:=Lib.hid (awake_says HDec)
 have HCs:=Lib.hid (dec_cases l)
 have Hne:Hid (∀ g g2 off cap,w.heap.size≤g→bv=.slice (some ⟨g2,off,none⟩) l.length cap→0<l.length→g2≠g):=Lib.hid (fun g g2 off cap hg hv h0=>by
  obtain⟨a,bb,off',cap',hv',_,_,hat⟩:=hl.at
  have ha:=hat.addr h0
  have hb:=hat.inS h0
  subst ha
  rw [hv']at hv
  injection hv with h1 h2 h3
  injection h1 with h1
  injection h1 with h1
  have hb:bb<w.heap.size:=hb
  omega)
 obtain⟨ba,bc,hf⟩:=hl.form
 have HL:=Lib.hid hl
 have Hlen:=Lib.hid hlen
 subst hf
 obtain⟨n,hn⟩:∃ n,n=l.length:=⟨_,rfl⟩
 have Hn:=Lib.hid hn
 rw [← hn]at HL Hne ⊢
 clear hl HDec hlen hn
 go_enter Tryz.func3,Tryz.ntmps3
 go_wp2_with fail
 refine(HAw.out _).mono ?_
 rintro e w1 ⟨rfl,hb1⟩
 have HN:=Lib.hid (lent_any w1 _ l (HL.out.below hb1).bytesV Hlen.out)
 have B1:=Lib.hid hb1
 have z1:=hb1.size
 rw [← Hn.out]at HN
 clear hb1 HAw
 go_wp2_with fail
 refine HN.out.mono ?_
 clear HN
 rintro e w2 ⟨g,rfl,hg1,hg2,hb2⟩
 have hgl:g<w2.heap.size:=by
  rcases Nat.lt_or_ge g w2.heap.size with h | h
  ·exact h
  ·rw [Array.getElem?_eq_none h]at hg2;cases hg2
 have HN:=Lib.hid (idecode_any w2 _ l ((lb_row hg2 Hlen.out).imp (fun b hb=>by have hb:b=g:=hb;show b<_;omega)) Hlen.out (by omega))
 rw [← Hn.out]at HN
 have G2:=Lib.hid hg2
 have B2:=Lib.hid (B1.out.trans (hb2.mono z1))
 have z2:=hb2.size
 clear hb2 hg2 B1
 go_wp2_with fail
 refine HN.out.mono ?_
 clear HN
 rintro e w3 ⟨v,rfl,hb3,hm3⟩
 have HNz:=Lib.hid (fun (wz:World) (bv:Value) (h:LB kByte (·<wz.heap.size) wz bv l) (h0:0<wz.heap.size)=>zdecode_any wz bv l h h0)
 generalize (decL l).1=im at *
 generalize (decL l).2=code at *
 obtain⟨py0,py1,py2,py3,py4,py5,py6,py7,py8,py9,py10⟩:=v
 obtain⟨pa0,pc0,hf⟩:=hm3.segs.form
 replace hf:py0=.slice pa0 im.segs.length pc0:=hf
 subst hf
 obtain⟨pa1,pc1,hf⟩:=hm3.needed.form
 replace hf:py1=.slice pa1 im.needed.length pc1:=hf
 subst hf
 obtain⟨pa2,pc2,hf⟩:=hm3.runPath.form
 replace hf:py2=.slice pa2 im.runPath.length pc2:=hf
 subst hf
 obtain⟨pa3,pc3,hf⟩:=hm3.syms.form
 replace hf:py3=.slice pa3 im.syms.length pc3:=hf
 subst hf
 obtain⟨pa4,pc4,hf⟩:=hm3.buckets.form
 replace hf:py4=.slice pa4 im.buckets.length pc4:=hf
 subst hf
 obtain⟨pa5,pc5,hf⟩:=hm3.words.form
 replace hf:py5=.slice pa5 im.words.length pc5:=hf
 subst hf
 obtain⟨pa6,pc6,hf⟩:=hm3.relocs.form
 replace hf:py6=.slice pa6 im.relocs.length pc6:=hf
 subst hf
 obtain⟨pa7,pc7,hf⟩:=hm3.slots.form
 replace hf:py7=.slice pa7 im.slots.length pc7:=hf
 subst hf
 obtain⟨pa8,pc8,hf⟩:=hm3.init.form
 replace hf:py8=.slice pa8 im.init.length pc8:=hf
 subst hf
 obtain⟨pa9,pc9,hf⟩:=hm3.fini.form
 replace hf:py9=.slice pa9 im.fini.length pc9:=hf
 subst hf
 obtain⟨pa10,pc10,hf⟩:=hm3.tls.form
 replace hf:py10=.slice pa10 im.tls.length pc10:=hf
 subst hf
 have HM3:=Lib.hid hm3
 have G3:=Lib.hid ((hb3.block g hgl).trans G2.out)
 have B3:=Lib.hid (B2.out.trans (hb3.mono (by omega)))
 have z3:=hb3.size
 clear hb3 hm3 G2 B2
 have FA:=Lib.hid (heap_alloc_new w3 (.cells #[.string ⟨#[]⟩,.int .i64 0,.slice none 0 0,.slice none 0 0,.slice none 0 0,.slice none 0 0,.slice none 0 0,.slice none 0 0,.int .i64 0,.slice none 0 0,.slice none 0 0,.slice none 0 0,.slice none 0 0,.slice none 0 0,.int .i64 0] 40 (0,0)))
 go_upto_region 4 with (refine wpList_store_row rfl 40 (.tmp 5) (.tmp 16) rfl w3.heap.size (#[.string ⟨im.name.toArray⟩,.int .i64 im.flags,.slice pa0 im.segs.length pc0,.slice pa1 im.needed.length pc1,.slice pa2 im.runPath.length pc2,.slice pa3 im.syms.length pc3,.slice pa4 im.buckets.length pc4,.slice pa5 im.words.length pc5,.int .i64 im.shift,.slice pa6 im.relocs.length pc6,.slice pa7 im.slots.length pc7,.slice pa8 im.init.length pc8,.slice pa9 im.fini.length pc9,.slice pa10 im.tls.length pc10,.int .i64 im.tlsSize]) rfl rfl _ _ FA.out (by kernel_rfl) rfl (by simp [Value.oneCell']) ?_)
 have FX:=Lib.hid (setRow_heap _ w3.heap.size _ (#[.string ⟨im.name.toArray⟩,.int .i64 im.flags,.slice pa0 im.segs.length pc0,.slice pa1 im.needed.length pc1,.slice pa2 im.runPath.length pc2,.slice pa3 im.syms.length pc3,.slice pa4 im.buckets.length pc4,.slice pa5 im.words.length pc5,.int .i64 im.shift,.slice pa6 im.relocs.length pc6,.slice pa7 im.slots.length pc7,.slice pa8 im.init.length pc8,.slice pa9 im.fini.length pc9,.slice pa10 im.tls.length pc10,.int .i64 im.tlsSize]) _ _ FA.out)
 have hs:Step (fun x=>x<w3.heap.size) w3 ((w3.alloc (.cells #[.string ⟨#[]⟩,.int .i64 0,.slice none 0 0,.slice none 0 0,.slice none 0 0,.slice none 0 0,.slice none 0 0,.slice none 0 0,.int .i64 0,.slice none 0 0,.slice none 0 0,.slice none 0 0,.slice none 0 0,.slice none 0 0,.int .i64 0] 40 (0,0))).setRow w3.heap.size (#[.string ⟨im.name.toArray⟩,.int .i64 im.flags,.slice pa0 im.segs.length pc0,.slice pa1 im.needed.length pc1,.slice pa2 im.runPath.length pc2,.slice pa3 im.syms.length pc3,.slice pa4 im.buckets.length pc4,.slice pa5 im.words.length pc5,.int .i64 im.shift,.slice pa6 im.relocs.length pc6,.slice pa7 im.slots.length pc7,.slice pa8 im.init.length pc8,.slice pa9 im.fini.length pc9,.slice pa10 im.tls.length pc10,.int .i64 im.tlsSize])):=(Step.of_below ((Below.refl _ w3).alloc (Nat.le_refl _) (.cells #[.string ⟨#[]⟩,.int .i64 0,.slice none 0 0,.slice none 0 0,.slice none 0 0,.slice none 0 0,.slice none 0 0,.slice none 0 0,.int .i64 0,.slice none 0 0,.slice none 0 0,.slice none 0 0,.slice none 0 0,.slice none 0 0,.int .i64 0] 40 (0,0)))).trans ((step_setRow _ w3.heap.size (#[.string ⟨im.name.toArray⟩,.int .i64 im.flags,.slice pa0 im.segs.length pc0,.slice pa1 im.needed.length pc1,.slice pa2 im.runPath.length pc2,.slice pa3 im.syms.length pc3,.slice pa4 im.buckets.length pc4,.slice pa5 im.words.length pc5,.int .i64 im.shift,.slice pa6 im.relocs.length pc6,.slice pa7 im.slots.length pc7,.slice pa8 im.init.length pc8,.slice pa9 im.fini.length pc9,.slice pa10 im.tls.length pc10,.int .i64 im.tlsSize])).imp (fun x h=>by have h:x<w3.heap.size:=h;show x≠_;omega))
 have z4:w3.heap.size<((w3.alloc (.cells #[.string ⟨#[]⟩,.int .i64 0,.slice none 0 0,.slice none 0 0,.slice none 0 0,.slice none 0 0,.slice none 0 0,.slice none 0 0,.int .i64 0,.slice none 0 0,.slice none 0 0,.slice none 0 0,.slice none 0 0,.slice none 0 0,.int .i64 0] 40 (0,0))).setRow w3.heap.size (#[.string ⟨im.name.toArray⟩,.int .i64 im.flags,.slice pa0 im.segs.length pc0,.slice pa1 im.needed.length pc1,.slice pa2 im.runPath.length pc2,.slice pa3 im.syms.length pc3,.slice pa4 im.buckets.length pc4,.slice pa5 im.words.length pc5,.int .i64 im.shift,.slice pa6 im.relocs.length pc6,.slice pa7 im.slots.length pc7,.slice pa8 im.init.length pc8,.slice pa9 im.fini.length pc9,.slice pa10 im.tls.length pc10,.int .i64 im.tlsSize])).heap.size:=by simp
 have G4:=Lib.hid ((hs.block g (by show g<_;omega)).trans G3.out)
 have B4:=Lib.hid (B3.out.trans ((hs.imp (S':=fun x=>x<w.heap.size) (fun x h=>by have h:x<w.heap.size:=h;show x<_;omega)).below))
 have HM4:=Lib.hid ((HM3.out.keeps (fun b hb=>hs.block b hb.2)))
 clear hs G3 B3 HM3 FA
 generalize (w3.alloc (.cells #[.string ⟨#[]⟩,.int .i64 0,.slice none 0 0,.slice none 0 0,.slice none 0 0,.slice none 0 0,.slice none 0 0,.slice none 0 0,.int .i64 0,.slice none 0 0,.slice none 0 0,.slice none 0 0,.slice none 0 0,.slice none 0 0,.int .i64 0] 40 (0,0))).setRow w3.heap.size (#[.string ⟨im.name.toArray⟩,.int .i64 im.flags,.slice pa0 im.segs.length pc0,.slice pa1 im.needed.length pc1,.slice pa2 im.runPath.length pc2,.slice pa3 im.syms.length pc3,.slice pa4 im.buckets.length pc4,.slice pa5 im.words.length pc5,.int .i64 im.shift,.slice pa6 im.relocs.length pc6,.slice pa7 im.slots.length pc7,.slice pa8 im.init.length pc8,.slice pa9 im.fini.length pc9,.slice pa10 im.tls.length pc10,.int .i64 im.tlsSize])=w4 at *
 obtain⟨xb,hxb⟩:∃ xb,xb=w3.heap.size:=⟨_,rfl⟩
 have Hxb:=Lib.hid hxb
 rw [← hxb]at FX HM4 z4 ⊢
 have zx:w2.heap.size≤xb:=by omega
 clear hxb z3
 have HN:=Lib.hid (back_any w4 g _ l G4.out ((HL.out.below B4.out).bytesV) (fun g2 off cap hv h0=>Hne.out g g2 off cap (by omega) (by rw [← Hn.out]at hv;exact hv) (by rw [Hn.out];exact h0)) Hlen.out)
 rw [← Hn.out]at HN
 go_wp2_with fail
 refine HN.out.mono ?_
 clear HN
 rintro e w5 ⟨rfl,hgr⟩
 have hs:Step (fun b=>b<w4.heap.size∧b≠g) w4 w5:=Step.of_grown hgr (fun b hb=>⟨hb.1,fun e=>hb.2 (Option.some.inj e).symm⟩)
 have z5:=hs.size
 have FX5:=Lib.hid ((hs.block xb ⟨by omega,by omega⟩).trans FX.out)
 have B5:=Lib.hid (B4.out.trans ((hs.imp (S':=fun x=>x<w.heap.size) (fun x h=>by have h:x<w.heap.size:=h;exact⟨by omega,by omega⟩)).below))
 have HM5:=Lib.hid (HM4.out.keeps (fun b hb=>hs.block b ⟨by have:=hb.2;omega,by have:=hb.1;omega⟩))
 have HN:=Lib.hid (HNz.out w5 _ ((HL.out.below B5.out).mono (by omega)) (by omega))
 clear hs hgr FX B4 HM4 G4 HNz
 go_wp2_with fail
 refine HN.out.mono ?_
 clear HN
 rintro e w6 ⟨v2,rfl,hb6,hm6⟩
 obtain⟨qy0,qy1,qy2,qy3,qy4,qy5,qy6,qy7,qy8,qy9,qy10⟩:=v2
 obtain⟨qa0,qc0,hf⟩:=hm6.segs.form
 replace hf:qy0=.slice qa0 im.segs.length qc0:=hf
 subst hf
 obtain⟨qa1,qc1,hf⟩:=hm6.needed.form
 replace hf:qy1=.slice qa1 im.needed.length qc1:=hf
 subst hf
 obtain⟨qa2,qc2,hf⟩:=hm6.runPath.form
 replace hf:qy2=.slice qa2 im.runPath.length qc2:=hf
 subst hf
 obtain⟨qa3,qc3,hf⟩:=hm6.syms.form
 replace hf:qy3=.slice qa3 im.syms.length qc3:=hf
 subst hf
 obtain⟨qa4,qc4,hf⟩:=hm6.buckets.form
 replace hf:qy4=.slice qa4 im.buckets.length qc4:=hf
 subst hf
 obtain⟨qa5,qc5,hf⟩:=hm6.words.form
 replace hf:qy5=.slice qa5 im.words.length qc5:=hf
 subst hf
 obtain⟨qa6,qc6,hf⟩:=hm6.relocs.form
 replace hf:qy6=.slice qa6 im.relocs.length qc6:=hf
 subst hf
 obtain⟨qa7,qc7,hf⟩:=hm6.slots.form
 replace hf:qy7=.slice qa7 im.slots.length qc7:=hf
 subst hf
 obtain⟨qa8,qc8,hf⟩:=hm6.init.form
 replace hf:qy8=.slice qa8 im.init.length qc8:=hf
 subst hf
 obtain⟨qa9,qc9,hf⟩:=hm6.fini.form
 replace hf:qy9=.slice qa9 im.fini.length qc9:=hf
 subst hf
 obtain⟨qa10,qc10,hf⟩:=hm6.tls.form
 replace hf:qy10=.slice qa10 im.tls.length qc10:=hf
 subst hf
 have z6:=hb6.size
 have FX6:=Lib.hid ((hb6.block xb (by omega)).trans FX5.out)
 have B6:=Lib.hid (B5.out.trans (hb6.mono (by omega)))
 have HM6:=Lib.hid (HM5.out.keeps (fun b hb=>hb6.block b (by have:=hb.2;omega)))
 have HW6:=Lib.hid hm6
 clear hb6 hm6 FX5 B5 HM5
 have FA:=Lib.hid (heap_alloc_new w6 (.cells #[.string ⟨#[]⟩,.int .i64 0,.slice none 0 0,.slice none 0 0,.slice none 0 0,.slice none 0 0,.slice none 0 0,.slice none 0 0,.int .i64 0,.slice none 0 0,.slice none 0 0,.slice none 0 0,.slice none 0 0,.slice none 0 0,.int .i64 0] 40 (0,0)))
 go_upto_region 6 with (refine wpList_store_row rfl 40 (.tmp 8) (.tmp 24) rfl w6.heap.size (#[.string ⟨im.name.toArray⟩,.int .i64 im.flags,.slice qa0 im.segs.length qc0,.slice qa1 im.needed.length qc1,.slice qa2 im.runPath.length qc2,.slice qa3 im.syms.length qc3,.slice qa4 im.buckets.length qc4,.slice qa5 im.words.length qc5,.int .i64 im.shift,.slice qa6 im.relocs.length qc6,.slice qa7 im.slots.length qc7,.slice qa8 im.init.length qc8,.slice qa9 im.fini.length qc9,.slice qa10 im.tls.length qc10,.int .i64 im.tlsSize]) rfl rfl _ _ FA.out (by kernel_rfl) rfl (by simp [Value.oneCell']) ?_)
 have FY:=Lib.hid (setRow_heap _ w6.heap.size _ (#[.string ⟨im.name.toArray⟩,.int .i64 im.flags,.slice qa0 im.segs.length qc0,.slice qa1 im.needed.length qc1,.slice qa2 im.runPath.length qc2,.slice qa3 im.syms.length qc3,.slice qa4 im.buckets.length qc4,.slice qa5 im.words.length qc5,.int .i64 im.shift,.slice qa6 im.relocs.length qc6,.slice qa7 im.slots.length qc7,.slice qa8 im.init.length qc8,.slice qa9 im.fini.length qc9,.slice qa10 im.tls.length qc10,.int .i64 im.tlsSize]) _ _ FA.out)
 have hs:Step (fun x=>x<w6.heap.size) w6 ((w6.alloc (.cells #[.string ⟨#[]⟩,.int .i64 0,.slice none 0 0,.slice none 0 0,.slice none 0 0,.slice none 0 0,.slice none 0 0,.slice none 0 0,.int .i64 0,.slice none 0 0,.slice none 0 0,.slice none 0 0,.slice none 0 0,.slice none 0 0,.int .i64 0] 40 (0,0))).setRow w6.heap.size (#[.string ⟨im.name.toArray⟩,.int .i64 im.flags,.slice qa0 im.segs.length qc0,.slice qa1 im.needed.length qc1,.slice qa2 im.runPath.length qc2,.slice qa3 im.syms.length qc3,.slice qa4 im.buckets.length qc4,.slice qa5 im.words.length qc5,.int .i64 im.shift,.slice qa6 im.relocs.length qc6,.slice qa7 im.slots.length qc7,.slice qa8 im.init.length qc8,.slice qa9 im.fini.length qc9,.slice qa10 im.tls.length qc10,.int .i64 im.tlsSize])):=(Step.of_below ((Below.refl _ w6).alloc (Nat.le_refl _) (.cells #[.string ⟨#[]⟩,.int .i64 0,.slice none 0 0,.slice none 0 0,.slice none 0 0,.slice none 0 0,.slice none 0 0,.slice none 0 0,.int .i64 0,.slice none 0 0,.slice none 0 0,.slice none 0 0,.slice none 0 0,.slice none 0 0,.int .i64 0] 40 (0,0)))).trans ((step_setRow _ w6.heap.size (#[.string ⟨im.name.toArray⟩,.int .i64 im.flags,.slice qa0 im.segs.length qc0,.slice qa1 im.needed.length qc1,.slice qa2 im.runPath.length qc2,.slice qa3 im.syms.length qc3,.slice qa4 im.buckets.length qc4,.slice qa5 im.words.length qc5,.int .i64 im.shift,.slice qa6 im.relocs.length qc6,.slice qa7 im.slots.length qc7,.slice qa8 im.init.length qc8,.slice qa9 im.fini.length qc9,.slice qa10 im.tls.length qc10,.int .i64 im.tlsSize])).imp (fun x h=>by have h:x<w6.heap.size:=h;show x≠_;omega))
 have z7:w6.heap.size<((w6.alloc (.cells #[.string ⟨#[]⟩,.int .i64 0,.slice none 0 0,.slice none 0 0,.slice none 0 0,.slice none 0 0,.slice none 0 0,.slice none 0 0,.int .i64 0,.slice none 0 0,.slice none 0 0,.slice none 0 0,.slice none 0 0,.slice none 0 0,.int .i64 0] 40 (0,0))).setRow w6.heap.size (#[.string ⟨im.name.toArray⟩,.int .i64 im.flags,.slice qa0 im.segs.length qc0,.slice qa1 im.needed.length qc1,.slice qa2 im.runPath.length qc2,.slice qa3 im.syms.length qc3,.slice qa4 im.buckets.length qc4,.slice qa5 im.words.length qc5,.int .i64 im.shift,.slice qa6 im.relocs.length qc6,.slice qa7 im.slots.length qc7,.slice qa8 im.init.length qc8,.slice qa9 im.fini.length qc9,.slice qa10 im.tls.length qc10,.int .i64 im.tlsSize])).heap.size:=by simp
 have FX7:=Lib.hid ((hs.block xb (by show xb<_;omega)).trans FX6.out)
 have B7:=Lib.hid (B6.out.trans ((hs.imp (S':=fun x=>x<w.heap.size) (fun x h=>by have h:x<w.heap.size:=h;show x<_;omega)).below))
 have HM7:=Lib.hid ((HM6.out.keeps (fun b hb=>hs.block b (by have:=hb.2;show b<_;omega))).imp (S':=fun b=>b<((w6.alloc (.cells #[.string ⟨#[]⟩,.int .i64 0,.slice none 0 0,.slice none 0 0,.slice none 0 0,.slice none 0 0,.slice none 0 0,.slice none 0 0,.int .i64 0,.slice none 0 0,.slice none 0 0,.slice none 0 0,.slice none 0 0,.slice none 0 0,.int .i64 0] 40 (0,0))).setRow w6.heap.size (#[.string ⟨im.name.toArray⟩,.int .i64 im.flags,.slice qa0 im.segs.length qc0,.slice qa1 im.needed.length qc1,.slice qa2 im.runPath.length qc2,.slice qa3 im.syms.length qc3,.slice qa4 im.buckets.length qc4,.slice qa5 im.words.length qc5,.int .i64 im.shift,.slice qa6 im.relocs.length qc6,.slice qa7 im.slots.length qc7,.slice qa8 im.init.length qc8,.slice qa9 im.fini.length qc9,.slice qa10 im.tls.length qc10,.int .i64 im.tlsSize])).heap.size) (fun b hb=>by have:=hb.2;omega))
 have HW7:=Lib.hid ((HW6.out.keeps (fun b hb=>hs.block b hb.2)).imp (S':=fun b=>b<((w6.alloc (.cells #[.string ⟨#[]⟩,.int .i64 0,.slice none 0 0,.slice none 0 0,.slice none 0 0,.slice none 0 0,.slice none 0 0,.slice none 0 0,.int .i64 0,.slice none 0 0,.slice none 0 0,.slice none 0 0,.slice none 0 0,.slice none 0 0,.int .i64 0] 40 (0,0))).setRow w6.heap.size (#[.string ⟨im.name.toArray⟩,.int .i64 im.flags,.slice qa0 im.segs.length qc0,.slice qa1 im.needed.length qc1,.slice qa2 im.runPath.length qc2,.slice qa3 im.syms.length qc3,.slice qa4 im.buckets.length qc4,.slice qa5 im.words.length qc5,.int .i64 im.shift,.slice qa6 im.relocs.length qc6,.slice qa7 im.slots.length qc7,.slice qa8 im.init.length qc8,.slice qa9 im.fini.length qc9,.slice qa10 im.tls.length qc10,.int .i64 im.tlsSize])).heap.size) (fun b hb=>by have:=hb.2;omega))
 clear hs FX6 B6 HM6 HW6 FA
 generalize (w6.alloc (.cells #[.string ⟨#[]⟩,.int .i64 0,.slice none 0 0,.slice none 0 0,.slice none 0 0,.slice none 0 0,.slice none 0 0,.slice none 0 0,.int .i64 0,.slice none 0 0,.slice none 0 0,.slice none 0 0,.slice none 0 0,.slice none 0 0,.int .i64 0] 40 (0,0))).setRow w6.heap.size (#[.string ⟨im.name.toArray⟩,.int .i64 im.flags,.slice qa0 im.segs.length qc0,.slice qa1 im.needed.length qc1,.slice qa2 im.runPath.length qc2,.slice qa3 im.syms.length qc3,.slice qa4 im.buckets.length qc4,.slice qa5 im.words.length qc5,.int .i64 im.shift,.slice qa6 im.relocs.length qc6,.slice qa7 im.slots.length qc7,.slice qa8 im.init.length qc8,.slice qa9 im.fini.length qc9,.slice qa10 im.tls.length qc10,.int .i64 im.tlsSize])=w7 at *
 obtain⟨yb,hyb⟩:∃ yb,yb=w6.heap.size:=⟨_,rfl⟩
 rw [← hyb]at FY z7 ⊢
 have zy:xb<yb:=by omega
 clear hyb HL Hlen Hn Hne
 have hcc:(code != code)=false:=by simp
 have i0:w7.cell? ⟨xb,0,none⟩=some (.string ⟨im.name.toArray⟩):=by rw [Lib.cell_of_heap FX7.out];rfl
 have i1:w7.cell? ⟨xb,1,none⟩=some (.int .i64 im.flags):=by rw [Lib.cell_of_heap FX7.out];rfl
 have i2:w7.cell? ⟨xb,2,none⟩=some (.slice pa0 im.segs.length pc0):=by rw [Lib.cell_of_heap FX7.out];rfl
 have i3:w7.cell? ⟨xb,3,none⟩=some (.slice pa1 im.needed.length pc1):=by rw [Lib.cell_of_heap FX7.out];rfl
 have i4:w7.cell? ⟨xb,4,none⟩=some (.slice pa2 im.runPath.length pc2):=by rw [Lib.cell_of_heap FX7.out];rfl
 have i5:w7.cell? ⟨xb,5,none⟩=some (.slice pa3 im.syms.length pc3):=by rw [Lib.cell_of_heap FX7.out];rfl
 have i6:w7.cell? ⟨xb,6,none⟩=some (.slice pa4 im.buckets.length pc4):=by rw [Lib.cell_of_heap FX7.out];rfl
 have i7:w7.cell? ⟨xb,7,none⟩=some (.slice pa5 im.words.length pc5):=by rw [Lib.cell_of_heap FX7.out];rfl
 have i8:w7.cell? ⟨xb,8,none⟩=some (.int .i64 im.shift):=by rw [Lib.cell_of_heap FX7.out];rfl
 have i9:w7.cell? ⟨xb,9,none⟩=some (.slice pa6 im.relocs.length pc6):=by rw [Lib.cell_of_heap FX7.out];rfl
 have i10:w7.cell? ⟨xb,10,none⟩=some (.slice pa7 im.slots.length pc7):=by rw [Lib.cell_of_heap FX7.out];rfl
 have i11:w7.cell? ⟨xb,11,none⟩=some (.slice pa8 im.init.length pc8):=by rw [Lib.cell_of_heap FX7.out];rfl
 have i12:w7.cell? ⟨xb,12,none⟩=some (.slice pa9 im.fini.length pc9):=by rw [Lib.cell_of_heap FX7.out];rfl
 have i13:w7.cell? ⟨xb,13,none⟩=some (.slice pa10 im.tls.length pc10):=by rw [Lib.cell_of_heap FX7.out];rfl
 have i14:w7.cell? ⟨xb,14,none⟩=some (.int .i64 im.tlsSize):=by rw [Lib.cell_of_heap FX7.out];rfl
 rcases HCs.out with ⟨hc,hmay⟩ | ⟨hc,him⟩
 ·subst hc
  clear HCs
  have j0:w7.cell? ⟨yb,0,none⟩=some (.string ⟨im.name.toArray⟩):=by rw [Lib.cell_of_heap FY.out];rfl
  have j1:w7.cell? ⟨yb,1,none⟩=some (.int .i64 im.flags):=by rw [Lib.cell_of_heap FY.out];rfl
  have j2:w7.cell? ⟨yb,2,none⟩=some (.slice qa0 im.segs.length qc0):=by rw [Lib.cell_of_heap FY.out];rfl
  have j3:w7.cell? ⟨yb,3,none⟩=some (.slice qa1 im.needed.length qc1):=by rw [Lib.cell_of_heap FY.out];rfl
  have j4:w7.cell? ⟨yb,4,none⟩=some (.slice qa2 im.runPath.length qc2):=by rw [Lib.cell_of_heap FY.out];rfl
  have j5:w7.cell? ⟨yb,5,none⟩=some (.slice qa3 im.syms.length qc3):=by rw [Lib.cell_of_heap FY.out];rfl
  have j6:w7.cell? ⟨yb,6,none⟩=some (.slice qa4 im.buckets.length qc4):=by rw [Lib.cell_of_heap FY.out];rfl
  have j7:w7.cell? ⟨yb,7,none⟩=some (.slice qa5 im.words.length qc5):=by rw [Lib.cell_of_heap FY.out];rfl
  have j8:w7.cell? ⟨yb,8,none⟩=some (.int .i64 im.shift):=by rw [Lib.cell_of_heap FY.out];rfl
  have j9:w7.cell? ⟨yb,9,none⟩=some (.slice qa6 im.relocs.length qc6):=by rw [Lib.cell_of_heap FY.out];rfl
  have j10:w7.cell? ⟨yb,10,none⟩=some (.slice qa7 im.slots.length qc7):=by rw [Lib.cell_of_heap FY.out];rfl
  have j11:w7.cell? ⟨yb,11,none⟩=some (.slice qa8 im.init.length qc8):=by rw [Lib.cell_of_heap FY.out];rfl
  have j12:w7.cell? ⟨yb,12,none⟩=some (.slice qa9 im.fini.length qc9):=by rw [Lib.cell_of_heap FY.out];rfl
  have j13:w7.cell? ⟨yb,13,none⟩=some (.slice qa10 im.tls.length qc10):=by rw [Lib.cell_of_heap FY.out];rfl
  have j14:w7.cell? ⟨yb,14,none⟩=some (.int .i64 im.tlsSize):=by rw [Lib.cell_of_heap FY.out];rfl
  have HN:=Lib.hid (zsame_any w7 ⟨.slice pa0 im.segs.length pc0,.slice pa1 im.needed.length pc1,.slice pa2 im.runPath.length pc2,.slice pa3 im.syms.length pc3,.slice pa4 im.buckets.length pc4,.slice pa5 im.words.length pc5,.slice pa6 im.relocs.length pc6,.slice pa7 im.slots.length pc7,.slice pa8 im.init.length pc8,.slice pa9 im.fini.length pc9,.slice pa10 im.tls.length pc10⟩ ⟨.slice qa0 im.segs.length qc0,.slice qa1 im.needed.length qc1,.slice qa2 im.runPath.length qc2,.slice qa3 im.syms.length qc3,.slice qa4 im.buckets.length qc4,.slice qa5 im.words.length qc5,.slice qa6 im.relocs.length qc6,.slice qa7 im.slots.length qc7,.slice qa8 im.init.length qc8,.slice qa9 im.fini.length qc9,.slice qa10 im.tls.length qc10⟩ im HM7.out HW7.out hmay)
  go_wp2_with fail
  refine HN.out.mono ?_
  rintro e w8 ⟨rfl,hb8⟩
  have B8:=Lib.hid (B7.out.trans (hb8.mono (by omega)))
  clear hb8 HN i0 i1 i2 i3 i4 i5 i6 i7 i8 i9 i10 i11 i12 i13 i14 j0 j1 j2 j3 j4 j5 j6 j7 j8 j9 j10 j11 j12 j13 j14
  go_wp2
  go_ret
  exact⟨rfl,B8.out⟩
 ·subst him
  clear HCs
  have hd:(code != 0)=true:=by simp [hc]
  have HN:=Lib.hid (dempty_any w7 ⟨.slice pa0 emptyL.segs.length pc0,.slice pa1 emptyL.needed.length pc1,.slice pa2 emptyL.runPath.length pc2,.slice pa3 emptyL.syms.length pc3,.slice pa4 emptyL.buckets.length pc4,.slice pa5 emptyL.words.length pc5,.slice pa6 emptyL.relocs.length pc6,.slice pa7 emptyL.slots.length pc7,.slice pa8 emptyL.init.length pc8,.slice pa9 emptyL.fini.length pc9,.slice pa10 emptyL.tls.length pc10⟩ HM7.out)
  clear hc
  go_wp2_with fail
  refine HN.out.mono ?_
  rintro e w8 ⟨rfl,hb8⟩
  have B8:=Lib.hid (B7.out.trans (hb8.mono (by omega)))
  clear hb8 HN i0 i1 i2 i3 i4 i5 i6 i7 i8 i9 i10 i11 i12 i13 i14
  go_wp2
  go_ret
  exact⟨rfl,B8.out⟩
end Go.Proofs.YtfchpchabdhcgaaGreat
