/- Lemmas. -/
import Derived.Test.YtpomdoliblilfaaBld6
import Derived.Test.YtpomdoliblilfaaMby4
namespace Go.Proofs.Ytpomdoliblilfaa
set_option linter.unusedVariables false
set_option linter.unusedSimpArgs false
open Go.RowKit
set_option maxHeartbeats 16000000 in
set_option maxRecDepth 100000 in
theorem jrelocs_any (w:World) (v:ImgV) (im:ImgL) (hs:LB kSeg (·<w.heap.size) w v.segs im.segs) (hg:segsB im.segs=true) (hy:LB kSym (·<w.heap.size) w v.syms im.syms) (hfl:0≤im.flags∧im.flags<16)
  (hr:LB kRel (·<w.heap.size) w v.relocs im.relocs) (hrr:∀ r∈im.relocs,RelOk r) (hsz:∀ s∈im.syms,0≤s.size∧s.size≤9223372036854775807) (hsl:im.syms.length≤512):
  Calls Try.prog 29 #[.agg (imgCells v im)] w fun e w'=>e=.returned (.bool (relocsB im))∧Below w.heap.size w w':=by
 obtain⟨ra,rb,roff,rcap,hrv,hrm,hrc,hrat⟩:=hr.at
 obtain⟨vsegs,vneeded,vrunPath,vsyms,vbuckets,vwords,vrelocs,vslots,vinit,vfini,vtls⟩:=v
 simp only at hrv
 subst hrv
 have HR:Hid (∀ (w':World) (r:RelL),Below w.heap.size w w'→RelOk r→
  Calls Try.prog 67 #[.agg (imgCells ⟨vsegs,vneeded,vrunPath,vsyms,vbuckets,vwords,.slice ra im.relocs.length rcap,vslots,vinit,vfini,vtls⟩ im),.agg #[.int .i64 r.at_,.int .i64 r.kind,.int .i64 r.sym,.int .i64 r.add]] w' fun e w''=>e=.returned (.bool (relocB im r))∧Below w'.heap.size w' w''):=Lib.hid (fun w' r hb hx=>jfits_any w' _ im r ((hs.below hb).mono hb.size) (segOk_of hg) ((hy.below hb).mono hb.size) hfl hx.1 hx.2.1 hx.2.2 hsz)
 have HW:Hid (∀ (w':World) (r:RelL),Below w.heap.size w w'→
  Calls Try.prog 68 #[.agg (imgCells ⟨vsegs,vneeded,vrunPath,vsyms,vbuckets,vwords,.slice ra im.relocs.length rcap,vslots,vinit,vfini,vtls⟩ im),.agg #[.int .i64 r.at_,.int .i64 r.kind,.int .i64 r.sym,.int .i64 r.add]] w' fun e w''=>e=.returned (.int .i64 (wideL im r))∧Below w'.heap.size w' w''):=Lib.hid (fun w' r hb=>jwide_any w' _ im r ((hy.below hb).mono hb.size))
 unfold imgCells at *
 have Hrat:=Lib.hid hrat
 have Hrr:=Lib.hid hrr
 have Hsz:=Lib.hid hsz
 have HD:Hid (relocsB im=(decide (im.relocs.length≤512)&&relocsFrom im 0 im.relocs)):=Lib.hid rfl
 have Hg:=Lib.hid hg
 clear hs hg hy hfl hr hrr hsz hrat
 generalize hI:(Array.mk [.string ⟨im.name.toArray⟩,.int .i64 im.flags,vsegs,vneeded,vrunPath,vsyms,vbuckets,vwords,.int .i64 im.shift,.slice ra im.relocs.length rcap,vslots,vinit,vfini,vtls,.int .i64 im.tlsSize]:Array Value)=I at HR HW
 have F0:=Lib.hid (heap_alloc_new w (.cells I 44 (0,0)))
 have B1:=Lib.hid ((Below.refl w.heap.size w).alloc (Nat.le_refl _) (.cells I 44 (0,0)))
 subst hI
 by_cases h5:im.relocs.length≤512
 case neg=>
  have Hn:Hid (relocsB im=false):=Lib.hid (by rw [HD.out,decide_eq_false (p:=im.relocs.length≤512) h5];rfl)
  have h6:512<im.relocs.length:=by omega
  go_enter Try.func29,Try.ntmps29
  go_wp2
  go_ret
  exact⟨by rw [Hn.out];rfl,B1.out⟩
 have h6:¬ 512<im.relocs.length:=by omega
 have HD2:Hid (relocsB im=relocsFrom im 0 im.relocs):=Lib.hid (by rw [HD.out,decide_eq_true (p:=im.relocs.length≤512) h5];rfl)
 clear HD
 go_enter Try.func29,Try.ntmps29
 go_wp2_with fail
 go_loopw [3] (fun i wr=>∃ (k:Nat) (x:Int),i=.int .i64 k∧0≤x∧x≤65536∧k≤im.relocs.length∧relocsFrom im 0 im.relocs=relocsFrom im x (im.relocs.drop k)∧(k=0→x=0)∧(∀ p,0<k→im.relocs[k-1]? =some p→x=p.at_+wideL im p∧0≤p.at_∧0≤wideL im p)∧Below w.heap.size w wr∧
  wr.heap[w.heap.size]? =some (.cells #[.string ⟨im.name.toArray⟩,.int .i64 im.flags,vsegs,vneeded,vrunPath,vsyms,vbuckets,vwords,.int .i64 im.shift,.slice ra im.relocs.length rcap,vslots,vinit,vfini,vtls,.int .i64 im.tlsSize] 44 (0,0))∧w.heap.size<wr.heap.size) (fun i _=>im.relocs.length-(intOf i).toNat)
 case atStart=>exact⟨0,0,rfl,by decide,by decide,Nat.zero_le _,by simp,fun _=>rfl,fun p h=>absurd h (Nat.lt_irrefl 0),B1.out,F0.out,by simp⟩
 case round=>
  obtain⟨k,x,rfl,hx0,hx1,hk,hse,hk0,hkp,hbel,hF,hzq⟩:=hrel
  have Hse:=Lib.hid hse
  have Hk0:=Lib.hid hk0
  have Hkp:=Lib.hid hkp
  have Hbel:=Lib.hid hbel
  have HF:=Lib.hid hF
  have hBr:=hbel.size
  clear hse hk0 hkp
  obtain⟨i0,i1,i2,i3,i4,i5,i6,i7,i8,i9,i10,i11,i12,i13,i14⟩:=img_cells hF
  by_cases hlt:k<im.relocs.length
  ·obtain rfl:=Hrat.out.addr (by omega)
   obtain⟨r,hx⟩:∃ r,im.relocs[k]? =some r:=⟨_,List.getElem?_eq_getElem hlt⟩
   obtain⟨g0,g1,g2,g3⟩:=(Hrat.out.below hbel).rel4 k r hx
   have hro:=Hrr.out r (List.mem_of_getElem? hx)
   have hro2:=hro.2.1
   have Hro:=Lib.hid hro
   have Hx:=Lib.hid hx
   have Hdc:=Lib.hid (drop_cons im.relocs k r hx)
   have HWr:Hid (0≤wideL im r):=Lib.hid (by
    unfold wideL
    split
    ·rename_i s hs
     have:=(Hsz.out s (symAt_range hs).2.2).1
     split<;>omega
    ·omega)
   have l0:=fun x:Later wr=>x.cell i0
   have l1:=fun x:Later wr=>x.cell i1
   have l2:=fun x:Later wr=>x.cell i2
   have l3:=fun x:Later wr=>x.cell i3
   have l4:=fun x:Later wr=>x.cell i4
   have l5:=fun x:Later wr=>x.cell i5
   have l6:=fun x:Later wr=>x.cell i6
   have l7:=fun x:Later wr=>x.cell i7
   have l8:=fun x:Later wr=>x.cell i8
   have l9:=fun x:Later wr=>x.cell i9
   have l10:=fun x:Later wr=>x.cell i10
   have l11:=fun x:Later wr=>x.cell i11
   have l12:=fun x:Later wr=>x.cell i12
   have l13:=fun x:Later wr=>x.cell i13
   have l14:=fun x:Later wr=>x.cell i14
   have m0:=fun x:Later wr=>x.cell g0
   have m1:=fun x:Later wr=>x.cell g1
   have m2:=fun x:Later wr=>x.cell g2
   have m3:=fun x:Later wr=>x.cell g3
   have HRr:=Lib.hid (fun w' hb=>HR.out w' r hb hro)
   clear hx hbel hF hro g0 g1 g2 g3
   go_wp2_with fail
   clear i0 i1 i2 i3 i4 i5 i6 i7 i8 i9 i10 i11 i12 i13 i14
   refine wp_region_later (by kernel_rfl) (by kernel_rfl) ?_
   repeat (go_big_quiet_step (first | (go_at_call 67;refine Later.call _ (HRr.out _ ?_);exact Hbel.out.trans ((Later.h _).mono (by omega)))))
   refine wpQuiet_nil ?_
   rintro wq ⟨⟨_,hq⟩,rfl⟩
   try simp only at hq
   obtain⟨w2,hw2⟩:∃ x:World,x=wq:=⟨_,rfl⟩
   subst hw2
   have hz2:=hq.size
   have B2:=Lib.hid (Hbel.out.trans (hq.mono (by omega)))
   have F2:=Lib.hid ((hq.block w.heap.size (by omega)).trans HF.out)
   clear hq l0 l1 l2 l3 l4 l5 l6 l7 l8 l9 l10 l11 l12 l13 l14 m0 m1 m2 m3 HRr
   cases hrb:relocB im r with
   | false=>
    have Hn:Hid (relocsB im=false):=Lib.hid (by rw [HD2.out,Hse.out,Hdc.out,relocsFrom_bad hrb])
    clear hrb
    go_wp2
    go_ret
    exact⟨by rw [Hn.out];rfl,B2.out⟩
   | true=>
   have hrg:=reloc_good Hg.out hsl hrb
   have ha0:=hrg.1.1
   have ha1:=hrg.1.2
   have hwr0:=HWr.out
   have Hyes:Hid (x≤r.at_→relocsFrom im 0 im.relocs=relocsFrom im (r.at_+wideL im r) (im.relocs.drop (k+1))):=Lib.hid (fun h=>by rw [Hse.out,Hdc.out,relocsFrom_ok h hrb])
   have Hno:Hid (¬ x≤r.at_→relocsB im=false):=Lib.hid (fun h=>by rw [HD2.out,Hse.out,Hdc.out,relocsFrom_low h])
   have Hnext:Hid (∀ p,0<k+1→im.relocs[k+1-1]? =some p→r.at_+wideL im r=p.at_+wideL im p∧0≤p.at_∧0≤wideL im p):=Lib.hid (fun p _ hp=>by
    rw [Nat.add_sub_cancel,Hx.out]at hp
    obtain rfl:=Option.some.inj hp
    exact⟨rfl,ha0,HWr.out⟩)
   have HX:Hid (0≤r.at_+wideL im r∧r.at_+wideL im r≤65536):=Lib.hid (by omega)
   clear hrg hrb ha1 hwr0
   obtain⟨i0,i1,i2,i3,i4,i5,i6,i7,i8,i9,i10,i11,i12,i13,i14⟩:=img_cells F2.out
   obtain⟨g0,g1,g2,g3⟩:=(Hrat.out.below B2.out).rel4 k r Hx.out
   by_cases hk1:k=0
   ·subst hk1
    have he:=Hk0.out rfl
    subst he
    have Hy:=Lib.hid (Hyes.out ha0)
    clear Hyes Hno
    clear i0 i1 i2 i3 i4 i5 i6 i7 i8 i9 i10 i11 i12 i13 i14 g0 g1 g2 g3
    go_wp2_with fail
    refine wp_region_later (by kernel_rfl) (by kernel_rfl) ?_
    repeat (go_big_quiet_step (fail))
    refine wpQuiet_nil ?_
    rintro _ ⟨⟨wq,hq⟩,rfl⟩
    try simp only at hq
    have Hq:=Lib.hid hq
    clear hq
    go_wp2
    go_roundw
    case rel=>
     have hq:=Hq.out
     have:=hq.size
     exact⟨1,_,by go_num,HX.out.1,HX.out.2,by omega,Hy.out,fun h=>by omega,Hnext.out,B2.out.trans (hq.mono (by omega)),(hq.block w.heap.size (by omega)).trans F2.out,by omega⟩
    case measure=>simp [intOf];omega
   ·obtain⟨p,hp⟩:∃ p,im.relocs[k-1]? =some p:=⟨_,List.getElem?_eq_getElem (by omega)⟩
    obtain⟨hpe,p0,p1⟩:=Hkp.out p (by omega) hp
    obtain⟨q0,q1,q2,q3⟩:=(Hrat.out.below B2.out).rel4 (k-1) p hp
    have hk2:0<k:=by omega
    obtain⟨kk,rfl⟩:∃ kk,k=kk+1:=⟨k-1,by omega⟩
    simp only [Nat.add_sub_cancel]at q0 q1 q2 q3
    have hsbz:rb<w2.heap.size:=World.block_lt_of_cell? _ _ q0
    have hkk0:(0:Int)≤kk:=by omega
    have hkk1:(kk:Int)<im.relocs.length:=by omega
    have hkk2:kk<im.relocs.length:=by omega
    have HWp:=Lib.hid (fun w' hb=>HW.out w' p hb)
    obtain⟨wd,hwd⟩:∃ wd,wideL im p=wd:=⟨_,rfl⟩
    rw [hwd]at HWp hpe p1
    have hpx:p.at_≤65536:=by omega
    have hwx:wd≤65536:=by omega
    have Hpe:=Lib.hid hpe
    clear hpe hwd
    have l0:=fun x:Later w2=>x.cell i0
    have l1:=fun x:Later w2=>x.cell i1
    have l2:=fun x:Later w2=>x.cell i2
    have l3:=fun x:Later w2=>x.cell i3
    have l4:=fun x:Later w2=>x.cell i4
    have l5:=fun x:Later w2=>x.cell i5
    have l6:=fun x:Later w2=>x.cell i6
    have l7:=fun x:Later w2=>x.cell i7
    have l8:=fun x:Later w2=>x.cell i8
    have l9:=fun x:Later w2=>x.cell i9
    have l10:=fun x:Later w2=>x.cell i10
    have l11:=fun x:Later w2=>x.cell i11
    have l12:=fun x:Later w2=>x.cell i12
    have l13:=fun x:Later w2=>x.cell i13
    have l14:=fun x:Later w2=>x.cell i14
    have m0:=fun x:Later w2=>x.cell g0
    have n0:=fun x:Later w2=>x.cell q0
    have n1:=fun x:Later w2=>x.cell q1
    have n2:=fun x:Later w2=>x.cell q2
    have n3:=fun x:Later w2=>x.cell q3
    clear hp i0 i1 i2 i3 i4 i5 i6 i7 i8 i9 i10 i11 i12 i13 i14 g0 g1 g2 g3 q0 q1 q2 q3
    by_cases h1:p.at_+wd≤r.at_
    ·have Hy:=Lib.hid (Hyes.out (by rw [Hpe.out];exact h1))
     clear Hyes Hno
     go_wp2_with fail
     refine wp_region_later (by kernel_rfl) (by kernel_rfl) ?_
     repeat (go_big_quiet_step (first | (go_at_call 68;refine Later.call _ (HWp.out _ ?_);exact B2.out.trans ((Later.h _).mono (by omega)))))
     refine wpQuiet_nil ?_
     rintro _ ⟨⟨wq,hq⟩,rfl⟩
     try simp only at hq
     have Hq:=Lib.hid hq
     clear hq l0 l1 l2 l3 l4 l5 l6 l7 l8 l9 l10 l11 l12 l13 l14 m0 n0 n1 n2 n3
     go_wp2
     go_roundw
     case rel=>
      have hq:=Hq.out
      have:=hq.size
      exact⟨kk+1+1,_,by go_num,HX.out.1,HX.out.2,by omega,Hy.out,fun h=>by omega,Hnext.out,B2.out.trans (hq.mono (by omega)),(hq.block w.heap.size (by omega)).trans F2.out,by omega⟩
     case measure=>simp [intOf];omega
    ·have Hn:Hid (relocsB im=false):=Lib.hid (Hno.out (by rw [Hpe.out];exact h1))
     clear Hyes Hno
     go_wp2_with fail
     refine wp_region_later (by kernel_rfl) (by kernel_rfl) ?_
     repeat (go_big_quiet_step (first | (go_at_call 68;refine Later.call _ (HWp.out _ ?_);exact B2.out.trans ((Later.h _).mono (by omega)))))
     refine wpQuiet_nil ?_
     rintro _ ⟨⟨wq,hq⟩,rfl⟩
     try simp only at hq
     have Hq:=Lib.hid hq
     clear hq l0 l1 l2 l3 l4 l5 l6 l7 l8 l9 l10 l11 l12 l13 l14 m0 n0 n1 n2 n3
     go_wp2
     go_ret
     exact⟨by rw [Hn.out];rfl,B2.out.trans (Hq.out.mono (by omega))⟩
  ·have hd:Hid (relocsB im=true):=Lib.hid (by rw [HD2.out,Hse.out,List.drop_eq_nil_of_le (by omega)];rfl)
   clear hbel hF
   go_wp2
   go_ret
   exact⟨by rw [hd.out];rfl,Hbel.out⟩
end Go.Proofs.Ytpomdoliblilfaa
