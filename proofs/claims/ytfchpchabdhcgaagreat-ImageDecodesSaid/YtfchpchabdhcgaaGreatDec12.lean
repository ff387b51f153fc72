/- Lemmas. -/
import Derived.Test.YtfchpchabdhcgaaGreatDec9
import Derived.Test.YtfchpchabdhcgaaGreatDec6
import Derived.Test.YtfchpchabdhcgaaGreatDec7
import Derived.Test.YtfchpchabdhcgaaGreatDec11
import Derived.Test.YtfchpchabdhcgaaGreatDec8
import Derived.Deep.CutBlock
set_option linter.unusedVariables false
set_option linter.unusedSimpArgs false
set_option maxHeartbeats 64000000
set_option maxRecDepth 100000
namespace Go.Proofs.YtfchpchabdhcgaaGreat
open Go.RowKit
theorem drop_cons {α:Type} (l:List α) (k:Nat) (x:α) (hx:l[k]? =some x):l.drop k=x :: l.drop (k+1):=by
 obtain⟨h,rfl⟩:=List.getElem?_eq_some_iff.1 hx
 exact List.drop_eq_getElem_cons h
def SegGood (e:Int) (s:SegL):Prop:=
 e≤s.at_∧0≤s.at_∧s.at_≤65536∧s.at_%64=0∧1≤s.size∧s.at_+s.size≤65536∧(s.bytes.length:Int)≤s.size∧0≤s.perm∧s.perm≤7
theorem segsFrom_good {e:Int} {s:SegL} {l:List SegL} (h:SegGood e s):segsFrom e (s :: l)=segsFrom (upL (s.at_+s.size)) l:=by
 obtain⟨h1,h2,h3,h4,h5,h6,h7,h8,h9⟩:=h
 simp [segsFrom,segB,h1,h2,h3,h4,h5,h6,h7,h8,h9]
theorem segsFrom_bad {e:Int} {s:SegL} {l:List SegL} (h:¬ SegGood e s):segsFrom e (s :: l)=false:=by
 rw [segsFrom]
 by_cases h1:(decide (e≤s.at_)&&segB s)=true
 ·exfalso
  apply h
  simp [segB]at h1
  unfold SegGood
  omega
 ·simp only [Bool.not_eq_true]at h1
  rw [h1];rfl
theorem isegs_any (w:World) (v:ImgV) (im:ImgL) (hs:LB kSeg (·<w.heap.size) w v.segs im.segs) (hr:∀ s∈im.segs,-9223372036854775808≤s.at_∧s.size≤9223372036854775807):
  Calls Tryz.prog 33 #[.agg (imgCells v im)] w fun e w'=>e=.returned (.bool (segsB im.segs))∧Below w.heap.size w w':=by
 unfold imgCells
 obtain⟨sa,sb,soff,scap,hsv,hsm,hsc,hat⟩:=hs.at
 rw [hsv]
 have Hat:=Lib.hid hat
 have Hr:=Lib.hid hr
 have Hd:Hid (segsB im.segs=(decide (1≤im.segs.length)&&decide (im.segs.length≤8)&&segsFrom 0 im.segs)):=Lib.hid rfl
 clear hs hat hsv hr
 go_enter Tryz.func33,Tryz.ntmps33
 go_wp2
 go_loopw [3,9] (fun s3 i wr=>∃ (k:Nat) (e:Int),i=.int .i64 k∧k≤im.segs.length∧s3=.int .i64 e∧0≤e∧e≤200000∧segsFrom 0 im.segs=segsFrom e (im.segs.drop k)∧Below w.heap.size w wr∧wr.cell? ⟨w.heap.size,2,none⟩=some (.slice sa im.segs.length scap)∧w.heap.size<wr.heap.size) (fun _ i _=>im.segs.length-(intOf i).toNat)
 case atStart=>exact⟨0,0,rfl,Nat.zero_le _,rfl,by omega,by omega,by simp,(Below.refl _ _).alloc (Nat.le_refl _) _,by simp,by simp⟩
 case round=>
  obtain⟨k,e,rfl,hk,rfl,he0,he1,hse,hbel,hq,hzq⟩:=hrel
  have Hq:=Lib.hid hq
  have Hse:=Lib.hid hse
  have Hbel:=Lib.hid hbel
  have hBr:=hbel.size
  by_cases hlt:k<im.segs.length
  ·obtain rfl:=Hat.out.addr (by omega)
   obtain⟨s,hx⟩:∃ s,im.segs[k]? =some s:=⟨_,List.getElem?_eq_getElem hlt⟩
   obtain⟨c,g0,g1,g2,g3,hc⟩:=(Hat.out.below hbel).seg4 k s hx
   obtain⟨ca,cc,rfl⟩:=hc.form
   have hr:=Hr.out s (List.mem_of_getElem? hx)
   have Hdc:=Lib.hid (drop_cons im.segs k s hx)
   have hcm:=hc.max
   clear hbel hse hx hc hq
   by_cases hg:SegGood e s
   ·have Hn:Hid (segsFrom 0 im.segs=segsFrom (upL (s.at_+s.size)) (im.segs.drop (k+1))):=Lib.hid (by rw [Hse.out,Hdc.out,segsFrom_good hg])
    obtain⟨h1,h2,h3,h4,h5,h6,h7,h8,h9⟩:=hg
    have Hu:Hid (s.at_+(s.size+64-1)/64*64=upL (s.at_+s.size)):=Lib.hid (by unfold upL;omega)
    have hu0:0≤upL (s.at_+s.size):=by unfold upL;omega
    have hu1:upL (s.at_+s.size)≤200000:=by unfold upL;omega
    have hm:(s.at_%64 != 0)=false:=by rw [bne_eq_false_iff_eq];exact h4
    clear h4
    have Hu0:=Lib.hid hu0
    have Hu1:=Lib.hid hu1
    clear hu0 hu1
    generalize s.at_=sat at *
    generalize s.size=ssz at *
    generalize s.perm=spm at *
    go_wp2
    go_roundw
    case rel=>exact⟨k+1,_,by go_num,by omega,by rw [← Hu.out],Hu0.out,Hu1.out,Hn.out,Hbel.out.alloc hBr _,by rw [World.cell?_alloc_lt _ _ _ hzq];exact Hq.out,by simp;omega⟩
    case measure=>simp [intOf];omega
   ·have Hn:Hid (segsB im.segs=false):=Lib.hid (by rw [Hd.out,Hse.out,Hdc.out,segsFrom_bad hg];simp)
    have Hg:Hid (¬ (e≤s.at_∧0≤s.at_∧s.at_≤65536∧s.at_%64=0∧1≤s.size∧s.at_+s.size≤65536∧(s.bytes.length:Int)≤s.size∧0≤s.perm∧s.perm≤7)):=Lib.hid hg
    clear hg
    generalize s.at_=sat at *
    generalize s.size=ssz at *
    generalize s.perm=spm at *
    by_cases h1:e≤sat
    ·go_wp2
     all_goals first
      | (go_ret;exact⟨by rw [Hn.out];rfl,Hbel.out.alloc hBr _⟩)
      | (exfalso;have:=Hg.out;(try simp only [beq_eq_false_iff_ne,bne_eq_false_iff_eq,bne_iff_ne,beq_iff_eq,ne_eq]at *);omega)
    ·go_wp2
     go_ret
     exact⟨by rw [Hn.out];rfl,Hbel.out.alloc hBr _⟩
  ·have Hn:Hid (segsFrom 0 im.segs=true):=Lib.hid (by rw [hse,List.drop_eq_nil_of_le (by omega)];rfl)
   clear hse hbel
   by_cases h1:1≤im.segs.length
   ·have hd1:decide (1≤(im.segs.length:Int))=true:=by rw [decide_eq_true_eq];omega
    go_wp2
    go_ret
    exact⟨ret_bool' (by rw [Hd.out,Hn.out,Bool.eq_iff_iff];simp [h1];omega),Hbel.out⟩
   ·have hd1:decide (1≤(im.segs.length:Int))=false:=by rw [decide_eq_false_iff_not];omega
    go_wp2
    go_ret
    exact⟨ret_bool' (by rw [Hd.out];simp [h1]),Hbel.out⟩
end Go.Proofs.YtfchpchabdhcgaaGreat
namespace Go.Proofs.YtfchpchabdhcgaaGreat
open Go.RowKit
theorem symsFrom_bad {segs:List SegL} {tls:Int} {done:List SymL} {s:SymL} {l:List SymL} (h:symB segs tls s=false):symsFrom segs tls done (s :: l)=false:=by rw [symsFrom,h];rfl
theorem symsFrom_clash {segs:List SegL} {tls:Int} {done:List SymL} {s:SymL} {l:List SymL} {q:Nat} {t:SymL} (ht:done[q]? =some t) (h:clashB s t=true):symsFrom segs tls done (s :: l)=false:=by
 have:(done.all fun t=> !clashB s t)=false:=by rw [List.all_eq_false];exact⟨t,List.mem_of_getElem? ht,by simp [h]⟩
 rw [symsFrom,this];simp
theorem symsFrom_ok {segs:List SegL} {tls:Int} {done:List SymL} {s:SymL} {l:List SymL} (h:symB segs tls s=true) (h2:(done.all fun t=> !clashB s t)=true):symsFrom segs tls done (s :: l)=symsFrom segs tls (done++[s]) l:=by rw [symsFrom,h,h2];rfl
theorem take_snoc {α:Type} (l:List α) (k:Nat) (x:α) (hx:l[k]? =some x):l.take (k+1)=l.take k++[x]:=by
 obtain⟨h,rfl⟩:=List.getElem?_eq_some_iff.1 hx
 rw [List.take_succ_eq_append_getElem h]
theorem symB_right {segs:List SegL} {tls:Int} {s:SymL} (h:symRightB s=false):symB segs tls s=false:=by rw [symB,h];rfl
theorem symB_free {segs:List SegL} {tls:Int} {s:SymL} (h:symRightB s=true) (hd:s.defined=false):symB segs tls s=true:=by rw [symB,h,hd];rfl
theorem symB_tls {segs:List SegL} {tls:Int} {s:SymL} (h:symRightB s=true) (hd:s.defined=true) (hk:s.kind=3):symB segs tls s=(decide (s.size≤tls)&&decide (s.value≤tls-s.size)):=by rw [symB,h,hd,if_pos hk];rfl
theorem symB_holds {segs:List SegL} {tls:Int} {s:SymL} (h:symRightB s=true) (hd:s.defined=true) (hk:s.kind≠3):symB segs tls s=holdsB segs s.value s.size 0:=by rw [symB,h,hd,if_neg hk];rfl
theorem right_nums {s:SymL} (h:symRightB s=true):0≤s.value∧0≤s.size:=by
 simp only [symRightB,Bool.and_eq_true,decide_eq_true_eq]at h;omega
abbrev symArr (s:SymL):Array Value:=#[.string ⟨s.name.toArray⟩,.string ⟨s.version.toArray⟩,.bool s.old,.int .i64 s.kind,.bool s.weak,.int .i64 s.vis,.bool s.defined,.int .i64 s.value,.int .i64 s.size]
theorem isyms_any (w:World) (v:ImgV) (im:ImgL) (hs:LB kSeg (·<w.heap.size) w v.segs im.segs) (hok:∀ s∈im.segs,SegOk s) (hy:LB kSym (·<w.heap.size) w v.syms im.syms) (ht:0≤im.tlsSize∧im.tlsSize≤4096):
  Calls Tryz.prog 34 #[.agg (imgCells v im)] w fun e w'=>e=.returned (.bool (symsB im))∧Below w.heap.size w w':=by
 obtain⟨sa,sb,soff,scap,hsv,hsm,hsc,hat⟩:=hy.at
 obtain⟨vsegs,vneeded,vrunPath,vsyms,vbuckets,vwords,vrelocs,vslots,vinit,vfini,vtls⟩:=v
 simp only at hsv
 subst hsv
 have HH:Hid (∀ (w':World) (x n:Int),Below w.heap.size w w'→(-9223372036854775808≤x∧x≤9223372036854775807)→(0≤n∧n≤9223372036854775807)→
  Calls Tryz.prog 75 #[.agg (imgCells ⟨vsegs,vneeded,vrunPath,.slice sa im.syms.length scap,vbuckets,vwords,vrelocs,vslots,vinit,vfini,vtls⟩ im),.agg #[.int .i64 x,.int .i64 n,.int .i64 0]] w' fun e w''=>e=.returned (.bool (holdsB im.segs x n 0))∧Below w'.heap.size w' w''):=Lib.hid (fun w' x n hb hx hn=>holds_any w' _ im x n 0 ((hs.below hb).mono hb.size) hok hx hn (by decide))
 unfold imgCells at *
 have Hat:=Lib.hid hat
 have HD:Hid (symsB im=(decide (im.syms.length≤512)&&symsFrom im.segs im.tlsSize [] im.syms)):=Lib.hid rfl
 clear hs hok hat hy
 generalize hI:(Array.mk [.string ⟨im.name.toArray⟩,.int .i64 im.flags,vsegs,vneeded,vrunPath,.slice sa im.syms.length scap,vbuckets,vwords,.int .i64 im.shift,vrelocs,vslots,vinit,vfini,vtls,.int .i64 im.tlsSize]:Array Value)=I at HH
 have F0:=Lib.hid (heap_alloc_new w (.cells I 40 (0,0)))
 have B1:=Lib.hid ((Below.refl w.heap.size w).alloc (Nat.le_refl _) (.cells I 40 (0,0)))
 subst hI
 by_cases h5:im.syms.length≤512
 case neg=>
  have Hn:Hid (symsB im=false):=Lib.hid (by rw [HD.out,decide_eq_false (p:=im.syms.length≤512) h5];rfl)
  have h6:512<im.syms.length:=by omega
  go_enter Tryz.func34,Tryz.ntmps34
  go_wp2
  go_ret
  exact⟨by rw [Hn.out];rfl,B1.out⟩
 have h6:¬ 512<im.syms.length:=by omega
 have Hse:Hid (symsB im=symsFrom im.segs im.tlsSize [] im.syms):=Lib.hid (by rw [HD.out,decide_eq_true (p:=im.syms.length≤512) h5];rfl)
 clear HD
 go_enter Tryz.func34,Tryz.ntmps34
 go_wp2_with fail
 go_loopw [14] (fun i wr=>∃ (k:Nat),i=.int .i64 k∧k≤im.syms.length∧symsB im=symsFrom im.segs im.tlsSize (im.syms.take k) (im.syms.drop k)∧Below w.heap.size w wr∧
  wr.heap[w.heap.size]? =some (.cells #[.string ⟨im.name.toArray⟩,.int .i64 im.flags,vsegs,vneeded,vrunPath,.slice sa im.syms.length scap,vbuckets,vwords,.int .i64 im.shift,vrelocs,vslots,vinit,vfini,vtls,.int .i64 im.tlsSize] 40 (0,0))∧w.heap.size<wr.heap.size) (fun i _=>im.syms.length-(intOf i).toNat)
 case atStart=>exact⟨0,rfl,Nat.zero_le _,by rw [Hse.out];simp,B1.out,F0.out,by simp⟩
 case round=>
  obtain⟨k,rfl,hk,hse,hbel,hF,hzq⟩:=hrel
  have Hse2:=Lib.hid hse
  have Hbel:=Lib.hid hbel
  have HF:=Lib.hid hF
  have hBr:=hbel.size
  clear hse Hse
  by_cases hlt:k<im.syms.length
  ·obtain rfl:=Hat.out.addr (by omega)
   obtain⟨s,hx⟩:∃ s,im.syms[k]? =some s:=⟨_,List.getElem?_eq_getElem hlt⟩
   obtain⟨hso,g0,g1,g2,g3,g4,g5,g6,g7,g8⟩:=(Hat.out.below hbel).sym9 k s hx
   have Hdc:=Lib.hid (drop_cons im.syms k s hx)
   have Htk:=Lib.hid (take_snoc im.syms k s hx)
   have Hso:=Lib.hid hso
   have hsb:=World.block_lt_of_cell? _ _ g0
   have HRt:=Lib.hid (fun w=>vright_any w s hso)
   have HBs:=Lib.hid (Hbel.out.alloc hBr (.cells (symArr s) 72 (0,0)))
   have HFs:=Lib.hid (heap_alloc_new wr (.cells (symArr s) 72 (0,0)))
   have HFi:=Lib.hid ((heap_alloc_old wr (.cells (symArr s) 72 (0,0)) hzq).trans hF)
   unfold symArr at *
   clear hx hso hbel hF HF Hbel
   go_upto_block 2 with fail
   have hz1:(wr.alloc (.cells #[.string ⟨s.name.toArray⟩,.string ⟨s.version.toArray⟩,.bool s.old,.int .i64 s.kind,.bool s.weak,.int .i64 s.vis,.bool s.defined,.int .i64 s.value,.int .i64 s.size] 72 (0,0))).heap.size=wr.heap.size+1:=by simp
   generalize wr.alloc (.cells #[.string ⟨s.name.toArray⟩,.string ⟨s.version.toArray⟩,.bool s.old,.int .i64 s.kind,.bool s.weak,.int .i64 s.vis,.bool s.defined,.int .i64 s.value,.int .i64 s.size] 72 (0,0))=w1 at *
   clear g0 g1 g2 g3 g4 g5 g6 g7 g8
   go_cut [3] (fun s3 wx=>s3=.int .i64 k∧symB im.segs im.tlsSize s=true∧Below w1.heap.size w1 wx)
   case first=>
    obtain⟨c0,c1,c2,c3,c4,c5,c6,c7,c8⟩:=sym_cells HFs.out
    go_wp2_with fail
    refine(HRt.out w1).mono ?_
    rintro e w2 ⟨rfl,hb2⟩
    have hz2:=hb2.size
    have HFs2:=Lib.hid ((hb2.block wr.heap.size (by omega)).trans HFs.out)
    have HFi2:=Lib.hid ((hb2.block w.heap.size (by omega)).trans HFi.out)
    have HBs2:=Lib.hid (HBs.out.trans (hb2.mono (by omega)))
    have Hb2:=Lib.hid hb2
    clear hb2 c0 c1 c2 c3 c4 c5 c6 c7 c8 HRt
    cases hrt:symRightB s with
    | false=>
     have Hn:Hid (symsB im=false):=Lib.hid (by rw [Hse2.out,Hdc.out,symsFrom_bad (symB_right hrt)])
     rw [rightErr_bad hrt]
     clear hrt
     go_wp2
     go_ret
     exact⟨by rw [Hn.out];rfl,HBs2.out⟩
    | true=>
     have hnum:=right_nums hrt
     have Hrt:=Lib.hid hrt
     rw [rightErr_ok hrt]
     clear hrt
     obtain⟨c0,c1,c2,c3,c4,c5,c6,c7,c8⟩:=sym_cells HFs2.out
     cases hd:s.defined with
     | false=>
      rw [hd]at c6
      have Hy:=Lib.hid (symB_free (segs:=im.segs) (tls:=im.tlsSize) Hrt.out hd)
      clear hd
      go_wp2_with fail
      go_meet
      exact⟨rfl,Hy.out,Hb2.out⟩
     | true=>
      rw [hd]at c6
      have Hdd:=Lib.hid hd
      clear hd
      by_cases hk3:s.kind=3
      ·have Hy:=Lib.hid (symB_tls (segs:=im.segs) (tls:=im.tlsSize) Hrt.out Hdd.out hk3)
       obtain⟨i0,i1,i2,i3,i4,i5,i6,i7,i8,i9,i10,i11,i12,i13,i14⟩:=img_cells HFi2.out
       have hbk:(s.kind==3)=true:=by rw [beq_iff_eq];exact hk3
       have hso1:=Hso.out.value
       have hso2:=Hso.out.size
       clear i0 i1 i2 i3 i4 i5 i6 i7 i8 i9 i10 i11 i12 i13 hk3
       by_cases hA:s.size≤im.tlsSize
       ·by_cases hB:s.value≤im.tlsSize-s.size
        ·have Hy2:Hid (symB im.segs im.tlsSize s=true):=Lib.hid (by rw [Hy.out];simp [hA,hB])
         have hA2:¬ im.tlsSize<s.size:=by omega
         have hB2:¬ im.tlsSize-s.size<s.value:=by omega
         go_wp2_with fail
         go_meet
         exact⟨rfl,Hy2.out,Hb2.out⟩
        ·have Hn:Hid (symsB im=false):=Lib.hid (by rw [Hse2.out,Hdc.out,symsFrom_bad (by rw [Hy.out];simp [hB])])
         have hA2:¬ im.tlsSize<s.size:=by omega
         have hB2:im.tlsSize-s.size<s.value:=by omega
         go_wp2
         go_ret
         exact⟨by rw [Hn.out];rfl,HBs2.out⟩
       ·have Hn:Hid (symsB im=false):=Lib.hid (by rw [Hse2.out,Hdc.out,symsFrom_bad (by rw [Hy.out];simp [hA])])
        have hA2:im.tlsSize<s.size:=by omega
        go_wp2
        go_ret
        exact⟨by rw [Hn.out];rfl,HBs2.out⟩
      ·have Hy:=Lib.hid (symB_holds (segs:=im.segs) (tls:=im.tlsSize) Hrt.out Hdd.out hk3)
       obtain⟨i0,i1,i2,i3,i4,i5,i6,i7,i8,i9,i10,i11,i12,i13,i14⟩:=img_cells HFi2.out
       have hbk:(s.kind==3)=false:=by rw [beq_eq_false_iff_ne];exact hk3
       have HHx:=Lib.hid (HH.out w2 s.value s.size (HBs2.out) Hso.out.value ⟨hnum.2,Hso.out.size.2⟩)
       go_wp2_with fail
       refine HHx.out.mono ?_
       rintro e w3 ⟨rfl,hb3⟩
       have Hb3:=Lib.hid hb3
       clear hb3 i0 i1 i2 i3 i4 i5 i6 i7 i8 i9 i10 i11 i12 i13 i14 HHx
       cases hh:holdsB im.segs s.value s.size 0 with
       | true=>
        have Hy2:Hid (symB im.segs im.tlsSize s=true):=Lib.hid (by rw [Hy.out,hh])
        clear hh
        go_wp2_with fail
        go_meet
        exact⟨rfl,Hy2.out,Hb2.out.trans (Hb3.out.mono (by omega))⟩
       | false=>
        have Hn:Hid (symsB im=false):=Lib.hid (by rw [Hse2.out,Hdc.out,symsFrom_bad (by rw [Hy.out,hh])])
        clear hh
        go_wp2
        go_ret
        exact⟨by rw [Hn.out];rfl,HBs2.out.trans (Hb3.out.mono (by omega))⟩
   case rest=>
    obtain⟨rfl,hyb,hbc⟩:=hcut
    have Hyb:=Lib.hid hyb
    have hzc:=hbc.size
    have hFic:=(hbc.block w.heap.size (by omega)).trans HFi.out
    obtain⟨i0,i1,i2,i3,i4,i5,i6,i7,i8,i9,i10,i11,i12,i13,i14⟩:=img_cells hFic
    have Hbc:=Lib.hid hbc
    clear hyb hbc hFic i0 i1 i2 i3 i4 i6 i7 i8 i9 i10 i11 i12 i13 i14 HRt
    generalize wr.heap.size=zr at *
    go_wp2_with fail
    go_loopw [60] (fun i wi=>∃ (q:Nat),i=.int .i64 q∧q≤k∧(im.syms.take q).all (fun t=> !clashB s t)=true∧Below w1.heap.size w1 wi) (fun i _=>k-(intOf i).toNat)
    case atStart=>exact⟨0,rfl,Nat.zero_le _,rfl,Hbc.out⟩
    case round=>
     obtain⟨q,rfl,hq,hall,hbi⟩:=hrel
     have Hall:=Lib.hid hall
     have Hbi:=Lib.hid hbi
     have hzi:=hbi.size
     clear hall
     by_cases hlt2:q<k
     ·obtain⟨t,hxt⟩:∃ t,im.syms[q]? =some t:=⟨_,List.getElem?_eq_getElem (by omega)⟩
      obtain⟨_,g0,g1,g2,g3,g4,g5,g6,g7,g8⟩:=(Hat.out.below (HBs.out.trans (hbi.mono (by omega)))).sym9 q t hxt
      have Hsq:=Lib.hid (all_take_snoc (fun t=> !clashB s t) im.syms q t hxt)
      have Hcl:=Lib.hid (fun h=>symsFrom_clash (segs:=im.segs) (tls:=im.tlsSize) (done:=im.syms.take k) (s:=s) (l:=im.syms.drop (k+1)) (q:=q) (t:=t) (by rw [List.getElem?_take];simp [hlt2,hxt]) h)
      obtain⟨c0,c1,c2,c3,c4,c5,c6,c7,c8⟩:=sym_cells ((hbi.block zr (by omega)).trans HFs.out)
      have hsbw:=World.block_lt_of_cell? _ _ g0
      have hsw:=World.block_lt_of_cell? _ _ c0
      have Hbt:=Lib.hid (hbi.alloc hzi (.cells #[.string ⟨t.name.toArray⟩,.string ⟨t.version.toArray⟩,.bool t.old,.int .i64 t.kind,.bool t.weak,.int .i64 t.vis,.bool t.defined,.int .i64 t.value,.int .i64 t.size] 72 (0,0)))
      have cs0:=(World.cell?_alloc_lt wr (.cells #[.string ⟨t.name.toArray⟩,.string ⟨t.version.toArray⟩,.bool t.old,.int .i64 t.kind,.bool t.weak,.int .i64 t.vis,.bool t.defined,.int .i64 t.value,.int .i64 t.size] 72 (0,0)) ⟨zr,0,none⟩ hsw).trans c0
      have cs1:=(World.cell?_alloc_lt wr (.cells #[.string ⟨t.name.toArray⟩,.string ⟨t.version.toArray⟩,.bool t.old,.int .i64 t.kind,.bool t.weak,.int .i64 t.vis,.bool t.defined,.int .i64 t.value,.int .i64 t.size] 72 (0,0)) ⟨zr,1,none⟩ hsw).trans c1
      have cs2:=(World.cell?_alloc_lt wr (.cells #[.string ⟨t.name.toArray⟩,.string ⟨t.version.toArray⟩,.bool t.old,.int .i64 t.kind,.bool t.weak,.int .i64 t.vis,.bool t.defined,.int .i64 t.value,.int .i64 t.size] 72 (0,0)) ⟨zr,2,none⟩ hsw).trans c2
      have cs6:=(World.cell?_alloc_lt wr (.cells #[.string ⟨t.name.toArray⟩,.string ⟨t.version.toArray⟩,.bool t.old,.int .i64 t.kind,.bool t.weak,.int .i64 t.vis,.bool t.defined,.int .i64 t.value,.int .i64 t.size] 72 (0,0)) ⟨zr,6,none⟩ hsw).trans c6
      clear hxt hbi Hbi c0 c1 c2 c3 c4 c5 c6 c7 c8
      go_upto_region 17 with fail
      have HFt:=heap_alloc_new wr (.cells #[.string ⟨t.name.toArray⟩,.string ⟨t.version.toArray⟩,.bool t.old,.int .i64 t.kind,.bool t.weak,.int .i64 t.vis,.bool t.defined,.int .i64 t.value,.int .i64 t.size] 72 (0,0))
      generalize wr.alloc (.cells #[.string ⟨t.name.toArray⟩,.string ⟨t.version.toArray⟩,.bool t.old,.int .i64 t.kind,.bool t.weak,.int .i64 t.vis,.bool t.defined,.int .i64 t.value,.int .i64 t.size] 72 (0,0))=w5 at *
      obtain⟨d0,d1,d2,d3,d4,d5,d6,d7,d8⟩:=sym_cells HFt
      clear HFt
      cases e1:s.defined with
      | false=>
       rw [e1]at cs6
       have Hm:Hid (clashB s t=false):=Lib.hid (by unfold clashB;rw [e1];rfl)
       have Hall2:Hid ((im.syms.take (q+1)).all (fun t=> !clashB s t)=true):=Lib.hid (by rw [Hsq.out,Hall.out,Hm.out];rfl)
       go_wp2
       go_roundw
       case rel=>exact⟨q+1,by go_num,by omega,Hall2.out,Hbt.out⟩
       case measure=>simp [intOf];omega
      | true=>
      rw [e1]at cs6
      cases e2:t.defined with
      | false=>
       rw [e2]at d6
       have Hm:Hid (clashB s t=false):=Lib.hid (by unfold clashB;rw [e1,e2];rfl)
       have Hall2:Hid ((im.syms.take (q+1)).all (fun t=> !clashB s t)=true):=Lib.hid (by rw [Hsq.out,Hall.out,Hm.out];rfl)
       go_wp2
       go_roundw
       case rel=>exact⟨q+1,by go_num,by omega,Hall2.out,Hbt.out⟩
       case measure=>simp [intOf];omega
      | true=>
      rw [e2]at d6
      by_cases e3:s.name=t.name
      case neg=>
       have b3:(s.name==t.name)=false:=by rw [beq_eq_false_iff_ne];exact e3
       have Hm:Hid (clashB s t=false):=Lib.hid (by unfold clashB;rw [decide_eq_false (p:=s.name=t.name) e3];simp)
       have Hall2:Hid ((im.syms.take (q+1)).all (fun t=> !clashB s t)=true):=Lib.hid (by rw [Hsq.out,Hall.out,Hm.out];rfl)
       go_wp2
       go_roundw
       case rel=>exact⟨q+1,by go_num,by omega,Hall2.out,Hbt.out⟩
       case measure=>simp [intOf];omega
      have b3:(s.name==t.name)=true:=by rw [beq_iff_eq];exact e3
      by_cases e4:s.version=t.version
      case pos=>
       have b4:(s.version==t.version)=true:=by rw [beq_iff_eq];exact e4
       have Hm:Hid (clashB s t=true):=Lib.hid (by unfold clashB;rw [e1,e2,decide_eq_true (p:=s.name=t.name) e3,decide_eq_true (p:=s.version=t.version) e4];rfl)
       have Hn:Hid (symsB im=false):=Lib.hid (by rw [Hse2.out,Hdc.out,Hcl.out Hm.out])
       go_wp2
       go_ret
       exact⟨by rw [Hn.out];rfl,HBs.out.trans (Hbt.out.mono (by omega))⟩
      have b4:(s.version==t.version)=false:=by rw [beq_eq_false_iff_ne];exact e4
      cases e5:s.old with
      | true=>
       rw [e5]at cs2
       have Hm:Hid (clashB s t=false):=Lib.hid (by unfold clashB;rw [decide_eq_false (p:=s.version=t.version) e4,e5];simp)
       have Hall2:Hid ((im.syms.take (q+1)).all (fun t=> !clashB s t)=true):=Lib.hid (by rw [Hsq.out,Hall.out,Hm.out];rfl)
       go_wp2
       go_roundw
       case rel=>exact⟨q+1,by go_num,by omega,Hall2.out,Hbt.out⟩
       case measure=>simp [intOf];omega
      | false=>
      rw [e5]at cs2
      cases e6:t.old with
      | true=>
       rw [e6]at d2
       have Hm:Hid (clashB s t=false):=Lib.hid (by unfold clashB;rw [decide_eq_false (p:=s.version=t.version) e4,e5,e6];simp)
       have Hall2:Hid ((im.syms.take (q+1)).all (fun t=> !clashB s t)=true):=Lib.hid (by rw [Hsq.out,Hall.out,Hm.out];rfl)
       go_wp2
       go_roundw
       case rel=>exact⟨q+1,by go_num,by omega,Hall2.out,Hbt.out⟩
       case measure=>simp [intOf];omega
      | false=>
       rw [e6]at d2
       have Hm:Hid (clashB s t=true):=Lib.hid (by unfold clashB;rw [e1,e2,decide_eq_true (p:=s.name=t.name) e3,e5,e6];simp)
       have Hn:Hid (symsB im=false):=Lib.hid (by rw [Hse2.out,Hdc.out,Hcl.out Hm.out])
       go_wp2
       go_ret
       exact⟨by rw [Hn.out];rfl,HBs.out.trans (Hbt.out.mono (by omega))⟩
     ·have Hall2:Hid ((im.syms.take k).all (fun t=> !clashB s t)=true):=Lib.hid (by have:=Hall.out;rwa [show q=k by omega]at this)
      have Hse3:Hid (symsB im=symsFrom im.segs im.tlsSize (im.syms.take (k+1)) (im.syms.drop (k+1))):=Lib.hid (by rw [Hse2.out,Hdc.out,symsFrom_ok Hyb.out Hall2.out,Htk.out])
      have hFi3:=(hbi.block w.heap.size (by omega)).trans HFi.out
      clear hbi
      go_wp2
      go_roundw
      case rel=>exact⟨k+1,by go_num,by omega,Hse3.out,HBs.out.trans (Hbi.out.mono (by omega)),hFi3,by omega⟩
      case measure=>simp [intOf];omega
  ·have hd:Hid (symsB im=true):=Lib.hid (by rw [Hse2.out,List.drop_eq_nil_of_le (by omega)];rfl)
   clear hbel hF
   go_wp2
   go_ret
   exact⟨by rw [hd.out];rfl,Hbel.out⟩
end Go.Proofs.YtfchpchabdhcgaaGreat
namespace Go.Proofs.YtfchpchabdhcgaaGreat
open Go.RowKit
def relocR (im:ImgL) (r:RelL):Bool:=
  if r.kind=1 then decide (r.sym= -1)&&decide (0≤r.add)&&decide (r.add≤65536)&&holdsB im.segs r.at_ 8 0
  else match symAt im r.sym with
    | none=>false
    | some s=>
      (if r.kind=0∨r.kind=6 then decide (s.kind≠3)&&holdsB im.segs r.at_ 8 0
       else if r.kind=7 then decide (r.add=0)&&holdsB im.segs r.at_ 8 0
       else if r.kind=3 then decide (s.kind=3)&&decide (r.add=0)&&holdsB im.segs r.at_ 8 0
       else if r.kind=4∨r.kind=5 then decide (s.kind=3)&&holdsB im.segs r.at_ 8 0
       else if r.kind=2 then decide (s.kind=2)&&s.defined&&decide (1≤s.size)&&decide (s.value=r.at_)&&decide (im.flags%2=1)&&decide (r.add=0)&&holdsB im.segs r.at_ s.size 2
       else false)
theorem relocB_R (im:ImgL) (r:RelL):relocB im r=((decide (-4294967296≤r.add)&&decide (r.add≤4294967296))&&relocR im r):=by
  unfold relocB relocR
  by_cases h1:r.kind=1
  · rw [if_pos h1,if_pos h1,Bool.eq_iff_iff]
    simp only [Bool.and_eq_true,decide_eq_true_eq]
    constructor
    · intro h;exact⟨by omega,h⟩
    · intro h;exact h.2
  · rw [if_neg h1,if_neg h1]
    cases symAt im r.sym<;>simp
theorem relocR_none {im:ImgL} {r:RelL} (h1:r.kind≠1) (h:symAt im r.sym=none):relocR im r=false:=by rw [relocR,if_neg h1,h]
theorem flags_bit (f:Int) (h0:0≤f) (h1:f<16):(bits BinOp.and .i64 f 1 != 0)=decide (f%2=1):=by
  obtain⟨n,rfl⟩:∃ n:Nat,f=n:=⟨f.toNat,by omega⟩
  have h:∀ m:Nat,m<16→(bits BinOp.and .i64 (m:Int) 1 != 0)=decide ((m:Int)%2=1):=by decide +kernel
  exact h n (by omega)
theorem ireloc_any (w:World) (v:ImgV) (im:ImgL) (r:RelL) (hs:LB kSeg (·<w.heap.size) w v.segs im.segs) (hok:∀ s∈im.segs,SegOk s) (hy:LB kSym (·<w.heap.size) w v.syms im.syms) (hfl:0≤im.flags∧im.flags<16)
    (hrs: -9223372036854775808≤r.sym∧r.sym≤9223372036854775807) (hra: -9223372036854775808≤r.at_∧r.at_≤9223372036854775807) (hsz:∀ s∈im.syms,s.size≤9223372036854775807):
    Calls Tryz.prog 83 #[.agg (imgCells v im),.agg #[.int .i64 r.at_,.int .i64 r.kind,.int .i64 r.sym,.int .i64 r.add]] w fun e w'=>e=.returned (.bool (relocR im r))∧Below w.heap.size w w':=by
  obtain⟨vsegs,vneeded,vrunPath,vsyms,vbuckets,vwords,vrelocs,vslots,vinit,vfini,vtls⟩:=v
  have HH:Hid (∀ (w':World) (x n p:Int),Below w.heap.size w w'→(-9223372036854775808≤x∧x≤9223372036854775807)→(0≤n∧n≤9223372036854775807)→p=0∨p=2∨p=4→
    Calls Tryz.prog 75 #[.agg (imgCells ⟨vsegs,vneeded,vrunPath,vsyms,vbuckets,vwords,vrelocs,vslots,vinit,vfini,vtls⟩ im),.agg #[.int .i64 x,.int .i64 n,.int .i64 p]] w' fun e w''=>e=.returned (.bool (holdsB im.segs x n p))∧Below w'.heap.size w' w''):=Lib.hid (fun w' x n p hb hx hn hp=>holds_any w' _ im x n p ((hs.below hb).mono hb.size) hok hx hn hp)
  have HS:Hid (∀ (w':World),Below w.heap.size w w'→Calls Tryz.prog 85 #[.agg (imgCells ⟨vsegs,vneeded,vrunPath,vsyms,vbuckets,vwords,vrelocs,vslots,vinit,vfini,vtls⟩ im),.int .i64 r.sym] w' fun e w''=>e=.returned (symV im r.sym)∧Below w'.heap.size w' w''):=Lib.hid (fun w' hb=>isym_any w' _ im r.sym ((hy.below hb).mono hb.size) hrs)
  unfold imgCells at *
  have Hfl:=Lib.hid (flags_bit im.flags hfl.1 hfl.2)
  have Hsz:=Lib.hid hsz
  clear hs hok hy hfl hsz
  generalize hI:(Array.mk [.string ⟨im.name.toArray⟩,.int .i64 im.flags,vsegs,vneeded,vrunPath,vsyms,vbuckets,vwords,.int .i64 im.shift,vrelocs,vslots,vinit,vfini,vtls,.int .i64 im.tlsSize]:Array Value)=I at HH HS
  have F0:=Lib.hid (heap_alloc_new w (.cells I 40 (0,0)))
  have B1:=Lib.hid (((Below.refl w.heap.size w).alloc (Nat.le_refl _) (.cells I 40 (0,0))).alloc (by simp) (.cells #[.int .i64 r.at_,.int .i64 r.kind,.int .i64 r.sym,.int .i64 r.add] 53 (0,0)))
  have G0:=Lib.hid (heap_alloc_new (w.alloc (.cells I 40 (0,0))) (.cells #[.int .i64 r.at_,.int .i64 r.kind,.int .i64 r.sym,.int .i64 r.add] 53 (0,0)))
  have F1:=Lib.hid ((heap_alloc_old (w.alloc (.cells I 40 (0,0))) (.cells #[.int .i64 r.at_,.int .i64 r.kind,.int .i64 r.sym,.int .i64 r.add] 53 (0,0)) (by simp)).trans F0.out)
  have hz1:((w.alloc (.cells I 40 (0,0))).alloc (.cells #[.int .i64 r.at_,.int .i64 r.kind,.int .i64 r.sym,.int .i64 r.add] 53 (0,0))).heap.size=w.heap.size+2:=by simp
  rw [World.size_alloc]at G0
  subst hI
  go_enter Tryz.func83,Tryz.ntmps83
  go_wp2_with fail
  generalize (w.alloc (.cells #[.string ⟨im.name.toArray⟩,.int .i64 im.flags,vsegs,vneeded,vrunPath,vsyms,vbuckets,vwords,.int .i64 im.shift,vrelocs,vslots,vinit,vfini,vtls,.int .i64 im.tlsSize] 40 (0,0))).alloc (.cells #[.int .i64 r.at_,.int .i64 r.kind,.int .i64 r.sym,.int .i64 r.add] 53 (0,0))=w1 at *
  refine(HS.out w1 B1.out).mono ?_
  rintro e w2 ⟨rfl,hb2⟩
  have hz2:=hb2.size
  have G2:=Lib.hid ((hb2.block (w.heap.size+1) (by omega)).trans G0.out)
  have F2:=Lib.hid ((hb2.block w.heap.size (by omega)).trans F1.out)
  have B2:=Lib.hid (B1.out.trans (hb2.mono (by omega)))
  clear hb2 F0 G0 F1 B1 HS
  cases hsa:symAt im r.sym with
  | none=>
    have hv:symV im r.sym=.tuple #[.agg #[.string ⟨#[]⟩,.string ⟨#[]⟩,.bool false,.int .i64 0,.bool false,.int .i64 0,.bool false,.int .i64 0,.int .i64 0],.bool false]:=by rw [symV,symD,hsa];rfl
    rw [hv]
    have Hsa:=Lib.hid hsa
    clear hv hsa
    have G3:=(heap_alloc_old w2 (.cells #[.string ⟨#[]⟩,.string ⟨#[]⟩,.bool false,.int .i64 0,.bool false,.int .i64 0,.bool false,.int .i64 0,.int .i64 0] 72 (0,0)) (r:=w.heap.size+1) (by omega)).trans G2.out
    have F3:=(heap_alloc_old w2 (.cells #[.string ⟨#[]⟩,.string ⟨#[]⟩,.bool false,.int .i64 0,.bool false,.int .i64 0,.bool false,.int .i64 0,.int .i64 0] 72 (0,0)) (r:=w.heap.size) (by omega)).trans F2.out
    have B3:=Lib.hid (B2.out.alloc (by omega) (.cells #[.string ⟨#[]⟩,.string ⟨#[]⟩,.bool false,.int .i64 0,.bool false,.int .i64 0,.bool false,.int .i64 0,.int .i64 0] 72 (0,0)))
    have t1:w2.cell? ⟨w.heap.size+1,1,none⟩=some (.int .i64 r.kind):=by rw [Lib.cell_of_heap G2.out];rfl
    have hzt:w.heap.size+1<w2.heap.size:=by omega
    go_upto_block 0 with fail
    have hz3:(w2.alloc (.cells #[.string ⟨#[]⟩,.string ⟨#[]⟩,.bool false,.int .i64 0,.bool false,.int .i64 0,.bool false,.int .i64 0,.int .i64 0] 72 (0,0))).heap.size=w2.heap.size+1:=by simp
    generalize w2.alloc (.cells #[.string ⟨#[]⟩,.string ⟨#[]⟩,.bool false,.int .i64 0,.bool false,.int .i64 0,.bool false,.int .i64 0,.int .i64 0] 72 (0,0))=w3 at *
    have r0:w3.cell? ⟨w.heap.size+1,0,none⟩=some (.int .i64 r.at_):=by rw [Lib.cell_of_heap G3];rfl
    have r1:w3.cell? ⟨w.heap.size+1,1,none⟩=some (.int .i64 r.kind):=by rw [Lib.cell_of_heap G3];rfl
    have r2:w3.cell? ⟨w.heap.size+1,2,none⟩=some (.int .i64 r.sym):=by rw [Lib.cell_of_heap G3];rfl
    have r3:w3.cell? ⟨w.heap.size+1,3,none⟩=some (.int .i64 r.add):=by rw [Lib.cell_of_heap G3];rfl
    obtain⟨i0,i1,i2,i3,i4,i5,i6,i7,i8,i9,i10,i11,i12,i13,i14⟩:=img_cells F3
    clear F3 G3 F2 G2 B2
    by_cases k1:r.kind=1
    case neg=>
      have b1:(r.kind==1)=false:=by rw [beq_eq_false_iff_ne];exact k1
      have Hr:=Lib.hid (relocR_none (im:=im) k1 Hsa.out)
      go_wp2
      all_goals go_ret
      all_goals exact⟨by rw [Hr.out];rfl,B3.out⟩
    case pos=>
      have b1:(r.kind==1)=true:=by rw [beq_iff_eq];exact k1
      have HR:Hid (relocR im r=(decide (r.sym= -1)&&decide (0≤r.add)&&decide (r.add≤65536)&&holdsB im.segs r.at_ 8 0)):=Lib.hid (by rw [relocR,if_pos k1])
      by_cases p0:r.sym= -1
      case neg=>
        have q0:(r.sym== -1)=false:=by rw [beq_eq_false_iff_ne];assumption
        have Hr:Hid (relocR im r=false):=Lib.hid (by rw [HR.out,decide_eq_false (p:=r.sym= -1) p0];simp)
        go_wp2
        go_ret
        exact⟨by rw [Hr.out];rfl,B3.out⟩
      have q0:(r.sym== -1)=true:=by rw [beq_iff_eq];assumption
      by_cases p1:0≤r.add
      case neg=>
        have q1:decide (0≤r.add)=false:=by rw [decide_eq_false_iff_not];assumption
        have Hr:Hid (relocR im r=false):=Lib.hid (by rw [HR.out,decide_eq_false (p:=0≤r.add) p1];simp)
        go_wp2
        go_ret
        exact⟨by rw [Hr.out];rfl,B3.out⟩
      have q1:decide (0≤r.add)=true:=by rw [decide_eq_true_eq];assumption
      by_cases p2:r.add≤65536
      case neg=>
        have q2:decide (r.add≤65536)=false:=by rw [decide_eq_false_iff_not];assumption
        have Hr:Hid (relocR im r=false):=Lib.hid (by rw [HR.out,decide_eq_false (p:=r.add≤65536) p2];simp)
        go_wp2
        go_ret
        exact⟨by rw [Hr.out];rfl,B3.out⟩
      have q2:decide (r.add≤65536)=true:=by rw [decide_eq_true_eq];assumption
      have Hr:Hid (relocR im r=holdsB im.segs r.at_ 8 0):=Lib.hid (by rw [HR.out,decide_eq_true (p:=r.sym= -1) p0,decide_eq_true (p:=0≤r.add) p1,decide_eq_true (p:=r.add≤65536) p2];simp)
      have Hh:=Lib.hid (HH.out w3 r.at_ 8 0 B3.out hra (by decide) (by decide))
      go_wp2_with fail
      refine Hh.out.mono ?_
      rintro e w4 ⟨rfl,hb4⟩
      have B4:=Lib.hid (B3.out.trans (hb4.mono (by omega)))
      clear hb4 i0 i1 i2 i3 i4 i5 i6 i7 i8 i9 i10 i11 i12 i13 i14 r0 r1 r2 r3
      go_wp2
      go_ret
      exact⟨by rw [Hr.out];rfl,B4.out⟩
  | some s=>
    have hv:symV im r.sym=.tuple #[.agg #[.string ⟨s.name.toArray⟩,.string ⟨s.version.toArray⟩,.bool s.old,.int .i64 s.kind,.bool s.weak,.int .i64 s.vis,.bool s.defined,.int .i64 s.value,.int .i64 s.size],.bool true]:=by rw [symV,symD,hsa];rfl
    rw [hv]
    have Hsa:=Lib.hid hsa
    have hsz:=Hsz.out s (symAt_range hsa).2.2
    clear hv hsa
    have S3:=heap_alloc_new w2 (.cells #[.string ⟨s.name.toArray⟩,.string ⟨s.version.toArray⟩,.bool s.old,.int .i64 s.kind,.bool s.weak,.int .i64 s.vis,.bool s.defined,.int .i64 s.value,.int .i64 s.size] 72 (0,0))
    have G3:=(heap_alloc_old w2 (.cells #[.string ⟨s.name.toArray⟩,.string ⟨s.version.toArray⟩,.bool s.old,.int .i64 s.kind,.bool s.weak,.int .i64 s.vis,.bool s.defined,.int .i64 s.value,.int .i64 s.size] 72 (0,0)) (r:=w.heap.size+1) (by omega)).trans G2.out
    have F3:=(heap_alloc_old w2 (.cells #[.string ⟨s.name.toArray⟩,.string ⟨s.version.toArray⟩,.bool s.old,.int .i64 s.kind,.bool s.weak,.int .i64 s.vis,.bool s.defined,.int .i64 s.value,.int .i64 s.size] 72 (0,0)) (r:=w.heap.size) (by omega)).trans F2.out
    have B3:=Lib.hid (B2.out.alloc (by omega) (.cells #[.string ⟨s.name.toArray⟩,.string ⟨s.version.toArray⟩,.bool s.old,.int .i64 s.kind,.bool s.weak,.int .i64 s.vis,.bool s.defined,.int .i64 s.value,.int .i64 s.size] 72 (0,0)))
    have t1:w2.cell? ⟨w.heap.size+1,1,none⟩=some (.int .i64 r.kind):=by rw [Lib.cell_of_heap G2.out];rfl
    have hzt:w.heap.size+1<w2.heap.size:=by omega
    go_upto_block 0 with fail
    have hz3:(w2.alloc (.cells #[.string ⟨s.name.toArray⟩,.string ⟨s.version.toArray⟩,.bool s.old,.int .i64 s.kind,.bool s.weak,.int .i64 s.vis,.bool s.defined,.int .i64 s.value,.int .i64 s.size] 72 (0,0))).heap.size=w2.heap.size+1:=by simp
    generalize w2.alloc (.cells #[.string ⟨s.name.toArray⟩,.string ⟨s.version.toArray⟩,.bool s.old,.int .i64 s.kind,.bool s.weak,.int .i64 s.vis,.bool s.defined,.int .i64 s.value,.int .i64 s.size] 72 (0,0))=w3 at *
    have r0:w3.cell? ⟨w.heap.size+1,0,none⟩=some (.int .i64 r.at_):=by rw [Lib.cell_of_heap G3];rfl
    have r1:w3.cell? ⟨w.heap.size+1,1,none⟩=some (.int .i64 r.kind):=by rw [Lib.cell_of_heap G3];rfl
    have r2:w3.cell? ⟨w.heap.size+1,2,none⟩=some (.int .i64 r.sym):=by rw [Lib.cell_of_heap G3];rfl
    have r3:w3.cell? ⟨w.heap.size+1,3,none⟩=some (.int .i64 r.add):=by rw [Lib.cell_of_heap G3];rfl
    obtain⟨i0,i1,i2,i3,i4,i5,i6,i7,i8,i9,i10,i11,i12,i13,i14⟩:=img_cells F3
    obtain⟨c0,c1,c2,c3,c4,c5,c6,c7,c8⟩:=sym_cells S3
    clear F3 G3 F2 G2 B2 S3
    by_cases k1:r.kind=1
    case pos=>
      have b1:(r.kind==1)=true:=by rw [beq_iff_eq];exact k1
      have HR:Hid (relocR im r=(decide (r.sym= -1)&&decide (0≤r.add)&&decide (r.add≤65536)&&holdsB im.segs r.at_ 8 0)):=Lib.hid (by rw [relocR,if_pos k1])
      by_cases p0:r.sym= -1
      case neg=>
        have q0:(r.sym== -1)=false:=by rw [beq_eq_false_iff_ne];assumption
        have Hr:Hid (relocR im r=false):=Lib.hid (by rw [HR.out,decide_eq_false (p:=r.sym= -1) p0];simp)
        go_wp2
        go_ret
        exact⟨by rw [Hr.out];rfl,B3.out⟩
      have q0:(r.sym== -1)=true:=by rw [beq_iff_eq];assumption
      by_cases p1:0≤r.add
      case neg=>
        have q1:decide (0≤r.add)=false:=by rw [decide_eq_false_iff_not];assumption
        have Hr:Hid (relocR im r=false):=Lib.hid (by rw [HR.out,decide_eq_false (p:=0≤r.add) p1];simp)
        go_wp2
        go_ret
        exact⟨by rw [Hr.out];rfl,B3.out⟩
      have q1:decide (0≤r.add)=true:=by rw [decide_eq_true_eq];assumption
      by_cases p2:r.add≤65536
      case neg=>
        have q2:decide (r.add≤65536)=false:=by rw [decide_eq_false_iff_not];assumption
        have Hr:Hid (relocR im r=false):=Lib.hid (by rw [HR.out,decide_eq_false (p:=r.add≤65536) p2];simp)
        go_wp2
        go_ret
        exact⟨by rw [Hr.out];rfl,B3.out⟩
      have q2:decide (r.add≤65536)=true:=by rw [decide_eq_true_eq];assumption
      have Hr:Hid (relocR im r=holdsB im.segs r.at_ 8 0):=Lib.hid (by rw [HR.out,decide_eq_true (p:=r.sym= -1) p0,decide_eq_true (p:=0≤r.add) p1,decide_eq_true (p:=r.add≤65536) p2];simp)
      have Hh:=Lib.hid (HH.out w3 r.at_ 8 0 B3.out hra (by decide) (by decide))
      go_wp2_with fail
      refine Hh.out.mono ?_
      rintro e w4 ⟨rfl,hb4⟩
      have B4:=Lib.hid (B3.out.trans (hb4.mono (by omega)))
      clear hb4 i0 i1 i2 i3 i4 i5 i6 i7 i8 i9 i10 i11 i12 i13 i14 r0 r1 r2 r3
      go_wp2
      go_ret
      exact⟨by rw [Hr.out];rfl,B4.out⟩
    have b1:(r.kind==1)=false:=by rw [beq_eq_false_iff_ne];exact k1
    by_cases k0:r.kind=0
    case pos=>
      have b0:(r.kind==0)=true:=by rw [beq_iff_eq];exact k0
      have HR:Hid (relocR im r=(decide (s.kind≠3)&&holdsB im.segs r.at_ 8 0)):=Lib.hid (by rw [relocR,if_neg k1,Hsa.out];simp only [];rw [if_pos (Or.inl k0)])
      by_cases p0:s.kind≠3
      case neg=>
        have q0:(s.kind==3)=true:=by rw [beq_iff_eq];exact Decidable.byContradiction p0
        have Hr:Hid (relocR im r=false):=Lib.hid (by rw [HR.out,decide_eq_false (p:=s.kind≠3) p0];simp)
        go_wp2
        go_ret
        exact⟨by rw [Hr.out];rfl,B3.out⟩
      have q0:(s.kind==3)=false:=by rw [beq_eq_false_iff_ne];assumption
      have Hr:Hid (relocR im r=holdsB im.segs r.at_ 8 0):=Lib.hid (by rw [HR.out,decide_eq_true (p:=s.kind≠3) p0];simp)
      have Hh:=Lib.hid (HH.out w3 r.at_ 8 0 B3.out hra (by decide) (by decide))
      go_wp2_with fail
      refine Hh.out.mono ?_
      rintro e w4 ⟨rfl,hb4⟩
      have B4:=Lib.hid (B3.out.trans (hb4.mono (by omega)))
      clear hb4 i0 i1 i2 i3 i4 i5 i6 i7 i8 i9 i10 i11 i12 i13 i14 r0 r1 r2 r3
      go_wp2
      go_ret
      exact⟨by rw [Hr.out];rfl,B4.out⟩
    have b0:(r.kind==0)=false:=by rw [beq_eq_false_iff_ne];exact k0
    by_cases k6:r.kind=6
    case pos=>
      have b6:(r.kind==6)=true:=by rw [beq_iff_eq];exact k6
      have HR:Hid (relocR im r=(decide (s.kind≠3)&&holdsB im.segs r.at_ 8 0)):=Lib.hid (by rw [relocR,if_neg k1,Hsa.out];simp only [];rw [if_pos (Or.inr k6)])
      by_cases p0:s.kind≠3
      case neg=>
        have q0:(s.kind==3)=true:=by rw [beq_iff_eq];exact Decidable.byContradiction p0
        have Hr:Hid (relocR im r=false):=Lib.hid (by rw [HR.out,decide_eq_false (p:=s.kind≠3) p0];simp)
        go_wp2
        go_ret
        exact⟨by rw [Hr.out];rfl,B3.out⟩
      have q0:(s.kind==3)=false:=by rw [beq_eq_false_iff_ne];assumption
      have Hr:Hid (relocR im r=holdsB im.segs r.at_ 8 0):=Lib.hid (by rw [HR.out,decide_eq_true (p:=s.kind≠3) p0];simp)
      have Hh:=Lib.hid (HH.out w3 r.at_ 8 0 B3.out hra (by decide) (by decide))
      go_wp2_with fail
      refine Hh.out.mono ?_
      rintro e w4 ⟨rfl,hb4⟩
      have B4:=Lib.hid (B3.out.trans (hb4.mono (by omega)))
      clear hb4 i0 i1 i2 i3 i4 i5 i6 i7 i8 i9 i10 i11 i12 i13 i14 r0 r1 r2 r3
      go_wp2
      go_ret
      exact⟨by rw [Hr.out];rfl,B4.out⟩
    have b6:(r.kind==6)=false:=by rw [beq_eq_false_iff_ne];exact k6
    by_cases k7:r.kind=7
    case pos=>
      have b7:(r.kind==7)=true:=by rw [beq_iff_eq];exact k7
      have HR:Hid (relocR im r=(decide (r.add=0)&&holdsB im.segs r.at_ 8 0)):=Lib.hid (by rw [relocR,if_neg k1,Hsa.out];simp only [];rw [if_neg (by omega),if_pos k7])
      by_cases p0:r.add=0
      case neg=>
        have q0:(r.add==0)=false:=by rw [beq_eq_false_iff_ne];assumption
        have Hr:Hid (relocR im r=false):=Lib.hid (by rw [HR.out,decide_eq_false (p:=r.add=0) p0];simp)
        go_wp2
        go_ret
        exact⟨by rw [Hr.out];rfl,B3.out⟩
      have q0:(r.add==0)=true:=by rw [beq_iff_eq];assumption
      have Hr:Hid (relocR im r=holdsB im.segs r.at_ 8 0):=Lib.hid (by rw [HR.out,decide_eq_true (p:=r.add=0) p0];simp)
      have Hh:=Lib.hid (HH.out w3 r.at_ 8 0 B3.out hra (by decide) (by decide))
      go_wp2_with fail
      refine Hh.out.mono ?_
      rintro e w4 ⟨rfl,hb4⟩
      have B4:=Lib.hid (B3.out.trans (hb4.mono (by omega)))
      clear hb4 i0 i1 i2 i3 i4 i5 i6 i7 i8 i9 i10 i11 i12 i13 i14 r0 r1 r2 r3
      go_wp2
      go_ret
      exact⟨by rw [Hr.out];rfl,B4.out⟩
    have b7:(r.kind==7)=false:=by rw [beq_eq_false_iff_ne];exact k7
    by_cases k3:r.kind=3
    case pos=>
      have b3:(r.kind==3)=true:=by rw [beq_iff_eq];exact k3
      have HR:Hid (relocR im r=(decide (s.kind=3)&&decide (r.add=0)&&holdsB im.segs r.at_ 8 0)):=Lib.hid (by rw [relocR,if_neg k1,Hsa.out];simp only [];rw [if_neg (by omega),if_neg (by omega),if_pos k3])
      by_cases p0:s.kind=3
      case neg=>
        have q0:(s.kind==3)=false:=by rw [beq_eq_false_iff_ne];assumption
        have Hr:Hid (relocR im r=false):=Lib.hid (by rw [HR.out,decide_eq_false (p:=s.kind=3) p0];simp)
        go_wp2
        go_ret
        exact⟨by rw [Hr.out];rfl,B3.out⟩
      have q0:(s.kind==3)=true:=by rw [beq_iff_eq];assumption
      by_cases p1:r.add=0
      case neg=>
        have q1:(r.add==0)=false:=by rw [beq_eq_false_iff_ne];assumption
        have Hr:Hid (relocR im r=false):=Lib.hid (by rw [HR.out,decide_eq_false (p:=r.add=0) p1];simp)
        go_wp2
        go_ret
        exact⟨by rw [Hr.out];rfl,B3.out⟩
      have q1:(r.add==0)=true:=by rw [beq_iff_eq];assumption
      have Hr:Hid (relocR im r=holdsB im.segs r.at_ 8 0):=Lib.hid (by rw [HR.out,decide_eq_true (p:=s.kind=3) p0,decide_eq_true (p:=r.add=0) p1];simp)
      have Hh:=Lib.hid (HH.out w3 r.at_ 8 0 B3.out hra (by decide) (by decide))
      go_wp2_with fail
      refine Hh.out.mono ?_
      rintro e w4 ⟨rfl,hb4⟩
      have B4:=Lib.hid (B3.out.trans (hb4.mono (by omega)))
      clear hb4 i0 i1 i2 i3 i4 i5 i6 i7 i8 i9 i10 i11 i12 i13 i14 r0 r1 r2 r3
      go_wp2
      go_ret
      exact⟨by rw [Hr.out];rfl,B4.out⟩
    have b3:(r.kind==3)=false:=by rw [beq_eq_false_iff_ne];exact k3
    by_cases k4:r.kind=4
    case pos=>
      have b4:(r.kind==4)=true:=by rw [beq_iff_eq];exact k4
      have HR:Hid (relocR im r=(decide (s.kind=3)&&holdsB im.segs r.at_ 8 0)):=Lib.hid (by rw [relocR,if_neg k1,Hsa.out];simp only [];rw [if_neg (by omega),if_neg (by omega),if_neg (by omega),if_pos (Or.inl k4)])
      by_cases p0:s.kind=3
      case neg=>
        have q0:(s.kind==3)=false:=by rw [beq_eq_false_iff_ne];assumption
        have Hr:Hid (relocR im r=false):=Lib.hid (by rw [HR.out,decide_eq_false (p:=s.kind=3) p0];simp)
        go_wp2
        go_ret
        exact⟨by rw [Hr.out];rfl,B3.out⟩
      have q0:(s.kind==3)=true:=by rw [beq_iff_eq];assumption
      have Hr:Hid (relocR im r=holdsB im.segs r.at_ 8 0):=Lib.hid (by rw [HR.out,decide_eq_true (p:=s.kind=3) p0];simp)
      have Hh:=Lib.hid (HH.out w3 r.at_ 8 0 B3.out hra (by decide) (by decide))
      go_wp2_with fail
      refine Hh.out.mono ?_
      rintro e w4 ⟨rfl,hb4⟩
      have B4:=Lib.hid (B3.out.trans (hb4.mono (by omega)))
      clear hb4 i0 i1 i2 i3 i4 i5 i6 i7 i8 i9 i10 i11 i12 i13 i14 r0 r1 r2 r3
      go_wp2
      go_ret
      exact⟨by rw [Hr.out];rfl,B4.out⟩
    have b4:(r.kind==4)=false:=by rw [beq_eq_false_iff_ne];exact k4
    by_cases k5:r.kind=5
    case pos=>
      have b5:(r.kind==5)=true:=by rw [beq_iff_eq];exact k5
      have HR:Hid (relocR im r=(decide (s.kind=3)&&holdsB im.segs r.at_ 8 0)):=Lib.hid (by rw [relocR,if_neg k1,Hsa.out];simp only [];rw [if_neg (by omega),if_neg (by omega),if_neg (by omega),if_pos (Or.inr k5)])
      by_cases p0:s.kind=3
      case neg=>
        have q0:(s.kind==3)=false:=by rw [beq_eq_false_iff_ne];assumption
        have Hr:Hid (relocR im r=false):=Lib.hid (by rw [HR.out,decide_eq_false (p:=s.kind=3) p0];simp)
        go_wp2
        go_ret
        exact⟨by rw [Hr.out];rfl,B3.out⟩
      have q0:(s.kind==3)=true:=by rw [beq_iff_eq];assumption
      have Hr:Hid (relocR im r=holdsB im.segs r.at_ 8 0):=Lib.hid (by rw [HR.out,decide_eq_true (p:=s.kind=3) p0];simp)
      have Hh:=Lib.hid (HH.out w3 r.at_ 8 0 B3.out hra (by decide) (by decide))
      go_wp2_with fail
      refine Hh.out.mono ?_
      rintro e w4 ⟨rfl,hb4⟩
      have B4:=Lib.hid (B3.out.trans (hb4.mono (by omega)))
      clear hb4 i0 i1 i2 i3 i4 i5 i6 i7 i8 i9 i10 i11 i12 i13 i14 r0 r1 r2 r3
      go_wp2
      go_ret
      exact⟨by rw [Hr.out];rfl,B4.out⟩
    have b5:(r.kind==5)=false:=by rw [beq_eq_false_iff_ne];exact k5
    by_cases k2:r.kind=2
    case pos=>
      have b2:(r.kind==2)=true:=by rw [beq_iff_eq];exact k2
      have _bt:(s.kind==3)=(s.kind==3):=rfl
      have HR:Hid (relocR im r=(decide (s.kind=2)&&s.defined&&decide (1≤s.size)&&decide (s.value=r.at_)&&decide (im.flags%2=1)&&decide (r.add=0)&&holdsB im.segs r.at_ s.size 2)):=Lib.hid (by rw [relocR,if_neg k1,Hsa.out];simp only [];rw [if_neg (by omega),if_neg (by omega),if_neg (by omega),if_neg (by omega),if_pos k2])
      by_cases p0:s.kind=2
      case neg=>
        have q0:(s.kind==2)=false:=by rw [beq_eq_false_iff_ne];assumption
        have Hr:Hid (relocR im r=false):=Lib.hid (by rw [HR.out,decide_eq_false (p:=s.kind=2) p0];simp)
        go_wp2
        go_ret
        exact⟨by rw [Hr.out];rfl,B3.out⟩
      have q0:(s.kind==2)=true:=by rw [beq_iff_eq];assumption
      cases hd:s.defined with
      | false=>
        rw [hd]at c6
        have Hr:Hid (relocR im r=false):=Lib.hid (by rw [HR.out,hd];simp)
        clear hd
        go_wp2
        go_ret
        exact⟨by rw [Hr.out];rfl,B3.out⟩
      | true=>
      rw [hd]at c6
      have Hd2:=Lib.hid hd
      clear hd
      by_cases p2:1≤s.size
      case neg=>
        have q2:decide (1≤s.size)=false:=by rw [decide_eq_false_iff_not];assumption
        have Hr:Hid (relocR im r=false):=Lib.hid (by rw [HR.out,decide_eq_false (p:=1≤s.size) p2];simp)
        go_wp2
        go_ret
        exact⟨by rw [Hr.out];rfl,B3.out⟩
      have q2:decide (1≤s.size)=true:=by rw [decide_eq_true_eq];assumption
      by_cases p3:s.value=r.at_
      case neg=>
        have q3:(s.value==r.at_)=false:=by rw [beq_eq_false_iff_ne];assumption
        have Hr:Hid (relocR im r=false):=Lib.hid (by rw [HR.out,decide_eq_false (p:=s.value=r.at_) p3];simp)
        go_wp2
        go_ret
        exact⟨by rw [Hr.out];rfl,B3.out⟩
      have q3:(s.value==r.at_)=true:=by rw [beq_iff_eq];assumption
      by_cases p4:im.flags%2=1
      case neg=>
        have q4:(bits BinOp.and .i64 im.flags 1 != 0)=false:=by rw [Hfl.out,decide_eq_false_iff_not];assumption
        have Hr:Hid (relocR im r=false):=Lib.hid (by rw [HR.out,decide_eq_false (p:=im.flags%2=1) p4];simp)
        go_wp2
        go_ret
        exact⟨by rw [Hr.out];rfl,B3.out⟩
      have q4:(bits BinOp.and .i64 im.flags 1 != 0)=true:=by rw [Hfl.out,decide_eq_true_eq];assumption
      by_cases p5:r.add=0
      case neg=>
        have q5:(r.add==0)=false:=by rw [beq_eq_false_iff_ne];assumption
        have Hr:Hid (relocR im r=false):=Lib.hid (by rw [HR.out,decide_eq_false (p:=r.add=0) p5];simp)
        go_wp2
        go_ret
        exact⟨by rw [Hr.out];rfl,B3.out⟩
      have q5:(r.add==0)=true:=by rw [beq_iff_eq];assumption
      have Hr:Hid (relocR im r=holdsB im.segs r.at_ s.size 2):=Lib.hid (by rw [HR.out,decide_eq_true (p:=s.kind=2) p0,Hd2.out,decide_eq_true (p:=1≤s.size) p2,decide_eq_true (p:=s.value=r.at_) p3,decide_eq_true (p:=im.flags%2=1) p4,decide_eq_true (p:=r.add=0) p5];simp)
      have Hh:=Lib.hid (HH.out w3 r.at_ s.size 2 B3.out hra ⟨by omega,hsz⟩ (by decide))
      clear Hd2
      go_wp2_with fail
      refine Hh.out.mono ?_
      rintro e w4 ⟨rfl,hb4⟩
      have B4:=Lib.hid (B3.out.trans (hb4.mono (by omega)))
      clear hb4 i0 i1 i2 i3 i4 i5 i6 i7 i8 i9 i10 i11 i12 i13 i14 r0 r1 r2 r3
      go_wp2
      go_ret
      exact⟨by rw [Hr.out];rfl,B4.out⟩
    have b2:(r.kind==2)=false:=by rw [beq_eq_false_iff_ne];exact k2
    have Hr:Hid (relocR im r=false):=Lib.hid (by rw [relocR,if_neg k1,Hsa.out];simp only [];rw [if_neg (by omega),if_neg (by omega),if_neg (by omega),if_neg (by omega),if_neg (by omega)])
    go_wp2
    go_ret
    exact⟨by rw [Hr.out];rfl,B3.out⟩
end Go.Proofs.YtfchpchabdhcgaaGreat
namespace Go.Proofs.YtfchpchabdhcgaaGreat
open Go.RowKit
def RelOk (r:RelL):Prop:=(-9223372036854775808≤r.sym∧r.sym≤9223372036854775807)∧(-9223372036854775808≤r.at_∧r.at_≤9223372036854775807)∧(-9223372036854775808≤r.add∧r.add≤9223372036854775807)
theorem segOk_of {im:ImgL} (h:segsB im.segs=true):∀ s∈im.segs,SegOk s:=fun s hs=>by
 have:=segs_good h s hs;unfold SegOk;omega
theorem relocsFrom_low {im:ImgL} {e:Int} {r:RelL} {l:List RelL} (h:¬ e≤r.at_):relocsFrom im e (r :: l)=false:=by rw [relocsFrom,decide_eq_false (p:=e≤r.at_) h];rfl
theorem relocsFrom_bad {im:ImgL} {e:Int} {r:RelL} {l:List RelL} (h:relocB im r=false):relocsFrom im e (r :: l)=false:=by rw [relocsFrom,h];simp
theorem relocsFrom_ok {im:ImgL} {e:Int} {r:RelL} {l:List RelL} (h:e≤r.at_) (h2:relocB im r=true):relocsFrom im e (r :: l)=relocsFrom im (r.at_+wideL im r) l:=by rw [relocsFrom,h2,decide_eq_true (p:=e≤r.at_) h];rfl
abbrev relArr (r:RelL):Array Value:=#[.int .i64 r.at_,.int .i64 r.kind,.int .i64 r.sym,.int .i64 r.add]
theorem irelocs_any (w:World) (v:ImgV) (im:ImgL) (hs:LB kSeg (·<w.heap.size) w v.segs im.segs) (hg:segsB im.segs=true) (hy:LB kSym (·<w.heap.size) w v.syms im.syms) (hfl:0≤im.flags∧im.flags<16)
  (hr:LB kRel (·<w.heap.size) w v.relocs im.relocs) (hrr:∀ r∈im.relocs,RelOk r) (hsz:∀ s∈im.syms,0≤s.size∧s.size≤9223372036854775807) (hsl:im.syms.length≤512):
  Calls Tryz.prog 36 #[.agg (imgCells v im)] w fun e w'=>e=.returned (.bool (relocsB im))∧Below w.heap.size w w':=by
 obtain⟨ra,rb,roff,rcap,hrv,hrm,hrc,hrat⟩:=hr.at
 obtain⟨vsegs,vneeded,vrunPath,vsyms,vbuckets,vwords,vrelocs,vslots,vinit,vfini,vtls⟩:=v
 simp only at hrv
 subst hrv
 have HR:Hid (∀ (w':World) (r:RelL),Below w.heap.size w w'→RelOk r→
  Calls Tryz.prog 83 #[.agg (imgCells ⟨vsegs,vneeded,vrunPath,vsyms,vbuckets,vwords,.slice ra im.relocs.length rcap,vslots,vinit,vfini,vtls⟩ im),.agg #[.int .i64 r.at_,.int .i64 r.kind,.int .i64 r.sym,.int .i64 r.add]] w' fun e w''=>e=.returned (.bool (relocR im r))∧Below w'.heap.size w' w''):=Lib.hid (fun w' r hb hx=>ireloc_any w' _ im r ((hs.below hb).mono hb.size) (segOk_of hg) ((hy.below hb).mono hb.size) hfl hx.1 hx.2.1 (fun s h=>(hsz s h).2))
 have HW:Hid (∀ (w':World) (r:RelL),Below w.heap.size w w'→RelOk r→
  Calls Tryz.prog 84 #[.agg (imgCells ⟨vsegs,vneeded,vrunPath,vsyms,vbuckets,vwords,.slice ra im.relocs.length rcap,vslots,vinit,vfini,vtls⟩ im),.agg #[.int .i64 r.at_,.int .i64 r.kind,.int .i64 r.sym,.int .i64 r.add]] w' fun e w''=>e=.returned (.int .i64 (wideL im r))∧Below w'.heap.size w' w''):=Lib.hid (fun w' r hb hx=>iwide_any w' _ im r ((hy.below hb).mono hb.size) hx.1)
 unfold imgCells at *
 have Hrat:=Lib.hid hrat
 have Hrr:=Lib.hid hrr
 have Hsz:=Lib.hid hsz
 have HD:Hid (relocsB im=(decide (im.relocs.length≤512)&&relocsFrom im 0 im.relocs)):=Lib.hid rfl
 have Hg:=Lib.hid hg
 clear hs hg hy hfl hr hrr hsz hrat
 generalize hI:(Array.mk [.string ⟨im.name.toArray⟩,.int .i64 im.flags,vsegs,vneeded,vrunPath,vsyms,vbuckets,vwords,.int .i64 im.shift,.slice ra im.relocs.length rcap,vslots,vinit,vfini,vtls,.int .i64 im.tlsSize]:Array Value)=I at HR HW
 have F0:=Lib.hid (heap_alloc_new w (.cells I 40 (0,0)))
 have B1:=Lib.hid ((Below.refl w.heap.size w).alloc (Nat.le_refl _) (.cells I 40 (0,0)))
 subst hI
 go_enter Tryz.func36,Tryz.ntmps36
 go_wp2_with fail
 go_loopw [3,9] (fun e i wr=>∃ (k:Nat) (x:Int),i=.int .i64 k∧e=.int .i64 x∧0≤x∧x≤65536∧k≤im.relocs.length∧relocsFrom im 0 im.relocs=relocsFrom im x (im.relocs.drop k)∧Below w.heap.size w wr∧
  wr.heap[w.heap.size]? =some (.cells #[.string ⟨im.name.toArray⟩,.int .i64 im.flags,vsegs,vneeded,vrunPath,vsyms,vbuckets,vwords,.int .i64 im.shift,.slice ra im.relocs.length rcap,vslots,vinit,vfini,vtls,.int .i64 im.tlsSize] 40 (0,0))∧w.heap.size<wr.heap.size) (fun _ i _=>im.relocs.length-(intOf i).toNat)
 case atStart=>exact⟨0,0,rfl,rfl,by decide,by decide,Nat.zero_le _,by simp,B1.out,F0.out,by simp⟩
 case round=>
  obtain⟨k,x,rfl,rfl,hx0,hx1,hk,hse,hbel,hF,hzq⟩:=hrel
  have Hse:=Lib.hid hse
  have Hbel:=Lib.hid hbel
  have HF:=Lib.hid hF
  have hBr:=hbel.size
  clear hse
  by_cases hlt:k<im.relocs.length
  ·obtain rfl:=Hrat.out.addr (by omega)
   obtain⟨r,hx⟩:∃ r,im.relocs[k]? =some r:=⟨_,List.getElem?_eq_getElem hlt⟩
   obtain⟨g0,g1,g2,g3⟩:=(Hrat.out.below hbel).rel4 k r hx
   have hro:=Hrr.out r (List.mem_of_getElem? hx)
   have hro2:=hro.2
   have Hro:=Lib.hid hro
   have Hdc:=Lib.hid (drop_cons im.relocs k r hx)
   have hsb:=World.block_lt_of_cell? _ _ g0
   have HFr:=Lib.hid (heap_alloc_new wr (.cells (relArr r) 53 (0,0)))
   have HFi:=Lib.hid ((heap_alloc_old wr (.cells (relArr r) 53 (0,0)) hzq).trans hF)
   have HBr:=Lib.hid (Hbel.out.alloc hBr (.cells (relArr r) 53 (0,0)))
   unfold relArr at *
   clear hx hbel hF HF Hbel hro
   go_upto_region 5 with fail
   have hz1:(wr.alloc (.cells #[.int .i64 r.at_,.int .i64 r.kind,.int .i64 r.sym,.int .i64 r.add] 53 (0,0))).heap.size=wr.heap.size+1:=by simp
   generalize wr.alloc (.cells #[.int .i64 r.at_,.int .i64 r.kind,.int .i64 r.sym,.int .i64 r.add] 53 (0,0))=w1 at *
   have r0:w1.cell? ⟨wr.heap.size,0,none⟩=some (.int .i64 r.at_):=by rw [Lib.cell_of_heap HFr.out];rfl
   have r1:w1.cell? ⟨wr.heap.size,1,none⟩=some (.int .i64 r.kind):=by rw [Lib.cell_of_heap HFr.out];rfl
   have r2:w1.cell? ⟨wr.heap.size,2,none⟩=some (.int .i64 r.sym):=by rw [Lib.cell_of_heap HFr.out];rfl
   have r3:w1.cell? ⟨wr.heap.size,3,none⟩=some (.int .i64 r.add):=by rw [Lib.cell_of_heap HFr.out];rfl
   obtain⟨i0,i1,i2,i3,i4,i5,i6,i7,i8,i9,i10,i11,i12,i13,i14⟩:=img_cells HFi.out
   clear g0 g1 g2 g3
   by_cases h1:x≤r.at_
   case neg=>
    have Hn:Hid (relocsB im=false):=Lib.hid (by rw [HD.out,Hse.out,Hdc.out,relocsFrom_low h1];simp)
    have hd:decide (r.at_<x)=true:=by rw [decide_eq_true_eq];omega
    go_wp2
    go_ret
    exact⟨by rw [Hn.out];rfl,HBr.out⟩
   have hd:decide (r.at_<x)=false:=by rw [decide_eq_false_iff_not];omega
   go_wp2_with fail
   refine(ismall_any w1 r.add).mono ?_
   rintro e w2 ⟨rfl,rfl⟩
   cases hsm:(decide (-4294967296≤r.add)&&decide (r.add≤4294967296))with
   | false=>
    have Hn:Hid (relocsB im=false):=Lib.hid (by rw [HD.out,Hse.out,Hdc.out,relocsFrom_bad (by rw [relocB_R,hsm];rfl)];simp)
    clear hsm
    go_wp2
    go_ret
    exact⟨by rw [Hn.out];rfl,HBr.out⟩
   | true=>
    have Hsm:=Lib.hid hsm
    clear hsm
    go_wp2_with fail
    refine(HR.out w2 r HBr.out Hro.out).mono ?_
    rintro e w3 ⟨rfl,hb3⟩
    have hz3:=hb3.size
    have HB3:=Lib.hid (HBr.out.trans (hb3.mono (by omega)))
    have HF3:=Lib.hid ((hb3.block w.heap.size (by omega)).trans HFi.out)
    have HR3:=Lib.hid ((hb3.block wr.heap.size (by omega)).trans HFr.out)
    clear hb3 i0 i1 i2 i3 i4 i5 i6 i7 i8 i9 i10 i11 i12 i13 i14 r0 r1 r2 r3
    cases hrb:relocR im r with
    | false=>
     have Hn:Hid (relocsB im=false):=Lib.hid (by rw [HD.out,Hse.out,Hdc.out,relocsFrom_bad (by rw [relocB_R,hrb];simp)];simp)
     clear hrb
     go_wp2
     go_ret
     exact⟨by rw [Hn.out];rfl,HB3.out⟩
    | true=>
     have hgood:relocB im r=true:=by rw [relocB_R,hrb,Hsm.out];rfl
     have hrg:=reloc_good Hg.out hsl hgood
     have Hnx:Hid (relocsFrom im 0 im.relocs=relocsFrom im (r.at_+wideL im r) (im.relocs.drop (k+1))):=Lib.hid (by rw [Hse.out,Hdc.out,relocsFrom_ok h1 hgood])
     have hw0:0≤wideL im r:=by
      unfold wideL
      split
      ·rename_i s hs
       have:=(Hsz.out s (symAt_range hs).2.2).1
       split<;>omega
      ·omega
     obtain⟨i0,i1,i2,i3,i4,i5,i6,i7,i8,i9,i10,i11,i12,i13,i14⟩:=img_cells HF3.out
     have r0:w3.cell? ⟨wr.heap.size,0,none⟩=some (.int .i64 r.at_):=by rw [Lib.cell_of_heap HR3.out];rfl
     have r1:w3.cell? ⟨wr.heap.size,1,none⟩=some (.int .i64 r.kind):=by rw [Lib.cell_of_heap HR3.out];rfl
     have r2:w3.cell? ⟨wr.heap.size,2,none⟩=some (.int .i64 r.sym):=by rw [Lib.cell_of_heap HR3.out];rfl
     have r3:w3.cell? ⟨wr.heap.size,3,none⟩=some (.int .i64 r.add):=by rw [Lib.cell_of_heap HR3.out];rfl
     have l0:=fun x:Later w3=>x.cell i0
     have l1:=fun x:Later w3=>x.cell i1
     have l2:=fun x:Later w3=>x.cell i2
     have l3:=fun x:Later w3=>x.cell i3
     have l4:=fun x:Later w3=>x.cell i4
     have l5:=fun x:Later w3=>x.cell i5
     have l6:=fun x:Later w3=>x.cell i6
     have l7:=fun x:Later w3=>x.cell i7
     have l8:=fun x:Later w3=>x.cell i8
     have l9:=fun x:Later w3=>x.cell i9
     have l10:=fun x:Later w3=>x.cell i10
     have l11:=fun x:Later w3=>x.cell i11
     have l12:=fun x:Later w3=>x.cell i12
     have l13:=fun x:Later w3=>x.cell i13
     have l14:=fun x:Later w3=>x.cell i14
     have m0:=fun x:Later w3=>x.cell r0
     have m1:=fun x:Later w3=>x.cell r1
     have m2:=fun x:Later w3=>x.cell r2
     have m3:=fun x:Later w3=>x.cell r3
     clear hrb hgood i0 i1 i2 i3 i4 i5 i6 i7 i8 i9 i10 i11 i12 i13 i14 r0 r1 r2 r3
     obtain⟨wd,hwd⟩:∃ wd,wideL im r=wd:=⟨_,rfl⟩
     have HWr:=Lib.hid (fun w' hb=>HW.out w' r hb Hro.out)
     rw [hwd]at HWr hrg hw0 Hnx
     clear hwd
     go_wp2_with fail
     refine wp_region_later (by kernel_rfl) (by kernel_rfl) ?_
     repeat (go_big_quiet_step (first | (go_at_call 84;refine Later.call _ (HWr.out _ ?_);exact HB3.out.trans ((Later.h _).mono (by omega)))))
     refine wpQuiet_nil ?_
     rintro _ ⟨⟨wq,hq⟩,rfl⟩
     try simp only at hq
     have Hq:=Lib.hid hq
     clear hq l0 l1 l2 l3 l4 l5 l6 l7 l8 l9 l10 l11 l12 l13 l14 m0 m1 m2 m3
     go_wp2
     go_roundw
     case rel=>
      have hq:=Hq.out
      have:=hq.size
      exact⟨k+1,r.at_+wd,by go_num,rfl,by omega,by omega,by omega,Hnx.out,HB3.out.trans (hq.mono (by omega)),(hq.block w.heap.size (by omega)).trans HF3.out,by omega⟩
     case measure=>simp [intOf];omega
  ·obtain⟨i0,i1,i2,i3,i4,i5,i6,i7,i8,i9,i10,i11,i12,i13,i14⟩:=img_cells hF
   have hd:Hid (relocsB im=decide (im.relocs.length≤512)):=Lib.hid (by rw [HD.out,Hse.out,List.drop_eq_nil_of_le (by omega)];simp [relocsFrom])
   clear hbel hF i0 i1 i2 i3 i4 i5 i6 i7 i8 i10 i11 i12 i13 i14
   go_wp2
   go_ret
   exact⟨ret_bool' (by rw [hd.out,Bool.eq_iff_iff];simp;omega),Hbel.out⟩
end Go.Proofs.YtfchpchabdhcgaaGreat
namespace Go.Proofs.YtfchpchabdhcgaaGreat
open Go.RowKit
def SlotOk (s:SlotL):Prop:=(-9223372036854775808≤s.sym∧s.sym≤9223372036854775807)∧(-9223372036854775808≤s.at_∧s.at_≤9223372036854775807)∧(-9223372036854775808≤s.stub∧s.stub≤9223372036854775807)
def meetB (im:ImgL) (s:SlotL) (r:RelL):Bool:=decide (r.at_<s.at_+8)&&decide (s.at_<r.at_+wideL im r)
theorem slotB_parts (im:ImgL) (s:SlotL):slotB im s=((match symAt im s.sym with
   | some x=>decide (x.kind=1)
   | none=>false)&&holdsB im.segs s.at_ 8 0&&holdsB im.segs s.stub 8 4&&im.relocs.all fun r=> !meetB im s r):=rfl
theorem slotsFrom_low {im:ImgL} {e:Int} {s:SlotL} {l:List SlotL} (h:¬ e≤s.at_):slotsFrom im e (s :: l)=false:=by rw [slotsFrom,decide_eq_false (p:=e≤s.at_) h];rfl
theorem slotsFrom_bad {im:ImgL} {e:Int} {s:SlotL} {l:List SlotL} (h:slotB im s=false):slotsFrom im e (s :: l)=false:=by rw [slotsFrom,h];simp
theorem slotsFrom_ok {im:ImgL} {e:Int} {s:SlotL} {l:List SlotL} (h:e≤s.at_) (h2:slotB im s=true):slotsFrom im e (s :: l)=slotsFrom im (s.at_+8) l:=by rw [slotsFrom,h2,decide_eq_true (p:=e≤s.at_) h];rfl
theorem slotB_none {im:ImgL} {s:SlotL} (h:symAt im s.sym=none):slotB im s=false:=by rw [slotB_parts,h];rfl
theorem slotB_kind {im:ImgL} {s:SlotL} {x:SymL} (h:symAt im s.sym=some x) (hk:x.kind≠1):slotB im s=false:=by rw [slotB_parts,h];simp [hk]
theorem slotB_at {im:ImgL} {s:SlotL} (h:holdsB im.segs s.at_ 8 0=false):slotB im s=false:=by rw [slotB_parts,h];simp
theorem slotB_stub {im:ImgL} {s:SlotL} (h:holdsB im.segs s.stub 8 4=false):slotB im s=false:=by rw [slotB_parts,h];simp
theorem slotB_meet {im:ImgL} {s:SlotL} {r:RelL} {q:Nat} (hr:im.relocs[q]? =some r) (h:meetB im s r=true):slotB im s=false:=by
  have:(im.relocs.all fun r=> !meetB im s r)=false:=by rw [List.all_eq_false];exact⟨r,List.mem_of_getElem? hr,by simp [h]⟩
  rw [slotB_parts,this];simp
theorem slotB_ok {im:ImgL} {s:SlotL} {x:SymL} (h:symAt im s.sym=some x) (hk:x.kind=1) (h1:holdsB im.segs s.at_ 8 0=true) (h2:holdsB im.segs s.stub 8 4=true) (h3:(im.relocs.all fun r=> !meetB im s r)=true):slotB im s=true:=by
  rw [slotB_parts,h,h1,h2,h3];simp [hk]
theorem islots_any (w:World) (v:ImgV) (im:ImgL) (hs:LB kSeg (·<w.heap.size) w v.segs im.segs) (hg:segsB im.segs=true) (hy:LB kSym (·<w.heap.size) w v.syms im.syms)
    (hr:LB kRel (·<w.heap.size) w v.relocs im.relocs) (hrr:∀ r∈im.relocs,RelOk r) (hrel:relocsB im=true) (hsz:∀ s∈im.syms,0≤s.size∧s.size≤9223372036854775807) (hsl:im.syms.length≤512)
    (ht:LB kSlot (·<w.heap.size) w v.slots im.slots) (hto:∀ s∈im.slots,SlotOk s):
    Calls Tryz.prog 37 #[.agg (imgCells v im)] w fun e w'=>e=.returned (.bool (slotsB im))∧Below w.heap.size w w':=by
  obtain⟨ra,rb,roff,rcap,hrv,hrm,hrc,hrat⟩:=hr.at
  obtain⟨ta,tb,toff,tcap,htv,htm,htc,htat⟩:=ht.at
  obtain⟨vsegs,vneeded,vrunPath,vsyms,vbuckets,vwords,vrelocs,vslots,vinit,vfini,vtls⟩:=v
  simp only at hrv htv
  subst hrv htv
  have HH:Hid (∀ (w':World) (x n p:Int),Below w.heap.size w w'→(-9223372036854775808≤x∧x≤9223372036854775807)→(0≤n∧n≤9223372036854775807)→p=0∨p=2∨p=4→
    Calls Tryz.prog 75 #[.agg (imgCells ⟨vsegs,vneeded,vrunPath,vsyms,vbuckets,vwords,.slice ra im.relocs.length rcap,.slice ta im.slots.length tcap,vinit,vfini,vtls⟩ im),.agg #[.int .i64 x,.int .i64 n,.int .i64 p]] w' fun e w''=>e=.returned (.bool (holdsB im.segs x n p))∧Below w'.heap.size w' w''):=Lib.hid (fun w' x n p hb hx hn hp=>holds_any w' _ im x n p ((hs.below hb).mono hb.size) (segOk_of hg) hx hn hp)
  have HS:Hid (∀ (w':World) (i:Int),Below w.heap.size w w'→(-9223372036854775808≤i∧i≤9223372036854775807)→Calls Tryz.prog 85 #[.agg (imgCells ⟨vsegs,vneeded,vrunPath,vsyms,vbuckets,vwords,.slice ra im.relocs.length rcap,.slice ta im.slots.length tcap,vinit,vfini,vtls⟩ im),.int .i64 i] w' fun e w''=>e=.returned (symV im i)∧Below w'.heap.size w' w''):=Lib.hid (fun w' i hb hi=>isym_any w' _ im i ((hy.below hb).mono hb.size) hi)
  have HW:Hid (∀ (w':World) (r:RelL),Below w.heap.size w w'→RelOk r→
    Calls Tryz.prog 84 #[.agg (imgCells ⟨vsegs,vneeded,vrunPath,vsyms,vbuckets,vwords,.slice ra im.relocs.length rcap,.slice ta im.slots.length tcap,vinit,vfini,vtls⟩ im),.agg #[.int .i64 r.at_,.int .i64 r.kind,.int .i64 r.sym,.int .i64 r.add]] w' fun e w''=>e=.returned (.int .i64 (wideL im r))∧Below w'.heap.size w' w''):=Lib.hid (fun w' r hb hx=>iwide_any w' _ im r ((hy.below hb).mono hb.size) hx.1)
  unfold imgCells at *
  have Hrat:=Lib.hid hrat
  have Htat:=Lib.hid htat
  have Hrr:=Lib.hid hrr
  have Hto:=Lib.hid hto
  have Hsz:=Lib.hid hsz
  have HD:Hid (slotsB im=(decide (im.slots.length≤128)&&slotsFrom im 0 im.slots)):=Lib.hid rfl
  have Hg:=Lib.hid hg
  have Hrel:Hid (∀ r∈im.relocs,relocB im r=true):=Lib.hid (by
    have h:=hrel
    simp only [relocsB,Bool.and_eq_true]at h
    exact relocsFrom_each im _ _ h.2)
  clear hs hg hy hr hrr hrel hsz ht hto hrat htat
  generalize hI:(Array.mk [.string ⟨im.name.toArray⟩,.int .i64 im.flags,vsegs,vneeded,vrunPath,vsyms,vbuckets,vwords,.int .i64 im.shift,.slice ra im.relocs.length rcap,.slice ta im.slots.length tcap,vinit,vfini,vtls,.int .i64 im.tlsSize]:Array Value)=I at HH HS HW
  have F0:=Lib.hid (heap_alloc_new w (.cells I 40 (0,0)))
  have B1:=Lib.hid ((Below.refl w.heap.size w).alloc (Nat.le_refl _) (.cells I 40 (0,0)))
  subst hI
  go_enter Tryz.func37,Tryz.ntmps37
  go_wp2_with fail
  go_loopw [3,13] (fun e i wr=>∃ (k:Nat) (x:Int),i=.int .i64 k∧e=.int .i64 x∧0≤x∧x≤100000∧k≤im.slots.length∧slotsFrom im 0 im.slots=slotsFrom im x (im.slots.drop k)∧Below w.heap.size w wr∧
    wr.heap[w.heap.size]? =some (.cells #[.string ⟨im.name.toArray⟩,.int .i64 im.flags,vsegs,vneeded,vrunPath,vsyms,vbuckets,vwords,.int .i64 im.shift,.slice ra im.relocs.length rcap,.slice ta im.slots.length tcap,vinit,vfini,vtls,.int .i64 im.tlsSize] 40 (0,0))∧w.heap.size<wr.heap.size) (fun _ i _=>im.slots.length-(intOf i).toNat)
  case atStart=>exact⟨0,0,rfl,rfl,by decide,by decide,Nat.zero_le _,by simp,B1.out,F0.out,by simp⟩
  case round=>
    obtain⟨k,x,rfl,rfl,hx0,hx1,hk,hse,hbel,hF,hzq⟩:=hrel
    have Hse:=Lib.hid hse
    have Hbel:=Lib.hid hbel
    have hBr:=hbel.size
    clear hse
    by_cases hlt:k<im.slots.length
    · obtain rfl:=Htat.out.addr (by omega)
      obtain⟨s,hx⟩:∃ s,im.slots[k]? =some s:=⟨_,List.getElem?_eq_getElem hlt⟩
      obtain⟨g0,g1,g2⟩:=(Htat.out.below hbel).slot3 k s hx
      have hso:=Hto.out s (List.mem_of_getElem? hx)
      have hsa:=hso.2.1
      have Hso:=Lib.hid hso
      have Hdc:=Lib.hid (drop_cons im.slots k s hx)
      have hsb:=World.block_lt_of_cell? _ _ g0
      have HFs:=Lib.hid (heap_alloc_new wr (.cells #[.int .i64 s.at_,.int .i64 s.sym,.int .i64 s.stub] 76 (0,0)))
      have HFi:=Lib.hid ((heap_alloc_old wr (.cells #[.int .i64 s.at_,.int .i64 s.sym,.int .i64 s.stub] 76 (0,0)) hzq).trans hF)
      have HBs:=Lib.hid (Hbel.out.alloc hBr (.cells #[.int .i64 s.at_,.int .i64 s.sym,.int .i64 s.stub] 76 (0,0)))
      clear hx hbel hF Hbel hso
      go_upto_region 5 with fail
      have hz1:(wr.alloc (.cells #[.int .i64 s.at_,.int .i64 s.sym,.int .i64 s.stub] 76 (0,0))).heap.size=wr.heap.size+1:=by simp
      generalize wr.alloc (.cells #[.int .i64 s.at_,.int .i64 s.sym,.int .i64 s.stub] 76 (0,0))=w1 at *
      generalize wr.heap.size=zs at *
      have t0:w1.cell? ⟨zs,0,none⟩=some (.int .i64 s.at_):=by rw [Lib.cell_of_heap HFs.out];rfl
      have t1:w1.cell? ⟨zs,1,none⟩=some (.int .i64 s.sym):=by rw [Lib.cell_of_heap HFs.out];rfl
      have t2:w1.cell? ⟨zs,2,none⟩=some (.int .i64 s.stub):=by rw [Lib.cell_of_heap HFs.out];rfl
      obtain⟨i0,i1,i2,i3,i4,i5,i6,i7,i8,i9,i10,i11,i12,i13,i14⟩:=img_cells HFi.out
      clear g0 g1 g2
      go_wp2_with fail
      refine(HS.out w1 s.sym HBs.out Hso.out.1).mono ?_
      rintro e w2 ⟨rfl,hb2⟩
      have hz2:=hb2.size
      have F2:=Lib.hid ((hb2.block w.heap.size (by omega)).trans HFi.out)
      have S2:=Lib.hid ((hb2.block zs (by omega)).trans HFs.out)
      have B2:=Lib.hid (HBs.out.trans (hb2.mono (by omega)))
      clear hb2 i0 i1 i2 i3 i4 i5 i6 i7 i8 i9 i10 i11 i12 i13 i14 t0 t1 t2
      cases hsy:symAt im s.sym with
      | none=>
        have hv:symV im s.sym=.tuple #[.agg #[.string ⟨#[]⟩,.string ⟨#[]⟩,.bool false,.int .i64 0,.bool false,.int .i64 0,.bool false,.int .i64 0,.int .i64 0],.bool false]:=by rw [symV,symD,hsy];rfl
        rw [hv]
        have Hn:Hid (slotsB im=false):=Lib.hid (by rw [HD.out,Hse.out,Hdc.out,slotsFrom_bad (slotB_none hsy)];simp)
        have B3:=Lib.hid (B2.out.alloc (by omega) (.cells #[.string ⟨#[]⟩,.string ⟨#[]⟩,.bool false,.int .i64 0,.bool false,.int .i64 0,.bool false,.int .i64 0,.int .i64 0] 72 (0,0)))
        clear hv hsy
        go_wp2
        go_ret
        exact⟨by rw [Hn.out];rfl,B3.out⟩
      | some y=>
        have hv:symV im s.sym=.tuple #[.agg #[.string ⟨y.name.toArray⟩,.string ⟨y.version.toArray⟩,.bool y.old,.int .i64 y.kind,.bool y.weak,.int .i64 y.vis,.bool y.defined,.int .i64 y.value,.int .i64 y.size],.bool true]:=by rw [symV,symD,hsy];rfl
        rw [hv]
        have Hsy:=Lib.hid hsy
        have Y3:=Lib.hid (heap_alloc_new w2 (.cells #[.string ⟨y.name.toArray⟩,.string ⟨y.version.toArray⟩,.bool y.old,.int .i64 y.kind,.bool y.weak,.int .i64 y.vis,.bool y.defined,.int .i64 y.value,.int .i64 y.size] 72 (0,0)))
        have S3:=Lib.hid ((heap_alloc_old w2 (.cells #[.string ⟨y.name.toArray⟩,.string ⟨y.version.toArray⟩,.bool y.old,.int .i64 y.kind,.bool y.weak,.int .i64 y.vis,.bool y.defined,.int .i64 y.value,.int .i64 y.size] 72 (0,0)) (r:=zs) (by omega)).trans S2.out)
        have F3:=Lib.hid ((heap_alloc_old w2 (.cells #[.string ⟨y.name.toArray⟩,.string ⟨y.version.toArray⟩,.bool y.old,.int .i64 y.kind,.bool y.weak,.int .i64 y.vis,.bool y.defined,.int .i64 y.value,.int .i64 y.size] 72 (0,0)) (r:=w.heap.size) (by omega)).trans F2.out)
        have B3:=Lib.hid (B2.out.alloc (by omega) (.cells #[.string ⟨y.name.toArray⟩,.string ⟨y.version.toArray⟩,.bool y.old,.int .i64 y.kind,.bool y.weak,.int .i64 y.vis,.bool y.defined,.int .i64 y.value,.int .i64 y.size] 72 (0,0)))
        clear hv hsy S2 F2 B2
        go_upto_region 6 with fail
        have hz3:(w2.alloc (.cells #[.string ⟨y.name.toArray⟩,.string ⟨y.version.toArray⟩,.bool y.old,.int .i64 y.kind,.bool y.weak,.int .i64 y.vis,.bool y.defined,.int .i64 y.value,.int .i64 y.size] 72 (0,0))).heap.size=w2.heap.size+1:=by simp
        generalize w2.alloc (.cells #[.string ⟨y.name.toArray⟩,.string ⟨y.version.toArray⟩,.bool y.old,.int .i64 y.kind,.bool y.weak,.int .i64 y.vis,.bool y.defined,.int .i64 y.value,.int .i64 y.size] 72 (0,0))=w3 at *
        obtain⟨y0,y1,y2,y3,y4,y5,y6,y7,y8⟩:=sym_cells Y3.out
        have t0:w3.cell? ⟨zs,0,none⟩=some (.int .i64 s.at_):=by rw [Lib.cell_of_heap S3.out];rfl
        have t2:w3.cell? ⟨zs,2,none⟩=some (.int .i64 s.stub):=by rw [Lib.cell_of_heap S3.out];rfl
        by_cases hk1:y.kind=1
        case neg=>
          have Hn:Hid (slotsB im=false):=Lib.hid (by rw [HD.out,Hse.out,Hdc.out,slotsFrom_bad (slotB_kind Hsy.out hk1)];simp)
          have b1:(y.kind != 1)=true:=by rw [bne_iff_ne];exact hk1
          go_wp2
          go_ret
          exact⟨by rw [Hn.out];rfl,B3.out⟩
        have b1:(y.kind != 1)=false:=by rw [bne_eq_false_iff_eq];exact hk1
        by_cases h1:x≤s.at_
        case neg=>
          have Hn:Hid (slotsB im=false):=Lib.hid (by rw [HD.out,Hse.out,Hdc.out,slotsFrom_low h1];simp)
          have hd:decide (s.at_<x)=true:=by rw [decide_eq_true_eq];omega
          go_wp2
          go_ret
          exact⟨by rw [Hn.out];rfl,B3.out⟩
        have hd:decide (s.at_<x)=false:=by rw [decide_eq_false_iff_not];omega
        obtain⟨i0,i1,i2,i3,i4,i5,i6,i7,i8,i9,i10,i11,i12,i13,i14⟩:=img_cells F3.out
        have HH1:=Lib.hid (HH.out w3 s.at_ 8 0 B3.out Hso.out.2.1 (by decide) (by decide))
        go_wp2_with fail
        refine HH1.out.mono ?_
        rintro e w4 ⟨rfl,hb4⟩
        have hz4:=hb4.size
        have F4:=Lib.hid ((hb4.block w.heap.size (by omega)).trans F3.out)
        have S4:=Lib.hid ((hb4.block zs (by omega)).trans S3.out)
        have B4:=Lib.hid (B3.out.trans (hb4.mono (by omega)))
        clear hb4 i0 i1 i2 i3 i4 i5 i6 i7 i8 i9 i10 i11 i12 i13 i14 t0 t2 y0 y1 y2 y3 y4 y5 y6 y7 y8 Y3 HH1
        cases hh1:holdsB im.segs s.at_ 8 0 with
        | false=>
          have Hn:Hid (slotsB im=false):=Lib.hid (by rw [HD.out,Hse.out,Hdc.out,slotsFrom_bad (slotB_at hh1)];simp)
          clear hh1
          go_wp2
          go_ret
          exact⟨by rw [Hn.out];rfl,B4.out⟩
        | true=>
          have hat:=holds_range (segs_good Hg.out) hh1
          have Hh1:=Lib.hid hh1
          clear hh1
          obtain⟨i0,i1,i2,i3,i4,i5,i6,i7,i8,i9,i10,i11,i12,i13,i14⟩:=img_cells F4.out
          have t0:w4.cell? ⟨zs,0,none⟩=some (.int .i64 s.at_):=by rw [Lib.cell_of_heap S4.out];rfl
          have t2:w4.cell? ⟨zs,2,none⟩=some (.int .i64 s.stub):=by rw [Lib.cell_of_heap S4.out];rfl
          have HH2:=Lib.hid (HH.out w4 s.stub 8 4 B4.out Hso.out.2.2 (by decide) (by decide))
          go_wp2_with fail
          refine HH2.out.mono ?_
          rintro e w5 ⟨rfl,hb5⟩
          have hz5:=hb5.size
          have F5:=Lib.hid ((hb5.block w.heap.size (by omega)).trans F4.out)
          have S5:=Lib.hid ((hb5.block zs (by omega)).trans S4.out)
          have B5:=Lib.hid (B4.out.trans (hb5.mono (by omega)))
          clear hb5 i0 i1 i2 i3 i4 i5 i6 i7 i8 i9 i10 i11 i12 i13 i14 t0 t2 HH2
          cases hh2:holdsB im.segs s.stub 8 4 with
          | false=>
            have Hn:Hid (slotsB im=false):=Lib.hid (by rw [HD.out,Hse.out,Hdc.out,slotsFrom_bad (slotB_stub hh2)];simp)
            clear hh2
            go_wp2
            go_ret
            exact⟨by rw [Hn.out];rfl,B5.out⟩
          | true=>
            have Hh2:=Lib.hid hh2
            clear hh2
            obtain⟨i0,i1,i2,i3,i4,i5,i6,i7,i8,i9,i10,i11,i12,i13,i14⟩:=img_cells F5.out
            clear i0 i1 i2 i3 i4 i5 i6 i7 i8 i10 i11 i12 i13 i14
            go_wp2_with fail
            go_loopw [56] (fun i wi=>∃ (q:Nat),i=.int .i64 q∧q≤im.relocs.length∧(im.relocs.take q).all (fun r=> !meetB im s r)=true∧Below w5.heap.size w5 wi) (fun i _=>im.relocs.length-(intOf i).toNat)
            case atStart=>exact⟨0,rfl,Nat.zero_le _,rfl,Below.refl _ _⟩
            case round=>
              obtain⟨q,rfl,hq,hall,hbi⟩:=hrel
              have Hall:=Lib.hid hall
              have Hbi:=Lib.hid hbi
              have hzi:=hbi.size
              clear hall
              have F6:=(hbi.block w.heap.size (by omega)).trans F5.out
              have S6:=(hbi.block zs (by omega)).trans S5.out
              by_cases hlt2:q<im.relocs.length
              · obtain rfl:=Hrat.out.addr (by omega)
                obtain⟨r,hxr⟩:∃ r,im.relocs[q]? =some r:=⟨_,List.getElem?_eq_getElem hlt2⟩
                obtain⟨g0,g1,g2,g3⟩:=(Hrat.out.below (B5.out.trans (hbi.mono (by omega)))).rel4 q r hxr
                have hro:=Hrr.out r (List.mem_of_getElem? hxr)
                have hrg:=reloc_good Hg.out hsl (Hrel.out r (List.mem_of_getElem? hxr))
                have Hsq:=Lib.hid (all_take_snoc (fun r=> !meetB im s r) im.relocs q r hxr)
                have Hbad:=Lib.hid (slotB_meet (im:=im) (s:=s) hxr)
                have Hm:Hid (meetB im s r=(decide (r.at_<s.at_+8)&&decide (s.at_<r.at_+wideL im r))):=Lib.hid rfl
                have hw0:0≤wideL im r:=by
                  unfold wideL
                  split
                  · rename_i s' hs'
                    have:=(Hsz.out s' (symAt_range hs').2.2).1
                    split<;>omega
                  · omega
                have Hro:=Lib.hid hro
                obtain⟨wd,hwd⟩:∃ wd,wideL im r=wd:=⟨_,rfl⟩
                have HWr:=Lib.hid (fun w' hb=>HW.out w' r hb Hro.out)
                rw [hwd]at HWr hrg hw0 Hm
                have hsbw:=World.block_lt_of_cell? _ _ g0
                have R7:=heap_alloc_new wr (.cells #[.int .i64 r.at_,.int .i64 r.kind,.int .i64 r.sym,.int .i64 r.add] 53 (0,0))
                have F7:=(heap_alloc_old wr (.cells #[.int .i64 r.at_,.int .i64 r.kind,.int .i64 r.sym,.int .i64 r.add] 53 (0,0)) (r:=w.heap.size) (by omega)).trans F6
                have S7:=(heap_alloc_old wr (.cells #[.int .i64 r.at_,.int .i64 r.kind,.int .i64 r.sym,.int .i64 r.add] 53 (0,0)) (r:=zs) (by omega)).trans S6
                have B7:=Lib.hid (Hbi.out.alloc hzi (.cells #[.int .i64 r.at_,.int .i64 r.kind,.int .i64 r.sym,.int .i64 r.add] 53 (0,0)))
                clear hxr hbi Hbi hro hwd F6 S6
                go_upto_region 11 with fail
                have hz7:(wr.alloc (.cells #[.int .i64 r.at_,.int .i64 r.kind,.int .i64 r.sym,.int .i64 r.add] 53 (0,0))).heap.size=wr.heap.size+1:=by simp
                generalize wr.alloc (.cells #[.int .i64 r.at_,.int .i64 r.kind,.int .i64 r.sym,.int .i64 r.add] 53 (0,0))=w7 at *
                have t0:w7.cell? ⟨zs,0,none⟩=some (.int .i64 s.at_):=by rw [Lib.cell_of_heap S7];rfl
                have r0:w7.cell? ⟨wr.heap.size,0,none⟩=some (.int .i64 r.at_):=by rw [Lib.cell_of_heap R7];rfl
                have r1:w7.cell? ⟨wr.heap.size,1,none⟩=some (.int .i64 r.kind):=by rw [Lib.cell_of_heap R7];rfl
                have r2:w7.cell? ⟨wr.heap.size,2,none⟩=some (.int .i64 r.sym):=by rw [Lib.cell_of_heap R7];rfl
                have r3:w7.cell? ⟨wr.heap.size,3,none⟩=some (.int .i64 r.add):=by rw [Lib.cell_of_heap R7];rfl
                obtain⟨i0,i1,i2,i3,i4,i5,i6,i7,i8,i9,i10,i11,i12,i13,i14⟩:=img_cells F7
                have l0:=fun x:Later w7=>x.cell i0
                have l1:=fun x:Later w7=>x.cell i1
                have l2:=fun x:Later w7=>x.cell i2
                have l3:=fun x:Later w7=>x.cell i3
                have l4:=fun x:Later w7=>x.cell i4
                have l5:=fun x:Later w7=>x.cell i5
                have l6:=fun x:Later w7=>x.cell i6
                have l7:=fun x:Later w7=>x.cell i7
                have l8:=fun x:Later w7=>x.cell i8
                have l9:=fun x:Later w7=>x.cell i9
                have l10:=fun x:Later w7=>x.cell i10
                have l11:=fun x:Later w7=>x.cell i11
                have l12:=fun x:Later w7=>x.cell i12
                have l13:=fun x:Later w7=>x.cell i13
                have l14:=fun x:Later w7=>x.cell i14
                have n0:=fun x:Later w7=>x.cell t0
                have m0:=fun x:Later w7=>x.cell r0
                have m1:=fun x:Later w7=>x.cell r1
                have m2:=fun x:Later w7=>x.cell r2
                have m3:=fun x:Later w7=>x.cell r3
                clear i0 i1 i2 i3 i4 i5 i6 i7 i8 i9 i10 i11 i12 i13 i14 t0 r0 r1 r2 r3 g0 g1 g2 g3 R7 F7 S7
                by_cases hm1:r.at_<s.at_+8
                case neg=>
                  have Hmf:Hid (meetB im s r=false):=Lib.hid (by rw [Hm.out,decide_eq_false (p:=r.at_<s.at_+8) hm1];rfl)
                  have hd1:decide (r.at_<s.at_+8)=false:=by rw [decide_eq_false_iff_not];omega
                  refine wp_region_later (by kernel_rfl) (by kernel_rfl) ?_
                  repeat (go_big_quiet_step (fail))
                  refine wpQuiet_nil ?_
                  rintro _ ⟨⟨wq,hq⟩,rfl⟩
                  try simp only at hq
                  have Hq:=Lib.hid hq
                  clear hq l0 l1 l2 l3 l4 l5 l6 l7 l8 l9 l10 l11 l12 l13 l14 n0 m0 m1 m2 m3
                  go_wp2
                  go_roundw
                  case rel=>exact⟨q+1,by go_num,by omega,by rw [Hsq.out,Hall.out,Hmf.out];rfl,B7.out.trans (Hq.out.mono (by omega))⟩
                  case measure=>simp [intOf];omega
                have hd1:decide (r.at_<s.at_+8)=true:=by rw [decide_eq_true_eq];omega
                by_cases hm2:s.at_<r.at_+wd
                case pos=>
                  have Hn:Hid (slotsB im=false):=Lib.hid (by rw [HD.out,Hse.out,Hdc.out,slotsFrom_bad (Hbad.out (by rw [Hm.out,decide_eq_true (p:=r.at_<s.at_+8) hm1,decide_eq_true (p:=s.at_<r.at_+wd) hm2];rfl))];simp)
                  have hd2:decide (s.at_<r.at_+wd)=true:=by rw [decide_eq_true_eq];omega
                  refine wp_region_later (by kernel_rfl) (by kernel_rfl) ?_
                  repeat (go_big_quiet_step (first | (go_at_call 84;refine Later.call _ (HWr.out _ ?_);exact(B5.out.trans (B7.out.mono (by omega))).trans ((Later.h _).mono (by omega)))))
                  refine wpQuiet_nil ?_
                  rintro _ ⟨⟨wq,hq⟩,rfl⟩
                  try simp only at hq
                  have Hq:=Lib.hid hq
                  clear hq l0 l1 l2 l3 l4 l5 l6 l7 l8 l9 l10 l11 l12 l13 l14 n0 m0 m1 m2 m3
                  go_wp2
                  go_ret
                  exact⟨by rw [Hn.out];rfl,(B5.out.trans (B7.out.mono (by omega))).trans (Hq.out.mono (by omega))⟩
                have Hmf:Hid (meetB im s r=false):=Lib.hid (by rw [Hm.out,decide_eq_false (p:=s.at_<r.at_+wd) hm2];simp)
                have hd2:decide (s.at_<r.at_+wd)=false:=by rw [decide_eq_false_iff_not];omega
                refine wp_region_later (by kernel_rfl) (by kernel_rfl) ?_
                repeat (go_big_quiet_step (first | (go_at_call 84;refine Later.call _ (HWr.out _ ?_);exact(B5.out.trans (B7.out.mono (by omega))).trans ((Later.h _).mono (by omega)))))
                refine wpQuiet_nil ?_
                rintro _ ⟨⟨wq,hq⟩,rfl⟩
                try simp only at hq
                have Hq:=Lib.hid hq
                clear hq l0 l1 l2 l3 l4 l5 l6 l7 l8 l9 l10 l11 l12 l13 l14 n0 m0 m1 m2 m3
                go_wp2
                go_roundw
                case rel=>exact⟨q+1,by go_num,by omega,by rw [Hsq.out,Hall.out,Hmf.out];rfl,B7.out.trans (Hq.out.mono (by omega))⟩
                case measure=>simp [intOf];omega
              · have Hall2:Hid ((im.relocs.all fun r=> !meetB im s r)=true):=Lib.hid (by have:=Hall.out;rwa [List.take_of_length_le (by omega)]at this)
                have hok:=slotB_ok Hsy.out hk1 Hh1.out Hh2.out Hall2.out
                have Hnx:Hid (slotsFrom im 0 im.slots=slotsFrom im (s.at_+8) (im.slots.drop (k+1))):=Lib.hid (by rw [Hse.out,Hdc.out,slotsFrom_ok h1 hok])
                have t0:wr.cell? ⟨zs,0,none⟩=some (.int .i64 s.at_):=by rw [Lib.cell_of_heap S6];rfl
                have HF6:=Lib.hid F6
                clear hok hbi F6 S6
                go_wp2
                go_roundw
                case rel=>exact⟨k+1,s.at_+8,by go_num,by first | rfl | go_num,by omega,by omega,by omega,Hnx.out,B5.out.trans (Hbi.out.mono (by omega)),HF6.out,by omega⟩
                case measure=>simp [intOf];omega
    · obtain⟨i0,i1,i2,i3,i4,i5,i6,i7,i8,i9,i10,i11,i12,i13,i14⟩:=img_cells hF
      have hd:Hid (slotsB im=decide (im.slots.length≤128)):=Lib.hid (by rw [HD.out,Hse.out,List.drop_eq_nil_of_le (by omega)];simp [slotsFrom])
      clear hbel hF i0 i1 i2 i3 i4 i5 i6 i7 i8 i9 i11 i12 i13 i14
      go_wp2
      go_ret
      exact⟨ret_bool' (by rw [hd.out,Bool.eq_iff_iff];simp;omega),Hbel.out⟩
end Go.Proofs.YtfchpchabdhcgaaGreat
