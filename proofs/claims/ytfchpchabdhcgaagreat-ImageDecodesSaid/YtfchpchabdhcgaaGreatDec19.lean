/- Lemmas. -/
import Derived.Test.YtfchpchabdhcgaaGreatDec9
import Derived.Test.YtfchpchabdhcgaaGreatDec8
import Derived.Test.YtfchpchabdhcgaaGreatDec6
import Derived.Test.YtfchpchabdhcgaaGreatDec13
set_option linter.unusedVariables false
set_option linter.unusedSimpArgs false
set_option maxHeartbeats 64000000
set_option maxRecDepth 100000
namespace Go.Proofs.YtfchpchabdhcgaaGreat
open Go.RowKit
theorem runB_long (im:ImgL) (l:List Int) (h:¬ l.length≤8):runB im l=false:=by simp [runB,h]
theorem runB_bad (im:ImgL) (l:List Int) (k:Nat) (x:Int) (hx:l[k]? =some x) (h:holdsB im.segs x 8 4=false):runB im l=false:=by
 have:l.all (fun a=>holdsB im.segs a 8 4)=false:=by rw [List.all_eq_false];exact⟨x,List.mem_of_getElem? hx,by simp [h]⟩
 rw [runB,this];simp
theorem runB_all (im:ImgL) (l:List Int) (h:l.length≤8) (ha:(l.all fun a=>holdsB im.segs a 8 4)=true):runB im l=true:=by rw [runB,ha];simp [h]
theorem iruns_any (w:World) (v:ImgV) (im:ImgL) (hs:LB kSeg (·<w.heap.size) w v.segs im.segs) (hok:∀ s∈im.segs,SegOk s)
  (hi:LB kInt (·<w.heap.size) w v.init im.init) (hf:LB kInt (·<w.heap.size) w v.fini im.fini)
  (hri:∀ x∈im.init,-9223372036854775808≤x∧x≤9223372036854775807) (hrf:∀ x∈im.fini,-9223372036854775808≤x∧x≤9223372036854775807):
  Calls Tryz.prog 38 #[.agg (imgCells v im)] w fun e w'=>e=.returned (.bool (runB im im.init&&runB im im.fini))∧Below w.heap.size w w':=by
 obtain⟨ia,ib,ioff,icap,hiv,him,hic,hiat⟩:=hi.at
 obtain⟨fa,fb,foff,fcap,hfv,hfm,hfc,hfat⟩:=hf.at
 obtain⟨vsegs,vneeded,vrunPath,vsyms,vbuckets,vwords,vrelocs,vslots,vinit,vfini,vtls⟩:=v
 simp only at hiv hfv
 subst hiv hfv
 have HH:Hid (∀ (w':World) (x:Int),Below w.heap.size w w'→ -9223372036854775808≤x∧x≤9223372036854775807→
  Calls Tryz.prog 75 #[.agg (imgCells ⟨vsegs,vneeded,vrunPath,vsyms,vbuckets,vwords,vrelocs,vslots,.slice ia im.init.length icap,.slice fa im.fini.length fcap,vtls⟩ im),.agg #[.int .i64 x,.int .i64 8,.int .i64 4]] w' fun e w''=>e=.returned (.bool (holdsB im.segs x 8 4))∧Below w'.heap.size w' w''):=Lib.hid (fun w' x hb hx=>holds_any w' _ im x 8 4 ((hs.below hb).mono hb.size) hok hx (by decide) (by decide))
 unfold imgCells at *
 have Hiat:=Lib.hid hiat
 have Hfat:=Lib.hid hfat
 have Hri:=Lib.hid hri
 have Hrf:=Lib.hid hrf
 clear hs hok hi hf hiat hfat hri hrf
 generalize hI:(Array.mk [.string ⟨im.name.toArray⟩,.int .i64 im.flags,vsegs,vneeded,vrunPath,vsyms,vbuckets,vwords,.int .i64 im.shift,vrelocs,vslots,.slice ia im.init.length icap,.slice fa im.fini.length fcap,vtls,.int .i64 im.tlsSize]:Array Value)=I at HH
 have F0:=Lib.hid (heap_alloc_new w (.cells I 40 (0,0)))
 subst hI
 go_enter Tryz.func38,Tryz.ntmps38
 go_wp2_with fail
 go_loopw [13] (fun i wr=>∃ k:Nat,i=.int .i64 k∧k≤2∧(1≤k→runB im im.init=true)∧(2≤k→runB im im.fini=true)∧Below w.heap.size w wr∧
  wr.heap[w.heap.size]? =some (.cells #[.string ⟨im.name.toArray⟩,.int .i64 im.flags,vsegs,vneeded,vrunPath,vsyms,vbuckets,vwords,.int .i64 im.shift,vrelocs,vslots,.slice ia im.init.length icap,.slice fa im.fini.length fcap,vtls,.int .i64 im.tlsSize] 40 (0,0))∧
  wr.cell? ⟨w.heap.size+1,0,none⟩=some (.slice ia im.init.length icap)∧wr.cell? ⟨w.heap.size+1,1,none⟩=some (.slice fa im.fini.length fcap)∧w.heap.size+1<wr.heap.size) (fun i _=>2-(intOf i).toNat)
 case atStart=>
  refine⟨0,rfl,by omega,fun h=>by omega,fun h=>by omega,((Below.refl _ _).alloc (Nat.le_refl _) _).alloc (by simp) _,?_,?_,?_,by simp⟩
  ·rw [heap_alloc_old _ _ (by simp)]
   exact F0.out
  all_goals
   have e2:=heap_alloc_new (w.alloc (.cells #[.string ⟨im.name.toArray⟩,.int .i64 im.flags,vsegs,vneeded,vrunPath,vsyms,vbuckets,vwords,.int .i64 im.shift,vrelocs,vslots,.slice ia im.init.length icap,.slice fa im.fini.length fcap,vtls,.int .i64 im.tlsSize] 40 (0,0))) (.cells #[.slice ia im.init.length icap,.slice fa im.fini.length fcap] 38 (0,0))
   simp only [World.size_alloc]at e2
   rw [Lib.cell_of_heap e2]
   rfl
 case round=>
  obtain⟨k,rfl,hk,h1,h2,hbel,hF,hc0,hc1,hz⟩:=hrel
  have H1:=Lib.hid h1
  have H2:=Lib.hid h2
  have Bw:=Lib.hid hbel
  have HF:=Lib.hid hF
  have hBr:=hbel.size
  by_cases hlt:k<2
  ·obtain⟨l,la,lb,loff,lcap,hcell,hlm,hlc,hat,hrange,hbad,hgood⟩:∃ (l:List Int) (la:Option Addr) (lb loff lcap:Nat),wr.cell? ⟨w.heap.size+1,k,none⟩=some (.slice la l.length lcap)∧l.length≤9223372036854775807∧l.length≤lcap∧LAt kInt (·<w.heap.size) w l la lb loff∧
     (∀ x∈l,-9223372036854775808≤x∧x≤9223372036854775807)∧(runB im l=false→(runB im im.init&&runB im im.fini)=false)∧(runB im l=true→(1≤k+1→runB im im.init=true)∧(2≤k+1→runB im im.fini=true)):=by
    have hk01:k=0∨k=1:=by omega
    rcases hk01 with rfl | rfl
    ·exact⟨im.init,ia,ib,ioff,icap,hc0,him,hic,Hiat.out,Hri.out,fun h=>by rw [h];rfl,fun h=>⟨fun _=>h,fun h2=>by omega⟩⟩
    ·exact⟨im.fini,fa,fb,foff,fcap,hc1,hfm,hfc,Hfat.out,Hrf.out,fun h=>by rw [h];simp,fun h=>⟨fun _=>H1.out (by omega),fun _=>h⟩⟩
   have Hat:=Lib.hid hat
   have Hrange:=Lib.hid hrange
   have Hbad:=Lib.hid hbad
   have Hgood:=Lib.hid hgood
   have Hc0:=Lib.hid hc0
   have Hc1:=Lib.hid hc1
   clear hat hrange hbad hgood h1 h2 hc0 hc1 hF hbel Hiat Hfat
   by_cases hl8:l.length≤8
   case neg=>
    have Hr:=Lib.hid (Hbad.out (runB_long im l hl8))
    have hl9:8<l.length:=by omega
    go_wp2
    go_ret
    exact⟨by rw [Hr.out];rfl,Bw.out⟩
   have hl9:¬ 8<l.length:=by omega
   have hkd:decide ((k:Int)<2)=true:=by rw [decide_eq_true_eq];omega
   go_wp2_with fail
   go_loopw [22] (fun i wi=>∃ q:Nat,i=.int .i64 q∧q≤l.length∧((l.take q).all fun a=>holdsB im.segs a 8 4)=true∧Below w.heap.size w wi∧Below wr.heap.size wr wi) (fun i _=>l.length-(intOf i).toNat)
   case atStart=>exact⟨0,rfl,Nat.zero_le _,rfl,Bw.out,Below.refl _ _⟩
   case round=>
    obtain⟨q,rfl,hq,hall,hb0,hb1⟩:=hrel
    have Hall:=Lib.hid hall
    have Hb0:=Lib.hid hb0
    have Hb1:=Lib.hid hb1
    have hzi:=hb1.size
    have hF2:=(hb1.block w.heap.size (by omega)).trans HF.out
    clear hall hb0 hb1
    by_cases hlt2:q<l.length
    ·obtain rfl:=Hat.out.addr (by omega)
     obtain⟨x,hx⟩:∃ x,l[q]? =some x:=⟨_,List.getElem?_eq_getElem hlt2⟩
     have hxc:=(Hat.out.below Hb0.out).int1 q x hx
     have hxr:=Hrange.out x (List.mem_of_getElem? hx)
     have Hyes:Hid (holdsB im.segs x 8 4=true→((l.take (q+1)).all fun a=>holdsB im.segs a 8 4)=true):=Lib.hid (fun h=>by rw [all_take_snoc _ l q x hx,Hall.out,h];rfl)
     have Hno:Hid (holdsB im.segs x 8 4=false→(runB im im.init&&runB im im.fini)=false):=Lib.hid (fun h=>Hbad.out (runB_bad im l q x hx h))
     obtain⟨q0,q1,q2,q3,q4,q5,q6,q7,q8,q9,q10,q11,q12,q13,q14⟩:=img_cells hF2
     have hHx:=HH.out wr x Hb0.out hxr
     go_wp2_with fail
     refine hHx.mono ?_
     rintro e w2 ⟨rfl,hb2⟩
     have Hb2:=Lib.hid (Hb0.out.trans (hb2.mono (by omega)))
     have Hb3:=Lib.hid (Hb1.out.trans (hb2.mono (by omega)))
     have hz2:=hb2.size
     clear hb2 q0 q1 q2 q3 q4 q5 q6 q7 q8 q9 q10 q11 q12 q13 q14 hF2 hHx hxc hx
     cases hh:holdsB im.segs x 8 4 with
     | false=>
      have Hr:=Lib.hid (Hno.out hh)
      clear hh
      go_wp2
      go_ret
      exact⟨by rw [Hr.out];rfl,Hb2.out⟩
     | true=>
      have Hy:=Lib.hid (Hyes.out hh)
      clear hh
      go_wp2
      go_round
      case rel=>
       exact⟨q+1,by go_num,by omega,Hy.out,Hb2.out,Hb3.out⟩
      case measure=>simp [intOf];omega
    ·have Hl:=Lib.hid (Hgood.out (runB_all im l hl8 (by have:=Hall.out;rwa [List.take_of_length_le (by omega)]at this)))
     go_wp2
     go_round
     case rel=>
      have e0:=Hb1.out.block (w.heap.size+1) hz
      exact⟨k+1,by go_num,by omega,Hl.out.1,Hl.out.2,Hb0.out,hF2,by rw [World.cell?_of_block (a:=⟨w.heap.size+1,0,none⟩) e0];exact Hc0.out,by rw [World.cell?_of_block (a:=⟨w.heap.size+1,1,none⟩) e0];exact Hc1.out,by omega⟩
     case measure=>simp [intOf];omega
  ·have Hr:Hid ((runB im im.init&&runB im im.fini)=true):=Lib.hid (by rw [H1.out (by omega),H2.out (by omega)];rfl)
   go_wp2
   go_ret
   exact⟨by rw [Hr.out];rfl,Bw.out⟩
end Go.Proofs.YtfchpchabdhcgaaGreat
