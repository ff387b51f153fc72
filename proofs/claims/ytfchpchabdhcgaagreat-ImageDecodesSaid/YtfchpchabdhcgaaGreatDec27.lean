/- Lemmas. -/
import Derived.Test.YtfchpchabdhcgaaGreatDec26
set_option linter.unusedVariables false
set_option linter.unusedSimpArgs false
set_option maxHeartbeats 64000000
set_option maxRecDepth 100000
namespace Go.Proofs.YtfchpchabdhcgaaGreat
open Go.RowKit
def lensB (im:ImgL):List Nat:=im.buckets.map List.length
theorem tableJ_parts (im:ImgL):tableJ im=(decide (im.syms.length≤512)&&decide (1≤im.buckets.length)&&decide (im.buckets.length≤512)&&sieveB im.words im.shift&&im.buckets.all risingB&&
 decide ((lensB im).sum=(seenIx im.syms).length)&&(seenIx im.syms).all (standsB im)):=rfl
theorem tableJ_many (im:ImgL) (b:Nat) (h:(seenIx im.syms).length<((lensB im).take b).sum):tableJ im=false:=by
 have:=sum_take_le (lensB im) b
 rw [tableJ_parts,decide_eq_false (p:=(lensB im).sum=(seenIx im.syms).length) (by omega)];simp
theorem tableJ_rise (im:ImgL) (b:Nat) (c:List Int) (hc:im.buckets[b]? =some c) (h:risingB c=false):tableJ im=false:=by
 have:im.buckets.all risingB=false:=by rw [List.all_eq_false];exact⟨c,List.mem_of_getElem? hc,by simp [h]⟩
 rw [tableJ_parts,this];simp
theorem tableJ_stand (im:ImgL) (k:Nat) (i:Nat) (hi:(seenIx im.syms)[k]? =some i) (h:standsB im i=false):tableJ im=false:=by
 have:(seenIx im.syms).all (standsB im)=false:=by rw [List.all_eq_false];exact⟨i,List.mem_of_getElem? hi,by simp [h]⟩
 rw [tableJ_parts,this];simp
theorem toInts_at (l:List Nat) (k i:Nat) (h:l[k]? =some i):(toInts l)[k]? =some (i:Int):=by simp [toInts,h]
theorem jtright_any (w:World) (im:ImgL) (vb vw vs:Value) (hb:LB kInts (·<w.heap.size) w vb im.buckets) (hw:LB kWord (·<w.heap.size) w vw im.words) (hs:LB kSym (·<w.heap.size) w vs im.syms)
  (hr:∀ x∈im.words,0≤x∧x<18446744073709551616) (hbl:∀ c∈im.buckets,c.length≤140737488355328):
  Calls Tryz.prog 55 #[.agg #[vb,vw,.int .i64 im.shift],vs] w fun e w'=>e=.returned (.bool (tableJ im))∧Below w.heap.size w w':=by
 obtain⟨ba,bb,boff,bcap,rfl,hbm,hbc,hbat⟩:=hb.at
 obtain⟨sa,sb,soff,scap,rfl,hsm,hsc,hsat⟩:=hs.at
 obtain⟨wa,wc,hwv⟩:=hw.form
 subst hwv
 have Hw:=Lib.hid hw
 have HT:=Lib.hid (tableJ_parts im)
 have Hbat:=Lib.hid hbat
 have Hsat:=Lib.hid hsat
 have Hr:=Lib.hid hr
 have Hbl:=Lib.hid hbl
 have Hs:=Lib.hid hs
 have hwm:=hw.max
 clear hb hs hw hbat hsat hr hbl
 have B1:=Lib.hid ((Below.refl w.heap.size w).alloc (Nat.le_refl _) (.cells #[.slice ba im.buckets.length bcap,.slice wa im.words.length wc,.int .i64 im.shift] 35 (0,0)))
 have F1:=Lib.hid (heap_alloc_new w (.cells #[.slice ba im.buckets.length bcap,.slice wa im.words.length wc,.int .i64 im.shift] 35 (0,0)))
 by_cases p1:im.syms.length≤512
 case neg=>
  have Hn:Hid (tableJ im=false):=Lib.hid (by rw [HT.out,decide_eq_false (p:=im.syms.length≤512) p1];simp)
  have q1:512<im.syms.length:=by omega
  go_enter Tryz.func55,Tryz.ntmps55
  go_wp2
  go_ret
  exact⟨by rw [Hn.out];rfl,B1.out⟩
 have q1:¬ 512<im.syms.length:=by omega
 by_cases p2:1≤im.buckets.length
 case neg=>
  have Hn:Hid (tableJ im=false):=Lib.hid (by rw [HT.out,decide_eq_false (p:=1≤im.buckets.length) p2];simp)
  have q2:im.buckets.length<1:=by omega
  go_enter Tryz.func55,Tryz.ntmps55
  go_wp2
  go_ret
  exact⟨by rw [Hn.out];rfl,B1.out⟩
 have q2:¬ im.buckets.length<1:=by omega
 by_cases p3:im.buckets.length≤512
 case neg=>
  have Hn:Hid (tableJ im=false):=Lib.hid (by rw [HT.out,decide_eq_false (p:=im.buckets.length≤512) p3];simp)
  have q3:512<im.buckets.length:=by omega
  go_enter Tryz.func55,Tryz.ntmps55
  go_wp2
  go_ret
  exact⟨by rw [Hn.out];rfl,B1.out⟩
 have q3:¬ 512<im.buckets.length:=by omega
 have Hf:=Lib.hid (fun w=>jfright_any w im.words wa wc im.shift (by omega))
 go_enter Tryz.func55,Tryz.ntmps55
 go_wp2_with fail
 have hz1:w.heap.size<(w.alloc (.cells #[.slice ba im.buckets.length bcap,.slice wa im.words.length wc,.int .i64 im.shift] 35 (0,0))).heap.size:=by simp
 generalize w.alloc (.cells #[.slice ba im.buckets.length bcap,.slice wa im.words.length wc,.int .i64 im.shift] 35 (0,0))=w1 at *
 refine(Hf.out w1).mono ?_
 rintro e w2 ⟨rfl,hb2⟩
 have B2:=Lib.hid (B1.out.trans (hb2.mono (by omega)))
 have F2:=Lib.hid ((hb2.block _ hz1).trans F1.out)
 have hz2:=hb2.size
 clear hb2 B1 F1 Hf
 cases hsv:sieveB im.words im.shift with
 | false=>
  have Hn:Hid (tableJ im=false):=Lib.hid (by rw [HT.out,hsv];simp)
  clear hsv
  go_wp2
  go_ret
  exact⟨by rw [Hn.out];rfl,B2.out⟩
 | true=>
  have Hsv:=Lib.hid hsv
  clear hsv
  go_wp2_with fail
  refine(jseenl_any w2 _ im.syms ((Hs.out.below B2.out).mono B2.out.size) p1).mono ?_
  rintro e w3 ⟨r,rfl,hown,hb3⟩
  have B3:=Lib.hid (B2.out.trans (hb3.mono (by omega)))
  have F3:=Lib.hid ((hb3.block w.heap.size (by omega)).trans F2.out)
  have hz3:=hb3.size
  have hil:=toInts_len (seenIx im.syms)
  have hsl:(seenIx im.syms).length≤512:=by have:=seenK_le im.syms im.syms.length;rw [seenIx];omega
  obtain⟨oa,oc,rfl⟩:=hown.form
  have hlb:=hown.lb.imp (S':=(·<w3.heap.size)) (fun b h=>h.1)
  obtain⟨oa',ob,ooff,ocap',hov,hom,hoc,hoat⟩:=hlb.at
  cases hov
  rw [hil]
  have Hoat:=Lib.hid hoat
  have Hil:=Lib.hid (toInts_at (seenIx im.syms))
  have Hix:=Lib.hid (fun k i (h:(seenIx im.syms)[k]? =some i)=>(seenK_mem im.syms im.syms.length i).1 (List.mem_of_getElem? h))
  clear hb3 hown hlb hoat hom hoc F2 B2
  generalize hN:(seenIx im.syms).length=N at *
  have HN:=Lib.hid hN
  clear hN
  go_wp2_with fail
  go_loopw [6,7,8] (fun m i _ wr=>∃ (b:Nat),i=.int .i64 b∧b≤im.buckets.length∧m=.int .i64 ((((lensB im).take b).sum:Nat):Int)∧((lensB im).take b).sum≤N∧(im.buckets.take b).all risingB=true∧Below w3.heap.size w3 wr) (fun _ i _ _=>im.buckets.length-(intOf i).toNat)
  case atStart=>exact⟨0,rfl,Nat.zero_le _,rfl,by simp,rfl,Below.refl _ _⟩
  case round=>
   obtain⟨b,rfl,hbk,rfl,hmn,hall,hbel⟩:=hrel
   have Hall:=Lib.hid hall
   have Hbel:=Lib.hid hbel
   have F4:=(hbel.block w.heap.size (by omega)).trans F3.out
   have c0:wr.cell? ⟨w.heap.size,0,none⟩=some (.slice ba im.buckets.length bcap):=by rw [Lib.cell_of_heap F4];rfl
   have c1:wr.cell? ⟨w.heap.size,1,none⟩=some (.slice wa im.words.length wc):=by rw [Lib.cell_of_heap F4];rfl
   have c2:wr.cell? ⟨w.heap.size,2,none⟩=some (.int .i64 im.shift):=by rw [Lib.cell_of_heap F4];rfl
   have hzr:=hbel.size
   clear hall hbel
   by_cases hlt:b<im.buckets.length
   ·obtain rfl:=Hbat.out.addr (by omega)
    obtain⟨c,hc⟩:∃ c,im.buckets[b]? =some c:=⟨_,List.getElem?_eq_getElem hlt⟩
    have hcl:=Hbl.out c (List.mem_of_getElem? hc)
    obtain⟨cv,gc,hclb⟩:=(Hbat.out.below B3.out).ints1 b c hc
    have gc2:wr.cell? ⟨bb,boff+b,none⟩=some cv:=(Hbel.out.cell (p:=⟨bb,boff+b,none⟩) (World.block_lt_of_cell? _ _ gc)).trans gc
    obtain⟨ca,cb,coff,ccap,rfl,hcm,hcc,hcat⟩:=hclb.at
    have Hcat:=Lib.hid hcat
    have Hsum:=Lib.hid (sum_take_succ (lensB im) b c.length (by simp [lensB,hc]))
    have Hmany:=Lib.hid (tableJ_many im (b+1))
    have Hrise:=Lib.hid (tableJ_rise im b c hc)
    have Hsn:=Lib.hid (all_take_snoc risingB im.buckets b c hc)
    clear hc gc hclb hcat F4
    rw [Hsum.out,HN.out]at Hmany
    generalize hM:((lensB im).take b).sum=M at *
    clear hM
    by_cases hmany:N<M+c.length
    ·have Hn:=Lib.hid (Hmany.out hmany)
     go_wp2
     go_ret
     exact⟨by rw [Hn.out];rfl,B3.out.trans (Hbel.out.mono (by omega))⟩
    have hm2:¬ ((N:Int)<(M:Int)+(c.length:Int)):=by omega
    go_wp2_with fail
    obtain⟨wo,hwo⟩:∃ wo:World,wo=wr:=⟨_,rfl⟩
    go_loopw [8] (fun i wi=>∃ (k:Nat),i=.int .i64 (k+1:Nat)∧(k+1≤c.length∨k=0)∧risingB (c.take (k+1))=true∧Below wo.heap.size wo wi) (fun i _=>c.length-(intOf i).toNat)
    case atStart=>
     refine⟨0,rfl,Or.inr rfl,?_,by rw [hwo];exact Below.refl _ _⟩
     cases c with
     | nil=>rfl
     | cons x l=>simp [risingB]
    case round=>
     obtain⟨k,rfl,hk,hri,hbi⟩:=hrel
     have Hri:=Lib.hid hri
     have Hbi:=Lib.hid hbi
     have d0:=(hbi.cell (by rw [hwo];exact World.block_lt_of_cell? _ _ c0)).trans (hwo ▸ c0)
     have d1:=(hbi.cell (by rw [hwo];exact World.block_lt_of_cell? _ _ gc2)).trans (hwo ▸ gc2)
     have hbi3:Below w3.heap.size w3 wr:=(by rw [hwo]at *;exact Hbel.out:Below w3.heap.size w3 wo).trans (hbi.mono (by rw [hwo];omega))
     have Hbi3:=Lib.hid hbi3
     clear hri hbi hbi3
     by_cases hk2:k+1<c.length
     ·obtain rfl:=Hcat.out.addr (by omega)
      obtain⟨x,hx⟩:∃ x,c[k]? =some x:=⟨_,List.getElem?_eq_getElem (by omega)⟩
      obtain⟨y,hy⟩:∃ y,c[k+1]? =some y:=⟨_,List.getElem?_eq_getElem hk2⟩
      have gx:=(Hbi3.out.cell (World.block_lt_of_cell? _ _ (Hcat.out.int1 k x hx))).trans (Hcat.out.int1 k x hx)
      have gy:=(Hbi3.out.cell (World.block_lt_of_cell? _ _ (Hcat.out.int1 (k+1) y hy))).trans (Hcat.out.int1 (k+1) y hy)
      have hoff:coff+(k+1)=coff+k+1:=by omega
      rw [hoff]at gy
      have Hst:=Lib.hid (fun h=>rising_step c k x y hx hy h)
      have Hbadc:=Lib.hid (rising_bad c (k+2))
      clear hx hy
      by_cases hxy:x<y
      ·have Hr2:Hid (risingB (c.take (k+1+1))=true):=Lib.hid (by rw [Hst.out Hri.out];simp [hxy])
       have hge:¬ y≤x:=by omega
       go_wp2_with fail
       go_quiet (fail)
       go_wp2
       go_roundw
       case rel=>exact⟨k+1,by go_num,by omega,Hr2.out,below_drewN Hbi.out _⟩
       case measure=>simp [intOf];omega
      ·have Hn:=Lib.hid (Hrise.out (Hbadc.out (by rw [Hst.out Hri.out];simp [hxy])))
       have hge:y≤x:=by omega
       go_wp2_with fail
       go_quiet (fail)
       go_wp2
       go_ret
       exact⟨by rw [Hn.out];rfl,below_drewN (B3.out.trans (Hbi3.out.mono (by omega))) _⟩
     ·have Hc:Hid (risingB c=true):=Lib.hid (by
       have:=Hri.out
       rwa [List.take_of_length_le (by omega)]at this)
      go_wp2
      go_roundw
      case rel=>
       refine⟨b+1,by go_num,by omega,by rw [Hsum.out];go_num,by rw [Hsum.out];omega,by rw [Hsn.out,Hall.out,Hc.out];rfl,Hbi3.out⟩
      case measure=>simp [intOf];omega
   ·have Hris:Hid (im.buckets.all risingB=true):=Lib.hid (by have:=Hall.out;rwa [List.take_of_length_le (by omega)]at this)
    have Hsu:Hid (((lensB im).take b).sum=(lensB im).sum):=Lib.hid (by rw [List.take_of_length_le (by simp [lensB];omega)])
    have HF4:=Lib.hid F4
    have hM1:((lensB im).take b).sum≤512:=by omega
    rw [Hsu.out]at hmn hM1 ⊢
    generalize hM:(lensB im).sum=M at *
    clear hM Hall F4
    go_wp2_with fail
    go_loopw [9,10] (fun i _ wi=>∃ (k:Nat),i=.int .i64 k∧k≤N∧((seenIx im.syms).take k).all (standsB im)=true∧Below w3.heap.size w3 wi) (fun i _ _=>N-(intOf i).toNat)
    case atStart=>exact⟨0,rfl,Nat.zero_le _,rfl,Hbel.out⟩
    case round=>
     obtain⟨k,rfl,hk,hall,hbi⟩:=hrel
     have Hall:=Lib.hid hall
     have Hbi:=Lib.hid hbi
     clear hall c0 c1 c2 HF4 Hbel
     have F5:=(hbi.block w.heap.size (by omega)).trans F3.out
     have c0:wr.cell? ⟨w.heap.size,0,none⟩=some (.slice ba im.buckets.length bcap):=by rw [Lib.cell_of_heap F5];rfl
     have c1:wr.cell? ⟨w.heap.size,1,none⟩=some (.slice wa im.words.length wc):=by rw [Lib.cell_of_heap F5];rfl
     have c2:wr.cell? ⟨w.heap.size,2,none⟩=some (.int .i64 im.shift):=by rw [Lib.cell_of_heap F5];rfl
     have hzr2:=hbi.size
     clear hbi F5
     by_cases hlt2:k<N
     ·have hkN:k<(seenIx im.syms).length:=by rw [HN.out];exact hlt2
      obtain⟨i,hi⟩:∃ i,(seenIx im.syms)[k]? =some i:=⟨_,List.getElem?_eq_getElem hkN⟩
      obtain⟨hi1,hi2⟩:=Hix.out k i hi
      have hkl:k<(toInts (seenIx im.syms)).length:=by rw [toInts_len];exact hkN
      obtain rfl:=Hoat.out.addr (by omega)
      have go':=Hoat.out.int1 k _ (Hil.out k i hi)
      have go1:=(Hbi.out.cell (World.block_lt_of_cell? _ _ go')).trans go'
      obtain rfl:=Hsat.out.addr (by omega)
      obtain⟨s,hx⟩:∃ s,im.syms[i]? =some s:=⟨_,List.getElem?_eq_getElem hi1⟩
      have hsn:=symN_at hx
      obtain⟨hok,g0',_⟩:=(Hsat.out.below B3.out).sym9 i s hx
      have g0:=(Hbi.out.cell (World.block_lt_of_cell? _ _ g0')).trans g0'
      have hnl:=hok.name
      have hrange:=hashB_range s.name
      have hhome:=homeL_lt s.name im.buckets.length p2
      have Hst:Hid (standsB im i=(decide ((im.buckets.getD (homeL s.name im.buckets.length) []).count (i:Int)=1)&& !lacksB im.words im.shift (hashB s.name))):=Lib.hid (by rw [standsB,symHome,hsn])
      have Hbad:=Lib.hid (tableJ_stand im k i hi)
      have Hsn:=Lib.hid (all_take_snoc (standsB im) (seenIx im.syms) k i hi)
      obtain⟨c,hc⟩:∃ c,im.buckets[homeL s.name im.buckets.length]? =some c:=⟨_,List.getElem?_eq_getElem hhome⟩
      obtain rfl:=Hbat.out.addr (by omega)
      obtain⟨cv,gc',hclb⟩:=(Hbat.out.below B3.out).ints1 _ c hc
      have gc:=(Hbi.out.cell (World.block_lt_of_cell? _ _ gc')).trans gc'
      have HL:=Lib.hid (fun (w':World) (h:Below w3.heap.size w3 w')=>jlacks_any w' (.slice wa im.words.length wc) im.words im.shift (hashB s.name).toNat ((Hw.out.below (B3.out.trans (h.mono (by omega)))).mono (by have:=h.size;omega)) Hr.out (by omega) Hsv.out)
      have HS:=Lib.hid (fun (w':World) (h:Below w3.heap.size w3 w')=>jstandsn_any w' cv c (i:Int) ((hclb.mono (by omega:w.heap.size≤w3.heap.size)).below h |>.mono h.size))
      have HH:=Lib.hid (fun w'=>jhome_any w' s.name im.buckets.length hnl p2 p3)
      have HA:=Lib.hid (fun w'=>jhash_any w' s.name hnl)
      rw [Int.toNat_of_nonneg hrange.1]at HL
      obtain⟨ca,cc,rfl⟩:=hclb.form
      have Hgd:Hid (im.buckets.getD (homeL s.name im.buckets.length) []=c):=Lib.hid (by rw [List.getD_eq_getElem?_getD,hc];rfl)
      rw [Hgd.out]at Hst
      have hblt:=World.block_lt_of_cell? _ _ gc
      have holt:=World.block_lt_of_cell? _ _ go1
      clear hi hkN hkl go' hx hsn g0' hok hc gc' hclb Hgd
      generalize hashB s.name=hh at *
      generalize homeL s.name im.buckets.length=hm at *
      generalize hcn:c.count (i:Int)=cn at *
      have l0:=fun x:Later wr=>x.cell c0
      have l1:=fun x:Later wr=>x.cell c1
      have l2:=fun x:Later wr=>x.cell c2
      have l3:=fun x:Later wr=>x.cell go1
      have l4:=fun x:Later wr=>x.cell gc
      clear Hr Hs
      by_cases h1:cn=1
      ·have hd1:((cn:Int) != 1)=false:=by rw [bne_eq_false_iff_eq];omega
       go_wp2_with fail
       refine wp_region_later (by kernel_rfl) (by kernel_rfl) ?_
       repeat (go_big_quiet_step (first | (go_at_call 68;exact Later.call_same _ (HH.out _)) | (go_at_call 95;refine Later.call_same _ (HS.out _ ?_);exact Hbi.out.trans ((Later.h _).mono (by omega))) | (go_at_call 70;exact Later.call_same _ (HA.out _)) | (go_at_call 96;refine Later.call _ (HL.out _ ?_);exact Hbi.out.trans ((Later.h _).mono (by omega)))))
       refine wpQuiet_nil ?_
       rintro _ ⟨⟨wq,hq⟩,rfl⟩
       try simp only at hq
       have Hq:=Lib.hid (Hbi.out.trans (hq.mono (by omega)))
       clear hq l0 l1 l2 l3 l4 HL HS HH HA
       cases hlk:lacksB im.words im.shift hh with
       | true=>
        have Hn:=Lib.hid (Hbad.out (by rw [Hst.out,hlk];simp))
        clear hlk
        go_wp2
        go_ret
        exact⟨by rw [Hn.out];rfl,B3.out.trans (Hq.out.mono (by omega))⟩
       | false=>
        have Hy:Hid (standsB im i=true):=Lib.hid (by rw [Hst.out,hlk,h1];rfl)
        clear hlk
        go_wp2
        go_roundw
        case rel=>exact⟨k+1,by go_num,by omega,by rw [Hsn.out,Hall.out,Hy.out];rfl,Hq.out⟩
        case measure=>simp [intOf];omega
      ·have hd1:((cn:Int) != 1)=true:=by rw [bne_iff_ne];omega
       have Hn:=Lib.hid (Hbad.out (by rw [Hst.out,decide_eq_false (p:=cn=1) h1];rfl))
       go_wp2_with fail
       refine wp_region_later (by kernel_rfl) (by kernel_rfl) ?_
       repeat (go_big_quiet_step (first | (go_at_call 68;exact Later.call_same _ (HH.out _)) | (go_at_call 95;refine Later.call_same _ (HS.out _ ?_);exact Hbi.out.trans ((Later.h _).mono (by omega)))))
       refine wpQuiet_nil ?_
       rintro _ ⟨⟨wq,hq⟩,rfl⟩
       try simp only at hq
       have Hq:=Lib.hid (Hbi.out.trans (hq.mono (by omega)))
       clear hq l0 l1 l2 l3 l4 HL HS HH HA
       go_wp2
       go_ret
       exact⟨by rw [Hn.out];rfl,B3.out.trans (Hq.out.mono (by omega))⟩
     ·have Hr2:Hid (tableJ im=decide (M=N)):=Lib.hid (by
       have h:=Hall.out
       rw [List.take_of_length_le (by rw [HN.out];omega)]at h
       rw [HT.out,Hsv.out,Hris.out,h,decide_eq_true (p:=im.syms.length≤512) p1,decide_eq_true (p:=1≤im.buckets.length) p2,decide_eq_true (p:=im.buckets.length≤512) p3]
       simp)
      go_wp2
      go_ret
      exact⟨ret_bool' (by rw [Hr2.out,Bool.eq_iff_iff];simp;omega),B3.out.trans (Hbi.out.mono (by omega))⟩
end Go.Proofs.YtfchpchabdhcgaaGreat
