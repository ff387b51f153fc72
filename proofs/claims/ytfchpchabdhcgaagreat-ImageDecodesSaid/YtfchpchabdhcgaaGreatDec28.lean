/- Lemmas. -/
import Derived.Test.YtfchpchabdhcgaaGreatDec25
import Derived.Test.YtfchpchabdhcgaaGreatDec27
import Derived.Test.YtfchpchabdhcgaaGreatDec12
set_option linter.unusedVariables false
set_option linter.unusedSimpArgs false
set_option maxHeartbeats 64000000
set_option maxRecDepth 100000
namespace Go.Proofs.YtfchpchabdhcgaaGreat
open Go.RowKit
def tableErr (im:ImgL):Int:=if tableB im=true then 0 else 80
theorem tableErr_bad {im:ImgL} (h:tableB im=false):tableErr im=80:=by rw [tableErr,h];rfl
theorem tableErr_ok {im:ImgL} (h:tableB im=true):tableErr im=0:=by rw [tableErr,h];rfl
abbrev chB (im:ImgL) (b:Nat) (last:Int) (l:List Int):Bool:=chainB im.syms im.words im.shift im.buckets.length b last l
abbrev chsB (im:ImgL) (b:Nat) (l:List (List Int)):Bool:=chainsB im.syms im.words im.shift im.buckets.length b l
theorem tableB_parts (im:ImgL):tableB im=(decide (im.syms.length≤512)&&decide (1≤im.buckets.length)&&decide (im.buckets.length≤512)&&sieveB im.words im.shift&&chsB im 0 im.buckets&&
 decide ((lensB im).sum=(seenIx im.syms).length)):=by rw [seenIx_length];rfl
theorem chB_cons (im:ImgL) (b:Nat) (last i:Int) (l:List Int):chB im b last (i :: l)=(decide (last<i)&&entryB im b i&&chB im b i l):=by unfold chB;rw [chainB];rfl
theorem chB_low {im:ImgL} {b:Nat} {last i:Int} {l:List Int} (h:¬ last<i):chB im b last (i :: l)=false:=by rw [chB_cons,decide_eq_false (p:=last<i) h];rfl
theorem chB_bad {im:ImgL} {b:Nat} {last i:Int} {l:List Int} (h:entryB im b i=false):chB im b last (i :: l)=false:=by rw [chB_cons,h];simp
theorem chB_ok {im:ImgL} {b:Nat} {last i:Int} {l:List Int} (h:last<i) (h2:entryB im b i=true):chB im b last (i :: l)=chB im b i l:=by rw [chB_cons,h2,decide_eq_true (p:=last<i) h];rfl
theorem chsB_bad {im:ImgL} {b:Nat} {c:List Int} {l:List (List Int)} (h:chB im b (-1) c=false):chsB im b (c :: l)=false:=by unfold chsB;rw [chainsB];unfold chB at h;rw [h];rfl
theorem chsB_ok {im:ImgL} {b:Nat} {c:List Int} {l:List (List Int)} (h:chB im b (-1) c=true):chsB im b (c :: l)=chsB im (b+1) l:=by unfold chsB;rw [chainsB];unfold chB at h;rw [h];rfl
theorem entryB_far {im:ImgL} {b:Nat} {i:Int} (h:(im.syms.length:Int)≤i):entryB im b i=false:=by
 unfold entryB
 rw [if_neg (by omega),List.getElem?_eq_none (by omega)]
theorem entryB_at {im:ImgL} {b k:Nat} {s:SymL} (h:im.syms[k]? =some s):entryB im b (k:Int)=(seenB s&&decide (homeL s.name im.buckets.length=b)&& !lacksB im.words im.shift (hashB s.name)):=by
 unfold entryB
 rw [if_neg (by omega),Int.toNat_natCast,h]
theorem tright_any (w:World) (im:ImgL) (vb vw vs:Value) (hb:LB kInts (·<w.heap.size) w vb im.buckets) (hw:LB kWord (·<w.heap.size) w vw im.words) (hs:LB kSym (·<w.heap.size) w vs im.syms)
  (hr:∀ x∈im.words,0≤x∧x<18446744073709551616):
  Calls Tryz.prog 35 #[.agg #[vb,vw,.int .i64 im.shift],vs] w fun e w'=>e=.returned (.int .i64 (tableErr im))∧Below w.heap.size w w':=by
 obtain⟨ba,bb,boff,bcap,rfl,hbm,hbc,hbat⟩:=hb.at
 obtain⟨sa,sb,soff,scap,rfl,hsm,hsc,hsat⟩:=hs.at
 obtain⟨wa,wc,hwv⟩:=hw.form
 subst hwv
 have Hw:=Lib.hid hw
 have HT:=Lib.hid (tableB_parts im)
 have Hbat:=Lib.hid hbat
 have Hsat:=Lib.hid hsat
 have Hr:=Lib.hid hr
 have Hs:=Lib.hid hs
 have hwm:=hw.max
 have Hbad:=Lib.hid (fun h=>tableErr_bad (im:=im) h)
 clear hb hs hw hbat hsat hr
 have B1:=Lib.hid ((Below.refl w.heap.size w).alloc (Nat.le_refl _) (.cells #[.slice ba im.buckets.length bcap,.slice wa im.words.length wc,.int .i64 im.shift] 35 (0,0)))
 have F1:=Lib.hid (heap_alloc_new w (.cells #[.slice ba im.buckets.length bcap,.slice wa im.words.length wc,.int .i64 im.shift] 35 (0,0)))
 by_cases p1:im.syms.length≤512
 case neg=>
  have Hn:=Lib.hid (Hbad.out (by rw [HT.out,decide_eq_false (p:=im.syms.length≤512) p1];simp))
  have q1:512<im.syms.length:=by omega
  go_enter Tryz.func35,Tryz.ntmps35
  go_wp2
  go_ret
  exact⟨by rw [Hn.out];rfl,B1.out⟩
 have q1:¬ 512<im.syms.length:=by omega
 by_cases p2:1≤im.buckets.length
 case neg=>
  have Hn:=Lib.hid (Hbad.out (by rw [HT.out,decide_eq_false (p:=1≤im.buckets.length) p2];simp))
  have q2:im.buckets.length<1:=by omega
  go_enter Tryz.func35,Tryz.ntmps35
  go_wp2
  go_ret
  exact⟨by rw [Hn.out];rfl,B1.out⟩
 have q2:¬ im.buckets.length<1:=by omega
 by_cases p3:im.buckets.length≤512
 case neg=>
  have Hn:=Lib.hid (Hbad.out (by rw [HT.out,decide_eq_false (p:=im.buckets.length≤512) p3];simp))
  have q3:512<im.buckets.length:=by omega
  go_enter Tryz.func35,Tryz.ntmps35
  go_wp2
  go_ret
  exact⟨by rw [Hn.out];rfl,B1.out⟩
 have q3:¬ 512<im.buckets.length:=by omega
 have Hf:=Lib.hid (fun w=>sright_any w im.words wa wc im.shift (by omega))
 go_enter Tryz.func35,Tryz.ntmps35
 go_wp2_with fail
 have hz1:w.heap.size<(w.alloc (.cells #[.slice ba im.buckets.length bcap,.slice wa im.words.length wc,.int .i64 im.shift] 35 (0,0))).heap.size:=by simp
 generalize w.alloc (.cells #[.slice ba im.buckets.length bcap,.slice wa im.words.length wc,.int .i64 im.shift] 35 (0,0))=w1 at *
 refine(Hf.out w1).mono ?_
 rintro e w2 ⟨rfl,hb2⟩
 have B2:=Lib.hid (B1.out.trans (hb2.mono (by omega)))
 have F2:=Lib.hid ((hb2.block _ hz1).trans F1.out)
 have hz2:=hb2.size
 clear hb2 B1 F1 Hf
 cases hsv:sieveB im.words im.shift with
 | false=>
  have Hn:=Lib.hid (Hbad.out (by rw [HT.out,hsv];simp))
  have he:sieveErr im.words im.shift=20:=by rw [sieveErr,hsv];rfl
  rw [he]
  clear hsv he
  go_wp2
  go_ret
  exact⟨by rw [Hn.out];rfl,B2.out⟩
 | true=>
  have Hsv:=Lib.hid hsv
  have he:sieveErr im.words im.shift=0:=by rw [sieveErr,hsv];rfl
  rw [he]
  have c0:w2.cell? ⟨w.heap.size,0,none⟩=some (.slice ba im.buckets.length bcap):=by rw [Lib.cell_of_heap F2.out];rfl
  clear hsv he
  go_wp2_with fail
  go_loopw [5,37] (fun n i wr=>∃ (b M:Nat),i=.int .i64 b∧b≤im.buckets.length∧n=.int .i64 (M:Int)∧M=((lensB im).take b).sum∧M≤513*b∧chsB im 0 im.buckets=chsB im b (im.buckets.drop b)∧Below w2.heap.size w2 wr) (fun _ i _=>im.buckets.length-(intOf i).toNat)
  case atStart=>exact⟨0,0,rfl,Nat.zero_le _,rfl,by simp,by simp,by simp,Below.refl _ _⟩
  case round=>
   obtain⟨b,M,rfl,hbk,rfl,hM,hMb,hch,hbel⟩:=hrel
   have HM:=Lib.hid hM
   have Hch:=Lib.hid hch
   have Hbel:=Lib.hid hbel
   have hzr:=hbel.size
   have F4:=(hbel.block w.heap.size (by omega)).trans F2.out
   clear hM hch hbel c0
   by_cases hlt:b<im.buckets.length
   ·obtain rfl:=Hbat.out.addr (by omega)
    obtain⟨c,hc⟩:∃ c,im.buckets[b]? =some c:=⟨_,List.getElem?_eq_getElem hlt⟩
    obtain⟨cv,gc,hclb⟩:=(Hbat.out.below B2.out).ints1 b c hc
    have gc2:wr.cell? ⟨bb,boff+b,none⟩=some cv:=(Hbel.out.cell (p:=⟨bb,boff+b,none⟩) (World.block_lt_of_cell? _ _ gc)).trans gc
    obtain⟨ca,cb,coff,ccap,rfl,hcm,hcc,hcat⟩:=hclb.at
    have Hcat:=Lib.hid hcat
    have Hsum:=Lib.hid (sum_take_succ (lensB im) b c.length (by simp [lensB,hc]))
    have Hdc:=Lib.hid (drop_cons im.buckets b c hc)
    have hMx:M≤513*512:=Nat.le_trans hMb (Nat.mul_le_mul_left _ (by omega))
    clear hc gc hclb hcat F4
    go_wp2_with fail
    go_loopw [5,8,44] (fun n la i wi=>∃ (k:Nat) (x:Int),i=.int .i64 k∧k≤c.length∧n=.int .i64 ((M+k:Nat):Int)∧la=.int .i64 x∧ -1≤x∧x≤512∧(k:Int)≤x+1∧chB im b (-1) c=chB im b x (c.drop k)∧Below w2.heap.size w2 wi) (fun _ _ i _=>c.length-(intOf i).toNat)
    case atStart=>exact⟨0,-1,rfl,Nat.zero_le _,rfl,rfl,by decide,by decide,by decide,by simp,Hbel.out⟩
    case round=>
     obtain⟨k,x,rfl,hk,rfl,rfl,hx0,hx1,hkx,hcx,hbi⟩:=hrel
     have Hcx:=Lib.hid hcx
     have Hbi:=Lib.hid hbi
     have hzi:=hbi.size
     have F5:=(hbi.block w.heap.size (by omega)).trans F2.out
     have c0:wr.cell? ⟨w.heap.size,0,none⟩=some (.slice (some ⟨bb,boff,none⟩) im.buckets.length bcap):=by rw [Lib.cell_of_heap F5];rfl
     have c1:wr.cell? ⟨w.heap.size,1,none⟩=some (.slice wa im.words.length wc):=by rw [Lib.cell_of_heap F5];rfl
     have c2:wr.cell? ⟨w.heap.size,2,none⟩=some (.int .i64 im.shift):=by rw [Lib.cell_of_heap F5];rfl
     clear hcx hbi F5
     by_cases hlt2:k<c.length
     ·obtain rfl:=Hcat.out.addr (by omega)
      obtain⟨i,hi⟩:∃ i,c[k]? =some i:=⟨_,List.getElem?_eq_getElem hlt2⟩
      have gi:=(Hbi.out.cell (World.block_lt_of_cell? _ _ (Hcat.out.int1 k i hi))).trans (Hcat.out.int1 k i hi)
      have Hdi:=Lib.hid (drop_cons c k i hi)
      have HnoC:Hid (chB im b x (i :: c.drop (k+1))=false→tableErr im=80):=Lib.hid (fun h=>Hbad.out (by rw [HT.out,Hch.out,Hdc.out,chsB_bad (by rw [Hcx.out,Hdi.out,h])];simp))
      have l0:=fun y:Later wr=>y.cell c0
      have l1:=fun y:Later wr=>y.cell c1
      have l2:=fun y:Later wr=>y.cell c2
      clear hi c0 c1 c2
      by_cases h1:x<i
      case neg=>
       have Hn:=Lib.hid (HnoC.out (chB_low h1))
       have hd1:decide (i≤x)=true:=by rw [decide_eq_true_eq];omega
       go_wp2_with fail
       refine wp_region_later (by kernel_rfl) (by kernel_rfl) ?_
       repeat (go_big_quiet_step (fail))
       refine wpQuiet_nil ?_
       rintro _ ⟨⟨wq,hq⟩,rfl⟩
       try simp only at hq
       have Hq:=Lib.hid hq
       clear hq
       go_wp2
       go_ret
       exact⟨by rw [Hn.out];rfl,B2.out.trans ((Hbi.out.trans (Hq.out.mono (by omega))).mono (by omega))⟩
      have hd1:decide (i≤x)=false:=by rw [decide_eq_false_iff_not];omega
      by_cases h2:(im.syms.length:Int)≤i
      case pos=>
       have Hn:=Lib.hid (HnoC.out (chB_bad (entryB_far h2)))
       have hd2:decide ((im.syms.length:Int)≤i)=true:=by rw [decide_eq_true_eq];exact h2
       go_wp2_with fail
       refine wp_region_later (by kernel_rfl) (by kernel_rfl) ?_
       repeat (go_big_quiet_step (fail))
       refine wpQuiet_nil ?_
       rintro _ ⟨⟨wq,hq⟩,rfl⟩
       try simp only at hq
       have Hq:=Lib.hid hq
       clear hq
       go_wp2
       go_ret
       exact⟨by rw [Hn.out];rfl,B2.out.trans ((Hbi.out.trans (Hq.out.mono (by omega))).mono (by omega))⟩
      have hd2:decide ((im.syms.length:Int)≤i)=false:=by rw [decide_eq_false_iff_not];exact h2
      obtain⟨j,rfl⟩:∃ j:Nat,i=j:=⟨i.toNat,by omega⟩
      have hj:j<im.syms.length:=by omega
      have hd2':decide (im.syms.length≤j)=false:=by rw [decide_eq_false_iff_not];omega
      obtain rfl:=Hsat.out.addr (by omega)
      obtain⟨s,hx⟩:∃ s,im.syms[j]? =some s:=⟨_,List.getElem?_eq_getElem hj⟩
      have He:=Lib.hid (entryB_at (b:=b) hx)
      obtain⟨hok,g0',g1',g2',g3',g4',g5',g6',g7',g8'⟩:=(Hsat.out.below B2.out).sym9 j s hx
      have hnl:=hok.name
      have hrange:=hashB_range s.name
      have Hlt:∀ {p:Addr} {v:Value},w2.cell? p=some v→wr.cell? p=some v:=fun {p v} h=>(Hbi.out.cell (World.block_lt_of_cell? _ _ h)).trans h
      have m0:=fun y:Later wr=>y.cell (Hlt g0')
      have m1:=fun y:Later wr=>y.cell (Hlt g1')
      have m2:=fun y:Later wr=>y.cell (Hlt g2')
      have m3:=fun y:Later wr=>y.cell (Hlt g3')
      have m4:=fun y:Later wr=>y.cell (Hlt g4')
      have m5:=fun y:Later wr=>y.cell (Hlt g5')
      have m6:=fun y:Later wr=>y.cell (Hlt g6')
      have m7:=fun y:Later wr=>y.cell (Hlt g7')
      have m8:=fun y:Later wr=>y.cell (Hlt g8')
      have HS:=Lib.hid (fun w'=>vseen_any w' s)
      have HH:=Lib.hid (fun w'=>tbucket_any w' (some ⟨bb,boff,none⟩) im.buckets.length bcap (.slice wa im.words.length wc) im.shift s.name hnl p2 p3)
      have HA:=Lib.hid (fun w'=>shash_any w' s.name hnl)
      have HL:=Lib.hid (fun (w':World) (h:Below w2.heap.size w2 w')=>slacks_any w' (.slice wa im.words.length wc) im.words im.shift (hashB s.name).toNat ((Hw.out.below (B2.out.trans (h.mono (by omega)))).mono (by have:=h.size;omega)) Hr.out (by omega) Hsv.out)
      rw [Int.toNat_of_nonneg hrange.1]at HL
      clear g0' g1' g2' g3' g4' g5' g6' g7' g8' Hlt hx hok
      generalize hashB s.name=hh at *
      generalize homeL s.name im.buckets.length=hm at *
      cases hsn:seenB s with
      | false=>
       have Hn:=Lib.hid (HnoC.out (chB_bad (by rw [He.out,hsn];rfl)))
       rw [hsn]at HS
       clear hsn
       go_wp2_with fail
       refine wp_region_later (by kernel_rfl) (by kernel_rfl) ?_
       repeat (go_big_quiet_step (first | (go_at_call 77;exact Later.call _ (HS.out _))))
       refine wpQuiet_nil ?_
       rintro _ ⟨⟨wq,hq⟩,rfl⟩
       try simp only at hq
       have Hq:=Lib.hid hq
       clear hq
       go_wp2
       go_ret
       exact⟨by rw [Hn.out];rfl,B2.out.trans ((Hbi.out.trans (Hq.out.mono (by omega))).mono (by omega))⟩
      | true=>
       rw [hsn]at HS He
       clear hsn
       by_cases h4:hm=b
       case neg=>
        have Hn:=Lib.hid (HnoC.out (chB_bad (by rw [He.out,decide_eq_false (p:=hm=b) h4];rfl)))
        have hd4:((hm:Int) != (b:Int))=true:=by rw [bne_iff_ne];omega
        go_wp2_with fail
        refine wp_region_later (by kernel_rfl) (by kernel_rfl) ?_
        repeat (go_big_quiet_step (first | (go_at_call 77;exact Later.call _ (HS.out _)) | (go_at_call 78;exact Later.call _ (HH.out _))))
        refine wpQuiet_nil ?_
        rintro _ ⟨⟨wq,hq⟩,rfl⟩
        try simp only at hq
        have Hq:=Lib.hid hq
        clear hq
        go_wp2
        go_ret
        exact⟨by rw [Hn.out];rfl,B2.out.trans ((Hbi.out.trans (Hq.out.mono (by omega))).mono (by omega))⟩
       have hd4:((hm:Int) != (b:Int))=false:=by rw [bne_eq_false_iff_eq];omega
       go_wp2_with fail
       refine wp_region_later (by kernel_rfl) (by kernel_rfl) ?_
       repeat (go_big_quiet_step (first | (go_at_call 77;exact Later.call _ (HS.out _)) | (go_at_call 78;exact Later.call _ (HH.out _)) | (go_at_call 80;exact Later.call_same _ (HA.out _)) | (go_at_call 79;refine Later.call _ (HL.out _ ?_);exact Hbi.out.trans ((Later.h _).mono (by omega)))))
       refine wpQuiet_nil ?_
       rintro _ ⟨⟨wq,hq⟩,rfl⟩
       try simp only at hq
       have Hq:=Lib.hid hq
       clear hq l0 l1 l2 m0 m1 m2 m3 m4 m5 m6 m7 m8 HS HH HA HL
       cases hlk:lacksB im.words im.shift hh with
       | true=>
        have Hn:=Lib.hid (HnoC.out (chB_bad (by rw [He.out,hlk];simp)))
        clear hlk
        go_wp2
        go_ret
        exact⟨by rw [Hn.out];rfl,B2.out.trans ((Hbi.out.trans (Hq.out.mono (by omega))).mono (by omega))⟩
       | false=>
        have Hy:Hid (chB im b (-1) c=chB im b (j:Int) (c.drop (k+1))):=Lib.hid (by rw [Hcx.out,Hdi.out,chB_ok h1 (by rw [He.out,hlk,decide_eq_true (p:=hm=b) h4];rfl)])
        clear hlk
        go_wp2
        go_roundw
        case rel=>exact⟨k+1,(j:Int),by go_num,by omega,by go_num,rfl,by omega,by omega,by omega,Hy.out,Hbi.out.trans (Hq.out.mono (by omega))⟩
        case measure=>simp [intOf];omega
     ·have Hcc:Hid (chB im b (-1) c=true):=Lib.hid (by rw [Hcx.out,List.drop_eq_nil_of_le (by omega)];rfl)
      have hkl:k=c.length:=by omega
      have Hck:Hid (k=c.length):=Lib.hid hkl
      clear hkl c0 c1 c2
      go_wp2
      go_roundw
      case rel=>exact⟨b+1,M+k,by go_num,by omega,by first | rfl | go_num,by rw [Hsum.out,← HM.out,Hck.out],by omega,by rw [Hch.out,Hdc.out,chsB_ok Hcc.out],Hbi.out⟩
      case measure=>simp [intOf];omega
   ·have Hcs:Hid (chsB im 0 im.buckets=true):=Lib.hid (by rw [Hch.out,List.drop_eq_nil_of_le (by omega)];rfl)
    have Hsu:Hid (M=(lensB im).sum):=Lib.hid (by rw [HM.out,List.take_of_length_le (by simp [lensB];omega)])
    have HR:Hid (tableB im=decide (M=(seenIx im.syms).length)):=Lib.hid (by rw [HT.out,Hcs.out,Hsv.out,Hsu.out,decide_eq_true (p:=im.syms.length≤512) p1,decide_eq_true (p:=1≤im.buckets.length) p2,decide_eq_true (p:=im.buckets.length≤512) p3];simp)
    have HO:=Lib.hid (fun h=>tableErr_ok (im:=im) h)
    have hsl:(seenIx im.syms).length≤512:=by have:=seenK_le im.syms im.syms.length;rw [seenIx];omega
    clear F4
    go_wp2_with fail
    refine(thashes_any wr _ im.syms ((Hs.out.below (B2.out.trans (Hbel.out.mono (by omega)))).mono (by omega)) p1).mono ?_
    rintro e w3 ⟨r,l,rfl,hown,hown2,hb3⟩
    have B3:=Lib.hid ((B2.out.trans (Hbel.out.mono (by omega))).trans (hb3.mono (by omega)))
    obtain⟨oa,oc,rfl⟩:=hown.form
    obtain⟨pa,pc,rfl⟩:=hown2.form
    rw [toInts_len]
    clear hown hown2 hb3
    generalize (seenIx im.syms).length=N at *
    by_cases hMN:M=N
    ·have Hn:=Lib.hid (HO.out (by rw [HR.out];simp [hMN]))
     have hd:((M:Int) != (N:Int))=false:=by rw [bne_eq_false_iff_eq];omega
     go_wp2
     go_ret
     exact⟨by rw [Hn.out];rfl,B3.out⟩
    ·have Hn:=Lib.hid (Hbad.out (by rw [HR.out];simp [hMN]))
     have hd:((M:Int) != (N:Int))=true:=by rw [bne_iff_ne];omega
     go_wp2
     go_ret
     exact⟨by rw [Hn.out];rfl,B3.out⟩
end Go.Proofs.YtfchpchabdhcgaaGreat
