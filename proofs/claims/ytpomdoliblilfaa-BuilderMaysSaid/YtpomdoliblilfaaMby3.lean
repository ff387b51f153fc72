/- Lemmas. -/
import Derived.Test.YtpomdoliblilfaaBld3
import Derived.Test.YtpomdoliblilfaaBld6
import Derived.Test.YtpomdoliblilfaaBld5
import Derived.Deep.DeepCutAuto
namespace Go.Proofs.Ytpomdoliblilfaa
set_option linter.unusedVariables false
set_option linter.unusedSimpArgs false
open Go.RowKit
set_option maxHeartbeats 8000000 in
set_option maxRecDepth 100000 in
theorem jsright_any (w:World) (s:SymL) (hs:SymOk s):
  Calls Try.prog 65 #[.agg #[.string ⟨s.name.toArray⟩,.string ⟨s.version.toArray⟩,.bool s.old,.int .i64 s.kind,.bool s.weak,.int .i64 s.vis,.bool s.defined,.int .i64 s.value,.int .i64 s.size]] w fun e w'=>e=.returned (.bool (symRightB s))∧Below w.heap.size w w':=by
 have hz1:=hs.name
 have hz2:=hs.version
 have hsz1:=size_mk s.name
 have hsz2:=size_mk s.version
 have B1:=Lib.hid ((Below.refl w.heap.size w).alloc (Nat.le_refl _) (.cells #[.string ⟨s.name.toArray⟩,.string ⟨s.version.toArray⟩,.bool s.old,.int .i64 s.kind,.bool s.weak,.int .i64 s.vis,.bool s.defined,.int .i64 s.value,.int .i64 s.size] 52 (0,0)))
 have F1:=Lib.hid (heap_alloc_new w (.cells #[.string ⟨s.name.toArray⟩,.string ⟨s.version.toArray⟩,.bool s.old,.int .i64 s.kind,.bool s.weak,.int .i64 s.vis,.bool s.defined,.int .i64 s.value,.int .i64 s.size] 52 (0,0)))
 have Hx:Hid (∀ b:Bool,symRightB s=b→Ending.returned (.bool b)=.returned (.bool (symRightB s))):=Lib.hid (fun b h=>by rw [h])
 go_enter Try.func65,Try.ntmps65
 go_wp2_with fail
 generalize w.alloc (.cells #[.string ⟨s.name.toArray⟩,.string ⟨s.version.toArray⟩,.bool s.old,.int .i64 s.kind,.bool s.weak,.int .i64 s.vis,.bool s.defined,.int .i64 s.value,.int .i64 s.size] 52 (0,0))=w1 at *
 obtain⟨c0,c1,c2,c3,c4,c5,c6,c7,c8⟩:=sym_cells F1.out
 refine(jname_any _ s.name hz1).mono ?_
 rintro e w2 ⟨rfl,rfl⟩
 cases hn:nameB s.name with
 | false=>
  go_wp2
  go_ret
  exact⟨Hx.out _ (by simp [symRightB,hn]),B1.out⟩
 | true=>
  have Hn:=Lib.hid hn
  cases hq:s.version.isEmpty with
  | true=>
   have Hv:=Lib.hid (List.isEmpty_iff.1 hq)
   cases hd:s.defined
   all_goals
    have Hd:=Lib.hid hd
    rw [hd]at c6
    cases ho:s.old
    all_goals
     have Ho2:=Lib.hid ho
     rw [ho]at c2
     clear ho
     go_wp2
     all_goals go_ret
     all_goals (try simp only [beq_eq_false_iff_ne,bne_eq_false_iff_eq,bne_iff_ne,beq_iff_eq,ne_eq]at *)
     all_goals first
      | (refine ⟨Hx.out _ ?_,B1.out⟩;simp [symRightB,Hn.out,Hv.out,Hd.out,Ho2.out];done)
      | (refine ⟨Hx.out _ ?_,B1.out⟩;simp [symRightB,Hn.out,Hv.out,Hd.out,Ho2.out];intros;omega)
      | (refine ⟨Hx.out _ ?_,B1.out⟩;rw [Bool.eq_iff_iff];simp [symRightB,Hn.out,Hv.out,Hd.out,Ho2.out];omega)
  | false=>
   have Hv:Hid (decide (s.version=[])=false):=Lib.hid (by rw [decide_eq_false_iff_not];intro e;rw [e]at hq;simp at hq)
   go_wp2_with fail
   refine(jname_any _ s.version hz2).mono ?_
   rintro e w3 ⟨rfl,rfl⟩
   cases hv2:nameB s.version with
   | false=>
    go_wp2
    go_ret
    exact⟨Hx.out _ (by simp [symRightB,Hv.out,hv2]),B1.out⟩
   | true=>
    have Hv2:=Lib.hid hv2
    cases hd:s.defined
    all_goals
     have Hd:=Lib.hid hd
     rw [hd]at c6
     cases ho:s.old
     all_goals
      have Ho2:=Lib.hid ho
      rw [ho]at c2
      clear ho
      go_wp2
      all_goals go_ret
      all_goals (try simp only [beq_eq_false_iff_ne,bne_eq_false_iff_eq,bne_iff_ne,beq_iff_eq,ne_eq]at *)
      all_goals first
       | (refine ⟨Hx.out _ ?_,B1.out⟩;simp [symRightB,Hn.out,Hv.out,Hv2.out,Hd.out,Ho2.out];done)
       | (refine ⟨Hx.out _ ?_,B1.out⟩;simp [symRightB,Hn.out,Hv.out,Hv2.out,Hd.out,Ho2.out];intros;omega)
       | (refine ⟨Hx.out _ ?_,B1.out⟩;rw [Bool.eq_iff_iff];simp [symRightB,Hn.out,Hv.out,Hv2.out,Hd.out,Ho2.out];omega)
end Go.Proofs.Ytpomdoliblilfaa
namespace Go.Proofs.Ytpomdoliblilfaa
set_option linter.unusedVariables false
set_option linter.unusedSimpArgs false
open Go.RowKit
set_option maxHeartbeats 16000000 in
set_option maxRecDepth 100000 in
theorem jsyms_any (w:World) (v:ImgV) (im:ImgL) (hs:LB kSeg (·<w.heap.size) w v.segs im.segs) (hok:∀ s∈im.segs,SegOk s) (hy:LB kSym (·<w.heap.size) w v.syms im.syms) (ht:0≤im.tlsSize∧im.tlsSize≤4096):
  Calls Try.prog 28 #[.agg (imgCells v im)] w fun e w'=>e=.returned (.bool (symsB im))∧Below w.heap.size w w':=by
 obtain⟨sa,sb,soff,scap,hsv,hsm,hsc,hat⟩:=hy.at
 obtain⟨vsegs,vneeded,vrunPath,vsyms,vbuckets,vwords,vrelocs,vslots,vinit,vfini,vtls⟩:=v
 simp only at hsv
 subst hsv
 have HH:Hid (∀ (w':World) (x n:Int),Below w.heap.size w w'→(-9223372036854775808≤x∧x≤9223372036854775807)→(0≤n∧n≤9223372036854775807)→
  Calls Try.prog 66 #[.agg (imgCells ⟨vsegs,vneeded,vrunPath,.slice sa im.syms.length scap,vbuckets,vwords,vrelocs,vslots,vinit,vfini,vtls⟩ im),.int .i64 x,.int .i64 n,.int .i64 0] w' fun e w''=>e=.returned (.bool (holdsB im.segs x n 0))∧Below w'.heap.size w' w''):=Lib.hid (fun w' x n hb hx hn=>jstands_any w' _ im x n 0 ((hs.below hb).mono hb.size) hok hx hn (by decide))
 unfold imgCells at *
 have Hat:=Lib.hid hat
 have HD:Hid (symsB im=(decide (im.syms.length≤512)&&symsFrom im.segs im.tlsSize [] im.syms)):=Lib.hid rfl
 clear hs hok hat hy
 generalize hI:(Array.mk [.string ⟨im.name.toArray⟩,.int .i64 im.flags,vsegs,vneeded,vrunPath,.slice sa im.syms.length scap,vbuckets,vwords,.int .i64 im.shift,vrelocs,vslots,vinit,vfini,vtls,.int .i64 im.tlsSize]:Array Value)=I at HH
 have F0:=Lib.hid (heap_alloc_new w (.cells I 44 (0,0)))
 have B1:=Lib.hid ((Below.refl w.heap.size w).alloc (Nat.le_refl _) (.cells I 44 (0,0)))
 subst hI
 by_cases h5:im.syms.length≤512
 case neg=>
  have Hn:Hid (symsB im=false):=Lib.hid (by rw [HD.out,decide_eq_false (p:=im.syms.length≤512) h5];rfl)
  have h6:512<im.syms.length:=by omega
  go_enter Try.func28,Try.ntmps28
  go_wp2
  go_ret
  exact⟨by rw [Hn.out];rfl,B1.out⟩
 have h6:¬ 512<im.syms.length:=by omega
 have Hse:Hid (symsB im=symsFrom im.segs im.tlsSize [] im.syms):=Lib.hid (by rw [HD.out,decide_eq_true (p:=im.syms.length≤512) h5];rfl)
 clear HD
 go_enter Try.func28,Try.ntmps28
 go_wp2_with fail
 go_loopw [3] (fun i wr=>∃ (k:Nat),i=.int .i64 k∧k≤im.syms.length∧symsB im=symsFrom im.segs im.tlsSize (im.syms.take k) (im.syms.drop k)∧Below w.heap.size w wr∧
  wr.heap[w.heap.size]? =some (.cells #[.string ⟨im.name.toArray⟩,.int .i64 im.flags,vsegs,vneeded,vrunPath,.slice sa im.syms.length scap,vbuckets,vwords,.int .i64 im.shift,vrelocs,vslots,vinit,vfini,vtls,.int .i64 im.tlsSize] 44 (0,0))∧w.heap.size<wr.heap.size) (fun i _=>im.syms.length-(intOf i).toNat)
 case atStart=>exact⟨0,rfl,Nat.zero_le _,by rw [Hse.out];simp,B1.out,F0.out,by simp⟩
 case round=>
  obtain⟨k,rfl,hk,hse,hbel,hF,hzq⟩:=hrel
  have Hse2:=Lib.hid hse
  have Hbel:=Lib.hid hbel
  have HF:=Lib.hid hF
  have hBr:=hbel.size
  clear hse Hse
  obtain⟨i0,i1,i2,i3,i4,i5,i6,i7,i8,i9,i10,i11,i12,i13,i14⟩:=img_cells hF
  by_cases hlt:k<im.syms.length
  ·obtain rfl:=Hat.out.addr (by omega)
   obtain⟨s,hx⟩:∃ s,im.syms[k]? =some s:=⟨_,List.getElem?_eq_getElem hlt⟩
   obtain⟨hso,g0,g1,g2,g3,g4,g5,g6,g7,g8⟩:=(Hat.out.below hbel).sym9 k s hx
   have Hdc:=Lib.hid (drop_cons im.syms k s hx)
   have Htk:=Lib.hid (take_snoc im.syms k s hx)
   have Hso:=Lib.hid hso
   have hsb:=World.block_lt_of_cell? _ _ g0
   have HRt:=Lib.hid (fun w=>jsright_any w s hso)
   have HBs:=Lib.hid (Hbel.out.alloc hBr (.cells #[.string ⟨s.name.toArray⟩,.string ⟨s.version.toArray⟩,.bool s.old,.int .i64 s.kind,.bool s.weak,.int .i64 s.vis,.bool s.defined,.int .i64 s.value,.int .i64 s.size] 52 (0,0)))
   have HFs:=Lib.hid (heap_alloc_new wr (.cells #[.string ⟨s.name.toArray⟩,.string ⟨s.version.toArray⟩,.bool s.old,.int .i64 s.kind,.bool s.weak,.int .i64 s.vis,.bool s.defined,.int .i64 s.value,.int .i64 s.size] 52 (0,0)))
   have HFi:=Lib.hid ((heap_alloc_old wr (.cells #[.string ⟨s.name.toArray⟩,.string ⟨s.version.toArray⟩,.bool s.old,.int .i64 s.kind,.bool s.weak,.int .i64 s.vis,.bool s.defined,.int .i64 s.value,.int .i64 s.size] 52 (0,0)) hzq).trans hF)
   clear hx hso hbel hF HF Hbel
   go_upto_region 7 with fail
   have hz1:(wr.alloc (.cells #[.string ⟨s.name.toArray⟩,.string ⟨s.version.toArray⟩,.bool s.old,.int .i64 s.kind,.bool s.weak,.int .i64 s.vis,.bool s.defined,.int .i64 s.value,.int .i64 s.size] 52 (0,0))).heap.size=wr.heap.size+1:=by simp
   generalize wr.alloc (.cells #[.string ⟨s.name.toArray⟩,.string ⟨s.version.toArray⟩,.bool s.old,.int .i64 s.kind,.bool s.weak,.int .i64 s.vis,.bool s.defined,.int .i64 s.value,.int .i64 s.size] 52 (0,0))=w1 at *
   clear g0 g1 g2 g3 g4 g5 g6 g7 g8 i0 i1 i2 i3 i4 i5 i6 i7 i8 i9 i10 i11 i12 i13 i14
   obtain⟨c0,c1,c2,c3,c4,c5,c6,c7,c8⟩:=sym_cells HFs.out
   go_wp2_with fail
   refine(HRt.out w1).mono ?_
   rintro e w2 ⟨rfl,hb2⟩
   have hz2:=hb2.size
   have HFs2:=Lib.hid ((hb2.block wr.heap.size (by omega)).trans HFs.out)
   have HFi2:=Lib.hid ((hb2.block w.heap.size (by omega)).trans HFi.out)
   have HBs2:=Lib.hid (HBs.out.trans (hb2.mono (by omega)))
   have Hb2:=Lib.hid hb2
   clear hb2 c0 c1 c2 c3 c4 c5 c6 c7 c8 HRt
   cases hrt:symRightB s with
   | false=>
    have Hn:Hid (symsB im=false):=Lib.hid (by rw [Hse2.out,Hdc.out,symsFrom_bad (symB_right hrt)])
    clear hrt
    go_wp2
    go_ret
    exact⟨by rw [Hn.out];rfl,HBs2.out⟩
   | true=>
   have hnum:=right_nums hrt
   have Hrt:=Lib.hid hrt
   clear hrt
   obtain⟨c0,c1,c2,c3,c4,c5,c6,c7,c8⟩:=sym_cells HFs2.out
   obtain⟨i0,i1,i2,i3,i4,i5,i6,i7,i8,i9,i10,i11,i12,i13,i14⟩:=img_cells HFi2.out
   go_upto_region 9 with fail
   go_cut [67] (fun s67 wx=>s67=.bool (!symB im.segs im.tlsSize s)∧Below w1.heap.size w1 wx)
   case first=>
    cases hd:s.defined with
    | false=>
     rw [hd]at c6
     have Hy:=Lib.hid (symB_free (segs:=im.segs) (tls:=im.tlsSize) Hrt.out hd)
     clear hd
     go_wp2_with fail
     go_meet
     exact⟨by rw [Hy.out];rfl,Hb2.out⟩
    | true=>
     rw [hd]at c6
     have Hdd:=Lib.hid hd
     clear hd
     have hso1:=Hso.out.value
     have hso2:=Hso.out.size
     by_cases hk3:s.kind=3
     ·have Hy:=Lib.hid (symB_tls (segs:=im.segs) (tls:=im.tlsSize) Hrt.out Hdd.out hk3)
      have hbk:(s.kind==3)=true:=by rw [beq_iff_eq];exact hk3
      have hbn:(s.kind != 3)=false:=by rw [bne_eq_false_iff_eq];exact hk3
      clear hk3 i0 i1 i2 i3 i4 i5 i6 i7 i8 i9 i10 i11
      by_cases hA:s.value≤im.tlsSize
      ·have hA2:decide (im.tlsSize<s.value)=false:=by rw [decide_eq_false_iff_not];omega
       by_cases hB:s.size≤im.tlsSize-s.value
       ·have Hy2:Hid (symB im.segs im.tlsSize s=true):=Lib.hid (by rw [Hy.out,Bool.and_eq_true,decide_eq_true_eq,decide_eq_true_eq];omega)
        have hB2:decide (im.tlsSize-s.value<s.size)=false:=by rw [decide_eq_false_iff_not];omega
        go_wp2_with fail
        go_meet
        exact⟨by rw [Hy2.out];rfl,Hb2.out⟩
       ·have Hy2:Hid (symB im.segs im.tlsSize s=false):=Lib.hid (by rw [Hy.out,Bool.and_eq_false_iff,decide_eq_false_iff_not,decide_eq_false_iff_not];omega)
        have hB2:decide (im.tlsSize-s.value<s.size)=true:=by rw [decide_eq_true_eq];omega
        go_wp2_with fail
        go_meet
        exact⟨by rw [Hy2.out];rfl,Hb2.out⟩
      ·have hA2:decide (im.tlsSize<s.value)=true:=by rw [decide_eq_true_eq];omega
       have Hy2:Hid (symB im.segs im.tlsSize s=false):=Lib.hid (by rw [Hy.out,Bool.and_eq_false_iff,decide_eq_false_iff_not,decide_eq_false_iff_not];omega)
       go_wp2_with fail
       go_meet
       exact⟨by rw [Hy2.out];rfl,Hb2.out⟩
     ·have Hy:=Lib.hid (symB_holds (segs:=im.segs) (tls:=im.tlsSize) Hrt.out Hdd.out hk3)
      have hbk:(s.kind==3)=false:=by rw [beq_eq_false_iff_ne];exact hk3
      have hbn:(s.kind != 3)=true:=by rw [bne_iff_ne];exact hk3
      have HHx:=Lib.hid (HH.out w2 s.value s.size (HBs2.out) Hso.out.value ⟨hnum.2,Hso.out.size.2⟩)
      go_wp2_with fail
      refine HHx.out.mono ?_
      rintro e w3 ⟨rfl,hb3⟩
      have Hb3:=Lib.hid hb3
      clear hb3 i0 i1 i2 i3 i4 i5 i6 i7 i8 i9 i10 i11 i12 i13 i14 HHx
      cases hh:holdsB im.segs s.value s.size 0 with
      | true=>
       have Hy2:Hid (symB im.segs im.tlsSize s=true):=Lib.hid (by rw [Hy.out,hh])
       clear hh
       go_wp2_with fail
       go_meet
       exact⟨by rw [Hy2.out];rfl,Hb2.out.trans (Hb3.out.mono (by omega))⟩
      | false=>
       have Hy2:Hid (symB im.segs im.tlsSize s=false):=Lib.hid (by rw [Hy.out,hh])
       clear hh
       go_wp2_with fail
       go_meet
       exact⟨by rw [Hy2.out];rfl,Hb2.out.trans (Hb3.out.mono (by omega))⟩
   case rest=>
    obtain⟨rfl,hbc⟩:=hcut
    have hzc:=hbc.size
    have hFic:=(hbc.block w.heap.size (by omega)).trans HFi.out
    clear i0 i1 i2 i3 i4 i5 i6 i7 i8 i9 i10 i11 i12 i13 i14 c0 c1 c2 c3 c4 c5 c6 c7 c8
    have Hbc:=Lib.hid hbc
    have HBc:=Lib.hid (HBs.out.trans (hbc.mono (by omega)))
    have HFic:=Lib.hid hFic
    clear hbc hFic
    cases hyb:symB im.segs im.tlsSize s with
    | false=>
     have Hn:Hid (symsB im=false):=Lib.hid (by rw [Hse2.out,Hdc.out,symsFrom_bad hyb])
     clear hyb
     go_wp2
     go_ret
     exact⟨by rw [Hn.out];rfl,HBc.out⟩
    | true=>
    have Hyb:=Lib.hid hyb
    clear hyb
    generalize wr.heap.size=zr at *
    go_wp2_with fail
    go_loopw [5] (fun i wi=>∃ (q:Nat),i=.int .i64 q∧q≤k∧(im.syms.take q).all (fun t=> !clashB s t)=true∧Below w1.heap.size w1 wi) (fun i _=>k-(intOf i).toNat)
    case atStart=>exact⟨0,rfl,Nat.zero_le _,rfl,Hbc.out⟩
    case round=>
     obtain⟨q,rfl,hq,hall,hbi⟩:=hrel
     have Hall:=Lib.hid hall
     have Hbi:=Lib.hid hbi
     have hzi:=hbi.size
     clear hall
     by_cases hlt2:q<k
     ·obtain⟨t,hxt⟩:∃ t,im.syms[q]? =some t:=⟨_,List.getElem?_eq_getElem (by omega)⟩
      obtain⟨_,g0,g1,g2,g3,g4,g5,g6,g7,g8⟩:=(Hat.out.below (HBs.out.trans (hbi.mono (by omega)))).sym9 q t hxt
      have Hsq:=Lib.hid (all_take_snoc (fun t=> !clashB s t) im.syms q t hxt)
      have Hcl:=Lib.hid (fun h=>symsFrom_clash (segs:=im.segs) (tls:=im.tlsSize) (done:=im.syms.take k) (s:=s) (l:=im.syms.drop (k+1)) (q:=q) (t:=t) (by rw [List.getElem?_take];simp [hlt2,hxt]) h)
      obtain⟨c0,c1,c2,c3,c4,c5,c6,c7,c8⟩:=sym_cells ((hbi.block zr (by omega)).trans HFs.out)
      obtain⟨i0,i1,i2,i3,i4,i5,i6,i7,i8,i9,i10,i11,i12,i13,i14⟩:=img_cells ((hbi.block w.heap.size (by omega)).trans HFi.out)
      have hsbw:=World.block_lt_of_cell? _ _ g0
      have hsw:=World.block_lt_of_cell? _ _ c0
      have hqs:q<im.syms.length:=by omega
      have Hbt:=Lib.hid (hbi.alloc hzi (.cells #[.string ⟨t.name.toArray⟩,.string ⟨t.version.toArray⟩,.bool t.old,.int .i64 t.kind,.bool t.weak,.int .i64 t.vis,.bool t.defined,.int .i64 t.value,.int .i64 t.size] 52 (0,0)))
      have cs0:=(World.cell?_alloc_lt wr (.cells #[.string ⟨t.name.toArray⟩,.string ⟨t.version.toArray⟩,.bool t.old,.int .i64 t.kind,.bool t.weak,.int .i64 t.vis,.bool t.defined,.int .i64 t.value,.int .i64 t.size] 52 (0,0)) ⟨zr,0,none⟩ hsw).trans c0
      have cs1:=(World.cell?_alloc_lt wr (.cells #[.string ⟨t.name.toArray⟩,.string ⟨t.version.toArray⟩,.bool t.old,.int .i64 t.kind,.bool t.weak,.int .i64 t.vis,.bool t.defined,.int .i64 t.value,.int .i64 t.size] 52 (0,0)) ⟨zr,1,none⟩ hsw).trans c1
      have cs2:=(World.cell?_alloc_lt wr (.cells #[.string ⟨t.name.toArray⟩,.string ⟨t.version.toArray⟩,.bool t.old,.int .i64 t.kind,.bool t.weak,.int .i64 t.vis,.bool t.defined,.int .i64 t.value,.int .i64 t.size] 52 (0,0)) ⟨zr,2,none⟩ hsw).trans c2
      have cs6:=(World.cell?_alloc_lt wr (.cells #[.string ⟨t.name.toArray⟩,.string ⟨t.version.toArray⟩,.bool t.old,.int .i64 t.kind,.bool t.weak,.int .i64 t.vis,.bool t.defined,.int .i64 t.value,.int .i64 t.size] 52 (0,0)) ⟨zr,6,none⟩ hsw).trans c6
      clear hxt hbi Hbi c0 c1 c2 c3 c4 c5 c6 c7 c8
      go_upto_region 15 with fail
      have HFt:=heap_alloc_new wr (.cells #[.string ⟨t.name.toArray⟩,.string ⟨t.version.toArray⟩,.bool t.old,.int .i64 t.kind,.bool t.weak,.int .i64 t.vis,.bool t.defined,.int .i64 t.value,.int .i64 t.size] 52 (0,0))
      generalize wr.alloc (.cells #[.string ⟨t.name.toArray⟩,.string ⟨t.version.toArray⟩,.bool t.old,.int .i64 t.kind,.bool t.weak,.int .i64 t.vis,.bool t.defined,.int .i64 t.value,.int .i64 t.size] 52 (0,0))=w5 at *
      clear g0 g1 g2 g3 g4 g5 g6 g7 g8 i0 i1 i2 i3 i4 i5 i6 i7 i8 i9 i10 i11 i12 i13 i14
      obtain⟨d0,d1,d2,d3,d4,d5,d6,d7,d8⟩:=sym_cells HFt
      clear HFt
      cases e1:s.defined with
      | false=>
       rw [e1]at cs6
       have Hm:Hid (clashB s t=false):=Lib.hid (by unfold clashB;rw [e1];rfl)
       have Hall2:Hid ((im.syms.take (q+1)).all (fun t=> !clashB s t)=true):=Lib.hid (by rw [Hsq.out,Hall.out,Hm.out];rfl)
       go_wp2
       go_roundw
       case rel=>exact⟨q+1,by go_num,by omega,Hall2.out,Hbt.out⟩
       case measure=>simp [intOf];omega
      | true=>
      rw [e1]at cs6
      cases e2:t.defined with
      | false=>
       rw [e2]at d6
       have Hm:Hid (clashB s t=false):=Lib.hid (by unfold clashB;rw [e1,e2];rfl)
       have Hall2:Hid ((im.syms.take (q+1)).all (fun t=> !clashB s t)=true):=Lib.hid (by rw [Hsq.out,Hall.out,Hm.out];rfl)
       go_wp2
       go_roundw
       case rel=>exact⟨q+1,by go_num,by omega,Hall2.out,Hbt.out⟩
       case measure=>simp [intOf];omega
      | true=>
      rw [e2]at d6
      by_cases e3:s.name=t.name
      case neg=>
       have b3:(s.name==t.name)=false:=by rw [beq_eq_false_iff_ne];exact e3
       have Hm:Hid (clashB s t=false):=Lib.hid (by unfold clashB;rw [decide_eq_false (p:=s.name=t.name) e3];simp)
       have Hall2:Hid ((im.syms.take (q+1)).all (fun t=> !clashB s t)=true):=Lib.hid (by rw [Hsq.out,Hall.out,Hm.out];rfl)
       go_wp2
       go_roundw
       case rel=>exact⟨q+1,by go_num,by omega,Hall2.out,Hbt.out⟩
       case measure=>simp [intOf];omega
      have b3:(s.name==t.name)=true:=by rw [beq_iff_eq];exact e3
      by_cases e4:s.version=t.version
      case pos=>
       have b4:(s.version==t.version)=true:=by rw [beq_iff_eq];exact e4
       have Hm:Hid (clashB s t=true):=Lib.hid (by unfold clashB;rw [e1,e2,decide_eq_true (p:=s.name=t.name) e3,decide_eq_true (p:=s.version=t.version) e4];rfl)
       have Hn:Hid (symsB im=false):=Lib.hid (by rw [Hse2.out,Hdc.out,Hcl.out Hm.out])
       go_wp2
       go_ret
       exact⟨by rw [Hn.out];rfl,HBs.out.trans (Hbt.out.mono (by omega))⟩
      have b4:(s.version==t.version)=false:=by rw [beq_eq_false_iff_ne];exact e4
      cases e5:s.old with
      | true=>
       rw [e5]at cs2
       have Hm:Hid (clashB s t=false):=Lib.hid (by unfold clashB;rw [decide_eq_false (p:=s.version=t.version) e4,e5];simp)
       have Hall2:Hid ((im.syms.take (q+1)).all (fun t=> !clashB s t)=true):=Lib.hid (by rw [Hsq.out,Hall.out,Hm.out];rfl)
       go_wp2
       go_roundw
       case rel=>exact⟨q+1,by go_num,by omega,Hall2.out,Hbt.out⟩
       case measure=>simp [intOf];omega
      | false=>
      rw [e5]at cs2
      cases e6:t.old with
      | true=>
       rw [e6]at d2
       have Hm:Hid (clashB s t=false):=Lib.hid (by unfold clashB;rw [decide_eq_false (p:=s.version=t.version) e4,e5,e6];simp)
       have Hall2:Hid ((im.syms.take (q+1)).all (fun t=> !clashB s t)=true):=Lib.hid (by rw [Hsq.out,Hall.out,Hm.out];rfl)
       go_wp2
       go_roundw
       case rel=>exact⟨q+1,by go_num,by omega,Hall2.out,Hbt.out⟩
       case measure=>simp [intOf];omega
      | false=>
       rw [e6]at d2
       have Hm:Hid (clashB s t=true):=Lib.hid (by unfold clashB;rw [e1,e2,decide_eq_true (p:=s.name=t.name) e3,e5,e6];simp)
       have Hn:Hid (symsB im=false):=Lib.hid (by rw [Hse2.out,Hdc.out,Hcl.out Hm.out])
       go_wp2
       go_ret
       exact⟨by rw [Hn.out];rfl,HBs.out.trans (Hbt.out.mono (by omega))⟩
     ·have Hall2:Hid ((im.syms.take k).all (fun t=> !clashB s t)=true):=Lib.hid (by have:=Hall.out;rwa [show q=k by omega]at this)
      have Hse3:Hid (symsB im=symsFrom im.segs im.tlsSize (im.syms.take (k+1)) (im.syms.drop (k+1))):=Lib.hid (by rw [Hse2.out,Hdc.out,symsFrom_ok Hyb.out Hall2.out,Htk.out])
      have hFi3:=(hbi.block w.heap.size (by omega)).trans HFi.out
      clear hbi
      go_wp2
      go_roundw
      case rel=>exact⟨k+1,by go_num,by omega,Hse3.out,HBs.out.trans (Hbi.out.mono (by omega)),hFi3,by omega⟩
      case measure=>simp [intOf];omega
  ·have hd:Hid (symsB im=true):=Lib.hid (by rw [Hse2.out,List.drop_eq_nil_of_le (by omega)];rfl)
   clear hbel hF
   go_wp2
   go_ret
   exact⟨by rw [hd.out];rfl,Hbel.out⟩
end Go.Proofs.Ytpomdoliblilfaa
namespace Go.Proofs.Ytpomdoliblilfaa
set_option linter.unusedVariables false
set_option linter.unusedSimpArgs false
open Go.RowKit
theorem all_bad {α:Type} (f:α→Bool) (l:List α) (k:Nat) (x:α) (hx:l[k]? =some x) (hf:f x=false):l.all f=false:=by
 rw [List.all_eq_false]
 exact⟨x,List.mem_of_getElem? hx,by simp [hf]⟩
set_option maxHeartbeats 16000000 in
set_option maxRecDepth 100000 in
theorem jhead_any (w:World) (v:ImgV) (im:ImgL) (hne:LB kNeed (·<w.heap.size) w v.needed im.needed) (hrp:LB kStr (·<w.heap.size) w v.runPath im.runPath) (hz:im.name.length≤9223372036854775807):
  Calls Try.prog 26 #[.agg (imgCells v im)] w fun e w'=>e=.returned (.bool (headB im))∧Below w.heap.size w w':=by
 have hsn:=size_mk im.name
 unfold imgCells
 obtain⟨na,nb,noff,ncap,hnv,hnm,hnc,hnat⟩:=hne.at
 obtain⟨ra,rb,roff,rcap,hrv,hrm,hrc,hrat⟩:=hrp.at
 rw [hnv,hrv]
 have B1:=Lib.hid ((Below.refl w.heap.size w).alloc (Nat.le_refl _) (.cells #[.string ⟨im.name.toArray⟩,.int .i64 im.flags,v.segs,.slice na im.needed.length ncap,.slice ra im.runPath.length rcap,v.syms,v.buckets,v.words,.int .i64 im.shift,v.relocs,v.slots,v.init,v.fini,v.tls,.int .i64 im.tlsSize] 44 (0,0)))
 have F1:=Lib.hid (heap_alloc_new w (.cells #[.string ⟨im.name.toArray⟩,.int .i64 im.flags,v.segs,.slice na im.needed.length ncap,.slice ra im.runPath.length rcap,v.syms,v.buckets,v.words,.int .i64 im.shift,v.relocs,v.slots,v.init,v.fini,v.tls,.int .i64 im.tlsSize] 44 (0,0)))
 have Hnat:=Lib.hid hnat
 have Hrat:=Lib.hid hrat
 have Hh:Hid (headB im=(head0 im&&im.needed.all needB&&im.runPath.all sizedB)):=Lib.hid rfl
 have H0:Hid (head0 im=((decide (im.name=[])||nameB im.name)&&decide (0≤im.flags)&&decide (im.flags<16)&&decide (im.needed.length≤16)&&decide (im.runPath.length≤16))):=Lib.hid rfl
 clear hne hrp hnat hrat hnv hrv
 go_enter Try.func26,Try.ntmps26
 go_upto_region 1 with fail
 go_cut [36] (fun s36 wx=>s36=.bool (!head0 im)∧Below w.heap.size w wx∧wx.heap[w.heap.size]? =some (.cells #[.string ⟨im.name.toArray⟩,.int .i64 im.flags,v.segs,.slice na im.needed.length ncap,.slice ra im.runPath.length rcap,v.syms,v.buckets,v.words,.int .i64 im.shift,v.relocs,v.slots,v.init,v.fini,v.tls,.int .i64 im.tlsSize] 44 (0,0)))
 case first=>
  cases hq:im.name.isEmpty with
  | true=>
   have Hv:=Lib.hid (List.isEmpty_iff.1 hq)
   go_wp2_with fail
   all_goals go_meet
   all_goals first
    | (refine ⟨val_bool ?_,B1.out,F1.out⟩;rw [H0.out,Bool.eq_iff_iff];simp [Hv.out];done)
    | (refine ⟨val_bool ?_,B1.out,F1.out⟩;rw [H0.out,Bool.eq_iff_iff];simp [Hv.out];omega)
  | false=>
   have Hv:Hid (decide (im.name=[])=false):=Lib.hid (by rw [decide_eq_false_iff_not];intro e;rw [e]at hq;simp at hq)
   go_wp2_with fail
   refine(jname_any _ im.name hz).mono ?_
   rintro e w2 ⟨rfl,rfl⟩
   cases hn:nameB im.name
   all_goals
    have Hn:=Lib.hid hn
    go_wp2_with fail
    all_goals go_meet
    all_goals first
     | (refine ⟨val_bool ?_,B1.out,F1.out⟩;rw [H0.out,Bool.eq_iff_iff];simp [Hv.out,Hn.out];done)
     | (refine ⟨val_bool ?_,B1.out,F1.out⟩;rw [H0.out,Bool.eq_iff_iff];simp [Hv.out,Hn.out];omega)
 case rest=>
  obtain⟨rfl,hbw,hfw⟩:=hcut
  have Bw:=Lib.hid hbw
  obtain⟨c0,c1,c2,c3,c4,c5,c6,c7,c8,c9,c10,c11,c12,c13,c14⟩:=img_cells hfw
  clear hbw hfw c0 c1 c2 c5 c6 c7 c8 c9 c10 c11 c12 c13 c14 H0 B1 F1
  generalize head0 im=h0 at *
  cases h0 with
  | false=>
   have Hr:Hid (headB im=false):=Lib.hid (by rw [Hh.out];rfl)
   go_wp2
   go_ret
   exact⟨by rw [Hr.out];rfl,Bw.out⟩
  | true=>
   go_wp2_with fail
   go_loop [3,4] (fun i _=>∃ k:Nat,i=.int .i64 k∧k≤im.needed.length∧(im.needed.take k).all needB=true) (fun i _=>im.needed.length-(intOf i).toNat)
   case atStart=>exact⟨0,rfl,Nat.zero_le _,rfl⟩
   case round=>
    obtain⟨k,rfl,hk,hall⟩:=hrel
    have Hall:=Lib.hid hall
    clear hall
    by_cases hlt:k<im.needed.length
    ·obtain rfl:=Hnat.out.addr (by omega)
     obtain⟨n,hx⟩:∃ n,im.needed[k]? =some n:=⟨_,List.getElem?_eq_getElem hlt⟩
     have hnbS:=Hnat.out.inS (by omega)
     obtain⟨c,g0w,g1w,hver,hnz⟩:=Hnat.out.need2 k n hx
     have g0:=(Bw.out.cell (p:=⟨nb,noff+k*2,none⟩) hnbS).trans g0w
     have g1:=(Bw.out.cell (p:=⟨nb,noff+k*2+1,none⟩) hnbS).trans g1w
     obtain⟨va,vb,voff,vcap,rfl,hvm,hvc,hvat⟩:=hver.at
     have Hvat:=Lib.hid hvat
     have Hsn:=Lib.hid (all_take_snoc needB im.needed k n hx)
     have Hbad:Hid (needB n=false→headB im=false):=Lib.hid (fun h=>by rw [Hh.out,all_bad needB im.needed k n hx h];simp)
     have Hnp:Hid (needB n=(sizedB n.name&&decide (n.versions.length≤16)&&n.versions.all nameB)):=Lib.hid rfl
     clear hver hvat hx g0w g1w
     go_wp2_with fail
     refine(jsized_any _ n.name).mono ?_
     rintro e w3 ⟨rfl,rfl⟩
     cases hsz:sizedB n.name with
     | false=>
      have Hr:=Lib.hid (Hbad.out (by rw [Hnp.out,hsz];rfl))
      go_wp2
      go_ret
      exact⟨by rw [Hr.out];rfl,Bw.out⟩
     | true=>
      have Hsz:=Lib.hid hsz
      by_cases hl:n.versions.length≤16
      case neg=>
       have Hr:=Lib.hid (Hbad.out (by rw [Hnp.out];simp [hl]))
       have hl2:16<n.versions.length:=by omega
       go_wp2
       go_ret
       exact⟨by rw [Hr.out];rfl,Bw.out⟩
      have hl2:¬ 16<n.versions.length:=by omega
      go_wp2_with fail
      go_loop [4] (fun j=>∃ q:Nat,j=.int .i64 q∧q≤n.versions.length∧(n.versions.take q).all nameB=true) (fun j=>n.versions.length-(intOf j).toNat)
      case atStart=>exact⟨0,rfl,Nat.zero_le _,rfl⟩
      case round=>
       obtain⟨q,rfl,hq,hall2⟩:=hrel
       have Hall2:=Lib.hid hall2
       clear hall2
       by_cases hlt2:q<n.versions.length
       ·obtain rfl:=Hvat.out.addr (by omega)
        obtain⟨y,hy⟩:∃ y,n.versions[q]? =some y:=⟨_,List.getElem?_eq_getElem hlt2⟩
        obtain⟨hv2,hyz⟩:=(Hvat.out.below Bw.out).str1 q y hy
        have Hsy:=Lib.hid (all_take_snoc nameB n.versions q y hy)
        have Hbad2:Hid (nameB y=false→headB im=false):=Lib.hid (fun h=>Hbad.out (by rw [Hnp.out,all_bad nameB n.versions q y hy h];simp))
        clear hy
        go_wp2_with fail
        refine(jname_any _ y hyz).mono ?_
        rintro e w3 ⟨rfl,rfl⟩
        cases hny:nameB y with
        | false=>
         have Hr:=Lib.hid (Hbad2.out hny)
         go_wp2
         go_ret
         exact⟨by rw [Hr.out];rfl,Bw.out⟩
        | true=>
         have Hny:=Lib.hid hny
         go_wp2
         go_round
         case rel=>exact⟨q+1,by go_num,by omega,by rw [Hsy.out,Hall2.out,Hny.out];rfl⟩
         case measure=>simp [intOf];omega
       ·have Hv:Hid (n.versions.all nameB=true):=Lib.hid (by have:=Hall2.out;rw [List.take_of_length_le (by omega)]at this;exact this)
        go_wp2
        go_round
        case rel=>
         have hfin:(im.needed.take (k+1)).all needB=true:=by rw [Hsn.out,Hall.out,Hnp.out,Hsz.out,Hv.out];simp [hl]
         exact⟨k+1,by go_num,by omega,by simpa using hfin⟩
        case measure=>simp [intOf];omega
    ·have Hna:Hid (im.needed.all needB=true):=Lib.hid (by have:=Hall.out;rw [List.take_of_length_le (by omega)]at this;exact this)
     go_wp2_with fail
     go_loop [5] (fun i=>∃ q:Nat,i=.int .i64 q∧q≤im.runPath.length∧(im.runPath.take q).all sizedB=true) (fun i=>im.runPath.length-(intOf i).toNat)
     case atStart=>exact⟨0,rfl,Nat.zero_le _,rfl⟩
     case round=>
      obtain⟨q,rfl,hq,hall2⟩:=hrel
      have Hall2:=Lib.hid hall2
      clear hall2
      by_cases hlt2:q<im.runPath.length
      ·obtain rfl:=Hrat.out.addr (by omega)
       obtain⟨y,hy⟩:∃ y,im.runPath[q]? =some y:=⟨_,List.getElem?_eq_getElem hlt2⟩
       obtain⟨hv2,hyz⟩:=(Hrat.out.below Bw.out).str1 q y hy
       have Hsy:=Lib.hid (all_take_snoc sizedB im.runPath q y hy)
       have Hbad2:Hid (sizedB y=false→headB im=false):=Lib.hid (fun h=>by rw [Hh.out,all_bad sizedB im.runPath q y hy h];simp)
       clear hy
       go_wp2_with fail
       refine(jsized_any _ y).mono ?_
       rintro e w3 ⟨rfl,rfl⟩
       cases hny:sizedB y with
       | false=>
        have Hr:=Lib.hid (Hbad2.out hny)
        go_wp2
        go_ret
        exact⟨by rw [Hr.out];rfl,Bw.out⟩
       | true=>
        have Hny:=Lib.hid hny
        go_wp2
        go_round
        case rel=>exact⟨q+1,by go_num,by omega,by rw [Hsy.out,Hall2.out,Hny.out];rfl⟩
        case measure=>simp [intOf];omega
      ·have Hr:Hid (headB im=true):=Lib.hid (by
        have h:=Hall2.out
        rw [List.take_of_length_le (by omega)]at h
        rw [Hh.out,Hna.out,h];rfl)
       go_wp2
       go_ret
       exact⟨by rw [Hr.out];rfl,Bw.out⟩
end Go.Proofs.Ytpomdoliblilfaa
