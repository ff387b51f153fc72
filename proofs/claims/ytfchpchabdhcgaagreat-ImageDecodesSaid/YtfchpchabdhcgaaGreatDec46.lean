/- Lemmas. -/
import Derived.Test.YtfchpchabdhcgaaGreatDec29
import Derived.Test.YtfchpchabdhcgaaGreatDec4
import Derived.Test.YtfchpchabdhcgaaGreatDec12
import Derived.Test.YtfchpchabdhcgaaGreatDec6
import Derived.Test.YtfchpchabdhcgaaGreatDec11
import Derived.Test.YtfchpchabdhcgaaGreatDec9
import Derived.Test.YtfchpchabdhcgaaGreatDec20
import Derived.Test.YtfchpchabdhcgaaGreatDec27
import Derived.Test.YtfchpchabdhcgaaGreatDec31
import Derived.Test.YtfchpchabdhcgaaGreatRows
import Derived.ProofKit
import Derived.OpenShut
import Derived.Carry
import Derived.Deep.Matrix
import Derived.Deep.Slices
import Derived.Deep.DeepCutAuto
import Derived.Deep.QuietTactic
import Derived.BigQuiet
import Derived.IntWalk
set_option linter.unusedVariables false
set_option linter.unusedSimpArgs false
set_option maxHeartbeats 64000000
set_option maxRecDepth 100000
namespace Go.Proofs.YtfchpchabdhcgaaGreat
open Go.RowKit
theorem jsright_any (w:World) (s:SymL) (hs:SymOk s):
  Calls Tryz.prog 92 #[.agg #[.string ⟨s.name.toArray⟩,.string ⟨s.version.toArray⟩,.bool s.old,.int .i64 s.kind,.bool s.weak,.int .i64 s.vis,.bool s.defined,.int .i64 s.value,.int .i64 s.size]] w fun e w'=>e=.returned (.bool (symRightB s))∧Below w.heap.size w w':=by
 have hz1:=hs.name
 have hz2:=hs.version
 have hsz1:=size_mk s.name
 have hsz2:=size_mk s.version
 have B1:=Lib.hid ((Below.refl w.heap.size w).alloc (Nat.le_refl _) (.cells #[.string ⟨s.name.toArray⟩,.string ⟨s.version.toArray⟩,.bool s.old,.int .i64 s.kind,.bool s.weak,.int .i64 s.vis,.bool s.defined,.int .i64 s.value,.int .i64 s.size] 72 (0,0)))
 have F1:=Lib.hid (heap_alloc_new w (.cells #[.string ⟨s.name.toArray⟩,.string ⟨s.version.toArray⟩,.bool s.old,.int .i64 s.kind,.bool s.weak,.int .i64 s.vis,.bool s.defined,.int .i64 s.value,.int .i64 s.size] 72 (0,0)))
 have Hx:Hid (∀ b:Bool,symRightB s=b→Ending.returned (.bool b)=.returned (.bool (symRightB s))):=Lib.hid (fun b h=>by rw [h])
 go_enter Tryz.func92,Tryz.ntmps92
 go_wp2_with fail
 generalize w.alloc (.cells #[.string ⟨s.name.toArray⟩,.string ⟨s.version.toArray⟩,.bool s.old,.int .i64 s.kind,.bool s.weak,.int .i64 s.vis,.bool s.defined,.int .i64 s.value,.int .i64 s.size] 72 (0,0))=w1 at *
 obtain⟨c0,c1,c2,c3,c4,c5,c6,c7,c8⟩:=sym_cells F1.out
 refine(jname_any _ s.name hz1).mono ?_
 rintro e w2 ⟨rfl,rfl⟩
 cases hn:nameB s.name with
 | false=>
  go_wp2
  go_ret
  exact⟨Hx.out _ (by simp [symRightB,hn]),B1.out⟩
 | true=>
  have Hn:=Lib.hid hn
  cases hq:s.version.isEmpty with
  | true=>
   have Hv:=Lib.hid (List.isEmpty_iff.1 hq)
   cases hd:s.defined
   all_goals
    have Hd:=Lib.hid hd
    rw [hd]at c6
    cases ho:s.old
    all_goals
     have Ho2:=Lib.hid ho
     rw [ho]at c2
     clear ho
     go_wp2
     all_goals go_ret
     all_goals (try simp only [beq_eq_false_iff_ne,bne_eq_false_iff_eq,bne_iff_ne,beq_iff_eq,ne_eq]at *)
     all_goals first
      | (refine ⟨Hx.out _ ?_,B1.out⟩;simp [symRightB,Hn.out,Hv.out,Hd.out,Ho2.out];done)
      | (refine ⟨Hx.out _ ?_,B1.out⟩;simp [symRightB,Hn.out,Hv.out,Hd.out,Ho2.out];intros;omega)
      | (refine ⟨Hx.out _ ?_,B1.out⟩;rw [Bool.eq_iff_iff];simp [symRightB,Hn.out,Hv.out,Hd.out,Ho2.out];omega)
  | false=>
   have Hv:Hid (decide (s.version=[])=false):=Lib.hid (by rw [decide_eq_false_iff_not];intro e;rw [e]at hq;simp at hq)
   go_wp2_with fail
   refine(jname_any _ s.version hz2).mono ?_
   rintro e w3 ⟨rfl,rfl⟩
   cases hv2:nameB s.version with
   | false=>
    go_wp2
    go_ret
    exact⟨Hx.out _ (by simp [symRightB,Hv.out,hv2]),B1.out⟩
   | true=>
    have Hv2:=Lib.hid hv2
    cases hd:s.defined
    all_goals
     have Hd:=Lib.hid hd
     rw [hd]at c6
     cases ho:s.old
     all_goals
      have Ho2:=Lib.hid ho
      rw [ho]at c2
      clear ho
      go_wp2
      all_goals go_ret
      all_goals (try simp only [beq_eq_false_iff_ne,bne_eq_false_iff_eq,bne_iff_ne,beq_iff_eq,ne_eq]at *)
      all_goals first
       | (refine ⟨Hx.out _ ?_,B1.out⟩;simp [symRightB,Hn.out,Hv.out,Hv2.out,Hd.out,Ho2.out];done)
       | (refine ⟨Hx.out _ ?_,B1.out⟩;simp [symRightB,Hn.out,Hv.out,Hv2.out,Hd.out,Ho2.out];intros;omega)
       | (refine ⟨Hx.out _ ?_,B1.out⟩;rw [Bool.eq_iff_iff];simp [symRightB,Hn.out,Hv.out,Hv2.out,Hd.out,Ho2.out];omega)
end Go.Proofs.YtfchpchabdhcgaaGreat
namespace Go.Proofs.YtfchpchabdhcgaaGreat
open Go.RowKit
theorem jsyms_any (w:World) (v:ImgV) (im:ImgL) (hs:LB kSeg (·<w.heap.size) w v.segs im.segs) (hok:∀ s∈im.segs,SegOk s) (hy:LB kSym (·<w.heap.size) w v.syms im.syms) (ht:0≤im.tlsSize∧im.tlsSize≤4096):
  Calls Tryz.prog 54 #[.agg (imgCells v im)] w fun e w'=>e=.returned (.bool (symsB im))∧Below w.heap.size w w':=by
 obtain⟨sa,sb,soff,scap,hsv,hsm,hsc,hat⟩:=hy.at
 obtain⟨vsegs,vneeded,vrunPath,vsyms,vbuckets,vwords,vrelocs,vslots,vinit,vfini,vtls⟩:=v
 simp only at hsv
 subst hsv
 have HH:Hid (∀ (w':World) (x n:Int),Below w.heap.size w w'→(-9223372036854775808≤x∧x≤9223372036854775807)→(0≤n∧n≤9223372036854775807)→
  Calls Tryz.prog 93 #[.agg (imgCells ⟨vsegs,vneeded,vrunPath,.slice sa im.syms.length scap,vbuckets,vwords,vrelocs,vslots,vinit,vfini,vtls⟩ im),.int .i64 x,.int .i64 n,.int .i64 0] w' fun e w''=>e=.returned (.bool (holdsB im.segs x n 0))∧Below w'.heap.size w' w''):=Lib.hid (fun w' x n hb hx hn=>jstands_any w' _ im x n 0 ((hs.below hb).mono hb.size) hok hx hn (by decide))
 unfold imgCells at *
 have Hat:=Lib.hid hat
 have HD:Hid (symsB im=(decide (im.syms.length≤512)&&symsFrom im.segs im.tlsSize [] im.syms)):=Lib.hid rfl
 clear hs hok hat hy
 generalize hI:(Array.mk [.string ⟨im.name.toArray⟩,.int .i64 im.flags,vsegs,vneeded,vrunPath,.slice sa im.syms.length scap,vbuckets,vwords,.int .i64 im.shift,vrelocs,vslots,vinit,vfini,vtls,.int .i64 im.tlsSize]:Array Value)=I at HH
 have F0:=Lib.hid (heap_alloc_new w (.cells I 40 (0,0)))
 have B1:=Lib.hid ((Below.refl w.heap.size w).alloc (Nat.le_refl _) (.cells I 40 (0,0)))
 subst hI
 by_cases h5:im.syms.length≤512
 case neg=>
  have Hn:Hid (symsB im=false):=Lib.hid (by rw [HD.out,decide_eq_false (p:=im.syms.length≤512) h5];rfl)
  have h6:512<im.syms.length:=by omega
  go_enter Tryz.func54,Tryz.ntmps54
  go_wp2
  go_ret
  exact⟨by rw [Hn.out];rfl,B1.out⟩
 have h6:¬ 512<im.syms.length:=by omega
 have Hse:Hid (symsB im=symsFrom im.segs im.tlsSize [] im.syms):=Lib.hid (by rw [HD.out,decide_eq_true (p:=im.syms.length≤512) h5];rfl)
 clear HD
 go_enter Tryz.func54,Tryz.ntmps54
 go_wp2_with fail
 go_loopw [3] (fun i wr=>∃ (k:Nat),i=.int .i64 k∧k≤im.syms.length∧symsB im=symsFrom im.segs im.tlsSize (im.syms.take k) (im.syms.drop k)∧Below w.heap.size w wr∧
  wr.heap[w.heap.size]? =some (.cells #[.string ⟨im.name.toArray⟩,.int .i64 im.flags,vsegs,vneeded,vrunPath,.slice sa im.syms.length scap,vbuckets,vwords,.int .i64 im.shift,vrelocs,vslots,vinit,vfini,vtls,.int .i64 im.tlsSize] 40 (0,0))∧w.heap.size<wr.heap.size) (fun i _=>im.syms.length-(intOf i).toNat)
 case atStart=>exact⟨0,rfl,Nat.zero_le _,by rw [Hse.out];simp,B1.out,F0.out,by simp⟩
 case round=>
  obtain⟨k,rfl,hk,hse,hbel,hF,hzq⟩:=hrel
  have Hse2:=Lib.hid hse
  have Hbel:=Lib.hid hbel
  have HF:=Lib.hid hF
  have hBr:=hbel.size
  clear hse Hse
  obtain⟨i0,i1,i2,i3,i4,i5,i6,i7,i8,i9,i10,i11,i12,i13,i14⟩:=img_cells hF
  by_cases hlt:k<im.syms.length
  ·obtain rfl:=Hat.out.addr (by omega)
   obtain⟨s,hx⟩:∃ s,im.syms[k]? =some s:=⟨_,List.getElem?_eq_getElem hlt⟩
   obtain⟨hso,g0,g1,g2,g3,g4,g5,g6,g7,g8⟩:=(Hat.out.below hbel).sym9 k s hx
   have Hdc:=Lib.hid (drop_cons im.syms k s hx)
   have Htk:=Lib.hid (take_snoc im.syms k s hx)
   have Hso:=Lib.hid hso
   have hsb:=World.block_lt_of_cell? _ _ g0
   have HRt:=Lib.hid (fun w=>jsright_any w s hso)
   have HBs:=Lib.hid (Hbel.out.alloc hBr (.cells #[.string ⟨s.name.toArray⟩,.string ⟨s.version.toArray⟩,.bool s.old,.int .i64 s.kind,.bool s.weak,.int .i64 s.vis,.bool s.defined,.int .i64 s.value,.int .i64 s.size] 72 (0,0)))
   have HFs:=Lib.hid (heap_alloc_new wr (.cells #[.string ⟨s.name.toArray⟩,.string ⟨s.version.toArray⟩,.bool s.old,.int .i64 s.kind,.bool s.weak,.int .i64 s.vis,.bool s.defined,.int .i64 s.value,.int .i64 s.size] 72 (0,0)))
   have HFi:=Lib.hid ((heap_alloc_old wr (.cells #[.string ⟨s.name.toArray⟩,.string ⟨s.version.toArray⟩,.bool s.old,.int .i64 s.kind,.bool s.weak,.int .i64 s.vis,.bool s.defined,.int .i64 s.value,.int .i64 s.size] 72 (0,0)) hzq).trans hF)
   clear hx hso hbel hF HF Hbel
   go_upto_region 7 with fail
   have hz1:(wr.alloc (.cells #[.string ⟨s.name.toArray⟩,.string ⟨s.version.toArray⟩,.bool s.old,.int .i64 s.kind,.bool s.weak,.int .i64 s.vis,.bool s.defined,.int .i64 s.value,.int .i64 s.size] 72 (0,0))).heap.size=wr.heap.size+1:=by simp
   generalize wr.alloc (.cells #[.string ⟨s.name.toArray⟩,.string ⟨s.version.toArray⟩,.bool s.old,.int .i64 s.kind,.bool s.weak,.int .i64 s.vis,.bool s.defined,.int .i64 s.value,.int .i64 s.size] 72 (0,0))=w1 at *
   clear g0 g1 g2 g3 g4 g5 g6 g7 g8 i0 i1 i2 i3 i4 i5 i6 i7 i8 i9 i10 i11 i12 i13 i14
   obtain⟨c0,c1,c2,c3,c4,c5,c6,c7,c8⟩:=sym_cells HFs.out
   go_wp2_with fail
   refine(HRt.out w1).mono ?_
   rintro e w2 ⟨rfl,hb2⟩
   have hz2:=hb2.size
   have HFs2:=Lib.hid ((hb2.block wr.heap.size (by omega)).trans HFs.out)
   have HFi2:=Lib.hid ((hb2.block w.heap.size (by omega)).trans HFi.out)
   have HBs2:=Lib.hid (HBs.out.trans (hb2.mono (by omega)))
   have Hb2:=Lib.hid hb2
   clear hb2 c0 c1 c2 c3 c4 c5 c6 c7 c8 HRt
   cases hrt:symRightB s with
   | false=>
    have Hn:Hid (symsB im=false):=Lib.hid (by rw [Hse2.out,Hdc.out,symsFrom_bad (symB_right hrt)])
    clear hrt
    go_wp2
    go_ret
    exact⟨by rw [Hn.out];rfl,HBs2.out⟩
   | true=>
   have hnum:=right_nums hrt
   have Hrt:=Lib.hid hrt
   clear hrt
   obtain⟨c0,c1,c2,c3,c4,c5,c6,c7,c8⟩:=sym_cells HFs2.out
   obtain⟨i0,i1,i2,i3,i4,i5,i6,i7,i8,i9,i10,i11,i12,i13,i14⟩:=img_cells HFi2.out
   go_upto_region 9 with fail
   go_cut [67] (fun s67 wx=>s67=.bool (!symB im.segs im.tlsSize s)∧Below w1.heap.size w1 wx)
   case first=>
    cases hd:s.defined with
    | false=>
     rw [hd]at c6
     have Hy:=Lib.hid (symB_free (segs:=im.segs) (tls:=im.tlsSize) Hrt.out hd)
     clear hd
     go_wp2_with fail
     go_meet
     exact⟨by rw [Hy.out];rfl,Hb2.out⟩
    | true=>
     rw [hd]at c6
     have Hdd:=Lib.hid hd
     clear hd
     have hso1:=Hso.out.value
     have hso2:=Hso.out.size
     by_cases hk3:s.kind=3
     ·have Hy:=Lib.hid (symB_tls (segs:=im.segs) (tls:=im.tlsSize) Hrt.out Hdd.out hk3)
      have hbk:(s.kind==3)=true:=by rw [beq_iff_eq];exact hk3
      have hbn:(s.kind != 3)=false:=by rw [bne_eq_false_iff_eq];exact hk3
      clear hk3 i0 i1 i2 i3 i4 i5 i6 i7 i8 i9 i10 i11
      by_cases hA:s.value≤im.tlsSize
      ·have hA2:decide (im.tlsSize<s.value)=false:=by rw [decide_eq_false_iff_not];omega
       by_cases hB:s.size≤im.tlsSize-s.value
       ·have Hy2:Hid (symB im.segs im.tlsSize s=true):=Lib.hid (by rw [Hy.out,Bool.and_eq_true,decide_eq_true_eq,decide_eq_true_eq];omega)
        have hB2:decide (im.tlsSize-s.value<s.size)=false:=by rw [decide_eq_false_iff_not];omega
        go_wp2_with fail
        go_meet
        exact⟨by rw [Hy2.out];rfl,Hb2.out⟩
       ·have Hy2:Hid (symB im.segs im.tlsSize s=false):=Lib.hid (by rw [Hy.out,Bool.and_eq_false_iff,decide_eq_false_iff_not,decide_eq_false_iff_not];omega)
        have hB2:decide (im.tlsSize-s.value<s.size)=true:=by rw [decide_eq_true_eq];omega
        go_wp2_with fail
        go_meet
        exact⟨by rw [Hy2.out];rfl,Hb2.out⟩
      ·have hA2:decide (im.tlsSize<s.value)=true:=by rw [decide_eq_true_eq];omega
       have Hy2:Hid (symB im.segs im.tlsSize s=false):=Lib.hid (by rw [Hy.out,Bool.and_eq_false_iff,decide_eq_false_iff_not,decide_eq_false_iff_not];omega)
       go_wp2_with fail
       go_meet
       exact⟨by rw [Hy2.out];rfl,Hb2.out⟩
     ·have Hy:=Lib.hid (symB_holds (segs:=im.segs) (tls:=im.tlsSize) Hrt.out Hdd.out hk3)
      have hbk:(s.kind==3)=false:=by rw [beq_eq_false_iff_ne];exact hk3
      have hbn:(s.kind != 3)=true:=by rw [bne_iff_ne];exact hk3
      have HHx:=Lib.hid (HH.out w2 s.value s.size (HBs2.out) Hso.out.value ⟨hnum.2,Hso.out.size.2⟩)
      go_wp2_with fail
      refine HHx.out.mono ?_
      rintro e w3 ⟨rfl,hb3⟩
      have Hb3:=Lib.hid hb3
      clear hb3 i0 i1 i2 i3 i4 i5 i6 i7 i8 i9 i10 i11 i12 i13 i14 HHx
      cases hh:holdsB im.segs s.value s.size 0 with
      | true=>
       have Hy2:Hid (symB im.segs im.tlsSize s=true):=Lib.hid (by rw [Hy.out,hh])
       clear hh
       go_wp2_with fail
       go_meet
       exact⟨by rw [Hy2.out];rfl,Hb2.out.trans (Hb3.out.mono (by omega))⟩
      | false=>
       have Hy2:Hid (symB im.segs im.tlsSize s=false):=Lib.hid (by rw [Hy.out,hh])
       clear hh
       go_wp2_with fail
       go_meet
       exact⟨by rw [Hy2.out];rfl,Hb2.out.trans (Hb3.out.mono (by omega))⟩
   case rest=>
    obtain⟨rfl,hbc⟩:=hcut
    have hzc:=hbc.size
    have hFic:=(hbc.block w.heap.size (by omega)).trans HFi.out
    clear i0 i1 i2 i3 i4 i5 i6 i7 i8 i9 i10 i11 i12 i13 i14 c0 c1 c2 c3 c4 c5 c6 c7 c8
    have Hbc:=Lib.hid hbc
    have HBc:=Lib.hid (HBs.out.trans (hbc.mono (by omega)))
    have HFic:=Lib.hid hFic
    clear hbc hFic
    cases hyb:symB im.segs im.tlsSize s with
    | false=>
     have Hn:Hid (symsB im=false):=Lib.hid (by rw [Hse2.out,Hdc.out,symsFrom_bad hyb])
     clear hyb
     go_wp2
     go_ret
     exact⟨by rw [Hn.out];rfl,HBc.out⟩
    | true=>
    have Hyb:=Lib.hid hyb
    clear hyb
    generalize wr.heap.size=zr at *
    go_wp2_with fail
    go_loopw [5] (fun i wi=>∃ (q:Nat),i=.int .i64 q∧q≤k∧(im.syms.take q).all (fun t=> !clashB s t)=true∧Below w1.heap.size w1 wi) (fun i _=>k-(intOf i).toNat)
    case atStart=>exact⟨0,rfl,Nat.zero_le _,rfl,Hbc.out⟩
    case round=>
     obtain⟨q,rfl,hq,hall,hbi⟩:=hrel
     have Hall:=Lib.hid hall
     have Hbi:=Lib.hid hbi
     have hzi:=hbi.size
     clear hall
     by_cases hlt2:q<k
     ·obtain⟨t,hxt⟩:∃ t,im.syms[q]? =some t:=⟨_,List.getElem?_eq_getElem (by omega)⟩
      obtain⟨_,g0,g1,g2,g3,g4,g5,g6,g7,g8⟩:=(Hat.out.below (HBs.out.trans (hbi.mono (by omega)))).sym9 q t hxt
      have Hsq:=Lib.hid (all_take_snoc (fun t=> !clashB s t) im.syms q t hxt)
      have Hcl:=Lib.hid (fun h=>symsFrom_clash (segs:=im.segs) (tls:=im.tlsSize) (done:=im.syms.take k) (s:=s) (l:=im.syms.drop (k+1)) (q:=q) (t:=t) (by rw [List.getElem?_take];simp [hlt2,hxt]) h)
      obtain⟨c0,c1,c2,c3,c4,c5,c6,c7,c8⟩:=sym_cells ((hbi.block zr (by omega)).trans HFs.out)
      obtain⟨i0,i1,i2,i3,i4,i5,i6,i7,i8,i9,i10,i11,i12,i13,i14⟩:=img_cells ((hbi.block w.heap.size (by omega)).trans HFi.out)
      have hsbw:=World.block_lt_of_cell? _ _ g0
      have hsw:=World.block_lt_of_cell? _ _ c0
      have hqs:q<im.syms.length:=by omega
      have Hbt:=Lib.hid (hbi.alloc hzi (.cells #[.string ⟨t.name.toArray⟩,.string ⟨t.version.toArray⟩,.bool t.old,.int .i64 t.kind,.bool t.weak,.int .i64 t.vis,.bool t.defined,.int .i64 t.value,.int .i64 t.size] 72 (0,0)))
      have cs0:=(World.cell?_alloc_lt wr (.cells #[.string ⟨t.name.toArray⟩,.string ⟨t.version.toArray⟩,.bool t.old,.int .i64 t.kind,.bool t.weak,.int .i64 t.vis,.bool t.defined,.int .i64 t.value,.int .i64 t.size] 72 (0,0)) ⟨zr,0,none⟩ hsw).trans c0
      have cs1:=(World.cell?_alloc_lt wr (.cells #[.string ⟨t.name.toArray⟩,.string ⟨t.version.toArray⟩,.bool t.old,.int .i64 t.kind,.bool t.weak,.int .i64 t.vis,.bool t.defined,.int .i64 t.value,.int .i64 t.size] 72 (0,0)) ⟨zr,1,none⟩ hsw).trans c1
      have cs2:=(World.cell?_alloc_lt wr (.cells #[.string ⟨t.name.toArray⟩,.string ⟨t.version.toArray⟩,.bool t.old,.int .i64 t.kind,.bool t.weak,.int .i64 t.vis,.bool t.defined,.int .i64 t.value,.int .i64 t.size] 72 (0,0)) ⟨zr,2,none⟩ hsw).trans c2
      have cs6:=(World.cell?_alloc_lt wr (.cells #[.string ⟨t.name.toArray⟩,.string ⟨t.version.toArray⟩,.bool t.old,.int .i64 t.kind,.bool t.weak,.int .i64 t.vis,.bool t.defined,.int .i64 t.value,.int .i64 t.size] 72 (0,0)) ⟨zr,6,none⟩ hsw).trans c6
      clear hxt hbi Hbi c0 c1 c2 c3 c4 c5 c6 c7 c8
      go_upto_region 15 with fail
      have HFt:=heap_alloc_new wr (.cells #[.string ⟨t.name.toArray⟩,.string ⟨t.version.toArray⟩,.bool t.old,.int .i64 t.kind,.bool t.weak,.int .i64 t.vis,.bool t.defined,.int .i64 t.value,.int .i64 t.size] 72 (0,0))
      generalize wr.alloc (.cells #[.string ⟨t.name.toArray⟩,.string ⟨t.version.toArray⟩,.bool t.old,.int .i64 t.kind,.bool t.weak,.int .i64 t.vis,.bool t.defined,.int .i64 t.value,.int .i64 t.size] 72 (0,0))=w5 at *
      clear g0 g1 g2 g3 g4 g5 g6 g7 g8 i0 i1 i2 i3 i4 i5 i6 i7 i8 i9 i10 i11 i12 i13 i14
      obtain⟨d0,d1,d2,d3,d4,d5,d6,d7,d8⟩:=sym_cells HFt
      clear HFt
      cases e1:s.defined with
      | false=>
       rw [e1]at cs6
       have Hm:Hid (clashB s t=false):=Lib.hid (by unfold clashB;rw [e1];rfl)
       have Hall2:Hid ((im.syms.take (q+1)).all (fun t=> !clashB s t)=true):=Lib.hid (by rw [Hsq.out,Hall.out,Hm.out];rfl)
       go_wp2
       go_roundw
       case rel=>exact⟨q+1,by go_num,by omega,Hall2.out,Hbt.out⟩
       case measure=>simp [intOf];omega
      | true=>
      rw [e1]at cs6
      cases e2:t.defined with
      | false=>
       rw [e2]at d6
       have Hm:Hid (clashB s t=false):=Lib.hid (by unfold clashB;rw [e1,e2];rfl)
       have Hall2:Hid ((im.syms.take (q+1)).all (fun t=> !clashB s t)=true):=Lib.hid (by rw [Hsq.out,Hall.out,Hm.out];rfl)
       go_wp2
       go_roundw
       case rel=>exact⟨q+1,by go_num,by omega,Hall2.out,Hbt.out⟩
       case measure=>simp [intOf];omega
      | true=>
      rw [e2]at d6
      by_cases e3:s.name=t.name
      case neg=>
       have b3:(s.name==t.name)=false:=by rw [beq_eq_false_iff_ne];exact e3
       have Hm:Hid (clashB s t=false):=Lib.hid (by unfold clashB;rw [decide_eq_false (p:=s.name=t.name) e3];simp)
       have Hall2:Hid ((im.syms.take (q+1)).all (fun t=> !clashB s t)=true):=Lib.hid (by rw [Hsq.out,Hall.out,Hm.out];rfl)
       go_wp2
       go_roundw
       case rel=>exact⟨q+1,by go_num,by omega,Hall2.out,Hbt.out⟩
       case measure=>simp [intOf];omega
      have b3:(s.name==t.name)=true:=by rw [beq_iff_eq];exact e3
      by_cases e4:s.version=t.version
      case pos=>
       have b4:(s.version==t.version)=true:=by rw [beq_iff_eq];exact e4
       have Hm:Hid (clashB s t=true):=Lib.hid (by unfold clashB;rw [e1,e2,decide_eq_true (p:=s.name=t.name) e3,decide_eq_true (p:=s.version=t.version) e4];rfl)
       have Hn:Hid (symsB im=false):=Lib.hid (by rw [Hse2.out,Hdc.out,Hcl.out Hm.out])
       go_wp2
       go_ret
       exact⟨by rw [Hn.out];rfl,HBs.out.trans (Hbt.out.mono (by omega))⟩
      have b4:(s.version==t.version)=false:=by rw [beq_eq_false_iff_ne];exact e4
      cases e5:s.old with
      | true=>
       rw [e5]at cs2
       have Hm:Hid (clashB s t=false):=Lib.hid (by unfold clashB;rw [decide_eq_false (p:=s.version=t.version) e4,e5];simp)
       have Hall2:Hid ((im.syms.take (q+1)).all (fun t=> !clashB s t)=true):=Lib.hid (by rw [Hsq.out,Hall.out,Hm.out];rfl)
       go_wp2
       go_roundw
       case rel=>exact⟨q+1,by go_num,by omega,Hall2.out,Hbt.out⟩
       case measure=>simp [intOf];omega
      | false=>
      rw [e5]at cs2
      cases e6:t.old with
      | true=>
       rw [e6]at d2
       have Hm:Hid (clashB s t=false):=Lib.hid (by unfold clashB;rw [decide_eq_false (p:=s.version=t.version) e4,e5,e6];simp)
       have Hall2:Hid ((im.syms.take (q+1)).all (fun t=> !clashB s t)=true):=Lib.hid (by rw [Hsq.out,Hall.out,Hm.out];rfl)
       go_wp2
       go_roundw
       case rel=>exact⟨q+1,by go_num,by omega,Hall2.out,Hbt.out⟩
       case measure=>simp [intOf];omega
      | false=>
       rw [e6]at d2
       have Hm:Hid (clashB s t=true):=Lib.hid (by unfold clashB;rw [e1,e2,decide_eq_true (p:=s.name=t.name) e3,e5,e6];simp)
       have Hn:Hid (symsB im=false):=Lib.hid (by rw [Hse2.out,Hdc.out,Hcl.out Hm.out])
       go_wp2
       go_ret
       exact⟨by rw [Hn.out];rfl,HBs.out.trans (Hbt.out.mono (by omega))⟩
     ·have Hall2:Hid ((im.syms.take k).all (fun t=> !clashB s t)=true):=Lib.hid (by have:=Hall.out;rwa [show q=k by omega]at this)
      have Hse3:Hid (symsB im=symsFrom im.segs im.tlsSize (im.syms.take (k+1)) (im.syms.drop (k+1))):=Lib.hid (by rw [Hse2.out,Hdc.out,symsFrom_ok Hyb.out Hall2.out,Htk.out])
      have hFi3:=(hbi.block w.heap.size (by omega)).trans HFi.out
      clear hbi
      go_wp2
      go_roundw
      case rel=>exact⟨k+1,by go_num,by omega,Hse3.out,HBs.out.trans (Hbi.out.mono (by omega)),hFi3,by omega⟩
      case measure=>simp [intOf];omega
  ·have hd:Hid (symsB im=true):=Lib.hid (by rw [Hse2.out,List.drop_eq_nil_of_le (by omega)];rfl)
   clear hbel hF
   go_wp2
   go_ret
   exact⟨by rw [hd.out];rfl,Hbel.out⟩
end Go.Proofs.YtfchpchabdhcgaaGreat
