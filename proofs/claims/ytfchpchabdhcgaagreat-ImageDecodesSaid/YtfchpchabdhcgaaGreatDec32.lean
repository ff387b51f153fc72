/- Lemmas. -/
import Derived.Test.YtfchpchabdhcgaaGreatDec45
import Derived.Test.YtfchpchabdhcgaaGreatDec46
import Derived.Test.YtfchpchabdhcgaaGreatDec47
import Derived.Test.YtfchpchabdhcgaaGreatDec48
import Derived.Test.YtfchpchabdhcgaaGreatDec29
import Derived.Test.YtfchpchabdhcgaaGreatDec4
import Derived.Test.YtfchpchabdhcgaaGreatDec12
import Derived.Test.YtfchpchabdhcgaaGreatDec6
import Derived.Test.YtfchpchabdhcgaaGreatDec11
import Derived.Test.YtfchpchabdhcgaaGreatDec9
import Derived.Test.YtfchpchabdhcgaaGreatDec20
import Derived.Test.YtfchpchabdhcgaaGreatDec27
import Derived.Test.YtfchpchabdhcgaaGreatDec31
import Derived.Test.YtfchpchabdhcgaaGreatRows
import Derived.ProofKit
import Derived.OpenShut
import Derived.Carry
import Derived.Deep.Matrix
import Derived.Deep.Slices
import Derived.Deep.DeepCutAuto
import Derived.Deep.QuietTactic
import Derived.BigQuiet
import Derived.IntWalk
set_option linter.unusedVariables false
set_option linter.unusedSimpArgs false
set_option maxHeartbeats 64000000
set_option maxRecDepth 100000
namespace Go.Proofs.YtfchpchabdhcgaaGreat
open Go.RowKit
theorem jmay_any (w:World) (v:ImgV) (im:ImgL) (hm:ImgM (·<w.heap.size) w v im) (hbl:∀ c∈im.buckets,c.length≤140737488355328):
  Calls Tryz.prog 23 #[.agg (imgCells v im)] w fun e w'=>e=.returned (.int .i64 (mayL im))∧Below w.heap.size w w':=by
 obtain⟨la,lcap,hlv⟩:=hm.tls.form
 have hlm:=hm.tls.max
 obtain⟨vsegs,vneeded,vrunPath,vsyms,vbuckets,vwords,vrelocs,vslots,vinit,vfini,vtls⟩:=v
 simp only at hlv
 subst hlv
 have HM:Hid (∀ w',Below w.heap.size w w'→ImgM (·<w'.heap.size) w' ⟨vsegs,vneeded,vrunPath,vsyms,vbuckets,vwords,vrelocs,vslots,vinit,vfini,.slice la im.tls.length lcap⟩ im):=Lib.hid (fun w' hb=>hm.later hb)
 clear hm
 have HBL:=Lib.hid hbl
 clear hbl
 generalize hI:(Array.mk [.string ⟨im.name.toArray⟩,.int .i64 im.flags,vsegs,vneeded,vrunPath,vsyms,vbuckets,vwords,.int .i64 im.shift,vrelocs,vslots,vinit,vfini,.slice la im.tls.length lcap,.int .i64 im.tlsSize]:Array Value)=I
 have F0:=Lib.hid (heap_alloc_new w (.cells I 40 (0,0)))
 have B0:=Lib.hid ((Below.refl w.heap.size w).alloc (Nat.le_refl _) (.cells I 40 (0,0)))
 have hz0:(w.alloc (.cells I 40 (0,0))).heap.size=w.heap.size+1:=by simp
 subst hI
 have hcells:imgCells ⟨vsegs,vneeded,vrunPath,vsyms,vbuckets,vwords,vrelocs,vslots,vinit,vfini,.slice la im.tls.length lcap⟩ im=#[.string ⟨im.name.toArray⟩,.int .i64 im.flags,vsegs,vneeded,vrunPath,vsyms,vbuckets,vwords,.int .i64 im.shift,vrelocs,vslots,vinit,vfini,.slice la im.tls.length lcap,.int .i64 im.tlsSize]:=rfl
 rw [hcells]
 clear hcells
 go_enter Tryz.func23,Tryz.ntmps23
 go_wp2_with fail
 generalize w.alloc (.cells #[.string ⟨im.name.toArray⟩,.int .i64 im.flags,vsegs,vneeded,vrunPath,vsyms,vbuckets,vwords,.int .i64 im.shift,vrelocs,vslots,vinit,vfini,.slice la im.tls.length lcap,.int .i64 im.tlsSize] 40 (0,0))=w0 at *
 have C1:=Lib.hid (jhead_any w0 _ im (HM.out w0 B0.out).needed (HM.out w0 B0.out).runPath (HM.out w0 B0.out).name)
 unfold imgCells at C1
 obtain⟨i0,i1,i2,i3,i4,i5,i6,i7,i8,i9,i10,i11,i12,i13,i14⟩:=img_cells F0.out
 go_wp2_with fail
 refine C1.out.mono ?_
 rintro e w1 ⟨rfl,hb1⟩
 have hz1:=hb1.size
 have F1:=Lib.hid ((hb1.block w.heap.size (by omega)).trans F0.out)
 have B1:=Lib.hid (B0.out.trans (hb1.mono (by omega)))
 clear hb1 C1 i0 i1 i2 i3 i4 i5 i6 i7 i8 i9 i10 i11 i12 i13 i14
 cases hb:headB im with
 | false=>
  have Hr:=Lib.hid (may_head hb)
  clear hb
  go_wp2
  go_ret
  exact⟨by rw [Hr.out];rfl,B1.out⟩
 | true=>
 have H1:=Lib.hid hb
 clear hb
 have C2:=Lib.hid (jsegs_any w1 _ im (HM.out w1 B1.out).segs (fun s hs=>⟨((HM.out w1 B1.out).segsR s hs).1.1,((HM.out w1 B1.out).segsR s hs).2.1.2⟩))
 unfold imgCells at C2
 obtain⟨i0,i1,i2,i3,i4,i5,i6,i7,i8,i9,i10,i11,i12,i13,i14⟩:=img_cells F1.out
 go_wp2_with fail
 refine C2.out.mono ?_
 rintro e w2 ⟨rfl,hb2⟩
 have hz2:=hb2.size
 have F2:=Lib.hid ((hb2.block w.heap.size (by omega)).trans F1.out)
 have B2:=Lib.hid (B1.out.trans (hb2.mono (by omega)))
 clear hb2 C2 i0 i1 i2 i3 i4 i5 i6 i7 i8 i9 i10 i11 i12 i13 i14
 cases hb:segsB im.segs with
 | false=>
  have Hr:=Lib.hid (may_segs H1.out hb)
  clear hb
  go_wp2
  go_ret
  exact⟨by rw [Hr.out];rfl,B2.out⟩
 | true=>
 have H2:=Lib.hid hb
 clear hb
 obtain⟨i0,i1,i2,i3,i4,i5,i6,i7,i8,i9,i10,i11,i12,i13,i14⟩:=img_cells F2.out
 clear i0 i1 i2 i3 i4 i5 i6 i7 i8 i9 i10 i11 i12
 have HD:Hid (tlsB im=(decide (0≤im.tlsSize)&&decide (im.tlsSize≤4096)&&decide ((im.tls.length:Int)≤im.tlsSize))):=Lib.hid rfl
 by_cases t0:0≤im.tlsSize
 case neg=>
  have hb:tlsB im=false:=by rw [HD.out,decide_eq_false (p:=0≤im.tlsSize) t0];simp
  have Hr:=Lib.hid (may_tls H1.out H2.out hb)
  clear hb
  have hd0:decide (im.tlsSize<0)=true:=by rw [decide_eq_true_eq];omega
  go_wp2
  go_ret
  exact⟨by rw [Hr.out];rfl,B2.out⟩
 have hd0:decide (im.tlsSize<0)=false:=by rw [decide_eq_false_iff_not];omega
 by_cases t1:im.tlsSize≤4096
 case neg=>
  have hb:tlsB im=false:=by rw [HD.out,decide_eq_false (p:=im.tlsSize≤4096) t1];simp
  have Hr:=Lib.hid (may_tls H1.out H2.out hb)
  clear hb
  have hd1:decide (4096<im.tlsSize)=true:=by rw [decide_eq_true_eq];omega
  go_wp2
  go_ret
  exact⟨by rw [Hr.out];rfl,B2.out⟩
 have hd1:decide (4096<im.tlsSize)=false:=by rw [decide_eq_false_iff_not];omega
 by_cases t2:(im.tls.length:Int)≤im.tlsSize
 case neg=>
  have hb:tlsB im=false:=by rw [HD.out,decide_eq_false (p:=(im.tls.length:Int)≤im.tlsSize) t2];simp
  have Hr:=Lib.hid (may_tls H1.out H2.out hb)
  clear hb
  have hd2:decide (im.tlsSize<(im.tls.length:Int))=true:=by rw [decide_eq_true_eq];omega
  go_wp2
  go_ret
  exact⟨by rw [Hr.out];rfl,B2.out⟩
 have hd2:decide (im.tlsSize<(im.tls.length:Int))=false:=by rw [decide_eq_false_iff_not];omega
 have H3:Hid (tlsB im=true):=Lib.hid (by rw [HD.out,decide_eq_true (p:=0≤im.tlsSize) t0,decide_eq_true (p:=im.tlsSize≤4096) t1,decide_eq_true (p:=(im.tls.length:Int)≤im.tlsSize) t2];rfl)
 have htl:0≤im.tlsSize∧im.tlsSize≤4096:=⟨t0,t1⟩
 have C4:=Lib.hid (jsyms_any w2 _ im (HM.out w2 B2.out).segs (segOk_of H2.out) (HM.out w2 B2.out).syms htl)
 unfold imgCells at C4
 obtain⟨i0,i1,i2,i3,i4,i5,i6,i7,i8,i9,i10,i11,i12,i13,i14⟩:=img_cells F2.out
 go_wp2_with fail
 refine C4.out.mono ?_
 rintro e w3 ⟨rfl,hb3⟩
 have hz3:=hb3.size
 have F3:=Lib.hid ((hb3.block w.heap.size (by omega)).trans F2.out)
 have B3:=Lib.hid (B2.out.trans (hb3.mono (by omega)))
 clear hb3 C4 i0 i1 i2 i3 i4 i5 i6 i7 i8 i9 i10 i11 i12 i13 i14
 cases hb:symsB im with
 | false=>
  have Hr:=Lib.hid (may_syms H1.out H2.out H3.out hb)
  clear hb
  go_wp2
  go_ret
  exact⟨by rw [Hr.out];rfl,B3.out⟩
 | true=>
 have H4:=Lib.hid hb
 clear hb
 have C5:=Lib.hid (jtright_any w3 im _ _ _ (HM.out w3 B3.out).buckets (HM.out w3 B3.out).words (HM.out w3 B3.out).syms (HM.out w3 B3.out).wordsR HBL.out)
 obtain⟨i0,i1,i2,i3,i4,i5,i6,i7,i8,i9,i10,i11,i12,i13,i14⟩:=img_cells F3.out
 go_wp2_with fail
 refine C5.out.mono ?_
 rintro e w4 ⟨rfl,hb4⟩
 have hz4:=hb4.size
 have F4:=Lib.hid ((hb4.block w.heap.size (by omega)).trans F3.out)
 have B4:=Lib.hid (B3.out.trans (hb4.mono (by omega)))
 clear hb4 C5 i0 i1 i2 i3 i4 i5 i6 i7 i8 i9 i10 i11 i12 i13 i14
 rw [tableJ_eq]
 cases hb:tableB im with
 | false=>
  have Hr:=Lib.hid (may_table H1.out H2.out H3.out H4.out hb)
  clear hb
  go_wp2
  go_ret
  exact⟨by rw [Hr.out];rfl,B4.out⟩
 | true=>
 have H5:=Lib.hid hb
 clear hb
 have C6:=Lib.hid (jrelocs_any w4 _ im (HM.out w4 B4.out).segs H2.out (HM.out w4 B4.out).syms (head_flags H1.out) (HM.out w4 B4.out).relocs (HM.out w4 B4.out).relocsR (syms_sizes H2.out H3.out H4.out).1 (syms_sizes H2.out H3.out H4.out).2)
 unfold imgCells at C6
 obtain⟨i0,i1,i2,i3,i4,i5,i6,i7,i8,i9,i10,i11,i12,i13,i14⟩:=img_cells F4.out
 go_wp2_with fail
 refine C6.out.mono ?_
 rintro e w5 ⟨rfl,hb5⟩
 have hz5:=hb5.size
 have F5:=Lib.hid ((hb5.block w.heap.size (by omega)).trans F4.out)
 have B5:=Lib.hid (B4.out.trans (hb5.mono (by omega)))
 clear hb5 C6 i0 i1 i2 i3 i4 i5 i6 i7 i8 i9 i10 i11 i12 i13 i14
 cases hb:relocsB im with
 | false=>
  have Hr:=Lib.hid (may_relocs H1.out H2.out H3.out H4.out H5.out hb)
  clear hb
  go_wp2
  go_ret
  exact⟨by rw [Hr.out];rfl,B5.out⟩
 | true=>
 have H6:=Lib.hid hb
 clear hb
 have C7:=Lib.hid (jslots_any w5 _ im (HM.out w5 B5.out).segs H2.out (HM.out w5 B5.out).syms (HM.out w5 B5.out).relocs (HM.out w5 B5.out).relocsR H6.out (syms_sizes H2.out H3.out H4.out).1 (syms_sizes H2.out H3.out H4.out).2 (HM.out w5 B5.out).slots (HM.out w5 B5.out).slotsR)
 unfold imgCells at C7
 obtain⟨i0,i1,i2,i3,i4,i5,i6,i7,i8,i9,i10,i11,i12,i13,i14⟩:=img_cells F5.out
 go_wp2_with fail
 refine C7.out.mono ?_
 rintro e w6 ⟨rfl,hb6⟩
 have hz6:=hb6.size
 have F6:=Lib.hid ((hb6.block w.heap.size (by omega)).trans F5.out)
 have B6:=Lib.hid (B5.out.trans (hb6.mono (by omega)))
 clear hb6 C7 i0 i1 i2 i3 i4 i5 i6 i7 i8 i9 i10 i11 i12 i13 i14
 cases hb:slotsB im with
 | false=>
  have Hr:=Lib.hid (may_slots H1.out H2.out H3.out H4.out H5.out H6.out hb)
  clear hb
  go_wp2
  go_ret
  exact⟨by rw [Hr.out];rfl,B6.out⟩
 | true=>
 have H7:=Lib.hid hb
 clear hb
 have C8:=Lib.hid (jruns_any w6 _ im (HM.out w6 B6.out).segs (segOk_of H2.out) (HM.out w6 B6.out).init (HM.out w6 B6.out).fini (HM.out w6 B6.out).initR (HM.out w6 B6.out).finiR)
 unfold imgCells at C8
 obtain⟨i0,i1,i2,i3,i4,i5,i6,i7,i8,i9,i10,i11,i12,i13,i14⟩:=img_cells F6.out
 go_wp2_with fail
 refine C8.out.mono ?_
 rintro e w7 ⟨rfl,hb7⟩
 have hz7:=hb7.size
 have F7:=Lib.hid ((hb7.block w.heap.size (by omega)).trans F6.out)
 have B7:=Lib.hid (B6.out.trans (hb7.mono (by omega)))
 clear hb7 C8 i0 i1 i2 i3 i4 i5 i6 i7 i8 i9 i10 i11 i12 i13 i14
 cases hb:(runB im im.init&&runB im im.fini)with
 | false=>
  have Hr:=Lib.hid (may_runs H1.out H2.out H3.out H4.out H5.out H6.out H7.out hb)
  clear hb
  go_wp2
  go_ret
  exact⟨by rw [Hr.out];rfl,B7.out⟩
 | true=>
 have H8:=Lib.hid hb
 clear hb
 have Hr:=Lib.hid (may_good H1.out H2.out H3.out H4.out H5.out H6.out H7.out H8.out)
 go_wp2
 go_ret
 exact⟨by rw [Hr.out];rfl,B7.out⟩
end Go.Proofs.YtfchpchabdhcgaaGreat
