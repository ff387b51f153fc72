/- Lemmas. -/
import Derived.Test.YtpomdoliblilfaaBld6
import Derived.Test.YtpomdoliblilfaaBld7
import Derived.Test.YtpomdoliblilfaaBld4
import Derived.Test.YtpomdoliblilfaaBld17
import Derived.Test.YtpomdoliblilfaaRows
import Derived.ProofKit
import Derived.OpenShut
import Derived.Carry
import Derived.Deep.Matrix
import Derived.Deep.Slices
import Derived.KernelRfl
namespace Go.Proofs.Ytpomdoliblilfaa
set_option linter.unusedVariables false
set_option linter.unusedSimpArgs false
open Go.RowKit
abbrev I64 (x:Int):Prop:= -9223372036854775808≤x∧x≤9223372036854775807
structure ImgM (S:Nat→Prop) (w:World) (v:ImgV) (im:ImgL):Prop where
 name:im.name.length≤9223372036854775807
 flags:I64 im.flags
 segs:LB kSeg S w v.segs im.segs
 segsR:∀ s∈im.segs,I64 s.at_∧I64 s.size∧I64 s.perm
 needed:LB kNeed S w v.needed im.needed
 runPath:LB kStr S w v.runPath im.runPath
 syms:LB kSym S w v.syms im.syms
 buckets:LB kInts S w v.buckets im.buckets
 bucketsL:∀ c∈im.buckets,c.length≤9223372036854775807
 words:LB kWord S w v.words im.words
 wordsR:∀ x∈im.words,0≤x∧x<18446744073709551616
 shift:I64 im.shift
 relocs:LB kRel S w v.relocs im.relocs
 relocsR:∀ r∈im.relocs,RelOk r
 slots:LB kSlot S w v.slots im.slots
 slotsR:∀ s∈im.slots,SlotOk s
 init:LB kInt S w v.init im.init
 initR:∀ x∈im.init,I64 x
 fini:LB kInt S w v.fini im.fini
 finiR:∀ x∈im.fini,I64 x
 tls:LB kByte S w v.tls im.tls
 tlsSize:I64 im.tlsSize
theorem ImgM.keeps {S:Nat→Prop} {w w':World} {v:ImgV} {im:ImgL} (h:ImgM S w v im) (hk:Keeps S w w'):ImgM S w' v im:=
 ⟨h.name,h.flags,h.segs.keeps hk,h.segsR,h.needed.keeps hk,h.runPath.keeps hk,h.syms.keeps hk,h.buckets.keeps hk,h.bucketsL,h.words.keeps hk,h.wordsR,h.shift,h.relocs.keeps hk,h.relocsR,h.slots.keeps hk,h.slotsR,h.init.keeps hk,h.initR,h.fini.keeps hk,h.finiR,h.tls.keeps hk,h.tlsSize⟩
theorem ImgM.imp {S S':Nat→Prop} {w:World} {v:ImgV} {im:ImgL} (h:ImgM S w v im) (hk:∀ b,S b→S' b):ImgM S' w v im:=
 ⟨h.name,h.flags,h.segs.imp hk,h.segsR,h.needed.imp hk,h.runPath.imp hk,h.syms.imp hk,h.buckets.imp hk,h.bucketsL,h.words.imp hk,h.wordsR,h.shift,h.relocs.imp hk,h.relocsR,h.slots.imp hk,h.slotsR,h.init.imp hk,h.initR,h.fini.imp hk,h.finiR,h.tls.imp hk,h.tlsSize⟩
theorem ImgM.later {w w':World} {v:ImgV} {im:ImgL} (h:ImgM (·<w.heap.size) w v im) (hb:Below w.heap.size w w'):ImgM (·<w'.heap.size) w' v im:=
 (h.keeps (.of_below hb)).imp fun _ hb'=>Nat.lt_of_lt_of_le hb' hb.size
theorem head_flags {im:ImgL} (h:headB im=true):0≤im.flags∧im.flags<16:=by
 simp only [headB,Bool.and_eq_true,decide_eq_true_eq]at h;omega
theorem syms_sizes {im:ImgL} (hg:segsB im.segs=true) (ht:tlsB im=true) (h:symsB im=true):(∀ s∈im.syms,0≤s.size∧s.size≤9223372036854775807)∧im.syms.length≤512:=by
 have h':=h
 simp only [symsB,Bool.and_eq_true,decide_eq_true_eq]at h'
 refine⟨fun s hs=> ?_,h'.1⟩
 have:=sym_good hg ht (symsFrom_each _ _ _ _ h'.2 s hs)
 omega
theorem may_head {im:ImgL} (h:headB im=false):mayL im=90:=by rw [mayL,if_pos h]
theorem may_segs {im:ImgL} (h1:headB im=true) (h:segsB im.segs=false):mayL im=91:=by rw [mayL,h1,if_neg (by simp),if_pos h]
theorem may_tls {im:ImgL} (h1:headB im=true) (h2:segsB im.segs=true) (h:tlsB im=false):mayL im=96:=by rw [mayL,h1,if_neg (by simp),h2,if_neg (by simp),if_pos h]
theorem may_syms {im:ImgL} (h1:headB im=true) (h2:segsB im.segs=true) (h3:tlsB im=true) (h:symsB im=false):mayL im=92:=by rw [mayL,h1,if_neg (by simp),h2,if_neg (by simp),h3,if_neg (by simp),if_pos h]
theorem may_table {im:ImgL} (h1:headB im=true) (h2:segsB im.segs=true) (h3:tlsB im=true) (h4:symsB im=true) (h:tableB im=false):mayL im=93:=by rw [mayL,h1,if_neg (by simp),h2,if_neg (by simp),h3,if_neg (by simp),h4,if_neg (by simp),if_pos h]
theorem may_relocs {im:ImgL} (h1:headB im=true) (h2:segsB im.segs=true) (h3:tlsB im=true) (h4:symsB im=true) (h5:tableB im=true) (h:relocsB im=false):mayL im=94:=by rw [mayL,h1,if_neg (by simp),h2,if_neg (by simp),h3,if_neg (by simp),h4,if_neg (by simp),h5,if_neg (by simp),if_pos h]
theorem may_slots {im:ImgL} (h1:headB im=true) (h2:segsB im.segs=true) (h3:tlsB im=true) (h4:symsB im=true) (h5:tableB im=true) (h6:relocsB im=true) (h:slotsB im=false):mayL im=95:=by rw [mayL,h1,if_neg (by simp),h2,if_neg (by simp),h3,if_neg (by simp),h4,if_neg (by simp),h5,if_neg (by simp),h6,if_neg (by simp),if_pos h]
theorem may_runs {im:ImgL} (h1:headB im=true) (h2:segsB im.segs=true) (h3:tlsB im=true) (h4:symsB im=true) (h5:tableB im=true) (h6:relocsB im=true) (h7:slotsB im=true) (h:(runB im im.init&&runB im im.fini)=false):mayL im=97:=by rw [mayL,h1,if_neg (by simp),h2,if_neg (by simp),h3,if_neg (by simp),h4,if_neg (by simp),h5,if_neg (by simp),h6,if_neg (by simp),h7,if_neg (by simp),if_pos h]
theorem may_good {im:ImgL} (h1:headB im=true) (h2:segsB im.segs=true) (h3:tlsB im=true) (h4:symsB im=true) (h5:tableB im=true) (h6:relocsB im=true) (h7:slotsB im=true) (h:(runB im im.init&&runB im im.fini)=true):mayL im=0:=by rw [mayL,h1,if_neg (by simp),h2,if_neg (by simp),h3,if_neg (by simp),h4,if_neg (by simp),h5,if_neg (by simp),h6,if_neg (by simp),h7,if_neg (by simp),h,if_neg (by simp)]
set_option maxHeartbeats 16000000 in
set_option maxRecDepth 100000 in
theorem imay_any (w:World) (v:ImgV) (im:ImgL) (hm:ImgM (·<w.heap.size) w v im):
  Calls Try.prog 25 #[.agg (imgCells v im)] w fun e w'=>e=.returned (.int .i64 (mayL im))∧Below w.heap.size w w':=by
 obtain⟨la,lcap,hlv⟩:=hm.tls.form
 have hlm:=hm.tls.max
 obtain⟨vsegs,vneeded,vrunPath,vsyms,vbuckets,vwords,vrelocs,vslots,vinit,vfini,vtls⟩:=v
 simp only at hlv
 subst hlv
 have HM:Hid (∀ w',Below w.heap.size w w'→ImgM (·<w'.heap.size) w' ⟨vsegs,vneeded,vrunPath,vsyms,vbuckets,vwords,vrelocs,vslots,vinit,vfini,.slice la im.tls.length lcap⟩ im):=Lib.hid (fun w' hb=>hm.later hb)
 clear hm
 generalize hI:(Array.mk [.string ⟨im.name.toArray⟩,.int .i64 im.flags,vsegs,vneeded,vrunPath,vsyms,vbuckets,vwords,.int .i64 im.shift,vrelocs,vslots,vinit,vfini,.slice la im.tls.length lcap,.int .i64 im.tlsSize]:Array Value)=I
 have F0:=Lib.hid (heap_alloc_new w (.cells I 44 (0,0)))
 have B0:=Lib.hid ((Below.refl w.heap.size w).alloc (Nat.le_refl _) (.cells I 44 (0,0)))
 have hz0:(w.alloc (.cells I 44 (0,0))).heap.size=w.heap.size+1:=by simp
 subst hI
 have hcells:imgCells ⟨vsegs,vneeded,vrunPath,vsyms,vbuckets,vwords,vrelocs,vslots,vinit,vfini,.slice la im.tls.length lcap⟩ im=#[.string ⟨im.name.toArray⟩,.int .i64 im.flags,vsegs,vneeded,vrunPath,vsyms,vbuckets,vwords,.int .i64 im.shift,vrelocs,vslots,vinit,vfini,.slice la im.tls.length lcap,.int .i64 im.tlsSize]:=rfl
 rw [hcells]
 clear hcells
 go_enter Try.func25,Try.ntmps25
 go_wp2_with fail
 generalize w.alloc (.cells #[.string ⟨im.name.toArray⟩,.int .i64 im.flags,vsegs,vneeded,vrunPath,vsyms,vbuckets,vwords,.int .i64 im.shift,vrelocs,vslots,vinit,vfini,.slice la im.tls.length lcap,.int .i64 im.tlsSize] 44 (0,0))=w0 at *
 have C1:=Lib.hid (ihead_any w0 _ im (HM.out w0 B0.out).needed (HM.out w0 B0.out).runPath (HM.out w0 B0.out).name)
 unfold imgCells at C1
 obtain⟨i0,i1,i2,i3,i4,i5,i6,i7,i8,i9,i10,i11,i12,i13,i14⟩:=img_cells F0.out
 go_wp2_with fail
 refine C1.out.mono ?_
 rintro e w1 ⟨rfl,hb1⟩
 have hz1:=hb1.size
 have F1:=Lib.hid ((hb1.block w.heap.size (by omega)).trans F0.out)
 have B1:=Lib.hid (B0.out.trans (hb1.mono (by omega)))
 clear hb1 C1 i0 i1 i2 i3 i4 i5 i6 i7 i8 i9 i10 i11 i12 i13 i14
 cases hb:headB im with
 | false=>
  have Hr:=Lib.hid (may_head hb)
  clear hb
  go_wp2
  go_ret
  exact⟨by rw [Hr.out];rfl,B1.out⟩
 | true=>
 have H1:=Lib.hid hb
 clear hb
 have C2:=Lib.hid (isegs_any w1 _ im (HM.out w1 B1.out).segs (fun s hs=>⟨((HM.out w1 B1.out).segsR s hs).1.1,((HM.out w1 B1.out).segsR s hs).2.1.2⟩))
 unfold imgCells at C2
 obtain⟨i0,i1,i2,i3,i4,i5,i6,i7,i8,i9,i10,i11,i12,i13,i14⟩:=img_cells F1.out
 go_wp2_with fail
 refine C2.out.mono ?_
 rintro e w2 ⟨rfl,hb2⟩
 have hz2:=hb2.size
 have F2:=Lib.hid ((hb2.block w.heap.size (by omega)).trans F1.out)
 have B2:=Lib.hid (B1.out.trans (hb2.mono (by omega)))
 clear hb2 C2 i0 i1 i2 i3 i4 i5 i6 i7 i8 i9 i10 i11 i12 i13 i14
 cases hb:segsB im.segs with
 | false=>
  have Hr:=Lib.hid (may_segs H1.out hb)
  clear hb
  go_wp2
  go_ret
  exact⟨by rw [Hr.out];rfl,B2.out⟩
 | true=>
 have H2:=Lib.hid hb
 clear hb
 obtain⟨i0,i1,i2,i3,i4,i5,i6,i7,i8,i9,i10,i11,i12,i13,i14⟩:=img_cells F2.out
 clear i0 i1 i2 i3 i4 i5 i6 i7 i8 i9 i10 i11 i12
 have HD:Hid (tlsB im=(decide (0≤im.tlsSize)&&decide (im.tlsSize≤4096)&&decide ((im.tls.length:Int)≤im.tlsSize))):=Lib.hid rfl
 by_cases t0:0≤im.tlsSize
 case neg=>
  have hb:tlsB im=false:=by rw [HD.out,decide_eq_false (p:=0≤im.tlsSize) t0];simp
  have Hr:=Lib.hid (may_tls H1.out H2.out hb)
  clear hb
  have hd0:decide (im.tlsSize<0)=true:=by rw [decide_eq_true_eq];omega
  go_wp2
  go_ret
  exact⟨by rw [Hr.out];rfl,B2.out⟩
 have hd0:decide (im.tlsSize<0)=false:=by rw [decide_eq_false_iff_not];omega
 by_cases t1:im.tlsSize≤4096
 case neg=>
  have hb:tlsB im=false:=by rw [HD.out,decide_eq_false (p:=im.tlsSize≤4096) t1];simp
  have Hr:=Lib.hid (may_tls H1.out H2.out hb)
  clear hb
  have hd1:decide (4096<im.tlsSize)=true:=by rw [decide_eq_true_eq];omega
  go_wp2
  go_ret
  exact⟨by rw [Hr.out];rfl,B2.out⟩
 have hd1:decide (4096<im.tlsSize)=false:=by rw [decide_eq_false_iff_not];omega
 by_cases t2:(im.tls.length:Int)≤im.tlsSize
 case neg=>
  have hb:tlsB im=false:=by rw [HD.out,decide_eq_false (p:=(im.tls.length:Int)≤im.tlsSize) t2];simp
  have Hr:=Lib.hid (may_tls H1.out H2.out hb)
  clear hb
  have hd2:decide (im.tlsSize<(im.tls.length:Int))=true:=by rw [decide_eq_true_eq];omega
  go_wp2
  go_ret
  exact⟨by rw [Hr.out];rfl,B2.out⟩
 have hd2:decide (im.tlsSize<(im.tls.length:Int))=false:=by rw [decide_eq_false_iff_not];omega
 have H3:Hid (tlsB im=true):=Lib.hid (by rw [HD.out,decide_eq_true (p:=0≤im.tlsSize) t0,decide_eq_true (p:=im.tlsSize≤4096) t1,decide_eq_true (p:=(im.tls.length:Int)≤im.tlsSize) t2];rfl)
 have htl:0≤im.tlsSize∧im.tlsSize≤4096:=⟨t0,t1⟩
 have C4:=Lib.hid (isyms_any w2 _ im (HM.out w2 B2.out).segs (segOk_of H2.out) (HM.out w2 B2.out).syms htl)
 unfold imgCells at C4
 obtain⟨i0,i1,i2,i3,i4,i5,i6,i7,i8,i9,i10,i11,i12,i13,i14⟩:=img_cells F2.out
 go_wp2_with fail
 refine C4.out.mono ?_
 rintro e w3 ⟨rfl,hb3⟩
 have hz3:=hb3.size
 have F3:=Lib.hid ((hb3.block w.heap.size (by omega)).trans F2.out)
 have B3:=Lib.hid (B2.out.trans (hb3.mono (by omega)))
 clear hb3 C4 i0 i1 i2 i3 i4 i5 i6 i7 i8 i9 i10 i11 i12 i13 i14
 cases hb:symsB im with
 | false=>
  have Hr:=Lib.hid (may_syms H1.out H2.out H3.out hb)
  clear hb
  go_wp2
  go_ret
  exact⟨by rw [Hr.out];rfl,B3.out⟩
 | true=>
 have H4:=Lib.hid hb
 clear hb
 have C5:=Lib.hid (tright_any w3 im _ _ _ (HM.out w3 B3.out).buckets (HM.out w3 B3.out).words (HM.out w3 B3.out).syms (HM.out w3 B3.out).wordsR)
 obtain⟨i0,i1,i2,i3,i4,i5,i6,i7,i8,i9,i10,i11,i12,i13,i14⟩:=img_cells F3.out
 go_wp2_with fail
 refine C5.out.mono ?_
 rintro e w4 ⟨rfl,hb4⟩
 have hz4:=hb4.size
 have F4:=Lib.hid ((hb4.block w.heap.size (by omega)).trans F3.out)
 have B4:=Lib.hid (B3.out.trans (hb4.mono (by omega)))
 clear hb4 C5 i0 i1 i2 i3 i4 i5 i6 i7 i8 i9 i10 i11 i12 i13 i14
 cases hb:tableB im with
 | false=>
  have Hr:=Lib.hid (may_table H1.out H2.out H3.out H4.out hb)
  rw [tableErr_bad hb]
  clear hb
  go_wp2
  go_ret
  exact⟨by rw [Hr.out];rfl,B4.out⟩
 | true=>
 have H5:=Lib.hid hb
 rw [tableErr_ok hb]
 clear hb
 have C6:=Lib.hid (irelocs_any w4 _ im (HM.out w4 B4.out).segs H2.out (HM.out w4 B4.out).syms (head_flags H1.out) (HM.out w4 B4.out).relocs (HM.out w4 B4.out).relocsR (syms_sizes H2.out H3.out H4.out).1 (syms_sizes H2.out H3.out H4.out).2)
 unfold imgCells at C6
 obtain⟨i0,i1,i2,i3,i4,i5,i6,i7,i8,i9,i10,i11,i12,i13,i14⟩:=img_cells F4.out
 go_wp2_with fail
 refine C6.out.mono ?_
 rintro e w5 ⟨rfl,hb5⟩
 have hz5:=hb5.size
 have F5:=Lib.hid ((hb5.block w.heap.size (by omega)).trans F4.out)
 have B5:=Lib.hid (B4.out.trans (hb5.mono (by omega)))
 clear hb5 C6 i0 i1 i2 i3 i4 i5 i6 i7 i8 i9 i10 i11 i12 i13 i14
 cases hb:relocsB im with
 | false=>
  have Hr:=Lib.hid (may_relocs H1.out H2.out H3.out H4.out H5.out hb)
  clear hb
  go_wp2
  go_ret
  exact⟨by rw [Hr.out];rfl,B5.out⟩
 | true=>
 have H6:=Lib.hid hb
 clear hb
 have C7:=Lib.hid (islots_any w5 _ im (HM.out w5 B5.out).segs H2.out (HM.out w5 B5.out).syms (HM.out w5 B5.out).relocs (HM.out w5 B5.out).relocsR H6.out (syms_sizes H2.out H3.out H4.out).1 (syms_sizes H2.out H3.out H4.out).2 (HM.out w5 B5.out).slots (HM.out w5 B5.out).slotsR)
 unfold imgCells at C7
 obtain⟨i0,i1,i2,i3,i4,i5,i6,i7,i8,i9,i10,i11,i12,i13,i14⟩:=img_cells F5.out
 go_wp2_with fail
 refine C7.out.mono ?_
 rintro e w6 ⟨rfl,hb6⟩
 have hz6:=hb6.size
 have F6:=Lib.hid ((hb6.block w.heap.size (by omega)).trans F5.out)
 have B6:=Lib.hid (B5.out.trans (hb6.mono (by omega)))
 clear hb6 C7 i0 i1 i2 i3 i4 i5 i6 i7 i8 i9 i10 i11 i12 i13 i14
 cases hb:slotsB im with
 | false=>
  have Hr:=Lib.hid (may_slots H1.out H2.out H3.out H4.out H5.out H6.out hb)
  clear hb
  go_wp2
  go_ret
  exact⟨by rw [Hr.out];rfl,B6.out⟩
 | true=>
 have H7:=Lib.hid hb
 clear hb
 have C8:=Lib.hid (iruns_any w6 _ im (HM.out w6 B6.out).segs (segOk_of H2.out) (HM.out w6 B6.out).init (HM.out w6 B6.out).fini (HM.out w6 B6.out).initR (HM.out w6 B6.out).finiR)
 unfold imgCells at C8
 obtain⟨i0,i1,i2,i3,i4,i5,i6,i7,i8,i9,i10,i11,i12,i13,i14⟩:=img_cells F6.out
 go_wp2_with fail
 refine C8.out.mono ?_
 rintro e w7 ⟨rfl,hb7⟩
 have hz7:=hb7.size
 have F7:=Lib.hid ((hb7.block w.heap.size (by omega)).trans F6.out)
 have B7:=Lib.hid (B6.out.trans (hb7.mono (by omega)))
 clear hb7 C8 i0 i1 i2 i3 i4 i5 i6 i7 i8 i9 i10 i11 i12 i13 i14
 cases hb:(runB im im.init&&runB im im.fini)with
 | false=>
  have Hr:=Lib.hid (may_runs H1.out H2.out H3.out H4.out H5.out H6.out H7.out hb)
  clear hb
  go_wp2
  go_ret
  exact⟨by rw [Hr.out];rfl,B7.out⟩
 | true=>
 have H8:=Lib.hid hb
 clear hb
 have Hr:=Lib.hid (may_good H1.out H2.out H3.out H4.out H5.out H6.out H7.out H8.out)
 go_wp2
 go_ret
 exact⟨by rw [Hr.out];rfl,B7.out⟩
end Go.Proofs.Ytpomdoliblilfaa
namespace Go.Proofs.Ytpomdoliblilfaa
set_option linter.unusedVariables false
set_option linter.unusedSimpArgs false
open Go.ChangeShapes Go.WideShapes Go.ChangeAt Go.RowKit Go.Deep
theorem own:ownKnob Try.prog.godebug=none:=by kernel_rfl
theorem laidOut:laidOutB Try.prog=true:=by kernel_rfl
theorem wf_i64 {n:Int} (h:(Lit.int .i64 n).wf=true): -9223372036854775808≤n∧n≤9223372036854775807:=by
 simp [Lit.wf,IntKind.min,IntKind.max,IntKind.signed,IntKind.bits]at h
 omega
theorem bulk_count {H:Type}:∀ l:List (DataW H),l.length≤Rows.uptoBulkAll l
 | []=>by simp
 | d :: l=>by
  have:=bulk_count l
  have h1:1≤Rows.uptoBulk d:=by cases d with
   | lit x=>cases x<;>simp [Rows.uptoBulk]
   | _=>simp [Rows.uptoBulk]
  simp only [Rows.uptoBulkAll,List.length_cons]
  omega
theorem bulk_mem {H:Type} {d:DataW H}:∀ {l:List (DataW H)},d∈l→Rows.uptoBulk d≤Rows.uptoBulkAll l
 | [],h=>by cases h
 | x :: l,h=>by
  simp only [Rows.uptoBulkAll]
  rcases List.mem_cons.1 h with rfl | h
  ·omega
  ·have:=bulk_mem h;omega
theorem weights_mem {H:Type} {P:Program} {e:TypeId} {d:DataW H} {k:Nat}:∀ {l:List (DataW H)},d∈l→k∈DataW.weights P e d→k∈DataW.weightsAll P e l
 | [],h,_=>by cases h
 | x :: l,h,hk=>by
  rw [DataW.weightsAll]
  rcases List.mem_cons.1 h with rfl | h
  ·exact List.mem_append_left _ hk
  ·exact List.mem_append_right _ (weights_mem h hk)
section
variable {H : Type} {enc : TypeId × Value → H} {w : World}
theorem open_listW {α:Type} {K:Kind α} {t e:TypeId} {P:α→DataW H→Prop} (ht:Try.prog.underlying t=some (.slice e)) (hk:Try.prog.cellsOf e=K.k) (hk0:0<K.k)
  (el:∀ (fuel:Nat) (cs:List Value) (x:DataW H × List MemPlace),cs.length=K.k→DataW.trod enc Try.prog w 0 (fun _=>true) true fuel e cs=some x→∃ y,K.R (·<w.heap.size) w y cs∧P y x.1)
  {fuel:Nat} {c:Value} {x:DataW H × List MemPlace} (h:DataW.trod enc Try.prog w 0 (fun _=>true) true fuel t [c]=some x):
  ∃ l,LB K (·<w.heap.size) w c l∧l.length≤Rows.uptoBulk x.1∧(0<l.length→∃ k∈DataW.weights Try.prog t x.1,l.length*Try.prog.bytesOf e≤k)∧∀ y∈l,∃ d:DataW H,P y d∧Rows.uptoBulk d≤Rows.uptoBulk x.1∧∀ k∈DataW.weights Try.prog e d,k∈DataW.weights Try.prog t x.1:=by
 rcases open_slice ht h with ⟨hcs,hx⟩ | ⟨a,n,cap,m,q,D,Pl,hcs,_,hl,hm,hmm,hx,hi⟩
 ·simp at hcs
  subst hcs
  exact⟨[],LB.nil _ _ _,by simp,fun h=>absurd h (by simp),fun y hy=>(by cases hy)⟩
 ·simp at hcs
  subst hcs
  simp only [if_true]at hmm
  subst hmm
  have each:∀ i,i<m→∃ y,∃ row,K.R (·<w.heap.size) w y row∧(∀ j u,row[j]? =some u→w.cell? ((a.add (i*K.k)).add j)=some u)∧P y (D i)∧row.length=K.k:=fun i hin=>by
   obtain⟨cs',hc,ht'⟩:=hi i hin
   rw [hk]at hc
   obtain⟨_,hcl,hat⟩:=World.cells?_some hc
   obtain⟨y,hy,hp⟩:=el _ _ _ hcl ht'
   refine⟨y,cs',hy,fun j u hu=> ?_,hp,hcl⟩
   have hj:j<K.k:=by rw [← hcl];exact(List.getElem?_eq_some_iff.1 hu).1
   rw [hat j hj];exact hu
  have plain:0<n→a=⟨a.block,a.off,none⟩∧a.block<w.heap.size:=fun h0=>by
   obtain⟨y,row,_,hat,_,hrl⟩:=each 0 (by omega)
   obtain⟨u,hu⟩:∃ u,row[0]? =some u:=⟨_,List.getElem?_eq_getElem (by omega)⟩
   have h1:=hat 0 u hu
   have h2:=World.cell?_spot h1
   have h3:=World.block_lt_of_cell? _ _ h1
   obtain⟨b,o,s⟩:=a
   have:s=none:=by simpa [Addr.add] using h2
   subst this
   exact⟨rfl,by simpa [Addr.add] using h3⟩
  let f:Fin n→α:=fun i=>(each i.1 (by omega)).choose
  have hf:∀ i:Fin n,∃ row,K.R (·<w.heap.size) w (f i) row∧(∀ j u,row[j]? =some u→w.cell? ((a.add (i.1*K.k)).add j)=some u)∧P (f i) (D i.1)∧row.length=K.k:=fun i=>(each i.1 (by omega)).choose_spec
  have hx1:x.1=.slice ((List.range n).map D) ((List.range (m-n)).map fun j=>D (n+j)):=congrArg Prod.fst hx
  have hbk:Rows.uptoBulkAll ((List.range n).map D)<Rows.uptoBulk x.1:=by
   rw [hx1,Rows.uptoBulk];omega
  have hwt:DataW.weights Try.prog t x.1=(((List.range n).map D).length+((List.range (m-n)).map fun j=>D (n+j)).length)*Try.prog.bytesOf e :: (DataW.weightsAll Try.prog e ((List.range n).map D)++DataW.weightsAll Try.prog e ((List.range (m-n)).map fun j=>D (n+j))):=by
   rw [hx1]
   simp only [DataW.weights,ht]
  refine⟨List.ofFn f,⟨some a,a.block,a.off,m,by simp,by simp;unfold maxLen at hm;omega,fun h0=> ?_,⟨by simpa using hl,fun h=>by cases h⟩,fun h0=> ?_,fun i y hy=> ?_⟩,?_,fun h0=> ?_,fun y hy=> ?_⟩
  ·simp at h0
   rw [← (plain h0).1]
  ·simp at h0
   exact(plain h0).2
  ·rw [List.getElem?_ofFn]at hy
   split at hy
   ·rename_i hin
    cases hy
    obtain⟨row,h1,h2,_,_⟩:=hf ⟨i,hin⟩
    refine⟨row,h1,fun j u hu=> ?_⟩
    have h3:=h2 j u hu
    obtain⟨h4,_⟩:=plain (by omega)
    rw [h4,Addr.add_lit,Addr.add_lit]at h3
    exact h3
   ·cases hy
  ·have:=bulk_count ((List.range n).map D)
   simp at this ⊢
   omega
  ·refine⟨_,by rw [hwt];exact List.mem_cons_self,?_⟩
   simp only [List.length_ofFn,List.length_map,List.length_range]
   exact Nat.mul_le_mul_right _ (Nat.le_add_right _ _)
  ·obtain⟨i,rfl⟩:=List.mem_ofFn.1 hy
   obtain⟨_,_,_,hp,_⟩:=hf i
   have hm1:D i.1∈(List.range n).map D:=List.mem_map.2 ⟨i.1,by simp,rfl⟩
   refine⟨D i.1,hp,?_,fun k hk=> ?_⟩
   ·have:=bulk_mem hm1
    omega
   ·rw [hwt]
    exact List.mem_cons_of_mem _ (List.mem_append_left _ (weights_mem hm1 hk))
theorem open_list {α:Type} {K:Kind α} {t e:TypeId} {P:α→DataW H→Prop} (ht:Try.prog.underlying t=some (.slice e)) (hk:Try.prog.cellsOf e=K.k) (hk0:0<K.k)
  (el:∀ (fuel:Nat) (cs:List Value) (x:DataW H × List MemPlace),cs.length=K.k→DataW.trod enc Try.prog w 0 (fun _=>true) true fuel e cs=some x→∃ y,K.R (·<w.heap.size) w y cs∧P y x.1)
  {fuel:Nat} {c:Value} {x:DataW H × List MemPlace} (h:DataW.trod enc Try.prog w 0 (fun _=>true) true fuel t [c]=some x):
  ∃ l,LB K (·<w.heap.size) w c l∧l.length≤Rows.uptoBulk x.1∧∀ y∈l,∃ d:DataW H,P y d∧Rows.uptoBulk d≤Rows.uptoBulk x.1:=by
 obtain⟨l,h1,h2,_,h4⟩:=open_listW ht hk hk0 el h
 exact⟨l,h1,h2,fun y hy=>by obtain⟨d,a,b,_⟩:=h4 y hy;exact⟨d,a,b⟩⟩
theorem el_int {t:TypeId} (ht:Try.prog.underlying t=some (.int .i64)) (fuel:Nat) (cs:List Value) (x:DataW H × List MemPlace) (h:DataW.trod enc Try.prog w 0 (fun _=>true) true fuel t cs=some x):∃ y:Int,cs=[.int .i64 y]∧I64 y:=by
 obtain⟨n,rfl,rfl,hw⟩:=DataW.trod_int ht h
 exact⟨n,rfl,wf_i64 hw⟩
theorem el_str {t:TypeId} (ht:Try.prog.underlying t=some .string) (fuel:Nat) (cs:List Value) (x:DataW H × List MemPlace) (h:DataW.trod enc Try.prog w 0 (fun _=>true) true fuel t cs=some x):∃ l:List UInt8,cs=[.string ⟨l.toArray⟩]∧l.length≤9223372036854775807∧l.length≤Rows.uptoBulk x.1:=by
 obtain⟨s,rfl,rfl,hz⟩:=DataW.trod_string ht h
 obtain⟨⟨d⟩⟩:=s
 exact⟨d,rfl,hz,Nat.le_succ _⟩
theorem el_bool {t:TypeId} (ht:Try.prog.underlying t=some .bool) (fuel:Nat) (cs:List Value) (x:DataW H × List MemPlace) (h:DataW.trod enc Try.prog w 0 (fun _=>true) true fuel t cs=some x):∃ b,cs=[.bool b]:=by
 obtain⟨b,rfl,rfl⟩:=DataW.trod_bool ht h
 exact⟨b,rfl⟩
theorem open_intsL {fuel:Nat} {c:Value} {x:DataW H × List MemPlace} (h:DataW.trod enc Try.prog w 0 (fun _=>true) true fuel 41 [c]=some x):∃ l,LB kInt (·<w.heap.size) w c l∧l.length≤Rows.uptoBulk x.1∧∀ y∈l,I64 y:=by
 obtain⟨l,h1,h2,h3⟩:=open_list (K:=kInt) (P:=fun y _=>I64 y) Try.underlying41 (by kernel_rfl) (by decide) (fun fuel cs x _ h=>el_int Try.underlying3 fuel cs x h) h
 exact⟨l,h1,h2,fun y hy=>(h3 y hy).choose_spec.1⟩
theorem open_strsL {fuel:Nat} {c:Value} {x:DataW H × List MemPlace} (h:DataW.trod enc Try.prog w 0 (fun _=>true) true fuel 24 [c]=some x):∃ l,LB kStr (·<w.heap.size) w c l∧l.length≤Rows.uptoBulk x.1:=by
 obtain⟨l,h1,h2,h3⟩:=open_list (K:=kStr) (P:=fun y _=>True) Try.underlying24 (by kernel_rfl) (by decide) (fun fuel cs x _ h=>by
  obtain⟨l,rfl,hz,_⟩:=el_str Try.underlying9 fuel cs x h
  exact⟨l,⟨rfl,hz⟩,trivial⟩) h
 exact⟨l,h1,h2⟩
end
end Go.Proofs.Ytpomdoliblilfaa
namespace Go.Proofs.Ytpomdoliblilfaa
set_option linter.unusedVariables false
set_option linter.unusedSimpArgs false
open Go.ChangeShapes Go.WideShapes Go.ChangeAt Go.RowKit Go.Deep
theorem cInt:Try.prog.cellsOf 3=1:=by kernel_rfl
theorem cStr:Try.prog.cellsOf 9=1:=by kernel_rfl
theorem cBool:Try.prog.cellsOf 4=1:=by kernel_rfl
theorem cPerm:Try.prog.cellsOf 58=1:=by kernel_rfl
theorem cFlags:Try.prog.cellsOf 22=1:=by kernel_rfl
theorem cSymKind:Try.prog.cellsOf 49=1:=by kernel_rfl
theorem cVis:Try.prog.cellsOf 50=1:=by kernel_rfl
theorem cRelocKind:Try.prog.cellsOf 119=1:=by kernel_rfl
theorem cBytes:Try.prog.cellsOf 42=1:=by kernel_rfl
theorem cStrings:Try.prog.cellsOf 24=1:=by kernel_rfl
theorem cInts:Try.prog.cellsOf 41=1:=by kernel_rfl
theorem cRows:Try.prog.cellsOf 33=1:=by kernel_rfl
theorem cWords:Try.prog.cellsOf 34=1:=by kernel_rfl
theorem cSegs:Try.prog.cellsOf 31=1:=by kernel_rfl
theorem cNeeds:Try.prog.cellsOf 23=1:=by kernel_rfl
theorem cSyms:Try.prog.cellsOf 32=1:=by kernel_rfl
theorem cRelocs:Try.prog.cellsOf 39=1:=by kernel_rfl
theorem cSlots:Try.prog.cellsOf 40=1:=by kernel_rfl
theorem cTable:Try.prog.cellsOf 38=3:=by kernel_rfl
theorem cFilter:Try.prog.cellsOf 36=2:=by kernel_rfl
section
variable {H : Type} {enc : TypeId × Value → H} {w : World}
set_option maxRecDepth 100000 in
theorem el_sym (fuel:Nat) (cs:List Value) (x:DataW H × List MemPlace) (hl:cs.length=9) (h:DataW.trod enc Try.prog w 0 (fun _=>true) true fuel 52 cs=some x):∃ y,kSym.R (·<w.heap.size) w y cs∧True:=by
 match cs,hl with
 | [c0,c1,c2,c3,c4,c5,c6,c7,c8],_=>
  obtain⟨ys,n,_,_,_,hyl,hf⟩:=DataW.trod_struct Try.underlying52 h
  match ys,hyl with
  | [y0,y1,y2,y3,y4,y5,y6,y7,y8],_=>
   have f0:=hf 0 _ rfl
   have f1:=hf 1 _ rfl
   have f2:=hf 2 _ rfl
   have f3:=hf 3 _ rfl
   have f4:=hf 4 _ rfl
   have f5:=hf 5 _ rfl
   have f6:=hf 6 _ rfl
   have f7:=hf 7 _ rfl
   have f8:=hf 8 _ rfl
   simp only [cInt,cStr,cBool,cPerm,cFlags,cSymKind,cVis,cRelocKind,cBytes,cStrings,cInts,cRows,cWords,cSegs,cNeeds,cSyms,cRelocs,cSlots,cTable,cFilter,List.drop_zero,List.take_succ_cons,List.take_zero,List.drop_succ_cons,List.getElem?_cons_zero,List.getElem?_cons_succ]at f0 f1 f2 f3 f4 f5 f6 f7 f8
   obtain⟨s0,e0,z0,_⟩:=el_str Try.underlying9 _ _ _ f0
   cases e0
   obtain⟨s1,e1,z1,_⟩:=el_str Try.underlying9 _ _ _ f1
   cases e1
   obtain⟨b2,e2⟩:=el_bool Try.underlying4 _ _ _ f2
   cases e2
   obtain⟨b4,e4⟩:=el_bool Try.underlying4 _ _ _ f4
   cases e4
   obtain⟨b6,e6⟩:=el_bool Try.underlying4 _ _ _ f6
   cases e6
   obtain⟨n3,e3,i3⟩:=el_int Try.underlying49 _ _ _ f3
   cases e3
   obtain⟨n5,e5,i5⟩:=el_int Try.underlying50 _ _ _ f5
   cases e5
   obtain⟨n7,e7,i7⟩:=el_int Try.underlying3 _ _ _ f7
   cases e7
   obtain⟨n8,e8,i8⟩:=el_int Try.underlying3 _ _ _ f8
   cases e8
   exact⟨⟨s0,s1,b2,n3,b4,n5,b6,n7,n8⟩,⟨rfl,⟨z0,z1,i3,i5,i7,i8⟩⟩,trivial⟩
end
end Go.Proofs.Ytpomdoliblilfaa
namespace Go.Proofs.Ytpomdoliblilfaa
set_option linter.unusedVariables false
set_option linter.unusedSimpArgs false
open Go.ChangeShapes Go.WideShapes Go.ChangeAt Go.RowKit Go.Deep
theorem cSymT:Try.prog.cellsOf 52=9:=by kernel_rfl
theorem cLines:Try.prog.cellsOf 66=1:=by kernel_rfl
theorem cLineKind:Try.prog.cellsOf 75=1:=by kernel_rfl
theorem cOp:Try.prog.cellsOf 63=1:=by kernel_rfl
theorem cInstT:Try.prog.cellsOf 65=5:=by kernel_rfl
theorem cRefs:Try.prog.cellsOf 69=1:=by kernel_rfl
theorem cFuncs:Try.prog.cellsOf 25=1:=by kernel_rfl
theorem cVars:Try.prog.cellsOf 26=1:=by kernel_rfl
theorem cSpec:Try.prog.cellsOf 28=9:=by kernel_rfl
theorem bStr:Try.prog.bytesOf 9=16:=by kernel_rfl
theorem bNeed:Try.prog.bytesOf 73=40:=by kernel_rfl
section
variable {H : Type} {enc : TypeId × Value → H} {w : World}
theorem open_strsW {fuel:Nat} {c:Value} {x:DataW H × List MemPlace} (h:DataW.trod enc Try.prog w 0 (fun _=>true) true fuel 24 [c]=some x):∃ l,LB kStr (·<w.heap.size) w c l∧((∀ k∈DataW.weights Try.prog 24 x.1,k≤reachBytes)→l.length*16≤140737488355328):=by
 obtain⟨l,h1,h2,h3,_⟩:=open_listW (K:=kStr) (P:=fun y _=>True) Try.underlying24 (by kernel_rfl) (by decide) (fun fuel cs x _ h=>by
  obtain⟨l,rfl,hz,_⟩:=el_str Try.underlying9 fuel cs x h
  exact⟨l,⟨rfl,hz⟩,trivial⟩) h
 refine⟨l,h1,fun hre=> ?_⟩
 rcases Nat.eq_zero_or_pos l.length with h0 | h0
 ·omega
 ·obtain⟨k,hk,hk2⟩:=h3 h0
  have h4:=hre k hk
  rw [bStr]at hk2
  unfold reachBytes at h4
  omega
set_option maxRecDepth 100000 in
theorem el_needW (fuel:Nat) (cs:List Value) (x:DataW H × List MemPlace) (hl:cs.length=2) (h:DataW.trod enc Try.prog w 0 (fun _=>true) true fuel 73 cs=some x):∃ y,kNeed.R (·<w.heap.size) w y cs∧((∀ k∈DataW.weights Try.prog 73 x.1,k≤reachBytes)→y.versions.length*16≤140737488355328):=by
 match cs,hl with
 | [c0,c1],_=>
  obtain⟨ysf,nf,_,hxf,_,hylf,hf⟩:=DataW.trod_struct Try.underlying73 h
  match ysf,hylf with
  | [y0,y1],_=>
   have f0:=hf 0 _ rfl
   have f1:=hf 1 _ rfl
   simp only [Value.cells,cInt,cStr,cBool,cPerm,cFlags,cSymKind,cVis,cBytes,cStrings,cInts,cNeeds,cSymT,cLines,cLineKind,cOp,cInstT,cRefs,cFuncs,cVars,List.drop_zero,List.take_succ_cons,List.take_zero,List.drop_succ_cons,List.getElem?_cons_zero,List.getElem?_cons_succ]at f0 f1
   obtain⟨s,e0,hz,_⟩:=el_str Try.underlying9 _ _ _ f0
   cases e0
   obtain⟨l,h2,h3⟩:=open_strsW f1
   refine⟨⟨s,l⟩,⟨c1,rfl,h2,hz⟩,fun hre=>h3 (fun k hk=>hre k ?_)⟩
   have hd:x.1=.agg [y0.1,y1.1]:=congrArg Prod.fst hxf
   rw [hd]
   simp only [DataW.weights,Try.underlying73,List.map_cons,List.map_nil,DataW.weightsEach,List.mem_append]
   simp only [hk,true_or,or_true]
set_option maxRecDepth 100000 in
theorem el_line (fuel:Nat) (cs:List Value) (x:DataW H × List MemPlace) (hl:cs.length=9) (h:DataW.trod enc Try.prog w 0 (fun _=>true) true fuel 77 cs=some x):∃ y,kLine.R (·<w.heap.size) w y cs∧True:=by
 match cs,hl with
 | [c0,c1,c2,c3,c4,c5,c6,c7,c8],_=>
  obtain⟨ysf,nf,_,hxf,_,hylf,hf⟩:=DataW.trod_struct Try.underlying77 h
  match ysf,hylf with
  | [y0,y1,y2,y3,y4],_=>
   have f0:=hf 0 _ rfl
   have f1:=hf 1 _ rfl
   have f2:=hf 2 _ rfl
   have f3:=hf 3 _ rfl
   have f4:=hf 4 _ rfl
   simp only [Value.cells,cInt,cStr,cBool,cPerm,cFlags,cSymKind,cVis,cBytes,cStrings,cInts,cNeeds,cSymT,cLines,cLineKind,cOp,cInstT,cRefs,cFuncs,cVars,List.drop_zero,List.take_succ_cons,List.take_zero,List.drop_succ_cons,List.getElem?_cons_zero,List.getElem?_cons_succ]at f0 f1 f2 f3 f4
   obtain⟨n0,e0,i0⟩:=el_int Try.underlying75 _ _ _ f0
   cases e0
   obtain⟨n6,e6,i6⟩:=el_int Try.underlying3 _ _ _ f2
   cases e6
   obtain⟨s7,e7,z7,_⟩:=el_str Try.underlying9 _ _ _ f3
   cases e7
   obtain⟨s8,e8,z8,_⟩:=el_str Try.underlying9 _ _ _ f4
   cases e8
   obtain⟨ysg,ng,_,hxg,_,hylg,hg⟩:=DataW.trod_struct Try.underlying65 f1
   match ysg,hylg with
   | [z0,z1,z2,z3,z4],_=>
    have g0:=hg 0 _ rfl
    have g1:=hg 1 _ rfl
    have g2:=hg 2 _ rfl
    have g3:=hg 3 _ rfl
    have g4:=hg 4 _ rfl
    simp only [Value.cells,cInt,cStr,cBool,cPerm,cFlags,cSymKind,cVis,cBytes,cStrings,cInts,cNeeds,cSymT,cLines,cLineKind,cOp,cInstT,cRefs,cFuncs,cVars,List.drop_zero,List.take_succ_cons,List.take_zero,List.drop_succ_cons,List.getElem?_cons_zero,List.getElem?_cons_succ]at g0 g1 g2 g3 g4
    obtain⟨n1,e1,i1⟩:=el_int Try.underlying63 _ _ _ g0
    cases e1
    obtain⟨n2,e2,i2⟩:=el_int Try.underlying3 _ _ _ g1
    cases e2
    obtain⟨n3,e3,i3⟩:=el_int Try.underlying3 _ _ _ g2
    cases e3
    obtain⟨n4,e4,i4⟩:=el_int Try.underlying3 _ _ _ g3
    cases e4
    obtain⟨n5,e5,i5⟩:=el_int Try.underlying3 _ _ _ g4
    cases e5
    exact⟨⟨n0,⟨n1,n2,n3,n4,n5⟩,n6,s7,s8⟩,⟨rfl,⟨i0,⟨i1,i2,i3,i4,i5⟩,i6,z7,z8⟩⟩,trivial⟩
set_option maxRecDepth 100000 in
theorem el_ref (fuel:Nat) (cs:List Value) (x:DataW H × List MemPlace) (hl:cs.length=4) (h:DataW.trod enc Try.prog w 0 (fun _=>true) true fuel 107 cs=some x):∃ y,kRef.R (·<w.heap.size) w y cs∧True:=by
 match cs,hl with
 | [c0,c1,c2,c3],_=>
  obtain⟨ysf,nf,_,hxf,_,hylf,hf⟩:=DataW.trod_struct Try.underlying107 h
  match ysf,hylf with
  | [y0,y1,y2,y3],_=>
   have f0:=hf 0 _ rfl
   have f1:=hf 1 _ rfl
   have f2:=hf 2 _ rfl
   have f3:=hf 3 _ rfl
   simp only [Value.cells,cInt,cStr,cBool,cPerm,cFlags,cSymKind,cVis,cBytes,cStrings,cInts,cNeeds,cSymT,cLines,cLineKind,cOp,cInstT,cRefs,cFuncs,cVars,List.drop_zero,List.take_succ_cons,List.take_zero,List.drop_succ_cons,List.getElem?_cons_zero,List.getElem?_cons_succ]at f0 f1 f2 f3
   obtain⟨n0,e0,i0⟩:=el_int Try.underlying3 _ _ _ f0
   cases e0
   obtain⟨s1,e1,z1,_⟩:=el_str Try.underlying9 _ _ _ f1
   cases e1
   obtain⟨s2,e2,z2,_⟩:=el_str Try.underlying9 _ _ _ f2
   cases e2
   obtain⟨n3,e3,i3⟩:=el_int Try.underlying3 _ _ _ f3
   cases e3
   exact⟨⟨n0,s1,s2,n3⟩,⟨rfl,i0,i3,z1,z2⟩,trivial⟩
set_option maxRecDepth 100000 in
theorem el_func (fuel:Nat) (cs:List Value) (x:DataW H × List MemPlace) (hl:cs.length=10) (h:DataW.trod enc Try.prog w 0 (fun _=>true) true fuel 68 cs=some x):∃ y,kFunc.R (·<w.heap.size) w y cs∧True:=by
 match cs,hl with
 | [c0,c1,c2,c3,c4,c5,c6,c7,c8,c9],_=>
  obtain⟨ysf,nf,_,hxf,_,hylf,hf⟩:=DataW.trod_struct Try.underlying68 h
  match ysf,hylf with
  | [y0,y1],_=>
   have f0:=hf 0 _ rfl
   have f1:=hf 1 _ rfl
   simp only [Value.cells,cInt,cStr,cBool,cPerm,cFlags,cSymKind,cVis,cBytes,cStrings,cInts,cNeeds,cSymT,cLines,cLineKind,cOp,cInstT,cRefs,cFuncs,cVars,List.drop_zero,List.take_succ_cons,List.take_zero,List.drop_succ_cons,List.getElem?_cons_zero,List.getElem?_cons_succ]at f0 f1
   obtain⟨ys,⟨hs,hok⟩,_⟩:=el_sym _ _ _ rfl f0
   obtain⟨l,h2,_,_⟩:=open_list (K:=kLine) (P:=fun _ _=>True) Try.underlying66 (by kernel_rfl) (by decide) (fun fuel cs x hl h=>el_line fuel cs x hl h) f1
   exact⟨⟨ys,l⟩,⟨c9,by rw [← hs];rfl,h2,hok⟩,trivial⟩
set_option maxRecDepth 100000 in
theorem el_var (fuel:Nat) (cs:List Value) (x:DataW H × List MemPlace) (hl:cs.length=12) (h:DataW.trod enc Try.prog w 0 (fun _=>true) true fuel 71 cs=some x):∃ y,kVar.R (·<w.heap.size) w y cs∧(∀ n∈y.words,I64 n):=by
 match cs,hl with
 | [c0,c1,c2,c3,c4,c5,c6,c7,c8,c9,c10,c11],_=>
  obtain⟨ysf,nf,_,hxf,_,hylf,hf⟩:=DataW.trod_struct Try.underlying71 h
  match ysf,hylf with
  | [y0,y1,y2,y3],_=>
   have f0:=hf 0 _ rfl
   have f1:=hf 1 _ rfl
   have f2:=hf 2 _ rfl
   have f3:=hf 3 _ rfl
   simp only [Value.cells,cInt,cStr,cBool,cPerm,cFlags,cSymKind,cVis,cBytes,cStrings,cInts,cNeeds,cSymT,cLines,cLineKind,cOp,cInstT,cRefs,cFuncs,cVars,List.drop_zero,List.take_succ_cons,List.take_zero,List.drop_succ_cons,List.getElem?_cons_zero,List.getElem?_cons_succ]at f0 f1 f2 f3
   obtain⟨ys,⟨hs,hok⟩,_⟩:=el_sym _ _ _ rfl f0
   obtain⟨l,h2,_,hr⟩:=open_intsL f1
   obtain⟨rs,h3,_,_⟩:=open_list (K:=kRef) (P:=fun _ _=>True) Try.underlying69 (by kernel_rfl) (by decide) (fun fuel cs x hl h=>el_ref fuel cs x hl h) f2
   obtain⟨b,eb⟩:=el_bool Try.underlying4 _ _ _ f3
   cases eb
   exact⟨⟨ys,l,rs,b⟩,⟨c9,c10,by rw [← hs];rfl,h2,h3,hok⟩,hr⟩
set_option maxRecDepth 100000 in
theorem open_spec {base:Nat} {v:Value} {d:DataW H} {p:List MemPlace} (hv:Value.okWide Try.prog w .any base 28 v) (h:DataW.Trod enc Try.prog w 0 (fun _=>true) true 28 v d p) (hsz:∀ k∈DataW.weights Try.prog 28 d,k≤reachBytes):
  ∃ sv s,v=.agg (specCells sv s).toArray∧SpecM (·<w.heap.size) w sv s∧s.runPath.length*16≤140737488355328∧s.needed.length*40≤140737488355328∧(∀ n∈s.needed,n.versions.length*16≤140737488355328)∧∀ v∈s.vars,∀ n∈v.words,I64 n:=by
 obtain⟨cs,rfl,hcz⟩:=okWide_struct Try.underlying28 hv
 obtain⟨l⟩:=cs
 match l,hcz.trans cSpec with
 | [c0,c1,c2,c3,c4,c5,c6,c7,c8],_=>
  obtain⟨fuel,hf0⟩:=h
  obtain⟨ysf,nf,_,hxf,_,hylf,hf⟩:=DataW.trod_struct Try.underlying28 hf0
  match ysf,hylf with
  | [y0,y1,y2,y3,y4,y5,y6,y7,y8],_=>
   have f0:=hf 0 _ rfl
   have f1:=hf 1 _ rfl
   have f2:=hf 2 _ rfl
   have f3:=hf 3 _ rfl
   have f4:=hf 4 _ rfl
   have f5:=hf 5 _ rfl
   have f6:=hf 6 _ rfl
   have f7:=hf 7 _ rfl
   have f8:=hf 8 _ rfl
   simp only [Value.cells,cInt,cStr,cBool,cPerm,cFlags,cSymKind,cVis,cBytes,cStrings,cInts,cNeeds,cSymT,cLines,cLineKind,cOp,cInstT,cRefs,cFuncs,cVars,List.drop_zero,List.take_succ_cons,List.take_zero,List.drop_succ_cons,List.getElem?_cons_zero,List.getElem?_cons_succ]at f0 f1 f2 f3 f4 f5 f6 f7 f8
   have hd:d=.agg [y0.1,y1.1,y2.1,y3.1,y4.1,y5.1,y6.1,y7.1,y8.1]:=congrArg Prod.fst hxf
   have hw2:∀ k∈DataW.weights Try.prog 23 y2.1,k≤reachBytes:=fun k hk=>hsz k (by
    rw [hd]
    simp only [DataW.weights,Try.underlying28,List.map_cons,List.map_nil,DataW.weightsEach,List.mem_append]
    simp only [hk,true_or,or_true])
   have hw3:∀ k∈DataW.weights Try.prog 24 y3.1,k≤reachBytes:=fun k hk=>hsz k (by
    rw [hd]
    simp only [DataW.weights,Try.underlying28,List.map_cons,List.map_nil,DataW.weightsEach,List.mem_append]
    simp only [hk,true_or,or_true])
   obtain⟨name,e0,z0,_⟩:=el_str Try.underlying9 _ _ _ f0
   cases e0
   obtain⟨flags,e1,i1⟩:=el_int Try.underlying22 _ _ _ f1
   cases e1
   obtain⟨needs,h2,_,g2,g2'⟩:=open_listW (K:=kNeed) (P:=fun y d=>(∀ k∈DataW.weights Try.prog 73 d,k≤reachBytes)→y.versions.length*16≤140737488355328) Try.underlying23 (by kernel_rfl) (by decide) (fun fuel cs x hl h=>el_needW fuel cs x hl h) f2
   obtain⟨runPath,h3,g3⟩:=open_strsW f3
   obtain⟨funcs,h4,_,_⟩:=open_list (K:=kFunc) (P:=fun _ _=>True) Try.underlying25 (by kernel_rfl) (by decide) (fun fuel cs x hl h=>el_func fuel cs x hl h) f4
   obtain⟨vars,h5,_,g5⟩:=open_list (K:=kVar) (P:=fun y _=>∀ n∈y.words,I64 n) Try.underlying26 (by kernel_rfl) (by decide) (fun fuel cs x hl h=>el_var fuel cs x hl h) f5
   obtain⟨weak,h6,_⟩:=open_strsL f6
   obtain⟨init,h7,_⟩:=open_strsL f7
   obtain⟨fini,h8,_⟩:=open_strsL f8
   refine⟨⟨c2,c3,c4,c5,c6,c7,c8⟩,⟨name,flags,needs,runPath,funcs,vars,weak,init,fini⟩,rfl,⟨h2,h3,h4,h5,h6,h7,h8,z0,i1⟩,g3 hw3,?_,fun n hn=> ?_,fun v hv=>(g5 v hv).choose_spec.1⟩
   ·show needs.length*40≤_
    rcases Nat.eq_zero_or_pos needs.length with h0 | h0
    ·omega
    ·obtain⟨k,hk,hk2⟩:=g2 h0
     have h9:=hw2 k hk
     rw [bNeed]at hk2
     unfold reachBytes at h9
     omega
   ·obtain⟨dn,hp,_,hwn⟩:=g2' n hn
    exact hp (fun k hk=>hw2 k (hwn k hk))
end
end Go.Proofs.Ytpomdoliblilfaa
namespace Go.Proofs.Ytpomdoliblilfaa
set_option linter.unusedVariables false
set_option linter.unusedSimpArgs false
open Go.RowKit
theorem LAt.inst5 {S:Nat→Prop} {w:World} {a:Option Addr} {b off:Nat} {l:List InstL} (h:LAt kInst S w l a b off) (i:Nat) (x:InstL) (hx:l[i]? =some x):InstOk x∧w.cell? ⟨b,off+i*5,none⟩=some (.int .i64 x.op)∧w.cell? ⟨b,off+i*5+1,none⟩=some (.int .i64 x.a)∧
  w.cell? ⟨b,off+i*5+2,none⟩=some (.int .i64 x.b)∧w.cell? ⟨b,off+i*5+3,none⟩=some (.int .i64 x.c)∧w.cell? ⟨b,off+i*5+4,none⟩=some (.int .i64 x.imm):=by
 obtain⟨row,⟨h1,h1'⟩,h2⟩:=h.row i x hx
 subst h1
 exact⟨h1',h2 0 _ rfl,h2 1 _ rfl,h2 2 _ rfl,h2 3 _ rfl,h2 4 _ rfl⟩
theorem low_byte (n:Int):IntKind.u8.wrap n=((byteAt n 0).toNat:Int):=by
 have:=shr_byteB n 0 (by omega)
 simpa using this
theorem codeL_take {l:List InstL} {k:Nat} {x:InstL} (h:l[k]? =some x):codeL (l.take (k+1))=codeL (l.take k)++instBytes x:=by
 rw [take_snocB h];unfold codeL;rw [List.flatMap_append];simp
theorem codeL_len:∀ l:List InstL,(codeL l).length=8*l.length
 | []=>rfl
 | x :: l=>by
  have:codeL (x :: l)=instBytes x++codeL l:=rfl
  rw [this,List.length_append,codeL_len l,List.length_cons]
  have:(instBytes x).length=8:=rfl
  omega
theorem shr_u32 (n:Int) (i:Nat) (h:i<4):IntKind.u8.wrap (IntKind.u32.wrap n/2 ^ (8*i))=((byteAt n i).toNat:Int):=by
 have e:∀ m:Nat,((UInt8.ofNat m).toNat:Int)=(m:Int)%256:=fun m=>by simp
 unfold byteAt
 rw [e,IntKind.wrap_u8',IntKind.wrap_u32']
 have:i=0∨i=1∨i=2∨i=3:=by omega
 rcases this with rfl | rfl | rfl | rfl<;>simp only [Nat.mul_zero,Nat.mul_one,Nat.reduceMul,Nat.reducePow,Int.reducePow,Nat.pow_zero,Int.pow_zero]<;>omega
theorem bytes_lb (w:World) (l:List UInt8) (hl:l.length≤9223372036854775807):LB kByte (fun b=>b=w.heap.size) (w.alloc (.cells (l.map fun x:UInt8=>Value.int .u8 x.toNat).toArray 5 (0,0))) (.slice (some ⟨w.heap.size,0,none⟩) l.length l.length) l:=by
 refine⟨some ⟨w.heap.size,0,none⟩,w.heap.size,0,l.length,rfl,hl,fun _=>rfl,⟨Nat.le_refl _,fun h=>by cases h⟩,fun _=>rfl,fun i x hx=>⟨[.int .u8 x.toNat],rfl,fun j u hu=> ?_⟩⟩
 match j,hu with
 | 0,hu=>
  simp at hu;subst hu
  rw [Lib.cell_of_heap (heap_alloc_new _ _)]
  simp [kByte,hx]
 | j+1,hu=>simp at hu
def EncPost (w:World) (is:List InstL) (x:Ending) (w':World):Prop:=
 ∃ r,x=.returned (.tuple #[r,.int .i64 (if is.all instB then 0 else 40)])∧Below w.heap.size w w'∧(is.all instB=true→OwnK 5 kByte w.heap.size (fun _=>False) w' r (codeL is))
set_option maxHeartbeats 16000000 in
set_option maxRecDepth 100000 in
theorem encode_any {S:Nat→Prop} (w:World) (u:Value) (is:List InstL) (hu:LB kInst S w u is) (hS:∀ b,S b→b<w.heap.size) (hl:is.length≤100000000):
  Calls Try.prog 20 #[u] w (EncPost w is):=by
 obtain⟨ua,ub,uoff,ucap,rfl,hum,huc,hat⟩:=hu.at
 have hua:=hat.addr
 have Hat:=Lib.hid (hat.keeps (S:=S) (w':=w) (fun b _=>rfl))
 have HS:=Lib.hid hS
 obtain⟨m,hm⟩:∃ m,m=is.length:=⟨_,rfl⟩
 have Hm:=Lib.hid hm
 rw [← hm]at hum huc hua hl ⊢
 clear hu hat hS hm
 go_enter Try.func20,Try.ntmps20
 go_wp2_with fail
 go_loopw [4,11] (fun o i wr=>∃ k:Nat,i=.int .i64 k∧k≤m∧(∀ x∈is.take k,instB x=true)∧OwnK 5 kByte w.heap.size (fun b=>b<w.heap.size) wr o (codeL (is.take k))∧Below w.heap.size w wr) (fun _ i _=>m-(intOf i).toNat)
 case atStart=>exact⟨0,rfl,Nat.zero_le _,by simp,OwnK.nil _ _ _ _ _,Below.refl _ _⟩
 case round=>
  obtain⟨k,rfl,hk,hok,ho,hb⟩:=hrel
  have HO:=Lib.hid ho
  have HB:=Lib.hid hb
  have Hok:=Lib.hid hok
  have hz:=hb.size
  clear ho hb hok
  by_cases hlt:k<m
  ·obtain rfl:=hua (by omega)
   obtain⟨x,hx⟩:∃ x,is[k]? =some x:=⟨_,List.getElem?_eq_getElem (by rw [← Hm.out];exact hlt)⟩
   have hbu:=HS.out _ (Hat.out.inS (by rw [← Hm.out];omega))
   obtain⟨hxo,g0,g1,g2,g3,g4⟩:=Hat.out.inst5 k x hx
   replace g0:=(HB.out.cell (p:=⟨ub,uoff+k*5,none⟩) hbu).trans g0
   replace g1:=(HB.out.cell (p:=⟨ub,uoff+k*5+1,none⟩) hbu).trans g1
   replace g2:=(HB.out.cell (p:=⟨ub,uoff+k*5+2,none⟩) hbu).trans g2
   replace g3:=(HB.out.cell (p:=⟨ub,uoff+k*5+3,none⟩) hbu).trans g3
   replace g4:=(HB.out.cell (p:=⟨ub,uoff+k*5+4,none⟩) hbu).trans g4
   have Hnt:=Lib.hid (codeL_take hx)
   have Hkl:=Lib.hid (show (codeL (is.take k)).length=8*k by rw [codeL_len,List.length_take];have:=Hm.out;omega)
   have hk2:(k:Int)<(m:Int):=by omega
   have HMay:=Lib.hid (fun w=>imay1_any w x hxo)
   have Hmem:Hid (x∈is):=Lib.hid (List.mem_of_getElem? hx)
   have HTk:Hid (is.take (k+1)=is.take k++[x]):=Lib.hid (take_snocB hx)
   have HBa:=Lib.hid (HB.out.alloc hz (.cells #[.int .i64 x.op,.int .i64 x.a,.int .i64 x.b,.int .i64 x.c,.int .i64 x.imm] 65))
   have HOa:=Lib.hid (HO.out.alloc (.cells #[.int .i64 x.op,.int .i64 x.a,.int .i64 x.b,.int .i64 x.c,.int .i64 x.imm] 65))
   have HXa:=Lib.hid (heap_alloc_new wr (.cells #[.int .i64 x.op,.int .i64 x.a,.int .i64 x.b,.int .i64 x.c,.int .i64 x.imm] 65))
   have hza:wr.heap.size<(wr.alloc (.cells #[.int .i64 x.op,.int .i64 x.a,.int .i64 x.b,.int .i64 x.c,.int .i64 x.imm] 65)).heap.size:=by simp
   clear hx
   go_wp2_with fail
   refine(HMay.out _).mono ?_
   rintro e w5 ⟨rfl,hb5⟩
   generalize wr.alloc (.cells #[.int .i64 x.op,.int .i64 x.a,.int .i64 x.b,.int .i64 x.c,.int .i64 x.imm] 65)=wa at *
   have HB5:=Lib.hid (HBa.out.trans (hb5.mono (by omega)))
   have HO5:=Lib.hid (HOa.out.below hb5)
   have HX5:=Lib.hid ((hb5.block wr.heap.size hza).trans HXa.out)
   have hz5:wr.heap.size<w5.heap.size:=by have:=hb5.size;omega
   clear g0 g1 g2 g3 g4 hb5
   generalize wr.heap.size=xb at *
   cases hi:instB x with
   | false=>
    have HE:Hid (mayErr x=40):=Lib.hid (by unfold mayErr;rw [hi];rfl)
    have HA:Hid (is.all instB=false):=Lib.hid (by
     rw [List.all_eq_false];exact⟨x,Hmem.out,by rw [hi];simp⟩)
    rw [HE.out]
    clear hi
    go_wp2
    go_ret2
    exact⟨_,by rw [HA.out];rfl,HB5.out,fun h=>by rw [HA.out]at h;cases h⟩
   | true=>
    have HE:Hid (mayErr x=0):=Lib.hid (by unfold mayErr;rw [hi];rfl)
    have Hi:=Lib.hid hi
    rw [HE.out]
    clear hi
    have f0:w5.cell? ⟨xb,0,none⟩=some (.int .i64 x.op):=by rw [Lib.cell_of_heap HX5.out];rfl
    have f1:w5.cell? ⟨xb,1,none⟩=some (.int .i64 x.a):=by rw [Lib.cell_of_heap HX5.out];rfl
    have f2:w5.cell? ⟨xb,2,none⟩=some (.int .i64 x.b):=by rw [Lib.cell_of_heap HX5.out];rfl
    have f3:w5.cell? ⟨xb,3,none⟩=some (.int .i64 x.c):=by rw [Lib.cell_of_heap HX5.out];rfl
    have f4:w5.cell? ⟨xb,4,none⟩=some (.int .i64 x.imm):=by rw [Lib.cell_of_heap HX5.out];rfl
    obtain⟨oa,oc,hof⟩:=HO5.out.form
    rw [Hkl.out]at hof
    subst hof
    obtain⟨mm,hmm⟩:∃ mm,IntKind.u32.wrap x.imm=mm:=⟨_,rfl⟩
    have hmm0:0≤mm:=by rw [← hmm,IntKind.wrap_u32'];omega
    obtain⟨b0,hb0⟩:∃ b0,byteAt x.op 0=b0:=⟨_,rfl⟩
    obtain⟨b1,hb1⟩:∃ b1,byteAt x.a 0=b1:=⟨_,rfl⟩
    obtain⟨b2,hb2⟩:∃ b2,byteAt x.b 0=b2:=⟨_,rfl⟩
    obtain⟨b3,hb3⟩:∃ b3,byteAt x.c 0=b3:=⟨_,rfl⟩
    obtain⟨b4,hb4⟩:∃ b4,byteAt x.imm 0=b4:=⟨_,rfl⟩
    obtain⟨b5,hb5⟩:∃ b5,byteAt x.imm 1=b5:=⟨_,rfl⟩
    obtain⟨b6,hb6⟩:∃ b6,byteAt x.imm 2=b6:=⟨_,rfl⟩
    obtain⟨b7,hb7⟩:∃ b7,byteAt x.imm 3=b7:=⟨_,rfl⟩
    have HBy:Hid (instBytes x=[b0,b1,b2,b3,b4,b5,b6,b7]):=Lib.hid (by unfold instBytes;rw [hb0,hb1,hb2,hb3,hb4,hb5,hb6,hb7])
    have e0:=low_byte x.op
    have e1:=low_byte x.a
    have e2:=low_byte x.b
    have e3:=low_byte x.c
    have e4:=shr_u32 x.imm 0 (by omega)
    have e5:=shr_u32 x.imm 1 (by omega)
    have e6:=shr_u32 x.imm 2 (by omega)
    have e7:=shr_u32 x.imm 3 (by omega)
    rw [hmm]at e4 e5 e6 e7
    simp only [Nat.mul_zero,Int.pow_zero,Nat.mul_one,Nat.reduceMul,Int.ediv_one]at e4 e5 e6 e7
    rw [hb0]at e0
    rw [hb1]at e1
    rw [hb2]at e2
    rw [hb3]at e3
    rw [hb4]at e4
    rw [hb5]at e5
    rw [hb6]at e6
    rw [hb7]at e7
    clear hb0 hb1 hb2 hb3 hb4 hb5 hb6 hb7
    have e5':mm/256%256=(b5.toNat:Int):=by rw [← e5,IntKind.wrap_u8'];rfl
    have e6':mm/65536%256=(b6.toNat:Int):=by rw [← e6,IntKind.wrap_u8'];rfl
    have e7':mm/16777216%256=(b7.toNat:Int):=by rw [← e7,IntKind.wrap_u8'];rfl
    have HOw:=Lib.hid ((HO5.out.reE (E':=fun b=>b<w5.heap.size+1∧¬ (Value.slice oa (8*k) oc).ownBlock=some b) flat_byte (fun g hg h=>h.2 hg)).alloc (.cells #[.int .u8 b0.toNat,.int .u8 b1.toNat,.int .u8 b2.toNat,.int .u8 b3.toNat,.int .u8 b4.toNat,.int .u8 b5.toNat,.int .u8 b6.toNat,.int .u8 b7.toNat] 5))
    have Hzb:Hid ((w5.alloc (.cells #[.int .u8 b0.toNat,.int .u8 b1.toNat,.int .u8 b2.toNat,.int .u8 b3.toNat,.int .u8 b4.toNat,.int .u8 b5.toNat,.int .u8 b6.toNat,.int .u8 b7.toNat] 5)).heap.size=w5.heap.size+1):=Lib.hid (by simp)
    have HLb:=Lib.hid (bytes_lb w5 [b0,b1,b2,b3,b4,b5,b6,b7] (by simp))
    go_wp2_with (at_builtin;go_loud (refine wpList_appendsK (v:=.slice oa (8*k) oc) (l:=codeL (is.take k)) plain_byte 42 (.int .u8 0) 1 Try.underlying42 info_byte rfl rfl (.tmp 23) (.tmp 47) rfl rfl HOw.out (fun b hb=>by have h1:=hb.1;have h2:=Hzb.out;omega) (.slice (some ⟨w5.heap.size,0,none⟩) 8 8) [b0,b1,b2,b3,b4,b5,b6,b7] rfl HLb.out (by rw [Hkl.out];simp only [List.length_cons,List.length_nil];omega) (by rw [Hkl.out];simp only [List.length_cons,List.length_nil];omega) (by have h2:=Hzb.out;omega) ?_))
    intro v' w7 hown7 hst7 hnew7
    have Hbel:Hid (Below w.heap.size w w7):=Lib.hid (by
     have h2:=Hzb.out
     exact HB5.out.trans (((Below.refl w.heap.size w5).alloc (by omega) (.cells #[.int .u8 b0.toNat,.int .u8 b1.toNat,.int .u8 b2.toNat,.int .u8 b3.toNat,.int .u8 b4.toNat,.int .u8 b5.toNat,.int .u8 b6.toNat,.int .u8 b7.toNat] 5)).trans ((hst7.imp (S':=(·<w.heap.size)) (fun b hb=>⟨by have hb:b<w.heap.size:=hb;omega,fun e=>by have h3:=(HO5.out.lt b e).1;have hb:b<w.heap.size:=hb;omega⟩)).below)))
    have HO7:=Lib.hid (hown7.reE (E':=fun b=>b<w.heap.size) flat_byte (fun g hg h=>by have:=(hown7.lt g hg).1;omega))
    have Hok2:Hid (∀ y∈is.take (k+1),instB y=true):=Lib.hid (by
     intro y hy
     rw [HTk.out]at hy
     rcases List.mem_append.1 hy with h | h
     ·exact Hok.out y h
     ·rw [List.mem_singleton.1 h];exact Hi.out)
    obtain⟨va,vc,rfl⟩:=hown7.form
    clear hown7 hst7 hnew7 e0 e1 e2 e3 e4 e5 e6 e7 e5' e6' e7' hmm f0 f1 f2 f3 f4
    go_wp2
    go_roundw
    case rel=>exact⟨k+1,by go_num,by omega,Hok2.out,by rw [Hnt.out,HBy.out];exact HO7.out,Hbel.out⟩
    case measure=>simp [intOf];omega
  ·have hall:is.take k=is:=List.take_of_length_le (by have:=Hm.out;omega)
   have HA:Hid (is.all instB=true):=Lib.hid (by rw [List.all_eq_true];intro x hx;exact Hok.out x (by rw [hall];exact hx))
   have HE:=Lib.hid (show OwnK 5 kByte w.heap.size (fun _=>False) wr u4 (codeL is) by
    have h:=HO.out
    rw [hall]at h
    exact h.reE flat_byte (fun _ _ h=>h))
   clear hall
   go_wp2
   go_ret2
   exact⟨_,by rw [HA.out];rfl,HB.out,fun _=>HE.out⟩
end Go.Proofs.Ytpomdoliblilfaa
namespace Go.Proofs.Ytpomdoliblilfaa
set_option linter.unusedVariables false
set_option linter.unusedSimpArgs false
def exLine:LineL:=⟨1,⟨0,0,0,0,0⟩,0,[103],[]⟩
def exSym:SymL:=⟨[102],[],false,1,false,0,false,0,0⟩
def exFunc:FuncL:=⟨exSym,[exLine]⟩
def exSpec (fs:List FuncL):SpecL:=⟨[],0,[],[],fs,[],[],[],[]⟩
theorem ex1_err:(buildL (exSpec [exFunc])).2=0:=by kernel_rfl
theorem ex1_segs:(buildL (exSpec [exFunc])).1.segs.length=2:=by kernel_rfl
theorem ex1_seg0:(buildL (exSpec [exFunc])).1.segs[0]?.map (·.bytes.length)=some 32:=by kernel_rfl
theorem ex1_syms:(buildL (exSpec [exFunc])).1.syms.length=2:=by kernel_rfl
theorem ex1_slots:(buildL (exSpec [exFunc])).1.slots=[⟨64,1,24⟩]:=by kernel_rfl
theorem ex2_err:(buildL (exSpec [exFunc,exFunc])).2=100:=by kernel_rfl
end Go.Proofs.Ytpomdoliblilfaa
