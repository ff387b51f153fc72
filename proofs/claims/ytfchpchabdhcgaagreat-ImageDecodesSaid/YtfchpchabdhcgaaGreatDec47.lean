/- Lemmas. -/
import Derived.Test.YtfchpchabdhcgaaGreatDec29
import Derived.Test.YtfchpchabdhcgaaGreatDec4
import Derived.Test.YtfchpchabdhcgaaGreatDec12
import Derived.Test.YtfchpchabdhcgaaGreatDec6
import Derived.Test.YtfchpchabdhcgaaGreatDec11
import Derived.Test.YtfchpchabdhcgaaGreatDec9
import Derived.Test.YtfchpchabdhcgaaGreatDec20
import Derived.Test.YtfchpchabdhcgaaGreatDec27
import Derived.Test.YtfchpchabdhcgaaGreatDec31
import Derived.Test.YtfchpchabdhcgaaGreatRows
import Derived.ProofKit
import Derived.OpenShut
import Derived.Carry
import Derived.Deep.Matrix
import Derived.Deep.Slices
import Derived.Deep.DeepCutAuto
import Derived.Deep.QuietTactic
import Derived.BigQuiet
import Derived.IntWalk
set_option linter.unusedVariables false
set_option linter.unusedSimpArgs false
set_option maxHeartbeats 64000000
set_option maxRecDepth 100000
namespace Go.Proofs.YtfchpchabdhcgaaGreat
open Go.RowKit
def relOkB (im:ImgL) (s:SymL) (r:RelL):Bool:=
 if r.kind=0∨r.kind=6 then decide (s.kind≠3)
 else if r.kind=7 then decide (r.add=0)
 else if r.kind=3 then decide (s.kind=3)&&decide (r.add=0)
 else if r.kind=4∨r.kind=5 then decide (s.kind=3)
 else if r.kind=2 then decide (s.kind=2)&&s.defined&&decide (1≤s.size)&&decide (s.value=r.at_)&&decide (r.add=0)&&decide (im.flags%2=1)
 else false
def relPermL (r:RelL):Int:=if r.kind=2 then 2 else 0
theorem relocB_base {im:ImgL} {r:RelL} (h1:r.kind=1):relocB im r=(decide (r.sym= -1)&&decide (0≤r.add)&&decide (r.add≤65536)&&holdsB im.segs r.at_ 8 0):=by rw [relocB,if_pos h1]
theorem relocB_none {im:ImgL} {r:RelL} (h1:r.kind≠1) (h:symAt im r.sym=none):relocB im r=false:=by rw [relocB,if_neg h1,h]
theorem relocB_some {im:ImgL} {r:RelL} {s:SymL} (h1:r.kind≠1) (h:symAt im r.sym=some s):
  relocB im r=(decide (-4294967296≤r.add)&&decide (r.add≤4294967296)&&(relOkB im s r&&holdsB im.segs r.at_ (wideL im r) (relPermL r))):=by
 have hw:=wideL_some h
 rw [relocB,if_neg h1,h,relOkB,relPermL]
 simp only []
 by_cases k0:r.kind=0∨r.kind=6
 ·rw [if_pos k0,if_pos k0,hw,if_neg (by omega),if_neg (by omega)]
 rw [if_neg k0,if_neg k0]
 by_cases k7:r.kind=7
 ·rw [if_pos k7,if_pos k7,hw,if_neg (by omega),if_neg (by omega)]
 rw [if_neg k7,if_neg k7]
 by_cases k3:r.kind=3
 ·rw [if_pos k3,if_pos k3,hw,if_neg (by omega),if_neg (by omega)]
 rw [if_neg k3,if_neg k3]
 by_cases k4:r.kind=4∨r.kind=5
 ·rw [if_pos k4,if_pos k4,hw,if_neg (by omega),if_neg (by omega)]
 rw [if_neg k4,if_neg k4]
 by_cases k2:r.kind=2
 ·rw [if_pos k2,if_pos k2,hw,if_pos k2,if_pos k2]
  cases decide (s.kind=2)<;>cases s.defined<;>cases decide (1≤s.size)<;>cases decide (s.value=r.at_)<;>cases decide (im.flags%2=1)<;>cases decide (r.add=0)<;>simp
 ·rw [if_neg k2,if_neg k2];simp
theorem jfits_any (w:World) (v:ImgV) (im:ImgL) (r:RelL) (hs:LB kSeg (·<w.heap.size) w v.segs im.segs) (hok:∀ s∈im.segs,SegOk s) (hy:LB kSym (·<w.heap.size) w v.syms im.syms) (hfl:0≤im.flags∧im.flags<16)
  (hrs: -9223372036854775808≤r.sym∧r.sym≤9223372036854775807) (hra: -9223372036854775808≤r.at_∧r.at_≤9223372036854775807) (hrd: -9223372036854775808≤r.add∧r.add≤9223372036854775807) (hsz:∀ s∈im.syms,0≤s.size∧s.size≤9223372036854775807):
  Calls Tryz.prog 97 #[.agg (imgCells v im),.agg #[.int .i64 r.at_,.int .i64 r.kind,.int .i64 r.sym,.int .i64 r.add]] w fun e w'=>e=.returned (.bool (relocB im r))∧Below w.heap.size w w':=by
 obtain⟨sa,sb,soff,scap,hsv,hsm,hsc,hat⟩:=hy.at
 obtain⟨vsegs,vneeded,vrunPath,vsyms,vbuckets,vwords,vrelocs,vslots,vinit,vfini,vtls⟩:=v
 simp only at hsv
 subst hsv
 have HH:Hid (∀ (w':World) (x n p:Int),Below w.heap.size w w'→(-9223372036854775808≤x∧x≤9223372036854775807)→(0≤n∧n≤9223372036854775807)→p=0∨p=2∨p=4→
  Calls Tryz.prog 93 #[.agg (imgCells ⟨vsegs,vneeded,vrunPath,.slice sa im.syms.length scap,vbuckets,vwords,vrelocs,vslots,vinit,vfini,vtls⟩ im),.int .i64 x,.int .i64 n,.int .i64 p] w' fun e w''=>e=.returned (.bool (holdsB im.segs x n p))∧Below w'.heap.size w' w''):=Lib.hid (fun w' x n p hb hx hn hp=>jstands_any w' _ im x n p ((hs.below hb).mono hb.size) hok hx hn hp)
 have HW:Hid (∀ (w':World),Below w.heap.size w w'→
  Calls Tryz.prog 98 #[.agg (imgCells ⟨vsegs,vneeded,vrunPath,.slice sa im.syms.length scap,vbuckets,vwords,vrelocs,vslots,vinit,vfini,vtls⟩ im),.agg #[.int .i64 r.at_,.int .i64 r.kind,.int .i64 r.sym,.int .i64 r.add]] w' fun e w''=>e=.returned (.int .i64 (wideL im r))∧Below w'.heap.size w' w''):=Lib.hid (fun w' hb=>jwide_any w' _ im r ((hy.below hb).mono hb.size))
 unfold imgCells at *
 have Hat:=Lib.hid hat
 have Hsz:=Lib.hid hsz
 have hf1:=hfl.1
 have hf2:=hfl.2
 clear hs hok hy hfl hsz hat
 generalize hI:(Array.mk [.string ⟨im.name.toArray⟩,.int .i64 im.flags,vsegs,vneeded,vrunPath,.slice sa im.syms.length scap,vbuckets,vwords,.int .i64 im.shift,vrelocs,vslots,vinit,vfini,vtls,.int .i64 im.tlsSize]:Array Value)=I at HH HW
 have F0:=Lib.hid (heap_alloc_new w (.cells I 40 (0,0)))
 have B1:=Lib.hid (((Below.refl w.heap.size w).alloc (Nat.le_refl _) (.cells I 40 (0,0))).alloc (by simp) (.cells #[.int .i64 r.at_,.int .i64 r.kind,.int .i64 r.sym,.int .i64 r.add] 53 (0,0)))
 have G0:=Lib.hid (heap_alloc_new (w.alloc (.cells I 40 (0,0))) (.cells #[.int .i64 r.at_,.int .i64 r.kind,.int .i64 r.sym,.int .i64 r.add] 53 (0,0)))
 have F1:=Lib.hid ((heap_alloc_old (w.alloc (.cells I 40 (0,0))) (.cells #[.int .i64 r.at_,.int .i64 r.kind,.int .i64 r.sym,.int .i64 r.add] 53 (0,0)) (by simp)).trans F0.out)
 have hz1:((w.alloc (.cells I 40 (0,0))).alloc (.cells #[.int .i64 r.at_,.int .i64 r.kind,.int .i64 r.sym,.int .i64 r.add] 53 (0,0))).heap.size=w.heap.size+2:=by simp
 rw [World.size_alloc]at G0
 subst hI
 go_enter Tryz.func97,Tryz.ntmps97
 go_upto_region 1 with fail
 generalize (w.alloc (.cells #[.string ⟨im.name.toArray⟩,.int .i64 im.flags,vsegs,vneeded,vrunPath,.slice sa im.syms.length scap,vbuckets,vwords,.int .i64 im.shift,vrelocs,vslots,vinit,vfini,vtls,.int .i64 im.tlsSize] 40 (0,0))).alloc (.cells #[.int .i64 r.at_,.int .i64 r.kind,.int .i64 r.sym,.int .i64 r.add] 53 (0,0))=w1 at *
 have hz1':w.heap.size+1<w1.heap.size:=by omega
 clear hz1
 have r0:w1.cell? ⟨w.heap.size+1,0,none⟩=some (.int .i64 r.at_):=by rw [Lib.cell_of_heap G0.out];rfl
 have r1:w1.cell? ⟨w.heap.size+1,1,none⟩=some (.int .i64 r.kind):=by rw [Lib.cell_of_heap G0.out];rfl
 have r2:w1.cell? ⟨w.heap.size+1,2,none⟩=some (.int .i64 r.sym):=by rw [Lib.cell_of_heap G0.out];rfl
 have r3:w1.cell? ⟨w.heap.size+1,3,none⟩=some (.int .i64 r.add):=by rw [Lib.cell_of_heap G0.out];rfl
 obtain⟨i0,i1,i2,i3,i4,i5,i6,i7,i8,i9,i10,i11,i12,i13,i14⟩:=img_cells F1.out
 by_cases k1:r.kind=1
 case pos=>
  have b1:(r.kind==1)=true:=by rw [beq_iff_eq];exact k1
  have HR:=Lib.hid (relocB_base (im:=im) k1)
  by_cases p0:r.sym= -1
  case neg=>
   have q0:(r.sym== -1)=false:=by rw [beq_eq_false_iff_ne];assumption
   have Hr:Hid (relocB im r=false):=Lib.hid (by rw [HR.out,decide_eq_false (p:=r.sym= -1) p0];simp)
   go_wp2
   go_ret
   exact⟨by rw [Hr.out];rfl,B1.out⟩
  have q0:(r.sym== -1)=true:=by rw [beq_iff_eq];assumption
  by_cases p1:0≤r.add
  case neg=>
   have q1:decide (0≤r.add)=false:=by rw [decide_eq_false_iff_not];assumption
   have Hr:Hid (relocB im r=false):=Lib.hid (by rw [HR.out,decide_eq_false (p:=0≤r.add) p1];simp)
   go_wp2
   go_ret
   exact⟨by rw [Hr.out];rfl,B1.out⟩
  have q1:decide (0≤r.add)=true:=by rw [decide_eq_true_eq];assumption
  by_cases p2:r.add≤65536
  case neg=>
   have q2:decide (r.add≤65536)=false:=by rw [decide_eq_false_iff_not];assumption
   have Hr:Hid (relocB im r=false):=Lib.hid (by rw [HR.out,decide_eq_false (p:=r.add≤65536) p2];simp)
   go_wp2
   go_ret
   exact⟨by rw [Hr.out];rfl,B1.out⟩
  have q2:decide (r.add≤65536)=true:=by rw [decide_eq_true_eq];assumption
  have Hr:Hid (relocB im r=holdsB im.segs r.at_ 8 0):=Lib.hid (by rw [HR.out,decide_eq_true (p:=r.sym= -1) p0,decide_eq_true (p:=0≤r.add) p1,decide_eq_true (p:=r.add≤65536) p2];simp)
  have Hh:=Lib.hid (HH.out w1 r.at_ 8 0 B1.out hra (by decide) (by decide))
  go_wp2_with fail
  refine Hh.out.mono ?_
  rintro e w4 ⟨rfl,hb4⟩
  have B4:=Lib.hid (B1.out.trans (hb4.mono (by omega)))
  clear hb4 i0 i1 i2 i3 i4 i5 i6 i7 i8 i9 i10 i11 i12 i13 i14 r0 r1 r2 r3
  go_wp2
  go_ret
  exact⟨by rw [Hr.out];rfl,B4.out⟩
 have b1:(r.kind==1)=false:=by rw [beq_eq_false_iff_ne];exact k1
 by_cases t0:r.sym<0
 case pos=>
  have d0:decide (r.sym<0)=true:=by rw [decide_eq_true_eq];exact t0
  have Hr:=Lib.hid (relocB_none (im:=im) k1 (symAt_neg im r.sym t0))
  go_wp2
  go_ret
  exact⟨by rw [Hr.out];rfl,B1.out⟩
 have d0:decide (r.sym<0)=false:=by rw [decide_eq_false_iff_not];exact t0
 by_cases t1:(im.syms.length:Int)≤r.sym
 case pos=>
  have d1:decide ((im.syms.length:Int)≤r.sym)=true:=by rw [decide_eq_true_eq];exact t1
  have Hr:=Lib.hid (relocB_none (im:=im) k1 (symAt_far im r.sym t1))
  go_wp2
  go_ret
  exact⟨by rw [Hr.out];rfl,B1.out⟩
 have d1:decide ((im.syms.length:Int)≤r.sym)=false:=by rw [decide_eq_false_iff_not];exact t1
 obtain⟨k,hk⟩:∃ k:Nat,r.sym=k:=⟨r.sym.toNat,by omega⟩
 have hlt:k<im.syms.length:=by omega
 obtain rfl:=Hat.out.addr (by omega)
 obtain⟨s,hx⟩:∃ s,im.syms[k]? =some s:=⟨_,List.getElem?_eq_getElem hlt⟩
 have hsa:symAt im r.sym=some s:=by rw [hk];exact symAt_in im k s hx
 have HRs:=Lib.hid (relocB_some k1 hsa)
 have Hwd:Hid (r.kind≠2→wideL im r=8):=Lib.hid (fun h=>by rw [wideL_some hsa,if_neg h])
 have Hwd2:Hid (r.kind=2→wideL im r=s.size):=Lib.hid (fun h=>by rw [wideL_some hsa,if_pos h])
 have hszs:=Hsz.out s (symAt_range hsa).2.2
 by_cases t2: -4294967296≤r.add
 case neg=>
  have d2:decide (r.add < -4294967296)=true:=by rw [decide_eq_true_eq];omega
  have Hr:Hid (relocB im r=false):=Lib.hid (by rw [HRs.out,decide_eq_false (p:= -4294967296≤r.add) t2];rfl)
  clear hsa HRs
  go_wp2
  go_ret
  exact⟨by rw [Hr.out];rfl,B1.out⟩
 have d2:decide (r.add < -4294967296)=false:=by rw [decide_eq_false_iff_not];omega
 by_cases t3:r.add≤4294967296
 case neg=>
  have d3:decide (4294967296<r.add)=true:=by rw [decide_eq_true_eq];omega
  have Hr:Hid (relocB im r=false):=Lib.hid (by rw [HRs.out,decide_eq_false (p:=r.add≤4294967296) t3];simp)
  clear hsa HRs
  go_wp2
  go_ret
  exact⟨by rw [Hr.out];rfl,B1.out⟩
 have d3:decide (4294967296<r.add)=false:=by rw [decide_eq_false_iff_not];omega
 have HR:Hid (relocB im r=(relOkB im s r&&holdsB im.segs r.at_ (wideL im r) (relPermL r))):=Lib.hid (by rw [HRs.out,decide_eq_true (p:= -4294967296≤r.add) t2,decide_eq_true (p:=r.add≤4294967296) t3];rfl)
 have hwd:0≤wideL im r∧wideL im r≤9223372036854775807:=by
  by_cases h2:r.kind=2
  ·rw [Hwd2.out h2];exact hszs
  ·rw [Hwd.out h2];omega
 have hpm:relPermL r=0∨relPermL r=2∨relPermL r=4:=by unfold relPermL;split<;>simp
 clear hsa HRs
 obtain⟨hso,g0,g1,g2,g3,g4,g5,g6,g7,g8⟩:=(Hat.out.below B1.out).sym9 k s hx
 have hsb:=World.block_lt_of_cell? _ _ g0
 have S3:=Lib.hid (heap_alloc_new w1 (.cells #[.string ⟨s.name.toArray⟩,.string ⟨s.version.toArray⟩,.bool s.old,.int .i64 s.kind,.bool s.weak,.int .i64 s.vis,.bool s.defined,.int .i64 s.value,.int .i64 s.size] 72 (0,0)))
 have G3:=Lib.hid ((heap_alloc_old w1 (.cells #[.string ⟨s.name.toArray⟩,.string ⟨s.version.toArray⟩,.bool s.old,.int .i64 s.kind,.bool s.weak,.int .i64 s.vis,.bool s.defined,.int .i64 s.value,.int .i64 s.size] 72 (0,0)) (r:=w.heap.size+1) (by omega)).trans G0.out)
 have F3:=Lib.hid ((heap_alloc_old w1 (.cells #[.string ⟨s.name.toArray⟩,.string ⟨s.version.toArray⟩,.bool s.old,.int .i64 s.kind,.bool s.weak,.int .i64 s.vis,.bool s.defined,.int .i64 s.value,.int .i64 s.size] 72 (0,0)) (r:=w.heap.size) (by omega)).trans F1.out)
 have B3:=Lib.hid (B1.out.alloc (by omega) (.cells #[.string ⟨s.name.toArray⟩,.string ⟨s.version.toArray⟩,.bool s.old,.int .i64 s.kind,.bool s.weak,.int .i64 s.vis,.bool s.defined,.int .i64 s.value,.int .i64 s.size] 72 (0,0)))
 have hra2:=hra
 clear hx
 rw [hk]at r2
 go_upto_region 6 with fail
 have hz3:(w1.alloc (.cells #[.string ⟨s.name.toArray⟩,.string ⟨s.version.toArray⟩,.bool s.old,.int .i64 s.kind,.bool s.weak,.int .i64 s.vis,.bool s.defined,.int .i64 s.value,.int .i64 s.size] 72 (0,0))).heap.size=w1.heap.size+1:=by simp
 generalize w1.alloc (.cells #[.string ⟨s.name.toArray⟩,.string ⟨s.version.toArray⟩,.bool s.old,.int .i64 s.kind,.bool s.weak,.int .i64 s.vis,.bool s.defined,.int .i64 s.value,.int .i64 s.size] 72 (0,0))=w3 at *
 clear i0 i1 i2 i3 i4 i5 i6 i7 i8 i9 i10 i11 i12 i13 i14 r0 r1 r2 r3 g0 g1 g2 g3 g4 g5 g6 g7 g8 d0 d1 d2 d3 t0 t1 t2 t3
 have r0:w3.cell? ⟨w.heap.size+1,0,none⟩=some (.int .i64 r.at_):=by rw [Lib.cell_of_heap G3.out];rfl
 have r1:w3.cell? ⟨w.heap.size+1,1,none⟩=some (.int .i64 r.kind):=by rw [Lib.cell_of_heap G3.out];rfl
 have r2:w3.cell? ⟨w.heap.size+1,2,none⟩=some (.int .i64 r.sym):=by rw [Lib.cell_of_heap G3.out];rfl
 have r3:w3.cell? ⟨w.heap.size+1,3,none⟩=some (.int .i64 r.add):=by rw [Lib.cell_of_heap G3.out];rfl
 obtain⟨i0,i1,i2,i3,i4,i5,i6,i7,i8,i9,i10,i11,i12,i13,i14⟩:=img_cells F3.out
 obtain⟨c0,c1,c2,c3,c4,c5,c6,c7,c8⟩:=sym_cells S3.out
 go_upto_block 0 with fail
 go_cut [6,7,8] (fun s6 s7 s8 wx=>s6=.bool (s.kind==3)∧s7=.int .i64 (relPermL r)∧s8=.bool (relOkB im s r)∧wx=w3)
 case first=>
  by_cases k0:r.kind=0
  case pos=>
   have b0:(r.kind==0)=true:=by rw [beq_iff_eq];exact k0
   have hp:relPermL r=0:=by rw [relPermL,if_neg (by omega)]
   by_cases h3:s.kind=3
   ·have e3:(s.kind==3)=true:=by rw [beq_iff_eq];exact h3
    have Ho:Hid (relOkB im s r=false):=Lib.hid (by rw [relOkB,if_pos (by omega)];simp [h3])
    clear h3 k0
    go_wp2_with fail
    go_meet
    exact⟨by first | rfl | rw [e3],by rw [hp],by rw [Ho.out],rfl⟩
   ·have e3:(s.kind==3)=false:=by rw [beq_eq_false_iff_ne];exact h3
    have Ho:Hid (relOkB im s r=true):=Lib.hid (by rw [relOkB,if_pos (by omega)];simp [h3])
    clear h3 k0
    go_wp2_with fail
    go_meet
    exact⟨by first | rfl | rw [e3],by rw [hp],by rw [Ho.out],rfl⟩
  have b0:(r.kind==0)=false:=by rw [beq_eq_false_iff_ne];exact k0
  by_cases k6:r.kind=6
  case pos=>
   have b6:(r.kind==6)=true:=by rw [beq_iff_eq];exact k6
   have hp:relPermL r=0:=by rw [relPermL,if_neg (by omega)]
   by_cases h3:s.kind=3
   ·have e3:(s.kind==3)=true:=by rw [beq_iff_eq];exact h3
    have Ho:Hid (relOkB im s r=false):=Lib.hid (by rw [relOkB,if_pos (by omega)];simp [h3])
    clear h3 k6
    go_wp2_with fail
    go_meet
    exact⟨by first | rfl | rw [e3],by rw [hp],by rw [Ho.out],rfl⟩
   ·have e3:(s.kind==3)=false:=by rw [beq_eq_false_iff_ne];exact h3
    have Ho:Hid (relOkB im s r=true):=Lib.hid (by rw [relOkB,if_pos (by omega)];simp [h3])
    clear h3 k6
    go_wp2_with fail
    go_meet
    exact⟨by first | rfl | rw [e3],by rw [hp],by rw [Ho.out],rfl⟩
  have b6:(r.kind==6)=false:=by rw [beq_eq_false_iff_ne];exact k6
  by_cases k7:r.kind=7
  case pos=>
   have b7:(r.kind==7)=true:=by rw [beq_iff_eq];exact k7
   have hp:relPermL r=0:=by rw [relPermL,if_neg (by omega)]
   have Ho:Hid (relOkB im s r=(r.add==0)):=Lib.hid (by rw [relOkB,if_neg (by omega),if_pos (by omega)];rw [Bool.eq_iff_iff];simp)
   clear k7
   go_wp2_with fail
   go_meet
   exact⟨by first | rfl | rw [e3],by rw [hp],by rw [Ho.out],rfl⟩
  have b7:(r.kind==7)=false:=by rw [beq_eq_false_iff_ne];exact k7
  by_cases k3:r.kind=3
  case pos=>
   have b3:(r.kind==3)=true:=by rw [beq_iff_eq];exact k3
   have hp:relPermL r=0:=by rw [relPermL,if_neg (by omega)]
   by_cases h3:s.kind=3
   ·have e3:(s.kind==3)=true:=by rw [beq_iff_eq];exact h3
    have Ho:Hid (relOkB im s r=(r.add==0)):=Lib.hid (by rw [relOkB,if_neg (by omega),if_neg (by omega),if_pos (by omega)];rw [Bool.eq_iff_iff];simp [h3])
    clear h3 k3
    go_wp2_with fail
    go_meet
    exact⟨by first | rfl | rw [e3],by rw [hp],by rw [Ho.out],rfl⟩
   ·have e3:(s.kind==3)=false:=by rw [beq_eq_false_iff_ne];exact h3
    have Ho:Hid (relOkB im s r=false):=Lib.hid (by rw [relOkB,if_neg (by omega),if_neg (by omega),if_pos (by omega)];simp [h3])
    clear h3 k3
    go_wp2_with fail
    go_meet
    exact⟨by first | rfl | rw [e3],by rw [hp],by rw [Ho.out],rfl⟩
  have b3:(r.kind==3)=false:=by rw [beq_eq_false_iff_ne];exact k3
  by_cases k4:r.kind=4
  case pos=>
   have b4:(r.kind==4)=true:=by rw [beq_iff_eq];exact k4
   have hp:relPermL r=0:=by rw [relPermL,if_neg (by omega)]
   by_cases h3:s.kind=3
   ·have e3:(s.kind==3)=true:=by rw [beq_iff_eq];exact h3
    have Ho:Hid (relOkB im s r=true):=Lib.hid (by rw [relOkB,if_neg (by omega),if_neg (by omega),if_neg (by omega),if_pos (by omega)];simp [h3])
    clear h3 k4
    go_wp2_with fail
    go_meet
    exact⟨by first | rfl | rw [e3],by rw [hp],by rw [Ho.out],rfl⟩
   ·have e3:(s.kind==3)=false:=by rw [beq_eq_false_iff_ne];exact h3
    have Ho:Hid (relOkB im s r=false):=Lib.hid (by rw [relOkB,if_neg (by omega),if_neg (by omega),if_neg (by omega),if_pos (by omega)];simp [h3])
    clear h3 k4
    go_wp2_with fail
    go_meet
    exact⟨by first | rfl | rw [e3],by rw [hp],by rw [Ho.out],rfl⟩
  have b4:(r.kind==4)=false:=by rw [beq_eq_false_iff_ne];exact k4
  by_cases k5:r.kind=5
  case pos=>
   have b5:(r.kind==5)=true:=by rw [beq_iff_eq];exact k5
   have hp:relPermL r=0:=by rw [relPermL,if_neg (by omega)]
   by_cases h3:s.kind=3
   ·have e3:(s.kind==3)=true:=by rw [beq_iff_eq];exact h3
    have Ho:Hid (relOkB im s r=true):=Lib.hid (by rw [relOkB,if_neg (by omega),if_neg (by omega),if_neg (by omega),if_pos (by omega)];simp [h3])
    clear h3 k5
    go_wp2_with fail
    go_meet
    exact⟨by first | rfl | rw [e3],by rw [hp],by rw [Ho.out],rfl⟩
   ·have e3:(s.kind==3)=false:=by rw [beq_eq_false_iff_ne];exact h3
    have Ho:Hid (relOkB im s r=false):=Lib.hid (by rw [relOkB,if_neg (by omega),if_neg (by omega),if_neg (by omega),if_pos (by omega)];simp [h3])
    clear h3 k5
    go_wp2_with fail
    go_meet
    exact⟨by first | rfl | rw [e3],by rw [hp],by rw [Ho.out],rfl⟩
  have b5:(r.kind==5)=false:=by rw [beq_eq_false_iff_ne];exact k5
  by_cases k2:r.kind=2
  case pos=>
   have b2:(r.kind==2)=true:=by rw [beq_iff_eq];exact k2
   have hp:relPermL r=2:=by rw [relPermL,if_pos k2]
   have HO:Hid (relOkB im s r=(decide (s.kind=2)&&s.defined&&decide (1≤s.size)&&decide (s.value=r.at_)&&decide (r.add=0)&&decide (im.flags%2=1))):=Lib.hid (by rw [relOkB,if_neg (by omega),if_neg (by omega),if_neg (by omega),if_neg (by omega),if_pos (by omega)])
   clear k2
   by_cases y0:s.kind=2
   case neg=>
    have z0:(s.kind==2)=false:=by rw [beq_eq_false_iff_ne];exact y0
    have Ho:Hid (relOkB im s r=false):=Lib.hid (by rw [HO.out,decide_eq_false (p:=s.kind=2) y0];simp)
    clear y0
    go_wp2_with fail
    go_meet
    exact⟨by first | rfl | rw [e3],by rw [hp],by rw [Ho.out],rfl⟩
   have z0:(s.kind==2)=true:=by rw [beq_iff_eq];exact y0
   have Y0:=Lib.hid y0
   clear y0
   cases hd:s.defined with
   | false=>
    rw [hd]at c6
    have Ho:Hid (relOkB im s r=false):=Lib.hid (by rw [HO.out,hd];simp)
    clear hd
    go_wp2_with fail
    go_meet
    exact⟨by first | rfl | rw [e3],by rw [hp],by rw [Ho.out],rfl⟩
   | true=>
   rw [hd]at c6
   have Hdd:=Lib.hid hd
   clear hd
   by_cases y2:1≤s.size
   case neg=>
    have z2:decide (1≤s.size)=false:=by rw [decide_eq_false_iff_not];exact y2
    have Ho:Hid (relOkB im s r=false):=Lib.hid (by rw [HO.out,decide_eq_false (p:=1≤s.size) y2];simp)
    clear y2
    go_wp2_with fail
    go_meet
    exact⟨by first | rfl | rw [e3],by rw [hp],by rw [Ho.out],rfl⟩
   have z2:decide (1≤s.size)=true:=by rw [decide_eq_true_eq];exact y2
   have Y2:=Lib.hid y2
   clear y2
   by_cases y3:s.value=r.at_
   case neg=>
    have z3:(s.value==r.at_)=false:=by rw [beq_eq_false_iff_ne];exact y3
    have Ho:Hid (relOkB im s r=false):=Lib.hid (by rw [HO.out,decide_eq_false (p:=s.value=r.at_) y3];simp)
    clear y3
    go_wp2_with fail
    go_meet
    exact⟨by first | rfl | rw [e3],by rw [hp],by rw [Ho.out],rfl⟩
   have z3:(s.value==r.at_)=true:=by rw [beq_iff_eq];exact y3
   have Y3:=Lib.hid y3
   clear y3
   by_cases y4:r.add=0
   case neg=>
    have z4:(r.add==0)=false:=by rw [beq_eq_false_iff_ne];exact y4
    have Ho:Hid (relOkB im s r=false):=Lib.hid (by rw [HO.out,decide_eq_false (p:=r.add=0) y4];simp)
    clear y4
    go_wp2_with fail
    go_meet
    exact⟨by first | rfl | rw [e3],by rw [hp],by rw [Ho.out],rfl⟩
   have z4:(r.add==0)=true:=by rw [beq_iff_eq];exact y4
   have Y4:=Lib.hid y4
   clear y4
   by_cases y5:im.flags%2=1
   case neg=>
    have z5:(im.flags%2==1)=false:=by rw [beq_eq_false_iff_ne];exact y5
    have Ho:Hid (relOkB im s r=false):=Lib.hid (by rw [HO.out,decide_eq_false (p:=im.flags%2=1) y5];simp)
    clear y5
    go_wp2_with fail
    go_meet
    exact⟨by first | rfl | rw [e3],by rw [hp],by rw [Ho.out],rfl⟩
   have z5:(im.flags%2==1)=true:=by rw [beq_iff_eq];exact y5
   have Y5:=Lib.hid y5
   clear y5
   have Ho:Hid (relOkB im s r=true):=Lib.hid (by rw [HO.out,Hdd.out,decide_eq_true (p:=s.kind=2) Y0.out,decide_eq_true (p:=1≤s.size) Y2.out,decide_eq_true (p:=s.value=r.at_) Y3.out,decide_eq_true (p:=r.add=0) Y4.out,decide_eq_true (p:=im.flags%2=1) Y5.out];rfl)
   go_wp2_with fail
   go_meet
   exact⟨by first | rfl | rw [e3],by rw [hp],by rw [Ho.out],rfl⟩
  have b2:(r.kind==2)=false:=by rw [beq_eq_false_iff_ne];exact k2
  have hp:relPermL r=0:=by rw [relPermL,if_neg k2]
  have Ho:Hid (relOkB im s r=false):=Lib.hid (by rw [relOkB,if_neg (by omega),if_neg (by omega),if_neg (by omega),if_neg (by omega),if_neg k2])
  go_wp2_with fail
  go_meet
  exact⟨by first | rfl | rw [e3],by rw [hp],by rw [Ho.out],rfl⟩
 case rest=>
  obtain⟨rfl,rfl,rfl,rfl⟩:=hcut
  have hz3':w1.heap.size<wc.heap.size:=by omega
  clear hz3
  generalize w1.heap.size=zs at *
  clear hk
  cases hro:relOkB im s r with
  | false=>
   have Hr:Hid (relocB im r=false):=Lib.hid (by rw [HR.out,hro];rfl)
   clear hro i0 i1 i2 i3 i4 i5 i6 i7 i8 i9 i10 i11 i12 i13 i14 c0 c1 c2 c3 c4 c5 c6 c7 c8
   go_wp2_with fail
   refine wp_region_later (by kernel_rfl) (by kernel_rfl) ?_
   repeat (go_big_quiet_step (fail))
   refine wpQuiet_nil ?_
   rintro _ ⟨⟨wq,hq⟩,rfl⟩
   try simp only at hq
   have Hq:=Lib.hid hq
   clear hq
   go_wp2
   go_ret
   exact⟨by rw [Hr.out];rfl,B3.out.trans (Hq.out.mono (by omega))⟩
  | true=>
   have Hr:Hid (relocB im r=holdsB im.segs r.at_ (wideL im r) (relPermL r)):=Lib.hid (by rw [HR.out,hro];rfl)
   obtain⟨wd,hwdd⟩:∃ wd,wideL im r=wd:=⟨_,rfl⟩
   rw [hwdd]at hwd Hr HW
   obtain⟨pm,hpmd⟩:∃ pm,relPermL r=pm:=⟨_,rfl⟩
   rw [hpmd]at hpm Hr ⊢
   clear hwdd hpmd hro Hwd Hwd2
   have l0:=fun x:Later wc=>x.cell i0
   have l1:=fun x:Later wc=>x.cell i1
   have l2:=fun x:Later wc=>x.cell i2
   have l3:=fun x:Later wc=>x.cell i3
   have l4:=fun x:Later wc=>x.cell i4
   have l5:=fun x:Later wc=>x.cell i5
   have l6:=fun x:Later wc=>x.cell i6
   have l7:=fun x:Later wc=>x.cell i7
   have l8:=fun x:Later wc=>x.cell i8
   have l9:=fun x:Later wc=>x.cell i9
   have l10:=fun x:Later wc=>x.cell i10
   have l11:=fun x:Later wc=>x.cell i11
   have l12:=fun x:Later wc=>x.cell i12
   have l13:=fun x:Later wc=>x.cell i13
   have l14:=fun x:Later wc=>x.cell i14
   have m0:=fun x:Later wc=>x.cell r0
   have m1:=fun x:Later wc=>x.cell r1
   have m2:=fun x:Later wc=>x.cell r2
   have m3:=fun x:Later wc=>x.cell r3
   have HWr:=Lib.hid (fun w' hb=>HW.out w' hb)
   have HHr:=Lib.hid (fun w' hb=>HH.out w' r.at_ wd pm hb hra2 hwd hpm)
   clear i0 i1 i2 i3 i4 i5 i6 i7 i8 i9 i10 i11 i12 i13 i14 r0 r1 r2 r3 c0 c1 c2 c3 c4 c5 c6 c7 c8
   go_wp2_with fail
   refine wp_region_later (by kernel_rfl) (by kernel_rfl) ?_
   repeat (go_big_quiet_step (first | (go_at_call 98;refine Later.call _ (HWr.out _ ?_);exact B3.out.trans ((Later.h _).mono (by omega))) | (go_at_call 93;refine Later.call _ (HHr.out _ ?_);exact B3.out.trans ((Later.h _).mono (by omega)))))
   refine wpQuiet_nil ?_
   rintro _ ⟨⟨wq,hq⟩,rfl⟩
   try simp only at hq
   have Hq:=Lib.hid hq
   clear hq
   go_wp2
   go_ret
   exact⟨by rw [Hr.out];rfl,B3.out.trans (Hq.out.mono (by omega))⟩
end Go.Proofs.YtfchpchabdhcgaaGreat
namespace Go.Proofs.YtfchpchabdhcgaaGreat
open Go.RowKit
theorem jrelocs_any (w:World) (v:ImgV) (im:ImgL) (hs:LB kSeg (·<w.heap.size) w v.segs im.segs) (hg:segsB im.segs=true) (hy:LB kSym (·<w.heap.size) w v.syms im.syms) (hfl:0≤im.flags∧im.flags<16)
  (hr:LB kRel (·<w.heap.size) w v.relocs im.relocs) (hrr:∀ r∈im.relocs,RelOk r) (hsz:∀ s∈im.syms,0≤s.size∧s.size≤9223372036854775807) (hsl:im.syms.length≤512):
  Calls Tryz.prog 56 #[.agg (imgCells v im)] w fun e w'=>e=.returned (.bool (relocsB im))∧Below w.heap.size w w':=by
 obtain⟨ra,rb,roff,rcap,hrv,hrm,hrc,hrat⟩:=hr.at
 obtain⟨vsegs,vneeded,vrunPath,vsyms,vbuckets,vwords,vrelocs,vslots,vinit,vfini,vtls⟩:=v
 simp only at hrv
 subst hrv
 have HR:Hid (∀ (w':World) (r:RelL),Below w.heap.size w w'→RelOk r→
  Calls Tryz.prog 97 #[.agg (imgCells ⟨vsegs,vneeded,vrunPath,vsyms,vbuckets,vwords,.slice ra im.relocs.length rcap,vslots,vinit,vfini,vtls⟩ im),.agg #[.int .i64 r.at_,.int .i64 r.kind,.int .i64 r.sym,.int .i64 r.add]] w' fun e w''=>e=.returned (.bool (relocB im r))∧Below w'.heap.size w' w''):=Lib.hid (fun w' r hb hx=>jfits_any w' _ im r ((hs.below hb).mono hb.size) (segOk_of hg) ((hy.below hb).mono hb.size) hfl hx.1 hx.2.1 hx.2.2 hsz)
 have HW:Hid (∀ (w':World) (r:RelL),Below w.heap.size w w'→
  Calls Tryz.prog 98 #[.agg (imgCells ⟨vsegs,vneeded,vrunPath,vsyms,vbuckets,vwords,.slice ra im.relocs.length rcap,vslots,vinit,vfini,vtls⟩ im),.agg #[.int .i64 r.at_,.int .i64 r.kind,.int .i64 r.sym,.int .i64 r.add]] w' fun e w''=>e=.returned (.int .i64 (wideL im r))∧Below w'.heap.size w' w''):=Lib.hid (fun w' r hb=>jwide_any w' _ im r ((hy.below hb).mono hb.size))
 unfold imgCells at *
 have Hrat:=Lib.hid hrat
 have Hrr:=Lib.hid hrr
 have Hsz:=Lib.hid hsz
 have HD:Hid (relocsB im=(decide (im.relocs.length≤512)&&relocsFrom im 0 im.relocs)):=Lib.hid rfl
 have Hg:=Lib.hid hg
 clear hs hg hy hfl hr hrr hsz hrat
 generalize hI:(Array.mk [.string ⟨im.name.toArray⟩,.int .i64 im.flags,vsegs,vneeded,vrunPath,vsyms,vbuckets,vwords,.int .i64 im.shift,.slice ra im.relocs.length rcap,vslots,vinit,vfini,vtls,.int .i64 im.tlsSize]:Array Value)=I at HR HW
 have F0:=Lib.hid (heap_alloc_new w (.cells I 40 (0,0)))
 have B1:=Lib.hid ((Below.refl w.heap.size w).alloc (Nat.le_refl _) (.cells I 40 (0,0)))
 subst hI
 by_cases h5:im.relocs.length≤512
 case neg=>
  have Hn:Hid (relocsB im=false):=Lib.hid (by rw [HD.out,decide_eq_false (p:=im.relocs.length≤512) h5];rfl)
  have h6:512<im.relocs.length:=by omega
  go_enter Tryz.func56,Tryz.ntmps56
  go_wp2
  go_ret
  exact⟨by rw [Hn.out];rfl,B1.out⟩
 have h6:¬ 512<im.relocs.length:=by omega
 have HD2:Hid (relocsB im=relocsFrom im 0 im.relocs):=Lib.hid (by rw [HD.out,decide_eq_true (p:=im.relocs.length≤512) h5];rfl)
 clear HD
 go_enter Tryz.func56,Tryz.ntmps56
 go_wp2_with fail
 go_loopw [3] (fun i wr=>∃ (k:Nat) (x:Int),i=.int .i64 k∧0≤x∧x≤65536∧k≤im.relocs.length∧relocsFrom im 0 im.relocs=relocsFrom im x (im.relocs.drop k)∧(k=0→x=0)∧(∀ p,0<k→im.relocs[k-1]? =some p→x=p.at_+wideL im p∧0≤p.at_∧0≤wideL im p)∧Below w.heap.size w wr∧
  wr.heap[w.heap.size]? =some (.cells #[.string ⟨im.name.toArray⟩,.int .i64 im.flags,vsegs,vneeded,vrunPath,vsyms,vbuckets,vwords,.int .i64 im.shift,.slice ra im.relocs.length rcap,vslots,vinit,vfini,vtls,.int .i64 im.tlsSize] 40 (0,0))∧w.heap.size<wr.heap.size) (fun i _=>im.relocs.length-(intOf i).toNat)
 case atStart=>exact⟨0,0,rfl,by decide,by decide,Nat.zero_le _,by simp,fun _=>rfl,fun p h=>absurd h (Nat.lt_irrefl 0),B1.out,F0.out,by simp⟩
 case round=>
  obtain⟨k,x,rfl,hx0,hx1,hk,hse,hk0,hkp,hbel,hF,hzq⟩:=hrel
  have Hse:=Lib.hid hse
  have Hk0:=Lib.hid hk0
  have Hkp:=Lib.hid hkp
  have Hbel:=Lib.hid hbel
  have HF:=Lib.hid hF
  have hBr:=hbel.size
  clear hse hk0 hkp
  obtain⟨i0,i1,i2,i3,i4,i5,i6,i7,i8,i9,i10,i11,i12,i13,i14⟩:=img_cells hF
  by_cases hlt:k<im.relocs.length
  ·obtain rfl:=Hrat.out.addr (by omega)
   obtain⟨r,hx⟩:∃ r,im.relocs[k]? =some r:=⟨_,List.getElem?_eq_getElem hlt⟩
   obtain⟨g0,g1,g2,g3⟩:=(Hrat.out.below hbel).rel4 k r hx
   have hro:=Hrr.out r (List.mem_of_getElem? hx)
   have hro2:=hro.2.1
   have Hro:=Lib.hid hro
   have Hx:=Lib.hid hx
   have Hdc:=Lib.hid (drop_cons im.relocs k r hx)
   have HWr:Hid (0≤wideL im r):=Lib.hid (by
    unfold wideL
    split
    ·rename_i s hs
     have:=(Hsz.out s (symAt_range hs).2.2).1
     split<;>omega
    ·omega)
   have l0:=fun x:Later wr=>x.cell i0
   have l1:=fun x:Later wr=>x.cell i1
   have l2:=fun x:Later wr=>x.cell i2
   have l3:=fun x:Later wr=>x.cell i3
   have l4:=fun x:Later wr=>x.cell i4
   have l5:=fun x:Later wr=>x.cell i5
   have l6:=fun x:Later wr=>x.cell i6
   have l7:=fun x:Later wr=>x.cell i7
   have l8:=fun x:Later wr=>x.cell i8
   have l9:=fun x:Later wr=>x.cell i9
   have l10:=fun x:Later wr=>x.cell i10
   have l11:=fun x:Later wr=>x.cell i11
   have l12:=fun x:Later wr=>x.cell i12
   have l13:=fun x:Later wr=>x.cell i13
   have l14:=fun x:Later wr=>x.cell i14
   have m0:=fun x:Later wr=>x.cell g0
   have m1:=fun x:Later wr=>x.cell g1
   have m2:=fun x:Later wr=>x.cell g2
   have m3:=fun x:Later wr=>x.cell g3
   have HRr:=Lib.hid (fun w' hb=>HR.out w' r hb hro)
   clear hx hbel hF hro g0 g1 g2 g3
   go_wp2_with fail
   clear i0 i1 i2 i3 i4 i5 i6 i7 i8 i9 i10 i11 i12 i13 i14
   refine wp_region_later (by kernel_rfl) (by kernel_rfl) ?_
   repeat (go_big_quiet_step (first | (go_at_call 97;refine Later.call _ (HRr.out _ ?_);exact Hbel.out.trans ((Later.h _).mono (by omega)))))
   refine wpQuiet_nil ?_
   rintro wq ⟨⟨_,hq⟩,rfl⟩
   try simp only at hq
   obtain⟨w2,hw2⟩:∃ x:World,x=wq:=⟨_,rfl⟩
   subst hw2
   have hz2:=hq.size
   have B2:=Lib.hid (Hbel.out.trans (hq.mono (by omega)))
   have F2:=Lib.hid ((hq.block w.heap.size (by omega)).trans HF.out)
   clear hq l0 l1 l2 l3 l4 l5 l6 l7 l8 l9 l10 l11 l12 l13 l14 m0 m1 m2 m3 HRr
   cases hrb:relocB im r with
   | false=>
    have Hn:Hid (relocsB im=false):=Lib.hid (by rw [HD2.out,Hse.out,Hdc.out,relocsFrom_bad hrb])
    clear hrb
    go_wp2
    go_ret
    exact⟨by rw [Hn.out];rfl,B2.out⟩
   | true=>
   have hrg:=reloc_good Hg.out hsl hrb
   have ha0:=hrg.1.1
   have ha1:=hrg.1.2
   have hwr0:=HWr.out
   have Hyes:Hid (x≤r.at_→relocsFrom im 0 im.relocs=relocsFrom im (r.at_+wideL im r) (im.relocs.drop (k+1))):=Lib.hid (fun h=>by rw [Hse.out,Hdc.out,relocsFrom_ok h hrb])
   have Hno:Hid (¬ x≤r.at_→relocsB im=false):=Lib.hid (fun h=>by rw [HD2.out,Hse.out,Hdc.out,relocsFrom_low h])
   have Hnext:Hid (∀ p,0<k+1→im.relocs[k+1-1]? =some p→r.at_+wideL im r=p.at_+wideL im p∧0≤p.at_∧0≤wideL im p):=Lib.hid (fun p _ hp=>by
    rw [Nat.add_sub_cancel,Hx.out]at hp
    obtain rfl:=Option.some.inj hp
    exact⟨rfl,ha0,HWr.out⟩)
   have HX:Hid (0≤r.at_+wideL im r∧r.at_+wideL im r≤65536):=Lib.hid (by omega)
   clear hrg hrb ha1 hwr0
   obtain⟨i0,i1,i2,i3,i4,i5,i6,i7,i8,i9,i10,i11,i12,i13,i14⟩:=img_cells F2.out
   obtain⟨g0,g1,g2,g3⟩:=(Hrat.out.below B2.out).rel4 k r Hx.out
   by_cases hk1:k=0
   ·subst hk1
    have he:=Hk0.out rfl
    subst he
    have Hy:=Lib.hid (Hyes.out ha0)
    clear Hyes Hno
    clear i0 i1 i2 i3 i4 i5 i6 i7 i8 i9 i10 i11 i12 i13 i14 g0 g1 g2 g3
    go_wp2_with fail
    refine wp_region_later (by kernel_rfl) (by kernel_rfl) ?_
    repeat (go_big_quiet_step (fail))
    refine wpQuiet_nil ?_
    rintro _ ⟨⟨wq,hq⟩,rfl⟩
    try simp only at hq
    have Hq:=Lib.hid hq
    clear hq
    go_wp2
    go_roundw
    case rel=>
     have hq:=Hq.out
     have:=hq.size
     exact⟨1,_,by go_num,HX.out.1,HX.out.2,by omega,Hy.out,fun h=>by omega,Hnext.out,B2.out.trans (hq.mono (by omega)),(hq.block w.heap.size (by omega)).trans F2.out,by omega⟩
    case measure=>simp [intOf];omega
   ·obtain⟨p,hp⟩:∃ p,im.relocs[k-1]? =some p:=⟨_,List.getElem?_eq_getElem (by omega)⟩
    obtain⟨hpe,p0,p1⟩:=Hkp.out p (by omega) hp
    obtain⟨q0,q1,q2,q3⟩:=(Hrat.out.below B2.out).rel4 (k-1) p hp
    have hk2:0<k:=by omega
    obtain⟨kk,rfl⟩:∃ kk,k=kk+1:=⟨k-1,by omega⟩
    simp only [Nat.add_sub_cancel]at q0 q1 q2 q3
    have hsbz:rb<w2.heap.size:=World.block_lt_of_cell? _ _ q0
    have hkk0:(0:Int)≤kk:=by omega
    have hkk1:(kk:Int)<im.relocs.length:=by omega
    have hkk2:kk<im.relocs.length:=by omega
    have HWp:=Lib.hid (fun w' hb=>HW.out w' p hb)
    obtain⟨wd,hwd⟩:∃ wd,wideL im p=wd:=⟨_,rfl⟩
    rw [hwd]at HWp hpe p1
    have hpx:p.at_≤65536:=by omega
    have hwx:wd≤65536:=by omega
    have Hpe:=Lib.hid hpe
    clear hpe hwd
    have l0:=fun x:Later w2=>x.cell i0
    have l1:=fun x:Later w2=>x.cell i1
    have l2:=fun x:Later w2=>x.cell i2
    have l3:=fun x:Later w2=>x.cell i3
    have l4:=fun x:Later w2=>x.cell i4
    have l5:=fun x:Later w2=>x.cell i5
    have l6:=fun x:Later w2=>x.cell i6
    have l7:=fun x:Later w2=>x.cell i7
    have l8:=fun x:Later w2=>x.cell i8
    have l9:=fun x:Later w2=>x.cell i9
    have l10:=fun x:Later w2=>x.cell i10
    have l11:=fun x:Later w2=>x.cell i11
    have l12:=fun x:Later w2=>x.cell i12
    have l13:=fun x:Later w2=>x.cell i13
    have l14:=fun x:Later w2=>x.cell i14
    have m0:=fun x:Later w2=>x.cell g0
    have n0:=fun x:Later w2=>x.cell q0
    have n1:=fun x:Later w2=>x.cell q1
    have n2:=fun x:Later w2=>x.cell q2
    have n3:=fun x:Later w2=>x.cell q3
    clear hp i0 i1 i2 i3 i4 i5 i6 i7 i8 i9 i10 i11 i12 i13 i14 g0 g1 g2 g3 q0 q1 q2 q3
    by_cases h1:p.at_+wd≤r.at_
    ·have Hy:=Lib.hid (Hyes.out (by rw [Hpe.out];exact h1))
     clear Hyes Hno
     go_wp2_with fail
     refine wp_region_later (by kernel_rfl) (by kernel_rfl) ?_
     repeat (go_big_quiet_step (first | (go_at_call 98;refine Later.call _ (HWp.out _ ?_);exact B2.out.trans ((Later.h _).mono (by omega)))))
     refine wpQuiet_nil ?_
     rintro _ ⟨⟨wq,hq⟩,rfl⟩
     try simp only at hq
     have Hq:=Lib.hid hq
     clear hq l0 l1 l2 l3 l4 l5 l6 l7 l8 l9 l10 l11 l12 l13 l14 m0 n0 n1 n2 n3
     go_wp2
     go_roundw
     case rel=>
      have hq:=Hq.out
      have:=hq.size
      exact⟨kk+1+1,_,by go_num,HX.out.1,HX.out.2,by omega,Hy.out,fun h=>by omega,Hnext.out,B2.out.trans (hq.mono (by omega)),(hq.block w.heap.size (by omega)).trans F2.out,by omega⟩
     case measure=>simp [intOf];omega
    ·have Hn:Hid (relocsB im=false):=Lib.hid (Hno.out (by rw [Hpe.out];exact h1))
     clear Hyes Hno
     go_wp2_with fail
     refine wp_region_later (by kernel_rfl) (by kernel_rfl) ?_
     repeat (go_big_quiet_step (first | (go_at_call 98;refine Later.call _ (HWp.out _ ?_);exact B2.out.trans ((Later.h _).mono (by omega)))))
     refine wpQuiet_nil ?_
     rintro _ ⟨⟨wq,hq⟩,rfl⟩
     try simp only at hq
     have Hq:=Lib.hid hq
     clear hq l0 l1 l2 l3 l4 l5 l6 l7 l8 l9 l10 l11 l12 l13 l14 m0 n0 n1 n2 n3
     go_wp2
     go_ret
     exact⟨by rw [Hn.out];rfl,B2.out.trans (Hq.out.mono (by omega))⟩
  ·have hd:Hid (relocsB im=true):=Lib.hid (by rw [HD2.out,Hse.out,List.drop_eq_nil_of_le (by omega)];rfl)
   clear hbel hF
   go_wp2
   go_ret
   exact⟨by rw [hd.out];rfl,Hbel.out⟩
end Go.Proofs.YtfchpchabdhcgaaGreat
namespace Go.Proofs.YtfchpchabdhcgaaGreat
open Go.RowKit
def slot0B (im:ImgL) (s:SlotL):Bool:=(match symAt im s.sym with
   | some x=>decide (x.kind=1)
   | none=>false)&&holdsB im.segs s.at_ 8 0&&holdsB im.segs s.stub 8 4
theorem slotB_0 (im:ImgL) (s:SlotL):slotB im s=(slot0B im s&&im.relocs.all fun r=> !meetB im s r):=rfl
theorem slot0B_none {im:ImgL} {s:SlotL} (h:symAt im s.sym=none):slot0B im s=false:=by rw [slot0B,h];rfl
theorem slot0B_some {im:ImgL} {s:SlotL} {x:SymL} (h:symAt im s.sym=some x):slot0B im s=(decide (x.kind=1)&&holdsB im.segs s.at_ 8 0&&holdsB im.segs s.stub 8 4):=by rw [slot0B,h]
theorem jslots_any (w:World) (v:ImgV) (im:ImgL) (hs:LB kSeg (·<w.heap.size) w v.segs im.segs) (hg:segsB im.segs=true) (hy:LB kSym (·<w.heap.size) w v.syms im.syms)
    (hr:LB kRel (·<w.heap.size) w v.relocs im.relocs) (hrr:∀ r∈im.relocs,RelOk r) (hrel:relocsB im=true) (hsz:∀ s∈im.syms,0≤s.size∧s.size≤9223372036854775807) (hsl:im.syms.length≤512)
    (ht:LB kSlot (·<w.heap.size) w v.slots im.slots) (hto:∀ s∈im.slots,SlotOk s):
    Calls Tryz.prog 57 #[.agg (imgCells v im)] w fun e w'=>e=.returned (.bool (slotsB im))∧Below w.heap.size w w':=by
  obtain⟨sa,sb,soff,scap,hsv,hsm,hsc,hsat⟩:=hy.at
  obtain⟨ra,rb,roff,rcap,hrv,hrm,hrc,hrat⟩:=hr.at
  obtain⟨ta,tb,toff,tcap,htv,htm,htc,htat⟩:=ht.at
  obtain⟨vsegs,vneeded,vrunPath,vsyms,vbuckets,vwords,vrelocs,vslots,vinit,vfini,vtls⟩:=v
  simp only at hsv hrv htv
  subst hsv hrv htv
  have HH:Hid (∀ (w':World) (x n p:Int),Below w.heap.size w w'→(-9223372036854775808≤x∧x≤9223372036854775807)→(0≤n∧n≤9223372036854775807)→p=0∨p=2∨p=4→
    Calls Tryz.prog 93 #[.agg (imgCells ⟨vsegs,vneeded,vrunPath,.slice sa im.syms.length scap,vbuckets,vwords,.slice ra im.relocs.length rcap,.slice ta im.slots.length tcap,vinit,vfini,vtls⟩ im),.int .i64 x,.int .i64 n,.int .i64 p] w' fun e w''=>e=.returned (.bool (holdsB im.segs x n p))∧Below w'.heap.size w' w''):=Lib.hid (fun w' x n p hb hx hn hp=>jstands_any w' _ im x n p ((hs.below hb).mono hb.size) (segOk_of hg) hx hn hp)
  have HW:Hid (∀ (w':World) (r:RelL),Below w.heap.size w w'→
    Calls Tryz.prog 98 #[.agg (imgCells ⟨vsegs,vneeded,vrunPath,.slice sa im.syms.length scap,vbuckets,vwords,.slice ra im.relocs.length rcap,.slice ta im.slots.length tcap,vinit,vfini,vtls⟩ im),.agg #[.int .i64 r.at_,.int .i64 r.kind,.int .i64 r.sym,.int .i64 r.add]] w' fun e w''=>e=.returned (.int .i64 (wideL im r))∧Below w'.heap.size w' w''):=Lib.hid (fun w' r hb=>jwide_any w' _ im r ((hy.below hb).mono hb.size))
  unfold imgCells at *
  have Hsat:=Lib.hid hsat
  have Hrat:=Lib.hid hrat
  have Htat:=Lib.hid htat
  have Hto:=Lib.hid hto
  have HD:Hid (slotsB im=(decide (im.slots.length≤128)&&slotsFrom im 0 im.slots)):=Lib.hid rfl
  have Hg:=Lib.hid hg
  have Hrel:Hid (∀ r∈im.relocs,0≤r.at_∧r.at_≤65536∧0≤wideL im r∧wideL im r≤65536):=Lib.hid (by
    have h:=hrel
    simp only [relocsB,Bool.and_eq_true]at h
    intro r hm
    have h1:=(reloc_good hg hsl (relocsFrom_each im _ _ h.2 r hm)).1
    have h2:0≤wideL im r:=by
      unfold wideL
      split
      · rename_i s hs
        have:=(hsz s (symAt_range hs).2.2).1
        split<;>omega
      · omega
    omega)
  clear hs hg hy hr hrr hrel hsz ht hto hsat hrat htat
  generalize hI:(Array.mk [.string ⟨im.name.toArray⟩,.int .i64 im.flags,vsegs,vneeded,vrunPath,.slice sa im.syms.length scap,vbuckets,vwords,.int .i64 im.shift,.slice ra im.relocs.length rcap,.slice ta im.slots.length tcap,vinit,vfini,vtls,.int .i64 im.tlsSize]:Array Value)=I at HH HW
  have F0:=Lib.hid (heap_alloc_new w (.cells I 40 (0,0)))
  have B1:=Lib.hid ((Below.refl w.heap.size w).alloc (Nat.le_refl _) (.cells I 40 (0,0)))
  subst hI
  by_cases h5:im.slots.length≤128
  case neg=>
    have Hn:Hid (slotsB im=false):=Lib.hid (by rw [HD.out,decide_eq_false (p:=im.slots.length≤128) h5];rfl)
    have h6:128<im.slots.length:=by omega
    go_enter Tryz.func57,Tryz.ntmps57
    go_wp2
    go_ret
    exact⟨by rw [Hn.out];rfl,B1.out⟩
  have h6:¬ 128<im.slots.length:=by omega
  have HD2:Hid (slotsB im=slotsFrom im 0 im.slots):=Lib.hid (by rw [HD.out,decide_eq_true (p:=im.slots.length≤128) h5];rfl)
  clear HD
  go_enter Tryz.func57,Tryz.ntmps57
  go_wp2_with fail
  go_loopw [3] (fun i wr=>∃ (k:Nat) (x:Int),i=.int .i64 k∧0≤x∧x≤100000∧k≤im.slots.length∧slotsFrom im 0 im.slots=slotsFrom im x (im.slots.drop k)∧(k=0→x=0)∧(∀ p,0<k→im.slots[k-1]? =some p→x=p.at_+8∧0≤p.at_)∧Below w.heap.size w wr∧
    wr.heap[w.heap.size]? =some (.cells #[.string ⟨im.name.toArray⟩,.int .i64 im.flags,vsegs,vneeded,vrunPath,.slice sa im.syms.length scap,vbuckets,vwords,.int .i64 im.shift,.slice ra im.relocs.length rcap,.slice ta im.slots.length tcap,vinit,vfini,vtls,.int .i64 im.tlsSize] 40 (0,0))∧w.heap.size<wr.heap.size) (fun i _=>im.slots.length-(intOf i).toNat)
  case atStart=>exact⟨0,0,rfl,by decide,by decide,Nat.zero_le _,by simp,fun _=>rfl,fun p h=>absurd h (Nat.lt_irrefl 0),B1.out,F0.out,by simp⟩
  case round=>
    obtain⟨k,x,rfl,hx0,hx1,hk,hse,hk0,hkp,hbel,hF,hzq⟩:=hrel
    have Hse:=Lib.hid hse
    have Hk0:=Lib.hid hk0
    have Hkp:=Lib.hid hkp
    have Hbel:=Lib.hid hbel
    have hBr:=hbel.size
    clear hse hk0 hkp
    obtain⟨i0,i1,i2,i3,i4,i5,i6,i7,i8,i9,i10,i11,i12,i13,i14⟩:=img_cells hF
    by_cases hlt:k<im.slots.length
    · obtain rfl:=Htat.out.addr (by omega)
      obtain⟨s,hx⟩:∃ s,im.slots[k]? =some s:=⟨_,List.getElem?_eq_getElem hlt⟩
      obtain⟨g0,g1,g2⟩:=(Htat.out.below hbel).slot3 k s hx
      have hso:=Hto.out s (List.mem_of_getElem? hx)
      have hsa:=hso.2.1
      have Hso:=Lib.hid hso
      have Hx:=Lib.hid hx
      have Hdc:=Lib.hid (drop_cons im.slots k s hx)
      have hsb:=World.block_lt_of_cell? _ _ g0
      have HFs:=Lib.hid (heap_alloc_new wr (.cells #[.int .i64 s.at_,.int .i64 s.sym,.int .i64 s.stub] 76 (0,0)))
      have HFi:=Lib.hid ((heap_alloc_old wr (.cells #[.int .i64 s.at_,.int .i64 s.sym,.int .i64 s.stub] 76 (0,0)) hzq).trans hF)
      have HBs:=Lib.hid (Hbel.out.alloc hBr (.cells #[.int .i64 s.at_,.int .i64 s.sym,.int .i64 s.stub] 76 (0,0)))
      clear hx hbel hF Hbel hso
      go_upto_region 7 with fail
      have hz1:wr.heap.size<(wr.alloc (.cells #[.int .i64 s.at_,.int .i64 s.sym,.int .i64 s.stub] 76 (0,0))).heap.size:=by simp
      generalize wr.alloc (.cells #[.int .i64 s.at_,.int .i64 s.sym,.int .i64 s.stub] 76 (0,0))=w1 at *
      generalize wr.heap.size=zs at *
      clear g0 g1 g2 i0 i1 i2 i3 i4 i5 i6 i7 i8 i9 i10 i11 i12 i13 i14
      have t0:w1.cell? ⟨zs,0,none⟩=some (.int .i64 s.at_):=by rw [Lib.cell_of_heap HFs.out];rfl
      have t1:w1.cell? ⟨zs,1,none⟩=some (.int .i64 s.sym):=by rw [Lib.cell_of_heap HFs.out];rfl
      have t2:w1.cell? ⟨zs,2,none⟩=some (.int .i64 s.stub):=by rw [Lib.cell_of_heap HFs.out];rfl
      obtain⟨i0,i1,i2,i3,i4,i5,i6,i7,i8,i9,i10,i11,i12,i13,i14⟩:=img_cells HFi.out
      go_cut [57] (fun s57 wx=>s57=.bool (!slot0B im s)∧Below w1.heap.size w1 wx)
      case first=>
        by_cases k0:s.sym<0
        · have d0:decide (s.sym<0)=true:=by rw [decide_eq_true_eq];exact k0
          have Hn:=Lib.hid (slot0B_none (im:=im) (symAt_neg im s.sym k0))
          clear k0
          go_wp2_with fail
          go_meet
          exact⟨by rw [Hn.out];rfl,Below.refl _ _⟩
        have d0:decide (s.sym<0)=false:=by rw [decide_eq_false_iff_not];exact k0
        by_cases k1:(im.syms.length:Int)≤s.sym
        · have d1:decide ((im.syms.length:Int)≤s.sym)=true:=by rw [decide_eq_true_eq];exact k1
          have Hn:=Lib.hid (slot0B_none (im:=im) (symAt_far im s.sym k1))
          clear k1
          go_wp2_with fail
          go_meet
          exact⟨by rw [Hn.out];rfl,Below.refl _ _⟩
        have d1:decide ((im.syms.length:Int)≤s.sym)=false:=by rw [decide_eq_false_iff_not];exact k1
        obtain⟨m,hm⟩:∃ m:Nat,s.sym=m:=⟨s.sym.toNat,by omega⟩
        have hmlt:m<im.syms.length:=by omega
        obtain rfl:=Hsat.out.addr (by omega)
        obtain⟨y,hy⟩:∃ y,im.syms[m]? =some y:=⟨_,List.getElem?_eq_getElem hmlt⟩
        have hsa2:symAt im s.sym=some y:=by rw [hm];exact symAt_in im m y hy
        have HN:=Lib.hid (slot0B_some hsa2)
        obtain⟨_,_,_,_,y3,_,_,_,_,_⟩:=(Hsat.out.below HBs.out).sym9 m y hy
        have HH1:=Lib.hid (HH.out w1 s.at_ 8 0 HBs.out Hso.out.2.1 (by decide) (by decide))
        rw [hm]at t1 d0 d1
        have d1n:decide (im.syms.length≤m)=false:=by rw [decide_eq_false_iff_not];omega
        have hm0:(0:Int)≤m:=by omega
        have hm1:(m:Int)<im.syms.length:=by omega
        clear hsa2 hy hm k0 k1
        by_cases hk:y.kind=1
        case neg=>
          have b1:(y.kind != 1)=true:=by rw [bne_iff_ne];exact hk
          have Hn:Hid (slot0B im s=false):=Lib.hid (by rw [HN.out,decide_eq_false (p:=y.kind=1) hk];rfl)
          clear hk
          go_wp2_with fail
          go_meet
          exact⟨by rw [Hn.out];rfl,Below.refl _ _⟩
        have b1:(y.kind != 1)=false:=by rw [bne_eq_false_iff_eq];exact hk
        have HN2:Hid (slot0B im s=(holdsB im.segs s.at_ 8 0&&holdsB im.segs s.stub 8 4)):=Lib.hid (by rw [HN.out,decide_eq_true (p:=y.kind=1) hk];rfl)
        clear hk
        go_wp2_with fail
        refine HH1.out.mono ?_
        rintro e w2 ⟨rfl,hb2⟩
        have hz2:=hb2.size
        have S2:=Lib.hid ((hb2.block zs (by omega)).trans HFs.out)
        have F2:=Lib.hid ((hb2.block w.heap.size (by omega)).trans HFi.out)
        have B2:=Lib.hid (HBs.out.trans (hb2.mono (by omega)))
        have HB2:=Lib.hid hb2
        clear hb2 t0 t1 t2 i0 i1 i2 i3 i4 i5 i6 i7 i8 i9 i10 i11 i12 i13 i14 y3 HH1
        cases hh1:holdsB im.segs s.at_ 8 0 with
        | false=>
          have Hn:Hid (slot0B im s=false):=Lib.hid (by rw [HN2.out,hh1];rfl)
          clear hh1
          go_wp2_with fail
          go_meet
          exact⟨by rw [Hn.out];rfl,HB2.out⟩
        | true=>
          have HN3:Hid (slot0B im s=holdsB im.segs s.stub 8 4):=Lib.hid (by rw [HN2.out,hh1];rfl)
          clear hh1
          have t0:w2.cell? ⟨zs,0,none⟩=some (.int .i64 s.at_):=by rw [Lib.cell_of_heap S2.out];rfl
          have t2:w2.cell? ⟨zs,2,none⟩=some (.int .i64 s.stub):=by rw [Lib.cell_of_heap S2.out];rfl
          obtain⟨i0,i1,i2,i3,i4,i5,i6,i7,i8,i9,i10,i11,i12,i13,i14⟩:=img_cells F2.out
          have HH2:=Lib.hid (HH.out w2 s.stub 8 4 B2.out Hso.out.2.2 (by decide) (by decide))
          go_wp2_with fail
          refine HH2.out.mono ?_
          rintro e w3 ⟨rfl,hb3⟩
          have HB3:=Lib.hid (HB2.out.trans (hb3.mono (by omega)))
          clear hb3 t0 t2 i0 i1 i2 i3 i4 i5 i6 i7 i8 i9 i10 i11 i12 i13 i14 HH2
          cases hh2:holdsB im.segs s.stub 8 4 with
          | false=>
            have Hn:Hid (slot0B im s=false):=Lib.hid (by rw [HN3.out,hh2])
            clear hh2
            go_wp2_with fail
            go_meet
            exact⟨by rw [Hn.out];first | rfl | (rw [d1n];rfl),HB3.out⟩
          | true=>
            have Hn:Hid (slot0B im s=true):=Lib.hid (by rw [HN3.out,hh2])
            clear hh2
            go_wp2_with fail
            go_meet
            exact⟨by rw [Hn.out];first | rfl | (rw [d1n];rfl),HB3.out⟩
      case rest=>
        obtain⟨rfl,hbc⟩:=hcut
        have hzc:=hbc.size
        have Bc:=Lib.hid (HBs.out.trans (hbc.mono (by omega)))
        have Fc:=Lib.hid ((hbc.block w.heap.size (by omega)).trans HFi.out)
        have Sc:=Lib.hid ((hbc.block zs (by omega)).trans HFs.out)
        clear hbc t0 t1 t2 i0 i1 i2 i3 i4 i5 i6 i7 i8 i9 i10 i11 i12 i13 i14 HFi HFs
        cases hsl0:slot0B im s with
        | false=>
          have Hn:Hid (slotsB im=false):=Lib.hid (by rw [HD2.out,Hse.out,Hdc.out,slotsFrom_bad (by rw [slotB_0,hsl0];rfl)])
          clear hsl0
          go_wp2
          go_ret
          exact⟨by rw [Hn.out];rfl,Bc.out⟩
        | true=>
        have Hrg:Hid (0≤s.at_∧s.at_≤65536):=Lib.hid (by
          have h:=hsl0
          unfold slot0B at h
          simp only [Bool.and_eq_true]at h
          have:=holds_range (segs_good Hg.out) h.1.2
          omega)
        have ha0:=Hrg.out.1
        have ha1:=Hrg.out.2
        have HS0:=Lib.hid hsl0
        clear hsl0
        have Hnext:Hid (∀ p,0<k+1→im.slots[k+1-1]? =some p→s.at_+8=p.at_+8∧0≤p.at_):=Lib.hid (fun p _ hp=>by
          rw [Nat.add_sub_cancel,Hx.out]at hp
          obtain rfl:=Option.some.inj hp
          exact⟨rfl,Hrg.out.1⟩)
        obtain⟨w2,hw2⟩:∃ x:World,x=wc:=⟨_,rfl⟩
        subst hw2
        go_upto_region 9 with fail
        go_cut [72] (fun s72 wx=>s72=.bool (decide (s.at_<x))∧Below w2.heap.size w2 wx)
        case first=>
          obtain⟨i0,i1,i2,i3,i4,i5,i6,i7,i8,i9,i10,i11,i12,i13,i14⟩:=img_cells Fc.out
          have t0:w2.cell? ⟨zs,0,none⟩=some (.int .i64 s.at_):=by rw [Lib.cell_of_heap Sc.out];rfl
          have m0:=fun x:Later w2=>x.cell t0
          have l0:=fun x:Later w2=>x.cell i0
          have l1:=fun x:Later w2=>x.cell i1
          have l2:=fun x:Later w2=>x.cell i2
          have l3:=fun x:Later w2=>x.cell i3
          have l4:=fun x:Later w2=>x.cell i4
          have l5:=fun x:Later w2=>x.cell i5
          have l6:=fun x:Later w2=>x.cell i6
          have l7:=fun x:Later w2=>x.cell i7
          have l8:=fun x:Later w2=>x.cell i8
          have l9:=fun x:Later w2=>x.cell i9
          have l10:=fun x:Later w2=>x.cell i10
          have l11:=fun x:Later w2=>x.cell i11
          have l12:=fun x:Later w2=>x.cell i12
          have l13:=fun x:Later w2=>x.cell i13
          have l14:=fun x:Later w2=>x.cell i14
          by_cases hk1:k=0
          · subst hk1
            have he:=Hk0.out rfl
            subst he
            have hd:Hid (decide (s.at_<0)=false):=Lib.hid (by rw [decide_eq_false_iff_not];omega)
            clear i0 i1 i2 i3 i4 i5 i6 i7 i8 i9 i10 i11 i12 i13 i14 t0
            refine wp_region_later (by kernel_rfl) (by kernel_rfl) ?_
            repeat (go_big_quiet_step (fail))
            refine wpQuiet_nil ?_
            rintro wq ⟨⟨_,hq⟩,rfl⟩
            try simp only at hq
            have Hq:=Lib.hid hq
            clear hq
            go_wp2_with fail
            go_meet
            exact⟨by rw [hd.out],Hq.out⟩
          · obtain⟨p,hp⟩:∃ p,im.slots[k-1]? =some p:=⟨_,List.getElem?_eq_getElem (by omega)⟩
            obtain⟨hpe,p0⟩:=Hkp.out p (by omega) hp
            obtain⟨q0,q1,q2⟩:=(Htat.out.below Bc.out).slot3 (k-1) p hp
            have hk2:0<k:=by omega
            obtain⟨kk,rfl⟩:∃ kk,k=kk+1:=⟨k-1,by omega⟩
            simp only [Nat.add_sub_cancel]at q0 q1 q2
            have hkk0:(0:Int)≤kk:=by omega
            have hkk1:(kk:Int)<im.slots.length:=by omega
            have hkk2:kk<im.slots.length:=by omega
            have hpx:p.at_≤100000:=by omega
            have n0:=fun x:Later w2=>x.cell q0
            have Hpe:=Lib.hid hpe
            clear hpe hp i0 i1 i2 i3 i4 i5 i6 i7 i8 i9 i10 i11 i12 i13 i14 t0 q0 q1 q2
            refine wp_region_later (by kernel_rfl) (by kernel_rfl) ?_
            repeat (go_big_quiet_step (fail))
            refine wpQuiet_nil ?_
            rintro wq ⟨⟨_,hq⟩,rfl⟩
            try simp only at hq
            have Hq:=Lib.hid hq
            clear hq
            go_wp2_with fail
            go_meet
            exact⟨by rw [Hpe.out],Hq.out⟩
        case rest=>
          obtain⟨rfl,hbd⟩:=hcut
          have hzd:=hbd.size
          have Bd:=Lib.hid (Bc.out.trans (hbd.mono (by omega)))
          have Fd:=Lib.hid ((hbd.block w.heap.size (by omega)).trans Fc.out)
          have Sd:=Lib.hid ((hbd.block zs (by omega)).trans Sc.out)
          clear hbd Fc Sc
          obtain⟨w3,hw3⟩:∃ x:World,x=wc:=⟨_,rfl⟩
          subst hw3
          by_cases h1:x≤s.at_
          case neg=>
            have Hn:Hid (slotsB im=false):=Lib.hid (by rw [HD2.out,Hse.out,Hdc.out,slotsFrom_low h1])
            have hd:decide (s.at_<x)=true:=by rw [decide_eq_true_eq];omega
            go_wp2
            go_ret
            exact⟨by rw [Hn.out];rfl,Bd.out⟩
          have hd:decide (s.at_<x)=false:=by rw [decide_eq_false_iff_not];omega
          have Hyes:Hid (slotB im s=true→slotsFrom im 0 im.slots=slotsFrom im (s.at_+8) (im.slots.drop (k+1))):=Lib.hid (fun h=>by rw [Hse.out,Hdc.out,slotsFrom_ok h1 h])
          have hz3:zs<w3.heap.size:=by omega
          have hz4:w.heap.size<w3.heap.size:=by omega
          clear hzc hzd
          go_wp2_with fail
          go_loopw [5] (fun i wi=>∃ (q:Nat),i=.int .i64 q∧q≤im.relocs.length∧(im.relocs.take q).all (fun r=> !meetB im s r)=true∧Below w3.heap.size w3 wi) (fun i _=>im.relocs.length-(intOf i).toNat)
          case atStart=>exact⟨0,rfl,Nat.zero_le _,rfl,Below.refl _ _⟩
          case round=>
            obtain⟨q,rfl,hq,hall,hbi⟩:=hrel
            have Hall:=Lib.hid hall
            have Hbi:=Lib.hid hbi
            have hzi:=hbi.size
            clear hall
            obtain⟨i0,i1,i2,i3,i4,i5,i6,i7,i8,i9,i10,i11,i12,i13,i14⟩:=img_cells ((hbi.block w.heap.size (by omega)).trans Fd.out)
            by_cases hlt2:q<im.relocs.length
            · obtain rfl:=Hrat.out.addr (by omega)
              obtain⟨r,hxr⟩:∃ r,im.relocs[q]? =some r:=⟨_,List.getElem?_eq_getElem hlt2⟩
              obtain⟨g0,g1,g2,g3⟩:=(Hrat.out.below (Bd.out.trans (hbi.mono (by omega)))).rel4 q r hxr
              obtain⟨ra0,ra1,rw0,rw1⟩:=Hrel.out r (List.mem_of_getElem? hxr)
              have Hsq:=Lib.hid (all_take_snoc (fun r=> !meetB im s r) im.relocs q r hxr)
              have Hme:=Lib.hid (fun h=>slotB_meet (s:=s) hxr h)
              have HWr:=Lib.hid (fun w' hb=>HW.out w' r hb)
              have hrbw:=World.block_lt_of_cell? _ _ g0
              have HFr:=Lib.hid (heap_alloc_new wr (.cells #[.int .i64 r.at_,.int .i64 r.kind,.int .i64 r.sym,.int .i64 r.add] 53 (0,0)))
              have HF5:=Lib.hid ((heap_alloc_old wr (.cells #[.int .i64 r.at_,.int .i64 r.kind,.int .i64 r.sym,.int .i64 r.add] 53 (0,0)) (r:=w.heap.size) (by omega)).trans ((hbi.block w.heap.size (by omega)).trans Fd.out))
              have HS5:=Lib.hid ((heap_alloc_old wr (.cells #[.int .i64 r.at_,.int .i64 r.kind,.int .i64 r.sym,.int .i64 r.add] 53 (0,0)) (r:=zs) (by omega)).trans ((hbi.block zs (by omega)).trans Sd.out))
              have HB5:=Lib.hid (hbi.alloc hzi (.cells #[.int .i64 r.at_,.int .i64 r.kind,.int .i64 r.sym,.int .i64 r.add] 53 (0,0)))
              have hz5:wr.heap.size<(wr.alloc (.cells #[.int .i64 r.at_,.int .i64 r.kind,.int .i64 r.sym,.int .i64 r.add] 53 (0,0))).heap.size:=by simp
              clear hxr hbi Hbi
              go_upto_region 15 with fail
              generalize wr.alloc (.cells #[.int .i64 r.at_,.int .i64 r.kind,.int .i64 r.sym,.int .i64 r.add] 53 (0,0))=w5 at *
              generalize wr.heap.size=zr at *
              clear g0 g1 g2 g3 i0 i1 i2 i3 i4 i5 i6 i7 i8 i9 i10 i11 i12 i13 i14
              have t0:w5.cell? ⟨zs,0,none⟩=some (.int .i64 s.at_):=by rw [Lib.cell_of_heap HS5.out];rfl
              have u0:w5.cell? ⟨zr,0,none⟩=some (.int .i64 r.at_):=by rw [Lib.cell_of_heap HFr.out];rfl
              have u1:w5.cell? ⟨zr,1,none⟩=some (.int .i64 r.kind):=by rw [Lib.cell_of_heap HFr.out];rfl
              have u2:w5.cell? ⟨zr,2,none⟩=some (.int .i64 r.sym):=by rw [Lib.cell_of_heap HFr.out];rfl
              have u3:w5.cell? ⟨zr,3,none⟩=some (.int .i64 r.add):=by rw [Lib.cell_of_heap HFr.out];rfl
              obtain⟨i0,i1,i2,i3,i4,i5,i6,i7,i8,i9,i10,i11,i12,i13,i14⟩:=img_cells HF5.out
              have HME:Hid (meetB im s r=(decide (s.at_<r.at_+wideL im r)&&decide (r.at_<s.at_+8))):=Lib.hid (by unfold meetB;rw [Bool.and_comm])
              have l0:=fun x:Later w5=>x.cell i0
              have l1:=fun x:Later w5=>x.cell i1
              have l2:=fun x:Later w5=>x.cell i2
              have l3:=fun x:Later w5=>x.cell i3
              have l4:=fun x:Later w5=>x.cell i4
              have l5:=fun x:Later w5=>x.cell i5
              have l6:=fun x:Later w5=>x.cell i6
              have l7:=fun x:Later w5=>x.cell i7
              have l8:=fun x:Later w5=>x.cell i8
              have l9:=fun x:Later w5=>x.cell i9
              have l10:=fun x:Later w5=>x.cell i10
              have l11:=fun x:Later w5=>x.cell i11
              have l12:=fun x:Later w5=>x.cell i12
              have l13:=fun x:Later w5=>x.cell i13
              have l14:=fun x:Later w5=>x.cell i14
              have m0:=fun x:Later w5=>x.cell t0
              have n0:=fun x:Later w5=>x.cell u0
              have n1:=fun x:Later w5=>x.cell u1
              have n2:=fun x:Later w5=>x.cell u2
              have n3:=fun x:Later w5=>x.cell u3
              obtain⟨wd,hwd⟩:∃ wd,wideL im r=wd:=⟨_,rfl⟩
              rw [hwd]at HWr HME rw0 rw1
              clear hwd t0 u0 u1 u2 u3 i0 i1 i2 i3 i4 i5 i6 i7 i8 i9 i10 i11 i12 i13 i14
              have B5:=Lib.hid (Bd.out.trans (HB5.out.mono (by omega)))
              by_cases e1:s.at_<r.at_+wd
              case neg=>
                have b1:decide (s.at_<r.at_+wd)=false:=by rw [decide_eq_false_iff_not];exact e1
                have Hm:Hid ((im.relocs.take (q+1)).all (fun r=> !meetB im s r)=true):=Lib.hid (by rw [Hsq.out,Hall.out,HME.out,b1];rfl)
                clear e1
                go_wp2_with fail
                refine wp_region_later (by kernel_rfl) (by kernel_rfl) ?_
                repeat (go_big_quiet_step (first | (go_at_call 98;refine Later.call _ (HWr.out _ ?_);exact B5.out.trans ((Later.h _).mono (by omega)))))
                refine wpQuiet_nil ?_
                rintro wq ⟨⟨_,hq⟩,rfl⟩
                try simp only at hq
                have Hq:=Lib.hid (HB5.out.trans (hq.mono (by omega)))
                clear hq l0 l1 l2 l3 l4 l5 l6 l7 l8 l9 l10 l11 l12 l13 l14 m0 n0 n1 n2 n3
                go_wp2
                go_roundw
                case rel=>exact⟨q+1,by go_num,by omega,Hm.out,Hq.out⟩
                case measure=>simp [intOf];omega
              have b1:decide (s.at_<r.at_+wd)=true:=by rw [decide_eq_true_eq];exact e1
              by_cases e2:r.at_<s.at_+8
              case neg=>
                have b2:decide (r.at_<s.at_+8)=false:=by rw [decide_eq_false_iff_not];exact e2
                have Hm:Hid ((im.relocs.take (q+1)).all (fun r=> !meetB im s r)=true):=Lib.hid (by rw [Hsq.out,Hall.out,HME.out,b2,b1];rfl)
                clear e1 e2
                go_wp2_with fail
                refine wp_region_later (by kernel_rfl) (by kernel_rfl) ?_
                repeat (go_big_quiet_step (first | (go_at_call 98;refine Later.call _ (HWr.out _ ?_);exact B5.out.trans ((Later.h _).mono (by omega)))))
                refine wpQuiet_nil ?_
                rintro wq ⟨⟨_,hq⟩,rfl⟩
                try simp only at hq
                have Hq:=Lib.hid (HB5.out.trans (hq.mono (by omega)))
                clear hq l0 l1 l2 l3 l4 l5 l6 l7 l8 l9 l10 l11 l12 l13 l14 m0 n0 n1 n2 n3
                go_wp2
                go_roundw
                case rel=>exact⟨q+1,by go_num,by omega,Hm.out,Hq.out⟩
                case measure=>simp [intOf];omega
              have b2:decide (r.at_<s.at_+8)=true:=by rw [decide_eq_true_eq];exact e2
              have Hn:Hid (slotsB im=false):=Lib.hid (by rw [HD2.out,Hse.out,Hdc.out,slotsFrom_bad (Hme.out (by rw [HME.out,b1,b2];rfl))])
              clear e1 e2
              go_wp2_with fail
              refine wp_region_later (by kernel_rfl) (by kernel_rfl) ?_
              repeat (go_big_quiet_step (first | (go_at_call 98;refine Later.call _ (HWr.out _ ?_);exact B5.out.trans ((Later.h _).mono (by omega)))))
              refine wpQuiet_nil ?_
              rintro wq ⟨⟨_,hq⟩,rfl⟩
              try simp only at hq
              have Hq:=Lib.hid (B5.out.trans (hq.mono (by omega)))
              clear hq l0 l1 l2 l3 l4 l5 l6 l7 l8 l9 l10 l11 l12 l13 l14 m0 n0 n1 n2 n3
              go_wp2
              go_ret
              exact⟨by rw [Hn.out];rfl,Hq.out⟩
            · have Hall2:Hid (im.relocs.all (fun r=> !meetB im s r)=true):=Lib.hid (by have:=Hall.out;rwa [List.take_of_length_le (by omega)]at this)
              have Hy:Hid (slotsFrom im 0 im.slots=slotsFrom im (s.at_+8) (im.slots.drop (k+1))):=Lib.hid (Hyes.out (by rw [slotB_0,HS0.out,Hall2.out];rfl))
              have hFi3:=(hbi.block w.heap.size (by omega)).trans Fd.out
              clear hbi
              go_wp2
              go_roundw
              case rel=>exact⟨k+1,s.at_+8,by go_num,by omega,by omega,by omega,Hy.out,fun h=>by omega,Hnext.out,Bd.out.trans (Hbi.out.mono (by omega)),hFi3,by omega⟩
              case measure=>simp [intOf];omega
    · have hd:Hid (slotsB im=true):=Lib.hid (by rw [HD2.out,Hse.out,List.drop_eq_nil_of_le (by omega)];rfl)
      clear hbel hF
      go_wp2
      go_ret
      exact⟨by rw [hd.out];rfl,Hbel.out⟩
end Go.Proofs.YtfchpchabdhcgaaGreat
