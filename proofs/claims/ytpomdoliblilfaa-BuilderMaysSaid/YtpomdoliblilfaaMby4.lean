/- Lemmas. -/
import Derived.Test.YtpomdoliblilfaaBld6
import Derived.Test.YtpomdoliblilfaaBld5
import Derived.Test.YtpomdoliblilfaaBld4
import Derived.Deep.DeepCutAuto
namespace Go.Proofs.Ytpomdoliblilfaa
set_option linter.unusedVariables false
set_option linter.unusedSimpArgs false
open Go.RowKit
def relOkB (im:ImgL) (s:SymL) (r:RelL):Bool:=
 if r.kind=0∨r.kind=6 then decide (s.kind≠3)
 else if r.kind=7 then decide (r.add=0)
 else if r.kind=3 then decide (s.kind=3)&&decide (r.add=0)
 else if r.kind=4∨r.kind=5 then decide (s.kind=3)
 else if r.kind=2 then decide (s.kind=2)&&s.defined&&decide (1≤s.size)&&decide (s.value=r.at_)&&decide (r.add=0)&&decide (im.flags%2=1)
 else false
def relPermL (r:RelL):Int:=if r.kind=2 then 2 else 0
theorem relocB_base {im:ImgL} {r:RelL} (h1:r.kind=1):relocB im r=(decide (r.sym= -1)&&decide (0≤r.add)&&decide (r.add≤65536)&&holdsB im.segs r.at_ 8 0):=by rw [relocB,if_pos h1]
theorem relocB_none {im:ImgL} {r:RelL} (h1:r.kind≠1) (h:symAt im r.sym=none):relocB im r=false:=by rw [relocB,if_neg h1,h]
theorem relocB_some {im:ImgL} {r:RelL} {s:SymL} (h1:r.kind≠1) (h:symAt im r.sym=some s):
  relocB im r=(decide (-4294967296≤r.add)&&decide (r.add≤4294967296)&&(relOkB im s r&&holdsB im.segs r.at_ (wideL im r) (relPermL r))):=by
 have hw:=wideL_some h
 rw [relocB,if_neg h1,h,relOkB,relPermL]
 simp only []
 by_cases k0:r.kind=0∨r.kind=6
 ·rw [if_pos k0,if_pos k0,hw,if_neg (by omega),if_neg (by omega)]
 rw [if_neg k0,if_neg k0]
 by_cases k7:r.kind=7
 ·rw [if_pos k7,if_pos k7,hw,if_neg (by omega),if_neg (by omega)]
 rw [if_neg k7,if_neg k7]
 by_cases k3:r.kind=3
 ·rw [if_pos k3,if_pos k3,hw,if_neg (by omega),if_neg (by omega)]
 rw [if_neg k3,if_neg k3]
 by_cases k4:r.kind=4∨r.kind=5
 ·rw [if_pos k4,if_pos k4,hw,if_neg (by omega),if_neg (by omega)]
 rw [if_neg k4,if_neg k4]
 by_cases k2:r.kind=2
 ·rw [if_pos k2,if_pos k2,hw,if_pos k2,if_pos k2]
  cases decide (s.kind=2)<;>cases s.defined<;>cases decide (1≤s.size)<;>cases decide (s.value=r.at_)<;>cases decide (im.flags%2=1)<;>cases decide (r.add=0)<;>simp
 ·rw [if_neg k2,if_neg k2];simp
set_option maxHeartbeats 16000000 in
set_option maxRecDepth 100000 in
theorem jfits_any (w:World) (v:ImgV) (im:ImgL) (r:RelL) (hs:LB kSeg (·<w.heap.size) w v.segs im.segs) (hok:∀ s∈im.segs,SegOk s) (hy:LB kSym (·<w.heap.size) w v.syms im.syms) (hfl:0≤im.flags∧im.flags<16)
  (hrs: -9223372036854775808≤r.sym∧r.sym≤9223372036854775807) (hra: -9223372036854775808≤r.at_∧r.at_≤9223372036854775807) (hrd: -9223372036854775808≤r.add∧r.add≤9223372036854775807) (hsz:∀ s∈im.syms,0≤s.size∧s.size≤9223372036854775807):
  Calls Try.prog 67 #[.agg (imgCells v im),.agg #[.int .i64 r.at_,.int .i64 r.kind,.int .i64 r.sym,.int .i64 r.add]] w fun e w'=>e=.returned (.bool (relocB im r))∧Below w.heap.size w w':=by
 obtain⟨sa,sb,soff,scap,hsv,hsm,hsc,hat⟩:=hy.at
 obtain⟨vsegs,vneeded,vrunPath,vsyms,vbuckets,vwords,vrelocs,vslots,vinit,vfini,vtls⟩:=v
 simp only at hsv
 subst hsv
 have HH:Hid (∀ (w':World) (x n p:Int),Below w.heap.size w w'→(-9223372036854775808≤x∧x≤9223372036854775807)→(0≤n∧n≤9223372036854775807)→p=0∨p=2∨p=4→
  Calls Try.prog 66 #[.agg (imgCells ⟨vsegs,vneeded,vrunPath,.slice sa im.syms.length scap,vbuckets,vwords,vrelocs,vslots,vinit,vfini,vtls⟩ im),.int .i64 x,.int .i64 n,.int .i64 p] w' fun e w''=>e=.returned (.bool (holdsB im.segs x n p))∧Below w'.heap.size w' w''):=Lib.hid (fun w' x n p hb hx hn hp=>jstands_any w' _ im x n p ((hs.below hb).mono hb.size) hok hx hn hp)
 have HW:Hid (∀ (w':World),Below w.heap.size w w'→
  Calls Try.prog 68 #[.agg (imgCells ⟨vsegs,vneeded,vrunPath,.slice sa im.syms.length scap,vbuckets,vwords,vrelocs,vslots,vinit,vfini,vtls⟩ im),.agg #[.int .i64 r.at_,.int .i64 r.kind,.int .i64 r.sym,.int .i64 r.add]] w' fun e w''=>e=.returned (.int .i64 (wideL im r))∧Below w'.heap.size w' w''):=Lib.hid (fun w' hb=>jwide_any w' _ im r ((hy.below hb).mono hb.size))
 unfold imgCells at *
 have Hat:=Lib.hid hat
 have Hsz:=Lib.hid hsz
 have hf1:=hfl.1
 have hf2:=hfl.2
 clear hs hok hy hfl hsz hat
 generalize hI:(Array.mk [.string ⟨im.name.toArray⟩,.int .i64 im.flags,vsegs,vneeded,vrunPath,.slice sa im.syms.length scap,vbuckets,vwords,.int .i64 im.shift,vrelocs,vslots,vinit,vfini,vtls,.int .i64 im.tlsSize]:Array Value)=I at HH HW
 have F0:=Lib.hid (heap_alloc_new w (.cells I 44 (0,0)))
 have B1:=Lib.hid (((Below.refl w.heap.size w).alloc (Nat.le_refl _) (.cells I 44 (0,0))).alloc (by simp) (.cells #[.int .i64 r.at_,.int .i64 r.kind,.int .i64 r.sym,.int .i64 r.add] 124 (0,0)))
 have G0:=Lib.hid (heap_alloc_new (w.alloc (.cells I 44 (0,0))) (.cells #[.int .i64 r.at_,.int .i64 r.kind,.int .i64 r.sym,.int .i64 r.add] 124 (0,0)))
 have F1:=Lib.hid ((heap_alloc_old (w.alloc (.cells I 44 (0,0))) (.cells #[.int .i64 r.at_,.int .i64 r.kind,.int .i64 r.sym,.int .i64 r.add] 124 (0,0)) (by simp)).trans F0.out)
 have hz1:((w.alloc (.cells I 44 (0,0))).alloc (.cells #[.int .i64 r.at_,.int .i64 r.kind,.int .i64 r.sym,.int .i64 r.add] 124 (0,0))).heap.size=w.heap.size+2:=by simp
 rw [World.size_alloc]at G0
 subst hI
 go_enter Try.func67,Try.ntmps67
 go_upto_region 1 with fail
 generalize (w.alloc (.cells #[.string ⟨im.name.toArray⟩,.int .i64 im.flags,vsegs,vneeded,vrunPath,.slice sa im.syms.length scap,vbuckets,vwords,.int .i64 im.shift,vrelocs,vslots,vinit,vfini,vtls,.int .i64 im.tlsSize] 44 (0,0))).alloc (.cells #[.int .i64 r.at_,.int .i64 r.kind,.int .i64 r.sym,.int .i64 r.add] 124 (0,0))=w1 at *
 have hz1':w.heap.size+1<w1.heap.size:=by omega
 clear hz1
 have r0:w1.cell? ⟨w.heap.size+1,0,none⟩=some (.int .i64 r.at_):=by rw [Lib.cell_of_heap G0.out];rfl
 have r1:w1.cell? ⟨w.heap.size+1,1,none⟩=some (.int .i64 r.kind):=by rw [Lib.cell_of_heap G0.out];rfl
 have r2:w1.cell? ⟨w.heap.size+1,2,none⟩=some (.int .i64 r.sym):=by rw [Lib.cell_of_heap G0.out];rfl
 have r3:w1.cell? ⟨w.heap.size+1,3,none⟩=some (.int .i64 r.add):=by rw [Lib.cell_of_heap G0.out];rfl
 obtain⟨i0,i1,i2,i3,i4,i5,i6,i7,i8,i9,i10,i11,i12,i13,i14⟩:=img_cells F1.out
 by_cases k1:r.kind=1
 case pos=>
  have b1:(r.kind==1)=true:=by rw [beq_iff_eq];exact k1
  have HR:=Lib.hid (relocB_base (im:=im) k1)
  by_cases p0:r.sym= -1
  case neg=>
   have q0:(r.sym== -1)=false:=by rw [beq_eq_false_iff_ne];assumption
   have Hr:Hid (relocB im r=false):=Lib.hid (by rw [HR.out,decide_eq_false (p:=r.sym= -1) p0];simp)
   go_wp2
   go_ret
   exact⟨by rw [Hr.out];rfl,B1.out⟩
  have q0:(r.sym== -1)=true:=by rw [beq_iff_eq];assumption
  by_cases p1:0≤r.add
  case neg=>
   have q1:decide (0≤r.add)=false:=by rw [decide_eq_false_iff_not];assumption
   have Hr:Hid (relocB im r=false):=Lib.hid (by rw [HR.out,decide_eq_false (p:=0≤r.add) p1];simp)
   go_wp2
   go_ret
   exact⟨by rw [Hr.out];rfl,B1.out⟩
  have q1:decide (0≤r.add)=true:=by rw [decide_eq_true_eq];assumption
  by_cases p2:r.add≤65536
  case neg=>
   have q2:decide (r.add≤65536)=false:=by rw [decide_eq_false_iff_not];assumption
   have Hr:Hid (relocB im r=false):=Lib.hid (by rw [HR.out,decide_eq_false (p:=r.add≤65536) p2];simp)
   go_wp2
   go_ret
   exact⟨by rw [Hr.out];rfl,B1.out⟩
  have q2:decide (r.add≤65536)=true:=by rw [decide_eq_true_eq];assumption
  have Hr:Hid (relocB im r=holdsB im.segs r.at_ 8 0):=Lib.hid (by rw [HR.out,decide_eq_true (p:=r.sym= -1) p0,decide_eq_true (p:=0≤r.add) p1,decide_eq_true (p:=r.add≤65536) p2];simp)
  have Hh:=Lib.hid (HH.out w1 r.at_ 8 0 B1.out hra (by decide) (by decide))
  go_wp2_with fail
  refine Hh.out.mono ?_
  rintro e w4 ⟨rfl,hb4⟩
  have B4:=Lib.hid (B1.out.trans (hb4.mono (by omega)))
  clear hb4 i0 i1 i2 i3 i4 i5 i6 i7 i8 i9 i10 i11 i12 i13 i14 r0 r1 r2 r3
  go_wp2
  go_ret
  exact⟨by rw [Hr.out];rfl,B4.out⟩
 have b1:(r.kind==1)=false:=by rw [beq_eq_false_iff_ne];exact k1
 by_cases t0:r.sym<0
 case pos=>
  have d0:decide (r.sym<0)=true:=by rw [decide_eq_true_eq];exact t0
  have Hr:=Lib.hid (relocB_none (im:=im) k1 (symAt_neg im r.sym t0))
  go_wp2
  go_ret
  exact⟨by rw [Hr.out];rfl,B1.out⟩
 have d0:decide (r.sym<0)=false:=by rw [decide_eq_false_iff_not];exact t0
 by_cases t1:(im.syms.length:Int)≤r.sym
 case pos=>
  have d1:decide ((im.syms.length:Int)≤r.sym)=true:=by rw [decide_eq_true_eq];exact t1
  have Hr:=Lib.hid (relocB_none (im:=im) k1 (symAt_far im r.sym t1))
  go_wp2
  go_ret
  exact⟨by rw [Hr.out];rfl,B1.out⟩
 have d1:decide ((im.syms.length:Int)≤r.sym)=false:=by rw [decide_eq_false_iff_not];exact t1
 obtain⟨k,hk⟩:∃ k:Nat,r.sym=k:=⟨r.sym.toNat,by omega⟩
 have hlt:k<im.syms.length:=by omega
 obtain rfl:=Hat.out.addr (by omega)
 obtain⟨s,hx⟩:∃ s,im.syms[k]? =some s:=⟨_,List.getElem?_eq_getElem hlt⟩
 have hsa:symAt im r.sym=some s:=by rw [hk];exact symAt_in im k s hx
 have HRs:=Lib.hid (relocB_some k1 hsa)
 have Hwd:Hid (r.kind≠2→wideL im r=8):=Lib.hid (fun h=>by rw [wideL_some hsa,if_neg h])
 have Hwd2:Hid (r.kind=2→wideL im r=s.size):=Lib.hid (fun h=>by rw [wideL_some hsa,if_pos h])
 have hszs:=Hsz.out s (symAt_range hsa).2.2
 by_cases t2: -4294967296≤r.add
 case neg=>
  have d2:decide (r.add < -4294967296)=true:=by rw [decide_eq_true_eq];omega
  have Hr:Hid (relocB im r=false):=Lib.hid (by rw [HRs.out,decide_eq_false (p:= -4294967296≤r.add) t2];rfl)
  clear hsa HRs
  go_wp2
  go_ret
  exact⟨by rw [Hr.out];rfl,B1.out⟩
 have d2:decide (r.add < -4294967296)=false:=by rw [decide_eq_false_iff_not];omega
 by_cases t3:r.add≤4294967296
 case neg=>
  have d3:decide (4294967296<r.add)=true:=by rw [decide_eq_true_eq];omega
  have Hr:Hid (relocB im r=false):=Lib.hid (by rw [HRs.out,decide_eq_false (p:=r.add≤4294967296) t3];simp)
  clear hsa HRs
  go_wp2
  go_ret
  exact⟨by rw [Hr.out];rfl,B1.out⟩
 have d3:decide (4294967296<r.add)=false:=by rw [decide_eq_false_iff_not];omega
 have HR:Hid (relocB im r=(relOkB im s r&&holdsB im.segs r.at_ (wideL im r) (relPermL r))):=Lib.hid (by rw [HRs.out,decide_eq_true (p:= -4294967296≤r.add) t2,decide_eq_true (p:=r.add≤4294967296) t3];rfl)
 have hwd:0≤wideL im r∧wideL im r≤9223372036854775807:=by
  by_cases h2:r.kind=2
  ·rw [Hwd2.out h2];exact hszs
  ·rw [Hwd.out h2];omega
 have hpm:relPermL r=0∨relPermL r=2∨relPermL r=4:=by unfold relPermL;split<;>simp
 clear hsa HRs
 obtain⟨hso,g0,g1,g2,g3,g4,g5,g6,g7,g8⟩:=(Hat.out.below B1.out).sym9 k s hx
 have hsb:=World.block_lt_of_cell? _ _ g0
 have S3:=Lib.hid (heap_alloc_new w1 (.cells #[.string ⟨s.name.toArray⟩,.string ⟨s.version.toArray⟩,.bool s.old,.int .i64 s.kind,.bool s.weak,.int .i64 s.vis,.bool s.defined,.int .i64 s.value,.int .i64 s.size] 52 (0,0)))
 have G3:=Lib.hid ((heap_alloc_old w1 (.cells #[.string ⟨s.name.toArray⟩,.string ⟨s.version.toArray⟩,.bool s.old,.int .i64 s.kind,.bool s.weak,.int .i64 s.vis,.bool s.defined,.int .i64 s.value,.int .i64 s.size] 52 (0,0)) (r:=w.heap.size+1) (by omega)).trans G0.out)
 have F3:=Lib.hid ((heap_alloc_old w1 (.cells #[.string ⟨s.name.toArray⟩,.string ⟨s.version.toArray⟩,.bool s.old,.int .i64 s.kind,.bool s.weak,.int .i64 s.vis,.bool s.defined,.int .i64 s.value,.int .i64 s.size] 52 (0,0)) (r:=w.heap.size) (by omega)).trans F1.out)
 have B3:=Lib.hid (B1.out.alloc (by omega) (.cells #[.string ⟨s.name.toArray⟩,.string ⟨s.version.toArray⟩,.bool s.old,.int .i64 s.kind,.bool s.weak,.int .i64 s.vis,.bool s.defined,.int .i64 s.value,.int .i64 s.size] 52 (0,0)))
 have hra2:=hra
 clear hx
 rw [hk]at r2
 go_upto_region 6 with fail
 have hz3:(w1.alloc (.cells #[.string ⟨s.name.toArray⟩,.string ⟨s.version.toArray⟩,.bool s.old,.int .i64 s.kind,.bool s.weak,.int .i64 s.vis,.bool s.defined,.int .i64 s.value,.int .i64 s.size] 52 (0,0))).heap.size=w1.heap.size+1:=by simp
 generalize w1.alloc (.cells #[.string ⟨s.name.toArray⟩,.string ⟨s.version.toArray⟩,.bool s.old,.int .i64 s.kind,.bool s.weak,.int .i64 s.vis,.bool s.defined,.int .i64 s.value,.int .i64 s.size] 52 (0,0))=w3 at *
 clear i0 i1 i2 i3 i4 i5 i6 i7 i8 i9 i10 i11 i12 i13 i14 r0 r1 r2 r3 g0 g1 g2 g3 g4 g5 g6 g7 g8 d0 d1 d2 d3 t0 t1 t2 t3
 have r0:w3.cell? ⟨w.heap.size+1,0,none⟩=some (.int .i64 r.at_):=by rw [Lib.cell_of_heap G3.out];rfl
 have r1:w3.cell? ⟨w.heap.size+1,1,none⟩=some (.int .i64 r.kind):=by rw [Lib.cell_of_heap G3.out];rfl
 have r2:w3.cell? ⟨w.heap.size+1,2,none⟩=some (.int .i64 r.sym):=by rw [Lib.cell_of_heap G3.out];rfl
 have r3:w3.cell? ⟨w.heap.size+1,3,none⟩=some (.int .i64 r.add):=by rw [Lib.cell_of_heap G3.out];rfl
 obtain⟨i0,i1,i2,i3,i4,i5,i6,i7,i8,i9,i10,i11,i12,i13,i14⟩:=img_cells F3.out
 obtain⟨c0,c1,c2,c3,c4,c5,c6,c7,c8⟩:=sym_cells S3.out
 go_upto_block 0 with fail
 go_cut [6,7,8] (fun s6 s7 s8 wx=>s6=.bool (s.kind==3)∧s7=.int .i64 (relPermL r)∧s8=.bool (relOkB im s r)∧wx=w3)
 case first=>
  by_cases k0:r.kind=0
  case pos=>
   have b0:(r.kind==0)=true:=by rw [beq_iff_eq];exact k0
   have hp:relPermL r=0:=by rw [relPermL,if_neg (by omega)]
   by_cases h3:s.kind=3
   ·have e3:(s.kind==3)=true:=by rw [beq_iff_eq];exact h3
    have Ho:Hid (relOkB im s r=false):=Lib.hid (by rw [relOkB,if_pos (by omega)];simp [h3])
    clear h3 k0
    go_wp2_with fail
    go_meet
    exact⟨by first | rfl | rw [e3],by rw [hp],by rw [Ho.out],rfl⟩
   ·have e3:(s.kind==3)=false:=by rw [beq_eq_false_iff_ne];exact h3
    have Ho:Hid (relOkB im s r=true):=Lib.hid (by rw [relOkB,if_pos (by omega)];simp [h3])
    clear h3 k0
    go_wp2_with fail
    go_meet
    exact⟨by first | rfl | rw [e3],by rw [hp],by rw [Ho.out],rfl⟩
  have b0:(r.kind==0)=false:=by rw [beq_eq_false_iff_ne];exact k0
  by_cases k6:r.kind=6
  case pos=>
   have b6:(r.kind==6)=true:=by rw [beq_iff_eq];exact k6
   have hp:relPermL r=0:=by rw [relPermL,if_neg (by omega)]
   by_cases h3:s.kind=3
   ·have e3:(s.kind==3)=true:=by rw [beq_iff_eq];exact h3
    have Ho:Hid (relOkB im s r=false):=Lib.hid (by rw [relOkB,if_pos (by omega)];simp [h3])
    clear h3 k6
    go_wp2_with fail
    go_meet
    exact⟨by first | rfl | rw [e3],by rw [hp],by rw [Ho.out],rfl⟩
   ·have e3:(s.kind==3)=false:=by rw [beq_eq_false_iff_ne];exact h3
    have Ho:Hid (relOkB im s r=true):=Lib.hid (by rw [relOkB,if_pos (by omega)];simp [h3])
    clear h3 k6
    go_wp2_with fail
    go_meet
    exact⟨by first | rfl | rw [e3],by rw [hp],by rw [Ho.out],rfl⟩
  have b6:(r.kind==6)=false:=by rw [beq_eq_false_iff_ne];exact k6
  by_cases k7:r.kind=7
  case pos=>
   have b7:(r.kind==7)=true:=by rw [beq_iff_eq];exact k7
   have hp:relPermL r=0:=by rw [relPermL,if_neg (by omega)]
   have Ho:Hid (relOkB im s r=(r.add==0)):=Lib.hid (by rw [relOkB,if_neg (by omega),if_pos (by omega)];rw [Bool.eq_iff_iff];simp)
   clear k7
   go_wp2_with fail
   go_meet
   exact⟨by first | rfl | rw [e3],by rw [hp],by rw [Ho.out],rfl⟩
  have b7:(r.kind==7)=false:=by rw [beq_eq_false_iff_ne];exact k7
  by_cases k3:r.kind=3
  case pos=>
   have b3:(r.kind==3)=true:=by rw [beq_iff_eq];exact k3
   have hp:relPermL r=0:=by rw [relPermL,if_neg (by omega)]
   by_cases h3:s.kind=3
   ·have e3:(s.kind==3)=true:=by rw [beq_iff_eq];exact h3
    have Ho:Hid (relOkB im s r=(r.add==0)):=Lib.hid (by rw [relOkB,if_neg (by omega),if_neg (by omega),if_pos (by omega)];rw [Bool.eq_iff_iff];simp [h3])
    clear h3 k3
    go_wp2_with fail
    go_meet
    exact⟨by first | rfl | rw [e3],by rw [hp],by rw [Ho.out],rfl⟩
   ·have e3:(s.kind==3)=false:=by rw [beq_eq_false_iff_ne];exact h3
    have Ho:Hid (relOkB im s r=false):=Lib.hid (by rw [relOkB,if_neg (by omega),if_neg (by omega),if_pos (by omega)];simp [h3])
    clear h3 k3
    go_wp2_with fail
    go_meet
    exact⟨by first | rfl | rw [e3],by rw [hp],by rw [Ho.out],rfl⟩
  have b3:(r.kind==3)=false:=by rw [beq_eq_false_iff_ne];exact k3
  by_cases k4:r.kind=4
  case pos=>
   have b4:(r.kind==4)=true:=by rw [beq_iff_eq];exact k4
   have hp:relPermL r=0:=by rw [relPermL,if_neg (by omega)]
   by_cases h3:s.kind=3
   ·have e3:(s.kind==3)=true:=by rw [beq_iff_eq];exact h3
    have Ho:Hid (relOkB im s r=true):=Lib.hid (by rw [relOkB,if_neg (by omega),if_neg (by omega),if_neg (by omega),if_pos (by omega)];simp [h3])
    clear h3 k4
    go_wp2_with fail
    go_meet
    exact⟨by first | rfl | rw [e3],by rw [hp],by rw [Ho.out],rfl⟩
   ·have e3:(s.kind==3)=false:=by rw [beq_eq_false_iff_ne];exact h3
    have Ho:Hid (relOkB im s r=false):=Lib.hid (by rw [relOkB,if_neg (by omega),if_neg (by omega),if_neg (by omega),if_pos (by omega)];simp [h3])
    clear h3 k4
    go_wp2_with fail
    go_meet
    exact⟨by first | rfl | rw [e3],by rw [hp],by rw [Ho.out],rfl⟩
  have b4:(r.kind==4)=false:=by rw [beq_eq_false_iff_ne];exact k4
  by_cases k5:r.kind=5
  case pos=>
   have b5:(r.kind==5)=true:=by rw [beq_iff_eq];exact k5
   have hp:relPermL r=0:=by rw [relPermL,if_neg (by omega)]
   by_cases h3:s.kind=3
   ·have e3:(s.kind==3)=true:=by rw [beq_iff_eq];exact h3
    have Ho:Hid (relOkB im s r=true):=Lib.hid (by rw [relOkB,if_neg (by omega),if_neg (by omega),if_neg (by omega),if_pos (by omega)];simp [h3])
    clear h3 k5
    go_wp2_with fail
    go_meet
    exact⟨by first | rfl | rw [e3],by rw [hp],by rw [Ho.out],rfl⟩
   ·have e3:(s.kind==3)=false:=by rw [beq_eq_false_iff_ne];exact h3
    have Ho:Hid (relOkB im s r=false):=Lib.hid (by rw [relOkB,if_neg (by omega),if_neg (by omega),if_neg (by omega),if_pos (by omega)];simp [h3])
    clear h3 k5
    go_wp2_with fail
    go_meet
    exact⟨by first | rfl | rw [e3],by rw [hp],by rw [Ho.out],rfl⟩
  have b5:(r.kind==5)=false:=by rw [beq_eq_false_iff_ne];exact k5
  by_cases k2:r.kind=2
  case pos=>
   have b2:(r.kind==2)=true:=by rw [beq_iff_eq];exact k2
   have hp:relPermL r=2:=by rw [relPermL,if_pos k2]
   have HO:Hid (relOkB im s r=(decide (s.kind=2)&&s.defined&&decide (1≤s.size)&&decide (s.value=r.at_)&&decide (r.add=0)&&decide (im.flags%2=1))):=Lib.hid (by rw [relOkB,if_neg (by omega),if_neg (by omega),if_neg (by omega),if_neg (by omega),if_pos (by omega)])
   clear k2
   by_cases y0:s.kind=2
   case neg=>
    have z0:(s.kind==2)=false:=by rw [beq_eq_false_iff_ne];exact y0
    have Ho:Hid (relOkB im s r=false):=Lib.hid (by rw [HO.out,decide_eq_false (p:=s.kind=2) y0];simp)
    clear y0
    go_wp2_with fail
    go_meet
    exact⟨by first | rfl | rw [e3],by rw [hp],by rw [Ho.out],rfl⟩
   have z0:(s.kind==2)=true:=by rw [beq_iff_eq];exact y0
   have Y0:=Lib.hid y0
   clear y0
   cases hd:s.defined with
   | false=>
    rw [hd]at c6
    have Ho:Hid (relOkB im s r=false):=Lib.hid (by rw [HO.out,hd];simp)
    clear hd
    go_wp2_with fail
    go_meet
    exact⟨by first | rfl | rw [e3],by rw [hp],by rw [Ho.out],rfl⟩
   | true=>
   rw [hd]at c6
   have Hdd:=Lib.hid hd
   clear hd
   by_cases y2:1≤s.size
   case neg=>
    have z2:decide (1≤s.size)=false:=by rw [decide_eq_false_iff_not];exact y2
    have Ho:Hid (relOkB im s r=false):=Lib.hid (by rw [HO.out,decide_eq_false (p:=1≤s.size) y2];simp)
    clear y2
    go_wp2_with fail
    go_meet
    exact⟨by first | rfl | rw [e3],by rw [hp],by rw [Ho.out],rfl⟩
   have z2:decide (1≤s.size)=true:=by rw [decide_eq_true_eq];exact y2
   have Y2:=Lib.hid y2
   clear y2
   by_cases y3:s.value=r.at_
   case neg=>
    have z3:(s.value==r.at_)=false:=by rw [beq_eq_false_iff_ne];exact y3
    have Ho:Hid (relOkB im s r=false):=Lib.hid (by rw [HO.out,decide_eq_false (p:=s.value=r.at_) y3];simp)
    clear y3
    go_wp2_with fail
    go_meet
    exact⟨by first | rfl | rw [e3],by rw [hp],by rw [Ho.out],rfl⟩
   have z3:(s.value==r.at_)=true:=by rw [beq_iff_eq];exact y3
   have Y3:=Lib.hid y3
   clear y3
   by_cases y4:r.add=0
   case neg=>
    have z4:(r.add==0)=false:=by rw [beq_eq_false_iff_ne];exact y4
    have Ho:Hid (relOkB im s r=false):=Lib.hid (by rw [HO.out,decide_eq_false (p:=r.add=0) y4];simp)
    clear y4
    go_wp2_with fail
    go_meet
    exact⟨by first | rfl | rw [e3],by rw [hp],by rw [Ho.out],rfl⟩
   have z4:(r.add==0)=true:=by rw [beq_iff_eq];exact y4
   have Y4:=Lib.hid y4
   clear y4
   by_cases y5:im.flags%2=1
   case neg=>
    have z5:(im.flags%2==1)=false:=by rw [beq_eq_false_iff_ne];exact y5
    have Ho:Hid (relOkB im s r=false):=Lib.hid (by rw [HO.out,decide_eq_false (p:=im.flags%2=1) y5];simp)
    clear y5
    go_wp2_with fail
    go_meet
    exact⟨by first | rfl | rw [e3],by rw [hp],by rw [Ho.out],rfl⟩
   have z5:(im.flags%2==1)=true:=by rw [beq_iff_eq];exact y5
   have Y5:=Lib.hid y5
   clear y5
   have Ho:Hid (relOkB im s r=true):=Lib.hid (by rw [HO.out,Hdd.out,decide_eq_true (p:=s.kind=2) Y0.out,decide_eq_true (p:=1≤s.size) Y2.out,decide_eq_true (p:=s.value=r.at_) Y3.out,decide_eq_true (p:=r.add=0) Y4.out,decide_eq_true (p:=im.flags%2=1) Y5.out];rfl)
   go_wp2_with fail
   go_meet
   exact⟨by first | rfl | rw [e3],by rw [hp],by rw [Ho.out],rfl⟩
  have b2:(r.kind==2)=false:=by rw [beq_eq_false_iff_ne];exact k2
  have hp:relPermL r=0:=by rw [relPermL,if_neg k2]
  have Ho:Hid (relOkB im s r=false):=Lib.hid (by rw [relOkB,if_neg (by omega),if_neg (by omega),if_neg (by omega),if_neg (by omega),if_neg k2])
  go_wp2_with fail
  go_meet
  exact⟨by first | rfl | rw [e3],by rw [hp],by rw [Ho.out],rfl⟩
 case rest=>
  obtain⟨rfl,rfl,rfl,rfl⟩:=hcut
  have hz3':w1.heap.size<wc.heap.size:=by omega
  clear hz3
  generalize w1.heap.size=zs at *
  clear hk
  cases hro:relOkB im s r with
  | false=>
   have Hr:Hid (relocB im r=false):=Lib.hid (by rw [HR.out,hro];rfl)
   clear hro i0 i1 i2 i3 i4 i5 i6 i7 i8 i9 i10 i11 i12 i13 i14 c0 c1 c2 c3 c4 c5 c6 c7 c8
   go_wp2_with fail
   refine wp_region_later (by kernel_rfl) (by kernel_rfl) ?_
   repeat (go_big_quiet_step (fail))
   refine wpQuiet_nil ?_
   rintro _ ⟨⟨wq,hq⟩,rfl⟩
   try simp only at hq
   have Hq:=Lib.hid hq
   clear hq
   go_wp2
   go_ret
   exact⟨by rw [Hr.out];rfl,B3.out.trans (Hq.out.mono (by omega))⟩
  | true=>
   have Hr:Hid (relocB im r=holdsB im.segs r.at_ (wideL im r) (relPermL r)):=Lib.hid (by rw [HR.out,hro];rfl)
   obtain⟨wd,hwdd⟩:∃ wd,wideL im r=wd:=⟨_,rfl⟩
   rw [hwdd]at hwd Hr HW
   obtain⟨pm,hpmd⟩:∃ pm,relPermL r=pm:=⟨_,rfl⟩
   rw [hpmd]at hpm Hr ⊢
   clear hwdd hpmd hro Hwd Hwd2
   have l0:=fun x:Later wc=>x.cell i0
   have l1:=fun x:Later wc=>x.cell i1
   have l2:=fun x:Later wc=>x.cell i2
   have l3:=fun x:Later wc=>x.cell i3
   have l4:=fun x:Later wc=>x.cell i4
   have l5:=fun x:Later wc=>x.cell i5
   have l6:=fun x:Later wc=>x.cell i6
   have l7:=fun x:Later wc=>x.cell i7
   have l8:=fun x:Later wc=>x.cell i8
   have l9:=fun x:Later wc=>x.cell i9
   have l10:=fun x:Later wc=>x.cell i10
   have l11:=fun x:Later wc=>x.cell i11
   have l12:=fun x:Later wc=>x.cell i12
   have l13:=fun x:Later wc=>x.cell i13
   have l14:=fun x:Later wc=>x.cell i14
   have m0:=fun x:Later wc=>x.cell r0
   have m1:=fun x:Later wc=>x.cell r1
   have m2:=fun x:Later wc=>x.cell r2
   have m3:=fun x:Later wc=>x.cell r3
   have HWr:=Lib.hid (fun w' hb=>HW.out w' hb)
   have HHr:=Lib.hid (fun w' hb=>HH.out w' r.at_ wd pm hb hra2 hwd hpm)
   clear i0 i1 i2 i3 i4 i5 i6 i7 i8 i9 i10 i11 i12 i13 i14 r0 r1 r2 r3 c0 c1 c2 c3 c4 c5 c6 c7 c8
   go_wp2_with fail
   refine wp_region_later (by kernel_rfl) (by kernel_rfl) ?_
   repeat (go_big_quiet_step (first | (go_at_call 68;refine Later.call _ (HWr.out _ ?_);exact B3.out.trans ((Later.h _).mono (by omega))) | (go_at_call 66;refine Later.call _ (HHr.out _ ?_);exact B3.out.trans ((Later.h _).mono (by omega)))))
   refine wpQuiet_nil ?_
   rintro _ ⟨⟨wq,hq⟩,rfl⟩
   try simp only at hq
   have Hq:=Lib.hid hq
   clear hq
   go_wp2
   go_ret
   exact⟨by rw [Hr.out];rfl,B3.out.trans (Hq.out.mono (by omega))⟩
end Go.Proofs.Ytpomdoliblilfaa
