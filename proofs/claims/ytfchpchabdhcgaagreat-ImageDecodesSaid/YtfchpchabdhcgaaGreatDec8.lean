/- Lemmas. -/
import Derived.Test.YtfchpchabdhcgaaGreatDec7
set_option linter.unusedVariables false
set_option linter.unusedSimpArgs false
set_option maxHeartbeats 64000000
set_option maxRecDepth 100000
namespace Go.Proofs.YtfchpchabdhcgaaGreat
open Go.RowKit
theorem img_cells {x:World} {b:Nat} {c0 c1 c2 c3 c4 c5 c6 c7 c8 c9 c10 c11 c12 c13 c14:Value} (h:x.heap[b]? =some (.cells #[c0,c1,c2,c3,c4,c5,c6,c7,c8,c9,c10,c11,c12,c13,c14] 40 (0,0))):
  x.cell? ⟨b,0,none⟩=some c0∧x.cell? ⟨b,1,none⟩=some c1∧x.cell? ⟨b,2,none⟩=some c2∧x.cell? ⟨b,3,none⟩=some c3∧x.cell? ⟨b,4,none⟩=some c4∧x.cell? ⟨b,5,none⟩=some c5∧x.cell? ⟨b,6,none⟩=some c6∧x.cell? ⟨b,7,none⟩=some c7∧
  x.cell? ⟨b,8,none⟩=some c8∧x.cell? ⟨b,9,none⟩=some c9∧x.cell? ⟨b,10,none⟩=some c10∧x.cell? ⟨b,11,none⟩=some c11∧x.cell? ⟨b,12,none⟩=some c12∧x.cell? ⟨b,13,none⟩=some c13∧x.cell? ⟨b,14,none⟩=some c14:=by
 refine⟨?_,?_,?_,?_,?_,?_,?_,?_,?_,?_,?_,?_,?_,?_,?_⟩<;>(rw [Lib.cell_of_heap h];rfl)
theorem wideL_none {im:ImgL} {r:RelL} (h:symAt im r.sym=none):wideL im r=8:=by rw [wideL,h]
theorem wideL_some {im:ImgL} {r:RelL} {s:SymL} (h:symAt im r.sym=some s):wideL im r=if r.kind=2 then s.size else 8:=by rw [wideL,h]
theorem iwide_any (w:World) (v:ImgV) (im:ImgL) (r:RelL) (hs:LB kSym (·<w.heap.size) w v.syms im.syms) (hi: -9223372036854775808≤r.sym∧r.sym≤9223372036854775807):
  Calls Tryz.prog 84 #[.agg (imgCells v im),.agg #[.int .i64 r.at_,.int .i64 r.kind,.int .i64 r.sym,.int .i64 r.add]] w fun e w'=>e=.returned (.int .i64 (wideL im r))∧Below w.heap.size w w':=by
 have B1:=Lib.hid (((Below.refl w.heap.size w).alloc (Nat.le_refl _) (.cells (imgCells v im) 40 (0,0))).alloc (by simp) (.cells #[.int .i64 r.at_,.int .i64 r.kind,.int .i64 r.sym,.int .i64 r.add] 53 (0,0)))
 have hsv:=hs.form
 have HS:=Lib.hid (isym_any ((w.alloc (.cells (imgCells v im) 40 (0,0))).alloc (.cells #[.int .i64 r.at_,.int .i64 r.kind,.int .i64 r.sym,.int .i64 r.add] 53 (0,0))) v im r.sym ((hs.below B1.out).mono B1.out.size) hi)
 have F1:((w.alloc (.cells (imgCells v im) 40 (0,0))).alloc (.cells #[.int .i64 r.at_,.int .i64 r.kind,.int .i64 r.sym,.int .i64 r.add] 53 (0,0))).heap[w.heap.size+1]? =some (.cells #[.int .i64 r.at_,.int .i64 r.kind,.int .i64 r.sym,.int .i64 r.add] 53 (0,0)):=by
  simpa only [World.size_alloc] using heap_alloc_new (w.alloc (.cells (imgCells v im) 40 (0,0))) _
 have HF1:=Lib.hid F1
 have Hn:Hid (symAt im r.sym=none→wideL im r=8):=Lib.hid wideL_none
 have Hsm:Hid (∀ s,symAt im r.sym=some s→wideL im r=if r.kind=2 then s.size else 8):=Lib.hid (fun s h=>wideL_some h)
 clear hs F1
 unfold imgCells at *
 go_enter Tryz.func84,Tryz.ntmps84
 go_wp2_with fail
 refine HS.out.mono ?_
 rintro e w2 ⟨rfl,hb2⟩
 have F2:=(hb2.block (w.heap.size+1) (by simp)).trans HF1.out
 have B2:=Lib.hid (B1.out.trans (hb2.mono (by simp;omega)))
 have q1:w2.cell? ⟨w.heap.size+1,1,none⟩=some (.int .i64 r.kind):=by rw [Lib.cell_of_heap F2];rfl
 have hB2:=B2.out.size
 have hzq:w.heap.size+1<w2.heap.size:=World.block_lt_of_cell? _ _ q1
 clear hb2 F2 HS
 cases hsa:symAt im r.sym with
 | none=>
  have Hw:=Lib.hid (Hn.out hsa)
  have hv:symV im r.sym=.tuple #[.agg #[.string ⟨#[]⟩,.string ⟨#[]⟩,.bool false,.int .i64 0,.bool false,.int .i64 0,.bool false,.int .i64 0,.int .i64 0],.bool false]:=by rw [symV,symD,hsa];rfl
  rw [hv]
  clear hv hsa
  go_wp2
  go_ret
  exact⟨by rw [Hw.out];rfl,B2.out.alloc hB2 _⟩
 | some s=>
  have Hw:=Lib.hid (Hsm.out s hsa)
  have hv:symV im r.sym=.tuple #[.agg #[.string ⟨s.name.toArray⟩,.string ⟨s.version.toArray⟩,.bool s.old,.int .i64 s.kind,.bool s.weak,.int .i64 s.vis,.bool s.defined,.int .i64 s.value,.int .i64 s.size],.bool true]:=by rw [symV,symD,hsa];rfl
  rw [hv]
  clear hv hsa
  by_cases hk:r.kind=2
  ·have Hw2:Hid (wideL im r=s.size):=Lib.hid (by rw [Hw.out,if_pos hk])
   go_wp2
   go_ret
   exact⟨by rw [Hw2.out];rfl,B2.out.alloc hB2 _⟩
  ·have Hw2:Hid (wideL im r=8):=Lib.hid (by rw [Hw.out,if_neg hk])
   have hkb:(r.kind==2)=false:=by rw [beq_eq_false_iff_ne];exact hk
   go_wp2
   go_ret
   exact⟨by rw [Hw2.out];rfl,B2.out.alloc hB2 _⟩
theorem jwide_any (w:World) (v:ImgV) (im:ImgL) (r:RelL) (hs:LB kSym (·<w.heap.size) w v.syms im.syms):
  Calls Tryz.prog 98 #[.agg (imgCells v im),.agg #[.int .i64 r.at_,.int .i64 r.kind,.int .i64 r.sym,.int .i64 r.add]] w fun e w'=>e=.returned (.int .i64 (wideL im r))∧Below w.heap.size w w':=by
 unfold imgCells
 obtain⟨sa,sb,soff,scap,hsv,hsm,hsc,hat⟩:=hs.at
 rw [hsv]
 have Hat:=Lib.hid hat
 clear hs hat hsv
 obtain⟨rat,rkind,rsym,radd⟩:=r
 simp only
 by_cases hk:rkind=2
 case neg=>
  have Hw:Hid (wideL im ⟨rat,rkind,rsym,radd⟩=8):=Lib.hid (by
   rw [wideL];split
   ·rw [if_neg hk]
   ·rfl)
  have hkb:(rkind==2)=false:=by rw [beq_eq_false_iff_ne];exact hk
  clear hk
  go_enter Tryz.func98,Tryz.ntmps98
  go_wp2
  go_ret
  exact⟨by rw [Hw.out];rfl,((Below.refl _ _).alloc (Nat.le_refl _) _).alloc (by simp) _⟩
 case pos=>
  subst hk
  by_cases h1:rsym<0
  ·have Hw:Hid (wideL im ⟨rat,2,rsym,radd⟩=8):=Lib.hid (wideL_none (symAt_neg im rsym h1))
   go_enter Tryz.func98,Tryz.ntmps98
   go_wp2
   go_ret
   exact⟨by rw [Hw.out];rfl,((Below.refl _ _).alloc (Nat.le_refl _) _).alloc (by simp) _⟩
  by_cases h2:(im.syms.length:Int)≤rsym
  ·have Hw:Hid (wideL im ⟨rat,2,rsym,radd⟩=8):=Lib.hid (wideL_none (symAt_far im rsym h2))
   go_enter Tryz.func98,Tryz.ntmps98
   go_wp2
   go_ret
   exact⟨by rw [Hw.out];rfl,((Below.refl _ _).alloc (Nat.le_refl _) _).alloc (by simp) _⟩
  ·obtain⟨k,rfl⟩:∃ k:Nat,rsym=k:=⟨rsym.toNat,by omega⟩
   have hlt:k<im.syms.length:=by omega
   obtain rfl:=Hat.out.addr (by omega)
   obtain⟨s,hx⟩:∃ s,im.syms[k]? =some s:=⟨_,List.getElem?_eq_getElem hlt⟩
   obtain⟨_,g0,g1,g2,g3,g4,g5,g6,g7,g8⟩:=Hat.out.sym9 k s hx
   have Hw:Hid (wideL im ⟨rat,2,(k:Int),radd⟩=s.size):=Lib.hid (by rw [wideL_some (symAt_in im k s hx)];rfl)
   have hsb:=World.block_lt_of_cell? _ _ g0
   clear hx h1 h2 g0 g1 g2 g3 g4 g5 g6 g7
   go_enter Tryz.func98,Tryz.ntmps98
   go_wp2
   go_ret
   exact⟨by rw [Hw.out];rfl,((Below.refl _ _).alloc (Nat.le_refl _) _).alloc (by simp) _⟩
end Go.Proofs.YtfchpchabdhcgaaGreat
