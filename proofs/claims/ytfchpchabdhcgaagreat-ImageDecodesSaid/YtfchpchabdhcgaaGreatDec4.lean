/- Lemmas. -/
import Derived.Test.YtfchpchabdhcgaaGreatDec3
set_option linter.unusedVariables false
set_option linter.unusedSimpArgs false
set_option maxHeartbeats 64000000
set_option maxRecDepth 100000
namespace Go.Proofs.YtfchpchabdhcgaaGreat
open Go.RowKit
theorem ret_bool' {a b:Bool} (h:a=b):Ending.returned (.bool a)=.returned (.bool b):=by rw [h]
theorem ret_int' {k:IntKind} {a b:Int} (h:a=b):Ending.returned (.int k a)=.returned (.int k b):=by rw [h]
def rightErr (s:SymL):Int:=if symRightB s=true then 0 else 70
theorem rightErr_bad {s:SymL} (h:symRightB s=false):rightErr s=70:=by rw [rightErr,h];rfl
theorem rightErr_ok {s:SymL} (h:symRightB s=true):rightErr s=0:=by rw [rightErr,h];rfl
theorem sym_cells {x:World} {b:Nat} {s:SymL} (h:x.heap[b]? =some (.cells #[.string ⟨s.name.toArray⟩,.string ⟨s.version.toArray⟩,.bool s.old,.int .i64 s.kind,.bool s.weak,.int .i64 s.vis,.bool s.defined,.int .i64 s.value,.int .i64 s.size] 72 (0,0))):
  x.cell? ⟨b,0,none⟩=some (.string ⟨s.name.toArray⟩)∧x.cell? ⟨b,1,none⟩=some (.string ⟨s.version.toArray⟩)∧x.cell? ⟨b,2,none⟩=some (.bool s.old)∧x.cell? ⟨b,3,none⟩=some (.int .i64 s.kind)∧x.cell? ⟨b,4,none⟩=some (.bool s.weak)∧
  x.cell? ⟨b,5,none⟩=some (.int .i64 s.vis)∧x.cell? ⟨b,6,none⟩=some (.bool s.defined)∧x.cell? ⟨b,7,none⟩=some (.int .i64 s.value)∧x.cell? ⟨b,8,none⟩=some (.int .i64 s.size):=by
 refine⟨?_,?_,?_,?_,?_,?_,?_,?_,?_⟩<;>(rw [Lib.cell_of_heap h];rfl)
theorem vseen_any (w:World) (s:SymL):
  Calls Tryz.prog 77 #[.agg #[.string ⟨s.name.toArray⟩,.string ⟨s.version.toArray⟩,.bool s.old,.int .i64 s.kind,.bool s.weak,.int .i64 s.vis,.bool s.defined,.int .i64 s.value,.int .i64 s.size]] w fun e w'=>e=.returned (.bool (seenB s))∧Below w.heap.size w w':=by
 obtain⟨name,version,old,kind,weak,vis,defined,value,size⟩:=s
 have Hr:Hid (seenB ⟨name,version,old,kind,weak,vis,defined,value,size⟩=(defined&&(vis != 2))):=Lib.hid (by
  simp only [seenB]
  by_cases h:vis=2<;>simp [h])
 cases defined
 all_goals
  go_enter Tryz.func77,Tryz.ntmps77
  go_wp2
  all_goals go_ret
  all_goals exact⟨by rw [Hr.out];rfl,(Below.refl _ _).alloc (Nat.le_refl _) _⟩
theorem jseen_any (w:World) (s:SymL):
  Calls Tryz.prog 101 #[.agg #[.string ⟨s.name.toArray⟩,.string ⟨s.version.toArray⟩,.bool s.old,.int .i64 s.kind,.bool s.weak,.int .i64 s.vis,.bool s.defined,.int .i64 s.value,.int .i64 s.size]] w fun e w'=>e=.returned (.bool (seenB s))∧Below w.heap.size w w':=by
 obtain⟨name,version,old,kind,weak,vis,defined,value,size⟩:=s
 have Hr:Hid (seenB ⟨name,version,old,kind,weak,vis,defined,value,size⟩=(defined&&(vis != 2))):=Lib.hid (by
  simp only [seenB]
  by_cases h:vis=2<;>simp [h])
 cases defined
 all_goals
  go_enter Tryz.func101,Tryz.ntmps101
  go_wp2
  all_goals go_ret
  all_goals exact⟨by rw [Hr.out];rfl,(Below.refl _ _).alloc (Nat.le_refl _) _⟩
theorem jsized_any (w:World) (s:List UInt8):
  Calls Tryz.prog 90 #[.string ⟨s.toArray⟩] w fun e w'=>e=.returned (.bool (sizedB s))∧w'=w:=by
 have hsz:=size_mk s
 by_cases h1:1≤s.length
 ·have hd1:decide (1≤(s.length:Int))=true:=by rw [decide_eq_true_eq];omega
  have Hr:Hid (sizedB s=decide ((s.length:Int)≤200)):=Lib.hid (by rw [sizedB,Bool.eq_iff_iff];simp;omega)
  go_enter Tryz.func90,Tryz.ntmps90
  go_wp2
  go_ret
  exact⟨by rw [Hr.out];rfl,rfl⟩
 ·have hd1:decide (1≤(s.length:Int))=false:=by rw [decide_eq_false_iff_not];omega
  have Hr:Hid (sizedB s=false):=Lib.hid (by rw [sizedB];simp [h1])
  go_enter Tryz.func90,Tryz.ntmps90
  go_wp2
  go_ret
  exact⟨by rw [Hr.out];rfl,rfl⟩
theorem vright_any (w:World) (s:SymL) (hs:SymOk s):
  Calls Tryz.prog 74 #[.agg #[.string ⟨s.name.toArray⟩,.string ⟨s.version.toArray⟩,.bool s.old,.int .i64 s.kind,.bool s.weak,.int .i64 s.vis,.bool s.defined,.int .i64 s.value,.int .i64 s.size]] w fun e w'=>e=.returned (.int .i64 (rightErr s))∧Below w.heap.size w w':=by
 have hz1:=hs.name
 have hz2:=hs.version
 have hsz1:=size_mk s.name
 have hsz2:=size_mk s.version
 have F1:=Lib.hid (heap_alloc_new w (.cells #[.string ⟨s.name.toArray⟩,.string ⟨s.version.toArray⟩,.bool s.old,.int .i64 s.kind,.bool s.weak,.int .i64 s.vis,.bool s.defined,.int .i64 s.value,.int .i64 s.size] 72 (0,0)))
 have B1:=Lib.hid ((Below.refl w.heap.size w).alloc (Nat.le_refl _) (.cells #[.string ⟨s.name.toArray⟩,.string ⟨s.version.toArray⟩,.bool s.old,.int .i64 s.kind,.bool s.weak,.int .i64 s.vis,.bool s.defined,.int .i64 s.value,.int .i64 s.size] 72 (0,0)))
 go_enter Tryz.func74,Tryz.ntmps74
 go_wp2_with fail
 refine(vname_any _ s.name hz1).mono ?_
 rintro e w2 ⟨rfl,hb2⟩
 have F2:=Lib.hid ((hb2.block w.heap.size (by simp)).trans F1.out)
 have B2:=Lib.hid (B1.out.trans (hb2.mono (by simp)))
 obtain⟨c0,c1,c2,c3,c4,c5,c6,c7,c8⟩:=sym_cells F2.out
 clear hb2
 cases hn:nameB s.name with
 | false=>
  have Hr:Hid (rightErr s=70):=Lib.hid (rightErr_bad (by simp [symRightB,hn]))
  cases hd:s.defined
  all_goals
   rw [hd]at c6
   go_wp2
   all_goals go_ret
   all_goals exact⟨by rw [Hr.out];rfl,B2.out⟩
 | true=>
  have Hb:Hid (symRightB s=false→rightErr s=70):=Lib.hid rightErr_bad
  have Ho:Hid (symRightB s=true→rightErr s=0):=Lib.hid rightErr_ok
  cases hq:s.version.isEmpty with
  | true=>
   have hv:s.version=[]:=List.isEmpty_iff.1 hq
   have Hv:=Lib.hid hv
   have Hn:=Lib.hid hn
   clear hv
   cases hd:s.defined
   all_goals
    have Hd:=Lib.hid hd
    rw [hd]at c6
    cases ho:s.old
    all_goals
     have Ho2:=Lib.hid ho
     rw [ho]at c2
     clear ho
     go_wp2
     all_goals go_ret
     all_goals (try simp only [beq_eq_false_iff_ne,bne_eq_false_iff_eq,bne_iff_ne,beq_iff_eq,ne_eq]at *)
     all_goals first
      | (refine ⟨ret_int' (Ho.out ?_).symm,B2.out⟩;simp [symRightB,Hn.out,Hv.out,Hd.out,Ho2.out];done)
      | (refine ⟨ret_int' (Ho.out ?_).symm,B2.out⟩;simp [symRightB,Hn.out,Hv.out,Hd.out,Ho2.out];omega)
      | (refine ⟨ret_int' (Hb.out ?_).symm,B2.out⟩;simp [symRightB,Hn.out,Hv.out,Hd.out,Ho2.out];done)
      | (refine ⟨ret_int' (Hb.out ?_).symm,B2.out⟩;simp [symRightB,Hn.out,Hv.out,Hd.out,Ho2.out];intros;omega)
  | false=>
   have Hv:Hid (decide (s.version=[])=false):=Lib.hid (by rw [decide_eq_false_iff_not];intro e;rw [e]at hq;simp at hq)
   have Hn:=Lib.hid hn
   go_wp2_with fail
   refine(vname_any _ s.version hz2).mono ?_
   rintro e w3 ⟨rfl,hb3⟩
   have F3:=Lib.hid ((hb3.block w.heap.size (by have:=B2.out.size;have:=World.block_lt_of_cell? _ _ c0;omega)).trans F2.out)
   have B3:=Lib.hid (B2.out.trans (hb3.mono B2.out.size))
   clear hb3 c0 c1 c2 c3 c4 c5 c6 c7 c8
   obtain⟨c0,c1,c2,c3,c4,c5,c6,c7,c8⟩:=sym_cells F3.out
   cases hv2:nameB s.version with
   | false=>
    have Hr:Hid (rightErr s=70):=Lib.hid (rightErr_bad (by simp [symRightB,Hv.out,hv2]))
    cases hd:s.defined
    all_goals
     rw [hd]at c6
     go_wp2
     all_goals go_ret
     all_goals exact⟨by rw [Hr.out];rfl,B3.out⟩
   | true=>
    have Hv2:=Lib.hid hv2
    cases hd:s.defined
    all_goals
     have Hd:=Lib.hid hd
     rw [hd]at c6
     cases ho:s.old
     all_goals
      have Ho2:=Lib.hid ho
      rw [ho]at c2
      clear ho
      go_wp2
      all_goals go_ret
      all_goals (try simp only [beq_eq_false_iff_ne,bne_eq_false_iff_eq,bne_iff_ne,beq_iff_eq,ne_eq]at *)
      all_goals first
       | (refine ⟨ret_int' (Ho.out ?_).symm,B3.out⟩;simp [symRightB,Hn.out,Hv.out,Hv2.out,Hd.out,Ho2.out];done)
       | (refine ⟨ret_int' (Ho.out ?_).symm,B3.out⟩;simp [symRightB,Hn.out,Hv.out,Hv2.out,Hd.out,Ho2.out];omega)
       | (refine ⟨ret_int' (Hb.out ?_).symm,B3.out⟩;simp [symRightB,Hn.out,Hv.out,Hv2.out,Hd.out,Ho2.out];done)
       | (refine ⟨ret_int' (Hb.out ?_).symm,B3.out⟩;simp [symRightB,Hn.out,Hv.out,Hv2.out,Hd.out,Ho2.out];intros;omega)
end Go.Proofs.YtfchpchabdhcgaaGreat
