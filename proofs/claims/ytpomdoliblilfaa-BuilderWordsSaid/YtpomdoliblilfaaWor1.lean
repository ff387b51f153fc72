/- Lemmas. -/
import Derived.Test.YtpomdoliblilfaaBld44
import Derived.BigQuiet
namespace Go.Proofs.Ytpomdoliblilfaa
set_option linter.unusedVariables false
set_option linter.unusedSimpArgs false
open Go.RowKit
theorem FewB.l {s:SpecL} (h:FewB s) (hr:Reach s):FewL s:=⟨h.funcs,h.vars,h.lines,h.words,h.refs,h.init,h.fini,hr.run,hr.need,hr.vers⟩
theorem SpecM.imp {S S':Nat→Prop} {w:World} {v:SpecV} {s:SpecL} (h:SpecM S w v s) (hi:∀ b,S b→S' b):SpecM S' w v s:=
 ⟨h.needed.imp hi,h.runPath.imp hi,h.funcs.imp hi,h.vars.imp hi,h.weak.imp hi,h.init.imp hi,h.fini.imp hi,h.name,h.flags⟩
theorem SpecM.later {w w':World} {v:SpecV} {s:SpecL} (h:SpecM (·<w.heap.size) w v s) (hb:Below w.heap.size w w'):SpecM (·<w'.heap.size) w' v s:=
 (h.keeps (.of_below hb)).imp fun _ hb'=>Nat.lt_of_lt_of_le hb' hb.size
theorem Placed.bare {s:SpecL} {l m:List SymL} (h:Placed s l) (hm:m.map bareS=l.map bareS):(∀ (i:Nat) (x:SymL),m[i]? =some x→i<s.funcs.length+s.vars.length→∃ y,(s.funcs.map (fun f=>defSym f.sym)++s.vars.map (fun v=>defSym v.sym))[i]? =some y∧bareS x=bareS y)∧
  ∀ (i:Nat) (x:SymL),s.funcs.length+s.vars.length≤i→m[i]? =some x→x.defined=false∧∀ (k:Nat) (y:SymL),s.funcs.length+s.vars.length≤k→k<i→m[k]? =some y→¬ (y.name=x.name∧y.version=x.version):=by
 have hg:∀ (i:Nat) (x:SymL),m[i]? =some x→∃ y,l[i]? =some y∧bareS x=bareS y:=by
  intro i x hx
  have h1:(m.map bareS)[i]? =some (bareS x):=by rw [List.getElem?_map,hx];rfl
  rw [hm,List.getElem?_map]at h1
  cases hl:l[i]? with
  | none=>rw [hl]at h1;cases h1
  | some y=>rw [hl]at h1;exact⟨y,rfl,(Option.some.inj h1).symm⟩
 refine⟨fun i x hx hi=> ?_,fun i x hi hx=> ?_⟩
 ·obtain⟨y,hy,hb⟩:=hg i x hx
  obtain⟨t,ht⟩:=h.own
  rw [← ht,List.getElem?_append_left (by simp;omega)]at hy
  exact⟨y,hy,hb⟩
 ·obtain⟨y,hy,hb⟩:=hg i x hx
  obtain⟨g1,g2⟩:=h.rest i y hi hy
  have e1:x.defined=y.defined:=(by have e0:=congrArg (fun q:SymL=>q.defined) hb;exact e0)
  refine⟨by rw [e1];exact g1,fun k z hk hki hz hh=> ?_⟩
  obtain⟨z',hz',hb'⟩:=hg k z hz
  refine g2 k z' hk hki hz' ⟨?_,?_⟩
  ·have a1:z.name=z'.name:=(by have e0:=congrArg (fun q:SymL=>q.name) hb';exact e0)
   have a2:x.name=y.name:=(by have e0:=congrArg (fun q:SymL=>q.name) hb;exact e0)
   rw [← a1,← a2];exact hh.1
  ·have a1:z.version=z'.version:=(by have e0:=congrArg (fun q:SymL=>q.version) hb';exact e0)
   have a2:x.version=y.version:=(by have e0:=congrArg (fun q:SymL=>q.version) hb;exact e0)
   rw [← a1,← a2];exact hh.2
theorem LAt.byte1 {S:Nat→Prop} {w:World} {a:Option Addr} {b off:Nat} {l:List UInt8} (h:LAt kByte S w l a b off) (i:Nat) (x:UInt8) (hx:l[i]? =some x):w.cell? ⟨b,off+i,none⟩=some (.int .u8 x.toNat):=by
 obtain⟨row,h1,h2⟩:=h.row i x hx
 have:=h2 0 (.int .u8 x.toNat) (by rw [h1];rfl)
 simpa [kByte] using this
open Go.RowKit
theorem below_drewN {B n:Nat} {a w:World} (h:Below B a w):Below B a (w.drewN n):=⟨h.os,h.tape,h.output,h.size,h.block⟩
end Go.Proofs.Ytpomdoliblilfaa
