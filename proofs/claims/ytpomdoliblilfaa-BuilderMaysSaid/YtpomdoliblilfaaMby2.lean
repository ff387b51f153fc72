/- Lemmas. -/
import Derived.Test.YtpomdoliblilfaaMby1
namespace Go.Proofs.Ytpomdoliblilfaa
set_option linter.unusedVariables false
set_option linter.unusedSimpArgs false
open Go.RowKit
theorem FewB.l {s:SpecL} (h:FewB s) (hr:Reach s):FewL s:=⟨h.funcs,h.vars,h.lines,h.words,h.refs,h.init,h.fini,hr.run,hr.need,hr.vers⟩
theorem SpecM.imp {S S':Nat→Prop} {w:World} {v:SpecV} {s:SpecL} (h:SpecM S w v s) (hi:∀ b,S b→S' b):SpecM S' w v s:=
 ⟨h.needed.imp hi,h.runPath.imp hi,h.funcs.imp hi,h.vars.imp hi,h.weak.imp hi,h.init.imp hi,h.fini.imp hi,h.name,h.flags⟩
theorem SpecM.later {w w':World} {v:SpecV} {s:SpecL} (h:SpecM (·<w.heap.size) w v s) (hb:Below w.heap.size w w'):SpecM (·<w'.heap.size) w' v s:=
 (h.keeps (.of_below hb)).imp fun _ hb'=>Nat.lt_of_lt_of_le hb' hb.size
theorem Placed.bare {s:SpecL} {l m:List SymL} (h:Placed s l) (hm:m.map bareS=l.map bareS):(∀ (i:Nat) (x:SymL),m[i]? =some x→i<s.funcs.length+s.vars.length→∃ y,(s.funcs.map (fun f=>defSym f.sym)++s.vars.map (fun v=>defSym v.sym))[i]? =some y∧bareS x=bareS y)∧
  ∀ (i:Nat) (x:SymL),s.funcs.length+s.vars.length≤i→m[i]? =some x→x.defined=false∧∀ (k:Nat) (y:SymL),s.funcs.length+s.vars.length≤k→k<i→m[k]? =some y→¬ (y.name=x.name∧y.version=x.version):=by
 have hg:∀ (i:Nat) (x:SymL),m[i]? =some x→∃ y,l[i]? =some y∧bareS x=bareS y:=by
  intro i x hx
  have h1:(m.map bareS)[i]? =some (bareS x):=by rw [List.getElem?_map,hx];rfl
  rw [hm,List.getElem?_map]at h1
  cases hl:l[i]? with
  | none=>rw [hl]at h1;cases h1
  | some y=>rw [hl]at h1;exact⟨y,rfl,(Option.some.inj h1).symm⟩
 refine⟨fun i x hx hi=> ?_,fun i x hi hx=> ?_⟩
 ·obtain⟨y,hy,hb⟩:=hg i x hx
  obtain⟨t,ht⟩:=h.own
  rw [← ht,List.getElem?_append_left (by simp;omega)]at hy
  exact⟨y,hy,hb⟩
 ·obtain⟨y,hy,hb⟩:=hg i x hx
  obtain⟨g1,g2⟩:=h.rest i y hi hy
  have e1:x.defined=y.defined:=(by have e0:=congrArg (fun q:SymL=>q.defined) hb;exact e0)
  refine⟨by rw [e1];exact g1,fun k z hk hki hz hh=> ?_⟩
  obtain⟨z',hz',hb'⟩:=hg k z hz
  refine g2 k z' hk hki hz' ⟨?_,?_⟩
  ·have a1:z.name=z'.name:=(by have e0:=congrArg (fun q:SymL=>q.name) hb';exact e0)
   have a2:x.name=y.name:=(by have e0:=congrArg (fun q:SymL=>q.name) hb;exact e0)
   rw [← a1,← a2];exact hh.1
  ·have a1:z.version=z'.version:=(by have e0:=congrArg (fun q:SymL=>q.version) hb';exact e0)
   have a2:x.version=y.version:=(by have e0:=congrArg (fun q:SymL=>q.version) hb;exact e0)
   rw [← a1,← a2];exact hh.2
open Go.RowKit
theorem build_symsQ {s:SpecL} (h:(buildL s).2=0):(buildL s).1.syms=(placedQ s).syms:=by
 obtain⟨_,_,he,_⟩:=buildL_ok h
 rw [he,(insts_plan s).1]
 show(relsL s (layL s (checkL s)) (placedQ s)).1.syms=_
 rw [rels_eq _ (placed_vars s)]
structure SymsB (s:SpecL) (l:List SymL):Prop where
 func:∀ i x,l[i]? =some x→i<s.funcs.length→∃ f,s.funcs[i]? =some f∧x.name=f.sym.name∧x.defined=true
 var:∀ i x,l[i]? =some x→s.funcs.length≤i→i<s.funcs.length+s.vars.length→∃ v,s.vars[i-s.funcs.length]? =some v∧x.name=v.sym.name∧x.defined=true
 rest:∀ i x,s.funcs.length+s.vars.length≤i→l[i]? =some x→x.defined=false∧∀ k y,s.funcs.length+s.vars.length≤k→k<i→l[k]? =some y→¬ (y.name=x.name∧y.version=x.version)
 len:s.funcs.length+s.vars.length≤l.length∧l.length≤512
theorem build_syms {s:SpecL} (h:(buildL s).2=0):SymsB s (buildL s).1.syms:=by
 have hb:(placedQ s).syms.map bareS=(checkL s).syms.map bareS:=by unfold placedQ;rw [symsL_bare,(fini_plan s).1]
 obtain⟨h1,h2⟩:=(check_placed s).bare hb
 have hlen:(placedQ s).syms.length=(checkL s).syms.length:=by have:=congrArg List.length hb;simpa using this
 have hp:=(check_placed s).own.length_le
 rw [build_symsQ h]
 refine⟨fun i x hx hi=> ?_,fun i x hx hi hi2=> ?_,h2,?_⟩
 ·obtain⟨y,hy,hbb⟩:=h1 i x hx (by omega)
  rw [List.getElem?_append_left (by simpa using hi),List.getElem?_map]at hy
  cases hf:s.funcs[i]? with
  | none=>rw [hf]at hy;cases hy
  | some f=>
   rw [hf]at hy
   have hy:=Option.some.inj hy
   subst hy
   exact⟨f,rfl,by have e:=congrArg (fun q:SymL=>q.name) hbb;exact e,by have e:=congrArg (fun q:SymL=>q.defined) hbb;exact e⟩
 ·obtain⟨y,hy,hbb⟩:=h1 i x hx hi2
  rw [List.getElem?_append_right (by simpa using hi),List.getElem?_map,List.length_map]at hy
  cases hf:s.vars[i-s.funcs.length]? with
  | none=>rw [hf]at hy;cases hy
  | some f=>
   rw [hf]at hy
   have hy:=Option.some.inj hy
   subst hy
   exact⟨f,rfl,by have e:=congrArg (fun q:SymL=>q.name) hbb;exact e,by have e:=congrArg (fun q:SymL=>q.defined) hbb;exact e⟩
 ·have:=(buildL_ok h).1.sizes
  simp at hp
  omega
end Go.Proofs.Ytpomdoliblilfaa
