/- Lemmas. -/
import Derived.Test.YtpomdoliblilfaaWor1
namespace Go.Proofs.Ytpomdoliblilfaa
set_option linter.unusedVariables false
set_option linter.unusedSimpArgs false
open Go.RowKit
theorem build_symsQ {s:SpecL} (h:(buildL s).2=0):(buildL s).1.syms=(placedQ s).syms:=by
 obtain⟨_,_,he,_⟩:=buildL_ok h
 rw [he,(insts_plan s).1]
 show(relsL s (layL s (checkL s)) (placedQ s)).1.syms=_
 rw [rels_eq _ (placed_vars s)]
structure SymsB (s:SpecL) (l:List SymL):Prop where
 func:∀ i x,l[i]? =some x→i<s.funcs.length→∃ f,s.funcs[i]? =some f∧x.name=f.sym.name∧x.defined=true
 var:∀ i x,l[i]? =some x→s.funcs.length≤i→i<s.funcs.length+s.vars.length→∃ v,s.vars[i-s.funcs.length]? =some v∧x.name=v.sym.name∧x.defined=true
 rest:∀ i x,s.funcs.length+s.vars.length≤i→l[i]? =some x→x.defined=false∧∀ k y,s.funcs.length+s.vars.length≤k→k<i→l[k]? =some y→¬ (y.name=x.name∧y.version=x.version)
 len:s.funcs.length+s.vars.length≤l.length∧l.length≤512
theorem build_syms {s:SpecL} (h:(buildL s).2=0):SymsB s (buildL s).1.syms:=by
 have hb:(placedQ s).syms.map bareS=(checkL s).syms.map bareS:=by unfold placedQ;rw [symsL_bare,(fini_plan s).1]
 obtain⟨h1,h2⟩:=(check_placed s).bare hb
 have hlen:(placedQ s).syms.length=(checkL s).syms.length:=by have:=congrArg List.length hb;simpa using this
 have hp:=(check_placed s).own.length_le
 rw [build_symsQ h]
 refine⟨fun i x hx hi=> ?_,fun i x hx hi hi2=> ?_,h2,?_⟩
 ·obtain⟨y,hy,hbb⟩:=h1 i x hx (by omega)
  rw [List.getElem?_append_left (by simpa using hi),List.getElem?_map]at hy
  cases hf:s.funcs[i]? with
  | none=>rw [hf]at hy;cases hy
  | some f=>
   rw [hf]at hy
   have hy:=Option.some.inj hy
   subst hy
   exact⟨f,rfl,by have e:=congrArg (fun q:SymL=>q.name) hbb;exact e,by have e:=congrArg (fun q:SymL=>q.defined) hbb;exact e⟩
 ·obtain⟨y,hy,hbb⟩:=h1 i x hx hi2
  rw [List.getElem?_append_right (by simpa using hi),List.getElem?_map,List.length_map]at hy
  cases hf:s.vars[i-s.funcs.length]? with
  | none=>rw [hf]at hy;cases hy
  | some f=>
   rw [hf]at hy
   have hy:=Option.some.inj hy
   subst hy
   exact⟨f,rfl,by have e:=congrArg (fun q:SymL=>q.name) hbb;exact e,by have e:=congrArg (fun q:SymL=>q.defined) hbb;exact e⟩
 ·have:=(buildL_ok h).1.sizes
  simp at hp
  omega
end Go.Proofs.Ytpomdoliblilfaa
