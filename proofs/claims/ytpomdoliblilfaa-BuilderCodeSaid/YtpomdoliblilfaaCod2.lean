/- Lemmas. -/
import Derived.Test.YtpomdoliblilfaaCod1
namespace Go.Proofs.Ytpomdoliblilfaa
set_option linter.unusedVariables false
set_option linter.unusedSimpArgs false
open Go.RowKit
structure SymsB (s:SpecL) (l:List SymL):Prop where
 func:∀ i x,l[i]? =some x→i<s.funcs.length→∃ f,s.funcs[i]? =some f∧x.name=f.sym.name∧x.defined=true
 var:∀ i x,l[i]? =some x→s.funcs.length≤i→i<s.funcs.length+s.vars.length→∃ v,s.vars[i-s.funcs.length]? =some v∧x.name=v.sym.name∧x.defined=true
 rest:∀ i x,s.funcs.length+s.vars.length≤i→l[i]? =some x→x.defined=false∧∀ k y,s.funcs.length+s.vars.length≤k→k<i→l[k]? =some y→¬ (y.name=x.name∧y.version=x.version)
 len:s.funcs.length+s.vars.length≤l.length∧l.length≤512
end Go.Proofs.Ytpomdoliblilfaa
