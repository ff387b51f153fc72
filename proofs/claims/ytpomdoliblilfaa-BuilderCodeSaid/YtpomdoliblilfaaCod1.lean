/- Lemmas. -/
import Derived.Test.YtpomdoliblilfaaBld44
import Derived.BigQuiet
namespace Go.Proofs.Ytpomdoliblilfaa
set_option linter.unusedVariables false
set_option linter.unusedSimpArgs false
open Go.RowKit
theorem FewB.l {s:SpecL} (h:FewB s) (hr:Reach s):FewL s:=⟨h.funcs,h.vars,h.lines,h.words,h.refs,h.init,h.fini,hr.run,hr.need,hr.vers⟩
theorem SpecM.imp {S S':Nat→Prop} {w:World} {v:SpecV} {s:SpecL} (h:SpecM S w v s) (hi:∀ b,S b→S' b):SpecM S' w v s:=
 ⟨h.needed.imp hi,h.runPath.imp hi,h.funcs.imp hi,h.vars.imp hi,h.weak.imp hi,h.init.imp hi,h.fini.imp hi,h.name,h.flags⟩
theorem SpecM.later {w w':World} {v:SpecV} {s:SpecL} (h:SpecM (·<w.heap.size) w v s) (hb:Below w.heap.size w w'):SpecM (·<w'.heap.size) w' v s:=
 (h.keeps (.of_below hb)).imp fun _ hb'=>Nat.lt_of_lt_of_le hb' hb.size
open Go.RowKit
theorem below_drewN {B n:Nat} {a w:World} (h:Below B a w):Below B a (w.drewN n):=⟨h.os,h.tape,h.output,h.size,h.block⟩
end Go.Proofs.Ytpomdoliblilfaa
