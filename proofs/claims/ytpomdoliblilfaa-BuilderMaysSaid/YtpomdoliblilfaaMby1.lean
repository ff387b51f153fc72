/- Lemmas. -/
import Derived.Test.YtpomdoliblilfaaBld44
import Derived.BigQuiet
namespace Go.Proofs.Ytpomdoliblilfaa
set_option linter.unusedVariables false
set_option linter.unusedSimpArgs false
open Go.RowKit
theorem below_drewN {B n:Nat} {a w:World} (h:Below B a w):Below B a (w.drewN n):=⟨h.os,h.tape,h.output,h.size,h.block⟩
end Go.Proofs.Ytpomdoliblilfaa
