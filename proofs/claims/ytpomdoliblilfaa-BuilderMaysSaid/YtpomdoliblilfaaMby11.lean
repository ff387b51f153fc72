/- BuilderMays, no condition: for every such input the law returns true, and its arguments read behind the call as they did. -/
import Derived.Test.YtpomdoliblilfaaMby10
namespace Go.Proofs.Ytpomdoliblilfaa.builderMaysLaw
set_option linter.unusedVariables false
set_option linter.unusedSimpArgs false
theorem proved:Rows.BuilderMaysSaid:=over
end Go.Proofs.Ytpomdoliblilfaa.builderMaysLaw
