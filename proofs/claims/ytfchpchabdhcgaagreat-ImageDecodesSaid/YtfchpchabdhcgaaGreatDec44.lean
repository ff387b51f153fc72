/- ImageDecodes, no condition: for every such input the law returns true, and its arguments read behind the call as they did. -/
import Derived.Test.YtfchpchabdhcgaaGreatDec43
import Derived.Test.YtfchpchabdhcgaaGreatDec38
set_option linter.unusedVariables false
set_option linter.unusedSimpArgs false
set_option maxHeartbeats 64000000
set_option maxRecDepth 100000
namespace Go.Proofs.YtfchpchabdhcgaaGreat.imageDecodesLaw
theorem proved:Rows.ImageDecodesSaid:=over dec_says
end Go.Proofs.YtfchpchabdhcgaaGreat.imageDecodesLaw
