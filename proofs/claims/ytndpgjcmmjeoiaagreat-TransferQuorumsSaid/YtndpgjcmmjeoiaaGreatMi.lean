/- Arrays of one-cell elements at any index. Own work; imports the kit's laws only. -/
import Derived.Test.YtndpgjcmmjeoiaaGreatMe
set_option linter.unusedVariables false
set_option linter.unusedSimpArgs false
set_option maxRecDepth 8000
set_option maxHeartbeats 1000000
namespace Go.AM
open V (Le LeL)
end Go.AM
