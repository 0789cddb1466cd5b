/- Plain: how many selectors are understood. -/
import Derived.Test.YtikppcfabnnhfaaDoorCNS8
namespace Go.Proofs.YtikppcfabnnhfaaDoor
open Go Go.Aw
set_option linter.unusedVariables false
set_option maxRecDepth 100000
set_option maxHeartbeats 4000000
end Go.Proofs.YtikppcfabnnhfaaDoor
