/- Plain: sizes, colours, the least one. -/
import Derived.Test.YtikppcfabnnhfaaDoorCNS3
import Derived.Test.YtikppcfabnnhfaaDoorCNC25
import Derived.Test.YtikppcfabnnhfaaDoorCNC27
namespace Go.Proofs.YtikppcfabnnhfaaDoor
open Go Go.Aw
set_option linter.unusedSimpArgs false
set_option linter.unusedVariables false
end Go.Proofs.YtikppcfabnnhfaaDoor
