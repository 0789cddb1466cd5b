/- Plain: what a check takes; what ColourFew says. -/
import Derived.Test.YtikppcfabnnhfaaDoorCNS9
namespace Go.Proofs.YtikppcfabnnhfaaDoor
open Go Go.Aw
set_option linter.unusedVariables false
end Go.Proofs.YtikppcfabnnhfaaDoor
