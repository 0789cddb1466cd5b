/- Plain: the least number of colours. -/
import Derived.Test.YtikppcfabnnhfaaDoorCNS4
import Derived.Test.YtikppcfabnnhfaaDoorCNC17
namespace Go.Proofs.YtikppcfabnnhfaaDoor
open Go Go.Aw
set_option linter.unusedVariables false
def confG (g : List Int) (a b : Int) : Prop := hasW g (nb a) b = true
theorem get_D {cs : List Int} {i : Nat} (h : i < cs.length) : cs.getD i 0 = cs[i] := by
  rw [List.getD_eq_getElem?_getD, List.getElem?_eq_getElem h]; rfl
end Go.Proofs.YtikppcfabnnhfaaDoor
