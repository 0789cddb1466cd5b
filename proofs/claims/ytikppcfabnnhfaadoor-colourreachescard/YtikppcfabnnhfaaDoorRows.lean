/-
  NARROWER THAN 'FOR EVERY INPUT', by the rows' own cells (each row's printed sentence says how): ColourLookups: laid · ColourFew: laid · ColourTables: laid · ColourColours: laid · ColourFinds: laid · ColourGrows: laid · ColourReaches: laid · ColourCloses: laid.
  DERIVED. THE GIVEN ROWS OF THIS SEAT. 8 by the template 'for every input the law returns true; each argument reads behind the call as it read before'; 0 by the template 'total and deterministic' (their statements: YtikppcfabnnhfaaDoorTotals.lean).
  GIVEN WITH THE SEED: the statements are not yours to turn. If you find one false, say at which input.
  Laid BY PROGRAM, IN A SANDBOX (cutbox-rows.mjs): the forced cells as the released guide's own fill.sh prints them over the translation 951aa66c7a3b71c0… (all of the seat's roots in one cut). By AI agents, Wed Nov 11 2026. No macro, syntax, notation, axiom, sorry.
-/
import Derived.Test.YtikppcfabnnhfaaDoorChecked
import GoSem.Claim
import GoSem.ClaimJoined
import GoSem.ClaimMapViews
import Derived.JoinedTies
import Derived.KernelRfl
namespace Go.Proofs.YtikppcfabnnhfaaDoor
/- THE CELL 'sum', in the pinned program and in every row, IS THE sha256 OF THE DUMP (.gsa) THAT YtikppcfabnnhfaaDoorProg.lean LOADS. Nothing in Lean hashes anything: it is a label: what it is worth is what the hold of that sum in a sandbox is worth. -/
noncomputable def Tryd.pinned : Pinned := { name := "ytikppcfabnnhfaadoor", sum := "951aa66c7a3b71c0297b4041bc0ead8db40e84d0d16afee9472467326c73d85f", checked := Tryd.checked }
namespace Rows
def none {H : Type} : Left H := { results := [], args := [] }

/- WHAT THE LISTED PACKAGE-LEVEL VARIABLES READ AS WHEN THE CALL BEGINS. Each datum BY PROGRAM (the guide's laid-datum.mjs) off the statement by which the dump's own 'gosem.cut.vars' lays the variable. In a bare row this is a premise. The card (YtikppcfabnnhfaaDoorCards.lean) ties it to the program's text. -/
def laid_math_bits_deBruijn64tab {H : Type} : DataW H := .agg [.lit (.int .u8 0), .lit (.int .u8 1), .lit (.int .u8 56), .lit (.int .u8 2), .lit (.int .u8 57), .lit (.int .u8 49), .lit (.int .u8 28), .lit (.int .u8 3), .lit (.int .u8 61), .lit (.int .u8 58), .lit (.int .u8 42), .lit (.int .u8 50), .lit (.int .u8 38), .lit (.int .u8 29), .lit (.int .u8 17), .lit (.int .u8 4), .lit (.int .u8 62), .lit (.int .u8 47), .lit (.int .u8 59), .lit (.int .u8 36), .lit (.int .u8 45), .lit (.int .u8 43), .lit (.int .u8 51), .lit (.int .u8 22), .lit (.int .u8 53), .lit (.int .u8 39), .lit (.int .u8 33), .lit (.int .u8 30), .lit (.int .u8 24), .lit (.int .u8 18), .lit (.int .u8 12), .lit (.int .u8 5), .lit (.int .u8 63), .lit (.int .u8 55), .lit (.int .u8 48), .lit (.int .u8 27), .lit (.int .u8 60), .lit (.int .u8 41), .lit (.int .u8 37), .lit (.int .u8 16), .lit (.int .u8 46), .lit (.int .u8 35), .lit (.int .u8 44), .lit (.int .u8 21), .lit (.int .u8 52), .lit (.int .u8 32), .lit (.int .u8 23), .lit (.int .u8 11), .lit (.int .u8 54), .lit (.int .u8 26), .lit (.int .u8 40), .lit (.int .u8 15), .lit (.int .u8 34), .lit (.int .u8 20), .lit (.int .u8 31), .lit (.int .u8 10), .lit (.int .u8 25), .lit (.int .u8 14), .lit (.int .u8 19), .lit (.int .u8 9), .lit (.int .u8 13), .lit (.int .u8 8), .lit (.int .u8 7), .lit (.int .u8 6)]

/-- 'hackamorelaw23.ColourLookups': WHATEVER THE INPUT: true; the input reads as it did. -/
def colourLookupsSpec : ChangeSpec := { name := "colourLookups", fn := fun _ => fun
  | [d1, d2, d3, d4, d5] => { results := [.lit (.bool true)], args := [d1, d2, d3, d4, d5] }
  | _ => none }
def colourLookupsRow : OpenClaim := { program := "ytikppcfabnnhfaadoor", sum := "951aa66c7a3b71c0297b4041bc0ead8db40e84d0d16afee9472467326c73d85f", func := "hackamore/hackamorelaw23.ColourLookups", spec := "colourLookups", unfollowed := true, recurses := true, named := ["math/bits.deBruijn64tab"], apart := false, laid := [("math/bits.deBruijn64tab", laid_math_bits_deBruijn64tab)] }
def ColourLookupsSaid : Prop := colourLookupsRow.holds Tryd.pinned (OpenSpec.ofChange colourLookupsSpec)

/-- ITS FALSE NEIGHBOUR: 'it returns false'. Refute it at one input. -/
def colourLookupsWrong : ChangeSpec := { name := "colourLookups", fn := fun _ => fun
  | [d1, d2, d3, d4, d5] => { results := [.lit (.bool false)], args := [d1, d2, d3, d4, d5] }
  | _ => none }
def ColourLookupsWrongFalsely : Prop := colourLookupsRow.holds Tryd.pinned (OpenSpec.ofChange colourLookupsWrong)

/-- 'hackamorelaw23.ColourFew': WHATEVER THE INPUT: true; the input reads as it did. -/
def colourFewSpec : ChangeSpec := { name := "colourFew", fn := fun _ => fun
  | [d1, d2] => { results := [.lit (.bool true)], args := [d1, d2] }
  | _ => none }
def colourFewRow : OpenClaim := { program := "ytikppcfabnnhfaadoor", sum := "951aa66c7a3b71c0297b4041bc0ead8db40e84d0d16afee9472467326c73d85f", func := "hackamore/hackamorelaw23.ColourFew", spec := "colourFew", unfollowed := true, recurses := true, named := ["math/bits.deBruijn64tab"], apart := false, laid := [("math/bits.deBruijn64tab", laid_math_bits_deBruijn64tab)] }
def ColourFewSaid : Prop := colourFewRow.holds Tryd.pinned (OpenSpec.ofChange colourFewSpec)

/-- ITS FALSE NEIGHBOUR: 'it returns false'. Refute it at one input. -/
def colourFewWrong : ChangeSpec := { name := "colourFew", fn := fun _ => fun
  | [d1, d2] => { results := [.lit (.bool false)], args := [d1, d2] }
  | _ => none }
def ColourFewWrongFalsely : Prop := colourFewRow.holds Tryd.pinned (OpenSpec.ofChange colourFewWrong)

/-- 'hackamorelaw23.ColourTables': WHATEVER THE INPUT: true; the input reads as it did. -/
def colourTablesSpec : ChangeSpec := { name := "colourTables", fn := fun _ => fun
  | [d1, d2, d3, d4] => { results := [.lit (.bool true)], args := [d1, d2, d3, d4] }
  | _ => none }
def colourTablesRow : OpenClaim := { program := "ytikppcfabnnhfaadoor", sum := "951aa66c7a3b71c0297b4041bc0ead8db40e84d0d16afee9472467326c73d85f", func := "hackamore/hackamorelaw23.ColourTables", spec := "colourTables", unfollowed := true, recurses := true, named := ["math/bits.deBruijn64tab"], apart := false, laid := [("math/bits.deBruijn64tab", laid_math_bits_deBruijn64tab)] }
def ColourTablesSaid : Prop := colourTablesRow.holds Tryd.pinned (OpenSpec.ofChange colourTablesSpec)

/-- ITS FALSE NEIGHBOUR: 'it returns false'. Refute it at one input. -/
def colourTablesWrong : ChangeSpec := { name := "colourTables", fn := fun _ => fun
  | [d1, d2, d3, d4] => { results := [.lit (.bool false)], args := [d1, d2, d3, d4] }
  | _ => none }
def ColourTablesWrongFalsely : Prop := colourTablesRow.holds Tryd.pinned (OpenSpec.ofChange colourTablesWrong)

/-- 'hackamorelaw23.ColourColours': WHATEVER THE INPUT: true; the input reads as it did. -/
def colourColoursSpec : ChangeSpec := { name := "colourColours", fn := fun _ => fun
  | [d1, d2] => { results := [.lit (.bool true)], args := [d1, d2] }
  | _ => none }
def colourColoursRow : OpenClaim := { program := "ytikppcfabnnhfaadoor", sum := "951aa66c7a3b71c0297b4041bc0ead8db40e84d0d16afee9472467326c73d85f", func := "hackamore/hackamorelaw23.ColourColours", spec := "colourColours", unfollowed := true, recurses := true, named := ["math/bits.deBruijn64tab"], apart := false, laid := [("math/bits.deBruijn64tab", laid_math_bits_deBruijn64tab)] }
def ColourColoursSaid : Prop := colourColoursRow.holds Tryd.pinned (OpenSpec.ofChange colourColoursSpec)

/-- ITS FALSE NEIGHBOUR: 'it returns false'. Refute it at one input. -/
def colourColoursWrong : ChangeSpec := { name := "colourColours", fn := fun _ => fun
  | [d1, d2] => { results := [.lit (.bool false)], args := [d1, d2] }
  | _ => none }
def ColourColoursWrongFalsely : Prop := colourColoursRow.holds Tryd.pinned (OpenSpec.ofChange colourColoursWrong)

/-- 'hackamorelaw23.ColourFinds': WHATEVER THE INPUT: true; the input reads as it did. -/
def colourFindsSpec : ChangeSpec := { name := "colourFinds", fn := fun _ => fun
  | [d] => { results := [.lit (.bool true)], args := [d] }
  | _ => none }
def colourFindsRow : OpenClaim := { program := "ytikppcfabnnhfaadoor", sum := "951aa66c7a3b71c0297b4041bc0ead8db40e84d0d16afee9472467326c73d85f", func := "hackamore/hackamorelaw23.ColourFinds", spec := "colourFinds", unfollowed := true, recurses := true, named := ["math/bits.deBruijn64tab"], apart := false, laid := [("math/bits.deBruijn64tab", laid_math_bits_deBruijn64tab)] }
def ColourFindsSaid : Prop := colourFindsRow.holds Tryd.pinned (OpenSpec.ofChange colourFindsSpec)

/-- ITS FALSE NEIGHBOUR: 'it returns false'. Refute it at one input. -/
def colourFindsWrong : ChangeSpec := { name := "colourFinds", fn := fun _ => fun
  | [d] => { results := [.lit (.bool false)], args := [d] }
  | _ => none }
def ColourFindsWrongFalsely : Prop := colourFindsRow.holds Tryd.pinned (OpenSpec.ofChange colourFindsWrong)

/-- 'hackamorelaw23.ColourGrows': WHATEVER THE INPUT: true; the input reads as it did. -/
def colourGrowsSpec : ChangeSpec := { name := "colourGrows", fn := fun _ => fun
  | [d1, d2] => { results := [.lit (.bool true)], args := [d1, d2] }
  | _ => none }
def colourGrowsRow : OpenClaim := { program := "ytikppcfabnnhfaadoor", sum := "951aa66c7a3b71c0297b4041bc0ead8db40e84d0d16afee9472467326c73d85f", func := "hackamore/hackamorelaw23.ColourGrows", spec := "colourGrows", unfollowed := true, recurses := true, named := ["math/bits.deBruijn64tab"], apart := false, laid := [("math/bits.deBruijn64tab", laid_math_bits_deBruijn64tab)] }
def ColourGrowsSaid : Prop := colourGrowsRow.holds Tryd.pinned (OpenSpec.ofChange colourGrowsSpec)

/-- ITS FALSE NEIGHBOUR: 'it returns false'. Refute it at one input. -/
def colourGrowsWrong : ChangeSpec := { name := "colourGrows", fn := fun _ => fun
  | [d1, d2] => { results := [.lit (.bool false)], args := [d1, d2] }
  | _ => none }
def ColourGrowsWrongFalsely : Prop := colourGrowsRow.holds Tryd.pinned (OpenSpec.ofChange colourGrowsWrong)

/-- 'hackamorelaw23.ColourReaches': WHATEVER THE INPUT: true; the input reads as it did. -/
def colourReachesSpec : ChangeSpec := { name := "colourReaches", fn := fun _ => fun
  | [d] => { results := [.lit (.bool true)], args := [d] }
  | _ => none }
def colourReachesRow : OpenClaim := { program := "ytikppcfabnnhfaadoor", sum := "951aa66c7a3b71c0297b4041bc0ead8db40e84d0d16afee9472467326c73d85f", func := "hackamore/hackamorelaw23.ColourReaches", spec := "colourReaches", unfollowed := true, recurses := true, named := ["math/bits.deBruijn64tab"], apart := false, laid := [("math/bits.deBruijn64tab", laid_math_bits_deBruijn64tab)] }
def ColourReachesSaid : Prop := colourReachesRow.holds Tryd.pinned (OpenSpec.ofChange colourReachesSpec)

/-- ITS FALSE NEIGHBOUR: 'it returns false'. Refute it at one input. -/
def colourReachesWrong : ChangeSpec := { name := "colourReaches", fn := fun _ => fun
  | [d] => { results := [.lit (.bool false)], args := [d] }
  | _ => none }
def ColourReachesWrongFalsely : Prop := colourReachesRow.holds Tryd.pinned (OpenSpec.ofChange colourReachesWrong)

/-- 'hackamorelaw23.ColourCloses': WHATEVER THE INPUT: true; the input reads as it did. -/
def colourClosesSpec : ChangeSpec := { name := "colourCloses", fn := fun _ => fun
  | [d1, d2] => { results := [.lit (.bool true)], args := [d1, d2] }
  | _ => none }
def colourClosesRow : OpenClaim := { program := "ytikppcfabnnhfaadoor", sum := "951aa66c7a3b71c0297b4041bc0ead8db40e84d0d16afee9472467326c73d85f", func := "hackamore/hackamorelaw23.ColourCloses", spec := "colourCloses", unfollowed := true, recurses := true, named := ["math/bits.deBruijn64tab"], apart := false, laid := [("math/bits.deBruijn64tab", laid_math_bits_deBruijn64tab)] }
def ColourClosesSaid : Prop := colourClosesRow.holds Tryd.pinned (OpenSpec.ofChange colourClosesSpec)

/-- ITS FALSE NEIGHBOUR: 'it returns false'. Refute it at one input. -/
def colourClosesWrong : ChangeSpec := { name := "colourCloses", fn := fun _ => fun
  | [d1, d2] => { results := [.lit (.bool false)], args := [d1, d2] }
  | _ => none }
def ColourClosesWrongFalsely : Prop := colourClosesRow.holds Tryd.pinned (OpenSpec.ofChange colourClosesWrong)

/- THE SECOND FORM. 'bulk': how many values and letters a reading holds, each counted each time it is reached (what is shared counts as often as it is met; a slice's spare places count too). A statement '..UptoSaid' is the law's where the arguments, and the package variables that the reading takes, are together of bulk at most 1048576: NARROWER than '..Said'. Prove '..Said' where nothing that the law and all that it calls make is longer than what came in: it says more and counts as full. Else prove '..UptoSaid'. A law counts once. -/
mutual
def uptoBulk {H : Type} : DataW H → Nat
  | .lit (.string bytes) => bytes.length + 1
  | .lit _ => 1
  | .nil => 1
  | .ptr d => uptoBulk d + 1
  | .slice elems spare => uptoBulkAll elems + uptoBulkAll spare + 1
  | .agg parts => uptoBulkAll parts + 1
  | .iface _ d => uptoBulk d + 1
  | .map entries => uptoBulkEntries entries + 1
  | .held _ => 1
def uptoBulkAll {H : Type} : List (DataW H) → Nat
  | [] => 0
  | d :: r => uptoBulk d + uptoBulkAll r
def uptoBulkEntries {H : Type} : List (Lit × DataW H) → Nat
  | [] => 0
  | x :: r => uptoBulkEntry x + uptoBulkEntries r
def uptoBulkEntry {H : Type} : Lit × DataW H → Nat
  | (.string bytes, d) => bytes.length + uptoBulk d + 1
  | (_, d) => uptoBulk d + 1
 end
def uptoSmall : (H : Type) → List (DataW H) → Bool := fun _ ds => decide (uptoBulkAll ds ≤ 1048576)
def OpenSpec.upto (s : _root_.Go.ChangeSpec) : _root_.Go.OpenSpec := { _root_.Go.OpenSpec.ofChange s with cond := some uptoSmall }

/-- 'hackamorelaw23.ColourLookups', WHERE WHAT IT READS IS OF BULK AT MOST 1048576: true; the input reads as it did. -/
def colourLookupsUptoRow : OpenClaim := { program := "ytikppcfabnnhfaadoor", sum := "951aa66c7a3b71c0297b4041bc0ead8db40e84d0d16afee9472467326c73d85f", func := "hackamore/hackamorelaw23.ColourLookups", spec := "colourLookups", unfollowed := true, recurses := true, named := ["math/bits.deBruijn64tab"], apart := false, laid := [("math/bits.deBruijn64tab", laid_math_bits_deBruijn64tab)], narrowed := true }
def ColourLookupsUptoSaid : Prop := colourLookupsUptoRow.holds Tryd.pinned (OpenSpec.upto colourLookupsSpec)

/-- 'hackamorelaw23.ColourFew', WHERE WHAT IT READS IS OF BULK AT MOST 1048576: true; the input reads as it did. -/
def colourFewUptoRow : OpenClaim := { program := "ytikppcfabnnhfaadoor", sum := "951aa66c7a3b71c0297b4041bc0ead8db40e84d0d16afee9472467326c73d85f", func := "hackamore/hackamorelaw23.ColourFew", spec := "colourFew", unfollowed := true, recurses := true, named := ["math/bits.deBruijn64tab"], apart := false, laid := [("math/bits.deBruijn64tab", laid_math_bits_deBruijn64tab)], narrowed := true }
def ColourFewUptoSaid : Prop := colourFewUptoRow.holds Tryd.pinned (OpenSpec.upto colourFewSpec)

/-- 'hackamorelaw23.ColourTables', WHERE WHAT IT READS IS OF BULK AT MOST 1048576: true; the input reads as it did. -/
def colourTablesUptoRow : OpenClaim := { program := "ytikppcfabnnhfaadoor", sum := "951aa66c7a3b71c0297b4041bc0ead8db40e84d0d16afee9472467326c73d85f", func := "hackamore/hackamorelaw23.ColourTables", spec := "colourTables", unfollowed := true, recurses := true, named := ["math/bits.deBruijn64tab"], apart := false, laid := [("math/bits.deBruijn64tab", laid_math_bits_deBruijn64tab)], narrowed := true }
def ColourTablesUptoSaid : Prop := colourTablesUptoRow.holds Tryd.pinned (OpenSpec.upto colourTablesSpec)

/-- 'hackamorelaw23.ColourColours', WHERE WHAT IT READS IS OF BULK AT MOST 1048576: true; the input reads as it did. -/
def colourColoursUptoRow : OpenClaim := { program := "ytikppcfabnnhfaadoor", sum := "951aa66c7a3b71c0297b4041bc0ead8db40e84d0d16afee9472467326c73d85f", func := "hackamore/hackamorelaw23.ColourColours", spec := "colourColours", unfollowed := true, recurses := true, named := ["math/bits.deBruijn64tab"], apart := false, laid := [("math/bits.deBruijn64tab", laid_math_bits_deBruijn64tab)], narrowed := true }
def ColourColoursUptoSaid : Prop := colourColoursUptoRow.holds Tryd.pinned (OpenSpec.upto colourColoursSpec)

/-- 'hackamorelaw23.ColourFinds', WHERE WHAT IT READS IS OF BULK AT MOST 1048576: true; the input reads as it did. -/
def colourFindsUptoRow : OpenClaim := { program := "ytikppcfabnnhfaadoor", sum := "951aa66c7a3b71c0297b4041bc0ead8db40e84d0d16afee9472467326c73d85f", func := "hackamore/hackamorelaw23.ColourFinds", spec := "colourFinds", unfollowed := true, recurses := true, named := ["math/bits.deBruijn64tab"], apart := false, laid := [("math/bits.deBruijn64tab", laid_math_bits_deBruijn64tab)], narrowed := true }
def ColourFindsUptoSaid : Prop := colourFindsUptoRow.holds Tryd.pinned (OpenSpec.upto colourFindsSpec)

/-- 'hackamorelaw23.ColourGrows', WHERE WHAT IT READS IS OF BULK AT MOST 1048576: true; the input reads as it did. -/
def colourGrowsUptoRow : OpenClaim := { program := "ytikppcfabnnhfaadoor", sum := "951aa66c7a3b71c0297b4041bc0ead8db40e84d0d16afee9472467326c73d85f", func := "hackamore/hackamorelaw23.ColourGrows", spec := "colourGrows", unfollowed := true, recurses := true, named := ["math/bits.deBruijn64tab"], apart := false, laid := [("math/bits.deBruijn64tab", laid_math_bits_deBruijn64tab)], narrowed := true }
def ColourGrowsUptoSaid : Prop := colourGrowsUptoRow.holds Tryd.pinned (OpenSpec.upto colourGrowsSpec)

/-- 'hackamorelaw23.ColourReaches', WHERE WHAT IT READS IS OF BULK AT MOST 1048576: true; the input reads as it did. -/
def colourReachesUptoRow : OpenClaim := { program := "ytikppcfabnnhfaadoor", sum := "951aa66c7a3b71c0297b4041bc0ead8db40e84d0d16afee9472467326c73d85f", func := "hackamore/hackamorelaw23.ColourReaches", spec := "colourReaches", unfollowed := true, recurses := true, named := ["math/bits.deBruijn64tab"], apart := false, laid := [("math/bits.deBruijn64tab", laid_math_bits_deBruijn64tab)], narrowed := true }
def ColourReachesUptoSaid : Prop := colourReachesUptoRow.holds Tryd.pinned (OpenSpec.upto colourReachesSpec)

/-- 'hackamorelaw23.ColourCloses', WHERE WHAT IT READS IS OF BULK AT MOST 1048576: true; the input reads as it did. -/
def colourClosesUptoRow : OpenClaim := { program := "ytikppcfabnnhfaadoor", sum := "951aa66c7a3b71c0297b4041bc0ead8db40e84d0d16afee9472467326c73d85f", func := "hackamore/hackamorelaw23.ColourCloses", spec := "colourCloses", unfollowed := true, recurses := true, named := ["math/bits.deBruijn64tab"], apart := false, laid := [("math/bits.deBruijn64tab", laid_math_bits_deBruijn64tab)], narrowed := true }
def ColourClosesUptoSaid : Prop := colourClosesUptoRow.holds Tryd.pinned (OpenSpec.upto colourClosesSpec)

end Rows
end Go.Proofs.YtikppcfabnnhfaaDoor
