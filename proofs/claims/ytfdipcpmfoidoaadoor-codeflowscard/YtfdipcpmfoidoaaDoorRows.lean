/-
  NARROWER THAN 'FOR EVERY INPUT', by the rows' own cells (each row's printed sentence says how): CodeWordsBack: laid · CodeWords: laid · CodeShapes: laid · CodeFlows: loops, laid.
  DERIVED. THE GIVEN ROWS OF THIS SEAT. 4 by the template 'for every input the law returns true; each argument reads behind the call as it read before'; 0 by the template 'total and deterministic' (their statements: YtfdipcpmfoidoaaDoorTotals.lean).
  GIVEN WITH THE SEED: the statements are not yours to turn. If you find one false, say at which input.
  Laid BY PROGRAM, IN A SANDBOX (cutbox-rows.mjs): the forced cells as the released guide's own fill.sh prints them over the translation d33a48cfad4cb3fb… (all of the seat's roots in one cut). By AI agents, Wed Nov 11 2026. No macro, syntax, notation, axiom, sorry.
-/
import Derived.Test.YtfdipcpmfoidoaaDoorChecked
import GoSem.PinnedTables
import GoSem.Claim
import GoSem.ClaimJoined
import GoSem.ClaimMapViews
import Derived.JoinedTies
import Derived.KernelRfl
namespace Go.Proofs.YtfdipcpmfoidoaaDoor
/- THE CELL 'sum', in the pinned program and in every row, IS THE sha256 OF THE DUMP (.gsa) THAT YtfdipcpmfoidoaaDoorProg.lean LOADS. Nothing in Lean hashes anything: it is a label: what it is worth is what the hold of that sum in a sandbox is worth. -/
noncomputable def Tryd.pinned : Pinned := { name := "ytfdipcpmfoidoaadoor", sum := "d33a48cfad4cb3fb22d46281ff9949931c07c855a2e489a7b0d33c0cb30ec76d", checked := Tryd.checked }
namespace Rows
def none {H : Type} : Left H := { results := [], args := [] }

/- WHAT THE LISTED PACKAGE-LEVEL VARIABLES READ AS WHEN THE CALL BEGINS. Each datum BY PROGRAM (the guide's laid-datum.mjs) off the statement by which the dump's own 'gosem.cut.vars' lays the variable. In a bare row this is a premise. The card (YtfdipcpmfoidoaaDoorCards.lean) ties it to the program's text. -/
def laid_hackamore_code_table {H : Type} : DataW H := .agg [.agg [.agg [.lit (.int .i64 4), .lit (.int .i64 0), .lit (.int .i64 0), .lit (.int .i64 8), .nil], .lit (.bool false), .lit (.int .i64 0), .lit (.bool true), .lit (.bool false)], .agg [.agg [.lit (.int .i64 4), .lit (.int .i64 4), .lit (.int .i64 0), .lit (.int .i64 0), .nil], .lit (.bool false), .lit (.int .i64 0), .lit (.bool true), .lit (.bool false)], .agg [.agg [.lit (.int .i64 3), .lit (.int .i64 2), .lit (.int .i64 5), .lit (.int .i64 0), .nil], .lit (.bool false), .lit (.int .i64 0), .lit (.bool true), .lit (.bool false)], .agg [.agg [.lit (.int .i64 2), .lit (.int .i64 3), .lit (.int .i64 5), .lit (.int .i64 0), .nil], .lit (.bool false), .lit (.int .i64 0), .lit (.bool true), .lit (.bool false)], .agg [.agg [.lit (.int .i64 3), .lit (.int .i64 6), .lit (.int .i64 0), .lit (.int .i64 0), .nil], .lit (.bool true), .lit (.int .i64 2), .lit (.bool true), .lit (.bool false)], .agg [.agg [.lit (.int .i64 3), .lit (.int .i64 3), .lit (.int .i64 1), .lit (.int .i64 0), .nil], .lit (.bool false), .lit (.int .i64 0), .lit (.bool true), .lit (.bool false)], .agg [.agg [.lit (.int .i64 3), .lit (.int .i64 0), .lit (.int .i64 0), .lit (.int .i64 9), .nil], .lit (.bool false), .lit (.int .i64 0), .lit (.bool true), .lit (.bool true)], .agg [.agg [.lit (.int .i64 3), .lit (.int .i64 0), .lit (.int .i64 0), .lit (.int .i64 10), .nil], .lit (.bool false), .lit (.int .i64 0), .lit (.bool true), .lit (.bool true)], .agg [.agg [.lit (.int .i64 3), .lit (.int .i64 0), .lit (.int .i64 0), .lit (.int .i64 10), .nil], .lit (.bool false), .lit (.int .i64 0), .lit (.bool true), .lit (.bool true)], .agg [.agg [.lit (.int .i64 3), .lit (.int .i64 3), .lit (.int .i64 0), .lit (.int .i64 0), .slice [.lit (.int .i64 9)] []], .lit (.bool false), .lit (.int .i64 0), .lit (.bool true), .lit (.bool false)], .agg [.agg [.lit (.int .i64 3), .lit (.int .i64 3), .lit (.int .i64 3), .lit (.int .i64 0), .slice [.lit (.int .i64 9)] []], .lit (.bool false), .lit (.int .i64 0), .lit (.bool true), .lit (.bool false)], .agg [.agg [.lit (.int .i64 3), .lit (.int .i64 6), .lit (.int .i64 7), .lit (.int .i64 0), .slice [.lit (.int .i64 11)] []], .lit (.bool true), .lit (.int .i64 1), .lit (.bool true), .lit (.bool true)], .agg [.agg [.lit (.int .i64 3), .lit (.int .i64 6), .lit (.int .i64 7), .lit (.int .i64 0), .slice [.lit (.int .i64 12)] []], .lit (.bool true), .lit (.int .i64 0), .lit (.bool true), .lit (.bool true)], .agg [.agg [.lit (.int .i64 3), .lit (.int .i64 6), .lit (.int .i64 7), .lit (.int .i64 0), .slice [.lit (.int .i64 9)] []], .lit (.bool true), .lit (.int .i64 1), .lit (.bool true), .lit (.bool true)], .agg [.agg [.lit (.int .i64 3), .lit (.int .i64 6), .lit (.int .i64 0), .lit (.int .i64 0), .slice [.lit (.int .i64 10), .lit (.int .i64 9)] []], .lit (.bool true), .lit (.int .i64 0), .lit (.bool true), .lit (.bool true)], .agg [.agg [.lit (.int .i64 0), .lit (.int .i64 6), .lit (.int .i64 0), .lit (.int .i64 0), .slice [.lit (.int .i64 9)] []], .lit (.bool true), .lit (.int .i64 1), .lit (.bool false), .lit (.bool true)], .agg [.agg [.lit (.int .i64 2), .lit (.int .i64 3), .lit (.int .i64 3), .lit (.int .i64 0), .nil], .lit (.bool false), .lit (.int .i64 0), .lit (.bool true), .lit (.bool false)], .agg [.agg [.lit (.int .i64 2), .lit (.int .i64 3), .lit (.int .i64 0), .lit (.int .i64 0), .slice [.lit (.int .i64 13)] []], .lit (.bool false), .lit (.int .i64 0), .lit (.bool true), .lit (.bool false)], .agg [.agg [.lit (.int .i64 0), .lit (.int .i64 0), .lit (.int .i64 0), .lit (.int .i64 14), .nil], .lit (.bool false), .lit (.int .i64 0), .lit (.bool false), .lit (.bool false)], .agg [.agg [.lit (.int .i64 2), .lit (.int .i64 0), .lit (.int .i64 0), .lit (.int .i64 14), .nil], .lit (.bool false), .lit (.int .i64 0), .lit (.bool false), .lit (.bool false)], .agg [.agg [.lit (.int .i64 3), .lit (.int .i64 0), .lit (.int .i64 0), .lit (.int .i64 0), .nil], .lit (.bool false), .lit (.int .i64 0), .lit (.bool false), .lit (.bool false)], .agg [.agg [.lit (.int .i64 0), .lit (.int .i64 0), .lit (.int .i64 0), .lit (.int .i64 0), .nil], .lit (.bool false), .lit (.int .i64 0), .lit (.bool false), .lit (.bool false)], .agg [.agg [.lit (.int .i64 0), .lit (.int .i64 0), .lit (.int .i64 0), .lit (.int .i64 0), .nil], .lit (.bool false), .lit (.int .i64 0), .lit (.bool false), .lit (.bool false)], .agg [.agg [.lit (.int .i64 2), .lit (.int .i64 2), .lit (.int .i64 2), .lit (.int .i64 0), .slice [.lit (.int .i64 9)] []], .lit (.bool false), .lit (.int .i64 0), .lit (.bool true), .lit (.bool false)]]
def laid_unicode_utf8_acceptRanges {H : Type} : DataW H := .agg [.agg [.lit (.int .u8 128), .lit (.int .u8 191)], .agg [.lit (.int .u8 160), .lit (.int .u8 191)], .agg [.lit (.int .u8 128), .lit (.int .u8 159)], .agg [.lit (.int .u8 144), .lit (.int .u8 191)], .agg [.lit (.int .u8 128), .lit (.int .u8 143)], .agg [.lit (.int .u8 0), .lit (.int .u8 0)], .agg [.lit (.int .u8 0), .lit (.int .u8 0)], .agg [.lit (.int .u8 0), .lit (.int .u8 0)], .agg [.lit (.int .u8 0), .lit (.int .u8 0)], .agg [.lit (.int .u8 0), .lit (.int .u8 0)], .agg [.lit (.int .u8 0), .lit (.int .u8 0)], .agg [.lit (.int .u8 0), .lit (.int .u8 0)], .agg [.lit (.int .u8 0), .lit (.int .u8 0)], .agg [.lit (.int .u8 0), .lit (.int .u8 0)], .agg [.lit (.int .u8 0), .lit (.int .u8 0)], .agg [.lit (.int .u8 0), .lit (.int .u8 0)]]
/-- One of Go's own tables, pinned by name: the form's constant. -/
def laid_unicode_utf8_first : DataW Unit := Go.Pinned.utf8First

/-- 'hackamorelaw24.CodeWordsBack': WHATEVER THE INPUT: true; the input reads as it did. -/
def codeWordsBackSpec : ChangeSpec := { name := "codeWordsBack", fn := fun _ => fun
  | [d] => { results := [.lit (.bool true)], args := [d] }
  | _ => none }
def codeWordsBackRow : OpenClaim := { program := "ytfdipcpmfoidoaadoor", sum := "d33a48cfad4cb3fb22d46281ff9949931c07c855a2e489a7b0d33c0cb30ec76d", func := "hackamore/hackamorelaw24.CodeWordsBack", spec := "codeWordsBack", unfollowed := true, recurses := true, named := ["hackamore/code.table"], apart := false, laid := [("hackamore/code.table", laid_hackamore_code_table)] }
def CodeWordsBackSaid : Prop := codeWordsBackRow.holds Tryd.pinned (OpenSpec.ofChange codeWordsBackSpec)

/-- ITS FALSE NEIGHBOUR: 'it returns false'. Refute it at one input. -/
def codeWordsBackWrong : ChangeSpec := { name := "codeWordsBack", fn := fun _ => fun
  | [d] => { results := [.lit (.bool false)], args := [d] }
  | _ => none }
def CodeWordsBackWrongFalsely : Prop := codeWordsBackRow.holds Tryd.pinned (OpenSpec.ofChange codeWordsBackWrong)

/-- 'hackamorelaw24.CodeWords': WHATEVER THE INPUT: true; the input reads as it did. -/
def codeWordsSpec : ChangeSpec := { name := "codeWords", fn := fun _ => fun
  | [d1, d2, d3, d4, d5, d6, d7] => { results := [.lit (.bool true)], args := [d1, d2, d3, d4, d5, d6, d7] }
  | _ => none }
def codeWordsRow : OpenClaim := { program := "ytfdipcpmfoidoaadoor", sum := "d33a48cfad4cb3fb22d46281ff9949931c07c855a2e489a7b0d33c0cb30ec76d", func := "hackamore/hackamorelaw24.CodeWords", spec := "codeWords", unfollowed := true, recurses := true, named := ["hackamore/code.table"], apart := false, laid := [("hackamore/code.table", laid_hackamore_code_table)] }
def CodeWordsSaid : Prop := codeWordsRow.holds Tryd.pinned (OpenSpec.ofChange codeWordsSpec)

/-- ITS FALSE NEIGHBOUR: 'it returns false'. Refute it at one input. -/
def codeWordsWrong : ChangeSpec := { name := "codeWords", fn := fun _ => fun
  | [d1, d2, d3, d4, d5, d6, d7] => { results := [.lit (.bool false)], args := [d1, d2, d3, d4, d5, d6, d7] }
  | _ => none }
def CodeWordsWrongFalsely : Prop := codeWordsRow.holds Tryd.pinned (OpenSpec.ofChange codeWordsWrong)

/-- 'hackamorelaw24.CodeShapes': WHATEVER THE INPUT: true; the input reads as it did. -/
def codeShapesSpec : ChangeSpec := { name := "codeShapes", fn := fun _ => fun
  | [d] => { results := [.lit (.bool true)], args := [d] }
  | _ => none }
def codeShapesRow : OpenClaim := { program := "ytfdipcpmfoidoaadoor", sum := "d33a48cfad4cb3fb22d46281ff9949931c07c855a2e489a7b0d33c0cb30ec76d", func := "hackamore/hackamorelaw24.CodeShapes", spec := "codeShapes", unfollowed := true, recurses := true, named := ["hackamore/code.table"], apart := false, laid := [("hackamore/code.table", laid_hackamore_code_table)] }
def CodeShapesSaid : Prop := codeShapesRow.holds Tryd.pinned (OpenSpec.ofChange codeShapesSpec)

/-- ITS FALSE NEIGHBOUR: 'it returns false'. Refute it at one input. -/
def codeShapesWrong : ChangeSpec := { name := "codeShapes", fn := fun _ => fun
  | [d] => { results := [.lit (.bool false)], args := [d] }
  | _ => none }
def CodeShapesWrongFalsely : Prop := codeShapesRow.holds Tryd.pinned (OpenSpec.ofChange codeShapesWrong)

/-- 'hackamorelaw24.CodeFlows': WHATEVER THE INPUT: true; the input reads as it did. -/
def codeFlowsSpec : ChangeSpec := { name := "codeFlows", fn := fun _ => fun
  | [d] => { results := [.lit (.bool true)], args := [d] }
  | _ => none }
def codeFlowsRow : OpenClaim := { program := "ytfdipcpmfoidoaadoor", sum := "d33a48cfad4cb3fb22d46281ff9949931c07c855a2e489a7b0d33c0cb30ec76d", func := "hackamore/hackamorelaw24.CodeFlows", spec := "codeFlows", unfollowed := true, recurses := true, named := ["hackamore/code.table", "unicode/utf8.first", "unicode/utf8.acceptRanges"], loops := true, apart := false, laid := [("unicode/utf8.acceptRanges", laid_unicode_utf8_acceptRanges), ("hackamore/code.table", laid_hackamore_code_table), ("unicode/utf8.first", laid_unicode_utf8_first)] }
def CodeFlowsSaid : Prop := codeFlowsRow.holds Tryd.pinned (OpenSpec.ofChange codeFlowsSpec)

/-- ITS FALSE NEIGHBOUR: 'it returns false'. Refute it at one input. -/
def codeFlowsWrong : ChangeSpec := { name := "codeFlows", fn := fun _ => fun
  | [d] => { results := [.lit (.bool false)], args := [d] }
  | _ => none }
def CodeFlowsWrongFalsely : Prop := codeFlowsRow.holds Tryd.pinned (OpenSpec.ofChange codeFlowsWrong)

/- THE SECOND FORM. 'bulk': how many values and letters a reading holds, each counted each time it is reached (what is shared counts as often as it is met; a slice's spare places count too). A statement '..UptoSaid' is the law's where the arguments, and the package variables that the reading takes, are together of bulk at most 1048576: NARROWER than '..Said'. Prove '..Said' where nothing that the law and all that it calls make is longer than what came in: it says more and counts as full. Else prove '..UptoSaid'. A law counts once. -/
mutual
def uptoBulk {H : Type} : DataW H → Nat
  | .lit (.string bytes) => bytes.length + 1
  | .lit _ => 1
  | .nil => 1
  | .ptr d => uptoBulk d + 1
  | .slice elems spare => uptoBulkAll elems + uptoBulkAll spare + 1
  | .agg parts => uptoBulkAll parts + 1
  | .iface _ d => uptoBulk d + 1
  | .map entries => uptoBulkEntries entries + 1
  | .held _ => 1
def uptoBulkAll {H : Type} : List (DataW H) → Nat
  | [] => 0
  | d :: r => uptoBulk d + uptoBulkAll r
def uptoBulkEntries {H : Type} : List (Lit × DataW H) → Nat
  | [] => 0
  | x :: r => uptoBulkEntry x + uptoBulkEntries r
def uptoBulkEntry {H : Type} : Lit × DataW H → Nat
  | (.string bytes, d) => bytes.length + uptoBulk d + 1
  | (_, d) => uptoBulk d + 1
 end
def uptoSmall : (H : Type) → List (DataW H) → Bool := fun _ ds => decide (uptoBulkAll ds ≤ 1048576)
def OpenSpec.upto (s : _root_.Go.ChangeSpec) : _root_.Go.OpenSpec := { _root_.Go.OpenSpec.ofChange s with cond := some uptoSmall }

/-- 'hackamorelaw24.CodeWordsBack', WHERE WHAT IT READS IS OF BULK AT MOST 1048576: true; the input reads as it did. -/
def codeWordsBackUptoRow : OpenClaim := { program := "ytfdipcpmfoidoaadoor", sum := "d33a48cfad4cb3fb22d46281ff9949931c07c855a2e489a7b0d33c0cb30ec76d", func := "hackamore/hackamorelaw24.CodeWordsBack", spec := "codeWordsBack", unfollowed := true, recurses := true, named := ["hackamore/code.table"], apart := false, laid := [("hackamore/code.table", laid_hackamore_code_table)], narrowed := true }
def CodeWordsBackUptoSaid : Prop := codeWordsBackUptoRow.holds Tryd.pinned (OpenSpec.upto codeWordsBackSpec)

/-- 'hackamorelaw24.CodeWords', WHERE WHAT IT READS IS OF BULK AT MOST 1048576: true; the input reads as it did. -/
def codeWordsUptoRow : OpenClaim := { program := "ytfdipcpmfoidoaadoor", sum := "d33a48cfad4cb3fb22d46281ff9949931c07c855a2e489a7b0d33c0cb30ec76d", func := "hackamore/hackamorelaw24.CodeWords", spec := "codeWords", unfollowed := true, recurses := true, named := ["hackamore/code.table"], apart := false, laid := [("hackamore/code.table", laid_hackamore_code_table)], narrowed := true }
def CodeWordsUptoSaid : Prop := codeWordsUptoRow.holds Tryd.pinned (OpenSpec.upto codeWordsSpec)

/-- 'hackamorelaw24.CodeShapes', WHERE WHAT IT READS IS OF BULK AT MOST 1048576: true; the input reads as it did. -/
def codeShapesUptoRow : OpenClaim := { program := "ytfdipcpmfoidoaadoor", sum := "d33a48cfad4cb3fb22d46281ff9949931c07c855a2e489a7b0d33c0cb30ec76d", func := "hackamore/hackamorelaw24.CodeShapes", spec := "codeShapes", unfollowed := true, recurses := true, named := ["hackamore/code.table"], apart := false, laid := [("hackamore/code.table", laid_hackamore_code_table)], narrowed := true }
def CodeShapesUptoSaid : Prop := codeShapesUptoRow.holds Tryd.pinned (OpenSpec.upto codeShapesSpec)

/-- 'hackamorelaw24.CodeFlows', WHERE WHAT IT READS IS OF BULK AT MOST 1048576: true; the input reads as it did. -/
def codeFlowsUptoRow : OpenClaim := { program := "ytfdipcpmfoidoaadoor", sum := "d33a48cfad4cb3fb22d46281ff9949931c07c855a2e489a7b0d33c0cb30ec76d", func := "hackamore/hackamorelaw24.CodeFlows", spec := "codeFlows", unfollowed := true, recurses := true, named := ["hackamore/code.table", "unicode/utf8.first", "unicode/utf8.acceptRanges"], loops := true, apart := false, laid := [("unicode/utf8.acceptRanges", laid_unicode_utf8_acceptRanges), ("hackamore/code.table", laid_hackamore_code_table), ("unicode/utf8.first", laid_unicode_utf8_first)], narrowed := true }
def CodeFlowsUptoSaid : Prop := codeFlowsUptoRow.holds Tryd.pinned (OpenSpec.upto codeFlowsSpec)

end Rows
end Go.Proofs.YtfdipcpmfoidoaaDoor
