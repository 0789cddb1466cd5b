/-
  DERIVED. GIVEN WITH THE SEED: THE CARDS: each row of YtfdipcpmfoidoaaDoorRows.lean that lists a variable, with what it lists TIED to the program's text (the seventh form; the later family's looks); each row that meets fmt, with fmt's text TOLD by the authors' own Lean function (tested against real Go, not proved from fmt's source: count such statements apart). THE CARD IS WHAT COUNTS. Prove the row's statement (the work); the ties are given (YtfdipcpmfoidoaaDoorTie.lean); close each card by the builder's one call (the guide's Derived/Test/ToyasCard.lean, 'card_holds'). Laid BY PROGRAM, IN A SANDBOX (cutbox-door.mjs). By AI agents, Wed Nov 11 2026. No macro, syntax, notation, axiom, sorry.
-/
import Derived.Test.YtfdipcpmfoidoaaDoorRows
import GoSem.ClaimSeven
namespace Go.Proofs.YtfdipcpmfoidoaaDoor
namespace Rows

/-- THE TIED CARD OF 'hackamorelaw24.CodeWordsBack'. -/
def codeWordsBackCard : Claim7 := { stood := { row := codeWordsBackRow, standIns := [], harness := (true, "09bf8b756bc8d9dfa2faf4825854ee5bd48bd8245ec705a19d468fbba49fe3eb"), looks := false }, kinds := [], alts := [], laidByText := true, laidKinds := [.widerDeep], laidTests := true, laidLooks := .later }
def CodeWordsBackCardSaid : Prop := Claim7.holds Tryd.pinned (.plain (OpenSpec.ofChange codeWordsBackSpec)) codeWordsBackCard

/-- THE TIED CARD OF 'hackamorelaw24.CodeWords'. -/
def codeWordsCard : Claim7 := { stood := { row := codeWordsRow, standIns := [], harness := (true, "09bf8b756bc8d9dfa2faf4825854ee5bd48bd8245ec705a19d468fbba49fe3eb"), looks := false }, kinds := [], alts := [], laidByText := true, laidKinds := [.widerDeep], laidTests := true, laidLooks := .later }
def CodeWordsCardSaid : Prop := Claim7.holds Tryd.pinned (.plain (OpenSpec.ofChange codeWordsSpec)) codeWordsCard

/-- THE TIED CARD OF 'hackamorelaw24.CodeShapes'. -/
def codeShapesCard : Claim7 := { stood := { row := codeShapesRow, standIns := [], harness := (true, "09bf8b756bc8d9dfa2faf4825854ee5bd48bd8245ec705a19d468fbba49fe3eb"), looks := false }, kinds := [], alts := [], laidByText := true, laidKinds := [.widerDeep], laidTests := true, laidLooks := .later }
def CodeShapesCardSaid : Prop := Claim7.holds Tryd.pinned (.plain (OpenSpec.ofChange codeShapesSpec)) codeShapesCard

/-- THE TIED CARD OF 'hackamorelaw24.CodeFlows'. -/
def codeFlowsCard : Claim7 := { stood := { row := codeFlowsRow, standIns := [], harness := (true, "09bf8b756bc8d9dfa2faf4825854ee5bd48bd8245ec705a19d468fbba49fe3eb"), looks := false }, kinds := [], alts := [], laidByText := true, laidKinds := [.data, .widerDeep, .pinned], laidTests := true, laidLooks := .later }
def CodeFlowsCardSaid : Prop := Claim7.holds Tryd.pinned (.plain (OpenSpec.ofChange codeFlowsSpec)) codeFlowsCard

/-- THE SECOND FORM's CARD OF 'hackamorelaw24.CodeWordsBack'. -/
def codeWordsBackUptoCard : Claim7 := { stood := { row := codeWordsBackUptoRow, standIns := [], harness := (true, "09bf8b756bc8d9dfa2faf4825854ee5bd48bd8245ec705a19d468fbba49fe3eb"), looks := false }, kinds := [], alts := [], laidByText := true, laidKinds := [.widerDeep], laidTests := true, laidLooks := .later }
def CodeWordsBackUptoCardSaid : Prop := Claim7.holds Tryd.pinned (.plain (OpenSpec.upto codeWordsBackSpec)) codeWordsBackUptoCard

/-- THE SECOND FORM's CARD OF 'hackamorelaw24.CodeWords'. -/
def codeWordsUptoCard : Claim7 := { stood := { row := codeWordsUptoRow, standIns := [], harness := (true, "09bf8b756bc8d9dfa2faf4825854ee5bd48bd8245ec705a19d468fbba49fe3eb"), looks := false }, kinds := [], alts := [], laidByText := true, laidKinds := [.widerDeep], laidTests := true, laidLooks := .later }
def CodeWordsUptoCardSaid : Prop := Claim7.holds Tryd.pinned (.plain (OpenSpec.upto codeWordsSpec)) codeWordsUptoCard

/-- THE SECOND FORM's CARD OF 'hackamorelaw24.CodeShapes'. -/
def codeShapesUptoCard : Claim7 := { stood := { row := codeShapesUptoRow, standIns := [], harness := (true, "09bf8b756bc8d9dfa2faf4825854ee5bd48bd8245ec705a19d468fbba49fe3eb"), looks := false }, kinds := [], alts := [], laidByText := true, laidKinds := [.widerDeep], laidTests := true, laidLooks := .later }
def CodeShapesUptoCardSaid : Prop := Claim7.holds Tryd.pinned (.plain (OpenSpec.upto codeShapesSpec)) codeShapesUptoCard

/-- THE SECOND FORM's CARD OF 'hackamorelaw24.CodeFlows'. -/
def codeFlowsUptoCard : Claim7 := { stood := { row := codeFlowsUptoRow, standIns := [], harness := (true, "09bf8b756bc8d9dfa2faf4825854ee5bd48bd8245ec705a19d468fbba49fe3eb"), looks := false }, kinds := [], alts := [], laidByText := true, laidKinds := [.data, .widerDeep, .pinned], laidTests := true, laidLooks := .later }
def CodeFlowsUptoCardSaid : Prop := Claim7.holds Tryd.pinned (.plain (OpenSpec.upto codeFlowsSpec)) codeFlowsUptoCard
end Rows
end Go.Proofs.YtfdipcpmfoidoaaDoor
