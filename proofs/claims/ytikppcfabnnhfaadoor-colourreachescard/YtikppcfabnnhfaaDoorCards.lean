/-
  DERIVED. GIVEN WITH THE SEED: THE CARDS: each row of YtikppcfabnnhfaaDoorRows.lean that lists a variable, with what it lists TIED to the program's text (the seventh form; the later family's looks); each row that meets fmt, with fmt's text TOLD by the authors' own Lean function (tested against real Go, not proved from fmt's source: count such statements apart). THE CARD IS WHAT COUNTS. Prove the row's statement (the work); the ties are given (YtikppcfabnnhfaaDoorTie.lean); close each card by the builder's one call (the guide's Derived/Test/ToyasCard.lean, 'card_holds'). Laid BY PROGRAM, IN A SANDBOX (cutbox-door.mjs). By AI agents, Wed Nov 11 2026. No macro, syntax, notation, axiom, sorry.
-/
import Derived.Test.YtikppcfabnnhfaaDoorRows
import GoSem.ClaimSeven
namespace Go.Proofs.YtikppcfabnnhfaaDoor
namespace Rows

/-- THE TIED CARD OF 'hackamorelaw23.ColourLookups'. -/
def colourLookupsCard : Claim7 := { stood := { row := colourLookupsRow, standIns := [], harness := (true, "3dc01f15a731540aeb3bad63498fda4938458450b3483f3d83b3da088dc41856"), looks := false }, kinds := [], alts := [], laidByText := true, laidKinds := [.data], laidTests := true, laidLooks := .later }
def ColourLookupsCardSaid : Prop := Claim7.holds Tryd.pinned (.plain (OpenSpec.ofChange colourLookupsSpec)) colourLookupsCard

/-- THE TIED CARD OF 'hackamorelaw23.ColourFew'. -/
def colourFewCard : Claim7 := { stood := { row := colourFewRow, standIns := [], harness := (true, "3dc01f15a731540aeb3bad63498fda4938458450b3483f3d83b3da088dc41856"), looks := false }, kinds := [], alts := [], laidByText := true, laidKinds := [.data], laidTests := true, laidLooks := .later }
def ColourFewCardSaid : Prop := Claim7.holds Tryd.pinned (.plain (OpenSpec.ofChange colourFewSpec)) colourFewCard

/-- THE TIED CARD OF 'hackamorelaw23.ColourTables'. -/
def colourTablesCard : Claim7 := { stood := { row := colourTablesRow, standIns := [], harness := (true, "3dc01f15a731540aeb3bad63498fda4938458450b3483f3d83b3da088dc41856"), looks := false }, kinds := [], alts := [], laidByText := true, laidKinds := [.data], laidTests := true, laidLooks := .later }
def ColourTablesCardSaid : Prop := Claim7.holds Tryd.pinned (.plain (OpenSpec.ofChange colourTablesSpec)) colourTablesCard

/-- THE TIED CARD OF 'hackamorelaw23.ColourColours'. -/
def colourColoursCard : Claim7 := { stood := { row := colourColoursRow, standIns := [], harness := (true, "3dc01f15a731540aeb3bad63498fda4938458450b3483f3d83b3da088dc41856"), looks := false }, kinds := [], alts := [], laidByText := true, laidKinds := [.data], laidTests := true, laidLooks := .later }
def ColourColoursCardSaid : Prop := Claim7.holds Tryd.pinned (.plain (OpenSpec.ofChange colourColoursSpec)) colourColoursCard

/-- THE TIED CARD OF 'hackamorelaw23.ColourFinds'. -/
def colourFindsCard : Claim7 := { stood := { row := colourFindsRow, standIns := [], harness := (true, "3dc01f15a731540aeb3bad63498fda4938458450b3483f3d83b3da088dc41856"), looks := false }, kinds := [], alts := [], laidByText := true, laidKinds := [.data], laidTests := true, laidLooks := .later }
def ColourFindsCardSaid : Prop := Claim7.holds Tryd.pinned (.plain (OpenSpec.ofChange colourFindsSpec)) colourFindsCard

/-- THE TIED CARD OF 'hackamorelaw23.ColourGrows'. -/
def colourGrowsCard : Claim7 := { stood := { row := colourGrowsRow, standIns := [], harness := (true, "3dc01f15a731540aeb3bad63498fda4938458450b3483f3d83b3da088dc41856"), looks := false }, kinds := [], alts := [], laidByText := true, laidKinds := [.data], laidTests := true, laidLooks := .later }
def ColourGrowsCardSaid : Prop := Claim7.holds Tryd.pinned (.plain (OpenSpec.ofChange colourGrowsSpec)) colourGrowsCard

/-- THE TIED CARD OF 'hackamorelaw23.ColourReaches'. -/
def colourReachesCard : Claim7 := { stood := { row := colourReachesRow, standIns := [], harness := (true, "3dc01f15a731540aeb3bad63498fda4938458450b3483f3d83b3da088dc41856"), looks := false }, kinds := [], alts := [], laidByText := true, laidKinds := [.data], laidTests := true, laidLooks := .later }
def ColourReachesCardSaid : Prop := Claim7.holds Tryd.pinned (.plain (OpenSpec.ofChange colourReachesSpec)) colourReachesCard

/-- THE TIED CARD OF 'hackamorelaw23.ColourCloses'. -/
def colourClosesCard : Claim7 := { stood := { row := colourClosesRow, standIns := [], harness := (true, "3dc01f15a731540aeb3bad63498fda4938458450b3483f3d83b3da088dc41856"), looks := false }, kinds := [], alts := [], laidByText := true, laidKinds := [.data], laidTests := true, laidLooks := .later }
def ColourClosesCardSaid : Prop := Claim7.holds Tryd.pinned (.plain (OpenSpec.ofChange colourClosesSpec)) colourClosesCard

/-- THE SECOND FORM's CARD OF 'hackamorelaw23.ColourLookups'. -/
def colourLookupsUptoCard : Claim7 := { stood := { row := colourLookupsUptoRow, standIns := [], harness := (true, "3dc01f15a731540aeb3bad63498fda4938458450b3483f3d83b3da088dc41856"), looks := false }, kinds := [], alts := [], laidByText := true, laidKinds := [.data], laidTests := true, laidLooks := .later }
def ColourLookupsUptoCardSaid : Prop := Claim7.holds Tryd.pinned (.plain (OpenSpec.upto colourLookupsSpec)) colourLookupsUptoCard

/-- THE SECOND FORM's CARD OF 'hackamorelaw23.ColourFew'. -/
def colourFewUptoCard : Claim7 := { stood := { row := colourFewUptoRow, standIns := [], harness := (true, "3dc01f15a731540aeb3bad63498fda4938458450b3483f3d83b3da088dc41856"), looks := false }, kinds := [], alts := [], laidByText := true, laidKinds := [.data], laidTests := true, laidLooks := .later }
def ColourFewUptoCardSaid : Prop := Claim7.holds Tryd.pinned (.plain (OpenSpec.upto colourFewSpec)) colourFewUptoCard

/-- THE SECOND FORM's CARD OF 'hackamorelaw23.ColourTables'. -/
def colourTablesUptoCard : Claim7 := { stood := { row := colourTablesUptoRow, standIns := [], harness := (true, "3dc01f15a731540aeb3bad63498fda4938458450b3483f3d83b3da088dc41856"), looks := false }, kinds := [], alts := [], laidByText := true, laidKinds := [.data], laidTests := true, laidLooks := .later }
def ColourTablesUptoCardSaid : Prop := Claim7.holds Tryd.pinned (.plain (OpenSpec.upto colourTablesSpec)) colourTablesUptoCard

/-- THE SECOND FORM's CARD OF 'hackamorelaw23.ColourColours'. -/
def colourColoursUptoCard : Claim7 := { stood := { row := colourColoursUptoRow, standIns := [], harness := (true, "3dc01f15a731540aeb3bad63498fda4938458450b3483f3d83b3da088dc41856"), looks := false }, kinds := [], alts := [], laidByText := true, laidKinds := [.data], laidTests := true, laidLooks := .later }
def ColourColoursUptoCardSaid : Prop := Claim7.holds Tryd.pinned (.plain (OpenSpec.upto colourColoursSpec)) colourColoursUptoCard

/-- THE SECOND FORM's CARD OF 'hackamorelaw23.ColourFinds'. -/
def colourFindsUptoCard : Claim7 := { stood := { row := colourFindsUptoRow, standIns := [], harness := (true, "3dc01f15a731540aeb3bad63498fda4938458450b3483f3d83b3da088dc41856"), looks := false }, kinds := [], alts := [], laidByText := true, laidKinds := [.data], laidTests := true, laidLooks := .later }
def ColourFindsUptoCardSaid : Prop := Claim7.holds Tryd.pinned (.plain (OpenSpec.upto colourFindsSpec)) colourFindsUptoCard

/-- THE SECOND FORM's CARD OF 'hackamorelaw23.ColourGrows'. -/
def colourGrowsUptoCard : Claim7 := { stood := { row := colourGrowsUptoRow, standIns := [], harness := (true, "3dc01f15a731540aeb3bad63498fda4938458450b3483f3d83b3da088dc41856"), looks := false }, kinds := [], alts := [], laidByText := true, laidKinds := [.data], laidTests := true, laidLooks := .later }
def ColourGrowsUptoCardSaid : Prop := Claim7.holds Tryd.pinned (.plain (OpenSpec.upto colourGrowsSpec)) colourGrowsUptoCard

/-- THE SECOND FORM's CARD OF 'hackamorelaw23.ColourReaches'. -/
def colourReachesUptoCard : Claim7 := { stood := { row := colourReachesUptoRow, standIns := [], harness := (true, "3dc01f15a731540aeb3bad63498fda4938458450b3483f3d83b3da088dc41856"), looks := false }, kinds := [], alts := [], laidByText := true, laidKinds := [.data], laidTests := true, laidLooks := .later }
def ColourReachesUptoCardSaid : Prop := Claim7.holds Tryd.pinned (.plain (OpenSpec.upto colourReachesSpec)) colourReachesUptoCard

/-- THE SECOND FORM's CARD OF 'hackamorelaw23.ColourCloses'. -/
def colourClosesUptoCard : Claim7 := { stood := { row := colourClosesUptoRow, standIns := [], harness := (true, "3dc01f15a731540aeb3bad63498fda4938458450b3483f3d83b3da088dc41856"), looks := false }, kinds := [], alts := [], laidByText := true, laidKinds := [.data], laidTests := true, laidLooks := .later }
def ColourClosesUptoCardSaid : Prop := Claim7.holds Tryd.pinned (.plain (OpenSpec.upto colourClosesSpec)) colourClosesUptoCard
end Rows
end Go.Proofs.YtikppcfabnnhfaaDoor
