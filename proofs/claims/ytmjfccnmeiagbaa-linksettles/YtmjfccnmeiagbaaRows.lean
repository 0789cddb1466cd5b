/-
  No cell of these rows narrows 'for every input' (looked for: loops, veiled, ifaces, maps, wideKeys, modest, calm, conditions, laid).
  DERIVED. THE GIVEN ROWS OF THIS SEAT. 5 by the template 'for every input the law returns true; each argument reads behind the call as it read before'; 0 by the template 'total and deterministic' (their statements: YtmjfccnmeiagbaaTotals.lean).
  GIVEN WITH THE SEED: the statements are not yours to turn. If you find one false, say at which input.
  Laid BY PROGRAM, IN A SANDBOX (cutbox-rows.mjs): the forced cells as the released guide's own fill.sh prints them over the translation cd72e9fea98d05fb… (all of the seat's roots in one cut). By AI agents, Wed Nov 11 2026. No macro, syntax, notation, axiom, sorry.
-/
import Derived.Test.YtmjfccnmeiagbaaChecked
import GoSem.Claim
import GoSem.ClaimJoined
import GoSem.ClaimMapViews
import Derived.JoinedTies
import Derived.KernelRfl
namespace Go.Proofs.Ytmjfccnmeiagbaa
/- THE CELL 'sum', in the pinned program and in every row, IS THE sha256 OF THE DUMP (.gsa) THAT YtmjfccnmeiagbaaProg.lean LOADS. Nothing in Lean hashes anything: it is a label: what it is worth is what the hold of that sum in a sandbox is worth. -/
noncomputable def Try.pinned : Pinned := { name := "ytmjfccnmeiagbaa", sum := "cd72e9fea98d05fbaf43f876f29844740c234a0879fd9028c7ec3c0c899f647d", checked := Try.checked }
namespace Rows
def none {H : Type} : Left H := { results := [], args := [] }

/-- 'hackamorelaw38.LinkEnds': WHATEVER THE INPUT: true; the input reads as it did. -/
def linkEndsSpec : ChangeSpec := { name := "linkEnds", fn := fun _ => fun
  | [d1, d2] => { results := [.lit (.bool true)], args := [d1, d2] }
  | _ => none }
def linkEndsRow : OpenClaim := { program := "ytmjfccnmeiagbaa", sum := "cd72e9fea98d05fbaf43f876f29844740c234a0879fd9028c7ec3c0c899f647d", func := "hackamore/hackamorelaw38.LinkEnds", spec := "linkEnds", unfollowed := true, recurses := true, apart := false }
def LinkEndsSaid : Prop := linkEndsRow.holds Try.pinned (OpenSpec.ofChange linkEndsSpec)

/-- ITS FALSE NEIGHBOUR: 'it returns false'. Refute it at one input. -/
def linkEndsWrong : ChangeSpec := { name := "linkEnds", fn := fun _ => fun
  | [d1, d2] => { results := [.lit (.bool false)], args := [d1, d2] }
  | _ => none }
def LinkEndsWrongFalsely : Prop := linkEndsRow.holds Try.pinned (OpenSpec.ofChange linkEndsWrong)

/-- 'hackamorelaw38.LinkOrders': WHATEVER THE INPUT: true; the input reads as it did. -/
def linkOrdersSpec : ChangeSpec := { name := "linkOrders", fn := fun _ => fun
  | [d1, d2] => { results := [.lit (.bool true)], args := [d1, d2] }
  | _ => none }
def linkOrdersRow : OpenClaim := { program := "ytmjfccnmeiagbaa", sum := "cd72e9fea98d05fbaf43f876f29844740c234a0879fd9028c7ec3c0c899f647d", func := "hackamore/hackamorelaw38.LinkOrders", spec := "linkOrders", unfollowed := true, recurses := true, apart := false }
def LinkOrdersSaid : Prop := linkOrdersRow.holds Try.pinned (OpenSpec.ofChange linkOrdersSpec)

/-- ITS FALSE NEIGHBOUR: 'it returns false'. Refute it at one input. -/
def linkOrdersWrong : ChangeSpec := { name := "linkOrders", fn := fun _ => fun
  | [d1, d2] => { results := [.lit (.bool false)], args := [d1, d2] }
  | _ => none }
def LinkOrdersWrongFalsely : Prop := linkOrdersRow.holds Try.pinned (OpenSpec.ofChange linkOrdersWrong)

/-- 'hackamorelaw38.LinkRuns': WHATEVER THE INPUT: true; the input reads as it did. -/
def linkRunsSpec : ChangeSpec := { name := "linkRuns", fn := fun _ => fun
  | [d1, d2] => { results := [.lit (.bool true)], args := [d1, d2] }
  | _ => none }
def linkRunsRow : OpenClaim := { program := "ytmjfccnmeiagbaa", sum := "cd72e9fea98d05fbaf43f876f29844740c234a0879fd9028c7ec3c0c899f647d", func := "hackamore/hackamorelaw38.LinkRuns", spec := "linkRuns", unfollowed := true, recurses := true, apart := false }
def LinkRunsSaid : Prop := linkRunsRow.holds Try.pinned (OpenSpec.ofChange linkRunsSpec)

/-- ITS FALSE NEIGHBOUR: 'it returns false'. Refute it at one input. -/
def linkRunsWrong : ChangeSpec := { name := "linkRuns", fn := fun _ => fun
  | [d1, d2] => { results := [.lit (.bool false)], args := [d1, d2] }
  | _ => none }
def LinkRunsWrongFalsely : Prop := linkRunsRow.holds Try.pinned (OpenSpec.ofChange linkRunsWrong)

/-- 'hackamorelaw38.LinkSettles': WHATEVER THE INPUT: true; the input reads as it did. -/
def linkSettlesSpec : ChangeSpec := { name := "linkSettles", fn := fun _ => fun
  | [d1, d2] => { results := [.lit (.bool true)], args := [d1, d2] }
  | _ => none }
def linkSettlesRow : OpenClaim := { program := "ytmjfccnmeiagbaa", sum := "cd72e9fea98d05fbaf43f876f29844740c234a0879fd9028c7ec3c0c899f647d", func := "hackamore/hackamorelaw38.LinkSettles", spec := "linkSettles", unfollowed := true, recurses := true, apart := false }
def LinkSettlesSaid : Prop := linkSettlesRow.holds Try.pinned (OpenSpec.ofChange linkSettlesSpec)

/-- ITS FALSE NEIGHBOUR: 'it returns false'. Refute it at one input. -/
def linkSettlesWrong : ChangeSpec := { name := "linkSettles", fn := fun _ => fun
  | [d1, d2] => { results := [.lit (.bool false)], args := [d1, d2] }
  | _ => none }
def LinkSettlesWrongFalsely : Prop := linkSettlesRow.holds Try.pinned (OpenSpec.ofChange linkSettlesWrong)

/-- 'hackamorelaw38.LinkNil': WHATEVER THE INPUT: true; the input reads as it did. -/
def linkNilSpec : ChangeSpec := { name := "linkNil", fn := fun _ => fun
  | [d1, d2] => { results := [.lit (.bool true)], args := [d1, d2] }
  | _ => none }
def linkNilRow : OpenClaim := { program := "ytmjfccnmeiagbaa", sum := "cd72e9fea98d05fbaf43f876f29844740c234a0879fd9028c7ec3c0c899f647d", func := "hackamore/hackamorelaw38.LinkNil", spec := "linkNil", unfollowed := true, recurses := true, apart := false }
def LinkNilSaid : Prop := linkNilRow.holds Try.pinned (OpenSpec.ofChange linkNilSpec)

/-- ITS FALSE NEIGHBOUR: 'it returns false'. Refute it at one input. -/
def linkNilWrong : ChangeSpec := { name := "linkNil", fn := fun _ => fun
  | [d1, d2] => { results := [.lit (.bool false)], args := [d1, d2] }
  | _ => none }
def LinkNilWrongFalsely : Prop := linkNilRow.holds Try.pinned (OpenSpec.ofChange linkNilWrong)

/- THE SECOND FORM. 'bulk': how many values and letters a reading holds, each counted each time it is reached (what is shared counts as often as it is met; a slice's spare places count too). A statement '..UptoSaid' is the law's where the arguments, and the package variables that the reading takes, are together of bulk at most 1048576: NARROWER than '..Said'. Prove '..Said' where nothing that the law and all that it calls make is longer than what came in: it says more and counts as full. Else prove '..UptoSaid'. A law counts once. -/
mutual
def uptoBulk {H : Type} : DataW H → Nat
  | .lit (.string bytes) => bytes.length + 1
  | .lit _ => 1
  | .nil => 1
  | .ptr d => uptoBulk d + 1
  | .slice elems spare => uptoBulkAll elems + uptoBulkAll spare + 1
  | .agg parts => uptoBulkAll parts + 1
  | .iface _ d => uptoBulk d + 1
  | .map entries => uptoBulkEntries entries + 1
  | .held _ => 1
def uptoBulkAll {H : Type} : List (DataW H) → Nat
  | [] => 0
  | d :: r => uptoBulk d + uptoBulkAll r
def uptoBulkEntries {H : Type} : List (Lit × DataW H) → Nat
  | [] => 0
  | x :: r => uptoBulkEntry x + uptoBulkEntries r
def uptoBulkEntry {H : Type} : Lit × DataW H → Nat
  | (.string bytes, d) => bytes.length + uptoBulk d + 1
  | (_, d) => uptoBulk d + 1
 end
def uptoSmall : (H : Type) → List (DataW H) → Bool := fun _ ds => decide (uptoBulkAll ds ≤ 1048576)
def OpenSpec.upto (s : _root_.Go.ChangeSpec) : _root_.Go.OpenSpec := { _root_.Go.OpenSpec.ofChange s with cond := some uptoSmall }

/-- 'hackamorelaw38.LinkEnds', WHERE WHAT IT READS IS OF BULK AT MOST 1048576: true; the input reads as it did. -/
def linkEndsUptoRow : OpenClaim := { program := "ytmjfccnmeiagbaa", sum := "cd72e9fea98d05fbaf43f876f29844740c234a0879fd9028c7ec3c0c899f647d", func := "hackamore/hackamorelaw38.LinkEnds", spec := "linkEnds", unfollowed := true, recurses := true, apart := false, narrowed := true }
def LinkEndsUptoSaid : Prop := linkEndsUptoRow.holds Try.pinned (OpenSpec.upto linkEndsSpec)

/-- 'hackamorelaw38.LinkOrders', WHERE WHAT IT READS IS OF BULK AT MOST 1048576: true; the input reads as it did. -/
def linkOrdersUptoRow : OpenClaim := { program := "ytmjfccnmeiagbaa", sum := "cd72e9fea98d05fbaf43f876f29844740c234a0879fd9028c7ec3c0c899f647d", func := "hackamore/hackamorelaw38.LinkOrders", spec := "linkOrders", unfollowed := true, recurses := true, apart := false, narrowed := true }
def LinkOrdersUptoSaid : Prop := linkOrdersUptoRow.holds Try.pinned (OpenSpec.upto linkOrdersSpec)

/-- 'hackamorelaw38.LinkRuns', WHERE WHAT IT READS IS OF BULK AT MOST 1048576: true; the input reads as it did. -/
def linkRunsUptoRow : OpenClaim := { program := "ytmjfccnmeiagbaa", sum := "cd72e9fea98d05fbaf43f876f29844740c234a0879fd9028c7ec3c0c899f647d", func := "hackamore/hackamorelaw38.LinkRuns", spec := "linkRuns", unfollowed := true, recurses := true, apart := false, narrowed := true }
def LinkRunsUptoSaid : Prop := linkRunsUptoRow.holds Try.pinned (OpenSpec.upto linkRunsSpec)

/-- 'hackamorelaw38.LinkSettles', WHERE WHAT IT READS IS OF BULK AT MOST 1048576: true; the input reads as it did. -/
def linkSettlesUptoRow : OpenClaim := { program := "ytmjfccnmeiagbaa", sum := "cd72e9fea98d05fbaf43f876f29844740c234a0879fd9028c7ec3c0c899f647d", func := "hackamore/hackamorelaw38.LinkSettles", spec := "linkSettles", unfollowed := true, recurses := true, apart := false, narrowed := true }
def LinkSettlesUptoSaid : Prop := linkSettlesUptoRow.holds Try.pinned (OpenSpec.upto linkSettlesSpec)

/-- 'hackamorelaw38.LinkNil', WHERE WHAT IT READS IS OF BULK AT MOST 1048576: true; the input reads as it did. -/
def linkNilUptoRow : OpenClaim := { program := "ytmjfccnmeiagbaa", sum := "cd72e9fea98d05fbaf43f876f29844740c234a0879fd9028c7ec3c0c899f647d", func := "hackamore/hackamorelaw38.LinkNil", spec := "linkNil", unfollowed := true, recurses := true, apart := false, narrowed := true }
def LinkNilUptoSaid : Prop := linkNilUptoRow.holds Try.pinned (OpenSpec.upto linkNilSpec)

end Rows
end Go.Proofs.Ytmjfccnmeiagbaa
