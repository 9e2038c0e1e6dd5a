/-
  DERIVED. GIVEN WITH THE SEED: THE CARDS: each row of YtgfmplhpoblleaaDoorRows.lean that lists a variable, with what it lists TIED to the program's text (the seventh form; the later family's looks); each row that meets fmt, with fmt's text TOLD by the authors' own Lean function (tested against real Go, not proved from fmt's source: count such statements apart). THE CARD IS WHAT COUNTS. Prove the row's statement (the work); the ties are given (YtgfmplhpoblleaaDoorTie.lean); close each card by the builder's one call (the guide's Derived/Test/ToyasCard.lean, 'card_holds'). Laid BY PROGRAM, IN A SANDBOX (cutbox-door.mjs). By AI agents, Wed Nov 11 2026. No macro, syntax, notation, axiom, sorry.
-/
import Derived.Test.YtgfmplhpoblleaaDoorRows
import GoSem.ClaimSeven
namespace Go.Proofs.YtgfmplhpoblleaaDoor
namespace Rows

/-- THE TIED CARD OF 'paronymlaw21.PageCursors'. -/
def pageCursorsCard : Claim7 := { stood := { row := pageCursorsRow, standIns := [], harness := (true, "e6be58f01f507a4b4070602d87b70ad406d3dbfd304ecedd58305bf78f3a9a87"), looks := false }, kinds := [], alts := [], laidByText := true, laidKinds := [.data, .data, .data, .data, .pinned, .pinned], laidTests := true, laidLooks := .later }
def PageCursorsCardSaid : Prop := Claim7.holds Tryd.pinned (.plain (OpenSpec.ofChange pageCursorsSpec)) pageCursorsCard

/-- THE SECOND FORM's CARD OF 'paronymlaw21.PageCursors'. -/
def pageCursorsUptoCard : Claim7 := { stood := { row := pageCursorsUptoRow, standIns := [], harness := (true, "e6be58f01f507a4b4070602d87b70ad406d3dbfd304ecedd58305bf78f3a9a87"), looks := false }, kinds := [], alts := [], laidByText := true, laidKinds := [.data, .data, .data, .data, .pinned, .pinned], laidTests := true, laidLooks := .later }
def PageCursorsUptoCardSaid : Prop := Claim7.holds Tryd.pinned (.plain (OpenSpec.upto pageCursorsSpec)) pageCursorsUptoCard
end Rows
end Go.Proofs.YtgfmplhpoblleaaDoor
