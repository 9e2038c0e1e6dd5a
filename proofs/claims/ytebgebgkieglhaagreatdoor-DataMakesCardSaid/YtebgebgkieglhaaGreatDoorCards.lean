/-
  DERIVED. GIVEN WITH THE SEED: THE CARDS: each row of YtebgebgkieglhaaGreatDoorRows.lean that lists a variable, with what it lists TIED to the program's text (the seventh form; the later family's looks); each row that meets fmt, with fmt's text TOLD by the authors' own Lean function (tested against real Go, not proved from fmt's source: count such statements apart). THE CARD IS WHAT COUNTS. Prove the row's statement (the work); the ties are given (YtebgebgkieglhaaGreatDoorTie.lean); close each card by the builder's one call (the guide's Derived/Test/ToyasCard.lean, 'card_holds'). Laid BY PROGRAM, IN A SANDBOX (cutbox-door.mjs). By AI agents, Wed Nov 11 2026. No macro, syntax, notation, axiom, sorry.
-/
import Derived.Test.YtebgebgkieglhaaGreatDoorRows
import GoSem.ClaimSeven
namespace Go.Proofs.YtebgebgkieglhaaGreatDoor
namespace Rows

/-- THE TIED CARD OF 'paronymlaw07.DataMakes'. -/
def dataMakesCard : Claim7 := { stood := { row := dataMakesRow, standIns := [], harness := (true, "e2b141f45662e39795085e5f097c79376fda24cae6bd0ba29013ea4ceb5e5026"), looks := true }, kinds := [], alts := [], laidByText := true, laidKinds := [.data, .data, .data, .data, .sentinel, .sentinel, .data, .pinned, .pinned], laidTests := true, laidLooks := .later }
def DataMakesCardSaid : Prop := Claim7.holds Tryz.pinned (.plain (OpenSpec.ofChange dataMakesSpec)) dataMakesCard

/-- THE TIED CARD OF 'paronymlaw07.DataLoads'. -/
def dataLoadsCard : Claim7 := { stood := { row := dataLoadsRow, standIns := [], harness := (true, "e2b141f45662e39795085e5f097c79376fda24cae6bd0ba29013ea4ceb5e5026"), looks := true }, kinds := [], alts := [], laidByText := true, laidKinds := [.data, .data, .data, .data, .sentinel, .sentinel, .data, .pinned, .pinned], laidTests := true, laidLooks := .later }
def DataLoadsCardSaid : Prop := Claim7.holds Tryz.pinned (.plain (OpenSpec.ofChange dataLoadsSpec)) dataLoadsCard

/-- THE TIED CARD OF 'paronymlaw07.DataPoints'. -/
def dataPointsCard : Claim7 := { stood := { row := dataPointsRow, standIns := [], harness := (true, "e2b141f45662e39795085e5f097c79376fda24cae6bd0ba29013ea4ceb5e5026"), looks := true }, kinds := [], alts := [], laidByText := true, laidKinds := [.data, .data, .data, .data, .sentinel, .sentinel, .data, .pinned, .pinned], laidTests := true, laidLooks := .later }
def DataPointsCardSaid : Prop := Claim7.holds Tryz.pinned (.plain (OpenSpec.ofChange dataPointsSpec)) dataPointsCard

/-- THE TIED CARD OF 'paronymlaw07.DataRemarks'. -/
def dataRemarksCard : Claim7 := { stood := { row := dataRemarksRow, standIns := [], harness := (true, "e2b141f45662e39795085e5f097c79376fda24cae6bd0ba29013ea4ceb5e5026"), looks := true }, kinds := [], alts := [], laidByText := true, laidKinds := [.data, .data, .data, .data, .sentinel, .sentinel, .data, .pinned, .pinned], laidTests := true, laidLooks := .later }
def DataRemarksCardSaid : Prop := Claim7.holds Tryz.pinned (.plain (OpenSpec.ofChange dataRemarksSpec)) dataRemarksCard

/-- THE SECOND FORM's CARD OF 'paronymlaw07.DataMakes'. -/
def dataMakesUptoCard : Claim7 := { stood := { row := dataMakesUptoRow, standIns := [], harness := (true, "e2b141f45662e39795085e5f097c79376fda24cae6bd0ba29013ea4ceb5e5026"), looks := true }, kinds := [], alts := [], laidByText := true, laidKinds := [.data, .data, .data, .data, .sentinel, .sentinel, .data, .pinned, .pinned], laidTests := true, laidLooks := .later }
def DataMakesUptoCardSaid : Prop := Claim7.holds Tryz.pinned (.plain (OpenSpec.upto dataMakesSpec)) dataMakesUptoCard

/-- THE SECOND FORM's CARD OF 'paronymlaw07.DataLoads'. -/
def dataLoadsUptoCard : Claim7 := { stood := { row := dataLoadsUptoRow, standIns := [], harness := (true, "e2b141f45662e39795085e5f097c79376fda24cae6bd0ba29013ea4ceb5e5026"), looks := true }, kinds := [], alts := [], laidByText := true, laidKinds := [.data, .data, .data, .data, .sentinel, .sentinel, .data, .pinned, .pinned], laidTests := true, laidLooks := .later }
def DataLoadsUptoCardSaid : Prop := Claim7.holds Tryz.pinned (.plain (OpenSpec.upto dataLoadsSpec)) dataLoadsUptoCard

/-- THE SECOND FORM's CARD OF 'paronymlaw07.DataPoints'. -/
def dataPointsUptoCard : Claim7 := { stood := { row := dataPointsUptoRow, standIns := [], harness := (true, "e2b141f45662e39795085e5f097c79376fda24cae6bd0ba29013ea4ceb5e5026"), looks := true }, kinds := [], alts := [], laidByText := true, laidKinds := [.data, .data, .data, .data, .sentinel, .sentinel, .data, .pinned, .pinned], laidTests := true, laidLooks := .later }
def DataPointsUptoCardSaid : Prop := Claim7.holds Tryz.pinned (.plain (OpenSpec.upto dataPointsSpec)) dataPointsUptoCard

/-- THE SECOND FORM's CARD OF 'paronymlaw07.DataRemarks'. -/
def dataRemarksUptoCard : Claim7 := { stood := { row := dataRemarksUptoRow, standIns := [], harness := (true, "e2b141f45662e39795085e5f097c79376fda24cae6bd0ba29013ea4ceb5e5026"), looks := true }, kinds := [], alts := [], laidByText := true, laidKinds := [.data, .data, .data, .data, .sentinel, .sentinel, .data, .pinned, .pinned], laidTests := true, laidLooks := .later }
def DataRemarksUptoCardSaid : Prop := Claim7.holds Tryz.pinned (.plain (OpenSpec.upto dataRemarksSpec)) dataRemarksUptoCard
end Rows
end Go.Proofs.YtebgebgkieglhaaGreatDoor
