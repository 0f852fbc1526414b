/-
  DERIVED. GIVEN WITH THE SEED: THE CARDS: each row of YtnnpdlgenmnekaaGreatDoorRows.lean that lists a variable, with what it lists TIED to the program's text (the seventh form; the later family's looks); each row that meets fmt, with fmt's text TOLD by the authors' own Lean function (tested against real Go, not proved from fmt's source: count such statements apart). THE CARD IS WHAT COUNTS. Prove the row's statement (the work); the ties are given (YtnnpdlgenmnekaaGreatDoorTie.lean); close each card by the builder's one call (the guide's Derived/Test/ToyasCard.lean, 'card_holds'). Laid BY PROGRAM, IN A SANDBOX (cutbox-door.mjs). By AI agents, Wed Nov 11 2026. No macro, syntax, notation, axiom, sorry.
-/
import Derived.Test.YtnnpdlgenmnekaaGreatDoorRows
import GoSem.ClaimSeven
namespace Go.Proofs.YtnnpdlgenmnekaaGreatDoor
namespace Rows

/-- THE TIED CARD OF 'cnclaw44.ReportFinishes'. -/
def reportFinishesCard : Claim7 := { stood := { row := reportFinishesRow, standIns := [], harness := (true, "59d87776475cae77164b62f025a538377bc44d2146e2ac54cccc5378ea1febe5"), looks := false }, kinds := [], alts := [], laidByText := true, laidKinds := [.data, .data, .data], laidTests := true, laidLooks := .later }
def ReportFinishesCardSaid : Prop := Claim7.holds Tryz.pinned (.plain (OpenSpec.ofChange reportFinishesSpec)) reportFinishesCard

/-- THE TIED CARD OF 'cnclaw44.ReportLate'. -/
def reportLateCard : Claim7 := { stood := { row := reportLateRow, standIns := [], harness := (true, "59d87776475cae77164b62f025a538377bc44d2146e2ac54cccc5378ea1febe5"), looks := false }, kinds := [], alts := [], laidByText := true, laidKinds := [.data, .data, .data], laidTests := true, laidLooks := .later }
def ReportLateCardSaid : Prop := Claim7.holds Tryz.pinned (.plain (OpenSpec.ofChange reportLateSpec)) reportLateCard

/-- THE TIED CARD OF 'cnclaw44.ReportSame'. -/
def reportSameCard : Claim7 := { stood := { row := reportSameRow, standIns := [], harness := (true, "59d87776475cae77164b62f025a538377bc44d2146e2ac54cccc5378ea1febe5"), looks := false }, kinds := [], alts := [], laidByText := true, laidKinds := [.data, .data, .data], laidTests := true, laidLooks := .later }
def ReportSameCardSaid : Prop := Claim7.holds Tryz.pinned (.plain (OpenSpec.ofChange reportSameSpec)) reportSameCard

/-- THE TIED CARD OF 'cnclaw44.ReportHeld'. -/
def reportHeldCard : Claim7 := { stood := { row := reportHeldRow, standIns := [], harness := (true, "59d87776475cae77164b62f025a538377bc44d2146e2ac54cccc5378ea1febe5"), looks := false }, kinds := [], alts := [], laidByText := true, laidKinds := [.data, .data, .data], laidTests := true, laidLooks := .later }
def ReportHeldCardSaid : Prop := Claim7.holds Tryz.pinned (.plain (OpenSpec.ofChange reportHeldSpec)) reportHeldCard

/-- THE TIED CARD OF 'cnclaw44.ReportLists'. -/
def reportListsCard : Claim7 := { stood := { row := reportListsRow, standIns := [], harness := (true, "59d87776475cae77164b62f025a538377bc44d2146e2ac54cccc5378ea1febe5"), looks := false }, kinds := [], alts := [], laidByText := true, laidKinds := [.data, .data, .data], laidTests := true, laidLooks := .later }
def ReportListsCardSaid : Prop := Claim7.holds Tryz.pinned (.plain (OpenSpec.ofChange reportListsSpec)) reportListsCard

/-- THE TIED CARD OF 'cnclaw44.ReportPlant'. -/
def reportPlantCard : Claim7 := { stood := { row := reportPlantRow, standIns := [], harness := (true, "59d87776475cae77164b62f025a538377bc44d2146e2ac54cccc5378ea1febe5"), looks := false }, kinds := [], alts := [], laidByText := true, laidKinds := [.data, .data, .data], laidTests := true, laidLooks := .later }
def ReportPlantCardSaid : Prop := Claim7.holds Tryz.pinned (.plain (OpenSpec.ofChange reportPlantSpec)) reportPlantCard

/-- THE SECOND FORM's CARD OF 'cnclaw44.ReportFinishes'. -/
def reportFinishesUptoCard : Claim7 := { stood := { row := reportFinishesUptoRow, standIns := [], harness := (true, "59d87776475cae77164b62f025a538377bc44d2146e2ac54cccc5378ea1febe5"), looks := false }, kinds := [], alts := [], laidByText := true, laidKinds := [.data, .data, .data], laidTests := true, laidLooks := .later }
def ReportFinishesUptoCardSaid : Prop := Claim7.holds Tryz.pinned (.plain (OpenSpec.upto reportFinishesSpec)) reportFinishesUptoCard

/-- THE SECOND FORM's CARD OF 'cnclaw44.ReportLate'. -/
def reportLateUptoCard : Claim7 := { stood := { row := reportLateUptoRow, standIns := [], harness := (true, "59d87776475cae77164b62f025a538377bc44d2146e2ac54cccc5378ea1febe5"), looks := false }, kinds := [], alts := [], laidByText := true, laidKinds := [.data, .data, .data], laidTests := true, laidLooks := .later }
def ReportLateUptoCardSaid : Prop := Claim7.holds Tryz.pinned (.plain (OpenSpec.upto reportLateSpec)) reportLateUptoCard

/-- THE SECOND FORM's CARD OF 'cnclaw44.ReportSame'. -/
def reportSameUptoCard : Claim7 := { stood := { row := reportSameUptoRow, standIns := [], harness := (true, "59d87776475cae77164b62f025a538377bc44d2146e2ac54cccc5378ea1febe5"), looks := false }, kinds := [], alts := [], laidByText := true, laidKinds := [.data, .data, .data], laidTests := true, laidLooks := .later }
def ReportSameUptoCardSaid : Prop := Claim7.holds Tryz.pinned (.plain (OpenSpec.upto reportSameSpec)) reportSameUptoCard

/-- THE SECOND FORM's CARD OF 'cnclaw44.ReportHeld'. -/
def reportHeldUptoCard : Claim7 := { stood := { row := reportHeldUptoRow, standIns := [], harness := (true, "59d87776475cae77164b62f025a538377bc44d2146e2ac54cccc5378ea1febe5"), looks := false }, kinds := [], alts := [], laidByText := true, laidKinds := [.data, .data, .data], laidTests := true, laidLooks := .later }
def ReportHeldUptoCardSaid : Prop := Claim7.holds Tryz.pinned (.plain (OpenSpec.upto reportHeldSpec)) reportHeldUptoCard

/-- THE SECOND FORM's CARD OF 'cnclaw44.ReportLists'. -/
def reportListsUptoCard : Claim7 := { stood := { row := reportListsUptoRow, standIns := [], harness := (true, "59d87776475cae77164b62f025a538377bc44d2146e2ac54cccc5378ea1febe5"), looks := false }, kinds := [], alts := [], laidByText := true, laidKinds := [.data, .data, .data], laidTests := true, laidLooks := .later }
def ReportListsUptoCardSaid : Prop := Claim7.holds Tryz.pinned (.plain (OpenSpec.upto reportListsSpec)) reportListsUptoCard

/-- THE SECOND FORM's CARD OF 'cnclaw44.ReportPlant'. -/
def reportPlantUptoCard : Claim7 := { stood := { row := reportPlantUptoRow, standIns := [], harness := (true, "59d87776475cae77164b62f025a538377bc44d2146e2ac54cccc5378ea1febe5"), looks := false }, kinds := [], alts := [], laidByText := true, laidKinds := [.data, .data, .data], laidTests := true, laidLooks := .later }
def ReportPlantUptoCardSaid : Prop := Claim7.holds Tryz.pinned (.plain (OpenSpec.upto reportPlantSpec)) reportPlantUptoCard
end Rows
end Go.Proofs.YtnnpdlgenmnekaaGreatDoor
