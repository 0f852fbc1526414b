/- The simulated machine, moved by the pulses of a run, is in every cycle at most a step of each axis away from a point that is AA the contour of the items: the tied card. -/
import Derived.Test.YtnnpdlgenmnekaaGreatDoorReportPlantRow
set_option linter.unusedVariables false
set_option linter.unusedSimpArgs false
namespace Go.Proofs.YtnnpdlgenmnekaaGreatDoor
open Go Go.Bm Go.Proofs Go.ChangeShapes Go.WideShapes Go.ChangeAt Go.RowKit
theorem reportPlantCard_holds : Rows.ReportPlantCardSaid :=
 Claim7.holds_tied_plain_at .later [] [.data, .data, .data] true (true, "59d87776475cae77164b62f025a538377bc44d2146e2ac54cccc5378ea1febe5") false reportPlant_holds (fun _ h => by cases h) (by kernel_rfl) (fun _ h => by cases h) reportPlant_row_tie rfl ⟨rfl, rfl⟩ (by kernel_rfl) rfl
  (fun f fn hf hfn => by
   obtain rfl : f = 8 := Option.some.inj ((show Tryz.prog.funcNamed "cnc/cnclaw44.ReportPlant" = some 8 by kernel_rfl).symm.trans hf) |>.symm
   obtain rfl : fn = Tryz.f8 := (Option.some.inj (Tryz.func8.symm.trans hfn)).symm
   exact ⟨by kernel_rfl, fun j t ht => by
    have hm : t ∈ Tryz.f8.params.toList := by simpa using Array.mem_of_getElem? ht
    have hall : (Tryz.f8.params.toList.all fun u => !Tryz.prog.wantsStandIn u) = true := by kernel_rfl
    exact (show Tryz.prog.wantsStandIn t = false by simpa using List.all_eq_true.1 hall t hm)⟩)
  (by kernel_rfl)
end Go.Proofs.YtnnpdlgenmnekaaGreatDoor
