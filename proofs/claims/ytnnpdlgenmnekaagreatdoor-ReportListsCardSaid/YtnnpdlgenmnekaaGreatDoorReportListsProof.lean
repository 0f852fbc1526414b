/- What is read off a list of ticks: the tied card. -/
import Derived.Test.YtnnpdlgenmnekaaGreatDoorReportListsRow
set_option linter.unusedVariables false
set_option linter.unusedSimpArgs false
namespace Go.Proofs.YtnnpdlgenmnekaaGreatDoor
open Go Go.Bm Go.Proofs Go.ChangeShapes Go.WideShapes Go.ChangeAt Go.RowKit
theorem reportListsCard_holds : Rows.ReportListsCardSaid :=
 Claim7.holds_tied_plain_at .later [] [.data, .data, .data] true (true, "59d87776475cae77164b62f025a538377bc44d2146e2ac54cccc5378ea1febe5") false reportLists_holds (fun _ h => by cases h) (by kernel_rfl) (fun _ h => by cases h) reportLists_row_tie rfl ⟨rfl, rfl⟩ (by kernel_rfl) rfl
  (fun f fn hf hfn => by
   obtain rfl : f = 7 := Option.some.inj ((show Tryz.prog.funcNamed "cnc/cnclaw44.ReportLists" = some 7 by kernel_rfl).symm.trans hf) |>.symm
   obtain rfl : fn = Tryz.f7 := (Option.some.inj (Tryz.func7.symm.trans hfn)).symm
   exact ⟨by kernel_rfl, fun j t ht => by
    have hm : t ∈ Tryz.f7.params.toList := by simpa using Array.mem_of_getElem? ht
    have hall : (Tryz.f7.params.toList.all fun u => !Tryz.prog.wantsStandIn u) = true := by kernel_rfl
    exact (show Tryz.prog.wantsStandIn t = false by simpa using List.all_eq_true.1 hall t hm)⟩)
  (by kernel_rfl)
end Go.Proofs.YtnnpdlgenmnekaaGreatDoor
