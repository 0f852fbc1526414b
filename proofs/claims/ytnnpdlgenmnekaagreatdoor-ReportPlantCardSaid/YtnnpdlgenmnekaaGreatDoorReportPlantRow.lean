/- The simulated machine, moved by the pulses of a run, is in every cycle at most a step of each axis away from a point that is AA the contour of the items: the row. -/
import Derived.Test.YtnnpdlgenmnekaaGreatDoorReportPlantLaw
set_option linter.unusedVariables false
set_option linter.unusedSimpArgs false
namespace Go.Proofs.YtnnpdlgenmnekaaGreatDoor
open Go Go.Bm Go.Proofs Go.ChangeShapes Go.WideShapes Go.ChangeAt Go.RowKit
theorem reportPlant_holds : Rows.ReportPlantSaid :=
 OpenClaim.holds_of_wide 8 Tryz.f8 rfl rfl rfl rfl rfl rfl rfl ⟨rfl, rfl, rfl, rfl, rfl⟩ rfl rfl rfl rfl rfl (by kernel_rfl) Tryz.func8 (by kernel_rfl)
  (of_decide_eq_true (by kernel_rfl)) (by unfold Func.isWrapper; first | (rw [if_pos (by decide +kernel)]; kernel_rfl) | (rw [if_neg (by decide +kernel)]; exact ⟨rfl, rfl⟩))
  (fun os started H enc _ => law_lifted os started H enc)
end Go.Proofs.YtnnpdlgenmnekaaGreatDoor
