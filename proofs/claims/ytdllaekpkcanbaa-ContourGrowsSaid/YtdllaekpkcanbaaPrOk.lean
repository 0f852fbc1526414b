/- what a law's arguments are known to be -/
import Derived.Test.YtdllaekpkcanbaaPrH
set_option linter.unusedVariables false
set_option linter.unusedSimpArgs false
set_option maxRecDepth 100000
namespace Go.Bm

theorem okR_int {r : List AC} (h : okR kInts r) : i64 (intOf (nth .dead r 0)) := by
  match r, h with
  | [], h => exact h.elim
  | a :: _, h => exact okC_int h.1
theorem okR_src {r : List AC} (h : okR [Kd.sl kInts] r) : Src (rowsOf (nth .dead r 0)) := by
  match r, h with
  | [], h => exact h.elim
  | a :: _, h =>
    have h1 := h.1
    unfold okC at h1
    refine ⟨?_, fun c hc => okR_int (h1.2 c hc).1⟩
    have h2 := h1.1
    simp only [maxLen] at h2
    show (rowsOf a).length ≤ _
    omega
end Go.Bm
