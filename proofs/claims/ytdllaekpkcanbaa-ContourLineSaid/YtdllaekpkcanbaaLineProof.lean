/- Exactly which points are near a straight line: the law ContourLine answers true at every input, and leaves its arguments as they were; there are no conditions. -/
import Derived.Test.YtdllaekpkcanbaaPrLine
import Derived.Test.YtdllaekpkcanbaaRows
import Derived.ProofKit
set_option linter.unusedVariables false
set_option linter.unusedSimpArgs false
namespace Go.Proofs.Ytdllaekpkcanbaa
open Go Go.Bm Go.Proofs Go.ChangeShapes Go.WideShapes Go.ChangeAt Go.RowKit

theorem own : ownKnob Try.prog.godebug = none := by kernel_rfl
theorem laidOut : laidOutB Try.prog = true := by kernel_rfl
def v0 : Value := .int .i64 0
def p0 : Value := .agg #[v0, v0, v0]
theorem bool4 : Try.prog.underlying 4 = some .bool := by kernel_rfl

set_option maxRecDepth 100000 in
theorem line_lifted (os : Os) (started : os.Started) (H : Type) (enc : TypeId × Value → H) :
    ReturnsInHanded {} Try.checked os 3 .any (Rows.contourLineSpec.pre6 enc Try.prog Try.f3 Rows.contourLineRow.domain false) (Rows.contourLineSpec.post enc Try.prog Try.f3 false true false false) := by
  refine returnsInHanded_of_change (C := Try.checked) own started (by kernel_rfl) Try.func3
    (ChangeSpec.witness6 (enc := enc) (C := Try.checked) false ⟨#[], #[p0, p0, p0, v0], []⟩ 8 (by kernel_rfl) (by kernel_rfl) (by kernel_rfl) (by kernel_rfl)) ?_
  intro W base args ds gs before hval hW hcnd _
  refine law_calls (tb := 4) (shs := [(true, kPt), (true, kPt), (true, kPt), (false, kInts)]) rfl laidOut (by kernel_rfl) bool4 (by kernel_rfl) (by kernel_rfl) (spec4 _ _ fun _ _ _ _ => rfl) ?_ hval hW
  intro ars has hok
  obtain ⟨a0, ars, rfl, g0, k0, has⟩ := ars_cons has
  obtain ⟨a1, ars, rfl, g1, k1, has⟩ := ars_cons has
  obtain ⟨a2, ars, rfl, g2, k2, has⟩ := ars_cons has
  obtain ⟨a3, ars, rfl, g3, k3, has⟩ := ars_cons has
  obtain rfl := ars_nil has
  have o2 := (hok a2 (by simp)).1
  rw [k2] at o2
  simp only [List.map_cons, List.map_nil, Ar.tv_of g0 k0, Ar.tv_of g1 k1, Ar.tv_of g2 k2, Ar.tv_of g3 k3]
  generalize a0.raw = r0
  generalize a1.raw = r1
  generalize a2.raw = r2 at o2 ⊢
  generalize a3.raw = r3
  have hi := okR_pt o2
  refine c_cnclaw41_ContourLine _ _ _ (spOf_law rfl (s_ContourLine (ptOf r0 0) (ptOf r1 0) (ptOf r2 0) (intOf (nth .dead r3 0)) hi.1 hi.2.1 hi.2.2) rfl)

theorem contourLine_holds : Rows.ContourLineSaid :=
  OpenClaim.holds_of_wide 3 Try.f3 rfl rfl rfl rfl rfl rfl rfl ⟨rfl, rfl, rfl, rfl, rfl⟩ rfl rfl rfl rfl rfl (by kernel_rfl) Try.func3 (by kernel_rfl)
    (of_decide_eq_true (by kernel_rfl)) (by unfold Func.isWrapper; first | (rw [if_pos (by decide +kernel)]; kernel_rfl) | (rw [if_neg (by decide +kernel)]; exact ⟨rfl, rfl⟩))
    (fun os started H enc _ => line_lifted os started H enc)
end Go.Proofs.Ytdllaekpkcanbaa
