/- Every point of a path is near the contour of its items: the law ContourPath answers true at every input, and leaves its arguments as they were; there are no conditions. -/
import Derived.Test.YtdllaekpkcanbaaPrOk
import Derived.Test.YtdllaekpkcanbaaPrOk
import Derived.Test.YtdllaekpkcanbaaRows
import Derived.ProofKit
set_option linter.unusedVariables false
set_option linter.unusedSimpArgs false
namespace Go.Proofs.Ytdllaekpkcanbaa
open Go Go.Bm Go.Proofs Go.ChangeShapes Go.WideShapes Go.ChangeAt Go.RowKit

theorem own : ownKnob Try.prog.godebug = none := by kernel_rfl
theorem laidOut : laidOutB Try.prog = true := by kernel_rfl
def v0 : Value := .int .i64 0
theorem bool4 : Try.prog.underlying 4 = some .bool := by kernel_rfl

set_option maxRecDepth 100000 in
theorem law_lifted (os : Os) (started : os.Started) (H : Type) (enc : TypeId × Value → H) :
  ReturnsInHanded {} Try.checked os 14 .any (Rows.contourPathSpec.pre6 enc Try.prog Try.f14 Rows.contourPathRow.domain false) (Rows.contourPathSpec.post enc Try.prog Try.f14 false true false false) := by
 refine returnsInHanded_of_change (C := Try.checked) own started (by kernel_rfl) Try.func14
  (ChangeSpec.witness6 (enc := enc) (C := Try.checked) false ⟨#[], #[.slice none 0 0, v0, v0], []⟩ 8 (by kernel_rfl) (by kernel_rfl) (by kernel_rfl) (by kernel_rfl)) ?_
 intro W base args ds gs before hval hW hcnd _
 refine law_calls (tb := 4) (shs := [(false, [Kd.sl Qax]), (false, Qax), (false, Qax)]) rfl laidOut (by kernel_rfl) bool4 (by kernel_rfl) (by kernel_rfl) (spec3 _ _ fun _ _ _ => rfl) ?_ hval hW
 intro ars has hok
 obtain ⟨a0, ars, rfl, g0, k0, has⟩ := ars_cons has
 obtain ⟨a1, ars, rfl, g1, k1, has⟩ := ars_cons has
 obtain ⟨a2, ars, rfl, g2, k2, has⟩ := ars_cons has
 obtain rfl := ars_nil has
 have o0 := (hok a0 (by simp)).1
 have o1 := (hok a1 (by simp)).1
 have o2 := (hok a2 (by simp)).1
 rw [k0] at o0
 rw [k1] at o1
 rw [k2] at o2
 simp only [List.map_cons, List.map_nil, Ar.tv_of g0 k0, Ar.tv_of g1 k1, Ar.tv_of g2 k2]
 generalize a0.raw = r0 at o0 ⊢
 generalize a1.raw = r1 at o1 ⊢
 generalize a2.raw = r2 at o2 ⊢
 have h0 := okR_src o0
 have h1 := okR_int o1
 have h2 := okR_int o2
 exact c_cnclaw41_ContourPath _ _ _ (spOf_law rfl (s_ContourPath h0 h1 h2) rfl)

theorem contourPath_holds : Rows.ContourPathSaid :=
 OpenClaim.holds_of_wide 14 Try.f14 rfl rfl rfl rfl rfl rfl rfl ⟨rfl, rfl, rfl, rfl, rfl⟩ rfl rfl rfl rfl rfl (by kernel_rfl) Try.func14 (by kernel_rfl)
  (of_decide_eq_true (by kernel_rfl)) (by unfold Func.isWrapper; first | (rw [if_pos (by decide +kernel)]; kernel_rfl) | (rw [if_neg (by decide +kernel)]; exact ⟨rfl, rfl⟩))
  (fun os started H enc _ => law_lifted os started H enc)
end Go.Proofs.Ytdllaekpkcanbaa
