/- Both laws of layer 39 answer true at every input, and leave their arguments as they were; there are no conditions. -/
import Derived.Test.YtaaeijlbaifieaaGuLaws
import Derived.Test.YtaaeijlbaifieaaRows
import Derived.ProofKit
namespace Go.Proofs.Ytaaeijlbaifieaa
open Go Go.Am Go.Proofs Go.ChangeShapes Go.WideShapes Go.ChangeAt Go.RowKit

theorem own : ownKnob Try.prog.godebug = none := by kernel_rfl
theorem laidOut : laidOutB Try.prog = true := by kernel_rfl
abbrev ki : Kd := .int .i64
def v0 : Value := .int .i64 0
theorem bool4 : Try.prog.underlying 4 = some .bool := by kernel_rfl

set_option maxRecDepth 100000 in
theorem apply_lifted (os : Os) (started : os.Started) (H : Type) (enc : TypeId × Value → H) :
    ReturnsInHanded {} Try.checked os 3 .any (Rows.guardApplySpec.pre6 enc Try.prog Try.f3 Rows.guardApplyRow.domain false) (Rows.guardApplySpec.post enc Try.prog Try.f3 false true false false) := by
  refine returnsInHanded_of_change (C := Try.checked) own started (by kernel_rfl) Try.func3
    (ChangeSpec.witness6 (enc := enc) (C := Try.checked) false ⟨#[], #[.agg #[v0, v0, v0], .slice none 0 0], []⟩ 8 (by kernel_rfl) (by kernel_rfl) (by kernel_rfl) (by kernel_rfl)) ?_
  intro W base args ds gs before hval hW hcnd _
  refine law_calls (tb := 4) (shs := [.flat true [ki, ki, ki], .sl [ki, ki, ki]]) rfl laidOut (by kernel_rfl) bool4 (by kernel_rfl) (by kernel_rfl) (spec2 _ _ fun _ _ => rfl) ?_ hval hW
  intro ars has hok
  obtain ⟨a0, ars, rfl, h0, has⟩ := ars_cons has
  obtain ⟨a1, ars, rfl, h1, has⟩ := ars_cons has
  obtain rfl := ars_nil has
  obtain ⟨g0, b0, rfl⟩ := sh_flat h0
  obtain ⟨n, gi, gb, rfl⟩ := sh_sl h1
  exact sound3 (law_apply n gi (g0 0) (g0 1) (g0 2) 0)

theorem guardApply_holds : Rows.GuardApplySaid :=
  OpenClaim.holds_of_wide 3 Try.f3 rfl rfl rfl rfl rfl rfl rfl ⟨rfl, rfl, rfl, rfl, rfl⟩ rfl rfl rfl rfl rfl (by kernel_rfl) Try.func3 (by kernel_rfl)
    (of_decide_eq_true (by kernel_rfl)) (by unfold Func.isWrapper; first | (rw [if_pos (by decide +kernel)]; kernel_rfl) | (rw [if_neg (by decide +kernel)]; exact ⟨rfl, rfl⟩))
    (fun os started H enc _ => apply_lifted os started H enc)

set_option maxRecDepth 100000 in
theorem first_lifted (os : Os) (started : os.Started) (H : Type) (enc : TypeId × Value → H) :
    ReturnsInHanded {} Try.checked os 4 .any (Rows.guardFirstSpec.pre6 enc Try.prog Try.f4 Rows.guardFirstRow.domain false) (Rows.guardFirstSpec.post enc Try.prog Try.f4 false true false false) := by
  refine returnsInHanded_of_change (C := Try.checked) own started (by kernel_rfl) Try.func4
    (ChangeSpec.witness6 (enc := enc) (C := Try.checked) false ⟨#[], #[.slice none 0 0], []⟩ 8 (by kernel_rfl) (by kernel_rfl) (by kernel_rfl) (by kernel_rfl)) ?_
  intro W base args ds gs before hval hW hcnd _
  refine law_calls (tb := 4) (shs := [.sl [ki, ki, ki]]) rfl laidOut (by kernel_rfl) bool4 (by kernel_rfl) (by kernel_rfl) (spec1 _ _ fun _ => rfl) ?_ hval hW
  intro ars has hok
  obtain ⟨a1, ars, rfl, h1, has⟩ := ars_cons has
  obtain rfl := ars_nil has
  obtain ⟨n, gi, gb, rfl⟩ := sh_sl h1
  exact sound4 (law_first n gi 0)

theorem guardFirst_holds : Rows.GuardFirstSaid :=
  OpenClaim.holds_of_wide 4 Try.f4 rfl rfl rfl rfl rfl rfl rfl ⟨rfl, rfl, rfl, rfl, rfl⟩ rfl rfl rfl rfl rfl (by kernel_rfl) Try.func4 (by kernel_rfl)
    (of_decide_eq_true (by kernel_rfl)) (by unfold Func.isWrapper; first | (rw [if_pos (by decide +kernel)]; kernel_rfl) | (rw [if_neg (by decide +kernel)]; exact ⟨rfl, rfl⟩))
    (fun os started H enc _ => first_lifted os started H enc)

end Go.Proofs.Ytaaeijlbaifieaa
