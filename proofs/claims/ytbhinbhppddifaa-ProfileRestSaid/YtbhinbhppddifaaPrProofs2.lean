/- Two laws of layer 32 (the speed that is lost by the jerk, the rest of a stop) answer true at every input, and leave their arguments as they were; there are no conditions. -/
import Derived.Test.YtbhinbhppddifaaPrRest
import Derived.Test.YtbhinbhppddifaaPrLoss
import Derived.Test.YtbhinbhppddifaaRows
import Derived.ProofKit
namespace Go.Proofs.Ytbhinbhppddifaa
open Go Go.Am Go.Proofs Go.ChangeShapes Go.WideShapes Go.ChangeAt Go.RowKit

theorem own : ownKnob Try.prog.godebug = none := by kernel_rfl
theorem laidOut : laidOutB Try.prog = true := by kernel_rfl
abbrev ki : Kd := .int .i64
def v0 : Value := .int .i64 0
theorem bool4 : Try.prog.underlying 4 = some .bool := by kernel_rfl

set_option maxRecDepth 100000 in
theorem profileRest_lifted (os : Os) (started : os.Started) (H : Type) (enc : TypeId × Value → H) :
    ReturnsInHanded {} Try.checked os 8 .any (Rows.profileRestSpec.pre6 enc Try.prog Try.f8 Rows.profileRestRow.domain false) (Rows.profileRestSpec.post enc Try.prog Try.f8 false true false false) := by
  refine returnsInHanded_of_change (C := Try.checked) own started (by kernel_rfl) Try.func8
    (ChangeSpec.witness6 (enc := enc) (C := Try.checked) false ⟨#[], #[.agg #[v0, v0, v0], v0, v0], []⟩ 8 (by kernel_rfl) (by kernel_rfl) (by kernel_rfl) (by kernel_rfl)) ?_
  intro W base args ds gs before hval hW hcnd _
  refine law_calls (tb := 4) (shs := [.flat true [ki, ki, ki], .flat false [ki], .flat false [ki]]) rfl laidOut (by kernel_rfl) bool4 (by kernel_rfl) (by kernel_rfl) (spec3 _ _ fun _ _ _ => rfl) ?_ hval hW
  intro ars has hok
  obtain ⟨a0, ars, rfl, h0, has⟩ := ars_cons has
  obtain ⟨a1, ars, rfl, h1, has⟩ := ars_cons has
  obtain ⟨a2, ars, rfl, h2, has⟩ := ars_cons has
  obtain rfl := ars_nil has
  obtain ⟨g0, b0, rfl⟩ := sh_flat h0
  obtain ⟨g1, b1, rfl⟩ := sh_flat h1
  obtain ⟨g2, b2, rfl⟩ := sh_flat h2
  exact sound5 (law_rest (g0 0) (g0 1) (g0 2) (g1 0) (g2 0) 0)

theorem profileRest_holds : Rows.ProfileRestSaid :=
  OpenClaim.holds_of_wide 8 Try.f8 rfl rfl rfl rfl rfl rfl rfl ⟨rfl, rfl, rfl, rfl, rfl⟩ rfl rfl rfl rfl rfl (by kernel_rfl) Try.func8 (by kernel_rfl)
    (of_decide_eq_true (by kernel_rfl)) (by unfold Func.isWrapper; first | (rw [if_pos (by decide +kernel)]; kernel_rfl) | (rw [if_neg (by decide +kernel)]; exact ⟨rfl, rfl⟩))
    (fun os started H enc _ => profileRest_lifted os started H enc)

set_option maxRecDepth 100000 in
theorem profileLoss_lifted (os : Os) (started : os.Started) (H : Type) (enc : TypeId × Value → H) :
    ReturnsInHanded {} Try.checked os 4 .any (Rows.profileLossSpec.pre6 enc Try.prog Try.f4 Rows.profileLossRow.domain false) (Rows.profileLossSpec.post enc Try.prog Try.f4 false true false false) := by
  refine returnsInHanded_of_change (C := Try.checked) own started (by kernel_rfl) Try.func4
    (ChangeSpec.witness6 (enc := enc) (C := Try.checked) false ⟨#[], #[.agg #[v0, v0, v0], v0, v0, v0], []⟩ 8 (by kernel_rfl) (by kernel_rfl) (by kernel_rfl) (by kernel_rfl)) ?_
  intro W base args ds gs before hval hW hcnd _
  refine law_calls (tb := 4) (shs := [.flat true [ki, ki, ki], .flat false [ki], .flat false [ki], .flat false [ki]]) rfl laidOut (by kernel_rfl) bool4 (by kernel_rfl) (by kernel_rfl) (spec4 _ _ fun _ _ _ _ => rfl) ?_ hval hW
  intro ars has hok
  obtain ⟨a0, ars, rfl, h0, has⟩ := ars_cons has
  obtain ⟨a1, ars, rfl, h1, has⟩ := ars_cons has
  obtain ⟨a2, ars, rfl, h2, has⟩ := ars_cons has
  obtain ⟨a3, ars, rfl, h3, has⟩ := ars_cons has
  obtain rfl := ars_nil has
  obtain ⟨g0, b0, rfl⟩ := sh_flat h0
  obtain ⟨g1, b1, rfl⟩ := sh_flat h1
  obtain ⟨g2, b2, rfl⟩ := sh_flat h2
  obtain ⟨g3, b3, rfl⟩ := sh_flat h3
  exact soundl (law_loss (g0 0) (g0 1) (g0 2) (g1 0) (g2 0) (g3 0) 0)

theorem profileLoss_holds : Rows.ProfileLossSaid :=
  OpenClaim.holds_of_wide 4 Try.f4 rfl rfl rfl rfl rfl rfl rfl ⟨rfl, rfl, rfl, rfl, rfl⟩ rfl rfl rfl rfl rfl (by kernel_rfl) Try.func4 (by kernel_rfl)
    (of_decide_eq_true (by kernel_rfl)) (by unfold Func.isWrapper; first | (rw [if_pos (by decide +kernel)]; kernel_rfl) | (rw [if_neg (by decide +kernel)]; exact ⟨rfl, rfl⟩))
    (fun os started H enc _ => profileLoss_lifted os started H enc)

end Go.Proofs.Ytbhinbhppddifaa
