/- A stop keeps the limits of the plan to its end: ProfileSmooth answers true at every input, and leaves its arguments as they were; there are no conditions. -/
import Derived.Test.YtbhinbhppddifaaPrSmooth2
import Derived.Test.YtbhinbhppddifaaRows
import Derived.ProofKit
namespace Go.Proofs.Ytbhinbhppddifaa
open Go Go.Am Go.Proofs Go.ChangeShapes Go.WideShapes Go.ChangeAt Go.RowKit

theorem own : ownKnob Try.prog.godebug = none := by kernel_rfl
theorem laidOut : laidOutB Try.prog = true := by kernel_rfl
abbrev ki : Kd := .int .i64
def v0 : Value := .int .i64 0
theorem bool4 : Try.prog.underlying 4 = some .bool := by kernel_rfl

set_option maxRecDepth 100000 in
theorem profileSmooth_lifted (os : Os) (started : os.Started) (H : Type) (enc : TypeId × Value → H) :
    ReturnsInHanded {} Try.checked os 9 .any (Rows.profileSmoothSpec.pre6 enc Try.prog Try.f9 Rows.profileSmoothRow.domain false) (Rows.profileSmoothSpec.post enc Try.prog Try.f9 false true false false) := by
  refine returnsInHanded_of_change (C := Try.checked) own started (by kernel_rfl) Try.func9
    (ChangeSpec.witness6 (enc := enc) (C := Try.checked) false ⟨#[], #[.agg #[v0, v0, v0], v0, v0], []⟩ 8 (by kernel_rfl) (by kernel_rfl) (by kernel_rfl) (by kernel_rfl)) ?_
  intro W base args ds gs before hval hW hcnd _
  refine law_calls (tb := 4) (shs := [.flat true [ki, ki, ki], .flat false [ki], .flat false [ki]]) rfl laidOut (by kernel_rfl) bool4 (by kernel_rfl) (by kernel_rfl) (spec3 _ _ fun _ _ _ => rfl) ?_ hval hW
  intro ars has hok
  obtain ⟨a0, ars, rfl, h0, has⟩ := ars_cons has
  obtain ⟨a1, ars, rfl, h1, has⟩ := ars_cons has
  obtain ⟨a2, ars, rfl, h2, has⟩ := ars_cons has
  obtain rfl := ars_nil has
  obtain ⟨g0, b0, rfl⟩ := sh_flat h0
  obtain ⟨g1, b1, rfl⟩ := sh_flat h1
  obtain ⟨g2, b2, rfl⟩ := sh_flat h2
  exact sound9 (law_smooth (g0 0) (g0 1) (g0 2) (g1 0) (g2 0) 0)

theorem profileSmooth_holds : Rows.ProfileSmoothSaid :=
  OpenClaim.holds_of_wide 9 Try.f9 rfl rfl rfl rfl rfl rfl rfl ⟨rfl, rfl, rfl, rfl, rfl⟩ rfl rfl rfl rfl rfl (by kernel_rfl) Try.func9 (by kernel_rfl)
    (of_decide_eq_true (by kernel_rfl)) (by unfold Func.isWrapper; first | (rw [if_pos (by decide +kernel)]; kernel_rfl) | (rw [if_neg (by decide +kernel)]; exact ⟨rfl, rfl⟩))
    (fun os started H enc _ => profileSmooth_lifted os started H enc)

end Go.Proofs.Ytbhinbhppddifaa
