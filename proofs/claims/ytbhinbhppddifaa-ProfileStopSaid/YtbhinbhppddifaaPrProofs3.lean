/- The speeds of a stop and their sum are the document's: ProfileStop answers true at every input, and leaves its arguments as they were; there are no conditions. -/
import Derived.Test.YtbhinbhppddifaaPrSum
import Derived.Test.YtbhinbhppddifaaRows
import Derived.ProofKit
namespace Go.Proofs.Ytbhinbhppddifaa
open Go Go.Am Go.Proofs Go.ChangeShapes Go.WideShapes Go.ChangeAt Go.RowKit

theorem own : ownKnob Try.prog.godebug = none := by kernel_rfl
theorem laidOut : laidOutB Try.prog = true := by kernel_rfl
abbrev ki : Kd := .int .i64
def v0 : Value := .int .i64 0
theorem bool4 : Try.prog.underlying 4 = some .bool := by kernel_rfl

set_option maxRecDepth 100000 in
theorem profileStop_lifted (os : Os) (started : os.Started) (H : Type) (enc : TypeId × Value → H) :
    ReturnsInHanded {} Try.checked os 10 .any (Rows.profileStopSpec.pre6 enc Try.prog Try.f10 Rows.profileStopRow.domain false) (Rows.profileStopSpec.post enc Try.prog Try.f10 false true false false) := by
  refine returnsInHanded_of_change (C := Try.checked) own started (by kernel_rfl) Try.func10
    (ChangeSpec.witness6 (enc := enc) (C := Try.checked) false ⟨#[], #[.agg #[v0, v0, v0], v0, v0], []⟩ 8 (by kernel_rfl) (by kernel_rfl) (by kernel_rfl) (by kernel_rfl)) ?_
  intro W base args ds gs before hval hW hcnd _
  refine law_calls (tb := 4) (shs := [.flat true [ki, ki, ki], .flat false [ki], .flat false [ki]]) rfl laidOut (by kernel_rfl) bool4 (by kernel_rfl) (by kernel_rfl) (spec3 _ _ fun _ _ _ => rfl) ?_ hval hW
  intro ars has hok
  obtain ⟨a0, ars, rfl, h0, has⟩ := ars_cons has
  obtain ⟨a1, ars, rfl, h1, has⟩ := ars_cons has
  obtain ⟨a2, ars, rfl, h2, has⟩ := ars_cons has
  obtain rfl := ars_nil has
  obtain ⟨g0, b0, rfl⟩ := sh_flat h0
  obtain ⟨g1, b1, rfl⟩ := sh_flat h1
  obtain ⟨g2, b2, rfl⟩ := sh_flat h2
  exact sound10 (law_stop (g0 0) (g0 1) (g0 2) (g1 0) (g2 0) 0)

theorem profileStop_holds : Rows.ProfileStopSaid :=
  OpenClaim.holds_of_wide 10 Try.f10 rfl rfl rfl rfl rfl rfl rfl ⟨rfl, rfl, rfl, rfl, rfl⟩ rfl rfl rfl rfl rfl (by kernel_rfl) Try.func10 (by kernel_rfl)
    (of_decide_eq_true (by kernel_rfl)) (by unfold Func.isWrapper; first | (rw [if_pos (by decide +kernel)]; kernel_rfl) | (rw [if_neg (by decide +kernel)]; exact ⟨rfl, rfl⟩))
    (fun os started H enc _ => profileStop_lifted os started H enc)

end Go.Proofs.Ytbhinbhppddifaa
