/- the positions of the motors, cycle by cycle, are within the limits of the axes, whatever happens but a loss of power: the law ControllerLimits answers true at every input, and leaves its arguments as they were; there are no conditions. -/
import Derived.Test.YtommijghjlikkaaGreatPrOk
import Derived.Test.YtommijghjlikkaaGreatRows
import Derived.ProofKit
set_option linter.unusedVariables false
set_option linter.unusedSimpArgs false
namespace Go.Proofs.YtommijghjlikkaaGreat
open Go Go.Bm Go.Proofs Go.ChangeShapes Go.WideShapes Go.ChangeAt Go.RowKit

theorem own : ownKnob Tryz.prog.godebug = none := by kernel_rfl
theorem laidOut : laidOutB Tryz.prog = true := by kernel_rfl
def v0 : Value := .int .i64 0
theorem bool4 : Tryz.prog.underlying 4 = some .bool := by kernel_rfl

set_option maxRecDepth 100000 in
theorem law_lifted (os : Os) (started : os.Started) (H : Type) (enc : TypeId × Value → H) :
  ReturnsInHanded {} Tryz.checked os 5 .any (Rows.controllerLimitsSpec.pre6 enc Tryz.prog Tryz.f5 Rows.controllerLimitsRow.domain false) (Rows.controllerLimitsSpec.post enc Tryz.prog Tryz.f5 false true false false) := by
 refine returnsInHanded_of_change (C := Tryz.checked) own started (by kernel_rfl) Tryz.func5
  (ChangeSpec.witness6 (enc := enc) (C := Tryz.checked) false ⟨#[], #[.slice none 0 0, .slice none 0 0, .slice none 0 0, .slice none 0 0, v0], []⟩ 8 (by kernel_rfl) (by kernel_rfl) (by kernel_rfl) (by kernel_rfl)) ?_
 intro W base args ds gs before hval hW hcnd _
 refine Z5z (tb := 4) (shs := [(false, [Kd.sl Aa]), (false, [Kd.sl Aa]), (false, [Kd.sl Aa]), (false, [Kd.sl Aa]), (false, Aa)]) rfl laidOut (by kernel_rfl) bool4 (by kernel_rfl) (by kernel_rfl) (Z74 _ _ fun _ _ _ _ _ => rfl) ?_ hval hW
 intro ars has hok
 obtain ⟨a0, ars, rfl, g0, k0, has⟩ := Rs has
 obtain ⟨a1, ars, rfl, g1, k1, has⟩ := Rs has
 obtain ⟨a2, ars, rfl, g2, k2, has⟩ := Rs has
 obtain ⟨a3, ars, rfl, g3, k3, has⟩ := Rs has
 obtain ⟨a4, ars, rfl, g4, k4, has⟩ := Rs has
 obtain rfl := Zty has
 have o0 := (hok a0 (by simp)).1
 have o1 := (hok a1 (by simp)).1
 have o2 := (hok a2 (by simp)).1
 have o3 := (hok a3 (by simp)).1
 have o4 := (hok a4 (by simp)).1
 rw [k0] at o0
 rw [k1] at o1
 rw [k2] at o2
 rw [k3] at o3
 rw [k4] at o4
 simp only [List.map_cons, List.map_nil, Ar.tv_of g0 k0, Ar.tv_of g1 k1, Ar.tv_of g2 k2, Ar.tv_of g3 k3, Ar.tv_of g4 k4]
 generalize a0.raw = r0 at o0 ⊢
 generalize a1.raw = r1 at o1 ⊢
 generalize a2.raw = r2 at o2 ⊢
 generalize a3.raw = r3 at o3 ⊢
 generalize a4.raw = r4 at o4 ⊢
 have h0 := Vy o0
 have h1 := Vy o1
 have h2 := Vy o2
 have h3 := Vy o3
 have h4 := Qxo o4
 exact Z5j _ _ _ (Zxd rfl (Z30 h0 h1 h2 h3 h4) rfl)

theorem controllerLimits_holds : Rows.ControllerLimitsSaid :=
 OpenClaim.holds_of_wide 5 Tryz.f5 rfl rfl rfl rfl rfl rfl rfl ⟨rfl, rfl, rfl, rfl, rfl⟩ rfl rfl rfl rfl rfl (by kernel_rfl) Tryz.func5 (by kernel_rfl)
  (of_decide_eq_true (by kernel_rfl)) (by unfold Func.isWrapper; first | (rw [if_pos (by decide +kernel)]; kernel_rfl) | (rw [if_neg (by decide +kernel)]; exact ⟨rfl, rfl⟩))
  (fun os started H enc _ => law_lifted os started H enc)
end Go.Proofs.YtommijghjlikkaaGreat
