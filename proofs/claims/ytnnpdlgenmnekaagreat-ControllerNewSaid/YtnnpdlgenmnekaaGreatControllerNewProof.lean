/- which machines and items are refused, and how a controller begins: the law ControllerNew answers true at every input, and leaves its arguments as they were; there are no conditions. -/
import Derived.Test.YtnnpdlgenmnekaaGreatPrNj
import Derived.Test.YtnnpdlgenmnekaaGreatRows
import Derived.ProofKit
set_option linter.unusedVariables false
set_option linter.unusedSimpArgs false
namespace Go.Proofs.YtnnpdlgenmnekaaGreat
open Go Go.Bm Go.Proofs Go.ChangeShapes Go.WideShapes Go.ChangeAt Go.RowKit

theorem own : ownKnob Tryz.prog.godebug = none := by kernel_rfl
theorem laidOut : laidOutB Tryz.prog = true := by kernel_rfl
def v0 : Value := .int .i64 0
theorem bool4 : Tryz.prog.underlying 4 = some .bool := by kernel_rfl

set_option maxRecDepth 100000 in
theorem law_lifted (os : Os) (started : os.Started) (H : Type) (enc : TypeId × Value → H) :
  ReturnsInHanded {} Tryz.checked os 3 .any (Rows.controllerNewSpec.pre6 enc Tryz.prog Tryz.f3 Rows.controllerNewRow.domain false) (Rows.controllerNewSpec.post enc Tryz.prog Tryz.f3 false true false false) := by
 refine returnsInHanded_of_change (C := Tryz.checked) own started (by kernel_rfl) Tryz.func3
  (ChangeSpec.witness6 (enc := enc) (C := Tryz.checked) false ⟨#[], #[.agg #[v0, v0, v0, v0, v0, v0, v0, v0, v0, .slice none 0 0, v0, v0, v0, v0, v0, v0, v0, v0, v0, .slice none 0 0, v0, v0, v0, v0, v0, v0, v0, v0, v0, .slice none 0 0, v0, v0, v0, v0, v0], .slice none 0 0, .slice none 0 0, .slice none 0 0, v0, v0, .bool false], []⟩ 8 (by kernel_rfl) (by kernel_rfl) (by kernel_rfl) (by kernel_rfl)) ?_
 intro W base args ds gs before hval hW hcnd _
 refine Zp2 (tb := 4) (shs := [(true, Qra), (false, [Kd.sl Aa]), (false, [Kd.sl Aa]), (false, [Kd.sl Aa]), (false, Aa), (false, Aa), (false, [Kd.bool])]) rfl laidOut (by kernel_rfl) bool4 (by kernel_rfl) (by kernel_rfl) (Zi3 _ _ fun _ _ _ _ _ _ _ => rfl) ?_ hval hW (fun _ _ h => by cases h)
 intro ars has hok
 obtain ⟨a0, ars, rfl, g0, k0, has⟩ := JE has
 obtain ⟨a1, ars, rfl, g1, k1, has⟩ := JE has
 obtain ⟨a2, ars, rfl, g2, k2, has⟩ := JE has
 obtain ⟨a3, ars, rfl, g3, k3, has⟩ := JE has
 obtain ⟨a4, ars, rfl, g4, k4, has⟩ := JE has
 obtain ⟨a5, ars, rfl, g5, k5, has⟩ := JE has
 obtain ⟨a6, ars, rfl, g6, k6, has⟩ := JE has
 obtain rfl := Ze5 has
 have o0 := (hok a0 (by simp)).1
 have o1 := (hok a1 (by simp)).1
 have o2 := (hok a2 (by simp)).1
 have o3 := (hok a3 (by simp)).1
 have o4 := (hok a4 (by simp)).1
 have o5 := (hok a5 (by simp)).1
 have o6 := (hok a6 (by simp)).1
 rw [k0] at o0
 rw [k1] at o1
 rw [k2] at o2
 rw [k3] at o3
 rw [k4] at o4
 rw [k5] at o5
 rw [k6] at o6
 simp only [List.map_cons, List.map_nil, Ar.tv_of g0 k0, Ar.tv_of g1 k1, Ar.tv_of g2 k2, Ar.tv_of g3 k3, Ar.tv_of g4 k4, Ar.tv_of g5 k5, Ar.tv_of g6 k6]
 generalize a0.raw = r0 at o0 ⊢
 generalize a1.raw = r1 at o1 ⊢
 generalize a2.raw = r2 at o2 ⊢
 generalize a3.raw = r3 at o3 ⊢
 generalize a4.raw = r4 at o4 ⊢
 generalize a5.raw = r5 at o5 ⊢
 generalize a6.raw = r6 at o6 ⊢
 have h1 := Qf3 o1
 have h2 := Qf3 o2
 have h3 := Qf3 o3
 have h4 := UD o4
 have h5 := UD o5
 exact @Zls _ _ _ (Zhw rfl (Zfy o0 (CD (nth .dead r6 0)) h1 h2 h3 h4 h5) rfl)

theorem controllerNew_holds : Rows.ControllerNewSaid :=
 OpenClaim.holds_of_wide 3 Tryz.f3 rfl rfl rfl rfl rfl rfl rfl ⟨rfl, rfl, rfl, rfl, rfl⟩ rfl rfl rfl rfl rfl (by kernel_rfl) Tryz.func3 (by kernel_rfl)
  (of_decide_eq_true (by kernel_rfl)) (by unfold Func.isWrapper; first | (rw [if_pos (by decide +kernel)]; kernel_rfl) | (rw [if_neg (by decide +kernel)]; exact ⟨rfl, rfl⟩))
  (fun os started H enc _ => law_lifted os started H enc)
end Go.Proofs.YtnnpdlgenmnekaaGreat
