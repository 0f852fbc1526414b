/- The panel after any sequence of events is the document's: OverrideApply answers true at every input, and leaves its arguments as they were; there are no conditions. -/
import Derived.Test.YticldimccdceaaaOvProofs
import Derived.Test.YticldimccdceaaaOvApply
namespace Go.Proofs.Yticldimccdceaaa
open Go Go.Am Go.Proofs Go.ChangeShapes Go.WideShapes Go.ChangeAt Go.RowKit

theorem spec2 {H : Type} {α : Type} (F : List (DataW H) → α) (G : List (DataW H) → α) (h : ∀ a b, F [a, b] = G [a, b]) (l : List (DataW H)) (hl : l.length = 2) : F l = G l := by
  match l, hl with
  | [a, b], _ => exact h a b

set_option maxRecDepth 100000 in
theorem apply_lifted (os : Os) (started : os.Started) (H : Type) (enc : TypeId × Value → H) :
    ReturnsInHanded {} Try.checked os 7 .any (Rows.overrideApplySpec.pre6 enc Try.prog Try.f7 Rows.overrideApplyRow.domain false) (Rows.overrideApplySpec.post enc Try.prog Try.f7 false true false false) := by
  refine returnsInHanded_of_change (C := Try.checked) own started (by kernel_rfl) Try.func7
    (ChangeSpec.witness6 (enc := enc) (C := Try.checked) false ⟨#[], #[ov0, .slice none 0 0], []⟩ 8 (by kernel_rfl) (by kernel_rfl) (by kernel_rfl) (by kernel_rfl)) ?_
  intro W base args ds gs before hval hW hcnd _
  refine law_calls (tb := 4) (shs := [sOv, .sl [ki, ki, ki]]) rfl laidOut (by kernel_rfl) bool4 (by kernel_rfl) (by kernel_rfl) (spec2 _ _ fun _ _ => rfl) ?_ hval hW
  intro ars has hok
  obtain ⟨a0, ars, rfl, h0, has⟩ := ars_cons has
  obtain ⟨a1, ars, rfl, h1, has⟩ := ars_cons has
  obtain rfl := ars_nil has
  obtain ⟨g0, b0, rfl⟩ := sh_flat h0
  obtain ⟨n, gi, gb, rfl⟩ := sh_sl h1
  exact sound7 (law_apply n gi (g0 0) (g0 1) (b0 2) (b0 3) (b0 4) 0)

theorem overrideApply_holds : Rows.OverrideApplySaid :=
  OpenClaim.holds_of_wide 7 Try.f7 rfl rfl rfl rfl rfl rfl rfl ⟨rfl, rfl, rfl, rfl, rfl⟩ rfl rfl rfl rfl rfl (by kernel_rfl) Try.func7 (by kernel_rfl)
    (of_decide_eq_true (by kernel_rfl)) (by unfold Func.isWrapper; first | (rw [if_pos (by decide +kernel)]; kernel_rfl) | (rw [if_neg (by decide +kernel)]; exact ⟨rfl, rfl⟩))
    (fun os started H enc _ => apply_lifted os started H enc)
end Go.Proofs.Yticldimccdceaaa
