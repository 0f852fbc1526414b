/- The loop-free laws of layer 35 answer true at every input, and leave their arguments as they were; there are no conditions. -/
import Derived.Test.YticldimccdceaaaOvLaws
import Derived.Test.YticldimccdceaaaRows
import Derived.ProofKit
namespace Go.Proofs.Yticldimccdceaaa
open Go Go.Am Go.Proofs Go.ChangeShapes Go.WideShapes Go.ChangeAt Go.RowKit

theorem ars_cons {ars : List Ar} {s : Sh} {shs : List Sh} (h : ars.map Ar.sh = s :: shs) : ∃ a ars', ars = a :: ars' ∧ a.sh = s ∧ ars'.map Ar.sh = shs := by
  cases ars with
  | nil => simp at h
  | cons a ars' =>
    simp only [List.map_cons, List.cons.injEq] at h
    exact ⟨a, ars', rfl, h.1, h.2⟩
theorem ars_nil {ars : List Ar} (h : ars.map Ar.sh = []) : ars = [] := by
  cases ars with
  | nil => rfl
  | cons a ars' => simp at h
theorem sh_flat {a : Ar} {g : Bool} {ks : List Kd} (h : a.sh = .flat g ks) : ∃ gi gb, a = .flat g ks gi gb := by
  cases a with
  | flat g' ks' gi gb =>
    simp only [Ar.sh, Sh.flat.injEq] at h
    obtain ⟨rfl, rfl⟩ := h
    exact ⟨gi, gb, rfl⟩
  | sl => simp [Ar.sh] at h
theorem sh_sl {a : Ar} {ks : List Kd} (h : a.sh = .sl ks) : ∃ n gi gb, a = .sl ks n gi gb := by
  cases a with
  | flat => simp [Ar.sh] at h
  | sl ks' n gi gb =>
    simp only [Ar.sh, Sh.sl.injEq] at h
    subst h
    exact ⟨n, gi, gb, rfl⟩

theorem own : ownKnob Try.prog.godebug = none := by kernel_rfl
theorem laidOut : laidOutB Try.prog = true := by kernel_rfl
abbrev ki : Kd := .int .i64
abbrev sOv : Sh := .flat true [ki, ki, .bool, .bool, .bool]
abbrev sPl : Sh := .flat true [ki, ki, ki]
abbrev sSg : Sh := .flat true [ki, ki, ki, ki, ki, ki, ki]
abbrev sInt : Sh := .flat false [ki]
def v0 : Value := .int .i64 0
def ov0 : Value := .agg #[v0, v0, .bool false, .bool false, .bool false]
def pl0 : Value := .agg #[v0, v0, v0]
def sg0 : Value := .agg #[v0, v0, v0, v0, v0, v0, v0]

theorem spec3 {H : Type} {α : Type} (F : List (DataW H) → α) (G : List (DataW H) → α) (h : ∀ a b c, F [a, b, c] = G [a, b, c]) (l : List (DataW H)) (hl : l.length = 3) : F l = G l := by
  match l, hl with
  | [a, b, c], _ => exact h a b c
theorem spec5 {H : Type} {α : Type} (F : List (DataW H) → α) (G : List (DataW H) → α) (h : ∀ a b c d e, F [a, b, c, d, e] = G [a, b, c, d, e]) (l : List (DataW H)) (hl : l.length = 5) : F l = G l := by
  match l, hl with
  | [a, b, c, d, e], _ => exact h a b c d e

theorem bool4 : Try.prog.underlying 4 = some .bool := by kernel_rfl

theorem args3 {ars : List Ar} (h : ars.map Ar.sh = [sOv, sPl, sSg]) : ∃ g0 b0 g1 b1 g2 b2, ars = [.flat true [ki, ki, .bool, .bool, .bool] g0 b0, .flat true [ki, ki, ki] g1 b1, .flat true [ki, ki, ki, ki, ki, ki, ki] g2 b2] := by
  obtain ⟨a0, ars, rfl, h0, h⟩ := ars_cons h
  obtain ⟨a1, ars, rfl, h1, h⟩ := ars_cons h
  obtain ⟨a2, ars, rfl, h2, h⟩ := ars_cons h
  obtain rfl := ars_nil h
  obtain ⟨g0, b0, rfl⟩ := sh_flat h0
  obtain ⟨g1, b1, rfl⟩ := sh_flat h1
  obtain ⟨g2, b2, rfl⟩ := sh_flat h2
  exact ⟨g0, b0, g1, b1, g2, b2, rfl⟩
theorem args5 {ars : List Ar} (h : ars.map Ar.sh = [sOv, sInt, sInt, sPl, sSg]) : ∃ g0 b0 g1 b1 g2 b2 g3 b3 g4 b4, ars = [.flat true [ki, ki, .bool, .bool, .bool] g0 b0, .flat false [ki] g3 b3, .flat false [ki] g4 b4, .flat true [ki, ki, ki] g1 b1, .flat true [ki, ki, ki, ki, ki, ki, ki] g2 b2] := by
  obtain ⟨a0, ars, rfl, h0, h⟩ := ars_cons h
  obtain ⟨a3, ars, rfl, h3, h⟩ := ars_cons h
  obtain ⟨a4, ars, rfl, h4, h⟩ := ars_cons h
  obtain ⟨a1, ars, rfl, h1, h⟩ := ars_cons h
  obtain ⟨a2, ars, rfl, h2, h⟩ := ars_cons h
  obtain rfl := ars_nil h
  obtain ⟨g0, b0, rfl⟩ := sh_flat h0
  obtain ⟨g1, b1, rfl⟩ := sh_flat h1
  obtain ⟨g2, b2, rfl⟩ := sh_flat h2
  obtain ⟨g3, b3, rfl⟩ := sh_flat h3
  obtain ⟨g4, b4, rfl⟩ := sh_flat h4
  exact ⟨g0, b0, g1, b1, g2, b2, g3, b3, g4, b4, rfl⟩

set_option maxRecDepth 100000 in
theorem target_lifted (os : Os) (started : os.Started) (H : Type) (enc : TypeId × Value → H) :
    ReturnsInHanded {} Try.checked os 3 .any (Rows.overrideTargetSpec.pre6 enc Try.prog Try.f3 Rows.overrideTargetRow.domain false) (Rows.overrideTargetSpec.post enc Try.prog Try.f3 false true false false) := by
  refine returnsInHanded_of_change (C := Try.checked) own started (by kernel_rfl) Try.func3
    (ChangeSpec.witness6 (enc := enc) (C := Try.checked) false ⟨#[], #[ov0, pl0, sg0], []⟩ 8 (by kernel_rfl) (by kernel_rfl) (by kernel_rfl) (by kernel_rfl)) ?_
  intro W base args ds gs before hval hW hcnd _
  refine law_calls (tb := 4) (shs := [sOv, sPl, sSg]) rfl laidOut (by kernel_rfl) bool4 (by kernel_rfl) (by kernel_rfl) (spec3 _ _ fun _ _ _ => rfl) ?_ hval hW
  intro ars has hok
  obtain ⟨g0, b0, g1, b1, g2, b2, rfl⟩ := args3 has
  exact sound3 (law_target (g0 0) (g0 1) (b0 2) (b0 3) (b0 4) (g1 0) (g1 1) (g1 2) (g2 0) (g2 1) (g2 2) (g2 3) (g2 4) (g2 5) (g2 6) 0)

theorem overrideTarget_holds : Rows.OverrideTargetSaid :=
  OpenClaim.holds_of_wide 3 Try.f3 rfl rfl rfl rfl rfl rfl rfl ⟨rfl, rfl, rfl, rfl, rfl⟩ rfl rfl rfl rfl rfl (by kernel_rfl) Try.func3 (by kernel_rfl)
    (of_decide_eq_true (by kernel_rfl)) (by unfold Func.isWrapper; first | (rw [if_pos (by decide +kernel)]; kernel_rfl) | (rw [if_neg (by decide +kernel)]; exact ⟨rfl, rfl⟩))
    (fun os started H enc _ => target_lifted os started H enc)
set_option maxRecDepth 100000 in
theorem hold_lifted (os : Os) (started : os.Started) (H : Type) (enc : TypeId × Value → H) :
    ReturnsInHanded {} Try.checked os 4 .any (Rows.overrideHoldSpec.pre6 enc Try.prog Try.f4 Rows.overrideHoldRow.domain false) (Rows.overrideHoldSpec.post enc Try.prog Try.f4 false true false false) := by
  refine returnsInHanded_of_change (C := Try.checked) own started (by kernel_rfl) Try.func4
    (ChangeSpec.witness6 (enc := enc) (C := Try.checked) false ⟨#[], #[ov0, pl0, sg0], []⟩ 8 (by kernel_rfl) (by kernel_rfl) (by kernel_rfl) (by kernel_rfl)) ?_
  intro W base args ds gs before hval hW hcnd _
  refine law_calls (tb := 4) (shs := [sOv, sPl, sSg]) rfl laidOut (by kernel_rfl) bool4 (by kernel_rfl) (by kernel_rfl) (spec3 _ _ fun _ _ _ => rfl) ?_ hval hW
  intro ars has hok
  obtain ⟨g0, b0, g1, b1, g2, b2, rfl⟩ := args3 has
  exact sound3 (law_hold (g0 0) (g0 1) (b0 2) (b0 3) (b0 4) (g1 0) (g1 1) (g1 2) (g2 0) (g2 1) (g2 2) (g2 3) (g2 4) (g2 5) (g2 6) 0)

theorem overrideHold_holds : Rows.OverrideHoldSaid :=
  OpenClaim.holds_of_wide 4 Try.f4 rfl rfl rfl rfl rfl rfl rfl ⟨rfl, rfl, rfl, rfl, rfl⟩ rfl rfl rfl rfl rfl (by kernel_rfl) Try.func4 (by kernel_rfl)
    (of_decide_eq_true (by kernel_rfl)) (by unfold Func.isWrapper; first | (rw [if_pos (by decide +kernel)]; kernel_rfl) | (rw [if_neg (by decide +kernel)]; exact ⟨rfl, rfl⟩))
    (fun os started H enc _ => hold_lifted os started H enc)
set_option maxRecDepth 100000 in
theorem exact_lifted (os : Os) (started : os.Started) (H : Type) (enc : TypeId × Value → H) :
    ReturnsInHanded {} Try.checked os 6 .any (Rows.overrideExactSpec.pre6 enc Try.prog Try.f6 Rows.overrideExactRow.domain false) (Rows.overrideExactSpec.post enc Try.prog Try.f6 false true false false) := by
  refine returnsInHanded_of_change (C := Try.checked) own started (by kernel_rfl) Try.func6
    (ChangeSpec.witness6 (enc := enc) (C := Try.checked) false ⟨#[], #[ov0, pl0, sg0], []⟩ 8 (by kernel_rfl) (by kernel_rfl) (by kernel_rfl) (by kernel_rfl)) ?_
  intro W base args ds gs before hval hW hcnd _
  refine law_calls (tb := 4) (shs := [sOv, sPl, sSg]) rfl laidOut (by kernel_rfl) bool4 (by kernel_rfl) (by kernel_rfl) (spec3 _ _ fun _ _ _ => rfl) ?_ hval hW
  intro ars has hok
  obtain ⟨g0, b0, g1, b1, g2, b2, rfl⟩ := args3 has
  exact sound3 (law_exact (g0 0) (g0 1) (b0 2) (b0 3) (b0 4) (g1 0) (g1 1) (g1 2) (g2 0) (g2 1) (g2 2) (g2 3) (g2 4) (g2 5) (g2 6) 0)

theorem overrideExact_holds : Rows.OverrideExactSaid :=
  OpenClaim.holds_of_wide 6 Try.f6 rfl rfl rfl rfl rfl rfl rfl ⟨rfl, rfl, rfl, rfl, rfl⟩ rfl rfl rfl rfl rfl (by kernel_rfl) Try.func6 (by kernel_rfl)
    (of_decide_eq_true (by kernel_rfl)) (by unfold Func.isWrapper; first | (rw [if_pos (by decide +kernel)]; kernel_rfl) | (rw [if_neg (by decide +kernel)]; exact ⟨rfl, rfl⟩))
    (fun os started H enc _ => exact_lifted os started H enc)
set_option maxRecDepth 100000 in
theorem order_lifted (os : Os) (started : os.Started) (H : Type) (enc : TypeId × Value → H) :
    ReturnsInHanded {} Try.checked os 5 .any (Rows.overrideOrderSpec.pre6 enc Try.prog Try.f5 Rows.overrideOrderRow.domain false) (Rows.overrideOrderSpec.post enc Try.prog Try.f5 false true false false) := by
  refine returnsInHanded_of_change (C := Try.checked) own started (by kernel_rfl) Try.func5
    (ChangeSpec.witness6 (enc := enc) (C := Try.checked) false ⟨#[], #[ov0, v0, v0, pl0, sg0], []⟩ 8 (by kernel_rfl) (by kernel_rfl) (by kernel_rfl) (by kernel_rfl)) ?_
  intro W base args ds gs before hval hW hcnd _
  refine law_calls (tb := 4) (shs := [sOv, sInt, sInt, sPl, sSg]) rfl laidOut (by kernel_rfl) bool4 (by kernel_rfl) (by kernel_rfl) (spec5 _ _ fun _ _ _ _ _ => rfl) ?_ hval hW
  intro ars has hok
  obtain ⟨g0, b0, g1, b1, g2, b2, g3, b3, g4, b4, rfl⟩ := args5 has
  exact sound3 (law_order (g0 0) (g0 1) (b0 2) (b0 3) (b0 4) (g3 0) (g4 0) (g1 0) (g1 1) (g1 2) (g2 0) (g2 1) (g2 2) (g2 3) (g2 4) (g2 5) (g2 6) 0)

theorem overrideOrder_holds : Rows.OverrideOrderSaid :=
  OpenClaim.holds_of_wide 5 Try.f5 rfl rfl rfl rfl rfl rfl rfl ⟨rfl, rfl, rfl, rfl, rfl⟩ rfl rfl rfl rfl rfl (by kernel_rfl) Try.func5 (by kernel_rfl)
    (of_decide_eq_true (by kernel_rfl)) (by unfold Func.isWrapper; first | (rw [if_pos (by decide +kernel)]; kernel_rfl) | (rw [if_neg (by decide +kernel)]; exact ⟨rfl, rfl⟩))
    (fun os started H enc _ => order_lifted os started H enc)
end Go.Proofs.Yticldimccdceaaa
