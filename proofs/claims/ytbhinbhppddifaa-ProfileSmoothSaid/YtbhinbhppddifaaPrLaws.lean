/- The laws of layer 32 without a loop of their own: valid plans, braking, the greatest braking, and that a stop can go on. -/
import Derived.Test.YtbhinbhppddifaaPrSame
namespace Go.Am
open Go.Proofs

theorem law_valid (j k r : Int) (L : Nat) : funK Try.prog K5 L 3 [Pl j k r] = some (.v false [.bool true]) := by
  refine Eq.trans (b := some (TV.v false [AC.bool (planM j k r == planM j k r)])) (by kernel_rfl) ?_
  simp
theorem law_brake (j k r v a : Int) (L : Nat) : funK Try.prog K5 L 5 [Pl j k r, .v false [i64 v], .v false [i64 a]] = some (.v false [.bool true]) := by
  refine Eq.trans (b := bif !planM j k r then some (TV.v false [AC.bool true])
    else
      bif planM j k r then
        bif !readyM j k v a then some (TV.v false [AC.bool true])
        else
          bif brakeG j k r v a then
            bif brakeG j k r v a then some (TV.v false [AC.bool (brakeZ j k v a == brakeZ j k v a)]) else none
          else none
      else none) (by kernel_rfl) ?_
  cases hp : planM j k r
  · rfl
  cases hr : readyM j k v a
  · rfl
  rw [ready_brakeG hp hr]
  simp
theorem law_closed (j k r v a : Int) (L : Nat) : funK Try.prog K5 L 7 [Pl j k r, .v false [i64 v], .v false [i64 a]] = some (.v false [.bool true]) := by
  refine Eq.trans (b := bif !planM j k r then some (TV.v false [AC.bool true])
    else
      bif planM j k r then
        bif !readyM j k v a then some (TV.v false [AC.bool true])
        else
          bif brakeG j k r v a then
            bif planM j k r then
              bif !readyM j k (IntKind.i64.wrap (v + brakeZ j k v a)) (brakeZ j k v a) then
                some (TV.v false [AC.bool false])
              else
                bif decide (IntKind.i64.wrap (brakeZ j k v a - a) > k) then some (TV.v false [AC.bool false])
                else
                  bif decide (IntKind.i64.wrap (a - brakeZ j k v a) > k) then some (TV.v false [AC.bool false])
                  else
                    bif decide (a > 0) then some (TV.v false [AC.bool true])
                    else
                      bif v == 0 then
                        bif brakeZ j k v a == 0 then some (TV.v false [AC.bool true])
                        else some (TV.v false [AC.bool (decide (brakeZ j k v a < 0))])
                      else some (TV.v false [AC.bool (decide (brakeZ j k v a < 0))])
            else none
          else none
      else none) (by kernel_rfl) ?_
  cases hp : planM j k r
  · rfl
  cases hr : readyM j k v a
  · rfl
  obtain ⟨c1, c2, c3, c4⟩ := closed hp hr
  have g := ready_range hp hr
  have g' := ready_range hp c1
  rw [ready_brakeG hp hr]
  generalize brakeZ j k v a = b at *
  rw [wrap_id (x := v + b) (by omega), wrap_id (x := b - a) (by omega), wrap_id (x := a - b) (by omega), c1, decide_eq_false (show ¬ b - a > k by omega), decide_eq_false (show ¬ a - b > k by omega)]
  simp only [Bool.not_true, cond_true, cond_false]
  by_cases ha : a > 0
  · rw [decide_eq_true ha]; rfl
  · rw [decide_eq_false ha]
    simp only [cond_false]
    rcases c4 with c4 | ⟨c4, c5⟩ | c4
    · exact absurd c4 ha
    · subst c4; subst c5; rfl
    · rw [decide_eq_true c4]
      cases v == 0 <;> cases b == 0 <;> rfl
theorem law_greatest (j k r v a : Int) (L : Nat) : funK Try.prog K5 L 6 [Pl j k r, .v false [i64 v], .v false [i64 a]] = some (.v false [.bool true]) := by
  refine Eq.trans (b := bif !planM j k r then some (TV.v false [AC.bool true])
    else
      bif planM j k r then
        bif !readyM j k v a then some (TV.v false [AC.bool true])
        else
          bif brakeG j k r v a then
            bif decide (IntKind.i64.wrap (0 - brakeZ j k v a) ≤ j) then
              bif decide (IntKind.i64.wrap (0 - brakeZ j k v a) ≤ IntKind.i64.wrap (IntKind.i64.wrap (0 - a) + k)) then
                bif decide (IntKind.i64.wrap (0 - brakeZ j k v a) ≥ IntKind.i64.wrap (IntKind.i64.wrap (0 - a) - k)) then
                  bif lossG k (IntKind.i64.wrap (0 - brakeZ j k v a)) then
                    bif decide (IntKind.i64.wrap (v - IntKind.i64.wrap (0 - brakeZ j k v a)) ≥ lossZ k (IntKind.i64.wrap (0 - brakeZ j k v a))) then
                      bif decide (IntKind.i64.wrap (IntKind.i64.wrap (0 - brakeZ j k v a) + 1) > j) then some (TV.v false [AC.bool true])
                      else
                        bif decide (IntKind.i64.wrap (IntKind.i64.wrap (0 - brakeZ j k v a) + 1) > IntKind.i64.wrap (IntKind.i64.wrap (0 - a) + k)) then some (TV.v false [AC.bool true])
                        else
                          bif lossG k (IntKind.i64.wrap (IntKind.i64.wrap (0 - brakeZ j k v a) + 1)) then
                            some (TV.v false [AC.bool (decide (IntKind.i64.wrap (v - IntKind.i64.wrap (IntKind.i64.wrap (0 - brakeZ j k v a) + 1)) < lossZ k (IntKind.i64.wrap (IntKind.i64.wrap (0 - brakeZ j k v a) + 1))))])
                          else none
                    else some (TV.v false [AC.bool false])
                  else none
                else some (TV.v false [AC.bool false])
              else some (TV.v false [AC.bool false])
            else some (TV.v false [AC.bool false])
          else none
      else none) (by kernel_rfl) ?_
  cases hp : planM j k r
  · rfl
  cases hr : readyM j k v a
  · rfl
  obtain ⟨B, hB⟩ : ∃ B, B = bs k v 20 (-a - k) (min (k - a) j) := ⟨_, rfl⟩
  have hb : brakeZ j k v a = -B := by unfold brakeZ; rw [hB]
  obtain ⟨q1, q2, q3, q4, q5, q6⟩ := brake_spec hp hr hB
  have g := ready_range hp hr
  rw [ready_brakeG hp hr, hb]
  rw [plan_iff] at hp
  have e0 : 0 - -B = B := by omega
  have e1 : 0 - a + k = k - a := by omega
  have e2 : 0 - a - k = -a - k := by omega
  rw [e0, wrap_id (x := 0 - a) (by omega), e1, e2, wrap_id (x := k - a) (by omega), wrap_id (x := -a - k) (by omega), wrap_id (x := B) (by omega), wrap_id (x := v - B) (by omega), wrap_id (x := B + 1) (by omega), wrap_id (x := v - (B + 1)) (by omega)]
  have l1 : lossG k B = true := by rw [lossG_iff]; omega
  have l2 : lossG k (B + 1) = true := by rw [lossG_iff]; omega
  rw [l1, l2, decide_eq_true q4, decide_eq_true q3, decide_eq_true (show B ≥ -a - k from q2), decide_eq_true (show v - B ≥ lossZ k B from q1)]
  simp only [Bool.not_true, cond_true, cond_false]
  by_cases h1 : B + 1 > j
  · rw [decide_eq_true h1]; rfl
  by_cases h2 : B + 1 > k - a
  · rw [decide_eq_false h1, decide_eq_true h2]; rfl
  have h3 : v - (B + 1) < lossZ k (B + 1) := by
    rcases q5 with q5 | q5
    · omega
    · exact q5
  rw [decide_eq_false h1, decide_eq_false h2, decide_eq_true h3]; rfl
end Go.Am
