/- Layer 32: what braking keeps, in plain arithmetic. -/
import Derived.Test.YtbhinbhppddifaaPrBrake
namespace Go.Am

theorem ready_iff {j k v a : Int} : readyM j k v a = true ↔ (-j ≤ a ∧ a ≤ j ∧ lossZ k (-a) ≤ v ∧ v ≤ 16777216 - lossZ k a ∧ (v = 0 → a ≤ k)) := by
  simp only [readyM, Bool.and_eq_true, decide_eq_true_eq, Bool.not_eq_true', Bool.and_eq_false_iff, beq_eq_false_iff_ne, decide_eq_false_iff_not, and_assoc]
  constructor
  · rintro ⟨h1, h2, h3, h4, h5⟩
    exact ⟨h1, h2, h3, h4, fun hv => by rcases h5 with h5 | h5; exact absurd hv h5; omega⟩
  · rintro ⟨h1, h2, h3, h4, h5⟩
    refine ⟨h1, h2, h3, h4, ?_⟩
    by_cases hv : v = 0
    · right; have := h5 hv; omega
    · left; exact hv

/-- what the search finds -/
theorem brake_spec {j k r v a : Int} (hp : planM j k r = true) (hr : readyM j k v a = true) {B : Int} (hB : B = bs k v 20 (-a - k) (min (k - a) j)) :
    lossZ k B ≤ v - B ∧ -a - k ≤ B ∧ B ≤ k - a ∧ B ≤ j ∧ (B = min (k - a) j ∨ v - (B + 1) < lossZ k (B + 1)) ∧ 0 ≤ v := by
  rw [plan_iff] at hp
  rw [ready_iff] at hr
  obtain ⟨h1, h2, h3, h4, h5⟩ := hr
  have hk : 0 < k := by omega
  have l0 := loss_pos (b := -a) hk
  have hlow : lossZ k (-a - k) ≤ v - (-a - k) := by
    by_cases hc : k < -a
    · rw [loss_step hk hc] at h3; omega
    · rw [loss_nonpos (by omega)]; omega
  obtain ⟨q1, q2, q3, q4⟩ := bs_spec k v 20 (-a - k) (min (k - a) j) (by omega) (by simp; omega) hlow
  rw [← hB] at q1 q2 q3 q4
  exact ⟨q1, q2, by omega, by omega, q4, by omega⟩

theorem closed {j k r v a : Int} (hp : planM j k r = true) (hr : readyM j k v a = true) :
    readyM j k (v + brakeZ j k v a) (brakeZ j k v a) = true ∧ brakeZ j k v a - a ≤ k ∧ a - brakeZ j k v a ≤ k ∧ (0 < a ∨ (v = 0 ∧ brakeZ j k v a = 0) ∨ brakeZ j k v a < 0) := by
  obtain ⟨B, hB⟩ : ∃ B, B = bs k v 20 (-a - k) (min (k - a) j) := ⟨_, rfl⟩
  have hb : brakeZ j k v a = -B := by unfold brakeZ; rw [hB]
  obtain ⟨q1, q2, q3, q4, q5, q6⟩ := brake_spec hp hr hB
  rw [hb]
  rw [plan_iff] at hp
  rw [ready_iff] at hr ⊢
  obtain ⟨h1, h2, h3, h4, h5⟩ := hr
  have hk : 0 < k := by omega
  have top : B + 1 ≤ 0 → B = min (k - a) j := by
    intro h
    rcases q5 with q5 | q5
    · exact q5
    · rw [loss_nonpos h] at q5; omega
  have hB0 : -a ≤ B ∨ 0 ≤ B := by
    by_cases hn : B + 1 ≤ 0
    · have := top hn; omega
    · right; omega
  have hneg : a ≤ 0 → 0 ≤ B := fun ha => by
    by_cases hn : B + 1 ≤ 0
    · have := top hn; omega
    · omega
  have la := loss_pos (b := a) hk
  have hjB : -j ≤ B := by
    by_cases hn : B + 1 ≤ 0
    · have := top hn; omega
    · omega
  have e1 : -(-B) = B := by omega
  refine ⟨⟨by omega, by omega, by rw [e1]; omega, ?_, ?_⟩, by omega, by omega, ?_⟩
  · by_cases hn : 0 ≤ B
    · rw [loss_nonpos (b := -B) (by omega)]; omega
    · have ht := top (by omega)
      have hka : B = k - a := by omega
      have e2 : -B = a - k := by omega
      have hs := loss_step (k := k) (b := a) hk (by omega)
      rw [e2]
      omega
  · intro hv
    omega
  · by_cases ha : 0 < a
    · exact .inl ha
    · right
      have hB1 := hneg (by omega)
      by_cases hv : v = 0
      · left
        have := loss_pos (b := B) hk
        exact ⟨hv, by omega⟩
      · right
        by_cases hz : B = 0
        · rcases q5 with q5 | q5
          · omega
          · rw [hz, loss_small (k := k) (b := 0 + 1) (by omega)] at q5; omega
        · omega
end Go.Am
