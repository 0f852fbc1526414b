/- The rest of a stop is the stop of its next speed and acceleration. -/
import Derived.Test.YtbhinbhppddifaaPrLaws
namespace Go.Am
open Go.Proofs

theorem stopP_more (j k : Int) : ∀ (n : Nat) (v a : Int), (stopP j k n v a).2 = true → stopP j k (n + 1) v a = stopP j k n v a
  | 0, v, a, h => by
    simp only [stopP] at h
    have hv : v ≤ 0 := by simpa using h
    simp [stopP, hv]
  | n + 1, v, a, h => by
    have ih := stopP_more j k n (v + brakeZ j k v a) (brakeZ j k v a)
    unfold stopP at h
    conv => lhs; unfold stopP
    conv => rhs; unfold stopP
    by_cases hv : v ≤ 0
    · simp [hv]
    · rw [if_neg hv] at h ⊢
      rw [if_neg hv, ih h]
theorem stopP_len (j k : Int) : ∀ (n : Nat) (v a : Int), (stopP j k n v a).1.length ≤ n
  | 0, v, a => by simp [stopP]
  | n + 1, v, a => by
    unfold stopP
    split
    · simp
    · simp only [List.length_cons]
      have := stopP_len j k n (v + brakeZ j k v a) (brakeZ j k v a)
      omega
theorem stopP_last {j k r : Int} (hp : planM j k r = true) : ∀ (n : Nat) (v a : Int), readyM j k v a = true → (stopP j k n v a).2 = true → (stopP j k n v a).1 ≠ [] → nth 0 (stopP j k n v a).1 ((stopP j k n v a).1.length - 1) = 0
  | 0, v, a, hr, h, hne => by simp [stopP] at hne
  | n + 1, v, a, hr, h, hne => by
    have hc := closed hp hr
    have ih := stopP_last hp n (v + brakeZ j k v a) (brakeZ j k v a) hc.1
    have hg := ready_range hp hc.1
    unfold stopP at h hne ⊢
    by_cases hv : v ≤ 0
    · simp [hv] at hne
    · rw [if_neg hv] at h hne ⊢
      dsimp only at h hne ⊢
      cases n with
      | zero =>
        simp only [stopP] at h ⊢
        have : v + brakeZ j k v a ≤ 0 := by simpa using h
        show v + brakeZ j k v a = 0
        omega
      | succ n =>
        by_cases hl : (stopP j k (n + 1) (v + brakeZ j k v a) (brakeZ j k v a)).1 = []
        · rw [hl]
          show v + brakeZ j k v a = 0
          unfold stopP at hl
          by_cases hv2 : v + brakeZ j k v a ≤ 0
          · omega
          · rw [if_neg hv2] at hl; simp at hl
        · have := ih h hl
          have hlen : (stopP j k (n + 1) (v + brakeZ j k v a) (brakeZ j k v a)).1.length ≠ 0 := by simpa using hl
          have e : ((v + brakeZ j k v a) :: (stopP j k (n + 1) (v + brakeZ j k v a) (brakeZ j k v a)).1).length - 1 = ((stopP j k (n + 1) (v + brakeZ j k v a) (brakeZ j k v a)).1.length - 1) + 1 := by
            simp only [List.length_cons]; omega
          rw [e]
          exact this
theorem allInt_iv (a : Nat → Int) : ∀ n : Nat, allInt (fun i => [i64 (a i)]) n = true
  | 0 => rfl
  | n + 1 => by simp only [allInt]; rw [allInt_iv a n]; rfl

theorem law_rest (j k r v a : Int) (L : Nat) : funK Try.prog K5 L 8 [Pl j k r, .v false [i64 v], .v false [i64 a]] = some (.v false [.bool true]) := by
  refine Eq.trans (b := bif !shortM j k r v a then some (TV.v false [AC.bool true])
    else
      bif planM j k r then
        bif !(stopZ j k v a).2 then some (TV.v false [AC.bool (((stopZ j k v a).1.length : Int) == 0)])
        else
          bif ((stopZ j k v a).1.length : Int) == 0 then some (TV.v false [AC.bool (((stopZ j k v a).1.length : Int) == 0)])
          else
            bif decide ((0 : Int) ≤ 0) && decide ((0 : Int) < ((stopZ j k v a).1.length : Int)) then
              bif decide ((0 : Int) ≤ 0) && decide ((0 : Int) < ((stopZ j k v a).1.length : Int)) then
                bif planM j k r then
                  bif (stopZ j k (nth 0 (stopZ j k v a).1 0) (IntKind.i64.wrap (nth 0 (stopZ j k v a).1 0 - v))).2 then
                    bif decide ((0 : Int) ≤ 1) && decide ((1 : Int) ≤ ((stopZ j k v a).1.length : Int)) && decide (((stopZ j k v a).1.length : Int) ≤ ((stopZ j k v a).1.length : Int)) then
                      bif Nat.ble (((stopZ j k v a).1.length : Int) - 1).toNat 1073741824 && allInt (fun i => [i64 (nth 0 (stopZ j k v a).1 (1 + i))]) (((stopZ j k v a).1.length : Int) - 1).toNat && allInt (fun i => [i64 (nth 0 (stopZ j k (nth 0 (stopZ j k v a).1 0) (IntKind.i64.wrap (nth 0 (stopZ j k v a).1 0 - v))).1 i)]) (stopZ j k (nth 0 (stopZ j k v a).1 0) (IntKind.i64.wrap (nth 0 (stopZ j k v a).1 0 - v))).1.length then
                        bif sameM (((stopZ j k v a).1.length : Int) - 1).toNat (fun i => [i64 (nth 0 (stopZ j k v a).1 (1 + i))]) (stopZ j k (nth 0 (stopZ j k v a).1 0) (IntKind.i64.wrap (nth 0 (stopZ j k v a).1 0 - v))).1.length (fun i => [i64 (nth 0 (stopZ j k (nth 0 (stopZ j k v a).1 0) (IntKind.i64.wrap (nth 0 (stopZ j k v a).1 0 - v))).1 i)]) then
                          bif decide (0 ≤ IntKind.i64.wrap (((stopZ j k v a).1.length : Int) - 1)) && decide (IntKind.i64.wrap (((stopZ j k v a).1.length : Int) - 1) < ((stopZ j k v a).1.length : Int)) then
                            some (TV.v false [AC.bool (nth 0 (stopZ j k v a).1 (IntKind.i64.wrap (((stopZ j k v a).1.length : Int) - 1)).toNat == 0)])
                          else none
                        else some (TV.v false [AC.bool false])
                      else none
                    else none
                  else some (TV.v false [AC.bool false])
                else none
              else none
            else none
      else none) (by kernel_rfl) ?_
  cases hs : shortM j k r v a
  · rfl
  have hpr : planM j k r = true ∧ readyM j k v a = true := by
    simp only [shortM, Bool.and_eq_true] at hs
    exact ⟨hs.1.1.1.1, hs.1.1.1.2⟩
  obtain ⟨hp, hr⟩ := hpr
  rw [hp]
  cases hq : (stopP j k 4096 v a).2
  · have hz : stopZ j k v a = ([], false) := by
      unfold stopZ; rw [if_pos hr, if_neg (by rw [hq]; simp)]
    rw [hz]; rfl
  have hz : stopZ j k v a = stopP j k 4096 v a := by
    unfold stopZ; rw [if_pos hr, if_pos hq]
  by_cases hv : v ≤ 0
  · have h0 : stopP j k 4096 v a = ([], true) := by
      unfold stopP; rw [if_pos hv]
    rw [hz, h0]; rfl
  have hc := closed hp hr
  have hlast := stopP_last hp 4096 v a hr hq
  have hlen := stopP_len j k 4096 v a
  have g := ready_range hp hr
  have g' := ready_range hp hc.1
  have h0 : stopP j k 4096 v a = ((v + brakeZ j k v a) :: (stopP j k 4095 (v + brakeZ j k v a) (brakeZ j k v a)).1, (stopP j k 4095 (v + brakeZ j k v a) (brakeZ j k v a)).2) := by
    conv => lhs; unfold stopP
    rw [if_neg hv]
  have hok : (stopP j k 4095 (v + brakeZ j k v a) (brakeZ j k v a)).2 = true := by
    rw [h0] at hq; exact hq
  have hz2 : stopZ j k (v + brakeZ j k v a) (brakeZ j k v a) = ((stopP j k 4095 (v + brakeZ j k v a) (brakeZ j k v a)).1, true) := by
    unfold stopZ
    rw [if_pos hc.1, stopP_more j k 4095 _ _ hok, if_pos hok]
    exact Prod.ext rfl hok
  have hw : IntKind.i64.wrap (v + brakeZ j k v a - v) = brakeZ j k v a := by
    rw [wrap_id (by omega)]; omega
  rw [hz, h0]
  rw [h0] at hlast hlen
  have hlast := hlast (by simp)
  generalize (stopP j k 4095 (v + brakeZ j k v a) (brakeZ j k v a)).1 = rest at *
  rw [hok]
  have e0 : nth 0 ((v + brakeZ j k v a) :: rest, true).1 0 = v + brakeZ j k v a := rfl
  rw [e0, hw, hz2]
  dsimp only at hlast hlen ⊢
  have el : (((v + brakeZ j k v a) :: rest).length : Int) - 1 = (rest.length : Int) := by simp
  have hl1 : (((v + brakeZ j k v a) :: rest).length : Int) = (rest.length : Int) + 1 := by simp
  have hrl : rest.length ≤ 4095 := by simpa using hlen
  have w1 : IntKind.i64.wrap (rest.length : Int) = (rest.length : Int) := wrap_id (by omega)
  have es : sameM rest.length (fun i => [i64 (nth 0 ((v + brakeZ j k v a) :: rest) (1 + i))]) rest.length (fun i => [i64 (nth 0 rest i)]) = true := by
    unfold sameM
    simp only [BEq.rfl, Bool.true_and]
    rw [eqUp_iff]
    intro i hi
    have : 1 + i = i + 1 := by omega
    rw [this]; rfl
  have eb : Nat.ble rest.length 1073741824 = true := Nat.ble_eq_true_of_le (by omega)
  rw [el, w1, Int.toNat_natCast, es, eb, allInt_iv, allInt_iv, hl1]
  have d1 : decide ((0 : Int) < (rest.length : Int) + 1) = true := decide_eq_true (by omega)
  have d2 : decide ((1 : Int) ≤ (rest.length : Int) + 1) = true := decide_eq_true (by omega)
  have d3 : decide ((rest.length : Int) < (rest.length : Int) + 1) = true := decide_eq_true (by omega)
  have d4 : decide ((0 : Int) ≤ (rest.length : Int)) = true := decide_eq_true (by omega)
  have d5 : decide ((rest.length : Int) + 1 ≤ (rest.length : Int) + 1) = true := decide_eq_true (by omega)
  have d6 : ((rest.length : Int) + 1 == 0) = false := by
    rw [beq_eq_false_iff_ne]; omega
  have el2 : ((v + brakeZ j k v a) :: rest).length - 1 = rest.length := by simp
  rw [el2] at hlast
  rw [d1, d2, d3, d4, d5, d6, hlast]
  rfl
end Go.Am
