/- The loop-free laws of layer 35, over the models. -/
import Derived.Test.YticldimccdceaaaOvSpec
namespace Go.Am
open Go.Proofs

theorem wrap_id {x : Int} (h : -9223372036854775808 ≤ x ∧ x ≤ 9223372036854775807) : IntKind.i64.wrap x = x := by
  simp [IntKind.wrap, IntKind.signed, IntKind.bits]
  omega

theorem panM_range {m a : Int} (hm : 0 < m ∧ m < 1000) : 0 ≤ panM m a ∧ panM m a < m := by
  unfold panM
  have h1 : -m < a.tmod m ∧ a.tmod m < m := by
    have := Int.tmod_lt_of_pos a hm.1
    have h2 : -m < a.tmod m := by
      have h3 := Int.tmod_lt_of_pos (-a) hm.1
      rw [Int.neg_tmod] at h3
      omega
    omega
  rw [wrap_id (by omega)]
  constructor
  · exact Int.tmod_nonneg _ (by omega)
  · exact Int.tmod_lt_of_pos _ hm.1

theorem scaled_eq {v p : Int} (hv : 0 ≤ v ∧ v ≤ 16777216) (hp : 0 ≤ p ∧ p ≤ 200) : scaledM v p = if p = 0 then 0 else max (v * p / 100) 1 := by
  unfold scaledM
  have h0 : 0 ≤ v * p := Int.mul_nonneg hv.1 hp.1
  have h1 : v * p ≤ 16777216 * 200 := Int.mul_le_mul hv.2 hp.2 hp.1 (by omega)
  rw [wrap_id (x := v * p) (by omega), Int.tdiv_eq_ediv_of_nonneg h0, wrap_id (by omega)]
  by_cases h : p = 0
  · simp [h]
  · simp only [beq_iff_eq, h, Bool.cond_eq_ite, if_false, mx]
    split <;> omega

theorem scaled_mono {v p p' : Int} (hv : 0 ≤ v ∧ v ≤ 16777216) (hp : 0 ≤ p ∧ p ≤ 200) (hp' : 0 ≤ p' ∧ p' ≤ 200) (h : p ≤ p') : scaledM v p ≤ scaledM v p' := by
  rw [scaled_eq hv hp, scaled_eq hv hp']
  have := Int.mul_le_mul_of_nonneg_left h hv.1
  split <;> split <;> omega

theorem scaled_pos {v p : Int} (hv : 0 ≤ v ∧ v ≤ 16777216) (hp : 0 < p ∧ p ≤ 200) : 1 ≤ scaledM v p := by
  rw [scaled_eq hv (by omega)]
  split <;> omega

theorem scaled_full {v : Int} (hv : 1 ≤ v ∧ v ≤ 16777216) : scaledM v 100 = v := by
  rw [scaled_eq (by omega) (by omega)]
  simp
  omega

theorem asked_iff {j k r f : Int} : askedM j k r f = true ↔ (1 ≤ j ∧ j ≤ 65536 ∧ 2 ≤ k ∧ k ≤ 65536 ∧ 1 ≤ r ∧ r ≤ 16777216 ∧ 0 ≤ f ∧ f ≤ 16777216) := by
  simp [askedM, planM, and_assoc]

theorem law_target (a b : Int) (c d e : Bool) (j k r x y z l i f q : Int) (L : Nat) : funK Try.prog K3 L 3 [Ov a b c d e, Pl j k r, Sg x y z l i f q] = some (.v false [.bool true]) := by
  refine Eq.trans (b := bif !askedM j k r f then some (TV.v false [AC.bool true])
    else
  bif targetM (panM 201 a) (panM 101 b) c r f q == targetM (panM 201 a) (panM 101 b) c r f q then
    some
      (TV.v false
        [AC.bool (targetM (panM 201 a) (panM 101 b) false r f q == targetM (panM 201 a) (panM 101 b) false r f q)])
  else some (TV.v false [AC.bool false])) (by kernel_rfl) ?_
  simp

theorem law_hold (a b : Int) (c d e : Bool) (j k r x y z l i f q : Int) (L : Nat) : funK Try.prog K3 L 4 [Ov a b c d e, Pl j k r, Sg x y z l i f q] = some (.v false [.bool true]) := by
  have e1 : ∀ A : Int, apA (apA A 3 0) 4 0 = A := fun _ => rfl
  have e2 : ∀ A : Int, apB (apB A 3 0) 4 0 = A := fun _ => rfl
  have e3 : apC (apC false 3) 4 = false := rfl
  have e4 : ∀ d, apD (apD d 3 0) 4 0 = d := fun _ => rfl
  have e5 : ∀ d, apE (apE d 3 0) 4 0 = d := fun _ => rfl
  refine Eq.trans (b := bif !askedM j k r f then some (TV.v false [AC.bool true])
    else
  bif
      apA (apA (panM 201 a) 3 0) 4 0 == panM 201 a &&
        (apB (apB (panM 101 b) 3 0) 4 0 == panM 101 b &&
          (apC (apC false 3) 4 == false && (apD (apD d 3 0) 4 0 == d && (apE (apE e 3 0) 4 0 == e && true)))) then
    some
      (TV.v false
        [AC.bool
            (targetM (apA (apA (panM 201 a) 3 0) 4 0) (apB (apB (panM 101 b) 3 0) 4 0) (apC (apC false 3) 4) r f q ==
              targetM (panM 201 a) (panM 101 b) false r f q)])
  else some (TV.v false [AC.bool false])) (by kernel_rfl) ?_
  rw [e1, e2, e3, e4, e5]
  simp

theorem target_mono {A B M N r f q : Int} (hA : 0 ≤ A ∧ A < 201) (hB : 0 ≤ B ∧ B < 101) (hM : 0 ≤ M ∧ M < 201) (hN : 0 ≤ N ∧ N < 101) (h1 : A ≤ M) (h2 : B ≤ N) (hr : 1 ≤ r ∧ r ≤ 16777216) (hf : 0 ≤ f ∧ f ≤ 16777216) :
    targetM A B false r f q ≤ targetM M N false r f q := by
  have k1 := scaled_mono (v := r) (p := B) (p' := N) (by omega) (by omega) (by omega) h2
  have k2 := scaled_mono (v := f) (p := A) (p' := M) (by omega) (by omega) (by omega) h1
  unfold targetM mn
  cases q != 0 <;> cases f == 0 <;> simp only [cond_true, cond_false] <;> (try split) <;> (try split) <;> omega

theorem target_le {M N r f q : Int} : targetM M N false r f q ≤ 16777216 := by
  unfold targetM mn
  cases q != 0 <;> cases f == 0 <;> simp only [cond_true, cond_false] <;> (try split) <;> omega

theorem target_pos {A B r f q : Int} (hA : 0 < A ∧ A < 201) (hB : 0 < B ∧ B < 101) (hr : 1 ≤ r ∧ r ≤ 16777216) (hf : 0 ≤ f ∧ f ≤ 16777216) : targetM A B false r f q ≥ 1 := by
  have k1 := scaled_pos (v := r) (p := B) (by omega) (by omega)
  have k2 := scaled_pos (v := f) (p := A) (by omega) (by omega)
  unfold targetM mn mx
  cases q != 0 <;> cases f == 0 <;> simp only [cond_true, cond_false] <;> (try split) <;> (try split) <;> omega

theorem law_order (a b : Int) (c d e : Bool) (m n j k r x y z l i f q : Int) (L : Nat) : funK Try.prog K3 L 5 [Ov a b c d e, .v false [i64 m], .v false [i64 n], Pl j k r, Sg x y z l i f q] = some (.v false [.bool true]) := by
  refine Eq.trans (b := bif !askedM j k r f then some (TV.v false [AC.bool true])
    else
  bif decide (panM 201 m < panM 201 a) then some (TV.v false [AC.bool true])
  else
    bif decide (panM 101 n < panM 101 b) then some (TV.v false [AC.bool true])
    else
      bif decide (targetM (panM 201 a) (panM 101 b) false r f q ≤ targetM (panM 201 m) (panM 101 n) false r f q) then
        bif decide (targetM (panM 201 m) (panM 101 n) false r f q ≤ 16777216) then
          bif panM 201 a == 0 then some (TV.v false [AC.bool true])
          else
            bif panM 101 b == 0 then some (TV.v false [AC.bool true])
            else some (TV.v false [AC.bool (decide (targetM (panM 201 a) (panM 101 b) false r f q ≥ 1))])
        else none
      else none) (by kernel_rfl) ?_
  have hA := panM_range (m := 201) (a := a) (by omega)
  have hB := panM_range (m := 101) (a := b) (by omega)
  have hM := panM_range (m := 201) (a := m) (by omega)
  have hN := panM_range (m := 101) (a := n) (by omega)
  cases ha : askedM j k r f
  · rfl
  rw [asked_iff] at ha
  by_cases h1 : panM 201 m < panM 201 a
  · simp [h1]
  by_cases h2 : panM 101 n < panM 101 b
  · simp [h2]
  have g1 := target_mono (q := q) hA hB hM hN (by omega) (by omega) (r := r) (f := f) (by omega) (by omega)
  have g2 := target_le (M := panM 201 m) (N := panM 101 n) (r := r) (f := f) (q := q)
  simp only [h1, h2, g1, g2, decide_true, decide_false, cond_true, cond_false, Bool.not_true]
  by_cases h3 : panM 201 a = 0
  · simp [h3]
  by_cases h4 : panM 101 b = 0
  · simp [h4]
  have g3 := target_pos (q := q) (A := panM 201 a) (B := panM 101 b) (by omega) (by omega) (r := r) (f := f) (by omega) (by omega)
  have f3 : (panM 201 a == 0) = false := by simpa using h3
  have f4 : (panM 101 b == 0) = false := by simpa using h4
  simp only [f3, f4, g3, decide_true, cond_false]

theorem law_exact (a b : Int) (c d e : Bool) (j k r x y z l i f q : Int) (L : Nat) : funK Try.prog K3 L 6 [Ov a b c d e, Pl j k r, Sg x y z l i f q] = some (.v false [.bool true]) := by
  refine Eq.trans (b := bif !askedM j k r f then some (TV.v false [AC.bool true])
    else
  bif decide (f < 1) then some (TV.v false [AC.bool true])
  else
    bif q != 0 then some (TV.v false [AC.bool (targetM (panM 201 a) (panM 101 b) false r f q == f)])
    else
      bif targetM 100 100 false r f q == f then some (TV.v false [AC.bool (targetM 100 100 false r 0 q == r)])
      else some (TV.v false [AC.bool false])) (by kernel_rfl) ?_
  cases ha : askedM j k r f
  · rfl
  rw [asked_iff] at ha
  by_cases h1 : f < 1
  · simp [h1]
  have f0 : (f == 0) = false := by simp; omega
  by_cases hq : q = 0
  · subst hq
    have g1 : targetM 100 100 false r f 0 = f := by
      unfold targetM
      simp only [f0, bne_self_eq_false, cond_false]
      rw [scaled_full (by omega)]
      unfold mn; split <;> omega
    have g2 : targetM 100 100 false r 0 0 = r := by
      unfold targetM
      simp only [bne_self_eq_false, cond_false, beq_self_eq_true, cond_true]
      rw [scaled_full (by omega)]
      unfold mn; split <;> omega
    simp [h1, g1, g2]
  · have fq : (q != 0) = true := by simpa using hq
    have g1 : targetM (panM 201 a) (panM 101 b) false r f q = f := by
      unfold targetM
      simp only [fq, cond_true, cond_false]
      unfold mn mx; (repeat' split) <;> omega
    simp [h1, fq, g1]
end Go.Am
