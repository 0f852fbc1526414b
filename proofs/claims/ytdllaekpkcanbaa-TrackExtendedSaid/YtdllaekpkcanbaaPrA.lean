/- what the functions of package wide and of layer 1's reference give -/
import Derived.Test.YtdllaekpkcanbaaMx5
import Derived.Test.YtdllaekpkcanbaaBmTy
set_option linter.unusedVariables false
set_option linter.unusedSimpArgs false
set_option maxRecDepth 100000
namespace Go.Bm

theorem Qhb {x : Int} (h : i64 x) : Qeo [I x] = some [U (x.natAbs : Int)] := by
  unfold i64 at h
  unfold Qeo
  rw [mf_wide_size_eq]
  by_cases hx : x < 0
  · rw [Qgw hx, Qab (x := x + 1) (by omega), Qab (x := 0 - (x + 1)) (by omega), Qej (x := 0 - (x + 1)) (by omega), Qej (x := 0 - (x + 1) + 1) (by omega)]
    rw [show 0 - (x + 1) + 1 = (x.natAbs : Int) by omega]
  · rw [Qbs hx, Qej (x := x) (by omega)]
    rw [show x = (x.natAbs : Int) by omega]
    simp
def sgn (a b : Int) : Int := if a = 0 then 0 else if b = 0 then 0 else if (a < 0 ↔ b < 0) then 1 else -1
theorem s_wide_sign (a b : Int) : Qem [I a, I b] = some [I (sgn a b)] := by
  unfold Qem
  rw [mf_wide_sign_eq]
  simp only [go_sem]
  unfold sgn
  repeat' split
  all_goals rfl
def cmpN (a b : Nat) : Int := if a < b then -1 else if a = b then 0 else 1
def cmpI (a b : Int) : Int := if a < b then -1 else if a = b then 0 else 1
noncomputable def w64 : Nat := Classical.choose (⟨18446744073709551616, rfl⟩ : ∃ n : Nat, n = 18446744073709551616)
theorem Qdn : w64 = 18446744073709551616 := Classical.choose_spec (⟨18446744073709551616, rfl⟩ : ∃ n : Nat, n = 18446744073709551616)
theorem i64_abs {x : Int} (h : i64 x) : x.natAbs < w64 := by unfold i64 at h; have := Qdn; omega

theorem s_bits_Mul64 {x y : Nat} (hx : x < w64) (hy : y < w64) : Qeg [U x, U y] = some [U ((x * y / w64 : Nat) : Int), U ((x * y % w64 : Nat) : Int)] := by
  rw [Qdn] at hx hy
  have hu : ∀ z : Nat, z < 18446744073709551616 -> inU (z : Int) = true := by
    intro z hz
    have e64 : two64 = 18446744073709551616 := rfl
    simp only [inU, e64, Bool.and_eq_true, decide_eq_true_eq]
    omega
  show mul64 (x : Int) (y : Int) = _
  unfold mul64
  rw [hu x hx, hu y hy, Qdn]
  rfl
theorem s_wide_product {x y : Nat} (hx : x < w64) (hy : y < w64) : Qbp [U x, U y] = some [U ((x * y / w64 : Nat) : Int), U ((x * y % w64 : Nat) : Int)] := by
  unfold Qbp
  rw [mf_wide_product_eq, s_bits_Mul64 hx hy]
  simp only [go_sem]

theorem s_wide_compare (a b c d : Nat) (hb : b < w64) (hd : d < w64) : Qd5 [U a, U b, U c, U d] = some [I (cmpN (a * w64 + b) (c * w64 + d))] := by
  unfold Qd5
  rw [mf_wide_compare_eq]
  simp only [go_sem, and_true]
  unfold cmpN
  simp only [Qdn] at *
  by_cases h1 : a < c
  · rw [if_pos (by omega), if_pos (by omega)]
  · rw [if_neg (by omega)]
    by_cases h2 : a = c
    · rw [if_pos (by omega)]
      by_cases h3 : b < d
      · rw [if_pos (by omega), if_pos (by omega)]
      · rw [if_neg (by omega)]
        by_cases h4 : b = d
        · rw [if_pos (by omega), if_neg (by omega), if_pos (by omega)]
        · rw [if_neg (by omega), if_neg (by omega), if_neg (by omega)]
    · rw [if_neg (by omega), if_neg (by omega), if_neg (by omega), if_neg (by omega)]

theorem sgn_mul (a b : Int) : sgn a b * ((a.natAbs * b.natAbs : Nat) : Int) = a * b := by
  unfold sgn
  by_cases h1 : a = 0
  · subst h1; simp
  · by_cases h2 : b = 0
    · subst h2; simp
    · rw [if_neg h1, if_neg h2]
      have e : ((a.natAbs * b.natAbs : Nat) : Int) = (a.natAbs : Int) * (b.natAbs : Int) := by simp
      rw [e]
      by_cases h3 : a < 0 <;> by_cases h4 : b < 0
      · rw [if_pos (by simp [h3, h4]), show (a.natAbs : Int) = -a by omega, show (b.natAbs : Int) = -b by omega, Int.neg_mul_neg, Int.one_mul]
      · rw [if_neg (by simp [h3, h4]), show (a.natAbs : Int) = -a by omega, show (b.natAbs : Int) = b by omega, Int.neg_mul, Int.one_mul, Int.neg_mul, Int.neg_neg]
      · rw [if_neg (by simp [h3, h4]), show (a.natAbs : Int) = a by omega, show (b.natAbs : Int) = -b by omega, Int.mul_neg, Int.neg_mul_neg, Int.one_mul]
      · rw [if_pos (by simp [h3, h4]), show (a.natAbs : Int) = a by omega, show (b.natAbs : Int) = b by omega, Int.one_mul]
theorem sgn_cases (a b : Int) : (sgn a b = 0 /\ a * b = 0) \/ (sgn a b = 1 /\ 0 < a * b) \/ (sgn a b = -1 /\ a * b < 0) := by
  have h := sgn_mul a b
  by_cases h1 : a = 0
  · subst h1; left; simp [sgn]
  · by_cases h2 : b = 0
    · subst h2; left; simp [sgn]
    · have hp : 0 < a.natAbs * b.natAbs := Nat.mul_pos (by omega) (by omega)
      generalize a.natAbs * b.natAbs = p at *
      generalize a * b = x at *
      unfold sgn at h ⊢
      rw [if_neg h1, if_neg h2] at h ⊢
      by_cases h3 : (a < 0 ↔ b < 0)
      · rw [if_pos h3] at h ⊢; right; left; exact ⟨rfl, by omega⟩
      · rw [if_neg h3] at h ⊢; right; right; exact ⟨rfl, by omega⟩

theorem cmp_sign {a b c d : Int} : (if sgn a b ≠ sgn c d then (if sgn a b < sgn c d then -1 else 1) else sgn a b * cmpN (a.natAbs * b.natAbs) (c.natAbs * d.natAbs)) = cmpI (a * b) (c * d) := by
  have h1 := sgn_mul a b
  have h2 := sgn_mul c d
  have k1 := sgn_cases a b
  have k2 := sgn_cases c d
  unfold cmpI cmpN
  generalize a.natAbs * b.natAbs = p at *
  generalize c.natAbs * d.natAbs = q at *
  generalize a * b = x at *
  generalize c * d = y at *
  generalize sgn a b = u at *
  generalize sgn c d = v at *
  rcases k1 with ⟨rfl, g1⟩ | ⟨rfl, g1⟩ | ⟨rfl, g1⟩ <;> rcases k2 with ⟨rfl, g2⟩ | ⟨rfl, g2⟩ | ⟨rfl, g2⟩
  · rw [if_neg (by simp), if_neg (show ¬ x < y by omega), if_pos (show x = y by omega)]; exact Int.zero_mul _
  · rw [if_pos (by simp), if_pos (by omega), if_pos (by omega)]
  · rw [if_pos (by simp), if_neg (by omega), if_neg (by omega), if_neg (by omega)]
  · rw [if_pos (by simp), if_neg (by omega), if_neg (by omega), if_neg (by omega)]
  · rw [if_neg (by simp)]
    have e1 : (p : Int) = x := by omega
    have e2 : (q : Int) = y := by omega
    by_cases h : x < y
    · rw [if_pos (by omega), if_pos h]; rfl
    · rw [if_neg (by omega), if_neg h]
      by_cases h' : x = y
      · rw [if_pos (by omega), if_pos h']; rfl
      · rw [if_neg (by omega), if_neg h']; rfl
  · rw [if_pos (by simp), if_neg (by omega), if_neg (by omega), if_neg (by omega)]
  · rw [if_pos (by simp), if_pos (by omega), if_pos (by omega)]
  · rw [if_pos (by simp), if_pos (by omega), if_pos (by omega)]
  · rw [if_neg (by simp)]
    have e1 : (p : Int) = -x := by omega
    have e2 : (q : Int) = -y := by omega
    by_cases h : x < y
    · rw [if_neg (by omega), if_neg (by omega), if_pos h]; rfl
    · rw [if_neg h]
      by_cases h' : x = y
      · rw [if_neg (by omega), if_pos (by omega), if_pos h']; rfl
      · rw [if_pos (by omega), if_neg h']; rfl

theorem divmod (p : Nat) : p / w64 * w64 + p % w64 = p := by have := Nat.div_add_mod p w64; rw [Nat.mul_comm] at this; exact this
theorem w64_pos : 0 < w64 := by rw [Qdn]; omega
theorem cmpN_bound (p q : Nat) : -1 <= cmpN p q /\ cmpN p q <= 1 := by unfold cmpN; (repeat' split) <;> omega
theorem sgn_bound (a b : Int) : -1 <= sgn a b /\ sgn a b <= 1 := by unfold sgn; (repeat' split) <;> omega
theorem unit_mul {u v : Int} (hu : -1 <= u /\ u <= 1) (hv : -1 <= v /\ v <= 1) : -1 <= u * v /\ u * v <= 1 := by
  have : u = -1 \/ u = 0 \/ u = 1 := by omega
  rcases this with rfl | rfl | rfl <;> omega
theorem Qg0 {x y : Nat} (hx : x < w64) (hy : y < w64) : ∃ hi lo : Nat, Qbp [U x, U y] = some [U hi, U lo] /\ hi * w64 + lo = x * y /\ lo < w64 :=
  ⟨_, _, s_wide_product hx hy, divmod _, Nat.mod_lt _ w64_pos⟩
theorem a_wide_Cmp {a b c d : Int} (M1 M2 M3 M4 : List AC -> Option (List AC)) (h1 l1 h2 l2 : Nat)
   (ka : M3 [I a] = some [U a.natAbs]) (kb : M3 [I b] = some [U b.natAbs]) (kc : M3 [I c] = some [U c.natAbs]) (kd : M3 [I d] = some [U d.natAbs])
   (ks : ∀ a b, M4 [I a, I b] = some [I (sgn a b)])
   (e1 : M2 [U a.natAbs, U b.natAbs] = some [U h1, U l1]) (f1 : M2 [U c.natAbs, U d.natAbs] = some [U h2, U l2])
   (hcmp : M1 [U h1, U l1, U h2, U l2] = some [I (cmpN (a.natAbs * b.natAbs) (c.natAbs * d.natAbs))]) : mf_wide_Cmp M1 M2 M3 M4 [I a, I b, I c, I d] = some [I (cmpI (a * b) (c * d))] := by
  have hm := unit_mul (sgn_bound a b) (cmpN_bound (a.natAbs * b.natAbs) (c.natAbs * d.natAbs))
  rw [mf_wide_Cmp_eq]
  simp only [go_sem, ks, ka, kb, kc, kd, e1, f1, hcmp]
  rw [<- cmp_sign]
  rw [Qab (by omega)]
  by_cases h1 : sgn a b ≠ sgn c d
  · rw [if_pos h1, if_pos h1]
    by_cases h2 : sgn a b < sgn c d
    · rw [if_pos h2, if_pos h2]
    · rw [if_neg h2, if_neg h2]
  · rw [if_neg h1, if_neg h1]
theorem s_wide_Cmp {a b c d : Int} (ha : i64 a) (hb : i64 b) (hc : i64 c) (hd : i64 d) : m_wide_Cmp [I a, I b, I c, I d] = some [I (cmpI (a * b) (c * d))] := by
  obtain ⟨h1, l1, e1, e2, e3⟩ := Qg0 (i64_abs ha) (i64_abs hb)
  obtain ⟨h2, l2, f1, f2, f3⟩ := Qg0 (i64_abs hc) (i64_abs hd)
  have hcmp := s_wide_compare h1 l1 h2 l2 e3 f3
  rw [e2, f2] at hcmp
  unfold m_wide_Cmp
  exact a_wide_Cmp _ _ _ _ _ _ _ _ (Qhb ha) (Qhb hb) (Qhb hc) (Qhb hd) s_wide_sign e1 f1 hcmp
end Go.Bm
