/- what the square roots of package wide give -/
import Derived.Test.YtdllaekpkcanbaaPrA
set_option linter.unusedVariables false
set_option linter.unusedSimpArgs false
set_option maxRecDepth 100000
namespace Go.Bm

theorem or_bit {m k : Nat} (h : 2 ^ (k + 1) * m + 2 ^ k < w64) : IntKind.u64.wrap (((BitVec.ofInt IntKind.u64.bits ((2 ^ (k + 1) * m : Nat) : Int) ||| BitVec.ofInt IntKind.u64.bits ((2 ^ k : Nat) : Int)).toNat : Nat) : Int) = ((2 ^ (k + 1) * m + 2 ^ k : Nat) : Int) := by
 rw [Qdn] at h
 have e : (BitVec.ofInt IntKind.u64.bits ((2 ^ (k + 1) * m : Nat) : Int) ||| BitVec.ofInt IntKind.u64.bits ((2 ^ k : Nat) : Int)).toNat = 2 ^ (k + 1) * m + 2 ^ k := by
  rw [BitVec.toNat_or]
  have e1 : ∀ v : Nat, v < 18446744073709551616 -> (BitVec.ofInt IntKind.u64.bits (v : Int)).toNat = v := by
   intro v hv
   simp only [IntKind.bits, BitVec.toNat_ofInt]
   omega
  have hpos : 0 < 2 ^ k := Nat.two_pow_pos _
  generalize hA : 2 ^ (k + 1) * m = A at *
  rw [e1 _ (by omega), e1 _ (by omega), <- hA]
  exact (Nat.two_pow_add_eq_or_of_lt (Nat.pow_lt_pow_right (by omega) (by omega)) m).symm
 rw [e, Qej (by omega)]
theorem half (k : Nat) : ((2 ^ (k + 1) : Nat) : Int).fdiv (2 ^ min (Int.toNat 1) IntKind.u64.bits) = ((2 ^ k : Nat) : Int) := by
 have e : (2 ^ min (Int.toNat 1) IntKind.u64.bits : Int) = 2 := rfl
 rw [e, Int.fdiv_eq_ediv_of_nonneg _ (by omega), Nat.pow_succ]
 omega
theorem half0 : (1 : Int).fdiv (2 ^ min (Int.toNat 1) IntKind.u64.bits) = 0 := rfl

theorem st_floorRoot {M1 M2 : List AC -> Option (List AC)} (hp : ∀ x y : Nat, x < w64 -> y < w64 -> ∃ hi lo : Nat, M2 [U x, U y] = some [U hi, U lo] /\ hi * w64 + lo = x * y /\ lo < w64)
  (hc : ∀ a b c d : Nat, b < w64 -> d < w64 -> M1 [U a, U b, U c, U d] = some [I (cmpN (a * w64 + b) (c * w64 + d))]) {k m hi lo : Nat} {bit : Int} (hlo : lo < w64) (hb : ((2 ^ k : Nat) : Int).fdiv (2 ^ min (Int.toNat 1) IntKind.u64.bits) = bit) (h : 2 ^ (k + 1) * m + 2 ^ k < w64) :
  Qdv M1 M2 [U ((2 ^ (k + 1) * m : Nat) : Int), U ((2 ^ k : Nat) : Int), U hi, U lo] =
   some (0, [U (((if (2 ^ (k + 1) * m + 2 ^ k) * (2 ^ (k + 1) * m + 2 ^ k) <= hi * w64 + lo then 2 ^ (k + 1) * m + 2 ^ k else 2 ^ (k + 1) * m) : Nat) : Int), U bit, U hi, U lo]) := by
 obtain ⟨h1, l1, e1, e2, e3⟩ := hp _ _ h h
 have hcmp := hc h1 l1 hi lo e3 hlo
 rw [e2] at hcmp
 have hpos : 0 < 2 ^ k := Nat.two_pow_pos _
 rw [st_wide_floorRoot_3_eq, or_bit h, hb]
 simp only [go_sem, e1, hcmp]
 rw [if_pos (by omega)]
 generalize (2 ^ (k + 1) * m + 2 ^ k) * (2 ^ (k + 1) * m + 2 ^ k) = q at *
 unfold cmpN
 by_cases h1 : q < hi * w64 + lo
 ·rw [if_pos h1, if_pos (by omega), if_pos (by omega)]
 ·rw [if_neg h1]
  by_cases h2 : q = hi * w64 + lo
  ·rw [if_pos h2, if_pos (by omega), if_pos (by omega)]
  ·rw [if_neg h2, if_neg (by omega), if_neg (by omega)]
theorem l_floorRoot {M1 M2 : List AC -> Option (List AC)} (hp : ∀ x y : Nat, x < w64 -> y < w64 -> ∃ hi lo : Nat, M2 [U x, U y] = some [U hi, U lo] /\ hi * w64 + lo = x * y /\ lo < w64)
  (hc : ∀ a b c d : Nat, b < w64 -> d < w64 -> M1 [U a, U b, U c, U d] = some [I (cmpN (a * w64 + b) (c * w64 + d))]) {hi lo : Nat} (hlo : lo < w64) : ∀ (k m : Nat), 2 ^ (k + 1) * m + 2 ^ (k + 1) <= w64 ->
  (2 ^ (k + 1) * m) * (2 ^ (k + 1) * m) <= hi * w64 + lo -> hi * w64 + lo < (2 ^ (k + 1) * m + 2 ^ (k + 1)) * (2 ^ (k + 1) * m + 2 ^ (k + 1)) ->
  ∃ r : Nat, Qby (Qdv M1 M2) [U ((2 ^ (k + 1) * m : Nat) : Int), U ((2 ^ k : Nat) : Int), U hi, U lo] = some (1, [U r]) /\ r * r <= hi * w64 + lo /\ hi * w64 + lo < (r + 1) * (r + 1) /\ r < w64
 | 0, m, hw, h1, h2 => by
  have hs := st_floorRoot hp hc (k := 0) (m := m) (hi := hi) (bit := 0) hlo half0 (by simp at hw ⊢; omega)
  rw [Qbr hs]
  have hend : ∀ r : Nat, Qby (Qdv M1 M2) [U (r : Int), U 0, U hi, U lo] = some (1, [U r]) := by
   intro r
   refine Qb1 ?_ (by simp)
   rw [st_wide_floorRoot_3_eq]
   simp only [go_sem]
   rw [if_neg (by omega)]
  simp only [Nat.zero_add, Nat.pow_one, Nat.pow_zero] at *
  by_cases h : (2 * m + 1) * (2 * m + 1) <= hi * w64 + lo
  ·rw [if_pos h, hend]
   exact ⟨_, rfl, h, h2, by omega⟩
  ·rw [if_neg h, hend]
   exact ⟨_, rfl, h1, by omega, by omega⟩
 | k + 1, m, hw, h1, h2 => by
  have e1 : 2 ^ (k + 1 + 1) * m = 2 ^ (k + 1) * (2 * m) := by rw [Nat.pow_succ 2 (k + 1), Nat.mul_assoc]
  have e2 : 2 ^ (k + 1 + 1) * m + 2 ^ (k + 1) = 2 ^ (k + 1) * (2 * m + 1) := by rw [e1, Nat.mul_add, Nat.mul_one]
  have e3 : 2 ^ (k + 1 + 1) = 2 ^ (k + 1) + 2 ^ (k + 1) := by rw [Nat.pow_succ 2 (k + 1)]; omega
  have hpos : 0 < 2 ^ (k + 1) := Nat.two_pow_pos _
  have hs := st_floorRoot hp hc (k := k + 1) (m := m) (hi := hi) (bit := ((2 ^ k : Nat) : Int)) hlo (half k) (by omega)
  rw [Qbr hs]
  by_cases h : (2 ^ (k + 1 + 1) * m + 2 ^ (k + 1)) * (2 ^ (k + 1 + 1) * m + 2 ^ (k + 1)) <= hi * w64 + lo
  ·rw [if_pos h, e2]
   rw [e2] at h
   refine l_floorRoot hp hc hlo k (2 * m + 1) ?_ h ?_
   ·rw [<- e2]; omega
   ·rw [<- e2]
    rw [show 2 ^ (k + 1 + 1) * m + 2 ^ (k + 1) + 2 ^ (k + 1) = 2 ^ (k + 1 + 1) * m + 2 ^ (k + 1 + 1) by omega]
    exact h2
  ·rw [if_neg h]
   have h3 : hi * w64 + lo < (2 ^ (k + 1 + 1) * m + 2 ^ (k + 1)) * (2 ^ (k + 1 + 1) * m + 2 ^ (k + 1)) := by omega
   have hw' : 2 ^ (k + 1 + 1) * m + 2 ^ (k + 1) <= w64 := by omega
   rw [e1] at h1 h3 hw' ⊢
   exact l_floorRoot hp hc hlo k (2 * m) hw' h1 h3
theorem a_wide_floorRoot {M1 M2 : List AC -> Option (List AC)} (hp : ∀ x y : Nat, x < w64 -> y < w64 -> ∃ hi lo : Nat, M2 [U x, U y] = some [U hi, U lo] /\ hi * w64 + lo = x * y /\ lo < w64)
  (hc : ∀ a b c d : Nat, b < w64 -> d < w64 -> M1 [U a, U b, U c, U d] = some [I (cmpN (a * w64 + b) (c * w64 + d))]) {hi lo : Nat} (hhi : hi < w64) (hlo : lo < w64) :
  ∃ r : Nat, mf_wide_floorRoot M1 M2 (Qby (Qdv M1 M2)) [U hi, U lo] = some [U r] /\ r * r <= hi * w64 + lo /\ hi * w64 + lo < (r + 1) * (r + 1) /\ r < w64 := by
 have hb : hi * w64 + lo < w64 * w64 := by
  have : hi * w64 + w64 <= w64 * w64 := by rw [<- Nat.succ_mul]; exact Nat.mul_le_mul_right _ hhi
  omega
 obtain ⟨r, h1, h2, h3, h4⟩ := l_floorRoot hp hc (hi := hi) (lo := lo) hlo 63 0 (by rw [Qdn]; omega) (by simp) (by rw [Nat.mul_zero, Nat.zero_add, show 2 ^ (63 + 1) = w64 by rw [Qdn]]; exact hb)
 refine ⟨r, ?_, h2, h3, h4⟩
 rw [Nat.mul_zero] at h1
 generalize Qby (Qdv M1 M2) = N at *
 have h1' : N [AC.int IntKind.u64 0, AC.int IntKind.u64 9223372036854775808, AC.int IntKind.u64 hi, AC.int IntKind.u64 lo] = some (1, [U r]) := h1
 rw [mf_wide_floorRoot_eq, h1']
 simp only [go_sem]
theorem s_wide_floorRoot {hi lo : Nat} (hhi : hi < w64) (hlo : lo < w64) : ∃ r : Nat, Qeh [U hi, U lo] = some [U r] /\ r * r <= hi * w64 + lo /\ hi * w64 + lo < (r + 1) * (r + 1) /\ r < w64 :=
 a_wide_floorRoot (fun _ _ hx hy => Qg0 hx hy) s_wide_compare hhi hlo

theorem s_wide_signed {n : Nat} (h : n < 9223372036854775808) : Qcn [U n, B false] = some [I n, B true] := by
 unfold Qcn
 rw [mf_wide_signed_eq]
 simp only [go_sem]
 rw [if_neg (by simp), if_pos (by simp), if_pos (by omega), Qab (by omega)]
theorem s_bits_Sub64 {x y b : Nat} (hx : x < w64) (hy : y < w64) (hb : b = 0 \/ b = 1) : Qfc [U x, U y, U b] = some [U (((x : Int) - y - b) % two64), U (if x < y + b then 1 else 0)] := by
 rw [Qdn] at hx hy
 have e64 : two64 = 18446744073709551616 := rfl
 have hu : ∀ z : Nat, z < 18446744073709551616 -> inU (z : Int) = true := by
  intro z hz
  simp only [inU, e64, Bool.and_eq_true, decide_eq_true_eq]
  omega
 have hb' : (decide ((b : Int) = 0) || decide ((b : Int) = 1)) = true := by
  rcases hb with rfl | rfl <;> simp
 unfold Qfc
 simp only [Qi1, nth_1, nth_2, Qjd, gA, jA, wA, bA]
 rw [hu x hx, hu y hy, hb']
 by_cases h : x < y + b
 ·rw [if_pos h, Qgw (p := (x : Int) < y + b) (by omega)]; simp
 ·rw [if_neg h, Qbs (p := (x : Int) < y + b) (by omega)]; simp
theorem s_bits_Sub64' {x y : Nat} (hx : x < w64) (hyx : y <= x) : Qfc [U x, U y, U 0] = some [U ((x - y : Nat) : Int), U 0] := by
 have := s_bits_Sub64 (x := x) (y := y) (b := 0) hx (by omega) (.inl rfl)
 have e64 : two64 = 18446744073709551616 := rfl
 rw [Qdn] at hx
 rw [if_neg (by omega), e64, show ((x : Int) - y - ((0 : Nat) : Int)) % 18446744073709551616 = ((x - y : Nat) : Int) by omega] at this
 exact this
theorem a_wide_root {M1 M2 M3 M4 : List AC -> Option (List AC)} {n r : Nat} {mode : Int} (hn : n < 9223372036854775807) (hrn : r * r <= n) (hr : M4 [U 0, U n] = some [U r]) (hm : M3 [U r, U r] = some [U 0, U ((r * r : Nat) : Int)]) (hs1 : M2 [U n, U ((r * r : Nat) : Int), U 0] = some [U ((n - r * r : Nat) : Int), U 0])
  (hs2 : M2 [U 0, U 0, U 0] = some [U 0, U 0]) (sg : ∀ k : Nat, k < 9223372036854775808 -> M1 [U k, B false] = some [I k, B true]) (hmode : mode = 1 \/ mode = 2) :
  mf_wide_root M1 M2 M3 M4 [U 0, U n, I mode] = some [I ((if (mode = 1 /\ r * r < n) \/ (mode = 2 /\ r * r + r < n) then r + 1 else r : Nat) : Int), B true] := by
 have hrr : r <= r * r := by
  rcases Nat.eq_zero_or_pos r with h | h
  ·subst h; simp
  ·exact Nat.le_mul_of_pos_left r h
 have hw : IntKind.u64.wrap ((r : Int) + 1) = ((r + 1 : Nat) : Int) := by rw [Qej (by omega)]; omega
 have s1 := sg r (by omega)
 have s2 := sg (r + 1) (by omega)
 rw [mf_wide_root_eq]
 simp only [go_sem, hr, hm, hs1, hs2, hw, s1, s2]
 rcases hmode with rfl | rfl
 ·rw [if_pos rfl, if_neg (by omega)]
  by_cases h : r * r < n
  ·rw [if_pos (by omega), if_pos (by omega)]
  ·rw [if_neg (by omega), if_neg (by omega), if_neg (by omega)]
 ·rw [if_neg (by omega), if_pos rfl, if_neg (by omega)]
  by_cases h : r * r + r < n
  ·rw [if_pos (by omega), if_pos (by omega)]
  ·rw [if_neg (by omega), if_neg (by omega)]
theorem a_wide_Sqrt {M1 M2 : List AC -> Option (List AC)} {n : Nat} {mode : Int} {k : Int} (hn : n < 9223372036854775807) (hk : M2 [I mode] = some [B true]) (hr : M1 [U 0, U n, I mode] = some [I k, B true]) : mf_wide_Sqrt M1 M2 [I n, I mode] = some [I k, B true] := by
 have hw : IntKind.u64.wrap (n : Int) = (n : Int) := Qej (by omega)
 rw [mf_wide_Sqrt_eq]
 simp only [go_sem, hk, hw, hr]
 rw [if_neg (by omega), if_neg (by simp)]
theorem s_wide_known {mode : Int} (h : mode = 0 \/ mode = 1 \/ mode = 2) : Qd0 [I mode] = some [B true] := by
 unfold Qd0
 rw [mf_wide_known_eq]
 rcases h with rfl | rfl | rfl <;> rfl
theorem s_wide_Sqrt {n : Nat} {mode : Int} (hn : n < 9223372036854775807) (hmode : mode = 1 \/ mode = 2) :
  ∃ r : Nat, Qhq [I n, I mode] = some [I ((if (mode = 1 /\ r * r < n) \/ (mode = 2 /\ r * r + r < n) then r + 1 else r : Nat) : Int), B true] /\ r * r <= n /\ n < (r + 1) * (r + 1) := by
 have hnw : n < w64 := by rw [Qdn]; omega
 obtain ⟨r, h1, h2, h3, h4⟩ := s_wide_floorRoot (hi := 0) (lo := n) w64_pos hnw
 rw [Nat.zero_mul, Nat.zero_add] at h2 h3
 obtain ⟨hi, lo, e1, e2, e3⟩ : ∃ hi lo : Nat, Qeg [U r, U r] = some [U hi, U lo] /\ hi * w64 + lo = r * r /\ lo < w64 := ⟨_, _, s_bits_Mul64 h4 h4, divmod _, Nat.mod_lt _ w64_pos⟩
 have hhi : hi = 0 := by
  rcases Nat.eq_zero_or_pos hi with h | h
  ·exact h
  ·have := Nat.mul_le_mul_right w64 h
   omega
 subst hhi
 have hlo : lo = r * r := by omega
 subst hlo
 have z := s_bits_Sub64' (x := 0) (y := 0) w64_pos (Nat.le_refl _)
 refine ⟨r, ?_, h2, h3⟩
 exact a_wide_Sqrt hn (s_wide_known (.inr hmode)) (a_wide_root hn h2 h1 e1 (s_bits_Sub64' hnw h2) z (fun k hk => s_wide_signed hk) hmode)
end Go.Bm
