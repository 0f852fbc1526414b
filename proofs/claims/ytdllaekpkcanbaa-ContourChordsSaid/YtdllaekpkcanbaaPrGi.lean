/- laid together -/
import Derived.Test.YtdllaekpkcanbaaPrG
import Derived.Test.YtdllaekpkcanbaaMx4
set_option linter.unusedVariables false
set_option linter.unusedSimpArgs false
/- what the square roots of package wide give -/
set_option maxRecDepth 100000
namespace Go.Bm

theorem or_bit {m k : Nat} (h : 2 ^ (k + 1) * m + 2 ^ k < w64) : IntKind.u64.wrap (((BitVec.ofInt IntKind.u64.bits ((2 ^ (k + 1) * m : Nat) : Int) ||| BitVec.ofInt IntKind.u64.bits ((2 ^ k : Nat) : Int)).toNat : Nat) : Int) = ((2 ^ (k + 1) * m + 2 ^ k : Nat) : Int) := by
 rw [w64_eq] at h
 have e : (BitVec.ofInt IntKind.u64.bits ((2 ^ (k + 1) * m : Nat) : Int) ||| BitVec.ofInt IntKind.u64.bits ((2 ^ k : Nat) : Int)).toNat = 2 ^ (k + 1) * m + 2 ^ k := by
  rw [BitVec.toNat_or]
  have e1 : ∀ v : Nat, v < 18446744073709551616 -> (BitVec.ofInt IntKind.u64.bits (v : Int)).toNat = v := by
   intro v hv
   simp only [IntKind.bits, BitVec.toNat_ofInt]
   omega
  have hpos : 0 < 2 ^ k := Nat.two_pow_pos _
  generalize hA : 2 ^ (k + 1) * m = A at *
  rw [e1 _ (by omega), e1 _ (by omega), <- hA]
  exact (Nat.two_pow_add_eq_or_of_lt (Nat.pow_lt_pow_right (by omega) (by omega)) m).symm
 rw [e, uwrap_id (by omega)]
theorem half (k : Nat) : ((2 ^ (k + 1) : Nat) : Int).fdiv (2 ^ min (Int.toNat 1) IntKind.u64.bits) = ((2 ^ k : Nat) : Int) := by
 have e : (2 ^ min (Int.toNat 1) IntKind.u64.bits : Int) = 2 := rfl
 rw [e, Int.fdiv_eq_ediv_of_nonneg _ (by omega), Nat.pow_succ]
 omega
theorem half0 : (1 : Int).fdiv (2 ^ min (Int.toNat 1) IntKind.u64.bits) = 0 := rfl

theorem st_floorRoot {M1 M2 : List AC -> Option (List AC)} (hp : ∀ x y : Nat, x < w64 -> y < w64 -> ∃ hi lo : Nat, M2 [U x, U y] = some [U hi, U lo] /\ hi * w64 + lo = x * y /\ lo < w64)
  (hc : ∀ a b c d : Nat, b < w64 -> d < w64 -> M1 [U a, U b, U c, U d] = some [I (cmpN (a * w64 + b) (c * w64 + d))]) {k m hi lo : Nat} {bit : Int} (hlo : lo < w64) (hb : ((2 ^ k : Nat) : Int).fdiv (2 ^ min (Int.toNat 1) IntKind.u64.bits) = bit) (h : 2 ^ (k + 1) * m + 2 ^ k < w64) :
  st_wide_floorRoot_3 M1 M2 [U ((2 ^ (k + 1) * m : Nat) : Int), U ((2 ^ k : Nat) : Int), U hi, U lo] =
   some (0, [U (((if (2 ^ (k + 1) * m + 2 ^ k) * (2 ^ (k + 1) * m + 2 ^ k) <= hi * w64 + lo then 2 ^ (k + 1) * m + 2 ^ k else 2 ^ (k + 1) * m) : Nat) : Int), U bit, U hi, U lo]) := by
 obtain ⟨h1, l1, e1, e2, e3⟩ := hp _ _ h h
 have hcmp := hc h1 l1 hi lo e3 hlo
 rw [e2] at hcmp
 have hpos : 0 < 2 ^ k := Nat.two_pow_pos _
 rw [st_wide_floorRoot_3_eq, or_bit h, hb]
 simp only [go_sem, e1, hcmp]
 rw [if_pos (by omega)]
 generalize (2 ^ (k + 1) * m + 2 ^ k) * (2 ^ (k + 1) * m + 2 ^ k) = q at *
 unfold cmpN
 by_cases h1 : q < hi * w64 + lo
 ·rw [if_pos h1, if_pos (by omega), if_pos (by omega)]
 ·rw [if_neg h1]
  by_cases h2 : q = hi * w64 + lo
  ·rw [if_pos h2, if_pos (by omega), if_pos (by omega)]
  ·rw [if_neg h2, if_neg (by omega), if_neg (by omega)]
theorem l_floorRoot {M1 M2 : List AC -> Option (List AC)} (hp : ∀ x y : Nat, x < w64 -> y < w64 -> ∃ hi lo : Nat, M2 [U x, U y] = some [U hi, U lo] /\ hi * w64 + lo = x * y /\ lo < w64)
  (hc : ∀ a b c d : Nat, b < w64 -> d < w64 -> M1 [U a, U b, U c, U d] = some [I (cmpN (a * w64 + b) (c * w64 + d))]) {hi lo : Nat} (hlo : lo < w64) : ∀ (k m : Nat), 2 ^ (k + 1) * m + 2 ^ (k + 1) <= w64 ->
  (2 ^ (k + 1) * m) * (2 ^ (k + 1) * m) <= hi * w64 + lo -> hi * w64 + lo < (2 ^ (k + 1) * m + 2 ^ (k + 1)) * (2 ^ (k + 1) * m + 2 ^ (k + 1)) ->
  ∃ r : Nat, loopC (st_wide_floorRoot_3 M1 M2) [U ((2 ^ (k + 1) * m : Nat) : Int), U ((2 ^ k : Nat) : Int), U hi, U lo] = some (1, [U r]) /\ r * r <= hi * w64 + lo /\ hi * w64 + lo < (r + 1) * (r + 1) /\ r < w64
 | 0, m, hw, h1, h2 => by
  have hs := st_floorRoot hp hc (k := 0) (m := m) (hi := hi) (bit := 0) hlo half0 (by simp at hw ⊢; omega)
  rw [loop_more hs]
  have hend : ∀ r : Nat, loopC (st_wide_floorRoot_3 M1 M2) [U (r : Int), U 0, U hi, U lo] = some (1, [U r]) := by
   intro r
   refine loop_end ?_ (by simp)
   rw [st_wide_floorRoot_3_eq]
   simp only [go_sem]
   rw [if_neg (by omega)]
  simp only [Nat.zero_add, Nat.pow_one, Nat.pow_zero] at *
  by_cases h : (2 * m + 1) * (2 * m + 1) <= hi * w64 + lo
  ·rw [if_pos h, hend]
   exact ⟨_, rfl, h, h2, by omega⟩
  ·rw [if_neg h, hend]
   exact ⟨_, rfl, h1, by omega, by omega⟩
 | k + 1, m, hw, h1, h2 => by
  have e1 : 2 ^ (k + 1 + 1) * m = 2 ^ (k + 1) * (2 * m) := by rw [Nat.pow_succ 2 (k + 1), Nat.mul_assoc]
  have e2 : 2 ^ (k + 1 + 1) * m + 2 ^ (k + 1) = 2 ^ (k + 1) * (2 * m + 1) := by rw [e1, Nat.mul_add, Nat.mul_one]
  have e3 : 2 ^ (k + 1 + 1) = 2 ^ (k + 1) + 2 ^ (k + 1) := by rw [Nat.pow_succ 2 (k + 1)]; omega
  have hpos : 0 < 2 ^ (k + 1) := Nat.two_pow_pos _
  have hs := st_floorRoot hp hc (k := k + 1) (m := m) (hi := hi) (bit := ((2 ^ k : Nat) : Int)) hlo (half k) (by omega)
  rw [loop_more hs]
  by_cases h : (2 ^ (k + 1 + 1) * m + 2 ^ (k + 1)) * (2 ^ (k + 1 + 1) * m + 2 ^ (k + 1)) <= hi * w64 + lo
  ·rw [if_pos h, e2]
   rw [e2] at h
   refine l_floorRoot hp hc hlo k (2 * m + 1) ?_ h ?_
   ·rw [<- e2]; omega
   ·rw [<- e2]
    rw [show 2 ^ (k + 1 + 1) * m + 2 ^ (k + 1) + 2 ^ (k + 1) = 2 ^ (k + 1 + 1) * m + 2 ^ (k + 1 + 1) by omega]
    exact h2
  ·rw [if_neg h]
   have h3 : hi * w64 + lo < (2 ^ (k + 1 + 1) * m + 2 ^ (k + 1)) * (2 ^ (k + 1 + 1) * m + 2 ^ (k + 1)) := by omega
   have hw' : 2 ^ (k + 1 + 1) * m + 2 ^ (k + 1) <= w64 := by omega
   rw [e1] at h1 h3 hw' ⊢
   exact l_floorRoot hp hc hlo k (2 * m) hw' h1 h3
theorem a_wide_floorRoot {M1 M2 : List AC -> Option (List AC)} (hp : ∀ x y : Nat, x < w64 -> y < w64 -> ∃ hi lo : Nat, M2 [U x, U y] = some [U hi, U lo] /\ hi * w64 + lo = x * y /\ lo < w64)
  (hc : ∀ a b c d : Nat, b < w64 -> d < w64 -> M1 [U a, U b, U c, U d] = some [I (cmpN (a * w64 + b) (c * w64 + d))]) {hi lo : Nat} (hhi : hi < w64) (hlo : lo < w64) :
  ∃ r : Nat, mf_wide_floorRoot M1 M2 (loopC (st_wide_floorRoot_3 M1 M2)) [U hi, U lo] = some [U r] /\ r * r <= hi * w64 + lo /\ hi * w64 + lo < (r + 1) * (r + 1) /\ r < w64 := by
 have hb : hi * w64 + lo < w64 * w64 := by
  have : hi * w64 + w64 <= w64 * w64 := by rw [<- Nat.succ_mul]; exact Nat.mul_le_mul_right _ hhi
  omega
 obtain ⟨r, h1, h2, h3, h4⟩ := l_floorRoot hp hc (hi := hi) (lo := lo) hlo 63 0 (by rw [w64_eq]; omega) (by simp) (by rw [Nat.mul_zero, Nat.zero_add, show 2 ^ (63 + 1) = w64 by rw [w64_eq]]; exact hb)
 refine ⟨r, ?_, h2, h3, h4⟩
 rw [Nat.mul_zero] at h1
 generalize loopC (st_wide_floorRoot_3 M1 M2) = N at *
 have h1' : N [AC.int IntKind.u64 0, AC.int IntKind.u64 9223372036854775808, AC.int IntKind.u64 hi, AC.int IntKind.u64 lo] = some (1, [U r]) := h1
 rw [mf_wide_floorRoot_eq, h1']
 simp only [go_sem]
theorem s_wide_floorRoot {hi lo : Nat} (hhi : hi < w64) (hlo : lo < w64) : ∃ r : Nat, m_wide_floorRoot [U hi, U lo] = some [U r] /\ r * r <= hi * w64 + lo /\ hi * w64 + lo < (r + 1) * (r + 1) /\ r < w64 :=
 a_wide_floorRoot (fun _ _ hx hy => s_wide_product' hx hy) s_wide_compare hhi hlo

theorem s_wide_signed {n : Nat} (h : n < 9223372036854775808) : m_wide_signed [U n, B false] = some [I n, B true] := by
 unfold m_wide_signed
 rw [mf_wide_signed_eq]
 simp only [go_sem]
 rw [if_neg (by simp), if_pos (by simp), if_pos (by omega), wrap_id (by omega)]
theorem s_bits_Sub64 {x y b : Nat} (hx : x < w64) (hy : y < w64) (hb : b = 0 \/ b = 1) : m_bits_Sub64 [U x, U y, U b] = some [U (((x : Int) - y - b) % two64), U (if x < y + b then 1 else 0)] := by
 rw [w64_eq] at hx hy
 have e64 : two64 = 18446744073709551616 := rfl
 have hu : ∀ z : Nat, z < 18446744073709551616 -> inU (z : Int) = true := by
  intro z hz
  simp only [inU, e64, Bool.and_eq_true, decide_eq_true_eq]
  omega
 have hb' : (decide ((b : Int) = 0) || decide ((b : Int) = 1)) = true := by
  rcases hb with rfl | rfl <;> simp
 unfold m_bits_Sub64
 simp only [nth_zero', nth_1, nth_2, intOf_int, gA, jA, wA, bA]
 rw [hu x hx, hu y hy, hb']
 by_cases h : x < y + b
 ·rw [if_pos h, bif_pos (p := (x : Int) < y + b) (by omega)]; simp
 ·rw [if_neg h, bif_neg (p := (x : Int) < y + b) (by omega)]; simp
theorem s_bits_Sub64' {x y : Nat} (hx : x < w64) (hyx : y <= x) : m_bits_Sub64 [U x, U y, U 0] = some [U ((x - y : Nat) : Int), U 0] := by
 have := s_bits_Sub64 (x := x) (y := y) (b := 0) hx (by omega) (.inl rfl)
 have e64 : two64 = 18446744073709551616 := rfl
 rw [w64_eq] at hx
 rw [if_neg (by omega), e64, show ((x : Int) - y - ((0 : Nat) : Int)) % 18446744073709551616 = ((x - y : Nat) : Int) by omega] at this
 exact this
theorem a_wide_root {M1 M2 M3 M4 : List AC -> Option (List AC)} {n r : Nat} {mode : Int} (hn : n < 9223372036854775807) (hrn : r * r <= n) (hr : M4 [U 0, U n] = some [U r]) (hm : M3 [U r, U r] = some [U 0, U ((r * r : Nat) : Int)]) (hs1 : M2 [U n, U ((r * r : Nat) : Int), U 0] = some [U ((n - r * r : Nat) : Int), U 0])
  (hs2 : M2 [U 0, U 0, U 0] = some [U 0, U 0]) (sg : ∀ k : Nat, k < 9223372036854775808 -> M1 [U k, B false] = some [I k, B true]) (hmode : mode = 1 \/ mode = 2) :
  mf_wide_root M1 M2 M3 M4 [U 0, U n, I mode] = some [I ((if (mode = 1 /\ r * r < n) \/ (mode = 2 /\ r * r + r < n) then r + 1 else r : Nat) : Int), B true] := by
 have hrr : r <= r * r := by
  rcases Nat.eq_zero_or_pos r with h | h
  ·subst h; simp
  ·exact Nat.le_mul_of_pos_left r h
 have hw : IntKind.u64.wrap ((r : Int) + 1) = ((r + 1 : Nat) : Int) := by rw [uwrap_id (by omega)]; omega
 have s1 := sg r (by omega)
 have s2 := sg (r + 1) (by omega)
 rw [mf_wide_root_eq]
 simp only [go_sem, hr, hm, hs1, hs2, hw, s1, s2]
 rcases hmode with rfl | rfl
 ·rw [if_pos rfl, if_neg (by omega)]
  by_cases h : r * r < n
  ·rw [if_pos (by omega), if_pos (by omega)]
  ·rw [if_neg (by omega), if_neg (by omega), if_neg (by omega)]
 ·rw [if_neg (by omega), if_pos rfl, if_neg (by omega)]
  by_cases h : r * r + r < n
  ·rw [if_pos (by omega), if_pos (by omega)]
  ·rw [if_neg (by omega), if_neg (by omega)]
theorem a_wide_Sqrt {M1 M2 : List AC -> Option (List AC)} {n : Nat} {mode : Int} {k : Int} (hn : n < 9223372036854775807) (hk : M2 [I mode] = some [B true]) (hr : M1 [U 0, U n, I mode] = some [I k, B true]) : mf_wide_Sqrt M1 M2 [I n, I mode] = some [I k, B true] := by
 have hw : IntKind.u64.wrap (n : Int) = (n : Int) := uwrap_id (by omega)
 rw [mf_wide_Sqrt_eq]
 simp only [go_sem, hk, hw, hr]
 rw [if_neg (by omega), if_neg (by simp)]
theorem s_wide_known {mode : Int} (h : mode = 0 \/ mode = 1 \/ mode = 2) : m_wide_known [I mode] = some [B true] := by
 unfold m_wide_known
 rw [mf_wide_known_eq]
 rcases h with rfl | rfl | rfl <;> rfl
theorem s_wide_Sqrt {n : Nat} {mode : Int} (hn : n < 9223372036854775807) (hmode : mode = 1 \/ mode = 2) :
  ∃ r : Nat, m_wide_Sqrt [I n, I mode] = some [I ((if (mode = 1 /\ r * r < n) \/ (mode = 2 /\ r * r + r < n) then r + 1 else r : Nat) : Int), B true] /\ r * r <= n /\ n < (r + 1) * (r + 1) := by
 have hnw : n < w64 := by rw [w64_eq]; omega
 obtain ⟨r, h1, h2, h3, h4⟩ := s_wide_floorRoot (hi := 0) (lo := n) w64_pos hnw
 rw [Nat.zero_mul, Nat.zero_add] at h2 h3
 obtain ⟨hi, lo, e1, e2, e3⟩ : ∃ hi lo : Nat, m_bits_Mul64 [U r, U r] = some [U hi, U lo] /\ hi * w64 + lo = r * r /\ lo < w64 := ⟨_, _, s_bits_Mul64 h4 h4, divmod _, Nat.mod_lt _ w64_pos⟩
 have hhi : hi = 0 := by
  rcases Nat.eq_zero_or_pos hi with h | h
  ·exact h
  ·have := Nat.mul_le_mul_right w64 h
   omega
 subst hhi
 have hlo : lo = r * r := by omega
 subst hlo
 have z := s_bits_Sub64' (x := 0) (y := 0) w64_pos (Nat.le_refl _)
 refine ⟨r, ?_, h2, h3⟩
 exact a_wide_Sqrt hn (s_wide_known (.inr hmode)) (a_wide_root hn h2 h1 e1 (s_bits_Sub64' hnw h2) z (fun k hk => s_wide_signed hk) hmode)
end Go.Bm
/- products divided and rounded: wide.MulDiv and the reference's Rounded -/
set_option maxRecDepth 100000
namespace Go.Bm

def near (a b : Int) : Int := (2 * a + b) / (2 * b)
theorem s_bits_Div64_0 {p c : Nat} (hp : p < w64) (hc : 0 < c) : m_bits_Div64 [U 0, U p, U c] = some [U ((p / c : Nat) : Int), U ((p % c : Nat) : Int)] := by
 rw [w64_eq] at hp
 have h1 : (p : Int).tdiv (c : Int) = ((p / c : Nat) : Int) := by rw [Int.tdiv_eq_ediv_of_nonneg (by omega)]; simp
 have h2 : (p : Int).tmod (c : Int) = ((p % c : Nat) : Int) := by rw [Int.tmod_eq_emod_of_nonneg (by omega)]; simp
 have h3 : p / c <= p := Nat.div_le_self _ _
 unfold m_bits_Div64
 generalize m_bits_LeadingZeros64 = M
 generalize l_bits_Div64_17 = N1
 generalize l_bits_Div64_24 = N2
 rw [mf_bits_Div64_eq]
 rw [bif_false (by simp; omega), bif_neg (by omega), bif_true (by simp), bif_neg (by omega), bif_neg (by omega), h1, h2]
 generalize p / c = q at *
 rw [uwrap_id (by omega)]
theorem s_wide_grows2 (more : Int) (some_ neg : Bool) : m_wide_grows [I 2, I more, B some_, B neg] = some [B (if more > 0 then true else if more = 0 then !neg else false)] := by
 unfold m_wide_grows
 rw [mf_wide_grows_eq]
 simp only [go_sem]
 rw [if_neg (by omega), if_neg (by omega)]
 repeat' split
 all_goals rfl
theorem s_wide_signed_neg {n : Nat} (h : n <= 9223372036854775808) : m_wide_signed [U n, B true] = some [I (-(n : Int)), B true] := by
 unfold m_wide_signed
 rw [mf_wide_signed_eq]
 simp only [go_sem]
 rw [if_pos (by omega), uwrap_mod, wrap_def]
 have : ((0 - (n : Int)) % 18446744073709551616 + 9223372036854775808) % 18446744073709551616 - 9223372036854775808 = -(n : Int) := by omega
 rw [this]

end Go.Bm
/- the reference's products of two words, roots, lengths, and x r / sqrt n, rounded -/
set_option maxRecDepth 100000
namespace Go.Bm

theorem and32 (v : Nat) (h : v < w64) : IntKind.u64.wrap (((BitVec.ofInt IntKind.u64.bits (v : Int) &&& BitVec.ofInt IntKind.u64.bits 4294967295).toNat : Nat) : Int) = ((v % 4294967296 : Nat) : Int) := by
 rw [w64_eq] at h
 have e : (BitVec.ofInt IntKind.u64.bits (v : Int) &&& BitVec.ofInt IntKind.u64.bits 4294967295).toNat = v % 4294967296 := by
  rw [BitVec.toNat_and]
  have e1 : (BitVec.ofInt IntKind.u64.bits (v : Int)).toNat = v := by
   simp only [IntKind.bits, BitVec.toNat_ofInt]
   omega
  have e2 : (BitVec.ofInt IntKind.u64.bits 4294967295).toNat = 2 ^ 32 - 1 := by
   simp only [IntKind.bits, BitVec.toNat_ofInt]
   rfl
  rw [e1, e2, Nat.and_two_pow_sub_one_eq_mod]
 rw [e, uwrap_id (by omega)]
theorem shr32 (v : Nat) : (v : Int).fdiv (2 ^ min (Int.toNat 32) IntKind.u64.bits) = ((v / 4294967296 : Nat) : Int) := by
 have e : (2 ^ min (Int.toNat 32) IntKind.u64.bits : Int) = 4294967296 := rfl
 rw [e, Int.fdiv_eq_ediv_of_nonneg _ (by omega)]
 omega
theorem or32 (u v : Nat) (hu : u < 4294967296) (hv : v < 4294967296) : IntKind.u64.wrap (((BitVec.ofInt IntKind.u64.bits ((u * 4294967296 : Nat) : Int) ||| BitVec.ofInt IntKind.u64.bits (v : Int)).toNat : Nat) : Int) = ((u * 4294967296 + v : Nat) : Int) := by
 have e : (BitVec.ofInt IntKind.u64.bits ((u * 4294967296 : Nat) : Int) ||| BitVec.ofInt IntKind.u64.bits (v : Int)).toNat = u * 4294967296 + v := by
  rw [BitVec.toNat_or]
  have e1 : ∀ v : Nat, v < 18446744073709551616 -> (BitVec.ofInt IntKind.u64.bits (v : Int)).toNat = v := by
   intro v hv
   simp only [IntKind.bits, BitVec.toNat_ofInt]
   omega
  rw [e1 _ (by omega), e1 _ (by omega)]
  have := Nat.two_pow_add_eq_or_of_lt (i := 32) (b := v) (by omega) u
  rw [show (2 : Nat) ^ 32 = 4294967296 from rfl, Nat.mul_comm] at this
  exact this.symm
 rw [e, uwrap_id (by omega)]
theorem shl32 (v : Nat) (h : v < w64) : IntKind.u64.wrap ((v : Int) * 2 ^ min (Int.toNat 32) IntKind.u64.bits) = ((v % 4294967296 * 4294967296 : Nat) : Int) := by
 have e : (2 ^ min (Int.toNat 32) IntKind.u64.bits : Int) = 4294967296 := rfl
 rw [w64_eq] at h
 rw [e, uwrap_mod]
 omega
theorem mul32 {a b : Nat} (ha : a < 4294967296) (hb : b < 4294967296) : a * b <= 18446744065119617025 := by
 have := Nat.mul_le_mul (show a <= 4294967295 by omega) (show b <= 4294967295 by omega)
 omega
theorem s_cncref23_product {x y : Nat} (hx : x < w64) (hy : y < w64) : ∃ hi lo : Nat, m_cncref23_product [U x, U y] = some [U hi, U lo] /\ hi * w64 + lo = x * y /\ lo < w64 := by
 unfold m_cncref23_product
 rw [mf_cncref23_product_eq, and32 x hx, and32 y hy, shr32 x, shr32 y]
 rw [w64_eq] at hx hy
 have ex : x = x / 4294967296 * 4294967296 + x % 4294967296 := by omega
 have ey : y = y / 4294967296 * 4294967296 + y % 4294967296 := by omega
 have hx1 : x / 4294967296 < 4294967296 := by omega
 have hx0 : x % 4294967296 < 4294967296 := by omega
 have hy1 : y / 4294967296 < 4294967296 := by omega
 have hy0 : y % 4294967296 < 4294967296 := by omega
 generalize x / 4294967296 = a at *
 generalize x % 4294967296 = b at *
 generalize y / 4294967296 = c at *
 generalize y % 4294967296 = d at *
 have exy : x * y = (a * c) * 18446744073709551616 + (a * d) * 4294967296 + (b * c) * 4294967296 + b * d := by
  rw [ex, ey]
  have : (18446744073709551616 : Nat) = 4294967296 * 4294967296 := rfl
  rw [this]
  generalize (4294967296 : Nat) = H
  grind
 rw [exy]
 have h1 := mul32 hx1 hy1
 have h2 := mul32 hx1 hy0
 have h3 := mul32 hx0 hy1
 have h4 := mul32 hx0 hy0
 have m1 : ∀ p q : Nat, (p : Int) * (q : Int) = ((p * q : Nat) : Int) := fun p q => by simp
 have u1 : ∀ v : Nat, v <= 18446744073709551615 -> IntKind.u64.wrap (v : Int) = (v : Int) := fun v hv => uwrap_id (by omega)
 simp only [m1]
 generalize a * c = P at *
 generalize a * d = Q at *
 generalize b * c = S at *
 generalize b * d = T at *
 have hw64 : ∀ v : Nat, v <= 18446744073709551615 -> v < w64 := fun v hv => by rw [w64_eq]; omega
 have a1 : ∀ p q : Nat, (p : Int) + (q : Int) = ((p + q : Nat) : Int) := fun p q => by simp
 rw [u1 T (by omega), u1 Q (by omega), u1 S (by omega), u1 P (by omega), shr32 T, a1, u1 (Q + T / 4294967296) (by omega)]
 rw [and32 _ (hw64 (Q + T / 4294967296) (by omega)), shr32 (Q + T / 4294967296), and32 _ (hw64 T (by omega)), a1 S, u1 (S + _) (by omega), shr32 (S + _), a1 P, u1 (P + _) (by omega), a1 _ ((S + _) / _), u1 (P + _ + _) (by omega),
  shl32 _ (hw64 (S + (Q + T / 4294967296) % 4294967296) (by omega)), or32 _ _ (by omega) (by omega)]
 refine ⟨_, _, rfl, ?_, ?_⟩
 ·rw [w64_eq]; omega
 ·rw [w64_eq]; omega

theorem a_cncref23_most {M : List AC -> Option (List AC)} (hM : ∀ {x y : Nat}, x < w64 -> y < w64 -> ∃ hi lo : Nat, M [U x, U y] = some [U hi, U lo] /\ hi * w64 + lo = x * y /\ lo < w64) {a b c d : Nat} (ha : a < w64) (hb : b < w64) (hc : c < w64) (hd : d < w64) (s : Bool) :
  mf_cncref23_most M [U a, U b, U c, U d, B s] = some [B (if s = true then decide (a * b < c * d) else decide (a * b <= c * d))] := by
 obtain ⟨h1, l1, e1, f1, g1⟩ := hM ha hb
 obtain ⟨h2, l2, e2, f2, g2⟩ := hM hc hd
 rw [mf_cncref23_most_eq]
 simp only [go_sem, e1, e2]
 rw [<- f1, <- f2]
 have key : ∀ p q : Nat, p < q -> p * w64 + w64 <= q * w64 := fun p q h => by rw [<- Nat.succ_mul]; exact Nat.mul_le_mul_right _ h
 by_cases c1 : h1 < h2
 ·rw [if_pos (by omega)]
  have := key _ _ c1
  by_cases hs : s = true
  ·rw [if_pos hs, decide_eq_true (by omega)]
  ·rw [if_neg hs, decide_eq_true (by omega)]
 ·rw [if_neg (by omega)]
  by_cases c2 : h1 = h2
  ·subst c2
   rw [if_pos rfl]
   by_cases c3 : l1 < l2
   ·rw [if_pos (by omega)]
    by_cases hs : s = true
    ·rw [if_pos hs, decide_eq_true (by omega)]
    ·rw [if_neg hs, decide_eq_true (by omega)]
   ·rw [if_neg (by omega)]
    by_cases c4 : l1 = l2
    ·subst c4
     rw [if_pos rfl]
     by_cases hs : s = true
     ·rw [if_pos hs, decide_eq_false (by omega), hs]; rfl
     ·rw [if_neg hs, decide_eq_true (by omega)]; simp at hs; rw [hs]; rfl
    ·rw [if_neg (by omega)]
     by_cases hs : s = true
     ·rw [if_pos hs, decide_eq_false (by omega)]
     ·rw [if_neg hs, decide_eq_false (by omega)]
  ·rw [if_neg (by omega)]
   have := key h2 h1 (by omega)
   by_cases hs : s = true
   ·rw [if_pos hs, decide_eq_false (by omega)]
   ·rw [if_neg hs, decide_eq_false (by omega)]
theorem s_cncref23_most {a b c d : Nat} (ha : a < w64) (hb : b < w64) (hc : c < w64) (hd : d < w64) (s : Bool) :
  m_cncref23_most [U a, U b, U c, U d, B s] = some [B (if s = true then decide (a * b < c * d) else decide (a * b <= c * d))] :=
 a_cncref23_most s_cncref23_product ha hb hc hd s

def IsRnd (a n : Nat) (down : Bool) (j : Nat) : Prop :=
 (j = 0 \/ if down = true then (2 * j - 1) * (2 * j - 1) * n < 4 * (a * a) else (2 * j - 1) * (2 * j - 1) * n <= 4 * (a * a)) /\
 (if down = true then 4 * (a * a) <= (2 * j + 1) * (2 * j + 1) * n else 4 * (a * a) < (2 * j + 1) * (2 * j + 1) * n)
theorem sqn_le {p q n : Nat} (h : p <= q) : p * p * n <= q * q * n := Nat.mul_le_mul_right _ (Nat.mul_le_mul h h)
theorem isRnd_unique {a n : Nat} {down : Bool} {i j : Nat} (hi : IsRnd a n down i) (hj : IsRnd a n down j) : i = j := by
 have key : ∀ {i j : Nat}, IsRnd a n down i -> IsRnd a n down j -> ¬ i < j := by
  rintro i j ⟨-, h2⟩ ⟨h3, -⟩ hlt
  have h4 := sqn_le (n := n) (show 2 * i + 1 <= 2 * j - 1 by omega)
  rcases h3 with h3 | h3
  ·omega
  ·by_cases hd : down = true
   ·rw [if_pos hd] at h2 h3; omega
   ·rw [if_neg hd] at h2 h3; omega
 have h1 := key hi hj
 have h2 := key hj hi
 omega
open Classical in
noncomputable def rnd (a n : Nat) (down : Bool) : Nat := if h : ∃ j, IsRnd a n down j then Classical.choose h else 0
theorem rnd_of {a n : Nat} {down : Bool} {j : Nat} (h : IsRnd a n down j) : rnd a n down = j := by
 have hx : ∃ j, IsRnd a n down j := ⟨j, h⟩
 unfold rnd
 rw [dif_pos hx]
 exact isRnd_unique (Classical.choose_spec hx) h
noncomputable def nearR (x r n : Int) : Int := if x < 0 then -(rnd (x.natAbs * r.natAbs) n.natAbs true : Int) else (rnd (x.natAbs * r.natAbs) n.natAbs false : Int)

theorem isRnd_le {X R n j : Nat} {down : Bool} (hn : 0 < n) (hx : X * X <= n) (h : IsRnd (X * R) n down j) : j <= R := by
 by_cases c : j <= R
 ·exact c
 exfalso
 have e : 4 * (X * R * (X * R)) = (2 * R) * (2 * R) * (X * X) := by grind
 have h2 : (2 * R) * (2 * R) * (X * X) <= (2 * R) * (2 * R) * n := Nat.mul_le_mul_left _ hx
 have h3 : (2 * R) * (2 * R) * n < (2 * R + 1) * (2 * R + 1) * n := Nat.mul_lt_mul_of_pos_right (Nat.mul_self_lt_mul_self (by omega)) hn
 have h4 : (2 * R + 1) * (2 * R + 1) * n <= (2 * j - 1) * (2 * j - 1) * n := sqn_le (by omega)
 obtain ⟨h5, -⟩ := h
 rcases h5 with h5 | h5
 ·omega
 ·split at h5 <;> omega
theorem st_Near {M : List AC -> Option (List AC)} (hM : ∀ {a b c d : Nat}, a < w64 -> b < w64 -> c < w64 -> d < w64 -> ∀ s : Bool, M [U a, U b, U c, U d, B s] = some [B (if s = true then decide (a * b < c * d) else decide (a * b <= c * d))])
  {x : Int} {a d q b : Nat} {bit : Int} (ha : a < 36028797018963968) (hd : d < w64) (hq : q + b < 268435456 + 1) (hb0 : 0 < b) (hb : ((b : Nat) : Int).fdiv (2 ^ min (Int.toNat 1) IntKind.u64.bits) = bit) :
  st_cncref23_Near_3 M [I x, U a, U d, U q, U b] = some (0, [I x, U a, U d, U (((if (q + b) * (q + b) * d <= a * a then q + b else q) : Nat) : Int), U bit]) := by
 have hs : (q + b) * (q + b) <= 268435456 * 268435456 := Nat.mul_le_mul (by omega) (by omega)
 have w1 : IntKind.u64.wrap ((q : Int) + (b : Int)) = ((q + b : Nat) : Int) := by rw [uwrap_id (by omega)]; omega
 have w2 : IntKind.u64.wrap (((q + b : Nat) : Int) * ((q + b : Nat) : Int)) = (((q + b) * (q + b) : Nat) : Int) := by
  rw [show ((q + b : Nat) : Int) * ((q + b : Nat) : Int) = (((q + b) * (q + b) : Nat) : Int) by simp, uwrap_id (by omega)]
 rw [st_cncref23_Near_3_eq, w1, w2, hb]
 generalize (q + b) * (q + b) = s at *
 have h := hM (a := s) (b := d) (c := a) (d := a) (by rw [w64_eq]; omega) hd (by rw [w64_eq]; omega) (by rw [w64_eq]; omega) false
 rw [if_neg (by simp)] at h
 simp only [go_sem, h]
 rw [if_pos (by omega)]
 by_cases c : s * d <= a * a
 ·rw [if_pos c, if_pos c]
 ·rw [if_neg c, if_neg c]
theorem l_Near {M : List AC -> Option (List AC)} (hM : ∀ {a b c d : Nat}, a < w64 -> b < w64 -> c < w64 -> d < w64 -> ∀ s : Bool, M [U a, U b, U c, U d, B s] = some [B (if s = true then decide (a * b < c * d) else decide (a * b <= c * d))])
  {x : Int} {a d : Nat} (ha : a < 36028797018963968) (hd : d < w64) : ∀ (k q : Nat), q + 2 ^ (k + 1) <= 268435456 -> q * q * d <= a * a -> a * a < (q + 2 ^ (k + 1)) * (q + 2 ^ (k + 1)) * d ->
  ∃ r : Nat, loopC (st_cncref23_Near_3 M) [I x, U a, U d, U q, U ((2 ^ k : Nat) : Int)] = some (1, [I x, U a, U d, U r]) /\ r * r * d <= a * a /\ a * a < (r + 1) * (r + 1) * d /\ r < 268435456
 | 0, q, hq, h1, h2 => by
  have hs := st_Near hM (x := x) (q := q) (b := 2 ^ 0) (bit := 0) ha hd (by simp at hq ⊢; omega) (by simp) half0
  rw [loop_more hs]
  have hend : ∀ r : Nat, loopC (st_cncref23_Near_3 M) [I x, U a, U d, U r, U 0] = some (1, [I x, U a, U d, U r]) := by
   intro r
   refine loop_end ?_ (by simp)
   rw [st_cncref23_Near_3_eq]
   simp only [go_sem]
   rw [if_neg (by omega)]
  simp only [Nat.zero_add, Nat.pow_one, Nat.pow_zero] at *
  by_cases h : (q + 1) * (q + 1) * d <= a * a
  ·rw [if_pos h, hend]
   exact ⟨_, rfl, h, h2, by omega⟩
  ·rw [if_neg h, hend]
   exact ⟨_, rfl, h1, by omega, by omega⟩
 | k + 1, q, hq, h1, h2 => by
  have e3 : 2 ^ (k + 1 + 1) = 2 ^ (k + 1) + 2 ^ (k + 1) := by rw [Nat.pow_succ 2 (k + 1)]; omega
  have hpos : 0 < 2 ^ (k + 1) := Nat.two_pow_pos _
  have hs := st_Near hM (x := x) (q := q) (b := 2 ^ (k + 1)) (bit := ((2 ^ k : Nat) : Int)) ha hd (by omega) hpos (half k)
  rw [loop_more hs]
  by_cases h : (q + 2 ^ (k + 1)) * (q + 2 ^ (k + 1)) * d <= a * a
  ·rw [if_pos h]
   refine l_Near hM ha hd k _ (by omega) h ?_
   rw [show q + 2 ^ (k + 1) + 2 ^ (k + 1) = q + 2 ^ (k + 1 + 1) by omega]
   exact h2
  ·rw [if_neg h]
   exact l_Near hM ha hd k q (by omega) h1 (by omega)
theorem isRnd_near {a n q : Nat} (down : Bool) (h1 : q * q * n <= a * a) (h2 : a * a < (q + 1) * (q + 1) * n) :
  IsRnd a n down (if (if down = true then (2 * q + 1) * (2 * q + 1) * n < 2 * a * (2 * a) else (2 * q + 1) * (2 * q + 1) * n <= 2 * a * (2 * a)) then q + 1 else q) := by
 have e4 : 2 * a * (2 * a) = 4 * (a * a) := by grind
 rw [e4]
 have e1 : 4 * (q * q * n) <= 4 * (a * a) := Nat.mul_le_mul_left _ h1
 have e2 : 4 * (a * a) < 4 * ((q + 1) * (q + 1) * n) := by omega
 have e5 : (2 * q - 1) * (2 * q - 1) * n <= (2 * q) * (2 * q) * n := sqn_le (by omega)
 have e6 : (2 * q) * (2 * q) * n = 4 * (q * q * n) := by grind
 have e7 : (2 * (q + 1)) * (2 * (q + 1)) * n = 4 * ((q + 1) * (q + 1) * n) := by grind
 have e8 : (2 * (q + 1)) * (2 * (q + 1)) * n <= (2 * (q + 1) + 1) * (2 * (q + 1) + 1) * n := sqn_le (by omega)
 have e9 : n = 0 \/ q = 0 \/ (2 * q - 1) * (2 * q - 1) * n < (2 * q) * (2 * q) * n := by
  by_cases hn : n = 0
  ·exact .inl hn
  ·by_cases hq : q = 0
   ·exact .inr (.inl hq)
   ·right; right
    refine Nat.mul_lt_mul_of_pos_right ?_ (by omega)
    exact Nat.mul_self_lt_mul_self (by omega)
 have hn : n ≠ 0 := by rintro rfl; simp at h2
 unfold IsRnd
 cases down
 ·simp only [Bool.false_eq_true, if_false]
  by_cases c : (2 * q + 1) * (2 * q + 1) * n <= 4 * (a * a)
  ·rw [if_pos c]
   refine ⟨.inr ?_, by omega⟩
   rw [show 2 * (q + 1) - 1 = 2 * q + 1 by omega]; exact c
  ·rw [if_neg c]
   exact ⟨by omega, by omega⟩
 ·simp only [if_true]
  by_cases c : (2 * q + 1) * (2 * q + 1) * n < 4 * (a * a)
  ·rw [if_pos c]
   refine ⟨.inr ?_, by omega⟩
   rw [show 2 * (q + 1) - 1 = 2 * q + 1 by omega]; exact c
  ·rw [if_neg c]
   exact ⟨by omega, by omega⟩
theorem a_cncref23_Near {M : List AC -> Option (List AC)} (hM : ∀ {a b c d : Nat}, a < w64 -> b < w64 -> c < w64 -> d < w64 -> ∀ s : Bool, M [U a, U b, U c, U d, B s] = some [B (if s = true then decide (a * b < c * d) else decide (a * b <= c * d))])
  {x r n : Int} (hx : x.natAbs <= 33554432 * 4) (hr : 0 <= r /\ r <= 33554432 * 4) (hn : 0 < n /\ n <= 4611686018427387904) (hxn : x * x <= n) :
  mf_cncref23_Near M (loopC (st_cncref23_Near_3 M)) [I x, I r, I n] = some [I (nearR x r n)] /\ (nearR x r n).natAbs <= 268435456 /\ IsRnd (x.natAbs * r.natAbs) n.natAbs (decide (x < 0)) (nearR x r n).natAbs := by
 obtain ⟨R, rfl⟩ := Int.eq_ofNat_of_zero_le hr.1
 obtain ⟨N, rfl⟩ := Int.eq_ofNat_of_zero_le (show 0 <= n by omega)
 have hmx : mx x (IntKind.i64.wrap (0 - x)) = (x.natAbs : Int) := by
  rw [wrap_id (by omega)]; unfold mx; split <;> omega
 have hA : x.natAbs * R <= (33554432 * 4) * (33554432 * 4) := Nat.mul_le_mul hx (by omega)
 have e1 : (x.natAbs : Int) * (R : Int) = ((x.natAbs * R : Nat) : Int) := by simp
 have hxx : x.natAbs * x.natAbs <= N := by
  have : ((x.natAbs * x.natAbs : Nat) : Int) = x * x := by rw [Int.natAbs_mul_self]
  omega
 have hAA : (x.natAbs * R) * (x.natAbs * R) < 268435456 * 268435456 * N := by
  have e : (x.natAbs * R) * (x.natAbs * R) = (R * R) * (x.natAbs * x.natAbs) := by grind
  rw [e]
  have h1 : R * R <= (33554432 * 4) * (33554432 * 4) := Nat.mul_le_mul (by omega) (by omega)
  have h2 : (R * R) * (x.natAbs * x.natAbs) <= ((33554432 * 4) * (33554432 * 4)) * N := Nat.mul_le_mul h1 hxx
  omega
 simp only [nearR, Int.natAbs_natCast]
 generalize hAd : x.natAbs * R = A at *
 have hAw : A < 36028797018963968 := by omega
 have hN : N < w64 := by rw [w64_eq]; omega
 rw [mf_cncref23_Near_eq, hmx, e1, wrap_id (x := (A : Int)) (by omega), uwrap_id (x := (A : Int)) (by omega), uwrap_id (x := (N : Int)) (by omega)]
 obtain ⟨q, l1, l2, l3, l4⟩ := l_Near hM (x := x) (a := A) (d := N) hAw hN 27 0 (by decide) (by simp) (by rw [Nat.zero_add]; exact hAA)
 have l1' : loopC (st_cncref23_Near_3 M) [I x, U A, U N, AC.int IntKind.u64 0, AC.int IntKind.u64 134217728] = some (1, [I x, U A, U N, U q]) := l1
 rw [l1']
 have hq2 : (2 * q + 1) * (2 * q + 1) <= 536870911 * 536870911 := Nat.mul_le_mul (by omega) (by omega)
 have w1 : IntKind.u64.wrap (IntKind.u64.wrap (2 * (q : Int)) + 1) = ((2 * q + 1 : Nat) : Int) := by rw [uwrap_id (x := 2 * (q : Int)) (by omega), uwrap_id (by omega)]; omega
 have w2 : IntKind.u64.wrap (((2 * q + 1 : Nat) : Int) * ((2 * q + 1 : Nat) : Int)) = (((2 * q + 1) * (2 * q + 1) : Nat) : Int) := by
  rw [show ((2 * q + 1 : Nat) : Int) * ((2 * q + 1 : Nat) : Int) = (((2 * q + 1) * (2 * q + 1) : Nat) : Int) from (Int.natCast_mul _ _).symm, uwrap_id (by omega)]
 have w3 : IntKind.u64.wrap (2 * (A : Int)) = ((2 * A : Nat) : Int) := by rw [uwrap_id (by omega)]; omega
 have w4 : IntKind.i64.wrap (IntKind.u64.wrap ((q : Int) + 1)) = ((q + 1 : Nat) : Int) := by rw [uwrap_id (by omega), wrap_id (by omega)]; omega
 have w5 : IntKind.i64.wrap (q : Int) = (q : Int) := wrap_id (by omega)
 have h := hM (a := (2 * q + 1) * (2 * q + 1)) (b := N) (c := 2 * A) (d := 2 * A) (by rw [w64_eq]; omega) hN (by rw [w64_eq]; omega) (by rw [w64_eq]; omega) (decide (x < 0))
 have hi := isRnd_near (decide (x < 0)) l2 l3
 simp only [go_sem, w1, w2, w3, h, w4, w5]
 generalize (2 * q + 1) * (2 * q + 1) = s at *
 by_cases hx0 : x < 0
 ·rw [show (if x < 0 then -(rnd A N true : Int) else (rnd A N false : Int)) = -(rnd A N true : Int) from if_pos hx0]
  rw [decide_eq_true hx0] at hi ⊢
  simp only [if_true] at hi ⊢
  have hr := rnd_of hi
  by_cases c : s * N < 2 * A * (2 * A)
  ·rw [if_pos c] at hi hr
   rw [if_pos hx0, if_pos (decide_eq_true c), if_pos hx0, hr, wrap_id (by omega)]
   refine ⟨?_, by omega, ?_⟩
   ·rw [Int.zero_sub]
   ·rw [Int.natAbs_neg, Int.natAbs_natCast]; exact hi
  ·rw [if_neg c] at hi hr
   rw [if_pos hx0, if_neg (by simpa using c), if_pos hx0, hr, wrap_id (by omega)]
   refine ⟨?_, by omega, ?_⟩
   ·rw [Int.zero_sub]
   ·rw [Int.natAbs_neg, Int.natAbs_natCast]; exact hi
 ·rw [show (if x < 0 then -(rnd A N true : Int) else (rnd A N false : Int)) = (rnd A N false : Int) from if_neg hx0]
  rw [decide_eq_false hx0] at hi ⊢
  simp only [Bool.false_eq_true, if_false] at hi ⊢
  have hr := rnd_of hi
  by_cases c : s * N <= 2 * A * (2 * A)
  ·rw [if_pos c] at hi hr
   rw [if_neg hx0, if_pos (decide_eq_true c), if_neg hx0, hr]
   exact ⟨rfl, by omega, hi⟩
  ·rw [if_neg c] at hi hr
   rw [if_neg hx0, if_neg (by simpa using c), if_neg hx0, hr]
   exact ⟨rfl, by omega, hi⟩
theorem s_cncref23_Near {x r n : Int} (hx : x.natAbs <= 33554432 * 4) (hr : 0 <= r /\ r <= 33554432 * 4) (hn : 0 < n /\ n <= 4611686018427387904) (hxn : x * x <= n) :
  m_cncref23_Near [I x, I r, I n] = some [I (nearR x r n)] /\ (nearR x r n).natAbs <= 268435456 /\ IsRnd (x.natAbs * r.natAbs) n.natAbs (decide (x < 0)) (nearR x r n).natAbs :=
 a_cncref23_Near s_cncref23_most hx hr hn hxn

theorem halfI (k : Nat) : ((2 ^ (k + 1) : Nat) : Int).fdiv (2 ^ min (Int.toNat 1) IntKind.i64.bits) = ((2 ^ k : Nat) : Int) := by
 have e : (2 ^ min (Int.toNat 1) IntKind.i64.bits : Int) = 2 := rfl
 rw [e, Int.fdiv_eq_ediv_of_nonneg _ (by omega), Nat.pow_succ]
 omega
theorem halfI0 : (1 : Int).fdiv (2 ^ min (Int.toNat 1) IntKind.i64.bits) = 0 := rfl
theorem st_root {n q b : Nat} {bit : Int} (hq : q + b <= 2147483648) (hb0 : 0 < b) (hb : ((b : Nat) : Int).fdiv (2 ^ min (Int.toNat 1) IntKind.i64.bits) = bit) :
  st_cncref23_root_3 [I n, I q, I b] = some (0, [I n, I (((if (q + b) * (q + b) <= n then q + b else q) : Nat) : Int), I bit]) := by
 have hs : (q + b) * (q + b) <= 2147483648 * 2147483648 := Nat.mul_le_mul hq hq
 have w1 : IntKind.i64.wrap ((q : Int) + (b : Int)) = ((q + b : Nat) : Int) := by rw [wrap_id (by omega)]; omega
 have w2 : IntKind.i64.wrap (((q + b : Nat) : Int) * ((q + b : Nat) : Int)) = (((q + b) * (q + b) : Nat) : Int) := by
  rw [show ((q + b : Nat) : Int) * ((q + b : Nat) : Int) = (((q + b) * (q + b) : Nat) : Int) from (Int.natCast_mul _ _).symm, wrap_id (by omega)]
 rw [st_cncref23_root_3_eq, w1, w2, hb]
 generalize (q + b) * (q + b) = s at *
 simp only [go_sem]
 rw [if_pos (by omega)]
 by_cases c : s <= n
 ·rw [if_pos (by omega), if_pos c]
 ·rw [if_neg (by omega), if_neg c]
theorem l_root {n : Nat} : ∀ (k q : Nat), q + 2 ^ (k + 1) <= 2147483648 -> q * q <= n -> n < (q + 2 ^ (k + 1)) * (q + 2 ^ (k + 1)) ->
  ∃ r : Nat, loopC st_cncref23_root_3 [I n, I q, I ((2 ^ k : Nat) : Int)] = some (1, [I r]) /\ r * r <= n /\ n < (r + 1) * (r + 1) /\ r < 2147483648
 | 0, q, hq, h1, h2 => by
  have hs := st_root (n := n) (q := q) (b := 2 ^ 0) (bit := 0) (by simp at hq ⊢; omega) (by simp) halfI0
  rw [loop_more hs]
  have hend : ∀ r : Nat, loopC st_cncref23_root_3 [I n, I r, I 0] = some (1, [I r]) := by
   intro r
   refine loop_end ?_ (by simp)
   rw [st_cncref23_root_3_eq]
   simp only [go_sem]
   rw [if_neg (by omega)]
  simp only [Nat.zero_add, Nat.pow_one, Nat.pow_zero] at *
  by_cases h : (q + 1) * (q + 1) <= n
  ·rw [if_pos h, hend]
   exact ⟨_, rfl, h, h2, by omega⟩
  ·rw [if_neg h, hend]
   exact ⟨_, rfl, h1, by omega, by omega⟩
 | k + 1, q, hq, h1, h2 => by
  have e3 : 2 ^ (k + 1 + 1) = 2 ^ (k + 1) + 2 ^ (k + 1) := by rw [Nat.pow_succ 2 (k + 1)]; omega
  have hpos : 0 < 2 ^ (k + 1) := Nat.two_pow_pos _
  have hs := st_root (n := n) (q := q) (b := 2 ^ (k + 1)) (bit := ((2 ^ k : Nat) : Int)) (by omega) hpos (halfI k)
  rw [loop_more hs]
  by_cases h : (q + 2 ^ (k + 1)) * (q + 2 ^ (k + 1)) <= n
  ·rw [if_pos h]
   refine l_root k _ (by omega) h ?_
   rw [show q + 2 ^ (k + 1) + 2 ^ (k + 1) = q + 2 ^ (k + 1 + 1) by omega]
   exact h2
  ·rw [if_neg h]
   exact l_root k q (by omega) h1 (by omega)
theorem s_cncref23_root {n : Nat} (hn : n < 4611686018427387904) : ∃ r : Nat, m_cncref23_root [I n] = some [I r] /\ r * r <= n /\ n < (r + 1) * (r + 1) /\ r < 2147483648 := by
 obtain ⟨r, l1, l2, l3, l4⟩ := l_root (n := n) 30 0 (by decide) (by simp) (by rw [Nat.zero_add]; exact hn)
 refine ⟨r, ?_, l2, l3, l4⟩
 have l1' : loopC st_cncref23_root_3 [I n, AC.int IntKind.i64 0, AC.int IntKind.i64 1073741824] = some (1, [I r]) := l1
 show mf_cncref23_root (loopC st_cncref23_root_3) [I n] = _
 rw [mf_cncref23_root_eq, l1']
 simp only [go_sem]
theorem sq_bd {x : Int} {A : Nat} (h : x.natAbs <= A) : 0 <= x * x /\ x * x <= ((A * A : Nat) : Int) := by
 have := Nat.mul_le_mul h h
 rw [<- Int.natAbs_mul_self]
 omega
def IsMid (n k : Int) : Prop := 0 <= k /\ n <= k * (k + 1) /\ (k = 0 \/ (k - 1) * k < n)
end Go.Bm
/- the reference's corners -/
set_option maxRecDepth 100000
namespace Go.Bm

theorem wrap_nat {x : Int} {A : Nat} (h : x.natAbs <= A) (hA : A <= 9223372036854775807) : IntKind.i64.wrap x = x := wrap_id (by omega)
theorem sub_nat {x y : Int} {A B : Nat} (hx : x.natAbs <= A) (hy : y.natAbs <= B) : (x - y).natAbs <= A + B := by omega
theorem sq_nn (u : Int) : 0 <= u * u := by rw [<- Int.natAbs_mul_self]; omega
end Go.Bm
/- the reference's spokes: the middle of a piece, the pieces of an arc, its chords -/
set_option maxRecDepth 100000
namespace Go.Bm

def okS (s : Spk) : Prop := s.u.natAbs <= 50000000 /\ s.w.natAbs <= 50000000 /\ (0 <= s.r /\ s.r <= 50000000) /\ s.h.natAbs <= 16777216
def hf (a b : Int) : Int := (a + b + 1) / 2
def midD (a b : Spk) (dir : Int) (full : Bool) : Int × Int :=
 if full = true then (-a.u, -a.w)
 else if 0 < dt2 a.u a.w b.u b.w /\ 0 < crs a.u a.w b.u b.w * dir then (a.u + b.u, a.w + b.w)
 else if 0 < dt2 a.u a.w b.u b.w then (-(a.u + b.u), -(a.w + b.w))
 else (dir * (b.w - a.w), dir * (a.u - b.u))
noncomputable def midOf (a b : Spk) (u w : Int) : Spk := if u = 0 /\ w = 0 then ⟨0, 0, 0, 0⟩ else ⟨nearR u (hf a.r b.r) (sq2 u w), nearR w (hf a.r b.r) (sq2 u w), hf a.r b.r, hf a.h b.h⟩
noncomputable def midS (a b : Spk) (dir : Int) (full : Bool) : Spk := midOf a b (midD a b dir full).1 (midD a b dir full).2
theorem midD_bd {a b : Spk} (ha : okS a) (hb : okS b) {dir : Int} (hd : dir = 1 \/ dir = -1) (full : Bool) : (midD a b dir full).1.natAbs <= 100000000 /\ (midD a b dir full).2.natAbs <= 100000000 := by
 obtain ⟨a1, a2, -⟩ := ha
 obtain ⟨b1, b2, -⟩ := hb
 unfold midD
 split
 ·exact ⟨by simp only; omega, by simp only; omega⟩
 ·split
  ·exact ⟨by simp only; omega, by simp only; omega⟩
  ·split
   ·exact ⟨by simp only; omega, by simp only; omega⟩
   ·rcases hd with rfl | rfl
    ·exact ⟨by simp only; omega, by simp only; omega⟩
    ·exact ⟨by simp only; omega, by simp only; omega⟩
theorem sq2_sq (u w : Int) : u * u <= sq2 u w /\ w * w <= sq2 u w := by
 have h1 := sq_nn u
 have h2 := sq_nn w
 unfold sq2
 omega
theorem sq2_pos {u w : Int} (h : ¬ (u = 0 /\ w = 0)) : 0 < sq2 u w := by
 have h1 := sq_nn u
 have h2 := sq_nn w
 have z : ∀ u : Int, u * u = 0 -> u = 0 := fun u hu => by
  rcases Int.mul_eq_zero.1 hu with h | h <;> exact h
 have h3 : ¬ (u * u = 0 /\ w * w = 0) := fun h4 => h ⟨z _ h4.1, z _ h4.2⟩
 unfold sq2
 omega
theorem hf_bd {a b : Int} (ha : 0 <= a /\ a <= 50000000) (hb : 0 <= b /\ b <= 50000000) : 0 <= hf a b /\ hf a b <= 50000000 := by unfold hf; omega
theorem hf_bd2 {a b : Int} (ha : a.natAbs <= 16777216) (hb : b.natAbs <= 16777216) : (hf a b).natAbs <= 16777216 := by unfold hf; omega
theorem near_S {u w r : Int} (hu : u.natAbs <= 100000000) (hw : w.natAbs <= 100000000) (hr : 0 <= r /\ r <= 50000000) (h : ¬ (u = 0 /\ w = 0)) :
  (m_cncref23_Near [I u, I r, I (sq2 u w)] = some [I (nearR u r (sq2 u w))] /\ (nearR u r (sq2 u w)).natAbs <= r.natAbs) /\ (m_cncref23_Near [I w, I r, I (sq2 u w)] = some [I (nearR w r (sq2 u w))] /\ (nearR w r (sq2 u w)).natAbs <= r.natAbs) := by
 have hp := sq2_pos h
 have h1 := sq_bd hu
 have h2 := sq_bd hw
 have h3 : sq2 u w <= 20000000000000000 := by unfold sq2; omega
 obtain ⟨q1, q2⟩ := sq2_sq u w
 have key : ∀ x : Int, x.natAbs <= 100000000 -> x * x <= sq2 u w -> m_cncref23_Near [I x, I r, I (sq2 u w)] = some [I (nearR x r (sq2 u w))] /\ (nearR x r (sq2 u w)).natAbs <= r.natAbs := by
  intro x hx hq
  obtain ⟨g1, -, g3⟩ := s_cncref23_Near (x := x) (r := r) (n := sq2 u w) (Nat.le_trans hx (by decide)) (by omega) (by omega) hq
  refine ⟨g1, isRnd_le (by omega) ?_ g3⟩
  have : ((x.natAbs * x.natAbs : Nat) : Int) = x * x := Int.natAbs_mul_self
  omega
 exact ⟨key u hu q1, key w hw q2⟩
theorem midOf_ok {a b : Spk} (ha : okS a) (hb : okS b) {u w : Int} (hu : u.natAbs <= 100000000) (hw : w.natAbs <= 100000000) : okS (midOf a b u w) := by
 unfold midOf
 split
 ·exact ⟨by simp, by simp, by simp, by simp⟩
 ·rename_i h
  have hr := hf_bd ha.2.2.1 hb.2.2.1
  obtain ⟨⟨-, n1⟩, -, n2⟩ := near_S hu hw hr h
  exact ⟨by simp only; omega, by simp only; omega, hr, hf_bd2 ha.2.2.2 hb.2.2.2⟩
theorem midS_ok {a b : Spk} (ha : okS a) (hb : okS b) {dir : Int} (hd : dir = 1 \/ dir = -1) (full : Bool) : okS (midS a b dir full) :=
 midOf_ok ha hb (midD_bd ha hb hd full).1 (midD_bd ha hb hd full).2
theorem dir_nat {x : Int} (h : x.natAbs <= 50000000) : x.natAbs <= 1000000000 := Nat.le_trans h (by decide)
def setS (a b : Spk) (dir : Int) (full : Bool) : Prop := full = false /\ 0 < crs a.u a.w b.u b.w * dir /\ sq2 (a.u - b.u) (a.w - b.w) <= 32 * mn a.r b.r - 64
instance {a b : Spk} {dir : Int} {full : Bool} : Decidable (setS a b dir full) := by unfold setS; infer_instance
noncomputable def pcsL (dir : Int) : Nat -> Bool -> Spk -> Spk -> List Spk
 | 0, _, _, b => [b]
 | k + 1, full, a, b => if setS a b dir full then [b] else pcsL dir k false a (midS a b dir full) ++ pcsL dir k false (midS a b dir full) b
theorem pcsL_len {dir : Int} : ∀ (k : Nat) (full : Bool) (a b : Spk), 1 <= (pcsL dir k full a b).length /\ (pcsL dir k full a b).length <= 2 ^ k
 | 0, _, _, b => by simp [pcsL]
 | k + 1, full, a, b => by
  have hp : 0 < 2 ^ k := Nat.two_pow_pos _
  have e3 : 2 ^ (k + 1) = 2 ^ k + 2 ^ k := by rw [Nat.pow_succ]; omega
  unfold pcsL
  split
  ·simp; omega
  ·have h1 := pcsL_len k false a (midS a b dir full) (dir := dir)
   have h2 := pcsL_len k false (midS a b dir full) b (dir := dir)
   rw [List.length_append]
   omega
theorem pcsL_ok {dir : Int} (hd : dir = 1 \/ dir = -1) : ∀ (k : Nat) (full : Bool) {a b : Spk}, okS a -> okS b -> ∀ s ∈ pcsL dir k full a b, okS s
 | 0, _, a, b, _, hb, s, hs => by simp [pcsL] at hs; subst hs; exact hb
 | k + 1, full, a, b, ha, hb, s, hs => by
  unfold pcsL at hs
  have hm := midS_ok ha hb hd full
  split at hs
  ·simp at hs; subst hs; exact hb
  ·rcases List.mem_append.1 hs with hs | hs
   ·exact pcsL_ok hd k false ha hm s hs
   ·exact pcsL_ok hd k false hm hb s hs
end Go.Bm
/- the reference's chords -/
set_option maxRecDepth 100000
namespace Go.Bm

theorem isMid_unique {n i j : Int} (hi : IsMid n i) (hj : IsMid n j) : i = j := by
 have key : ∀ {i j : Int}, IsMid n i -> IsMid n j -> ¬ i < j := by
  rintro i j ⟨h1, h2, -⟩ ⟨h4, h5, h6⟩ hlt
  rcases h6 with h6 | h6
  ·omega
  ·have h7 := Int.mul_le_mul (show i <= j - 1 by omega) (show i + 1 <= j by omega) (by omega) (by omega)
   omega
 have h1 := key hi hj
 have h2 := key hj hi
 omega
open Classical in
noncomputable def midR (n : Int) : Int := if h : ∃ j, IsMid n j then Classical.choose h else 0
theorem midR_of {n k : Int} (h : IsMid n k) : midR n = k := by
 have hx : ∃ j, IsMid n j := ⟨k, h⟩
 unfold midR
 rw [dif_pos hx]
 exact isMid_unique (Classical.choose_spec hx) h
theorem isMid_nat {n r : Nat} (h1 : r * r <= n) (h2 : n < (r + 1) * (r + 1)) : IsMid n (if r * r + r < n then r + 1 else r : Nat) := by
 have e0 : (r + 1) * (r + 1) = r * r + r + r + 1 := by grind
 unfold IsMid
 by_cases c : r * r + r < n
 ·rw [if_pos c]
  have e1 : ((r + 1 : Nat) : Int) * (((r + 1 : Nat) : Int) + 1) = ((r * r + r + r + r + 2 : Nat) : Int) := by
   have : ((r + 1 : Nat) : Int) + 1 = ((r + 2 : Nat) : Int) := by omega
   rw [this, <- Int.natCast_mul]
   congr 1
   grind
  have e2 : (((r + 1 : Nat) : Int) - 1) * ((r + 1 : Nat) : Int) = ((r * r + r : Nat) : Int) := by
   rw [show ((r + 1 : Nat) : Int) - 1 = (r : Int) by omega, <- Int.natCast_mul]
   congr 1
  rw [e1, e2]
  generalize r * r = A at *
  exact ⟨by omega, by omega, .inr (by omega)⟩
 ·rw [if_neg c]
  have e1 : (r : Int) * ((r : Int) + 1) = ((r * r + r : Nat) : Int) := by
   rw [show (r : Int) + 1 = ((r + 1 : Nat) : Int) by omega, <- Int.natCast_mul]
   congr 1
  rw [e1]
  refine ⟨by omega, by omega, ?_⟩
  rcases Nat.eq_zero_or_pos r with h | h
  ·left; omega
  ·right
   have e2 : ((r : Int) - 1) * (r : Int) = (((r - 1) * r : Nat) : Int) := by
    rw [show (r : Int) - 1 = ((r - 1 : Nat) : Int) by omega]; exact (Int.natCast_mul _ _).symm
   have := Nat.mul_lt_mul_of_pos_right (show r - 1 < r by omega) h
   rw [e2]; omega
noncomputable def endS (it : Itm) (p : Pt) : Spk := ⟨dU it p * 16, dW it p * 16, midR (sq2 (dU it p * 16) (dW it p * 16)), plH it.plane p * 16⟩
theorem mid_bd {n : Nat} (hn : n <= 2251799813685248) : 0 <= midR n /\ midR n <= 50000000 := by
 obtain ⟨r, -, h2, h3, -⟩ := s_cncref23_root (n := n) (by omega)
 have hm := isMid_nat h2 h3
 rw [midR_of hm]
 have : r < 50000000 := by
  by_cases c : r < 50000000
  ·exact c
  ·have := Nat.mul_le_mul (show 50000000 <= r by omega) (show 50000000 <= r by omega)
   omega
 split <;> omega
theorem endS_sq {it : Itm} {p : Pt} (hc : bd 1048576 it.ce) (hp : bd 1048576 p) : (dU it p * 16).natAbs <= 33554432 /\ (dW it p * 16).natAbs <= 33554432 /\ 0 <= sq2 (dU it p * 16) (dW it p * 16) /\ sq2 (dU it p * 16) (dW it p * 16) <= 2251799813685248 := by
 obtain ⟨h1, h2⟩ := dU_bd hc hp
 have h3 : (dU it p * 16).natAbs <= 33554432 := by omega
 have h4 : (dW it p * 16).natAbs <= 33554432 := by omega
 have q1 := sq_bd h3
 have q2 := sq_bd h4
 refine ⟨h3, h4, ?_⟩
 unfold sq2
 omega
theorem endS_ok {it : Itm} {p : Pt} (hc : bd 1048576 it.ce) (hp : bd 1048576 p) : okS (endS it p) := by
 obtain ⟨h1, h2, h3, h4⟩ := endS_sq hc hp
 have h5 := (pl_bd (pl := it.plane) hp).2.2
 obtain ⟨n, hn⟩ := Int.eq_ofNat_of_zero_le h3
 refine ⟨Nat.le_trans h1 (by decide), Nat.le_trans h2 (by decide), ?_, ?_⟩
 ·show 0 <= midR _ /\ midR _ <= _
  rw [hn] at h4 ⊢
  exact mid_bd (by omega)
 ·show (plH it.plane p * 16).natAbs <= _
  omega
noncomputable def spokesP (it : Itm) : List Spk := endS it it.fr :: pcsL it.dir 16 it.full (endS it it.fr) (endS it it.to)
theorem spokesP_ok {it : Itm} (h : validI it) (h3 : it.kind = 3) : ∀ s ∈ spokesP it, okS s := by
 obtain ⟨-, h1, h2, ha⟩ := h
 obtain ⟨hp, hd, hc, -⟩ := ha h3
 intro s hs
 rcases List.mem_cons.1 hs with rfl | hs
 ·exact endS_ok hc h1
 ·exact pcsL_ok hd 16 _ (endS_ok hc h1) (endS_ok hc h2) s hs
theorem spokesP_len (it : Itm) : 2 <= (spokesP it).length /\ (spokesP it).length <= 65537 := by
 have := pcsL_len (dir := it.dir) 16 it.full (endS it it.fr) (endS it it.to)
 have e : (2 : Nat) ^ 16 = 65536 := rfl
 rw [e] at this
 unfold spokesP
 rw [List.length_cons]
 omega
noncomputable def chPt (it : Itm) (s : Spk) : Pt := spP it.plane (plU it.plane (fine it.ce) + s.u) (plW it.plane (fine it.ce) + s.w) s.h
noncomputable def chordsP (it : Itm) : List Pt := if it.kind = 3 then (spokesP it).map (chPt it) else [fine it.fr, fine it.to]
theorem sp_bd {pl u w h : Int} {b : Nat} (hu : u.natAbs <= b) (hw : w.natAbs <= b) (hh : h.natAbs <= b) : bd b (spP pl u w h) := by
 unfold spP bd
 split
 ·exact ⟨hu, hw, hh⟩
 ·split
  ·exact ⟨hw, hh, hu⟩
  ·exact ⟨hh, hu, hw⟩
end Go.Bm
/- which points are near an arc: the reference's answer -/
set_option maxRecDepth 100000
namespace Go.Bm
open Classical

theorem crs_swap (u w x y : Int) : crs x y u w = -crs u w x y := by unfold crs; grind
theorem id_dot (u w x y s t : Int) : dt2 u w s t * crs u w x y - crs u w s t * dt2 u w x y = sq2 u w * crs s t x y := by unfold dt2 crs sq2; grind
end Go.Bm
/- the middle of a piece of an arc: how far rounding moves it, and that it lies between the ends -/
set_option maxRecDepth 100000
namespace Go.Bm
open Classical

theorem le_of_sq {a b : Int} (hb : 0 <= b) (h : a * a <= b * b) : a <= b := by
 by_cases c : a <= b
 ·exact c
 ·have := Int.mul_self_lt_mul_self hb (show b < a by omega)
  omega
theorem lt_of_sq {a b : Int} (hb : 0 <= b) (h : a * a < b * b) : a < b := by
 by_cases c : a < b
 ·exact c
 ·have := Int.mul_self_le_mul_self hb (show b <= a by omega)
  omega
theorem near_facts {u R n : Int} (hu : u.natAbs <= 100000000) (hR : 0 <= R /\ R <= 50000000) (hn : 0 < n /\ n <= 20000000000000000) (hq : u * u <= n) :
  ∃ j : Nat, nearR u R n = (if u < 0 then -(j : Int) else (j : Int)) /\ (j = 0 \/ (2 * (j : Int) - 1) * (2 * (j : Int) - 1) * n <= (2 * (u.natAbs * R)) * (2 * (u.natAbs * R))) /\ (2 * (u.natAbs * R)) * (2 * (u.natAbs * R)) <= (2 * (j : Int) + 1) * (2 * (j : Int) + 1) * n /\ (j : Int) <= R := by
 obtain ⟨-, -, g3⟩ := s_cncref23_Near (x := u) (r := R) (n := n) (Nat.le_trans hu (by decide)) (by omega) (by omega) hq
 have hl : (nearR u R n).natAbs <= R.natAbs := by
  refine isRnd_le (by omega) ?_ g3
  have : ((u.natAbs * u.natAbs : Nat) : Int) = u * u := Int.natAbs_mul_self
  omega
 obtain ⟨r, rfl⟩ := Int.eq_ofNat_of_zero_le hR.1
 obtain ⟨m, rfl⟩ := Int.eq_ofNat_of_zero_le (show 0 <= n by omega)
 refine ⟨(nearR u r m).natAbs, ?_, ?_, ?_, by omega⟩
 ·unfold nearR
  by_cases c : u < 0
  ·rw [if_pos c, if_pos c]; omega
  ·rw [if_neg c, if_neg c]; omega
 all_goals
  generalize (nearR u r m).natAbs = j at *
  simp only [Int.natAbs_natCast] at g3
  generalize u.natAbs = x at *
  obtain ⟨p1, p2⟩ := g3
 ·rcases p1 with p1 | p1
  ·exact .inl p1
  ·by_cases c0 : j = 0
   ·exact .inl c0
   right
   have p3 : (2 * j - 1) * (2 * j - 1) * m <= 4 * (x * r * (x * r)) := by
    split at p1 <;> omega
   have e1 : ((2 * j - 1 : Nat) : Int) = 2 * (j : Int) - 1 := by omega
   have p4 : (((2 * j - 1) * (2 * j - 1) * m : Nat) : Int) <= ((4 * (x * r * (x * r)) : Nat) : Int) := by omega
   rw [Int.natCast_mul, Int.natCast_mul, e1] at p4
   refine Int.le_trans p4 (Int.le_of_eq ?_)
   simp only [Int.natCast_mul]
   grind
 ·have p3 : 4 * (x * r * (x * r)) <= (2 * j + 1) * (2 * j + 1) * m := by
   split at p2 <;> omega
  have p4 : ((4 * (x * r * (x * r)) : Nat) : Int) <= (((2 * j + 1) * (2 * j + 1) * m : Nat) : Int) := by omega
  refine Int.le_trans (Int.le_of_eq ?_) (Int.le_trans p4 (Int.le_of_eq ?_))
  ·simp only [Int.natCast_mul]; grind
  ·simp only [Int.natCast_mul, Int.natCast_add]; rfl
theorem near_err {u R n S : Int} (hu : u.natAbs <= 100000000) (hR : 0 <= R /\ R <= 50000000) (hn : 0 < n /\ n <= 20000000000000000) (hq : u * u <= n) (hS : 0 <= S /\ S * S <= n /\ n < (S + 1) * (S + 1)) :
  -(S + 2 * R + 1) <= 2 * nearR u R n * S - 2 * (u * R) /\ 2 * nearR u R n * S - 2 * (u * R) <= S + 2 * R + 1 := by
 obtain ⟨j, e, h1, h2, h3⟩ := near_facts hu hR hn hq
 have hx : 0 <= (u.natAbs : Int) * R := Int.mul_nonneg (by omega) hR.1
 have k1 : 2 * (j : Int) * S - 2 * (u.natAbs * R) <= S := by
  rcases h1 with h1 | h1
  ·rw [h1]; simp; omega
  ·by_cases c0 : j = 0
   ·rw [c0]; simp; omega
   ·have : (2 * (j : Int) - 1) * S <= 2 * (u.natAbs * R) := by
     refine le_of_sq (by omega) (Int.le_trans ?_ h1)
     have e2 : (2 * (j : Int) - 1) * S * ((2 * (j : Int) - 1) * S) = (2 * (j : Int) - 1) * (2 * (j : Int) - 1) * (S * S) := by grind
     rw [e2]
     exact Int.mul_le_mul_of_nonneg_left hS.2.1 (sq_nn _)
    have e3 : (2 * (j : Int) - 1) * S = 2 * (j : Int) * S - S := by grind
    omega
 have k2 : 2 * (u.natAbs * R) <= 2 * (j : Int) * S + S + 2 * j + 1 := by
  have : 2 * (u.natAbs * R) <= (2 * (j : Int) + 1) * (S + 1) := by
   refine le_of_sq (Int.mul_nonneg (by omega) (by omega)) (Int.le_trans h2 ?_)
   have e2 : (2 * (j : Int) + 1) * (S + 1) * ((2 * (j : Int) + 1) * (S + 1)) = (2 * (j : Int) + 1) * (2 * (j : Int) + 1) * ((S + 1) * (S + 1)) := by grind
   rw [e2]
   exact Int.mul_le_mul_of_nonneg_left (by omega) (sq_nn _)
  have e3 : (2 * (j : Int) + 1) * (S + 1) = 2 * (j : Int) * S + S + 2 * j + 1 := by grind
  omega
 rw [e]
 by_cases c : u < 0
 ·rw [if_pos c]
  have e1 : (u.natAbs : Int) = -u := by omega
  rw [e1] at k1 k2
  have e2 : -u * R = -(u * R) := by grind
  rw [e2] at k1 k2
  have e3 : 2 * -(j : Int) * S = -(2 * (j : Int) * S) := by grind
  rw [e3]
  omega
 ·rw [if_neg c]
  have e1 : (u.natAbs : Int) = u := by omega
  rw [e1] at k1 k2
  omega
theorem near_norm {u w R : Int} (hu : u.natAbs <= 100000000) (hw : w.natAbs <= 100000000) (hR : 1 <= R /\ R <= 50000000) (h0 : ¬ (u = 0 /\ w = 0)) :
  (R - 1) * (R - 1) <= sq2 (nearR u R (sq2 u w)) (nearR w R (sq2 u w)) /\ sq2 (nearR u R (sq2 u w)) (nearR w R (sq2 u w)) <= (R + 1) * (R + 1) := by
 have hp := sq2_pos h0
 have b1 := sq_bd hu
 have b2 := sq_bd hw
 have hn : sq2 u w <= 20000000000000000 := by unfold sq2; omega
 obtain ⟨q1, q2⟩ := sq2_sq u w
 obtain ⟨j, e1, h1, h2, h3⟩ := near_facts hu ⟨by omega, hR.2⟩ ⟨hp, hn⟩ q1
 obtain ⟨i, e2, g1, g2, g3⟩ := near_facts hw ⟨by omega, hR.2⟩ ⟨hp, hn⟩ q2
 have hs : ∀ (c : Prop) [Decidable c] (j : Nat), (if c then -(j : Int) else (j : Int)) * (if c then -(j : Int) else (j : Int)) = (j : Int) * j := by
  intro c _ j
  by_cases h : c
  ·rw [if_pos h]; grind
  ·rw [if_neg h]
 have esq : sq2 (nearR u R (sq2 u w)) (nearR w R (sq2 u w)) = (j : Int) * j + (i : Int) * i := by
  rw [e1, e2]
  unfold sq2
  rw [hs, hs]
 rw [esq]
 have eU : (2 * ((u.natAbs : Int) * R)) * (2 * (u.natAbs * R)) + (2 * ((w.natAbs : Int) * R)) * (2 * (w.natAbs * R)) = (2 * R) * (2 * R) * sq2 u w := by
  have a1 : (u.natAbs : Int) * u.natAbs = u * u := Int.natAbs_mul_self
  have a2 : (w.natAbs : Int) * w.natAbs = w * w := Int.natAbs_mul_self
  unfold sq2
  rw [<- a1, <- a2]
  grind
 generalize (2 * ((u.natAbs : Int) * R)) * (2 * (u.natAbs * R)) = U at *
 generalize (2 * ((w.natAbs : Int) * R)) * (2 * (w.natAbs * R)) = W at *
 generalize sq2 u w = n at *
 clear e1 e2 esq hs b1 b2 q1 q2 hu hw h0
 have hU : 0 <= U \/ True := .inr trivial
 constructor
 · -- from below
  have k1 : (2 * R) * (2 * R) * n <= ((2 * (j : Int) + 1) * (2 * (j : Int) + 1) + (2 * (i : Int) + 1) * (2 * (i : Int) + 1)) * n := by
   rw [Int.add_mul]; omega
  have k2 := Int.le_of_mul_le_mul_right k1 hp
  have k3 : (2 * (j : Int) + 1) * (2 * (j : Int) + 1) + (2 * (i : Int) + 1) * (2 * (i : Int) + 1) = 4 * ((j : Int) * j + (i : Int) * i) + 4 * ((j : Int) + i) + 2 := by grind
  have k4 : (2 * R) * (2 * R) = 4 * (R * R) := by grind
  have k5 : (R - 1) * (R - 1) = R * R - 2 * R + 1 := by grind
  by_cases c : 2 * ((j : Int) + i) <= 3 * (R - 1)
  ·omega
  ·have k6 : (3 * (R - 1)) * (3 * (R - 1)) <= (2 * ((j : Int) + i)) * (2 * ((j : Int) + i)) := Int.mul_self_le_mul_self (by omega) (by omega)
   have k7 : (2 * ((j : Int) + i)) * (2 * ((j : Int) + i)) = 8 * ((j : Int) * j + (i : Int) * i) - 4 * (((j : Int) - i) * ((j : Int) - i)) := by grind
   have k8 := sq_nn ((j : Int) - i)
   have k9 : (3 * (R - 1)) * (3 * (R - 1)) = 9 * ((R - 1) * (R - 1)) := by grind
   have k10 := sq_nn (R - 1)
   omega
 ·have k5 : (R + 1) * (R + 1) = R * R + 2 * R + 1 := by grind
  have jj : (j : Int) * j <= R * R := Int.mul_self_le_mul_self (by omega) h3
  have ii : (i : Int) * i <= R * R := Int.mul_self_le_mul_self (by omega) g3
  rcases h1 with h1 | h1
  ·rw [h1]; simp; omega
  rcases g1 with g1 | g1
  ·rw [g1]; simp; omega
  by_cases cj : j = 0
  ·rw [cj]; simp; omega
  by_cases ci : i = 0
  ·rw [ci]; simp; omega
  have k1 : ((2 * (j : Int) - 1) * (2 * (j : Int) - 1) + (2 * (i : Int) - 1) * (2 * (i : Int) - 1)) * n <= (2 * R) * (2 * R) * n := by
   rw [Int.add_mul]; omega
  have k2 := Int.le_of_mul_le_mul_right k1 hp
  have k3 : (2 * (j : Int) - 1) * (2 * (j : Int) - 1) + (2 * (i : Int) - 1) * (2 * (i : Int) - 1) = 4 * ((j : Int) * j + (i : Int) * i) - 4 * ((j : Int) + i) + 2 := by grind
  have k4 : (2 * R) * (2 * R) = 4 * (R * R) := by grind
  -- p + q is at most 3 R
  have k6 : (2 * (j : Int) - 1) + (2 * (i : Int) - 1) <= 3 * R := by
   refine le_of_sq (by omega) ?_
   have e4 : ((2 * (j : Int) - 1) + (2 * (i : Int) - 1)) * ((2 * (j : Int) - 1) + (2 * (i : Int) - 1)) = 2 * ((2 * (j : Int) - 1) * (2 * (j : Int) - 1) + (2 * (i : Int) - 1) * (2 * (i : Int) - 1)) - ((2 * (j : Int) - 1) - (2 * (i : Int) - 1)) * ((2 * (j : Int) - 1) - (2 * (i : Int) - 1)) := by grind
   have e5 := sq_nn ((2 * (j : Int) - 1) - (2 * (i : Int) - 1))
   have e6 : 3 * R * (3 * R) = 9 * (R * R) := by grind
   have e7 := sq_nn R
   rw [e4, e6]
   omega
  omega
end Go.Bm
/- the middle of a piece of an arc lies between its ends -/
set_option maxRecDepth 100000
namespace Go.Bm
open Classical

structure Sp (s : Spk) : Prop where
 ok : okS s
 r : 128 <= s.r
 norm : (s.r - 1) * (s.r - 1) <= sq2 s.u s.w /\ sq2 s.u s.w <= (s.r + 1) * (s.r + 1)
theorem comp_le {u w M : Int} (hM : 0 <= M) (h : sq2 u w <= M * M) : (u.natAbs : Int) <= M /\ (w.natAbs : Int) <= M := by
 obtain ⟨h1, h2⟩ := sq2_sq u w
 have a1 : (u.natAbs : Int) * u.natAbs = u * u := Int.natAbs_mul_self
 have a2 : (w.natAbs : Int) * w.natAbs = w * w := Int.natAbs_mul_self
 exact ⟨le_of_sq hM (by omega), le_of_sq hM (by omega)⟩
theorem mul_ge {x y E : Int} (hy : -E <= y /\ y <= E) : -(x.natAbs * E) <= x * y := by
 have h : (x * y).natAbs = x.natAbs * y.natAbs := Int.natAbs_mul x y
 have h2 : x.natAbs * y.natAbs <= x.natAbs * E.natAbs := Nat.mul_le_mul_left _ (by omega)
 have h3 : ((x.natAbs * E.natAbs : Nat) : Int) = x.natAbs * E := by rw [Int.natCast_mul]; congr 1; omega
 omega
theorem side {p q u w R S dir : Int} (hd : dir = 1 \/ dir = -1) (hu : u.natAbs <= 100000000) (hw : w.natAbs <= 100000000) (hR : 1 <= R /\ R <= 50000000) (h0 : ¬ (u = 0 /\ w = 0)) (hS : 0 <= S /\ S * S <= sq2 u w /\ sq2 u w < (S + 1) * (S + 1))
  (h : (p.natAbs + q.natAbs) * (S + 2 * R + 1) < 2 * R * (crs p q u w * dir)) : 0 < crs p q (nearR u R (sq2 u w)) (nearR w R (sq2 u w)) * dir := by
 have hp := sq2_pos h0
 have b1 := sq_bd hu
 have b2 := sq_bd hw
 have hn : sq2 u w <= 20000000000000000 := by unfold sq2; omega
 obtain ⟨q1, q2⟩ := sq2_sq u w
 have e1 := near_err hu ⟨by omega, hR.2⟩ ⟨hp, hn⟩ q1 hS
 have e2 := near_err hw ⟨by omega, hR.2⟩ ⟨hp, hn⟩ q2 hS
 generalize nearR u R (sq2 u w) = a at *
 generalize nearR w R (sq2 u w) = b at *
 have hE : 0 <= S + 2 * R + 1 := by omega
 generalize S + 2 * R + 1 = E at *
 have m1 := mul_ge (x := p) (y := (2 * b * S - 2 * (w * R)) * dir) (E := E) (by rcases hd with rfl | rfl <;> omega)
 have m2 := mul_ge (x := -q) (y := (2 * a * S - 2 * (u * R)) * dir) (E := E) (by rcases hd with rfl | rfl <;> omega)
 have e3 : ((-q).natAbs : Int) = q.natAbs := by omega
 rw [e3] at m2
 have key : 2 * S * (crs p q a b * dir) = 2 * R * (crs p q u w * dir) + p * ((2 * b * S - 2 * (w * R)) * dir) + -q * ((2 * a * S - 2 * (u * R)) * dir) := by unfold crs; grind
 have hpos : 0 < 2 * S * (crs p q a b * dir) := by
  rw [Int.add_mul] at h
  omega
 by_cases c : 0 < crs p q a b * dir
 ·exact c
 ·have : 2 * S * (crs p q a b * dir) <= 0 := Int.mul_nonpos_of_nonneg_of_nonpos (by omega) (by omega)
  omega
theorem root_ex {n : Int} (h : 0 <= n /\ n <= 4000000000000000000) : ∃ S : Int, 0 <= S /\ S * S <= n /\ n < (S + 1) * (S + 1) := by
 obtain ⟨m, rfl⟩ := Int.eq_ofNat_of_zero_le h.1
 obtain ⟨r, -, h2, h3, -⟩ := s_cncref23_root (n := m) (by omega)
 refine ⟨r, by omega, ?_, ?_⟩
 ·rw [<- Int.natCast_mul]; omega
 ·have : ((r : Int) + 1) * ((r : Int) + 1) = (((r + 1) * (r + 1) : Nat) : Int) := by simp
  rw [this]; omega
theorem pos_poly (t : Int) (ht : 0 <= t) : ((2 * (t + 128) + 33) * 35) * ((2 * (t + 128) + 33) * 35) + 324 * ((t + 128) * (t + 128)) < (32 * (t + 128) - 63) * (2 * ((t + 127) * (t + 127))) := by
 have h2 : 0 <= t * t := Int.mul_nonneg ht ht
 have h3 : 0 <= t * t * t := Int.mul_nonneg h2 ht
 have e1 : ((2 * (t + 128) + 33) * 35) * ((2 * (t + 128) + 33) * 35) = 4900 * (t * t) + 1416100 * t + 102313225 := by grind
 have e2 : 324 * ((t + 128) * (t + 128)) = 324 * (t * t) + 82944 * t + 5308416 := by grind
 have e3 : (32 * (t + 128) - 63) * (2 * ((t + 127) * (t + 127))) = 64 * (t * t * t) + 24322 * (t * t) + 3081020 * t + 130096514 := by grind
 omega
theorem cut_sine {A B D d X p : Int} (h1 : D = A + B - 2 * d) (h2 : X * X + d * d = A * B) (hd : 0 < d) (hp : 128 <= p) (hA : (p - 1) * (p - 1) <= A) (hB : (p - 1) * (p - 1) <= B) (hD : 32 * p - 64 < D)
  (hAB : -((2 * p + 33) * 35) <= A - B /\ A - B <= (2 * p + 33) * 35) (hX : 0 < X) : 9 * p < X := by
 have e1 : 4 * (X * X) = 2 * (D * (A + B)) - D * D - (A - B) * (A - B) := by
  have : X * X = A * B - d * d := by omega
  rw [this, h1]; grind
 have k1 : D * D <= D * (A + B) := Int.mul_le_mul_of_nonneg_left (by omega) (by omega)
 have k2 : (A - B) * (A - B) <= ((2 * p + 33) * 35) * ((2 * p + 33) * 35) := by
  have : (A - B).natAbs <= ((2 * p + 33) * 35).natAbs := by omega
  have h := Nat.mul_le_mul this this
  have a1 : ((A - B).natAbs : Int) * (A - B).natAbs = (A - B) * (A - B) := Int.natAbs_mul_self
  have a2 : (((2 * p + 33) * 35).natAbs : Int) * ((2 * p + 33) * 35).natAbs = ((2 * p + 33) * 35) * ((2 * p + 33) * 35) := Int.natAbs_mul_self
  rw [<- a1, <- a2, <- Int.natCast_mul, <- Int.natCast_mul]
  omega
 have n0 := sq_nn (p - 1)
 have k3 : (32 * p - 63) * (2 * ((p - 1) * (p - 1))) <= D * (A + B) := Int.mul_le_mul (by omega) (by omega) (by omega) (by omega)
 have k4 := pos_poly (p - 128) (by omega)
 rw [show p - 128 + 128 = p by omega, show p - 128 + 127 = p - 1 by omega] at k4
 refine lt_of_sq (by omega) ?_
 have e2 : 9 * p * (9 * p) = 81 * (p * p) := by grind
 rw [e2]
 omega
end Go.Bm
