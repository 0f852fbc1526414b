/- products divided and rounded: wide.MulDiv and the reference's Rounded -/
import Derived.Test.YtdllaekpkcanbaaPrD
import Derived.Test.YtdllaekpkcanbaaMx1
set_option linter.unusedVariables false
set_option linter.unusedSimpArgs false
set_option maxRecDepth 100000
namespace Go.Bm

/-- a / b, rounded to the nearest integer, a half upward -/
def near (a b : Int) : Int := (2 * a + b) / (2 * b)
theorem near_of {a b k : Int} (hb : 0 < b) (h1 : k * (2 * b) ≤ 2 * a + b) (h2 : 2 * a + b < (k + 1) * (2 * b)) : near a b = k := by
  unfold near
  have g1 : k ≤ (2 * a + b) / (2 * b) := (Int.le_ediv_iff_mul_le (by omega)).2 h1
  have g2 : (2 * a + b) / (2 * b) < k + 1 := (Int.ediv_lt_iff_lt_mul (by omega)).2 h2
  omega
theorem near_spec {a b : Int} (hb : 0 < b) : near a b * (2 * b) ≤ 2 * a + b ∧ 2 * a + b < (near a b + 1) * (2 * b) := by
  unfold near
  exact ⟨(Int.le_ediv_iff_mul_le (by omega)).1 (Int.le_refl _), (Int.ediv_lt_iff_lt_mul (by omega)).1 (Int.lt_add_one_of_le (Int.le_refl _))⟩
theorem s_cncref24_Rounded {a b : Int} (hb : 0 < b ∧ b ≤ 1152921504606846976) (ha : a.natAbs ≤ 2305843009213693952) : m_cncref24_Rounded [I a, I b] = some [I (near a b)] := by
  unfold m_cncref24_Rounded
  rw [mf_cncref24_Rounded_eq, wrap_id (x := 2 * a) (by omega), wrap_id (x := 2 * a + b) (by omega), wrap_id (x := 2 * b) (by omega)]
  have hm := Int.tmod_add_mul_tdiv (2 * a + b) (2 * b)
  have h1 := Int.tmod_lt_of_pos (2 * a + b) (show 0 < 2 * b by omega)
  have h2 := Int.lt_tmod_of_pos (2 * a + b) (show 0 < 2 * b by omega)
  have hq : ((2 * a + b).tdiv (2 * b)).natAbs ≤ (2 * a + b).natAbs := by rw [Int.natAbs_tdiv]; exact Nat.div_le_self _ _
  generalize hx : (2 * a + b).tdiv (2 * b) = q at *
  generalize (2 * a + b).tmod (2 * b) = r at *
  have e1 : 2 * b * q = q * (2 * b) := Int.mul_comm _ _
  rw [bif_neg (by omega), bif_neg (by omega), wrap_id (x := q) (by omega)]
  by_cases h : r < 0
  · rw [bif_pos h, wrap_id (by omega), near_of (k := q - 1) hb.1]
    · rw [Int.sub_mul]; omega
    · rw [Int.sub_add_cancel]; omega
  · rw [bif_neg h, near_of (k := q) hb.1]
    · omega
    · rw [Int.add_mul]; omega

theorem s_bits_Div64_0 {p c : Nat} (hp : p < w64) (hc : 0 < c) : m_bits_Div64 [U 0, U p, U c] = some [U ((p / c : Nat) : Int), U ((p % c : Nat) : Int)] := by
  rw [w64_eq] at hp
  have h1 : (p : Int).tdiv (c : Int) = ((p / c : Nat) : Int) := by rw [Int.tdiv_eq_ediv_of_nonneg (by omega)]; simp
  have h2 : (p : Int).tmod (c : Int) = ((p % c : Nat) : Int) := by rw [Int.tmod_eq_emod_of_nonneg (by omega)]; simp
  have h3 : p / c ≤ p := Nat.div_le_self _ _
  unfold m_bits_Div64
  generalize m_bits_LeadingZeros64 = M
  generalize l_bits_Div64_17 = N1
  generalize l_bits_Div64_24 = N2
  rw [mf_bits_Div64_eq]
  rw [bif_false (by simp; omega), bif_neg (by omega), bif_true (by simp), bif_neg (by omega), bif_neg (by omega), h1, h2]
  generalize p / c = q at *
  rw [uwrap_id (by omega)]
theorem s_wide_grows2 (more : Int) (some_ neg : Bool) : m_wide_grows [I 2, I more, B some_, B neg] = some [B (if more > 0 then true else if more = 0 then !neg else false)] := by
  unfold m_wide_grows
  rw [mf_wide_grows_eq]
  simp only [go_sem]
  rw [if_neg (by omega), if_neg (by omega)]
  repeat' split
  all_goals rfl
theorem s_wide_signed_neg {n : Nat} (h : n ≤ 9223372036854775808) : m_wide_signed [U n, B true] = some [I (-(n : Int)), B true] := by
  unfold m_wide_signed
  rw [mf_wide_signed_eq]
  simp only [go_sem]
  rw [if_pos (by omega), uwrap_mod, wrap_def]
  have : ((0 - (n : Int)) % 18446744073709551616 + 9223372036854775808) % 18446744073709551616 - 9223372036854775808 = -(n : Int) := by omega
  rw [this]

/-- the whole part, rounded -/
def rndN (q r c : Nat) (neg : Bool) : Nat := if r > c - r then q + 1 else if r < c - r then q else if neg then q else q + 1
theorem a_wide_MulDiv {M1 M2 M3 M4 M5 M6 M7 : List AC → Option (List AC)} {a b s : Int} {A C p q r c : Nat} (hc0 : 0 < c) (hc1 : c < 9223372036854775808) (hr : r < c) (hq : q < 9223372036854775807)
    (k1 : M7 [I 2] = some [B true]) (k2 : M6 [I a] = some [U A]) (k3 : M6 [I b] = some [U C]) (k4 : M6 [I c] = some [U c]) (k5 : M5 [U A, U C] = some [U 0, U p]) (k6 : M4 [U 0, U p, U c] = some [U q, U r]) (k7 : M3 [I a, I b] = some [I s])
    (k8 : ∀ (more : Int) (some_ neg : Bool), M2 [I 2, I more, B some_, B neg] = some [B (if more > 0 then true else if more = 0 then !neg else false)])
    (k9 : ∀ k : Nat, k < 9223372036854775808 → M1 [U k, B false] = some [I k, B true]) (k10 : ∀ k : Nat, k < 9223372036854775808 → M1 [U k, B true] = some [I (-(k : Int)), B true]) :
    mf_wide_MulDiv M1 M2 M3 M4 M5 M6 M7 [I a, I b, I c, I 2] = some [I (if s < 0 then -(rndN q r c true : Int) else (rndN q r c false : Int)), B true] := by
  have w1 : IntKind.u64.wrap ((c : Int) - (r : Int)) = ((c - r : Nat) : Int) := by rw [uwrap_id (by omega)]; omega
  have w2 : IntKind.u64.wrap ((q : Int) + 1) = ((q + 1 : Nat) : Int) := by rw [uwrap_id (by omega)]; omega
  have n1 := k9 q (by omega)
  have n2 := k9 (q + 1) (by omega)
  rw [mf_wide_MulDiv_eq]
  simp only [go_sem, k1, k2, k3, k4, k5, k6, k7, k8, w1, w2, n1, n2]
  rw [if_neg (by omega), if_neg (by simp), if_neg (by omega)]
  by_cases hs : s < 0
  · rw [if_pos hs]
    rw [if_pos (show ¬(s < 0 ↔ (c : Int) < 0) by omega)]
    have hne : (s != 0) = true := by simp; omega
    rw [hne]
    unfold rndN
    by_cases g1 : r > c - r
    · rw [if_pos g1]
      rw [if_pos (show (r : Int) > ((c - r : Nat) : Int) by omega), if_pos (by decide), if_neg (show ¬ ((q + 1 : Nat) : Int) = 0 by omega), k10 (q + 1) (by omega)]
      simp only [go_sem]
    · rw [if_neg g1]
      rw [if_neg (show ¬ (r : Int) > ((c - r : Nat) : Int) by omega)]
      by_cases g2 : r < c - r
      · rw [if_pos g2]
        rw [if_pos (show (r : Int) < ((c - r : Nat) : Int) by omega), if_neg (by decide), k10 q (by omega)]
        simp only [go_sem]
      · rw [if_neg g2, if_pos rfl]
        rw [if_neg (show ¬ (r : Int) < ((c - r : Nat) : Int) by omega), if_neg (by decide), k10 q (by omega)]
        simp only [go_sem]
  · rw [if_neg hs]
    rw [if_neg (show ¬¬(s < 0 ↔ (c : Int) < 0) by omega)]
    unfold rndN
    by_cases g1 : r > c - r
    · rw [if_pos g1, if_pos (show (r : Int) > ((c - r : Nat) : Int) by omega), if_pos (by decide), if_neg (show ¬ ((q + 1 : Nat) : Int) = 0 by omega)]
    · rw [if_neg g1, if_neg (show ¬ (r : Int) > ((c - r : Nat) : Int) by omega)]
      by_cases g2 : r < c - r
      · rw [if_pos g2, if_pos (show (r : Int) < ((c - r : Nat) : Int) by omega), if_neg (by decide)]
      · rw [if_neg g2, if_neg (show ¬ (r : Int) < ((c - r : Nat) : Int) by omega), if_pos (by decide), if_neg (show ¬ ((q + 1 : Nat) : Int) = 0 by omega), if_neg (by decide)]

theorem rndN_false (q r c : Nat) : rndN q r c false = if r < c - r then q else q + 1 := by
  unfold rndN
  by_cases h1 : r > c - r
  · rw [if_pos h1, if_neg (by omega)]
  · rw [if_neg h1]
    by_cases h2 : r < c - r
    · rw [if_pos h2, if_pos h2]
    · rw [if_neg h2, if_neg h2, if_neg (by simp)]
theorem rndN_true (q r c : Nat) : rndN q r c true = if r > c - r then q + 1 else q := by
  unfold rndN
  by_cases h1 : r > c - r
  · rw [if_pos h1, if_pos h1]
  · rw [if_neg h1, if_neg h1]
    by_cases h2 : r < c - r
    · rw [if_pos h2]
    · rw [if_neg h2, if_pos rfl]
theorem near_pos {p q r c : Nat} (hc : 0 < c) (h : p = c * q + r) (hr : r < c) : near p c = rndN q r c false := by
  have e : (p : Int) = (c : Int) * q + r := by rw [h]; simp
  have e3 : (q : Int) * (2 * c) = 2 * ((c : Int) * q) := by grind
  have e4 : ((q + 1 : Nat) : Int) * (2 * c) = 2 * ((c : Int) * q) + 2 * c := by grind
  have e5 : ((q : Int) + 1) * (2 * c) = 2 * ((c : Int) * q) + 2 * c := by grind
  have e6 : (((q + 1 : Nat) : Int) + 1) * (2 * c) = 2 * ((c : Int) * q) + 4 * c := by grind
  rw [rndN_false]
  by_cases g : r < c - r
  · rw [if_pos g]
    exact near_of (by omega) (by rw [e3]; omega) (by rw [e5]; omega)
  · rw [if_neg g]
    exact near_of (by omega) (by rw [e4]; omega) (by rw [e6]; omega)
theorem near_neg {p q r c : Nat} (hc : 0 < c) (h : p = c * q + r) (hr : r < c) : near (-(p : Int)) c = -(rndN q r c true : Int) := by
  have e : (p : Int) = (c : Int) * q + r := by rw [h]; simp
  have e3 : -(q : Int) * (2 * c) = -(2 * ((c : Int) * q)) := by grind
  have e4 : -((q + 1 : Nat) : Int) * (2 * c) = -(2 * ((c : Int) * q)) - 2 * c := by grind
  have e5 : (-(q : Int) + 1) * (2 * c) = -(2 * ((c : Int) * q)) + 2 * c := by grind
  have e6 : (-((q + 1 : Nat) : Int) + 1) * (2 * c) = -(2 * ((c : Int) * q)) := by grind
  rw [rndN_true]
  by_cases g : r > c - r
  · rw [if_pos g]
    exact near_of (by omega) (by rw [e4]; omega) (by rw [e6]; omega)
  · rw [if_neg g]
    exact near_of (by omega) (by rw [e3]; omega) (by rw [e5]; omega)
/-- a * b / c, rounded to the nearest integer -/
theorem s_wide_MulDiv {a b c : Int} (ha : i64 a) (hb : i64 b) (hc : 0 < c ∧ c < 9223372036854775808) (hp : a.natAbs * b.natAbs < 9223372036854775807) : m_wide_MulDiv [I a, I b, I c, I 2] = some [I (near (a * b) c), B true] := by
  obtain ⟨hi, lo, e1, e2, e3⟩ := s_wide_product' (i64_abs ha) (i64_abs hb)
  have hm := sgn_mul a b
  have hs := sgn_cases a b
  have hz : a * b = 0 → a.natAbs * b.natAbs = 0 := fun h => by rw [← Int.natAbs_mul, h]; rfl
  generalize a.natAbs * b.natAbs = p at *
  have hhi : hi = 0 := by
    rcases Nat.eq_zero_or_pos hi with h | h
    · exact h
    · have := Nat.mul_le_mul_right w64 h
      have := w64_eq
      omega
  subst hhi
  have hlo : lo = p := by omega
  subst hlo
  obtain ⟨n, rfl⟩ := Int.eq_ofNat_of_zero_le (show 0 ≤ c by omega)
  have hn : 0 < n := by omega
  have h1 := Nat.div_add_mod lo n
  have h2 := Nat.mod_lt lo hn
  have h3 : lo / n ≤ lo := Nat.div_le_self _ _
  have hd := s_bits_Div64_0 e3 hn
  have hcs := s_wide_size (x := (n : Int)) (by unfold i64; omega)
  rw [Int.natAbs_natCast] at hcs
  generalize lo / n = q at *
  generalize lo % n = r at *
  have hmain := a_wide_MulDiv (M1 := m_wide_signed) (M2 := m_wide_grows) (M3 := m_wide_sign) (M4 := m_bits_Div64) (M5 := m_wide_product) (M6 := m_wide_size) (M7 := m_wide_known) hn (by omega) h2 (by omega)
    (s_wide_known (.inr (.inr rfl))) (s_wide_size ha) (s_wide_size hb) hcs e1 hd (s_wide_sign a b) s_wide_grows2 (fun k hk => s_wide_signed hk) (fun k hk => s_wide_signed_neg (by omega))
  have hv : (if sgn a b < 0 then -(rndN q r n true : Int) else (rndN q r n false : Int)) = near (a * b) n := by
    rcases hs with ⟨g1, g2⟩ | ⟨g1, g2⟩ | ⟨g1, g2⟩
    · rw [if_neg (by omega), g2]
      rw [g1] at hm
      have : lo = 0 := hz g2
      rw [← near_pos hn h1.symm h2, this]; rfl
    · rw [if_neg (by omega), ← near_pos hn h1.symm h2, ← hm, g1, Int.one_mul]
    · rw [if_pos (by omega), ← near_neg hn h1.symm h2, ← hm, g1, Int.neg_mul, Int.one_mul]
  rw [hv] at hmain
  exact hmain
end Go.Bm
