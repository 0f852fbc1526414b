/- laid together -/
import Derived.Test.YtdllaekpkcanbaaGreatMx5
import Derived.Test.YtdllaekpkcanbaaGreatBmTy
set_option linter.unusedVariables false
set_option linter.unusedSimpArgs false
/- what the functions of package wide and of layer 1's reference give -/
set_option maxRecDepth 100000
namespace Go.Bm

theorem s_wide_size {x : Int} (h : i64 x) : m_wide_size [I x] = some [U (x.natAbs : Int)] := by
 unfold i64 at h
 unfold m_wide_size
 rw [mf_wide_size_eq]
 by_cases hx : x < 0
 ·rw [bif_pos hx, wrap_id (x := x + 1) (by omega), wrap_id (x := 0 - (x + 1)) (by omega), uwrap_id (x := 0 - (x + 1)) (by omega), uwrap_id (x := 0 - (x + 1) + 1) (by omega)]
  rw [show 0 - (x + 1) + 1 = (x.natAbs : Int) by omega]
 ·rw [bif_neg hx, uwrap_id (x := x) (by omega)]
  rw [show x = (x.natAbs : Int) by omega]
  simp
theorem s_cncref01_mag {x : Int} (h : i64 x) : m_cncref01_mag [I x] = some [U (x.natAbs : Int)] := by
 unfold i64 at h
 unfold m_cncref01_mag
 rw [mf_cncref01_mag_eq]
 by_cases hx : x < 0
 ·rw [bif_pos hx, wrap_id (x := x + 1) (by omega), wrap_id (x := 0 - (x + 1)) (by omega), uwrap_id (x := 0 - (x + 1)) (by omega), uwrap_id (x := 0 - (x + 1) + 1) (by omega)]
  rw [show 0 - (x + 1) + 1 = (x.natAbs : Int) by omega]
 ·rw [bif_neg hx, uwrap_id (x := x) (by omega)]
  rw [show x = (x.natAbs : Int) by omega]
  simp

def sgn (a b : Int) : Int := if a = 0 then 0 else if b = 0 then 0 else if (a < 0 ↔ b < 0) then 1 else -1
theorem s_wide_sign (a b : Int) : m_wide_sign [I a, I b] = some [I (sgn a b)] := by
 unfold m_wide_sign
 rw [mf_wide_sign_eq]
 simp only [go_sem]
 unfold sgn
 repeat' split
 all_goals rfl
theorem s_cncref01_sign (a b : Int) : m_cncref01_sign [I a, I b] = some [I (sgn a b)] := by
 unfold m_cncref01_sign
 rw [mf_cncref01_sign_eq]
 simp only [go_sem]
 unfold sgn
 repeat' split
 all_goals rfl

def cmpN (a b : Nat) : Int := if a < b then -1 else if a = b then 0 else 1
def cmpI (a b : Int) : Int := if a < b then -1 else if a = b then 0 else 1
noncomputable def w64 : Nat := Classical.choose (⟨18446744073709551616, rfl⟩ : ∃ n : Nat, n = 18446744073709551616)
theorem w64_eq : w64 = 18446744073709551616 := Classical.choose_spec (⟨18446744073709551616, rfl⟩ : ∃ n : Nat, n = 18446744073709551616)
theorem i64_abs {x : Int} (h : i64 x) : x.natAbs < w64 := by unfold i64 at h; have := w64_eq; omega

theorem s_bits_Mul64 {x y : Nat} (hx : x < w64) (hy : y < w64) : m_bits_Mul64 [U x, U y] = some [U ((x * y / w64 : Nat) : Int), U ((x * y % w64 : Nat) : Int)] := by
 rw [w64_eq] at hx hy
 have hu : ∀ z : Nat, z < 18446744073709551616 -> inU (z : Int) = true := by
  intro z hz
  have e64 : two64 = 18446744073709551616 := rfl
  simp only [inU, e64, Bool.and_eq_true, decide_eq_true_eq]
  omega
 show mul64 (x : Int) (y : Int) = _
 unfold mul64
 rw [hu x hx, hu y hy, w64_eq]
 rfl
theorem s_wide_product {x y : Nat} (hx : x < w64) (hy : y < w64) : m_wide_product [U x, U y] = some [U ((x * y / w64 : Nat) : Int), U ((x * y % w64 : Nat) : Int)] := by
 unfold m_wide_product
 rw [mf_wide_product_eq, s_bits_Mul64 hx hy]
 simp only [go_sem]

theorem sgn_mul (a b : Int) : sgn a b * ((a.natAbs * b.natAbs : Nat) : Int) = a * b := by
 unfold sgn
 by_cases h1 : a = 0
 ·subst h1; simp
 ·by_cases h2 : b = 0
  ·subst h2; simp
  ·rw [if_neg h1, if_neg h2]
   have e : ((a.natAbs * b.natAbs : Nat) : Int) = (a.natAbs : Int) * (b.natAbs : Int) := by simp
   rw [e]
   by_cases h3 : a < 0 <;> by_cases h4 : b < 0
   ·rw [if_pos (by simp [h3, h4]), show (a.natAbs : Int) = -a by omega, show (b.natAbs : Int) = -b by omega, Int.neg_mul_neg, Int.one_mul]
   ·rw [if_neg (by simp [h3, h4]), show (a.natAbs : Int) = -a by omega, show (b.natAbs : Int) = b by omega, Int.neg_mul, Int.one_mul, Int.neg_mul, Int.neg_neg]
   ·rw [if_neg (by simp [h3, h4]), show (a.natAbs : Int) = a by omega, show (b.natAbs : Int) = -b by omega, Int.mul_neg, Int.neg_mul_neg, Int.one_mul]
   ·rw [if_pos (by simp [h3, h4]), show (a.natAbs : Int) = a by omega, show (b.natAbs : Int) = b by omega, Int.one_mul]
theorem sgn_cases (a b : Int) : (sgn a b = 0 /\ a * b = 0) \/ (sgn a b = 1 /\ 0 < a * b) \/ (sgn a b = -1 /\ a * b < 0) := by
 have h := sgn_mul a b
 by_cases h1 : a = 0
 ·subst h1; left; simp [sgn]
 ·by_cases h2 : b = 0
  ·subst h2; left; simp [sgn]
  ·have hp : 0 < a.natAbs * b.natAbs := Nat.mul_pos (by omega) (by omega)
   generalize a.natAbs * b.natAbs = p at *
   generalize a * b = x at *
   unfold sgn at h ⊢
   rw [if_neg h1, if_neg h2] at h ⊢
   by_cases h3 : (a < 0 ↔ b < 0)
   ·rw [if_pos h3] at h ⊢; right; left; exact ⟨rfl, by omega⟩
   ·rw [if_neg h3] at h ⊢; right; right; exact ⟨rfl, by omega⟩

theorem cmp_sign {a b c d : Int} : (if sgn a b ≠ sgn c d then (if sgn a b < sgn c d then -1 else 1) else sgn a b * cmpN (a.natAbs * b.natAbs) (c.natAbs * d.natAbs)) = cmpI (a * b) (c * d) := by
 have h1 := sgn_mul a b
 have h2 := sgn_mul c d
 have k1 := sgn_cases a b
 have k2 := sgn_cases c d
 unfold cmpI cmpN
 generalize a.natAbs * b.natAbs = p at *
 generalize c.natAbs * d.natAbs = q at *
 generalize a * b = x at *
 generalize c * d = y at *
 generalize sgn a b = u at *
 generalize sgn c d = v at *
 rcases k1 with ⟨rfl, g1⟩ | ⟨rfl, g1⟩ | ⟨rfl, g1⟩ <;> rcases k2 with ⟨rfl, g2⟩ | ⟨rfl, g2⟩ | ⟨rfl, g2⟩
 ·rw [if_neg (by simp), if_neg (show ¬ x < y by omega), if_pos (show x = y by omega)]; exact Int.zero_mul _
 ·rw [if_pos (by simp), if_pos (by omega), if_pos (by omega)]
 ·rw [if_pos (by simp), if_neg (by omega), if_neg (by omega), if_neg (by omega)]
 ·rw [if_pos (by simp), if_neg (by omega), if_neg (by omega), if_neg (by omega)]
 ·rw [if_neg (by simp)]
  have e1 : (p : Int) = x := by omega
  have e2 : (q : Int) = y := by omega
  by_cases h : x < y
  ·rw [if_pos (by omega), if_pos h]; rfl
  ·rw [if_neg (by omega), if_neg h]
   by_cases h' : x = y
   ·rw [if_pos (by omega), if_pos h']; rfl
   ·rw [if_neg (by omega), if_neg h']; rfl
 ·rw [if_pos (by simp), if_neg (by omega), if_neg (by omega), if_neg (by omega)]
 ·rw [if_pos (by simp), if_pos (by omega), if_pos (by omega)]
 ·rw [if_pos (by simp), if_pos (by omega), if_pos (by omega)]
 ·rw [if_neg (by simp)]
  have e1 : (p : Int) = -x := by omega
  have e2 : (q : Int) = -y := by omega
  by_cases h : x < y
  ·rw [if_neg (by omega), if_neg (by omega), if_pos h]; rfl
  ·rw [if_neg h]
   by_cases h' : x = y
   ·rw [if_neg (by omega), if_pos (by omega), if_pos h']; rfl
   ·rw [if_pos (by omega), if_neg h']; rfl

theorem divmod (p : Nat) : p / w64 * w64 + p % w64 = p := by have := Nat.div_add_mod p w64; rw [Nat.mul_comm] at this; exact this
theorem w64_pos : 0 < w64 := by rw [w64_eq]; omega
theorem cmpN_bound (p q : Nat) : -1 <= cmpN p q /\ cmpN p q <= 1 := by unfold cmpN; (repeat' split) <;> omega
theorem sgn_bound (a b : Int) : -1 <= sgn a b /\ sgn a b <= 1 := by unfold sgn; (repeat' split) <;> omega
theorem unit_mul {u v : Int} (hu : -1 <= u /\ u <= 1) (hv : -1 <= v /\ v <= 1) : -1 <= u * v /\ u * v <= 1 := by
 have : u = -1 \/ u = 0 \/ u = 1 := by omega
 rcases this with rfl | rfl | rfl <;> omega
theorem s_wide_product' {x y : Nat} (hx : x < w64) (hy : y < w64) : ∃ hi lo : Nat, m_wide_product [U x, U y] = some [U hi, U lo] /\ hi * w64 + lo = x * y /\ lo < w64 :=
 ⟨_, _, s_wide_product hx hy, divmod _, Nat.mod_lt _ w64_pos⟩
end Go.Bm
/- what the square roots of package wide give -/
set_option maxRecDepth 100000
namespace Go.Bm

theorem half (k : Nat) : ((2 ^ (k + 1) : Nat) : Int).fdiv (2 ^ min (Int.toNat 1) IntKind.u64.bits) = ((2 ^ k : Nat) : Int) := by
 have e : (2 ^ min (Int.toNat 1) IntKind.u64.bits : Int) = 2 := rfl
 rw [e, Int.fdiv_eq_ediv_of_nonneg _ (by omega), Nat.pow_succ]
 omega
theorem half0 : (1 : Int).fdiv (2 ^ min (Int.toNat 1) IntKind.u64.bits) = 0 := rfl

theorem s_wide_signed {n : Nat} (h : n < 9223372036854775808) : m_wide_signed [U n, B false] = some [I n, B true] := by
 unfold m_wide_signed
 rw [mf_wide_signed_eq]
 simp only [go_sem]
 rw [if_neg (by simp), if_pos (by simp), if_pos (by omega), wrap_id (by omega)]
theorem s_wide_known {mode : Int} (h : mode = 0 \/ mode = 1 \/ mode = 2) : m_wide_known [I mode] = some [B true] := by
 unfold m_wide_known
 rw [mf_wide_known_eq]
 rcases h with rfl | rfl | rfl <;> rfl
end Go.Bm
/- products divided and rounded: wide.MulDiv and the reference's Rounded -/
set_option maxRecDepth 100000
namespace Go.Bm

def near (a b : Int) : Int := (2 * a + b) / (2 * b)
theorem near_of {a b k : Int} (hb : 0 < b) (h1 : k * (2 * b) <= 2 * a + b) (h2 : 2 * a + b < (k + 1) * (2 * b)) : near a b = k := by
 unfold near
 have g1 : k <= (2 * a + b) / (2 * b) := (Int.le_ediv_iff_mul_le (by omega)).2 h1
 have g2 : (2 * a + b) / (2 * b) < k + 1 := (Int.ediv_lt_iff_lt_mul (by omega)).2 h2
 omega
theorem near_spec {a b : Int} (hb : 0 < b) : near a b * (2 * b) <= 2 * a + b /\ 2 * a + b < (near a b + 1) * (2 * b) := by
 unfold near
 exact ⟨(Int.le_ediv_iff_mul_le (by omega)).1 (Int.le_refl _), (Int.ediv_lt_iff_lt_mul (by omega)).1 (Int.lt_add_one_of_le (Int.le_refl _))⟩
theorem s_cncref24_Rounded {a b : Int} (hb : 0 < b /\ b <= 1152921504606846976) (ha : a.natAbs <= 2305843009213693952) : m_cncref24_Rounded [I a, I b] = some [I (near a b)] := by
 unfold m_cncref24_Rounded
 rw [mf_cncref24_Rounded_eq, wrap_id (x := 2 * a) (by omega), wrap_id (x := 2 * a + b) (by omega), wrap_id (x := 2 * b) (by omega)]
 have hm := Int.tmod_add_mul_tdiv (2 * a + b) (2 * b)
 have h1 := Int.tmod_lt_of_pos (2 * a + b) (show 0 < 2 * b by omega)
 have h2 := Int.lt_tmod_of_pos (2 * a + b) (show 0 < 2 * b by omega)
 have hq : ((2 * a + b).tdiv (2 * b)).natAbs <= (2 * a + b).natAbs := by rw [Int.natAbs_tdiv]; exact Nat.div_le_self _ _
 generalize hx : (2 * a + b).tdiv (2 * b) = q at *
 generalize (2 * a + b).tmod (2 * b) = r at *
 have e1 : 2 * b * q = q * (2 * b) := Int.mul_comm _ _
 rw [bif_neg (by omega), bif_neg (by omega), wrap_id (x := q) (by omega)]
 by_cases h : r < 0
 ·rw [bif_pos h, wrap_id (by omega), near_of (k := q - 1) hb.1]
  ·rw [Int.sub_mul]; omega
  ·rw [Int.sub_add_cancel]; omega
 ·rw [bif_neg h, near_of (k := q) hb.1]
  ·omega
  ·rw [Int.add_mul]; omega

theorem s_bits_Div64_0 {p c : Nat} (hp : p < w64) (hc : 0 < c) : m_bits_Div64 [U 0, U p, U c] = some [U ((p / c : Nat) : Int), U ((p % c : Nat) : Int)] := by
 rw [w64_eq] at hp
 have h1 : (p : Int).tdiv (c : Int) = ((p / c : Nat) : Int) := by rw [Int.tdiv_eq_ediv_of_nonneg (by omega)]; simp
 have h2 : (p : Int).tmod (c : Int) = ((p % c : Nat) : Int) := by rw [Int.tmod_eq_emod_of_nonneg (by omega)]; simp
 have h3 : p / c <= p := Nat.div_le_self _ _
 unfold m_bits_Div64
 generalize m_bits_LeadingZeros64 = M
 generalize l_bits_Div64_17 = N1
 generalize l_bits_Div64_24 = N2
 rw [mf_bits_Div64_eq]
 rw [bif_false (by simp; omega), bif_neg (by omega), bif_true (by simp), bif_neg (by omega), bif_neg (by omega), h1, h2]
 generalize p / c = q at *
 rw [uwrap_id (by omega)]
theorem s_wide_grows2 (more : Int) (some_ neg : Bool) : m_wide_grows [I 2, I more, B some_, B neg] = some [B (if more > 0 then true else if more = 0 then !neg else false)] := by
 unfold m_wide_grows
 rw [mf_wide_grows_eq]
 simp only [go_sem]
 rw [if_neg (by omega), if_neg (by omega)]
 repeat' split
 all_goals rfl
theorem s_wide_signed_neg {n : Nat} (h : n <= 9223372036854775808) : m_wide_signed [U n, B true] = some [I (-(n : Int)), B true] := by
 unfold m_wide_signed
 rw [mf_wide_signed_eq]
 simp only [go_sem]
 rw [if_pos (by omega), uwrap_mod, wrap_def]
 have : ((0 - (n : Int)) % 18446744073709551616 + 9223372036854775808) % 18446744073709551616 - 9223372036854775808 = -(n : Int) := by omega
 rw [this]

def rndN (q r c : Nat) (neg : Bool) : Nat := if r > c - r then q + 1 else if r < c - r then q else if neg then q else q + 1
theorem a_wide_MulDiv {M1 M2 M3 M4 M5 M6 M7 : List AC -> Option (List AC)} {a b s : Int} {A C p q r c : Nat} (hc0 : 0 < c) (hc1 : c < 9223372036854775808) (hr : r < c) (hq : q < 9223372036854775807)
  (k1 : M7 [I 2] = some [B true]) (k2 : M6 [I a] = some [U A]) (k3 : M6 [I b] = some [U C]) (k4 : M6 [I c] = some [U c]) (k5 : M5 [U A, U C] = some [U 0, U p]) (k6 : M4 [U 0, U p, U c] = some [U q, U r]) (k7 : M3 [I a, I b] = some [I s])
  (k8 : ∀ (more : Int) (some_ neg : Bool), M2 [I 2, I more, B some_, B neg] = some [B (if more > 0 then true else if more = 0 then !neg else false)])
  (k9 : ∀ k : Nat, k < 9223372036854775808 -> M1 [U k, B false] = some [I k, B true]) (k10 : ∀ k : Nat, k < 9223372036854775808 -> M1 [U k, B true] = some [I (-(k : Int)), B true]) :
  mf_wide_MulDiv M1 M2 M3 M4 M5 M6 M7 [I a, I b, I c, I 2] = some [I (if s < 0 then -(rndN q r c true : Int) else (rndN q r c false : Int)), B true] := by
 have w1 : IntKind.u64.wrap ((c : Int) - (r : Int)) = ((c - r : Nat) : Int) := by rw [uwrap_id (by omega)]; omega
 have w2 : IntKind.u64.wrap ((q : Int) + 1) = ((q + 1 : Nat) : Int) := by rw [uwrap_id (by omega)]; omega
 have n1 := k9 q (by omega)
 have n2 := k9 (q + 1) (by omega)
 rw [mf_wide_MulDiv_eq]
 simp only [go_sem, k1, k2, k3, k4, k5, k6, k7, k8, w1, w2, n1, n2]
 rw [if_neg (by omega), if_neg (by simp), if_neg (by omega)]
 by_cases hs : s < 0
 ·rw [if_pos hs]
  rw [if_pos (show ¬(s < 0 ↔ (c : Int) < 0) by omega)]
  have hne : (s != 0) = true := by simp; omega
  rw [hne]
  unfold rndN
  by_cases g1 : r > c - r
  ·rw [if_pos g1]
   rw [if_pos (show (r : Int) > ((c - r : Nat) : Int) by omega), if_pos (by decide), if_neg (show ¬ ((q + 1 : Nat) : Int) = 0 by omega), k10 (q + 1) (by omega)]
   simp only [go_sem]
  ·rw [if_neg g1]
   rw [if_neg (show ¬ (r : Int) > ((c - r : Nat) : Int) by omega)]
   by_cases g2 : r < c - r
   ·rw [if_pos g2]
    rw [if_pos (show (r : Int) < ((c - r : Nat) : Int) by omega), if_neg (by decide), k10 q (by omega)]
    simp only [go_sem]
   ·rw [if_neg g2, if_pos rfl]
    rw [if_neg (show ¬ (r : Int) < ((c - r : Nat) : Int) by omega), if_neg (by decide), k10 q (by omega)]
    simp only [go_sem]
 ·rw [if_neg hs]
  rw [if_neg (show ¬¬(s < 0 ↔ (c : Int) < 0) by omega)]
  unfold rndN
  by_cases g1 : r > c - r
  ·rw [if_pos g1, if_pos (show (r : Int) > ((c - r : Nat) : Int) by omega), if_pos (by decide), if_neg (show ¬ ((q + 1 : Nat) : Int) = 0 by omega)]
  ·rw [if_neg g1, if_neg (show ¬ (r : Int) > ((c - r : Nat) : Int) by omega)]
   by_cases g2 : r < c - r
   ·rw [if_pos g2, if_pos (show (r : Int) < ((c - r : Nat) : Int) by omega), if_neg (by decide)]
   ·rw [if_neg g2, if_neg (show ¬ (r : Int) < ((c - r : Nat) : Int) by omega), if_pos (by decide), if_neg (show ¬ ((q + 1 : Nat) : Int) = 0 by omega), if_neg (by decide)]

theorem rndN_false (q r c : Nat) : rndN q r c false = if r < c - r then q else q + 1 := by
 unfold rndN
 by_cases h1 : r > c - r
 ·rw [if_pos h1, if_neg (by omega)]
 ·rw [if_neg h1]
  by_cases h2 : r < c - r
  ·rw [if_pos h2, if_pos h2]
  ·rw [if_neg h2, if_neg h2, if_neg (by simp)]
theorem rndN_true (q r c : Nat) : rndN q r c true = if r > c - r then q + 1 else q := by
 unfold rndN
 by_cases h1 : r > c - r
 ·rw [if_pos h1, if_pos h1]
 ·rw [if_neg h1, if_neg h1]
  by_cases h2 : r < c - r
  ·rw [if_pos h2]
  ·rw [if_neg h2, if_pos rfl]
theorem near_pos {p q r c : Nat} (hc : 0 < c) (h : p = c * q + r) (hr : r < c) : near p c = rndN q r c false := by
 have e : (p : Int) = (c : Int) * q + r := by rw [h]; simp
 have e3 : (q : Int) * (2 * c) = 2 * ((c : Int) * q) := by grind
 have e4 : ((q + 1 : Nat) : Int) * (2 * c) = 2 * ((c : Int) * q) + 2 * c := by grind
 have e5 : ((q : Int) + 1) * (2 * c) = 2 * ((c : Int) * q) + 2 * c := by grind
 have e6 : (((q + 1 : Nat) : Int) + 1) * (2 * c) = 2 * ((c : Int) * q) + 4 * c := by grind
 rw [rndN_false]
 by_cases g : r < c - r
 ·rw [if_pos g]
  exact near_of (by omega) (by rw [e3]; omega) (by rw [e5]; omega)
 ·rw [if_neg g]
  exact near_of (by omega) (by rw [e4]; omega) (by rw [e6]; omega)
theorem near_neg {p q r c : Nat} (hc : 0 < c) (h : p = c * q + r) (hr : r < c) : near (-(p : Int)) c = -(rndN q r c true : Int) := by
 have e : (p : Int) = (c : Int) * q + r := by rw [h]; simp
 have e3 : -(q : Int) * (2 * c) = -(2 * ((c : Int) * q)) := by grind
 have e4 : -((q + 1 : Nat) : Int) * (2 * c) = -(2 * ((c : Int) * q)) - 2 * c := by grind
 have e5 : (-(q : Int) + 1) * (2 * c) = -(2 * ((c : Int) * q)) + 2 * c := by grind
 have e6 : (-((q + 1 : Nat) : Int) + 1) * (2 * c) = -(2 * ((c : Int) * q)) := by grind
 rw [rndN_true]
 by_cases g : r > c - r
 ·rw [if_pos g]
  exact near_of (by omega) (by rw [e4]; omega) (by rw [e6]; omega)
 ·rw [if_neg g]
  exact near_of (by omega) (by rw [e3]; omega) (by rw [e5]; omega)
theorem s_wide_MulDiv {a b c : Int} (ha : i64 a) (hb : i64 b) (hc : 0 < c /\ c < 9223372036854775808) (hp : a.natAbs * b.natAbs < 9223372036854775807) : m_wide_MulDiv [I a, I b, I c, I 2] = some [I (near (a * b) c), B true] := by
 obtain ⟨hi, lo, e1, e2, e3⟩ := s_wide_product' (i64_abs ha) (i64_abs hb)
 have hm := sgn_mul a b
 have hs := sgn_cases a b
 have hz : a * b = 0 -> a.natAbs * b.natAbs = 0 := fun h => by rw [<- Int.natAbs_mul, h]; rfl
 generalize a.natAbs * b.natAbs = p at *
 have hhi : hi = 0 := by
  rcases Nat.eq_zero_or_pos hi with h | h
  ·exact h
  ·have := Nat.mul_le_mul_right w64 h
   have := w64_eq
   omega
 subst hhi
 have hlo : lo = p := by omega
 subst hlo
 obtain ⟨n, rfl⟩ := Int.eq_ofNat_of_zero_le (show 0 <= c by omega)
 have hn : 0 < n := by omega
 have h1 := Nat.div_add_mod lo n
 have h2 := Nat.mod_lt lo hn
 have h3 : lo / n <= lo := Nat.div_le_self _ _
 have hd := s_bits_Div64_0 e3 hn
 have hcs := s_wide_size (x := (n : Int)) (by unfold i64; omega)
 rw [Int.natAbs_natCast] at hcs
 generalize lo / n = q at *
 generalize lo % n = r at *
 have hmain := a_wide_MulDiv (M1 := m_wide_signed) (M2 := m_wide_grows) (M3 := m_wide_sign) (M4 := m_bits_Div64) (M5 := m_wide_product) (M6 := m_wide_size) (M7 := m_wide_known) hn (by omega) h2 (by omega)
  (s_wide_known (.inr (.inr rfl))) (s_wide_size ha) (s_wide_size hb) hcs e1 hd (s_wide_sign a b) s_wide_grows2 (fun k hk => s_wide_signed hk) (fun k hk => s_wide_signed_neg (by omega))
 have hv : (if sgn a b < 0 then -(rndN q r n true : Int) else (rndN q r n false : Int)) = near (a * b) n := by
  rcases hs with ⟨g1, g2⟩ | ⟨g1, g2⟩ | ⟨g1, g2⟩
  ·rw [if_neg (by omega), g2]
   rw [g1] at hm
   have : lo = 0 := hz g2
   rw [<- near_pos hn h1.symm h2, this]; rfl
  ·rw [if_neg (by omega), <- near_pos hn h1.symm h2, <- hm, g1, Int.one_mul]
  ·rw [if_pos (by omega), <- near_neg hn h1.symm h2, <- hm, g1, Int.neg_mul, Int.one_mul]
 rw [hv] at hmain
 exact hmain
end Go.Bm
/- layer 1's reference: numbers as lists of digits to the base 65536 -/
set_option maxRecDepth 100000
namespace Go.Bm

abbrev uR (n : Nat) : List AC := [U n]
abbrev kUs : List Kd := [kU]
def val : List Nat -> Nat
 | [] => 0
 | d :: l => d + 65536 * val l
def Dig (l : List Nat) : Prop := ∀ d ∈ l, d < 65536
def Cut (l : List Nat) : Prop := ∀ h : l ≠ [], l.getLast h ≠ 0

theorem and_low (v : Nat) (h : v < w64) : IntKind.u64.wrap (((BitVec.ofInt IntKind.u64.bits (v : Int) &&& BitVec.ofInt IntKind.u64.bits 65535).toNat : Nat) : Int) = ((v % 65536 : Nat) : Int) := by
 rw [w64_eq] at h
 have e : (BitVec.ofInt IntKind.u64.bits (v : Int) &&& BitVec.ofInt IntKind.u64.bits 65535).toNat = v % 65536 := by
  rw [BitVec.toNat_and]
  have e1 : (BitVec.ofInt IntKind.u64.bits (v : Int)).toNat = v := by
   simp only [IntKind.bits, BitVec.toNat_ofInt]
   omega
  have e2 : (BitVec.ofInt IntKind.u64.bits 65535).toNat = 2 ^ 16 - 1 := by
   simp only [IntKind.bits, BitVec.toNat_ofInt]
   rfl
  rw [e1, e2, Nat.and_two_pow_sub_one_eq_mod]
 rw [e, uwrap_id (by omega)]
theorem shr16 (v : Nat) : (v : Int).fdiv (2 ^ min (Int.toNat 16) IntKind.u64.bits) = ((v / 65536 : Nat) : Int) := by
 have e : (2 ^ min (Int.toNat 16) IntKind.u64.bits : Int) = 65536 := rfl
 rw [e, Int.fdiv_eq_ediv_of_nonneg _ (by omega)]
 omega

def digs (n : Nat) : List Nat := if h : n = 0 then [] else n % 65536 :: digs (n / 65536)
termination_by n
decreasing_by omega
theorem digs_zero : digs 0 = [] := by unfold digs; simp
theorem digs_pos {n : Nat} (h : n ≠ 0) : digs n = n % 65536 :: digs (n / 65536) := by rw [digs, dif_neg h]
theorem digs_val (n : Nat) : val (digs n) = n := by
 induction n using Nat.strongRecOn with
 | _ n ih =>
  by_cases h : n = 0
  ·subst h; rw [digs_zero]; rfl
  ·rw [digs_pos h, val, ih _ (by omega)]; omega
theorem digs_dig (n : Nat) : Dig (digs n) := by
 induction n using Nat.strongRecOn with
 | _ n ih =>
  by_cases h : n = 0
  ·subst h; rw [digs_zero]; intro d hd; simp at hd
  ·rw [digs_pos h]
   intro d hd
   simp only [List.mem_cons] at hd
   rcases hd with rfl | hd
   ·omega
   ·exact ih _ (by omega) d hd
theorem digs_len (k : Nat) : ∀ n, n < 65536 ^ k -> (digs n).length <= k := by
 induction k with
 | zero => intro n h; simp at h; subst h; rw [digs_zero]; simp
 | succ k ih =>
  intro n h
  by_cases h0 : n = 0
  ·subst h0; rw [digs_zero]; simp
  ·rw [digs_pos h0]
   have := ih (n / 65536) (by rw [Nat.pow_succ] at h; exact Nat.div_lt_of_lt_mul (by rw [Nat.mul_comm]; exact h))
   simp; omega

theorem map_uR_append (l : List Nat) (d : Nat) : l.map uR ++ [[AC.int IntKind.u64 (d : Int)]] = (l ++ [d]).map uR := by simp

theorem l_limbs (n : Nat) : ∀ (acc : List Nat), n < w64 -> acc.length + (digs n).length <= 1000 -> l_cncref01_limbs_2 [.view kUs (acc.map uR), U n] = some (1, [.view kUs ((acc ++ digs n).map uR)]) := by
 induction n using Nat.strongRecOn with
 | _ n ih =>
  intro acc hn hl
  unfold l_cncref01_limbs_2
  by_cases h : n = 0
  ·subst h
   rw [digs_zero, List.append_nil]
   refine loop_end ?_ (by simp)
   rw [st_cncref01_limbs_2_eq]
   simp
  ·rw [digs_pos h] at hl ⊢
   have hstep : st_cncref01_limbs_2 [.view kUs (acc.map uR), U n] = some (0, [.view kUs ((acc ++ [n % 65536]).map uR), U ((n / 65536 : Nat) : Int)]) := by
    rw [st_cncref01_limbs_2_eq, and_low n hn, shr16]
    simp only [go_sem]
    rw [if_pos (by omega), map_uR_append, if_pos (by simp at hl ⊢; omega)]
   rw [loop_more hstep]
   have := ih (n / 65536) (by omega) (acc ++ [n % 65536]) (by omega) (by simp at hl ⊢; omega)
   unfold l_cncref01_limbs_2 at this
   rw [this, List.append_assoc]
   rfl
theorem w64_pow : w64 = 65536 ^ 4 := by rw [w64_eq]
theorem s_cncref01_limbs {n : Nat} (h : n < w64) : m_cncref01_limbs [U n] = some [.view kUs ((digs n).map uR)] := by
 have hl := digs_len 4 n (by rw [<- w64_pow]; exact h)
 have := l_limbs n [] h (by simp; omega)
 unfold m_cncref01_limbs
 rw [mf_cncref01_limbs_eq]
 simp only [List.map_nil, List.nil_append] at this
 rw [this]
 rfl

theorem val_append : ∀ (a b : List Nat), val (a ++ b) = val a + 65536 ^ a.length * val b
 | [], b => by simp [val]
 | d :: a, b => by
  simp only [List.cons_append, val, List.length_cons, Nat.pow_succ, val_append a b]
  rw [Nat.mul_add, Nat.mul_comm (65536 ^ a.length) 65536, Nat.mul_assoc]
  omega
theorem val_lt : ∀ {l : List Nat}, Dig l -> val l < 65536 ^ l.length
 | [], _ => by simp [val]
 | d :: l, h => by
  have h1 := h d (by simp)
  have h2 := val_lt (l := l) fun x hx => h x (by simp [hx])
  simp only [val, List.length_cons, Nat.pow_succ]
  omega
theorem val_ge : ∀ {l : List Nat}, Cut l -> (h : l ≠ []) -> 65536 ^ (l.length - 1) <= val l
 | [], _, h => absurd rfl h
 | [d], hc, _ => by have := hc (by simp); simp [val] at this ⊢; omega
 | d :: e :: l, hc, _ => by
  have := val_ge (l := e :: l) (fun h => by have := hc (by simp); rw [List.getLast_cons h] at this; exact this) (by simp)
  simp only [val, List.length_cons] at this ⊢
  simp only [Nat.add_sub_cancel] at this ⊢
  rw [Nat.pow_succ]
  omega
theorem Dig.sub {l m : List Nat} (h : Dig l) (hs : ∀ d ∈ m, d ∈ l) : Dig m := fun d hd => h d (hs d hd)

theorem l_cut : ∀ (n : Nat) (l : List Nat), l.length = n -> n <= 1000 -> Dig l -> ∃ c : List Nat, l_cncref01_cut_1 [.view kUs (l.map uR)] = some (1, [.view kUs (c.map uR)]) /\ val c = val l /\ Dig c /\ Cut c /\ c.length <= l.length
 | 0, l, hl, _, hd => by
  have : l = [] := List.eq_nil_of_length_eq_zero hl
  subst this
  refine ⟨[], ?_, rfl, hd, fun h => absurd rfl h, Nat.le_refl _⟩
  unfold l_cncref01_cut_1
  refine loop_end ?_ (by simp)
  rw [st_cncref01_cut_1_eq]
  simp
 | n + 1, l, hl, hn, hd => by
  have hw : IntKind.i64.wrap ((l.map uR).length - 1 : Int) = (n : Int) := by rw [wrap_id (by simp; omega)]; simp; omega
  have hlast : nth [] (l.map uR) n = uR (l[n]'(by omega)) := nth_map uR [] l n (by omega)
  have hsplit : l = l.take n ++ [l[n]'(by omega)] := by
   have := List.take_append_drop n l
   rw [getElem_take_drop l n (by omega), List.drop_of_length_le (by omega)] at this
   exact this.symm
  have hstep : st_cncref01_cut_1 [.view kUs (l.map uR)] = if l[n]'(by omega) = 0 then some (0, [.view kUs ((l.take n).map uR)]) else some (1, [.view kUs (l.map uR)]) := by
   rw [st_cncref01_cut_1_eq, hw]
   simp only [Int.toNat_natCast, hlast]
   simp only [go_sem, List.map_take]
   rw [if_pos (by simp; omega), if_pos (by simp; omega)]
   by_cases h0 : l[n]'(by omega) = 0
   ·rw [if_pos (by omega), if_pos (by simp; omega), if_pos h0]
   ·rw [if_neg (by omega), if_neg h0]
  by_cases h0 : l[n]'(by omega) = 0
  ·rw [if_pos h0] at hstep
   obtain ⟨c, h1, h2, h3, h4, h5⟩ := l_cut n (l.take n) (by simp; omega) (by omega) (hd.sub fun d h => List.mem_of_mem_take h)
   refine ⟨c, ?_, ?_, h3, h4, by simp at h5; omega⟩
   ·unfold l_cncref01_cut_1 at h1 ⊢
    rw [loop_more hstep]; exact h1
   ·rw [h2]
    conv => rhs; rw [hsplit, val_append, h0]
    simp [val]
  ·rw [if_neg h0] at hstep
   refine ⟨l, ?_, rfl, hd, fun hne => ?_, Nat.le_refl _⟩
   ·unfold l_cncref01_cut_1
    exact loop_end hstep (by simp)
   ·have : l.getLast hne = l[n]'(by omega) := by rw [List.getLast_eq_getElem]; congr 1; omega
    rw [this]; exact h0
theorem s_cncref01_cut {l : List Nat} (hl : l.length <= 1000) (hd : Dig l) : ∃ c : List Nat, m_cncref01_cut [.view kUs (l.map uR)] = some [.view kUs (c.map uR)] /\ val c = val l /\ Dig c /\ Cut c /\ c.length <= l.length := by
 obtain ⟨c, h1, h2⟩ := l_cut _ l rfl hl hd
 refine ⟨c, ?_, h2⟩
 unfold m_cncref01_cut
 rw [mf_cncref01_cut_eq, h1]
 rfl

theorem val_take_succ (l : List Nat) (k : Nat) (h : k < l.length) : val (l.take (k + 1)) = val (l.take k) + 65536 ^ k * l[k] := by
 rw [List.take_succ_eq_append_getElem h, val_append]
 simp [val, Nat.min_eq_left (Nat.le_of_lt h)]
theorem val_take_lt {l : List Nat} (hd : Dig l) (k : Nat) (h : k <= l.length) : val (l.take k) < 65536 ^ k := by
 have := val_lt (hd.sub (m := l.take k) fun d h => List.mem_of_mem_take h)
 simpa [Nat.min_eq_left h] using this
theorem lead_lt {p q a b P : Nat} (hp : p < P) (hab : a < b) : p + P * a < q + P * b := by
 have h1 : P * (a + 1) <= P * b := Nat.mul_le_mul_left P hab
 rw [Nat.mul_add] at h1
 omega
theorem l_cmp {a b : List Nat} (hab : a.length = b.length) (ha : Dig a) (hb : Dig b) (hl : a.length <= 1000) : ∀ k, k <= a.length ->
  l_cncref01_cmp_6 [.view kUs (a.map uR), .view kUs (b.map uR), I ((k : Int) - 1)] = if val (a.take k) = val (b.take k) then some (2, []) else some (1, [I (cmpN (val (a.take k)) (val (b.take k)))])
 | 0, _ => by
  unfold l_cncref01_cmp_6
  rw [if_pos (by simp)]
  refine loop_end ?_ (by simp)
  rw [st_cncref01_cmp_6_eq]
  simp only [go_sem]
  rw [if_neg (by omega)]
 | k + 1, hk => by
  have e1 : nth [] (a.map uR) k = uR (a[k]'(by omega)) := nth_map uR [] a k (by omega)
  have e2 : nth [] (b.map uR) k = uR (b[k]'(by omega)) := nth_map uR [] b k (by omega)
  have hstep : st_cncref01_cmp_6 [.view kUs (a.map uR), .view kUs (b.map uR), I (((k + 1 : Nat) : Int) - 1)] =
    if a[k]'(by omega) < b[k]'(by omega) then some (1, [I (-1)]) else if a[k]'(by omega) > b[k]'(by omega) then some (1, [I 1]) else some (0, [.view kUs (a.map uR), .view kUs (b.map uR), I ((k : Int) - 1)]) := by
   rw [show (((k + 1 : Nat) : Int) - 1) = (k : Int) by omega, st_cncref01_cmp_6_eq]
   simp only [Int.toNat_natCast, e1, e2]
   simp only [go_sem]
   rw [if_pos (by omega), if_pos (by simp; omega), if_pos (by simp; omega), wrap_id (by omega)]
   by_cases h1 : a[k]'(by omega) < b[k]'(by omega)
   ·rw [if_pos (by omega), if_pos h1]
   ·rw [if_neg (by omega), if_neg h1, if_pos (by simp; omega), if_pos (by simp; omega)]
    by_cases h2 : a[k]'(by omega) > b[k]'(by omega)
    ·rw [if_pos (by omega), if_pos h2]
    ·rw [if_neg (by omega), if_neg h2]
  have ih := l_cmp hab ha hb hl k (by omega)
  unfold l_cncref01_cmp_6 at ih ⊢
  rw [val_take_succ a k (by omega), val_take_succ b k (by omega)]
  have p1 := val_take_lt ha k (by omega)
  have p2 := val_take_lt hb k (by omega)
  by_cases h1 : a[k]'(by omega) < b[k]'(by omega)
  ·rw [if_pos h1] at hstep
   have := lead_lt (q := val (b.take k)) p1 h1
   rw [loop_end hstep (by simp), if_neg (by omega)]
   unfold cmpN
   rw [if_pos this]
  ·rw [if_neg h1] at hstep
   by_cases h2 : a[k]'(by omega) > b[k]'(by omega)
   ·rw [if_pos h2] at hstep
    have := lead_lt (q := val (a.take k)) p2 h2
    rw [loop_end hstep (by simp), if_neg (by omega)]
    unfold cmpN
    rw [if_neg (by omega), if_neg (by omega)]
   ·rw [if_neg h2] at hstep
    have h3 : a[k]'(by omega) = b[k]'(by omega) := by omega
    rw [loop_more hstep, ih, h3]
    by_cases h4 : val (a.take k) = val (b.take k)
    ·rw [if_pos h4, if_pos (by omega)]
    ·rw [if_neg h4, if_neg (by omega)]
     unfold cmpN
     by_cases h5 : val (a.take k) < val (b.take k)
     ·rw [if_pos h5, if_pos (by omega)]
     ·rw [if_neg h5, if_neg h4, if_neg (by omega), if_neg (by omega)]
theorem s_cncref01_cmp {a b : List Nat} (ha : Dig a) (hb : Dig b) (ca : Cut a) (cb : Cut b) (la : a.length <= 1000) :
  m_cncref01_cmp [.view kUs (a.map uR), .view kUs (b.map uR)] = some [I (cmpN (val a) (val b))] := by
 unfold m_cncref01_cmp
 rw [mf_cncref01_cmp_eq]
 by_cases hab : a.length = b.length
 ·have := l_cmp hab ha hb la a.length (Nat.le_refl _)
  rw [List.take_length, hab, List.take_length] at this
  have hw : IntKind.i64.wrap (((a.map uR).length : Int) - 1) = (b.length : Int) - 1 := by rw [wrap_id (by simp; omega)]; simp; omega
  rw [hw, this]
  simp only [go_sem]
  rw [if_neg (by simp; omega)]
  by_cases h : val a = val b
  ·rw [if_pos h]
   simp [cmpN, h]
  ·rw [if_neg h]
   simp only [go_sem, if_true]
 ·simp only [go_sem]
  rw [if_pos (by simp; omega)]
  have key : ∀ {a b : List Nat}, Dig a -> Cut b -> a.length < b.length -> val a < val b := by
   intro a b ha cb h
   have h1 := val_lt ha
   have h2 := val_ge cb (by intro e; subst e; simp at h)
   have h3 : 65536 ^ a.length <= 65536 ^ (b.length - 1) := Nat.pow_le_pow_right (by omega) (by omega)
   omega
  unfold cmpN
  by_cases h : a.length < b.length
  ·have := key ha cb h
   rw [if_pos (by simp; omega), if_pos this]
  ·have := key hb ca (by omega)
   rw [if_neg (by simp; omega), if_neg (by omega), if_neg (by omega)]
end Go.Bm
/- layer 1's reference: the product of numbers as lists of digits, and the comparison of products -/
set_option maxRecDepth 100000
namespace Go.Bm

theorem val_set : ∀ (l : List Nat) (j : Nat) (h : j < l.length) (d : Nat), val (l.set j d) + 65536 ^ j * l[j] = val l + 65536 ^ j * d
 | [], j, h, d => by simp at h
 | x :: l, 0, h, d => by simp [val]; omega
 | x :: l, j + 1, h, d => by
  have := val_set l j (by simpa using h) d
  simp only [List.set_cons_succ, val, List.getElem_cons_succ, Nat.pow_succ]
  have e : ∀ z, 65536 ^ j * 65536 * z = 65536 * (65536 ^ j * z) := fun z => by rw [Nat.mul_comm (65536 ^ j) 65536, Nat.mul_assoc]
  rw [e, e]
  omega
theorem Dig.set {l : List Nat} (h : Dig l) (j d : Nat) (hd : d < 65536) : Dig (l.set j d) := by
 intro x hx
 rcases List.mem_or_eq_of_mem_set hx with h' | rfl
 ·exact h x h'
 ·exact hd
theorem map_uR_set (l : List Nat) (j d : Nat) : (l.map uR).set j [AC.int IntKind.u64 (d : Int)] = (l.set j d).map uR := by rw [List.map_set]

theorem st_mul_in {M : List AC -> Option (List AC)} {out a b : List Nat} {i k c : Nat} (ho : Dig out) (ha : Dig a) (hb : Dig b) (hc : c < 65536) (hi : i < a.length) (hk : k < b.length) (hl : out.length = a.length + b.length) (hn : a.length + b.length <= 1000) :
  st_cncref01_mul_7 M [.view kUs (out.map uR), .view kUs (a.map uR), .view kUs (b.map uR), I i, U c, I k] =
   some (0, [.view kUs ((out.set (i + k) ((out[i + k]'(by omega) + a[i] * b[k] + c) % 65536)).map uR), .view kUs (a.map uR), .view kUs (b.map uR), I i, U (((out[i + k]'(by omega) + a[i] * b[k] + c) / 65536 : Nat) : Int), I ((k + 1 : Nat) : Int)]) := by
 have h1 := ho (out[i + k]'(by omega)) (List.getElem_mem _)
 have h2 := ha a[i] (List.getElem_mem _)
 have h3 := hb b[k] (List.getElem_mem _)
 have e1 : nth [] (out.map uR) (i + k) = uR (out[i + k]'(by omega)) := nth_map uR [] out _ (by omega)
 have e2 : nth [] (a.map uR) i = uR a[i] := nth_map uR [] a _ hi
 have e3 : nth [] (b.map uR) k = uR b[k] := nth_map uR [] b _ hk
 have h4 : a[i] * b[k] <= 65535 * 65535 := Nat.mul_le_mul (by omega) (by omega)
 have hw : IntKind.i64.wrap ((i : Int) + (k : Int)) = ((i + k : Nat) : Int) := by rw [wrap_id (by omega)]; omega
 have hv : IntKind.u64.wrap (IntKind.u64.wrap ((out[i + k]'(by omega) : Int) + IntKind.u64.wrap ((a[i] : Int) * (b[k] : Int))) + (c : Int)) = ((out[i + k]'(by omega) + a[i] * b[k] + c : Nat) : Int) := by
  have e : ((a[i] : Int) * (b[k] : Int)) = ((a[i] * b[k] : Nat) : Int) := by simp
  rw [e]
  generalize a[i] * b[k] = p at *
  rw [uwrap_id (x := (p : Int)) (by omega), uwrap_id (x := (out[i + k]'(by omega) : Int) + (p : Int)) (by omega), uwrap_id (by omega)]
  omega
 rw [st_cncref01_mul_7_eq, hw]
 simp only [Int.toNat_natCast, e1, e2, e3]
 have ee : ∀ n : Nat, intOf (nth AC.dead (uR n) 0) = (n : Int) := fun n => rfl
 rw [ee, ee, ee, hv, and_low _ (by rw [w64_eq]; omega), shr16]
 simp only [go_sem]
 rw [if_pos (by simp; omega), if_pos (by simp; omega), if_pos (by simp; omega), if_pos (by simp; omega), if_pos (by simp; omega), wrap_id (by omega), map_uR_set]
 rfl

theorem l_mul_in {M : List AC -> Option (List AC)} {a b : List Nat} {i : Nat} (ha : Dig a) (hb : Dig b) (hi : i < a.length) (hn : a.length + b.length <= 1000) (P : Nat) : ∀ (m k : Nat) (out : List Nat) (c : Nat), m = b.length - k -> k <= b.length -> Dig out -> c < 65536 -> out.length = a.length + b.length ->
  (∀ j (h : j < out.length), i + b.length <= j -> out[j] = 0) -> val out + c * 65536 ^ (i + k) = P + a[i] * 65536 ^ i * val (b.take k) ->
  ∃ (out' : List Nat) (c' : Nat), loopC (st_cncref01_mul_7 M) [.view kUs (out.map uR), .view kUs (a.map uR), .view kUs (b.map uR), I i, U c, I k] = some (1, [.view kUs (out'.map uR), .view kUs (a.map uR), .view kUs (b.map uR), I i, U c']) /\
   Dig out' /\ c' < 65536 /\ out'.length = a.length + b.length /\ (∀ j (h : j < out'.length), i + b.length <= j -> out'[j] = 0) /\ val out' + c' * 65536 ^ (i + b.length) = P + a[i] * 65536 ^ i * val b
 | 0, k, out, c, hm, hk, ho, hc, hl, hz, hv => by
  have hkb : k = b.length := by omega
  subst hkb
  rw [List.take_length] at hv
  refine ⟨out, c, ?_, ho, hc, hl, hz, hv⟩
  refine loop_end ?_ (by simp)
  rw [st_cncref01_mul_7_eq]
  simp only [go_sem]
  rw [if_neg (by simp)]
 | m + 1, k, out, c, hm, hk, ho, hc, hl, hz, hv => by
  have hkb : k < b.length := by omega
  rw [loop_more (st_mul_in ho ha hb hc hi hkb hl hn)]
  have h1 := ho (out[i + k]'(by omega)) (List.getElem_mem _)
  have h2 := ha a[i] (List.getElem_mem _)
  have h3 := hb b[k] (List.getElem_mem _)
  have h4 : a[i] * b[k] <= 65535 * 65535 := Nat.mul_le_mul (by omega) (by omega)
  refine l_mul_in ha hb hi hn P m (k + 1) _ _ (by omega) (by omega) (ho.set _ _ (Nat.mod_lt _ (by omega))) (by generalize a[i] * b[k] = p at *; omega) (by simpa using hl) ?_ ?_
  ·intro j hj hij
   rw [List.getElem_set_ne (by omega)]
   exact hz j (by simpa using hj) hij
  ·have hs := val_set out (i + k) (by omega) ((out[i + k]'(by omega) + a[i] * b[k] + c) % 65536)
   rw [val_take_succ b k hkb]
   have hdm := Nat.div_add_mod (out[i + k]'(by omega) + a[i] * b[k] + c) 65536
   generalize (out[i + k]'(by omega) + a[i] * b[k] + c) % 65536 = r at *
   generalize (out[i + k]'(by omega) + a[i] * b[k] + c) / 65536 = q at *
   generalize val (out.set (i + k) r) = V at *
   generalize out[i + k]'(by omega) = x at *
   have e1 : 65536 ^ (i + (k + 1)) = 65536 ^ (i + k) * 65536 := by rw [<- Nat.add_assoc, Nat.pow_succ]
   have e2 : a[i] * 65536 ^ i * (val (b.take k) + 65536 ^ k * b[k]) = a[i] * 65536 ^ i * val (b.take k) + 65536 ^ (i + k) * (a[i] * b[k]) := by
    rw [Nat.mul_add, Nat.pow_add]
    congr 1
    rw [Nat.mul_comm a[i], Nat.mul_assoc, Nat.mul_assoc]
    congr 1
    rw [<- Nat.mul_assoc, Nat.mul_comm a[i], Nat.mul_assoc]
   rw [e1, e2]
   generalize a[i] * 65536 ^ i * val (b.take k) = A at *
   generalize a[i] * b[k] = p at *
   generalize 65536 ^ (i + k) = B at *
   have h5 : B * (x + p + c) = B * (65536 * q + r) := by rw [hdm]
   simp only [Nat.mul_add] at h5
   have h6 : q * (B * 65536) = B * (65536 * q) := by rw [Nat.mul_comm q, Nat.mul_assoc]
   have h7 : c * B = B * c := Nat.mul_comm _ _
   omega

theorem l_mul {M : List AC -> Option (List AC)} {a b : List Nat} (ha : Dig a) (hb : Dig b) (hn : a.length + b.length <= 1000) : ∀ (m i : Nat) (out : List Nat), m = a.length - i -> i <= a.length -> Dig out -> out.length = a.length + b.length ->
  (∀ j (h : j < out.length), i + b.length <= j -> out[j] = 0) -> val out = val (a.take i) * val b ->
  ∃ out' : List Nat, loopC (st_cncref01_mul_3 M (loopC (st_cncref01_mul_7 M))) [.view kUs (out.map uR), .view kUs (a.map uR), .view kUs (b.map uR), I i] = some (1, [.view kUs (out'.map uR)]) /\
   Dig out' /\ out'.length = a.length + b.length /\ val out' = val a * val b
 | 0, i, out, hm, hi, ho, hl, hz, hv => by
  have hia : i = a.length := by omega
  subst hia
  rw [List.take_length] at hv
  refine ⟨out, ?_, ho, hl, hv⟩
  refine loop_end ?_ (by simp)
  rw [st_cncref01_mul_3_eq]
  simp only [go_sem]
  rw [if_neg (by simp)]
 | m + 1, i, out, hm, hi, ho, hl, hz, hv => by
  have hia : i < a.length := by omega
  obtain ⟨out1, c1, h1, h2, h3, h4, h5, h6⟩ := l_mul_in (M := M) ha hb hia hn (val out) b.length 0 out 0 (by omega) (by omega) ho (by omega) hl hz (by simp [val])
  have hz1 := h5 (i + b.length) (by omega) (Nat.le_refl _)
  have e1 : nth [] (out1.map uR) (i + b.length) = uR (out1[i + b.length]'(by omega)) := nth_map uR [] out1 _ (by omega)
  have hstep : st_cncref01_mul_3 M (loopC (st_cncref01_mul_7 M)) [.view kUs (out.map uR), .view kUs (a.map uR), .view kUs (b.map uR), I i] =
    some (0, [.view kUs ((out1.set (i + b.length) c1).map uR), .view kUs (a.map uR), .view kUs (b.map uR), I ((i + 1 : Nat) : Int)]) := by
   generalize loopC (st_cncref01_mul_7 M) = N at *
   rw [st_cncref01_mul_3_eq]
   rw [show (N [AC.view [Kd.int IntKind.u64] (out.map uR), AC.view [Kd.int IntKind.u64] (a.map uR), AC.view [Kd.int IntKind.u64] (b.map uR), AC.int IntKind.i64 (i : Int), AC.int IntKind.u64 0, AC.int IntKind.i64 0]) = _ from h1]
   have hw : IntKind.i64.wrap ((i : Int) + ((b.map uR).length : Int)) = ((i + b.length : Nat) : Int) := by rw [wrap_id (by simp; omega)]; simp
   simp only [go_sem, hw, Int.toNat_natCast, e1, hz1]
   rw [if_pos (by simp; omega), if_pos (by simp; omega), if_pos (by simp; omega), wrap_id (by omega)]
   have : IntKind.u64.wrap (((0 : Nat) : Int) + (c1 : Int)) = (c1 : Int) := by rw [uwrap_id (by omega)]; simp
   rw [this, map_uR_set]
   rfl
  rw [loop_more hstep]
  refine l_mul ha hb hn m (i + 1) _ (by omega) (by omega) (h2.set _ _ h3) (by simpa using h4) ?_ ?_
  ·intro j hj hij
   rw [List.getElem_set_ne (by omega)]
   exact h5 j (by simpa using hj) (by omega)
  ·have hs := val_set out1 (i + b.length) (by omega) c1
   rw [hz1] at hs
   rw [val_take_succ a i hia, Nat.add_mul, <- hv]
   have e2 : a[i] * 65536 ^ i * val b = 65536 ^ i * a[i] * val b := by rw [Nat.mul_comm a[i]]
   have e3 : c1 * 65536 ^ (i + b.length) = 65536 ^ (i + b.length) * c1 := Nat.mul_comm _ _
   omega
theorem a_cncref01_mul {M : List AC -> Option (List AC)} (hM : ∀ l : List Nat, l.length <= 1000 -> Dig l -> ∃ c : List Nat, M [.view kUs (l.map uR)] = some [.view kUs (c.map uR)] /\ val c = val l /\ Dig c /\ Cut c /\ c.length <= l.length)
  {a b : List Nat} (ha : Dig a) (hb : Dig b) (hn : a.length + b.length <= 1000) :
  ∃ c : List Nat, mf_cncref01_mul M (loopC (st_cncref01_mul_7 M)) (loopC (st_cncref01_mul_3 M (loopC (st_cncref01_mul_7 M)))) [.view kUs (a.map uR), .view kUs (b.map uR)] = some [.view kUs (c.map uR)] /\ val c = val a * val b /\ Dig c /\ Cut c /\ c.length <= a.length + b.length := by
 have hrep : ∀ n, val (List.replicate n 0) = 0 := by
  intro n
  induction n with
  | zero => rfl
  | succ n ih => simp [List.replicate_succ, val, ih]
 obtain ⟨out, h1, h2, h3, h4⟩ := l_mul (M := M) ha hb hn a.length 0 (List.replicate (a.length + b.length) 0) (by omega) (by omega) (fun d hd => by simp at hd; omega) (by simp) (fun j h _ => by simp) (by rw [hrep]; simp [val])
 obtain ⟨c, g1, g2, g3, g4, g5⟩ := hM out (by omega) h2
 refine ⟨c, ?_, by rw [g2, h4], g3, g4, by omega⟩
 generalize loopC (st_cncref01_mul_3 M (loopC (st_cncref01_mul_7 M))) = N3 at *
 generalize loopC (st_cncref01_mul_7 M) = N7 at *
 rw [mf_cncref01_mul_eq]
 have hw : IntKind.i64.wrap (((a.map uR).length : Int) + ((b.map uR).length : Int)) = ((a.length + b.length : Nat) : Int) := by rw [wrap_id (by simp; omega)]; simp
 have hrm : List.replicate (a.length + b.length) [AC.int IntKind.u64 0] = (List.replicate (a.length + b.length) 0).map uR := by simp
 simp only [hw, Int.toNat_natCast, hrm]
 rw [show (N3 [AC.view [Kd.int IntKind.u64] ((List.replicate (a.length + b.length) 0).map uR), AC.view [Kd.int IntKind.u64] (a.map uR), AC.view [Kd.int IntKind.u64] (b.map uR), AC.int IntKind.i64 0]) = _ from h1]
 simp only [go_sem]
 rw [if_pos (by omega), show M [AC.view [Kd.int IntKind.u64] (out.map uR)] = _ from g1]
 simp only [go_sem]
theorem s_cncref01_mul {a b : List Nat} (ha : Dig a) (hb : Dig b) (hn : a.length + b.length <= 1000) :
  ∃ c : List Nat, m_cncref01_mul [.view kUs (a.map uR), .view kUs (b.map uR)] = some [.view kUs (c.map uR)] /\ val c = val a * val b /\ Dig c /\ Cut c /\ c.length <= a.length + b.length :=
 a_cncref01_mul (fun _ hl hd => s_cncref01_cut hl hd) ha hb hn
theorem a_cncref01_product {M1 M2 M3 : List AC -> Option (List AC)} {x y : Int} {a b c : List Nat} (h1 : M3 [I x] = some [U x.natAbs]) (h2 : M3 [I y] = some [U y.natAbs]) (h3 : M2 [U x.natAbs] = some [.view kUs (a.map uR)]) (h4 : M2 [U y.natAbs] = some [.view kUs (b.map uR)])
  (h5 : M1 [.view kUs (a.map uR), .view kUs (b.map uR)] = some [.view kUs (c.map uR)]) : mf_cncref01_product M1 M2 M3 [I x, I y] = some [.view kUs (c.map uR)] := by
 rw [mf_cncref01_product_eq]
 simp only [go_sem, h1, h2, h3, h4, h5]
theorem s_cncref01_product {x y : Int} (hx : i64 x) (hy : i64 y) : ∃ c : List Nat, m_cncref01_product [I x, I y] = some [.view kUs (c.map uR)] /\ val c = x.natAbs * y.natAbs /\ Dig c /\ Cut c /\ c.length <= 8 := by
 have l1 := digs_len 4 x.natAbs (by rw [<- w64_pow]; exact i64_abs hx)
 have l2 := digs_len 4 y.natAbs (by rw [<- w64_pow]; exact i64_abs hy)
 obtain ⟨c, h1, h2, h3, h4, h5⟩ := s_cncref01_mul (digs_dig x.natAbs) (digs_dig y.natAbs) (by omega)
 rw [digs_val, digs_val] at h2
 exact ⟨c, a_cncref01_product (s_cncref01_mag hx) (s_cncref01_mag hy) (s_cncref01_limbs (i64_abs hx)) (s_cncref01_limbs (i64_abs hy)) h1, h2, h3, h4, by omega⟩
theorem a_cncref01_Cmp {M1 M2 M3 : List AC -> Option (List AC)} {a b c d : Int} {p q : List Nat} (ks : ∀ a b, M3 [I a, I b] = some [I (sgn a b)]) (h1 : M2 [I a, I b] = some [.view kUs (p.map uR)]) (h2 : M2 [I c, I d] = some [.view kUs (q.map uR)])
  (h3 : M1 [.view kUs (p.map uR), .view kUs (q.map uR)] = some [I (cmpN (a.natAbs * b.natAbs) (c.natAbs * d.natAbs))]) : mf_cncref01_Cmp M1 M2 M3 [I a, I b, I c, I d] = some [I (cmpI (a * b) (c * d))] := by
 have hm := unit_mul (sgn_bound a b) (cmpN_bound (a.natAbs * b.natAbs) (c.natAbs * d.natAbs))
 rw [mf_cncref01_Cmp_eq]
 simp only [go_sem, ks, h1, h2, h3]
 rw [<- cmp_sign, wrap_id (by omega)]
 by_cases g1 : sgn a b < sgn c d
 ·rw [if_pos g1, if_pos (by omega), if_pos g1]
 ·rw [if_neg g1]
  by_cases g2 : sgn a b > sgn c d
  ·rw [if_pos g2, if_pos (by omega), if_neg g1]
  ·rw [if_neg g2, if_neg (by omega)]
theorem s_cncref01_Cmp {a b c d : Int} (ha : i64 a) (hb : i64 b) (hc : i64 c) (hd : i64 d) : m_cncref01_Cmp [I a, I b, I c, I d] = some [I (cmpI (a * b) (c * d))] := by
 obtain ⟨p, p1, p2, p3, p4, p5⟩ := s_cncref01_product ha hb
 obtain ⟨q, q1, q2, q3, q4, q5⟩ := s_cncref01_product hc hd
 refine a_cncref01_Cmp s_cncref01_sign p1 q1 ?_
 rw [<- p2, <- q2]
 exact s_cncref01_cmp p3 q3 p4 q4 (by omega)
end Go.Bm
/- points as vectors: bounds, inner products, differences; when a point is near a straight line -/
set_option maxRecDepth 100000
namespace Go.Bm
def bd (A : Nat) (p : Pt) : Prop := p.x.natAbs <= A /\ p.y.natAbs <= A /\ p.z.natAbs <= A
def dotP (a b : Pt) : Int := a.x * b.x + a.y * b.y + a.z * b.z
def subP (a b : Pt) : Pt := ⟨a.x - b.x, a.y - b.y, a.z - b.z⟩
theorem mul_bd {x y : Int} {A B : Nat} (hx : x.natAbs <= A) (hy : y.natAbs <= B) : (x * y).natAbs <= A * B := by rw [Int.natAbs_mul]; exact Nat.mul_le_mul hx hy
theorem sub_bd {A B : Nat} {a b : Pt} (ha : bd A a) (hb : bd B b) : bd (A + B) (subP a b) := by
 obtain ⟨h1, h2, h3⟩ := ha
 obtain ⟨g1, g2, g3⟩ := hb
 refine ⟨?_, ?_, ?_⟩ <;> simp only [subP] <;> omega
theorem bd_mono {A B : Nat} {a : Pt} (h : bd A a) (hab : A <= B) : bd B a := ⟨Nat.le_trans h.1 hab, Nat.le_trans h.2.1 hab, Nat.le_trans h.2.2 hab⟩

theorem sub_wrap {a b : Pt} (ha : bd 33554432 a) (hb : bd 33554432 b) : IntKind.i64.wrap (a.x - b.x) = (subP a b).x /\ IntKind.i64.wrap (a.y - b.y) = (subP a b).y /\ IntKind.i64.wrap (a.z - b.z) = (subP a b).z := by
 obtain ⟨h1, h2, h3⟩ := ha
 obtain ⟨g1, g2, g3⟩ := hb
 refine ⟨?_, ?_, ?_⟩ <;> rw [wrap_id (by omega)] <;> rfl
theorem s_cncref24_Minus {a b : Pt} (ha : bd 33554432 a) (hb : bd 33554432 b) : m_cncref24_Minus [I a.x, I a.y, I a.z, I b.x, I b.y, I b.z] = some (ptR (subP a b)) := by
 unfold m_cncref24_Minus
 obtain ⟨h1, h2, h3⟩ := sub_wrap ha hb
 rw [mf_cncref24_Minus_eq, h1, h2, h3]
theorem dot_neg (a b : Pt) : dotP (subP a b) (subP a b) = dotP (subP b a) (subP b a) := by
 simp only [dotP, subP]
 have h : ∀ x y : Int, (x - y) * (x - y) = (y - x) * (y - x) := by intro x y; rw [<- Int.neg_mul_neg, Int.neg_sub]
 rw [h a.x, h a.y, h a.z]
theorem cmpI_le {x y : Int} : cmpI x y <= 0 ↔ x <= y := by
 unfold cmpI
 by_cases h : x < y
 ·rw [if_pos h]; omega
 ·rw [if_neg h]
  by_cases h' : x = y
  ·rw [if_pos h']; omega
  ·rw [if_neg h']; omega

end Go.Bm
