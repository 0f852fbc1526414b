/- laid together -/
import Derived.Test.YtdllaekpkcanbaaPrD
import Derived.Test.YtdllaekpkcanbaaMx5
import Derived.Test.YtdllaekpkcanbaaPrA
import Derived.Lib.ItoaNum
set_option linter.unusedVariables false
set_option linter.unusedSimpArgs false
/- products divided and rounded: wide.MulDiv and the reference's Rounded -/
set_option maxRecDepth 100000
namespace Go.Bm

def near (a b : Int) : Int := (2 * a + b) / (2 * b)
theorem near_of {a b k : Int} (hb : 0 < b) (h1 : k * (2 * b) <= 2 * a + b) (h2 : 2 * a + b < (k + 1) * (2 * b)) : near a b = k := by
 unfold near
 have g1 : k <= (2 * a + b) / (2 * b) := (Int.le_ediv_iff_mul_le (by omega)).2 h1
 have g2 : (2 * a + b) / (2 * b) < k + 1 := (Int.ediv_lt_iff_lt_mul (by omega)).2 h2
 omega
theorem s_bits_Div64_0 {p c : Nat} (hp : p < w64) (hc : 0 < c) : m_bits_Div64 [U 0, U p, U c] = some [U ((p / c : Nat) : Int), U ((p % c : Nat) : Int)] := by
 rw [w64_eq] at hp
 have h1 : (p : Int).tdiv (c : Int) = ((p / c : Nat) : Int) := by rw [Int.tdiv_eq_ediv_of_nonneg (by omega)]; simp
 have h2 : (p : Int).tmod (c : Int) = ((p % c : Nat) : Int) := by rw [Int.tmod_eq_emod_of_nonneg (by omega)]; simp
 have h3 : p / c <= p := Nat.div_le_self _ _
 unfold m_bits_Div64
 generalize m_bits_LeadingZeros64 = M
 generalize l_bits_Div64_17 = N1
 generalize l_bits_Div64_24 = N2
 rw [mf_bits_Div64_eq]
 rw [bif_false (by simp; omega), bif_neg (by omega), bif_true (by simp), bif_neg (by omega), bif_neg (by omega), h1, h2]
 generalize p / c = q at *
 rw [uwrap_id (by omega)]
theorem s_wide_grows2 (more : Int) (some_ neg : Bool) : m_wide_grows [I 2, I more, B some_, B neg] = some [B (if more > 0 then true else if more = 0 then !neg else false)] := by
 unfold m_wide_grows
 rw [mf_wide_grows_eq]
 simp only [go_sem]
 rw [if_neg (by omega), if_neg (by omega)]
 repeat' split
 all_goals rfl
theorem s_wide_signed_neg {n : Nat} (h : n <= 9223372036854775808) : m_wide_signed [U n, B true] = some [I (-(n : Int)), B true] := by
 unfold m_wide_signed
 rw [mf_wide_signed_eq]
 simp only [go_sem]
 rw [if_pos (by omega), uwrap_mod, wrap_def]
 have : ((0 - (n : Int)) % 18446744073709551616 + 9223372036854775808) % 18446744073709551616 - 9223372036854775808 = -(n : Int) := by omega
 rw [this]

def rndN (q r c : Nat) (neg : Bool) : Nat := if r > c - r then q + 1 else if r < c - r then q else if neg then q else q + 1
theorem a_wide_MulDiv {M1 M2 M3 M4 M5 M6 M7 : List AC -> Option (List AC)} {a b s : Int} {A C p q r c : Nat} (hc0 : 0 < c) (hc1 : c < 9223372036854775808) (hr : r < c) (hq : q < 9223372036854775807)
  (k1 : M7 [I 2] = some [B true]) (k2 : M6 [I a] = some [U A]) (k3 : M6 [I b] = some [U C]) (k4 : M6 [I c] = some [U c]) (k5 : M5 [U A, U C] = some [U 0, U p]) (k6 : M4 [U 0, U p, U c] = some [U q, U r]) (k7 : M3 [I a, I b] = some [I s])
  (k8 : ∀ (more : Int) (some_ neg : Bool), M2 [I 2, I more, B some_, B neg] = some [B (if more > 0 then true else if more = 0 then !neg else false)])
  (k9 : ∀ k : Nat, k < 9223372036854775808 -> M1 [U k, B false] = some [I k, B true]) (k10 : ∀ k : Nat, k < 9223372036854775808 -> M1 [U k, B true] = some [I (-(k : Int)), B true]) :
  mf_wide_MulDiv M1 M2 M3 M4 M5 M6 M7 [I a, I b, I c, I 2] = some [I (if s < 0 then -(rndN q r c true : Int) else (rndN q r c false : Int)), B true] := by
 have w1 : IntKind.u64.wrap ((c : Int) - (r : Int)) = ((c - r : Nat) : Int) := by rw [uwrap_id (by omega)]; omega
 have w2 : IntKind.u64.wrap ((q : Int) + 1) = ((q + 1 : Nat) : Int) := by rw [uwrap_id (by omega)]; omega
 have n1 := k9 q (by omega)
 have n2 := k9 (q + 1) (by omega)
 rw [mf_wide_MulDiv_eq]
 simp only [go_sem, k1, k2, k3, k4, k5, k6, k7, k8, w1, w2, n1, n2]
 rw [if_neg (by omega), if_neg (by simp), if_neg (by omega)]
 by_cases hs : s < 0
 ·rw [if_pos hs]
  rw [if_pos (show ¬(s < 0 ↔ (c : Int) < 0) by omega)]
  have hne : (s != 0) = true := by simp; omega
  rw [hne]
  unfold rndN
  by_cases g1 : r > c - r
  ·rw [if_pos g1]
   rw [if_pos (show (r : Int) > ((c - r : Nat) : Int) by omega), if_pos (by decide), if_neg (show ¬ ((q + 1 : Nat) : Int) = 0 by omega), k10 (q + 1) (by omega)]
   simp only [go_sem]
  ·rw [if_neg g1]
   rw [if_neg (show ¬ (r : Int) > ((c - r : Nat) : Int) by omega)]
   by_cases g2 : r < c - r
   ·rw [if_pos g2]
    rw [if_pos (show (r : Int) < ((c - r : Nat) : Int) by omega), if_neg (by decide), k10 q (by omega)]
    simp only [go_sem]
   ·rw [if_neg g2, if_pos rfl]
    rw [if_neg (show ¬ (r : Int) < ((c - r : Nat) : Int) by omega), if_neg (by decide), k10 q (by omega)]
    simp only [go_sem]
 ·rw [if_neg hs]
  rw [if_neg (show ¬¬(s < 0 ↔ (c : Int) < 0) by omega)]
  unfold rndN
  by_cases g1 : r > c - r
  ·rw [if_pos g1, if_pos (show (r : Int) > ((c - r : Nat) : Int) by omega), if_pos (by decide), if_neg (show ¬ ((q + 1 : Nat) : Int) = 0 by omega)]
  ·rw [if_neg g1, if_neg (show ¬ (r : Int) > ((c - r : Nat) : Int) by omega)]
   by_cases g2 : r < c - r
   ·rw [if_pos g2, if_pos (show (r : Int) < ((c - r : Nat) : Int) by omega), if_neg (by decide)]
   ·rw [if_neg g2, if_neg (show ¬ (r : Int) < ((c - r : Nat) : Int) by omega), if_pos (by decide), if_neg (show ¬ ((q + 1 : Nat) : Int) = 0 by omega), if_neg (by decide)]

theorem rndN_false (q r c : Nat) : rndN q r c false = if r < c - r then q else q + 1 := by
 unfold rndN
 by_cases h1 : r > c - r
 ·rw [if_pos h1, if_neg (by omega)]
 ·rw [if_neg h1]
  by_cases h2 : r < c - r
  ·rw [if_pos h2, if_pos h2]
  ·rw [if_neg h2, if_neg h2, if_neg (by simp)]
theorem rndN_true (q r c : Nat) : rndN q r c true = if r > c - r then q + 1 else q := by
 unfold rndN
 by_cases h1 : r > c - r
 ·rw [if_pos h1, if_pos h1]
 ·rw [if_neg h1, if_neg h1]
  by_cases h2 : r < c - r
  ·rw [if_pos h2]
  ·rw [if_neg h2, if_pos rfl]
theorem near_pos {p q r c : Nat} (hc : 0 < c) (h : p = c * q + r) (hr : r < c) : near p c = rndN q r c false := by
 have e : (p : Int) = (c : Int) * q + r := by rw [h]; simp
 have e3 : (q : Int) * (2 * c) = 2 * ((c : Int) * q) := by grind
 have e4 : ((q + 1 : Nat) : Int) * (2 * c) = 2 * ((c : Int) * q) + 2 * c := by grind
 have e5 : ((q : Int) + 1) * (2 * c) = 2 * ((c : Int) * q) + 2 * c := by grind
 have e6 : (((q + 1 : Nat) : Int) + 1) * (2 * c) = 2 * ((c : Int) * q) + 4 * c := by grind
 rw [rndN_false]
 by_cases g : r < c - r
 ·rw [if_pos g]
  exact near_of (by omega) (by rw [e3]; omega) (by rw [e5]; omega)
 ·rw [if_neg g]
  exact near_of (by omega) (by rw [e4]; omega) (by rw [e6]; omega)
theorem near_neg {p q r c : Nat} (hc : 0 < c) (h : p = c * q + r) (hr : r < c) : near (-(p : Int)) c = -(rndN q r c true : Int) := by
 have e : (p : Int) = (c : Int) * q + r := by rw [h]; simp
 have e3 : -(q : Int) * (2 * c) = -(2 * ((c : Int) * q)) := by grind
 have e4 : -((q + 1 : Nat) : Int) * (2 * c) = -(2 * ((c : Int) * q)) - 2 * c := by grind
 have e5 : (-(q : Int) + 1) * (2 * c) = -(2 * ((c : Int) * q)) + 2 * c := by grind
 have e6 : (-((q + 1 : Nat) : Int) + 1) * (2 * c) = -(2 * ((c : Int) * q)) := by grind
 rw [rndN_true]
 by_cases g : r > c - r
 ·rw [if_pos g]
  exact near_of (by omega) (by rw [e4]; omega) (by rw [e6]; omega)
 ·rw [if_neg g]
  exact near_of (by omega) (by rw [e3]; omega) (by rw [e5]; omega)
theorem s_wide_MulDiv {a b c : Int} (ha : i64 a) (hb : i64 b) (hc : 0 < c /\ c < 9223372036854775808) (hp : a.natAbs * b.natAbs < 9223372036854775807) : m_wide_MulDiv [I a, I b, I c, I 2] = some [I (near (a * b) c), B true] := by
 obtain ⟨hi, lo, e1, e2, e3⟩ := s_wide_product' (i64_abs ha) (i64_abs hb)
 have hm := sgn_mul a b
 have hs := sgn_cases a b
 have hz : a * b = 0 -> a.natAbs * b.natAbs = 0 := fun h => by rw [<- Int.natAbs_mul, h]; rfl
 generalize a.natAbs * b.natAbs = p at *
 have hhi : hi = 0 := by
  rcases Nat.eq_zero_or_pos hi with h | h
  ·exact h
  ·have := Nat.mul_le_mul_right w64 h
   have := w64_eq
   omega
 subst hhi
 have hlo : lo = p := by omega
 subst hlo
 obtain ⟨n, rfl⟩ := Int.eq_ofNat_of_zero_le (show 0 <= c by omega)
 have hn : 0 < n := by omega
 have h1 := Nat.div_add_mod lo n
 have h2 := Nat.mod_lt lo hn
 have h3 : lo / n <= lo := Nat.div_le_self _ _
 have hd := s_bits_Div64_0 e3 hn
 have hcs := s_wide_size (x := (n : Int)) (by unfold i64; omega)
 rw [Int.natAbs_natCast] at hcs
 generalize lo / n = q at *
 generalize lo % n = r at *
 have hmain := a_wide_MulDiv (M1 := m_wide_signed) (M2 := m_wide_grows) (M3 := m_wide_sign) (M4 := m_bits_Div64) (M5 := m_wide_product) (M6 := m_wide_size) (M7 := m_wide_known) hn (by omega) h2 (by omega)
  (s_wide_known (.inr (.inr rfl))) (s_wide_size ha) (s_wide_size hb) hcs e1 hd (s_wide_sign a b) s_wide_grows2 (fun k hk => s_wide_signed hk) (fun k hk => s_wide_signed_neg (by omega))
 have hv : (if sgn a b < 0 then -(rndN q r n true : Int) else (rndN q r n false : Int)) = near (a * b) n := by
  rcases hs with ⟨g1, g2⟩ | ⟨g1, g2⟩ | ⟨g1, g2⟩
  ·rw [if_neg (by omega), g2]
   rw [g1] at hm
   have : lo = 0 := hz g2
   rw [<- near_pos hn h1.symm h2, this]; rfl
  ·rw [if_neg (by omega), <- near_pos hn h1.symm h2, <- hm, g1, Int.one_mul]
  ·rw [if_pos (by omega), <- near_neg hn h1.symm h2, <- hm, g1, Int.neg_mul, Int.one_mul]
 rw [hv] at hmain
 exact hmain
end Go.Bm
/- layer 1's reference: numbers as lists of digits to the base 65536 -/
set_option maxRecDepth 100000
namespace Go.Bm

def val : List Nat -> Nat
 | [] => 0
 | d :: l => d + 65536 * val l
def Dig (l : List Nat) : Prop := ∀ d ∈ l, d < 65536
theorem Dig.sub {l m : List Nat} (h : Dig l) (hs : ∀ d ∈ m, d ∈ l) : Dig m := fun d hd => h d (hs d hd)

end Go.Bm
/- layer 1's reference: the product of numbers as lists of digits, and the comparison of products -/
set_option maxRecDepth 100000
namespace Go.Bm

theorem Dig.set {l : List Nat} (h : Dig l) (j d : Nat) (hd : d < 65536) : Dig (l.set j d) := by
 intro x hx
 rcases List.mem_or_eq_of_mem_set hx with h' | rfl
 ·exact h x h'
 ·exact hd
end Go.Bm
/- points as vectors: bounds, inner products, differences; when a point is near a straight line -/
set_option maxRecDepth 100000
namespace Go.Bm
def bd (A : Nat) (p : Pt) : Prop := p.x.natAbs <= A /\ p.y.natAbs <= A /\ p.z.natAbs <= A
def dotP (a b : Pt) : Int := a.x * b.x + a.y * b.y + a.z * b.z
def subP (a b : Pt) : Pt := ⟨a.x - b.x, a.y - b.y, a.z - b.z⟩
theorem mul_bd {x y : Int} {A B : Nat} (hx : x.natAbs <= A) (hy : y.natAbs <= B) : (x * y).natAbs <= A * B := by rw [Int.natAbs_mul]; exact Nat.mul_le_mul hx hy
theorem sub_bd {A B : Nat} {a b : Pt} (ha : bd A a) (hb : bd B b) : bd (A + B) (subP a b) := by
 obtain ⟨h1, h2, h3⟩ := ha
 obtain ⟨g1, g2, g3⟩ := hb
 refine ⟨?_, ?_, ?_⟩ <;> simp only [subP] <;> omega
theorem bd_mono {A B : Nat} {a : Pt} (h : bd A a) (hab : A <= B) : bd B a := ⟨Nat.le_trans h.1 hab, Nat.le_trans h.2.1 hab, Nat.le_trans h.2.2 hab⟩

theorem sub_wrap {a b : Pt} (ha : bd 33554432 a) (hb : bd 33554432 b) : IntKind.i64.wrap (a.x - b.x) = (subP a b).x /\ IntKind.i64.wrap (a.y - b.y) = (subP a b).y /\ IntKind.i64.wrap (a.z - b.z) = (subP a b).z := by
 obtain ⟨h1, h2, h3⟩ := ha
 obtain ⟨g1, g2, g3⟩ := hb
 refine ⟨?_, ?_, ?_⟩ <;> rw [wrap_id (by omega)] <;> rfl
theorem s_cncref24_Minus {a b : Pt} (ha : bd 33554432 a) (hb : bd 33554432 b) : m_cncref24_Minus [I a.x, I a.y, I a.z, I b.x, I b.y, I b.z] = some (ptR (subP a b)) := by
 unfold m_cncref24_Minus
 obtain ⟨h1, h2, h3⟩ := sub_wrap ha hb
 rw [mf_cncref24_Minus_eq, h1, h2, h3]
theorem dot_neg (a b : Pt) : dotP (subP a b) (subP a b) = dotP (subP b a) (subP b a) := by
 simp only [dotP, subP]
 have h : ∀ x y : Int, (x - y) * (x - y) = (y - x) * (y - x) := by intro x y; rw [<- Int.neg_mul_neg, Int.neg_sub]
 rw [h a.x, h a.y, h a.z]
theorem cmpI_le {x y : Int} : cmpI x y <= 0 ↔ x <= y := by
 unfold cmpI
 by_cases h : x < y
 ·rw [if_pos h]; omega
 ·rw [if_neg h]
  by_cases h' : x = y
  ·rw [if_pos h']; omega
  ·rw [if_neg h']; omega

end Go.Bm
/- the reference's products of two words, roots, lengths, and x r / sqrt n, rounded -/
set_option maxRecDepth 100000
namespace Go.Bm

theorem and32 (v : Nat) (h : v < w64) : IntKind.u64.wrap (((BitVec.ofInt IntKind.u64.bits (v : Int) &&& BitVec.ofInt IntKind.u64.bits 4294967295).toNat : Nat) : Int) = ((v % 4294967296 : Nat) : Int) := by
 rw [w64_eq] at h
 have e : (BitVec.ofInt IntKind.u64.bits (v : Int) &&& BitVec.ofInt IntKind.u64.bits 4294967295).toNat = v % 4294967296 := by
  rw [BitVec.toNat_and]
  have e1 : (BitVec.ofInt IntKind.u64.bits (v : Int)).toNat = v := by
   simp only [IntKind.bits, BitVec.toNat_ofInt]
   omega
  have e2 : (BitVec.ofInt IntKind.u64.bits 4294967295).toNat = 2 ^ 32 - 1 := by
   simp only [IntKind.bits, BitVec.toNat_ofInt]
   rfl
  rw [e1, e2, Nat.and_two_pow_sub_one_eq_mod]
 rw [e, uwrap_id (by omega)]
theorem shr32 (v : Nat) : (v : Int).fdiv (2 ^ min (Int.toNat 32) IntKind.u64.bits) = ((v / 4294967296 : Nat) : Int) := by
 have e : (2 ^ min (Int.toNat 32) IntKind.u64.bits : Int) = 4294967296 := rfl
 rw [e, Int.fdiv_eq_ediv_of_nonneg _ (by omega)]
 omega
theorem or32 (u v : Nat) (hu : u < 4294967296) (hv : v < 4294967296) : IntKind.u64.wrap (((BitVec.ofInt IntKind.u64.bits ((u * 4294967296 : Nat) : Int) ||| BitVec.ofInt IntKind.u64.bits (v : Int)).toNat : Nat) : Int) = ((u * 4294967296 + v : Nat) : Int) := by
 have e : (BitVec.ofInt IntKind.u64.bits ((u * 4294967296 : Nat) : Int) ||| BitVec.ofInt IntKind.u64.bits (v : Int)).toNat = u * 4294967296 + v := by
  rw [BitVec.toNat_or]
  have e1 : ∀ v : Nat, v < 18446744073709551616 -> (BitVec.ofInt IntKind.u64.bits (v : Int)).toNat = v := by
   intro v hv
   simp only [IntKind.bits, BitVec.toNat_ofInt]
   omega
  rw [e1 _ (by omega), e1 _ (by omega)]
  have := Nat.two_pow_add_eq_or_of_lt (i := 32) (b := v) (by omega) u
  rw [show (2 : Nat) ^ 32 = 4294967296 from rfl, Nat.mul_comm] at this
  exact this.symm
 rw [e, uwrap_id (by omega)]
theorem shl32 (v : Nat) (h : v < w64) : IntKind.u64.wrap ((v : Int) * 2 ^ min (Int.toNat 32) IntKind.u64.bits) = ((v % 4294967296 * 4294967296 : Nat) : Int) := by
 have e : (2 ^ min (Int.toNat 32) IntKind.u64.bits : Int) = 4294967296 := rfl
 rw [w64_eq] at h
 rw [e, uwrap_mod]
 omega
theorem mul32 {a b : Nat} (ha : a < 4294967296) (hb : b < 4294967296) : a * b <= 18446744065119617025 := by
 have := Nat.mul_le_mul (show a <= 4294967295 by omega) (show b <= 4294967295 by omega)
 omega
theorem s_cncref23_product {x y : Nat} (hx : x < w64) (hy : y < w64) : ∃ hi lo : Nat, m_cncref23_product [U x, U y] = some [U hi, U lo] /\ hi * w64 + lo = x * y /\ lo < w64 := by
 unfold m_cncref23_product
 rw [mf_cncref23_product_eq, and32 x hx, and32 y hy, shr32 x, shr32 y]
 rw [w64_eq] at hx hy
 have ex : x = x / 4294967296 * 4294967296 + x % 4294967296 := by omega
 have ey : y = y / 4294967296 * 4294967296 + y % 4294967296 := by omega
 have hx1 : x / 4294967296 < 4294967296 := by omega
 have hx0 : x % 4294967296 < 4294967296 := by omega
 have hy1 : y / 4294967296 < 4294967296 := by omega
 have hy0 : y % 4294967296 < 4294967296 := by omega
 generalize x / 4294967296 = a at *
 generalize x % 4294967296 = b at *
 generalize y / 4294967296 = c at *
 generalize y % 4294967296 = d at *
 have exy : x * y = (a * c) * 18446744073709551616 + (a * d) * 4294967296 + (b * c) * 4294967296 + b * d := by
  rw [ex, ey]
  have : (18446744073709551616 : Nat) = 4294967296 * 4294967296 := rfl
  rw [this]
  generalize (4294967296 : Nat) = H
  grind
 rw [exy]
 have h1 := mul32 hx1 hy1
 have h2 := mul32 hx1 hy0
 have h3 := mul32 hx0 hy1
 have h4 := mul32 hx0 hy0
 have m1 : ∀ p q : Nat, (p : Int) * (q : Int) = ((p * q : Nat) : Int) := fun p q => by simp
 have u1 : ∀ v : Nat, v <= 18446744073709551615 -> IntKind.u64.wrap (v : Int) = (v : Int) := fun v hv => uwrap_id (by omega)
 simp only [m1]
 generalize a * c = P at *
 generalize a * d = Q at *
 generalize b * c = S at *
 generalize b * d = T at *
 have hw64 : ∀ v : Nat, v <= 18446744073709551615 -> v < w64 := fun v hv => by rw [w64_eq]; omega
 have a1 : ∀ p q : Nat, (p : Int) + (q : Int) = ((p + q : Nat) : Int) := fun p q => by simp
 rw [u1 T (by omega), u1 Q (by omega), u1 S (by omega), u1 P (by omega), shr32 T, a1, u1 (Q + T / 4294967296) (by omega)]
 rw [and32 _ (hw64 (Q + T / 4294967296) (by omega)), shr32 (Q + T / 4294967296), and32 _ (hw64 T (by omega)), a1 S, u1 (S + _) (by omega), shr32 (S + _), a1 P, u1 (P + _) (by omega), a1 _ ((S + _) / _), u1 (P + _ + _) (by omega),
  shl32 _ (hw64 (S + (Q + T / 4294967296) % 4294967296) (by omega)), or32 _ _ (by omega) (by omega)]
 refine ⟨_, _, rfl, ?_, ?_⟩
 ·rw [w64_eq]; omega
 ·rw [w64_eq]; omega

theorem a_cncref23_most {M : List AC -> Option (List AC)} (hM : ∀ {x y : Nat}, x < w64 -> y < w64 -> ∃ hi lo : Nat, M [U x, U y] = some [U hi, U lo] /\ hi * w64 + lo = x * y /\ lo < w64) {a b c d : Nat} (ha : a < w64) (hb : b < w64) (hc : c < w64) (hd : d < w64) (s : Bool) :
  mf_cncref23_most M [U a, U b, U c, U d, B s] = some [B (if s = true then decide (a * b < c * d) else decide (a * b <= c * d))] := by
 obtain ⟨h1, l1, e1, f1, g1⟩ := hM ha hb
 obtain ⟨h2, l2, e2, f2, g2⟩ := hM hc hd
 rw [mf_cncref23_most_eq]
 simp only [go_sem, e1, e2]
 rw [<- f1, <- f2]
 have key : ∀ p q : Nat, p < q -> p * w64 + w64 <= q * w64 := fun p q h => by rw [<- Nat.succ_mul]; exact Nat.mul_le_mul_right _ h
 by_cases c1 : h1 < h2
 ·rw [if_pos (by omega)]
  have := key _ _ c1
  by_cases hs : s = true
  ·rw [if_pos hs, decide_eq_true (by omega)]
  ·rw [if_neg hs, decide_eq_true (by omega)]
 ·rw [if_neg (by omega)]
  by_cases c2 : h1 = h2
  ·subst c2
   rw [if_pos rfl]
   by_cases c3 : l1 < l2
   ·rw [if_pos (by omega)]
    by_cases hs : s = true
    ·rw [if_pos hs, decide_eq_true (by omega)]
    ·rw [if_neg hs, decide_eq_true (by omega)]
   ·rw [if_neg (by omega)]
    by_cases c4 : l1 = l2
    ·subst c4
     rw [if_pos rfl]
     by_cases hs : s = true
     ·rw [if_pos hs, decide_eq_false (by omega), hs]; rfl
     ·rw [if_neg hs, decide_eq_true (by omega)]; simp at hs; rw [hs]; rfl
    ·rw [if_neg (by omega)]
     by_cases hs : s = true
     ·rw [if_pos hs, decide_eq_false (by omega)]
     ·rw [if_neg hs, decide_eq_false (by omega)]
  ·rw [if_neg (by omega)]
   have := key h2 h1 (by omega)
   by_cases hs : s = true
   ·rw [if_pos hs, decide_eq_false (by omega)]
   ·rw [if_neg hs, decide_eq_false (by omega)]
theorem s_cncref23_most {a b c d : Nat} (ha : a < w64) (hb : b < w64) (hc : c < w64) (hd : d < w64) (s : Bool) :
  m_cncref23_most [U a, U b, U c, U d, B s] = some [B (if s = true then decide (a * b < c * d) else decide (a * b <= c * d))] :=
 a_cncref23_most s_cncref23_product ha hb hc hd s

def IsRnd (a n : Nat) (down : Bool) (j : Nat) : Prop :=
 (j = 0 \/ if down = true then (2 * j - 1) * (2 * j - 1) * n < 4 * (a * a) else (2 * j - 1) * (2 * j - 1) * n <= 4 * (a * a)) /\
 (if down = true then 4 * (a * a) <= (2 * j + 1) * (2 * j + 1) * n else 4 * (a * a) < (2 * j + 1) * (2 * j + 1) * n)
theorem sqn_le {p q n : Nat} (h : p <= q) : p * p * n <= q * q * n := Nat.mul_le_mul_right _ (Nat.mul_le_mul h h)
theorem isRnd_unique {a n : Nat} {down : Bool} {i j : Nat} (hi : IsRnd a n down i) (hj : IsRnd a n down j) : i = j := by
 have key : ∀ {i j : Nat}, IsRnd a n down i -> IsRnd a n down j -> ¬ i < j := by
  rintro i j ⟨-, h2⟩ ⟨h3, -⟩ hlt
  have h4 := sqn_le (n := n) (show 2 * i + 1 <= 2 * j - 1 by omega)
  rcases h3 with h3 | h3
  ·omega
  ·by_cases hd : down = true
   ·rw [if_pos hd] at h2 h3; omega
   ·rw [if_neg hd] at h2 h3; omega
 have h1 := key hi hj
 have h2 := key hj hi
 omega
open Classical in
noncomputable def rnd (a n : Nat) (down : Bool) : Nat := if h : ∃ j, IsRnd a n down j then Classical.choose h else 0
theorem rnd_of {a n : Nat} {down : Bool} {j : Nat} (h : IsRnd a n down j) : rnd a n down = j := by
 have hx : ∃ j, IsRnd a n down j := ⟨j, h⟩
 unfold rnd
 rw [dif_pos hx]
 exact isRnd_unique (Classical.choose_spec hx) h
noncomputable def nearR (x r n : Int) : Int := if x < 0 then -(rnd (x.natAbs * r.natAbs) n.natAbs true : Int) else (rnd (x.natAbs * r.natAbs) n.natAbs false : Int)

theorem isRnd_le {X R n j : Nat} {down : Bool} (hn : 0 < n) (hx : X * X <= n) (h : IsRnd (X * R) n down j) : j <= R := by
 by_cases c : j <= R
 ·exact c
 exfalso
 have e : 4 * (X * R * (X * R)) = (2 * R) * (2 * R) * (X * X) := by grind
 have h2 : (2 * R) * (2 * R) * (X * X) <= (2 * R) * (2 * R) * n := Nat.mul_le_mul_left _ hx
 have h3 : (2 * R) * (2 * R) * n < (2 * R + 1) * (2 * R + 1) * n := Nat.mul_lt_mul_of_pos_right (Nat.mul_self_lt_mul_self (by omega)) hn
 have h4 : (2 * R + 1) * (2 * R + 1) * n <= (2 * j - 1) * (2 * j - 1) * n := sqn_le (by omega)
 obtain ⟨h5, -⟩ := h
 rcases h5 with h5 | h5
 ·omega
 ·split at h5 <;> omega
theorem isRnd_le' {X R n j : Nat} {down : Bool} (hn : 0 < n) (hx : R * R <= n) (h : IsRnd (X * R) n down j) : j <= X := by
 rw [Nat.mul_comm] at h
 exact isRnd_le hn hx h
theorem st_Near {M : List AC -> Option (List AC)} (hM : ∀ {a b c d : Nat}, a < w64 -> b < w64 -> c < w64 -> d < w64 -> ∀ s : Bool, M [U a, U b, U c, U d, B s] = some [B (if s = true then decide (a * b < c * d) else decide (a * b <= c * d))])
  {x : Int} {a d q b : Nat} {bit : Int} (ha : a < 36028797018963968) (hd : d < w64) (hq : q + b < 268435456 + 1) (hb0 : 0 < b) (hb : ((b : Nat) : Int).fdiv (2 ^ min (Int.toNat 1) IntKind.u64.bits) = bit) :
  st_cncref23_Near_3 M [I x, U a, U d, U q, U b] = some (0, [I x, U a, U d, U (((if (q + b) * (q + b) * d <= a * a then q + b else q) : Nat) : Int), U bit]) := by
 have hs : (q + b) * (q + b) <= 268435456 * 268435456 := Nat.mul_le_mul (by omega) (by omega)
 have w1 : IntKind.u64.wrap ((q : Int) + (b : Int)) = ((q + b : Nat) : Int) := by rw [uwrap_id (by omega)]; omega
 have w2 : IntKind.u64.wrap (((q + b : Nat) : Int) * ((q + b : Nat) : Int)) = (((q + b) * (q + b) : Nat) : Int) := by
  rw [show ((q + b : Nat) : Int) * ((q + b : Nat) : Int) = (((q + b) * (q + b) : Nat) : Int) by simp, uwrap_id (by omega)]
 rw [st_cncref23_Near_3_eq, w1, w2, hb]
 generalize (q + b) * (q + b) = s at *
 have h := hM (a := s) (b := d) (c := a) (d := a) (by rw [w64_eq]; omega) hd (by rw [w64_eq]; omega) (by rw [w64_eq]; omega) false
 rw [if_neg (by simp)] at h
 simp only [go_sem, h]
 rw [if_pos (by omega)]
 by_cases c : s * d <= a * a
 ·rw [if_pos c, if_pos c]
 ·rw [if_neg c, if_neg c]
theorem l_Near {M : List AC -> Option (List AC)} (hM : ∀ {a b c d : Nat}, a < w64 -> b < w64 -> c < w64 -> d < w64 -> ∀ s : Bool, M [U a, U b, U c, U d, B s] = some [B (if s = true then decide (a * b < c * d) else decide (a * b <= c * d))])
  {x : Int} {a d : Nat} (ha : a < 36028797018963968) (hd : d < w64) : ∀ (k q : Nat), q + 2 ^ (k + 1) <= 268435456 -> q * q * d <= a * a -> a * a < (q + 2 ^ (k + 1)) * (q + 2 ^ (k + 1)) * d ->
  ∃ r : Nat, loopC (st_cncref23_Near_3 M) [I x, U a, U d, U q, U ((2 ^ k : Nat) : Int)] = some (1, [I x, U a, U d, U r]) /\ r * r * d <= a * a /\ a * a < (r + 1) * (r + 1) * d /\ r < 268435456
 | 0, q, hq, h1, h2 => by
  have hs := st_Near hM (x := x) (q := q) (b := 2 ^ 0) (bit := 0) ha hd (by simp at hq ⊢; omega) (by simp) half0
  rw [loop_more hs]
  have hend : ∀ r : Nat, loopC (st_cncref23_Near_3 M) [I x, U a, U d, U r, U 0] = some (1, [I x, U a, U d, U r]) := by
   intro r
   refine loop_end ?_ (by simp)
   rw [st_cncref23_Near_3_eq]
   simp only [go_sem]
   rw [if_neg (by omega)]
  simp only [Nat.zero_add, Nat.pow_one, Nat.pow_zero] at *
  by_cases h : (q + 1) * (q + 1) * d <= a * a
  ·rw [if_pos h, hend]
   exact ⟨_, rfl, h, h2, by omega⟩
  ·rw [if_neg h, hend]
   exact ⟨_, rfl, h1, by omega, by omega⟩
 | k + 1, q, hq, h1, h2 => by
  have e3 : 2 ^ (k + 1 + 1) = 2 ^ (k + 1) + 2 ^ (k + 1) := by rw [Nat.pow_succ 2 (k + 1)]; omega
  have hpos : 0 < 2 ^ (k + 1) := Nat.two_pow_pos _
  have hs := st_Near hM (x := x) (q := q) (b := 2 ^ (k + 1)) (bit := ((2 ^ k : Nat) : Int)) ha hd (by omega) hpos (half k)
  rw [loop_more hs]
  by_cases h : (q + 2 ^ (k + 1)) * (q + 2 ^ (k + 1)) * d <= a * a
  ·rw [if_pos h]
   refine l_Near hM ha hd k _ (by omega) h ?_
   rw [show q + 2 ^ (k + 1) + 2 ^ (k + 1) = q + 2 ^ (k + 1 + 1) by omega]
   exact h2
  ·rw [if_neg h]
   exact l_Near hM ha hd k q (by omega) h1 (by omega)
theorem isRnd_near {a n q : Nat} (down : Bool) (h1 : q * q * n <= a * a) (h2 : a * a < (q + 1) * (q + 1) * n) :
  IsRnd a n down (if (if down = true then (2 * q + 1) * (2 * q + 1) * n < 2 * a * (2 * a) else (2 * q + 1) * (2 * q + 1) * n <= 2 * a * (2 * a)) then q + 1 else q) := by
 have e4 : 2 * a * (2 * a) = 4 * (a * a) := by grind
 rw [e4]
 have e1 : 4 * (q * q * n) <= 4 * (a * a) := Nat.mul_le_mul_left _ h1
 have e2 : 4 * (a * a) < 4 * ((q + 1) * (q + 1) * n) := by omega
 have e5 : (2 * q - 1) * (2 * q - 1) * n <= (2 * q) * (2 * q) * n := sqn_le (by omega)
 have e6 : (2 * q) * (2 * q) * n = 4 * (q * q * n) := by grind
 have e7 : (2 * (q + 1)) * (2 * (q + 1)) * n = 4 * ((q + 1) * (q + 1) * n) := by grind
 have e8 : (2 * (q + 1)) * (2 * (q + 1)) * n <= (2 * (q + 1) + 1) * (2 * (q + 1) + 1) * n := sqn_le (by omega)
 have e9 : n = 0 \/ q = 0 \/ (2 * q - 1) * (2 * q - 1) * n < (2 * q) * (2 * q) * n := by
  by_cases hn : n = 0
  ·exact .inl hn
  ·by_cases hq : q = 0
   ·exact .inr (.inl hq)
   ·right; right
    refine Nat.mul_lt_mul_of_pos_right ?_ (by omega)
    exact Nat.mul_self_lt_mul_self (by omega)
 have hn : n ≠ 0 := by rintro rfl; simp at h2
 unfold IsRnd
 cases down
 ·simp only [Bool.false_eq_true, if_false]
  by_cases c : (2 * q + 1) * (2 * q + 1) * n <= 4 * (a * a)
  ·rw [if_pos c]
   refine ⟨.inr ?_, by omega⟩
   rw [show 2 * (q + 1) - 1 = 2 * q + 1 by omega]; exact c
  ·rw [if_neg c]
   exact ⟨by omega, by omega⟩
 ·simp only [if_true]
  by_cases c : (2 * q + 1) * (2 * q + 1) * n < 4 * (a * a)
  ·rw [if_pos c]
   refine ⟨.inr ?_, by omega⟩
   rw [show 2 * (q + 1) - 1 = 2 * q + 1 by omega]; exact c
  ·rw [if_neg c]
   exact ⟨by omega, by omega⟩
theorem a_cncref23_Near {M : List AC -> Option (List AC)} (hM : ∀ {a b c d : Nat}, a < w64 -> b < w64 -> c < w64 -> d < w64 -> ∀ s : Bool, M [U a, U b, U c, U d, B s] = some [B (if s = true then decide (a * b < c * d) else decide (a * b <= c * d))])
  {x r n : Int} (hx : x.natAbs <= 33554432 * 4) (hr : 0 <= r /\ r <= 33554432 * 4) (hn : 0 < n /\ n <= 4611686018427387904) (hxn : x * x <= n) :
  mf_cncref23_Near M (loopC (st_cncref23_Near_3 M)) [I x, I r, I n] = some [I (nearR x r n)] /\ (nearR x r n).natAbs <= 268435456 /\ IsRnd (x.natAbs * r.natAbs) n.natAbs (decide (x < 0)) (nearR x r n).natAbs := by
 obtain ⟨R, rfl⟩ := Int.eq_ofNat_of_zero_le hr.1
 obtain ⟨N, rfl⟩ := Int.eq_ofNat_of_zero_le (show 0 <= n by omega)
 have hmx : mx x (IntKind.i64.wrap (0 - x)) = (x.natAbs : Int) := by
  rw [wrap_id (by omega)]; unfold mx; split <;> omega
 have hA : x.natAbs * R <= (33554432 * 4) * (33554432 * 4) := Nat.mul_le_mul hx (by omega)
 have e1 : (x.natAbs : Int) * (R : Int) = ((x.natAbs * R : Nat) : Int) := by simp
 have hxx : x.natAbs * x.natAbs <= N := by
  have : ((x.natAbs * x.natAbs : Nat) : Int) = x * x := by rw [Int.natAbs_mul_self]
  omega
 have hAA : (x.natAbs * R) * (x.natAbs * R) < 268435456 * 268435456 * N := by
  have e : (x.natAbs * R) * (x.natAbs * R) = (R * R) * (x.natAbs * x.natAbs) := by grind
  rw [e]
  have h1 : R * R <= (33554432 * 4) * (33554432 * 4) := Nat.mul_le_mul (by omega) (by omega)
  have h2 : (R * R) * (x.natAbs * x.natAbs) <= ((33554432 * 4) * (33554432 * 4)) * N := Nat.mul_le_mul h1 hxx
  omega
 simp only [nearR, Int.natAbs_natCast]
 generalize hAd : x.natAbs * R = A at *
 have hAw : A < 36028797018963968 := by omega
 have hN : N < w64 := by rw [w64_eq]; omega
 rw [mf_cncref23_Near_eq, hmx, e1, wrap_id (x := (A : Int)) (by omega), uwrap_id (x := (A : Int)) (by omega), uwrap_id (x := (N : Int)) (by omega)]
 obtain ⟨q, l1, l2, l3, l4⟩ := l_Near hM (x := x) (a := A) (d := N) hAw hN 27 0 (by decide) (by simp) (by rw [Nat.zero_add]; exact hAA)
 have l1' : loopC (st_cncref23_Near_3 M) [I x, U A, U N, AC.int IntKind.u64 0, AC.int IntKind.u64 134217728] = some (1, [I x, U A, U N, U q]) := l1
 rw [l1']
 have hq2 : (2 * q + 1) * (2 * q + 1) <= 536870911 * 536870911 := Nat.mul_le_mul (by omega) (by omega)
 have w1 : IntKind.u64.wrap (IntKind.u64.wrap (2 * (q : Int)) + 1) = ((2 * q + 1 : Nat) : Int) := by rw [uwrap_id (x := 2 * (q : Int)) (by omega), uwrap_id (by omega)]; omega
 have w2 : IntKind.u64.wrap (((2 * q + 1 : Nat) : Int) * ((2 * q + 1 : Nat) : Int)) = (((2 * q + 1) * (2 * q + 1) : Nat) : Int) := by
  rw [show ((2 * q + 1 : Nat) : Int) * ((2 * q + 1 : Nat) : Int) = (((2 * q + 1) * (2 * q + 1) : Nat) : Int) from (Int.natCast_mul _ _).symm, uwrap_id (by omega)]
 have w3 : IntKind.u64.wrap (2 * (A : Int)) = ((2 * A : Nat) : Int) := by rw [uwrap_id (by omega)]; omega
 have w4 : IntKind.i64.wrap (IntKind.u64.wrap ((q : Int) + 1)) = ((q + 1 : Nat) : Int) := by rw [uwrap_id (by omega), wrap_id (by omega)]; omega
 have w5 : IntKind.i64.wrap (q : Int) = (q : Int) := wrap_id (by omega)
 have h := hM (a := (2 * q + 1) * (2 * q + 1)) (b := N) (c := 2 * A) (d := 2 * A) (by rw [w64_eq]; omega) hN (by rw [w64_eq]; omega) (by rw [w64_eq]; omega) (decide (x < 0))
 have hi := isRnd_near (decide (x < 0)) l2 l3
 simp only [go_sem, w1, w2, w3, h, w4, w5]
 generalize (2 * q + 1) * (2 * q + 1) = s at *
 by_cases hx0 : x < 0
 ·rw [show (if x < 0 then -(rnd A N true : Int) else (rnd A N false : Int)) = -(rnd A N true : Int) from if_pos hx0]
  rw [decide_eq_true hx0] at hi ⊢
  simp only [if_true] at hi ⊢
  have hr := rnd_of hi
  by_cases c : s * N < 2 * A * (2 * A)
  ·rw [if_pos c] at hi hr
   rw [if_pos hx0, if_pos (decide_eq_true c), if_pos hx0, hr, wrap_id (by omega)]
   refine ⟨?_, by omega, ?_⟩
   ·rw [Int.zero_sub]
   ·rw [Int.natAbs_neg, Int.natAbs_natCast]; exact hi
  ·rw [if_neg c] at hi hr
   rw [if_pos hx0, if_neg (by simpa using c), if_pos hx0, hr, wrap_id (by omega)]
   refine ⟨?_, by omega, ?_⟩
   ·rw [Int.zero_sub]
   ·rw [Int.natAbs_neg, Int.natAbs_natCast]; exact hi
 ·rw [show (if x < 0 then -(rnd A N true : Int) else (rnd A N false : Int)) = (rnd A N false : Int) from if_neg hx0]
  rw [decide_eq_false hx0] at hi ⊢
  simp only [Bool.false_eq_true, if_false] at hi ⊢
  have hr := rnd_of hi
  by_cases c : s * N <= 2 * A * (2 * A)
  ·rw [if_pos c] at hi hr
   rw [if_neg hx0, if_pos (decide_eq_true c), if_neg hx0, hr]
   exact ⟨rfl, by omega, hi⟩
  ·rw [if_neg c] at hi hr
   rw [if_neg hx0, if_neg (by simpa using c), if_neg hx0, hr]
   exact ⟨rfl, by omega, hi⟩
theorem s_cncref23_Near {x r n : Int} (hx : x.natAbs <= 33554432 * 4) (hr : 0 <= r /\ r <= 33554432 * 4) (hn : 0 < n /\ n <= 4611686018427387904) (hxn : x * x <= n) :
  m_cncref23_Near [I x, I r, I n] = some [I (nearR x r n)] /\ (nearR x r n).natAbs <= 268435456 /\ IsRnd (x.natAbs * r.natAbs) n.natAbs (decide (x < 0)) (nearR x r n).natAbs :=
 a_cncref23_Near s_cncref23_most hx hr hn hxn

def IsUp (n k : Int) : Prop := 0 <= k /\ n <= k * k /\ (k = 0 \/ (k - 1) * (k - 1) < n)
theorem isUp_unique {n i j : Int} (hi : IsUp n i) (hj : IsUp n j) : i = j := by
 have key : ∀ {i j : Int}, IsUp n i -> IsUp n j -> ¬ i < j := by
  rintro i j ⟨h1, h2, -⟩ ⟨h4, h5, h6⟩ hlt
  rcases h6 with h6 | h6
  ·omega
  ·have := Int.mul_self_le_mul_self h1 (show i <= j - 1 by omega)
   omega
 have h1 := key hi hj
 have h2 := key hj hi
 omega
open Classical in
noncomputable def upR (n : Int) : Int := if h : ∃ j, IsUp n j then Classical.choose h else 0
theorem upR_of {n k : Int} (h : IsUp n k) : upR n = k := by
 have hx : ∃ j, IsUp n j := ⟨k, h⟩
 unfold upR
 rw [dif_pos hx]
 exact isUp_unique (Classical.choose_spec hx) h
theorem isUp_nat {n r : Nat} (h1 : r * r <= n) (h2 : n < (r + 1) * (r + 1)) : IsUp n (if r * r < n then r + 1 else r : Nat) := by
 unfold IsUp
 by_cases c : r * r < n
 ·rw [if_pos c]
  have e1 : ((r + 1 : Nat) : Int) * ((r + 1 : Nat) : Int) = (((r + 1) * (r + 1) : Nat) : Int) := (Int.natCast_mul _ _).symm
  have e2 : (((r + 1 : Nat) : Int) - 1) * (((r + 1 : Nat) : Int) - 1) = ((r * r : Nat) : Int) := by
   rw [show ((r + 1 : Nat) : Int) - 1 = (r : Int) by omega]; exact (Int.natCast_mul _ _).symm
  rw [e1, e2]
  generalize (r + 1) * (r + 1) = A at *
  generalize r * r = B at *
  exact ⟨by omega, by omega, .inr (by omega)⟩
 ·rw [if_neg c]
  have e1 : (r : Int) * (r : Int) = ((r * r : Nat) : Int) := (Int.natCast_mul _ _).symm
  rw [e1]
  refine ⟨by omega, by omega, ?_⟩
  rcases Nat.eq_zero_or_pos r with h | h
  ·left; omega
  ·right
   have e2 : ((r : Int) - 1) * ((r : Int) - 1) = (((r - 1) * (r - 1) : Nat) : Int) := by
    rw [show (r : Int) - 1 = ((r - 1 : Nat) : Int) by omega]; exact (Int.natCast_mul _ _).symm
   have := Nat.mul_self_lt_mul_self (show r - 1 < r by omega)
   rw [e2]; omega

theorem halfI (k : Nat) : ((2 ^ (k + 1) : Nat) : Int).fdiv (2 ^ min (Int.toNat 1) IntKind.i64.bits) = ((2 ^ k : Nat) : Int) := by
 have e : (2 ^ min (Int.toNat 1) IntKind.i64.bits : Int) = 2 := rfl
 rw [e, Int.fdiv_eq_ediv_of_nonneg _ (by omega), Nat.pow_succ]
 omega
theorem halfI0 : (1 : Int).fdiv (2 ^ min (Int.toNat 1) IntKind.i64.bits) = 0 := rfl
theorem st_root {n q b : Nat} {bit : Int} (hq : q + b <= 2147483648) (hb0 : 0 < b) (hb : ((b : Nat) : Int).fdiv (2 ^ min (Int.toNat 1) IntKind.i64.bits) = bit) :
  st_cncref23_root_3 [I n, I q, I b] = some (0, [I n, I (((if (q + b) * (q + b) <= n then q + b else q) : Nat) : Int), I bit]) := by
 have hs : (q + b) * (q + b) <= 2147483648 * 2147483648 := Nat.mul_le_mul hq hq
 have w1 : IntKind.i64.wrap ((q : Int) + (b : Int)) = ((q + b : Nat) : Int) := by rw [wrap_id (by omega)]; omega
 have w2 : IntKind.i64.wrap (((q + b : Nat) : Int) * ((q + b : Nat) : Int)) = (((q + b) * (q + b) : Nat) : Int) := by
  rw [show ((q + b : Nat) : Int) * ((q + b : Nat) : Int) = (((q + b) * (q + b) : Nat) : Int) from (Int.natCast_mul _ _).symm, wrap_id (by omega)]
 rw [st_cncref23_root_3_eq, w1, w2, hb]
 generalize (q + b) * (q + b) = s at *
 simp only [go_sem]
 rw [if_pos (by omega)]
 by_cases c : s <= n
 ·rw [if_pos (by omega), if_pos c]
 ·rw [if_neg (by omega), if_neg c]
theorem l_root {n : Nat} : ∀ (k q : Nat), q + 2 ^ (k + 1) <= 2147483648 -> q * q <= n -> n < (q + 2 ^ (k + 1)) * (q + 2 ^ (k + 1)) ->
  ∃ r : Nat, loopC st_cncref23_root_3 [I n, I q, I ((2 ^ k : Nat) : Int)] = some (1, [I r]) /\ r * r <= n /\ n < (r + 1) * (r + 1) /\ r < 2147483648
 | 0, q, hq, h1, h2 => by
  have hs := st_root (n := n) (q := q) (b := 2 ^ 0) (bit := 0) (by simp at hq ⊢; omega) (by simp) halfI0
  rw [loop_more hs]
  have hend : ∀ r : Nat, loopC st_cncref23_root_3 [I n, I r, I 0] = some (1, [I r]) := by
   intro r
   refine loop_end ?_ (by simp)
   rw [st_cncref23_root_3_eq]
   simp only [go_sem]
   rw [if_neg (by omega)]
  simp only [Nat.zero_add, Nat.pow_one, Nat.pow_zero] at *
  by_cases h : (q + 1) * (q + 1) <= n
  ·rw [if_pos h, hend]
   exact ⟨_, rfl, h, h2, by omega⟩
  ·rw [if_neg h, hend]
   exact ⟨_, rfl, h1, by omega, by omega⟩
 | k + 1, q, hq, h1, h2 => by
  have e3 : 2 ^ (k + 1 + 1) = 2 ^ (k + 1) + 2 ^ (k + 1) := by rw [Nat.pow_succ 2 (k + 1)]; omega
  have hpos : 0 < 2 ^ (k + 1) := Nat.two_pow_pos _
  have hs := st_root (n := n) (q := q) (b := 2 ^ (k + 1)) (bit := ((2 ^ k : Nat) : Int)) (by omega) hpos (halfI k)
  rw [loop_more hs]
  by_cases h : (q + 2 ^ (k + 1)) * (q + 2 ^ (k + 1)) <= n
  ·rw [if_pos h]
   refine l_root k _ (by omega) h ?_
   rw [show q + 2 ^ (k + 1) + 2 ^ (k + 1) = q + 2 ^ (k + 1 + 1) by omega]
   exact h2
  ·rw [if_neg h]
   exact l_root k q (by omega) h1 (by omega)
theorem s_cncref23_root {n : Nat} (hn : n < 4611686018427387904) : ∃ r : Nat, m_cncref23_root [I n] = some [I r] /\ r * r <= n /\ n < (r + 1) * (r + 1) /\ r < 2147483648 := by
 obtain ⟨r, l1, l2, l3, l4⟩ := l_root (n := n) 30 0 (by decide) (by simp) (by rw [Nat.zero_add]; exact hn)
 refine ⟨r, ?_, l2, l3, l4⟩
 have l1' : loopC st_cncref23_root_3 [I n, AC.int IntKind.i64 0, AC.int IntKind.i64 1073741824] = some (1, [I r]) := l1
 show mf_cncref23_root (loopC st_cncref23_root_3) [I n] = _
 rw [mf_cncref23_root_eq, l1']
 simp only [go_sem]
def sqD (a b : Pt) : Int := dotP (subP a b) (subP a b)
theorem sqD_nn (a b : Pt) : 0 <= sqD a b := by
 unfold sqD dotP
 have h : ∀ u : Int, 0 <= u * u := fun u => by rw [<- Int.natAbs_mul_self]; omega
 have := h (subP a b).x
 have := h (subP a b).y
 have := h (subP a b).z
 omega
theorem sq_bd {x : Int} {A : Nat} (h : x.natAbs <= A) : 0 <= x * x /\ x * x <= ((A * A : Nat) : Int) := by
 have := Nat.mul_le_mul h h
 rw [<- Int.natAbs_mul_self]
 omega
theorem sqD_le {A : Nat} {a b : Pt} (ha : bd A a) (hb : bd A b) (hA : A <= 67108864) : sqD a b <= 54043195528445952 := by
 have h : ∀ x y : Int, x.natAbs <= A -> y.natAbs <= A -> (x - y) * (x - y) <= 18014398509481984 := by
  intro x y hx hy
  exact (sq_bd (x := x - y) (A := 134217728) (by omega)).2
 have h1 := h _ _ ha.1 hb.1
 have h2 := h _ _ ha.2.1 hb.2.1
 have h3 := h _ _ ha.2.2 hb.2.2
 unfold sqD dotP subP
 simp only
 omega
theorem s_SquareB {a b : Pt} (ha : bd 67108864 a) (hb : bd 67108864 b) : m_cncref23_Square [I a.x, I a.y, I a.z, I b.x, I b.y, I b.z] = some [I (sqD a b)] := by
 have h : ∀ x y : Int, x.natAbs <= 67108864 -> y.natAbs <= 67108864 -> 0 <= (x - y) * (x - y) /\ (x - y) * (x - y) <= 18014398509481984 := by
  intro x y hx hy
  exact sq_bd (x := x - y) (A := 134217728) (by omega)
 have h1 := h _ _ ha.1 hb.1
 have h2 := h _ _ ha.2.1 hb.2.1
 have h3 := h _ _ ha.2.2 hb.2.2
 obtain ⟨a1, a2, a3⟩ := ha
 obtain ⟨b1, b2, b3⟩ := hb
 unfold m_cncref23_Square
 rw [mf_cncref23_Square_eq, wrap_id (x := a.x - b.x) (by omega), wrap_id (x := a.y - b.y) (by omega), wrap_id (x := a.z - b.z) (by omega)]
 unfold sqD dotP subP
 simp only
 generalize (a.x - b.x) * (a.x - b.x) = u at *
 generalize (a.y - b.y) * (a.y - b.y) = v at *
 generalize (a.z - b.z) * (a.z - b.z) = w at *
 rw [wrap_id (x := u) (by omega), wrap_id (x := 0 + u) (by omega), wrap_id (x := v) (by omega), wrap_id (x := 0 + u + v) (by omega), wrap_id (x := w) (by omega), wrap_id (by omega), Int.zero_add]
noncomputable def lenP (a b : Pt) : Int := upR (sqD a b)
theorem a_cncref23_Length {MR MS : List AC -> Option (List AC)} {a b : Pt} {d : Nat} (hS : MS [I a.x, I a.y, I a.z, I b.x, I b.y, I b.z] = some [I d]) (hd : d < 4611686018427387904)
  (hR : ∃ r : Nat, MR [I d] = some [I r] /\ r * r <= d /\ d < (r + 1) * (r + 1) /\ r < 2147483648) : mf_cncref23_Length MR MS [I a.x, I a.y, I a.z, I b.x, I b.y, I b.z] = some [I (upR d)] /\ IsUp d (upR d) := by
 obtain ⟨r, h1, h2, h3, h4⟩ := hR
 have hu := isUp_nat h2 h3
 rw [upR_of hu]
 refine ⟨?_, hu⟩
 rw [mf_cncref23_Length_eq]
 have hrr : r * r <= 2147483648 * 2147483648 := Nat.mul_le_mul (by omega) (by omega)
 have e1 : (r : Int) * (r : Int) = ((r * r : Nat) : Int) := (Int.natCast_mul _ _).symm
 simp only [go_sem, hS, h1, e1]
 rw [wrap_id (x := ((r * r : Nat) : Int)) (by omega), wrap_id (by omega)]
 by_cases c : r * r < d
 ·rw [if_pos (by omega), if_pos c]; rfl
 ·rw [if_neg (by omega), if_neg c]
theorem s_cncref23_Length {a b : Pt} (ha : bd 67108864 a) (hb : bd 67108864 b) : m_cncref23_Length [I a.x, I a.y, I a.z, I b.x, I b.y, I b.z] = some [I (lenP a b)] /\ IsUp (sqD a b) (lenP a b) := by
 have h0 := sqD_nn a b
 have h1 := sqD_le ha hb (Nat.le_refl _)
 obtain ⟨d, hd⟩ := Int.eq_ofNat_of_zero_le h0
 have hs := s_SquareB ha hb
 unfold lenP
 rw [hd] at hs
 rw [hd]
 exact a_cncref23_Length hs (by omega) (s_cncref23_root (by omega))
theorem len_bd {a b : Pt} (ha : bd 67108864 a) (hb : bd 67108864 b) : 0 <= lenP a b /\ lenP a b <= 268435456 := by
 obtain ⟨-, h1, h2, h3⟩ := s_cncref23_Length ha hb
 have h4 := sqD_le ha hb (Nat.le_refl _)
 refine ⟨h1, ?_⟩
 rcases h3 with h3 | h3
 ·omega
 ·by_cases c : lenP a b <= 268435456
  ·exact c
  ·have := Int.mul_self_le_mul_self (a := 268435456) (b := lenP a b - 1) (by omega) (by omega)
   omega
def IsMid (n k : Int) : Prop := 0 <= k /\ n <= k * (k + 1) /\ (k = 0 \/ (k - 1) * k < n)
end Go.Bm
/- what the library's division of two words by one gives; a quotient of two words; a b / sqrt n -/
set_option maxRecDepth 100000
namespace Go.Bm

theorem kn_more {a b v u q r : Nat} (hU : v < a * 4294967296 + b) (hu : u < 4294967296) (hq : v = q * a + r) (h : 4294967296 <= q \/ r * 4294967296 + u < q * b) : (v * 4294967296 + u) / (a * 4294967296 + b) < q := by
 have hy : 0 < a * 4294967296 + b := by omega
 rw [Nat.div_lt_iff_lt_mul hy]
 rcases h with h | h
 ·have h1 : 4294967296 * (a * 4294967296 + b) <= q * (a * 4294967296 + b) := Nat.mul_le_mul_right _ h
  omega
 ·have e : q * (a * 4294967296 + b) = q * a * 4294967296 + q * b := by rw [Nat.mul_add, Nat.mul_assoc]
  rw [e]
  clear e
  generalize q * a = p at *
  generalize q * b = t at *
  subst hq
  rw [Nat.add_mul p r 4294967296, Nat.add_assoc]
  exact Nat.add_lt_add_left h _
theorem kn_done {a b v u q r : Nat} (hU : v < a * 4294967296 + b) (hq : v = q * a + r) (h : q * b <= r * 4294967296 + u) : q <= (v * 4294967296 + u) / (a * 4294967296 + b) := by
 have hy : 0 < a * 4294967296 + b := by omega
 rw [Nat.le_div_iff_mul_le hy]
 have e : q * (a * 4294967296 + b) = q * a * 4294967296 + q * b := by rw [Nat.mul_add, Nat.mul_assoc]
 rw [e]
 generalize q * a = p at *
 generalize q * b = t at *
 omega
theorem kn_lt {a b v u : Nat} (hU : v < a * 4294967296 + b) (hu : u < 4294967296) : (v * 4294967296 + u) / (a * 4294967296 + b) < 4294967296 := by
 rw [Nat.div_lt_iff_lt_mul (by omega)]
 omega
theorem kn_mul {q b : Nat} (hq : q < 4294967296) (hb : b < 4294967296) : q * b <= 18446744065119617025 := by
 have := Nat.mul_le_mul (show q <= 4294967295 by omega) (show b <= 4294967295 by omega)
 omega
theorem kn_round {α : Type} {F G : Nat -> Nat -> Option α} {a b v u Q : Nat} (hQ : (v * 4294967296 + u) / (a * 4294967296 + b) = Q) (hb : b < 4294967296) (ha : 2147483648 <= a) (ha2 : a < 4294967296) (hU : v < a * 4294967296 + b) (hu : u < 4294967296) {X : α}
  (hF : ∀ q r : Nat, q <= 4294967297 -> r < 4294967296 -> F q r = if 4294967296 <= q \/ r * 4294967296 + u < q * b then (if 4294967296 <= r + a then G (q - 1) 0 else F (q - 1) (r + a)) else G q 0)
  (hG : G Q 0 = some X) : ∀ (k q r : Nat), q <= Q + k -> Q <= q -> v = q * a + r -> r < 4294967296 -> q <= 4294967297 -> F q r = some X
 | k, q, r, hk, h1, h2, h3, h4 => by
  rw [hF q r h4 h3]
  by_cases c : 4294967296 <= q \/ r * 4294967296 + u < q * b
  ·rw [if_pos c]
   have h5 := kn_more hU hu h2 c
   rw [hQ] at h5
   have e : v = (q - 1) * a + (r + a) := by
    have : (q - 1) * a + a = q * a := by rw [<- Nat.succ_mul]; congr 1; omega
    omega
   by_cases c2 : 4294967296 <= r + a
   ·rw [if_pos c2]
    have h6 : (q - 1) * b <= (r + a) * 4294967296 + u := by
     have := Nat.mul_le_mul (show q - 1 <= 4294967296 by omega) (show b <= 4294967296 by omega)
     omega
    have h7 := kn_done hU e h6
    rw [hQ] at h7
    rw [show q - 1 = Q by omega]
    exact hG
   ·rw [if_neg c2]
    match k with
    | 0 => omega
    | k + 1 => exact kn_round hQ hb ha ha2 hU hu hF hG k (q - 1) (r + a) (by omega) (by omega) e (by omega) (by omega)
  ·rw [if_neg c]
   have h7 := kn_done (u := u) hU h2 (by omega)
   rw [hQ] at h7
   rw [show q = Q by omega]
   exact hG
theorem kn_first {a b v u : Nat} (hb : b < 4294967296) (ha : 2147483648 <= a) (hU : v < a * 4294967296 + b) (hu : u < 4294967296) : (v * 4294967296 + u) / (a * 4294967296 + b) <= v / a /\ v / a <= 4294967297 /\ v = v / a * a + v % a /\ v % a < a := by
 have e : v = v / a * a + v % a := by have := Nat.div_add_mod v a; rw [Nat.mul_comm] at this; omega
 have hm : v % a < a := Nat.mod_lt _ (by omega)
 refine ⟨?_, ?_, e, hm⟩
 ·rw [<- Nat.lt_succ_iff, Nat.div_lt_iff_lt_mul (by omega)]
  have e2 : (v / a).succ * (a * 4294967296 + b) = (v / a * a + a) * 4294967296 + (v / a).succ * b := by rw [Nat.mul_add, <- Nat.mul_assoc, Nat.succ_mul]
  rw [e2]
  omega
 ·rw [<- Nat.lt_succ_iff, Nat.div_lt_iff_lt_mul (by omega)]
  omega
theorem wr {x : Nat} (h : x <= 18446744073709551615) : IntKind.u64.wrap (x : Int) = x := uwrap_id (by omega)
theorem l_dv17 {M : List AC -> Option (List AC)} {y s v0 : Int} {a b v u : Nat} (hb : b < 4294967296) (ha : 2147483648 <= a) (ha2 : a < 4294967296) (hU : v < a * 4294967296 + b) (hu : u < 4294967296) :
  loopC (st_bits_Div64_17 M) [U y, U s, U a, U b, U v, U u, U v0, U ((v / a : Nat) : Int), U ((v % a : Nat) : Int)] = some (1, [U y, U s, U a, U b, U v, U u, U v0, U (((v * 4294967296 + u) / (a * 4294967296 + b) : Nat) : Int)]) := by
 obtain ⟨f1, f2, f3, f4⟩ := kn_first hb ha hU hu
 refine kn_round (F := fun q r => loopC (st_bits_Div64_17 M) [U y, U s, U a, U b, U v, U u, U v0, U q, U r]) (G := fun q _ => some (1, [U y, U s, U a, U b, U v, U u, U v0, U q])) rfl hb ha ha2 hU hu ?_ rfl (v / a) _ _ (Nat.le_add_left _ _) f1 f3 (by omega) f2
 intro q r hq hr
 have w1 : IntKind.u64.wrap ((r : Int) + (a : Int)) = ((r + a : Nat) : Int) := by rw [<- Int.natCast_add, wr (by omega)]
 have w3 : IntKind.u64.wrap (IntKind.u64.wrap (4294967296 * (r : Int)) + (u : Int)) = ((r * 4294967296 + u : Nat) : Int) := by rw [show (4294967296 : Int) * r = ((r * 4294967296 : Nat) : Int) by omega, wr (by omega), <- Int.natCast_add, wr (by omega)]
 have w4 : 4294967296 <= q -> IntKind.u64.wrap ((q : Int) - 1) = ((q - 1 : Nat) : Int) := fun h => by rw [show (q : Int) - 1 = ((q - 1 : Nat) : Int) by omega, wr (by omega)]
 have hst := st_bits_Div64_17_eq (M_bits_LeadingZeros64 := M) y s a b v u v0 q r
 rw [w1, w3] at hst
 by_cases c1 : 4294967296 <= q
 ·rw [bif_pos (show (q : Int) >= 4294967296 by omega), w4 c1] at hst
  show _ = if _ then _ else _
  rw [if_pos (.inl c1)]
  by_cases c2 : 4294967296 <= r + a
  ·rw [bif_pos (show ((r + a : Nat) : Int) >= 4294967296 by omega)] at hst
   rw [if_pos c2]
   exact loop_end hst (by simp)
  ·rw [bif_neg (show ¬ ((r + a : Nat) : Int) >= 4294967296 by omega)] at hst
   rw [if_neg c2]
   exact loop_more hst
 ·have hqb := kn_mul (q := q) (b := b) (by omega) hb
  rw [bif_neg (show ¬ (q : Int) >= 4294967296 by omega), <- Int.natCast_mul, wr (Nat.le_trans hqb (by decide))] at hst
  show _ = if _ then _ else _
  by_cases c3 : r * 4294967296 + u < q * b
  ·rw [bif_pos (show ((q * b : Nat) : Int) > ((r * 4294967296 + u : Nat) : Int) by omega)] at hst
   rw [if_pos (.inr c3)]
   have hq0 : 0 < q := by
    rcases Nat.eq_zero_or_pos q with h | h
    ·rw [h] at c3; omega
    ·exact h
   rw [show (q : Int) - 1 = ((q - 1 : Nat) : Int) by omega, wr (by omega)] at hst
   by_cases c2 : 4294967296 <= r + a
   ·rw [bif_pos (show ((r + a : Nat) : Int) >= 4294967296 by omega)] at hst
    rw [if_pos c2]
    exact loop_end hst (by simp)
   ·rw [bif_neg (show ¬ ((r + a : Nat) : Int) >= 4294967296 by omega)] at hst
    rw [if_neg c2]
    exact loop_more hst
  ·rw [bif_neg (show ¬ ((q * b : Nat) : Int) > ((r * 4294967296 + u : Nat) : Int) by omega)] at hst
   rw [if_neg (fun h => h.elim c1 c3)]
   exact loop_end hst (by simp)
theorem l_dv24 {M : List AC -> Option (List AC)} {N : List AC -> Option (Nat × List AC)} {y s q1 w : Int} {a b v u : Nat} (hb : b < 4294967296) (ha : 2147483648 <= a) (ha2 : a < 4294967296) (hU : v < a * 4294967296 + b) (hu : u < 4294967296) :
  loopC (st_bits_Div64_24 M N) [U y, U s, U a, U b, U u, U q1, U ((v % a : Nat) : Int), U w, U ((v / a : Nat) : Int)] = some (1, [U y, U s, U u, U q1, U w, U (((v * 4294967296 + u) / (a * 4294967296 + b) : Nat) : Int)]) := by
 obtain ⟨f1, f2, f3, f4⟩ := kn_first hb ha hU hu
 refine kn_round (F := fun q r => loopC (st_bits_Div64_24 M N) [U y, U s, U a, U b, U u, U q1, U r, U w, U q]) (G := fun q _ => some (1, [U y, U s, U u, U q1, U w, U q])) rfl hb ha ha2 hU hu ?_ rfl (v / a) _ _ (Nat.le_add_left _ _) f1 f3 (by omega) f2
 intro q r hq hr
 have w1 : IntKind.u64.wrap ((r : Int) + (a : Int)) = ((r + a : Nat) : Int) := by rw [<- Int.natCast_add, wr (by omega)]
 have w3 : IntKind.u64.wrap (IntKind.u64.wrap (4294967296 * (r : Int)) + (u : Int)) = ((r * 4294967296 + u : Nat) : Int) := by rw [show (4294967296 : Int) * r = ((r * 4294967296 : Nat) : Int) by omega, wr (by omega), <- Int.natCast_add, wr (by omega)]
 have w4 : 4294967296 <= q -> IntKind.u64.wrap ((q : Int) - 1) = ((q - 1 : Nat) : Int) := fun h => by rw [show (q : Int) - 1 = ((q - 1 : Nat) : Int) by omega, wr (by omega)]
 have hst := st_bits_Div64_24_eq (M_bits_LeadingZeros64 := M) (N17 := N) y s a b u q1 r w q
 rw [w1, w3] at hst
 by_cases c1 : 4294967296 <= q
 ·rw [bif_pos (show (q : Int) >= 4294967296 by omega), w4 c1] at hst
  show _ = if _ then _ else _
  rw [if_pos (.inl c1)]
  by_cases c2 : 4294967296 <= r + a
  ·rw [bif_pos (show ((r + a : Nat) : Int) >= 4294967296 by omega)] at hst
   rw [if_pos c2]
   exact loop_end hst (by simp)
  ·rw [bif_neg (show ¬ ((r + a : Nat) : Int) >= 4294967296 by omega)] at hst
   rw [if_neg c2]
   exact loop_more hst
 ·have hqb := kn_mul (q := q) (b := b) (by omega) hb
  rw [bif_neg (show ¬ (q : Int) >= 4294967296 by omega), <- Int.natCast_mul, wr (Nat.le_trans hqb (by decide))] at hst
  show _ = if _ then _ else _
  by_cases c3 : r * 4294967296 + u < q * b
  ·rw [bif_pos (show ((q * b : Nat) : Int) > ((r * 4294967296 + u : Nat) : Int) by omega)] at hst
   rw [if_pos (.inr c3)]
   have hq0 : 0 < q := by
    rcases Nat.eq_zero_or_pos q with h | h
    ·rw [h] at c3; omega
    ·exact h
   rw [show (q : Int) - 1 = ((q - 1 : Nat) : Int) by omega, wr (by omega)] at hst
   by_cases c2 : 4294967296 <= r + a
   ·rw [bif_pos (show ((r + a : Nat) : Int) >= 4294967296 by omega)] at hst
    rw [if_pos c2]
    exact loop_end hst (by simp)
   ·rw [bif_neg (show ¬ ((r + a : Nat) : Int) >= 4294967296 by omega)] at hst
    rw [if_neg c2]
    exact loop_more hst
  ·rw [bif_neg (show ¬ ((q * b : Nat) : Int) > ((r * 4294967296 + u : Nat) : Int) by omega)] at hst
   rw [if_neg (fun h => h.elim c1 c3)]
   exact loop_end hst (by simp)
theorem pw_s {s : Nat} (hs : s <= 63) : (2 : Int) ^ min (Int.toNat (s : Int)) IntKind.u64.bits = ((2 ^ s : Nat) : Int) := by
 have e : min (Int.toNat (s : Int)) IntKind.u64.bits = s := by
  show min (Int.toNat (s : Int)) 64 = s
  omega
 rw [e]
 simp
theorem pw_t {s : Nat} (hs : s <= 63) : (2 : Int) ^ min (Int.toNat ((64 - s : Nat) : Int)) IntKind.u64.bits = ((2 ^ (64 - s) : Nat) : Int) := by
 have e : min (Int.toNat ((64 - s : Nat) : Int)) IntKind.u64.bits = 64 - s := by
  show min (Int.toNat ((64 - s : Nat) : Int)) 64 = 64 - s
  omega
 rw [e]
 simp
theorem fdivN (x y : Nat) : ((x : Int)).fdiv (y : Int) = ((x / y : Nat) : Int) := by
 rw [Int.fdiv_eq_ediv_of_nonneg _ (by omega)]; rfl
theorem tdivN (x y : Nat) : ((x : Int)).tdiv (y : Int) = ((x / y : Nat) : Int) := by
 rw [Int.tdiv_eq_ediv_of_nonneg (by omega)]; rfl
theorem orP {A B s : Nat} (hB : B < 2 ^ s) (h : A * 2 ^ s + B < w64) : IntKind.u64.wrap (((BitVec.ofInt IntKind.u64.bits ((A * 2 ^ s : Nat) : Int) ||| BitVec.ofInt IntKind.u64.bits (B : Int)).toNat : Nat) : Int) = ((A * 2 ^ s + B : Nat) : Int) := by
 rw [w64_eq] at h
 have e : (BitVec.ofInt IntKind.u64.bits ((A * 2 ^ s : Nat) : Int) ||| BitVec.ofInt IntKind.u64.bits (B : Int)).toNat = A * 2 ^ s + B := by
  rw [BitVec.toNat_or]
  have e1 : ∀ v : Nat, v < 18446744073709551616 -> (BitVec.ofInt IntKind.u64.bits (v : Int)).toNat = v := by
   intro v hv
   simp only [IntKind.bits, BitVec.toNat_ofInt]
   omega
  have := (Nat.two_pow_add_eq_or_of_lt hB A).symm
  rw [Nat.mul_comm] at this
  generalize A * 2 ^ s = X at *
  rw [e1 _ (by omega), e1 _ (by omega)]
  exact this
 rw [e, wr (by omega)]
theorem rest_w {v u q1 y : Nat} (hy : y < w64) (hq : q1 = (v * 4294967296 + u) / y) (hy0 : 0 < y) : IntKind.u64.wrap (IntKind.u64.wrap (IntKind.u64.wrap ((v : Int) * 4294967296) + (u : Int)) - IntKind.u64.wrap ((q1 : Int) * (y : Int))) = (((v * 4294967296 + u) % y : Nat) : Int) := by
 have h1 := Nat.div_add_mod (v * 4294967296 + u) y
 have h2 := Nat.mod_lt (v * 4294967296 + u) hy0
 rw [<- hq, Nat.mul_comm] at h1
 rw [w64_eq] at hy
 rw [uwrap_mod, uwrap_mod, uwrap_mod, uwrap_mod, <- Int.natCast_mul]
 generalize q1 * y = p at *
 generalize (v * 4294967296 + u) % y = r at *
 omega
theorem rest0 {v a : Nat} (ha : 0 < a) (hv : v < w64) : IntKind.u64.wrap ((v : Int) - IntKind.u64.wrap (IntKind.u64.wrap ((v / a : Nat) : Int) * (a : Int))) = ((v % a : Nat) : Int) := by
 have h1 := Nat.div_add_mod v a
 have h2 := Nat.mod_lt v ha
 have h3 := Nat.div_le_self v a
 rw [w64_eq] at hv
 rw [wr (x := v / a) (by omega), <- Int.natCast_mul]
 rw [Nat.mul_comm] at h1
 generalize v / a * a = p at *
 generalize v % a = r at *
 rw [wr (x := p) (by omega), show (v : Int) - (p : Int) = (r : Int) by omega, wr (by omega)]
theorem kn_both {v u1 u0 Y : Nat} (hY : 0 < Y) : (v * w64 + (u1 * 4294967296 + u0)) / Y = (v * 4294967296 + u1) / Y * 4294967296 + ((v * 4294967296 + u1) % Y * 4294967296 + u0) / Y /\
  (v * w64 + (u1 * 4294967296 + u0)) % Y = ((v * 4294967296 + u1) % Y * 4294967296 + u0) % Y := by
 have e : v * w64 + (u1 * 4294967296 + u0) = ((v * 4294967296 + u1) % Y * 4294967296 + u0) + (v * 4294967296 + u1) / Y * 4294967296 * Y := by
  have h := Nat.div_add_mod (v * 4294967296 + u1) Y
  rw [Nat.mul_comm] at h
  rw [w64_eq]
  generalize (v * 4294967296 + u1) % Y = r at *
  have e2 : (v * 4294967296 + u1) / Y * 4294967296 * Y = (v * 4294967296 + u1) / Y * Y * 4294967296 := by rw [Nat.mul_assoc, Nat.mul_comm 4294967296, <- Nat.mul_assoc]
  rw [e2]
  generalize (v * 4294967296 + u1) / Y * Y = p at *
  omega
 rw [e, Nat.add_mul_div_right _ _ hY, Nat.add_mul_mod_self_right]
 exact ⟨Nat.add_comm _ _, rfl⟩
theorem a_bits_Div64 {M : List AC -> Option (List AC)} {hi lo y s : Nat} (h0 : 0 < hi) (h1 : hi < y) (hyw : y < w64) (hlo : lo < w64) (hs : s <= 63) (h2 : 9223372036854775808 <= y * 2 ^ s) (h3 : y * 2 ^ s < w64) (hM : M [U y] = some [I s]) :
  mf_bits_Div64 M (loopC (st_bits_Div64_17 M)) (loopC (st_bits_Div64_24 M (loopC (st_bits_Div64_17 M)))) [U hi, U lo, U y] = some [U (((hi * w64 + lo) / y : Nat) : Int), U (((hi * w64 + lo) % y : Nat) : Int)] := by
 have hP : 0 < 2 ^ s := Nat.two_pow_pos _
 have hPT : 2 ^ s * 2 ^ (64 - s) = w64 := by rw [w64_eq, <- Nat.pow_add, show s + (64 - s) = 64 by omega]
 have hT : 0 < 2 ^ (64 - s) := Nat.two_pow_pos _
 have es : IntKind.u64.wrap (s : Int) = s := wr (by omega)
 have et : IntKind.u64.wrap (64 - (s : Int)) = ((64 - s : Nat) : Int) := by rw [show (64 : Int) - s = ((64 - s : Nat) : Int) by omega, wr (by omega)]
 have hB : lo / 2 ^ (64 - s) < 2 ^ s := by rw [Nat.div_lt_iff_lt_mul hT, hPT]; exact hlo
 have hv : hi * 2 ^ s + lo / 2 ^ (64 - s) < y * 2 ^ s := by
  have : hi * 2 ^ s + 2 ^ s <= y * 2 ^ s := by rw [<- Nat.succ_mul]; exact Nat.mul_le_mul_right _ h1
  omega
 -- the whole, moved
 have hN : (hi * w64 + lo) * 2 ^ s = (hi * 2 ^ s + lo / 2 ^ (64 - s)) * w64 + lo * 2 ^ s % w64 := by
  have e1 : lo * 2 ^ s / w64 = lo / 2 ^ (64 - s) := by
   rw [<- hPT, Nat.mul_comm lo, Nat.mul_div_mul_left _ _ hP]
  have e2 := Nat.div_add_mod (lo * 2 ^ s) w64
  rw [e1] at e2
  rw [Nat.add_mul, Nat.add_mul, Nat.add_assoc, Nat.mul_comm (lo / 2 ^ (64 - s)), e2]
  congr 1
  rw [Nat.mul_assoc, Nat.mul_comm w64, Nat.mul_assoc]
 have hU : lo * 2 ^ s % w64 < w64 := Nat.mod_lt _ w64_pos
 have ey : IntKind.u64.wrap ((y : Int) * ((2 ^ s : Nat) : Int)) = ((y * 2 ^ s : Nat) : Int) := by rw [<- Int.natCast_mul, wr (Nat.le_of_lt_succ (by rw [w64_eq] at h3; exact h3))]
 have eh : IntKind.u64.wrap ((hi : Int) * ((2 ^ s : Nat) : Int)) = ((hi * 2 ^ s : Nat) : Int) := by
  rw [<- Int.natCast_mul, wr (Nat.le_of_lt_succ (by have := Nat.mul_lt_mul_of_pos_right h1 hP; rw [w64_eq] at h3; exact Nat.lt_trans this h3))]
 have el : IntKind.u64.wrap ((lo : Int) * ((2 ^ s : Nat) : Int)) = ((lo * 2 ^ s % w64 : Nat) : Int) := by
  rw [<- Int.natCast_mul, uwrap_mod, w64_eq]; rfl
 have eo := orP (A := hi) (B := lo / 2 ^ (64 - s)) (s := s) hB (by omega)
 have hq : (hi * w64 + lo) / y = (hi * w64 + lo) * 2 ^ s / (y * 2 ^ s) := (Nat.mul_div_mul_right _ _ hP).symm
 have hr : (hi * w64 + lo) % y = (hi * w64 + lo) * 2 ^ s % (y * 2 ^ s) / 2 ^ s := by rw [Nat.mul_mod_mul_right, Nat.mul_div_cancel _ hP]
 rw [hq, hr, hN]
 rw [mf_bits_Div64_eq]
 simp only [hM, Option.bind_some, nth_zero', nth_1, nth_2, nth_3, nth_4, nth_5, nth_6, nth_7, intOf_int, gA, jA, wA, bA, es, et, pw_s hs, pw_t hs, ey, eh, el, fdivN, eo]
 rw [bif_false (by simp; omega), bif_neg (show ¬ (y : Int) <= hi by omega), bif_false (by simp; omega), bif_neg (show ¬ (s : Int) < 0 by omega), bif_neg (show ¬ (s : Int) < 0 by omega), bif_neg (show ¬ ((64 - s : Nat) : Int) < 0 by omega), bif_neg (show ¬ (s : Int) < 0 by omega)]
 rw [shr32, and32 _ h3, shr32, and32 _ hU]
 have hY : y * 2 ^ s = y * 2 ^ s / 4294967296 * 4294967296 + y * 2 ^ s % 4294967296 := by omega
 have hW : lo * 2 ^ s % w64 = lo * 2 ^ s % w64 / 4294967296 * 4294967296 + lo * 2 ^ s % w64 % 4294967296 := by omega
 have hb : y * 2 ^ s % 4294967296 < 4294967296 := Nat.mod_lt _ (by omega)
 have hu0 : lo * 2 ^ s % w64 % 4294967296 < 4294967296 := Nat.mod_lt _ (by omega)
 have hu1 : lo * 2 ^ s % w64 / 4294967296 < 4294967296 := by rw [w64_eq] at hU ⊢; omega
 have ha : 2147483648 <= y * 2 ^ s / 4294967296 := by omega
 have ha2 : y * 2 ^ s / 4294967296 < 4294967296 := by rw [w64_eq] at h3; omega
 clear hN hq hr eh el eo ey hB
 generalize hi * 2 ^ s + lo / 2 ^ (64 - s) = v at *
 generalize lo * 2 ^ s % w64 = w at *
 generalize y * 2 ^ s = Y at *
 generalize w / 4294967296 = u1 at *
 generalize w % 4294967296 = u0 at *
 generalize Y / 4294967296 = a at *
 generalize Y % 4294967296 = b at *
 subst hW
 rw [bif_neg (show ¬ (a : Int) = 0 by omega), tdivN, rest0 (by omega) (Nat.lt_trans hv h3), wr (x := v / a) (by have := Nat.div_le_self v a; rw [w64_eq] at h3; omega)]
 have hl := l_dv17 (M := M) (y := (Y : Int)) (s := s) (v0 := u0) hb ha ha2 (by rw [<- hY]; exact hv) hu1
 rw [hl]
 rw [<- hY]
 have hY0 : 0 < Y := by omega
 have hr1 := rest_w (v := v) (u := u1) (y := Y) h3 rfl hY0
 have hq1 : (v * 4294967296 + u1) / Y < 4294967296 := by rw [hY]; exact kn_lt (by rw [<- hY]; exact hv) hu1
 have hm1 := Nat.mod_lt (v * 4294967296 + u1) hY0
 obtain ⟨k1, k2⟩ := kn_both (v := v) (u1 := u1) (u0 := u0) hY0
 rw [k1, k2]
 clear hl k1 k2
 obtain ⟨q1, g1⟩ : ∃ q1, (v * 4294967296 + u1) / Y = q1 := ⟨_, rfl⟩
 obtain ⟨r1, g2⟩ : ∃ r1, (v * 4294967296 + u1) % Y = r1 := ⟨_, rfl⟩
 rw [g1] at hr1 hq1 ⊢
 rw [g2] at hr1 hm1 ⊢
 simp only [Option.bind_some, nth_zero', nth_1, nth_2, nth_3, nth_4, nth_5, nth_6, nth_7, intOf_int, hr1]
 rw [show Nat.beq 1 1 = true from rfl, cond_true, bif_neg (show ¬ (a : Int) = 0 by omega), tdivN, rest0 (by omega) (Nat.lt_trans hm1 h3), wr (x := r1 / a) (by have := Nat.div_le_self r1 a; rw [w64_eq] at h3; omega)]
 have hl2 := l_dv24 (M := M) (N := loopC (st_bits_Div64_17 M)) (y := (Y : Int)) (s := s) (q1 := q1) (w := r1) hb ha ha2 (by rw [<- hY]; exact hm1) hu0
 rw [hl2]
 rw [<- hY]
 have hr0 := rest_w (v := r1) (u := u0) (y := Y) h3 rfl hY0
 have hq0 : (r1 * 4294967296 + u0) / Y < 4294967296 := by rw [hY]; exact kn_lt (by rw [<- hY]; exact hm1) hu0
 obtain ⟨q0, g3⟩ : ∃ q0, (r1 * 4294967296 + u0) / Y = q0 := ⟨_, rfl⟩
 obtain ⟨r0, g4⟩ : ∃ r0, (r1 * 4294967296 + u0) % Y = r0 := ⟨_, rfl⟩
 rw [g3] at hr0 hq0 ⊢
 rw [g4] at hr0 ⊢
 simp only [Option.bind_some, nth_zero', nth_1, nth_2, nth_3, nth_4, nth_5, intOf_int, hr0]
 rw [show Nat.beq 1 1 = true from rfl, cond_true, bif_neg (show ¬ (s : Int) < 0 by omega), pw_s hs, fdivN]
 have w1 : IntKind.u64.wrap (IntKind.u64.wrap ((q1 : Int) * 4294967296) + (q0 : Int)) = ((q1 * 4294967296 + q0 : Nat) : Int) := by
  rw [show (q1 : Int) * 4294967296 = ((q1 * 4294967296 : Nat) : Int) by omega, wr (by omega), <- Int.natCast_add, wr (by omega)]
 rw [w1]
theorem s_LeadingZeros {y : Nat} (h0 : 0 < y) (h : y < w64) : ∃ s : Nat, m_bits_LeadingZeros64 [U y] = some [I s] /\ s <= 63 /\ 9223372036854775808 <= y * 2 ^ s /\ y * 2 ^ s < w64 := by
 have hw := w64_eq
 obtain ⟨b1, b2, b3⟩ := Lib.bitLenAux_bounds 64 y (by rw [<- show w64 = 2 ^ 64 by rw [hw]]; exact h) (by omega)
 have hL : Lib.bitLen y = Lib.bitLenAux 64 y := rfl
 generalize hb : Lib.bitLenAux 64 y = L at *
 have hL64 : L <= 64 := by
  by_cases c : L <= 64
  ·exact c
  ·have := Nat.pow_le_pow_right (show 0 < 2 by omega) (show 64 <= L - 1 by omega)
   rw [show (2 : Nat) ^ 64 = 18446744073709551616 from rfl] at this
   omega
 refine ⟨64 - L, ?_, by omega, ?_, ?_⟩
 ·unfold m_bits_LeadingZeros64
  have e64 : two64 = 18446744073709551616 := rfl
  have hu : inU (y : Int) = true := by
   simp only [inU, e64, Bool.and_eq_true, decide_eq_true_eq]
   omega
  simp only [nth_zero', intOf_int, gA, jA, wA, bA, hu, cond_true, Int.toNat_natCast, hL]
  rw [show (64 : Int) - (L : Int) = ((64 - L : Nat) : Int) by omega]
 ·have e : 2 ^ (L - 1) * 2 ^ (64 - L) = 9223372036854775808 := by rw [<- Nat.pow_add, show L - 1 + (64 - L) = 63 by omega]
  rw [<- e]
  exact Nat.mul_le_mul_right _ b2
 ·have e : 2 ^ L * 2 ^ (64 - L) = w64 := by rw [<- Nat.pow_add, show L + (64 - L) = 64 by omega, hw]
  rw [<- e]
  exact Nat.mul_lt_mul_of_pos_right b3 (Nat.two_pow_pos _)
theorem s_bits_Div64 {hi lo y : Nat} (h1 : hi < y) (hy : y < w64) (hlo : lo < w64) : m_bits_Div64 [U hi, U lo, U y] = some [U (((hi * w64 + lo) / y : Nat) : Int), U (((hi * w64 + lo) % y : Nat) : Int)] := by
 rcases Nat.eq_zero_or_pos hi with h | h
 ·subst h
  rw [Nat.zero_mul, Nat.zero_add]
  exact s_bits_Div64_0 hlo h1
 ·obtain ⟨s, e, e1, e2, e3⟩ := s_LeadingZeros (show 0 < y by omega) hy
  exact a_bits_Div64 h h1 hy hlo e1 e2 e3 e
end Go.Bm
