/- laid together -/
import Derived.Test.YtdllaekpkcanbaaPrD
import Derived.Test.YtdllaekpkcanbaaMx5
import Derived.Test.YtdllaekpkcanbaaPrA
set_option linter.unusedVariables false
set_option linter.unusedSimpArgs false
/- products divided and rounded: wide.MulDiv and the reference's Rounded -/
set_option maxRecDepth 100000
namespace Go.Bm

def near (a b : Int) : Int := (2 * a + b) / (2 * b)
theorem near_of {a b k : Int} (hb : 0 < b) (h1 : k * (2 * b) <= 2 * a + b) (h2 : 2 * a + b < (k + 1) * (2 * b)) : near a b = k := by
 unfold near
 have g1 : k <= (2 * a + b) / (2 * b) := (Int.le_ediv_iff_mul_le (by omega)).2 h1
 have g2 : (2 * a + b) / (2 * b) < k + 1 := (Int.ediv_lt_iff_lt_mul (by omega)).2 h2
 omega
theorem s_bits_Div64_0 {p c : Nat} (hp : p < w64) (hc : 0 < c) : Qef [U 0, U p, U c] = some [U ((p / c : Nat) : Int), U ((p % c : Nat) : Int)] := by
 rw [Qdn] at hp
 have h1 : (p : Int).tdiv (c : Int) = ((p / c : Nat) : Int) := by rw [Int.tdiv_eq_ediv_of_nonneg (by omega)]; simp
 have h2 : (p : Int).tmod (c : Int) = ((p % c : Nat) : Int) := by rw [Int.tmod_eq_emod_of_nonneg (by omega)]; simp
 have h3 : p / c <= p := Nat.div_le_self _ _
 unfold Qef
 generalize Qbd = M
 generalize Qnk = N1
 generalize l_bits_Div64_24 = N2
 rw [mf_bits_Div64_eq]
 rw [Qjp (by simp; omega), Qbs (by omega), Qj4 (by simp), Qbs (by omega), Qbs (by omega), h1, h2]
 generalize p / c = q at *
 rw [Qej (by omega)]
theorem s_wide_grows2 (more : Int) (some_ neg : Bool) : Qe9 [I 2, I more, B some_, B neg] = some [B (if more > 0 then true else if more = 0 then !neg else false)] := by
 unfold Qe9
 rw [mf_wide_grows_eq]
 simp only [go_sem]
 rw [if_neg (by omega), if_neg (by omega)]
 repeat' split
 all_goals rfl
theorem s_wide_signed_neg {n : Nat} (h : n <= 9223372036854775808) : Qcn [U n, B true] = some [I (-(n : Int)), B true] := by
 unfold Qcn
 rw [mf_wide_signed_eq]
 simp only [go_sem]
 rw [if_pos (by omega), uwrap_mod, wrap_def]
 have : ((0 - (n : Int)) % 18446744073709551616 + 9223372036854775808) % 18446744073709551616 - 9223372036854775808 = -(n : Int) := by omega
 rw [this]

def rndN (q r c : Nat) (neg : Bool) : Nat := if r > c - r then q + 1 else if r < c - r then q else if neg then q else q + 1
theorem a_wide_MulDiv {M1 M2 M3 M4 M5 M6 M7 : List AC -> Option (List AC)} {a b s : Int} {A C p q r c : Nat} (hc0 : 0 < c) (hc1 : c < 9223372036854775808) (hr : r < c) (hq : q < 9223372036854775807)
  (k1 : M7 [I 2] = some [B true]) (k2 : M6 [I a] = some [U A]) (k3 : M6 [I b] = some [U C]) (k4 : M6 [I c] = some [U c]) (k5 : M5 [U A, U C] = some [U 0, U p]) (k6 : M4 [U 0, U p, U c] = some [U q, U r]) (k7 : M3 [I a, I b] = some [I s])
  (k8 : ∀ (more : Int) (some_ neg : Bool), M2 [I 2, I more, B some_, B neg] = some [B (if more > 0 then true else if more = 0 then !neg else false)])
  (k9 : ∀ k : Nat, k < 9223372036854775808 -> M1 [U k, B false] = some [I k, B true]) (k10 : ∀ k : Nat, k < 9223372036854775808 -> M1 [U k, B true] = some [I (-(k : Int)), B true]) :
  mf_wide_MulDiv M1 M2 M3 M4 M5 M6 M7 [I a, I b, I c, I 2] = some [I (if s < 0 then -(rndN q r c true : Int) else (rndN q r c false : Int)), B true] := by
 have w1 : IntKind.u64.wrap ((c : Int) - (r : Int)) = ((c - r : Nat) : Int) := by rw [Qej (by omega)]; omega
 have w2 : IntKind.u64.wrap ((q : Int) + 1) = ((q + 1 : Nat) : Int) := by rw [Qej (by omega)]; omega
 have n1 := k9 q (by omega)
 have n2 := k9 (q + 1) (by omega)
 rw [mf_wide_MulDiv_eq]
 simp only [go_sem, k1, k2, k3, k4, k5, k6, k7, k8, w1, w2, n1, n2]
 rw [if_neg (by omega), if_neg (by simp), if_neg (by omega)]
 by_cases hs : s < 0
 ·rw [if_pos hs]
  rw [if_pos (show ¬(s < 0 ↔ (c : Int) < 0) by omega)]
  have hne : (s != 0) = true := by simp; omega
  rw [hne]
  unfold rndN
  by_cases g1 : r > c - r
  ·rw [if_pos g1]
   rw [if_pos (show (r : Int) > ((c - r : Nat) : Int) by omega), if_pos (by decide), if_neg (show ¬ ((q + 1 : Nat) : Int) = 0 by omega), k10 (q + 1) (by omega)]
   simp only [go_sem]
  ·rw [if_neg g1]
   rw [if_neg (show ¬ (r : Int) > ((c - r : Nat) : Int) by omega)]
   by_cases g2 : r < c - r
   ·rw [if_pos g2]
    rw [if_pos (show (r : Int) < ((c - r : Nat) : Int) by omega), if_neg (by decide), k10 q (by omega)]
    simp only [go_sem]
   ·rw [if_neg g2, if_pos rfl]
    rw [if_neg (show ¬ (r : Int) < ((c - r : Nat) : Int) by omega), if_neg (by decide), k10 q (by omega)]
    simp only [go_sem]
 ·rw [if_neg hs]
  rw [if_neg (show ¬¬(s < 0 ↔ (c : Int) < 0) by omega)]
  unfold rndN
  by_cases g1 : r > c - r
  ·rw [if_pos g1, if_pos (show (r : Int) > ((c - r : Nat) : Int) by omega), if_pos (by decide), if_neg (show ¬ ((q + 1 : Nat) : Int) = 0 by omega)]
  ·rw [if_neg g1, if_neg (show ¬ (r : Int) > ((c - r : Nat) : Int) by omega)]
   by_cases g2 : r < c - r
   ·rw [if_pos g2, if_pos (show (r : Int) < ((c - r : Nat) : Int) by omega), if_neg (by decide)]
   ·rw [if_neg g2, if_neg (show ¬ (r : Int) < ((c - r : Nat) : Int) by omega), if_pos (by decide), if_neg (show ¬ ((q + 1 : Nat) : Int) = 0 by omega), if_neg (by decide)]

theorem rndN_false (q r c : Nat) : rndN q r c false = if r < c - r then q else q + 1 := by
 unfold rndN
 by_cases h1 : r > c - r
 ·rw [if_pos h1, if_neg (by omega)]
 ·rw [if_neg h1]
  by_cases h2 : r < c - r
  ·rw [if_pos h2, if_pos h2]
  ·rw [if_neg h2, if_neg h2, if_neg (by simp)]
theorem rndN_true (q r c : Nat) : rndN q r c true = if r > c - r then q + 1 else q := by
 unfold rndN
 by_cases h1 : r > c - r
 ·rw [if_pos h1, if_pos h1]
 ·rw [if_neg h1, if_neg h1]
  by_cases h2 : r < c - r
  ·rw [if_pos h2]
  ·rw [if_neg h2, if_pos rfl]
theorem near_pos {p q r c : Nat} (hc : 0 < c) (h : p = c * q + r) (hr : r < c) : near p c = rndN q r c false := by
 have e : (p : Int) = (c : Int) * q + r := by rw [h]; simp
 have e3 : (q : Int) * (2 * c) = 2 * ((c : Int) * q) := by grind
 have e4 : ((q + 1 : Nat) : Int) * (2 * c) = 2 * ((c : Int) * q) + 2 * c := by grind
 have e5 : ((q : Int) + 1) * (2 * c) = 2 * ((c : Int) * q) + 2 * c := by grind
 have e6 : (((q + 1 : Nat) : Int) + 1) * (2 * c) = 2 * ((c : Int) * q) + 4 * c := by grind
 rw [rndN_false]
 by_cases g : r < c - r
 ·rw [if_pos g]
  exact near_of (by omega) (by rw [e3]; omega) (by rw [e5]; omega)
 ·rw [if_neg g]
  exact near_of (by omega) (by rw [e4]; omega) (by rw [e6]; omega)
theorem near_neg {p q r c : Nat} (hc : 0 < c) (h : p = c * q + r) (hr : r < c) : near (-(p : Int)) c = -(rndN q r c true : Int) := by
 have e : (p : Int) = (c : Int) * q + r := by rw [h]; simp
 have e3 : -(q : Int) * (2 * c) = -(2 * ((c : Int) * q)) := by grind
 have e4 : -((q + 1 : Nat) : Int) * (2 * c) = -(2 * ((c : Int) * q)) - 2 * c := by grind
 have e5 : (-(q : Int) + 1) * (2 * c) = -(2 * ((c : Int) * q)) + 2 * c := by grind
 have e6 : (-((q + 1 : Nat) : Int) + 1) * (2 * c) = -(2 * ((c : Int) * q)) := by grind
 rw [rndN_true]
 by_cases g : r > c - r
 ·rw [if_pos g]
  exact near_of (by omega) (by rw [e4]; omega) (by rw [e6]; omega)
 ·rw [if_neg g]
  exact near_of (by omega) (by rw [e3]; omega) (by rw [e5]; omega)
theorem s_wide_MulDiv {a b c : Int} (ha : i64 a) (hb : i64 b) (hc : 0 < c /\ c < 9223372036854775808) (hp : a.natAbs * b.natAbs < 9223372036854775807) : Qbh [I a, I b, I c, I 2] = some [I (near (a * b) c), B true] := by
 obtain ⟨hi, lo, e1, e2, e3⟩ := Qg0 (i64_abs ha) (i64_abs hb)
 have hm := sgn_mul a b
 have hs := sgn_cases a b
 have hz : a * b = 0 -> a.natAbs * b.natAbs = 0 := fun h => by rw [<- Int.natAbs_mul, h]; rfl
 generalize a.natAbs * b.natAbs = p at *
 have hhi : hi = 0 := by
  rcases Nat.eq_zero_or_pos hi with h | h
  ·exact h
  ·have := Nat.mul_le_mul_right w64 h
   have := Qdn
   omega
 subst hhi
 have hlo : lo = p := by omega
 subst hlo
 obtain ⟨n, rfl⟩ := Int.eq_ofNat_of_zero_le (show 0 <= c by omega)
 have hn : 0 < n := by omega
 have h1 := Nat.div_add_mod lo n
 have h2 := Nat.mod_lt lo hn
 have h3 : lo / n <= lo := Nat.div_le_self _ _
 have hd := s_bits_Div64_0 e3 hn
 have hcs := Qhb (x := (n : Int)) (by unfold i64; omega)
 rw [Int.natAbs_natCast] at hcs
 generalize lo / n = q at *
 generalize lo % n = r at *
 have hmain := a_wide_MulDiv (M1 := Qcn) (M2 := Qe9) (M3 := Qem) (M4 := Qef) (M5 := Qbp) (M6 := Qeo) (M7 := Qd0) hn (by omega) h2 (by omega)
  (s_wide_known (.inr (.inr rfl))) (Qhb ha) (Qhb hb) hcs e1 hd (s_wide_sign a b) s_wide_grows2 (fun k hk => s_wide_signed hk) (fun k hk => s_wide_signed_neg (by omega))
 have hv : (if sgn a b < 0 then -(rndN q r n true : Int) else (rndN q r n false : Int)) = near (a * b) n := by
  rcases hs with ⟨g1, g2⟩ | ⟨g1, g2⟩ | ⟨g1, g2⟩
  ·rw [if_neg (by omega), g2]
   rw [g1] at hm
   have : lo = 0 := hz g2
   rw [<- near_pos hn h1.symm h2, this]; rfl
  ·rw [if_neg (by omega), <- near_pos hn h1.symm h2, <- hm, g1, Int.one_mul]
  ·rw [if_pos (by omega), <- near_neg hn h1.symm h2, <- hm, g1, Int.neg_mul, Int.one_mul]
 rw [hv] at hmain
 exact hmain
end Go.Bm
/- layer 1's reference: numbers as lists of digits to the base 65536 -/
set_option maxRecDepth 100000
namespace Go.Bm

def val : List Nat -> Nat
 | [] => 0
 | d :: l => d + 65536 * val l
def Dig (l : List Nat) : Prop := ∀ d ∈ l, d < 65536
theorem Dig.sub {l m : List Nat} (h : Dig l) (hs : ∀ d ∈ m, d ∈ l) : Dig m := fun d hd => h d (hs d hd)

end Go.Bm
/- layer 1's reference: the product of numbers as lists of digits, and the comparison of products -/
set_option maxRecDepth 100000
namespace Go.Bm

theorem Dig.set {l : List Nat} (h : Dig l) (j d : Nat) (hd : d < 65536) : Dig (l.set j d) := by
 intro x hx
 rcases List.mem_or_eq_of_mem_set hx with h' | rfl
 ·exact h x h'
 ·exact hd
end Go.Bm
/- points as vectors: bounds, inner products, differences; when a point is near a straight line -/
set_option maxRecDepth 100000
namespace Go.Bm
def bd (A : Nat) (p : Pt) : Prop := p.x.natAbs <= A /\ p.y.natAbs <= A /\ p.z.natAbs <= A
def dotP (a b : Pt) : Int := a.x * b.x + a.y * b.y + a.z * b.z
def subP (a b : Pt) : Pt := ⟨a.x - b.x, a.y - b.y, a.z - b.z⟩
theorem mul_bd {x y : Int} {A B : Nat} (hx : x.natAbs <= A) (hy : y.natAbs <= B) : (x * y).natAbs <= A * B := by rw [Int.natAbs_mul]; exact Nat.mul_le_mul hx hy
theorem sub_bd {A B : Nat} {a b : Pt} (ha : bd A a) (hb : bd B b) : bd (A + B) (subP a b) := by
 obtain ⟨h1, h2, h3⟩ := ha
 obtain ⟨g1, g2, g3⟩ := hb
 refine ⟨?_, ?_, ?_⟩ <;> simp only [subP] <;> omega
theorem Qbv {A B : Nat} {a : Pt} (h : bd A a) (hab : A <= B) : bd B a := ⟨Nat.le_trans h.1 hab, Nat.le_trans h.2.1 hab, Nat.le_trans h.2.2 hab⟩

theorem sub_wrap {a b : Pt} (ha : bd 33554432 a) (hb : bd 33554432 b) : IntKind.i64.wrap (a.x - b.x) = (subP a b).x /\ IntKind.i64.wrap (a.y - b.y) = (subP a b).y /\ IntKind.i64.wrap (a.z - b.z) = (subP a b).z := by
 obtain ⟨h1, h2, h3⟩ := ha
 obtain ⟨g1, g2, g3⟩ := hb
 refine ⟨?_, ?_, ?_⟩ <;> rw [Qab (by omega)] <;> rfl
theorem s_cncref24_Minus {a b : Pt} (ha : bd 33554432 a) (hb : bd 33554432 b) : Qlm [I a.x, I a.y, I a.z, I b.x, I b.y, I b.z] = some (ptR (subP a b)) := by
 unfold Qlm
 obtain ⟨h1, h2, h3⟩ := sub_wrap ha hb
 rw [mf_cncref24_Minus_eq, h1, h2, h3]
theorem dot_neg (a b : Pt) : dotP (subP a b) (subP a b) = dotP (subP b a) (subP b a) := by
 simp only [dotP, subP]
 have h : ∀ x y : Int, (x - y) * (x - y) = (y - x) * (y - x) := by intro x y; rw [<- Int.neg_mul_neg, Int.neg_sub]
 rw [h a.x, h a.y, h a.z]
theorem cmpI_le {x y : Int} : cmpI x y <= 0 ↔ x <= y := by
 unfold cmpI
 by_cases h : x < y
 ·rw [if_pos h]; omega
 ·rw [if_neg h]
  by_cases h' : x = y
  ·rw [if_pos h']; omega
  ·rw [if_neg h']; omega

end Go.Bm
/- the reference's products of two words, roots, lengths, and x r / sqrt n, rounded -/
set_option maxRecDepth 100000
namespace Go.Bm

theorem and32 (v : Nat) (h : v < w64) : IntKind.u64.wrap (((BitVec.ofInt IntKind.u64.bits (v : Int) &&& BitVec.ofInt IntKind.u64.bits 4294967295).toNat : Nat) : Int) = ((v % 4294967296 : Nat) : Int) := by
 rw [Qdn] at h
 have e : (BitVec.ofInt IntKind.u64.bits (v : Int) &&& BitVec.ofInt IntKind.u64.bits 4294967295).toNat = v % 4294967296 := by
  rw [BitVec.toNat_and]
  have e1 : (BitVec.ofInt IntKind.u64.bits (v : Int)).toNat = v := by
   simp only [IntKind.bits, BitVec.toNat_ofInt]
   omega
  have e2 : (BitVec.ofInt IntKind.u64.bits 4294967295).toNat = 2 ^ 32 - 1 := by
   simp only [IntKind.bits, BitVec.toNat_ofInt]
   rfl
  rw [e1, e2, Nat.and_two_pow_sub_one_eq_mod]
 rw [e, Qej (by omega)]
theorem shr32 (v : Nat) : (v : Int).fdiv (2 ^ min (Int.toNat 32) IntKind.u64.bits) = ((v / 4294967296 : Nat) : Int) := by
 have e : (2 ^ min (Int.toNat 32) IntKind.u64.bits : Int) = 4294967296 := rfl
 rw [e, Int.fdiv_eq_ediv_of_nonneg _ (by omega)]
 omega
theorem or32 (u v : Nat) (hu : u < 4294967296) (hv : v < 4294967296) : IntKind.u64.wrap (((BitVec.ofInt IntKind.u64.bits ((u * 4294967296 : Nat) : Int) ||| BitVec.ofInt IntKind.u64.bits (v : Int)).toNat : Nat) : Int) = ((u * 4294967296 + v : Nat) : Int) := by
 have e : (BitVec.ofInt IntKind.u64.bits ((u * 4294967296 : Nat) : Int) ||| BitVec.ofInt IntKind.u64.bits (v : Int)).toNat = u * 4294967296 + v := by
  rw [BitVec.toNat_or]
  have e1 : ∀ v : Nat, v < 18446744073709551616 -> (BitVec.ofInt IntKind.u64.bits (v : Int)).toNat = v := by
   intro v hv
   simp only [IntKind.bits, BitVec.toNat_ofInt]
   omega
  rw [e1 _ (by omega), e1 _ (by omega)]
  have := Nat.two_pow_add_eq_or_of_lt (i := 32) (b := v) (by omega) u
  rw [show (2 : Nat) ^ 32 = 4294967296 from rfl, Nat.mul_comm] at this
  exact this.symm
 rw [e, Qej (by omega)]
theorem shl32 (v : Nat) (h : v < w64) : IntKind.u64.wrap ((v : Int) * 2 ^ min (Int.toNat 32) IntKind.u64.bits) = ((v % 4294967296 * 4294967296 : Nat) : Int) := by
 have e : (2 ^ min (Int.toNat 32) IntKind.u64.bits : Int) = 4294967296 := rfl
 rw [Qdn] at h
 rw [e, uwrap_mod]
 omega
theorem mul32 {a b : Nat} (ha : a < 4294967296) (hb : b < 4294967296) : a * b <= 18446744065119617025 := by
 have := Nat.mul_le_mul (show a <= 4294967295 by omega) (show b <= 4294967295 by omega)
 omega
theorem s_cncref23_product {x y : Nat} (hx : x < w64) (hy : y < w64) : ∃ hi lo : Nat, m_cncref23_product [U x, U y] = some [U hi, U lo] /\ hi * w64 + lo = x * y /\ lo < w64 := by
 unfold m_cncref23_product
 rw [mf_cncref23_product_eq, and32 x hx, and32 y hy, shr32 x, shr32 y]
 rw [Qdn] at hx hy
 have ex : x = x / 4294967296 * 4294967296 + x % 4294967296 := by omega
 have ey : y = y / 4294967296 * 4294967296 + y % 4294967296 := by omega
 have hx1 : x / 4294967296 < 4294967296 := by omega
 have hx0 : x % 4294967296 < 4294967296 := by omega
 have hy1 : y / 4294967296 < 4294967296 := by omega
 have hy0 : y % 4294967296 < 4294967296 := by omega
 generalize x / 4294967296 = a at *
 generalize x % 4294967296 = b at *
 generalize y / 4294967296 = c at *
 generalize y % 4294967296 = d at *
 have exy : x * y = (a * c) * 18446744073709551616 + (a * d) * 4294967296 + (b * c) * 4294967296 + b * d := by
  rw [ex, ey]
  have : (18446744073709551616 : Nat) = 4294967296 * 4294967296 := rfl
  rw [this]
  generalize (4294967296 : Nat) = H
  grind
 rw [exy]
 have h1 := mul32 hx1 hy1
 have h2 := mul32 hx1 hy0
 have h3 := mul32 hx0 hy1
 have h4 := mul32 hx0 hy0
 have m1 : ∀ p q : Nat, (p : Int) * (q : Int) = ((p * q : Nat) : Int) := fun p q => by simp
 have u1 : ∀ v : Nat, v <= 18446744073709551615 -> IntKind.u64.wrap (v : Int) = (v : Int) := fun v hv => Qej (by omega)
 simp only [m1]
 generalize a * c = P at *
 generalize a * d = Q at *
 generalize b * c = S at *
 generalize b * d = T at *
 have hw64 : ∀ v : Nat, v <= 18446744073709551615 -> v < w64 := fun v hv => by rw [Qdn]; omega
 have a1 : ∀ p q : Nat, (p : Int) + (q : Int) = ((p + q : Nat) : Int) := fun p q => by simp
 rw [u1 T (by omega), u1 Q (by omega), u1 S (by omega), u1 P (by omega), shr32 T, a1, u1 (Q + T / 4294967296) (by omega)]
 rw [and32 _ (hw64 (Q + T / 4294967296) (by omega)), shr32 (Q + T / 4294967296), and32 _ (hw64 T (by omega)), a1 S, u1 (S + _) (by omega), shr32 (S + _), a1 P, u1 (P + _) (by omega), a1 _ ((S + _) / _), u1 (P + _ + _) (by omega),
  shl32 _ (hw64 (S + (Q + T / 4294967296) % 4294967296) (by omega)), or32 _ _ (by omega) (by omega)]
 refine ⟨_, _, rfl, ?_, ?_⟩
 ·rw [Qdn]; omega
 ·rw [Qdn]; omega

theorem a_cncref23_most {M : List AC -> Option (List AC)} (hM : ∀ {x y : Nat}, x < w64 -> y < w64 -> ∃ hi lo : Nat, M [U x, U y] = some [U hi, U lo] /\ hi * w64 + lo = x * y /\ lo < w64) {a b c d : Nat} (ha : a < w64) (hb : b < w64) (hc : c < w64) (hd : d < w64) (s : Bool) :
  mf_cncref23_most M [U a, U b, U c, U d, B s] = some [B (if s = true then decide (a * b < c * d) else decide (a * b <= c * d))] := by
 obtain ⟨h1, l1, e1, f1, g1⟩ := hM ha hb
 obtain ⟨h2, l2, e2, f2, g2⟩ := hM hc hd
 rw [mf_cncref23_most_eq]
 simp only [go_sem, e1, e2]
 rw [<- f1, <- f2]
 have key : ∀ p q : Nat, p < q -> p * w64 + w64 <= q * w64 := fun p q h => by rw [<- Nat.succ_mul]; exact Nat.mul_le_mul_right _ h
 by_cases c1 : h1 < h2
 ·rw [if_pos (by omega)]
  have := key _ _ c1
  by_cases hs : s = true
  ·rw [if_pos hs, decide_eq_true (by omega)]
  ·rw [if_neg hs, decide_eq_true (by omega)]
 ·rw [if_neg (by omega)]
  by_cases c2 : h1 = h2
  ·subst c2
   rw [if_pos rfl]
   by_cases c3 : l1 < l2
   ·rw [if_pos (by omega)]
    by_cases hs : s = true
    ·rw [if_pos hs, decide_eq_true (by omega)]
    ·rw [if_neg hs, decide_eq_true (by omega)]
   ·rw [if_neg (by omega)]
    by_cases c4 : l1 = l2
    ·subst c4
     rw [if_pos rfl]
     by_cases hs : s = true
     ·rw [if_pos hs, decide_eq_false (by omega), hs]; rfl
     ·rw [if_neg hs, decide_eq_true (by omega)]; simp at hs; rw [hs]; rfl
    ·rw [if_neg (by omega)]
     by_cases hs : s = true
     ·rw [if_pos hs, decide_eq_false (by omega)]
     ·rw [if_neg hs, decide_eq_false (by omega)]
  ·rw [if_neg (by omega)]
   have := key h2 h1 (by omega)
   by_cases hs : s = true
   ·rw [if_pos hs, decide_eq_false (by omega)]
   ·rw [if_neg hs, decide_eq_false (by omega)]
theorem s_cncref23_most {a b c d : Nat} (ha : a < w64) (hb : b < w64) (hc : c < w64) (hd : d < w64) (s : Bool) :
  m_cncref23_most [U a, U b, U c, U d, B s] = some [B (if s = true then decide (a * b < c * d) else decide (a * b <= c * d))] :=
 a_cncref23_most s_cncref23_product ha hb hc hd s

def IsRnd (a n : Nat) (down : Bool) (j : Nat) : Prop :=
 (j = 0 \/ if down = true then (2 * j - 1) * (2 * j - 1) * n < 4 * (a * a) else (2 * j - 1) * (2 * j - 1) * n <= 4 * (a * a)) /\
 (if down = true then 4 * (a * a) <= (2 * j + 1) * (2 * j + 1) * n else 4 * (a * a) < (2 * j + 1) * (2 * j + 1) * n)
theorem sqn_le {p q n : Nat} (h : p <= q) : p * p * n <= q * q * n := Nat.mul_le_mul_right _ (Nat.mul_le_mul h h)
theorem isRnd_unique {a n : Nat} {down : Bool} {i j : Nat} (hi : IsRnd a n down i) (hj : IsRnd a n down j) : i = j := by
 have key : ∀ {i j : Nat}, IsRnd a n down i -> IsRnd a n down j -> ¬ i < j := by
  rintro i j ⟨-, h2⟩ ⟨h3, -⟩ hlt
  have h4 := sqn_le (n := n) (show 2 * i + 1 <= 2 * j - 1 by omega)
  rcases h3 with h3 | h3
  ·omega
  ·by_cases hd : down = true
   ·rw [if_pos hd] at h2 h3; omega
   ·rw [if_neg hd] at h2 h3; omega
 have h1 := key hi hj
 have h2 := key hj hi
 omega
open Classical in
noncomputable def rnd (a n : Nat) (down : Bool) : Nat := if h : ∃ j, IsRnd a n down j then Classical.choose h else 0
theorem rnd_of {a n : Nat} {down : Bool} {j : Nat} (h : IsRnd a n down j) : rnd a n down = j := by
 have hx : ∃ j, IsRnd a n down j := ⟨j, h⟩
 unfold rnd
 rw [dif_pos hx]
 exact isRnd_unique (Classical.choose_spec hx) h
noncomputable def Qil (x r n : Int) : Int := if x < 0 then -(rnd (x.natAbs * r.natAbs) n.natAbs true : Int) else (rnd (x.natAbs * r.natAbs) n.natAbs false : Int)

theorem isRnd_le {X R n j : Nat} {down : Bool} (hn : 0 < n) (hx : X * X <= n) (h : IsRnd (X * R) n down j) : j <= R := by
 by_cases c : j <= R
 ·exact c
 exfalso
 have e : 4 * (X * R * (X * R)) = (2 * R) * (2 * R) * (X * X) := by grind
 have h2 : (2 * R) * (2 * R) * (X * X) <= (2 * R) * (2 * R) * n := Nat.mul_le_mul_left _ hx
 have h3 : (2 * R) * (2 * R) * n < (2 * R + 1) * (2 * R + 1) * n := Nat.mul_lt_mul_of_pos_right (Nat.mul_self_lt_mul_self (by omega)) hn
 have h4 : (2 * R + 1) * (2 * R + 1) * n <= (2 * j - 1) * (2 * j - 1) * n := sqn_le (by omega)
 obtain ⟨h5, -⟩ := h
 rcases h5 with h5 | h5
 ·omega
 ·split at h5 <;> omega
theorem isRnd_le' {X R n j : Nat} {down : Bool} (hn : 0 < n) (hx : R * R <= n) (h : IsRnd (X * R) n down j) : j <= X := by
 rw [Nat.mul_comm] at h
 exact isRnd_le hn hx h
theorem st_Near {M : List AC -> Option (List AC)} (hM : ∀ {a b c d : Nat}, a < w64 -> b < w64 -> c < w64 -> d < w64 -> ∀ s : Bool, M [U a, U b, U c, U d, B s] = some [B (if s = true then decide (a * b < c * d) else decide (a * b <= c * d))])
  {x : Int} {a d q b : Nat} {bit : Int} (ha : a < 36028797018963968) (hd : d < w64) (hq : q + b < 268435456 + 1) (hb0 : 0 < b) (hb : ((b : Nat) : Int).fdiv (2 ^ min (Int.toNat 1) IntKind.u64.bits) = bit) :
  Qed M [I x, U a, U d, U q, U b] = some (0, [I x, U a, U d, U (((if (q + b) * (q + b) * d <= a * a then q + b else q) : Nat) : Int), U bit]) := by
 have hs : (q + b) * (q + b) <= 268435456 * 268435456 := Nat.mul_le_mul (by omega) (by omega)
 have w1 : IntKind.u64.wrap ((q : Int) + (b : Int)) = ((q + b : Nat) : Int) := by rw [Qej (by omega)]; omega
 have w2 : IntKind.u64.wrap (((q + b : Nat) : Int) * ((q + b : Nat) : Int)) = (((q + b) * (q + b) : Nat) : Int) := by
  rw [show ((q + b : Nat) : Int) * ((q + b : Nat) : Int) = (((q + b) * (q + b) : Nat) : Int) by simp, Qej (by omega)]
 rw [st_cncref23_Near_3_eq, w1, w2, hb]
 generalize (q + b) * (q + b) = s at *
 have h := hM (a := s) (b := d) (c := a) (d := a) (by rw [Qdn]; omega) hd (by rw [Qdn]; omega) (by rw [Qdn]; omega) false
 rw [if_neg (by simp)] at h
 simp only [go_sem, h]
 rw [if_pos (by omega)]
 by_cases c : s * d <= a * a
 ·rw [if_pos c, if_pos c]
 ·rw [if_neg c, if_neg c]
theorem l_Near {M : List AC -> Option (List AC)} (hM : ∀ {a b c d : Nat}, a < w64 -> b < w64 -> c < w64 -> d < w64 -> ∀ s : Bool, M [U a, U b, U c, U d, B s] = some [B (if s = true then decide (a * b < c * d) else decide (a * b <= c * d))])
  {x : Int} {a d : Nat} (ha : a < 36028797018963968) (hd : d < w64) : ∀ (k q : Nat), q + 2 ^ (k + 1) <= 268435456 -> q * q * d <= a * a -> a * a < (q + 2 ^ (k + 1)) * (q + 2 ^ (k + 1)) * d ->
  ∃ r : Nat, Qby (Qed M) [I x, U a, U d, U q, U ((2 ^ k : Nat) : Int)] = some (1, [I x, U a, U d, U r]) /\ r * r * d <= a * a /\ a * a < (r + 1) * (r + 1) * d /\ r < 268435456
 | 0, q, hq, h1, h2 => by
  have hs := st_Near hM (x := x) (q := q) (b := 2 ^ 0) (bit := 0) ha hd (by simp at hq ⊢; omega) (by simp) half0
  rw [Qbr hs]
  have hend : ∀ r : Nat, Qby (Qed M) [I x, U a, U d, U r, U 0] = some (1, [I x, U a, U d, U r]) := by
   intro r
   refine Qb1 ?_ (by simp)
   rw [st_cncref23_Near_3_eq]
   simp only [go_sem]
   rw [if_neg (by omega)]
  simp only [Nat.zero_add, Nat.pow_one, Nat.pow_zero] at *
  by_cases h : (q + 1) * (q + 1) * d <= a * a
  ·rw [if_pos h, hend]
   exact ⟨_, rfl, h, h2, by omega⟩
  ·rw [if_neg h, hend]
   exact ⟨_, rfl, h1, by omega, by omega⟩
 | k + 1, q, hq, h1, h2 => by
  have e3 : 2 ^ (k + 1 + 1) = 2 ^ (k + 1) + 2 ^ (k + 1) := by rw [Nat.pow_succ 2 (k + 1)]; omega
  have hpos : 0 < 2 ^ (k + 1) := Nat.two_pow_pos _
  have hs := st_Near hM (x := x) (q := q) (b := 2 ^ (k + 1)) (bit := ((2 ^ k : Nat) : Int)) ha hd (by omega) hpos (half k)
  rw [Qbr hs]
  by_cases h : (q + 2 ^ (k + 1)) * (q + 2 ^ (k + 1)) * d <= a * a
  ·rw [if_pos h]
   refine l_Near hM ha hd k _ (by omega) h ?_
   rw [show q + 2 ^ (k + 1) + 2 ^ (k + 1) = q + 2 ^ (k + 1 + 1) by omega]
   exact h2
  ·rw [if_neg h]
   exact l_Near hM ha hd k q (by omega) h1 (by omega)
theorem isRnd_near {a n q : Nat} (down : Bool) (h1 : q * q * n <= a * a) (h2 : a * a < (q + 1) * (q + 1) * n) :
  IsRnd a n down (if (if down = true then (2 * q + 1) * (2 * q + 1) * n < 2 * a * (2 * a) else (2 * q + 1) * (2 * q + 1) * n <= 2 * a * (2 * a)) then q + 1 else q) := by
 have e4 : 2 * a * (2 * a) = 4 * (a * a) := by grind
 rw [e4]
 have e1 : 4 * (q * q * n) <= 4 * (a * a) := Nat.mul_le_mul_left _ h1
 have e2 : 4 * (a * a) < 4 * ((q + 1) * (q + 1) * n) := by omega
 have e5 : (2 * q - 1) * (2 * q - 1) * n <= (2 * q) * (2 * q) * n := sqn_le (by omega)
 have e6 : (2 * q) * (2 * q) * n = 4 * (q * q * n) := by grind
 have e7 : (2 * (q + 1)) * (2 * (q + 1)) * n = 4 * ((q + 1) * (q + 1) * n) := by grind
 have e8 : (2 * (q + 1)) * (2 * (q + 1)) * n <= (2 * (q + 1) + 1) * (2 * (q + 1) + 1) * n := sqn_le (by omega)
 have e9 : n = 0 \/ q = 0 \/ (2 * q - 1) * (2 * q - 1) * n < (2 * q) * (2 * q) * n := by
  by_cases hn : n = 0
  ·exact .inl hn
  ·by_cases hq : q = 0
   ·exact .inr (.inl hq)
   ·right; right
    refine Nat.mul_lt_mul_of_pos_right ?_ (by omega)
    exact Nat.mul_self_lt_mul_self (by omega)
 have hn : n ≠ 0 := by rintro rfl; simp at h2
 unfold IsRnd
 cases down
 ·simp only [Bool.false_eq_true, if_false]
  by_cases c : (2 * q + 1) * (2 * q + 1) * n <= 4 * (a * a)
  ·rw [if_pos c]
   refine ⟨.inr ?_, by omega⟩
   rw [show 2 * (q + 1) - 1 = 2 * q + 1 by omega]; exact c
  ·rw [if_neg c]
   exact ⟨by omega, by omega⟩
 ·simp only [if_true]
  by_cases c : (2 * q + 1) * (2 * q + 1) * n < 4 * (a * a)
  ·rw [if_pos c]
   refine ⟨.inr ?_, by omega⟩
   rw [show 2 * (q + 1) - 1 = 2 * q + 1 by omega]; exact c
  ·rw [if_neg c]
   exact ⟨by omega, by omega⟩
theorem a_cncref23_Near {M : List AC -> Option (List AC)} (hM : ∀ {a b c d : Nat}, a < w64 -> b < w64 -> c < w64 -> d < w64 -> ∀ s : Bool, M [U a, U b, U c, U d, B s] = some [B (if s = true then decide (a * b < c * d) else decide (a * b <= c * d))])
  {x r n : Int} (hx : x.natAbs <= 33554432 * 4) (hr : 0 <= r /\ r <= 33554432 * 4) (hn : 0 < n /\ n <= 4611686018427387904) (hxn : x * x <= n) :
  mf_cncref23_Near M (Qby (Qed M)) [I x, I r, I n] = some [I (Qil x r n)] /\ (Qil x r n).natAbs <= 268435456 /\ IsRnd (x.natAbs * r.natAbs) n.natAbs (decide (x < 0)) (Qil x r n).natAbs := by
 obtain ⟨R, rfl⟩ := Int.eq_ofNat_of_zero_le hr.1
 obtain ⟨N, rfl⟩ := Int.eq_ofNat_of_zero_le (show 0 <= n by omega)
 have hmx : mx x (IntKind.i64.wrap (0 - x)) = (x.natAbs : Int) := by
  rw [Qab (by omega)]; unfold mx; split <;> omega
 have hA : x.natAbs * R <= (33554432 * 4) * (33554432 * 4) := Nat.mul_le_mul hx (by omega)
 have e1 : (x.natAbs : Int) * (R : Int) = ((x.natAbs * R : Nat) : Int) := by simp
 have hxx : x.natAbs * x.natAbs <= N := by
  have : ((x.natAbs * x.natAbs : Nat) : Int) = x * x := by rw [Int.natAbs_mul_self]
  omega
 have hAA : (x.natAbs * R) * (x.natAbs * R) < 268435456 * 268435456 * N := by
  have e : (x.natAbs * R) * (x.natAbs * R) = (R * R) * (x.natAbs * x.natAbs) := by grind
  rw [e]
  have h1 : R * R <= (33554432 * 4) * (33554432 * 4) := Nat.mul_le_mul (by omega) (by omega)
  have h2 : (R * R) * (x.natAbs * x.natAbs) <= ((33554432 * 4) * (33554432 * 4)) * N := Nat.mul_le_mul h1 hxx
  omega
 simp only [Qil, Int.natAbs_natCast]
 generalize hAd : x.natAbs * R = A at *
 have hAw : A < 36028797018963968 := by omega
 have hN : N < w64 := by rw [Qdn]; omega
 rw [mf_cncref23_Near_eq, hmx, e1, Qab (x := (A : Int)) (by omega), Qej (x := (A : Int)) (by omega), Qej (x := (N : Int)) (by omega)]
 obtain ⟨q, l1, l2, l3, l4⟩ := l_Near hM (x := x) (a := A) (d := N) hAw hN 27 0 (by decide) (by simp) (by rw [Nat.zero_add]; exact hAA)
 have l1' : Qby (Qed M) [I x, U A, U N, AC.int IntKind.u64 0, AC.int IntKind.u64 134217728] = some (1, [I x, U A, U N, U q]) := l1
 rw [l1']
 have hq2 : (2 * q + 1) * (2 * q + 1) <= 536870911 * 536870911 := Nat.mul_le_mul (by omega) (by omega)
 have w1 : IntKind.u64.wrap (IntKind.u64.wrap (2 * (q : Int)) + 1) = ((2 * q + 1 : Nat) : Int) := by rw [Qej (x := 2 * (q : Int)) (by omega), Qej (by omega)]; omega
 have w2 : IntKind.u64.wrap (((2 * q + 1 : Nat) : Int) * ((2 * q + 1 : Nat) : Int)) = (((2 * q + 1) * (2 * q + 1) : Nat) : Int) := by
  rw [show ((2 * q + 1 : Nat) : Int) * ((2 * q + 1 : Nat) : Int) = (((2 * q + 1) * (2 * q + 1) : Nat) : Int) from (Int.natCast_mul _ _).symm, Qej (by omega)]
 have w3 : IntKind.u64.wrap (2 * (A : Int)) = ((2 * A : Nat) : Int) := by rw [Qej (by omega)]; omega
 have w4 : IntKind.i64.wrap (IntKind.u64.wrap ((q : Int) + 1)) = ((q + 1 : Nat) : Int) := by rw [Qej (by omega), Qab (by omega)]; omega
 have w5 : IntKind.i64.wrap (q : Int) = (q : Int) := Qab (by omega)
 have h := hM (a := (2 * q + 1) * (2 * q + 1)) (b := N) (c := 2 * A) (d := 2 * A) (by rw [Qdn]; omega) hN (by rw [Qdn]; omega) (by rw [Qdn]; omega) (decide (x < 0))
 have hi := isRnd_near (decide (x < 0)) l2 l3
 simp only [go_sem, w1, w2, w3, h, w4, w5]
 generalize (2 * q + 1) * (2 * q + 1) = s at *
 by_cases hx0 : x < 0
 ·rw [show (if x < 0 then -(rnd A N true : Int) else (rnd A N false : Int)) = -(rnd A N true : Int) from if_pos hx0]
  rw [decide_eq_true hx0] at hi ⊢
  simp only [if_true] at hi ⊢
  have hr := rnd_of hi
  by_cases c : s * N < 2 * A * (2 * A)
  ·rw [if_pos c] at hi hr
   rw [if_pos hx0, if_pos (decide_eq_true c), if_pos hx0, hr, Qab (by omega)]
   refine ⟨?_, by omega, ?_⟩
   ·rw [Int.zero_sub]
   ·rw [Int.natAbs_neg, Int.natAbs_natCast]; exact hi
  ·rw [if_neg c] at hi hr
   rw [if_pos hx0, if_neg (by simpa using c), if_pos hx0, hr, Qab (by omega)]
   refine ⟨?_, by omega, ?_⟩
   ·rw [Int.zero_sub]
   ·rw [Int.natAbs_neg, Int.natAbs_natCast]; exact hi
 ·rw [show (if x < 0 then -(rnd A N true : Int) else (rnd A N false : Int)) = (rnd A N false : Int) from if_neg hx0]
  rw [decide_eq_false hx0] at hi ⊢
  simp only [Bool.false_eq_true, if_false] at hi ⊢
  have hr := rnd_of hi
  by_cases c : s * N <= 2 * A * (2 * A)
  ·rw [if_pos c] at hi hr
   rw [if_neg hx0, if_pos (decide_eq_true c), if_neg hx0, hr]
   exact ⟨rfl, by omega, hi⟩
  ·rw [if_neg c] at hi hr
   rw [if_neg hx0, if_neg (by simpa using c), if_neg hx0, hr]
   exact ⟨rfl, by omega, hi⟩
theorem s_cncref23_Near {x r n : Int} (hx : x.natAbs <= 33554432 * 4) (hr : 0 <= r /\ r <= 33554432 * 4) (hn : 0 < n /\ n <= 4611686018427387904) (hxn : x * x <= n) :
  Qnq [I x, I r, I n] = some [I (Qil x r n)] /\ (Qil x r n).natAbs <= 268435456 /\ IsRnd (x.natAbs * r.natAbs) n.natAbs (decide (x < 0)) (Qil x r n).natAbs :=
 a_cncref23_Near s_cncref23_most hx hr hn hxn

def IsUp (n k : Int) : Prop := 0 <= k /\ n <= k * k /\ (k = 0 \/ (k - 1) * (k - 1) < n)
theorem isUp_unique {n i j : Int} (hi : IsUp n i) (hj : IsUp n j) : i = j := by
 have key : ∀ {i j : Int}, IsUp n i -> IsUp n j -> ¬ i < j := by
  rintro i j ⟨h1, h2, -⟩ ⟨h4, h5, h6⟩ hlt
  rcases h6 with h6 | h6
  ·omega
  ·have := Int.mul_self_le_mul_self h1 (show i <= j - 1 by omega)
   omega
 have h1 := key hi hj
 have h2 := key hj hi
 omega
open Classical in
noncomputable def upR (n : Int) : Int := if h : ∃ j, IsUp n j then Classical.choose h else 0
theorem upR_of {n k : Int} (h : IsUp n k) : upR n = k := by
 have hx : ∃ j, IsUp n j := ⟨k, h⟩
 unfold upR
 rw [dif_pos hx]
 exact isUp_unique (Classical.choose_spec hx) h
theorem isUp_nat {n r : Nat} (h1 : r * r <= n) (h2 : n < (r + 1) * (r + 1)) : IsUp n (if r * r < n then r + 1 else r : Nat) := by
 unfold IsUp
 by_cases c : r * r < n
 ·rw [if_pos c]
  have e1 : ((r + 1 : Nat) : Int) * ((r + 1 : Nat) : Int) = (((r + 1) * (r + 1) : Nat) : Int) := (Int.natCast_mul _ _).symm
  have e2 : (((r + 1 : Nat) : Int) - 1) * (((r + 1 : Nat) : Int) - 1) = ((r * r : Nat) : Int) := by
   rw [show ((r + 1 : Nat) : Int) - 1 = (r : Int) by omega]; exact (Int.natCast_mul _ _).symm
  rw [e1, e2]
  generalize (r + 1) * (r + 1) = A at *
  generalize r * r = B at *
  exact ⟨by omega, by omega, .inr (by omega)⟩
 ·rw [if_neg c]
  have e1 : (r : Int) * (r : Int) = ((r * r : Nat) : Int) := (Int.natCast_mul _ _).symm
  rw [e1]
  refine ⟨by omega, by omega, ?_⟩
  rcases Nat.eq_zero_or_pos r with h | h
  ·left; omega
  ·right
   have e2 : ((r : Int) - 1) * ((r : Int) - 1) = (((r - 1) * (r - 1) : Nat) : Int) := by
    rw [show (r : Int) - 1 = ((r - 1 : Nat) : Int) by omega]; exact (Int.natCast_mul _ _).symm
   have := Nat.mul_self_lt_mul_self (show r - 1 < r by omega)
   rw [e2]; omega

theorem halfI (k : Nat) : ((2 ^ (k + 1) : Nat) : Int).fdiv (2 ^ min (Int.toNat 1) IntKind.i64.bits) = ((2 ^ k : Nat) : Int) := by
 have e : (2 ^ min (Int.toNat 1) IntKind.i64.bits : Int) = 2 := rfl
 rw [e, Int.fdiv_eq_ediv_of_nonneg _ (by omega), Nat.pow_succ]
 omega
theorem halfI0 : (1 : Int).fdiv (2 ^ min (Int.toNat 1) IntKind.i64.bits) = 0 := rfl
theorem st_root {n q b : Nat} {bit : Int} (hq : q + b <= 2147483648) (hb0 : 0 < b) (hb : ((b : Nat) : Int).fdiv (2 ^ min (Int.toNat 1) IntKind.i64.bits) = bit) :
  Qd9 [I n, I q, I b] = some (0, [I n, I (((if (q + b) * (q + b) <= n then q + b else q) : Nat) : Int), I bit]) := by
 have hs : (q + b) * (q + b) <= 2147483648 * 2147483648 := Nat.mul_le_mul hq hq
 have w1 : IntKind.i64.wrap ((q : Int) + (b : Int)) = ((q + b : Nat) : Int) := by rw [Qab (by omega)]; omega
 have w2 : IntKind.i64.wrap (((q + b : Nat) : Int) * ((q + b : Nat) : Int)) = (((q + b) * (q + b) : Nat) : Int) := by
  rw [show ((q + b : Nat) : Int) * ((q + b : Nat) : Int) = (((q + b) * (q + b) : Nat) : Int) from (Int.natCast_mul _ _).symm, Qab (by omega)]
 rw [st_cncref23_root_3_eq, w1, w2, hb]
 generalize (q + b) * (q + b) = s at *
 simp only [go_sem]
 rw [if_pos (by omega)]
 by_cases c : s <= n
 ·rw [if_pos (by omega), if_pos c]
 ·rw [if_neg (by omega), if_neg c]
theorem l_root {n : Nat} : ∀ (k q : Nat), q + 2 ^ (k + 1) <= 2147483648 -> q * q <= n -> n < (q + 2 ^ (k + 1)) * (q + 2 ^ (k + 1)) ->
  ∃ r : Nat, Qby Qd9 [I n, I q, I ((2 ^ k : Nat) : Int)] = some (1, [I r]) /\ r * r <= n /\ n < (r + 1) * (r + 1) /\ r < 2147483648
 | 0, q, hq, h1, h2 => by
  have hs := st_root (n := n) (q := q) (b := 2 ^ 0) (bit := 0) (by simp at hq ⊢; omega) (by simp) halfI0
  rw [Qbr hs]
  have hend : ∀ r : Nat, Qby Qd9 [I n, I r, I 0] = some (1, [I r]) := by
   intro r
   refine Qb1 ?_ (by simp)
   rw [st_cncref23_root_3_eq]
   simp only [go_sem]
   rw [if_neg (by omega)]
  simp only [Nat.zero_add, Nat.pow_one, Nat.pow_zero] at *
  by_cases h : (q + 1) * (q + 1) <= n
  ·rw [if_pos h, hend]
   exact ⟨_, rfl, h, h2, by omega⟩
  ·rw [if_neg h, hend]
   exact ⟨_, rfl, h1, by omega, by omega⟩
 | k + 1, q, hq, h1, h2 => by
  have e3 : 2 ^ (k + 1 + 1) = 2 ^ (k + 1) + 2 ^ (k + 1) := by rw [Nat.pow_succ 2 (k + 1)]; omega
  have hpos : 0 < 2 ^ (k + 1) := Nat.two_pow_pos _
  have hs := st_root (n := n) (q := q) (b := 2 ^ (k + 1)) (bit := ((2 ^ k : Nat) : Int)) (by omega) hpos (halfI k)
  rw [Qbr hs]
  by_cases h : (q + 2 ^ (k + 1)) * (q + 2 ^ (k + 1)) <= n
  ·rw [if_pos h]
   refine l_root k _ (by omega) h ?_
   rw [show q + 2 ^ (k + 1) + 2 ^ (k + 1) = q + 2 ^ (k + 1 + 1) by omega]
   exact h2
  ·rw [if_neg h]
   exact l_root k q (by omega) h1 (by omega)
theorem s_cncref23_root {n : Nat} (hn : n < 4611686018427387904) : ∃ r : Nat, m_cncref23_root [I n] = some [I r] /\ r * r <= n /\ n < (r + 1) * (r + 1) /\ r < 2147483648 := by
 obtain ⟨r, l1, l2, l3, l4⟩ := l_root (n := n) 30 0 (by decide) (by simp) (by rw [Nat.zero_add]; exact hn)
 refine ⟨r, ?_, l2, l3, l4⟩
 have l1' : Qby Qd9 [I n, AC.int IntKind.i64 0, AC.int IntKind.i64 1073741824] = some (1, [I r]) := l1
 show mf_cncref23_root (Qby Qd9) [I n] = _
 rw [mf_cncref23_root_eq, l1']
 simp only [go_sem]
def sqD (a b : Pt) : Int := dotP (subP a b) (subP a b)
theorem sqD_nn (a b : Pt) : 0 <= sqD a b := by
 unfold sqD dotP
 have h : ∀ u : Int, 0 <= u * u := fun u => by rw [<- Int.natAbs_mul_self]; omega
 have := h (subP a b).x
 have := h (subP a b).y
 have := h (subP a b).z
 omega
theorem sq_bd {x : Int} {A : Nat} (h : x.natAbs <= A) : 0 <= x * x /\ x * x <= ((A * A : Nat) : Int) := by
 have := Nat.mul_le_mul h h
 rw [<- Int.natAbs_mul_self]
 omega
theorem sqD_le {A : Nat} {a b : Pt} (ha : bd A a) (hb : bd A b) (hA : A <= 67108864) : sqD a b <= 54043195528445952 := by
 have h : ∀ x y : Int, x.natAbs <= A -> y.natAbs <= A -> (x - y) * (x - y) <= 18014398509481984 := by
  intro x y hx hy
  exact (sq_bd (x := x - y) (A := 134217728) (by omega)).2
 have h1 := h _ _ ha.1 hb.1
 have h2 := h _ _ ha.2.1 hb.2.1
 have h3 := h _ _ ha.2.2 hb.2.2
 unfold sqD dotP subP
 simp only
 omega
theorem s_SquareB {a b : Pt} (ha : bd 67108864 a) (hb : bd 67108864 b) : Qjx [I a.x, I a.y, I a.z, I b.x, I b.y, I b.z] = some [I (sqD a b)] := by
 have h : ∀ x y : Int, x.natAbs <= 67108864 -> y.natAbs <= 67108864 -> 0 <= (x - y) * (x - y) /\ (x - y) * (x - y) <= 18014398509481984 := by
  intro x y hx hy
  exact sq_bd (x := x - y) (A := 134217728) (by omega)
 have h1 := h _ _ ha.1 hb.1
 have h2 := h _ _ ha.2.1 hb.2.1
 have h3 := h _ _ ha.2.2 hb.2.2
 obtain ⟨a1, a2, a3⟩ := ha
 obtain ⟨b1, b2, b3⟩ := hb
 unfold Qjx
 rw [mf_cncref23_Square_eq, Qab (x := a.x - b.x) (by omega), Qab (x := a.y - b.y) (by omega), Qab (x := a.z - b.z) (by omega)]
 unfold sqD dotP subP
 simp only
 generalize (a.x - b.x) * (a.x - b.x) = u at *
 generalize (a.y - b.y) * (a.y - b.y) = v at *
 generalize (a.z - b.z) * (a.z - b.z) = w at *
 rw [Qab (x := u) (by omega), Qab (x := 0 + u) (by omega), Qab (x := v) (by omega), Qab (x := 0 + u + v) (by omega), Qab (x := w) (by omega), Qab (by omega), Int.zero_add]
noncomputable def lenP (a b : Pt) : Int := upR (sqD a b)
theorem a_cncref23_Length {MR MS : List AC -> Option (List AC)} {a b : Pt} {d : Nat} (hS : MS [I a.x, I a.y, I a.z, I b.x, I b.y, I b.z] = some [I d]) (hd : d < 4611686018427387904)
  (hR : ∃ r : Nat, MR [I d] = some [I r] /\ r * r <= d /\ d < (r + 1) * (r + 1) /\ r < 2147483648) : Qmy MR MS [I a.x, I a.y, I a.z, I b.x, I b.y, I b.z] = some [I (upR d)] /\ IsUp d (upR d) := by
 obtain ⟨r, h1, h2, h3, h4⟩ := hR
 have hu := isUp_nat h2 h3
 rw [upR_of hu]
 refine ⟨?_, hu⟩
 rw [mf_cncref23_Length_eq]
 have hrr : r * r <= 2147483648 * 2147483648 := Nat.mul_le_mul (by omega) (by omega)
 have e1 : (r : Int) * (r : Int) = ((r * r : Nat) : Int) := (Int.natCast_mul _ _).symm
 simp only [go_sem, hS, h1, e1]
 rw [Qab (x := ((r * r : Nat) : Int)) (by omega), Qab (by omega)]
 by_cases c : r * r < d
 ·rw [if_pos (by omega), if_pos c]; rfl
 ·rw [if_neg (by omega), if_neg c]
theorem s_cncref23_Length {a b : Pt} (ha : bd 67108864 a) (hb : bd 67108864 b) : m_cncref23_Length [I a.x, I a.y, I a.z, I b.x, I b.y, I b.z] = some [I (lenP a b)] /\ IsUp (sqD a b) (lenP a b) := by
 have h0 := sqD_nn a b
 have h1 := sqD_le ha hb (Nat.le_refl _)
 obtain ⟨d, hd⟩ := Int.eq_ofNat_of_zero_le h0
 have hs := s_SquareB ha hb
 unfold lenP
 rw [hd] at hs
 rw [hd]
 exact a_cncref23_Length hs (by omega) (s_cncref23_root (by omega))
theorem len_bd {a b : Pt} (ha : bd 67108864 a) (hb : bd 67108864 b) : 0 <= lenP a b /\ lenP a b <= 268435456 := by
 obtain ⟨-, h1, h2, h3⟩ := s_cncref23_Length ha hb
 have h4 := sqD_le ha hb (Nat.le_refl _)
 refine ⟨h1, ?_⟩
 rcases h3 with h3 | h3
 ·omega
 ·by_cases c : lenP a b <= 268435456
  ·exact c
  ·have := Int.mul_self_le_mul_self (a := 268435456) (b := lenP a b - 1) (by omega) (by omega)
   omega
def IsMid (n k : Int) : Prop := 0 <= k /\ n <= k * (k + 1) /\ (k = 0 \/ (k - 1) * k < n)
end Go.Bm
/- the reference's corners -/
set_option maxRecDepth 100000
namespace Go.Bm

theorem wrap_nat {x : Int} {A : Nat} (h : x.natAbs <= A) (hA : A <= 9223372036854775807) : IntKind.i64.wrap x = x := Qab (by omega)
theorem sub_nat {x y : Int} {A B : Nat} (hx : x.natAbs <= A) (hy : y.natAbs <= B) : (x - y).natAbs <= A + B := by omega
theorem add_nat {x y : Int} {A B : Nat} (hx : x.natAbs <= A) (hy : y.natAbs <= B) : (x + y).natAbs <= A + B := by omega
theorem betw_bd {c u x : Int} {A : Nat} (hc : c.natAbs <= A) (ha : (c + x).natAbs <= A) (h : (0 <= x -> 0 <= u /\ u <= x) /\ (x <= 0 -> x <= u /\ u <= 0)) : (c + u).natAbs <= A := by
 rcases Int.le_total 0 x with g | g
 ·have := h.1 g; omega
 ·have := h.2 g; omega
theorem sqD_eq (a b : Pt) : sqD a b = (a.x - b.x) * (a.x - b.x) + (a.y - b.y) * (a.y - b.y) + (a.z - b.z) * (a.z - b.z) := rfl
theorem sq_nn (u : Int) : 0 <= u * u := by rw [<- Int.natAbs_mul_self]; omega
theorem sqD_zero {a b : Pt} : sqD a b = 0 ↔ a = b := by
 rw [sqD_eq]
 obtain ⟨a1, a2, a3⟩ := a
 obtain ⟨b1, b2, b3⟩ := b
 have h1 := sq_nn (a1 - b1)
 have h2 := sq_nn (a2 - b2)
 have h3 := sq_nn (a3 - b3)
 constructor
 ·intro h
  simp only at h
  have e1 : (a1 - b1) * (a1 - b1) = 0 := by omega
  have e2 : (a2 - b2) * (a2 - b2) = 0 := by omega
  have e3 : (a3 - b3) * (a3 - b3) = 0 := by omega
  have z : ∀ u : Int, u * u = 0 -> u = 0 := fun u hu => by
   rcases Int.mul_eq_zero.1 hu with h | h <;> exact h
  have := z _ e1
  have := z _ e2
  have := z _ e3
  rw [Pt.mk.injEq]; omega
 ·intro h
  injection h with h4 h5 h6
  subst h4 h5 h6
  simp
theorem sqD_comp (a b : Pt) : (a.x - b.x) * (a.x - b.x) <= sqD a b /\ (a.y - b.y) * (a.y - b.y) <= sqD a b /\ (a.z - b.z) * (a.z - b.z) <= sqD a b := by
 rw [sqD_eq]
 have h1 := sq_nn (a.x - b.x)
 have h2 := sq_nn (a.y - b.y)
 have h3 := sq_nn (a.z - b.z)
 omega

noncomputable def towP (c a : Pt) (d : Int) : Pt := ⟨c.x + Qil (a.x - c.x) d (sqD a c), c.y + Qil (a.y - c.y) d (sqD a c), c.z + Qil (a.z - c.z) d (sqD a c)⟩
abbrev B24 : Nat := 16777216
theorem near_betw {x r n : Int} (hx : x.natAbs <= 33554432 * 4) (hr : 0 <= r /\ r <= 33554432 * 4) (hn : 0 < n /\ n <= 4611686018427387904) (hxn : x * x <= n) (hrn : r * r <= n) :
  (0 <= x -> 0 <= Qil x r n /\ Qil x r n <= x) /\ (x <= 0 -> x <= Qil x r n /\ Qil x r n <= 0) := by
 obtain ⟨-, h2, h3⟩ := s_cncref23_Near hx hr hn hxn
 have h4 := isRnd_le' (by omega) (by
  have : ((r.natAbs * r.natAbs : Nat) : Int) = r * r := Int.natAbs_mul_self
  omega) h3
 unfold Qil at *
 constructor
 ·intro h
  rw [if_neg (by omega)] at h4 ⊢
  omega
 ·intro h
  by_cases c : x < 0
  ·rw [if_pos c] at h4 ⊢
   omega
  ·rw [if_neg c] at h4 ⊢
   omega
theorem sqD_le24 {a b : Pt} (ha : bd B24 a) (hb : bd B24 b) : sqD a b <= 3377699720527872 := by
 have h : ∀ x y : Int, x.natAbs <= B24 -> y.natAbs <= B24 -> (x - y) * (x - y) <= 1125899906842624 := by
  intro x y hx hy
  unfold B24 at *
  exact (sq_bd (x := x - y) (A := 33554432) (by omega)).2
 have h1 := h _ _ ha.1 hb.1
 have h2 := h _ _ ha.2.1 hb.2.1
 have h3 := h _ _ ha.2.2 hb.2.2
 rw [sqD_eq]
 omega
theorem tow_betw {c a : Pt} {d : Int} (hc : bd B24 c) (ha : bd B24 a) (hne : a ≠ c) (hd : 0 <= d /\ d < lenP a c) : bd B24 (towP c a d) := by
 have h0 : sqD a c ≠ 0 := fun h => hne (sqD_zero.1 h)
 have h1 := sqD_nn a c
 have h2 := sqD_le (Qbv ha (by decide)) (Qbv hc (by decide)) (show 67108864 <= 67108864 by omega)
 obtain ⟨-, g1, g2, g3⟩ := s_cncref23_Length (Qbv ha (show B24 <= 67108864 by decide)) (Qbv hc (show B24 <= 67108864 by decide))
 have hl := len_bd (Qbv ha (show B24 <= 67108864 by decide)) (Qbv hc (show B24 <= 67108864 by decide))
 have hdd : d * d <= sqD a c := by
  have := Int.mul_self_le_mul_self hd.1 (show d <= lenP a c - 1 by omega)
  omega
 have hd2 : d <= 33554432 * 4 := by
  by_cases c2 : d <= 33554432 * 4
  ·exact c2
  ·exfalso
   have h3 := Int.mul_self_le_mul_self (a := 33554432 * 4 + 1) (b := d) (by omega) (by omega)
   have h4 := sqD_le24 ha hc
   omega
 obtain ⟨q1, q2, q3⟩ := sqD_comp a c
 have hn : 0 < sqD a c /\ sqD a c <= 4611686018427387904 := ⟨Int.lt_iff_le_and_ne.2 ⟨h1, fun h => h0 h.symm⟩, Int.le_trans h2 (by decide)⟩
 have hd3 : 0 <= d /\ d <= 33554432 * 4 := ⟨hd.1, hd2⟩
 have k1 := near_betw (x := a.x - c.x) (r := d) (n := sqD a c) (Nat.le_trans (sub_nat ha.1 hc.1) (by decide)) hd3 hn q1 hdd
 have k2 := near_betw (x := a.y - c.y) (r := d) (n := sqD a c) (Nat.le_trans (sub_nat ha.2.1 hc.2.1) (by decide)) hd3 hn q2 hdd
 have k3 := near_betw (x := a.z - c.z) (r := d) (n := sqD a c) (Nat.le_trans (sub_nat ha.2.2 hc.2.2) (by decide)) hd3 hn q3 hdd
 have e : ∀ x y : Int, x + (y - x) = y := fun x y => by omega
 exact ⟨betw_bd hc.1 (by rw [e]; exact ha.1) k1, betw_bd hc.2.1 (by rw [e]; exact ha.2.1) k2, betw_bd hc.2.2 (by rw [e]; exact ha.2.2) k3⟩
def bendV (p c q : Pt) : Pt := ⟨p.x - c.x + (q.x - c.x), p.y - c.y + (q.y - c.y), p.z - c.z + (q.z - c.z)⟩
def bendP (p c q : Pt) : Int := dotP (bendV p c q) (bendV p c q)
theorem bend_bd {p c q : Pt} (hp : bd B24 p) (hc : bd B24 c) (hq : bd B24 q) : bd 67108864 (bendV p c q) := by
 unfold bd B24 bendV at *
 simp only
 omega
theorem s_Minus24 {a b : Pt} (ha : bd B24 a) (hb : bd B24 b) : Qlm [I a.x, I a.y, I a.z, I b.x, I b.y, I b.z] = some (ptR (subP a b)) := s_cncref24_Minus (Qbv ha (by decide)) (Qbv hb (by decide))
theorem s_cncref24_Add {a b : Pt} (ha : bd 67108864 a) (hb : bd 67108864 b) : m_cncref24_Add [I a.x, I a.y, I a.z, I b.x, I b.y, I b.z] = some (ptR ⟨a.x + b.x, a.y + b.y, a.z + b.z⟩) := by
 unfold m_cncref24_Add
 unfold bd at *
 rw [mf_cncref24_Add_eq, Qab (x := a.x + b.x) (by omega), Qab (x := a.y + b.y) (by omega), Qab (x := a.z + b.z) (by omega)]
theorem a_cncref24_Bend {MS MA MM : List AC -> Option (List AC)} {p c q : Pt} (h1 : MM [I p.x, I p.y, I p.z, I c.x, I c.y, I c.z] = some (ptR (subP p c))) (h2 : MM [I q.x, I q.y, I q.z, I c.x, I c.y, I c.z] = some (ptR (subP q c)))
  (h3 : MA [I (subP p c).x, I (subP p c).y, I (subP p c).z, I (subP q c).x, I (subP q c).y, I (subP q c).z] = some (ptR (bendV p c q))) (h4 : MS [I (bendV p c q).x, I (bendV p c q).y, I (bendV p c q).z, I 0, I 0, I 0] = some [I (bendP p c q)]) :
  mf_cncref24_Bend MS MA MM [I p.x, I p.y, I p.z, I c.x, I c.y, I c.z, I q.x, I q.y, I q.z] = some [I (bendP p c q)] := by
 rw [mf_cncref24_Bend_eq]
 simp only [go_sem, h1, h2, h3, h4]
theorem s_cncref24_Bend {p c q : Pt} (hp : bd B24 p) (hc : bd B24 c) (hq : bd B24 q) : m_cncref24_Bend [I p.x, I p.y, I p.z, I c.x, I c.y, I c.z, I q.x, I q.y, I q.z] = some [I (bendP p c q)] := by
 refine a_cncref24_Bend (s_Minus24 hp hc) (s_Minus24 hq hc) (s_cncref24_Add (Qbv (sub_bd hp hc) (by decide)) (Qbv (sub_bd hq hc) (by decide))) ?_
 have h := s_SquareB (a := bendV p c q) (b := ⟨0, 0, 0⟩) (bend_bd hp hc hq) (by unfold bd; simp)
 have e : sqD (bendV p c q) ⟨0, 0, 0⟩ = bendP p c q := by unfold sqD subP bendP; simp
 rw [e] at h
 exact h

def permP (a c b : Pt) (tol d : Int) : Prop := d <= mn (lenP a c) (lenP c b) - 2 /\ bendP (towP c a d) c (towP c b d) <= 16 * tol * tol
theorem mn_le (x y : Int) : mn x y <= x /\ mn x y <= y := by unfold mn; split <;> omega
theorem sqD_comm (a b : Pt) : sqD a b = sqD b a := by
 unfold sqD; exact dot_neg a b
theorem lenP_comm (a b : Pt) : lenP a b = lenP b a := by unfold lenP; rw [sqD_comm]
open Classical in
noncomputable def reachL (P : Int -> Prop) : Nat -> Int -> Int
 | 0, d => if P (d + 1) then d + 1 else d
 | k + 1, d => reachL P k (if P (d + ((2 ^ (k + 1) : Nat) : Int)) then d + ((2 ^ (k + 1) : Nat) : Int) else d)
open Classical in
theorem reachL_bd {P : Int -> Prop} : ∀ (k : Nat) (d : Int), d <= reachL P k d /\ reachL P k d < d + ((2 ^ (k + 1) : Nat) : Int) /\ (reachL P k d = d \/ P (reachL P k d))
 | 0, d => by
  have e : ((2 ^ (0 + 1) : Nat) : Int) = 2 := rfl
  rw [e]
  unfold reachL
  split
  ·rename_i h; exact ⟨by omega, by omega, .inr h⟩
  ·exact ⟨by omega, by omega, .inl rfl⟩
 | k + 1, d => by
  unfold reachL
  have hp : 0 < 2 ^ (k + 1) := Nat.two_pow_pos _
  have e3 : 2 ^ (k + 1 + 1) = 2 ^ (k + 1) + 2 ^ (k + 1) := by rw [Nat.pow_succ 2 (k + 1)]; omega
  rw [e3]
  have hif : (if P (d + ((2 ^ (k + 1) : Nat) : Int)) then d + ((2 ^ (k + 1) : Nat) : Int) else d) = d \/ ((if P (d + ((2 ^ (k + 1) : Nat) : Int)) then d + ((2 ^ (k + 1) : Nat) : Int) else d) = d + ((2 ^ (k + 1) : Nat) : Int) /\ P (if P (d + ((2 ^ (k + 1) : Nat) : Int)) then d + ((2 ^ (k + 1) : Nat) : Int) else d)) := by
   split
   ·rename_i h; exact .inr ⟨rfl, h⟩
   ·exact .inl rfl
  generalize (if P (d + ((2 ^ (k + 1) : Nat) : Int)) then d + ((2 ^ (k + 1) : Nat) : Int) else d) = d' at *
  obtain ⟨h1, h2, h3⟩ := reachL_bd (P := P) k d'
  generalize reachL P k d' = x at *
  generalize 2 ^ (k + 1) = m at *
  rcases hif with hif | ⟨hif, hP⟩
  ·subst hif
   exact ⟨by omega, by omega, h3⟩
  ·refine ⟨by omega, by omega, .inr ?_⟩
   rcases h3 with h3 | h3
   ·rw [h3]; exact hP
   ·exact h3
open Classical in
noncomputable def Qj9 (a c b : Pt) (tol : Int) : Int := if a = c \/ b = c then 0 else if reachL (permP a c b tol) 24 0 < 16 then 0 else reachL (permP a c b tol) 24 0
theorem reach_spec {a c b : Pt} {tol : Int} (h : Qj9 a c b tol ≠ 0) : a ≠ c /\ b ≠ c /\ 16 <= Qj9 a c b tol /\ Qj9 a c b tol < 33554432 /\ permP a c b tol (Qj9 a c b tol) := by
 unfold Qj9 at *
 split at h
 ·exact absurd rfl h
 ·rename_i h1
  rw [if_neg h1]
  split at h
  ·exact absurd rfl h
  ·rename_i h2
   rw [if_neg h2]
   obtain ⟨h3, h4, h5⟩ := reachL_bd (P := permP a c b tol) 24 0
   have e : ((2 ^ (24 + 1) : Nat) : Int) = 33554432 := rfl
   rw [e] at h4
   refine ⟨fun h => h1 (.inl h), fun h => h1 (.inr h), by omega, by omega, ?_⟩
   rcases h5 with h5 | h5
   ·omega
   ·exact h5
theorem Qi5 {a b : Pt} : a = b ↔ a.x = b.x /\ a.y = b.y /\ a.z = b.z := by
 obtain ⟨a1, a2, a3⟩ := a
 obtain ⟨b1, b2, b3⟩ := b
 simp
def pcsN (bend : Int) : Nat -> Int -> Int
 | 0, n => n
 | k + 1, n => if n < 64 /\ bend > 16 * n * n * n * n * 4 * 4 then pcsN bend k (n * 2) else n
def isPow (n : Int) : Prop := n = 2 \/ n = 4 \/ n = 8 \/ n = 16 \/ n = 32 \/ n = 64
theorem l_Pieces {M : List AC -> Option (List AC)} {p c q : Pt} (hM : M [I p.x, I p.y, I p.z, I c.x, I c.y, I c.z, I q.x, I q.y, I q.z] = some [I (bendP p c q)]) :
  ∀ (k : Nat) (n : Int), isPow n -> 64 <= n * 2 ^ k -> Qby (Qe4 M) [I n, I p.x, I p.y, I p.z, I c.x, I c.y, I c.z, I q.x, I q.y, I q.z] = some (1, [I (pcsN (bendP p c q) k n)]) /\ isPow (pcsN (bendP p c q) k n) := by
 have hst : ∀ n : Int, isPow n -> Qe4 M [I n, I p.x, I p.y, I p.z, I c.x, I c.y, I c.z, I q.x, I q.y, I q.z] = if n < 64 /\ bendP p c q > 16 * n * n * n * n * 4 * 4 then some (0, [I (n * 2), I p.x, I p.y, I p.z, I c.x, I c.y, I c.z, I q.x, I q.y, I q.z]) else some (1, [I n]) := by
  intro n hn
  rw [st_cncref24_Pieces_2_eq]
  simp only [go_sem, hM]
  have hw : IntKind.i64.wrap (IntKind.i64.wrap (IntKind.i64.wrap (IntKind.i64.wrap (IntKind.i64.wrap (IntKind.i64.wrap (16 * n) * n) * n) * n) * 4) * 4) = 16 * n * n * n * n * 4 * 4 /\ IntKind.i64.wrap (n * 2) = n * 2 := by
   rcases hn with rfl | rfl | rfl | rfl | rfl | rfl <;> decide
  rw [hw.1, hw.2]
  by_cases h1 : n < 64
  ·rw [if_pos h1]
   by_cases h2 : bendP p c q > 16 * n * n * n * n * 4 * 4
   ·rw [if_pos h2, if_pos ⟨h1, h2⟩]
   ·rw [if_neg h2, if_neg (fun h => h2 h.2)]
  ·rw [if_neg h1, if_neg (fun h => h1 h.1)]
 intro k
 induction k with
 | zero =>
  intro n hn h64
  have : n = 64 := by rcases hn with rfl | rfl | rfl | rfl | rfl | rfl <;> simp at h64 ⊢
  subst this
  refine ⟨Qb1 ?_ (by simp), hn⟩
  rw [hst _ hn, if_neg (by omega)]; rfl
 | succ k ih =>
  intro n hn h64
  unfold pcsN
  by_cases h : n < 64 /\ bendP p c q > 16 * n * n * n * n * 4 * 4
  ·rw [if_pos h]
   have hs := hst n hn
   rw [if_pos h] at hs
   rw [Qbr hs]
   refine ih (n * 2) ?_ ?_
   ·rcases hn with rfl | rfl | rfl | rfl | rfl | rfl <;> simp [isPow] at h ⊢
   ·rw [Int.pow_succ] at h64
    rw [Int.mul_assoc, Int.mul_comm 2]; exact h64
  ·rw [if_neg h]
   refine ⟨Qb1 ?_ (by simp), hn⟩
   rw [hst _ hn, if_neg h]
def piecesP (p c q : Pt) : Int := pcsN (bendP p c q) 5 2
theorem s_cncref24_Pieces {p c q : Pt} (hp : bd B24 p) (hc : bd B24 c) (hq : bd B24 q) : m_cncref24_Pieces [I p.x, I p.y, I p.z, I c.x, I c.y, I c.z, I q.x, I q.y, I q.z] = some [I (piecesP p c q)] /\ isPow (piecesP p c q) := by
 obtain ⟨h1, h2⟩ := l_Pieces (s_cncref24_Bend hp hc hq) 5 2 (.inl rfl) (by decide)
 refine ⟨?_, h2⟩
 show mf_cncref24_Pieces _ (Qby (Qe4 _)) _ = _
 generalize m_cncref24_Bend = M at *
 rw [mf_cncref24_Pieces_eq]
 simp only [go_sem, h1]
 rfl

def mixI (n i p c q : Int) : Int := c + near ((n - i) * (n - i) * (p - c) + i * i * (q - c)) (n * n)
def mixP (n i : Int) (p c q : Pt) : Pt := ⟨mixI n i p.x c.x q.x, mixI n i p.y c.y q.y, mixI n i p.z c.z q.z⟩
theorem near_mono {a b n : Int} (hn : 0 < n) (h : a <= b) : near a n <= near b n := by
 unfold near
 exact Int.ediv_le_ediv (by omega) (by omega)
theorem near_mul {k n : Int} (hn : 0 < n) : near (k * n) n = k := near_of hn (by rw [show k * (2 * n) = 2 * (k * n) by grind]; omega) (by rw [show (k + 1) * (2 * n) = 2 * (k * n) + 2 * n by grind]; omega)
theorem mix_bd {n i p c q : Int} {A : Nat} (hn : 0 < n) (hi : 0 <= i /\ i <= n) (hp : p.natAbs <= A) (hc : c.natAbs <= A) (hq : q.natAbs <= A) : (mixI n i p c q).natAbs <= A := by
 have hnn : 0 < n * n := Int.mul_pos hn hn
 have h1 : 0 <= (n - i) * (n - i) := sq_nn _
 have h2 : 0 <= i * i := sq_nn _
 have h3 : (n - i) * (n - i) + i * i <= n * n := by
  have : n * n - ((n - i) * (n - i) + i * i) = 2 * (i * (n - i)) := by grind
  have : 0 <= i * (n - i) := Int.mul_nonneg hi.1 (by omega)
  omega
 have key : ∀ s : Int, (s = 1 \/ s = -1) -> s * ((n - i) * (n - i) * (p - c) + i * i * (q - c)) <= (A - s * c) * (n * n) := by
  intro s hs
  have hp' : s * p <= A := by rcases hs with rfl | rfl <;> omega
  have hc' : s * c <= A := by rcases hs with rfl | rfl <;> omega
  have hq' : s * q <= A := by rcases hs with rfl | rfl <;> omega
  have g1 : (n - i) * (n - i) * (s * p - s * c) <= (n - i) * (n - i) * (A - s * c) := Int.mul_le_mul_of_nonneg_left (by omega) h1
  have g2 : i * i * (s * q - s * c) <= i * i * (A - s * c) := Int.mul_le_mul_of_nonneg_left (by omega) h2
  have g3 : ((n - i) * (n - i) + i * i) * (A - s * c) <= n * n * (A - s * c) := Int.mul_le_mul_of_nonneg_right h3 (by omega)
  have e1 : s * ((n - i) * (n - i) * (p - c) + i * i * (q - c)) = (n - i) * (n - i) * (s * p - s * c) + i * i * (s * q - s * c) := by grind
  have e2 : ((n - i) * (n - i) + i * i) * (A - s * c) = (n - i) * (n - i) * (A - s * c) + i * i * (A - s * c) := Int.add_mul ..
  have e3 : (A - s * c) * (n * n) = n * n * (A - s * c) := Int.mul_comm ..
  omega
 unfold mixI
 have k1 := near_mono hnn (key 1 (.inl rfl) |> fun h => (by rw [Int.one_mul, Int.one_mul] at h; exact h))
 rw [near_mul hnn] at k1
 have k2 := key (-1) (.inr rfl)
 have k3 : (-(A : Int) - c) * (n * n) <= (n - i) * (n - i) * (p - c) + i * i * (q - c) := by
  have e : (-(A : Int) - c) * (n * n) = -((A - -1 * c) * (n * n)) := by grind
  omega
 have k4 := near_mono hnn k3
 rw [near_mul hnn] at k4
 omega
noncomputable def cornerP (a c b : Pt) (tol : Int) : List Pt :=
 if Qj9 a c b tol = 0 then [c]
 else (List.range ((piecesP (towP c a (Qj9 a c b tol)) c (towP c b (Qj9 a c b tol))).toNat + 1)).map fun (i : Nat) => mixP (piecesP (towP c a (Qj9 a c b tol)) c (towP c b (Qj9 a c b tol))) i (towP c a (Qj9 a c b tol)) c (towP c b (Qj9 a c b tol))
theorem corner_bd {a c b : Pt} {tol : Int} (ha : bd B24 a) (hc : bd B24 c) (hb : bd B24 b) : (∀ p ∈ cornerP a c b tol, bd B24 p) /\ 1 <= (cornerP a c b tol).length /\ (cornerP a c b tol).length <= 65 := by
 unfold cornerP
 by_cases h : Qj9 a c b tol = 0
 ·rw [if_pos h]
  simp; exact hc
 ·rw [if_neg h]
  obtain ⟨h1, h2, h3, h4, h5, -⟩ := reach_spec h
  obtain ⟨m1, m2⟩ := mn_le (lenP a c) (lenP c b)
  generalize Qj9 a c b tol = d at *
  have k1 : bd B24 (towP c a d) := tow_betw hc ha h1 (by omega)
  have k2 : bd B24 (towP c b d) := tow_betw hc hb h2 (by rw [lenP_comm b c]; omega)
  have k3 := (s_cncref24_Pieces k1 hc k2).2
  generalize piecesP (towP c a d) c (towP c b d) = n at *
  have hn : 2 <= n /\ n <= 64 := by rcases k3 with rfl | rfl | rfl | rfl | rfl | rfl <;> omega
  refine ⟨?_, by simp, by simp; omega⟩
  intro p hp
  simp only [List.mem_map, List.mem_range] at hp
  obtain ⟨i, hi, rfl⟩ := hp
  exact ⟨mix_bd (by omega) (by omega) k1.1 hc.1 k2.1, mix_bd (by omega) (by omega) k1.2.1 hc.2.1 k2.2.1, mix_bd (by omega) (by omega) k1.2.2 hc.2.2 k2.2.2⟩
end Go.Bm
/- small points; numbers modulo n -/
set_option maxRecDepth 100000
namespace Go.Bm
theorem s_cncmill_Mod {v n : Int} (_ : i64 v) (hn : 0 < n /\ n <= 4611686018427387904) : Qe6 [I v, I n] = some [I (v % n)] := by
 unfold Qe6
 rw [mf_cncmill_Mod_eq, Qbs (by omega), Qbs (by omega)]
 have h1 : -n < v.tmod n /\ v.tmod n < n := by
  have a1 := Int.tmod_lt_of_pos v hn.1
  have a2 := Int.lt_tmod_of_pos v hn.1
  omega
 rw [Qab (by omega)]
 have h2 : (v.tmod n + n).tmod n = v % n := by
  rw [Int.tmod_eq_emod_of_nonneg (by omega), Int.add_emod_right]
  have h3 := Int.tmod_add_mul_tdiv v n
  have h4 : v % n = (v.tmod n + n * v.tdiv n) % n := by rw [h3]
  rw [h4, Int.add_mul_emod_self_left]
 rw [h2]
end Go.Bm
/- what the makers of items give: numbers of a source, turned vectors -/
set_option maxRecDepth 100000
namespace Go.Bm

def Src (l : List (List AC)) : Prop := l.length <= 9223372036854775807 /\ ∀ c ∈ l, i64 (Qaq (nth .dead c 0))
theorem nth_mem' {l : List (List AC)} {i : Nat} (h : i < l.length) : nth [] l i ∈ l := by rw [nth_get [] l i h]; exact List.getElem_mem h
theorem a_Next {M : List AC -> Option (List AC)} (hM : ∀ v n : Int, i64 v -> 0 < n /\ n <= 4611686018427387904 -> M [I v, I n] = some [I (v % n)]) {l : List (List AC)} (hl : Src l) {k : Nat} {n : Int} (hn : 0 < n /\ n <= 4611686018427387904) :
  ∃ (v : Int) (k' : Nat), Qip M [I n, .view Qac l, I k] = some [I v, .view Qac l, I k'] /\ 0 <= v /\ v < n /\ k <= k' /\ (k < l.length -> k' = k + 1) /\ (l.length <= k -> k' = k) := by
 have hl1 := hl.1
 rw [mf_cncmill_Source_Next_eq]
 by_cases h : k < l.length
 ·have h1 := hM _ n (hl.2 _ (nth_mem' h)) hn
  simp only [go_sem, Int.toNat_natCast, h1]
  rw [if_neg (by omega), if_pos (by omega), Qab (by omega)]
  exact ⟨_, k + 1, rfl, Int.emod_nonneg _ (by omega), Int.emod_lt_of_pos _ hn.1, by omega, fun _ => rfl, by omega⟩
 ·simp only [go_sem]
  rw [if_pos (by omega)]
  exact ⟨0, k, rfl, by omega, hn.1, by omega, by omega, fun _ => rfl⟩
theorem s_Next {l : List (List AC)} (hl : Src l) (k : Nat) {n : Int} (hn : 0 < n /\ n <= 4611686018427387904) :
  ∃ (v : Int) (k' : Nat), Qao [I n, .view Qac l, I k] = some [I v, .view Qac l, I k'] /\ 0 <= v /\ v < n /\ k <= k' /\ (k < l.length -> k' = k + 1) /\ (l.length <= k -> k' = k) :=
 a_Next (fun _ _ hv hn => s_cncmill_Mod hv hn) hl hn
theorem s_Left (l : List (List AC)) (k : Nat) : Qcm [.view Qac l, I k] = some [B (decide (k < l.length)), .view Qac l, I k] := by
 unfold Qcm
 rw [mf_cncmill_Source_Left_eq]
 congr 3
 simp
theorem s_From (l : List (List AC)) : Qc8 [.view Qac l] = some [.view Qac l, I 0] := by
 unfold Qc8
 rw [mf_cncmill_From_eq]

def rotU (r : Int) (k : Int) : Int := if k % 4 = 0 then r else if k % 4 = 2 then -r else 0
def rotW (r : Int) (k : Int) : Int := if k % 4 = 1 then r else if k % 4 = 3 then -r else 0
theorem s_turned {r k : Int} (hr : 0 <= r /\ r <= 1000000) (hk : 0 <= k /\ k <= 1000) : Qfw [I r, I k] = some [I (rotU r k), I (rotW r k)] := by
 unfold Qfw
 rw [mf_cncmill_turned_eq, Qab (by omega), Int.tmod_eq_emod_of_nonneg hk.1]
 have hc : k % 4 = 0 \/ k % 4 = 1 \/ k % 4 = 2 \/ k % 4 = 3 := by omega
 unfold rotU rotW
 rcases hc with h | h | h | h <;> rw [h] <;> simp [nth, Qaq]
end Go.Bm
