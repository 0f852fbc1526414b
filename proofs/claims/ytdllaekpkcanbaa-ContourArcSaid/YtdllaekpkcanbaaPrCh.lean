/- laid together -/
import Derived.Test.YtdllaekpkcanbaaPrM
import Derived.Test.YtdllaekpkcanbaaPrI3
set_option linter.unusedVariables false
set_option linter.unusedSimpArgs false
/- the reference's products of two words, roots, lengths, and x r / sqrt n, rounded -/
set_option maxRecDepth 100000
namespace Go.Bm

theorem and32 (v : Nat) (h : v < w64) : IntKind.u64.wrap (((BitVec.ofInt IntKind.u64.bits (v : Int) &&& BitVec.ofInt IntKind.u64.bits 4294967295).toNat : Nat) : Int) = ((v % 4294967296 : Nat) : Int) := by
 rw [w64_eq] at h
 have e : (BitVec.ofInt IntKind.u64.bits (v : Int) &&& BitVec.ofInt IntKind.u64.bits 4294967295).toNat = v % 4294967296 := by
  rw [BitVec.toNat_and]
  have e1 : (BitVec.ofInt IntKind.u64.bits (v : Int)).toNat = v := by
   simp only [IntKind.bits, BitVec.toNat_ofInt]
   omega
  have e2 : (BitVec.ofInt IntKind.u64.bits 4294967295).toNat = 2 ^ 32 - 1 := by
   simp only [IntKind.bits, BitVec.toNat_ofInt]
   rfl
  rw [e1, e2, Nat.and_two_pow_sub_one_eq_mod]
 rw [e, uwrap_id (by omega)]
theorem shr32 (v : Nat) : (v : Int).fdiv (2 ^ min (Int.toNat 32) IntKind.u64.bits) = ((v / 4294967296 : Nat) : Int) := by
 have e : (2 ^ min (Int.toNat 32) IntKind.u64.bits : Int) = 4294967296 := rfl
 rw [e, Int.fdiv_eq_ediv_of_nonneg _ (by omega)]
 omega
theorem or32 (u v : Nat) (hu : u < 4294967296) (hv : v < 4294967296) : IntKind.u64.wrap (((BitVec.ofInt IntKind.u64.bits ((u * 4294967296 : Nat) : Int) ||| BitVec.ofInt IntKind.u64.bits (v : Int)).toNat : Nat) : Int) = ((u * 4294967296 + v : Nat) : Int) := by
 have e : (BitVec.ofInt IntKind.u64.bits ((u * 4294967296 : Nat) : Int) ||| BitVec.ofInt IntKind.u64.bits (v : Int)).toNat = u * 4294967296 + v := by
  rw [BitVec.toNat_or]
  have e1 : ∀ v : Nat, v < 18446744073709551616 -> (BitVec.ofInt IntKind.u64.bits (v : Int)).toNat = v := by
   intro v hv
   simp only [IntKind.bits, BitVec.toNat_ofInt]
   omega
  rw [e1 _ (by omega), e1 _ (by omega)]
  have := Nat.two_pow_add_eq_or_of_lt (i := 32) (b := v) (by omega) u
  rw [show (2 : Nat) ^ 32 = 4294967296 from rfl, Nat.mul_comm] at this
  exact this.symm
 rw [e, uwrap_id (by omega)]
theorem shl32 (v : Nat) (h : v < w64) : IntKind.u64.wrap ((v : Int) * 2 ^ min (Int.toNat 32) IntKind.u64.bits) = ((v % 4294967296 * 4294967296 : Nat) : Int) := by
 have e : (2 ^ min (Int.toNat 32) IntKind.u64.bits : Int) = 4294967296 := rfl
 rw [w64_eq] at h
 rw [e, uwrap_mod]
 omega
theorem mul32 {a b : Nat} (ha : a < 4294967296) (hb : b < 4294967296) : a * b <= 18446744065119617025 := by
 have := Nat.mul_le_mul (show a <= 4294967295 by omega) (show b <= 4294967295 by omega)
 omega
theorem s_cncref23_product {x y : Nat} (hx : x < w64) (hy : y < w64) : ∃ hi lo : Nat, m_cncref23_product [U x, U y] = some [U hi, U lo] /\ hi * w64 + lo = x * y /\ lo < w64 := by
 unfold m_cncref23_product
 rw [mf_cncref23_product_eq, and32 x hx, and32 y hy, shr32 x, shr32 y]
 rw [w64_eq] at hx hy
 have ex : x = x / 4294967296 * 4294967296 + x % 4294967296 := by omega
 have ey : y = y / 4294967296 * 4294967296 + y % 4294967296 := by omega
 have hx1 : x / 4294967296 < 4294967296 := by omega
 have hx0 : x % 4294967296 < 4294967296 := by omega
 have hy1 : y / 4294967296 < 4294967296 := by omega
 have hy0 : y % 4294967296 < 4294967296 := by omega
 generalize x / 4294967296 = a at *
 generalize x % 4294967296 = b at *
 generalize y / 4294967296 = c at *
 generalize y % 4294967296 = d at *
 have exy : x * y = (a * c) * 18446744073709551616 + (a * d) * 4294967296 + (b * c) * 4294967296 + b * d := by
  rw [ex, ey]
  have : (18446744073709551616 : Nat) = 4294967296 * 4294967296 := rfl
  rw [this]
  generalize (4294967296 : Nat) = H
  grind
 rw [exy]
 have h1 := mul32 hx1 hy1
 have h2 := mul32 hx1 hy0
 have h3 := mul32 hx0 hy1
 have h4 := mul32 hx0 hy0
 have m1 : ∀ p q : Nat, (p : Int) * (q : Int) = ((p * q : Nat) : Int) := fun p q => by simp
 have u1 : ∀ v : Nat, v <= 18446744073709551615 -> IntKind.u64.wrap (v : Int) = (v : Int) := fun v hv => uwrap_id (by omega)
 simp only [m1]
 generalize a * c = P at *
 generalize a * d = Q at *
 generalize b * c = S at *
 generalize b * d = T at *
 have hw64 : ∀ v : Nat, v <= 18446744073709551615 -> v < w64 := fun v hv => by rw [w64_eq]; omega
 have a1 : ∀ p q : Nat, (p : Int) + (q : Int) = ((p + q : Nat) : Int) := fun p q => by simp
 rw [u1 T (by omega), u1 Q (by omega), u1 S (by omega), u1 P (by omega), shr32 T, a1, u1 (Q + T / 4294967296) (by omega)]
 rw [and32 _ (hw64 (Q + T / 4294967296) (by omega)), shr32 (Q + T / 4294967296), and32 _ (hw64 T (by omega)), a1 S, u1 (S + _) (by omega), shr32 (S + _), a1 P, u1 (P + _) (by omega), a1 _ ((S + _) / _), u1 (P + _ + _) (by omega),
  shl32 _ (hw64 (S + (Q + T / 4294967296) % 4294967296) (by omega)), or32 _ _ (by omega) (by omega)]
 refine ⟨_, _, rfl, ?_, ?_⟩
 ·rw [w64_eq]; omega
 ·rw [w64_eq]; omega

theorem a_cncref23_most {M : List AC -> Option (List AC)} (hM : ∀ {x y : Nat}, x < w64 -> y < w64 -> ∃ hi lo : Nat, M [U x, U y] = some [U hi, U lo] /\ hi * w64 + lo = x * y /\ lo < w64) {a b c d : Nat} (ha : a < w64) (hb : b < w64) (hc : c < w64) (hd : d < w64) (s : Bool) :
  mf_cncref23_most M [U a, U b, U c, U d, B s] = some [B (if s = true then decide (a * b < c * d) else decide (a * b <= c * d))] := by
 obtain ⟨h1, l1, e1, f1, g1⟩ := hM ha hb
 obtain ⟨h2, l2, e2, f2, g2⟩ := hM hc hd
 rw [mf_cncref23_most_eq]
 simp only [go_sem, e1, e2]
 rw [<- f1, <- f2]
 have key : ∀ p q : Nat, p < q -> p * w64 + w64 <= q * w64 := fun p q h => by rw [<- Nat.succ_mul]; exact Nat.mul_le_mul_right _ h
 by_cases c1 : h1 < h2
 ·rw [if_pos (by omega)]
  have := key _ _ c1
  by_cases hs : s = true
  ·rw [if_pos hs, decide_eq_true (by omega)]
  ·rw [if_neg hs, decide_eq_true (by omega)]
 ·rw [if_neg (by omega)]
  by_cases c2 : h1 = h2
  ·subst c2
   rw [if_pos rfl]
   by_cases c3 : l1 < l2
   ·rw [if_pos (by omega)]
    by_cases hs : s = true
    ·rw [if_pos hs, decide_eq_true (by omega)]
    ·rw [if_neg hs, decide_eq_true (by omega)]
   ·rw [if_neg (by omega)]
    by_cases c4 : l1 = l2
    ·subst c4
     rw [if_pos rfl]
     by_cases hs : s = true
     ·rw [if_pos hs, decide_eq_false (by omega), hs]; rfl
     ·rw [if_neg hs, decide_eq_true (by omega)]; simp at hs; rw [hs]; rfl
    ·rw [if_neg (by omega)]
     by_cases hs : s = true
     ·rw [if_pos hs, decide_eq_false (by omega)]
     ·rw [if_neg hs, decide_eq_false (by omega)]
  ·rw [if_neg (by omega)]
   have := key h2 h1 (by omega)
   by_cases hs : s = true
   ·rw [if_pos hs, decide_eq_false (by omega)]
   ·rw [if_neg hs, decide_eq_false (by omega)]
theorem s_cncref23_most {a b c d : Nat} (ha : a < w64) (hb : b < w64) (hc : c < w64) (hd : d < w64) (s : Bool) :
  m_cncref23_most [U a, U b, U c, U d, B s] = some [B (if s = true then decide (a * b < c * d) else decide (a * b <= c * d))] :=
 a_cncref23_most s_cncref23_product ha hb hc hd s

def IsRnd (a n : Nat) (down : Bool) (j : Nat) : Prop :=
 (j = 0 \/ if down = true then (2 * j - 1) * (2 * j - 1) * n < 4 * (a * a) else (2 * j - 1) * (2 * j - 1) * n <= 4 * (a * a)) /\
 (if down = true then 4 * (a * a) <= (2 * j + 1) * (2 * j + 1) * n else 4 * (a * a) < (2 * j + 1) * (2 * j + 1) * n)
theorem sqn_le {p q n : Nat} (h : p <= q) : p * p * n <= q * q * n := Nat.mul_le_mul_right _ (Nat.mul_le_mul h h)
theorem isRnd_unique {a n : Nat} {down : Bool} {i j : Nat} (hi : IsRnd a n down i) (hj : IsRnd a n down j) : i = j := by
 have key : ∀ {i j : Nat}, IsRnd a n down i -> IsRnd a n down j -> ¬ i < j := by
  rintro i j ⟨-, h2⟩ ⟨h3, -⟩ hlt
  have h4 := sqn_le (n := n) (show 2 * i + 1 <= 2 * j - 1 by omega)
  rcases h3 with h3 | h3
  ·omega
  ·by_cases hd : down = true
   ·rw [if_pos hd] at h2 h3; omega
   ·rw [if_neg hd] at h2 h3; omega
 have h1 := key hi hj
 have h2 := key hj hi
 omega
open Classical in
noncomputable def rnd (a n : Nat) (down : Bool) : Nat := if h : ∃ j, IsRnd a n down j then Classical.choose h else 0
theorem rnd_of {a n : Nat} {down : Bool} {j : Nat} (h : IsRnd a n down j) : rnd a n down = j := by
 have hx : ∃ j, IsRnd a n down j := ⟨j, h⟩
 unfold rnd
 rw [dif_pos hx]
 exact isRnd_unique (Classical.choose_spec hx) h
noncomputable def nearR (x r n : Int) : Int := if x < 0 then -(rnd (x.natAbs * r.natAbs) n.natAbs true : Int) else (rnd (x.natAbs * r.natAbs) n.natAbs false : Int)

theorem isRnd_le {X R n j : Nat} {down : Bool} (hn : 0 < n) (hx : X * X <= n) (h : IsRnd (X * R) n down j) : j <= R := by
 by_cases c : j <= R
 ·exact c
 exfalso
 have e : 4 * (X * R * (X * R)) = (2 * R) * (2 * R) * (X * X) := by grind
 have h2 : (2 * R) * (2 * R) * (X * X) <= (2 * R) * (2 * R) * n := Nat.mul_le_mul_left _ hx
 have h3 : (2 * R) * (2 * R) * n < (2 * R + 1) * (2 * R + 1) * n := Nat.mul_lt_mul_of_pos_right (Nat.mul_self_lt_mul_self (by omega)) hn
 have h4 : (2 * R + 1) * (2 * R + 1) * n <= (2 * j - 1) * (2 * j - 1) * n := sqn_le (by omega)
 obtain ⟨h5, -⟩ := h
 rcases h5 with h5 | h5
 ·omega
 ·split at h5 <;> omega
theorem st_Near {M : List AC -> Option (List AC)} (hM : ∀ {a b c d : Nat}, a < w64 -> b < w64 -> c < w64 -> d < w64 -> ∀ s : Bool, M [U a, U b, U c, U d, B s] = some [B (if s = true then decide (a * b < c * d) else decide (a * b <= c * d))])
  {x : Int} {a d q b : Nat} {bit : Int} (ha : a < 36028797018963968) (hd : d < w64) (hq : q + b < 268435456 + 1) (hb0 : 0 < b) (hb : ((b : Nat) : Int).fdiv (2 ^ min (Int.toNat 1) IntKind.u64.bits) = bit) :
  st_cncref23_Near_3 M [I x, U a, U d, U q, U b] = some (0, [I x, U a, U d, U (((if (q + b) * (q + b) * d <= a * a then q + b else q) : Nat) : Int), U bit]) := by
 have hs : (q + b) * (q + b) <= 268435456 * 268435456 := Nat.mul_le_mul (by omega) (by omega)
 have w1 : IntKind.u64.wrap ((q : Int) + (b : Int)) = ((q + b : Nat) : Int) := by rw [uwrap_id (by omega)]; omega
 have w2 : IntKind.u64.wrap (((q + b : Nat) : Int) * ((q + b : Nat) : Int)) = (((q + b) * (q + b) : Nat) : Int) := by
  rw [show ((q + b : Nat) : Int) * ((q + b : Nat) : Int) = (((q + b) * (q + b) : Nat) : Int) by simp, uwrap_id (by omega)]
 rw [st_cncref23_Near_3_eq, w1, w2, hb]
 generalize (q + b) * (q + b) = s at *
 have h := hM (a := s) (b := d) (c := a) (d := a) (by rw [w64_eq]; omega) hd (by rw [w64_eq]; omega) (by rw [w64_eq]; omega) false
 rw [if_neg (by simp)] at h
 simp only [go_sem, h]
 rw [if_pos (by omega)]
 by_cases c : s * d <= a * a
 ·rw [if_pos c, if_pos c]
 ·rw [if_neg c, if_neg c]
theorem l_Near {M : List AC -> Option (List AC)} (hM : ∀ {a b c d : Nat}, a < w64 -> b < w64 -> c < w64 -> d < w64 -> ∀ s : Bool, M [U a, U b, U c, U d, B s] = some [B (if s = true then decide (a * b < c * d) else decide (a * b <= c * d))])
  {x : Int} {a d : Nat} (ha : a < 36028797018963968) (hd : d < w64) : ∀ (k q : Nat), q + 2 ^ (k + 1) <= 268435456 -> q * q * d <= a * a -> a * a < (q + 2 ^ (k + 1)) * (q + 2 ^ (k + 1)) * d ->
  ∃ r : Nat, loopC (st_cncref23_Near_3 M) [I x, U a, U d, U q, U ((2 ^ k : Nat) : Int)] = some (1, [I x, U a, U d, U r]) /\ r * r * d <= a * a /\ a * a < (r + 1) * (r + 1) * d /\ r < 268435456
 | 0, q, hq, h1, h2 => by
  have hs := st_Near hM (x := x) (q := q) (b := 2 ^ 0) (bit := 0) ha hd (by simp at hq ⊢; omega) (by simp) half0
  rw [loop_more hs]
  have hend : ∀ r : Nat, loopC (st_cncref23_Near_3 M) [I x, U a, U d, U r, U 0] = some (1, [I x, U a, U d, U r]) := by
   intro r
   refine loop_end ?_ (by simp)
   rw [st_cncref23_Near_3_eq]
   simp only [go_sem]
   rw [if_neg (by omega)]
  simp only [Nat.zero_add, Nat.pow_one, Nat.pow_zero] at *
  by_cases h : (q + 1) * (q + 1) * d <= a * a
  ·rw [if_pos h, hend]
   exact ⟨_, rfl, h, h2, by omega⟩
  ·rw [if_neg h, hend]
   exact ⟨_, rfl, h1, by omega, by omega⟩
 | k + 1, q, hq, h1, h2 => by
  have e3 : 2 ^ (k + 1 + 1) = 2 ^ (k + 1) + 2 ^ (k + 1) := by rw [Nat.pow_succ 2 (k + 1)]; omega
  have hpos : 0 < 2 ^ (k + 1) := Nat.two_pow_pos _
  have hs := st_Near hM (x := x) (q := q) (b := 2 ^ (k + 1)) (bit := ((2 ^ k : Nat) : Int)) ha hd (by omega) hpos (half k)
  rw [loop_more hs]
  by_cases h : (q + 2 ^ (k + 1)) * (q + 2 ^ (k + 1)) * d <= a * a
  ·rw [if_pos h]
   refine l_Near hM ha hd k _ (by omega) h ?_
   rw [show q + 2 ^ (k + 1) + 2 ^ (k + 1) = q + 2 ^ (k + 1 + 1) by omega]
   exact h2
  ·rw [if_neg h]
   exact l_Near hM ha hd k q (by omega) h1 (by omega)
theorem isRnd_near {a n q : Nat} (down : Bool) (h1 : q * q * n <= a * a) (h2 : a * a < (q + 1) * (q + 1) * n) :
  IsRnd a n down (if (if down = true then (2 * q + 1) * (2 * q + 1) * n < 2 * a * (2 * a) else (2 * q + 1) * (2 * q + 1) * n <= 2 * a * (2 * a)) then q + 1 else q) := by
 have e4 : 2 * a * (2 * a) = 4 * (a * a) := by grind
 rw [e4]
 have e1 : 4 * (q * q * n) <= 4 * (a * a) := Nat.mul_le_mul_left _ h1
 have e2 : 4 * (a * a) < 4 * ((q + 1) * (q + 1) * n) := by omega
 have e5 : (2 * q - 1) * (2 * q - 1) * n <= (2 * q) * (2 * q) * n := sqn_le (by omega)
 have e6 : (2 * q) * (2 * q) * n = 4 * (q * q * n) := by grind
 have e7 : (2 * (q + 1)) * (2 * (q + 1)) * n = 4 * ((q + 1) * (q + 1) * n) := by grind
 have e8 : (2 * (q + 1)) * (2 * (q + 1)) * n <= (2 * (q + 1) + 1) * (2 * (q + 1) + 1) * n := sqn_le (by omega)
 have e9 : n = 0 \/ q = 0 \/ (2 * q - 1) * (2 * q - 1) * n < (2 * q) * (2 * q) * n := by
  by_cases hn : n = 0
  ·exact .inl hn
  ·by_cases hq : q = 0
   ·exact .inr (.inl hq)
   ·right; right
    refine Nat.mul_lt_mul_of_pos_right ?_ (by omega)
    exact Nat.mul_self_lt_mul_self (by omega)
 have hn : n ≠ 0 := by rintro rfl; simp at h2
 unfold IsRnd
 cases down
 ·simp only [Bool.false_eq_true, if_false]
  by_cases c : (2 * q + 1) * (2 * q + 1) * n <= 4 * (a * a)
  ·rw [if_pos c]
   refine ⟨.inr ?_, by omega⟩
   rw [show 2 * (q + 1) - 1 = 2 * q + 1 by omega]; exact c
  ·rw [if_neg c]
   exact ⟨by omega, by omega⟩
 ·simp only [if_true]
  by_cases c : (2 * q + 1) * (2 * q + 1) * n < 4 * (a * a)
  ·rw [if_pos c]
   refine ⟨.inr ?_, by omega⟩
   rw [show 2 * (q + 1) - 1 = 2 * q + 1 by omega]; exact c
  ·rw [if_neg c]
   exact ⟨by omega, by omega⟩
theorem a_cncref23_Near {M : List AC -> Option (List AC)} (hM : ∀ {a b c d : Nat}, a < w64 -> b < w64 -> c < w64 -> d < w64 -> ∀ s : Bool, M [U a, U b, U c, U d, B s] = some [B (if s = true then decide (a * b < c * d) else decide (a * b <= c * d))])
  {x r n : Int} (hx : x.natAbs <= 33554432 * 4) (hr : 0 <= r /\ r <= 33554432 * 4) (hn : 0 < n /\ n <= 4611686018427387904) (hxn : x * x <= n) :
  mf_cncref23_Near M (loopC (st_cncref23_Near_3 M)) [I x, I r, I n] = some [I (nearR x r n)] /\ (nearR x r n).natAbs <= 268435456 /\ IsRnd (x.natAbs * r.natAbs) n.natAbs (decide (x < 0)) (nearR x r n).natAbs := by
 obtain ⟨R, rfl⟩ := Int.eq_ofNat_of_zero_le hr.1
 obtain ⟨N, rfl⟩ := Int.eq_ofNat_of_zero_le (show 0 <= n by omega)
 have hmx : mx x (IntKind.i64.wrap (0 - x)) = (x.natAbs : Int) := by
  rw [wrap_id (by omega)]; unfold mx; split <;> omega
 have hA : x.natAbs * R <= (33554432 * 4) * (33554432 * 4) := Nat.mul_le_mul hx (by omega)
 have e1 : (x.natAbs : Int) * (R : Int) = ((x.natAbs * R : Nat) : Int) := by simp
 have hxx : x.natAbs * x.natAbs <= N := by
  have : ((x.natAbs * x.natAbs : Nat) : Int) = x * x := by rw [Int.natAbs_mul_self]
  omega
 have hAA : (x.natAbs * R) * (x.natAbs * R) < 268435456 * 268435456 * N := by
  have e : (x.natAbs * R) * (x.natAbs * R) = (R * R) * (x.natAbs * x.natAbs) := by grind
  rw [e]
  have h1 : R * R <= (33554432 * 4) * (33554432 * 4) := Nat.mul_le_mul (by omega) (by omega)
  have h2 : (R * R) * (x.natAbs * x.natAbs) <= ((33554432 * 4) * (33554432 * 4)) * N := Nat.mul_le_mul h1 hxx
  omega
 simp only [nearR, Int.natAbs_natCast]
 generalize hAd : x.natAbs * R = A at *
 have hAw : A < 36028797018963968 := by omega
 have hN : N < w64 := by rw [w64_eq]; omega
 rw [mf_cncref23_Near_eq, hmx, e1, wrap_id (x := (A : Int)) (by omega), uwrap_id (x := (A : Int)) (by omega), uwrap_id (x := (N : Int)) (by omega)]
 obtain ⟨q, l1, l2, l3, l4⟩ := l_Near hM (x := x) (a := A) (d := N) hAw hN 27 0 (by decide) (by simp) (by rw [Nat.zero_add]; exact hAA)
 have l1' : loopC (st_cncref23_Near_3 M) [I x, U A, U N, AC.int IntKind.u64 0, AC.int IntKind.u64 134217728] = some (1, [I x, U A, U N, U q]) := l1
 rw [l1']
 have hq2 : (2 * q + 1) * (2 * q + 1) <= 536870911 * 536870911 := Nat.mul_le_mul (by omega) (by omega)
 have w1 : IntKind.u64.wrap (IntKind.u64.wrap (2 * (q : Int)) + 1) = ((2 * q + 1 : Nat) : Int) := by rw [uwrap_id (x := 2 * (q : Int)) (by omega), uwrap_id (by omega)]; omega
 have w2 : IntKind.u64.wrap (((2 * q + 1 : Nat) : Int) * ((2 * q + 1 : Nat) : Int)) = (((2 * q + 1) * (2 * q + 1) : Nat) : Int) := by
  rw [show ((2 * q + 1 : Nat) : Int) * ((2 * q + 1 : Nat) : Int) = (((2 * q + 1) * (2 * q + 1) : Nat) : Int) from (Int.natCast_mul _ _).symm, uwrap_id (by omega)]
 have w3 : IntKind.u64.wrap (2 * (A : Int)) = ((2 * A : Nat) : Int) := by rw [uwrap_id (by omega)]; omega
 have w4 : IntKind.i64.wrap (IntKind.u64.wrap ((q : Int) + 1)) = ((q + 1 : Nat) : Int) := by rw [uwrap_id (by omega), wrap_id (by omega)]; omega
 have w5 : IntKind.i64.wrap (q : Int) = (q : Int) := wrap_id (by omega)
 have h := hM (a := (2 * q + 1) * (2 * q + 1)) (b := N) (c := 2 * A) (d := 2 * A) (by rw [w64_eq]; omega) hN (by rw [w64_eq]; omega) (by rw [w64_eq]; omega) (decide (x < 0))
 have hi := isRnd_near (decide (x < 0)) l2 l3
 simp only [go_sem, w1, w2, w3, h, w4, w5]
 generalize (2 * q + 1) * (2 * q + 1) = s at *
 by_cases hx0 : x < 0
 ·rw [show (if x < 0 then -(rnd A N true : Int) else (rnd A N false : Int)) = -(rnd A N true : Int) from if_pos hx0]
  rw [decide_eq_true hx0] at hi ⊢
  simp only [if_true] at hi ⊢
  have hr := rnd_of hi
  by_cases c : s * N < 2 * A * (2 * A)
  ·rw [if_pos c] at hi hr
   rw [if_pos hx0, if_pos (decide_eq_true c), if_pos hx0, hr, wrap_id (by omega)]
   refine ⟨?_, by omega, ?_⟩
   ·rw [Int.zero_sub]
   ·rw [Int.natAbs_neg, Int.natAbs_natCast]; exact hi
  ·rw [if_neg c] at hi hr
   rw [if_pos hx0, if_neg (by simpa using c), if_pos hx0, hr, wrap_id (by omega)]
   refine ⟨?_, by omega, ?_⟩
   ·rw [Int.zero_sub]
   ·rw [Int.natAbs_neg, Int.natAbs_natCast]; exact hi
 ·rw [show (if x < 0 then -(rnd A N true : Int) else (rnd A N false : Int)) = (rnd A N false : Int) from if_neg hx0]
  rw [decide_eq_false hx0] at hi ⊢
  simp only [Bool.false_eq_true, if_false] at hi ⊢
  have hr := rnd_of hi
  by_cases c : s * N <= 2 * A * (2 * A)
  ·rw [if_pos c] at hi hr
   rw [if_neg hx0, if_pos (decide_eq_true c), if_neg hx0, hr]
   exact ⟨rfl, by omega, hi⟩
  ·rw [if_neg c] at hi hr
   rw [if_neg hx0, if_neg (by simpa using c), if_neg hx0, hr]
   exact ⟨rfl, by omega, hi⟩
theorem s_cncref23_Near {x r n : Int} (hx : x.natAbs <= 33554432 * 4) (hr : 0 <= r /\ r <= 33554432 * 4) (hn : 0 < n /\ n <= 4611686018427387904) (hxn : x * x <= n) :
  m_cncref23_Near [I x, I r, I n] = some [I (nearR x r n)] /\ (nearR x r n).natAbs <= 268435456 /\ IsRnd (x.natAbs * r.natAbs) n.natAbs (decide (x < 0)) (nearR x r n).natAbs :=
 a_cncref23_Near s_cncref23_most hx hr hn hxn

theorem halfI (k : Nat) : ((2 ^ (k + 1) : Nat) : Int).fdiv (2 ^ min (Int.toNat 1) IntKind.i64.bits) = ((2 ^ k : Nat) : Int) := by
 have e : (2 ^ min (Int.toNat 1) IntKind.i64.bits : Int) = 2 := rfl
 rw [e, Int.fdiv_eq_ediv_of_nonneg _ (by omega), Nat.pow_succ]
 omega
theorem halfI0 : (1 : Int).fdiv (2 ^ min (Int.toNat 1) IntKind.i64.bits) = 0 := rfl
theorem st_root {n q b : Nat} {bit : Int} (hq : q + b <= 2147483648) (hb0 : 0 < b) (hb : ((b : Nat) : Int).fdiv (2 ^ min (Int.toNat 1) IntKind.i64.bits) = bit) :
  st_cncref23_root_3 [I n, I q, I b] = some (0, [I n, I (((if (q + b) * (q + b) <= n then q + b else q) : Nat) : Int), I bit]) := by
 have hs : (q + b) * (q + b) <= 2147483648 * 2147483648 := Nat.mul_le_mul hq hq
 have w1 : IntKind.i64.wrap ((q : Int) + (b : Int)) = ((q + b : Nat) : Int) := by rw [wrap_id (by omega)]; omega
 have w2 : IntKind.i64.wrap (((q + b : Nat) : Int) * ((q + b : Nat) : Int)) = (((q + b) * (q + b) : Nat) : Int) := by
  rw [show ((q + b : Nat) : Int) * ((q + b : Nat) : Int) = (((q + b) * (q + b) : Nat) : Int) from (Int.natCast_mul _ _).symm, wrap_id (by omega)]
 rw [st_cncref23_root_3_eq, w1, w2, hb]
 generalize (q + b) * (q + b) = s at *
 simp only [go_sem]
 rw [if_pos (by omega)]
 by_cases c : s <= n
 ·rw [if_pos (by omega), if_pos c]
 ·rw [if_neg (by omega), if_neg c]
theorem l_root {n : Nat} : ∀ (k q : Nat), q + 2 ^ (k + 1) <= 2147483648 -> q * q <= n -> n < (q + 2 ^ (k + 1)) * (q + 2 ^ (k + 1)) ->
  ∃ r : Nat, loopC st_cncref23_root_3 [I n, I q, I ((2 ^ k : Nat) : Int)] = some (1, [I r]) /\ r * r <= n /\ n < (r + 1) * (r + 1) /\ r < 2147483648
 | 0, q, hq, h1, h2 => by
  have hs := st_root (n := n) (q := q) (b := 2 ^ 0) (bit := 0) (by simp at hq ⊢; omega) (by simp) halfI0
  rw [loop_more hs]
  have hend : ∀ r : Nat, loopC st_cncref23_root_3 [I n, I r, I 0] = some (1, [I r]) := by
   intro r
   refine loop_end ?_ (by simp)
   rw [st_cncref23_root_3_eq]
   simp only [go_sem]
   rw [if_neg (by omega)]
  simp only [Nat.zero_add, Nat.pow_one, Nat.pow_zero] at *
  by_cases h : (q + 1) * (q + 1) <= n
  ·rw [if_pos h, hend]
   exact ⟨_, rfl, h, h2, by omega⟩
  ·rw [if_neg h, hend]
   exact ⟨_, rfl, h1, by omega, by omega⟩
 | k + 1, q, hq, h1, h2 => by
  have e3 : 2 ^ (k + 1 + 1) = 2 ^ (k + 1) + 2 ^ (k + 1) := by rw [Nat.pow_succ 2 (k + 1)]; omega
  have hpos : 0 < 2 ^ (k + 1) := Nat.two_pow_pos _
  have hs := st_root (n := n) (q := q) (b := 2 ^ (k + 1)) (bit := ((2 ^ k : Nat) : Int)) (by omega) hpos (halfI k)
  rw [loop_more hs]
  by_cases h : (q + 2 ^ (k + 1)) * (q + 2 ^ (k + 1)) <= n
  ·rw [if_pos h]
   refine l_root k _ (by omega) h ?_
   rw [show q + 2 ^ (k + 1) + 2 ^ (k + 1) = q + 2 ^ (k + 1 + 1) by omega]
   exact h2
  ·rw [if_neg h]
   exact l_root k q (by omega) h1 (by omega)
theorem s_cncref23_root {n : Nat} (hn : n < 4611686018427387904) : ∃ r : Nat, m_cncref23_root [I n] = some [I r] /\ r * r <= n /\ n < (r + 1) * (r + 1) /\ r < 2147483648 := by
 obtain ⟨r, l1, l2, l3, l4⟩ := l_root (n := n) 30 0 (by decide) (by simp) (by rw [Nat.zero_add]; exact hn)
 refine ⟨r, ?_, l2, l3, l4⟩
 have l1' : loopC st_cncref23_root_3 [I n, AC.int IntKind.i64 0, AC.int IntKind.i64 1073741824] = some (1, [I r]) := l1
 show mf_cncref23_root (loopC st_cncref23_root_3) [I n] = _
 rw [mf_cncref23_root_eq, l1']
 simp only [go_sem]
theorem sq_bd {x : Int} {A : Nat} (h : x.natAbs <= A) : 0 <= x * x /\ x * x <= ((A * A : Nat) : Int) := by
 have := Nat.mul_le_mul h h
 rw [<- Int.natAbs_mul_self]
 omega
def IsMid (n k : Int) : Prop := 0 <= k /\ n <= k * (k + 1) /\ (k = 0 \/ (k - 1) * k < n)
end Go.Bm
/- the reference's corners -/
set_option maxRecDepth 100000
namespace Go.Bm

theorem wrap_nat {x : Int} {A : Nat} (h : x.natAbs <= A) (hA : A <= 9223372036854775807) : IntKind.i64.wrap x = x := wrap_id (by omega)
theorem sub_nat {x y : Int} {A B : Nat} (hx : x.natAbs <= A) (hy : y.natAbs <= B) : (x - y).natAbs <= A + B := by omega
theorem sq_nn (u : Int) : 0 <= u * u := by rw [<- Int.natAbs_mul_self]; omega
end Go.Bm
/- the reference's spokes: the middle of a piece, the pieces of an arc, its chords -/
set_option maxRecDepth 100000
namespace Go.Bm

def okS (s : Spk) : Prop := s.u.natAbs <= 50000000 /\ s.w.natAbs <= 50000000 /\ (0 <= s.r /\ s.r <= 50000000) /\ s.h.natAbs <= 16777216
def hf (a b : Int) : Int := (a + b + 1) / 2
theorem s_half {a b : Int} (ha : a.natAbs <= 100000000) (hb : b.natAbs <= 100000000) : m_cncref23_half [I a, I b] = some [I (hf a b)] := by
  unfold m_cncref23_half
  rw [mf_cncref23_half_eq, wrap_id (x := a + b) (by omega), wrap_id (x := a + b + 1) (by omega)]
  have e : (2 ^ min (Int.toNat 1) IntKind.i64.bits : Int) = 2 := rfl
  rw [e, Int.fdiv_eq_ediv_of_nonneg _ (by omega)]
  rfl
def midD (a b : Spk) (dir : Int) (full : Bool) : Int × Int :=
  if full = true then (-a.u, -a.w)
  else if 0 < dt2 a.u a.w b.u b.w /\ 0 < crs a.u a.w b.u b.w * dir then (a.u + b.u, a.w + b.w)
  else if 0 < dt2 a.u a.w b.u b.w then (-(a.u + b.u), -(a.w + b.w))
  else (dir * (b.w - a.w), dir * (a.u - b.u))
noncomputable def midOf (a b : Spk) (u w : Int) : Spk := if u = 0 /\ w = 0 then ⟨0, 0, 0, 0⟩ else ⟨nearR u (hf a.r b.r) (sq2 u w), nearR w (hf a.r b.r) (sq2 u w), hf a.r b.r, hf a.h b.h⟩
noncomputable def midS (a b : Spk) (dir : Int) (full : Bool) : Spk := midOf a b (midD a b dir full).1 (midD a b dir full).2
theorem midD_bd {a b : Spk} (ha : okS a) (hb : okS b) {dir : Int} (hd : dir = 1 \/ dir = -1) (full : Bool) : (midD a b dir full).1.natAbs <= 100000000 /\ (midD a b dir full).2.natAbs <= 100000000 := by
  obtain ⟨a1, a2, -⟩ := ha
  obtain ⟨b1, b2, -⟩ := hb
  unfold midD
  split
  · exact ⟨by simp only; omega, by simp only; omega⟩
  · split
    · exact ⟨by simp only; omega, by simp only; omega⟩
    · split
      · exact ⟨by simp only; omega, by simp only; omega⟩
      · rcases hd with rfl | rfl
        · exact ⟨by simp only; omega, by simp only; omega⟩
        · exact ⟨by simp only; omega, by simp only; omega⟩
theorem sq2_sq (u w : Int) : u * u <= sq2 u w /\ w * w <= sq2 u w := by
  have h1 := sq_nn u
  have h2 := sq_nn w
  unfold sq2
  omega
theorem sq2_pos {u w : Int} (h : ¬ (u = 0 /\ w = 0)) : 0 < sq2 u w := by
  have h1 := sq_nn u
  have h2 := sq_nn w
  have z : ∀ u : Int, u * u = 0 -> u = 0 := fun u hu => by
    rcases Int.mul_eq_zero.1 hu with h | h <;> exact h
  have h3 : ¬ (u * u = 0 /\ w * w = 0) := fun h4 => h ⟨z _ h4.1, z _ h4.2⟩
  unfold sq2
  omega
theorem hf_bd {a b : Int} (ha : 0 <= a /\ a <= 50000000) (hb : 0 <= b /\ b <= 50000000) : 0 <= hf a b /\ hf a b <= 50000000 := by unfold hf; omega
theorem hf_bd2 {a b : Int} (ha : a.natAbs <= 16777216) (hb : b.natAbs <= 16777216) : (hf a b).natAbs <= 16777216 := by unfold hf; omega
theorem near_S {u w r : Int} (hu : u.natAbs <= 100000000) (hw : w.natAbs <= 100000000) (hr : 0 <= r /\ r <= 50000000) (h : ¬ (u = 0 /\ w = 0)) :
    (m_cncref23_Near [I u, I r, I (sq2 u w)] = some [I (nearR u r (sq2 u w))] /\ (nearR u r (sq2 u w)).natAbs <= r.natAbs) /\ (m_cncref23_Near [I w, I r, I (sq2 u w)] = some [I (nearR w r (sq2 u w))] /\ (nearR w r (sq2 u w)).natAbs <= r.natAbs) := by
  have hp := sq2_pos h
  have h1 := sq_bd hu
  have h2 := sq_bd hw
  have h3 : sq2 u w <= 20000000000000000 := by unfold sq2; omega
  obtain ⟨q1, q2⟩ := sq2_sq u w
  have key : ∀ x : Int, x.natAbs <= 100000000 -> x * x <= sq2 u w -> m_cncref23_Near [I x, I r, I (sq2 u w)] = some [I (nearR x r (sq2 u w))] /\ (nearR x r (sq2 u w)).natAbs <= r.natAbs := by
    intro x hx hq
    obtain ⟨g1, -, g3⟩ := s_cncref23_Near (x := x) (r := r) (n := sq2 u w) (Nat.le_trans hx (by decide)) (by omega) (by omega) hq
    refine ⟨g1, isRnd_le (by omega) ?_ g3⟩
    have : ((x.natAbs * x.natAbs : Nat) : Int) = x * x := Int.natAbs_mul_self
    omega
  exact ⟨key u hu q1, key w hw q2⟩
theorem midOf_ok {a b : Spk} (ha : okS a) (hb : okS b) {u w : Int} (hu : u.natAbs <= 100000000) (hw : w.natAbs <= 100000000) : okS (midOf a b u w) := by
  unfold midOf
  split
  · exact ⟨by simp, by simp, by simp, by simp⟩
  · rename_i h
    have hr := hf_bd ha.2.2.1 hb.2.2.1
    obtain ⟨⟨-, n1⟩, -, n2⟩ := near_S hu hw hr h
    exact ⟨by simp only; omega, by simp only; omega, hr, hf_bd2 ha.2.2.2 hb.2.2.2⟩
theorem midS_ok {a b : Spk} (ha : okS a) (hb : okS b) {dir : Int} (hd : dir = 1 \/ dir = -1) (full : Bool) : okS (midS a b dir full) :=
  midOf_ok ha hb (midD_bd ha hb hd full).1 (midD_bd ha hb hd full).2
theorem mid_tail {MN MH : List AC -> Option (List AC)} {a b : Spk} {u w : Int} (hu : u.natAbs <= 100000000) (hw : w.natAbs <= 100000000) (h1 : MH [I a.r, I b.r] = some [I (hf a.r b.r)]) (h2 : MH [I a.h, I b.h] = some [I (hf a.h b.h)])
    (hN : ¬ (u = 0 /\ w = 0) -> MN [I u, I (hf a.r b.r), I (sq2 u w)] = some [I (nearR u (hf a.r b.r) (sq2 u w))] /\ MN [I w, I (hf a.r b.r), I (sq2 u w)] = some [I (nearR w (hf a.r b.r) (sq2 u w))]) :
    (bif u == 0 then
      bif w == 0 then some [AC.int IntKind.i64 0, AC.int IntKind.i64 0, AC.int IntKind.i64 0, AC.int IntKind.i64 0, AC.bool false]
      else (MH [AC.int IntKind.i64 a.r, AC.int IntKind.i64 b.r]).bind fun o104 =>
       (MN [AC.int IntKind.i64 u, AC.int IntKind.i64 (intOf (nth AC.dead o104 0)), AC.int IntKind.i64 (IntKind.i64.wrap (IntKind.i64.wrap (u * u) + IntKind.i64.wrap (w * w)))]).bind fun o105 =>
       (MN [AC.int IntKind.i64 w, AC.int IntKind.i64 (intOf (nth AC.dead o104 0)), AC.int IntKind.i64 (IntKind.i64.wrap (IntKind.i64.wrap (u * u) + IntKind.i64.wrap (w * w)))]).bind fun o106 =>
       (MH [AC.int IntKind.i64 a.h, AC.int IntKind.i64 b.h]).bind fun o107 =>
       some [AC.int IntKind.i64 (intOf (nth AC.dead o105 0)), AC.int IntKind.i64 (intOf (nth AC.dead o106 0)), AC.int IntKind.i64 (intOf (nth AC.dead o104 0)), AC.int IntKind.i64 (intOf (nth AC.dead o107 0)), AC.bool true]
     else (MH [AC.int IntKind.i64 a.r, AC.int IntKind.i64 b.r]).bind fun o104 =>
       (MN [AC.int IntKind.i64 u, AC.int IntKind.i64 (intOf (nth AC.dead o104 0)), AC.int IntKind.i64 (IntKind.i64.wrap (IntKind.i64.wrap (u * u) + IntKind.i64.wrap (w * w)))]).bind fun o105 =>
       (MN [AC.int IntKind.i64 w, AC.int IntKind.i64 (intOf (nth AC.dead o104 0)), AC.int IntKind.i64 (IntKind.i64.wrap (IntKind.i64.wrap (u * u) + IntKind.i64.wrap (w * w)))]).bind fun o106 =>
       (MH [AC.int IntKind.i64 a.h, AC.int IntKind.i64 b.h]).bind fun o107 =>
       some [AC.int IntKind.i64 (intOf (nth AC.dead o105 0)), AC.int IntKind.i64 (intOf (nth AC.dead o106 0)), AC.int IntKind.i64 (intOf (nth AC.dead o104 0)), AC.int IntKind.i64 (intOf (nth AC.dead o107 0)), AC.bool true]) =
    some (spkR (midOf a b u w) ++ [B (decide (¬ (u = 0 /\ w = 0)))]) := by
  have q1 := sq_bd hu
  have q2 := sq_bd hw
  have e : IntKind.i64.wrap (IntKind.i64.wrap (u * u) + IntKind.i64.wrap (w * w)) = sq2 u w := by
    unfold sq2
    generalize u * u = x at *
    generalize w * w = y at *
    rw [wrap_id (x := x) (by omega), wrap_id (x := y) (by omega), wrap_id (by omega)]
  simp only [go_sem, e, h1, h2]
  unfold midOf
  by_cases h : u = 0 /\ w = 0
  · rw [if_pos h.1, if_pos h.2, if_pos h]
    simp [h]
  · obtain ⟨n1, n2⟩ := hN h
    rw [if_neg h]
    simp only [n1, n2, go_sem]
    have hd : decide (¬ (u = 0 /\ w = 0)) = true := decide_eq_true h
    rw [hd]
    by_cases hu0 : u = 0
    · rw [if_pos hu0, if_neg (fun hw0 => h ⟨hu0, hw0⟩)]; rfl
    · rw [if_neg hu0]; rfl
theorem a_cncref23_Middle {MN MH MC MD : List AC -> Option (List AC)} {a b : Spk} (ha : okS a) (hb : okS b) {dir : Int} (hd : dir = 1 \/ dir = -1) (full : Bool)
    (h1 : MH [I a.r, I b.r] = some [I (hf a.r b.r)]) (h2 : MH [I a.h, I b.h] = some [I (hf a.h b.h)])
    (hN : ∀ {u w : Int}, u.natAbs <= 100000000 -> w.natAbs <= 100000000 -> ¬ (u = 0 /\ w = 0) -> MN [I u, I (hf a.r b.r), I (sq2 u w)] = some [I (nearR u (hf a.r b.r) (sq2 u w))] /\ MN [I w, I (hf a.r b.r), I (sq2 u w)] = some [I (nearR w (hf a.r b.r) (sq2 u w))])
    (hC : MC [I a.u, I a.w, I a.r, I a.h, I b.u, I b.w, I b.r, I b.h] = some [I (crs a.u a.w b.u b.w)]) (hD : MD [I a.u, I a.w, I a.r, I a.h, I b.u, I b.w, I b.r, I b.h] = some [I (dt2 a.u a.w b.u b.w)])
    (hcb : (crs a.u a.w b.u b.w).natAbs <= 5000000000000000) :
    mf_cncref23_Middle MN MH MC MD [I a.u, I a.w, I a.r, I a.h, I b.u, I b.w, I b.r, I b.h, I dir, B full] = some (spkR (midS a b dir full) ++ [B (decide (¬ ((midD a b dir full).1 = 0 /\ (midD a b dir full).2 = 0)))]) := by
  have key := fun {u w : Int} (hu : u.natAbs <= 100000000) (hw : w.natAbs <= 100000000) => mid_tail (MN := MN) (MH := MH) (a := a) (b := b) hu hw h1 h2 (hN hu hw)
  have hbd := midD_bd ha hb hd full
  obtain ⟨a1, a2, -⟩ := ha
  obtain ⟨b1, b2, -⟩ := hb
  have w1 : IntKind.i64.wrap (0 - a.u) = -a.u := by rw [wrap_id (by omega)]; omega
  have w2 : IntKind.i64.wrap (0 - a.w) = -a.w := by rw [wrap_id (by omega)]; omega
  have w3 : IntKind.i64.wrap (a.u + b.u) = a.u + b.u := wrap_id (by omega)
  have w4 : IntKind.i64.wrap (a.w + b.w) = a.w + b.w := wrap_id (by omega)
  have w5 : IntKind.i64.wrap (0 - (a.u + b.u)) = -(a.u + b.u) := by rw [wrap_id (by omega)]; omega
  have w6 : IntKind.i64.wrap (0 - (a.w + b.w)) = -(a.w + b.w) := by rw [wrap_id (by omega)]; omega
  have w7 : IntKind.i64.wrap (b.w - a.w) = b.w - a.w := wrap_id (by omega)
  have w8 : IntKind.i64.wrap (a.u - b.u) = a.u - b.u := wrap_id (by omega)
  have w9 : IntKind.i64.wrap (dir * (b.w - a.w)) = dir * (b.w - a.w) := by rcases hd with rfl | rfl <;> exact wrap_id (by omega)
  have w10 : IntKind.i64.wrap (dir * (a.u - b.u)) = dir * (a.u - b.u) := by rcases hd with rfl | rfl <;> exact wrap_id (by omega)
  have w11 : IntKind.i64.wrap (crs a.u a.w b.u b.w * dir) = crs a.u a.w b.u b.w * dir := by rcases hd with rfl | rfl <;> exact wrap_id (by omega)
  rw [mf_cncref23_Middle_eq]
  try dsimp only [go_sem]
  unfold midS
  simp only [w1, w2, w3, w4, w5, w6, w7, w8, w9, w10, hC, hD, Option.bind_some, nth_zero', intOf_int, gA, jA, wA, bA, w11]
  have fin : ∀ {x : Option (List AC)}, x = some (spkR (midOf a b (midD a b dir full).1 (midD a b dir full).2) ++ [B (decide (¬ ((midD a b dir full).1 = 0 /\ (midD a b dir full).2 = 0)))]) ->
      (bif dir != 1 then bif dir != -1 then some [AC.int IntKind.i64 0, AC.int IntKind.i64 0, AC.int IntKind.i64 0, AC.int IntKind.i64 0, AC.bool false] else x else x) = some (spkR (midOf a b (midD a b dir full).1 (midD a b dir full).2) ++ [B (decide (¬ ((midD a b dir full).1 = 0 /\ (midD a b dir full).2 = 0)))]) := by
    intro x hx
    rcases hd with rfl | rfl
    · rw [bif_false (by decide)]; exact hx
    · rw [bif_true (by decide), bif_false (by decide)]; exact hx
  refine fin ?_
  have hk := key hbd.1 hbd.2
  unfold midD at *
  cases full
  · simp only [cond_false, Bool.false_eq_true, if_false] at hk ⊢
    by_cases c1 : 0 < dt2 a.u a.w b.u b.w
    · rw [bif_pos (show dt2 a.u a.w b.u b.w > 0 from c1)]
      by_cases c2 : 0 < crs a.u a.w b.u b.w * dir
      · rw [bif_pos (show crs a.u a.w b.u b.w * dir > 0 from c2)]
        rw [if_pos ⟨c1, c2⟩] at hk ⊢
        exact hk
      · rw [bif_neg (show ¬ crs a.u a.w b.u b.w * dir > 0 from c2), bif_pos (show dt2 a.u a.w b.u b.w > 0 from c1)]
        rw [if_neg (fun h => c2 h.2), if_pos c1] at hk ⊢
        exact hk
    · rw [bif_neg (show ¬ dt2 a.u a.w b.u b.w > 0 from c1), bif_neg (show ¬ dt2 a.u a.w b.u b.w > 0 from c1)]
      rw [if_neg (fun h => c1 h.1), if_neg c1] at hk ⊢
      exact hk
  · simp only [cond_true, if_true] at hk ⊢
    exact hk
theorem dir_nat {x : Int} (h : x.natAbs <= 50000000) : x.natAbs <= 1000000000 := Nat.le_trans h (by decide)
theorem s_cncref23_Middle {a b : Spk} (ha : okS a) (hb : okS b) {dir : Int} (hd : dir = 1 \/ dir = -1) (full : Bool) :
    m_cncref23_Middle [I a.u, I a.w, I a.r, I a.h, I b.u, I b.w, I b.r, I b.h, I dir, B full] = some (spkR (midS a b dir full) ++ [B (decide (¬ ((midD a b dir full).1 = 0 /\ (midD a b dir full).2 = 0)))]) := by
  have hc := (dt2_bd ha.1 ha.2.1 hb.1 hb.2.1).2
  exact a_cncref23_Middle ha hb hd full (s_half (by have := ha.2.2.1; omega) (by have := hb.2.2.1; omega)) (s_half (Nat.le_trans ha.2.2.2 (by decide)) (Nat.le_trans hb.2.2.2 (by decide)))
    (fun hu hw h => by obtain ⟨⟨g1, -⟩, g2, -⟩ := near_S hu hw (hf_bd ha.2.2.1 hb.2.2.1) h; exact ⟨g1, g2⟩)
    (s_cncref23_Cross (dir_nat ha.1) (dir_nat ha.2.1) (dir_nat hb.1) (dir_nat hb.2.1)) (s_cncref23_Dot (dir_nat ha.1) (dir_nat ha.2.1) (dir_nat hb.1) (dir_nat hb.2.1)) hc

def setS (a b : Spk) (dir : Int) (full : Bool) : Prop := full = false /\ 0 < crs a.u a.w b.u b.w * dir /\ sq2 (a.u - b.u) (a.w - b.w) <= 32 * mn a.r b.r - 64
theorem s_Flat {r n : Int} (hr : 0 <= r /\ r <= 50000000) : m_cncref23_Flat [I r, I n] = some [B (decide (n <= 32 * r - 64))] := by
  unfold m_cncref23_Flat
  rw [mf_cncref23_Flat_eq, wrap_id (x := 8 * r) (by omega), wrap_id (x := 8 * r * 4) (by omega), wrap_id (x := 8 * r * 4 - 64) (by omega), show 8 * r * 4 - 64 = 32 * r - 64 by omega]
instance {a b : Spk} {dir : Int} {full : Bool} : Decidable (setS a b dir full) := by unfold setS; infer_instance
theorem a_cncref23_settled {MF MC : List AC -> Option (List AC)} {a b : Spk} (ha : okS a) (hb : okS b) {dir : Int} (hd : dir = 1 \/ dir = -1) (full : Bool)
    (hF : ∀ {r n : Int}, (0 <= r /\ r <= 50000000) -> MF [I r, I n] = some [B (decide (n <= 32 * r - 64))])
    (hC : MC [I a.u, I a.w, I a.r, I a.h, I b.u, I b.w, I b.r, I b.h] = some [I (crs a.u a.w b.u b.w)]) (hcb : (crs a.u a.w b.u b.w).natAbs <= 5000000000000000) :
    mf_cncref23_settled MF MC [I a.u, I a.w, I a.r, I a.h, I b.u, I b.w, I b.r, I b.h, I dir, B full] = some [B (decide (setS a b dir full))] := by
  have hr : 0 <= mn a.r b.r /\ mn a.r b.r <= 50000000 := by
    have h1 := ha.2.2.1
    have h2 := hb.2.2.1
    unfold mn; split <;> omega
  obtain ⟨a1, a2, -⟩ := ha
  obtain ⟨b1, b2, -⟩ := hb
  have x1 := sub_nat a1 b1
  have x2 := sub_nat a2 b2
  have q1 := sq_bd x1
  have q2 := sq_bd x2
  have e : IntKind.i64.wrap (IntKind.i64.wrap ((a.u - b.u) * (a.u - b.u)) + IntKind.i64.wrap ((a.w - b.w) * (a.w - b.w))) = sq2 (a.u - b.u) (a.w - b.w) := by
    unfold sq2
    generalize (a.u - b.u) * (a.u - b.u) = x at *
    generalize (a.w - b.w) * (a.w - b.w) = y at *
    rw [wrap_id (x := x) (by omega), wrap_id (x := y) (by omega), wrap_id (by omega)]
  have w11 : IntKind.i64.wrap (crs a.u a.w b.u b.w * dir) = crs a.u a.w b.u b.w * dir := by rcases hd with rfl | rfl <;> exact wrap_id (by omega)
  rw [mf_cncref23_settled_eq, wrap_nat x1 (by decide), wrap_nat x2 (by decide), e]
  cases full
  · simp only [Bool.not_false, cond_true, hC, Option.bind_some, nth_zero', intOf_int, gA, jA, wA, bA, w11, hF hr, boolOf_bool]
    by_cases c : 0 < crs a.u a.w b.u b.w * dir
    · rw [bif_pos (show crs a.u a.w b.u b.w * dir > 0 from c)]
      by_cases c2 : sq2 (a.u - b.u) (a.w - b.w) <= 32 * mn a.r b.r - 64
      · rw [decide_eq_true c2, decide_eq_true (show setS a b dir false from ⟨rfl, c, c2⟩)]
      · rw [decide_eq_false c2, decide_eq_false (fun h : setS a b dir false => c2 h.2.2)]
    · rw [bif_neg (show ¬ crs a.u a.w b.u b.w * dir > 0 from c), decide_eq_false (fun h : setS a b dir false => c h.2.1)]
  · simp only [Bool.not_true, cond_false]
    rw [decide_eq_false (fun h : setS a b dir true => by cases h.1)]
theorem s_cncref23_settled {a b : Spk} (ha : okS a) (hb : okS b) {dir : Int} (hd : dir = 1 \/ dir = -1) (full : Bool) :
    m_cncref23_settled [I a.u, I a.w, I a.r, I a.h, I b.u, I b.w, I b.r, I b.h, I dir, B full] = some [B (decide (setS a b dir full))] :=
  a_cncref23_settled ha hb hd full s_Flat (s_cncref23_Cross (dir_nat ha.1) (dir_nat ha.2.1) (dir_nat hb.1) (dir_nat hb.2.1)) (dt2_bd ha.1 ha.2.1 hb.1 hb.2.1).2

noncomputable def pcsL (dir : Int) : Nat -> Bool -> Spk -> Spk -> List Spk
  | 0, _, _, b => [b]
  | k + 1, full, a, b => if setS a b dir full then [b] else pcsL dir k false a (midS a b dir full) ++ pcsL dir k false (midS a b dir full) b
theorem pcsL_len {dir : Int} : ∀ (k : Nat) (full : Bool) (a b : Spk), 1 <= (pcsL dir k full a b).length /\ (pcsL dir k full a b).length <= 2 ^ k
  | 0, _, _, b => by simp [pcsL]
  | k + 1, full, a, b => by
    have hp : 0 < 2 ^ k := Nat.two_pow_pos _
    have e3 : 2 ^ (k + 1) = 2 ^ k + 2 ^ k := by rw [Nat.pow_succ]; omega
    unfold pcsL
    split
    · simp; omega
    · have h1 := pcsL_len k false a (midS a b dir full) (dir := dir)
      have h2 := pcsL_len k false (midS a b dir full) b (dir := dir)
      rw [List.length_append]
      omega
theorem pcsL_ok {dir : Int} (hd : dir = 1 \/ dir = -1) : ∀ (k : Nat) (full : Bool) {a b : Spk}, okS a -> okS b -> ∀ s ∈ pcsL dir k full a b, okS s
  | 0, _, a, b, _, hb, s, hs => by simp [pcsL] at hs; subst hs; exact hb
  | k + 1, full, a, b, ha, hb, s, hs => by
    unfold pcsL at hs
    have hm := midS_ok ha hb hd full
    split at hs
    · simp at hs; subst hs; exact hb
    · rcases List.mem_append.1 hs with hs | hs
      · exact pcsL_ok hd k false ha hm s hs
      · exact pcsL_ok hd k false hm hb s hs
theorem s_pieces {dir : Int} (hd : dir = 1 \/ dir = -1) : ∀ (n k : Nat) (full : Bool) (a b : Spk), k <= 16 -> k < n -> okS a -> okS b ->
    mR_cncref23_pieces n [I a.u, I a.w, I a.r, I a.h, I b.u, I b.w, I b.r, I b.h, I dir, B full, I (16 - k : Int)] = some [.view kSpk ((pcsL dir k full a b).map spkR)]
  | 0, k, _, _, _, _, hk, _, _ => by omega
  | n + 1, 0, full, a, b, _, _, ha, hb => by
    show mf_cncref23_pieces _ _ _ _ = _
    rw [mf_cncref23_pieces_eq, bif_pos (by omega)]
    rfl
  | n + 1, k + 1, full, a, b, hk, hn, ha, hb => by
    have hm := midS_ok ha hb hd full
    have i1 := s_pieces hd n k false a (midS a b dir full) (by omega) (by omega) ha hm
    have i2 := s_pieces hd n k false (midS a b dir full) b (by omega) (by omega) hm hb
    have e1 := s_cncref23_settled ha hb hd full
    have e2 := s_cncref23_Middle ha hb hd full
    show mf_cncref23_pieces (mR_cncref23_pieces n) m_cncref23_Middle m_cncref23_settled _ = _
    generalize mR_cncref23_pieces n = MP at *
    generalize m_cncref23_Middle = MM at *
    generalize m_cncref23_settled = MS at *
    have l1 := (pcsL_len k false a (midS a b dir full) (dir := dir)).2
    have l2 := (pcsL_len k false (midS a b dir full) b (dir := dir)).2
    have l3 : 2 ^ k <= 2 ^ 16 := Nat.pow_le_pow_right (by omega) (by omega)
    rw [mf_cncref23_pieces_eq, bif_neg (by omega), wrap_id (by omega), show (16 - ((k + 1 : Nat) : Int) + 1) = 16 - (k : Int) by omega]
    unfold pcsL
    generalize midS a b dir full = m at *
    generalize pcsL dir k false a m = p1 at *
    generalize pcsL dir k false m b = p2 at *
    simp only [List.cons_append, List.nil_append, spkR] at e2
    simp only [e1, e2, Option.bind_some, nth_zero', nth_1, nth_2, nth_3, intOf_int, gA, jA, wA, bA, boolOf_bool, i1, i2, rowsOf_view]
    by_cases c : setS a b dir full
    · rw [if_pos c, bif_true (decide_eq_true c)]; rfl
    · rw [if_neg c, bif_false (decide_eq_false c), bif_true]
      · rw [List.map_append]
      · have e : ((List.map spkR p1 ++ List.map spkR p2).length * 32) <= 140737488355328 := by
          simp only [List.length_append, List.length_map]
          have : (2 : Nat) ^ 16 = 65536 := rfl
          omega
        exact Nat.ble_eq_true_of_le e
end Go.Bm
/- the reference's chords -/
set_option maxRecDepth 100000
namespace Go.Bm

theorem isMid_unique {n i j : Int} (hi : IsMid n i) (hj : IsMid n j) : i = j := by
 have key : ∀ {i j : Int}, IsMid n i -> IsMid n j -> ¬ i < j := by
  rintro i j ⟨h1, h2, -⟩ ⟨h4, h5, h6⟩ hlt
  rcases h6 with h6 | h6
  ·omega
  ·have h7 := Int.mul_le_mul (show i <= j - 1 by omega) (show i + 1 <= j by omega) (by omega) (by omega)
   omega
 have h1 := key hi hj
 have h2 := key hj hi
 omega
open Classical in
noncomputable def midR (n : Int) : Int := if h : ∃ j, IsMid n j then Classical.choose h else 0
theorem midR_of {n k : Int} (h : IsMid n k) : midR n = k := by
 have hx : ∃ j, IsMid n j := ⟨k, h⟩
 unfold midR
 rw [dif_pos hx]
 exact isMid_unique (Classical.choose_spec hx) h
theorem isMid_nat {n r : Nat} (h1 : r * r <= n) (h2 : n < (r + 1) * (r + 1)) : IsMid n (if r * r + r < n then r + 1 else r : Nat) := by
 have e0 : (r + 1) * (r + 1) = r * r + r + r + 1 := by grind
 unfold IsMid
 by_cases c : r * r + r < n
 ·rw [if_pos c]
  have e1 : ((r + 1 : Nat) : Int) * (((r + 1 : Nat) : Int) + 1) = ((r * r + r + r + r + 2 : Nat) : Int) := by
   have : ((r + 1 : Nat) : Int) + 1 = ((r + 2 : Nat) : Int) := by omega
   rw [this, <- Int.natCast_mul]
   congr 1
   grind
  have e2 : (((r + 1 : Nat) : Int) - 1) * ((r + 1 : Nat) : Int) = ((r * r + r : Nat) : Int) := by
   rw [show ((r + 1 : Nat) : Int) - 1 = (r : Int) by omega, <- Int.natCast_mul]
   congr 1
  rw [e1, e2]
  generalize r * r = A at *
  exact ⟨by omega, by omega, .inr (by omega)⟩
 ·rw [if_neg c]
  have e1 : (r : Int) * ((r : Int) + 1) = ((r * r + r : Nat) : Int) := by
   rw [show (r : Int) + 1 = ((r + 1 : Nat) : Int) by omega, <- Int.natCast_mul]
   congr 1
  rw [e1]
  refine ⟨by omega, by omega, ?_⟩
  rcases Nat.eq_zero_or_pos r with h | h
  ·left; omega
  ·right
   have e2 : ((r : Int) - 1) * (r : Int) = (((r - 1) * r : Nat) : Int) := by
    rw [show (r : Int) - 1 = ((r - 1 : Nat) : Int) by omega]; exact (Int.natCast_mul _ _).symm
   have := Nat.mul_lt_mul_of_pos_right (show r - 1 < r by omega) h
   rw [e2]; omega
noncomputable def endS (it : Itm) (p : Pt) : Spk := ⟨dU it p * 16, dW it p * 16, midR (sq2 (dU it p * 16) (dW it p * 16)), plH it.plane p * 16⟩
theorem mid_bd {n : Nat} (hn : n <= 2251799813685248) : 0 <= midR n /\ midR n <= 50000000 := by
 obtain ⟨r, -, h2, h3, -⟩ := s_cncref23_root (n := n) (by omega)
 have hm := isMid_nat h2 h3
 rw [midR_of hm]
 have : r < 50000000 := by
  by_cases c : r < 50000000
  ·exact c
  ·have := Nat.mul_le_mul (show 50000000 <= r by omega) (show 50000000 <= r by omega)
   omega
 split <;> omega
theorem endS_sq {it : Itm} {p : Pt} (hc : bd 1048576 it.ce) (hp : bd 1048576 p) : (dU it p * 16).natAbs <= 33554432 /\ (dW it p * 16).natAbs <= 33554432 /\ 0 <= sq2 (dU it p * 16) (dW it p * 16) /\ sq2 (dU it p * 16) (dW it p * 16) <= 2251799813685248 := by
 obtain ⟨h1, h2⟩ := dU_bd hc hp
 have h3 : (dU it p * 16).natAbs <= 33554432 := by omega
 have h4 : (dW it p * 16).natAbs <= 33554432 := by omega
 have q1 := sq_bd h3
 have q2 := sq_bd h4
 refine ⟨h3, h4, ?_⟩
 unfold sq2
 omega
theorem endS_ok {it : Itm} {p : Pt} (hc : bd 1048576 it.ce) (hp : bd 1048576 p) : okS (endS it p) := by
 obtain ⟨h1, h2, h3, h4⟩ := endS_sq hc hp
 have h5 := (pl_bd (pl := it.plane) hp).2.2
 obtain ⟨n, hn⟩ := Int.eq_ofNat_of_zero_le h3
 refine ⟨Nat.le_trans h1 (by decide), Nat.le_trans h2 (by decide), ?_, ?_⟩
 ·show 0 <= midR _ /\ midR _ <= _
  rw [hn] at h4 ⊢
  exact mid_bd (by omega)
 ·show (plH it.plane p * 16).natAbs <= _
  omega
theorem a_cncref23_spoke {MR MD : List AC -> Option (List AC)} {u w h : Int} {n r : Nat} (hu : u.natAbs <= 100000000) (hw : w.natAbs <= 100000000) (hh : h.natAbs <= 100000000) (hn : sq2 (u * 16) (w * 16) = n) (hn2 : n <= 2251799813685248)
  (hD : MD [I (u * 16), I (w * 16), I 0, I (h * 16), I (u * 16), I (w * 16), I 0, I (h * 16)] = some [I (sq2 (u * 16) (w * 16))]) (hR : MR [I n] = some [I r]) (h2 : r * r <= n) (h3 : n < (r + 1) * (r + 1)) :
  mf_cncref23_spoke MR MD [I u, I w, I 0, I h] = some (spkR ⟨u * 16, w * 16, midR n, h * 16⟩) := by
 have hm := isMid_nat h2 h3
 rw [midR_of hm]
 rw [mf_cncref23_spoke_eq, wrap_id (x := u * 16) (by omega), wrap_id (x := w * 16) (by omega), wrap_id (x := h * 16) (by omega)]
 have hr : r <= r * r := by
  rcases Nat.eq_zero_or_pos r with h | h
  ·subst h; simp
  ·exact Nat.le_mul_of_pos_left r h
 have e1 : (r : Int) * ((r : Int) + 1) = ((r * r + r : Nat) : Int) := by
  rw [show (r : Int) + 1 = ((r + 1 : Nat) : Int) by omega, <- Int.natCast_mul]
  congr 1
 have w1 : IntKind.i64.wrap ((r : Int) * ((r + 1 : Nat) : Int)) = ((r * r + r : Nat) : Int) := by
  rw [show ((r + 1 : Nat) : Int) = (r : Int) + 1 by omega, e1, wrap_id (by omega)]
 have w2 : IntKind.i64.wrap ((r : Int) + 1) = ((r + 1 : Nat) : Int) := by rw [wrap_id (by omega)]; omega
 simp only [go_sem, hD, hn, hR, w1, w2]
 by_cases c : r * r + r < n
 ·rw [if_pos (by omega), if_pos c]
 ·rw [if_neg (by omega), if_neg c]
theorem s_cncref23_spoke {it : Itm} {p : Pt} (hc : bd 1048576 it.ce) (hp : bd 1048576 p) : m_cncref23_spoke [I (dU it p), I (dW it p), I 0, I (plH it.plane p)] = some (spkR (endS it p)) := by
 obtain ⟨h1, h2, h3, h4⟩ := endS_sq hc hp
 obtain ⟨n, hn⟩ := Int.eq_ofNat_of_zero_le h3
 have h5 := (pl_bd (pl := it.plane) hp).2.2
 have h6 := dU_bd hc hp
 have hd := s_cncref23_Dot (r := 0) (h := plH it.plane p * 16) (s := 0) (g := plH it.plane p * 16) (Nat.le_trans h1 (by decide)) (Nat.le_trans h2 (by decide)) (Nat.le_trans h1 (by decide)) (Nat.le_trans h2 (by decide))
 rw [hn] at h4
 obtain ⟨r, r1, r2, r3, -⟩ := s_cncref23_root (n := n) (by omega)
 have := a_cncref23_spoke (MR := m_cncref23_root) (MD := m_cncref23_Dot) (u := dU it p) (w := dW it p) (h := plH it.plane p) (by omega) (by omega) (by omega) hn (by omega) hd r1 r2 r3
 rw [show endS it p = ⟨dU it p * 16, dW it p * 16, midR n, plH it.plane p * 16⟩ from by unfold endS; rw [hn]]
 exact this
theorem a_cncref23_Ends {MS ME : List AC -> Option (List AC)} {it : Itm} (h1 : ME (itmR it) = some [I (dU it it.fr), I (dW it it.fr), I 0, I (plH it.plane it.fr), I (dU it it.to), I (dW it it.to), I 0, I (plH it.plane it.to)])
  (h2 : MS [I (dU it it.fr), I (dW it it.fr), I 0, I (plH it.plane it.fr)] = some (spkR (endS it it.fr))) (h3 : MS [I (dU it it.to), I (dW it it.to), I 0, I (plH it.plane it.to)] = some (spkR (endS it it.to))) :
  mf_cncref23_Ends MS ME (itmR it) = some (spkR (endS it it.fr) ++ spkR (endS it it.to)) := by
 rw [mf_cncref23_Ends_eq]
 simp only [go_sem, h1, h2, h3]
 rfl
theorem s_cncref23_Ends {it : Itm} (h : validI it) (h3 : it.kind = 3) : m_cncref23_Ends (itmR it) = some (spkR (endS it it.fr) ++ spkR (endS it it.to)) := by
 obtain ⟨-, h1, h2, ha⟩ := h
 obtain ⟨hp, -, hc, -⟩ := ha h3
 exact a_cncref23_Ends (s_cncref23_ends hp (by decide) h1 h2 hc) (s_cncref23_spoke hc h1) (s_cncref23_spoke hc h2)

noncomputable def spokesP (it : Itm) : List Spk := endS it it.fr :: pcsL it.dir 16 it.full (endS it it.fr) (endS it it.to)
theorem spokesP_ok {it : Itm} (h : validI it) (h3 : it.kind = 3) : ∀ s ∈ spokesP it, okS s := by
 obtain ⟨-, h1, h2, ha⟩ := h
 obtain ⟨hp, hd, hc, -⟩ := ha h3
 intro s hs
 rcases List.mem_cons.1 hs with rfl | hs
 ·exact endS_ok hc h1
 ·exact pcsL_ok hd 16 _ (endS_ok hc h1) (endS_ok hc h2) s hs
theorem spokesP_len (it : Itm) : 2 <= (spokesP it).length /\ (spokesP it).length <= 65537 := by
 have := pcsL_len (dir := it.dir) 16 it.full (endS it it.fr) (endS it it.to)
 have e : (2 : Nat) ^ 16 = 65536 := rfl
 rw [e] at this
 unfold spokesP
 rw [List.length_cons]
 omega
theorem a_cncref23_Spokes {MP ME MV : List AC -> Option (List AC)} {it : Itm} (hV : ∃ v, MV (itmR it) = some [B v] /\ (v = true ↔ validI it)) (h : validI it)
  (hE : it.kind = 3 -> ME (itmR it) = some (spkR (endS it it.fr) ++ spkR (endS it it.to)))
  (hP : it.kind = 3 -> MP (spkR (endS it it.fr) ++ spkR (endS it it.to) ++ [I it.dir, B it.full, I 0]) = some [.view kSpk ((pcsL it.dir 16 it.full (endS it it.fr) (endS it it.to)).map spkR)]) :
  mf_cncref23_Spokes MP ME MV (itmR it) = if it.kind = 3 then some [.view kSpk ((spokesP it).map spkR), B true] else some [.view kSpk [], B false] := by
 obtain ⟨v, hv, hvv⟩ := hV
 rw [mf_cncref23_Spokes_eq]
 by_cases h3 : it.kind = 3
 ·have e := hE h3
  have p := hP h3
  have hl := (spokesP_len it).2
  unfold spokesP at hl ⊢
  generalize endS it it.fr = a at *
  generalize endS it it.to = b at *
  generalize pcsL it.dir 16 it.full a b = l at *
  simp only [List.cons_append, List.nil_append] at e p
  simp only [go_sem, hv, e, p]
  rw [if_neg (by simp [h3]), if_neg (by simp [hvv.2 h]), if_pos (by simp at hl ⊢; omega), if_pos h3]
  rfl
 ·simp only [go_sem]
  rw [if_pos h3, if_neg h3]
theorem s_cncref23_Spokes {it : Itm} (h : validI it) : m_cncref23_Spokes (itmR it) = if it.kind = 3 then some [.view kSpk ((spokesP it).map spkR), B true] else some [.view kSpk [], B false] := by
 refine a_cncref23_Spokes (s_cncref23_Valid it) h (fun h3 => s_cncref23_Ends h h3) fun h3 => ?_
 obtain ⟨-, h1, h2, ha⟩ := h
 obtain ⟨hp, hd, hc, -⟩ := ha h3
 exact s_pieces hd 20 16 it.full _ _ (by omega) (by omega) (endS_ok hc h1) (endS_ok hc h2)

noncomputable def chPt (it : Itm) (s : Spk) : Pt := spP it.plane (plU it.plane (fine it.ce) + s.u) (plW it.plane (fine it.ce) + s.w) s.h
noncomputable def chordsP (it : Itm) : List Pt := if it.kind = 3 then (spokesP it).map (chPt it) else [fine it.fr, fine it.to]
theorem sp_bd {pl u w h : Int} {b : Nat} (hu : u.natAbs <= b) (hw : w.natAbs <= b) (hh : h.natAbs <= b) : bd b (spP pl u w h) := by
 unfold spP bd
 split
 ·exact ⟨hu, hw, hh⟩
 ·split
  ·exact ⟨hw, hh, hu⟩
  ·exact ⟨hh, hu, hw⟩
theorem chPt_bd {it : Itm} {s : Spk} (hc : bd 1048576 it.ce) (hs : okS s) : bd 67108864 (chPt it s) := by
 obtain ⟨h1, h2, -⟩ := pl_bd (pl := it.plane) (fine_bd hc)
 obtain ⟨s1, s2, -, s4⟩ := hs
 exact sp_bd (by omega) (by omega) (by omega)
theorem chordsP_bd {it : Itm} (h : validI it) : ∀ p ∈ chordsP it, bd 67108864 p := by
 intro p hp
 unfold chordsP at hp
 split at hp
 ·rename_i h3
  simp only [List.mem_map] at hp
  obtain ⟨s, hs, rfl⟩ := hp
  exact chPt_bd (h.2.2.2 h3).2.2.1 (spokesP_ok h h3 s hs)
 ·simp at hp
  rcases hp with rfl | rfl
  ·exact bd_mono (fine_bd h.2.1) (by decide)
  ·exact bd_mono (fine_bd h.2.2.1) (by decide)
theorem l_Chords {MS MP MF MK MV : List AC -> Option (List AC)} {it : Itm} {l : List Spk} {cu cw : Int} (hl : l.length <= 65537) (hcu : cu.natAbs <= 16777216) (hcw : cw.natAbs <= 16777216) (hok : ∀ s ∈ l, okS s)
  (hS : ∀ {u w h : Int}, MS [I u, I w, I h, I it.plane] = some (ptR (spP it.plane u w h))) :
  ∀ (k i : Nat), i + k = l.length -> loopC (st_cncref23_Chords_9 MS MP MF MK MV) (.view kPt (((l.take i).map fun s => spP it.plane (cu + s.u) (cw + s.w) s.h).map ptR) :: I cu :: I cw :: .view kSpk (l.map spkR) :: I l.length :: I i :: itmR it) =
   some (1, [.view kPt ((l.map fun s => spP it.plane (cu + s.u) (cw + s.w) s.h).map ptR)])
 | 0, i, hi => by
  refine loop_end ?_ (by simp)
  rw [st_cncref23_Chords_9_eq]
  simp only [go_sem]
  rw [if_neg (by omega), List.take_of_length_le (by omega)]
 | k + 1, i, hi => by
  have hlt : i < l.length := by omega
  have hs : st_cncref23_Chords_9 MS MP MF MK MV (.view kPt (((l.take i).map fun s => spP it.plane (cu + s.u) (cw + s.w) s.h).map ptR) :: I cu :: I cw :: .view kSpk (l.map spkR) :: I l.length :: I i :: itmR it) =
    some (0, .view kPt (((l.take (i + 1)).map fun s => spP it.plane (cu + s.u) (cw + s.w) s.h).map ptR) :: I cu :: I cw :: .view kSpk (l.map spkR) :: I l.length :: I (i + 1 : Nat) :: itmR it) := by
   rw [st_cncref23_Chords_9_eq]
   have hr : nth [] (l.map spkR) i = spkR l[i] := nth_map _ _ _ _ hlt
   have ho := hok _ (List.getElem_mem hlt)
   have ht : l.take (i + 1) = l.take i ++ [l[i]] := by rw [List.take_add_one, List.getElem?_eq_getElem hlt]; rfl
   rw [ht]
   generalize l[i] = s at *
   obtain ⟨s1, s2, -⟩ := ho
   simp only [go_sem, Int.toNat_natCast, List.length_map, hr]
   rw [if_pos (by omega), if_pos (by omega), wrap_id (x := cu + s.u) (by omega), wrap_id (x := cw + s.w) (by omega), wrap_id (x := (i : Int) + 1) (by omega)]
   simp only [hS, go_sem]
   rw [if_pos (by simp only [List.length_append, List.length_map, List.length_take, List.length_cons, List.length_nil]; omega), List.map_append, List.map_append]
   rfl
  rw [loop_more hs]
  exact l_Chords hl hcu hcw hok hS k (i + 1) (by omega)
theorem a_cncref23_Chords {MS MP MF MK MV : List AC -> Option (List AC)} {it : Itm} (hV : ∃ v, MV (itmR it) = some [B v] /\ (v = true ↔ validI it)) (h : validI it)
  (hK : MK (itmR it) = if it.kind = 3 then some [.view kSpk ((spokesP it).map spkR), B true] else some [.view kSpk [], B false])
  (hF : ∀ {p : Pt}, bd 100000000 p -> MF [I p.x, I p.y, I p.z] = some (ptR (fine p))) (hP : isPl it.plane -> ∀ {p : Pt}, MP [I p.x, I p.y, I p.z, I it.plane] = some [I (plU it.plane p), I (plW it.plane p), I (plH it.plane p)])
  (hS : isPl it.plane -> ∀ {u w h : Int}, MS [I u, I w, I h, I it.plane] = some (ptR (spP it.plane u w h))) :
  mf_cncref23_Chords MS MP MF MK MV (loopC (st_cncref23_Chords_9 MS MP MF MK MV)) (itmR it) = some [.view kPt ((chordsP it).map ptR), B true] := by
 obtain ⟨v, hv, hvv⟩ := hV
 rw [mf_cncref23_Chords_eq]
 have hv1 := hvv.2 h
 subst hv1
 obtain ⟨-, h1, h2, ha⟩ := id h
 by_cases h3 : it.kind = 3
 ·obtain ⟨hp, hd, hc, -⟩ := ha h3
  rw [if_pos h3] at hK
  obtain ⟨c1, c2, c3⟩ := pl_bd (pl := it.plane) (fine_bd hc)
  have hl := l_Chords (MS := MS) (MP := MP) (MF := MF) (MK := MK) (MV := MV) (it := it) (l := spokesP it) (cu := plU it.plane (fine it.ce)) (cw := plW it.plane (fine it.ce)) (spokesP_len it).2 c1 c2 (spokesP_ok h h3) (hS hp) (spokesP it).length 0 (by omega)
  have hl' : loopC (st_cncref23_Chords_9 MS MP MF MK MV) [.view kPt [], I (plU it.plane (fine it.ce)), I (plW it.plane (fine it.ce)), .view kSpk ((spokesP it).map spkR), I (spokesP it).length, I 0, I it.kind, I it.block, I it.fr.x, I it.fr.y, I it.fr.z, I it.to.x, I it.to.y, I it.to.z, I it.plane, I it.ce.x, I it.ce.y, I it.ce.z, I it.dir, B it.full, I it.feed, B it.perRev, I it.side, I it.radius, I it.blend, I it.n, I it.speed, B it.on] =
   some (1, [.view kPt (((spokesP it).map fun s => spP it.plane (plU it.plane (fine it.ce) + s.u) (plW it.plane (fine it.ce) + s.w) s.h).map ptR)]) := hl
  have hf := hF (bd_mono hc (by decide))
  unfold chordsP
  rw [if_pos h3]
  have hpp := @hP hp (fine it.ce)
  simp only [go_sem, hv, hK, hf, hpp, List.length_map, hl']
  simp only [not_true_eq_false, if_false]
  rfl
 ·rw [if_neg h3] at hK
  have f1 := hF (bd_mono h1 (by decide))
  have f2 := hF (bd_mono h2 (by decide))
  unfold chordsP
  rw [if_neg h3]
  simp only [go_sem, hv, hK, f1, f2]
  simp
theorem s_cncref23_Chords {it : Itm} (h : validI it) : m_cncref23_Chords (itmR it) = some [.view kPt ((chordsP it).map ptR), B true] :=
 a_cncref23_Chords (s_cncref23_Valid it) h (s_cncref23_Spokes h) s_Fine (fun hp => s_Plane hp) (fun hp => s_Space hp)
end Go.Bm
