/- laid together -/
import Derived.Test.YtdllaekpkcanbaaGreatPrRt
import Derived.Lib.ItoaNum
import Derived.Test.YtdllaekpkcanbaaGreatMx5
set_option linter.unusedVariables false
set_option linter.unusedSimpArgs false
/- what the library's division of two words by one gives; a quotient of two words; a b / sqrt n -/
set_option maxRecDepth 100000
namespace Go.Bm

theorem kn_more {a b v u q r : Nat} (hU : v < a * 4294967296 + b) (hu : u < 4294967296) (hq : v = q * a + r) (h : 4294967296 <= q \/ r * 4294967296 + u < q * b) : (v * 4294967296 + u) / (a * 4294967296 + b) < q := by
 have hy : 0 < a * 4294967296 + b := by omega
 rw [Nat.div_lt_iff_lt_mul hy]
 rcases h with h | h
 ·have h1 : 4294967296 * (a * 4294967296 + b) <= q * (a * 4294967296 + b) := Nat.mul_le_mul_right _ h
  omega
 ·have e : q * (a * 4294967296 + b) = q * a * 4294967296 + q * b := by rw [Nat.mul_add, Nat.mul_assoc]
  rw [e]
  clear e
  generalize q * a = p at *
  generalize q * b = t at *
  subst hq
  rw [Nat.add_mul p r 4294967296, Nat.add_assoc]
  exact Nat.add_lt_add_left h _
theorem kn_done {a b v u q r : Nat} (hU : v < a * 4294967296 + b) (hq : v = q * a + r) (h : q * b <= r * 4294967296 + u) : q <= (v * 4294967296 + u) / (a * 4294967296 + b) := by
 have hy : 0 < a * 4294967296 + b := by omega
 rw [Nat.le_div_iff_mul_le hy]
 have e : q * (a * 4294967296 + b) = q * a * 4294967296 + q * b := by rw [Nat.mul_add, Nat.mul_assoc]
 rw [e]
 generalize q * a = p at *
 generalize q * b = t at *
 omega
theorem kn_lt {a b v u : Nat} (hU : v < a * 4294967296 + b) (hu : u < 4294967296) : (v * 4294967296 + u) / (a * 4294967296 + b) < 4294967296 := by
 rw [Nat.div_lt_iff_lt_mul (by omega)]
 omega
theorem kn_mul {q b : Nat} (hq : q < 4294967296) (hb : b < 4294967296) : q * b <= 18446744065119617025 := by
 have := Nat.mul_le_mul (show q <= 4294967295 by omega) (show b <= 4294967295 by omega)
 omega
theorem kn_round {α : Type} {F G : Nat -> Nat -> Option α} {a b v u Q : Nat} (hQ : (v * 4294967296 + u) / (a * 4294967296 + b) = Q) (hb : b < 4294967296) (ha : 2147483648 <= a) (ha2 : a < 4294967296) (hU : v < a * 4294967296 + b) (hu : u < 4294967296) {X : α}
  (hF : ∀ q r : Nat, q <= 4294967297 -> r < 4294967296 -> F q r = if 4294967296 <= q \/ r * 4294967296 + u < q * b then (if 4294967296 <= r + a then G (q - 1) 0 else F (q - 1) (r + a)) else G q 0)
  (hG : G Q 0 = some X) : ∀ (k q r : Nat), q <= Q + k -> Q <= q -> v = q * a + r -> r < 4294967296 -> q <= 4294967297 -> F q r = some X
 | k, q, r, hk, h1, h2, h3, h4 => by
  rw [hF q r h4 h3]
  by_cases c : 4294967296 <= q \/ r * 4294967296 + u < q * b
  ·rw [if_pos c]
   have h5 := kn_more hU hu h2 c
   rw [hQ] at h5
   have e : v = (q - 1) * a + (r + a) := by
    have : (q - 1) * a + a = q * a := by rw [<- Nat.succ_mul]; congr 1; omega
    omega
   by_cases c2 : 4294967296 <= r + a
   ·rw [if_pos c2]
    have h6 : (q - 1) * b <= (r + a) * 4294967296 + u := by
     have := Nat.mul_le_mul (show q - 1 <= 4294967296 by omega) (show b <= 4294967296 by omega)
     omega
    have h7 := kn_done hU e h6
    rw [hQ] at h7
    rw [show q - 1 = Q by omega]
    exact hG
   ·rw [if_neg c2]
    match k with
    | 0 => omega
    | k + 1 => exact kn_round hQ hb ha ha2 hU hu hF hG k (q - 1) (r + a) (by omega) (by omega) e (by omega) (by omega)
  ·rw [if_neg c]
   have h7 := kn_done (u := u) hU h2 (by omega)
   rw [hQ] at h7
   rw [show q = Q by omega]
   exact hG
theorem kn_first {a b v u : Nat} (hb : b < 4294967296) (ha : 2147483648 <= a) (hU : v < a * 4294967296 + b) (hu : u < 4294967296) : (v * 4294967296 + u) / (a * 4294967296 + b) <= v / a /\ v / a <= 4294967297 /\ v = v / a * a + v % a /\ v % a < a := by
 have e : v = v / a * a + v % a := by have := Nat.div_add_mod v a; rw [Nat.mul_comm] at this; omega
 have hm : v % a < a := Nat.mod_lt _ (by omega)
 refine ⟨?_, ?_, e, hm⟩
 ·rw [<- Nat.lt_succ_iff, Nat.div_lt_iff_lt_mul (by omega)]
  have e2 : (v / a).succ * (a * 4294967296 + b) = (v / a * a + a) * 4294967296 + (v / a).succ * b := by rw [Nat.mul_add, <- Nat.mul_assoc, Nat.succ_mul]
  rw [e2]
  omega
 ·rw [<- Nat.lt_succ_iff, Nat.div_lt_iff_lt_mul (by omega)]
  omega
theorem wr {x : Nat} (h : x <= 18446744073709551615) : IntKind.u64.wrap (x : Int) = x := Qd2 (by omega)
theorem l_dv17 {M : List AC -> Option (List AC)} {y s v0 : Int} {a b v u : Nat} (hb : b < 4294967296) (ha : 2147483648 <= a) (ha2 : a < 4294967296) (hU : v < a * 4294967296 + b) (hu : u < 4294967296) :
  Qbl (Qgu M) [U y, U s, U a, U b, U v, U u, U v0, U ((v / a : Nat) : Int), U ((v % a : Nat) : Int)] = some (1, [U y, U s, U a, U b, U v, U u, U v0, U (((v * 4294967296 + u) / (a * 4294967296 + b) : Nat) : Int)]) := by
 obtain ⟨f1, f2, f3, f4⟩ := kn_first hb ha hU hu
 refine kn_round (F := fun q r => Qbl (Qgu M) [U y, U s, U a, U b, U v, U u, U v0, U q, U r]) (G := fun q _ => some (1, [U y, U s, U a, U b, U v, U u, U v0, U q])) rfl hb ha ha2 hU hu ?_ rfl (v / a) _ _ (Nat.le_add_left _ _) f1 f3 (by omega) f2
 intro q r hq hr
 have w1 : IntKind.u64.wrap ((r : Int) + (a : Int)) = ((r + a : Nat) : Int) := by rw [<- Int.natCast_add, wr (by omega)]
 have w3 : IntKind.u64.wrap (IntKind.u64.wrap (4294967296 * (r : Int)) + (u : Int)) = ((r * 4294967296 + u : Nat) : Int) := by rw [show (4294967296 : Int) * r = ((r * 4294967296 : Nat) : Int) by omega, wr (by omega), <- Int.natCast_add, wr (by omega)]
 have w4 : 4294967296 <= q -> IntKind.u64.wrap ((q : Int) - 1) = ((q - 1 : Nat) : Int) := fun h => by rw [show (q : Int) - 1 = ((q - 1 : Nat) : Int) by omega, wr (by omega)]
 have hst := st_bits_Div64_17_eq (Qay := M) y s a b v u v0 q r
 rw [w1, w3] at hst
 by_cases c1 : 4294967296 <= q
 ·rw [Qgh (show (q : Int) >= 4294967296 by omega), w4 c1] at hst
  show _ = if _ then _ else _
  rw [if_pos (.inl c1)]
  by_cases c2 : 4294967296 <= r + a
  ·rw [Qgh (show ((r + a : Nat) : Int) >= 4294967296 by omega)] at hst
   rw [if_pos c2]
   exact Qbn hst (by simp)
  ·rw [Qcs (show ¬ ((r + a : Nat) : Int) >= 4294967296 by omega)] at hst
   rw [if_neg c2]
   exact Qbk hst
 ·have hqb := kn_mul (q := q) (b := b) (by omega) hb
  rw [Qcs (show ¬ (q : Int) >= 4294967296 by omega), <- Int.natCast_mul, wr (Nat.le_trans hqb (by decide))] at hst
  show _ = if _ then _ else _
  by_cases c3 : r * 4294967296 + u < q * b
  ·rw [Qgh (show ((q * b : Nat) : Int) > ((r * 4294967296 + u : Nat) : Int) by omega)] at hst
   rw [if_pos (.inr c3)]
   have hq0 : 0 < q := by
    rcases Nat.eq_zero_or_pos q with h | h
    ·rw [h] at c3; omega
    ·exact h
   rw [show (q : Int) - 1 = ((q - 1 : Nat) : Int) by omega, wr (by omega)] at hst
   by_cases c2 : 4294967296 <= r + a
   ·rw [Qgh (show ((r + a : Nat) : Int) >= 4294967296 by omega)] at hst
    rw [if_pos c2]
    exact Qbn hst (by simp)
   ·rw [Qcs (show ¬ ((r + a : Nat) : Int) >= 4294967296 by omega)] at hst
    rw [if_neg c2]
    exact Qbk hst
  ·rw [Qcs (show ¬ ((q * b : Nat) : Int) > ((r * 4294967296 + u : Nat) : Int) by omega)] at hst
   rw [if_neg (fun h => h.elim c1 c3)]
   exact Qbn hst (by simp)
theorem l_dv24 {M : List AC -> Option (List AC)} {N : List AC -> Option (Nat × List AC)} {y s q1 w : Int} {a b v u : Nat} (hb : b < 4294967296) (ha : 2147483648 <= a) (ha2 : a < 4294967296) (hU : v < a * 4294967296 + b) (hu : u < 4294967296) :
  Qbl (st_bits_Div64_24 M N) [U y, U s, U a, U b, U u, U q1, U ((v % a : Nat) : Int), U w, U ((v / a : Nat) : Int)] = some (1, [U y, U s, U u, U q1, U w, U (((v * 4294967296 + u) / (a * 4294967296 + b) : Nat) : Int)]) := by
 obtain ⟨f1, f2, f3, f4⟩ := kn_first hb ha hU hu
 refine kn_round (F := fun q r => Qbl (st_bits_Div64_24 M N) [U y, U s, U a, U b, U u, U q1, U r, U w, U q]) (G := fun q _ => some (1, [U y, U s, U u, U q1, U w, U q])) rfl hb ha ha2 hU hu ?_ rfl (v / a) _ _ (Nat.le_add_left _ _) f1 f3 (by omega) f2
 intro q r hq hr
 have w1 : IntKind.u64.wrap ((r : Int) + (a : Int)) = ((r + a : Nat) : Int) := by rw [<- Int.natCast_add, wr (by omega)]
 have w3 : IntKind.u64.wrap (IntKind.u64.wrap (4294967296 * (r : Int)) + (u : Int)) = ((r * 4294967296 + u : Nat) : Int) := by rw [show (4294967296 : Int) * r = ((r * 4294967296 : Nat) : Int) by omega, wr (by omega), <- Int.natCast_add, wr (by omega)]
 have w4 : 4294967296 <= q -> IntKind.u64.wrap ((q : Int) - 1) = ((q - 1 : Nat) : Int) := fun h => by rw [show (q : Int) - 1 = ((q - 1 : Nat) : Int) by omega, wr (by omega)]
 have hst := st_bits_Div64_24_eq (Qay := M) (N17 := N) y s a b u q1 r w q
 rw [w1, w3] at hst
 by_cases c1 : 4294967296 <= q
 ·rw [Qgh (show (q : Int) >= 4294967296 by omega), w4 c1] at hst
  show _ = if _ then _ else _
  rw [if_pos (.inl c1)]
  by_cases c2 : 4294967296 <= r + a
  ·rw [Qgh (show ((r + a : Nat) : Int) >= 4294967296 by omega)] at hst
   rw [if_pos c2]
   exact Qbn hst (by simp)
  ·rw [Qcs (show ¬ ((r + a : Nat) : Int) >= 4294967296 by omega)] at hst
   rw [if_neg c2]
   exact Qbk hst
 ·have hqb := kn_mul (q := q) (b := b) (by omega) hb
  rw [Qcs (show ¬ (q : Int) >= 4294967296 by omega), <- Int.natCast_mul, wr (Nat.le_trans hqb (by decide))] at hst
  show _ = if _ then _ else _
  by_cases c3 : r * 4294967296 + u < q * b
  ·rw [Qgh (show ((q * b : Nat) : Int) > ((r * 4294967296 + u : Nat) : Int) by omega)] at hst
   rw [if_pos (.inr c3)]
   have hq0 : 0 < q := by
    rcases Nat.eq_zero_or_pos q with h | h
    ·rw [h] at c3; omega
    ·exact h
   rw [show (q : Int) - 1 = ((q - 1 : Nat) : Int) by omega, wr (by omega)] at hst
   by_cases c2 : 4294967296 <= r + a
   ·rw [Qgh (show ((r + a : Nat) : Int) >= 4294967296 by omega)] at hst
    rw [if_pos c2]
    exact Qbn hst (by simp)
   ·rw [Qcs (show ¬ ((r + a : Nat) : Int) >= 4294967296 by omega)] at hst
    rw [if_neg c2]
    exact Qbk hst
  ·rw [Qcs (show ¬ ((q * b : Nat) : Int) > ((r * 4294967296 + u : Nat) : Int) by omega)] at hst
   rw [if_neg (fun h => h.elim c1 c3)]
   exact Qbn hst (by simp)
theorem pw_s {s : Nat} (hs : s <= 63) : (2 : Int) ^ min (Int.toNat (s : Int)) IntKind.u64.bits = ((2 ^ s : Nat) : Int) := by
 have e : min (Int.toNat (s : Int)) IntKind.u64.bits = s := by
  show min (Int.toNat (s : Int)) 64 = s
  omega
 rw [e]
 simp
theorem pw_t {s : Nat} (hs : s <= 63) : (2 : Int) ^ min (Int.toNat ((64 - s : Nat) : Int)) IntKind.u64.bits = ((2 ^ (64 - s) : Nat) : Int) := by
 have e : min (Int.toNat ((64 - s : Nat) : Int)) IntKind.u64.bits = 64 - s := by
  show min (Int.toNat ((64 - s : Nat) : Int)) 64 = 64 - s
  omega
 rw [e]
 simp
theorem fdivN (x y : Nat) : ((x : Int)).fdiv (y : Int) = ((x / y : Nat) : Int) := by
 rw [Int.fdiv_eq_ediv_of_nonneg _ (by omega)]; rfl
theorem tdivN (x y : Nat) : ((x : Int)).tdiv (y : Int) = ((x / y : Nat) : Int) := by
 rw [Int.tdiv_eq_ediv_of_nonneg (by omega)]; rfl
theorem orP {A B s : Nat} (hB : B < 2 ^ s) (h : A * 2 ^ s + B < w64) : IntKind.u64.wrap (((BitVec.ofInt IntKind.u64.bits ((A * 2 ^ s : Nat) : Int) ||| BitVec.ofInt IntKind.u64.bits (B : Int)).toNat : Nat) : Int) = ((A * 2 ^ s + B : Nat) : Int) := by
 rw [Qen] at h
 have e : (BitVec.ofInt IntKind.u64.bits ((A * 2 ^ s : Nat) : Int) ||| BitVec.ofInt IntKind.u64.bits (B : Int)).toNat = A * 2 ^ s + B := by
  rw [BitVec.toNat_or]
  have e1 : ∀ v : Nat, v < 18446744073709551616 -> (BitVec.ofInt IntKind.u64.bits (v : Int)).toNat = v := by
   intro v hv
   simp only [IntKind.bits, BitVec.toNat_ofInt]
   omega
  have := (Nat.two_pow_add_eq_or_of_lt hB A).symm
  rw [Nat.mul_comm] at this
  generalize A * 2 ^ s = X at *
  rw [e1 _ (by omega), e1 _ (by omega)]
  exact this
 rw [e, wr (by omega)]
theorem rest_w {v u q1 y : Nat} (hy : y < w64) (hq : q1 = (v * 4294967296 + u) / y) (hy0 : 0 < y) : IntKind.u64.wrap (IntKind.u64.wrap (IntKind.u64.wrap ((v : Int) * 4294967296) + (u : Int)) - IntKind.u64.wrap ((q1 : Int) * (y : Int))) = (((v * 4294967296 + u) % y : Nat) : Int) := by
 have h1 := Nat.div_add_mod (v * 4294967296 + u) y
 have h2 := Nat.mod_lt (v * 4294967296 + u) hy0
 rw [<- hq, Nat.mul_comm] at h1
 rw [Qen] at hy
 rw [uwrap_mod, uwrap_mod, uwrap_mod, uwrap_mod, <- Int.natCast_mul]
 generalize q1 * y = p at *
 generalize (v * 4294967296 + u) % y = r at *
 omega
theorem rest0 {v a : Nat} (ha : 0 < a) (hv : v < w64) : IntKind.u64.wrap ((v : Int) - IntKind.u64.wrap (IntKind.u64.wrap ((v / a : Nat) : Int) * (a : Int))) = ((v % a : Nat) : Int) := by
 have h1 := Nat.div_add_mod v a
 have h2 := Nat.mod_lt v ha
 have h3 := Nat.div_le_self v a
 rw [Qen] at hv
 rw [wr (x := v / a) (by omega), <- Int.natCast_mul]
 rw [Nat.mul_comm] at h1
 generalize v / a * a = p at *
 generalize v % a = r at *
 rw [wr (x := p) (by omega), show (v : Int) - (p : Int) = (r : Int) by omega, wr (by omega)]
theorem kn_both {v u1 u0 Y : Nat} (hY : 0 < Y) : (v * w64 + (u1 * 4294967296 + u0)) / Y = (v * 4294967296 + u1) / Y * 4294967296 + ((v * 4294967296 + u1) % Y * 4294967296 + u0) / Y /\
  (v * w64 + (u1 * 4294967296 + u0)) % Y = ((v * 4294967296 + u1) % Y * 4294967296 + u0) % Y := by
 have e : v * w64 + (u1 * 4294967296 + u0) = ((v * 4294967296 + u1) % Y * 4294967296 + u0) + (v * 4294967296 + u1) / Y * 4294967296 * Y := by
  have h := Nat.div_add_mod (v * 4294967296 + u1) Y
  rw [Nat.mul_comm] at h
  rw [Qen]
  generalize (v * 4294967296 + u1) % Y = r at *
  have e2 : (v * 4294967296 + u1) / Y * 4294967296 * Y = (v * 4294967296 + u1) / Y * Y * 4294967296 := by rw [Nat.mul_assoc, Nat.mul_comm 4294967296, <- Nat.mul_assoc]
  rw [e2]
  generalize (v * 4294967296 + u1) / Y * Y = p at *
  omega
 rw [e, Nat.add_mul_div_right _ _ hY, Nat.add_mul_mod_self_right]
 exact ⟨Nat.add_comm _ _, rfl⟩
theorem a_bits_Div64 {M : List AC -> Option (List AC)} {hi lo y s : Nat} (h0 : 0 < hi) (h1 : hi < y) (hyw : y < w64) (hlo : lo < w64) (hs : s <= 63) (h2 : 9223372036854775808 <= y * 2 ^ s) (h3 : y * 2 ^ s < w64) (hM : M [U y] = some [I s]) :
  mf_bits_Div64 M (Qbl (Qgu M)) (Qbl (st_bits_Div64_24 M (Qbl (Qgu M)))) [U hi, U lo, U y] = some [U (((hi * w64 + lo) / y : Nat) : Int), U (((hi * w64 + lo) % y : Nat) : Int)] := by
 have hP : 0 < 2 ^ s := Nat.two_pow_pos _
 have hPT : 2 ^ s * 2 ^ (64 - s) = w64 := by rw [Qen, <- Nat.pow_add, show s + (64 - s) = 64 by omega]
 have hT : 0 < 2 ^ (64 - s) := Nat.two_pow_pos _
 have es : IntKind.u64.wrap (s : Int) = s := wr (by omega)
 have et : IntKind.u64.wrap (64 - (s : Int)) = ((64 - s : Nat) : Int) := by rw [show (64 : Int) - s = ((64 - s : Nat) : Int) by omega, wr (by omega)]
 have hB : lo / 2 ^ (64 - s) < 2 ^ s := by rw [Nat.div_lt_iff_lt_mul hT, hPT]; exact hlo
 have hv : hi * 2 ^ s + lo / 2 ^ (64 - s) < y * 2 ^ s := by
  have : hi * 2 ^ s + 2 ^ s <= y * 2 ^ s := by rw [<- Nat.succ_mul]; exact Nat.mul_le_mul_right _ h1
  omega
 -- the whole, moved
 have hN : (hi * w64 + lo) * 2 ^ s = (hi * 2 ^ s + lo / 2 ^ (64 - s)) * w64 + lo * 2 ^ s % w64 := by
  have e1 : lo * 2 ^ s / w64 = lo / 2 ^ (64 - s) := by
   rw [<- hPT, Nat.mul_comm lo, Nat.mul_div_mul_left _ _ hP]
  have e2 := Nat.div_add_mod (lo * 2 ^ s) w64
  rw [e1] at e2
  rw [Nat.add_mul, Nat.add_mul, Nat.add_assoc, Nat.mul_comm (lo / 2 ^ (64 - s)), e2]
  congr 1
  rw [Nat.mul_assoc, Nat.mul_comm w64, Nat.mul_assoc]
 have hU : lo * 2 ^ s % w64 < w64 := Nat.mod_lt _ w64_pos
 have ey : IntKind.u64.wrap ((y : Int) * ((2 ^ s : Nat) : Int)) = ((y * 2 ^ s : Nat) : Int) := by rw [<- Int.natCast_mul, wr (Nat.le_of_lt_succ (by rw [Qen] at h3; exact h3))]
 have eh : IntKind.u64.wrap ((hi : Int) * ((2 ^ s : Nat) : Int)) = ((hi * 2 ^ s : Nat) : Int) := by
  rw [<- Int.natCast_mul, wr (Nat.le_of_lt_succ (by have := Nat.mul_lt_mul_of_pos_right h1 hP; rw [Qen] at h3; exact Nat.lt_trans this h3))]
 have el : IntKind.u64.wrap ((lo : Int) * ((2 ^ s : Nat) : Int)) = ((lo * 2 ^ s % w64 : Nat) : Int) := by
  rw [<- Int.natCast_mul, uwrap_mod, Qen]; rfl
 have eo := orP (A := hi) (B := lo / 2 ^ (64 - s)) (s := s) hB (by omega)
 have hq : (hi * w64 + lo) / y = (hi * w64 + lo) * 2 ^ s / (y * 2 ^ s) := (Nat.mul_div_mul_right _ _ hP).symm
 have hr : (hi * w64 + lo) % y = (hi * w64 + lo) * 2 ^ s % (y * 2 ^ s) / 2 ^ s := by rw [Nat.mul_mod_mul_right, Nat.mul_div_cancel _ hP]
 rw [hq, hr, hN]
 rw [mf_bits_Div64_eq]
 simp only [hM, Option.bind_some, nth_zero', nth_1, nth_2, nth_3, nth_4, nth_5, nth_6, nth_7, Qi0, gA, jA, wA, bA, es, et, pw_s hs, pw_t hs, ey, eh, el, fdivN, eo]
 rw [Qhy (by simp; omega), Qcs (show ¬ (y : Int) <= hi by omega), Qhy (by simp; omega), Qcs (show ¬ (s : Int) < 0 by omega), Qcs (show ¬ (s : Int) < 0 by omega), Qcs (show ¬ ((64 - s : Nat) : Int) < 0 by omega), Qcs (show ¬ (s : Int) < 0 by omega)]
 rw [shr32, and32 _ h3, shr32, and32 _ hU]
 have hY : y * 2 ^ s = y * 2 ^ s / 4294967296 * 4294967296 + y * 2 ^ s % 4294967296 := by omega
 have hW : lo * 2 ^ s % w64 = lo * 2 ^ s % w64 / 4294967296 * 4294967296 + lo * 2 ^ s % w64 % 4294967296 := by omega
 have hb : y * 2 ^ s % 4294967296 < 4294967296 := Nat.mod_lt _ (by omega)
 have hu0 : lo * 2 ^ s % w64 % 4294967296 < 4294967296 := Nat.mod_lt _ (by omega)
 have hu1 : lo * 2 ^ s % w64 / 4294967296 < 4294967296 := by rw [Qen] at hU ⊢; omega
 have ha : 2147483648 <= y * 2 ^ s / 4294967296 := by omega
 have ha2 : y * 2 ^ s / 4294967296 < 4294967296 := by rw [Qen] at h3; omega
 clear hN hq hr eh el eo ey hB
 generalize hi * 2 ^ s + lo / 2 ^ (64 - s) = v at *
 generalize lo * 2 ^ s % w64 = w at *
 generalize y * 2 ^ s = Y at *
 generalize w / 4294967296 = u1 at *
 generalize w % 4294967296 = u0 at *
 generalize Y / 4294967296 = a at *
 generalize Y % 4294967296 = b at *
 subst hW
 rw [Qcs (show ¬ (a : Int) = 0 by omega), tdivN, rest0 (by omega) (Nat.lt_trans hv h3), wr (x := v / a) (by have := Nat.div_le_self v a; rw [Qen] at h3; omega)]
 have hl := l_dv17 (M := M) (y := (Y : Int)) (s := s) (v0 := u0) hb ha ha2 (by rw [<- hY]; exact hv) hu1
 rw [hl]
 rw [<- hY]
 have hY0 : 0 < Y := by omega
 have hr1 := rest_w (v := v) (u := u1) (y := Y) h3 rfl hY0
 have hq1 : (v * 4294967296 + u1) / Y < 4294967296 := by rw [hY]; exact kn_lt (by rw [<- hY]; exact hv) hu1
 have hm1 := Nat.mod_lt (v * 4294967296 + u1) hY0
 obtain ⟨k1, k2⟩ := kn_both (v := v) (u1 := u1) (u0 := u0) hY0
 rw [k1, k2]
 clear hl k1 k2
 obtain ⟨q1, g1⟩ : ∃ q1, (v * 4294967296 + u1) / Y = q1 := ⟨_, rfl⟩
 obtain ⟨r1, g2⟩ : ∃ r1, (v * 4294967296 + u1) % Y = r1 := ⟨_, rfl⟩
 rw [g1] at hr1 hq1 ⊢
 rw [g2] at hr1 hm1 ⊢
 simp only [Option.bind_some, nth_zero', nth_1, nth_2, nth_3, nth_4, nth_5, nth_6, nth_7, Qi0, hr1]
 rw [show Nat.beq 1 1 = true from rfl, cond_true, Qcs (show ¬ (a : Int) = 0 by omega), tdivN, rest0 (by omega) (Nat.lt_trans hm1 h3), wr (x := r1 / a) (by have := Nat.div_le_self r1 a; rw [Qen] at h3; omega)]
 have hl2 := l_dv24 (M := M) (N := Qbl (Qgu M)) (y := (Y : Int)) (s := s) (q1 := q1) (w := r1) hb ha ha2 (by rw [<- hY]; exact hm1) hu0
 rw [hl2]
 rw [<- hY]
 have hr0 := rest_w (v := r1) (u := u0) (y := Y) h3 rfl hY0
 have hq0 : (r1 * 4294967296 + u0) / Y < 4294967296 := by rw [hY]; exact kn_lt (by rw [<- hY]; exact hm1) hu0
 obtain ⟨q0, g3⟩ : ∃ q0, (r1 * 4294967296 + u0) / Y = q0 := ⟨_, rfl⟩
 obtain ⟨r0, g4⟩ : ∃ r0, (r1 * 4294967296 + u0) % Y = r0 := ⟨_, rfl⟩
 rw [g3] at hr0 hq0 ⊢
 rw [g4] at hr0 ⊢
 simp only [Option.bind_some, nth_zero', nth_1, nth_2, nth_3, nth_4, nth_5, Qi0, hr0]
 rw [show Nat.beq 1 1 = true from rfl, cond_true, Qcs (show ¬ (s : Int) < 0 by omega), pw_s hs, fdivN]
 have w1 : IntKind.u64.wrap (IntKind.u64.wrap ((q1 : Int) * 4294967296) + (q0 : Int)) = ((q1 * 4294967296 + q0 : Nat) : Int) := by
  rw [show (q1 : Int) * 4294967296 = ((q1 * 4294967296 : Nat) : Int) by omega, wr (by omega), <- Int.natCast_add, wr (by omega)]
 rw [w1]
theorem s_LeadingZeros {y : Nat} (h0 : 0 < y) (h : y < w64) : ∃ s : Nat, Qce [U y] = some [I s] /\ s <= 63 /\ 9223372036854775808 <= y * 2 ^ s /\ y * 2 ^ s < w64 := by
 have hw := Qen
 obtain ⟨b1, b2, b3⟩ := Lib.bitLenAux_bounds 64 y (by rw [<- show w64 = 2 ^ 64 by rw [hw]]; exact h) (by omega)
 have hL : Lib.bitLen y = Lib.bitLenAux 64 y := rfl
 generalize hb : Lib.bitLenAux 64 y = L at *
 have hL64 : L <= 64 := by
  by_cases c : L <= 64
  ·exact c
  ·have := Nat.pow_le_pow_right (show 0 < 2 by omega) (show 64 <= L - 1 by omega)
   rw [show (2 : Nat) ^ 64 = 18446744073709551616 from rfl] at this
   omega
 refine ⟨64 - L, ?_, by omega, ?_, ?_⟩
 ·unfold Qce
  have e64 : two64 = 18446744073709551616 := rfl
  have hu : inU (y : Int) = true := by
   simp only [inU, e64, Bool.and_eq_true, decide_eq_true_eq]
   omega
  simp only [nth_zero', Qi0, gA, jA, wA, bA, hu, cond_true, Int.toNat_natCast, hL]
  rw [show (64 : Int) - (L : Int) = ((64 - L : Nat) : Int) by omega]
 ·have e : 2 ^ (L - 1) * 2 ^ (64 - L) = 9223372036854775808 := by rw [<- Nat.pow_add, show L - 1 + (64 - L) = 63 by omega]
  rw [<- e]
  exact Nat.mul_le_mul_right _ b2
 ·have e : 2 ^ L * 2 ^ (64 - L) = w64 := by rw [<- Nat.pow_add, show L + (64 - L) = 64 by omega, hw]
  rw [<- e]
  exact Nat.mul_lt_mul_of_pos_right b3 (Nat.two_pow_pos _)
theorem s_bits_Div64 {hi lo y : Nat} (h1 : hi < y) (hy : y < w64) (hlo : lo < w64) : Qf2 [U hi, U lo, U y] = some [U (((hi * w64 + lo) / y : Nat) : Int), U (((hi * w64 + lo) % y : Nat) : Int)] := by
 rcases Nat.eq_zero_or_pos hi with h | h
 ·subst h
  rw [Nat.zero_mul, Nat.zero_add]
  exact s_bits_Div64_0 hlo h1
 ·obtain ⟨s, e, e1, e2, e3⟩ := s_LeadingZeros (show 0 < y by omega) hy
  exact a_bits_Div64 h h1 hy hlo e1 e2 e3 e
end Go.Bm
/- a b / sqrt n, rounded to the nearest: what package wide gives is what the reference gives -/
set_option maxRecDepth 100000
namespace Go.Bm

theorem a_wide_quotient {M : List AC -> Option (List AC)} (hM : ∀ {hi lo y : Nat}, hi < y -> y < w64 -> lo < w64 -> M [U hi, U lo, U y] = some [U (((hi * w64 + lo) / y : Nat) : Int), U (((hi * w64 + lo) % y : Nat) : Int)])
  {hi lo y : Nat} (hhi : hi < w64) (hlo : lo < w64) (hy0 : 0 < y) (hy : y < w64) :
  ∃ qh ql : Nat, mf_wide_quotient M [U hi, U lo, U y] = some [U qh, U ql, B (decide (0 < (hi * w64 + lo) % y))] /\ qh < w64 /\ ql < w64 /\ qh * w64 + ql = (hi * w64 + lo) / y := by
 have h1 := hM (hi := 0) (lo := hi) hy0 hy hhi
 rw [Nat.zero_mul, Nat.zero_add, show ((0 : Nat) : Int) = 0 from rfl] at h1
 have hm := Nat.mod_lt hi hy0
 have h2 := hM (hi := hi % y) (lo := lo) hm hy hlo
 have e := Nat.div_add_mod hi y
 have e2 : hi * w64 + lo = hi % y * w64 + lo + hi / y * w64 * y := by
  have : hi * w64 = hi / y * w64 * y + hi % y * w64 := by
   rw [<- e, Nat.mul_add_mod, Nat.mod_mod]
   rw [show (y * (hi / y) + hi % y) / y = hi / y from by rw [e]]
   rw [Nat.add_mul, Nat.mul_comm y, Nat.mul_assoc, Nat.mul_comm y, Nat.mul_assoc]
  omega
 have hq : (hi * w64 + lo) / y = (hi % y * w64 + lo) / y + hi / y * w64 := by rw [e2, Nat.add_mul_div_right _ _ hy0]
 have hr : (hi * w64 + lo) % y = (hi % y * w64 + lo) % y := by rw [e2, Nat.add_mul_mod_self_right]
 have hlt : (hi % y * w64 + lo) / y < w64 := by
  rw [Nat.div_lt_iff_lt_mul hy0]
  have : hi % y * w64 + w64 <= y * w64 := by rw [<- Nat.succ_mul]; exact Nat.mul_le_mul_right _ hm
  rw [Nat.mul_comm w64]
  omega
 refine ⟨hi / y, (hi % y * w64 + lo) / y, ?_, Nat.lt_of_le_of_lt (Nat.div_le_self _ _) hhi, hlt, by rw [hq]; omega⟩
 rw [mf_wide_quotient_eq]
 simp only [go_sem, h1, h2, hr]
 by_cases c : 0 < (hi % y * w64 + lo) % y
 ·rw [decide_eq_true c, decide_eq_true (show (((hi % y * w64 + lo) % y : Nat) : Int) > 0 by omega)]
 ·rw [decide_eq_false c, decide_eq_false (show ¬ (((hi % y * w64 + lo) % y : Nat) : Int) > 0 by omega)]

theorem over_J {A n t : Nat} (hn : 0 < n) (h1 : t * t <= 2 * A * (2 * A) / n) (h2 : 2 * A * (2 * A) / n < (t + 1) * (t + 1)) (down : Bool) {E : Prop} [Decidable E] (hE : E ↔ (2 * A * (2 * A) % n = 0 /\ t * t = 2 * A * (2 * A) / n)) :
  IsRnd A n down (if t % 2 = 1 /\ (¬ E \/ down = false) then t / 2 + 1 else t / 2) := by
 have e4 : 2 * A * (2 * A) = 4 * (A * A) := by grind
 have k1 : t * t * n <= 2 * A * (2 * A) := (Nat.le_div_iff_mul_le hn).1 h1
 have k2 : 2 * A * (2 * A) < (t + 1) * (t + 1) * n := (Nat.div_lt_iff_lt_mul hn).1 h2
 have k3 : (2 * A * (2 * A) % n = 0 /\ t * t = 2 * A * (2 * A) / n) ↔ t * t * n = 2 * A * (2 * A) := by
  have hd := Nat.div_add_mod (2 * A * (2 * A)) n
  constructor
  ·rintro ⟨g1, g2⟩
   rw [g2, Nat.mul_comm]; omega
  ·intro g
   rw [<- g]
   exact ⟨Nat.mul_mod_left _ _, (Nat.mul_div_cancel _ hn).symm⟩
 have k4 := hE.trans k3
 rw [e4] at k1 k2 k4
 clear hE k3 h1 h2
 generalize hQ : 4 * (A * A) = Q at *
 unfold IsRnd
 rw [hQ]
 rcases Nat.mod_two_eq_zero_or_one t with ht | ht
 ·rw [if_neg (by omega)]
  obtain ⟨m, rfl⟩ : ∃ m, t = 2 * m := ⟨t / 2, by omega⟩
  rw [show 2 * m / 2 = m by omega]
  have h5 : (2 * m + 1) * (2 * m + 1) * n <= (2 * m + 1) * (2 * m + 1) * n := Nat.le_refl _
  refine ⟨?_, ?_⟩
  ·rcases Nat.eq_zero_or_pos m with hm | hm
   ·exact .inl hm
   ·right
    have h6 : (2 * m - 1) * (2 * m - 1) * n < 2 * m * (2 * m) * n := Nat.mul_lt_mul_of_pos_right (Nat.mul_self_lt_mul_self (by omega)) hn
    split <;> omega
  ·split <;> omega
 ·obtain ⟨m, rfl⟩ : ∃ m, t = 2 * m + 1 := ⟨t / 2, by omega⟩
  rw [show (2 * m + 1) / 2 = m by omega]
  have h6 : (2 * m + 1 + 1) * (2 * m + 1 + 1) * n <= (2 * (m + 1) + 1) * (2 * (m + 1) + 1) * n := sqn_le (by omega)
  have h7 : (2 * m - 1) * (2 * m - 1) * n < (2 * m + 1) * (2 * m + 1) * n := Nat.mul_lt_mul_of_pos_right (Nat.mul_self_lt_mul_self (by omega)) hn
  have h8 : 2 * (m + 1) - 1 = 2 * m + 1 := by omega
  by_cases c : ¬ E \/ down = false
  ·rw [if_pos ⟨ht, c⟩, h8]
   refine ⟨.inr ?_, ?_⟩
   ·cases down
    ·simp only [Bool.false_eq_true, if_false]; exact k1
    ·simp only [if_true]
     rcases c with c | c
     ·exact Nat.lt_of_le_of_ne k1 fun h => c (k4.2 h)
     ·cases c
   ·split <;> omega
  ·have c1 : (2 * m + 1) * (2 * m + 1) * n = Q := by
    by_cases g : E
    ·exact k4.1 g
    ·exact absurd (.inl g) c
   have c2 : down = true := by
    cases down
    ·exact absurd (.inr rfl) c
    ·rfl
   subst c2
   rw [if_neg (fun h => c h.2)]
   simp only [if_true]
   exact ⟨.inr (by omega), by omega⟩
theorem sgn_neg {x d : Int} : sgn x d < 0 ↔ x * d < 0 := by
 rcases sgn_cases x d with ⟨h, g⟩ | ⟨h, g⟩ | ⟨h, g⟩ <;> omega
theorem a_wide_Over {MSg MG MS MR MQ MP MK MZ : List AC -> Option (List AC)} {x d : Int} {n X D h1 l1 qh ql t h2 l2 : Nat} (hX : X <= 2147483648) (hD : D <= 2147483648) (hn : 0 < n /\ n <= 4611686018427387904)
  (z1 : MZ [I x] = some [U X]) (z2 : MZ [I d] = some [U D]) (hk : MK [I 2] = some [B true]) (hp1 : MP [U ((2 * (X * D) : Nat) : Int), U ((2 * (X * D) : Nat) : Int)] = some [U h1, U l1])
  (hq1 : MQ [U h1, U l1, U n] = some [U qh, U ql, B (decide (0 < 2 * (X * D) * (2 * (X * D)) % n))]) (hq2 : qh * w64 + ql = 2 * (X * D) * (2 * (X * D)) / n) (hql : ql < w64) (hr1 : MR [U qh, U ql] = some [U t]) (ht2 : t < w64)
  (hp2 : MP [U t, U t] = some [U h2, U l2]) (hp3 : h2 * w64 + l2 = t * t) (hl2 : l2 < w64) (hs : MS [I x, I d] = some [I (sgn x d)])
  (hg : ∀ (more : Int) (some_ neg : Bool), MG [I 2, I more, B some_, B neg] = some [B (if more > 0 then true else if more = 0 then !neg else false)])
  (g1 : ∀ {n : Nat}, n < 9223372036854775808 -> MSg [U n, B false] = some [I n, B true]) (g2 : ∀ {n : Nat}, n <= 9223372036854775808 -> MSg [U n, B true] = some [I (-(n : Int)), B true]) {J : Nat}
  (hJ1 : t % 2 = 1 -> (¬ (2 * (X * D) * (2 * (X * D)) % n = 0 /\ t * t = 2 * (X * D) * (2 * (X * D)) / n) \/ ¬ sgn x d < 0) -> J = t / 2 + 1) (hJ3 : ¬ (t % 2 = 1 /\ (¬ (2 * (X * D) * (2 * (X * D)) % n = 0 /\ t * t = 2 * (X * D) * (2 * (X * D)) / n) \/ ¬ sgn x d < 0)) -> J = t / 2) (hJ2 : t <= 9223372036854775808) :
  mf_wide_Over MSg MG MS MR MQ MP MK MZ [I x, I d, I n, I 2] = some [I (if sgn x d < 0 then -(J : Int) else J), B true] := by
 have hXD : X * D <= 2147483648 * 2147483648 := Nat.mul_le_mul hX hD
 have w1 : IntKind.u64.wrap (2 * IntKind.u64.wrap ((X : Int) * (D : Int))) = ((2 * (X * D) : Nat) : Int) := by
  rw [<- Int.natCast_mul, wr (by omega), show (2 : Int) * ((X * D : Nat) : Int) = ((2 * (X * D) : Nat) : Int) by omega, wr (by omega)]
 have w2 : IntKind.u64.wrap (n : Int) = n := wr (by omega)
 have w3 : ((t : Int)).tdiv 2 = ((t / 2 : Nat) : Int) := tdivN t 2
 have w4 : IntKind.u64.wrap ((t / 2 : Nat) : Int) = ((t / 2 : Nat) : Int) := wr (by rw [Qen] at ht2; omega)
 have w5 : IntKind.u64.wrap (((t / 2 : Nat) : Int) + 1) = ((t / 2 + 1 : Nat) : Int) := by rw [show ((t / 2 : Nat) : Int) + 1 = ((t / 2 + 1 : Nat) : Int) by omega, wr (by rw [Qen] at ht2; omega)]
 have w6 : ((t : Int).tmod 2 = 1) = (t % 2 = 1) := by
  rw [Int.tmod_eq_emod_of_nonneg (by omega)]
  exact propext ⟨by omega, by omega⟩
 have hgt : ∀ (neg : Bool) (k : Nat), k < 9223372036854775808 -> MSg [U k, B neg] = some [I (if neg = true then -(k : Int) else k), B true] := by
  intro neg k hk
  cases neg
  ·exact g1 hk
  ·exact g2 (by omega)
 have key : ∀ (neg : Bool) (k : Nat), decide (sgn x d < 0) = neg -> J = k -> k < 9223372036854775808 -> MSg [U k, B neg] = some [I (if sgn x d < 0 then -(J : Int) else J), B true] := by
  intro neg k h1 h2 h3
  rw [hgt neg k h3, h2]
  congr 3
  by_cases c : sgn x d < 0
  ·rw [if_pos c, if_pos (by rw [<- h1]; exact decide_eq_true c)]
  ·rw [if_neg c, if_neg (by rw [<- h1]; simpa using c)]
 have eqq : (h2 = qh /\ l2 = ql) ↔ t * t = 2 * (X * D) * (2 * (X * D)) / n := by
  rw [<- hp3, <- hq2]
  constructor
  ·rintro ⟨rfl, rfl⟩; rfl
  ·intro h
   have a1 : ∀ p q u v : Nat, u < w64 -> v < w64 -> p * w64 + u = q * w64 + v -> p = q /\ u = v := by
    intro p q u v hu hv h
    rcases Nat.lt_trichotomy p q with c | c | c
    ·have := Nat.mul_le_mul_right w64 (show p + 1 <= q from c)
     rw [Nat.succ_mul] at this; omega
    ·subst c; exact ⟨rfl, by omega⟩
    ·have := Nat.mul_le_mul_right w64 (show q + 1 <= p from c)
     rw [Nat.succ_mul] at this; omega
   exact a1 _ _ _ _ hl2 hql h
 rw [mf_wide_Over_eq]
 simp only [go_sem, z1, z2, hk, w1, w2, hp1, hq1, hr1, hs, hp2, w3, w4, w5, hg]
 rw [if_neg (by omega), if_neg (by omega), if_neg (by omega), if_neg (by omega), if_neg (by simp)]
 have ht63 : t / 2 + 1 < 9223372036854775808 := by omega
 have hT : ∀ k : Nat, J = k -> k < 9223372036854775808 -> ((MSg [U (k : Int), B (decide (sgn x d < 0))]).bind fun o => some [I (Qas (nth .dead o 0)), B (boolOf (nth .dead o 1))]) = some [I (if sgn x d < 0 then -(J : Int) else J), B true] := by
  intro k h1 h2
  rw [key _ k rfl h1 h2]
  rfl
 have e3 : ((h2 : Int) = qh /\ (l2 : Int) = ql /\ True) = (t * t = 2 * (X * D) * (2 * (X * D)) / n) := by
  rw [<- propext eqq]
  exact propext ⟨fun h => ⟨by omega, by omega⟩, fun h => ⟨by omega, by omega, trivial⟩⟩
 simp only [e3, w6]
 have n1 : ((1 : Int) > 0) = True := by simp
 have n2 : ((-1 : Int) > 0) = False := by simp
 have n3 : ((-1 : Int) = 0) = False := by simp
 have n4 : ((0 : Int) > 0) = False := by simp
 by_cases cR : 2 * (X * D) * (2 * (X * D)) % n = 0
 ·rw [if_neg (show ¬ 0 < 2 * (X * D) * (2 * (X * D)) % n by omega)]
  by_cases ct : t % 2 = 1
  ·by_cases cE : t * t = 2 * (X * D) * (2 * (X * D)) / n
   ·by_cases cn : sgn x d < 0
    ·have := hJ3 (fun h => h.2.elim (fun g => g ⟨cR, cE⟩) fun g => g cn)
     simp only [n1, n2, n3, n4, Bool.false_eq_true, ct, cE, not_true_eq_false, if_true, if_false]
     rw [if_neg (by simp [cn])]
     exact hT _ this (by omega)
    ·have := hJ1 ct (.inr cn)
     simp only [n1, n2, n3, n4, Bool.false_eq_true, ct, cE, not_true_eq_false, if_true, if_false]
     rw [if_pos (by simp; omega)]
     exact hT _ this ht63
   ·have := hJ1 ct (.inl fun g => cE g.2)
    simp only [n1, n2, n3, n4, Bool.false_eq_true, ct, cE, not_true_eq_false, not_false_eq_true, if_true, if_false]
    exact hT _ this ht63
  ·have := hJ3 (fun h => ct h.1)
   simp only [n1, n2, n3, n4, Bool.false_eq_true, ct, if_false, ite_self]
   exact hT _ this (by omega)
 ·rw [if_pos (show 0 < 2 * (X * D) * (2 * (X * D)) % n by omega)]
  by_cases ct : t % 2 = 1
  ·have := hJ1 ct (.inl fun g => cR g.1)
   simp only [n1, n2, n3, n4, Bool.false_eq_true, ct, not_false_eq_true, if_true]
   exact hT _ this ht63
  ·have := hJ3 (fun h => ct h.1)
   simp only [n1, n2, n3, n4, Bool.false_eq_true, ct, not_false_eq_true, if_true, if_false]
   exact hT _ this (by omega)
theorem nearR_J {x d : Int} {n : Nat} {J : Nat} (hn : 0 < n) (hd : 0 <= d) (hi : IsRnd (x.natAbs * d.natAbs) n (decide (x * d < 0)) J) : (if x * d < 0 then -(J : Int) else J) = nearR x d n := by
 unfold nearR
 rw [Int.natAbs_natCast]
 by_cases hx : x < 0
 ·rw [if_pos hx]
  by_cases hd0 : d = 0
  ·subst hd0
   rw [Int.mul_zero, if_neg (by omega)]
   rw [show x.natAbs * (0 : Int).natAbs = 0 from by simp] at hi ⊢
   have e1 : IsRnd 0 n true 0 := ⟨.inl rfl, by simp⟩
   rw [rnd_of e1]
   obtain ⟨h1, -⟩ := hi
   rw [decide_eq_false (by simp)] at h1
   simp only [Bool.false_eq_true, if_false] at h1
   rcases h1 with h1 | h1
   ·omega
   ·rcases Nat.eq_zero_or_pos J with hJ | hJ
    ·omega
    ·have h2 := Nat.mul_pos (Nat.mul_pos (show 0 < 2 * J - 1 by omega) (show 0 < 2 * J - 1 by omega)) hn
     omega
  ·have hxd : x * d < 0 := Int.mul_neg_of_neg_of_pos hx (by omega)
   rw [decide_eq_true hxd] at hi
   rw [if_pos hxd, rnd_of hi]
 ·rw [if_neg hx]
  have hxd : ¬ x * d < 0 := by have := Int.mul_nonneg (show 0 <= x by omega) hd; omega
  rw [decide_eq_false hxd] at hi
  rw [if_neg hxd, rnd_of hi]
theorem s_wide_Over {x d n : Int} (hx : x.natAbs <= 2147483648) (hd : 0 <= d /\ d <= 2147483648) (hn : 0 < n /\ n <= 4611686018427387904) : m_wide_Over [I x, I d, I n, I 2] = some [I (nearR x d n), B true] := by
 obtain ⟨N, rfl⟩ := Int.eq_ofNat_of_zero_le (show 0 <= n by omega)
 have hD : d.natAbs <= 2147483648 := by omega
 have hXD : x.natAbs * d.natAbs <= 2147483648 * 2147483648 := Nat.mul_le_mul hx hD
 have hN : 0 < N /\ N <= 4611686018427387904 := by omega
 have hp : 2 * (x.natAbs * d.natAbs) < w64 := by rw [Qen]; omega
 obtain ⟨h1, l1, e1, e2, e3⟩ := s_wide_product' hp hp
 have hNw : N < w64 := by rw [Qen]; omega
 have hh1 : h1 < w64 := by
  have := Nat.mul_lt_mul'' hp hp
  rw [<- e2] at this
  by_cases c : h1 < w64
  ·exact c
  ·have := Nat.mul_le_mul_right w64 (show w64 <= h1 by omega)
   omega
 obtain ⟨qh, ql, q1, q2, q3, q4⟩ := a_wide_quotient (M := Qf2) s_bits_Div64 hh1 e3 hN.1 hNw
 rw [e2] at q1 q4
 obtain ⟨t, r1, r2, r3, r4⟩ := s_wide_floorRoot q2 q3
 rw [q4] at r2 r3
 obtain ⟨h2, l2, p1, p2, p3⟩ := s_wide_product' r4 r4
 have ht : t <= 9223372036854775808 := by
  have k1 : t * t <= 2 * (x.natAbs * d.natAbs) * (2 * (x.natAbs * d.natAbs)) := Nat.le_trans r2 (Nat.div_le_self _ _)
  have k2 := Nat.mul_self_le_mul_self_iff.1 k1
  omega
 have hi := over_J hN.1 r2 r3 (decide (x * d < 0)) (E := 2 * (x.natAbs * d.natAbs) * (2 * (x.natAbs * d.natAbs)) % N = 0 /\ t * t = 2 * (x.natAbs * d.natAbs) * (2 * (x.natAbs * d.natAbs)) / N) Iff.rfl
 have hres := nearR_J hN.1 hd.1 hi
 rw [<- hres]
 have := @sgn_neg x d
 have hif : ∀ a : Int, (if x * d < 0 then -a else a) = if sgn x d < 0 then -a else a := by
  intro a
  by_cases c : x * d < 0
  ·rw [if_pos c, if_pos (this.2 c)]
  ·rw [if_neg c, if_neg (fun h => c (this.1 h))]
 rw [hif]
 refine a_wide_Over (X := x.natAbs) (D := d.natAbs) hx hD hN (s_wide_size (by unfold i64; omega)) (s_wide_size (by unfold i64; omega)) (s_wide_known (.inr (.inr rfl))) e1 q1 q4 q3 r1 r4 p1 p2 p3 (s_wide_sign x d) s_wide_grows2 s_wide_signed s_wide_signed_neg (fun h1 h2 => ?_) (fun h => ?_) ht
 ·rw [if_pos ⟨h1, h2.imp id fun h => decide_eq_false fun g => h (this.2 g)⟩]
 ·rw [if_neg fun g => h ⟨g.1, g.2.imp id fun k g2 => by rw [decide_eq_false_iff_not] at k; exact k (this.1 g2)⟩]
end Go.Bm
/- the reference's corners -/
set_option maxRecDepth 100000
namespace Go.Bm

theorem wrap_nat {x : Int} {A : Nat} (h : x.natAbs <= A) (hA : A <= 9223372036854775807) : IntKind.i64.wrap x = x := Qab (by omega)
theorem sub_nat {x y : Int} {A B : Nat} (hx : x.natAbs <= A) (hy : y.natAbs <= B) : (x - y).natAbs <= A + B := by omega
theorem add_nat {x y : Int} {A B : Nat} (hx : x.natAbs <= A) (hy : y.natAbs <= B) : (x + y).natAbs <= A + B := by omega
theorem betw_bd {c u x : Int} {A : Nat} (hc : c.natAbs <= A) (ha : (c + x).natAbs <= A) (h : (0 <= x -> 0 <= u /\ u <= x) /\ (x <= 0 -> x <= u /\ u <= 0)) : (c + u).natAbs <= A := by
 rcases Int.le_total 0 x with g | g
 ·have := h.1 g; omega
 ·have := h.2 g; omega
theorem sqD_eq (a b : Pt) : sqD a b = (a.x - b.x) * (a.x - b.x) + (a.y - b.y) * (a.y - b.y) + (a.z - b.z) * (a.z - b.z) := rfl
theorem sq_nn (u : Int) : 0 <= u * u := by rw [<- Int.natAbs_mul_self]; omega
theorem sqD_zero {a b : Pt} : sqD a b = 0 ↔ a = b := by
 rw [sqD_eq]
 obtain ⟨a1, a2, a3⟩ := a
 obtain ⟨b1, b2, b3⟩ := b
 have h1 := sq_nn (a1 - b1)
 have h2 := sq_nn (a2 - b2)
 have h3 := sq_nn (a3 - b3)
 constructor
 ·intro h
  simp only at h
  have e1 : (a1 - b1) * (a1 - b1) = 0 := by omega
  have e2 : (a2 - b2) * (a2 - b2) = 0 := by omega
  have e3 : (a3 - b3) * (a3 - b3) = 0 := by omega
  have z : ∀ u : Int, u * u = 0 -> u = 0 := fun u hu => by
   rcases Int.mul_eq_zero.1 hu with h | h <;> exact h
  have := z _ e1
  have := z _ e2
  have := z _ e3
  rw [Pt.mk.injEq]; omega
 ·intro h
  injection h with h4 h5 h6
  subst h4 h5 h6
  simp
theorem sqD_comp (a b : Pt) : (a.x - b.x) * (a.x - b.x) <= sqD a b /\ (a.y - b.y) * (a.y - b.y) <= sqD a b /\ (a.z - b.z) * (a.z - b.z) <= sqD a b := by
 rw [sqD_eq]
 have h1 := sq_nn (a.x - b.x)
 have h2 := sq_nn (a.y - b.y)
 have h3 := sq_nn (a.z - b.z)
 omega

noncomputable def towP (c a : Pt) (d : Int) : Pt := ⟨c.x + nearR (a.x - c.x) d (sqD a c), c.y + nearR (a.y - c.y) d (sqD a c), c.z + nearR (a.z - c.z) d (sqD a c)⟩
abbrev B24 : Nat := 16777216
theorem near_betw {x r n : Int} (hx : x.natAbs <= 33554432 * 4) (hr : 0 <= r /\ r <= 33554432 * 4) (hn : 0 < n /\ n <= 4611686018427387904) (hxn : x * x <= n) (hrn : r * r <= n) :
  (0 <= x -> 0 <= nearR x r n /\ nearR x r n <= x) /\ (x <= 0 -> x <= nearR x r n /\ nearR x r n <= 0) := by
 obtain ⟨-, h2, h3⟩ := s_cncref23_Near hx hr hn hxn
 have h4 := isRnd_le' (by omega) (by
  have : ((r.natAbs * r.natAbs : Nat) : Int) = r * r := Int.natAbs_mul_self
  omega) h3
 unfold nearR at *
 constructor
 ·intro h
  rw [if_neg (by omega)] at h4 ⊢
  omega
 ·intro h
  by_cases c : x < 0
  ·rw [if_pos c] at h4 ⊢
   omega
  ·rw [if_neg c] at h4 ⊢
   omega
theorem a_cncref24_Toward {MN MS : List AC -> Option (List AC)} {c a : Pt} {d : Int} (hc : bd B24 c) (ha : bd B24 a) (hne : a ≠ c) (hd : 0 <= d /\ d <= 33554432)
  (hS : MS [I a.x, I a.y, I a.z, I c.x, I c.y, I c.z] = some [I (sqD a c)]) (hN : ∀ {x : Int}, x.natAbs <= 33554432 * 4 -> x * x <= sqD a c -> MN [I x, I d, I (sqD a c)] = some [I (nearR x d (sqD a c))] /\ (nearR x d (sqD a c)).natAbs <= 268435456) :
  mf_cncref24_Toward MN MS [I c.x, I c.y, I c.z, I a.x, I a.y, I a.z, I d] = some (ptR (towP c a d) ++ [B true]) := by
 have h0 : sqD a c ≠ 0 := fun h => hne (sqD_zero.1 h)
 obtain ⟨q1, q2, q3⟩ := sqD_comp a c
 have x1 := sub_nat ha.1 hc.1
 have x2 := sub_nat ha.2.1 hc.2.1
 have x3 := sub_nat ha.2.2 hc.2.2
 obtain ⟨n1, b1⟩ := hN (x := a.x - c.x) (Nat.le_trans x1 (by decide)) q1
 obtain ⟨n2, b2⟩ := hN (x := a.y - c.y) (Nat.le_trans x2 (by decide)) q2
 obtain ⟨n3, b3⟩ := hN (x := a.z - c.z) (Nat.le_trans x3 (by decide)) q3
 have h6 : ¬ d < 0 := Int.not_lt.2 hd.1
 have h7 : ¬ d > 33554432 := Int.not_lt.2 hd.2
 rw [mf_cncref24_Toward_eq]
 simp only [go_sem, hS]
 rw [if_neg h0, if_neg h6, if_neg h7, wrap_nat x1 (by decide), wrap_nat x2 (by decide), wrap_nat x3 (by decide)]
 simp only [go_sem, n1, n2, n3]
 rw [wrap_nat (add_nat hc.1 b1) (by decide), wrap_nat (add_nat hc.2.1 b2) (by decide), wrap_nat (add_nat hc.2.2 b3) (by decide)]
 rfl
theorem s_cncref24_Toward {c a : Pt} {d : Int} (hc : bd B24 c) (ha : bd B24 a) (hne : a ≠ c) (hd : 0 <= d /\ d <= 33554432) :
  Qdp [I c.x, I c.y, I c.z, I a.x, I a.y, I a.z, I d] = some (ptR (towP c a d) ++ [B true]) := by
 have h0 : sqD a c ≠ 0 := fun h => hne (sqD_zero.1 h)
 have h1 := sqD_nn a c
 have h2 := sqD_le (Qcb ha (by decide)) (Qcb hc (by decide)) (show 67108864 <= 67108864 by omega)
 refine a_cncref24_Toward hc ha hne hd (s_SquareB (Qcb ha (by decide)) (Qcb hc (by decide))) fun hx hq => ?_
 obtain ⟨g1, g2, -⟩ := s_cncref23_Near hx (r := d) (by omega) (n := sqD a c) (by omega) hq
 exact ⟨g1, g2⟩
theorem sqD_le24 {a b : Pt} (ha : bd B24 a) (hb : bd B24 b) : sqD a b <= 3377699720527872 := by
 have h : ∀ x y : Int, x.natAbs <= B24 -> y.natAbs <= B24 -> (x - y) * (x - y) <= 1125899906842624 := by
  intro x y hx hy
  unfold B24 at *
  exact (sq_bd (x := x - y) (A := 33554432) (by omega)).2
 have h1 := h _ _ ha.1 hb.1
 have h2 := h _ _ ha.2.1 hb.2.1
 have h3 := h _ _ ha.2.2 hb.2.2
 rw [sqD_eq]
 omega
theorem tow_betw {c a : Pt} {d : Int} (hc : bd B24 c) (ha : bd B24 a) (hne : a ≠ c) (hd : 0 <= d /\ d < lenP a c) : bd B24 (towP c a d) := by
 have h0 : sqD a c ≠ 0 := fun h => hne (sqD_zero.1 h)
 have h1 := sqD_nn a c
 have h2 := sqD_le (Qcb ha (by decide)) (Qcb hc (by decide)) (show 67108864 <= 67108864 by omega)
 obtain ⟨-, g1, g2, g3⟩ := Qf9 (Qcb ha (show B24 <= 67108864 by decide)) (Qcb hc (show B24 <= 67108864 by decide))
 have hl := len_bd (Qcb ha (show B24 <= 67108864 by decide)) (Qcb hc (show B24 <= 67108864 by decide))
 have hdd : d * d <= sqD a c := by
  have := Int.mul_self_le_mul_self hd.1 (show d <= lenP a c - 1 by omega)
  omega
 have hd2 : d <= 33554432 * 4 := by
  by_cases c2 : d <= 33554432 * 4
  ·exact c2
  ·exfalso
   have h3 := Int.mul_self_le_mul_self (a := 33554432 * 4 + 1) (b := d) (by omega) (by omega)
   have h4 := sqD_le24 ha hc
   omega
 obtain ⟨q1, q2, q3⟩ := sqD_comp a c
 have hn : 0 < sqD a c /\ sqD a c <= 4611686018427387904 := ⟨Int.lt_iff_le_and_ne.2 ⟨h1, fun h => h0 h.symm⟩, Int.le_trans h2 (by decide)⟩
 have hd3 : 0 <= d /\ d <= 33554432 * 4 := ⟨hd.1, hd2⟩
 have k1 := near_betw (x := a.x - c.x) (r := d) (n := sqD a c) (Nat.le_trans (sub_nat ha.1 hc.1) (by decide)) hd3 hn q1 hdd
 have k2 := near_betw (x := a.y - c.y) (r := d) (n := sqD a c) (Nat.le_trans (sub_nat ha.2.1 hc.2.1) (by decide)) hd3 hn q2 hdd
 have k3 := near_betw (x := a.z - c.z) (r := d) (n := sqD a c) (Nat.le_trans (sub_nat ha.2.2 hc.2.2) (by decide)) hd3 hn q3 hdd
 have e : ∀ x y : Int, x + (y - x) = y := fun x y => by omega
 exact ⟨betw_bd hc.1 (by rw [e]; exact ha.1) k1, betw_bd hc.2.1 (by rw [e]; exact ha.2.1) k2, betw_bd hc.2.2 (by rw [e]; exact ha.2.2) k3⟩
def bendV (p c q : Pt) : Pt := ⟨p.x - c.x + (q.x - c.x), p.y - c.y + (q.y - c.y), p.z - c.z + (q.z - c.z)⟩
def bendP (p c q : Pt) : Int := dotP (bendV p c q) (bendV p c q)
theorem bend_bd {p c q : Pt} (hp : bd B24 p) (hc : bd B24 c) (hq : bd B24 q) : bd 67108864 (bendV p c q) := by
 unfold bd B24 bendV at *
 simp only
 omega
theorem s_Minus24 {a b : Pt} (ha : bd B24 a) (hb : bd B24 b) : Qg0 [I a.x, I a.y, I a.z, I b.x, I b.y, I b.z] = some (ptR (subP a b)) := s_cncref24_Minus (Qcb ha (by decide)) (Qcb hb (by decide))
theorem s_cncref24_Add {a b : Pt} (ha : bd 67108864 a) (hb : bd 67108864 b) : m_cncref24_Add [I a.x, I a.y, I a.z, I b.x, I b.y, I b.z] = some (ptR ⟨a.x + b.x, a.y + b.y, a.z + b.z⟩) := by
 unfold m_cncref24_Add
 unfold bd at *
 rw [mf_cncref24_Add_eq, Qab (x := a.x + b.x) (by omega), Qab (x := a.y + b.y) (by omega), Qab (x := a.z + b.z) (by omega)]
theorem a_cncref24_Bend {MS MA MM : List AC -> Option (List AC)} {p c q : Pt} (h1 : MM [I p.x, I p.y, I p.z, I c.x, I c.y, I c.z] = some (ptR (subP p c))) (h2 : MM [I q.x, I q.y, I q.z, I c.x, I c.y, I c.z] = some (ptR (subP q c)))
  (h3 : MA [I (subP p c).x, I (subP p c).y, I (subP p c).z, I (subP q c).x, I (subP q c).y, I (subP q c).z] = some (ptR (bendV p c q))) (h4 : MS [I (bendV p c q).x, I (bendV p c q).y, I (bendV p c q).z, I 0, I 0, I 0] = some [I (bendP p c q)]) :
  mf_cncref24_Bend MS MA MM [I p.x, I p.y, I p.z, I c.x, I c.y, I c.z, I q.x, I q.y, I q.z] = some [I (bendP p c q)] := by
 rw [mf_cncref24_Bend_eq]
 simp only [go_sem, h1, h2, h3, h4]
theorem s_cncref24_Bend {p c q : Pt} (hp : bd B24 p) (hc : bd B24 c) (hq : bd B24 q) : Qe2 [I p.x, I p.y, I p.z, I c.x, I c.y, I c.z, I q.x, I q.y, I q.z] = some [I (bendP p c q)] := by
 refine a_cncref24_Bend (s_Minus24 hp hc) (s_Minus24 hq hc) (s_cncref24_Add (Qcb (sub_bd hp hc) (by decide)) (Qcb (sub_bd hq hc) (by decide))) ?_
 have h := s_SquareB (a := bendV p c q) (b := ⟨0, 0, 0⟩) (bend_bd hp hc hq) (by unfold bd; simp)
 have e : sqD (bendV p c q) ⟨0, 0, 0⟩ = bendP p c q := by unfold sqD subP bendP; simp
 rw [e] at h
 exact h

def permP (a c b : Pt) (tol d : Int) : Prop := d <= mn (lenP a c) (lenP c b) - 2 /\ bendP (towP c a d) c (towP c b d) <= 16 * tol * tol
theorem mn_le (x y : Int) : mn x y <= x /\ mn x y <= y := by unfold mn; split <;> omega
theorem sqD_comm (a b : Pt) : sqD a b = sqD b a := by
 unfold sqD; exact dot_neg a b
theorem lenP_comm (a b : Pt) : lenP a b = lenP b a := by unfold lenP; rw [sqD_comm]
open Classical in
theorem a_cncref24_permitted {MB MT ML : List AC -> Option (List AC)} {a c b : Pt} {tol d : Int} (ha : bd B24 a) (hc : bd B24 c) (hb : bd B24 b) (hac : a ≠ c) (hbc : b ≠ c) (hd : 0 <= d /\ d <= 33554432) (ht : 0 <= tol /\ tol <= 16000)
  (l1 : ML [I a.x, I a.y, I a.z, I c.x, I c.y, I c.z] = some [I (lenP a c)]) (l2 : ML [I c.x, I c.y, I c.z, I b.x, I b.y, I b.z] = some [I (lenP c b)])
  (l3 : 0 <= lenP a c /\ lenP a c <= 268435456) (l4 : 0 <= lenP c b /\ lenP c b <= 268435456)
  (t1 : MT [I c.x, I c.y, I c.z, I a.x, I a.y, I a.z, I d] = some (ptR (towP c a d) ++ [B true])) (t2 : MT [I c.x, I c.y, I c.z, I b.x, I b.y, I b.z, I d] = some (ptR (towP c b d) ++ [B true]))
  (hB : ∀ {p q : Pt}, bd B24 p -> bd B24 q -> MB [I p.x, I p.y, I p.z, I c.x, I c.y, I c.z, I q.x, I q.y, I q.z] = some [I (bendP p c q)]) :
  mf_cncref24_permitted MB MT ML [I a.x, I a.y, I a.z, I c.x, I c.y, I c.z, I b.x, I b.y, I b.z, I tol, I d] = some [B (decide (permP a c b tol d))] := by
 rw [mf_cncref24_permitted_eq]
 obtain ⟨m1, m2⟩ := mn_le (lenP a c) (lenP c b)
 have m3 : 0 <= mn (lenP a c) (lenP c b) := by unfold mn; split <;> omega
 simp only [go_sem, l1, l2]
 rw [Qab (by omega)]
 have ht2 : 0 <= 16 * tol * tol /\ 16 * tol * tol <= 4096000000 := by
  have := Int.mul_le_mul (show 16 * tol <= 256000 by omega) ht.2 ht.1 (by omega)
  exact ⟨Int.mul_nonneg (by omega) ht.1, by omega⟩
 by_cases h : d > mn (lenP a c) (lenP c b) - 2
 ·rw [if_pos h, decide_eq_false (fun h3 : permP a c b tol d => by have := h3.1; omega)]
 ·rw [if_neg h]
  have k1 : bd B24 (towP c a d) := tow_betw hc ha hac (by omega)
  have k2 : bd B24 (towP c b d) := tow_betw hc hb hbc (by rw [lenP_comm b c]; omega)
  simp only [List.cons_append, List.nil_append, ptR] at t1 t2
  simp only [t1, t2, go_sem, hB k1 k2]
  rw [Qab (x := 16 * tol) (by omega), Qab (x := 16 * tol * tol) (by omega)]
  by_cases h2 : bendP (towP c a d) c (towP c b d) <= 16 * tol * tol
  ·rw [decide_eq_true h2, decide_eq_true (show permP a c b tol d from ⟨by omega, h2⟩)]
  ·rw [decide_eq_false h2, decide_eq_false (fun h3 : permP a c b tol d => h2 h3.2)]
open Classical in
theorem s_cncref24_permitted {a c b : Pt} {tol d : Int} (ha : bd B24 a) (hc : bd B24 c) (hb : bd B24 b) (hac : a ≠ c) (hbc : b ≠ c) (hd : 0 <= d /\ d <= 33554432) (ht : 0 <= tol /\ tol <= 16000) :
  Qdc [I a.x, I a.y, I a.z, I c.x, I c.y, I c.z, I b.x, I b.y, I b.z, I tol, I d] = some [B (decide (permP a c b tol d))] :=
 have A := Qcb ha (show B24 <= 67108864 by decide)
 have C := Qcb hc (show B24 <= 67108864 by decide)
 have D := Qcb hb (show B24 <= 67108864 by decide)
 a_cncref24_permitted ha hc hb hac hbc hd ht (Qf9 A C).1 (Qf9 C D).1 (len_bd A C) (len_bd C D) (s_cncref24_Toward hc ha hac hd) (s_cncref24_Toward hc hb hbc hd) fun hp hq => s_cncref24_Bend hp hc hq

open Classical in
noncomputable def reachL (P : Int -> Prop) : Nat -> Int -> Int
 | 0, d => if P (d + 1) then d + 1 else d
 | k + 1, d => reachL P k (if P (d + ((2 ^ (k + 1) : Nat) : Int)) then d + ((2 ^ (k + 1) : Nat) : Int) else d)
open Classical in
theorem reachL_bd {P : Int -> Prop} : ∀ (k : Nat) (d : Int), d <= reachL P k d /\ reachL P k d < d + ((2 ^ (k + 1) : Nat) : Int) /\ (reachL P k d = d \/ P (reachL P k d))
 | 0, d => by
  have e : ((2 ^ (0 + 1) : Nat) : Int) = 2 := rfl
  rw [e]
  unfold reachL
  split
  ·rename_i h; exact ⟨by omega, by omega, .inr h⟩
  ·exact ⟨by omega, by omega, .inl rfl⟩
 | k + 1, d => by
  unfold reachL
  have hp : 0 < 2 ^ (k + 1) := Nat.two_pow_pos _
  have e3 : 2 ^ (k + 1 + 1) = 2 ^ (k + 1) + 2 ^ (k + 1) := by rw [Nat.pow_succ 2 (k + 1)]; omega
  rw [e3]
  have hif : (if P (d + ((2 ^ (k + 1) : Nat) : Int)) then d + ((2 ^ (k + 1) : Nat) : Int) else d) = d \/ ((if P (d + ((2 ^ (k + 1) : Nat) : Int)) then d + ((2 ^ (k + 1) : Nat) : Int) else d) = d + ((2 ^ (k + 1) : Nat) : Int) /\ P (if P (d + ((2 ^ (k + 1) : Nat) : Int)) then d + ((2 ^ (k + 1) : Nat) : Int) else d)) := by
   split
   ·rename_i h; exact .inr ⟨rfl, h⟩
   ·exact .inl rfl
  generalize (if P (d + ((2 ^ (k + 1) : Nat) : Int)) then d + ((2 ^ (k + 1) : Nat) : Int) else d) = d' at *
  obtain ⟨h1, h2, h3⟩ := reachL_bd (P := P) k d'
  generalize reachL P k d' = x at *
  generalize 2 ^ (k + 1) = m at *
  rcases hif with hif | ⟨hif, hP⟩
  ·subst hif
   exact ⟨by omega, by omega, h3⟩
  ·refine ⟨by omega, by omega, .inr ?_⟩
   rcases h3 with h3 | h3
   ·rw [h3]; exact hP
   ·exact h3
open Classical in
theorem l_Reach {M : List AC -> Option (List AC)} {a c b : Pt} {tol : Int} (hM : ∀ {d : Int}, 0 <= d /\ d <= 33554432 -> M [I a.x, I a.y, I a.z, I c.x, I c.y, I c.z, I b.x, I b.y, I b.z, I tol, I d] = some [B (decide (permP a c b tol d))]) :
  ∀ (k : Nat) (d : Int), 0 <= d /\ d + ((2 ^ (k + 1) : Nat) : Int) <= 33554432 ->
  Qbl (Qee M) [I tol, I d, I ((2 ^ k : Nat) : Int), I a.x, I a.y, I a.z, I c.x, I c.y, I c.z, I b.x, I b.y, I b.z] = some (1, [I (reachL (permP a c b tol) k d)])
 | 0, d, hd => by
  simp only [Nat.zero_add, Nat.pow_one] at hd
  have hend : ∀ d : Int, Qbl (Qee M) [I tol, I d, I 0, I a.x, I a.y, I a.z, I c.x, I c.y, I c.z, I b.x, I b.y, I b.z] = some (1, [I d]) := by
   intro d
   refine Qbn ?_ (by simp)
   rw [st_cncref24_Reach_5_eq]
   simp only [go_sem]
   rw [if_neg (by omega)]
  have hs : Qee M [I tol, I d, I ((2 ^ 0 : Nat) : Int), I a.x, I a.y, I a.z, I c.x, I c.y, I c.z, I b.x, I b.y, I b.z] = some (0, [I tol, I (if permP a c b tol (d + 1) then d + 1 else d), I 0, I a.x, I a.y, I a.z, I c.x, I c.y, I c.z, I b.x, I b.y, I b.z]) := by
   rw [st_cncref24_Reach_5_eq]
   have e : ((2 ^ 0 : Nat) : Int) = 1 := rfl
   rw [e, Qab (x := d + 1) (by omega), halfI0]
   simp only [go_sem, hM (d := d + 1) (by omega)]
   rw [if_pos (by omega)]
   by_cases h : permP a c b tol (d + 1)
   ·rw [if_pos h, if_pos h]
   ·rw [if_neg h, if_neg h]
  rw [Qbk hs, hend]
  rfl
 | k + 1, d, hd => by
  have hp : 0 < 2 ^ (k + 1) := Nat.two_pow_pos _
  have e3 : 2 ^ (k + 1 + 1) = 2 ^ (k + 1) + 2 ^ (k + 1) := by rw [Nat.pow_succ 2 (k + 1)]; omega
  have hs : Qee M [I tol, I d, I ((2 ^ (k + 1) : Nat) : Int), I a.x, I a.y, I a.z, I c.x, I c.y, I c.z, I b.x, I b.y, I b.z] =
    some (0, [I tol, I (if permP a c b tol (d + ((2 ^ (k + 1) : Nat) : Int)) then d + ((2 ^ (k + 1) : Nat) : Int) else d), I ((2 ^ k : Nat) : Int), I a.x, I a.y, I a.z, I c.x, I c.y, I c.z, I b.x, I b.y, I b.z]) := by
   rw [st_cncref24_Reach_5_eq, Qab (x := d + ((2 ^ (k + 1) : Nat) : Int)) (by omega), halfI]
   simp only [go_sem, hM (d := d + ((2 ^ (k + 1) : Nat) : Int)) (by omega)]
   rw [if_pos (by omega)]
   by_cases h : permP a c b tol (d + ((2 ^ (k + 1) : Nat) : Int))
   ·rw [if_pos h, if_pos h]
   ·rw [if_neg h, if_neg h]
  rw [Qbk hs]
  refine (l_Reach hM k _ ?_).trans rfl
  split <;> omega
open Classical in
noncomputable def reachP (a c b : Pt) (tol : Int) : Int := if a = c \/ b = c then 0 else if reachL (permP a c b tol) 24 0 < 16 then 0 else reachL (permP a c b tol) 24 0
theorem reach_spec {a c b : Pt} {tol : Int} (h : reachP a c b tol ≠ 0) : a ≠ c /\ b ≠ c /\ 16 <= reachP a c b tol /\ reachP a c b tol < 33554432 /\ permP a c b tol (reachP a c b tol) := by
 unfold reachP at *
 split at h
 ·exact absurd rfl h
 ·rename_i h1
  rw [if_neg h1]
  split at h
  ·exact absurd rfl h
  ·rename_i h2
   rw [if_neg h2]
   obtain ⟨h3, h4, h5⟩ := reachL_bd (P := permP a c b tol) 24 0
   have e : ((2 ^ (24 + 1) : Nat) : Int) = 33554432 := rfl
   rw [e] at h4
   refine ⟨fun h => h1 (.inl h), fun h => h1 (.inr h), by omega, by omega, ?_⟩
   rcases h5 with h5 | h5
   ·omega
   ·exact h5
theorem pt_ext {a b : Pt} : a = b ↔ a.x = b.x /\ a.y = b.y /\ a.z = b.z := by
 obtain ⟨a1, a2, a3⟩ := a
 obtain ⟨b1, b2, b3⟩ := b
 simp
theorem s_cncref24_Reach {a c b : Pt} {tol : Int} (ha : bd B24 a) (hc : bd B24 c) (hb : bd B24 b) (ht : 0 <= tol /\ tol <= 16000) :
  Qgv [I a.x, I a.y, I a.z, I c.x, I c.y, I c.z, I b.x, I b.y, I b.z, I tol] = some [I (reachP a c b tol)] := by
 show mf_cncref24_Reach _ (Qbl (Qee _)) _ = _
 rw [mf_cncref24_Reach_eq]
 unfold reachP
 by_cases h1 : a = c
 ·rw [if_pos (.inl h1)]
  have h2 := pt_ext.1 h1
  simp only [go_sem]
  rw [if_pos ⟨h2.1, h2.2.1, h2.2.2, trivial⟩]
 ·by_cases h2 : b = c
  ·rw [if_pos (.inr h2)]
   have h3 := pt_ext.1 h2
   simp only [go_sem]
   rw [if_neg (fun h => h1 (pt_ext.2 ⟨h.1, h.2.1, h.2.2.1⟩)), if_pos ⟨h3.1, h3.2.1, h3.2.2, trivial⟩]
  ·have hl := l_Reach (M := Qdc) (a := a) (c := c) (b := b) (tol := tol) (fun hd => s_cncref24_permitted ha hc hb h1 h2 hd ht) 24 0 (by decide)
   have hl' : Qbl (Qee Qdc) [I tol, I 0, AC.int IntKind.i64 16777216, I a.x, I a.y, I a.z, I c.x, I c.y, I c.z, I b.x, I b.y, I b.z] = some (1, [I (reachL (permP a c b tol) 24 0)]) := hl
   generalize Qdc = M at *
   simp only [go_sem, hl']
   rw [if_neg (fun h => h1 (pt_ext.2 ⟨h.1, h.2.1, h.2.2.1⟩)), if_neg (fun h => h2 (pt_ext.2 ⟨h.1, h.2.1, h.2.2.1⟩)), if_neg (show ¬ (a = c \/ b = c) from fun h => h.elim h1 h2)]
   by_cases h3 : reachL (permP a c b tol) 24 0 < 16
   ·rw [if_pos h3, if_pos h3]
   ·rw [if_neg h3, if_neg h3]

def pcsN (bend : Int) : Nat -> Int -> Int
 | 0, n => n
 | k + 1, n => if n < 64 /\ bend > 16 * n * n * n * n * 4 * 4 then pcsN bend k (n * 2) else n
def isPow (n : Int) : Prop := n = 2 \/ n = 4 \/ n = 8 \/ n = 16 \/ n = 32 \/ n = 64
theorem l_Pieces {M : List AC -> Option (List AC)} {p c q : Pt} (hM : M [I p.x, I p.y, I p.z, I c.x, I c.y, I c.z, I q.x, I q.y, I q.z] = some [I (bendP p c q)]) :
  ∀ (k : Nat) (n : Int), isPow n -> 64 <= n * 2 ^ k -> Qbl (Qg9 M) [I n, I p.x, I p.y, I p.z, I c.x, I c.y, I c.z, I q.x, I q.y, I q.z] = some (1, [I (pcsN (bendP p c q) k n)]) /\ isPow (pcsN (bendP p c q) k n) := by
 have hst : ∀ n : Int, isPow n -> Qg9 M [I n, I p.x, I p.y, I p.z, I c.x, I c.y, I c.z, I q.x, I q.y, I q.z] = if n < 64 /\ bendP p c q > 16 * n * n * n * n * 4 * 4 then some (0, [I (n * 2), I p.x, I p.y, I p.z, I c.x, I c.y, I c.z, I q.x, I q.y, I q.z]) else some (1, [I n]) := by
  intro n hn
  rw [st_cncref24_Pieces_2_eq]
  simp only [go_sem, hM]
  have hw : IntKind.i64.wrap (IntKind.i64.wrap (IntKind.i64.wrap (IntKind.i64.wrap (IntKind.i64.wrap (IntKind.i64.wrap (16 * n) * n) * n) * n) * 4) * 4) = 16 * n * n * n * n * 4 * 4 /\ IntKind.i64.wrap (n * 2) = n * 2 := by
   rcases hn with rfl | rfl | rfl | rfl | rfl | rfl <;> decide
  rw [hw.1, hw.2]
  by_cases h1 : n < 64
  ·rw [if_pos h1]
   by_cases h2 : bendP p c q > 16 * n * n * n * n * 4 * 4
   ·rw [if_pos h2, if_pos ⟨h1, h2⟩]
   ·rw [if_neg h2, if_neg (fun h => h2 h.2)]
  ·rw [if_neg h1, if_neg (fun h => h1 h.1)]
 intro k
 induction k with
 | zero =>
  intro n hn h64
  have : n = 64 := by rcases hn with rfl | rfl | rfl | rfl | rfl | rfl <;> simp at h64 ⊢
  subst this
  refine ⟨Qbn ?_ (by simp), hn⟩
  rw [hst _ hn, if_neg (by omega)]; rfl
 | succ k ih =>
  intro n hn h64
  unfold pcsN
  by_cases h : n < 64 /\ bendP p c q > 16 * n * n * n * n * 4 * 4
  ·rw [if_pos h]
   have hs := hst n hn
   rw [if_pos h] at hs
   rw [Qbk hs]
   refine ih (n * 2) ?_ ?_
   ·rcases hn with rfl | rfl | rfl | rfl | rfl | rfl <;> simp [isPow] at h ⊢
   ·rw [Int.pow_succ] at h64
    rw [Int.mul_assoc, Int.mul_comm 2]; exact h64
  ·rw [if_neg h]
   refine ⟨Qbn ?_ (by simp), hn⟩
   rw [hst _ hn, if_neg h]
def piecesP (p c q : Pt) : Int := pcsN (bendP p c q) 5 2
theorem s_cncref24_Pieces {p c q : Pt} (hp : bd B24 p) (hc : bd B24 c) (hq : bd B24 q) : Qfd [I p.x, I p.y, I p.z, I c.x, I c.y, I c.z, I q.x, I q.y, I q.z] = some [I (piecesP p c q)] /\ isPow (piecesP p c q) := by
 obtain ⟨h1, h2⟩ := l_Pieces (s_cncref24_Bend hp hc hq) 5 2 (.inl rfl) (by decide)
 refine ⟨?_, h2⟩
 show mf_cncref24_Pieces _ (Qbl (Qg9 _)) _ = _
 generalize Qe2 = M at *
 rw [mf_cncref24_Pieces_eq]
 simp only [go_sem, h1]
 rfl

def mixI (n i p c q : Int) : Int := c + near ((n - i) * (n - i) * (p - c) + i * i * (q - c)) (n * n)
def mixP (n i : Int) (p c q : Pt) : Pt := ⟨mixI n i p.x c.x q.x, mixI n i p.y c.y q.y, mixI n i p.z c.z q.z⟩
theorem near_mono {a b n : Int} (hn : 0 < n) (h : a <= b) : near a n <= near b n := by
 unfold near
 exact Int.ediv_le_ediv (by omega) (by omega)
theorem near_mul {k n : Int} (hn : 0 < n) : near (k * n) n = k := near_of hn (by rw [show k * (2 * n) = 2 * (k * n) by grind]; omega) (by rw [show (k + 1) * (2 * n) = 2 * (k * n) + 2 * n by grind]; omega)
theorem mix_bd {n i p c q : Int} {A : Nat} (hn : 0 < n) (hi : 0 <= i /\ i <= n) (hp : p.natAbs <= A) (hc : c.natAbs <= A) (hq : q.natAbs <= A) : (mixI n i p c q).natAbs <= A := by
 have hnn : 0 < n * n := Int.mul_pos hn hn
 have h1 : 0 <= (n - i) * (n - i) := sq_nn _
 have h2 : 0 <= i * i := sq_nn _
 have h3 : (n - i) * (n - i) + i * i <= n * n := by
  have : n * n - ((n - i) * (n - i) + i * i) = 2 * (i * (n - i)) := by grind
  have : 0 <= i * (n - i) := Int.mul_nonneg hi.1 (by omega)
  omega
 have key : ∀ s : Int, (s = 1 \/ s = -1) -> s * ((n - i) * (n - i) * (p - c) + i * i * (q - c)) <= (A - s * c) * (n * n) := by
  intro s hs
  have hp' : s * p <= A := by rcases hs with rfl | rfl <;> omega
  have hc' : s * c <= A := by rcases hs with rfl | rfl <;> omega
  have hq' : s * q <= A := by rcases hs with rfl | rfl <;> omega
  have g1 : (n - i) * (n - i) * (s * p - s * c) <= (n - i) * (n - i) * (A - s * c) := Int.mul_le_mul_of_nonneg_left (by omega) h1
  have g2 : i * i * (s * q - s * c) <= i * i * (A - s * c) := Int.mul_le_mul_of_nonneg_left (by omega) h2
  have g3 : ((n - i) * (n - i) + i * i) * (A - s * c) <= n * n * (A - s * c) := Int.mul_le_mul_of_nonneg_right h3 (by omega)
  have e1 : s * ((n - i) * (n - i) * (p - c) + i * i * (q - c)) = (n - i) * (n - i) * (s * p - s * c) + i * i * (s * q - s * c) := by grind
  have e2 : ((n - i) * (n - i) + i * i) * (A - s * c) = (n - i) * (n - i) * (A - s * c) + i * i * (A - s * c) := Int.add_mul ..
  have e3 : (A - s * c) * (n * n) = n * n * (A - s * c) := Int.mul_comm ..
  omega
 unfold mixI
 have k1 := near_mono hnn (key 1 (.inl rfl) |> fun h => (by rw [Int.one_mul, Int.one_mul] at h; exact h))
 rw [near_mul hnn] at k1
 have k2 := key (-1) (.inr rfl)
 have k3 : (-(A : Int) - c) * (n * n) <= (n - i) * (n - i) * (p - c) + i * i * (q - c) := by
  have e : (-(A : Int) - c) * (n * n) = -((A - -1 * c) * (n * n)) := by grind
  omega
 have k4 := near_mono hnn k3
 rw [near_mul hnn] at k4
 omega
noncomputable def cornerP (a c b : Pt) (tol : Int) : List Pt :=
 if reachP a c b tol = 0 then [c]
 else (List.range ((piecesP (towP c a (reachP a c b tol)) c (towP c b (reachP a c b tol))).toNat + 1)).map fun (i : Nat) => mixP (piecesP (towP c a (reachP a c b tol)) c (towP c b (reachP a c b tol))) i (towP c a (reachP a c b tol)) c (towP c b (reachP a c b tol))
theorem corner_bd {a c b : Pt} {tol : Int} (ha : bd B24 a) (hc : bd B24 c) (hb : bd B24 b) : (∀ p ∈ cornerP a c b tol, bd B24 p) /\ 1 <= (cornerP a c b tol).length /\ (cornerP a c b tol).length <= 65 := by
 unfold cornerP
 by_cases h : reachP a c b tol = 0
 ·rw [if_pos h]
  simp; exact hc
 ·rw [if_neg h]
  obtain ⟨h1, h2, h3, h4, h5, -⟩ := reach_spec h
  obtain ⟨m1, m2⟩ := mn_le (lenP a c) (lenP c b)
  generalize reachP a c b tol = d at *
  have k1 : bd B24 (towP c a d) := tow_betw hc ha h1 (by omega)
  have k2 : bd B24 (towP c b d) := tow_betw hc hb h2 (by rw [lenP_comm b c]; omega)
  have k3 := (s_cncref24_Pieces k1 hc k2).2
  generalize piecesP (towP c a d) c (towP c b d) = n at *
  have hn : 2 <= n /\ n <= 64 := by rcases k3 with rfl | rfl | rfl | rfl | rfl | rfl <;> omega
  refine ⟨?_, by simp, by simp; omega⟩
  intro p hp
  simp only [List.mem_map, List.mem_range] at hp
  obtain ⟨i, hi, rfl⟩ := hp
  exact ⟨mix_bd (by omega) (by omega) k1.1 hc.1 k2.1, mix_bd (by omega) (by omega) k1.2.1 hc.2.1 k2.2.1, mix_bd (by omega) (by omega) k1.2.2 hc.2.2 k2.2.2⟩
theorem s_Rounded' {n i p c q : Int} (hn : 2 <= n /\ n <= 64) (hi : 0 <= i /\ i <= n) (hp : p.natAbs <= B24) (hc : c.natAbs <= B24) (hq : q.natAbs <= B24) :
  Qcg [I (IntKind.i64.wrap (IntKind.i64.wrap (IntKind.i64.wrap (IntKind.i64.wrap (n - i) * IntKind.i64.wrap (n - i)) * IntKind.i64.wrap (p - c)) + IntKind.i64.wrap (IntKind.i64.wrap (i * i) * IntKind.i64.wrap (q - c)))), I (IntKind.i64.wrap (n * n))] = some [I (near ((n - i) * (n - i) * (p - c) + i * i * (q - c)) (n * n))] := by
 have n1 : 0 < n * n /\ n * n <= 4096 := ⟨Int.mul_pos (by omega) (by omega), by have := Int.mul_le_mul hn.2 hn.2 (by omega) (by omega); omega⟩
 have n2 : 0 <= (n - i) * (n - i) /\ (n - i) * (n - i) <= 4096 := ⟨sq_nn _, by have := Int.mul_le_mul (show n - i <= 64 by omega) (show n - i <= 64 by omega) (by omega) (by omega); omega⟩
 have n3 : 0 <= i * i /\ i * i <= 4096 := ⟨sq_nn _, by have := Int.mul_le_mul (show i <= 64 by omega) (show i <= 64 by omega) (by omega) (by omega); omega⟩
 unfold B24 at *
 rw [Qab (x := n - i) (by omega), Qab (x := (n - i) * (n - i)) (by omega), Qab (x := p - c) (by omega), Qab (x := i * i) (by omega), Qab (x := q - c) (by omega), Qab (x := n * n) (by omega)]
 have m1 := mul_bd (x := (n - i) * (n - i)) (y := p - c) (A := 4096) (B := 33554432) (by omega) (by omega)
 have m2 := mul_bd (x := i * i) (y := q - c) (A := 4096) (B := 33554432) (by omega) (by omega)
 generalize (n - i) * (n - i) * (p - c) = u at *
 generalize i * i * (q - c) = v at *
 rw [Qab (x := u) (by omega), Qab (x := v) (by omega), Qab (by omega)]
 exact s_cncref24_Rounded (by omega) (by omega)
theorem l_Corner {MR MP MT MC : List AC -> Option (List AC)} {p c q : Pt} {N : Nat} (hN : 2 <= N /\ N <= 64) (hp : bd B24 p) (hc : bd B24 c) (hq : bd B24 q)
  (hR : ∀ {i p c q : Int}, (0 <= i /\ i <= N) -> p.natAbs <= B24 -> c.natAbs <= B24 -> q.natAbs <= B24 -> MR [I (IntKind.i64.wrap (IntKind.i64.wrap (IntKind.i64.wrap (IntKind.i64.wrap ((N : Int) - i) * IntKind.i64.wrap ((N : Int) - i)) * IntKind.i64.wrap (p - c)) + IntKind.i64.wrap (IntKind.i64.wrap (i * i) * IntKind.i64.wrap (q - c)))), I (IntKind.i64.wrap ((N : Int) * (N : Int)))] = some [I (near (((N : Int) - i) * ((N : Int) - i) * (p - c) + i * i * (q - c)) ((N : Int) * (N : Int)))]) :
  ∀ (k i : Nat), i + k = N + 1 -> Qbl (Qfy MR MP MT MC) [.view kPt (((List.range i).map fun (i : Nat) => mixP N i p c q).map ptR), I N, I i, I c.x, I c.y, I c.z, I p.x, I p.y, I p.z, I q.x, I q.y, I q.z] =
   some (1, [.view kPt (((List.range (N + 1)).map fun (i : Nat) => mixP N i p c q).map ptR)])
 | 0, i, hi => by
  obtain rfl : i = N + 1 := by omega
  refine Qbn ?_ (by simp)
  rw [st_cncref24_Corner_9_eq]
  simp only [go_sem]
  rw [if_neg (by omega)]
 | k + 1, i, hi => by
  have b1 := mix_bd (n := N) (i := i) (A := B24) (by omega) (by omega) hp.1 hc.1 hq.1
  have b2 := mix_bd (n := N) (i := i) (A := B24) (by omega) (by omega) hp.2.1 hc.2.1 hq.2.1
  have b3 := mix_bd (n := N) (i := i) (A := B24) (by omega) (by omega) hp.2.2 hc.2.2 hq.2.2
  have r1 := hR (i := i) (by omega) hp.1 hc.1 hq.1
  have r2 := hR (i := i) (by omega) hp.2.1 hc.2.1 hq.2.1
  have r3 := hR (i := i) (by omega) hp.2.2 hc.2.2 hq.2.2
  have hs : Qfy MR MP MT MC [.view kPt (((List.range i).map fun (i : Nat) => mixP N i p c q).map ptR), I N, I i, I c.x, I c.y, I c.z, I p.x, I p.y, I p.z, I q.x, I q.y, I q.z] =
    some (0, [.view kPt (((List.range (i + 1)).map fun (i : Nat) => mixP N i p c q).map ptR), I N, I (i + 1 : Nat), I c.x, I c.y, I c.z, I p.x, I p.y, I p.z, I q.x, I q.y, I q.z]) := by
   rw [st_cncref24_Corner_9_eq]
   simp only [go_sem, r1, r2, r3]
   rw [if_pos (by omega)]
   unfold mixI B24 at b1 b2 b3
   rw [Qab (x := c.x + _) (by omega), Qab (x := c.y + _) (by omega), Qab (x := c.z + _) (by omega), Qab (x := (i : Int) + 1) (by omega)]
   have hacc : ((List.range i ++ [i]).map fun (i : Nat) => mixP N i p c q).map ptR = ((List.range i).map fun (i : Nat) => mixP N i p c q).map ptR ++ [ptR (mixP N i p c q)] := by simp
   rw [hacc, if_pos (by simp only [List.length_append, List.length_map, List.length_range, List.length_cons, List.length_nil]; omega)]
   rfl
  rw [Qbk hs]
  exact l_Corner hN hp hc hq hR k (i + 1) (by omega)
theorem s_cncref24_Corner {a c b : Pt} {tol : Int} (ha : bd B24 a) (hc : bd B24 c) (hb : bd B24 b) (ht : 0 <= tol /\ tol <= 16000) :
  m_cncref24_Corner [I a.x, I a.y, I a.z, I c.x, I c.y, I c.z, I b.x, I b.y, I b.z, I tol] = some [.view kPt ((cornerP a c b tol).map ptR)] := by
 show mf_cncref24_Corner _ _ _ _ (Qbl (Qfy _ _ _ _)) _ = _
 have e1 := s_cncref24_Reach ha hc hb ht
 have hR := @s_Rounded'
 generalize Qgv = MC at *
 unfold cornerP
 by_cases h : reachP a c b tol = 0
 ·rw [if_pos h]
  rw [mf_cncref24_Corner_eq]
  simp only [go_sem, e1]
  rw [if_pos h]
  rfl
 ·rw [if_neg h]
  obtain ⟨h1, h2, h3, h4, h5, -⟩ := reach_spec h
  obtain ⟨m1, m2⟩ := mn_le (lenP a c) (lenP c b)
  have h0 : ¬ reachP a c b tol = 0 := h
  generalize reachP a c b tol = d at *
  have k1 : bd B24 (towP c a d) := tow_betw hc ha h1 (by omega)
  have k2 : bd B24 (towP c b d) := tow_betw hc hb h2 (by rw [lenP_comm b c]; omega)
  have t1 := s_cncref24_Toward hc ha h1 (d := d) (by omega)
  have t2 := s_cncref24_Toward hc hb h2 (d := d) (by omega)
  obtain ⟨p1, p2⟩ := s_cncref24_Pieces k1 hc k2
  generalize piecesP (towP c a d) c (towP c b d) = n at *
  obtain ⟨N, rfl⟩ : ∃ N : Nat, n = N := ⟨n.toNat, by rcases p2 with rfl | rfl | rfl | rfl | rfl | rfl <;> rfl⟩
  have hN : 2 <= N /\ N <= 64 := by unfold isPow at p2; omega
  have hl := l_Corner (MR := Qcg) (MP := Qfd) (MT := Qdp) (MC := MC) hN k1 hc k2 (fun hi hp hc hq => hR (by omega) hi hp hc hq) (N + 1) 0 (by omega)
  generalize Qcg = MR at *
  generalize Qfd = MP at *
  generalize Qdp = MT at *
  generalize towP c a d = p at *
  generalize towP c b d = q at *
  rw [mf_cncref24_Corner_eq]
  simp only [List.cons_append, List.nil_append, ptR] at t1 t2
  have hl' : Qbl (Qfy MR MP MT MC) [.view kPt [], I N, I 0, I c.x, I c.y, I c.z, I p.x, I p.y, I p.z, I q.x, I q.y, I q.z] = some (1, [.view kPt (((List.range (N + 1)).map fun (i : Nat) => mixP N i p c q).map ptR)]) := hl
  simp only [go_sem, e1, t1, t2, p1, hl']
  rw [if_neg h0, Int.toNat_natCast]
end Go.Bm
/- small points; numbers modulo n -/
set_option maxRecDepth 100000
namespace Go.Bm
theorem s_cncref23_small (p : Pt) (l : Int) (hl : 0 <= l /\ l <= 1000000000) : ∃ r, Qik [I p.x, I p.y, I p.z, I l] = some [B r] /\ (r = true ↔ bd l.toNat p) := by
 unfold Qik
 rw [mf_cncref23_small_eq]
 simp only [go_sem]
 rw [Qab (by omega)]
 unfold bd
 by_cases h1 : p.x < 0 - l
 ·rw [if_pos h1]; exact ⟨_, rfl, by simp; omega⟩
 rw [if_neg h1]
 by_cases h2 : p.x > l
 ·rw [if_pos h2]; exact ⟨_, rfl, by simp; omega⟩
 rw [if_neg h2]
 by_cases h3 : p.y < 0 - l
 ·rw [if_pos h3]; exact ⟨_, rfl, by simp; omega⟩
 rw [if_neg h3]
 by_cases h4 : p.y > l
 ·rw [if_pos h4]; exact ⟨_, rfl, by simp; omega⟩
 rw [if_neg h4]
 by_cases h5 : p.z < 0 - l
 ·rw [if_pos h5]; exact ⟨_, rfl, by simp; omega⟩
 rw [if_neg h5]
 by_cases h6 : p.z > l
 ·rw [if_pos h6]; exact ⟨_, rfl, by simp; omega⟩
 rw [if_neg h6]
 exact ⟨_, rfl, by simp; omega⟩
theorem s_cncmill_Mod {v n : Int} (_ : i64 v) (hn : 0 < n /\ n <= 4611686018427387904) : Qfq [I v, I n] = some [I (v % n)] := by
 unfold Qfq
 rw [mf_cncmill_Mod_eq, Qcs (by omega), Qcs (by omega)]
 have h1 : -n < v.tmod n /\ v.tmod n < n := by
  have a1 := Int.tmod_lt_of_pos v hn.1
  have a2 := Int.lt_tmod_of_pos v hn.1
  omega
 rw [Qab (by omega)]
 have h2 : (v.tmod n + n).tmod n = v % n := by
  rw [Int.tmod_eq_emod_of_nonneg (by omega), Int.add_emod_right]
  have h3 := Int.tmod_add_mul_tdiv v n
  have h4 : v % n = (v.tmod n + n * v.tdiv n) % n := by rw [h3]
  rw [h4, Int.add_mul_emod_self_left]
 rw [h2]
end Go.Bm
