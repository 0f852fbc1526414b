/- laid together -/
import Derived.Test.YtdllaekpkcanbaaPrRt
import Derived.Lib.ItoaNum
import Derived.Test.YtdllaekpkcanbaaPrPt
import Derived.Test.YtdllaekpkcanbaaMx5
set_option linter.unusedVariables false
set_option linter.unusedSimpArgs false
/- what the library's division of two words by one gives; a quotient of two words; a b / sqrt n -/
set_option maxRecDepth 100000
namespace Go.Bm

theorem kn_more {a b v u q r : Nat} (hU : v < a * 4294967296 + b) (hu : u < 4294967296) (hq : v = q * a + r) (h : 4294967296 <= q \/ r * 4294967296 + u < q * b) : (v * 4294967296 + u) / (a * 4294967296 + b) < q := by
 have hy : 0 < a * 4294967296 + b := by omega
 rw [Nat.div_lt_iff_lt_mul hy]
 rcases h with h | h
 ·have h1 : 4294967296 * (a * 4294967296 + b) <= q * (a * 4294967296 + b) := Nat.mul_le_mul_right _ h
  omega
 ·have e : q * (a * 4294967296 + b) = q * a * 4294967296 + q * b := by rw [Nat.mul_add, Nat.mul_assoc]
  rw [e]
  clear e
  generalize q * a = p at *
  generalize q * b = t at *
  subst hq
  rw [Nat.add_mul p r 4294967296, Nat.add_assoc]
  exact Nat.add_lt_add_left h _
theorem kn_done {a b v u q r : Nat} (hU : v < a * 4294967296 + b) (hq : v = q * a + r) (h : q * b <= r * 4294967296 + u) : q <= (v * 4294967296 + u) / (a * 4294967296 + b) := by
 have hy : 0 < a * 4294967296 + b := by omega
 rw [Nat.le_div_iff_mul_le hy]
 have e : q * (a * 4294967296 + b) = q * a * 4294967296 + q * b := by rw [Nat.mul_add, Nat.mul_assoc]
 rw [e]
 generalize q * a = p at *
 generalize q * b = t at *
 omega
theorem kn_lt {a b v u : Nat} (hU : v < a * 4294967296 + b) (hu : u < 4294967296) : (v * 4294967296 + u) / (a * 4294967296 + b) < 4294967296 := by
 rw [Nat.div_lt_iff_lt_mul (by omega)]
 omega
theorem kn_mul {q b : Nat} (hq : q < 4294967296) (hb : b < 4294967296) : q * b <= 18446744065119617025 := by
 have := Nat.mul_le_mul (show q <= 4294967295 by omega) (show b <= 4294967295 by omega)
 omega
theorem kn_round {α : Type} {F G : Nat -> Nat -> Option α} {a b v u Q : Nat} (hQ : (v * 4294967296 + u) / (a * 4294967296 + b) = Q) (hb : b < 4294967296) (ha : 2147483648 <= a) (ha2 : a < 4294967296) (hU : v < a * 4294967296 + b) (hu : u < 4294967296) {X : α}
  (hF : ∀ q r : Nat, q <= 4294967297 -> r < 4294967296 -> F q r = if 4294967296 <= q \/ r * 4294967296 + u < q * b then (if 4294967296 <= r + a then G (q - 1) 0 else F (q - 1) (r + a)) else G q 0)
  (hG : G Q 0 = some X) : ∀ (k q r : Nat), q <= Q + k -> Q <= q -> v = q * a + r -> r < 4294967296 -> q <= 4294967297 -> F q r = some X
 | k, q, r, hk, h1, h2, h3, h4 => by
  rw [hF q r h4 h3]
  by_cases c : 4294967296 <= q \/ r * 4294967296 + u < q * b
  ·rw [if_pos c]
   have h5 := kn_more hU hu h2 c
   rw [hQ] at h5
   have e : v = (q - 1) * a + (r + a) := by
    have : (q - 1) * a + a = q * a := by rw [<- Nat.succ_mul]; congr 1; omega
    omega
   by_cases c2 : 4294967296 <= r + a
   ·rw [if_pos c2]
    have h6 : (q - 1) * b <= (r + a) * 4294967296 + u := by
     have := Nat.mul_le_mul (show q - 1 <= 4294967296 by omega) (show b <= 4294967296 by omega)
     omega
    have h7 := kn_done hU e h6
    rw [hQ] at h7
    rw [show q - 1 = Q by omega]
    exact hG
   ·rw [if_neg c2]
    match k with
    | 0 => omega
    | k + 1 => exact kn_round hQ hb ha ha2 hU hu hF hG k (q - 1) (r + a) (by omega) (by omega) e (by omega) (by omega)
  ·rw [if_neg c]
   have h7 := kn_done (u := u) hU h2 (by omega)
   rw [hQ] at h7
   rw [show q = Q by omega]
   exact hG
theorem kn_first {a b v u : Nat} (hb : b < 4294967296) (ha : 2147483648 <= a) (hU : v < a * 4294967296 + b) (hu : u < 4294967296) : (v * 4294967296 + u) / (a * 4294967296 + b) <= v / a /\ v / a <= 4294967297 /\ v = v / a * a + v % a /\ v % a < a := by
 have e : v = v / a * a + v % a := by have := Nat.div_add_mod v a; rw [Nat.mul_comm] at this; omega
 have hm : v % a < a := Nat.mod_lt _ (by omega)
 refine ⟨?_, ?_, e, hm⟩
 ·rw [<- Nat.lt_succ_iff, Nat.div_lt_iff_lt_mul (by omega)]
  have e2 : (v / a).succ * (a * 4294967296 + b) = (v / a * a + a) * 4294967296 + (v / a).succ * b := by rw [Nat.mul_add, <- Nat.mul_assoc, Nat.succ_mul]
  rw [e2]
  omega
 ·rw [<- Nat.lt_succ_iff, Nat.div_lt_iff_lt_mul (by omega)]
  omega
theorem wr {x : Nat} (h : x <= 18446744073709551615) : IntKind.u64.wrap (x : Int) = x := Qeh (by omega)
theorem l_dv17 {M : List AC -> Option (List AC)} {y s v0 : Int} {a b v u : Nat} (hb : b < 4294967296) (ha : 2147483648 <= a) (ha2 : a < 4294967296) (hU : v < a * 4294967296 + b) (hu : u < 4294967296) :
  Qb1 (Qey M) [U y, U s, U a, U b, U v, U u, U v0, U ((v / a : Nat) : Int), U ((v % a : Nat) : Int)] = some (1, [U y, U s, U a, U b, U v, U u, U v0, U (((v * 4294967296 + u) / (a * 4294967296 + b) : Nat) : Int)]) := by
 obtain ⟨f1, f2, f3, f4⟩ := kn_first hb ha hU hu
 refine kn_round (F := fun q r => Qb1 (Qey M) [U y, U s, U a, U b, U v, U u, U v0, U q, U r]) (G := fun q _ => some (1, [U y, U s, U a, U b, U v, U u, U v0, U q])) rfl hb ha ha2 hU hu ?_ rfl (v / a) _ _ (Nat.le_add_left _ _) f1 f3 (by omega) f2
 intro q r hq hr
 have w1 : IntKind.u64.wrap ((r : Int) + (a : Int)) = ((r + a : Nat) : Int) := by rw [<- Int.natCast_add, wr (by omega)]
 have w3 : IntKind.u64.wrap (IntKind.u64.wrap (4294967296 * (r : Int)) + (u : Int)) = ((r * 4294967296 + u : Nat) : Int) := by rw [show (4294967296 : Int) * r = ((r * 4294967296 : Nat) : Int) by omega, wr (by omega), <- Int.natCast_add, wr (by omega)]
 have w4 : 4294967296 <= q -> IntKind.u64.wrap ((q : Int) - 1) = ((q - 1 : Nat) : Int) := fun h => by rw [show (q : Int) - 1 = ((q - 1 : Nat) : Int) by omega, wr (by omega)]
 have hst := st_bits_Div64_17_eq (Qal := M) y s a b v u v0 q r
 rw [w1, w3] at hst
 by_cases c1 : 4294967296 <= q
 ·rw [Qhd (show (q : Int) >= 4294967296 by omega), w4 c1] at hst
  show _ = if _ then _ else _
  rw [if_pos (.inl c1)]
  by_cases c2 : 4294967296 <= r + a
  ·rw [Qhd (show ((r + a : Nat) : Int) >= 4294967296 by omega)] at hst
   rw [if_pos c2]
   exact Qcj hst (by simp)
  ·rw [Qcl (show ¬ ((r + a : Nat) : Int) >= 4294967296 by omega)] at hst
   rw [if_neg c2]
   exact Qb8 hst
 ·have hqb := kn_mul (q := q) (b := b) (by omega) hb
  rw [Qcl (show ¬ (q : Int) >= 4294967296 by omega), <- Int.natCast_mul, wr (Nat.le_trans hqb (by decide))] at hst
  show _ = if _ then _ else _
  by_cases c3 : r * 4294967296 + u < q * b
  ·rw [Qhd (show ((q * b : Nat) : Int) > ((r * 4294967296 + u : Nat) : Int) by omega)] at hst
   rw [if_pos (.inr c3)]
   have hq0 : 0 < q := by
    rcases Nat.eq_zero_or_pos q with h | h
    ·rw [h] at c3; omega
    ·exact h
   rw [show (q : Int) - 1 = ((q - 1 : Nat) : Int) by omega, wr (by omega)] at hst
   by_cases c2 : 4294967296 <= r + a
   ·rw [Qhd (show ((r + a : Nat) : Int) >= 4294967296 by omega)] at hst
    rw [if_pos c2]
    exact Qcj hst (by simp)
   ·rw [Qcl (show ¬ ((r + a : Nat) : Int) >= 4294967296 by omega)] at hst
    rw [if_neg c2]
    exact Qb8 hst
  ·rw [Qcl (show ¬ ((q * b : Nat) : Int) > ((r * 4294967296 + u : Nat) : Int) by omega)] at hst
   rw [if_neg (fun h => h.elim c1 c3)]
   exact Qcj hst (by simp)
theorem l_dv24 {M : List AC -> Option (List AC)} {N : List AC -> Option (Nat × List AC)} {y s q1 w : Int} {a b v u : Nat} (hb : b < 4294967296) (ha : 2147483648 <= a) (ha2 : a < 4294967296) (hU : v < a * 4294967296 + b) (hu : u < 4294967296) :
  Qb1 (Qhs M N) [U y, U s, U a, U b, U u, U q1, U ((v % a : Nat) : Int), U w, U ((v / a : Nat) : Int)] = some (1, [U y, U s, U u, U q1, U w, U (((v * 4294967296 + u) / (a * 4294967296 + b) : Nat) : Int)]) := by
 obtain ⟨f1, f2, f3, f4⟩ := kn_first hb ha hU hu
 refine kn_round (F := fun q r => Qb1 (Qhs M N) [U y, U s, U a, U b, U u, U q1, U r, U w, U q]) (G := fun q _ => some (1, [U y, U s, U u, U q1, U w, U q])) rfl hb ha ha2 hU hu ?_ rfl (v / a) _ _ (Nat.le_add_left _ _) f1 f3 (by omega) f2
 intro q r hq hr
 have w1 : IntKind.u64.wrap ((r : Int) + (a : Int)) = ((r + a : Nat) : Int) := by rw [<- Int.natCast_add, wr (by omega)]
 have w3 : IntKind.u64.wrap (IntKind.u64.wrap (4294967296 * (r : Int)) + (u : Int)) = ((r * 4294967296 + u : Nat) : Int) := by rw [show (4294967296 : Int) * r = ((r * 4294967296 : Nat) : Int) by omega, wr (by omega), <- Int.natCast_add, wr (by omega)]
 have w4 : 4294967296 <= q -> IntKind.u64.wrap ((q : Int) - 1) = ((q - 1 : Nat) : Int) := fun h => by rw [show (q : Int) - 1 = ((q - 1 : Nat) : Int) by omega, wr (by omega)]
 have hst := st_bits_Div64_24_eq (Qal := M) (N17 := N) y s a b u q1 r w q
 rw [w1, w3] at hst
 by_cases c1 : 4294967296 <= q
 ·rw [Qhd (show (q : Int) >= 4294967296 by omega), w4 c1] at hst
  show _ = if _ then _ else _
  rw [if_pos (.inl c1)]
  by_cases c2 : 4294967296 <= r + a
  ·rw [Qhd (show ((r + a : Nat) : Int) >= 4294967296 by omega)] at hst
   rw [if_pos c2]
   exact Qcj hst (by simp)
  ·rw [Qcl (show ¬ ((r + a : Nat) : Int) >= 4294967296 by omega)] at hst
   rw [if_neg c2]
   exact Qb8 hst
 ·have hqb := kn_mul (q := q) (b := b) (by omega) hb
  rw [Qcl (show ¬ (q : Int) >= 4294967296 by omega), <- Int.natCast_mul, wr (Nat.le_trans hqb (by decide))] at hst
  show _ = if _ then _ else _
  by_cases c3 : r * 4294967296 + u < q * b
  ·rw [Qhd (show ((q * b : Nat) : Int) > ((r * 4294967296 + u : Nat) : Int) by omega)] at hst
   rw [if_pos (.inr c3)]
   have hq0 : 0 < q := by
    rcases Nat.eq_zero_or_pos q with h | h
    ·rw [h] at c3; omega
    ·exact h
   rw [show (q : Int) - 1 = ((q - 1 : Nat) : Int) by omega, wr (by omega)] at hst
   by_cases c2 : 4294967296 <= r + a
   ·rw [Qhd (show ((r + a : Nat) : Int) >= 4294967296 by omega)] at hst
    rw [if_pos c2]
    exact Qcj hst (by simp)
   ·rw [Qcl (show ¬ ((r + a : Nat) : Int) >= 4294967296 by omega)] at hst
    rw [if_neg c2]
    exact Qb8 hst
  ·rw [Qcl (show ¬ ((q * b : Nat) : Int) > ((r * 4294967296 + u : Nat) : Int) by omega)] at hst
   rw [if_neg (fun h => h.elim c1 c3)]
   exact Qcj hst (by simp)
theorem pw_s {s : Nat} (hs : s <= 63) : (2 : Int) ^ min (Int.toNat (s : Int)) IntKind.u64.bits = ((2 ^ s : Nat) : Int) := by
 have e : min (Int.toNat (s : Int)) IntKind.u64.bits = s := by
  show min (Int.toNat (s : Int)) 64 = s
  omega
 rw [e]
 simp
theorem pw_t {s : Nat} (hs : s <= 63) : (2 : Int) ^ min (Int.toNat ((64 - s : Nat) : Int)) IntKind.u64.bits = ((2 ^ (64 - s) : Nat) : Int) := by
 have e : min (Int.toNat ((64 - s : Nat) : Int)) IntKind.u64.bits = 64 - s := by
  show min (Int.toNat ((64 - s : Nat) : Int)) 64 = 64 - s
  omega
 rw [e]
 simp
theorem fdivN (x y : Nat) : ((x : Int)).fdiv (y : Int) = ((x / y : Nat) : Int) := by
 rw [Int.fdiv_eq_ediv_of_nonneg _ (by omega)]; rfl
theorem tdivN (x y : Nat) : ((x : Int)).tdiv (y : Int) = ((x / y : Nat) : Int) := by
 rw [Int.tdiv_eq_ediv_of_nonneg (by omega)]; rfl
theorem orP {A B s : Nat} (hB : B < 2 ^ s) (h : A * 2 ^ s + B < w64) : IntKind.u64.wrap (((BitVec.ofInt IntKind.u64.bits ((A * 2 ^ s : Nat) : Int) ||| BitVec.ofInt IntKind.u64.bits (B : Int)).toNat : Nat) : Int) = ((A * 2 ^ s + B : Nat) : Int) := by
 rw [Qdr] at h
 have e : (BitVec.ofInt IntKind.u64.bits ((A * 2 ^ s : Nat) : Int) ||| BitVec.ofInt IntKind.u64.bits (B : Int)).toNat = A * 2 ^ s + B := by
  rw [BitVec.toNat_or]
  have e1 : ∀ v : Nat, v < 18446744073709551616 -> (BitVec.ofInt IntKind.u64.bits (v : Int)).toNat = v := by
   intro v hv
   simp only [IntKind.bits, BitVec.toNat_ofInt]
   omega
  have := (Nat.two_pow_add_eq_or_of_lt hB A).symm
  rw [Nat.mul_comm] at this
  generalize A * 2 ^ s = X at *
  rw [e1 _ (by omega), e1 _ (by omega)]
  exact this
 rw [e, wr (by omega)]
theorem rest_w {v u q1 y : Nat} (hy : y < w64) (hq : q1 = (v * 4294967296 + u) / y) (hy0 : 0 < y) : IntKind.u64.wrap (IntKind.u64.wrap (IntKind.u64.wrap ((v : Int) * 4294967296) + (u : Int)) - IntKind.u64.wrap ((q1 : Int) * (y : Int))) = (((v * 4294967296 + u) % y : Nat) : Int) := by
 have h1 := Nat.div_add_mod (v * 4294967296 + u) y
 have h2 := Nat.mod_lt (v * 4294967296 + u) hy0
 rw [<- hq, Nat.mul_comm] at h1
 rw [Qdr] at hy
 rw [uwrap_mod, uwrap_mod, uwrap_mod, uwrap_mod, <- Int.natCast_mul]
 generalize q1 * y = p at *
 generalize (v * 4294967296 + u) % y = r at *
 omega
theorem rest0 {v a : Nat} (ha : 0 < a) (hv : v < w64) : IntKind.u64.wrap ((v : Int) - IntKind.u64.wrap (IntKind.u64.wrap ((v / a : Nat) : Int) * (a : Int))) = ((v % a : Nat) : Int) := by
 have h1 := Nat.div_add_mod v a
 have h2 := Nat.mod_lt v ha
 have h3 := Nat.div_le_self v a
 rw [Qdr] at hv
 rw [wr (x := v / a) (by omega), <- Int.natCast_mul]
 rw [Nat.mul_comm] at h1
 generalize v / a * a = p at *
 generalize v % a = r at *
 rw [wr (x := p) (by omega), show (v : Int) - (p : Int) = (r : Int) by omega, wr (by omega)]
theorem kn_both {v u1 u0 Y : Nat} (hY : 0 < Y) : (v * w64 + (u1 * 4294967296 + u0)) / Y = (v * 4294967296 + u1) / Y * 4294967296 + ((v * 4294967296 + u1) % Y * 4294967296 + u0) / Y /\
  (v * w64 + (u1 * 4294967296 + u0)) % Y = ((v * 4294967296 + u1) % Y * 4294967296 + u0) % Y := by
 have e : v * w64 + (u1 * 4294967296 + u0) = ((v * 4294967296 + u1) % Y * 4294967296 + u0) + (v * 4294967296 + u1) / Y * 4294967296 * Y := by
  have h := Nat.div_add_mod (v * 4294967296 + u1) Y
  rw [Nat.mul_comm] at h
  rw [Qdr]
  generalize (v * 4294967296 + u1) % Y = r at *
  have e2 : (v * 4294967296 + u1) / Y * 4294967296 * Y = (v * 4294967296 + u1) / Y * Y * 4294967296 := by rw [Nat.mul_assoc, Nat.mul_comm 4294967296, <- Nat.mul_assoc]
  rw [e2]
  generalize (v * 4294967296 + u1) / Y * Y = p at *
  omega
 rw [e, Nat.add_mul_div_right _ _ hY, Nat.add_mul_mod_self_right]
 exact ⟨Nat.add_comm _ _, rfl⟩
theorem a_bits_Div64 {M : List AC -> Option (List AC)} {hi lo y s : Nat} (h0 : 0 < hi) (h1 : hi < y) (hyw : y < w64) (hlo : lo < w64) (hs : s <= 63) (h2 : 9223372036854775808 <= y * 2 ^ s) (h3 : y * 2 ^ s < w64) (hM : M [U y] = some [I s]) :
  mf_bits_Div64 M (Qb1 (Qey M)) (Qb1 (Qhs M (Qb1 (Qey M)))) [U hi, U lo, U y] = some [U (((hi * w64 + lo) / y : Nat) : Int), U (((hi * w64 + lo) % y : Nat) : Int)] := by
 have hP : 0 < 2 ^ s := Nat.two_pow_pos _
 have hPT : 2 ^ s * 2 ^ (64 - s) = w64 := by rw [Qdr, <- Nat.pow_add, show s + (64 - s) = 64 by omega]
 have hT : 0 < 2 ^ (64 - s) := Nat.two_pow_pos _
 have es : IntKind.u64.wrap (s : Int) = s := wr (by omega)
 have et : IntKind.u64.wrap (64 - (s : Int)) = ((64 - s : Nat) : Int) := by rw [show (64 : Int) - s = ((64 - s : Nat) : Int) by omega, wr (by omega)]
 have hB : lo / 2 ^ (64 - s) < 2 ^ s := by rw [Nat.div_lt_iff_lt_mul hT, hPT]; exact hlo
 have hv : hi * 2 ^ s + lo / 2 ^ (64 - s) < y * 2 ^ s := by
  have : hi * 2 ^ s + 2 ^ s <= y * 2 ^ s := by rw [<- Nat.succ_mul]; exact Nat.mul_le_mul_right _ h1
  omega
 -- the whole, moved
 have hN : (hi * w64 + lo) * 2 ^ s = (hi * 2 ^ s + lo / 2 ^ (64 - s)) * w64 + lo * 2 ^ s % w64 := by
  have e1 : lo * 2 ^ s / w64 = lo / 2 ^ (64 - s) := by
   rw [<- hPT, Nat.mul_comm lo, Nat.mul_div_mul_left _ _ hP]
  have e2 := Nat.div_add_mod (lo * 2 ^ s) w64
  rw [e1] at e2
  rw [Nat.add_mul, Nat.add_mul, Nat.add_assoc, Nat.mul_comm (lo / 2 ^ (64 - s)), e2]
  congr 1
  rw [Nat.mul_assoc, Nat.mul_comm w64, Nat.mul_assoc]
 have hU : lo * 2 ^ s % w64 < w64 := Nat.mod_lt _ w64_pos
 have ey : IntKind.u64.wrap ((y : Int) * ((2 ^ s : Nat) : Int)) = ((y * 2 ^ s : Nat) : Int) := by rw [<- Int.natCast_mul, wr (Nat.le_of_lt_succ (by rw [Qdr] at h3; exact h3))]
 have eh : IntKind.u64.wrap ((hi : Int) * ((2 ^ s : Nat) : Int)) = ((hi * 2 ^ s : Nat) : Int) := by
  rw [<- Int.natCast_mul, wr (Nat.le_of_lt_succ (by have := Nat.mul_lt_mul_of_pos_right h1 hP; rw [Qdr] at h3; exact Nat.lt_trans this h3))]
 have el : IntKind.u64.wrap ((lo : Int) * ((2 ^ s : Nat) : Int)) = ((lo * 2 ^ s % w64 : Nat) : Int) := by
  rw [<- Int.natCast_mul, uwrap_mod, Qdr]; rfl
 have eo := orP (A := hi) (B := lo / 2 ^ (64 - s)) (s := s) hB (by omega)
 have hq : (hi * w64 + lo) / y = (hi * w64 + lo) * 2 ^ s / (y * 2 ^ s) := (Nat.mul_div_mul_right _ _ hP).symm
 have hr : (hi * w64 + lo) % y = (hi * w64 + lo) * 2 ^ s % (y * 2 ^ s) / 2 ^ s := by rw [Nat.mul_mod_mul_right, Nat.mul_div_cancel _ hP]
 rw [hq, hr, hN]
 rw [mf_bits_Div64_eq]
 simp only [hM, Option.bind_some, Qjm, nth_1, nth_2, nth_3, nth_4, nth_5, nth_6, nth_7, Qiz, gA, jA, wA, bA, es, et, pw_s hs, pw_t hs, ey, eh, el, fdivN, eo]
 rw [Qky (by simp; omega), Qcl (show ¬ (y : Int) <= hi by omega), Qky (by simp; omega), Qcl (show ¬ (s : Int) < 0 by omega), Qcl (show ¬ (s : Int) < 0 by omega), Qcl (show ¬ ((64 - s : Nat) : Int) < 0 by omega), Qcl (show ¬ (s : Int) < 0 by omega)]
 rw [shr32, and32 _ h3, shr32, and32 _ hU]
 have hY : y * 2 ^ s = y * 2 ^ s / 4294967296 * 4294967296 + y * 2 ^ s % 4294967296 := by omega
 have hW : lo * 2 ^ s % w64 = lo * 2 ^ s % w64 / 4294967296 * 4294967296 + lo * 2 ^ s % w64 % 4294967296 := by omega
 have hb : y * 2 ^ s % 4294967296 < 4294967296 := Nat.mod_lt _ (by omega)
 have hu0 : lo * 2 ^ s % w64 % 4294967296 < 4294967296 := Nat.mod_lt _ (by omega)
 have hu1 : lo * 2 ^ s % w64 / 4294967296 < 4294967296 := by rw [Qdr] at hU ⊢; omega
 have ha : 2147483648 <= y * 2 ^ s / 4294967296 := by omega
 have ha2 : y * 2 ^ s / 4294967296 < 4294967296 := by rw [Qdr] at h3; omega
 clear hN hq hr eh el eo ey hB
 generalize hi * 2 ^ s + lo / 2 ^ (64 - s) = v at *
 generalize lo * 2 ^ s % w64 = w at *
 generalize y * 2 ^ s = Y at *
 generalize w / 4294967296 = u1 at *
 generalize w % 4294967296 = u0 at *
 generalize Y / 4294967296 = a at *
 generalize Y % 4294967296 = b at *
 subst hW
 rw [Qcl (show ¬ (a : Int) = 0 by omega), tdivN, rest0 (by omega) (Nat.lt_trans hv h3), wr (x := v / a) (by have := Nat.div_le_self v a; rw [Qdr] at h3; omega)]
 have hl := l_dv17 (M := M) (y := (Y : Int)) (s := s) (v0 := u0) hb ha ha2 (by rw [<- hY]; exact hv) hu1
 rw [hl]
 rw [<- hY]
 have hY0 : 0 < Y := by omega
 have hr1 := rest_w (v := v) (u := u1) (y := Y) h3 rfl hY0
 have hq1 : (v * 4294967296 + u1) / Y < 4294967296 := by rw [hY]; exact kn_lt (by rw [<- hY]; exact hv) hu1
 have hm1 := Nat.mod_lt (v * 4294967296 + u1) hY0
 obtain ⟨k1, k2⟩ := kn_both (v := v) (u1 := u1) (u0 := u0) hY0
 rw [k1, k2]
 clear hl k1 k2
 obtain ⟨q1, g1⟩ : ∃ q1, (v * 4294967296 + u1) / Y = q1 := ⟨_, rfl⟩
 obtain ⟨r1, g2⟩ : ∃ r1, (v * 4294967296 + u1) % Y = r1 := ⟨_, rfl⟩
 rw [g1] at hr1 hq1 ⊢
 rw [g2] at hr1 hm1 ⊢
 simp only [Option.bind_some, Qjm, nth_1, nth_2, nth_3, nth_4, nth_5, nth_6, nth_7, Qiz, hr1]
 rw [show Nat.beq 1 1 = true from rfl, cond_true, Qcl (show ¬ (a : Int) = 0 by omega), tdivN, rest0 (by omega) (Nat.lt_trans hm1 h3), wr (x := r1 / a) (by have := Nat.div_le_self r1 a; rw [Qdr] at h3; omega)]
 have hl2 := l_dv24 (M := M) (N := Qb1 (Qey M)) (y := (Y : Int)) (s := s) (q1 := q1) (w := r1) hb ha ha2 (by rw [<- hY]; exact hm1) hu0
 rw [hl2]
 rw [<- hY]
 have hr0 := rest_w (v := r1) (u := u0) (y := Y) h3 rfl hY0
 have hq0 : (r1 * 4294967296 + u0) / Y < 4294967296 := by rw [hY]; exact kn_lt (by rw [<- hY]; exact hm1) hu0
 obtain ⟨q0, g3⟩ : ∃ q0, (r1 * 4294967296 + u0) / Y = q0 := ⟨_, rfl⟩
 obtain ⟨r0, g4⟩ : ∃ r0, (r1 * 4294967296 + u0) % Y = r0 := ⟨_, rfl⟩
 rw [g3] at hr0 hq0 ⊢
 rw [g4] at hr0 ⊢
 simp only [Option.bind_some, Qjm, nth_1, nth_2, nth_3, nth_4, nth_5, Qiz, hr0]
 rw [show Nat.beq 1 1 = true from rfl, cond_true, Qcl (show ¬ (s : Int) < 0 by omega), pw_s hs, fdivN]
 have w1 : IntKind.u64.wrap (IntKind.u64.wrap ((q1 : Int) * 4294967296) + (q0 : Int)) = ((q1 * 4294967296 + q0 : Nat) : Int) := by
  rw [show (q1 : Int) * 4294967296 = ((q1 * 4294967296 : Nat) : Int) by omega, wr (by omega), <- Int.natCast_add, wr (by omega)]
 rw [w1]
theorem s_LeadingZeros {y : Nat} (h0 : 0 < y) (h : y < w64) : ∃ s : Nat, Qbd [U y] = some [I s] /\ s <= 63 /\ 9223372036854775808 <= y * 2 ^ s /\ y * 2 ^ s < w64 := by
 have hw := Qdr
 obtain ⟨b1, b2, b3⟩ := Lib.bitLenAux_bounds 64 y (by rw [<- show w64 = 2 ^ 64 by rw [hw]]; exact h) (by omega)
 have hL : Lib.bitLen y = Lib.bitLenAux 64 y := rfl
 generalize hb : Lib.bitLenAux 64 y = L at *
 have hL64 : L <= 64 := by
  by_cases c : L <= 64
  ·exact c
  ·have := Nat.pow_le_pow_right (show 0 < 2 by omega) (show 64 <= L - 1 by omega)
   rw [show (2 : Nat) ^ 64 = 18446744073709551616 from rfl] at this
   omega
 refine ⟨64 - L, ?_, by omega, ?_, ?_⟩
 ·unfold Qbd
  have e64 : two64 = 18446744073709551616 := rfl
  have hu : inU (y : Int) = true := by
   simp only [inU, e64, Bool.and_eq_true, decide_eq_true_eq]
   omega
  simp only [Qjm, Qiz, gA, jA, wA, bA, hu, cond_true, Int.toNat_natCast, hL]
  rw [show (64 : Int) - (L : Int) = ((64 - L : Nat) : Int) by omega]
 ·have e : 2 ^ (L - 1) * 2 ^ (64 - L) = 9223372036854775808 := by rw [<- Nat.pow_add, show L - 1 + (64 - L) = 63 by omega]
  rw [<- e]
  exact Nat.mul_le_mul_right _ b2
 ·have e : 2 ^ L * 2 ^ (64 - L) = w64 := by rw [<- Nat.pow_add, show L + (64 - L) = 64 by omega, hw]
  rw [<- e]
  exact Nat.mul_lt_mul_of_pos_right b3 (Nat.two_pow_pos _)
theorem s_bits_Div64 {hi lo y : Nat} (h1 : hi < y) (hy : y < w64) (hlo : lo < w64) : Qeg [U hi, U lo, U y] = some [U (((hi * w64 + lo) / y : Nat) : Int), U (((hi * w64 + lo) % y : Nat) : Int)] := by
 rcases Nat.eq_zero_or_pos hi with h | h
 ·subst h
  rw [Nat.zero_mul, Nat.zero_add]
  exact s_bits_Div64_0 hlo h1
 ·obtain ⟨s, e, e1, e2, e3⟩ := s_LeadingZeros (show 0 < y by omega) hy
  exact a_bits_Div64 h h1 hy hlo e1 e2 e3 e
end Go.Bm
/- a b / sqrt n, rounded to the nearest: what package wide gives is what the reference gives -/
set_option maxRecDepth 100000
namespace Go.Bm

theorem a_wide_quotient {M : List AC -> Option (List AC)} (hM : ∀ {hi lo y : Nat}, hi < y -> y < w64 -> lo < w64 -> M [U hi, U lo, U y] = some [U (((hi * w64 + lo) / y : Nat) : Int), U (((hi * w64 + lo) % y : Nat) : Int)])
  {hi lo y : Nat} (hhi : hi < w64) (hlo : lo < w64) (hy0 : 0 < y) (hy : y < w64) :
  ∃ qh ql : Nat, mf_wide_quotient M [U hi, U lo, U y] = some [U qh, U ql, B (decide (0 < (hi * w64 + lo) % y))] /\ qh < w64 /\ ql < w64 /\ qh * w64 + ql = (hi * w64 + lo) / y := by
 have h1 := hM (hi := 0) (lo := hi) hy0 hy hhi
 rw [Nat.zero_mul, Nat.zero_add, show ((0 : Nat) : Int) = 0 from rfl] at h1
 have hm := Nat.mod_lt hi hy0
 have h2 := hM (hi := hi % y) (lo := lo) hm hy hlo
 have e := Nat.div_add_mod hi y
 have e2 : hi * w64 + lo = hi % y * w64 + lo + hi / y * w64 * y := by
  have : hi * w64 = hi / y * w64 * y + hi % y * w64 := by
   rw [<- e, Nat.mul_add_mod, Nat.mod_mod]
   rw [show (y * (hi / y) + hi % y) / y = hi / y from by rw [e]]
   rw [Nat.add_mul, Nat.mul_comm y, Nat.mul_assoc, Nat.mul_comm y, Nat.mul_assoc]
  omega
 have hq : (hi * w64 + lo) / y = (hi % y * w64 + lo) / y + hi / y * w64 := by rw [e2, Nat.add_mul_div_right _ _ hy0]
 have hr : (hi * w64 + lo) % y = (hi % y * w64 + lo) % y := by rw [e2, Nat.add_mul_mod_self_right]
 have hlt : (hi % y * w64 + lo) / y < w64 := by
  rw [Nat.div_lt_iff_lt_mul hy0]
  have : hi % y * w64 + w64 <= y * w64 := by rw [<- Nat.succ_mul]; exact Nat.mul_le_mul_right _ hm
  rw [Nat.mul_comm w64]
  omega
 refine ⟨hi / y, (hi % y * w64 + lo) / y, ?_, Nat.lt_of_le_of_lt (Nat.div_le_self _ _) hhi, hlt, by rw [hq]; omega⟩
 rw [mf_wide_quotient_eq]
 simp only [go_sem, h1, h2, hr]
 by_cases c : 0 < (hi % y * w64 + lo) % y
 ·rw [decide_eq_true c, decide_eq_true (show (((hi % y * w64 + lo) % y : Nat) : Int) > 0 by omega)]
 ·rw [decide_eq_false c, decide_eq_false (show ¬ (((hi % y * w64 + lo) % y : Nat) : Int) > 0 by omega)]

theorem over_J {A n t : Nat} (hn : 0 < n) (h1 : t * t <= 2 * A * (2 * A) / n) (h2 : 2 * A * (2 * A) / n < (t + 1) * (t + 1)) (down : Bool) {E : Prop} [Decidable E] (hE : E ↔ (2 * A * (2 * A) % n = 0 /\ t * t = 2 * A * (2 * A) / n)) :
  IsRnd A n down (if t % 2 = 1 /\ (¬ E \/ down = false) then t / 2 + 1 else t / 2) := by
 have e4 : 2 * A * (2 * A) = 4 * (A * A) := by grind
 have k1 : t * t * n <= 2 * A * (2 * A) := (Nat.le_div_iff_mul_le hn).1 h1
 have k2 : 2 * A * (2 * A) < (t + 1) * (t + 1) * n := (Nat.div_lt_iff_lt_mul hn).1 h2
 have k3 : (2 * A * (2 * A) % n = 0 /\ t * t = 2 * A * (2 * A) / n) ↔ t * t * n = 2 * A * (2 * A) := by
  have hd := Nat.div_add_mod (2 * A * (2 * A)) n
  constructor
  ·rintro ⟨g1, g2⟩
   rw [g2, Nat.mul_comm]; omega
  ·intro g
   rw [<- g]
   exact ⟨Nat.mul_mod_left _ _, (Nat.mul_div_cancel _ hn).symm⟩
 have k4 := hE.trans k3
 rw [e4] at k1 k2 k4
 clear hE k3 h1 h2
 generalize hQ : 4 * (A * A) = Q at *
 unfold IsRnd
 rw [hQ]
 rcases Nat.mod_two_eq_zero_or_one t with ht | ht
 ·rw [if_neg (by omega)]
  obtain ⟨m, rfl⟩ : ∃ m, t = 2 * m := ⟨t / 2, by omega⟩
  rw [show 2 * m / 2 = m by omega]
  have h5 : (2 * m + 1) * (2 * m + 1) * n <= (2 * m + 1) * (2 * m + 1) * n := Nat.le_refl _
  refine ⟨?_, ?_⟩
  ·rcases Nat.eq_zero_or_pos m with hm | hm
   ·exact .inl hm
   ·right
    have h6 : (2 * m - 1) * (2 * m - 1) * n < 2 * m * (2 * m) * n := Nat.mul_lt_mul_of_pos_right (Nat.mul_self_lt_mul_self (by omega)) hn
    split <;> omega
  ·split <;> omega
 ·obtain ⟨m, rfl⟩ : ∃ m, t = 2 * m + 1 := ⟨t / 2, by omega⟩
  rw [show (2 * m + 1) / 2 = m by omega]
  have h6 : (2 * m + 1 + 1) * (2 * m + 1 + 1) * n <= (2 * (m + 1) + 1) * (2 * (m + 1) + 1) * n := sqn_le (by omega)
  have h7 : (2 * m - 1) * (2 * m - 1) * n < (2 * m + 1) * (2 * m + 1) * n := Nat.mul_lt_mul_of_pos_right (Nat.mul_self_lt_mul_self (by omega)) hn
  have h8 : 2 * (m + 1) - 1 = 2 * m + 1 := by omega
  by_cases c : ¬ E \/ down = false
  ·rw [if_pos ⟨ht, c⟩, h8]
   refine ⟨.inr ?_, ?_⟩
   ·cases down
    ·simp only [Bool.false_eq_true, if_false]; exact k1
    ·simp only [if_true]
     rcases c with c | c
     ·exact Nat.lt_of_le_of_ne k1 fun h => c (k4.2 h)
     ·cases c
   ·split <;> omega
  ·have c1 : (2 * m + 1) * (2 * m + 1) * n = Q := by
    by_cases g : E
    ·exact k4.1 g
    ·exact absurd (.inl g) c
   have c2 : down = true := by
    cases down
    ·exact absurd (.inr rfl) c
    ·rfl
   subst c2
   rw [if_neg (fun h => c h.2)]
   simp only [if_true]
   exact ⟨.inr (by omega), by omega⟩
theorem sgn_neg {x d : Int} : sgn x d < 0 ↔ x * d < 0 := by
 rcases sgn_cases x d with ⟨h, g⟩ | ⟨h, g⟩ | ⟨h, g⟩ <;> omega
theorem a_wide_Over {MSg MG MS MR MQ MP MK MZ : List AC -> Option (List AC)} {x d : Int} {n X D h1 l1 qh ql t h2 l2 : Nat} (hX : X <= 2147483648) (hD : D <= 2147483648) (hn : 0 < n /\ n <= 4611686018427387904)
  (z1 : MZ [I x] = some [U X]) (z2 : MZ [I d] = some [U D]) (hk : MK [I 2] = some [B true]) (hp1 : MP [U ((2 * (X * D) : Nat) : Int), U ((2 * (X * D) : Nat) : Int)] = some [U h1, U l1])
  (hq1 : MQ [U h1, U l1, U n] = some [U qh, U ql, B (decide (0 < 2 * (X * D) * (2 * (X * D)) % n))]) (hq2 : qh * w64 + ql = 2 * (X * D) * (2 * (X * D)) / n) (hql : ql < w64) (hr1 : MR [U qh, U ql] = some [U t]) (ht2 : t < w64)
  (hp2 : MP [U t, U t] = some [U h2, U l2]) (hp3 : h2 * w64 + l2 = t * t) (hl2 : l2 < w64) (hs : MS [I x, I d] = some [I (sgn x d)])
  (hg : ∀ (more : Int) (some_ neg : Bool), MG [I 2, I more, B some_, B neg] = some [B (if more > 0 then true else if more = 0 then !neg else false)])
  (g1 : ∀ {n : Nat}, n < 9223372036854775808 -> MSg [U n, B false] = some [I n, B true]) (g2 : ∀ {n : Nat}, n <= 9223372036854775808 -> MSg [U n, B true] = some [I (-(n : Int)), B true]) {J : Nat}
  (hJ1 : t % 2 = 1 -> (¬ (2 * (X * D) * (2 * (X * D)) % n = 0 /\ t * t = 2 * (X * D) * (2 * (X * D)) / n) \/ ¬ sgn x d < 0) -> J = t / 2 + 1) (hJ3 : ¬ (t % 2 = 1 /\ (¬ (2 * (X * D) * (2 * (X * D)) % n = 0 /\ t * t = 2 * (X * D) * (2 * (X * D)) / n) \/ ¬ sgn x d < 0)) -> J = t / 2) (hJ2 : t <= 9223372036854775808) :
  mf_wide_Over MSg MG MS MR MQ MP MK MZ [I x, I d, I n, I 2] = some [I (if sgn x d < 0 then -(J : Int) else J), B true] := by
 have hXD : X * D <= 2147483648 * 2147483648 := Nat.mul_le_mul hX hD
 have w1 : IntKind.u64.wrap (2 * IntKind.u64.wrap ((X : Int) * (D : Int))) = ((2 * (X * D) : Nat) : Int) := by
  rw [<- Int.natCast_mul, wr (by omega), show (2 : Int) * ((X * D : Nat) : Int) = ((2 * (X * D) : Nat) : Int) by omega, wr (by omega)]
 have w2 : IntKind.u64.wrap (n : Int) = n := wr (by omega)
 have w3 : ((t : Int)).tdiv 2 = ((t / 2 : Nat) : Int) := tdivN t 2
 have w4 : IntKind.u64.wrap ((t / 2 : Nat) : Int) = ((t / 2 : Nat) : Int) := wr (by rw [Qdr] at ht2; omega)
 have w5 : IntKind.u64.wrap (((t / 2 : Nat) : Int) + 1) = ((t / 2 + 1 : Nat) : Int) := by rw [show ((t / 2 : Nat) : Int) + 1 = ((t / 2 + 1 : Nat) : Int) by omega, wr (by rw [Qdr] at ht2; omega)]
 have w6 : ((t : Int).tmod 2 = 1) = (t % 2 = 1) := by
  rw [Int.tmod_eq_emod_of_nonneg (by omega)]
  exact propext ⟨by omega, by omega⟩
 have hgt : ∀ (neg : Bool) (k : Nat), k < 9223372036854775808 -> MSg [U k, B neg] = some [I (if neg = true then -(k : Int) else k), B true] := by
  intro neg k hk
  cases neg
  ·exact g1 hk
  ·exact g2 (by omega)
 have key : ∀ (neg : Bool) (k : Nat), decide (sgn x d < 0) = neg -> J = k -> k < 9223372036854775808 -> MSg [U k, B neg] = some [I (if sgn x d < 0 then -(J : Int) else J), B true] := by
  intro neg k h1 h2 h3
  rw [hgt neg k h3, h2]
  congr 3
  by_cases c : sgn x d < 0
  ·rw [if_pos c, if_pos (by rw [<- h1]; exact decide_eq_true c)]
  ·rw [if_neg c, if_neg (by rw [<- h1]; simpa using c)]
 have eqq : (h2 = qh /\ l2 = ql) ↔ t * t = 2 * (X * D) * (2 * (X * D)) / n := by
  rw [<- hp3, <- hq2]
  constructor
  ·rintro ⟨rfl, rfl⟩; rfl
  ·intro h
   have a1 : ∀ p q u v : Nat, u < w64 -> v < w64 -> p * w64 + u = q * w64 + v -> p = q /\ u = v := by
    intro p q u v hu hv h
    rcases Nat.lt_trichotomy p q with c | c | c
    ·have := Nat.mul_le_mul_right w64 (show p + 1 <= q from c)
     rw [Nat.succ_mul] at this; omega
    ·subst c; exact ⟨rfl, by omega⟩
    ·have := Nat.mul_le_mul_right w64 (show q + 1 <= p from c)
     rw [Nat.succ_mul] at this; omega
   exact a1 _ _ _ _ hl2 hql h
 rw [mf_wide_Over_eq]
 simp only [go_sem, z1, z2, hk, w1, w2, hp1, hq1, hr1, hs, hp2, w3, w4, w5, hg]
 rw [if_neg (by omega), if_neg (by omega), if_neg (by omega), if_neg (by omega), if_neg (by simp)]
 have ht63 : t / 2 + 1 < 9223372036854775808 := by omega
 have hT : ∀ k : Nat, J = k -> k < 9223372036854775808 -> ((MSg [U (k : Int), B (decide (sgn x d < 0))]).bind fun o => some [I (Qav (nth .dead o 0)), B (boolOf (nth .dead o 1))]) = some [I (if sgn x d < 0 then -(J : Int) else J), B true] := by
  intro k h1 h2
  rw [key _ k rfl h1 h2]
  rfl
 have e3 : ((h2 : Int) = qh /\ (l2 : Int) = ql /\ True) = (t * t = 2 * (X * D) * (2 * (X * D)) / n) := by
  rw [<- propext eqq]
  exact propext ⟨fun h => ⟨by omega, by omega⟩, fun h => ⟨by omega, by omega, trivial⟩⟩
 simp only [e3, w6]
 have n1 : ((1 : Int) > 0) = True := by simp
 have n2 : ((-1 : Int) > 0) = False := by simp
 have n3 : ((-1 : Int) = 0) = False := by simp
 have n4 : ((0 : Int) > 0) = False := by simp
 by_cases cR : 2 * (X * D) * (2 * (X * D)) % n = 0
 ·rw [if_neg (show ¬ 0 < 2 * (X * D) * (2 * (X * D)) % n by omega)]
  by_cases ct : t % 2 = 1
  ·by_cases cE : t * t = 2 * (X * D) * (2 * (X * D)) / n
   ·by_cases cn : sgn x d < 0
    ·have := hJ3 (fun h => h.2.elim (fun g => g ⟨cR, cE⟩) fun g => g cn)
     simp only [n1, n2, n3, n4, Bool.false_eq_true, ct, cE, not_true_eq_false, if_true, if_false]
     rw [if_neg (by simp [cn])]
     exact hT _ this (by omega)
    ·have := hJ1 ct (.inr cn)
     simp only [n1, n2, n3, n4, Bool.false_eq_true, ct, cE, not_true_eq_false, if_true, if_false]
     rw [if_pos (by simp; omega)]
     exact hT _ this ht63
   ·have := hJ1 ct (.inl fun g => cE g.2)
    simp only [n1, n2, n3, n4, Bool.false_eq_true, ct, cE, not_true_eq_false, not_false_eq_true, if_true, if_false]
    exact hT _ this ht63
  ·have := hJ3 (fun h => ct h.1)
   simp only [n1, n2, n3, n4, Bool.false_eq_true, ct, if_false, ite_self]
   exact hT _ this (by omega)
 ·rw [if_pos (show 0 < 2 * (X * D) * (2 * (X * D)) % n by omega)]
  by_cases ct : t % 2 = 1
  ·have := hJ1 ct (.inl fun g => cR g.1)
   simp only [n1, n2, n3, n4, Bool.false_eq_true, ct, not_false_eq_true, if_true]
   exact hT _ this ht63
  ·have := hJ3 (fun h => ct h.1)
   simp only [n1, n2, n3, n4, Bool.false_eq_true, ct, not_false_eq_true, if_true, if_false]
   exact hT _ this (by omega)
theorem nearR_J {x d : Int} {n : Nat} {J : Nat} (hn : 0 < n) (hd : 0 <= d) (hi : IsRnd (x.natAbs * d.natAbs) n (decide (x * d < 0)) J) : (if x * d < 0 then -(J : Int) else J) = Qc1 x d n := by
 unfold Qc1
 rw [Int.natAbs_natCast]
 by_cases hx : x < 0
 ·rw [if_pos hx]
  by_cases hd0 : d = 0
  ·subst hd0
   rw [Int.mul_zero, if_neg (by omega)]
   rw [show x.natAbs * (0 : Int).natAbs = 0 from by simp] at hi ⊢
   have e1 : IsRnd 0 n true 0 := ⟨.inl rfl, by simp⟩
   rw [rnd_of e1]
   obtain ⟨h1, -⟩ := hi
   rw [decide_eq_false (by simp)] at h1
   simp only [Bool.false_eq_true, if_false] at h1
   rcases h1 with h1 | h1
   ·omega
   ·rcases Nat.eq_zero_or_pos J with hJ | hJ
    ·omega
    ·have h2 := Nat.mul_pos (Nat.mul_pos (show 0 < 2 * J - 1 by omega) (show 0 < 2 * J - 1 by omega)) hn
     omega
  ·have hxd : x * d < 0 := Int.mul_neg_of_neg_of_pos hx (by omega)
   rw [decide_eq_true hxd] at hi
   rw [if_pos hxd, rnd_of hi]
 ·rw [if_neg hx]
  have hxd : ¬ x * d < 0 := by have := Int.mul_nonneg (show 0 <= x by omega) hd; omega
  rw [decide_eq_false hxd] at hi
  rw [if_neg hxd, rnd_of hi]
theorem s_wide_Over {x d n : Int} (hx : x.natAbs <= 2147483648) (hd : 0 <= d /\ d <= 2147483648) (hn : 0 < n /\ n <= 4611686018427387904) : Qgg [I x, I d, I n, I 2] = some [I (Qc1 x d n), B true] := by
 obtain ⟨N, rfl⟩ := Int.eq_ofNat_of_zero_le (show 0 <= n by omega)
 have hD : d.natAbs <= 2147483648 := by omega
 have hXD : x.natAbs * d.natAbs <= 2147483648 * 2147483648 := Nat.mul_le_mul hx hD
 have hN : 0 < N /\ N <= 4611686018427387904 := by omega
 have hp : 2 * (x.natAbs * d.natAbs) < w64 := by rw [Qdr]; omega
 obtain ⟨h1, l1, e1, e2, e3⟩ := Qg8 hp hp
 have hNw : N < w64 := by rw [Qdr]; omega
 have hh1 : h1 < w64 := by
  have := Nat.mul_lt_mul'' hp hp
  rw [<- e2] at this
  by_cases c : h1 < w64
  ·exact c
  ·have := Nat.mul_le_mul_right w64 (show w64 <= h1 by omega)
   omega
 obtain ⟨qh, ql, q1, q2, q3, q4⟩ := a_wide_quotient (M := Qeg) s_bits_Div64 hh1 e3 hN.1 hNw
 rw [e2] at q1 q4
 obtain ⟨t, r1, r2, r3, r4⟩ := s_wide_floorRoot q2 q3
 rw [q4] at r2 r3
 obtain ⟨h2, l2, p1, p2, p3⟩ := Qg8 r4 r4
 have ht : t <= 9223372036854775808 := by
  have k1 : t * t <= 2 * (x.natAbs * d.natAbs) * (2 * (x.natAbs * d.natAbs)) := Nat.le_trans r2 (Nat.div_le_self _ _)
  have k2 := Nat.mul_self_le_mul_self_iff.1 k1
  omega
 have hi := over_J hN.1 r2 r3 (decide (x * d < 0)) (E := 2 * (x.natAbs * d.natAbs) * (2 * (x.natAbs * d.natAbs)) % N = 0 /\ t * t = 2 * (x.natAbs * d.natAbs) * (2 * (x.natAbs * d.natAbs)) / N) Iff.rfl
 have hres := nearR_J hN.1 hd.1 hi
 rw [<- hres]
 have := @sgn_neg x d
 have hif : ∀ a : Int, (if x * d < 0 then -a else a) = if sgn x d < 0 then -a else a := by
  intro a
  by_cases c : x * d < 0
  ·rw [if_pos c, if_pos (this.2 c)]
  ·rw [if_neg c, if_neg (fun h => c (this.1 h))]
 rw [hif]
 refine a_wide_Over (X := x.natAbs) (D := d.natAbs) hx hD hN (Qhh (by unfold i64; omega)) (Qhh (by unfold i64; omega)) (s_wide_known (.inr (.inr rfl))) e1 q1 q4 q3 r1 r4 p1 p2 p3 (s_wide_sign x d) s_wide_grows2 s_wide_signed s_wide_signed_neg (fun h1 h2 => ?_) (fun h => ?_) ht
 ·rw [if_pos ⟨h1, h2.imp id fun h => decide_eq_false fun g => h (this.2 g)⟩]
 ·rw [if_neg fun g => h ⟨g.1, g.2.imp id fun k g2 => by rw [decide_eq_false_iff_not] at k; exact k (this.1 g2)⟩]
end Go.Bm
/- the program's lengths, spokes and chords: they are the reference's -/
set_option maxRecDepth 100000
namespace Go.Bm

theorem sq_wrap {a b : Pt} (ha : bd 67108864 a) (hb : bd 67108864 b) :
    IntKind.i64.wrap (IntKind.i64.wrap (IntKind.i64.wrap (0 + IntKind.i64.wrap (IntKind.i64.wrap (a.x - b.x) * IntKind.i64.wrap (a.x - b.x))) + IntKind.i64.wrap (IntKind.i64.wrap (a.y - b.y) * IntKind.i64.wrap (a.y - b.y))) + IntKind.i64.wrap (IntKind.i64.wrap (a.z - b.z) * IntKind.i64.wrap (a.z - b.z))) = sqD a b := by
  have h : ∀ x y : Int, x.natAbs <= 67108864 -> y.natAbs <= 67108864 -> 0 <= (x - y) * (x - y) /\ (x - y) * (x - y) <= 18014398509481984 := by
    intro x y hx hy
    exact Qlo (x := x - y) (A := 134217728) (by omega)
  have h1 := h _ _ ha.1 hb.1
  have h2 := h _ _ ha.2.1 hb.2.1
  have h3 := h _ _ ha.2.2 hb.2.2
  obtain ⟨a1, a2, a3⟩ := ha
  obtain ⟨b1, b2, b3⟩ := hb
  rw [Qab (x := a.x - b.x) (by omega), Qab (x := a.y - b.y) (by omega), Qab (x := a.z - b.z) (by omega)]
  unfold sqD dotP subP
  simp only
  generalize (a.x - b.x) * (a.x - b.x) = u at *
  generalize (a.y - b.y) * (a.y - b.y) = v at *
  generalize (a.z - b.z) * (a.z - b.z) = w at *
  rw [Qab (x := u) (by omega), Qab (x := 0 + u) (by omega), Qab (x := v) (by omega), Qab (x := 0 + u + v) (by omega), Qab (x := w) (by omega), Qab (by omega), Int.zero_add]
theorem a_curve_Length {M : List AC -> Option (List AC)} {a b : Pt} {n : Nat} (ha : bd 67108864 a) (hb : bd 67108864 b) (hn : sqD a b = n)
    (hM : ∃ r : Nat, M [I n, I 1] = some [I ((if ((1 : Int) = 1 /\ r * r < n) \/ ((1 : Int) = 2 /\ r * r + r < n) then r + 1 else r : Nat) : Int), B true] /\ r * r <= n /\ n < (r + 1) * (r + 1)) :
    mf_curve_Length M [I a.x, I a.y, I a.z, I b.x, I b.y, I b.z] = some [I (lenP a b)] := by
  obtain ⟨r, h1, h2, h3⟩ := hM
  have hu := isUp_nat h2 h3
  rw [mf_curve_Length_eq, sq_wrap ha hb, hn]
  simp only [go_sem, h1]
  unfold lenP
  rw [hn, upR_of hu]
  congr 3
  by_cases c : r * r < n
  · rw [if_pos (.inl ⟨trivial, c⟩), if_pos c]
  · rw [if_neg (by simp [c]), if_neg c]
theorem s_curve_Length {a b : Pt} (ha : bd 67108864 a) (hb : bd 67108864 b) : Qeq [I a.x, I a.y, I a.z, I b.x, I b.y, I b.z] = some [I (lenP a b)] := by
  have h0 := sqD_nn a b
  have h1 := sqD_le ha hb (Nat.le_refl _)
  obtain ⟨n, hn⟩ := Int.eq_ofNat_of_zero_le h0
  exact a_curve_Length ha hb hn (s_wide_Sqrt (by omega) (.inl rfl))

theorem mid_tailC {MO : List AC -> Option (List AC)} {a b : Spk} {u w : Int} (ha : okS a) (hb : okS b) (hu : u.natAbs <= 100000000) (hw : w.natAbs <= 100000000)
    (hO : ¬ (u = 0 /\ w = 0) -> MO [I u, I (hf a.r b.r), I (sq2 u w), I 2] = some [I (Qc1 u (hf a.r b.r) (sq2 u w)), B true] /\ MO [I w, I (hf a.r b.r), I (sq2 u w), I 2] = some [I (Qc1 w (hf a.r b.r) (sq2 u w)), B true]) :
    (bif u == 0 then
      bif w == 0 then some [AC.int IntKind.i64 0, AC.int IntKind.i64 0, AC.int IntKind.i64 0, AC.int IntKind.i64 0, AC.bool false]
      else (MO [AC.int IntKind.i64 u, AC.int IntKind.i64 ((IntKind.i64.wrap (IntKind.i64.wrap (a.r + b.r) + 1)).fdiv (2 ^ min (Int.toNat 1) IntKind.i64.bits)), AC.int IntKind.i64 (IntKind.i64.wrap (IntKind.i64.wrap (u * u) + IntKind.i64.wrap (w * w))), AC.int IntKind.i64 2]).bind fun o36 =>
       (MO [AC.int IntKind.i64 w, AC.int IntKind.i64 ((IntKind.i64.wrap (IntKind.i64.wrap (a.r + b.r) + 1)).fdiv (2 ^ min (Int.toNat 1) IntKind.i64.bits)), AC.int IntKind.i64 (IntKind.i64.wrap (IntKind.i64.wrap (u * u) + IntKind.i64.wrap (w * w))), AC.int IntKind.i64 2]).bind fun o37 =>
       some [AC.int IntKind.i64 (Qav (nth AC.dead o36 0)), AC.int IntKind.i64 (Qav (nth AC.dead o37 0)), AC.int IntKind.i64 ((IntKind.i64.wrap (IntKind.i64.wrap (a.r + b.r) + 1)).fdiv (2 ^ min (Int.toNat 1) IntKind.i64.bits)), AC.int IntKind.i64 ((IntKind.i64.wrap (IntKind.i64.wrap (a.h + b.h) + 1)).fdiv (2 ^ min (Int.toNat 1) IntKind.i64.bits)), AC.bool true]
     else (MO [AC.int IntKind.i64 u, AC.int IntKind.i64 ((IntKind.i64.wrap (IntKind.i64.wrap (a.r + b.r) + 1)).fdiv (2 ^ min (Int.toNat 1) IntKind.i64.bits)), AC.int IntKind.i64 (IntKind.i64.wrap (IntKind.i64.wrap (u * u) + IntKind.i64.wrap (w * w))), AC.int IntKind.i64 2]).bind fun o36 =>
       (MO [AC.int IntKind.i64 w, AC.int IntKind.i64 ((IntKind.i64.wrap (IntKind.i64.wrap (a.r + b.r) + 1)).fdiv (2 ^ min (Int.toNat 1) IntKind.i64.bits)), AC.int IntKind.i64 (IntKind.i64.wrap (IntKind.i64.wrap (u * u) + IntKind.i64.wrap (w * w))), AC.int IntKind.i64 2]).bind fun o37 =>
       some [AC.int IntKind.i64 (Qav (nth AC.dead o36 0)), AC.int IntKind.i64 (Qav (nth AC.dead o37 0)), AC.int IntKind.i64 ((IntKind.i64.wrap (IntKind.i64.wrap (a.r + b.r) + 1)).fdiv (2 ^ min (Int.toNat 1) IntKind.i64.bits)), AC.int IntKind.i64 ((IntKind.i64.wrap (IntKind.i64.wrap (a.h + b.h) + 1)).fdiv (2 ^ min (Int.toNat 1) IntKind.i64.bits)), AC.bool true]) =
    some (spkR (midOf a b u w) ++ [B (decide (¬ (u = 0 /\ w = 0)))]) := by
  have q1 := Qlo hu
  have q2 := Qlo hw
  have e : IntKind.i64.wrap (IntKind.i64.wrap (u * u) + IntKind.i64.wrap (w * w)) = sq2 u w := by
    unfold sq2
    generalize u * u = x at *
    generalize w * w = y at *
    rw [Qab (x := x) (by omega), Qab (x := y) (by omega), Qab (by omega)]
  have er : (IntKind.i64.wrap (IntKind.i64.wrap (a.r + b.r) + 1)).fdiv (2 ^ min (Int.toNat 1) IntKind.i64.bits) = hf a.r b.r := by
    have h1 := ha.2.2.1
    have h2 := hb.2.2.1
    rw [Qab (x := a.r + b.r) (by omega), Qab (x := a.r + b.r + 1) (by omega), show (2 ^ min (Int.toNat 1) IntKind.i64.bits : Int) = 2 from rfl, Int.fdiv_eq_ediv_of_nonneg _ (by omega)]
    rfl
  have eh : (IntKind.i64.wrap (IntKind.i64.wrap (a.h + b.h) + 1)).fdiv (2 ^ min (Int.toNat 1) IntKind.i64.bits) = hf a.h b.h := by
    have h1 := ha.2.2.2
    have h2 := hb.2.2.2
    rw [Qab (x := a.h + b.h) (by omega), Qab (x := a.h + b.h + 1) (by omega), show (2 ^ min (Int.toNat 1) IntKind.i64.bits : Int) = 2 from rfl, Int.fdiv_eq_ediv_of_nonneg _ (by omega)]
    rfl
  simp only [er, eh, e]
  simp only [go_sem]
  unfold midOf
  by_cases h : u = 0 /\ w = 0
  · rw [if_pos h.1, if_pos h.2, if_pos h]
    simp [h]
  · obtain ⟨n1, n2⟩ := hO h
    rw [if_neg h]
    simp only [n1, n2, go_sem]
    have hd : decide (¬ (u = 0 /\ w = 0)) = true := decide_eq_true h
    rw [hd]
    by_cases hu0 : u = 0
    · rw [if_pos hu0, if_neg (fun hw0 => h ⟨hu0, hw0⟩)]; rfl
    · rw [if_neg hu0]; rfl
theorem a_curve_Middle {MO MC MD : List AC -> Option (List AC)} {a b : Spk} (ha : okS a) (hb : okS b) {dir : Int} (hd : dir = 1 \/ dir = -1) (full : Bool)
    (hO : ∀ {u w : Int}, u.natAbs <= 100000000 -> w.natAbs <= 100000000 -> ¬ (u = 0 /\ w = 0) -> MO [I u, I (hf a.r b.r), I (sq2 u w), I 2] = some [I (Qc1 u (hf a.r b.r) (sq2 u w)), B true] /\ MO [I w, I (hf a.r b.r), I (sq2 u w), I 2] = some [I (Qc1 w (hf a.r b.r) (sq2 u w)), B true])
    (hC : MC [I a.u, I a.w, I a.r, I a.h, I b.u, I b.w, I b.r, I b.h] = some [I (crs a.u a.w b.u b.w)]) (hD : MD [I a.u, I a.w, I a.r, I a.h, I b.u, I b.w, I b.r, I b.h] = some [I (dt2 a.u a.w b.u b.w)])
    (hcb : (crs a.u a.w b.u b.w).natAbs <= 5000000000000000) :
    mf_curve_Middle MO MC MD [I a.u, I a.w, I a.r, I a.h, I b.u, I b.w, I b.r, I b.h, I dir, B full] = some (spkR (midS a b dir full) ++ [B (decide (¬ ((midD a b dir full).1 = 0 /\ (midD a b dir full).2 = 0)))]) := by
  have key := fun {u w : Int} (hu : u.natAbs <= 100000000) (hw : w.natAbs <= 100000000) => mid_tailC (MO := MO) (a := a) (b := b) ha hb hu hw (hO hu hw)
  have hbd := midD_bd ha hb hd full
  obtain ⟨a1, a2, -⟩ := ha
  obtain ⟨b1, b2, -⟩ := hb
  have w1 : IntKind.i64.wrap (0 - a.u) = -a.u := by rw [Qab (by omega)]; omega
  have w2 : IntKind.i64.wrap (0 - a.w) = -a.w := by rw [Qab (by omega)]; omega
  have w3 : IntKind.i64.wrap (a.u + b.u) = a.u + b.u := Qab (by omega)
  have w4 : IntKind.i64.wrap (a.w + b.w) = a.w + b.w := Qab (by omega)
  have w5 : IntKind.i64.wrap (0 - (a.u + b.u)) = -(a.u + b.u) := by rw [Qab (by omega)]; omega
  have w6 : IntKind.i64.wrap (0 - (a.w + b.w)) = -(a.w + b.w) := by rw [Qab (by omega)]; omega
  have w7 : IntKind.i64.wrap (b.w - a.w) = b.w - a.w := Qab (by omega)
  have w8 : IntKind.i64.wrap (a.u - b.u) = a.u - b.u := Qab (by omega)
  have w9 : IntKind.i64.wrap (dir * (b.w - a.w)) = dir * (b.w - a.w) := by rcases hd with rfl | rfl <;> exact Qab (by omega)
  have w10 : IntKind.i64.wrap (dir * (a.u - b.u)) = dir * (a.u - b.u) := by rcases hd with rfl | rfl <;> exact Qab (by omega)
  have w11 : IntKind.i64.wrap (crs a.u a.w b.u b.w * dir) = crs a.u a.w b.u b.w * dir := by rcases hd with rfl | rfl <;> exact Qab (by omega)
  rw [mf_curve_Middle_eq]
  try dsimp only [go_sem]
  unfold midS
  simp only [w1, w2, w3, w4, w5, w6, w7, w8, w9, w10, hC, hD, Option.bind_some, Qjm, Qiz, gA, jA, wA, bA, w11]
  have fin : ∀ {x : Option (List AC)}, x = some (spkR (midOf a b (midD a b dir full).1 (midD a b dir full).2) ++ [B (decide (¬ ((midD a b dir full).1 = 0 /\ (midD a b dir full).2 = 0)))]) ->
      (bif dir != 1 then bif dir != -1 then some [AC.int IntKind.i64 0, AC.int IntKind.i64 0, AC.int IntKind.i64 0, AC.int IntKind.i64 0, AC.bool false] else x else x) = some (spkR (midOf a b (midD a b dir full).1 (midD a b dir full).2) ++ [B (decide (¬ ((midD a b dir full).1 = 0 /\ (midD a b dir full).2 = 0)))]) := by
    intro x hx
    rcases hd with rfl | rfl
    · rw [Qky (by decide)]; exact hx
    · rw [Qob (by decide), Qky (by decide)]; exact hx
  refine fin ?_
  have hk := key hbd.1 hbd.2
  unfold midD at *
  cases full
  · simp only [cond_false, Bool.false_eq_true, if_false] at hk ⊢
    by_cases c1 : 0 < dt2 a.u a.w b.u b.w
    · rw [Qcl (show ¬ dt2 a.u a.w b.u b.w <= 0 by omega)]
      by_cases c2 : 0 < crs a.u a.w b.u b.w * dir
      · rw [Qcl (show ¬ crs a.u a.w b.u b.w * dir <= 0 by omega)]
        rw [if_pos ⟨c1, c2⟩] at hk ⊢
        exact hk
      · rw [Qhd (show crs a.u a.w b.u b.w * dir <= 0 by omega)]
        rw [if_neg (fun h => c2 h.2), if_pos c1] at hk ⊢
        exact hk
    · rw [Qhd (show dt2 a.u a.w b.u b.w <= 0 by omega)]
      rw [if_neg (fun h => c1 h.1), if_neg c1] at hk ⊢
      exact hk
  · simp only [cond_true, if_true] at hk ⊢
    exact hk
theorem over_S {u w r : Int} (hu : u.natAbs <= 100000000) (hw : w.natAbs <= 100000000) (hr : 0 <= r /\ r <= 50000000) (h : ¬ (u = 0 /\ w = 0)) :
    Qgg [I u, I r, I (sq2 u w), I 2] = some [I (Qc1 u r (sq2 u w)), B true] /\ Qgg [I w, I r, I (sq2 u w), I 2] = some [I (Qc1 w r (sq2 u w)), B true] := by
  have hp := sq2_pos h
  have h1 := Qlo hu
  have h2 := Qlo hw
  have h3 : sq2 u w <= 20000000000000000 := by unfold sq2; omega
  exact ⟨s_wide_Over (by omega) (by omega) (by omega), s_wide_Over (by omega) (by omega) (by omega)⟩
theorem s_curve_Middle {a b : Spk} (ha : okS a) (hb : okS b) {dir : Int} (hd : dir = 1 \/ dir = -1) (full : Bool) :
    Qgm [I a.u, I a.w, I a.r, I a.h, I b.u, I b.w, I b.r, I b.h, I dir, B full] = some (spkR (midS a b dir full) ++ [B (decide (¬ ((midD a b dir full).1 = 0 /\ (midD a b dir full).2 = 0)))]) := by
  have hc := (dt2_bd ha.1 ha.2.1 hb.1 hb.2.1).2
  exact a_curve_Middle ha hb hd full (fun hu hw h => over_S hu hw (hf_bd ha.2.2.1 hb.2.2.1) h)
    (s_curve_cross (dir_nat ha.1) (dir_nat ha.2.1) (dir_nat hb.1) (dir_nat hb.2.1)) (s_curve_dot (dir_nat ha.1) (dir_nat ha.2.1) (dir_nat hb.1) (dir_nat hb.2.1)) hc

def okT (s : Spk) : Prop := okS s /\ ¬ (s.u = 0 /\ s.w = 0) /\ 1 <= s.r
theorem midD_nz {a b : Spk} (ha : ¬ (a.u = 0 /\ a.w = 0)) (hb : ¬ (b.u = 0 /\ b.w = 0)) {dir : Int} (hd : dir = 1 \/ dir = -1) (full : Bool) : ¬ ((midD a b dir full).1 = 0 /\ (midD a b dir full).2 = 0) := by
  have hp := sq2_pos ha
  unfold sq2 at hp
  unfold midD
  split
  · simp only; omega
  · rename_i hf
    have key : 0 < dt2 a.u a.w b.u b.w -> ¬ (a.u + b.u = 0 /\ a.w + b.w = 0) := by
      intro h1 ⟨h2, h3⟩
      have e1 : b.u = -a.u := by omega
      have e2 : b.w = -a.w := by omega
      unfold dt2 at h1
      rw [e1, e2, Int.mul_neg, Int.mul_neg] at h1
      omega
    split
    · rename_i c; exact key c.1
    · split
      · rename_i c1 c2
        have := key c2
        simp only; omega
      · rename_i c1 c2
        simp only
        rintro ⟨h2, h3⟩
        have e1 : b.w = a.w /\ a.u = b.u := by rcases hd with rfl | rfl <;> omega
        unfold dt2 at c2
        rw [e1.1, <- e1.2] at c2
        omega
theorem near_nz {u w r : Int} (hu : u.natAbs <= 100000000) (hw : w.natAbs <= 100000000) (hr : 1 <= r /\ r <= 50000000) (h : ¬ (u = 0 /\ w = 0)) : ¬ (Qc1 u r (sq2 u w) = 0 /\ Qc1 w r (sq2 u w) = 0) := by
  have hp := sq2_pos h
  have h1 := Qlo hu
  have h2 := Qlo hw
  have h3 : sq2 u w <= 20000000000000000 := by unfold sq2; omega
  obtain ⟨q1, q2⟩ := sq2_sq u w
  have key : ∀ x : Int, x.natAbs <= 100000000 -> x * x <= sq2 u w -> Qc1 x r (sq2 u w) = 0 -> 4 * (x * x) <= sq2 u w := by
    intro x hx hq h0
    obtain ⟨-, -, g3⟩ := Qi6 (x := x) (r := r) (n := sq2 u w) (Nat.le_trans hx (by decide)) (by omega) (by omega) hq
    rw [h0] at g3
    obtain ⟨-, g3⟩ := g3
    have g4 : 4 * (x.natAbs * r.natAbs * (x.natAbs * r.natAbs)) <= (sq2 u w).natAbs := by
      rw [show (0 : Int).natAbs = 0 from rfl] at g3
      split at g3 <;> omega
    have e1 : x.natAbs * r.natAbs * (x.natAbs * r.natAbs) = x.natAbs * x.natAbs * (r.natAbs * r.natAbs) := by grind
    have g5 : x.natAbs * x.natAbs * 1 <= x.natAbs * x.natAbs * (r.natAbs * r.natAbs) := Nat.mul_le_mul_left _ (Nat.mul_le_mul (show 1 <= r.natAbs by omega) (show 1 <= r.natAbs by omega))
    have e2 : ((x.natAbs * x.natAbs : Nat) : Int) = x * x := Int.natAbs_mul_self
    omega
  rintro ⟨g1, g2⟩
  have k1 := key u hu q1 g1
  have k2 := key w hw q2 g2
  unfold sq2 at *
  omega
theorem midS_okT {a b : Spk} (ha : okT a) (hb : okT b) {dir : Int} (hd : dir = 1 \/ dir = -1) (full : Bool) : okT (midS a b dir full) := by
  have hn := midD_nz ha.2.1 hb.2.1 hd full
  have hbd := midD_bd ha.1 hb.1 hd full
  have h1 := ha.1.2.2.1
  have h2 := hb.1.2.2.1
  have h3 := ha.2.2
  have h4 := hb.2.2
  have hh : 1 <= hf a.r b.r /\ hf a.r b.r <= 50000000 := by unfold hf; omega
  refine ⟨midS_ok ha.1 hb.1 hd full, ?_, ?_⟩
  · unfold midS midOf
    rw [if_neg hn]
    exact near_nz hbd.1 hbd.2 hh hn
  · unfold midS midOf
    rw [if_neg hn]
    exact hh.1
theorem s_curve_Flat {r n : Int} (hr : 0 <= r /\ r <= 50000000) : Qmj [I r, I n] = some [B (decide (n <= 32 * r - 64))] := by
  unfold Qmj
  rw [mf_curve_Flat_eq, Qab (x := 8 * r) (by omega), Qab (x := 8 * r * 4) (by omega), Qab (x := 8 * r * 4 - 64) (by omega), show 8 * r * 4 - 64 = 32 * r - 64 by omega]
theorem a_curve_settled {MF MC : List AC -> Option (List AC)} {out : List (List AC)} {a b : Spk} (ha : okS a) (hb : okS b) {dir : Int} (hd : dir = 1 \/ dir = -1) (full : Bool)
    (hF : ∀ {r n : Int}, (0 <= r /\ r <= 50000000) -> MF [I r, I n] = some [B (decide (n <= 32 * r - 64))])
    (hC : MC [I a.u, I a.w, I a.r, I a.h, I b.u, I b.w, I b.r, I b.h] = some [I (crs a.u a.w b.u b.w)]) (hcb : (crs a.u a.w b.u b.w).natAbs <= 5000000000000000) :
    Qhl MF MC [.view kSpk out, I a.u, I a.w, I a.r, I a.h, I b.u, I b.w, I b.r, I b.h, B full, I dir] = some [.view kSpk out, B (decide (setS a b dir full)), I dir] := by
  have hr : 0 <= mn a.r b.r /\ mn a.r b.r <= 50000000 := by
    have h1 := ha.2.2.1
    have h2 := hb.2.2.1
    unfold mn; split <;> omega
  obtain ⟨a1, a2, -⟩ := ha
  obtain ⟨b1, b2, -⟩ := hb
  have x1 := sub_nat a1 b1
  have x2 := sub_nat a2 b2
  have q1 := Qlo x1
  have q2 := Qlo x2
  have e : IntKind.i64.wrap (IntKind.i64.wrap ((a.u - b.u) * (a.u - b.u)) + IntKind.i64.wrap ((a.w - b.w) * (a.w - b.w))) = sq2 (a.u - b.u) (a.w - b.w) := by
    unfold sq2
    generalize (a.u - b.u) * (a.u - b.u) = x at *
    generalize (a.w - b.w) * (a.w - b.w) = y at *
    rw [Qab (x := x) (by omega), Qab (x := y) (by omega), Qab (by omega)]
  have w11 : IntKind.i64.wrap (crs a.u a.w b.u b.w * dir) = crs a.u a.w b.u b.w * dir := by rcases hd with rfl | rfl <;> exact Qab (by omega)
  rw [mf_curve_cutter_settled_eq, wrap_nat x1 (by decide), wrap_nat x2 (by decide), e]
  cases full
  · simp only [Bool.not_false, cond_true, hC, Option.bind_some, Qjm, Qiz, gA, jA, wA, bA, w11, hF hr, boolOf_bool]
    by_cases c : 0 < crs a.u a.w b.u b.w * dir
    · rw [Qhd (show crs a.u a.w b.u b.w * dir > 0 from c)]
      by_cases c2 : sq2 (a.u - b.u) (a.w - b.w) <= 32 * mn a.r b.r - 64
      · rw [decide_eq_true c2, decide_eq_true (show setS a b dir false from ⟨rfl, c, c2⟩)]
      · rw [decide_eq_false c2, decide_eq_false (fun h : setS a b dir false => c2 h.2.2)]
    · rw [Qcl (show ¬ crs a.u a.w b.u b.w * dir > 0 from c), decide_eq_false (fun h : setS a b dir false => c h.2.1)]
  · simp only [Bool.not_true, cond_false]
    rw [decide_eq_false (fun h : setS a b dir true => by cases h.1)]
theorem s_curve_settled {out : List (List AC)} {a b : Spk} (ha : okS a) (hb : okS b) {dir : Int} (hd : dir = 1 \/ dir = -1) (full : Bool) :
    Qc5 [.view kSpk out, I a.u, I a.w, I a.r, I a.h, I b.u, I b.w, I b.r, I b.h, B full, I dir] = some [.view kSpk out, B (decide (setS a b dir full)), I dir] :=
  a_curve_settled ha hb hd full s_curve_Flat (s_curve_cross (dir_nat ha.1) (dir_nat ha.2.1) (dir_nat hb.1) (dir_nat hb.2.1)) (dt2_bd ha.1 ha.2.1 hb.1 hb.2.1).2
theorem s_piece {dir : Int} (hd : dir = 1 \/ dir = -1) : ∀ (n k : Nat) (full : Bool) (a b : Spk) (out : List Spk), k <= 16 -> k < n -> okT a -> okT b -> out.length + 2 ^ k <= 1000000 ->
    Qd2 n [.view kSpk (out.map spkR), I a.u, I a.w, I a.r, I a.h, I b.u, I b.w, I b.r, I b.h, B full, I (16 - k : Int), I dir] = some [.view kSpk ((out ++ pcsL dir k full a b).map spkR), I dir]
  | 0, k, _, _, _, _, _, hk, _, _, _ => by omega
  | n + 1, 0, full, a, b, out, _, _, ha, hb, ho => by
    show Qgb _ _ _ _ = _
    rw [Qmh, Qcl (by omega), Qob]
    · unfold pcsL
      rw [List.map_append]; rfl
    · exact Nat.ble_eq_true_of_le (by simp only [List.length_append, List.length_map, List.length_cons, List.length_nil]; omega)
  | n + 1, k + 1, full, a, b, out, hk, hn, ha, hb, ho => by
    have hm := midS_okT ha hb hd full
    have hz := midD_nz ha.2.1 hb.2.1 hd full
    have e3 : 2 ^ (k + 1) = 2 ^ k + 2 ^ k := by rw [Nat.pow_succ]; omega
    have hp : 0 < 2 ^ k := Nat.two_pow_pos _
    have l1 := (pcsL_len k false a (midS a b dir full) (dir := dir)).2
    have i1 := s_piece hd n k false a (midS a b dir full) out (by omega) (by omega) ha hm (by omega)
    have i2 := s_piece hd n k false (midS a b dir full) b (out ++ pcsL dir k false a (midS a b dir full)) (by omega) (by omega) hm hb (by rw [List.length_append]; omega)
    have e1 := s_curve_settled (out := out.map spkR) ha.1 hb.1 hd full
    have e2 := s_curve_Middle ha.1 hb.1 hd full
    rw [decide_eq_true hz] at e2
    show Qgb (Qd2 n) Qgm Qc5 _ = _
    generalize Qd2 n = MP at *
    generalize Qgm = MM at *
    generalize Qc5 = MS at *
    rw [Qmh, Qhd (by omega), Qab (by omega), show (16 - ((k + 1 : Nat) : Int) + 1) = 16 - (k : Int) by omega]
    unfold pcsL
    generalize midS a b dir full = m at *
    generalize pcsL dir k false a m = p1 at *
    generalize pcsL dir k false m b = p2 at *
    simp only [List.cons_append, List.nil_append, spkR] at e2
    simp only [e1, e2, Option.bind_some, Qjm, nth_1, nth_2, nth_3, nth_4, Qiz, gA, jA, wA, bA, boolOf_bool, i1, i2, rowsOf_view]
    by_cases c : setS a b dir full
    · rw [if_pos c, Qky (by simp [c]), Qob]
      · rw [List.map_append]; rfl
      · exact Nat.ble_eq_true_of_le (by simp only [List.length_append, List.length_map, List.length_cons, List.length_nil]; omega)
    · rw [if_neg c, Qob (by simp [c]), cond_true, List.append_assoc]
end Go.Bm
/- the program's chords are the reference's -/
set_option maxRecDepth 100000
namespace Go.Bm

theorem end_okT {it : Itm} {p : Pt} (hc : bd 1048576 it.ce) (hp : bd 1048576 p) (hq : 64 <= sq2 (dU it p) (dW it p)) : okT (endS it p) := by
 obtain ⟨h1, h2, h3, h4⟩ := endS_sq hc hp
 have e : sq2 (dU it p * 16) (dW it p * 16) = 256 * sq2 (dU it p) (dW it p) := by unfold sq2; grind
 refine ⟨endS_ok hc hp, ?_, ?_⟩
 ·show ¬ (dU it p * 16 = 0 /\ dW it p * 16 = 0)
  rintro ⟨g1, g2⟩
  rw [show dU it p = 0 by omega, show dW it p = 0 by omega] at hq
  simp [sq2] at hq
 ·show 1 <= midR _
  obtain ⟨n, hn⟩ := Int.eq_ofNat_of_zero_le h3
  rw [hn] at h4 ⊢
  obtain ⟨r, -, r2, r3, -⟩ := Qjo (n := n) (by omega)
  rw [midR_of (isMid_nat r2 r3)]
  have : 1 <= r := by
   rcases Nat.eq_zero_or_pos r with h | h
   ·subst h; omega
   ·exact h
  split <;> omega
theorem s_mid_sqrt {n : Nat} (hn : n <= 2251799813685248) : Qhb [I n, I 2] = some [I (midR n), B true] := by
 obtain ⟨r, h1, h2, h3⟩ := s_wide_Sqrt (n := n) (mode := 2) (by omega) (.inr rfl)
 rw [h1, midR_of (isMid_nat h2 h3)]
 congr 3
 by_cases c : r * r + r < n
 ·rw [if_pos (.inr ⟨rfl, c⟩), if_pos c]
 ·rw [if_neg (by simp; omega), if_neg c]
theorem a_curve_Spokes {MP MQ MD ME MV : List AC -> Option (List AC)} {it : Itm} (hV : ∃ v, MV (itmR it) = some [B v] /\ (v = true ↔ Qfa it)) (h : Qfa it)
  (hE : it.kind = 3 -> ME (itmR it) = some [I (dU it it.fr * 16), I (dW it it.fr * 16), I 0, I (plH it.plane it.fr * 16), I (dU it it.to * 16), I (dW it it.to * 16), I 0, I (plH it.plane it.to * 16)])
  (hD : ∀ p : Pt, it.kind = 3 -> (p = it.fr \/ p = it.to) -> MD [I (dU it p * 16), I (dW it p * 16), I 0, I (plH it.plane p * 16), I (dU it p * 16), I (dW it p * 16), I 0, I (plH it.plane p * 16)] = some [I (sq2 (dU it p * 16) (dW it p * 16))])
  (hQ : ∀ p : Pt, it.kind = 3 -> (p = it.fr \/ p = it.to) -> MQ [I (sq2 (dU it p * 16) (dW it p * 16)), I 2] = some [I (midR (sq2 (dU it p * 16) (dW it p * 16))), B true])
  (hP : it.kind = 3 -> MP (.view kSpk [spkR (endS it it.fr)] :: spkR (endS it it.fr) ++ spkR (endS it it.to) ++ [B it.full, I 0, I it.dir]) = some [.view kSpk ((Qez it).map spkR), I it.dir]) :
  mf_curve_Spokes MP MQ MD ME MV (itmR it) = if it.kind = 3 then some [.view kSpk ((Qez it).map spkR), B true] else some [.view kSpk [], B false] := by
 obtain ⟨v, hv, hvv⟩ := hV
 rw [mf_curve_Spokes_eq]
 by_cases h3 : it.kind = 3
 ·have e := hE h3
  have p := hP h3
  have d1 := hD it.fr h3 (.inl rfl)
  have d2 := hD it.to h3 (.inr rfl)
  have q1 := hQ it.fr h3 (.inl rfl)
  have q2 := hQ it.to h3 (.inr rfl)
  simp only [List.cons_append, List.nil_append, endS, spkR] at p
  simp only [go_sem, hv, e, d1, d2, q1, q2, p]
  rw [if_neg (by simp [h3]), if_neg (by simp [hvv.2 h]), if_pos h3]
 ·simp only [go_sem]
  rw [if_pos h3, if_neg h3]
theorem s_curve_Spokes {it : Itm} (h : Qfa it) : Qid (itmR it) = if it.kind = 3 then some [.view kSpk ((Qez it).map spkR), B true] else some [.view kSpk [], B false] := by
 have hb : it.kind = 3 -> ∀ p : Pt, (p = it.fr \/ p = it.to) -> bd 1048576 it.ce /\ bd 1048576 p := by
  intro h3 p hp
  obtain ⟨-, h1, h2, ha⟩ := h
  obtain ⟨-, -, hc, -⟩ := ha h3
  rcases hp with rfl | rfl
  ·exact ⟨hc, h1⟩
  ·exact ⟨hc, h2⟩
 refine a_curve_Spokes (Qn4 it) h (fun h3 => ?_) (fun p h3 hp => ?_) (fun p h3 hp => ?_) fun h3 => ?_
 ·obtain ⟨-, h1, h2, ha⟩ := h
  obtain ⟨hp, -, hc, -⟩ := ha h3
  exact s_curve_ends hp h1 h2 hc
 ·obtain ⟨hc, hp2⟩ := hb h3 p hp
  obtain ⟨g1, g2, -⟩ := endS_sq hc hp2
  exact s_curve_dot (Nat.le_trans g1 (by decide)) (Nat.le_trans g2 (by decide)) (Nat.le_trans g1 (by decide)) (Nat.le_trans g2 (by decide))
 ·obtain ⟨hc, hp2⟩ := hb h3 p hp
  obtain ⟨-, -, g3, g4⟩ := endS_sq hc hp2
  obtain ⟨n, hn⟩ := Int.eq_ofNat_of_zero_le g3
  rw [hn] at g4 ⊢
  exact s_mid_sqrt (by omega)
 ·obtain ⟨-, h1, h2, ha⟩ := h
  obtain ⟨hp, hd, hc, t1, t2, -⟩ := ha h3
  have := s_piece hd 20 16 it.full (endS it it.fr) (endS it it.to) [endS it it.fr] (by omega) (by omega) (end_okT hc h1 t1) (end_okT hc h2 t2) (show 1 + 2 ^ 16 <= 1000000 by decide)
  exact this

theorem s_curve_Space {u w h pl : Int} (hp : isPl pl) : Qjy [I u, I w, I h, I pl] = some (ptR (spP pl u w h)) := by
 show mf_curve_Space Qdl _ = _
 have h1 := s_curve_axes pl
 generalize Qdl = M at *
 rw [mf_curve_Space_eq]
 rcases hp with rfl | rfl | rfl
 ·have e : axI 17 = (0, 1, 2) := rfl
  rw [e] at h1
  rw [h1]; rfl
 ·have e : axI 18 = (2, 0, 1) := rfl
  rw [e] at h1
  rw [h1]; rfl
 ·have e : axI 19 = (1, 2, 0) := rfl
  rw [e] at h1
  rw [h1]; rfl
theorem set_app {α : Type} (pre rest : List α) (x z : α) : (pre ++ x :: rest).set pre.length z = (pre ++ [z]) ++ rest := by
 rw [List.set_append_right _ _ (Nat.le_refl _), Nat.sub_self]
 simp
def fillL {α : Type} (f : Nat -> α) (z : α) (n i : Nat) : List α := (List.range i).map f ++ List.replicate (n - i) z
theorem fillL_len {α : Type} (f : Nat -> α) (z : α) {n i : Nat} (h : i <= n) : (fillL f z n i).length = n := by unfold fillL; simp; omega
theorem fillL_set {α : Type} (f : Nat -> α) (z : α) {n i : Nat} (h : i < n) : (fillL f z n i).set i (f i) = fillL f z n (i + 1) := by
 unfold fillL
 have e : n - i = (n - (i + 1)) + 1 := by omega
 rw [e, List.replicate_succ]
 have := set_app ((List.range i).map f) (List.replicate (n - (i + 1)) z) z (f i)
 rw [List.length_map, List.length_range] at this
 rw [this, List.range_succ, List.map_append]
 rfl
theorem fillL_end {α : Type} (f : Nat -> α) (z : α) (n : Nat) : fillL f z n n = (List.range n).map f := by unfold fillL; simp
theorem range_get {α : Type} (l : List α) (d : α) : (List.range l.length).map (fun i => l.getD i d) = l := by
 apply List.ext_getElem
 ·simp
 ·intro i h1 h2
  simp [h2]
def spk0 : Spk := ⟨0, 0, 0, 0⟩
theorem l_ChordsC {MS MP MF MK MV : List AC -> Option (List AC)} {it : Itm} {l : List Spk} {cu cw : Int} (hl : l.length <= 65537) (hcu : cu.natAbs <= 16777216) (hcw : cw.natAbs <= 16777216) (hok : ∀ s ∈ l, okS s)
  (hS : ∀ {u w h : Int}, MS [I u, I w, I h, I it.plane] = some (ptR (spP it.plane u w h))) {f : Nat -> List AC} (hf : ∀ i, f i = ptR (spP it.plane (cu + (l.getD i spk0).u) (cw + (l.getD i spk0).w) (l.getD i spk0).h)) :
  ∀ (k i : Nat), i + k = l.length -> Qb1 (Qff MS MP MF MK MV) (.view kPt (fillL f [I 0, I 0, I 0] l.length i) :: I cu :: I cw :: .view kSpk (l.map spkR) :: I l.length :: I i :: itmR it) =
   some (1, [.view kPt ((List.range l.length).map f)])
 | 0, i, hi => by
  refine Qcj ?_ (by simp)
  rw [st_curve_Chords_9_eq]
  simp only [go_sem]
  rw [if_neg (by omega), show i = l.length by omega, fillL_end]
 | k + 1, i, hi => by
  have hlt : i < l.length := by omega
  have hs : Qff MS MP MF MK MV (.view kPt (fillL f [I 0, I 0, I 0] l.length i) :: I cu :: I cw :: .view kSpk (l.map spkR) :: I l.length :: I i :: itmR it) =
    some (0, .view kPt (fillL f [I 0, I 0, I 0] l.length (i + 1)) :: I cu :: I cw :: .view kSpk (l.map spkR) :: I l.length :: I (i + 1 : Nat) :: itmR it) := by
   rw [st_curve_Chords_9_eq]
   have hr : nth [] (l.map spkR) i = spkR l[i] := nth_map _ _ _ _ hlt
   have ho := hok _ (List.getElem_mem hlt)
   have hfl := fillL_len f [I 0, I 0, I 0] (show i <= l.length by omega)
   have hfi := hf i
   rw [show l.getD i spk0 = l[i] by simp [hlt]] at hfi
   have hset := fillL_set f [I 0, I 0, I 0] hlt
   rw [hfi] at hset
   generalize l[i] = s at *
   obtain ⟨s1, s2, -⟩ := ho
   simp only [go_sem, Int.toNat_natCast, List.length_map, hr]
   rw [if_pos (by omega), if_pos (by omega), Qab (x := cu + s.u) (by omega), Qab (x := cw + s.w) (by omega), Qab (x := (i : Int) + 1) (by omega)]
   simp only [hS, go_sem, hfl]
   rw [if_pos (by omega), hset]
   rfl
  rw [Qb8 hs]
  exact l_ChordsC hl hcu hcw hok hS hf k (i + 1) (by omega)
theorem chords_arc {MS MP MF MK MV : List AC -> Option (List AC)} {N : List AC -> Option (Nat × List AC)} {it : Itm} {S : List Spk} {C : List (List AC)} {f : Pt} {u w h : Int} (hv : MV (itmR it) = some [B true])
  (hK : MK (itmR it) = some [.view kSpk (S.map spkR), B true]) (hf : MF [I it.ce.x, I it.ce.y, I it.ce.z] = some (ptR f)) (hpp : MP [I f.x, I f.y, I f.z, I it.plane] = some [I u, I w, I h]) (hS : S.length <= 65537)
  (hN : N [.view kPt (List.replicate S.length [I 0, I 0, I 0]), I u, I w, .view kSpk (S.map spkR), I S.length, I 0, I it.kind, I it.block, I it.fr.x, I it.fr.y, I it.fr.z, I it.to.x, I it.to.y, I it.to.z, I it.plane, I it.ce.x, I it.ce.y, I it.ce.z, I it.dir, B it.full, I it.feed, B it.perRev, I it.side, I it.radius, I it.blend, I it.n, I it.speed, B it.on] = some (1, [.view kPt C])) :
  Qnj MS MP MF MK MV N (itmR it) = some [.view kPt C, B true] := by
 rw [Qn7]
 simp only [go_sem, hv, hK, hf, hpp, List.length_map, Int.toNat_natCast, hN]
 rw [if_neg (by simp), if_neg (by simp), if_pos (by omega)]
theorem a_curve_Chords {MS MP MF MK MV : List AC -> Option (List AC)} {it : Itm} (hV : ∃ v, MV (itmR it) = some [B v] /\ (v = true ↔ Qfa it)) (h : Qfa it)
  (hK : MK (itmR it) = if it.kind = 3 then some [.view kSpk ((Qez it).map spkR), B true] else some [.view kSpk [], B false])
  (hF : ∀ {p : Pt}, bd 100000000 p -> MF [I p.x, I p.y, I p.z] = some (ptR (fine p))) (hP : isPl it.plane -> ∀ {p : Pt}, MP [I p.x, I p.y, I p.z, I it.plane] = some [I (plU it.plane p), I (plW it.plane p), I (plH it.plane p)])
  (hS : isPl it.plane -> ∀ {u w h : Int}, MS [I u, I w, I h, I it.plane] = some (ptR (spP it.plane u w h))) :
  Qnj MS MP MF MK MV (Qb1 (Qff MS MP MF MK MV)) (itmR it) = some [.view kPt ((Qdy it).map ptR), B true] := by
 obtain ⟨v, hv, hvv⟩ := hV
 rw [Qn7]
 have hv1 := hvv.2 h
 subst hv1
 obtain ⟨-, h1, h2, ha⟩ := id h
 by_cases h3 : it.kind = 3
 ·obtain ⟨hp, hd, hc, -⟩ := ha h3
  rw [if_pos h3] at hK
  obtain ⟨c1, c2, c3⟩ := pl_bd (pl := it.plane) (Qg6 hc)
  have hsl := (spokesP_len it).2
  have hl := l_ChordsC (MS := MS) (MP := MP) (MF := MF) (MK := MK) (MV := MV) (it := it) (l := Qez it) (cu := plU it.plane (fine it.ce)) (cw := plW it.plane (fine it.ce)) hsl c1 c2 (spokesP_ok h h3) (hS hp)
   (f := fun i => ptR (chPt it ((Qez it).getD i spk0))) (fun _ => rfl) (Qez it).length 0 (by omega)
  have hres : (List.range (Qez it).length).map (fun i => ptR (chPt it ((Qez it).getD i spk0))) = ((Qez it).map (chPt it)).map ptR := by
   rw [List.map_map]
   conv => rhs; rw [<- range_get (Qez it) spk0]
   rw [List.map_map]
   rfl
  rw [hres] at hl
  have hf0 : fillL (fun i => ptR (chPt it ((Qez it).getD i spk0))) [I 0, I 0, I 0] (Qez it).length 0 = List.replicate (Qez it).length [I 0, I 0, I 0] := by unfold fillL; simp
  rw [hf0] at hl
  have hf := hF (Qau hc (by decide))
  have hpp := @hP hp (fine it.ce)
  have := chords_arc (MS := MS) (N := Qb1 (Qff MS MP MF MK MV)) hv hK hf hpp hsl hl
  rw [Qn7] at this
  unfold Qdy
  rw [if_pos h3]
  exact this
 ·rw [if_neg h3] at hK
  have f1 := hF (Qau h1 (by decide))
  have f2 := hF (Qau h2 (by decide))
  unfold Qdy
  rw [if_neg h3]
  simp only [go_sem, hv, hK, f1, f2]
  simp
theorem s_curve_Chords {it : Itm} (h : Qfa it) : Qk7 (itmR it) = some [.view kPt ((Qdy it).map ptR), B true] :=
 a_curve_Chords (Qn4 it) h (s_curve_Spokes h) s_curve_scaled (fun hp => s_curve_Plane hp) (fun hp => s_curve_Space hp)
end Go.Bm
