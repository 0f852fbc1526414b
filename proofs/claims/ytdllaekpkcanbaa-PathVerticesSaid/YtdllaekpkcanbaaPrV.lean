/- laid together -/
import Derived.Test.YtdllaekpkcanbaaPrDv
import Derived.Test.YtdllaekpkcanbaaMx5
set_option linter.unusedVariables false
set_option linter.unusedSimpArgs false
/- a b / sqrt n, rounded to the nearest: what package wide gives is what the reference gives -/
set_option maxRecDepth 100000
namespace Go.Bm

theorem a_wide_quotient {M : List AC -> Option (List AC)} (hM : ∀ {hi lo y : Nat}, hi < y -> y < w64 -> lo < w64 -> M [U hi, U lo, U y] = some [U (((hi * w64 + lo) / y : Nat) : Int), U (((hi * w64 + lo) % y : Nat) : Int)])
  {hi lo y : Nat} (hhi : hi < w64) (hlo : lo < w64) (hy0 : 0 < y) (hy : y < w64) :
  ∃ qh ql : Nat, mf_wide_quotient M [U hi, U lo, U y] = some [U qh, U ql, B (decide (0 < (hi * w64 + lo) % y))] /\ qh < w64 /\ ql < w64 /\ qh * w64 + ql = (hi * w64 + lo) / y := by
 have h1 := hM (hi := 0) (lo := hi) hy0 hy hhi
 rw [Nat.zero_mul, Nat.zero_add, show ((0 : Nat) : Int) = 0 from rfl] at h1
 have hm := Nat.mod_lt hi hy0
 have h2 := hM (hi := hi % y) (lo := lo) hm hy hlo
 have e := Nat.div_add_mod hi y
 have e2 : hi * w64 + lo = hi % y * w64 + lo + hi / y * w64 * y := by
  have : hi * w64 = hi / y * w64 * y + hi % y * w64 := by
   rw [<- e, Nat.mul_add_mod, Nat.mod_mod]
   rw [show (y * (hi / y) + hi % y) / y = hi / y from by rw [e]]
   rw [Nat.add_mul, Nat.mul_comm y, Nat.mul_assoc, Nat.mul_comm y, Nat.mul_assoc]
  omega
 have hq : (hi * w64 + lo) / y = (hi % y * w64 + lo) / y + hi / y * w64 := by rw [e2, Nat.add_mul_div_right _ _ hy0]
 have hr : (hi * w64 + lo) % y = (hi % y * w64 + lo) % y := by rw [e2, Nat.add_mul_mod_self_right]
 have hlt : (hi % y * w64 + lo) / y < w64 := by
  rw [Nat.div_lt_iff_lt_mul hy0]
  have : hi % y * w64 + w64 <= y * w64 := by rw [<- Nat.succ_mul]; exact Nat.mul_le_mul_right _ hm
  rw [Nat.mul_comm w64]
  omega
 refine ⟨hi / y, (hi % y * w64 + lo) / y, ?_, Nat.lt_of_le_of_lt (Nat.div_le_self _ _) hhi, hlt, by rw [hq]; omega⟩
 rw [mf_wide_quotient_eq]
 simp only [go_sem, h1, h2, hr]
 by_cases c : 0 < (hi % y * w64 + lo) % y
 ·rw [decide_eq_true c, decide_eq_true (show (((hi % y * w64 + lo) % y : Nat) : Int) > 0 by omega)]
 ·rw [decide_eq_false c, decide_eq_false (show ¬ (((hi % y * w64 + lo) % y : Nat) : Int) > 0 by omega)]

theorem over_J {A n t : Nat} (hn : 0 < n) (h1 : t * t <= 2 * A * (2 * A) / n) (h2 : 2 * A * (2 * A) / n < (t + 1) * (t + 1)) (down : Bool) {E : Prop} [Decidable E] (hE : E ↔ (2 * A * (2 * A) % n = 0 /\ t * t = 2 * A * (2 * A) / n)) :
  IsRnd A n down (if t % 2 = 1 /\ (¬ E \/ down = false) then t / 2 + 1 else t / 2) := by
 have e4 : 2 * A * (2 * A) = 4 * (A * A) := by grind
 have k1 : t * t * n <= 2 * A * (2 * A) := (Nat.le_div_iff_mul_le hn).1 h1
 have k2 : 2 * A * (2 * A) < (t + 1) * (t + 1) * n := (Nat.div_lt_iff_lt_mul hn).1 h2
 have k3 : (2 * A * (2 * A) % n = 0 /\ t * t = 2 * A * (2 * A) / n) ↔ t * t * n = 2 * A * (2 * A) := by
  have hd := Nat.div_add_mod (2 * A * (2 * A)) n
  constructor
  ·rintro ⟨g1, g2⟩
   rw [g2, Nat.mul_comm]; omega
  ·intro g
   rw [<- g]
   exact ⟨Nat.mul_mod_left _ _, (Nat.mul_div_cancel _ hn).symm⟩
 have k4 := hE.trans k3
 rw [e4] at k1 k2 k4
 clear hE k3 h1 h2
 generalize hQ : 4 * (A * A) = Q at *
 unfold IsRnd
 rw [hQ]
 rcases Nat.mod_two_eq_zero_or_one t with ht | ht
 ·rw [if_neg (by omega)]
  obtain ⟨m, rfl⟩ : ∃ m, t = 2 * m := ⟨t / 2, by omega⟩
  rw [show 2 * m / 2 = m by omega]
  have h5 : (2 * m + 1) * (2 * m + 1) * n <= (2 * m + 1) * (2 * m + 1) * n := Nat.le_refl _
  refine ⟨?_, ?_⟩
  ·rcases Nat.eq_zero_or_pos m with hm | hm
   ·exact .inl hm
   ·right
    have h6 : (2 * m - 1) * (2 * m - 1) * n < 2 * m * (2 * m) * n := Nat.mul_lt_mul_of_pos_right (Nat.mul_self_lt_mul_self (by omega)) hn
    split <;> omega
  ·split <;> omega
 ·obtain ⟨m, rfl⟩ : ∃ m, t = 2 * m + 1 := ⟨t / 2, by omega⟩
  rw [show (2 * m + 1) / 2 = m by omega]
  have h6 : (2 * m + 1 + 1) * (2 * m + 1 + 1) * n <= (2 * (m + 1) + 1) * (2 * (m + 1) + 1) * n := sqn_le (by omega)
  have h7 : (2 * m - 1) * (2 * m - 1) * n < (2 * m + 1) * (2 * m + 1) * n := Nat.mul_lt_mul_of_pos_right (Nat.mul_self_lt_mul_self (by omega)) hn
  have h8 : 2 * (m + 1) - 1 = 2 * m + 1 := by omega
  by_cases c : ¬ E \/ down = false
  ·rw [if_pos ⟨ht, c⟩, h8]
   refine ⟨.inr ?_, ?_⟩
   ·cases down
    ·simp only [Bool.false_eq_true, if_false]; exact k1
    ·simp only [if_true]
     rcases c with c | c
     ·exact Nat.lt_of_le_of_ne k1 fun h => c (k4.2 h)
     ·cases c
   ·split <;> omega
  ·have c1 : (2 * m + 1) * (2 * m + 1) * n = Q := by
    by_cases g : E
    ·exact k4.1 g
    ·exact absurd (.inl g) c
   have c2 : down = true := by
    cases down
    ·exact absurd (.inr rfl) c
    ·rfl
   subst c2
   rw [if_neg (fun h => c h.2)]
   simp only [if_true]
   exact ⟨.inr (by omega), by omega⟩
theorem sgn_neg {x d : Int} : sgn x d < 0 ↔ x * d < 0 := by
 rcases sgn_cases x d with ⟨h, g⟩ | ⟨h, g⟩ | ⟨h, g⟩ <;> omega
theorem a_wide_Over {MSg MG MS MR MQ MP MK MZ : List AC -> Option (List AC)} {x d : Int} {n X D h1 l1 qh ql t h2 l2 : Nat} (hX : X <= 2147483648) (hD : D <= 2147483648) (hn : 0 < n /\ n <= 4611686018427387904)
  (z1 : MZ [I x] = some [U X]) (z2 : MZ [I d] = some [U D]) (hk : MK [I 2] = some [B true]) (hp1 : MP [U ((2 * (X * D) : Nat) : Int), U ((2 * (X * D) : Nat) : Int)] = some [U h1, U l1])
  (hq1 : MQ [U h1, U l1, U n] = some [U qh, U ql, B (decide (0 < 2 * (X * D) * (2 * (X * D)) % n))]) (hq2 : qh * w64 + ql = 2 * (X * D) * (2 * (X * D)) / n) (hql : ql < w64) (hr1 : MR [U qh, U ql] = some [U t]) (ht2 : t < w64)
  (hp2 : MP [U t, U t] = some [U h2, U l2]) (hp3 : h2 * w64 + l2 = t * t) (hl2 : l2 < w64) (hs : MS [I x, I d] = some [I (sgn x d)])
  (hg : ∀ (more : Int) (some_ neg : Bool), MG [I 2, I more, B some_, B neg] = some [B (if more > 0 then true else if more = 0 then !neg else false)])
  (g1 : ∀ {n : Nat}, n < 9223372036854775808 -> MSg [U n, B false] = some [I n, B true]) (g2 : ∀ {n : Nat}, n <= 9223372036854775808 -> MSg [U n, B true] = some [I (-(n : Int)), B true]) {J : Nat}
  (hJ1 : t % 2 = 1 -> (¬ (2 * (X * D) * (2 * (X * D)) % n = 0 /\ t * t = 2 * (X * D) * (2 * (X * D)) / n) \/ ¬ sgn x d < 0) -> J = t / 2 + 1) (hJ3 : ¬ (t % 2 = 1 /\ (¬ (2 * (X * D) * (2 * (X * D)) % n = 0 /\ t * t = 2 * (X * D) * (2 * (X * D)) / n) \/ ¬ sgn x d < 0)) -> J = t / 2) (hJ2 : t <= 9223372036854775808) :
  mf_wide_Over MSg MG MS MR MQ MP MK MZ [I x, I d, I n, I 2] = some [I (if sgn x d < 0 then -(J : Int) else J), B true] := by
 have hXD : X * D <= 2147483648 * 2147483648 := Nat.mul_le_mul hX hD
 have w1 : IntKind.u64.wrap (2 * IntKind.u64.wrap ((X : Int) * (D : Int))) = ((2 * (X * D) : Nat) : Int) := by
  rw [<- Int.natCast_mul, wr (by omega), show (2 : Int) * ((X * D : Nat) : Int) = ((2 * (X * D) : Nat) : Int) by omega, wr (by omega)]
 have w2 : IntKind.u64.wrap (n : Int) = n := wr (by omega)
 have w3 : ((t : Int)).tdiv 2 = ((t / 2 : Nat) : Int) := tdivN t 2
 have w4 : IntKind.u64.wrap ((t / 2 : Nat) : Int) = ((t / 2 : Nat) : Int) := wr (by rw [w64_eq] at ht2; omega)
 have w5 : IntKind.u64.wrap (((t / 2 : Nat) : Int) + 1) = ((t / 2 + 1 : Nat) : Int) := by rw [show ((t / 2 : Nat) : Int) + 1 = ((t / 2 + 1 : Nat) : Int) by omega, wr (by rw [w64_eq] at ht2; omega)]
 have w6 : ((t : Int).tmod 2 = 1) = (t % 2 = 1) := by
  rw [Int.tmod_eq_emod_of_nonneg (by omega)]
  exact propext ⟨by omega, by omega⟩
 have hgt : ∀ (neg : Bool) (k : Nat), k < 9223372036854775808 -> MSg [U k, B neg] = some [I (if neg = true then -(k : Int) else k), B true] := by
  intro neg k hk
  cases neg
  ·exact g1 hk
  ·exact g2 (by omega)
 have key : ∀ (neg : Bool) (k : Nat), decide (sgn x d < 0) = neg -> J = k -> k < 9223372036854775808 -> MSg [U k, B neg] = some [I (if sgn x d < 0 then -(J : Int) else J), B true] := by
  intro neg k h1 h2 h3
  rw [hgt neg k h3, h2]
  congr 3
  by_cases c : sgn x d < 0
  ·rw [if_pos c, if_pos (by rw [<- h1]; exact decide_eq_true c)]
  ·rw [if_neg c, if_neg (by rw [<- h1]; simpa using c)]
 have eqq : (h2 = qh /\ l2 = ql) ↔ t * t = 2 * (X * D) * (2 * (X * D)) / n := by
  rw [<- hp3, <- hq2]
  constructor
  ·rintro ⟨rfl, rfl⟩; rfl
  ·intro h
   have a1 : ∀ p q u v : Nat, u < w64 -> v < w64 -> p * w64 + u = q * w64 + v -> p = q /\ u = v := by
    intro p q u v hu hv h
    rcases Nat.lt_trichotomy p q with c | c | c
    ·have := Nat.mul_le_mul_right w64 (show p + 1 <= q from c)
     rw [Nat.succ_mul] at this; omega
    ·subst c; exact ⟨rfl, by omega⟩
    ·have := Nat.mul_le_mul_right w64 (show q + 1 <= p from c)
     rw [Nat.succ_mul] at this; omega
   exact a1 _ _ _ _ hl2 hql h
 rw [mf_wide_Over_eq]
 simp only [go_sem, z1, z2, hk, w1, w2, hp1, hq1, hr1, hs, hp2, w3, w4, w5, hg]
 rw [if_neg (by omega), if_neg (by omega), if_neg (by omega), if_neg (by omega), if_neg (by simp)]
 have ht63 : t / 2 + 1 < 9223372036854775808 := by omega
 have hT : ∀ k : Nat, J = k -> k < 9223372036854775808 -> ((MSg [U (k : Int), B (decide (sgn x d < 0))]).bind fun o => some [I (intOf (nth .dead o 0)), B (boolOf (nth .dead o 1))]) = some [I (if sgn x d < 0 then -(J : Int) else J), B true] := by
  intro k h1 h2
  rw [key _ k rfl h1 h2]
  rfl
 have e3 : ((h2 : Int) = qh /\ (l2 : Int) = ql /\ True) = (t * t = 2 * (X * D) * (2 * (X * D)) / n) := by
  rw [<- propext eqq]
  exact propext ⟨fun h => ⟨by omega, by omega⟩, fun h => ⟨by omega, by omega, trivial⟩⟩
 simp only [e3, w6]
 have n1 : ((1 : Int) > 0) = True := by simp
 have n2 : ((-1 : Int) > 0) = False := by simp
 have n3 : ((-1 : Int) = 0) = False := by simp
 have n4 : ((0 : Int) > 0) = False := by simp
 by_cases cR : 2 * (X * D) * (2 * (X * D)) % n = 0
 ·rw [if_neg (show ¬ 0 < 2 * (X * D) * (2 * (X * D)) % n by omega)]
  by_cases ct : t % 2 = 1
  ·by_cases cE : t * t = 2 * (X * D) * (2 * (X * D)) / n
   ·by_cases cn : sgn x d < 0
    ·have := hJ3 (fun h => h.2.elim (fun g => g ⟨cR, cE⟩) fun g => g cn)
     simp only [n1, n2, n3, n4, Bool.false_eq_true, ct, cE, not_true_eq_false, if_true, if_false]
     rw [if_neg (by simp [cn])]
     exact hT _ this (by omega)
    ·have := hJ1 ct (.inr cn)
     simp only [n1, n2, n3, n4, Bool.false_eq_true, ct, cE, not_true_eq_false, if_true, if_false]
     rw [if_pos (by simp; omega)]
     exact hT _ this ht63
   ·have := hJ1 ct (.inl fun g => cE g.2)
    simp only [n1, n2, n3, n4, Bool.false_eq_true, ct, cE, not_true_eq_false, not_false_eq_true, if_true, if_false]
    exact hT _ this ht63
  ·have := hJ3 (fun h => ct h.1)
   simp only [n1, n2, n3, n4, Bool.false_eq_true, ct, if_false, ite_self]
   exact hT _ this (by omega)
 ·rw [if_pos (show 0 < 2 * (X * D) * (2 * (X * D)) % n by omega)]
  by_cases ct : t % 2 = 1
  ·have := hJ1 ct (.inl fun g => cR g.1)
   simp only [n1, n2, n3, n4, Bool.false_eq_true, ct, not_false_eq_true, if_true]
   exact hT _ this ht63
  ·have := hJ3 (fun h => ct h.1)
   simp only [n1, n2, n3, n4, Bool.false_eq_true, ct, not_false_eq_true, if_true, if_false]
   exact hT _ this (by omega)
theorem nearR_J {x d : Int} {n : Nat} {J : Nat} (hn : 0 < n) (hd : 0 <= d) (hi : IsRnd (x.natAbs * d.natAbs) n (decide (x * d < 0)) J) : (if x * d < 0 then -(J : Int) else J) = nearR x d n := by
 unfold nearR
 rw [Int.natAbs_natCast]
 by_cases hx : x < 0
 ·rw [if_pos hx]
  by_cases hd0 : d = 0
  ·subst hd0
   rw [Int.mul_zero, if_neg (by omega)]
   rw [show x.natAbs * (0 : Int).natAbs = 0 from by simp] at hi ⊢
   have e1 : IsRnd 0 n true 0 := ⟨.inl rfl, by simp⟩
   rw [rnd_of e1]
   obtain ⟨h1, -⟩ := hi
   rw [decide_eq_false (by simp)] at h1
   simp only [Bool.false_eq_true, if_false] at h1
   rcases h1 with h1 | h1
   ·omega
   ·rcases Nat.eq_zero_or_pos J with hJ | hJ
    ·omega
    ·have h2 := Nat.mul_pos (Nat.mul_pos (show 0 < 2 * J - 1 by omega) (show 0 < 2 * J - 1 by omega)) hn
     omega
  ·have hxd : x * d < 0 := Int.mul_neg_of_neg_of_pos hx (by omega)
   rw [decide_eq_true hxd] at hi
   rw [if_pos hxd, rnd_of hi]
 ·rw [if_neg hx]
  have hxd : ¬ x * d < 0 := by have := Int.mul_nonneg (show 0 <= x by omega) hd; omega
  rw [decide_eq_false hxd] at hi
  rw [if_neg hxd, rnd_of hi]
theorem s_wide_Over {x d n : Int} (hx : x.natAbs <= 2147483648) (hd : 0 <= d /\ d <= 2147483648) (hn : 0 < n /\ n <= 4611686018427387904) : m_wide_Over [I x, I d, I n, I 2] = some [I (nearR x d n), B true] := by
 obtain ⟨N, rfl⟩ := Int.eq_ofNat_of_zero_le (show 0 <= n by omega)
 have hD : d.natAbs <= 2147483648 := by omega
 have hXD : x.natAbs * d.natAbs <= 2147483648 * 2147483648 := Nat.mul_le_mul hx hD
 have hN : 0 < N /\ N <= 4611686018427387904 := by omega
 have hp : 2 * (x.natAbs * d.natAbs) < w64 := by rw [w64_eq]; omega
 obtain ⟨h1, l1, e1, e2, e3⟩ := s_wide_product' hp hp
 have hNw : N < w64 := by rw [w64_eq]; omega
 have hh1 : h1 < w64 := by
  have := Nat.mul_lt_mul'' hp hp
  rw [<- e2] at this
  by_cases c : h1 < w64
  ·exact c
  ·have := Nat.mul_le_mul_right w64 (show w64 <= h1 by omega)
   omega
 obtain ⟨qh, ql, q1, q2, q3, q4⟩ := a_wide_quotient (M := m_bits_Div64) s_bits_Div64 hh1 e3 hN.1 hNw
 rw [e2] at q1 q4
 obtain ⟨t, r1, r2, r3, r4⟩ := s_wide_floorRoot q2 q3
 rw [q4] at r2 r3
 obtain ⟨h2, l2, p1, p2, p3⟩ := s_wide_product' r4 r4
 have ht : t <= 9223372036854775808 := by
  have k1 : t * t <= 2 * (x.natAbs * d.natAbs) * (2 * (x.natAbs * d.natAbs)) := Nat.le_trans r2 (Nat.div_le_self _ _)
  have k2 := Nat.mul_self_le_mul_self_iff.1 k1
  omega
 have hi := over_J hN.1 r2 r3 (decide (x * d < 0)) (E := 2 * (x.natAbs * d.natAbs) * (2 * (x.natAbs * d.natAbs)) % N = 0 /\ t * t = 2 * (x.natAbs * d.natAbs) * (2 * (x.natAbs * d.natAbs)) / N) Iff.rfl
 have hres := nearR_J hN.1 hd.1 hi
 rw [<- hres]
 have := @sgn_neg x d
 have hif : ∀ a : Int, (if x * d < 0 then -a else a) = if sgn x d < 0 then -a else a := by
  intro a
  by_cases c : x * d < 0
  ·rw [if_pos c, if_pos (this.2 c)]
  ·rw [if_neg c, if_neg (fun h => c (this.1 h))]
 rw [hif]
 refine a_wide_Over (X := x.natAbs) (D := d.natAbs) hx hD hN (s_wide_size (by unfold i64; omega)) (s_wide_size (by unfold i64; omega)) (s_wide_known (.inr (.inr rfl))) e1 q1 q4 q3 r1 r4 p1 p2 p3 (s_wide_sign x d) s_wide_grows2 s_wide_signed s_wide_signed_neg (fun h1 h2 => ?_) (fun h => ?_) ht
 ·rw [if_pos ⟨h1, h2.imp id fun h => decide_eq_false fun g => h (this.2 g)⟩]
 ·rw [if_neg fun g => h ⟨g.1, g.2.imp id fun k g2 => by rw [decide_eq_false_iff_not] at k; exact k (this.1 g2)⟩]
end Go.Bm
/- the reference's corners -/
set_option maxRecDepth 100000
namespace Go.Bm

theorem wrap_nat {x : Int} {A : Nat} (h : x.natAbs <= A) (hA : A <= 9223372036854775807) : IntKind.i64.wrap x = x := wrap_id (by omega)
theorem sub_nat {x y : Int} {A B : Nat} (hx : x.natAbs <= A) (hy : y.natAbs <= B) : (x - y).natAbs <= A + B := by omega
theorem add_nat {x y : Int} {A B : Nat} (hx : x.natAbs <= A) (hy : y.natAbs <= B) : (x + y).natAbs <= A + B := by omega
theorem betw_bd {c u x : Int} {A : Nat} (hc : c.natAbs <= A) (ha : (c + x).natAbs <= A) (h : (0 <= x -> 0 <= u /\ u <= x) /\ (x <= 0 -> x <= u /\ u <= 0)) : (c + u).natAbs <= A := by
 rcases Int.le_total 0 x with g | g
 ·have := h.1 g; omega
 ·have := h.2 g; omega
theorem sqD_eq (a b : Pt) : sqD a b = (a.x - b.x) * (a.x - b.x) + (a.y - b.y) * (a.y - b.y) + (a.z - b.z) * (a.z - b.z) := rfl
theorem sq_nn (u : Int) : 0 <= u * u := by rw [<- Int.natAbs_mul_self]; omega
theorem sqD_zero {a b : Pt} : sqD a b = 0 ↔ a = b := by
 rw [sqD_eq]
 obtain ⟨a1, a2, a3⟩ := a
 obtain ⟨b1, b2, b3⟩ := b
 have h1 := sq_nn (a1 - b1)
 have h2 := sq_nn (a2 - b2)
 have h3 := sq_nn (a3 - b3)
 constructor
 ·intro h
  simp only at h
  have e1 : (a1 - b1) * (a1 - b1) = 0 := by omega
  have e2 : (a2 - b2) * (a2 - b2) = 0 := by omega
  have e3 : (a3 - b3) * (a3 - b3) = 0 := by omega
  have z : ∀ u : Int, u * u = 0 -> u = 0 := fun u hu => by
   rcases Int.mul_eq_zero.1 hu with h | h <;> exact h
  have := z _ e1
  have := z _ e2
  have := z _ e3
  rw [Pt.mk.injEq]; omega
 ·intro h
  injection h with h4 h5 h6
  subst h4 h5 h6
  simp
theorem sqD_comp (a b : Pt) : (a.x - b.x) * (a.x - b.x) <= sqD a b /\ (a.y - b.y) * (a.y - b.y) <= sqD a b /\ (a.z - b.z) * (a.z - b.z) <= sqD a b := by
 rw [sqD_eq]
 have h1 := sq_nn (a.x - b.x)
 have h2 := sq_nn (a.y - b.y)
 have h3 := sq_nn (a.z - b.z)
 omega

noncomputable def towP (c a : Pt) (d : Int) : Pt := ⟨c.x + nearR (a.x - c.x) d (sqD a c), c.y + nearR (a.y - c.y) d (sqD a c), c.z + nearR (a.z - c.z) d (sqD a c)⟩
abbrev B24 : Nat := 16777216
theorem near_betw {x r n : Int} (hx : x.natAbs <= 33554432 * 4) (hr : 0 <= r /\ r <= 33554432 * 4) (hn : 0 < n /\ n <= 4611686018427387904) (hxn : x * x <= n) (hrn : r * r <= n) :
  (0 <= x -> 0 <= nearR x r n /\ nearR x r n <= x) /\ (x <= 0 -> x <= nearR x r n /\ nearR x r n <= 0) := by
 obtain ⟨-, h2, h3⟩ := s_cncref23_Near hx hr hn hxn
 have h4 := isRnd_le' (by omega) (by
  have : ((r.natAbs * r.natAbs : Nat) : Int) = r * r := Int.natAbs_mul_self
  omega) h3
 unfold nearR at *
 constructor
 ·intro h
  rw [if_neg (by omega)] at h4 ⊢
  omega
 ·intro h
  by_cases c : x < 0
  ·rw [if_pos c] at h4 ⊢
   omega
  ·rw [if_neg c] at h4 ⊢
   omega
theorem sqD_le24 {a b : Pt} (ha : bd B24 a) (hb : bd B24 b) : sqD a b <= 3377699720527872 := by
 have h : ∀ x y : Int, x.natAbs <= B24 -> y.natAbs <= B24 -> (x - y) * (x - y) <= 1125899906842624 := by
  intro x y hx hy
  unfold B24 at *
  exact (sq_bd (x := x - y) (A := 33554432) (by omega)).2
 have h1 := h _ _ ha.1 hb.1
 have h2 := h _ _ ha.2.1 hb.2.1
 have h3 := h _ _ ha.2.2 hb.2.2
 rw [sqD_eq]
 omega
theorem tow_betw {c a : Pt} {d : Int} (hc : bd B24 c) (ha : bd B24 a) (hne : a ≠ c) (hd : 0 <= d /\ d < lenP a c) : bd B24 (towP c a d) := by
 have h0 : sqD a c ≠ 0 := fun h => hne (sqD_zero.1 h)
 have h1 := sqD_nn a c
 have h2 := sqD_le (bd_mono ha (by decide)) (bd_mono hc (by decide)) (show 67108864 <= 67108864 by omega)
 obtain ⟨-, g1, g2, g3⟩ := s_cncref23_Length (bd_mono ha (show B24 <= 67108864 by decide)) (bd_mono hc (show B24 <= 67108864 by decide))
 have hl := len_bd (bd_mono ha (show B24 <= 67108864 by decide)) (bd_mono hc (show B24 <= 67108864 by decide))
 have hdd : d * d <= sqD a c := by
  have := Int.mul_self_le_mul_self hd.1 (show d <= lenP a c - 1 by omega)
  omega
 have hd2 : d <= 33554432 * 4 := by
  by_cases c2 : d <= 33554432 * 4
  ·exact c2
  ·exfalso
   have h3 := Int.mul_self_le_mul_self (a := 33554432 * 4 + 1) (b := d) (by omega) (by omega)
   have h4 := sqD_le24 ha hc
   omega
 obtain ⟨q1, q2, q3⟩ := sqD_comp a c
 have hn : 0 < sqD a c /\ sqD a c <= 4611686018427387904 := ⟨Int.lt_iff_le_and_ne.2 ⟨h1, fun h => h0 h.symm⟩, Int.le_trans h2 (by decide)⟩
 have hd3 : 0 <= d /\ d <= 33554432 * 4 := ⟨hd.1, hd2⟩
 have k1 := near_betw (x := a.x - c.x) (r := d) (n := sqD a c) (Nat.le_trans (sub_nat ha.1 hc.1) (by decide)) hd3 hn q1 hdd
 have k2 := near_betw (x := a.y - c.y) (r := d) (n := sqD a c) (Nat.le_trans (sub_nat ha.2.1 hc.2.1) (by decide)) hd3 hn q2 hdd
 have k3 := near_betw (x := a.z - c.z) (r := d) (n := sqD a c) (Nat.le_trans (sub_nat ha.2.2 hc.2.2) (by decide)) hd3 hn q3 hdd
 have e : ∀ x y : Int, x + (y - x) = y := fun x y => by omega
 exact ⟨betw_bd hc.1 (by rw [e]; exact ha.1) k1, betw_bd hc.2.1 (by rw [e]; exact ha.2.1) k2, betw_bd hc.2.2 (by rw [e]; exact ha.2.2) k3⟩
def bendV (p c q : Pt) : Pt := ⟨p.x - c.x + (q.x - c.x), p.y - c.y + (q.y - c.y), p.z - c.z + (q.z - c.z)⟩
def bendP (p c q : Pt) : Int := dotP (bendV p c q) (bendV p c q)
theorem bend_bd {p c q : Pt} (hp : bd B24 p) (hc : bd B24 c) (hq : bd B24 q) : bd 67108864 (bendV p c q) := by
 unfold bd B24 bendV at *
 simp only
 omega
theorem s_Minus24 {a b : Pt} (ha : bd B24 a) (hb : bd B24 b) : m_cncref24_Minus [I a.x, I a.y, I a.z, I b.x, I b.y, I b.z] = some (ptR (subP a b)) := s_cncref24_Minus (bd_mono ha (by decide)) (bd_mono hb (by decide))
theorem s_cncref24_Add {a b : Pt} (ha : bd 67108864 a) (hb : bd 67108864 b) : m_cncref24_Add [I a.x, I a.y, I a.z, I b.x, I b.y, I b.z] = some (ptR ⟨a.x + b.x, a.y + b.y, a.z + b.z⟩) := by
 unfold m_cncref24_Add
 unfold bd at *
 rw [mf_cncref24_Add_eq, wrap_id (x := a.x + b.x) (by omega), wrap_id (x := a.y + b.y) (by omega), wrap_id (x := a.z + b.z) (by omega)]
theorem a_cncref24_Bend {MS MA MM : List AC -> Option (List AC)} {p c q : Pt} (h1 : MM [I p.x, I p.y, I p.z, I c.x, I c.y, I c.z] = some (ptR (subP p c))) (h2 : MM [I q.x, I q.y, I q.z, I c.x, I c.y, I c.z] = some (ptR (subP q c)))
  (h3 : MA [I (subP p c).x, I (subP p c).y, I (subP p c).z, I (subP q c).x, I (subP q c).y, I (subP q c).z] = some (ptR (bendV p c q))) (h4 : MS [I (bendV p c q).x, I (bendV p c q).y, I (bendV p c q).z, I 0, I 0, I 0] = some [I (bendP p c q)]) :
  mf_cncref24_Bend MS MA MM [I p.x, I p.y, I p.z, I c.x, I c.y, I c.z, I q.x, I q.y, I q.z] = some [I (bendP p c q)] := by
 rw [mf_cncref24_Bend_eq]
 simp only [go_sem, h1, h2, h3, h4]
theorem s_cncref24_Bend {p c q : Pt} (hp : bd B24 p) (hc : bd B24 c) (hq : bd B24 q) : m_cncref24_Bend [I p.x, I p.y, I p.z, I c.x, I c.y, I c.z, I q.x, I q.y, I q.z] = some [I (bendP p c q)] := by
 refine a_cncref24_Bend (s_Minus24 hp hc) (s_Minus24 hq hc) (s_cncref24_Add (bd_mono (sub_bd hp hc) (by decide)) (bd_mono (sub_bd hq hc) (by decide))) ?_
 have h := s_SquareB (a := bendV p c q) (b := ⟨0, 0, 0⟩) (bend_bd hp hc hq) (by unfold bd; simp)
 have e : sqD (bendV p c q) ⟨0, 0, 0⟩ = bendP p c q := by unfold sqD subP bendP; simp
 rw [e] at h
 exact h

def permP (a c b : Pt) (tol d : Int) : Prop := d <= mn (lenP a c) (lenP c b) - 2 /\ bendP (towP c a d) c (towP c b d) <= 16 * tol * tol
theorem mn_le (x y : Int) : mn x y <= x /\ mn x y <= y := by unfold mn; split <;> omega
theorem sqD_comm (a b : Pt) : sqD a b = sqD b a := by
 unfold sqD; exact dot_neg a b
theorem lenP_comm (a b : Pt) : lenP a b = lenP b a := by unfold lenP; rw [sqD_comm]
open Classical in
noncomputable def reachL (P : Int -> Prop) : Nat -> Int -> Int
 | 0, d => if P (d + 1) then d + 1 else d
 | k + 1, d => reachL P k (if P (d + ((2 ^ (k + 1) : Nat) : Int)) then d + ((2 ^ (k + 1) : Nat) : Int) else d)
open Classical in
theorem reachL_bd {P : Int -> Prop} : ∀ (k : Nat) (d : Int), d <= reachL P k d /\ reachL P k d < d + ((2 ^ (k + 1) : Nat) : Int) /\ (reachL P k d = d \/ P (reachL P k d))
 | 0, d => by
  have e : ((2 ^ (0 + 1) : Nat) : Int) = 2 := rfl
  rw [e]
  unfold reachL
  split
  ·rename_i h; exact ⟨by omega, by omega, .inr h⟩
  ·exact ⟨by omega, by omega, .inl rfl⟩
 | k + 1, d => by
  unfold reachL
  have hp : 0 < 2 ^ (k + 1) := Nat.two_pow_pos _
  have e3 : 2 ^ (k + 1 + 1) = 2 ^ (k + 1) + 2 ^ (k + 1) := by rw [Nat.pow_succ 2 (k + 1)]; omega
  rw [e3]
  have hif : (if P (d + ((2 ^ (k + 1) : Nat) : Int)) then d + ((2 ^ (k + 1) : Nat) : Int) else d) = d \/ ((if P (d + ((2 ^ (k + 1) : Nat) : Int)) then d + ((2 ^ (k + 1) : Nat) : Int) else d) = d + ((2 ^ (k + 1) : Nat) : Int) /\ P (if P (d + ((2 ^ (k + 1) : Nat) : Int)) then d + ((2 ^ (k + 1) : Nat) : Int) else d)) := by
   split
   ·rename_i h; exact .inr ⟨rfl, h⟩
   ·exact .inl rfl
  generalize (if P (d + ((2 ^ (k + 1) : Nat) : Int)) then d + ((2 ^ (k + 1) : Nat) : Int) else d) = d' at *
  obtain ⟨h1, h2, h3⟩ := reachL_bd (P := P) k d'
  generalize reachL P k d' = x at *
  generalize 2 ^ (k + 1) = m at *
  rcases hif with hif | ⟨hif, hP⟩
  ·subst hif
   exact ⟨by omega, by omega, h3⟩
  ·refine ⟨by omega, by omega, .inr ?_⟩
   rcases h3 with h3 | h3
   ·rw [h3]; exact hP
   ·exact h3
open Classical in
noncomputable def reachP (a c b : Pt) (tol : Int) : Int := if a = c \/ b = c then 0 else if reachL (permP a c b tol) 24 0 < 16 then 0 else reachL (permP a c b tol) 24 0
theorem reach_spec {a c b : Pt} {tol : Int} (h : reachP a c b tol ≠ 0) : a ≠ c /\ b ≠ c /\ 16 <= reachP a c b tol /\ reachP a c b tol < 33554432 /\ permP a c b tol (reachP a c b tol) := by
 unfold reachP at *
 split at h
 ·exact absurd rfl h
 ·rename_i h1
  rw [if_neg h1]
  split at h
  ·exact absurd rfl h
  ·rename_i h2
   rw [if_neg h2]
   obtain ⟨h3, h4, h5⟩ := reachL_bd (P := permP a c b tol) 24 0
   have e : ((2 ^ (24 + 1) : Nat) : Int) = 33554432 := rfl
   rw [e] at h4
   refine ⟨fun h => h1 (.inl h), fun h => h1 (.inr h), by omega, by omega, ?_⟩
   rcases h5 with h5 | h5
   ·omega
   ·exact h5
theorem pt_ext {a b : Pt} : a = b ↔ a.x = b.x /\ a.y = b.y /\ a.z = b.z := by
 obtain ⟨a1, a2, a3⟩ := a
 obtain ⟨b1, b2, b3⟩ := b
 simp
def pcsN (bend : Int) : Nat -> Int -> Int
 | 0, n => n
 | k + 1, n => if n < 64 /\ bend > 16 * n * n * n * n * 4 * 4 then pcsN bend k (n * 2) else n
def isPow (n : Int) : Prop := n = 2 \/ n = 4 \/ n = 8 \/ n = 16 \/ n = 32 \/ n = 64
theorem l_Pieces {M : List AC -> Option (List AC)} {p c q : Pt} (hM : M [I p.x, I p.y, I p.z, I c.x, I c.y, I c.z, I q.x, I q.y, I q.z] = some [I (bendP p c q)]) :
  ∀ (k : Nat) (n : Int), isPow n -> 64 <= n * 2 ^ k -> loopC (st_cncref24_Pieces_2 M) [I n, I p.x, I p.y, I p.z, I c.x, I c.y, I c.z, I q.x, I q.y, I q.z] = some (1, [I (pcsN (bendP p c q) k n)]) /\ isPow (pcsN (bendP p c q) k n) := by
 have hst : ∀ n : Int, isPow n -> st_cncref24_Pieces_2 M [I n, I p.x, I p.y, I p.z, I c.x, I c.y, I c.z, I q.x, I q.y, I q.z] = if n < 64 /\ bendP p c q > 16 * n * n * n * n * 4 * 4 then some (0, [I (n * 2), I p.x, I p.y, I p.z, I c.x, I c.y, I c.z, I q.x, I q.y, I q.z]) else some (1, [I n]) := by
  intro n hn
  rw [st_cncref24_Pieces_2_eq]
  simp only [go_sem, hM]
  have hw : IntKind.i64.wrap (IntKind.i64.wrap (IntKind.i64.wrap (IntKind.i64.wrap (IntKind.i64.wrap (IntKind.i64.wrap (16 * n) * n) * n) * n) * 4) * 4) = 16 * n * n * n * n * 4 * 4 /\ IntKind.i64.wrap (n * 2) = n * 2 := by
   rcases hn with rfl | rfl | rfl | rfl | rfl | rfl <;> decide
  rw [hw.1, hw.2]
  by_cases h1 : n < 64
  ·rw [if_pos h1]
   by_cases h2 : bendP p c q > 16 * n * n * n * n * 4 * 4
   ·rw [if_pos h2, if_pos ⟨h1, h2⟩]
   ·rw [if_neg h2, if_neg (fun h => h2 h.2)]
  ·rw [if_neg h1, if_neg (fun h => h1 h.1)]
 intro k
 induction k with
 | zero =>
  intro n hn h64
  have : n = 64 := by rcases hn with rfl | rfl | rfl | rfl | rfl | rfl <;> simp at h64 ⊢
  subst this
  refine ⟨loop_end ?_ (by simp), hn⟩
  rw [hst _ hn, if_neg (by omega)]; rfl
 | succ k ih =>
  intro n hn h64
  unfold pcsN
  by_cases h : n < 64 /\ bendP p c q > 16 * n * n * n * n * 4 * 4
  ·rw [if_pos h]
   have hs := hst n hn
   rw [if_pos h] at hs
   rw [loop_more hs]
   refine ih (n * 2) ?_ ?_
   ·rcases hn with rfl | rfl | rfl | rfl | rfl | rfl <;> simp [isPow] at h ⊢
   ·rw [Int.pow_succ] at h64
    rw [Int.mul_assoc, Int.mul_comm 2]; exact h64
  ·rw [if_neg h]
   refine ⟨loop_end ?_ (by simp), hn⟩
   rw [hst _ hn, if_neg h]
def piecesP (p c q : Pt) : Int := pcsN (bendP p c q) 5 2
theorem s_cncref24_Pieces {p c q : Pt} (hp : bd B24 p) (hc : bd B24 c) (hq : bd B24 q) : m_cncref24_Pieces [I p.x, I p.y, I p.z, I c.x, I c.y, I c.z, I q.x, I q.y, I q.z] = some [I (piecesP p c q)] /\ isPow (piecesP p c q) := by
 obtain ⟨h1, h2⟩ := l_Pieces (s_cncref24_Bend hp hc hq) 5 2 (.inl rfl) (by decide)
 refine ⟨?_, h2⟩
 show mf_cncref24_Pieces _ (loopC (st_cncref24_Pieces_2 _)) _ = _
 generalize m_cncref24_Bend = M at *
 rw [mf_cncref24_Pieces_eq]
 simp only [go_sem, h1]
 rfl

def mixI (n i p c q : Int) : Int := c + near ((n - i) * (n - i) * (p - c) + i * i * (q - c)) (n * n)
def mixP (n i : Int) (p c q : Pt) : Pt := ⟨mixI n i p.x c.x q.x, mixI n i p.y c.y q.y, mixI n i p.z c.z q.z⟩
theorem near_mono {a b n : Int} (hn : 0 < n) (h : a <= b) : near a n <= near b n := by
 unfold near
 exact Int.ediv_le_ediv (by omega) (by omega)
theorem near_mul {k n : Int} (hn : 0 < n) : near (k * n) n = k := near_of hn (by rw [show k * (2 * n) = 2 * (k * n) by grind]; omega) (by rw [show (k + 1) * (2 * n) = 2 * (k * n) + 2 * n by grind]; omega)
theorem mix_bd {n i p c q : Int} {A : Nat} (hn : 0 < n) (hi : 0 <= i /\ i <= n) (hp : p.natAbs <= A) (hc : c.natAbs <= A) (hq : q.natAbs <= A) : (mixI n i p c q).natAbs <= A := by
 have hnn : 0 < n * n := Int.mul_pos hn hn
 have h1 : 0 <= (n - i) * (n - i) := sq_nn _
 have h2 : 0 <= i * i := sq_nn _
 have h3 : (n - i) * (n - i) + i * i <= n * n := by
  have : n * n - ((n - i) * (n - i) + i * i) = 2 * (i * (n - i)) := by grind
  have : 0 <= i * (n - i) := Int.mul_nonneg hi.1 (by omega)
  omega
 have key : ∀ s : Int, (s = 1 \/ s = -1) -> s * ((n - i) * (n - i) * (p - c) + i * i * (q - c)) <= (A - s * c) * (n * n) := by
  intro s hs
  have hp' : s * p <= A := by rcases hs with rfl | rfl <;> omega
  have hc' : s * c <= A := by rcases hs with rfl | rfl <;> omega
  have hq' : s * q <= A := by rcases hs with rfl | rfl <;> omega
  have g1 : (n - i) * (n - i) * (s * p - s * c) <= (n - i) * (n - i) * (A - s * c) := Int.mul_le_mul_of_nonneg_left (by omega) h1
  have g2 : i * i * (s * q - s * c) <= i * i * (A - s * c) := Int.mul_le_mul_of_nonneg_left (by omega) h2
  have g3 : ((n - i) * (n - i) + i * i) * (A - s * c) <= n * n * (A - s * c) := Int.mul_le_mul_of_nonneg_right h3 (by omega)
  have e1 : s * ((n - i) * (n - i) * (p - c) + i * i * (q - c)) = (n - i) * (n - i) * (s * p - s * c) + i * i * (s * q - s * c) := by grind
  have e2 : ((n - i) * (n - i) + i * i) * (A - s * c) = (n - i) * (n - i) * (A - s * c) + i * i * (A - s * c) := Int.add_mul ..
  have e3 : (A - s * c) * (n * n) = n * n * (A - s * c) := Int.mul_comm ..
  omega
 unfold mixI
 have k1 := near_mono hnn (key 1 (.inl rfl) |> fun h => (by rw [Int.one_mul, Int.one_mul] at h; exact h))
 rw [near_mul hnn] at k1
 have k2 := key (-1) (.inr rfl)
 have k3 : (-(A : Int) - c) * (n * n) <= (n - i) * (n - i) * (p - c) + i * i * (q - c) := by
  have e : (-(A : Int) - c) * (n * n) = -((A - -1 * c) * (n * n)) := by grind
  omega
 have k4 := near_mono hnn k3
 rw [near_mul hnn] at k4
 omega
noncomputable def cornerP (a c b : Pt) (tol : Int) : List Pt :=
 if reachP a c b tol = 0 then [c]
 else (List.range ((piecesP (towP c a (reachP a c b tol)) c (towP c b (reachP a c b tol))).toNat + 1)).map fun (i : Nat) => mixP (piecesP (towP c a (reachP a c b tol)) c (towP c b (reachP a c b tol))) i (towP c a (reachP a c b tol)) c (towP c b (reachP a c b tol))
theorem corner_bd {a c b : Pt} {tol : Int} (ha : bd B24 a) (hc : bd B24 c) (hb : bd B24 b) : (∀ p ∈ cornerP a c b tol, bd B24 p) /\ 1 <= (cornerP a c b tol).length /\ (cornerP a c b tol).length <= 65 := by
 unfold cornerP
 by_cases h : reachP a c b tol = 0
 ·rw [if_pos h]
  simp; exact hc
 ·rw [if_neg h]
  obtain ⟨h1, h2, h3, h4, h5, -⟩ := reach_spec h
  obtain ⟨m1, m2⟩ := mn_le (lenP a c) (lenP c b)
  generalize reachP a c b tol = d at *
  have k1 : bd B24 (towP c a d) := tow_betw hc ha h1 (by omega)
  have k2 : bd B24 (towP c b d) := tow_betw hc hb h2 (by rw [lenP_comm b c]; omega)
  have k3 := (s_cncref24_Pieces k1 hc k2).2
  generalize piecesP (towP c a d) c (towP c b d) = n at *
  have hn : 2 <= n /\ n <= 64 := by rcases k3 with rfl | rfl | rfl | rfl | rfl | rfl <;> omega
  refine ⟨?_, by simp, by simp; omega⟩
  intro p hp
  simp only [List.mem_map, List.mem_range] at hp
  obtain ⟨i, hi, rfl⟩ := hp
  exact ⟨mix_bd (by omega) (by omega) k1.1 hc.1 k2.1, mix_bd (by omega) (by omega) k1.2.1 hc.2.1 k2.2.1, mix_bd (by omega) (by omega) k1.2.2 hc.2.2 k2.2.2⟩
end Go.Bm
/- small points; numbers modulo n -/
set_option maxRecDepth 100000
namespace Go.Bm
theorem s_cncmill_Mod {v n : Int} (_ : i64 v) (hn : 0 < n /\ n <= 4611686018427387904) : m_cncmill_Mod [I v, I n] = some [I (v % n)] := by
 unfold m_cncmill_Mod
 rw [mf_cncmill_Mod_eq, bif_neg (by omega), bif_neg (by omega)]
 have h1 : -n < v.tmod n /\ v.tmod n < n := by
  have a1 := Int.tmod_lt_of_pos v hn.1
  have a2 := Int.lt_tmod_of_pos v hn.1
  omega
 rw [wrap_id (by omega)]
 have h2 : (v.tmod n + n).tmod n = v % n := by
  rw [Int.tmod_eq_emod_of_nonneg (by omega), Int.add_emod_right]
  have h3 := Int.tmod_add_mul_tdiv v n
  have h4 : v % n = (v.tmod n + n * v.tdiv n) % n := by rw [h3]
  rw [h4, Int.add_mul_emod_self_left]
 rw [h2]
end Go.Bm
/- what the makers of items give: numbers of a source, turned vectors -/
set_option maxRecDepth 100000
namespace Go.Bm

def Src (l : List (List AC)) : Prop := l.length <= 9223372036854775807 /\ ∀ c ∈ l, i64 (intOf (nth .dead c 0))
theorem nth_mem' {l : List (List AC)} {i : Nat} (h : i < l.length) : nth [] l i ∈ l := by rw [nth_get [] l i h]; exact List.getElem_mem h
theorem a_Next {M : List AC -> Option (List AC)} (hM : ∀ v n : Int, i64 v -> 0 < n /\ n <= 4611686018427387904 -> M [I v, I n] = some [I (v % n)]) {l : List (List AC)} (hl : Src l) {k : Nat} {n : Int} (hn : 0 < n /\ n <= 4611686018427387904) :
  ∃ (v : Int) (k' : Nat), mf_cncmill_Source_Next M [I n, .view kInts l, I k] = some [I v, .view kInts l, I k'] /\ 0 <= v /\ v < n /\ k <= k' /\ (k < l.length -> k' = k + 1) /\ (l.length <= k -> k' = k) := by
 have hl1 := hl.1
 rw [mf_cncmill_Source_Next_eq]
 by_cases h : k < l.length
 ·have h1 := hM _ n (hl.2 _ (nth_mem' h)) hn
  simp only [go_sem, Int.toNat_natCast, h1]
  rw [if_neg (by omega), if_pos (by omega), wrap_id (by omega)]
  exact ⟨_, k + 1, rfl, Int.emod_nonneg _ (by omega), Int.emod_lt_of_pos _ hn.1, by omega, fun _ => rfl, by omega⟩
 ·simp only [go_sem]
  rw [if_pos (by omega)]
  exact ⟨0, k, rfl, by omega, hn.1, by omega, by omega, fun _ => rfl⟩
theorem s_Next {l : List (List AC)} (hl : Src l) (k : Nat) {n : Int} (hn : 0 < n /\ n <= 4611686018427387904) :
  ∃ (v : Int) (k' : Nat), m_cncmill_Source_Next [I n, .view kInts l, I k] = some [I v, .view kInts l, I k'] /\ 0 <= v /\ v < n /\ k <= k' /\ (k < l.length -> k' = k + 1) /\ (l.length <= k -> k' = k) :=
 a_Next (fun _ _ hv hn => s_cncmill_Mod hv hn) hl hn
theorem s_Left (l : List (List AC)) (k : Nat) : m_cncmill_Source_Left [.view kInts l, I k] = some [B (decide (k < l.length)), .view kInts l, I k] := by
 unfold m_cncmill_Source_Left
 rw [mf_cncmill_Source_Left_eq]
 congr 3
 simp
theorem s_From (l : List (List AC)) : m_cncmill_From [.view kInts l] = some [.view kInts l, I 0] := by
 unfold m_cncmill_From
 rw [mf_cncmill_From_eq]

def rotU (r : Int) (k : Int) : Int := if k % 4 = 0 then r else if k % 4 = 2 then -r else 0
def rotW (r : Int) (k : Int) : Int := if k % 4 = 1 then r else if k % 4 = 3 then -r else 0
theorem s_turned {r k : Int} (hr : 0 <= r /\ r <= 1000000) (hk : 0 <= k /\ k <= 1000) : m_cncmill_turned [I r, I k] = some [I (rotU r k), I (rotW r k)] := by
 unfold m_cncmill_turned
 rw [mf_cncmill_turned_eq, wrap_id (by omega), Int.tmod_eq_emod_of_nonneg hk.1]
 have hc : k % 4 = 0 \/ k % 4 = 1 \/ k % 4 = 2 \/ k % 4 = 3 := by omega
 unfold rotU rotW
 rcases hc with h | h | h | h <;> rw [h] <;> simp [nth, intOf]
end Go.Bm
/- the items that the laws' maker of items gives: arcs, motions, lists of motions -/
set_option maxRecDepth 100000
namespace Go.Bm

def plU (pl : Int) (p : Pt) : Int := if pl = 17 then p.x else if pl = 18 then p.z else p.y
def plW (pl : Int) (p : Pt) : Int := if pl = 17 then p.y else if pl = 18 then p.x else p.z
def plH (pl : Int) (p : Pt) : Int := if pl = 17 then p.z else if pl = 18 then p.y else p.x
def spP (pl u w h : Int) : Pt := if pl = 17 then ⟨u, w, h⟩ else if pl = 18 then ⟨w, h, u⟩ else ⟨h, u, w⟩
def isPl (pl : Int) : Prop := pl = 17 \/ pl = 18 \/ pl = 19
theorem s_Plane {p : Pt} {pl : Int} (h : isPl pl) : m_cncref23_Plane [I p.x, I p.y, I p.z, I pl] = some [I (plU pl p), I (plW pl p), I (plH pl p)] := by
 unfold m_cncref23_Plane
 rw [mf_cncref23_Plane_eq]
 rcases h with rfl | rfl | rfl <;> rfl
theorem s_Space {u w h pl : Int} (hp : isPl pl) : m_cncref23_Space [I u, I w, I h, I pl] = some (ptR (spP pl u w h)) := by
 unfold m_cncref23_Space
 rw [mf_cncref23_Space_eq]
 rcases hp with rfl | rfl | rfl <;> rfl
theorem pl_sp {pl u w h : Int} (hp : isPl pl) : plU pl (spP pl u w h) = u /\ plW pl (spP pl u w h) = w /\ plH pl (spP pl u w h) = h := by
 rcases hp with rfl | rfl | rfl <;> exact ⟨rfl, rfl, rfl⟩
structure ArcMade (size : Int) (it : Itm) : Prop where
 kind : it.kind = 3
 plane : isPl it.plane
 dir : it.dir = 1 \/ it.dir = -1
 ends : ∃ r k t g h : Int, 8 <= r /\ r < 8 + size /\ 0 <= k /\ k <= 3 /\ 0 <= t /\ t <= 3 /\ 0 <= g /\ g <= 4 /\ (h = 0 \/ h = 7 \/ h = -12) /\ (t = 0 -> g = 0) /\ it.full = decide (t = 0) /\
  it.ce = spP it.plane (plU it.plane it.fr - rotU r k) (plW it.plane it.fr - rotW r k) (plH it.plane it.fr) /\
  it.to = spP it.plane (plU it.plane it.fr - rotU r k + rotU (r + g) (k + t)) (plW it.plane it.fr - rotW r k + rotW (r + g) (k + t)) (plH it.plane it.fr + h)

theorem rot_bd {r k : Int} (hr : 0 <= r) : (-r <= rotU r k /\ rotU r k <= r) /\ (-r <= rotW r k /\ rotW r k <= r) := by
 unfold rotU rotW
 constructor <;> constructor <;> split <;> (try split) <;> omega
theorem rot_div {r : Int} (hr : 1 <= r) (k : Int) : ((rotU r k).tdiv r = rotU 1 k) /\ ((rotW r k).tdiv r = rotW 1 k) := by
 have h1 : r.tdiv r = 1 := Int.tdiv_self (by omega)
 have h2 : (-r).tdiv r = -1 := by rw [Int.neg_tdiv, h1]
 unfold rotU rotW
 constructor <;> split <;> (try split) <;> simp [h1, h2]
theorem rot_far (r k e f : Int) : ∃ g, (g = e \/ g = f) /\ rotU r k + rotU 1 k * e = rotU (r + g) k /\ rotW r k + rotW 1 k * f = rotW (r + g) k := by
 unfold rotU rotW
 by_cases h : k % 4 = 0 \/ k % 4 = 2
 ·refine ⟨e, .inl rfl, ?_, ?_⟩
  ·rcases h with h | h <;> simp [h] <;> omega
  ·rcases h with h | h <;> simp [h]
 ·have hc : k % 4 = 1 \/ k % 4 = 3 := by omega
  refine ⟨f, .inr rfl, ?_, ?_⟩
  ·rcases hc with h | h <;> simp [h]
  ·rcases hc with h | h <;> simp [h] <;> omega
theorem pl_bd {pl : Int} {p : Pt} {b : Nat} (h : bd b p) : (plU pl p).natAbs <= b /\ (plW pl p).natAbs <= b /\ (plH pl p).natAbs <= b := by
 obtain ⟨h1, h2, h3⟩ := h
 unfold plU plW plH
 refine ⟨?_, ?_, ?_⟩ <;> split <;> (try split) <;> assumption

def NextOK (l : List (List AC)) (M : List AC -> Option (List AC)) : Prop := ∀ (k : Nat) {n : Int}, 0 < n /\ n <= 4611686018427387904 ->
  ∃ (v : Int) (k' : Nat), M [I n, .view kInts l, I k] = some [I v, .view kInts l, I k'] /\ 0 <= v /\ v < n /\ k <= k' /\ (k < l.length -> k' = k + 1) /\ (l.length <= k -> k' = k)
abbrev blank (it : Itm) : Prop := it.block = 0 /\ it.side = 0 /\ it.radius = 0 /\ it.speed = 0 /\ it.on = false
theorem plane_at {v : Int} (h : 0 <= v /\ v < 3) : intOf (nth .dead (nth [] [[I 17], [I 18], [I 19]] v.toNat) 0) = 17 + v := by
 have hc : v = 0 \/ v = 1 \/ v = 2 := by omega
 rcases hc with rfl | rfl | rfl <;> rfl
theorem height_at {v : Int} (h : 0 <= v /\ v < 4) : ∃ x, intOf (nth .dead (nth [] [[I 0], [I 0], [I 7], [I (-12)]] v.toNat) 0) = x /\ (x = 0 \/ x = 7 \/ x = -12) := by
 have hc : v = 0 \/ v = 1 \/ v = 2 \/ v = 3 := by omega
 rcases hc with rfl | rfl | rfl | rfl <;> exact ⟨_, rfl, by decide⟩

theorem a_arc {MS MT MP MN : List AC -> Option (List AC)} {l : List (List AC)} (hN : NextOK l MN)
  (hP : ∀ {p : Pt} {pl : Int}, isPl pl -> MP [I p.x, I p.y, I p.z, I pl] = some [I (plU pl p), I (plW pl p), I (plH pl p)])
  (hS : ∀ {u w h pl : Int}, isPl pl -> MS [I u, I w, I h, I pl] = some (ptR (spP pl u w h)))
  (hT : ∀ {r k : Int}, (0 <= r /\ r <= 1000000) -> (0 <= k /\ k <= 1000) -> MT [I r, I k] = some [I (rotU r k), I (rotW r k)])
  {p : Pt} (hp : bd 100000000 p) {size : Int} (hs : 0 < size /\ size <= 100000) (k : Nat) :
  ∃ (it : Itm) (k' : Nat), mf_cncmill_arc MS MT MP MN [I p.x, I p.y, I p.z, I size, .view kInts l, I k] = some (itmR it ++ [.view kInts l, I k']) /\ k <= k' /\ it.fr = p /\ ArcMade size it /\
   it.feed = 0 /\ it.perRev = false /\ it.blend = 0 /\ it.n = 0 /\ blank it := by
 obtain ⟨v1, k1, e1, a1, b1, c1, -, -⟩ := hN k (n := 3) (by omega)
 obtain ⟨v2, k2, e2, a2, b2, c2, -, -⟩ := hN k1 (n := 2) (by omega)
 obtain ⟨v3, k3, e3, a3, b3, c3, -, -⟩ := hN k2 (n := size) (by omega)
 obtain ⟨v4, k4, e4, a4, b4, c4, -, -⟩ := hN k3 (n := 4) (by omega)
 obtain ⟨v5, k5, e5, a5, b5, c5, -, -⟩ := hN k4 (n := 4) (by omega)
 rw [mf_cncmill_arc_eq]
 simp only [go_sem, e1, e2, e3, e4, e5]
 rw [if_pos (by simp; omega)]
 have hpl : isPl (17 + v1) := by unfold isPl; omega
 have w1 : IntKind.i64.wrap (8 + v3) = 8 + v3 := wrap_id (by omega)
 have w2 : IntKind.i64.wrap (v4 + v5) = v4 + v5 := wrap_id (by omega)
 simp only [plane_at ⟨a1, b1⟩, hP hpl, go_sem, w1, w2, hT (r := 8 + v3) (k := v4) (by omega) (by omega), hT (r := 8 + v3) (k := v4 + v5) (by omega) (by omega), hS hpl]
 obtain ⟨q1, q2, q3⟩ := pl_bd (pl := 17 + v1) hp
 obtain ⟨⟨r1, r2⟩, r3, r4⟩ := rot_bd (r := 8 + v3) (k := v4) (by omega)
 obtain ⟨⟨r5, r6⟩, r7, r8⟩ := rot_bd (r := 8 + v3) (k := v4 + v5) (by omega)
 obtain ⟨d1, d2⟩ := rot_div (r := 8 + v3) (by omega) (v4 + v5)
 obtain ⟨⟨r9, r10⟩, r11, r12⟩ := rot_bd (r := 1) (k := v4 + v5) (by omega)
 have w3 : IntKind.i64.wrap (plU (17 + v1) p - rotU (8 + v3) v4) = plU (17 + v1) p - rotU (8 + v3) v4 := wrap_id (by omega)
 have w4 : IntKind.i64.wrap (plW (17 + v1) p - rotW (8 + v3) v4) = plW (17 + v1) p - rotW (8 + v3) v4 := wrap_id (by omega)
 have w5 : IntKind.i64.wrap (1 - IntKind.i64.wrap (v2 * 2)) = 1 - v2 * 2 := by rw [wrap_id (x := v2 * 2) (by omega), wrap_id (by omega)]
 have w6 : IntKind.i64.wrap (plU (17 + v1) p - rotU (8 + v3) v4 + rotU (8 + v3) (v4 + v5)) = plU (17 + v1) p - rotU (8 + v3) v4 + rotU (8 + v3) (v4 + v5) := wrap_id (by omega)
 have w7 : IntKind.i64.wrap (plW (17 + v1) p - rotW (8 + v3) v4 + rotW (8 + v3) (v4 + v5)) = plW (17 + v1) p - rotW (8 + v3) v4 + rotW (8 + v3) (v4 + v5) := wrap_id (by omega)
 rw [w3, w4, w5, w6, w7]
 have hdir : 1 - v2 * 2 = 1 \/ 1 - v2 * 2 = -1 := by omega
 -- the last steps of all three ways
 have fin : ∀ (g : Int) (u w : Int) (k8 : Nat), k5 <= k8 -> 0 <= g -> g <= 4 -> (v5 = 0 -> g = 0) -> u = rotU (8 + v3 + g) (v4 + v5) -> w = rotW (8 + v3 + g) (v4 + v5) -> ∀ v9 : Int, 0 <= v9 /\ v9 < 4 ->
   ∃ it : Itm, [I 3, I 0, I p.x, I p.y, I p.z, I (spP (17 + v1) (plU (17 + v1) p - rotU (8 + v3) v4 + u) (plW (17 + v1) p - rotW (8 + v3) v4 + w) (plH (17 + v1) p + intOf (nth .dead (nth [] [[I 0], [I 0], [I 7], [I (-12)]] v9.toNat) 0))).x,
    I (spP (17 + v1) (plU (17 + v1) p - rotU (8 + v3) v4 + u) (plW (17 + v1) p - rotW (8 + v3) v4 + w) (plH (17 + v1) p + intOf (nth .dead (nth [] [[I 0], [I 0], [I 7], [I (-12)]] v9.toNat) 0))).y,
    I (spP (17 + v1) (plU (17 + v1) p - rotU (8 + v3) v4 + u) (plW (17 + v1) p - rotW (8 + v3) v4 + w) (plH (17 + v1) p + intOf (nth .dead (nth [] [[I 0], [I 0], [I 7], [I (-12)]] v9.toNat) 0))).z,
    I (17 + v1), I (spP (17 + v1) (plU (17 + v1) p - rotU (8 + v3) v4) (plW (17 + v1) p - rotW (8 + v3) v4) (plH (17 + v1) p)).x, I (spP (17 + v1) (plU (17 + v1) p - rotU (8 + v3) v4) (plW (17 + v1) p - rotW (8 + v3) v4) (plH (17 + v1) p)).y, I (spP (17 + v1) (plU (17 + v1) p - rotU (8 + v3) v4) (plW (17 + v1) p - rotW (8 + v3) v4) (plH (17 + v1) p)).z,
    I (1 - v2 * 2), B (decide (v5 = 0)), I 0, B false, I 0, I 0, I 0, I 0, I 0, B false, .view kInts l, I k8] = itmR it ++ [.view kInts l, I k8] /\ it.fr = p /\ ArcMade size it /\ it.feed = 0 /\ it.perRev = false /\ it.blend = 0 /\ it.n = 0 /\ blank it := by
  intro g u w k8 hk8 hg0 hg4 hg5 hu hw v9 hv9
  obtain ⟨x, hx, hx3⟩ := height_at hv9
  rw [hx]
  refine ⟨⟨3, 0, p, _, 17 + v1, _, 1 - v2 * 2, decide (v5 = 0), 0, false, 0, 0, 0, 0, 0, false⟩, rfl, rfl, ⟨rfl, hpl, hdir, 8 + v3, v4, v5, g, x, ?_⟩, rfl, rfl, rfl, rfl, rfl, rfl, rfl, rfl, rfl⟩
  subst hu hw
  exact ⟨by omega, by omega, by omega, by omega, by omega, by omega, hg0, hg4, hx3, hg5, rfl, rfl, rfl⟩
 have hgh : ∀ v9 : Int, 0 <= v9 /\ v9 < 4 -> IntKind.i64.wrap (plH (17 + v1) p + intOf (nth .dead (nth [] [[I 0], [I 0], [I 7], [I (-12)]] v9.toNat) 0)) = plH (17 + v1) p + intOf (nth .dead (nth [] [[I 0], [I 0], [I 7], [I (-12)]] v9.toNat) 0) := by
  intro v9 hv9
  obtain ⟨x, hx, hx3⟩ := height_at hv9
  rw [hx]
  exact wrap_id (by omega)
 have hfull : (v5 == 0) = decide (v5 = 0) := rfl
 by_cases hv5 : v5 > 0
 ·rw [if_pos hv5]
  obtain ⟨v6, k6, e6, a6, b6, c6, -, -⟩ := hN k5 (n := 3) (by omega)
  simp only [go_sem, e6]
  by_cases hv6 : v6 = 0
  ·rw [if_pos hv6, if_neg (by omega)]
   obtain ⟨v7, k7, e7, a7, b7, c7, -, -⟩ := hN k6 (n := 5) (by omega)
   obtain ⟨v8, k8, e8, a8, b8, c8, -, -⟩ := hN k7 (n := 5) (by omega)
   obtain ⟨v9, k9, e9, a9, b9, c9, -, -⟩ := hN k8 (n := 4) (by omega)
   simp only [go_sem, e7, e8, e9]
   rw [if_neg (by omega), if_pos (by simp; omega), hgh v9 ⟨a9, b9⟩, d1, d2]
   obtain ⟨g, hg, hu, hw⟩ := rot_far (8 + v3) (v4 + v5) v7 v8
   have mu : -4 <= rotU 1 (v4 + v5) * v7 /\ rotU 1 (v4 + v5) * v7 <= 4 := by
    have hc : rotU 1 (v4 + v5) = -1 \/ rotU 1 (v4 + v5) = 0 \/ rotU 1 (v4 + v5) = 1 := by omega
    rcases hc with h | h | h <;> rw [h] <;> omega
   have mw : -4 <= rotW 1 (v4 + v5) * v8 /\ rotW 1 (v4 + v5) * v8 <= 4 := by
    have hc : rotW 1 (v4 + v5) = -1 \/ rotW 1 (v4 + v5) = 0 \/ rotW 1 (v4 + v5) = 1 := by omega
    rcases hc with h | h | h <;> rw [h] <;> omega
   rw [wrap_id (x := rotU 1 (v4 + v5)) (by omega), wrap_id (x := rotW 1 (v4 + v5)) (by omega), wrap_id (x := rotU 1 (v4 + v5) * v7) (by omega), wrap_id (x := rotW 1 (v4 + v5) * v8) (by omega),
    wrap_id (x := rotU (8 + v3) (v4 + v5) + _) (by omega), wrap_id (x := rotW (8 + v3) (v4 + v5) + _) (by omega), hu, hw]
   obtain ⟨⟨s1, s2⟩, s3, s4⟩ := rot_bd (r := 8 + v3 + g) (k := v4 + v5) (by omega)
   rw [wrap_id (x := _ + rotU (8 + v3 + g) (v4 + v5)) (by omega), wrap_id (x := _ + rotW (8 + v3 + g) (v4 + v5)) (by omega)]
   obtain ⟨it, h1, h2⟩ := fin g _ _ k9 (by omega) (by omega) (by omega) (by omega) rfl rfl v9 ⟨a9, b9⟩
   refine ⟨it, k9, ?_, by omega, h2⟩
   exact congrArg some h1
  ·rw [if_neg hv6]
   obtain ⟨v9, k9, e9, a9, b9, c9, -, -⟩ := hN k6 (n := 4) (by omega)
   simp only [go_sem, e9]
   rw [if_pos (by simp; omega), hgh v9 ⟨a9, b9⟩]
   obtain ⟨it, h1, h2⟩ := fin 0 _ _ k9 (by omega) (by omega) (by omega) (by omega) (by rw [Int.add_zero]) (by rw [Int.add_zero]) v9 ⟨a9, b9⟩
   refine ⟨it, k9, ?_, by omega, h2⟩
   exact congrArg some h1
 ·rw [if_neg hv5]
  obtain ⟨v9, k9, e9, a9, b9, c9, -, -⟩ := hN k5 (n := 4) (by omega)
  simp only [go_sem, e9]
  rw [if_pos (by simp; omega), hgh v9 ⟨a9, b9⟩]
  obtain ⟨it, h1, h2⟩ := fin 0 _ _ k9 (by omega) (by omega) (by omega) (by omega) (by rw [Int.add_zero]) (by rw [Int.add_zero]) v9 ⟨a9, b9⟩
  refine ⟨it, k9, ?_, by omega, h2⟩
  exact congrArg some h1
theorem nextOK {l : List (List AC)} (hl : Src l) : NextOK l m_cncmill_Source_Next := fun k _ hn => s_Next hl k hn
theorem s_arc {l : List (List AC)} (hl : Src l) {p : Pt} (hp : bd 100000000 p) {size : Int} (hs : 0 < size /\ size <= 100000) (k : Nat) :
  ∃ (it : Itm) (k' : Nat), m_cncmill_arc [I p.x, I p.y, I p.z, I size, .view kInts l, I k] = some (itmR it ++ [.view kInts l, I k']) /\ k <= k' /\ it.fr = p /\ ArcMade size it /\
   it.feed = 0 /\ it.perRev = false /\ it.blend = 0 /\ it.n = 0 /\ blank it :=
 a_arc (nextOK hl) s_Plane s_Space s_turned hp hs k
end Go.Bm
/- motions and lists of motions, as the maker makes them -/
set_option maxRecDepth 100000
namespace Go.Bm

structure Made (it : Itm) : Prop where
 kind : 1 <= it.kind /\ it.kind <= 6
 line : it.kind ≠ 3 -> (it.to.x - it.fr.x).natAbs <= 16 /\ (it.to.y - it.fr.y).natAbs <= 16 /\ (it.to.z - it.fr.z).natAbs <= 16
 arc : it.kind = 3 -> ArcMade 8 it
 feed : it.kind ≠ 1 -> 1 <= it.feed /\ it.feed <= 60000000
 blend : 0 <= it.blend /\ it.blend <= 9
 sync : it.kind = 5 \/ it.kind = 6 -> it.blend = 0 /\ it.feed <= 60
 free : it.kind <= 4 -> it.perRev = false
 full : it.kind ≠ 3 -> it.full = false
theorem feed_at {v : Int} (h : 0 <= v /\ v < 5) : ∃ x, intOf (nth .dead (nth [] [[I 300000], [I 1], [I 60000], [I 2000000], [I 60000000]] v.toNat) 0) = x /\ 1 <= x /\ x <= 60000000 := by
 have hc : v = 0 \/ v = 1 \/ v = 2 \/ v = 3 \/ v = 4 := by omega
 rcases hc with rfl | rfl | rfl | rfl | rfl <;> exact ⟨_, rfl, by decide⟩
theorem blend_at {v : Int} (h : 0 <= v /\ v < 5) : ∃ x, intOf (nth .dead (nth [] [[I 0], [I 1], [I 2], [I 4], [I 9]] v.toNat) 0) = x /\ 0 <= x /\ x <= 9 := by
 have hc : v = 0 \/ v = 1 \/ v = 2 \/ v = 3 \/ v = 4 := by omega
 rcases hc with rfl | rfl | rfl | rfl | rfl <;> exact ⟨_, rfl, by decide⟩
theorem arc_upd {size : Int} {it : Itm} (h : ArcMade size it) (f b : Int) (pr : Bool) (n : Int) : ArcMade size { it with feed := f, blend := b, perRev := pr, n := n } := ⟨h.kind, h.plane, h.dir, h.ends⟩

theorem a_motion {MA MN : List AC -> Option (List AC)} {l : List (List AC)} (hN : NextOK l MN)
  (hA : ∀ {p : Pt}, bd 100000000 p -> ∀ k : Nat, ∃ (it : Itm) (k' : Nat), MA [I p.x, I p.y, I p.z, I 8, .view kInts l, I k] = some (itmR it ++ [.view kInts l, I k']) /\ k <= k' /\ it.fr = p /\ ArcMade 8 it /\ it.feed = 0 /\ it.perRev = false /\ it.blend = 0 /\ it.n = 0 /\ blank it)
  {p : Pt} (hp : bd 100000000 p) {kind : Int} (hk : 1 <= kind /\ kind <= 6) (k : Nat) :
  ∃ (it : Itm) (k' : Nat), mf_cncmill_motion MN MA [I p.x, I p.y, I p.z, I kind, .view kInts l, I k] = some (itmR it ++ [.view kInts l, I k']) /\ k <= k' /\ it.fr = p /\ it.kind = kind /\ Made it /\ blank it := by
 rw [mf_cncmill_motion_eq]
 obtain ⟨hp1, hp2, hp3⟩ := hp
 by_cases h3 : kind = 3
 ·subst h3
  obtain ⟨it, k1, e1, c1, g1, g2, g3, g4, g5, g6, g7, g8, g9, g10, g11⟩ := hA ⟨hp1, hp2, hp3⟩ k
  obtain ⟨v2, k2, e2, a2, b2, c2, -, -⟩ := hN k1 (n := 5) (by omega)
  obtain ⟨v3, k3, e3, a3, b3, c3, -, -⟩ := hN k2 (n := 5) (by omega)
  simp only [go_sem, e1, itmR, List.cons_append, List.nil_append, e2, e3]
  rw [if_neg (by omega), if_pos (by simp; omega), if_pos (by simp; omega), if_neg (by omega), if_neg (by omega), if_neg (by omega)]
  obtain ⟨f, hf, hf1, hf2⟩ := feed_at ⟨a2, b2⟩
  obtain ⟨b, hb, hb1, hb2⟩ := blend_at ⟨a3, b3⟩
  rw [hf, hb]
  have hka := g2.kind
  refine ⟨{ it with feed := f, blend := b, perRev := it.perRev, n := it.n }, k3, rfl, by omega, g1, hka, ⟨?_, ?_, ?_, ?_, ?_, ?_, ?_, ?_⟩, g7, g8, g9, g10, g11⟩
  ·show 1 <= it.kind /\ it.kind <= 6; omega
  ·exact fun h => absurd hka h
  ·exact fun _ => arc_upd g2 f b _ _
  ·exact fun _ => ⟨hf1, hf2⟩
  ·exact ⟨hb1, hb2⟩
  ·intro h; change it.kind = 5 \/ it.kind = 6 at h; omega
  ·exact fun _ => g4
  ·exact fun h => absurd hka h
 ·simp only [go_sem]
  rw [if_neg h3]
  obtain ⟨v1, k1, e1, a1, b1, c1, -, -⟩ := hN k (n := 25) (by omega)
  obtain ⟨v2, k2, e2, a2, b2, c2, -, -⟩ := hN k1 (n := 25) (by omega)
  obtain ⟨v3, k3, e3, a3, b3, c3, -, -⟩ := hN k2 (n := 3) (by omega)
  obtain ⟨v4, k4, e4, a4, b4, c4, -, -⟩ := hN k3 (n := 9) (by omega)
  obtain ⟨v5, k5, e5, a5, b5, c5, -, -⟩ := hN k4 (n := 2) (by omega)
  simp only [go_sem, e1, e2, e3, e4, e5]
  have hm : 0 <= v3 * v4 /\ v3 * v4 <= 16 := by
   have hc : v3 = 0 \/ v3 = 1 \/ v3 = 2 := by omega
   rcases hc with rfl | rfl | rfl <;> omega
  generalize v3 * v4 = m at hm
  have w1 : IntKind.i64.wrap (IntKind.i64.wrap (p.x + v1) - 12) = p.x + v1 - 12 := by rw [wrap_id (x := p.x + v1) (by omega), wrap_id (by omega)]
  have w2 : IntKind.i64.wrap (IntKind.i64.wrap (p.y + v2) - 12) = p.y + v2 - 12 := by rw [wrap_id (x := p.y + v2) (by omega), wrap_id (by omega)]
  have w3 : IntKind.i64.wrap (IntKind.i64.wrap (p.z + IntKind.i64.wrap m) - IntKind.i64.wrap (8 * v5)) = p.z + m - 8 * v5 := by
   rw [wrap_id (x := m) (by omega), wrap_id (x := p.z + m) (by omega), wrap_id (x := 8 * v5) (by omega), wrap_id (by omega)]
  rw [w1, w2, w3]
  -- the item, whatever its kind
  have mk : ∀ (f b n : Int) (pr : Bool), (kind ≠ 1 -> 1 <= f /\ f <= 60000000) -> (0 <= b /\ b <= 9) -> (kind = 5 \/ kind = 6 -> b = 0 /\ f <= 60) -> (kind <= 4 -> pr = false) ->
    ∃ it : Itm, itmR it = [I kind, I 0, I p.x, I p.y, I p.z, I (p.x + v1 - 12), I (p.y + v2 - 12), I (p.z + m - 8 * v5), I 0, I 0, I 0, I 0, I 0, B false, I f, B pr, I 0, I 0, I b, I n, I 0, B false] /\ it.fr = p /\ it.kind = kind /\ Made it /\ blank it := by
   intro f b n pr h1 h2 h4 h5
   refine ⟨⟨kind, 0, p, ⟨p.x + v1 - 12, p.y + v2 - 12, p.z + m - 8 * v5⟩, 0, ⟨0, 0, 0⟩, 0, false, f, pr, 0, 0, b, n, 0, false⟩, rfl, rfl, rfl, ⟨hk, fun _ => ?_, fun h => absurd h h3, h1, h2, h4, h5, fun _ => rfl⟩, rfl, rfl, rfl, rfl, rfl⟩
   show (p.x + v1 - 12 - p.x).natAbs <= 16 /\ (p.y + v2 - 12 - p.y).natAbs <= 16 /\ (p.z + m - 8 * v5 - p.z).natAbs <= 16
   omega
  have en : ∀ (f b n : Int) (pr : Bool) (k' : Nat), k <= k' -> (kind ≠ 1 -> 1 <= f /\ f <= 60000000) -> (0 <= b /\ b <= 9) -> (kind = 5 \/ kind = 6 -> b = 0 /\ f <= 60) -> (kind <= 4 -> pr = false) ->
    ∃ (it : Itm) (k'' : Nat), some [I kind, I 0, I p.x, I p.y, I p.z, I (p.x + v1 - 12), I (p.y + v2 - 12), I (p.z + m - 8 * v5), I 0, I 0, I 0, I 0, I 0, B false, I f, B pr, I 0, I 0, I b, I n, I 0, B false, .view kInts l, I k'] = some (itmR it ++ [.view kInts l, I k'']) /\ k <= k'' /\ it.fr = p /\ it.kind = kind /\ Made it /\ blank it := by
   intro f b n pr k' h0 h1 h2 h4 h5
   obtain ⟨it, i1, i2⟩ := mk f b n pr h1 h2 h4 h5
   refine ⟨it, k', ?_, h0, i2⟩
   rw [i1]
   rfl
  by_cases h1 : kind = 1
  ·rw [if_pos h1]
   exact en _ _ _ _ _ (by omega) (fun h => absurd h1 h) (by omega) (by omega) (fun _ => rfl)
  ·rw [if_neg h1]
   obtain ⟨v6, k6, e6, a6, b6, c6, -, -⟩ := hN k5 (n := 5) (by omega)
   obtain ⟨v7, k7, e7, a7, b7, c7, -, -⟩ := hN k6 (n := 5) (by omega)
   obtain ⟨v8, k8, e8, a8, b8, c8, -, -⟩ := hN k7 (n := 60) (by omega)
   obtain ⟨v9, k9, e9, a9, b9, c9, -, -⟩ := hN k8 (n := 2) (by omega)
   simp only [go_sem, e6, e7, e8, e9]
   rw [if_pos (by simp; omega), if_pos (by simp; omega)]
   obtain ⟨f, hf, hf1, hf2⟩ := feed_at ⟨a6, b6⟩
   obtain ⟨b, hb, hb1, hb2⟩ := blend_at ⟨a7, b7⟩
   rw [hf, hb, wrap_id (x := 1 + v8) (by omega), wrap_id (x := 3 + v9) (by omega)]
   by_cases h5 : kind = 5
   ·rw [if_pos h5, if_neg (by omega)]
    exact en _ _ _ _ _ (by omega) (by omega) (by omega) (by omega) (by omega)
   ·rw [if_neg h5]
    by_cases h6 : kind = 6
    ·rw [if_pos h6, if_pos h6]
     exact en _ _ _ _ _ (by omega) (by omega) (by omega) (by omega) (by omega)
    ·rw [if_neg h6]
     by_cases h4 : kind = 4
     ·rw [if_pos h4]
      exact en _ _ _ _ _ (by omega) (by omega) (by omega) (by omega) (fun _ => rfl)
     ·rw [if_neg h4]
      exact en _ _ _ _ _ (by omega) (by omega) (by omega) (by omega) (fun _ => rfl)
theorem s_motion {l : List (List AC)} (hl : Src l) {p : Pt} (hp : bd 100000000 p) {kind : Int} (hk : 1 <= kind /\ kind <= 6) (k : Nat) :
  ∃ (it : Itm) (k' : Nat), m_cncmill_motion [I p.x, I p.y, I p.z, I kind, .view kInts l, I k] = some (itmR it ++ [.view kInts l, I k']) /\ k <= k' /\ it.fr = p /\ it.kind = kind /\ Made it /\ blank it :=
 a_motion (nextOK hl) (fun hp k => s_arc hl hp (by omega) k) hp hk k
end Go.Bm
/- the maker's list of motions -/
set_option maxRecDepth 100000
namespace Go.Bm

def Chained : Pt -> List Itm -> Prop
 | _, [] => True
 | p, it :: l => it.fr = p /\ Chained it.to l
def lastTo : Pt -> List Itm -> Pt
 | p, [] => p
 | _, it :: l => lastTo it.to l
theorem chained_snoc {p : Pt} {it : Itm} : ∀ {l : List Itm} {p : Pt}, Chained p l -> it.fr = lastTo p l -> Chained p (l ++ [it])
 | [], _, _, h => ⟨h, trivial⟩
 | _ :: _, _, ⟨h1, h2⟩, h => ⟨h1, chained_snoc (p := p) h2 h⟩
theorem lastTo_snoc {it : Itm} : ∀ {l : List Itm} {p : Pt}, lastTo p (l ++ [it]) = it.to
 | [], _ => rfl
 | _ :: l, _ => lastTo_snoc (l := l)
structure Motions (B : Nat) (p : Pt) (l : List Itm) : Prop where
 chain : Chained p l
 made : ∀ it ∈ l, Made it /\ blank it /\ it.kind <= 3 /\ bd B it.fr /\ bd B it.to
theorem arc_bd {size : Int} {b : Nat} {it : Itm} (h : ArcMade size it) (hs : size <= 1000) (hf : bd b it.fr) : bd (b + 2 * (12 + size.toNat)) it.to /\ bd (b + 8 + size.toNat) it.ce := by
 obtain ⟨r, k, t, g, x, h1, h2, h3, h4, h5, h6, h7, h8, h9, h10, h11, h12, h13⟩ := h.ends
 obtain ⟨q1, q2, q3⟩ := pl_bd (pl := it.plane) hf
 obtain ⟨⟨r1, r2⟩, r3, r4⟩ := rot_bd (r := r) (k := k) (by omega)
 obtain ⟨⟨r5, r6⟩, r7, r8⟩ := rot_bd (r := r + g) (k := k + t) (by omega)
 rw [h12, h13]
 unfold bd spP
 constructor <;> split <;> (try split) <;> refine ⟨?_, ?_, ?_⟩ <;> simp only <;> omega
theorem made_bd {b : Nat} {it : Itm} (h : Made it) (hf : bd b it.fr) : bd (b + 40) it.to := by
 by_cases h3 : it.kind = 3
 ·exact bd_mono (arc_bd (h.arc h3) (by omega) hf).1 (by omega)
 ·obtain ⟨h1, h2, h4⟩ := h.line h3
  obtain ⟨g1, g2, g3⟩ := hf
  exact ⟨by omega, by omega, by omega⟩
theorem kind_at {v : Int} (h : 0 <= v /\ v < 5) : ∃ x, intOf (nth .dead (nth [] [[I 2], [I 2], [I 2], [I 3], [I 1]] v.toNat) 0) = x /\ 1 <= x /\ x <= 3 := by
 have hc : v = 0 \/ v = 1 \/ v = 2 \/ v = 3 \/ v = 4 := by omega
 rcases hc with rfl | rfl | rfl | rfl | rfl <;> exact ⟨_, rfl, by decide⟩

theorem a_MotionsL {MM ML MN MF : List AC -> Option (List AC)} {l : List (List AC)} (hN : NextOK l MN)
  (hM : ∀ {p : Pt}, bd 100000000 p -> ∀ {kind : Int}, (1 <= kind /\ kind <= 6) -> ∀ k : Nat,
   ∃ (it : Itm) (k' : Nat), MM [I p.x, I p.y, I p.z, I kind, .view kInts l, I k] = some (itmR it ++ [.view kInts l, I k']) /\ k <= k' /\ it.fr = p /\ it.kind = kind /\ Made it /\ blank it)
  (hL : ∀ k : Nat, ML [.view kInts l, I k] = some [B (decide (k < l.length)), .view kInts l, I k]) {most : Int} (hm : most <= 1000) {p : Pt} :
  ∀ s : List Itm × Nat, (Motions (4 + 40 * 1000) p s.1 /\ bd (4 + 40 * s.1.length) (lastTo p s.1) /\ (s.1 = [] \/ s.1.length <= most)) ->
   ∃ o, loopC (st_cncmill_Motions_4 MM ML MN MF) [.view kItm (s.1.map itmR), I most, I (lastTo p s.1).x, I (lastTo p s.1).y, I (lastTo p s.1).z, .view kInts l, I s.2] = some o /\ o.1 ≠ 0 /\
    ∃ items, o = (1, [.view kItm (items.map itmR)]) /\ Motions (4 + 40 * 1000) p items /\ (items = [] \/ items.length <= most) := by
 refine loop_nat (S := List Itm × Nat) (fun s => [.view kItm (s.1.map itmR), I most, I (lastTo p s.1).x, I (lastTo p s.1).y, I (lastTo p s.1).z, .view kInts l, I s.2]) _ (fun s => l.length - s.2) _ ?_
 rintro ⟨items, k⟩ ⟨h1, h2, h3⟩
 simp only at h1 h2 h3
 simp only
 rw [st_cncmill_Motions_4_eq]
 simp only [go_sem, hL, List.length_map]
 by_cases c1 : (items.length : Int) < most
 case neg =>
  rw [if_neg c1]
  exact .inr ⟨_, rfl, by simp, items, rfl, h1, h3⟩
 rw [if_pos c1]
 by_cases c2 : k < l.length
 case neg =>
  rw [if_neg (by simpa using c2)]
  exact .inr ⟨_, rfl, by simp, items, rfl, h1, h3⟩
 rw [if_pos (by simpa using c2)]
 obtain ⟨v, k1, e1, a1, b1, d1, d2, -⟩ := hN k (n := 5) (by omega)
 have d3 := d2 c2
 subst d3
 obtain ⟨x, hx, hx1, hx2⟩ := kind_at ⟨a1, b1⟩
 have hpb : bd 100000000 (lastTo p items) := bd_mono h2 (by omega)
 obtain ⟨it, k2, e2, g1, g2, g3, g4, g5⟩ := hM hpb (kind := x) (by omega) (k + 1)
 simp only [go_sem, e1, hx, e2, itmR, List.cons_append, List.nil_append]
 rw [if_pos (by simp; omega), if_pos (by simp; omega)]
 left
 have hb2 := made_bd g4 (by rw [g2]; exact h2)
 have hmost : items.length < 1000 := by omega
 refine ⟨(items ++ [it], k2), ?_, ⟨⟨chained_snoc (p := p) h1.chain g2, ?_⟩, ?_, .inr ?_⟩, ?_⟩
 ·simp only [lastTo_snoc, List.map_append, List.map_cons, List.map_nil, itmR]
 ·intro i hi
  simp only [List.mem_append, List.mem_singleton] at hi
  rcases hi with hi | rfl
  ·exact h1.made i hi
  ·exact ⟨g4, g5, by omega, by rw [g2]; exact bd_mono h2 (by omega), bd_mono hb2 (by omega)⟩
 ·simp only [lastTo_snoc, List.length_append, List.length_singleton]
  exact bd_mono hb2 (by omega)
 ·simp only [List.length_append, List.length_singleton]; omega
 ·simp only; omega
theorem a_Motions {MM ML MN MF : List AC -> Option (List AC)} {N : List AC -> Option (Nat × List AC)} {l : List (List AC)} (hN : NextOK l MN) (hF : MF [.view kInts l] = some [.view kInts l, I 0]) {most : Int}
  (hL : ∀ (p : Pt) (k : Nat), bd 4 p -> ∃ items, N [.view kItm [], I most, I p.x, I p.y, I p.z, .view kInts l, I k] = some (1, [.view kItm (items.map itmR)]) /\ Motions 40004 p items /\ (items = [] \/ items.length <= most)) :
  ∃ (p : Pt) (items : List Itm), mf_cncmill_Motions MM ML MN MF N [.view kInts l, I most] = some [.view kItm (items.map itmR)] /\ Motions 40004 p items /\ (items = [] \/ items.length <= most) := by
 obtain ⟨v1, k1, e1, a1, b1, c1, -, -⟩ := hN 0 (n := 9) (by omega)
 obtain ⟨v2, k2, e2, a2, b2, c2, -, -⟩ := hN k1 (n := 9) (by omega)
 obtain ⟨v3, k3, e3, a3, b3, c3, -, -⟩ := hN k2 (n := 9) (by omega)
 obtain ⟨items, h1, h2, h3⟩ := hL ⟨v1 - 4, v2 - 4, v3 - 4⟩ k3 ⟨by simp only; omega, by simp only; omega, by simp only; omega⟩
 rw [mf_cncmill_Motions_eq]
 have e1' : MN [I 9, .view kInts l, I 0] = some [I v1, .view kInts l, I k1] := e1
 simp only [go_sem, hF, e1', e2, e3]
 rw [wrap_id (x := v1 - 4) (by omega), wrap_id (x := v2 - 4) (by omega), wrap_id (x := v3 - 4) (by omega)]
 simp only [h1, go_sem]
 exact ⟨_, items, rfl, h2, h3⟩
theorem s_Motions {l : List (List AC)} (hl : Src l) {most : Int} (hm : most <= 1000) :
  ∃ (p : Pt) (items : List Itm), m_cncmill_Motions [.view kInts l, I most] = some [.view kItm (items.map itmR)] /\ Motions 40004 p items /\ (items = [] \/ items.length <= most) := by
 refine a_Motions (nextOK hl) (s_From l) fun p k hp => ?_
 obtain ⟨o, h1, -, items, rfl, h3, h4⟩ := a_MotionsL (MF := m_cncmill_From) (nextOK hl) (fun hp _ hk k => s_motion hl hp hk k) (s_Left l) hm (p := p) ([], k) ⟨⟨trivial, by simp⟩, hp, .inl rfl⟩
 exact ⟨items, h1, h3, h4⟩
end Go.Bm
/- which motions can be drawn: the program's answer and the reference's -/
set_option maxRecDepth 100000
namespace Go.Bm

instance (pl : Int) : Decidable (isPl pl) := by unfold isPl; infer_instance
instance (A : Nat) (p : Pt) : Decidable (bd A p) := by unfold bd; infer_instance
def dU (it : Itm) (p : Pt) : Int := plU it.plane p - plU it.plane it.ce
def dW (it : Itm) (p : Pt) : Int := plW it.plane p - plW it.plane it.ce
def sq2 (u w : Int) : Int := u * u + w * w
def crs (u w x y : Int) : Int := u * y - w * x
def dt2 (u w x y : Int) : Int := u * x + w * y
def qA (it : Itm) : Int := sq2 (dU it it.fr) (dW it it.fr)
def qB (it : Itm) : Int := sq2 (dU it it.to) (dW it it.to)
def cAB (it : Itm) : Int := crs (dU it it.fr) (dW it it.fr) (dU it it.to) (dW it it.to)
def dAB (it : Itm) : Int := dt2 (dU it it.fr) (dW it it.fr) (dU it it.to) (dW it it.to)
def nearQ (X Y : Int) : Prop := X + Y - 16 <= 0 \/ (X + Y - 16) * (X + Y - 16) <= 4 * X * Y
def turnOK (it : Itm) : Prop := 64 <= qA it /\ 64 <= qB it /\ nearQ (qA it) (qB it) /\ (it.full = true -> dU it it.fr = dU it it.to /\ dW it it.fr = dW it it.to) /\ (it.full = false -> cAB it ≠ 0 \/ dAB it < 0)
def arcOK (it : Itm) : Prop := isPl it.plane /\ (it.dir = 1 \/ it.dir = -1) /\ bd 1048576 it.ce /\ turnOK it
def validI (it : Itm) : Prop := (1 <= it.kind /\ it.kind <= 6) /\ bd 1048576 it.fr /\ bd 1048576 it.to /\ (it.kind = 3 -> arcOK it)

theorem dU_bd {it : Itm} {p : Pt} {b c : Nat} (hc : bd c it.ce) (h : bd b p) : (dU it p).natAbs <= b + c /\ (dW it p).natAbs <= b + c := by
 obtain ⟨h1, h2, h3⟩ := pl_bd (pl := it.plane) h
 obtain ⟨g1, g2, g3⟩ := pl_bd (pl := it.plane) hc
 unfold dU dW
 omega
theorem sq_nat (x : Int) {b : Nat} (h : x.natAbs <= b) : 0 <= x * x /\ x * x <= ((b * b : Nat) : Int) := by
 have h1 := mul_bd h h
 have h2 : 0 <= x * x := by rw [<- Int.natAbs_mul_self]; omega
 omega
theorem sq2_bd {u w : Int} {b : Nat} (hu : u.natAbs <= b) (hw : w.natAbs <= b) : 0 <= sq2 u w /\ sq2 u w <= ((2 * (b * b) : Nat) : Int) := by
 have h1 := sq_nat u hu
 have h2 := sq_nat w hw
 unfold sq2
 omega
theorem dt2_bd {u w x y : Int} {b c : Nat} (hu : u.natAbs <= b) (hw : w.natAbs <= b) (hx : x.natAbs <= c) (hy : y.natAbs <= c) : (dt2 u w x y).natAbs <= 2 * (b * c) /\ (crs u w x y).natAbs <= 2 * (b * c) := by
 have h1 := mul_bd hu hx
 have h2 := mul_bd hw hy
 have h3 := mul_bd hu hy
 have h4 := mul_bd hw hx
 unfold dt2 crs
 omega
theorem near_core {X Y : Int} (hX : 64 <= X) (hY : 64 <= Y) : nearQ X Y ↔ (max X Y - min X Y - 16 <= 0 \/ (max X Y - min X Y - 16) * (max X Y - min X Y - 16) <= 64 * min X Y) := by
 unfold nearQ
 have key : ∀ M m : Int, 64 <= M -> 64 <= m -> m <= M -> ((M + m - 16 <= 0 \/ (M + m - 16) * (M + m - 16) <= 4 * M * m) ↔ (M - m - 16 <= 0 \/ (M - m - 16) * (M - m - 16) <= 64 * m)) := by
  intro M m h1 h2 h3
  have e : (M - m - 16) * (M - m - 16) - 64 * m = (M + m - 16) * (M + m - 16) - 4 * M * m := by grind
  by_cases hk : M - m - 16 <= 0
  ·refine iff_of_true (.inr ?_) (.inl hk)
   have h5 : (16 - (M - m)) * (M - m + 16) >= 0 := Int.mul_nonneg (by omega) (by omega)
   have h6 : (M + m - 16) * (M + m - 16) - 4 * M * m = 512 - (16 - (M - m)) * (M - m + 16) - 32 * (M + m) := by grind
   omega
  ·constructor
   ·rintro (h | h)
    ·omega
    ·exact .inr (by omega)
   ·rintro (h | h)
    ·omega
    ·exact .inr (by omega)
 by_cases h : X <= Y
 ·rw [Int.max_eq_right h, Int.min_eq_left h, <- key Y X hY hX h]
  have e1 : X + Y - 16 = Y + X - 16 := by omega
  have e2 : 4 * X * Y = 4 * Y * X := by grind
  rw [e1, e2]
 ·rw [Int.max_eq_left (by omega), Int.min_eq_right (by omega), <- key X Y hX hY (by omega)]

theorem s_cncref23_Motion (k : Int) : m_cncref23_Motion [I k] = some [B (decide (1 <= k /\ k <= 6))] := by
 unfold m_cncref23_Motion
 rw [mf_cncref23_Motion_eq]
 simp only [go_sem]
 by_cases h : k >= 1
 ·rw [if_pos h]; congr 3; simp; omega
 ·rw [if_neg h]; congr 3; simp; omega
end Go.Bm
