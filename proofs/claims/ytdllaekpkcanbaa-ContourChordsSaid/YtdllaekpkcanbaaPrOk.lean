/- laid together -/
import Derived.Test.YtdllaekpkcanbaaPrDv
import Derived.Test.YtdllaekpkcanbaaPrGi
import Derived.Test.YtdllaekpkcanbaaMx4
import Derived.Test.YtdllaekpkcanbaaMy1
import Derived.Test.YtdllaekpkcanbaaPrG
set_option linter.unusedVariables false
set_option linter.unusedSimpArgs false
/- a b / sqrt n, rounded to the nearest: what package wide gives is what the reference gives -/
set_option maxRecDepth 100000
namespace Go.Bm

theorem a_wide_quotient {M : List AC -> Option (List AC)} (hM : ∀ {hi lo y : Nat}, hi < y -> y < w64 -> lo < w64 -> M [U hi, U lo, U y] = some [U (((hi * w64 + lo) / y : Nat) : Int), U (((hi * w64 + lo) % y : Nat) : Int)])
  {hi lo y : Nat} (hhi : hi < w64) (hlo : lo < w64) (hy0 : 0 < y) (hy : y < w64) :
  ∃ qh ql : Nat, mf_wide_quotient M [U hi, U lo, U y] = some [U qh, U ql, B (decide (0 < (hi * w64 + lo) % y))] /\ qh < w64 /\ ql < w64 /\ qh * w64 + ql = (hi * w64 + lo) / y := by
 have h1 := hM (hi := 0) (lo := hi) hy0 hy hhi
 rw [Nat.zero_mul, Nat.zero_add, show ((0 : Nat) : Int) = 0 from rfl] at h1
 have hm := Nat.mod_lt hi hy0
 have h2 := hM (hi := hi % y) (lo := lo) hm hy hlo
 have e := Nat.div_add_mod hi y
 have e2 : hi * w64 + lo = hi % y * w64 + lo + hi / y * w64 * y := by
  have : hi * w64 = hi / y * w64 * y + hi % y * w64 := by
   rw [<- e, Nat.mul_add_mod, Nat.mod_mod]
   rw [show (y * (hi / y) + hi % y) / y = hi / y from by rw [e]]
   rw [Nat.add_mul, Nat.mul_comm y, Nat.mul_assoc, Nat.mul_comm y, Nat.mul_assoc]
  omega
 have hq : (hi * w64 + lo) / y = (hi % y * w64 + lo) / y + hi / y * w64 := by rw [e2, Nat.add_mul_div_right _ _ hy0]
 have hr : (hi * w64 + lo) % y = (hi % y * w64 + lo) % y := by rw [e2, Nat.add_mul_mod_self_right]
 have hlt : (hi % y * w64 + lo) / y < w64 := by
  rw [Nat.div_lt_iff_lt_mul hy0]
  have : hi % y * w64 + w64 <= y * w64 := by rw [<- Nat.succ_mul]; exact Nat.mul_le_mul_right _ hm
  rw [Nat.mul_comm w64]
  omega
 refine ⟨hi / y, (hi % y * w64 + lo) / y, ?_, Nat.lt_of_le_of_lt (Nat.div_le_self _ _) hhi, hlt, by rw [hq]; omega⟩
 rw [mf_wide_quotient_eq]
 simp only [go_sem, h1, h2, hr]
 by_cases c : 0 < (hi % y * w64 + lo) % y
 ·rw [decide_eq_true c, decide_eq_true (show (((hi % y * w64 + lo) % y : Nat) : Int) > 0 by omega)]
 ·rw [decide_eq_false c, decide_eq_false (show ¬ (((hi % y * w64 + lo) % y : Nat) : Int) > 0 by omega)]

theorem over_J {A n t : Nat} (hn : 0 < n) (h1 : t * t <= 2 * A * (2 * A) / n) (h2 : 2 * A * (2 * A) / n < (t + 1) * (t + 1)) (down : Bool) {E : Prop} [Decidable E] (hE : E ↔ (2 * A * (2 * A) % n = 0 /\ t * t = 2 * A * (2 * A) / n)) :
  IsRnd A n down (if t % 2 = 1 /\ (¬ E \/ down = false) then t / 2 + 1 else t / 2) := by
 have e4 : 2 * A * (2 * A) = 4 * (A * A) := by grind
 have k1 : t * t * n <= 2 * A * (2 * A) := (Nat.le_div_iff_mul_le hn).1 h1
 have k2 : 2 * A * (2 * A) < (t + 1) * (t + 1) * n := (Nat.div_lt_iff_lt_mul hn).1 h2
 have k3 : (2 * A * (2 * A) % n = 0 /\ t * t = 2 * A * (2 * A) / n) ↔ t * t * n = 2 * A * (2 * A) := by
  have hd := Nat.div_add_mod (2 * A * (2 * A)) n
  constructor
  ·rintro ⟨g1, g2⟩
   rw [g2, Nat.mul_comm]; omega
  ·intro g
   rw [<- g]
   exact ⟨Nat.mul_mod_left _ _, (Nat.mul_div_cancel _ hn).symm⟩
 have k4 := hE.trans k3
 rw [e4] at k1 k2 k4
 clear hE k3 h1 h2
 generalize hQ : 4 * (A * A) = Q at *
 unfold IsRnd
 rw [hQ]
 rcases Nat.mod_two_eq_zero_or_one t with ht | ht
 ·rw [if_neg (by omega)]
  obtain ⟨m, rfl⟩ : ∃ m, t = 2 * m := ⟨t / 2, by omega⟩
  rw [show 2 * m / 2 = m by omega]
  have h5 : (2 * m + 1) * (2 * m + 1) * n <= (2 * m + 1) * (2 * m + 1) * n := Nat.le_refl _
  refine ⟨?_, ?_⟩
  ·rcases Nat.eq_zero_or_pos m with hm | hm
   ·exact .inl hm
   ·right
    have h6 : (2 * m - 1) * (2 * m - 1) * n < 2 * m * (2 * m) * n := Nat.mul_lt_mul_of_pos_right (Nat.mul_self_lt_mul_self (by omega)) hn
    split <;> omega
  ·split <;> omega
 ·obtain ⟨m, rfl⟩ : ∃ m, t = 2 * m + 1 := ⟨t / 2, by omega⟩
  rw [show (2 * m + 1) / 2 = m by omega]
  have h6 : (2 * m + 1 + 1) * (2 * m + 1 + 1) * n <= (2 * (m + 1) + 1) * (2 * (m + 1) + 1) * n := sqn_le (by omega)
  have h7 : (2 * m - 1) * (2 * m - 1) * n < (2 * m + 1) * (2 * m + 1) * n := Nat.mul_lt_mul_of_pos_right (Nat.mul_self_lt_mul_self (by omega)) hn
  have h8 : 2 * (m + 1) - 1 = 2 * m + 1 := by omega
  by_cases c : ¬ E \/ down = false
  ·rw [if_pos ⟨ht, c⟩, h8]
   refine ⟨.inr ?_, ?_⟩
   ·cases down
    ·simp only [Bool.false_eq_true, if_false]; exact k1
    ·simp only [if_true]
     rcases c with c | c
     ·exact Nat.lt_of_le_of_ne k1 fun h => c (k4.2 h)
     ·cases c
   ·split <;> omega
  ·have c1 : (2 * m + 1) * (2 * m + 1) * n = Q := by
    by_cases g : E
    ·exact k4.1 g
    ·exact absurd (.inl g) c
   have c2 : down = true := by
    cases down
    ·exact absurd (.inr rfl) c
    ·rfl
   subst c2
   rw [if_neg (fun h => c h.2)]
   simp only [if_true]
   exact ⟨.inr (by omega), by omega⟩
theorem sgn_neg {x d : Int} : sgn x d < 0 ↔ x * d < 0 := by
 rcases sgn_cases x d with ⟨h, g⟩ | ⟨h, g⟩ | ⟨h, g⟩ <;> omega
theorem a_wide_Over {MSg MG MS MR MQ MP MK MZ : List AC -> Option (List AC)} {x d : Int} {n X D h1 l1 qh ql t h2 l2 : Nat} (hX : X <= 2147483648) (hD : D <= 2147483648) (hn : 0 < n /\ n <= 4611686018427387904)
  (z1 : MZ [I x] = some [U X]) (z2 : MZ [I d] = some [U D]) (hk : MK [I 2] = some [B true]) (hp1 : MP [U ((2 * (X * D) : Nat) : Int), U ((2 * (X * D) : Nat) : Int)] = some [U h1, U l1])
  (hq1 : MQ [U h1, U l1, U n] = some [U qh, U ql, B (decide (0 < 2 * (X * D) * (2 * (X * D)) % n))]) (hq2 : qh * w64 + ql = 2 * (X * D) * (2 * (X * D)) / n) (hql : ql < w64) (hr1 : MR [U qh, U ql] = some [U t]) (ht2 : t < w64)
  (hp2 : MP [U t, U t] = some [U h2, U l2]) (hp3 : h2 * w64 + l2 = t * t) (hl2 : l2 < w64) (hs : MS [I x, I d] = some [I (sgn x d)])
  (hg : ∀ (more : Int) (some_ neg : Bool), MG [I 2, I more, B some_, B neg] = some [B (if more > 0 then true else if more = 0 then !neg else false)])
  (g1 : ∀ {n : Nat}, n < 9223372036854775808 -> MSg [U n, B false] = some [I n, B true]) (g2 : ∀ {n : Nat}, n <= 9223372036854775808 -> MSg [U n, B true] = some [I (-(n : Int)), B true]) {J : Nat}
  (hJ1 : t % 2 = 1 -> (¬ (2 * (X * D) * (2 * (X * D)) % n = 0 /\ t * t = 2 * (X * D) * (2 * (X * D)) / n) \/ ¬ sgn x d < 0) -> J = t / 2 + 1) (hJ3 : ¬ (t % 2 = 1 /\ (¬ (2 * (X * D) * (2 * (X * D)) % n = 0 /\ t * t = 2 * (X * D) * (2 * (X * D)) / n) \/ ¬ sgn x d < 0)) -> J = t / 2) (hJ2 : t <= 9223372036854775808) :
  mf_wide_Over MSg MG MS MR MQ MP MK MZ [I x, I d, I n, I 2] = some [I (if sgn x d < 0 then -(J : Int) else J), B true] := by
 have hXD : X * D <= 2147483648 * 2147483648 := Nat.mul_le_mul hX hD
 have w1 : IntKind.u64.wrap (2 * IntKind.u64.wrap ((X : Int) * (D : Int))) = ((2 * (X * D) : Nat) : Int) := by
  rw [<- Int.natCast_mul, wr (by omega), show (2 : Int) * ((X * D : Nat) : Int) = ((2 * (X * D) : Nat) : Int) by omega, wr (by omega)]
 have w2 : IntKind.u64.wrap (n : Int) = n := wr (by omega)
 have w3 : ((t : Int)).tdiv 2 = ((t / 2 : Nat) : Int) := tdivN t 2
 have w4 : IntKind.u64.wrap ((t / 2 : Nat) : Int) = ((t / 2 : Nat) : Int) := wr (by rw [w64_eq] at ht2; omega)
 have w5 : IntKind.u64.wrap (((t / 2 : Nat) : Int) + 1) = ((t / 2 + 1 : Nat) : Int) := by rw [show ((t / 2 : Nat) : Int) + 1 = ((t / 2 + 1 : Nat) : Int) by omega, wr (by rw [w64_eq] at ht2; omega)]
 have w6 : ((t : Int).tmod 2 = 1) = (t % 2 = 1) := by
  rw [Int.tmod_eq_emod_of_nonneg (by omega)]
  exact propext ⟨by omega, by omega⟩
 have hgt : ∀ (neg : Bool) (k : Nat), k < 9223372036854775808 -> MSg [U k, B neg] = some [I (if neg = true then -(k : Int) else k), B true] := by
  intro neg k hk
  cases neg
  ·exact g1 hk
  ·exact g2 (by omega)
 have key : ∀ (neg : Bool) (k : Nat), decide (sgn x d < 0) = neg -> J = k -> k < 9223372036854775808 -> MSg [U k, B neg] = some [I (if sgn x d < 0 then -(J : Int) else J), B true] := by
  intro neg k h1 h2 h3
  rw [hgt neg k h3, h2]
  congr 3
  by_cases c : sgn x d < 0
  ·rw [if_pos c, if_pos (by rw [<- h1]; exact decide_eq_true c)]
  ·rw [if_neg c, if_neg (by rw [<- h1]; simpa using c)]
 have eqq : (h2 = qh /\ l2 = ql) ↔ t * t = 2 * (X * D) * (2 * (X * D)) / n := by
  rw [<- hp3, <- hq2]
  constructor
  ·rintro ⟨rfl, rfl⟩; rfl
  ·intro h
   have a1 : ∀ p q u v : Nat, u < w64 -> v < w64 -> p * w64 + u = q * w64 + v -> p = q /\ u = v := by
    intro p q u v hu hv h
    rcases Nat.lt_trichotomy p q with c | c | c
    ·have := Nat.mul_le_mul_right w64 (show p + 1 <= q from c)
     rw [Nat.succ_mul] at this; omega
    ·subst c; exact ⟨rfl, by omega⟩
    ·have := Nat.mul_le_mul_right w64 (show q + 1 <= p from c)
     rw [Nat.succ_mul] at this; omega
   exact a1 _ _ _ _ hl2 hql h
 rw [mf_wide_Over_eq]
 simp only [go_sem, z1, z2, hk, w1, w2, hp1, hq1, hr1, hs, hp2, w3, w4, w5, hg]
 rw [if_neg (by omega), if_neg (by omega), if_neg (by omega), if_neg (by omega), if_neg (by simp)]
 have ht63 : t / 2 + 1 < 9223372036854775808 := by omega
 have hT : ∀ k : Nat, J = k -> k < 9223372036854775808 -> ((MSg [U (k : Int), B (decide (sgn x d < 0))]).bind fun o => some [I (intOf (nth .dead o 0)), B (boolOf (nth .dead o 1))]) = some [I (if sgn x d < 0 then -(J : Int) else J), B true] := by
  intro k h1 h2
  rw [key _ k rfl h1 h2]
  rfl
 have e3 : ((h2 : Int) = qh /\ (l2 : Int) = ql /\ True) = (t * t = 2 * (X * D) * (2 * (X * D)) / n) := by
  rw [<- propext eqq]
  exact propext ⟨fun h => ⟨by omega, by omega⟩, fun h => ⟨by omega, by omega, trivial⟩⟩
 simp only [e3, w6]
 have n1 : ((1 : Int) > 0) = True := by simp
 have n2 : ((-1 : Int) > 0) = False := by simp
 have n3 : ((-1 : Int) = 0) = False := by simp
 have n4 : ((0 : Int) > 0) = False := by simp
 by_cases cR : 2 * (X * D) * (2 * (X * D)) % n = 0
 ·rw [if_neg (show ¬ 0 < 2 * (X * D) * (2 * (X * D)) % n by omega)]
  by_cases ct : t % 2 = 1
  ·by_cases cE : t * t = 2 * (X * D) * (2 * (X * D)) / n
   ·by_cases cn : sgn x d < 0
    ·have := hJ3 (fun h => h.2.elim (fun g => g ⟨cR, cE⟩) fun g => g cn)
     simp only [n1, n2, n3, n4, Bool.false_eq_true, ct, cE, not_true_eq_false, if_true, if_false]
     rw [if_neg (by simp [cn])]
     exact hT _ this (by omega)
    ·have := hJ1 ct (.inr cn)
     simp only [n1, n2, n3, n4, Bool.false_eq_true, ct, cE, not_true_eq_false, if_true, if_false]
     rw [if_pos (by simp; omega)]
     exact hT _ this ht63
   ·have := hJ1 ct (.inl fun g => cE g.2)
    simp only [n1, n2, n3, n4, Bool.false_eq_true, ct, cE, not_true_eq_false, not_false_eq_true, if_true, if_false]
    exact hT _ this ht63
  ·have := hJ3 (fun h => ct h.1)
   simp only [n1, n2, n3, n4, Bool.false_eq_true, ct, if_false, ite_self]
   exact hT _ this (by omega)
 ·rw [if_pos (show 0 < 2 * (X * D) * (2 * (X * D)) % n by omega)]
  by_cases ct : t % 2 = 1
  ·have := hJ1 ct (.inl fun g => cR g.1)
   simp only [n1, n2, n3, n4, Bool.false_eq_true, ct, not_false_eq_true, if_true]
   exact hT _ this ht63
  ·have := hJ3 (fun h => ct h.1)
   simp only [n1, n2, n3, n4, Bool.false_eq_true, ct, not_false_eq_true, if_true, if_false]
   exact hT _ this (by omega)
theorem nearR_J {x d : Int} {n : Nat} {J : Nat} (hn : 0 < n) (hd : 0 <= d) (hi : IsRnd (x.natAbs * d.natAbs) n (decide (x * d < 0)) J) : (if x * d < 0 then -(J : Int) else J) = nearR x d n := by
 unfold nearR
 rw [Int.natAbs_natCast]
 by_cases hx : x < 0
 ·rw [if_pos hx]
  by_cases hd0 : d = 0
  ·subst hd0
   rw [Int.mul_zero, if_neg (by omega)]
   rw [show x.natAbs * (0 : Int).natAbs = 0 from by simp] at hi ⊢
   have e1 : IsRnd 0 n true 0 := ⟨.inl rfl, by simp⟩
   rw [rnd_of e1]
   obtain ⟨h1, -⟩ := hi
   rw [decide_eq_false (by simp)] at h1
   simp only [Bool.false_eq_true, if_false] at h1
   rcases h1 with h1 | h1
   ·omega
   ·rcases Nat.eq_zero_or_pos J with hJ | hJ
    ·omega
    ·have h2 := Nat.mul_pos (Nat.mul_pos (show 0 < 2 * J - 1 by omega) (show 0 < 2 * J - 1 by omega)) hn
     omega
  ·have hxd : x * d < 0 := Int.mul_neg_of_neg_of_pos hx (by omega)
   rw [decide_eq_true hxd] at hi
   rw [if_pos hxd, rnd_of hi]
 ·rw [if_neg hx]
  have hxd : ¬ x * d < 0 := by have := Int.mul_nonneg (show 0 <= x by omega) hd; omega
  rw [decide_eq_false hxd] at hi
  rw [if_neg hxd, rnd_of hi]
theorem s_wide_Over {x d n : Int} (hx : x.natAbs <= 2147483648) (hd : 0 <= d /\ d <= 2147483648) (hn : 0 < n /\ n <= 4611686018427387904) : m_wide_Over [I x, I d, I n, I 2] = some [I (nearR x d n), B true] := by
 obtain ⟨N, rfl⟩ := Int.eq_ofNat_of_zero_le (show 0 <= n by omega)
 have hD : d.natAbs <= 2147483648 := by omega
 have hXD : x.natAbs * d.natAbs <= 2147483648 * 2147483648 := Nat.mul_le_mul hx hD
 have hN : 0 < N /\ N <= 4611686018427387904 := by omega
 have hp : 2 * (x.natAbs * d.natAbs) < w64 := by rw [w64_eq]; omega
 obtain ⟨h1, l1, e1, e2, e3⟩ := s_wide_product' hp hp
 have hNw : N < w64 := by rw [w64_eq]; omega
 have hh1 : h1 < w64 := by
  have := Nat.mul_lt_mul'' hp hp
  rw [<- e2] at this
  by_cases c : h1 < w64
  ·exact c
  ·have := Nat.mul_le_mul_right w64 (show w64 <= h1 by omega)
   omega
 obtain ⟨qh, ql, q1, q2, q3, q4⟩ := a_wide_quotient (M := m_bits_Div64) s_bits_Div64 hh1 e3 hN.1 hNw
 rw [e2] at q1 q4
 obtain ⟨t, r1, r2, r3, r4⟩ := s_wide_floorRoot q2 q3
 rw [q4] at r2 r3
 obtain ⟨h2, l2, p1, p2, p3⟩ := s_wide_product' r4 r4
 have ht : t <= 9223372036854775808 := by
  have k1 : t * t <= 2 * (x.natAbs * d.natAbs) * (2 * (x.natAbs * d.natAbs)) := Nat.le_trans r2 (Nat.div_le_self _ _)
  have k2 := Nat.mul_self_le_mul_self_iff.1 k1
  omega
 have hi := over_J hN.1 r2 r3 (decide (x * d < 0)) (E := 2 * (x.natAbs * d.natAbs) * (2 * (x.natAbs * d.natAbs)) % N = 0 /\ t * t = 2 * (x.natAbs * d.natAbs) * (2 * (x.natAbs * d.natAbs)) / N) Iff.rfl
 have hres := nearR_J hN.1 hd.1 hi
 rw [<- hres]
 have := @sgn_neg x d
 have hif : ∀ a : Int, (if x * d < 0 then -a else a) = if sgn x d < 0 then -a else a := by
  intro a
  by_cases c : x * d < 0
  ·rw [if_pos c, if_pos (this.2 c)]
  ·rw [if_neg c, if_neg (fun h => c (this.1 h))]
 rw [hif]
 refine a_wide_Over (X := x.natAbs) (D := d.natAbs) hx hD hN (s_wide_size (by unfold i64; omega)) (s_wide_size (by unfold i64; omega)) (s_wide_known (.inr (.inr rfl))) e1 q1 q4 q3 r1 r4 p1 p2 p3 (s_wide_sign x d) s_wide_grows2 s_wide_signed s_wide_signed_neg (fun h1 h2 => ?_) (fun h => ?_) ht
 ·rw [if_pos ⟨h1, h2.imp id fun h => decide_eq_false fun g => h (this.2 g)⟩]
 ·rw [if_neg fun g => h ⟨g.1, g.2.imp id fun k g2 => by rw [decide_eq_false_iff_not] at k; exact k (this.1 g2)⟩]
end Go.Bm
/- the program's lengths, spokes and chords: they are the reference's -/
set_option maxRecDepth 100000
namespace Go.Bm

theorem mid_tailC {MO : List AC -> Option (List AC)} {a b : Spk} {u w : Int} (ha : okS a) (hb : okS b) (hu : u.natAbs <= 100000000) (hw : w.natAbs <= 100000000)
    (hO : ¬ (u = 0 /\ w = 0) -> MO [I u, I (hf a.r b.r), I (sq2 u w), I 2] = some [I (nearR u (hf a.r b.r) (sq2 u w)), B true] /\ MO [I w, I (hf a.r b.r), I (sq2 u w), I 2] = some [I (nearR w (hf a.r b.r) (sq2 u w)), B true]) :
    (bif u == 0 then
      bif w == 0 then some [AC.int IntKind.i64 0, AC.int IntKind.i64 0, AC.int IntKind.i64 0, AC.int IntKind.i64 0, AC.bool false]
      else (MO [AC.int IntKind.i64 u, AC.int IntKind.i64 ((IntKind.i64.wrap (IntKind.i64.wrap (a.r + b.r) + 1)).fdiv (2 ^ min (Int.toNat 1) IntKind.i64.bits)), AC.int IntKind.i64 (IntKind.i64.wrap (IntKind.i64.wrap (u * u) + IntKind.i64.wrap (w * w))), AC.int IntKind.i64 2]).bind fun o36 =>
       (MO [AC.int IntKind.i64 w, AC.int IntKind.i64 ((IntKind.i64.wrap (IntKind.i64.wrap (a.r + b.r) + 1)).fdiv (2 ^ min (Int.toNat 1) IntKind.i64.bits)), AC.int IntKind.i64 (IntKind.i64.wrap (IntKind.i64.wrap (u * u) + IntKind.i64.wrap (w * w))), AC.int IntKind.i64 2]).bind fun o37 =>
       some [AC.int IntKind.i64 (intOf (nth AC.dead o36 0)), AC.int IntKind.i64 (intOf (nth AC.dead o37 0)), AC.int IntKind.i64 ((IntKind.i64.wrap (IntKind.i64.wrap (a.r + b.r) + 1)).fdiv (2 ^ min (Int.toNat 1) IntKind.i64.bits)), AC.int IntKind.i64 ((IntKind.i64.wrap (IntKind.i64.wrap (a.h + b.h) + 1)).fdiv (2 ^ min (Int.toNat 1) IntKind.i64.bits)), AC.bool true]
     else (MO [AC.int IntKind.i64 u, AC.int IntKind.i64 ((IntKind.i64.wrap (IntKind.i64.wrap (a.r + b.r) + 1)).fdiv (2 ^ min (Int.toNat 1) IntKind.i64.bits)), AC.int IntKind.i64 (IntKind.i64.wrap (IntKind.i64.wrap (u * u) + IntKind.i64.wrap (w * w))), AC.int IntKind.i64 2]).bind fun o36 =>
       (MO [AC.int IntKind.i64 w, AC.int IntKind.i64 ((IntKind.i64.wrap (IntKind.i64.wrap (a.r + b.r) + 1)).fdiv (2 ^ min (Int.toNat 1) IntKind.i64.bits)), AC.int IntKind.i64 (IntKind.i64.wrap (IntKind.i64.wrap (u * u) + IntKind.i64.wrap (w * w))), AC.int IntKind.i64 2]).bind fun o37 =>
       some [AC.int IntKind.i64 (intOf (nth AC.dead o36 0)), AC.int IntKind.i64 (intOf (nth AC.dead o37 0)), AC.int IntKind.i64 ((IntKind.i64.wrap (IntKind.i64.wrap (a.r + b.r) + 1)).fdiv (2 ^ min (Int.toNat 1) IntKind.i64.bits)), AC.int IntKind.i64 ((IntKind.i64.wrap (IntKind.i64.wrap (a.h + b.h) + 1)).fdiv (2 ^ min (Int.toNat 1) IntKind.i64.bits)), AC.bool true]) =
    some (spkR (midOf a b u w) ++ [B (decide (¬ (u = 0 /\ w = 0)))]) := by
  have q1 := sq_bd hu
  have q2 := sq_bd hw
  have e : IntKind.i64.wrap (IntKind.i64.wrap (u * u) + IntKind.i64.wrap (w * w)) = sq2 u w := by
    unfold sq2
    generalize u * u = x at *
    generalize w * w = y at *
    rw [wrap_id (x := x) (by omega), wrap_id (x := y) (by omega), wrap_id (by omega)]
  have er : (IntKind.i64.wrap (IntKind.i64.wrap (a.r + b.r) + 1)).fdiv (2 ^ min (Int.toNat 1) IntKind.i64.bits) = hf a.r b.r := by
    have h1 := ha.2.2.1
    have h2 := hb.2.2.1
    rw [wrap_id (x := a.r + b.r) (by omega), wrap_id (x := a.r + b.r + 1) (by omega), show (2 ^ min (Int.toNat 1) IntKind.i64.bits : Int) = 2 from rfl, Int.fdiv_eq_ediv_of_nonneg _ (by omega)]
    rfl
  have eh : (IntKind.i64.wrap (IntKind.i64.wrap (a.h + b.h) + 1)).fdiv (2 ^ min (Int.toNat 1) IntKind.i64.bits) = hf a.h b.h := by
    have h1 := ha.2.2.2
    have h2 := hb.2.2.2
    rw [wrap_id (x := a.h + b.h) (by omega), wrap_id (x := a.h + b.h + 1) (by omega), show (2 ^ min (Int.toNat 1) IntKind.i64.bits : Int) = 2 from rfl, Int.fdiv_eq_ediv_of_nonneg _ (by omega)]
    rfl
  simp only [er, eh, e]
  simp only [go_sem]
  unfold midOf
  by_cases h : u = 0 /\ w = 0
  · rw [if_pos h.1, if_pos h.2, if_pos h]
    simp [h]
  · obtain ⟨n1, n2⟩ := hO h
    rw [if_neg h]
    simp only [n1, n2, go_sem]
    have hd : decide (¬ (u = 0 /\ w = 0)) = true := decide_eq_true h
    rw [hd]
    by_cases hu0 : u = 0
    · rw [if_pos hu0, if_neg (fun hw0 => h ⟨hu0, hw0⟩)]; rfl
    · rw [if_neg hu0]; rfl
theorem a_curve_Middle {MO MC MD : List AC -> Option (List AC)} {a b : Spk} (ha : okS a) (hb : okS b) {dir : Int} (hd : dir = 1 \/ dir = -1) (full : Bool)
    (hO : ∀ {u w : Int}, u.natAbs <= 100000000 -> w.natAbs <= 100000000 -> ¬ (u = 0 /\ w = 0) -> MO [I u, I (hf a.r b.r), I (sq2 u w), I 2] = some [I (nearR u (hf a.r b.r) (sq2 u w)), B true] /\ MO [I w, I (hf a.r b.r), I (sq2 u w), I 2] = some [I (nearR w (hf a.r b.r) (sq2 u w)), B true])
    (hC : MC [I a.u, I a.w, I a.r, I a.h, I b.u, I b.w, I b.r, I b.h] = some [I (crs a.u a.w b.u b.w)]) (hD : MD [I a.u, I a.w, I a.r, I a.h, I b.u, I b.w, I b.r, I b.h] = some [I (dt2 a.u a.w b.u b.w)])
    (hcb : (crs a.u a.w b.u b.w).natAbs <= 5000000000000000) :
    mf_curve_Middle MO MC MD [I a.u, I a.w, I a.r, I a.h, I b.u, I b.w, I b.r, I b.h, I dir, B full] = some (spkR (midS a b dir full) ++ [B (decide (¬ ((midD a b dir full).1 = 0 /\ (midD a b dir full).2 = 0)))]) := by
  have key := fun {u w : Int} (hu : u.natAbs <= 100000000) (hw : w.natAbs <= 100000000) => mid_tailC (MO := MO) (a := a) (b := b) ha hb hu hw (hO hu hw)
  have hbd := midD_bd ha hb hd full
  obtain ⟨a1, a2, -⟩ := ha
  obtain ⟨b1, b2, -⟩ := hb
  have w1 : IntKind.i64.wrap (0 - a.u) = -a.u := by rw [wrap_id (by omega)]; omega
  have w2 : IntKind.i64.wrap (0 - a.w) = -a.w := by rw [wrap_id (by omega)]; omega
  have w3 : IntKind.i64.wrap (a.u + b.u) = a.u + b.u := wrap_id (by omega)
  have w4 : IntKind.i64.wrap (a.w + b.w) = a.w + b.w := wrap_id (by omega)
  have w5 : IntKind.i64.wrap (0 - (a.u + b.u)) = -(a.u + b.u) := by rw [wrap_id (by omega)]; omega
  have w6 : IntKind.i64.wrap (0 - (a.w + b.w)) = -(a.w + b.w) := by rw [wrap_id (by omega)]; omega
  have w7 : IntKind.i64.wrap (b.w - a.w) = b.w - a.w := wrap_id (by omega)
  have w8 : IntKind.i64.wrap (a.u - b.u) = a.u - b.u := wrap_id (by omega)
  have w9 : IntKind.i64.wrap (dir * (b.w - a.w)) = dir * (b.w - a.w) := by rcases hd with rfl | rfl <;> exact wrap_id (by omega)
  have w10 : IntKind.i64.wrap (dir * (a.u - b.u)) = dir * (a.u - b.u) := by rcases hd with rfl | rfl <;> exact wrap_id (by omega)
  have w11 : IntKind.i64.wrap (crs a.u a.w b.u b.w * dir) = crs a.u a.w b.u b.w * dir := by rcases hd with rfl | rfl <;> exact wrap_id (by omega)
  rw [mf_curve_Middle_eq]
  try dsimp only [go_sem]
  unfold midS
  simp only [w1, w2, w3, w4, w5, w6, w7, w8, w9, w10, hC, hD, Option.bind_some, nth_zero', intOf_int, gA, jA, wA, bA, w11]
  have fin : ∀ {x : Option (List AC)}, x = some (spkR (midOf a b (midD a b dir full).1 (midD a b dir full).2) ++ [B (decide (¬ ((midD a b dir full).1 = 0 /\ (midD a b dir full).2 = 0)))]) ->
      (bif dir != 1 then bif dir != -1 then some [AC.int IntKind.i64 0, AC.int IntKind.i64 0, AC.int IntKind.i64 0, AC.int IntKind.i64 0, AC.bool false] else x else x) = some (spkR (midOf a b (midD a b dir full).1 (midD a b dir full).2) ++ [B (decide (¬ ((midD a b dir full).1 = 0 /\ (midD a b dir full).2 = 0)))]) := by
    intro x hx
    rcases hd with rfl | rfl
    · rw [bif_false (by decide)]; exact hx
    · rw [bif_true (by decide), bif_false (by decide)]; exact hx
  refine fin ?_
  have hk := key hbd.1 hbd.2
  unfold midD at *
  cases full
  · simp only [cond_false, Bool.false_eq_true, if_false] at hk ⊢
    by_cases c1 : 0 < dt2 a.u a.w b.u b.w
    · rw [bif_neg (show ¬ dt2 a.u a.w b.u b.w <= 0 by omega)]
      by_cases c2 : 0 < crs a.u a.w b.u b.w * dir
      · rw [bif_neg (show ¬ crs a.u a.w b.u b.w * dir <= 0 by omega)]
        rw [if_pos ⟨c1, c2⟩] at hk ⊢
        exact hk
      · rw [bif_pos (show crs a.u a.w b.u b.w * dir <= 0 by omega)]
        rw [if_neg (fun h => c2 h.2), if_pos c1] at hk ⊢
        exact hk
    · rw [bif_pos (show dt2 a.u a.w b.u b.w <= 0 by omega)]
      rw [if_neg (fun h => c1 h.1), if_neg c1] at hk ⊢
      exact hk
  · simp only [cond_true, if_true] at hk ⊢
    exact hk
theorem over_S {u w r : Int} (hu : u.natAbs <= 100000000) (hw : w.natAbs <= 100000000) (hr : 0 <= r /\ r <= 50000000) (h : ¬ (u = 0 /\ w = 0)) :
    m_wide_Over [I u, I r, I (sq2 u w), I 2] = some [I (nearR u r (sq2 u w)), B true] /\ m_wide_Over [I w, I r, I (sq2 u w), I 2] = some [I (nearR w r (sq2 u w)), B true] := by
  have hp := sq2_pos h
  have h1 := sq_bd hu
  have h2 := sq_bd hw
  have h3 : sq2 u w <= 20000000000000000 := by unfold sq2; omega
  exact ⟨s_wide_Over (by omega) (by omega) (by omega), s_wide_Over (by omega) (by omega) (by omega)⟩
theorem s_curve_Middle {a b : Spk} (ha : okS a) (hb : okS b) {dir : Int} (hd : dir = 1 \/ dir = -1) (full : Bool) :
    m_curve_Middle [I a.u, I a.w, I a.r, I a.h, I b.u, I b.w, I b.r, I b.h, I dir, B full] = some (spkR (midS a b dir full) ++ [B (decide (¬ ((midD a b dir full).1 = 0 /\ (midD a b dir full).2 = 0)))]) := by
  have hc := (dt2_bd ha.1 ha.2.1 hb.1 hb.2.1).2
  exact a_curve_Middle ha hb hd full (fun hu hw h => over_S hu hw (hf_bd ha.2.2.1 hb.2.2.1) h)
    (s_curve_cross (dir_nat ha.1) (dir_nat ha.2.1) (dir_nat hb.1) (dir_nat hb.2.1)) (s_curve_dot (dir_nat ha.1) (dir_nat ha.2.1) (dir_nat hb.1) (dir_nat hb.2.1)) hc

def okT (s : Spk) : Prop := okS s /\ ¬ (s.u = 0 /\ s.w = 0) /\ 1 <= s.r
theorem midD_nz {a b : Spk} (ha : ¬ (a.u = 0 /\ a.w = 0)) (hb : ¬ (b.u = 0 /\ b.w = 0)) {dir : Int} (hd : dir = 1 \/ dir = -1) (full : Bool) : ¬ ((midD a b dir full).1 = 0 /\ (midD a b dir full).2 = 0) := by
  have hp := sq2_pos ha
  unfold sq2 at hp
  unfold midD
  split
  · simp only; omega
  · rename_i hf
    have key : 0 < dt2 a.u a.w b.u b.w -> ¬ (a.u + b.u = 0 /\ a.w + b.w = 0) := by
      intro h1 ⟨h2, h3⟩
      have e1 : b.u = -a.u := by omega
      have e2 : b.w = -a.w := by omega
      unfold dt2 at h1
      rw [e1, e2, Int.mul_neg, Int.mul_neg] at h1
      omega
    split
    · rename_i c; exact key c.1
    · split
      · rename_i c1 c2
        have := key c2
        simp only; omega
      · rename_i c1 c2
        simp only
        rintro ⟨h2, h3⟩
        have e1 : b.w = a.w /\ a.u = b.u := by rcases hd with rfl | rfl <;> omega
        unfold dt2 at c2
        rw [e1.1, <- e1.2] at c2
        omega
theorem near_nz {u w r : Int} (hu : u.natAbs <= 100000000) (hw : w.natAbs <= 100000000) (hr : 1 <= r /\ r <= 50000000) (h : ¬ (u = 0 /\ w = 0)) : ¬ (nearR u r (sq2 u w) = 0 /\ nearR w r (sq2 u w) = 0) := by
  have hp := sq2_pos h
  have h1 := sq_bd hu
  have h2 := sq_bd hw
  have h3 : sq2 u w <= 20000000000000000 := by unfold sq2; omega
  obtain ⟨q1, q2⟩ := sq2_sq u w
  have key : ∀ x : Int, x.natAbs <= 100000000 -> x * x <= sq2 u w -> nearR x r (sq2 u w) = 0 -> 4 * (x * x) <= sq2 u w := by
    intro x hx hq h0
    obtain ⟨-, -, g3⟩ := s_cncref23_Near (x := x) (r := r) (n := sq2 u w) (Nat.le_trans hx (by decide)) (by omega) (by omega) hq
    rw [h0] at g3
    obtain ⟨-, g3⟩ := g3
    have g4 : 4 * (x.natAbs * r.natAbs * (x.natAbs * r.natAbs)) <= (sq2 u w).natAbs := by
      rw [show (0 : Int).natAbs = 0 from rfl] at g3
      split at g3 <;> omega
    have e1 : x.natAbs * r.natAbs * (x.natAbs * r.natAbs) = x.natAbs * x.natAbs * (r.natAbs * r.natAbs) := by grind
    have g5 : x.natAbs * x.natAbs * 1 <= x.natAbs * x.natAbs * (r.natAbs * r.natAbs) := Nat.mul_le_mul_left _ (Nat.mul_le_mul (show 1 <= r.natAbs by omega) (show 1 <= r.natAbs by omega))
    have e2 : ((x.natAbs * x.natAbs : Nat) : Int) = x * x := Int.natAbs_mul_self
    omega
  rintro ⟨g1, g2⟩
  have k1 := key u hu q1 g1
  have k2 := key w hw q2 g2
  unfold sq2 at *
  omega
theorem midS_okT {a b : Spk} (ha : okT a) (hb : okT b) {dir : Int} (hd : dir = 1 \/ dir = -1) (full : Bool) : okT (midS a b dir full) := by
  have hn := midD_nz ha.2.1 hb.2.1 hd full
  have hbd := midD_bd ha.1 hb.1 hd full
  have h1 := ha.1.2.2.1
  have h2 := hb.1.2.2.1
  have h3 := ha.2.2
  have h4 := hb.2.2
  have hh : 1 <= hf a.r b.r /\ hf a.r b.r <= 50000000 := by unfold hf; omega
  refine ⟨midS_ok ha.1 hb.1 hd full, ?_, ?_⟩
  · unfold midS midOf
    rw [if_neg hn]
    exact near_nz hbd.1 hbd.2 hh hn
  · unfold midS midOf
    rw [if_neg hn]
    exact hh.1
theorem s_curve_Flat {r n : Int} (hr : 0 <= r /\ r <= 50000000) : m_curve_Flat [I r, I n] = some [B (decide (n <= 32 * r - 64))] := by
  unfold m_curve_Flat
  rw [mf_curve_Flat_eq, wrap_id (x := 8 * r) (by omega), wrap_id (x := 8 * r * 4) (by omega), wrap_id (x := 8 * r * 4 - 64) (by omega), show 8 * r * 4 - 64 = 32 * r - 64 by omega]
theorem a_curve_settled {MF MC : List AC -> Option (List AC)} {out : List (List AC)} {a b : Spk} (ha : okS a) (hb : okS b) {dir : Int} (hd : dir = 1 \/ dir = -1) (full : Bool)
    (hF : ∀ {r n : Int}, (0 <= r /\ r <= 50000000) -> MF [I r, I n] = some [B (decide (n <= 32 * r - 64))])
    (hC : MC [I a.u, I a.w, I a.r, I a.h, I b.u, I b.w, I b.r, I b.h] = some [I (crs a.u a.w b.u b.w)]) (hcb : (crs a.u a.w b.u b.w).natAbs <= 5000000000000000) :
    mf_curve_cutter_settled MF MC [.view kSpk out, I a.u, I a.w, I a.r, I a.h, I b.u, I b.w, I b.r, I b.h, B full, I dir] = some [.view kSpk out, B (decide (setS a b dir full)), I dir] := by
  have hr : 0 <= mn a.r b.r /\ mn a.r b.r <= 50000000 := by
    have h1 := ha.2.2.1
    have h2 := hb.2.2.1
    unfold mn; split <;> omega
  obtain ⟨a1, a2, -⟩ := ha
  obtain ⟨b1, b2, -⟩ := hb
  have x1 := sub_nat a1 b1
  have x2 := sub_nat a2 b2
  have q1 := sq_bd x1
  have q2 := sq_bd x2
  have e : IntKind.i64.wrap (IntKind.i64.wrap ((a.u - b.u) * (a.u - b.u)) + IntKind.i64.wrap ((a.w - b.w) * (a.w - b.w))) = sq2 (a.u - b.u) (a.w - b.w) := by
    unfold sq2
    generalize (a.u - b.u) * (a.u - b.u) = x at *
    generalize (a.w - b.w) * (a.w - b.w) = y at *
    rw [wrap_id (x := x) (by omega), wrap_id (x := y) (by omega), wrap_id (by omega)]
  have w11 : IntKind.i64.wrap (crs a.u a.w b.u b.w * dir) = crs a.u a.w b.u b.w * dir := by rcases hd with rfl | rfl <;> exact wrap_id (by omega)
  rw [mf_curve_cutter_settled_eq, wrap_nat x1 (by decide), wrap_nat x2 (by decide), e]
  cases full
  · simp only [Bool.not_false, cond_true, hC, Option.bind_some, nth_zero', intOf_int, gA, jA, wA, bA, w11, hF hr, boolOf_bool]
    by_cases c : 0 < crs a.u a.w b.u b.w * dir
    · rw [bif_pos (show crs a.u a.w b.u b.w * dir > 0 from c)]
      by_cases c2 : sq2 (a.u - b.u) (a.w - b.w) <= 32 * mn a.r b.r - 64
      · rw [decide_eq_true c2, decide_eq_true (show setS a b dir false from ⟨rfl, c, c2⟩)]
      · rw [decide_eq_false c2, decide_eq_false (fun h : setS a b dir false => c2 h.2.2)]
    · rw [bif_neg (show ¬ crs a.u a.w b.u b.w * dir > 0 from c), decide_eq_false (fun h : setS a b dir false => c h.2.1)]
  · simp only [Bool.not_true, cond_false]
    rw [decide_eq_false (fun h : setS a b dir true => by cases h.1)]
theorem s_curve_settled {out : List (List AC)} {a b : Spk} (ha : okS a) (hb : okS b) {dir : Int} (hd : dir = 1 \/ dir = -1) (full : Bool) :
    m_curve_cutter_settled [.view kSpk out, I a.u, I a.w, I a.r, I a.h, I b.u, I b.w, I b.r, I b.h, B full, I dir] = some [.view kSpk out, B (decide (setS a b dir full)), I dir] :=
  a_curve_settled ha hb hd full s_curve_Flat (s_curve_cross (dir_nat ha.1) (dir_nat ha.2.1) (dir_nat hb.1) (dir_nat hb.2.1)) (dt2_bd ha.1 ha.2.1 hb.1 hb.2.1).2
theorem s_piece {dir : Int} (hd : dir = 1 \/ dir = -1) : ∀ (n k : Nat) (full : Bool) (a b : Spk) (out : List Spk), k <= 16 -> k < n -> okT a -> okT b -> out.length + 2 ^ k <= 1000000 ->
    mR_curve_cutter_piece n [.view kSpk (out.map spkR), I a.u, I a.w, I a.r, I a.h, I b.u, I b.w, I b.r, I b.h, B full, I (16 - k : Int), I dir] = some [.view kSpk ((out ++ pcsL dir k full a b).map spkR), I dir]
  | 0, k, _, _, _, _, _, hk, _, _, _ => by omega
  | n + 1, 0, full, a, b, out, _, _, ha, hb, ho => by
    show mf_curve_cutter_piece _ _ _ _ = _
    rw [mf_curve_cutter_piece_eq, bif_neg (by omega), bif_true]
    · unfold pcsL
      rw [List.map_append]; rfl
    · exact Nat.ble_eq_true_of_le (by simp only [List.length_append, List.length_map, List.length_cons, List.length_nil]; omega)
  | n + 1, k + 1, full, a, b, out, hk, hn, ha, hb, ho => by
    have hm := midS_okT ha hb hd full
    have hz := midD_nz ha.2.1 hb.2.1 hd full
    have e3 : 2 ^ (k + 1) = 2 ^ k + 2 ^ k := by rw [Nat.pow_succ]; omega
    have hp : 0 < 2 ^ k := Nat.two_pow_pos _
    have l1 := (pcsL_len k false a (midS a b dir full) (dir := dir)).2
    have i1 := s_piece hd n k false a (midS a b dir full) out (by omega) (by omega) ha hm (by omega)
    have i2 := s_piece hd n k false (midS a b dir full) b (out ++ pcsL dir k false a (midS a b dir full)) (by omega) (by omega) hm hb (by rw [List.length_append]; omega)
    have e1 := s_curve_settled (out := out.map spkR) ha.1 hb.1 hd full
    have e2 := s_curve_Middle ha.1 hb.1 hd full
    rw [decide_eq_true hz] at e2
    show mf_curve_cutter_piece (mR_curve_cutter_piece n) m_curve_Middle m_curve_cutter_settled _ = _
    generalize mR_curve_cutter_piece n = MP at *
    generalize m_curve_Middle = MM at *
    generalize m_curve_cutter_settled = MS at *
    rw [mf_curve_cutter_piece_eq, bif_pos (by omega), wrap_id (by omega), show (16 - ((k + 1 : Nat) : Int) + 1) = 16 - (k : Int) by omega]
    unfold pcsL
    generalize midS a b dir full = m at *
    generalize pcsL dir k false a m = p1 at *
    generalize pcsL dir k false m b = p2 at *
    simp only [List.cons_append, List.nil_append, spkR] at e2
    simp only [e1, e2, Option.bind_some, nth_zero', nth_1, nth_2, nth_3, nth_4, intOf_int, gA, jA, wA, bA, boolOf_bool, i1, i2, rowsOf_view]
    by_cases c : setS a b dir full
    · rw [if_pos c, bif_false (by simp [c]), bif_true]
      · rw [List.map_append]; rfl
      · exact Nat.ble_eq_true_of_le (by simp only [List.length_append, List.length_map, List.length_cons, List.length_nil]; omega)
    · rw [if_neg c, bif_true (by simp [c]), cond_true, List.append_assoc]
end Go.Bm
/- the program's chords are the reference's -/
set_option maxRecDepth 100000
namespace Go.Bm

theorem end_okT {it : Itm} {p : Pt} (hc : bd 1048576 it.ce) (hp : bd 1048576 p) (hq : 64 <= sq2 (dU it p) (dW it p)) : okT (endS it p) := by
 obtain ⟨h1, h2, h3, h4⟩ := endS_sq hc hp
 have e : sq2 (dU it p * 16) (dW it p * 16) = 256 * sq2 (dU it p) (dW it p) := by unfold sq2; grind
 refine ⟨endS_ok hc hp, ?_, ?_⟩
 ·show ¬ (dU it p * 16 = 0 /\ dW it p * 16 = 0)
  rintro ⟨g1, g2⟩
  rw [show dU it p = 0 by omega, show dW it p = 0 by omega] at hq
  simp [sq2] at hq
 ·show 1 <= midR _
  obtain ⟨n, hn⟩ := Int.eq_ofNat_of_zero_le h3
  rw [hn] at h4 ⊢
  obtain ⟨r, -, r2, r3, -⟩ := s_cncref23_root (n := n) (by omega)
  rw [midR_of (isMid_nat r2 r3)]
  have : 1 <= r := by
   rcases Nat.eq_zero_or_pos r with h | h
   ·subst h; omega
   ·exact h
  split <;> omega
theorem s_mid_sqrt {n : Nat} (hn : n <= 2251799813685248) : m_wide_Sqrt [I n, I 2] = some [I (midR n), B true] := by
 obtain ⟨r, h1, h2, h3⟩ := s_wide_Sqrt (n := n) (mode := 2) (by omega) (.inr rfl)
 rw [h1, midR_of (isMid_nat h2 h3)]
 congr 3
 by_cases c : r * r + r < n
 ·rw [if_pos (.inr ⟨rfl, c⟩), if_pos c]
 ·rw [if_neg (by simp; omega), if_neg c]
theorem a_curve_Spokes {MP MQ MD ME MV : List AC -> Option (List AC)} {it : Itm} (hV : ∃ v, MV (itmR it) = some [B v] /\ (v = true ↔ validI it)) (h : validI it)
  (hE : it.kind = 3 -> ME (itmR it) = some [I (dU it it.fr * 16), I (dW it it.fr * 16), I 0, I (plH it.plane it.fr * 16), I (dU it it.to * 16), I (dW it it.to * 16), I 0, I (plH it.plane it.to * 16)])
  (hD : ∀ p : Pt, it.kind = 3 -> (p = it.fr \/ p = it.to) -> MD [I (dU it p * 16), I (dW it p * 16), I 0, I (plH it.plane p * 16), I (dU it p * 16), I (dW it p * 16), I 0, I (plH it.plane p * 16)] = some [I (sq2 (dU it p * 16) (dW it p * 16))])
  (hQ : ∀ p : Pt, it.kind = 3 -> (p = it.fr \/ p = it.to) -> MQ [I (sq2 (dU it p * 16) (dW it p * 16)), I 2] = some [I (midR (sq2 (dU it p * 16) (dW it p * 16))), B true])
  (hP : it.kind = 3 -> MP (.view kSpk [spkR (endS it it.fr)] :: spkR (endS it it.fr) ++ spkR (endS it it.to) ++ [B it.full, I 0, I it.dir]) = some [.view kSpk ((spokesP it).map spkR), I it.dir]) :
  mf_curve_Spokes MP MQ MD ME MV (itmR it) = if it.kind = 3 then some [.view kSpk ((spokesP it).map spkR), B true] else some [.view kSpk [], B false] := by
 obtain ⟨v, hv, hvv⟩ := hV
 rw [mf_curve_Spokes_eq]
 by_cases h3 : it.kind = 3
 ·have e := hE h3
  have p := hP h3
  have d1 := hD it.fr h3 (.inl rfl)
  have d2 := hD it.to h3 (.inr rfl)
  have q1 := hQ it.fr h3 (.inl rfl)
  have q2 := hQ it.to h3 (.inr rfl)
  simp only [List.cons_append, List.nil_append, endS, spkR] at p
  simp only [go_sem, hv, e, d1, d2, q1, q2, p]
  rw [if_neg (by simp [h3]), if_neg (by simp [hvv.2 h]), if_pos h3]
 ·simp only [go_sem]
  rw [if_pos h3, if_neg h3]
theorem s_curve_Spokes {it : Itm} (h : validI it) : m_curve_Spokes (itmR it) = if it.kind = 3 then some [.view kSpk ((spokesP it).map spkR), B true] else some [.view kSpk [], B false] := by
 have hb : it.kind = 3 -> ∀ p : Pt, (p = it.fr \/ p = it.to) -> bd 1048576 it.ce /\ bd 1048576 p := by
  intro h3 p hp
  obtain ⟨-, h1, h2, ha⟩ := h
  obtain ⟨-, -, hc, -⟩ := ha h3
  rcases hp with rfl | rfl
  ·exact ⟨hc, h1⟩
  ·exact ⟨hc, h2⟩
 refine a_curve_Spokes (s_curve_Valid it) h (fun h3 => ?_) (fun p h3 hp => ?_) (fun p h3 hp => ?_) fun h3 => ?_
 ·obtain ⟨-, h1, h2, ha⟩ := h
  obtain ⟨hp, -, hc, -⟩ := ha h3
  exact s_curve_ends hp h1 h2 hc
 ·obtain ⟨hc, hp2⟩ := hb h3 p hp
  obtain ⟨g1, g2, -⟩ := endS_sq hc hp2
  exact s_curve_dot (Nat.le_trans g1 (by decide)) (Nat.le_trans g2 (by decide)) (Nat.le_trans g1 (by decide)) (Nat.le_trans g2 (by decide))
 ·obtain ⟨hc, hp2⟩ := hb h3 p hp
  obtain ⟨-, -, g3, g4⟩ := endS_sq hc hp2
  obtain ⟨n, hn⟩ := Int.eq_ofNat_of_zero_le g3
  rw [hn] at g4 ⊢
  exact s_mid_sqrt (by omega)
 ·obtain ⟨-, h1, h2, ha⟩ := h
  obtain ⟨hp, hd, hc, t1, t2, -⟩ := ha h3
  have := s_piece hd 20 16 it.full (endS it it.fr) (endS it it.to) [endS it it.fr] (by omega) (by omega) (end_okT hc h1 t1) (end_okT hc h2 t2) (show 1 + 2 ^ 16 <= 1000000 by decide)
  exact this

theorem s_curve_Space {u w h pl : Int} (hp : isPl pl) : m_curve_Space [I u, I w, I h, I pl] = some (ptR (spP pl u w h)) := by
 show mf_curve_Space m_curve_axes _ = _
 have h1 := s_curve_axes pl
 generalize m_curve_axes = M at *
 rw [mf_curve_Space_eq]
 rcases hp with rfl | rfl | rfl
 ·have e : axI 17 = (0, 1, 2) := rfl
  rw [e] at h1
  rw [h1]; rfl
 ·have e : axI 18 = (2, 0, 1) := rfl
  rw [e] at h1
  rw [h1]; rfl
 ·have e : axI 19 = (1, 2, 0) := rfl
  rw [e] at h1
  rw [h1]; rfl
theorem set_app {α : Type} (pre rest : List α) (x z : α) : (pre ++ x :: rest).set pre.length z = (pre ++ [z]) ++ rest := by
 rw [List.set_append_right _ _ (Nat.le_refl _), Nat.sub_self]
 simp
def fillL {α : Type} (f : Nat -> α) (z : α) (n i : Nat) : List α := (List.range i).map f ++ List.replicate (n - i) z
theorem fillL_len {α : Type} (f : Nat -> α) (z : α) {n i : Nat} (h : i <= n) : (fillL f z n i).length = n := by unfold fillL; simp; omega
theorem fillL_set {α : Type} (f : Nat -> α) (z : α) {n i : Nat} (h : i < n) : (fillL f z n i).set i (f i) = fillL f z n (i + 1) := by
 unfold fillL
 have e : n - i = (n - (i + 1)) + 1 := by omega
 rw [e, List.replicate_succ]
 have := set_app ((List.range i).map f) (List.replicate (n - (i + 1)) z) z (f i)
 rw [List.length_map, List.length_range] at this
 rw [this, List.range_succ, List.map_append]
 rfl
theorem fillL_end {α : Type} (f : Nat -> α) (z : α) (n : Nat) : fillL f z n n = (List.range n).map f := by unfold fillL; simp
theorem range_get {α : Type} (l : List α) (d : α) : (List.range l.length).map (fun i => l.getD i d) = l := by
 apply List.ext_getElem
 ·simp
 ·intro i h1 h2
  simp [h2]
def spk0 : Spk := ⟨0, 0, 0, 0⟩
theorem l_ChordsC {MS MP MF MK MV : List AC -> Option (List AC)} {it : Itm} {l : List Spk} {cu cw : Int} (hl : l.length <= 65537) (hcu : cu.natAbs <= 16777216) (hcw : cw.natAbs <= 16777216) (hok : ∀ s ∈ l, okS s)
  (hS : ∀ {u w h : Int}, MS [I u, I w, I h, I it.plane] = some (ptR (spP it.plane u w h))) {f : Nat -> List AC} (hf : ∀ i, f i = ptR (spP it.plane (cu + (l.getD i spk0).u) (cw + (l.getD i spk0).w) (l.getD i spk0).h)) :
  ∀ (k i : Nat), i + k = l.length -> loopC (st_curve_Chords_9 MS MP MF MK MV) (.view kPt (fillL f [I 0, I 0, I 0] l.length i) :: I cu :: I cw :: .view kSpk (l.map spkR) :: I l.length :: I i :: itmR it) =
   some (1, [.view kPt ((List.range l.length).map f)])
 | 0, i, hi => by
  refine loop_end ?_ (by simp)
  rw [st_curve_Chords_9_eq]
  simp only [go_sem]
  rw [if_neg (by omega), show i = l.length by omega, fillL_end]
 | k + 1, i, hi => by
  have hlt : i < l.length := by omega
  have hs : st_curve_Chords_9 MS MP MF MK MV (.view kPt (fillL f [I 0, I 0, I 0] l.length i) :: I cu :: I cw :: .view kSpk (l.map spkR) :: I l.length :: I i :: itmR it) =
    some (0, .view kPt (fillL f [I 0, I 0, I 0] l.length (i + 1)) :: I cu :: I cw :: .view kSpk (l.map spkR) :: I l.length :: I (i + 1 : Nat) :: itmR it) := by
   rw [st_curve_Chords_9_eq]
   have hr : nth [] (l.map spkR) i = spkR l[i] := nth_map _ _ _ _ hlt
   have ho := hok _ (List.getElem_mem hlt)
   have hfl := fillL_len f [I 0, I 0, I 0] (show i <= l.length by omega)
   have hfi := hf i
   rw [show l.getD i spk0 = l[i] by simp [hlt]] at hfi
   have hset := fillL_set f [I 0, I 0, I 0] hlt
   rw [hfi] at hset
   generalize l[i] = s at *
   obtain ⟨s1, s2, -⟩ := ho
   simp only [go_sem, Int.toNat_natCast, List.length_map, hr]
   rw [if_pos (by omega), if_pos (by omega), wrap_id (x := cu + s.u) (by omega), wrap_id (x := cw + s.w) (by omega), wrap_id (x := (i : Int) + 1) (by omega)]
   simp only [hS, go_sem, hfl]
   rw [if_pos (by omega), hset]
   rfl
  rw [loop_more hs]
  exact l_ChordsC hl hcu hcw hok hS hf k (i + 1) (by omega)
theorem chords_arc {MS MP MF MK MV : List AC -> Option (List AC)} {N : List AC -> Option (Nat × List AC)} {it : Itm} {S : List Spk} {C : List (List AC)} {f : Pt} {u w h : Int} (hv : MV (itmR it) = some [B true])
  (hK : MK (itmR it) = some [.view kSpk (S.map spkR), B true]) (hf : MF [I it.ce.x, I it.ce.y, I it.ce.z] = some (ptR f)) (hpp : MP [I f.x, I f.y, I f.z, I it.plane] = some [I u, I w, I h]) (hS : S.length <= 65537)
  (hN : N [.view kPt (List.replicate S.length [I 0, I 0, I 0]), I u, I w, .view kSpk (S.map spkR), I S.length, I 0, I it.kind, I it.block, I it.fr.x, I it.fr.y, I it.fr.z, I it.to.x, I it.to.y, I it.to.z, I it.plane, I it.ce.x, I it.ce.y, I it.ce.z, I it.dir, B it.full, I it.feed, B it.perRev, I it.side, I it.radius, I it.blend, I it.n, I it.speed, B it.on] = some (1, [.view kPt C])) :
  mf_curve_Chords MS MP MF MK MV N (itmR it) = some [.view kPt C, B true] := by
 rw [mf_curve_Chords_eq]
 simp only [go_sem, hv, hK, hf, hpp, List.length_map, Int.toNat_natCast, hN]
 rw [if_neg (by simp), if_neg (by simp), if_pos (by omega)]
theorem a_curve_Chords {MS MP MF MK MV : List AC -> Option (List AC)} {it : Itm} (hV : ∃ v, MV (itmR it) = some [B v] /\ (v = true ↔ validI it)) (h : validI it)
  (hK : MK (itmR it) = if it.kind = 3 then some [.view kSpk ((spokesP it).map spkR), B true] else some [.view kSpk [], B false])
  (hF : ∀ {p : Pt}, bd 100000000 p -> MF [I p.x, I p.y, I p.z] = some (ptR (fine p))) (hP : isPl it.plane -> ∀ {p : Pt}, MP [I p.x, I p.y, I p.z, I it.plane] = some [I (plU it.plane p), I (plW it.plane p), I (plH it.plane p)])
  (hS : isPl it.plane -> ∀ {u w h : Int}, MS [I u, I w, I h, I it.plane] = some (ptR (spP it.plane u w h))) :
  mf_curve_Chords MS MP MF MK MV (loopC (st_curve_Chords_9 MS MP MF MK MV)) (itmR it) = some [.view kPt ((chordsP it).map ptR), B true] := by
 obtain ⟨v, hv, hvv⟩ := hV
 rw [mf_curve_Chords_eq]
 have hv1 := hvv.2 h
 subst hv1
 obtain ⟨-, h1, h2, ha⟩ := id h
 by_cases h3 : it.kind = 3
 ·obtain ⟨hp, hd, hc, -⟩ := ha h3
  rw [if_pos h3] at hK
  obtain ⟨c1, c2, c3⟩ := pl_bd (pl := it.plane) (fine_bd hc)
  have hsl := (spokesP_len it).2
  have hl := l_ChordsC (MS := MS) (MP := MP) (MF := MF) (MK := MK) (MV := MV) (it := it) (l := spokesP it) (cu := plU it.plane (fine it.ce)) (cw := plW it.plane (fine it.ce)) hsl c1 c2 (spokesP_ok h h3) (hS hp)
   (f := fun i => ptR (chPt it ((spokesP it).getD i spk0))) (fun _ => rfl) (spokesP it).length 0 (by omega)
  have hres : (List.range (spokesP it).length).map (fun i => ptR (chPt it ((spokesP it).getD i spk0))) = ((spokesP it).map (chPt it)).map ptR := by
   rw [List.map_map]
   conv => rhs; rw [<- range_get (spokesP it) spk0]
   rw [List.map_map]
   rfl
  rw [hres] at hl
  have hf0 : fillL (fun i => ptR (chPt it ((spokesP it).getD i spk0))) [I 0, I 0, I 0] (spokesP it).length 0 = List.replicate (spokesP it).length [I 0, I 0, I 0] := by unfold fillL; simp
  rw [hf0] at hl
  have hf := hF (bd_mono hc (by decide))
  have hpp := @hP hp (fine it.ce)
  have := chords_arc (MS := MS) (N := loopC (st_curve_Chords_9 MS MP MF MK MV)) hv hK hf hpp hsl hl
  rw [mf_curve_Chords_eq] at this
  unfold chordsP
  rw [if_pos h3]
  exact this
 ·rw [if_neg h3] at hK
  have f1 := hF (bd_mono h1 (by decide))
  have f2 := hF (bd_mono h2 (by decide))
  unfold chordsP
  rw [if_neg h3]
  simp only [go_sem, hv, hK, f1, f2]
  simp
theorem s_curve_Chords {it : Itm} (h : validI it) : m_curve_Chords (itmR it) = some [.view kPt ((chordsP it).map ptR), B true] :=
 a_curve_Chords (s_curve_Valid it) h (s_curve_Spokes h) s_curve_scaled (fun hp => s_curve_Plane hp) (fun hp => s_curve_Space hp)
end Go.Bm
/- the law ContourChords, over the models -/
set_option maxRecDepth 100000
namespace Go.Bm
open Classical

def tweI (a b t : Int) : Int := a + ((b - a) * t).tdiv 64
def tweP (p q : Pt) (t : Int) : Pt := ⟨tweI p.x q.x t, tweI p.y q.y t, tweI p.z q.z t⟩
theorem twe_err (a b t : Int) : -63 <= 64 * (tweI a b t - a) - (b - a) * t /\ 64 * (tweI a b t - a) - (b - a) * t <= 63 := by
 unfold tweI
 have h1 := Int.mul_tdiv_add_tmod ((b - a) * t) 64
 have h2 := Int.tmod_lt_of_pos ((b - a) * t) (show (0 : Int) < 64 by omega)
 have h3 := Int.lt_tmod_of_pos ((b - a) * t) (show (0 : Int) < 64 by omega)
 omega
theorem twe_bd {a b t : Int} {B : Nat} (ha : a.natAbs <= B) (hb : b.natAbs <= B) (ht : 0 <= t /\ t <= 64) : (tweI a b t).natAbs <= B := by
 obtain ⟨h1, h2⟩ := twe_err a b t
 have e : 64 * tweI a b t = (64 - t) * a + t * b + (64 * (tweI a b t - a) - (b - a) * t) := by grind
 have k1 : (64 - t) * a <= (64 - t) * B := Int.mul_le_mul_of_nonneg_left (by omega) (by omega)
 have k2 : t * b <= t * B := Int.mul_le_mul_of_nonneg_left (by omega) ht.1
 have k3 : (64 - t) * -B <= (64 - t) * a := Int.mul_le_mul_of_nonneg_left (by omega) (by omega)
 have k4 : t * -B <= t * b := Int.mul_le_mul_of_nonneg_left (by omega) ht.1
 have k5 : (64 - t) * (B : Int) + t * B = 64 * B := by grind
 have k6 : (64 - t) * -(B : Int) + t * -B = -(64 * B) := by grind
 omega
theorem twe_pl {pl : Int} (hp : isPl pl) (p q : Pt) (t : Int) : plU pl (tweP p q t) = tweI (plU pl p) (plU pl q) t /\ plW pl (tweP p q t) = tweI (plW pl p) (plW pl q) t /\ plH pl (tweP p q t) = tweI (plH pl p) (plH pl q) t := by
 rcases hp with rfl | rfl | rfl <;> exact ⟨rfl, rfl, rfl⟩
theorem twe_shift (c a b t : Int) : tweI (c + a) (c + b) t = c + tweI a b t := by
 unfold tweI
 rw [show c + b - (c + a) = b - a by omega]; omega
theorem twe_on {it : Itm} {R0 R1 : Int} (hp : isPl it.plane) (hd : it.dir = 1 \/ it.dir = -1) (h : ArcEnds it R0 R1) (hm : ArcMore it R0) {x y : Spk} (hxy : PairOK it x y) {t : Int} (ht : 0 <= t /\ t <= 64) : onArcP it (tweP (chPt it x) (chPt it y) t) 7 := by
 obtain ⟨m1, m2, m3⟩ := twe_pl hp (chPt it x) (chPt it y) t
 have c1 : ∀ s : Spk, plU it.plane (chPt it s) = plU it.plane (fine it.ce) + s.u := fun s => by unfold chPt; rw [(pl_sp hp).1]
 have c2 : ∀ s : Spk, plW it.plane (chPt it s) = plW it.plane (fine it.ce) + s.w := fun s => by unfold chPt; rw [(pl_sp hp).2.1]
 have c3 : ∀ s : Spk, plH it.plane (chPt it s) = s.h := fun s => by unfold chPt; rw [(pl_sp hp).2.2]
 have u1 : pU it (tweP (chPt it x) (chPt it y) t) = tweI x.u y.u t := by unfold pU; rw [m1, c1, c1, twe_shift]; omega
 have w1 : pW it (tweP (chPt it x) (chPt it y) t) = tweI x.w y.w t := by unfold pW; rw [m2, c2, c2, twe_shift]; omega
 have h1 : plH it.plane (tweP (chPt it x) (chPt it y) t) = tweI x.h y.h t := by rw [m3, c3, c3]
 refine chord_on hp hd h hm hxy ht ?_ ?_ ?_
 ·rw [u1]; exact twe_err _ _ _
 ·rw [w1]; exact twe_err _ _ _
 ·rw [h1]; exact twe_err _ _ _
theorem a_ContourChords {MO MC MA MD MW : List AC -> Option (List AC)} {l : List (List AC)} {size k s : Int} {it : Itm} {c : List Pt} {Z : Nat} (hB : Z <= 33554432) (hW : MW [] = some [B true])
  (hD1 : MD [I size, I 3000] = some [I (size % 3000)]) (hA : MA [.view kInts l, I (1 + size % 3000)] = some (itmR it)) (hC : MC (itmR it) = some [.view kPt (c.map ptR), B true]) (hc0 : 2 <= c.length /\ c.length <= 1000000)
  (hD2 : MD [I k, I (c.length - 1)] = some [I (k % (c.length - 1))]) (hD3 : MD [I s, I 65] = some [I (s % 65)]) (hcb : ∀ p ∈ c, bd Z p)
  (hO : ∀ (q : Pt) (f : Int), bd 33554432 q -> (0 <= f /\ f <= 32000) -> ∃ v, MO (itmR it ++ [I q.x, I q.y, I q.z, I f]) = some [B v] /\ (v = true ↔ onItemP it q f))
  (h2 : ∀ p ∈ c, onItemP it p 2) (h7 : ∀ i (h : i + 1 < c.length), onItemP it (tweP c[i] c[i + 1] (s % 65)) 7) :
  mf_cnclaw41_ContourChords MO MC MA MD MW [.view kInts l, I size, I k, I s] = some [B true] := by
 have hk1 : 0 <= k % ((c.length : Int) - 1) := Int.emod_nonneg _ (by omega)
 have hk2 : k % ((c.length : Int) - 1) < (c.length : Int) - 1 := Int.emod_lt_of_pos _ (by omega)
 obtain ⟨j, hj⟩ : ∃ j : Nat, k % ((c.length : Int) - 1) = j := ⟨(k % ((c.length : Int) - 1)).toNat, by omega⟩
 rw [hj] at hD2 hk1 hk2
 have hjl : j < c.length := by omega
 have hjl2 : j + 1 < c.length := by omega
 have r1 : nth [] (c.map ptR) j = ptR c[j] := nth_map _ _ _ _ hjl
 have r2 : nth [] (c.map ptR) (j + 1) = ptR c[j + 1] := nth_map _ _ _ _ hjl2
 have b1 := hcb _ (List.getElem_mem hjl)
 have b2 := hcb _ (List.getElem_mem hjl2)
 have g2 := h2 _ (List.getElem_mem hjl)
 have g7 := h7 j hjl2
 clear h2 h7 hcb
 generalize c[j] = p at *
 generalize c[j + 1] = p' at *
 have ht : 0 <= s % 65 /\ s % 65 <= 64 := by omega
 generalize s % 65 = t at *
 obtain ⟨x1, y1, z1⟩ := id b1
 obtain ⟨x2, y2, z2⟩ := id b2
 have bq : bd Z (tweP p p' t) := ⟨twe_bd x1 x2 ht, twe_bd y1 y2 ht, twe_bd z1 z2 ht⟩
 obtain ⟨v1, o1, o2⟩ := hO _ 7 (bd_mono bq hB) (by omega)
 obtain ⟨v2, o3, o4⟩ := hO p 2 (bd_mono b1 hB) (by omega)
 have e1 := o2.2 g7
 have e2 := o4.2 g2
 have wrp : ∀ a b : Int, a.natAbs <= Z -> b.natAbs <= Z -> IntKind.i64.wrap (a + IntKind.i64.wrap ((IntKind.i64.wrap (IntKind.i64.wrap (b - a) * t)).tdiv 64)) = tweI a b t := fun a b ha hb => by
  have hm := twe_bd ha hb ht
  have hprod : -(2 * (Z : Int) * 64) <= (b - a) * t /\ (b - a) * t <= 2 * (Z : Int) * 64 := by
   have k1 : (b - a).natAbs * t.natAbs <= (2 * Z) * 64 := Nat.mul_le_mul (by omega) (by omega)
   have k2 : ((b - a) * t).natAbs = (b - a).natAbs * t.natAbs := Int.natAbs_mul _ _
   omega
  have he : ((b - a) * t).tdiv 64 = tweI a b t - a := by unfold tweI; omega
  rw [wrap_id (x := b - a) (by omega), wrap_id (x := (b - a) * t) (by omega), he, wrap_id (x := tweI a b t - a) (by omega), wrap_id (by omega)]
  omega
 have w1 : IntKind.i64.wrap (1 + size % 3000) = 1 + size % 3000 := wrap_id (by omega)
 have w2 : IntKind.i64.wrap ((c.length : Int) - 1) = (c.length : Int) - 1 := wrap_id (by omega)
 have w3 : IntKind.i64.wrap ((j : Int) + 1) = ((j + 1 : Nat) : Int) := by rw [wrap_id (by omega)]; omega
 have hin1 : (0 : Int) <= (j : Int) /\ (j : Int) < (c.length : Int) := by omega
 have hin2 : (0 : Int) <= ((j + 1 : Nat) : Int) /\ ((j + 1 : Nat) : Int) < (c.length : Int) := by omega
 unfold tweP at o1
 simp only [itmR, ptR, List.cons_append, List.nil_append] at *
 rw [mf_cnclaw41_ContourChords_eq]
 simp only [go_sem, hW, hD1, w1, hA, hC, List.length_map, w2, hD2, w3, if_pos hin1, if_pos hin2, Int.toNat_natCast, r1, r2, hD3, wrp _ _ x1 x2, wrp _ _ y1 y2, wrp _ _ z1 z2, o1, o3]
 rw [if_neg (by simp), if_neg (by simp), if_neg (by omega)]
 simp [e1, e2]
theorem arc_bdL {size : Int} {b : Nat} {it : Itm} (h : ArcMade size it) (hs : size <= 3000) (hf : bd b it.fr) : bd (b + 2 * 3012) it.to /\ bd (b + 3008) it.ce := by
 obtain ⟨r, k, t, g, x, h1, h2, h3, h4, h5, h6, h7, h8, h9, h10, h11, h12, h13⟩ := h.ends
 obtain ⟨q1, q2, q3⟩ := pl_bd (pl := it.plane) hf
 obtain ⟨⟨r1, r2⟩, r3, r4⟩ := rot_bd (r := r) (k := k) (by omega)
 obtain ⟨⟨r5, r6⟩, r7, r8⟩ := rot_bd (r := r + g) (k := k + t) (by omega)
 rw [h12, h13]
 exact ⟨sp_bd (by omega) (by omega) (by omega), sp_bd (by omega) (by omega) (by omega)⟩
theorem s_ContourChords {l : List (List AC)} (hl : Src l) {size k s : Int} (h1 : i64 size) (h2 : i64 k) (h3 : i64 s) : m_cnclaw41_ContourChords [.view kInts l, I size, I k, I s] = some [B true] := by
 obtain ⟨it, hA, hfr, hm⟩ := s_Arc hl (size := 1 + size % 3000) (by omega)
 obtain ⟨b1, b2⟩ := arc_bdL hm (by omega) hfr
 have b1' : bd 10000 it.to := bd_mono b1 (by omega)
 have b2' : bd 10000 it.ce := bd_mono b2 (by omega)
 have hv : validI it := ⟨by rw [hm.kind]; omega, bd_mono hfr (by omega), bd_mono b1' (by omega), fun _ => ⟨hm.plane, hm.dir, bd_mono b2' (by omega), arc_turn hm⟩⟩
 obtain ⟨R0, R1, hends⟩ := arc_ends hm hv
 have hmore := arc_more hm (by omega) hends
 have hle := hends.le
 have hl48 := hmore.le
 have hch : chordsP it = (spokesP it).map (chPt it) := by unfold chordsP; rw [if_pos hm.kind]
 have hlen := spokesP_len it
 have hcl : (chordsP it).length = (spokesP it).length := by rw [hch, List.length_map]
 have hbd : ∀ p ∈ chordsP it, bd 400000 p := by
  intro p hp
  rw [hch] at hp
  obtain ⟨q, hq, rfl⟩ := List.mem_map.1 hp
  have hb := (spokes_in hm.dir hends q hq).1
  have hr := hb.r
  rw [hends.ra.1, hends.rb.1] at hr
  have hh := hb.h
  have e1 : (endS it it.fr).h = plH it.plane it.fr * 16 := rfl
  have e2 : (endS it it.to).h = plH it.plane it.to * 16 := rfl
  rw [e1, e2] at hh
  obtain ⟨-, -, p1⟩ := pl_bd (pl := it.plane) hfr
  obtain ⟨-, -, p2⟩ := pl_bd (pl := it.plane) b1'
  obtain ⟨p3, p4, -⟩ := pl_bd (pl := it.plane) (fine_bd b2')
  have hq1 := hb.sp.r
  have hrm : q.r <= R1 := by unfold mx at hr; split at hr <;> omega
  obtain ⟨c1, c2⟩ := comp_le (M := q.r + 1) (by omega) hb.sp.norm.2
  have hhb : q.h.natAbs <= 400000 := by unfold mn mx at hh; split at hh <;> split at hh <;> omega
  exact sp_bd (by omega) (by omega) hhb
 have hk3 : it.kind = 3 := hm.kind
 have onI : ∀ {p : Pt} {e : Int}, onArcP it p e -> onItemP it p e := fun h => ⟨hv, by rw [if_pos hk3]; exact h⟩
 refine a_ContourChords (Z := 400000) (c := chordsP it) (by omega) m_cnclaw41_awake_eq (s_cncmill_Mod h1 (by omega)) hA (s_curve_Chords hv) (by omega) (s_cncmill_Mod h2 (by omega)) (s_cncmill_Mod h3 (by omega)) hbd (fun q f hq hf => s_contour_OnItem it hq hf) (fun p hp => ?_) fun i hi => ?_
 ·rw [hch] at hp
  obtain ⟨q, hq, rfl⟩ := List.mem_map.1 hp
  exact onI (vertex_on hm.plane hm.dir hends hq)
 ·have hpr := arc_pairs hm.dir hends hmore
  have hi2 : i + 1 < (spokesP it).length := by omega
  have hg := pairs_get hpr i (by unfold spokesP at hi2; simpa using hi2)
  have e1 : (chordsP it)[i] = chPt it ((spokesP it)[i]'(by omega)) := by simp only [hch, List.getElem_map]
  have e2 : (chordsP it)[i + 1] = chPt it ((spokesP it)[i + 1]'(by omega)) := by simp only [hch, List.getElem_map]
  rw [e1, e2]
  exact onI (twe_on hm.plane hm.dir hends hmore hg (by omega))
end Go.Bm
/- what a law's arguments are known to be -/
set_option maxRecDepth 100000
namespace Go.Bm

theorem okR_int {r : List AC} (h : okR kInts r) : i64 (intOf (nth .dead r 0)) := by
 match r, h with
 | [], h => exact h.elim
 | a :: _, h => exact okC_int h.1
theorem okR_src {r : List AC} (h : okR [Kd.sl kInts] r) : Src (rowsOf (nth .dead r 0)) := by
 match r, h with
 | [], h => exact h.elim
 | a :: _, h =>
  have h1 := h.1
  unfold okC at h1
  refine ⟨?_, fun c hc => okR_int (h1.2 c hc).1⟩
  have h2 := h1.1
  simp only [maxLen] at h2
  show (rowsOf a).length <= _
  omega
end Go.Bm
