/- laid together -/
import Derived.Test.YtdllaekpkcanbaaPrHf
import Derived.Test.YtdllaekpkcanbaaPrG
import Derived.Test.YtdllaekpkcanbaaMy1
import Derived.Test.YtdllaekpkcanbaaPrGi
import Derived.Lib.ItoaNum
set_option linter.unusedVariables false
set_option linter.unusedSimpArgs false
/- all pieces of a made arc are settled; which turn they lie in -/
set_option maxRecDepth 100000
namespace Go.Bm
open Classical

theorem side_q {p q u w R S dir : Int} (hd : dir = 1 \/ dir = -1) (hu : u.natAbs <= 100000000) (hw : w.natAbs <= 100000000) (hR : 1 <= R /\ R <= 50000000) (h0 : ¬ (u = 0 /\ w = 0)) (hS : 0 <= S /\ S * S <= sq2 u w /\ sq2 u w < (S + 1) * (S + 1)) :
  2 * R * (crs p q u w * dir) - (p.natAbs + q.natAbs) * (S + 2 * R + 1) <= 2 * S * (crs p q (nearR u R (sq2 u w)) (nearR w R (sq2 u w)) * dir) := by
 have hp := sq2_pos h0
 have b1 := sq_bd hu
 have b2 := sq_bd hw
 have hn : sq2 u w <= 20000000000000000 := by unfold sq2; omega
 obtain ⟨q1, q2⟩ := sq2_sq u w
 have e1 := near_err hu ⟨by omega, hR.2⟩ ⟨hp, hn⟩ q1 hS
 have e2 := near_err hw ⟨by omega, hR.2⟩ ⟨hp, hn⟩ q2 hS
 generalize nearR u R (sq2 u w) = a at *
 generalize nearR w R (sq2 u w) = b at *
 have hE : 0 <= S + 2 * R + 1 := by omega
 generalize S + 2 * R + 1 = E at *
 have m1 := mul_ge (x := p) (y := (2 * b * S - 2 * (w * R)) * dir) (E := E) (by rcases hd with rfl | rfl <;> omega)
 have m2 := mul_ge (x := -q) (y := (2 * a * S - 2 * (u * R)) * dir) (E := E) (by rcases hd with rfl | rfl <;> omega)
 have e3 : ((-q).natAbs : Int) = q.natAbs := by omega
 rw [e3] at m2
 have key : 2 * S * (crs p q a b * dir) = 2 * R * (crs p q u w * dir) + p * ((2 * b * S - 2 * (w * R)) * dir) + -q * ((2 * a * S - 2 * (u * R)) * dir) := by unfold crs; grind
 rw [Int.add_mul]
 omega
theorem est_q {p R S n C X : Int} (hp : 128 <= p) (hR : p <= R /\ R <= p + 64) (hS : 0 <= S /\ S <= 2 * (p + 65)) (hn : 0 <= n /\ n <= 2 * (p + 65)) (hC : (p - 1) * (p - 1) <= C) (hX : 0 < X) (h : 2 * R * C - n * (S + 2 * R + 1) <= 2 * S * X) : 28 * p <= X := by
 have k : n * (S + 2 * R + 1) <= (4 * p) * (7 * p) := Int.mul_le_mul (by omega) (by omega) (by omega) (by omega)
 have k2 : 2 * p * ((p - 1) * (p - 1)) <= 2 * R * C := Int.mul_le_mul (by omega) hC (sq_nn _) (by omega)
 have k3 : 2 * S * X <= (8 * p) * X := Int.mul_le_mul_of_nonneg_right (by omega) (by omega)
 have e1 : (8 * p) * X = (2 * p) * (4 * X) := by grind
 have e2 : 2 * p * ((p - 1) * (p - 1)) - (4 * p) * (7 * p) = (2 * p) * ((p - 1) * (p - 1) - 14 * p) := by grind
 have k4 : (2 * p) * ((p - 1) * (p - 1) - 14 * p) <= (2 * p) * (4 * X) := by omega
 have k5 := Int.le_of_mul_le_mul_left k4 (by omega)
 have e3 : (p - 1) * (p - 1) = p * p - 2 * p + 1 := by grind
 have k6 : 128 * p <= p * p := Int.mul_le_mul_of_nonneg_right hp (by omega)
 omega
theorem est_d {p R S n C : Int} (hp : 128 <= p) (hR : p <= R /\ R <= p + 64) (hS : 0 <= S /\ S <= 2 * (p + 65)) (hn : 0 <= n /\ n <= 2 * (p + 65)) (hC : 16 * p <= C) : n * (S + 2 * R + 1) < 2 * R * C := by
 have k : n * (S + 2 * R + 1) <= (4 * p) * (7 * p) := Int.mul_le_mul (by omega) (by omega) (by omega) (by omega)
 have k2 : 2 * p * (16 * p) <= 2 * R * C := Int.mul_le_mul (by omega) hC (by omega) (by omega)
 have e1 : 2 * p * (16 * p) = 32 * (p * p) := by grind
 have e2 : (4 * p) * (7 * p) = 28 * (p * p) := by grind
 have : 0 < p * p := Int.mul_pos (by omega) (by omega)
 omega
theorem dt_crs (a b c d : Int) : dt2 a b c d = crs b (-a) c d * 1 := by unfold dt2 crs; grind
theorem across_more {x y : Spk} {dir : Int} (hd : dir = 1 \/ dir = -1) (hx : Sp x) (hy : Sp y) (h64 : ((x.r - y.r).natAbs : Int) <= 64) (h : dt2 x.u x.w y.u y.w <= 0) :
  28 * mn x.r y.r <= crs x.u x.w (midS x y dir false).u (midS x y dir false).w * dir /\ 28 * mn x.r y.r <= crs (midS x y dir false).u (midS x y dir false).w y.u y.w * dir /\
  (16 * mn x.r y.r <= crs x.u x.w y.u y.w * dir -> 0 < dt2 x.u x.w (midS x y dir false).u (midS x y dir false).w /\ 0 < dt2 (midS x y dir false).u (midS x y dir false).w y.u y.w) := by
 obtain ⟨-, -, -, hp1, hp2⟩ := mid_across hd hx hy h64 h
 have hr := radii hx hy h64
 have hdd := dir_sq hd
 have eM : midD x y dir false = (dir * (y.w - x.w), dir * (x.u - y.u)) := by
  unfold midD
  rw [if_neg (by simp), if_neg (fun g => absurd h (Int.not_le.2 g.1)), if_neg (fun g => absurd h (Int.not_le.2 g))]
 have eN : sq2 (dir * (y.w - x.w)) (dir * (x.u - y.u)) = sq2 (x.u - y.u) (x.w - y.w) := by
  have : sq2 (dir * (y.w - x.w)) (dir * (x.u - y.u)) = dir * dir * sq2 (x.u - y.u) (x.w - y.w) := by unfold sq2; grind
  rw [this, hdd, Int.one_mul]
 have eC : crs x.u x.w (dir * (y.w - x.w)) (dir * (x.u - y.u)) * dir = sq2 x.u x.w - dt2 x.u x.w y.u y.w := by
  have : crs x.u x.w (dir * (y.w - x.w)) (dir * (x.u - y.u)) * dir = dir * dir * (sq2 x.u x.w - dt2 x.u x.w y.u y.w) := by unfold crs sq2 dt2; grind
  rw [this, hdd, Int.one_mul]
 have eC2 : crs y.u y.w (dir * (y.w - x.w)) (dir * (x.u - y.u)) * -dir = sq2 y.u y.w - dt2 x.u x.w y.u y.w := by
  have : crs y.u y.w (dir * (y.w - x.w)) (dir * (x.u - y.u)) * -dir = dir * dir * (sq2 y.u y.w - dt2 x.u x.w y.u y.w) := by unfold crs sq2 dt2; grind
  rw [this, hdd, Int.one_mul]
 have eE : crs x.w (-x.u) (dir * (y.w - x.w)) (dir * (x.u - y.u)) * 1 = crs x.u x.w y.u y.w * dir := by unfold crs; grind
 have eE2 : crs y.w (-y.u) (dir * (y.w - x.w)) (dir * (x.u - y.u)) * 1 = crs x.u x.w y.u y.w * dir := by unfold crs; grind
 obtain ⟨hu, hw⟩ := bd_a hx.ok hy.ok hd
 have nS := sq2_ge0 (x.u + y.u) (x.w + y.w)
 rw [eq_S] at nS
 rw [eq_D] at eN
 have hA := hr.A
 have hp := hr.m.2
 have hR := hr.R
 have hsum : 2 * (sq2 x.u x.w + sq2 y.u y.w) <= (2 * (mn x.r y.r + 65)) * (2 * (mn x.r y.r + 65)) := hr.S
 have hcx : 0 <= (x.u.natAbs : Int) + x.w.natAbs /\ (x.u.natAbs : Int) + x.w.natAbs <= 2 * (mn x.r y.r + 65) := hr.cx
 have hcy : 0 <= (y.u.natAbs : Int) + y.w.natAbs /\ (y.u.natAbs : Int) + y.w.natAbs <= 2 * (mn x.r y.r + 65) := hr.cy
 have hR5 := hr.R5
 have h0 : ¬ (dir * (y.w - x.w) = 0 /\ dir * (x.u - y.u) = 0) := by
  rintro ⟨g1, g2⟩
  rw [g1, g2] at eC
  have e0 : crs x.u x.w 0 0 * dir = 0 := by unfold crs; simp
  rw [e0] at eC
  have : 0 < (mn x.r y.r - 1) * (mn x.r y.r - 1) := Int.mul_pos (by omega) (by omega)
  omega
 obtain ⟨-, s2⟩ := sp_mid hx hy hu hw h0
 have emid : midS x y dir false = ⟨nearR (dir * (y.w - x.w)) (hf x.r y.r) (sq2 (dir * (y.w - x.w)) (dir * (x.u - y.u))), nearR (dir * (x.u - y.u)) (hf x.r y.r) (sq2 (dir * (y.w - x.w)) (dir * (x.u - y.u))), hf x.r y.r, hf x.h y.h⟩ := by
  unfold midS; rw [eM]; exact s2
 clear hr h64 hdd
 generalize mn x.r y.r = p at *
 obtain ⟨S, r1, r2, r3⟩ := root_bd hu hw
 have hS : S <= 2 * (p + 65) := le_of_sq (by omega) (by omega)
 have t1 := side_q (p := x.u) (q := x.w) hd hu hw hR5 h0 ⟨r1, r2, r3⟩
 have t2 := side_q (p := y.u) (q := y.w) (dir := -dir) (by omega) hu hw hR5 h0 ⟨r1, r2, r3⟩
 rw [eC] at t1
 rw [eC2] at t2
 have d1 := fun hX => side (p := x.w) (q := -x.u) (dir := 1) (.inl rfl) hu hw hR5 h0 ⟨r1, r2, r3⟩ hX
 have d2 := fun hX => side (p := y.w) (q := -y.u) (dir := 1) (.inl rfl) hu hw hR5 h0 ⟨r1, r2, r3⟩ hX
 rw [eE] at d1
 rw [eE2] at d2
 rw [emid] at hp1 hp2 ⊢
 simp only at hp1 hp2 ⊢
 rw [crs_dir (nearR (dir * (y.w - x.w)) (hf x.r y.r) (sq2 (dir * (y.w - x.w)) (dir * (x.u - y.u))))] at hp2 ⊢
 have n1 : ((-x.u).natAbs : Int) = x.u.natAbs := by omega
 have n2 : ((-y.u).natAbs : Int) = y.u.natAbs := by omega
 rw [n1, Int.add_comm (x.w.natAbs : Int)] at d1
 rw [n2, Int.add_comm (y.w.natAbs : Int)] at d2
 refine ⟨est_q hp hR ⟨r1, hS⟩ hcx (by omega) hp1 t1, est_q hp hR ⟨r1, hS⟩ hcy (by omega) hp2 t2, fun hX => ⟨?_, ?_⟩⟩
 ·rw [dt_crs]; exact d1 (est_d hp hR ⟨r1, hS⟩ hcx hX)
 ·have e9 : ∀ a b c d : Int, dt2 a b c d = dt2 c d a b := fun a b c d => by unfold dt2; grind
  rw [e9, dt_crs]; exact d2 (est_d hp hR ⟨r1, hS⟩ hcy hX)
theorem mid_leaf {dir thr N : Int} (hd : dir = 1 \/ dir = -1) (k : Nat) {x y : Spk} (hx : Sp x) (hy : Sp y) (h33 : ((x.r - y.r).natAbs : Int) <= 33) (hX : 16 * mn x.r y.r <= crs x.u x.w y.u y.w * dir) (ht : thr <= 32 * mn x.r y.r - 64)
  (hN : (x.r + 1) * (x.r + 1) <= N /\ (y.r + 1) * (y.r + 1) <= N) (h1 : 9 ^ k * (2 * N) <= 16 ^ k * thr) (h2 : 9 ^ (k + 1) * (2 * N) <= 16 ^ (k + 1) * thr) : pairsP (Leaf dir) x (pcsL dir (k + 1) false x y) := by
 have hr := radii hx hy h33
 have hpm := hr.m.2
 have hX0 : 0 < crs x.u x.w y.u y.w * dir := by omega
 have nx := hx.norm
 have ny := hy.norm
 have mono : ∀ (j : Nat) (D : Int), D <= 2 * N -> 9 ^ j * (2 * N) <= 16 ^ j * thr -> 9 ^ j * D <= 16 ^ j * thr := fun j D hD h => by
  have : (9 : Int) ^ j * D <= 9 ^ j * (2 * N) := Int.mul_le_mul_of_nonneg_left hD (Int.pow_nonneg (by omega))
  omega
 by_cases hdt : 0 < dt2 x.u x.w y.u y.w
 ·refine along_leaf hd (k + 1) hx hy hX0 hdt h33 ht (mono _ _ ?_ h2)
  rw [eq_D]; omega
 ·have h64 : ((x.r - y.r).natAbs : Int) <= 64 := by omega
  obtain ⟨m1, m2, m3, m4, m5⟩ := mid_across hd hx hy h64 (by omega)
  obtain ⟨-, -, a3⟩ := across_more hd hx hy h64 (by omega)
  obtain ⟨g1, g2⟩ := a3 hX
  unfold pcsL
  by_cases c : setS x y dir false
  ·rw [if_pos c]; exact ⟨⟨hx, hy, hX0, c.2.2⟩, trivial⟩
  rw [if_neg c]
  generalize midS x y dir false = m at *
  obtain ⟨f1, f2⟩ := half_d m2 h64
  have hmn := mn_hf x.r y.r
  rw [<- m2] at hmn
  have hmM : sq2 m.u m.w <= N := by
   have h3 := (hf_btw x.r y.r).2
   rw [<- m2] at h3
   have h4 := m1.norm.2
   have h5 := m1.r
   have : (m.r + 1) * (m.r + 1) <= N := by
    unfold mx at h3
    split at h3
    ·exact Int.le_trans (Int.mul_self_le_mul_self (by omega) (by omega)) hN.2
    ·exact Int.le_trans (Int.mul_self_le_mul_self (by omega) (by omega)) hN.1
   omega
  exact pairs_cut (along_leaf hd k hx m1 m4 g1 f1 (by omega) (mono _ _ (by rw [eq_D]; omega) h1)) (along_leaf hd k m1 hy m5 g2 f2 (by omega) (mono _ _ (by rw [eq_D]; omega) h1))
theorem part_leaf {dir thr N : Int} (hd : dir = 1 \/ dir = -1) {x y : Spk} (hx : Sp x) (hy : Sp y) (h64 : ((x.r - y.r).natAbs : Int) <= 64) (hdt : dt2 x.u x.w y.u y.w <= 0) (ht : thr <= 32 * mn x.r y.r - 64)
  (hN : (x.r + 1) * (x.r + 1) <= N /\ (y.r + 1) * (y.r + 1) <= N) (h1 : 9 ^ 14 * (2 * N) <= 16 ^ 14 * thr) (h2 : 9 ^ 15 * (2 * N) <= 16 ^ 15 * thr) : pairsP (Leaf dir) x (pcsL dir 16 false x y) := by
 have hr := radii hx hy h64
 have hpm := hr.m.2
 obtain ⟨m1, m2, m3, m4, m5⟩ := mid_across hd hx hy h64 hdt
 obtain ⟨a1, a2, -⟩ := across_more hd hx hy h64 hdt
 rw [pcsL]
 by_cases c : setS x y dir false
 ·rw [if_pos c]; exact ⟨⟨hx, hy, c.2.1, c.2.2⟩, trivial⟩
 rw [if_neg c]
 generalize midS x y dir false = m at *
 obtain ⟨f1, f2⟩ := half_d m2 h64
 have hmn := mn_hf x.r y.r
 rw [<- m2] at hmn
 have hup : mn x.r m.r <= mn x.r y.r + 64 /\ mn m.r y.r <= mn x.r y.r + 64 := by
  have := hr.R
  rw [<- m2] at this
  unfold mn at *
  split at * <;> split at * <;> split at * <;> omega
 have hmM : (m.r + 1) * (m.r + 1) <= N := by
  have h3 := (hf_btw x.r y.r).2
  rw [<- m2] at h3
  have h5 := m1.r
  unfold mx at h3
  split at h3
  ·exact Int.le_trans (Int.mul_self_le_mul_self (by omega) (by omega)) hN.2
  ·exact Int.le_trans (Int.mul_self_le_mul_self (by omega) (by omega)) hN.1
 exact pairs_cut (mid_leaf hd 14 hx m1 f1 (by omega) (by omega) ⟨hN.1, hmM⟩ h1 h2) (mid_leaf hd 14 m1 hy f2 (by omega) (by omega) ⟨hmM, hN.2⟩ h1 h2)
end Go.Bm
/- all pieces of a full turn are settled; the turn of the pieces -/
set_option maxRecDepth 100000
namespace Go.Bm
open Classical

theorem near_two {u R : Int} (hu : (2 * u).natAbs <= 100000000) (hR : 1 <= R /\ R <= 50000000) (hq : u * u <= R * R) : nearR (2 * u) R (4 * (R * R)) = u := by
 have hn : 0 < R * R := Int.mul_pos (by omega) (by omega)
 have hn2 : R * R <= 50000000 * 50000000 := Int.mul_self_le_mul_self (by omega) hR.2
 have hq2 : (2 * u) * (2 * u) <= 4 * (R * R) := by
  have : (2 * u) * (2 * u) = 4 * (u * u) := by grind
  omega
 obtain ⟨j, e, h1, h2, h3⟩ := near_facts hu ⟨by omega, hR.2⟩ ⟨by omega, by omega⟩ hq2
 have ea : ((2 * u).natAbs : Int) = 2 * u.natAbs := by omega
 rw [ea] at h1 h2
 have k1 : (j : Int) <= u.natAbs := by
  rcases h1 with h1 | h1
  ·omega
  ·have : (2 * (j : Int) - 1) * (2 * R) <= 2 * (2 * u.natAbs * R) := by
    refine le_of_sq (Int.mul_nonneg (by omega) (Int.mul_nonneg (by omega) (by omega))) (Int.le_trans (Int.le_of_eq ?_) h1)
    grind
   have e3 : 2 * (2 * (u.natAbs : Int) * R) = 2 * (u.natAbs : Int) * (2 * R) := by grind
   rw [e3] at this
   have := Int.le_of_mul_le_mul_right this (by omega)
   omega
 have k2 : (u.natAbs : Int) <= j := by
  have : 2 * (2 * (u.natAbs : Int) * R) <= (2 * (j : Int) + 1) * (2 * R) := by
   refine le_of_sq (Int.mul_nonneg (by omega) (by omega)) (Int.le_trans h2 (Int.le_of_eq ?_))
   grind
  have e3 : 2 * (2 * (u.natAbs : Int) * R) = 2 * (u.natAbs : Int) * (2 * R) := by grind
  rw [e3] at this
  have := Int.le_of_mul_le_mul_right this (by omega)
  omega
 rw [e]
 split <;> omega
theorem quarter_est {R S t : Int} (hR : 128 <= R) (hS : 0 <= S) (h1 : S * S <= 2 * (R * R)) (h : 2 * R * (R * R) - 2 * (R + 1) * (S + 2 * R + 1) <= 2 * S * t) (ht : 0 < t) : R * R <= 2 * t := by
 by_cases c : R * R <= 2 * t
 ·exact c
 ·exfalso
  have s2 : 2 * S <= 3 * R := by
   refine le_of_sq (by omega) ?_
   have e1 : 2 * S * (2 * S) = 4 * (S * S) := by grind
   have e2 : 3 * R * (3 * R) = 9 * (R * R) := by grind
   have := sq_nn R
   omega
  have k1 : 2 * S * t <= S * (R * R) := by
   have : S * (2 * t) <= S * (R * R) := Int.mul_le_mul_of_nonneg_left (by omega) hS
   have e : 2 * S * t = S * (2 * t) := by grind
   omega
  have k2 : S * (R * R) * 2 <= 3 * R * (R * R) := by
   have : 2 * S * (R * R) <= 3 * R * (R * R) := Int.mul_le_mul_of_nonneg_right s2 (sq_nn R)
   have e : S * (R * R) * 2 = 2 * S * (R * R) := by grind
   omega
  have k3 : 2 * (2 * (R + 1) * (S + 2 * R + 1)) <= 2 * (R + 1) * (7 * R + 2) := by
   have : 2 * (R + 1) * (2 * (S + 2 * R + 1)) <= 2 * (R + 1) * (7 * R + 2) := Int.mul_le_mul_of_nonneg_left (by omega) (by omega)
   have e : 2 * (2 * (R + 1) * (S + 2 * R + 1)) = 2 * (R + 1) * (2 * (S + 2 * R + 1)) := by grind
   omega
  have e1 : 2 * R * (R * R) * 2 = 4 * (R * R * R) := by grind
  have e2 : 3 * R * (R * R) = 3 * (R * R * R) := by grind
  have e3 : 2 * (R + 1) * (7 * R + 2) = 14 * (R * R) + 18 * R + 4 := by grind
  have k4 : 128 * (R * R) <= R * R * R := by
   have := Int.mul_le_mul_of_nonneg_right hR (sq_nn R)
   have e : R * (R * R) = R * R * R := by grind
   omega
  have k5 : 128 * R <= R * R := Int.mul_le_mul_of_nonneg_right hR (by omega)
  omega
theorem quarter_leaf {dir R : Int} (hd : dir = 1 \/ dir = -1) {x y : Spk} (hx : Sp x) (hy : Sp y) (hxr : x.r = R) (hyr : y.r = R) (sx : sq2 x.u x.w = R * R) (sy : sq2 y.u y.w = R * R) (hdt : dt2 x.u x.w y.u y.w = 0) (hX : crs x.u x.w y.u y.w * dir = R * R)
  (h13 : 9 ^ 13 * ((R + 1) * (R + 1)) <= 16 ^ 13 * (32 * R - 64)) : pairsP (Leaf dir) x (pcsL dir 14 false x y) := by
 have hR := hx.r
 rw [hxr] at hR
 have h64 : ((x.r - y.r).natAbs : Int) <= 64 := by rw [hxr, hyr]; omega
 have hmn : mn x.r y.r = R := by rw [hxr, hyr]; unfold mn; split <;> rfl
 have hhf : hf x.r y.r = R := by rw [hxr, hyr]; unfold hf; omega
 have hRR : 128 * R <= R * R := Int.mul_le_mul_of_nonneg_right hR (by omega)
 obtain ⟨m1, m2, m3, m4, m5⟩ := mid_across hd hx hy h64 (by omega)
 obtain ⟨-, -, a3⟩ := across_more hd hx hy h64 (by omega)
 obtain ⟨g1, g2⟩ := a3 (by rw [hmn, hX]; omega)
 rw [pcsL]
 by_cases c : setS x y dir false
 ·rw [if_pos c]; exact ⟨⟨hx, hy, c.2.1, c.2.2⟩, trivial⟩
 rw [if_neg c]
 -- how near the middle is
 have hdd := dir_sq hd
 have eM : midD x y dir false = (dir * (y.w - x.w), dir * (x.u - y.u)) := by
  unfold midD
  rw [if_neg (by simp), if_neg (fun g => by omega), if_neg (fun g => by omega)]
 have eN : sq2 (dir * (y.w - x.w)) (dir * (x.u - y.u)) = 2 * (R * R) := by
  have : sq2 (dir * (y.w - x.w)) (dir * (x.u - y.u)) = dir * dir * sq2 (x.u - y.u) (x.w - y.w) := by unfold sq2; grind
  rw [this, hdd, Int.one_mul, eq_D, sx, sy, hdt]; omega
 have eE : crs x.w (-x.u) (dir * (y.w - x.w)) (dir * (x.u - y.u)) * 1 = R * R := by
  rw [<- hX]; unfold crs; grind
 have eE2 : crs y.w (-y.u) (dir * (y.w - x.w)) (dir * (x.u - y.u)) * 1 = R * R := by
  rw [<- hX]; unfold crs; grind
 obtain ⟨hu, hw⟩ := bd_a hx.ok hy.ok hd
 have h0 : ¬ (dir * (y.w - x.w) = 0 /\ dir * (x.u - y.u) = 0) := by
  rintro ⟨q1, q2⟩
  rw [q1, q2] at eN
  have : sq2 0 0 = 0 := rfl
  omega
 obtain ⟨-, s2⟩ := sp_mid hx hy hu hw h0
 have emid : midS x y dir false = ⟨nearR (dir * (y.w - x.w)) R (sq2 (dir * (y.w - x.w)) (dir * (x.u - y.u))), nearR (dir * (x.u - y.u)) R (sq2 (dir * (y.w - x.w)) (dir * (x.u - y.u))), R, hf x.h y.h⟩ := by
  unfold midS; rw [eM]; rw [hhf] at s2; exact s2
 obtain ⟨S, r1, r2, r3⟩ := root_bd hu hw
 have hR5 : 1 <= R /\ R <= 50000000 := ⟨by omega, by have := hx.ok.2.2.1.2; omega⟩
 have cx := comp_sum (M := R) (by omega) (show sq2 x.u x.w <= R * R by omega)
 have cy := comp_sum (M := R) (by omega) (show sq2 y.u y.w <= R * R by omega)
 have q1 := side_q (p := x.w) (q := -x.u) (dir := 1) (.inl rfl) hu hw hR5 h0 ⟨r1, r2, r3⟩
 have q2 := side_q (p := y.w) (q := -y.u) (dir := 1) (.inl rfl) hu hw hR5 h0 ⟨r1, r2, r3⟩
 rw [eE, <- dt_crs] at q1
 rw [eE2, <- dt_crs] at q2
 have em1 : (midS x y dir false).u = nearR (dir * (y.w - x.w)) R (sq2 (dir * (y.w - x.w)) (dir * (x.u - y.u))) := by rw [emid]
 have em2 : (midS x y dir false).w = nearR (dir * (x.u - y.u)) R (sq2 (dir * (y.w - x.w)) (dir * (x.u - y.u))) := by rw [emid]
 rw [<- em1, <- em2] at q1 q2
 rw [eN] at r2
 have hM := m1.norm.2
 rw [m2, hhf] at hM
 have n1 : ((-x.u).natAbs : Int) = x.u.natAbs := by omega
 have n2 : ((-y.u).natAbs : Int) = y.u.natAbs := by omega
 rw [n1] at q1
 rw [n2] at q2
 have b1 : ((x.w.natAbs : Int) + x.u.natAbs) * (S + 2 * R + 1) <= 2 * (R + 1) * (S + 2 * R + 1) := Int.mul_le_mul_of_nonneg_right (by omega) (by omega)
 have b2 : ((y.w.natAbs : Int) + y.u.natAbs) * (S + 2 * R + 1) <= 2 * (R + 1) * (S + 2 * R + 1) := Int.mul_le_mul_of_nonneg_right (by omega) (by omega)
 have eswap : dt2 y.u y.w (midS x y dir false).u (midS x y dir false).w = dt2 (midS x y dir false).u (midS x y dir false).w y.u y.w := by unfold dt2; grind
 rw [eswap] at q2
 have t1 := quarter_est hR r1 r2 (by omega) g1
 have t2 := quarter_est hR r1 r2 (by omega) g2
 generalize midS x y dir false = m at *
 obtain ⟨f1, f2⟩ := half_d m2 h64
 have hmr : m.r = R := by rw [m2, hhf]
 have p9 : (0 : Int) <= 9 ^ 13 := by decide
 have key : ∀ D : Int, D <= (R + 1) * (R + 1) -> 9 ^ 13 * D <= 16 ^ 13 * (32 * R - 64) := fun D hD => Int.le_trans (Int.mul_le_mul_of_nonneg_left hD p9) h13
 refine pairs_cut (along_leaf (thr := 32 * R - 64) hd 13 hx m1 m4 g1 f1 (by rw [hxr, hmr]; unfold mn; split <;> omega) (key _ (by rw [eq_D]; omega))) (along_leaf (thr := 32 * R - 64) hd 13 m1 hy m5 g2 f2 (by rw [hyr, hmr]; unfold mn; split <;> omega) (key _ (by rw [eq_D]; omega)))
theorem half_leaf {dir R : Int} (hd : dir = 1 \/ dir = -1) {x y : Spk} (hx : Sp x) (hy : Sp y) (hxr : x.r = R) (hyr : y.r = R) (sx : sq2 x.u x.w = R * R) (hyx : y.u = -x.u /\ y.w = -x.w)
  (h13 : 9 ^ 13 * ((R + 1) * (R + 1)) <= 16 ^ 13 * (32 * R - 64)) : pairsP (Leaf dir) x (pcsL dir 15 false x y) := by
 have hR := hx.r
 rw [hxr] at hR
 have hRR : 0 < R * R := Int.mul_pos (by omega) (by omega)
 have hdt : dt2 x.u x.w y.u y.w = -(R * R) := by rw [hyx.1, hyx.2, <- sx]; unfold dt2 sq2; grind
 have hcr : crs x.u x.w y.u y.w = 0 := by rw [hyx.1, hyx.2]; unfold crs; grind
 have hhf : hf x.r y.r = R := by rw [hxr, hyr]; unfold hf; omega
 rw [pcsL, if_neg (fun c : setS x y dir false => by have := c.2.1; rw [hcr] at this; simp at this)]
 have hb := hx.ok
 have eM : midD x y dir false = (2 * (-(dir * x.w)), 2 * (dir * x.u)) := by
  unfold midD
  rw [if_neg (by simp), if_neg (fun g => by omega), if_neg (fun g => by omega), hyx.1, hyx.2]
  congr 1 <;> grind
 have hdd := dir_sq hd
 have eN : sq2 (2 * (-(dir * x.w))) (2 * (dir * x.u)) = 4 * (R * R) := by
  have : sq2 (2 * (-(dir * x.w))) (2 * (dir * x.u)) = 4 * (dir * dir * sq2 x.u x.w) := by unfold sq2; grind
  rw [this, hdd, Int.one_mul, sx]
 have h0 : ¬ (2 * (-(dir * x.w)) = 0 /\ 2 * (dir * x.u) = 0) := by
  rintro ⟨q1, q2⟩
  rw [q1, q2] at eN
  have : sq2 0 0 = 0 := rfl
  omega
 have bu : (2 * (-(dir * x.w))).natAbs <= 100000000 := by have := hb.2.1; rcases hd with rfl | rfl <;> omega
 have bw : (2 * (dir * x.u)).natAbs <= 100000000 := by have := hb.1; rcases hd with rfl | rfl <;> omega
 obtain ⟨s1, s2⟩ := sp_mid hx hy bu bw h0
 obtain ⟨c1, c2⟩ := sq2_sq x.u x.w
 have hR5 : 1 <= R /\ R <= 50000000 := ⟨by omega, by have := hb.2.2.1.2; omega⟩
 have sqd : ∀ z : Int, (dir * z) * (dir * z) = z * z := fun z => by
  have : (dir * z) * (dir * z) = dir * dir * (z * z) := by grind
  rw [this, hdd, Int.one_mul]
 have sqw : -(dir * x.w) * -(dir * x.w) <= R * R := by
  have h1 := sqd x.w
  have e : -(dir * x.w) * -(dir * x.w) = (dir * x.w) * (dir * x.w) := by grind
  omega
 have n1 := near_two (u := -(dir * x.w)) (R := R) bu hR5 sqw
 have n2 := near_two (u := dir * x.u) (R := R) bw hR5 (by have := sqd x.u; omega)
 rw [hhf, eN, n1, n2] at s2
 have emid : midS x y dir false = midOf x y (2 * (-(dir * x.w))) (2 * (dir * x.u)) := by unfold midS; rw [eM]
 rw [emid]
 generalize midOf x y (2 * (-(dir * x.w))) (2 * (dir * x.u)) = m at *
 have mu : m.u = -(dir * x.w) := by rw [s2]
 have mw : m.w = dir * x.u := by rw [s2]
 have mr : m.r = R := by rw [s2]
 have sm : sq2 m.u m.w = R * R := by
  rw [mu, mw, <- sx]
  unfold sq2
  have a := sqd x.u
  have b := sqd x.w
  have e : -(dir * x.w) * -(dir * x.w) = (dir * x.w) * (dir * x.w) := by grind
  omega
 have sy : sq2 y.u y.w = R * R := by rw [hyx.1, hyx.2, <- sx]; unfold sq2; grind
 refine pairs_cut (quarter_leaf hd hx s1 hxr mr sx sm ?_ ?_ h13) (quarter_leaf hd s1 hy mr hyr sm sy ?_ ?_ h13)
 ·rw [mu, mw]; unfold dt2; grind
 ·rw [mu, mw, <- sx]
  have : crs x.u x.w (-(dir * x.w)) (dir * x.u) * dir = dir * dir * sq2 x.u x.w := by unfold crs sq2; grind
  rw [this, hdd, Int.one_mul]
 ·rw [mu, mw, hyx.1, hyx.2]; unfold dt2; grind
 ·rw [mu, mw, hyx.1, hyx.2, <- sx]
  have : crs (-(dir * x.w)) (dir * x.u) (-x.u) (-x.w) * dir = dir * dir * sq2 x.u x.w := by unfold crs sq2; grind
  rw [this, hdd, Int.one_mul]
theorem full_leaf {dir R : Int} (hd : dir = 1 \/ dir = -1) {x y : Spk} (hx : Sp x) (hy : Sp y) (hxr : x.r = R) (hyr : y.r = R) (sx : sq2 x.u x.w = R * R) (hyx : y.u = x.u /\ y.w = x.w)
  (h13 : 9 ^ 13 * ((R + 1) * (R + 1)) <= 16 ^ 13 * (32 * R - 64)) : pairsP (Leaf dir) x (pcsL dir 16 true x y) := by
 have hR := hx.r
 rw [hxr] at hR
 have hRR : 0 < R * R := Int.mul_pos (by omega) (by omega)
 rw [pcsL, if_neg (fun c : setS x y dir true => by cases c.1)]
 have hb := hx.ok
 have eN : sq2 (-x.u) (-x.w) = R * R := by rw [<- sx]; unfold sq2; grind
 have h0 : ¬ (-x.u = 0 /\ -x.w = 0) := by
  rintro ⟨q1, q2⟩
  rw [q1, q2] at eN
  have : sq2 0 0 = 0 := rfl
  omega
 obtain ⟨s1, s2⟩ := sp_mid hx hy (u := -x.u) (w := -x.w) (by have := hb.1; omega) (by have := hb.2.1; omega) h0
 obtain ⟨q1, q2⟩ := sq2_sq (-x.u) (-x.w)
 rw [eN] at q1 q2
 have hhf : hf x.r y.r = R := by rw [hxr, hyr]; unfold hf; omega
 have hR5 : 1 <= R /\ R <= 50000000 := ⟨by omega, by have := hb.2.2.1.2; omega⟩
 have n1 := near_exact (u := -x.u) (R := R) (by have := hb.1; omega) hR5 q1
 have n2 := near_exact (u := -x.w) (R := R) (by have := hb.2.1; omega) hR5 q2
 rw [hhf, eN, n1, n2] at s2
 have eM : midS x y dir true = midOf x y (-x.u) (-x.w) := by
  unfold midS midD
  rw [if_pos rfl]
 rw [eM]
 generalize midOf x y (-x.u) (-x.w) = m at *
 have mu : m.u = -x.u := by rw [s2]
 have mw : m.w = -x.w := by rw [s2]
 have mr : m.r = R := by rw [s2]
 have sm : sq2 m.u m.w = R * R := by rw [mu, mw]; exact eN
 exact pairs_cut (half_leaf hd hx s1 hxr mr sx ⟨mu, mw⟩ h13) (half_leaf hd s1 hy mr hyr sm ⟨by rw [hyx.1, mu]; omega, by rw [hyx.2, mw]; omega⟩ h13)
end Go.Bm
/- a point of a chord of a made arc is on the arc, but for 7 -/
set_option maxRecDepth 100000
namespace Go.Bm
open Classical

def SecPair (a b : Spk) (dir : Int) (x y : Spk) : Prop :=
 if 0 < crs a.u a.w b.u b.w * dir then (0 <= crs a.u a.w x.u x.w * dir /\ 0 <= crs x.u x.w b.u b.w * dir) /\ (0 <= crs a.u a.w y.u y.w * dir /\ 0 <= crs y.u y.w b.u b.w * dir)
 else (0 <= crs a.u a.w x.u x.w * dir /\ 0 <= crs a.u a.w y.u y.w * dir) \/ (0 <= crs x.u x.w b.u b.w * dir /\ 0 <= crs y.u y.w b.u b.w * dir)
theorem pairs_mem {Q : Spk -> Prop} : ∀ {x : Spk} {l : List Spk}, Q x -> (∀ q ∈ l, Q q) -> pairsP (fun a b => Q a /\ Q b) x l
 | _, [], _, _ => trivial
 | _, y :: _, hx, hq => ⟨⟨hx, hq y (by simp)⟩, pairs_mem (hq y (by simp)) fun q hm => hq q (by simp [hm])⟩
theorem pairs_both {P Q : Spk -> Spk -> Prop} : ∀ {x : Spk} {l : List Spk}, pairsP P x l -> pairsP Q x l -> pairsP (fun a b => P a b /\ Q a b) x l
 | _, [], _, _ => trivial
 | _, _ :: _, h, g => ⟨⟨h.1, g.1⟩, pairs_both h.2 g.2⟩
theorem crs_self (a b : Int) : crs a b a b = 0 := by unfold crs; grind
theorem sec_pairs {dir : Int} (hd : dir = 1 \/ dir = -1) (k : Nat) {a b : Spk} (ha : Sp a) (hb : Sp b) (h64 : ((a.r - b.r).natAbs : Int) <= 64) (hdt : dt2 a.u a.w b.u b.w <= 0) : pairsP (SecPair a b dir) a (pcsL dir (k + 1) false a b) := by
 by_cases hX : 0 < crs a.u a.w b.u b.w * dir
 ·have h := pairs_mem (Q := fun q => 0 <= crs a.u a.w q.u q.w * dir /\ 0 <= crs q.u q.w b.u b.w * dir) (x := a) (l := pcsL dir (k + 1) false a b) ⟨by rw [crs_self]; simp, by omega⟩ fun q hq => (cone_in hd (k + 1) ha hb hX (.inr ⟨h64, hdt⟩) q hq).2
  refine pairs_mono (fun x y g => ?_) h
  unfold SecPair
  rw [if_pos hX]
  exact g
 ·rw [pcsL, if_neg (fun c : setS a b dir false => hX c.2.1)]
  obtain ⟨m1, m2, m3, m4, m5⟩ := mid_across hd ha hb h64 hdt
  generalize midS a b dir false = m at *
  obtain ⟨d1, d2⟩ := half_d m2 h64
  have e1 := pairs_mem (Q := fun q => 0 <= crs a.u a.w q.u q.w * dir) (x := a) (l := pcsL dir k false a m) (show 0 <= crs a.u a.w a.u a.w * dir by rw [crs_self]; simp) fun q hq => (cone_in hd k ha m1 m4 (.inl d1) q hq).2.1
  have e2 := pairs_mem (Q := fun q => 0 <= crs q.u q.w b.u b.w * dir) (x := m) (l := pcsL dir k false m b) (show 0 <= crs m.u m.w b.u b.w * dir by omega) fun q hq => (cone_in hd k m1 hb m5 (.inl d2) q hq).2.2
  refine pairs_cut (pairs_mono (fun x y g => ?_) e1) (pairs_mono (fun x y g => ?_) e2)
  ·unfold SecPair; rw [if_neg hX]; exact .inl g
  ·unfold SecPair; rw [if_neg hX]; exact .inr g
structure ArcMore (it : Itm) (R0 : Int) : Prop where
 le : R0 <= 48112
 shape : it.full = false -> dt2 (endS it it.fr).u (endS it it.fr).w (endS it it.to).u (endS it it.to).w = 0 \/ (crs (endS it it.fr).u (endS it it.fr).w (endS it it.to).u (endS it it.to).w = 0 /\ dt2 (endS it it.fr).u (endS it it.fr).w (endS it it.to).u (endS it it.to).w < 0)
theorem rot_shape {r s k t : Int} (hr : 0 < r) (hs : 0 < s) (hk : 0 <= k /\ k <= 3) (ht : 1 <= t /\ t <= 3) : dt2 (rotU r k) (rotW r k) (rotU s (k + t)) (rotW s (k + t)) = 0 \/ (crs (rotU r k) (rotW r k) (rotU s (k + t)) (rotW s (k + t)) = 0 /\ dt2 (rotU r k) (rotW r k) (rotU s (k + t)) (rotW s (k + t)) < 0) := by
 have hp := Int.mul_pos hr hs
 have hk' : k = 0 \/ k = 1 \/ k = 2 \/ k = 3 := by omega
 have ht' : t = 1 \/ t = 2 \/ t = 3 := by omega
 rcases hk' with rfl | rfl | rfl | rfl <;> rcases ht' with rfl | rfl | rfl <;> simp [dt2, crs, rotU, rotW, Int.mul_neg, Int.neg_mul] <;> omega
theorem arc_more {size : Int} {it : Itm} (h : ArcMade size it) (hs : size <= 3000) {R0 R1 : Int} (he : ArcEnds it R0 R1) : ArcMore it R0 := by
 obtain ⟨r, k, t, g, x, h1, h2, h3, h4, h5, h6, h7, h8, h9, h10, h11, h12, h13⟩ := h.ends
 have hp := h.plane
 have a1 : dU it it.fr = rotU r k := by unfold dU; rw [h12, (pl_sp hp).1]; omega
 have a2 : dW it it.fr = rotW r k := by unfold dW; rw [h12, (pl_sp hp).2.1]; omega
 have a3 : dU it it.to = rotU (r + g) (k + t) := by unfold dU; rw [h12, h13, (pl_sp hp).1, (pl_sp hp).1]; omega
 have a4 : dW it it.to = rotW (r + g) (k + t) := by unfold dW; rw [h12, h13, (pl_sp hp).2.1, (pl_sp hp).2.1]; omega
 have e1 : sq2 (dU it it.fr * 16) (dW it it.fr * 16) = (16 * r) * (16 * r) := by
  have : sq2 (dU it it.fr * 16) (dW it it.fr * 16) = 256 * sq2 (dU it it.fr) (dW it it.fr) := by unfold sq2; grind
  rw [this, a1, a2, rot_sq]; grind
 refine ⟨?_, fun hf => ?_⟩
 ·have : (endS it it.fr).r = 16 * r := by unfold endS; simp only; rw [e1, midR_sq (by omega)]
  have := he.ra.1
  omega
 ·rw [h11] at hf
  have ht := of_decide_eq_false hf
  show dt2 (dU it it.fr * 16) (dW it it.fr * 16) (dU it it.to * 16) (dW it it.to * 16) = 0 \/ (crs (dU it it.fr * 16) (dW it it.fr * 16) (dU it it.to * 16) (dW it it.to * 16) = 0 /\ dt2 (dU it it.fr * 16) (dW it it.fr * 16) (dU it it.to * 16) (dW it it.to * 16) < 0)
  have e3 : dt2 (dU it it.fr * 16) (dW it it.fr * 16) (dU it it.to * 16) (dW it it.to * 16) = 256 * dt2 (dU it it.fr) (dW it it.fr) (dU it it.to) (dW it it.to) := by unfold dt2; grind
  have e4 : crs (dU it it.fr * 16) (dW it it.fr * 16) (dU it it.to * 16) (dW it it.to * 16) = 256 * crs (dU it it.fr) (dW it it.fr) (dU it it.to) (dW it it.to) := by unfold crs; grind
  have := rot_shape (r := r) (s := r + g) (k := k) (t := t) (by omega) (by omega) ⟨h3, h4⟩ (by omega)
  rw [e3, e4, a1, a2, a3, a4]
  omega
theorem depth_num {R0 R1 : Int} (h : 128 <= R0 /\ R0 <= R1 /\ R1 <= R0 + 64) (hl : R0 <= 48112) : (9 : Int) ^ 14 * (2 * ((R1 + 1) * (R1 + 1))) <= 16 ^ 14 * (32 * R0 - 64) /\ (9 : Int) ^ 15 * (2 * ((R1 + 1) * (R1 + 1))) <= 16 ^ 15 * (32 * R0 - 64) /\ (9 : Int) ^ 13 * ((R0 + 1) * (R0 + 1)) <= 16 ^ 13 * (32 * R0 - 64) := by
 have k1 : (R1 + 1) * (R1 + 1) <= (R0 + 65) * (R0 + 65) := Int.mul_self_le_mul_self (by omega) (by omega)
 have e1 : (R0 + 65) * (R0 + 65) = R0 * R0 + 130 * R0 + 4225 := by grind
 have e2 : (R0 + 1) * (R0 + 1) = R0 * R0 + 2 * R0 + 1 := by grind
 have k2 : R0 * R0 <= 48112 * R0 := Int.mul_le_mul_of_nonneg_right hl (by omega)
 have p1 : (9 : Int) ^ 14 = 22876792454961 := by decide
 have p2 : (16 : Int) ^ 14 = 72057594037927936 := by decide
 have p3 : (9 : Int) ^ 15 = 205891132094649 := by decide
 have p4 : (16 : Int) ^ 15 = 1152921504606846976 := by decide
 have p5 : (9 : Int) ^ 13 = 2541865828329 := by decide
 have p6 : (16 : Int) ^ 13 = 4503599627370496 := by decide
 rw [p1, p2, p3, p4, p5, p6]
 omega
abbrev PairOK (it : Itm) (x y : Spk) : Prop := Leaf it.dir x y /\ (Btw (endS it it.fr) (endS it it.to) x /\ Btw (endS it it.fr) (endS it it.to) y) /\ (it.full = true \/ SecPair (endS it it.fr) (endS it it.to) it.dir x y)
theorem arc_pairs {it : Itm} {R0 R1 : Int} (hd : it.dir = 1 \/ it.dir = -1) (h : ArcEnds it R0 R1) (hm : ArcMore it R0) : pairsP (PairOK it) (endS it it.fr) (pcsL it.dir 16 it.full (endS it it.fr) (endS it it.to)) := by
 have hle := h.le
 have hra := h.ra
 have hrb := h.rb
 obtain ⟨n1, n2, n3⟩ := depth_num hle hm.le
 have hB := pairs_mem (Q := fun q => Btw (endS it it.fr) (endS it it.to) q) (x := endS it it.fr) (l := pcsL it.dir 16 it.full (endS it it.fr) (endS it it.to)) (btw_left h.a) fun q hq => (spokes_in hd h q (List.mem_cons_of_mem _ hq)).1
 by_cases hf : it.full = true
 ·have g := h.full hf
  have hL : pairsP (Leaf it.dir) (endS it it.fr) (pcsL it.dir 16 it.full (endS it it.fr) (endS it it.to)) := by
   rw [hf]
   exact full_leaf hd h.a h.b hra.1 (by rw [hrb.1, g.2.2]) hra.2 ⟨g.1, g.2.1⟩ n3
  exact pairs_mono (fun x y k => ⟨k.1, k.2, .inl hf⟩) (pairs_both hL hB)
 ·have hf' : it.full = false := by simpa using hf
  have hdt := h.part hf'
  have h64 : (((endS it it.fr).r - (endS it it.to).r).natAbs : Int) <= 64 := by rw [hra.1, hrb.1]; omega
  rw [hf'] at hB ⊢
  have hsq : (R0 + 1) * (R0 + 1) <= (R1 + 1) * (R1 + 1) := Int.mul_self_le_mul_self (by omega) (by omega)
  have hL := part_leaf (thr := 32 * R0 - 64) (N := (R1 + 1) * (R1 + 1)) hd h.a h.b h64 hdt (by rw [hra.1, hrb.1]; unfold mn; split <;> omega) ⟨by rw [hra.1]; exact hsq, by rw [hrb.1]; exact Int.le_refl _⟩ n1 n2
  have hS := sec_pairs hd 15 h.a h.b h64 hdt
  exact pairs_mono (fun x y k => ⟨k.1.1, k.1.2, .inr k.2⟩) (pairs_both (pairs_both hL hB) hS)
theorem chord_on {it : Itm} {R0 R1 : Int} (hp : isPl it.plane) (hd : it.dir = 1 \/ it.dir = -1) (h : ArcEnds it R0 R1) (hm : ArcMore it R0) {x y : Spk} (hxy : PairOK it x y) {s : Int} (hs : 0 <= s /\ s <= 64) {q : Pt}
  (hu : -63 <= 64 * (pU it q - x.u) - (y.u - x.u) * s /\ 64 * (pU it q - x.u) - (y.u - x.u) * s <= 63) (hw : -63 <= 64 * (pW it q - x.w) - (y.w - x.w) * s /\ 64 * (pW it q - x.w) - (y.w - x.w) * s <= 63)
  (hh : -63 <= 64 * (plH it.plane q - x.h) - (y.h - x.h) * s /\ 64 * (plH it.plane q - x.h) - (y.h - x.h) * s <= 63) : onArcP it q 7 := by
 obtain ⟨⟨sx, sy, hX, hfl⟩, ⟨bx, by_⟩, hsec⟩ := hxy
 have hle := h.le
 have hra := h.ra
 have hrb := h.rb
 obtain ⟨vu, hvu⟩ : ∃ v, v = (64 - s) * x.u + s * y.u := ⟨_, rfl⟩
 obtain ⟨vw, hvw⟩ : ∃ v, v = (64 - s) * x.w + s * y.w := ⟨_, rfl⟩
 have eu : 64 * pU it q - vu = 64 * (pU it q - x.u) - (y.u - x.u) * s := by rw [hvu]; grind
 have ew : 64 * pW it q - vw = 64 * (pW it q - x.w) - (y.w - x.w) * s := by rw [hvw]; grind
 have eh : 64 * plH it.plane q = (64 - s) * x.h + s * y.h + (64 * (plH it.plane q - x.h) - (y.h - x.h) * s) := by grind
 rw [<- eu] at hu
 rw [<- ew] at hw
 have rx := bx.r
 have ry := by_.r
 have hx1 := bx.h
 have hy1 := by_.h
 rw [hra.1, hrb.1] at rx ry
 have hmnr : mn R0 R1 = R0 := by unfold mn; split <;> omega
 have hmxr : mx R0 R1 = R1 := by unfold mx; split <;> omega
 rw [hmnr, hmxr] at rx ry
 have hmc := mn_cases x.r y.r
 have hrx := sx.r
 have hry := sy.r
 have q1 : (mn x.r y.r - 1) * (mn x.r y.r - 1) <= sq2 x.u x.w := Int.le_trans (Int.mul_self_le_mul_self (by omega) (by omega)) sx.norm.1
 have q2 : (mn x.r y.r - 1) * (mn x.r y.r - 1) <= sq2 y.u y.w := Int.le_trans (Int.mul_self_le_mul_self (by omega) (by omega)) sy.norm.1
 have q3 : sq2 x.u x.w <= (R1 + 1) * (R1 + 1) := Int.le_trans sx.norm.2 (Int.mul_self_le_mul_self (by omega) (by omega))
 have q4 : sq2 y.u y.w <= (R1 + 1) * (R1 + 1) := Int.le_trans sy.norm.2 (Int.mul_self_le_mul_self (by omega) (by omega))
 have hV : sq2 vu vw = (64 - s) * (64 - s) * sq2 x.u x.w + s * s * sq2 y.u y.w + 2 * (s * (64 - s)) * dt2 x.u x.w y.u y.w := by rw [hvu, hvw]; unfold sq2 dt2; grind
 have hn := chord_norm (eq_D x y) hs hV ⟨q1, q3⟩ ⟨q2, q4⟩ (by omega) (sq2_ge0 _ _) hfl
 obtain ⟨b1, b2, b3⟩ := chord_above rfl rfl ⟨hle.1, hle.2.1⟩ (show R0 <= mn x.r y.r by omega) rfl hn hu hw
 have pe1 : pU it (fine it.fr) = (endS it it.fr).u := by show _ = dU it it.fr * 16; unfold pU dU; rw [(pl_fine _ _).1, (pl_fine _ _).1]; omega
 have pe2 : pW it (fine it.fr) = (endS it it.fr).w := by show _ = dW it it.fr * 16; unfold pW dW; rw [(pl_fine _ _).2.1, (pl_fine _ _).2.1]; omega
 have pe3 : pU it (fine it.to) = (endS it it.to).u := by show _ = dU it it.to * 16; unfold pU dU; rw [(pl_fine _ _).1, (pl_fine _ _).1]; omega
 have pe4 : pW it (fine it.to) = (endS it it.to).w := by show _ = dW it it.to * 16; unfold pW dW; rw [(pl_fine _ _).2.1, (pl_fine _ _).2.1]; omega
 have pe5 : plH it.plane (fine it.fr) = (endS it it.fr).h := (pl_fine _ _).2.2
 have pe6 : plH it.plane (fine it.to) = (endS it it.to).h := (pl_fine _ _).2.2
 have hsq : R0 * R0 <= R1 * R1 := Int.mul_self_le_mul_self (by omega) hle.2.1
 unfold onArcP
 rw [pe1, pe2, pe3, pe4, pe5, pe6, hra.2, hrb.2, Int.min_eq_left hsq, Int.max_eq_right hsq]
 rw [mn_min, mx_max] at hx1 hy1
 generalize min (endS it it.fr).h (endS it it.to).h = lo at *
 generalize max (endS it it.fr).h (endS it it.to).h = hi at *
 have k1 : (64 - s) * lo <= (64 - s) * x.h := Int.mul_le_mul_of_nonneg_left hx1.1 (by omega)
 have k2 : s * lo <= s * y.h := Int.mul_le_mul_of_nonneg_left hy1.1 hs.1
 have k3 : (64 - s) * x.h <= (64 - s) * hi := Int.mul_le_mul_of_nonneg_left hx1.2 (by omega)
 have k4 : s * y.h <= s * hi := Int.mul_le_mul_of_nonneg_left hy1.2 hs.1
 have k5 : (64 - s) * lo + s * lo = 64 * lo := by grind
 have k6 : (64 - s) * hi + s * hi = 64 * hi := by grind
 refine ⟨b2, b3, by omega, by omega, ?_⟩
 rcases hsec with g | g
 ·exact .inl g
 by_cases hf : it.full = true
 ·exact .inl hf
 right
 have hA : 0 < sq2 (endS it it.fr).u (endS it it.fr).w := by rw [hra.2]; exact Int.mul_pos (by omega) (by omega)
 have hB : 0 < sq2 (endS it it.to).u (endS it it.to).w := by rw [hrb.2]; exact Int.mul_pos (by omega) (by omega)
 have hQ : 4 < sq2 (pU it q) (pW it q) := by
  have : 121 * 121 <= (R0 - 7) * (R0 - 7) := Int.mul_self_le_mul_self (by omega) (by omega)
  omega
 refine chord_turn hd hA hB (hm.shape (by simpa using hf)) hu hw ?_ hQ
 have l1 : ∀ a b : Int, crs a b vu vw * it.dir = (64 - s) * (crs a b x.u x.w * it.dir) + s * (crs a b y.u y.w * it.dir) := fun a b => by rw [hvu, hvw]; unfold crs; grind
 have l2 : ∀ a b : Int, crs vu vw a b * it.dir = (64 - s) * (crs x.u x.w a b * it.dir) + s * (crs y.u y.w a b * it.dir) := fun a b => by rw [hvu, hvw]; unfold crs; grind
 have comb : ∀ p r : Int, 0 <= p -> 0 <= r -> 0 <= (64 - s) * p + s * r := fun p r h1 h2 => by
  have := Int.mul_nonneg (show 0 <= 64 - s by omega) h1
  have := Int.mul_nonneg hs.1 h2
  omega
 unfold SecPair at g
 unfold secP
 rw [l1, l2]
 by_cases c : 0 < crs (endS it it.fr).u (endS it it.fr).w (endS it it.to).u (endS it it.to).w * it.dir
 ·rw [if_pos c] at g ⊢
  exact ⟨comb _ _ g.1.1 g.2.1, comb _ _ g.1.2 g.2.2⟩
 ·rw [if_neg c] at g ⊢
  exact g.imp (fun g => comb _ _ g.1 g.2) (fun g => comb _ _ g.1 g.2)
theorem pairs_get {P : Spk -> Spk -> Prop} : ∀ {x : Spk} {l : List Spk}, pairsP P x l -> ∀ i (h : i < l.length), P ((x :: l)[i]'(by simp; omega)) (l[i])
 | _, _ :: _, h, 0, _ => h.1
 | _, y :: l, h, i + 1, hi => pairs_get (x := y) (l := l) h.2 i (by simpa using hi)
end Go.Bm
/- the laws ContourEnds and ContourGrows, over the models -/
set_option maxRecDepth 100000
namespace Go.Bm

end Go.Bm
/- the law ContourArc, over the models -/
set_option maxRecDepth 100000
namespace Go.Bm
open Classical

theorem a_Arc {MA MN MF : List AC -> Option (List AC)} {l : List (List AC)} {size : Int} (hN : NextOK l MN) (hF : MF [.view kInts l] = some [.view kInts l, I 0]) (hs : 1 <= size /\ size <= 100000)
  (hA : ∀ (p : Pt) (k : Nat), bd 100 p -> ∃ (it : Itm) (k' : Nat), MA [I p.x, I p.y, I p.z, I size, .view kInts l, I k] = some (itmR it ++ [.view kInts l, I k']) /\ it.fr = p /\ ArcMade size it) :
  ∃ it : Itm, mf_cncmill_Arc MA MN MF [.view kInts l, I size] = some (itmR it) /\ bd 100 it.fr /\ ArcMade size it := by
 obtain ⟨a, k1, n1, a1, a2, -⟩ := hN 0 (n := 200) (by omega)
 obtain ⟨b, k2, n2, b1, b2, -⟩ := hN k1 (n := 200) (by omega)
 obtain ⟨c, k3, n3, c1, c2, -⟩ := hN k2 (n := 200) (by omega)
 have hb : bd 100 ⟨a - 100, b - 100, c - 100⟩ := by unfold bd; simp only; omega
 obtain ⟨it, k', h1, h2, h3⟩ := hA ⟨a - 100, b - 100, c - 100⟩ k3 hb
 refine ⟨it, ?_, by rw [h2]; exact hb, h3⟩
 have hmx : mx size 1 = size := by unfold mx; split <;> omega
 rw [mf_cncmill_Arc_eq]
 simp only [itmR, List.cons_append, List.nil_append] at h1
 simp only [go_sem, hF, wrap_id (x := a - 100) (by omega), wrap_id (x := b - 100) (by omega), wrap_id (x := c - 100) (by omega), hmx, h1, show ((0 : Nat) : Int) = 0 from rfl] at n1 n2 n3 ⊢
 simp only [n1, n2, n3, go_sem, wrap_id (x := a - 100) (by omega), wrap_id (x := b - 100) (by omega), wrap_id (x := c - 100) (by omega), h1]
theorem s_Arc {l : List (List AC)} (hl : Src l) {size : Int} (hs : 1 <= size /\ size <= 100000) : ∃ it : Itm, m_cncmill_Arc [.view kInts l, I size] = some (itmR it) /\ bd 100 it.fr /\ ArcMade size it :=
 a_Arc (nextOK hl) (s_From l) hs fun p k hp => by
  obtain ⟨it, k', h1, -, h2, h3, -⟩ := s_arc hl (p := p) (bd_mono hp (by omega)) (size := size) (by omega) k
  exact ⟨it, k', h1, h2, h3⟩
end Go.Bm
/- what the library's division of two words by one gives; a quotient of two words; a b / sqrt n -/
set_option maxRecDepth 100000
namespace Go.Bm

theorem kn_more {a b v u q r : Nat} (hU : v < a * 4294967296 + b) (hu : u < 4294967296) (hq : v = q * a + r) (h : 4294967296 <= q \/ r * 4294967296 + u < q * b) : (v * 4294967296 + u) / (a * 4294967296 + b) < q := by
 have hy : 0 < a * 4294967296 + b := by omega
 rw [Nat.div_lt_iff_lt_mul hy]
 rcases h with h | h
 ·have h1 : 4294967296 * (a * 4294967296 + b) <= q * (a * 4294967296 + b) := Nat.mul_le_mul_right _ h
  omega
 ·have e : q * (a * 4294967296 + b) = q * a * 4294967296 + q * b := by rw [Nat.mul_add, Nat.mul_assoc]
  rw [e]
  clear e
  generalize q * a = p at *
  generalize q * b = t at *
  subst hq
  rw [Nat.add_mul p r 4294967296, Nat.add_assoc]
  exact Nat.add_lt_add_left h _
theorem kn_done {a b v u q r : Nat} (hU : v < a * 4294967296 + b) (hq : v = q * a + r) (h : q * b <= r * 4294967296 + u) : q <= (v * 4294967296 + u) / (a * 4294967296 + b) := by
 have hy : 0 < a * 4294967296 + b := by omega
 rw [Nat.le_div_iff_mul_le hy]
 have e : q * (a * 4294967296 + b) = q * a * 4294967296 + q * b := by rw [Nat.mul_add, Nat.mul_assoc]
 rw [e]
 generalize q * a = p at *
 generalize q * b = t at *
 omega
theorem kn_lt {a b v u : Nat} (hU : v < a * 4294967296 + b) (hu : u < 4294967296) : (v * 4294967296 + u) / (a * 4294967296 + b) < 4294967296 := by
 rw [Nat.div_lt_iff_lt_mul (by omega)]
 omega
theorem kn_mul {q b : Nat} (hq : q < 4294967296) (hb : b < 4294967296) : q * b <= 18446744065119617025 := by
 have := Nat.mul_le_mul (show q <= 4294967295 by omega) (show b <= 4294967295 by omega)
 omega
theorem kn_round {α : Type} {F G : Nat -> Nat -> Option α} {a b v u Q : Nat} (hQ : (v * 4294967296 + u) / (a * 4294967296 + b) = Q) (hb : b < 4294967296) (ha : 2147483648 <= a) (ha2 : a < 4294967296) (hU : v < a * 4294967296 + b) (hu : u < 4294967296) {X : α}
  (hF : ∀ q r : Nat, q <= 4294967297 -> r < 4294967296 -> F q r = if 4294967296 <= q \/ r * 4294967296 + u < q * b then (if 4294967296 <= r + a then G (q - 1) 0 else F (q - 1) (r + a)) else G q 0)
  (hG : G Q 0 = some X) : ∀ (k q r : Nat), q <= Q + k -> Q <= q -> v = q * a + r -> r < 4294967296 -> q <= 4294967297 -> F q r = some X
 | k, q, r, hk, h1, h2, h3, h4 => by
  rw [hF q r h4 h3]
  by_cases c : 4294967296 <= q \/ r * 4294967296 + u < q * b
  ·rw [if_pos c]
   have h5 := kn_more hU hu h2 c
   rw [hQ] at h5
   have e : v = (q - 1) * a + (r + a) := by
    have : (q - 1) * a + a = q * a := by rw [<- Nat.succ_mul]; congr 1; omega
    omega
   by_cases c2 : 4294967296 <= r + a
   ·rw [if_pos c2]
    have h6 : (q - 1) * b <= (r + a) * 4294967296 + u := by
     have := Nat.mul_le_mul (show q - 1 <= 4294967296 by omega) (show b <= 4294967296 by omega)
     omega
    have h7 := kn_done hU e h6
    rw [hQ] at h7
    rw [show q - 1 = Q by omega]
    exact hG
   ·rw [if_neg c2]
    match k with
    | 0 => omega
    | k + 1 => exact kn_round hQ hb ha ha2 hU hu hF hG k (q - 1) (r + a) (by omega) (by omega) e (by omega) (by omega)
  ·rw [if_neg c]
   have h7 := kn_done (u := u) hU h2 (by omega)
   rw [hQ] at h7
   rw [show q = Q by omega]
   exact hG
theorem kn_first {a b v u : Nat} (hb : b < 4294967296) (ha : 2147483648 <= a) (hU : v < a * 4294967296 + b) (hu : u < 4294967296) : (v * 4294967296 + u) / (a * 4294967296 + b) <= v / a /\ v / a <= 4294967297 /\ v = v / a * a + v % a /\ v % a < a := by
 have e : v = v / a * a + v % a := by have := Nat.div_add_mod v a; rw [Nat.mul_comm] at this; omega
 have hm : v % a < a := Nat.mod_lt _ (by omega)
 refine ⟨?_, ?_, e, hm⟩
 ·rw [<- Nat.lt_succ_iff, Nat.div_lt_iff_lt_mul (by omega)]
  have e2 : (v / a).succ * (a * 4294967296 + b) = (v / a * a + a) * 4294967296 + (v / a).succ * b := by rw [Nat.mul_add, <- Nat.mul_assoc, Nat.succ_mul]
  rw [e2]
  omega
 ·rw [<- Nat.lt_succ_iff, Nat.div_lt_iff_lt_mul (by omega)]
  omega
theorem wr {x : Nat} (h : x <= 18446744073709551615) : IntKind.u64.wrap (x : Int) = x := uwrap_id (by omega)
theorem l_dv17 {M : List AC -> Option (List AC)} {y s v0 : Int} {a b v u : Nat} (hb : b < 4294967296) (ha : 2147483648 <= a) (ha2 : a < 4294967296) (hU : v < a * 4294967296 + b) (hu : u < 4294967296) :
  loopC (st_bits_Div64_17 M) [U y, U s, U a, U b, U v, U u, U v0, U ((v / a : Nat) : Int), U ((v % a : Nat) : Int)] = some (1, [U y, U s, U a, U b, U v, U u, U v0, U (((v * 4294967296 + u) / (a * 4294967296 + b) : Nat) : Int)]) := by
 obtain ⟨f1, f2, f3, f4⟩ := kn_first hb ha hU hu
 refine kn_round (F := fun q r => loopC (st_bits_Div64_17 M) [U y, U s, U a, U b, U v, U u, U v0, U q, U r]) (G := fun q _ => some (1, [U y, U s, U a, U b, U v, U u, U v0, U q])) rfl hb ha ha2 hU hu ?_ rfl (v / a) _ _ (Nat.le_add_left _ _) f1 f3 (by omega) f2
 intro q r hq hr
 have w1 : IntKind.u64.wrap ((r : Int) + (a : Int)) = ((r + a : Nat) : Int) := by rw [<- Int.natCast_add, wr (by omega)]
 have w3 : IntKind.u64.wrap (IntKind.u64.wrap (4294967296 * (r : Int)) + (u : Int)) = ((r * 4294967296 + u : Nat) : Int) := by rw [show (4294967296 : Int) * r = ((r * 4294967296 : Nat) : Int) by omega, wr (by omega), <- Int.natCast_add, wr (by omega)]
 have w4 : 4294967296 <= q -> IntKind.u64.wrap ((q : Int) - 1) = ((q - 1 : Nat) : Int) := fun h => by rw [show (q : Int) - 1 = ((q - 1 : Nat) : Int) by omega, wr (by omega)]
 have hst := st_bits_Div64_17_eq (M_bits_LeadingZeros64 := M) y s a b v u v0 q r
 rw [w1, w3] at hst
 by_cases c1 : 4294967296 <= q
 ·rw [bif_pos (show (q : Int) >= 4294967296 by omega), w4 c1] at hst
  show _ = if _ then _ else _
  rw [if_pos (.inl c1)]
  by_cases c2 : 4294967296 <= r + a
  ·rw [bif_pos (show ((r + a : Nat) : Int) >= 4294967296 by omega)] at hst
   rw [if_pos c2]
   exact loop_end hst (by simp)
  ·rw [bif_neg (show ¬ ((r + a : Nat) : Int) >= 4294967296 by omega)] at hst
   rw [if_neg c2]
   exact loop_more hst
 ·have hqb := kn_mul (q := q) (b := b) (by omega) hb
  rw [bif_neg (show ¬ (q : Int) >= 4294967296 by omega), <- Int.natCast_mul, wr (Nat.le_trans hqb (by decide))] at hst
  show _ = if _ then _ else _
  by_cases c3 : r * 4294967296 + u < q * b
  ·rw [bif_pos (show ((q * b : Nat) : Int) > ((r * 4294967296 + u : Nat) : Int) by omega)] at hst
   rw [if_pos (.inr c3)]
   have hq0 : 0 < q := by
    rcases Nat.eq_zero_or_pos q with h | h
    ·rw [h] at c3; omega
    ·exact h
   rw [show (q : Int) - 1 = ((q - 1 : Nat) : Int) by omega, wr (by omega)] at hst
   by_cases c2 : 4294967296 <= r + a
   ·rw [bif_pos (show ((r + a : Nat) : Int) >= 4294967296 by omega)] at hst
    rw [if_pos c2]
    exact loop_end hst (by simp)
   ·rw [bif_neg (show ¬ ((r + a : Nat) : Int) >= 4294967296 by omega)] at hst
    rw [if_neg c2]
    exact loop_more hst
  ·rw [bif_neg (show ¬ ((q * b : Nat) : Int) > ((r * 4294967296 + u : Nat) : Int) by omega)] at hst
   rw [if_neg (fun h => h.elim c1 c3)]
   exact loop_end hst (by simp)
theorem l_dv24 {M : List AC -> Option (List AC)} {N : List AC -> Option (Nat × List AC)} {y s q1 w : Int} {a b v u : Nat} (hb : b < 4294967296) (ha : 2147483648 <= a) (ha2 : a < 4294967296) (hU : v < a * 4294967296 + b) (hu : u < 4294967296) :
  loopC (st_bits_Div64_24 M N) [U y, U s, U a, U b, U u, U q1, U ((v % a : Nat) : Int), U w, U ((v / a : Nat) : Int)] = some (1, [U y, U s, U u, U q1, U w, U (((v * 4294967296 + u) / (a * 4294967296 + b) : Nat) : Int)]) := by
 obtain ⟨f1, f2, f3, f4⟩ := kn_first hb ha hU hu
 refine kn_round (F := fun q r => loopC (st_bits_Div64_24 M N) [U y, U s, U a, U b, U u, U q1, U r, U w, U q]) (G := fun q _ => some (1, [U y, U s, U u, U q1, U w, U q])) rfl hb ha ha2 hU hu ?_ rfl (v / a) _ _ (Nat.le_add_left _ _) f1 f3 (by omega) f2
 intro q r hq hr
 have w1 : IntKind.u64.wrap ((r : Int) + (a : Int)) = ((r + a : Nat) : Int) := by rw [<- Int.natCast_add, wr (by omega)]
 have w3 : IntKind.u64.wrap (IntKind.u64.wrap (4294967296 * (r : Int)) + (u : Int)) = ((r * 4294967296 + u : Nat) : Int) := by rw [show (4294967296 : Int) * r = ((r * 4294967296 : Nat) : Int) by omega, wr (by omega), <- Int.natCast_add, wr (by omega)]
 have w4 : 4294967296 <= q -> IntKind.u64.wrap ((q : Int) - 1) = ((q - 1 : Nat) : Int) := fun h => by rw [show (q : Int) - 1 = ((q - 1 : Nat) : Int) by omega, wr (by omega)]
 have hst := st_bits_Div64_24_eq (M_bits_LeadingZeros64 := M) (N17 := N) y s a b u q1 r w q
 rw [w1, w3] at hst
 by_cases c1 : 4294967296 <= q
 ·rw [bif_pos (show (q : Int) >= 4294967296 by omega), w4 c1] at hst
  show _ = if _ then _ else _
  rw [if_pos (.inl c1)]
  by_cases c2 : 4294967296 <= r + a
  ·rw [bif_pos (show ((r + a : Nat) : Int) >= 4294967296 by omega)] at hst
   rw [if_pos c2]
   exact loop_end hst (by simp)
  ·rw [bif_neg (show ¬ ((r + a : Nat) : Int) >= 4294967296 by omega)] at hst
   rw [if_neg c2]
   exact loop_more hst
 ·have hqb := kn_mul (q := q) (b := b) (by omega) hb
  rw [bif_neg (show ¬ (q : Int) >= 4294967296 by omega), <- Int.natCast_mul, wr (Nat.le_trans hqb (by decide))] at hst
  show _ = if _ then _ else _
  by_cases c3 : r * 4294967296 + u < q * b
  ·rw [bif_pos (show ((q * b : Nat) : Int) > ((r * 4294967296 + u : Nat) : Int) by omega)] at hst
   rw [if_pos (.inr c3)]
   have hq0 : 0 < q := by
    rcases Nat.eq_zero_or_pos q with h | h
    ·rw [h] at c3; omega
    ·exact h
   rw [show (q : Int) - 1 = ((q - 1 : Nat) : Int) by omega, wr (by omega)] at hst
   by_cases c2 : 4294967296 <= r + a
   ·rw [bif_pos (show ((r + a : Nat) : Int) >= 4294967296 by omega)] at hst
    rw [if_pos c2]
    exact loop_end hst (by simp)
   ·rw [bif_neg (show ¬ ((r + a : Nat) : Int) >= 4294967296 by omega)] at hst
    rw [if_neg c2]
    exact loop_more hst
  ·rw [bif_neg (show ¬ ((q * b : Nat) : Int) > ((r * 4294967296 + u : Nat) : Int) by omega)] at hst
   rw [if_neg (fun h => h.elim c1 c3)]
   exact loop_end hst (by simp)
theorem pw_s {s : Nat} (hs : s <= 63) : (2 : Int) ^ min (Int.toNat (s : Int)) IntKind.u64.bits = ((2 ^ s : Nat) : Int) := by
 have e : min (Int.toNat (s : Int)) IntKind.u64.bits = s := by
  show min (Int.toNat (s : Int)) 64 = s
  omega
 rw [e]
 simp
theorem pw_t {s : Nat} (hs : s <= 63) : (2 : Int) ^ min (Int.toNat ((64 - s : Nat) : Int)) IntKind.u64.bits = ((2 ^ (64 - s) : Nat) : Int) := by
 have e : min (Int.toNat ((64 - s : Nat) : Int)) IntKind.u64.bits = 64 - s := by
  show min (Int.toNat ((64 - s : Nat) : Int)) 64 = 64 - s
  omega
 rw [e]
 simp
theorem fdivN (x y : Nat) : ((x : Int)).fdiv (y : Int) = ((x / y : Nat) : Int) := by
 rw [Int.fdiv_eq_ediv_of_nonneg _ (by omega)]; rfl
theorem tdivN (x y : Nat) : ((x : Int)).tdiv (y : Int) = ((x / y : Nat) : Int) := by
 rw [Int.tdiv_eq_ediv_of_nonneg (by omega)]; rfl
theorem orP {A B s : Nat} (hB : B < 2 ^ s) (h : A * 2 ^ s + B < w64) : IntKind.u64.wrap (((BitVec.ofInt IntKind.u64.bits ((A * 2 ^ s : Nat) : Int) ||| BitVec.ofInt IntKind.u64.bits (B : Int)).toNat : Nat) : Int) = ((A * 2 ^ s + B : Nat) : Int) := by
 rw [w64_eq] at h
 have e : (BitVec.ofInt IntKind.u64.bits ((A * 2 ^ s : Nat) : Int) ||| BitVec.ofInt IntKind.u64.bits (B : Int)).toNat = A * 2 ^ s + B := by
  rw [BitVec.toNat_or]
  have e1 : ∀ v : Nat, v < 18446744073709551616 -> (BitVec.ofInt IntKind.u64.bits (v : Int)).toNat = v := by
   intro v hv
   simp only [IntKind.bits, BitVec.toNat_ofInt]
   omega
  have := (Nat.two_pow_add_eq_or_of_lt hB A).symm
  rw [Nat.mul_comm] at this
  generalize A * 2 ^ s = X at *
  rw [e1 _ (by omega), e1 _ (by omega)]
  exact this
 rw [e, wr (by omega)]
theorem rest_w {v u q1 y : Nat} (hy : y < w64) (hq : q1 = (v * 4294967296 + u) / y) (hy0 : 0 < y) : IntKind.u64.wrap (IntKind.u64.wrap (IntKind.u64.wrap ((v : Int) * 4294967296) + (u : Int)) - IntKind.u64.wrap ((q1 : Int) * (y : Int))) = (((v * 4294967296 + u) % y : Nat) : Int) := by
 have h1 := Nat.div_add_mod (v * 4294967296 + u) y
 have h2 := Nat.mod_lt (v * 4294967296 + u) hy0
 rw [<- hq, Nat.mul_comm] at h1
 rw [w64_eq] at hy
 rw [uwrap_mod, uwrap_mod, uwrap_mod, uwrap_mod, <- Int.natCast_mul]
 generalize q1 * y = p at *
 generalize (v * 4294967296 + u) % y = r at *
 omega
theorem rest0 {v a : Nat} (ha : 0 < a) (hv : v < w64) : IntKind.u64.wrap ((v : Int) - IntKind.u64.wrap (IntKind.u64.wrap ((v / a : Nat) : Int) * (a : Int))) = ((v % a : Nat) : Int) := by
 have h1 := Nat.div_add_mod v a
 have h2 := Nat.mod_lt v ha
 have h3 := Nat.div_le_self v a
 rw [w64_eq] at hv
 rw [wr (x := v / a) (by omega), <- Int.natCast_mul]
 rw [Nat.mul_comm] at h1
 generalize v / a * a = p at *
 generalize v % a = r at *
 rw [wr (x := p) (by omega), show (v : Int) - (p : Int) = (r : Int) by omega, wr (by omega)]
theorem kn_both {v u1 u0 Y : Nat} (hY : 0 < Y) : (v * w64 + (u1 * 4294967296 + u0)) / Y = (v * 4294967296 + u1) / Y * 4294967296 + ((v * 4294967296 + u1) % Y * 4294967296 + u0) / Y /\
  (v * w64 + (u1 * 4294967296 + u0)) % Y = ((v * 4294967296 + u1) % Y * 4294967296 + u0) % Y := by
 have e : v * w64 + (u1 * 4294967296 + u0) = ((v * 4294967296 + u1) % Y * 4294967296 + u0) + (v * 4294967296 + u1) / Y * 4294967296 * Y := by
  have h := Nat.div_add_mod (v * 4294967296 + u1) Y
  rw [Nat.mul_comm] at h
  rw [w64_eq]
  generalize (v * 4294967296 + u1) % Y = r at *
  have e2 : (v * 4294967296 + u1) / Y * 4294967296 * Y = (v * 4294967296 + u1) / Y * Y * 4294967296 := by rw [Nat.mul_assoc, Nat.mul_comm 4294967296, <- Nat.mul_assoc]
  rw [e2]
  generalize (v * 4294967296 + u1) / Y * Y = p at *
  omega
 rw [e, Nat.add_mul_div_right _ _ hY, Nat.add_mul_mod_self_right]
 exact ⟨Nat.add_comm _ _, rfl⟩
theorem a_bits_Div64 {M : List AC -> Option (List AC)} {hi lo y s : Nat} (h0 : 0 < hi) (h1 : hi < y) (hyw : y < w64) (hlo : lo < w64) (hs : s <= 63) (h2 : 9223372036854775808 <= y * 2 ^ s) (h3 : y * 2 ^ s < w64) (hM : M [U y] = some [I s]) :
  mf_bits_Div64 M (loopC (st_bits_Div64_17 M)) (loopC (st_bits_Div64_24 M (loopC (st_bits_Div64_17 M)))) [U hi, U lo, U y] = some [U (((hi * w64 + lo) / y : Nat) : Int), U (((hi * w64 + lo) % y : Nat) : Int)] := by
 have hP : 0 < 2 ^ s := Nat.two_pow_pos _
 have hPT : 2 ^ s * 2 ^ (64 - s) = w64 := by rw [w64_eq, <- Nat.pow_add, show s + (64 - s) = 64 by omega]
 have hT : 0 < 2 ^ (64 - s) := Nat.two_pow_pos _
 have es : IntKind.u64.wrap (s : Int) = s := wr (by omega)
 have et : IntKind.u64.wrap (64 - (s : Int)) = ((64 - s : Nat) : Int) := by rw [show (64 : Int) - s = ((64 - s : Nat) : Int) by omega, wr (by omega)]
 have hB : lo / 2 ^ (64 - s) < 2 ^ s := by rw [Nat.div_lt_iff_lt_mul hT, hPT]; exact hlo
 have hv : hi * 2 ^ s + lo / 2 ^ (64 - s) < y * 2 ^ s := by
  have : hi * 2 ^ s + 2 ^ s <= y * 2 ^ s := by rw [<- Nat.succ_mul]; exact Nat.mul_le_mul_right _ h1
  omega
 -- the whole, moved
 have hN : (hi * w64 + lo) * 2 ^ s = (hi * 2 ^ s + lo / 2 ^ (64 - s)) * w64 + lo * 2 ^ s % w64 := by
  have e1 : lo * 2 ^ s / w64 = lo / 2 ^ (64 - s) := by
   rw [<- hPT, Nat.mul_comm lo, Nat.mul_div_mul_left _ _ hP]
  have e2 := Nat.div_add_mod (lo * 2 ^ s) w64
  rw [e1] at e2
  rw [Nat.add_mul, Nat.add_mul, Nat.add_assoc, Nat.mul_comm (lo / 2 ^ (64 - s)), e2]
  congr 1
  rw [Nat.mul_assoc, Nat.mul_comm w64, Nat.mul_assoc]
 have hU : lo * 2 ^ s % w64 < w64 := Nat.mod_lt _ w64_pos
 have ey : IntKind.u64.wrap ((y : Int) * ((2 ^ s : Nat) : Int)) = ((y * 2 ^ s : Nat) : Int) := by rw [<- Int.natCast_mul, wr (Nat.le_of_lt_succ (by rw [w64_eq] at h3; exact h3))]
 have eh : IntKind.u64.wrap ((hi : Int) * ((2 ^ s : Nat) : Int)) = ((hi * 2 ^ s : Nat) : Int) := by
  rw [<- Int.natCast_mul, wr (Nat.le_of_lt_succ (by have := Nat.mul_lt_mul_of_pos_right h1 hP; rw [w64_eq] at h3; exact Nat.lt_trans this h3))]
 have el : IntKind.u64.wrap ((lo : Int) * ((2 ^ s : Nat) : Int)) = ((lo * 2 ^ s % w64 : Nat) : Int) := by
  rw [<- Int.natCast_mul, uwrap_mod, w64_eq]; rfl
 have eo := orP (A := hi) (B := lo / 2 ^ (64 - s)) (s := s) hB (by omega)
 have hq : (hi * w64 + lo) / y = (hi * w64 + lo) * 2 ^ s / (y * 2 ^ s) := (Nat.mul_div_mul_right _ _ hP).symm
 have hr : (hi * w64 + lo) % y = (hi * w64 + lo) * 2 ^ s % (y * 2 ^ s) / 2 ^ s := by rw [Nat.mul_mod_mul_right, Nat.mul_div_cancel _ hP]
 rw [hq, hr, hN]
 rw [mf_bits_Div64_eq]
 simp only [hM, Option.bind_some, nth_zero', nth_1, nth_2, nth_3, nth_4, nth_5, nth_6, nth_7, intOf_int, gA, jA, wA, bA, es, et, pw_s hs, pw_t hs, ey, eh, el, fdivN, eo]
 rw [bif_false (by simp; omega), bif_neg (show ¬ (y : Int) <= hi by omega), bif_false (by simp; omega), bif_neg (show ¬ (s : Int) < 0 by omega), bif_neg (show ¬ (s : Int) < 0 by omega), bif_neg (show ¬ ((64 - s : Nat) : Int) < 0 by omega), bif_neg (show ¬ (s : Int) < 0 by omega)]
 rw [shr32, and32 _ h3, shr32, and32 _ hU]
 have hY : y * 2 ^ s = y * 2 ^ s / 4294967296 * 4294967296 + y * 2 ^ s % 4294967296 := by omega
 have hW : lo * 2 ^ s % w64 = lo * 2 ^ s % w64 / 4294967296 * 4294967296 + lo * 2 ^ s % w64 % 4294967296 := by omega
 have hb : y * 2 ^ s % 4294967296 < 4294967296 := Nat.mod_lt _ (by omega)
 have hu0 : lo * 2 ^ s % w64 % 4294967296 < 4294967296 := Nat.mod_lt _ (by omega)
 have hu1 : lo * 2 ^ s % w64 / 4294967296 < 4294967296 := by rw [w64_eq] at hU ⊢; omega
 have ha : 2147483648 <= y * 2 ^ s / 4294967296 := by omega
 have ha2 : y * 2 ^ s / 4294967296 < 4294967296 := by rw [w64_eq] at h3; omega
 clear hN hq hr eh el eo ey hB
 generalize hi * 2 ^ s + lo / 2 ^ (64 - s) = v at *
 generalize lo * 2 ^ s % w64 = w at *
 generalize y * 2 ^ s = Y at *
 generalize w / 4294967296 = u1 at *
 generalize w % 4294967296 = u0 at *
 generalize Y / 4294967296 = a at *
 generalize Y % 4294967296 = b at *
 subst hW
 rw [bif_neg (show ¬ (a : Int) = 0 by omega), tdivN, rest0 (by omega) (Nat.lt_trans hv h3), wr (x := v / a) (by have := Nat.div_le_self v a; rw [w64_eq] at h3; omega)]
 have hl := l_dv17 (M := M) (y := (Y : Int)) (s := s) (v0 := u0) hb ha ha2 (by rw [<- hY]; exact hv) hu1
 rw [hl]
 rw [<- hY]
 have hY0 : 0 < Y := by omega
 have hr1 := rest_w (v := v) (u := u1) (y := Y) h3 rfl hY0
 have hq1 : (v * 4294967296 + u1) / Y < 4294967296 := by rw [hY]; exact kn_lt (by rw [<- hY]; exact hv) hu1
 have hm1 := Nat.mod_lt (v * 4294967296 + u1) hY0
 obtain ⟨k1, k2⟩ := kn_both (v := v) (u1 := u1) (u0 := u0) hY0
 rw [k1, k2]
 clear hl k1 k2
 obtain ⟨q1, g1⟩ : ∃ q1, (v * 4294967296 + u1) / Y = q1 := ⟨_, rfl⟩
 obtain ⟨r1, g2⟩ : ∃ r1, (v * 4294967296 + u1) % Y = r1 := ⟨_, rfl⟩
 rw [g1] at hr1 hq1 ⊢
 rw [g2] at hr1 hm1 ⊢
 simp only [Option.bind_some, nth_zero', nth_1, nth_2, nth_3, nth_4, nth_5, nth_6, nth_7, intOf_int, hr1]
 rw [show Nat.beq 1 1 = true from rfl, cond_true, bif_neg (show ¬ (a : Int) = 0 by omega), tdivN, rest0 (by omega) (Nat.lt_trans hm1 h3), wr (x := r1 / a) (by have := Nat.div_le_self r1 a; rw [w64_eq] at h3; omega)]
 have hl2 := l_dv24 (M := M) (N := loopC (st_bits_Div64_17 M)) (y := (Y : Int)) (s := s) (q1 := q1) (w := r1) hb ha ha2 (by rw [<- hY]; exact hm1) hu0
 rw [hl2]
 rw [<- hY]
 have hr0 := rest_w (v := r1) (u := u0) (y := Y) h3 rfl hY0
 have hq0 : (r1 * 4294967296 + u0) / Y < 4294967296 := by rw [hY]; exact kn_lt (by rw [<- hY]; exact hm1) hu0
 obtain ⟨q0, g3⟩ : ∃ q0, (r1 * 4294967296 + u0) / Y = q0 := ⟨_, rfl⟩
 obtain ⟨r0, g4⟩ : ∃ r0, (r1 * 4294967296 + u0) % Y = r0 := ⟨_, rfl⟩
 rw [g3] at hr0 hq0 ⊢
 rw [g4] at hr0 ⊢
 simp only [Option.bind_some, nth_zero', nth_1, nth_2, nth_3, nth_4, nth_5, intOf_int, hr0]
 rw [show Nat.beq 1 1 = true from rfl, cond_true, bif_neg (show ¬ (s : Int) < 0 by omega), pw_s hs, fdivN]
 have w1 : IntKind.u64.wrap (IntKind.u64.wrap ((q1 : Int) * 4294967296) + (q0 : Int)) = ((q1 * 4294967296 + q0 : Nat) : Int) := by
  rw [show (q1 : Int) * 4294967296 = ((q1 * 4294967296 : Nat) : Int) by omega, wr (by omega), <- Int.natCast_add, wr (by omega)]
 rw [w1]
theorem s_LeadingZeros {y : Nat} (h0 : 0 < y) (h : y < w64) : ∃ s : Nat, m_bits_LeadingZeros64 [U y] = some [I s] /\ s <= 63 /\ 9223372036854775808 <= y * 2 ^ s /\ y * 2 ^ s < w64 := by
 have hw := w64_eq
 obtain ⟨b1, b2, b3⟩ := Lib.bitLenAux_bounds 64 y (by rw [<- show w64 = 2 ^ 64 by rw [hw]]; exact h) (by omega)
 have hL : Lib.bitLen y = Lib.bitLenAux 64 y := rfl
 generalize hb : Lib.bitLenAux 64 y = L at *
 have hL64 : L <= 64 := by
  by_cases c : L <= 64
  ·exact c
  ·have := Nat.pow_le_pow_right (show 0 < 2 by omega) (show 64 <= L - 1 by omega)
   rw [show (2 : Nat) ^ 64 = 18446744073709551616 from rfl] at this
   omega
 refine ⟨64 - L, ?_, by omega, ?_, ?_⟩
 ·unfold m_bits_LeadingZeros64
  have e64 : two64 = 18446744073709551616 := rfl
  have hu : inU (y : Int) = true := by
   simp only [inU, e64, Bool.and_eq_true, decide_eq_true_eq]
   omega
  simp only [nth_zero', intOf_int, gA, jA, wA, bA, hu, cond_true, Int.toNat_natCast, hL]
  rw [show (64 : Int) - (L : Int) = ((64 - L : Nat) : Int) by omega]
 ·have e : 2 ^ (L - 1) * 2 ^ (64 - L) = 9223372036854775808 := by rw [<- Nat.pow_add, show L - 1 + (64 - L) = 63 by omega]
  rw [<- e]
  exact Nat.mul_le_mul_right _ b2
 ·have e : 2 ^ L * 2 ^ (64 - L) = w64 := by rw [<- Nat.pow_add, show L + (64 - L) = 64 by omega, hw]
  rw [<- e]
  exact Nat.mul_lt_mul_of_pos_right b3 (Nat.two_pow_pos _)
theorem s_bits_Div64 {hi lo y : Nat} (h1 : hi < y) (hy : y < w64) (hlo : lo < w64) : m_bits_Div64 [U hi, U lo, U y] = some [U (((hi * w64 + lo) / y : Nat) : Int), U (((hi * w64 + lo) % y : Nat) : Int)] := by
 rcases Nat.eq_zero_or_pos hi with h | h
 ·subst h
  rw [Nat.zero_mul, Nat.zero_add]
  exact s_bits_Div64_0 hlo h1
 ·obtain ⟨s, e, e1, e2, e3⟩ := s_LeadingZeros (show 0 < y by omega) hy
  exact a_bits_Div64 h h1 hy hlo e1 e2 e3 e
end Go.Bm
