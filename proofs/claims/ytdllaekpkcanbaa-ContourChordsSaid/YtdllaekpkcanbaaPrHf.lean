/- laid together -/
import Derived.Test.YtdllaekpkcanbaaPrGi
import Derived.Test.YtdllaekpkcanbaaPrG
import Derived.Test.YtdllaekpkcanbaaMx4
set_option linter.unusedVariables false
set_option linter.unusedSimpArgs false
/- the middle of a piece of an arc lies between its ends: spokes -/
set_option maxRecDepth 100000
namespace Go.Bm
open Classical

theorem sp_mid {x y : Spk} (hx : Sp x) (hy : Sp y) {u w : Int} (hu : u.natAbs <= 100000000) (hw : w.natAbs <= 100000000) (h0 : ¬ (u = 0 /\ w = 0)) : Sp (midOf x y u w) /\ midOf x y u w = ⟨nearR u (hf x.r y.r) (sq2 u w), nearR w (hf x.r y.r) (sq2 u w), hf x.r y.r, hf x.h y.h⟩ := by
 have hok := midOf_ok hx.ok hy.ok hu hw
 have e : midOf x y u w = ⟨nearR u (hf x.r y.r) (sq2 u w), nearR w (hf x.r y.r) (sq2 u w), hf x.r y.r, hf x.h y.h⟩ := if_neg h0
 have hr : 128 <= hf x.r y.r /\ hf x.r y.r <= 50000000 := by
  have := hx.r; have := hy.r; have := hx.ok.2.2.1; have := hy.ok.2.2.1
  unfold hf; omega
 rw [e] at hok ⊢
 exact ⟨⟨hok, hr.1, near_norm hu hw (R := hf x.r y.r) ⟨by omega, hr.2⟩ h0⟩, rfl⟩
theorem poly_a {p : Int} (hp : 128 <= p) : (4 * p) * (7 * p) < 2 * p * ((p - 1) * (p - 1)) := by
 have h1 : 0 < p * (p * p - 16 * p + 1) := by
  refine Int.mul_pos (by omega) ?_
  have : 128 * p <= p * p := Int.mul_le_mul_of_nonneg_right hp (by omega)
  omega
 have e1 : 2 * p * ((p - 1) * (p - 1)) - (4 * p) * (7 * p) = 2 * (p * (p * p - 16 * p + 1)) := by grind
 omega
theorem sq_add_le {x y p c A B : Int} (hA : A <= (x + 1) * (x + 1)) (hB : B <= (y + 1) * (y + 1)) (hx : 0 <= x /\ x + 1 <= p + c) (hy : 0 <= y /\ y + 1 <= p + c) : 2 * (A + B) <= (2 * (p + c)) * (2 * (p + c)) := by
 have h1 : (x + 1) * (x + 1) <= (p + c) * (p + c) := Int.mul_self_le_mul_self (by omega) hx.2
 have h2 : (y + 1) * (y + 1) <= (p + c) * (p + c) := Int.mul_self_le_mul_self (by omega) hy.2
 have e : (2 * (p + c)) * (2 * (p + c)) = 4 * ((p + c) * (p + c)) := by grind
 omega
theorem diff_le {x y p A B : Int} (hA : A <= (x + 1) * (x + 1)) (hB : (y - 1) * (y - 1) <= B) (h1 : x + y <= 2 * p + 33) (h0 : 0 <= x + y) (h2 : x - y <= 33) : A - B <= (2 * p + 33) * 35 := by
 have e : (x + 1) * (x + 1) - (y - 1) * (y - 1) = (x + y) * (x - y + 2) := by grind
 have k1 : (x + y) * (x - y + 2) <= (x + y) * 35 := Int.mul_le_mul_of_nonneg_left (by omega) h0
 omega
theorem mn_cases (a b : Int) : (mn a b = a /\ a <= b) \/ (mn a b = b /\ b <= a) := by unfold mn; split <;> omega
theorem est_a {p R S n C : Int} (hp : 128 <= p) (hR : p <= R /\ R <= p + 64) (hS : 0 <= S /\ S <= 2 * (p + 65)) (hn : 0 <= n /\ n <= 2 * (p + 65)) (hC : (p - 1) * (p - 1) <= C) : n * (S + 2 * R + 1) < 2 * R * C := by
 have k : n * (S + 2 * R + 1) <= (4 * p) * (7 * p) := Int.mul_le_mul (by omega) (by omega) (by omega) (by omega)
 have k2 : 2 * p * ((p - 1) * (p - 1)) <= 2 * R * C := Int.mul_le_mul (by omega) hC (sq_nn _) (by omega)
 have := poly_a hp
 omega
theorem est_b {p R S n C : Int} (hp : 128 <= p) (hR : p <= R /\ R <= p + 33) (hS : 0 <= S /\ S <= 2 * (p + 34)) (hn : 0 <= n /\ n <= 2 * (p + 34)) (hC : 9 * p < C) : n * (S + 2 * R + 1) < 2 * R * C := by
 have k : n * (S + 2 * R + 1) <= (3 * p) * (6 * p) := Int.mul_le_mul (by omega) (by omega) (by omega) (by omega)
 have k2 : 2 * p * (9 * p + 1) <= 2 * R * C := Int.mul_le_mul (by omega) (by omega) (by omega) (by omega)
 have e1 : 2 * p * (9 * p + 1) = (3 * p) * (6 * p) + 2 * p := by grind
 omega
theorem comp_sum {u w M : Int} (hM : 0 <= M) (h : sq2 u w <= M * M) : 0 <= (u.natAbs : Int) + w.natAbs /\ (u.natAbs : Int) + w.natAbs <= 2 * M := by
 have := comp_le hM h
 omega
structure Rad (x y : Spk) (c p : Int) : Prop where
 m : mn x.r y.r = p /\ 128 <= p
 R : p <= hf x.r y.r /\ hf x.r y.r <= p + c
 R5 : 1 <= hf x.r y.r /\ hf x.r y.r <= 50000000
 A : (p - 1) * (p - 1) <= sq2 x.u x.w /\ (p - 1) * (p - 1) <= sq2 y.u y.w
 S : 2 * (sq2 x.u x.w + sq2 y.u y.w) <= (2 * (p + (c + 1))) * (2 * (p + (c + 1)))
 cx : 0 <= (x.u.natAbs : Int) + x.w.natAbs /\ (x.u.natAbs : Int) + x.w.natAbs <= 2 * (p + (c + 1))
 cy : 0 <= (y.u.natAbs : Int) + y.w.natAbs /\ (y.u.natAbs : Int) + y.w.natAbs <= 2 * (p + (c + 1))
 d : x.r + y.r <= 2 * p + c /\ 0 <= x.r + y.r /\ x.r - y.r <= c /\ y.r - x.r <= c
theorem radii {x y : Spk} (hx : Sp x) (hy : Sp y) {c : Int} (h : ((x.r - y.r).natAbs : Int) <= c) : Rad x y c (mn x.r y.r) := by
 obtain ⟨nx1, nx2⟩ := hx.norm
 obtain ⟨ny1, ny2⟩ := hy.norm
 have hrx := hx.r
 have hry := hy.r
 have ux := hx.ok.2.2.1
 have uy := hy.ok.2.2.1
 have hpm := mn_cases x.r y.r
 generalize hp : mn x.r y.r = p at *
 have k1 := comp_sum (M := x.r + 1) (by omega) nx2
 have k2 := comp_sum (M := y.r + 1) (by omega) ny2
 have k3 := sq_add_le (p := p) (c := c + 1) nx2 ny2 (by omega) (by omega)
 have k4 : (p - 1) * (p - 1) <= sq2 x.u x.w := Int.le_trans (Int.mul_self_le_mul_self (by omega) (by omega)) nx1
 have k5 : (p - 1) * (p - 1) <= sq2 y.u y.w := Int.le_trans (Int.mul_self_le_mul_self (by omega) (by omega)) ny1
 refine ⟨⟨hp, by omega⟩, ?_, ?_, ⟨k4, k5⟩, k3, ⟨k1.1, by omega⟩, ⟨k2.1, by omega⟩, by omega⟩
 ·unfold hf; omega
 ·unfold hf; omega
theorem eq_D (x y : Spk) : sq2 (x.u - y.u) (x.w - y.w) = sq2 x.u x.w + sq2 y.u y.w - 2 * dt2 x.u x.w y.u y.w := by unfold sq2 dt2; grind
theorem eq_S (x y : Spk) : sq2 (x.u + y.u) (x.w + y.w) = sq2 x.u x.w + sq2 y.u y.w + 2 * dt2 x.u x.w y.u y.w := by unfold sq2 dt2; grind
theorem eq_L (x y : Spk) {dir : Int} (hd : dir * dir = 1) : (crs x.u x.w y.u y.w * dir) * (crs x.u x.w y.u y.w * dir) + dt2 x.u x.w y.u y.w * dt2 x.u x.w y.u y.w = sq2 x.u x.w * sq2 y.u y.w := by
 have : (crs x.u x.w y.u y.w * dir) * (crs x.u x.w y.u y.w * dir) = crs x.u x.w y.u y.w * crs x.u x.w y.u y.w * (dir * dir) := by grind
 rw [this, hd]; unfold sq2 dt2 crs; grind
theorem sq2_ge0 (u w : Int) : 0 <= sq2 u w := by have := sq_nn u; have := sq_nn w; unfold sq2; omega
theorem dir_sq {dir : Int} (hd : dir = 1 \/ dir = -1) : dir * dir = 1 := by rcases hd with rfl | rfl <;> rfl
theorem root_bd {u w : Int} (hu : u.natAbs <= 100000000) (hw : w.natAbs <= 100000000) : ∃ S : Int, 0 <= S /\ S * S <= sq2 u w /\ sq2 u w < (S + 1) * (S + 1) := by
 have q1 := sq_bd hu
 have q2 := sq_bd hw
 exact root_ex ⟨sq2_ge0 _ _, by unfold sq2; omega⟩
theorem crs_dir (a b c d dir : Int) : crs a b c d * dir = crs c d a b * -dir := by unfold crs; grind
theorem bd_a {x y : Spk} (hx : okS x) (hy : okS y) {dir : Int} (hd : dir = 1 \/ dir = -1) : (dir * (y.w - x.w)).natAbs <= 100000000 /\ (dir * (x.u - y.u)).natAbs <= 100000000 := by
 have := hx.1; have := hx.2.1; have := hy.1; have := hy.2.1
 rcases hd with rfl | rfl <;> omega
theorem bd_b {x y : Spk} (hx : okS x) (hy : okS y) : (x.u + y.u).natAbs <= 100000000 /\ (x.w + y.w).natAbs <= 100000000 := by
 have := hx.1; have := hx.2.1; have := hy.1; have := hy.2.1
 omega
abbrev midOK (x y : Spk) (dir : Int) (m : Spk) : Prop := Sp m /\ m.r = hf x.r y.r /\ m.h = hf x.h y.h /\ 0 < crs x.u x.w m.u m.w * dir /\ 0 < crs m.u m.w y.u y.w * dir
theorem mid_core {x y : Spk} {dir u w S C C2 : Int} (hd : dir = 1 \/ dir = -1) (hx : Sp x) (hy : Sp y) (hu : u.natAbs <= 100000000) (hw : w.natAbs <= 100000000) (hR5 : 1 <= hf x.r y.r /\ hf x.r y.r <= 50000000) (h0 : ¬ (u = 0 /\ w = 0)) (hS : 0 <= S /\ S * S <= sq2 u w /\ sq2 u w < (S + 1) * (S + 1))
  (eC : crs x.u x.w u w * dir = C) (eC2 : crs y.u y.w u w * -dir = C2) (h1 : ((x.u.natAbs : Int) + x.w.natAbs) * (S + 2 * hf x.r y.r + 1) < 2 * hf x.r y.r * C) (h2 : ((y.u.natAbs : Int) + y.w.natAbs) * (S + 2 * hf x.r y.r + 1) < 2 * hf x.r y.r * C2) : midOK x y dir (midOf x y u w) := by
 obtain ⟨s1, s2⟩ := sp_mid hx hy hu hw h0
 have t1 := side (p := x.u) (q := x.w) hd hu hw hR5 h0 hS (by rw [eC]; exact h1)
 have t2 := side (p := y.u) (q := y.w) (dir := -dir) (by omega) hu hw hR5 h0 hS (by rw [eC2]; exact h2)
 refine ⟨s1, by rw [s2], by rw [s2], by rw [s2]; exact t1, ?_⟩
 rw [s2, crs_dir]
 exact t2
theorem mid_across {x y : Spk} {dir : Int} (hd : dir = 1 \/ dir = -1) (hx : Sp x) (hy : Sp y) (h64 : ((x.r - y.r).natAbs : Int) <= 64) (h : dt2 x.u x.w y.u y.w <= 0) : midOK x y dir (midS x y dir false) := by
 have hr := radii hx hy h64
 have hdd := dir_sq hd
 have eM : midD x y dir false = (dir * (y.w - x.w), dir * (x.u - y.u)) := by
  unfold midD
  rw [if_neg (by simp), if_neg (fun g => absurd h (Int.not_le.2 g.1)), if_neg (fun g => absurd h (Int.not_le.2 g))]
 unfold midS
 rw [eM]
 simp only
 have eN : sq2 (dir * (y.w - x.w)) (dir * (x.u - y.u)) = sq2 (x.u - y.u) (x.w - y.w) := by
  have : sq2 (dir * (y.w - x.w)) (dir * (x.u - y.u)) = dir * dir * sq2 (x.u - y.u) (x.w - y.w) := by unfold sq2; grind
  rw [this, hdd, Int.one_mul]
 have eC : crs x.u x.w (dir * (y.w - x.w)) (dir * (x.u - y.u)) * dir = sq2 x.u x.w - dt2 x.u x.w y.u y.w := by
  have : crs x.u x.w (dir * (y.w - x.w)) (dir * (x.u - y.u)) * dir = dir * dir * (sq2 x.u x.w - dt2 x.u x.w y.u y.w) := by unfold crs sq2 dt2; grind
  rw [this, hdd, Int.one_mul]
 have eC2 : crs y.u y.w (dir * (y.w - x.w)) (dir * (x.u - y.u)) * -dir = sq2 y.u y.w - dt2 x.u x.w y.u y.w := by
  have : crs y.u y.w (dir * (y.w - x.w)) (dir * (x.u - y.u)) * -dir = dir * dir * (sq2 y.u y.w - dt2 x.u x.w y.u y.w) := by unfold crs sq2 dt2; grind
  rw [this, hdd, Int.one_mul]
 obtain ⟨hu, hw⟩ := bd_a hx.ok hy.ok hd
 have nS := sq2_ge0 (x.u + y.u) (x.w + y.w)
 rw [eq_S] at nS
 rw [eq_D] at eN
 have hA := hr.A
 have hp := hr.m.2
 have hR := hr.R
 have hsum : 2 * (sq2 x.u x.w + sq2 y.u y.w) <= (2 * (mn x.r y.r + 65)) * (2 * (mn x.r y.r + 65)) := hr.S
 have hcx := hr.cx
 have hcy := hr.cy
 have hR5 := hr.R5
 clear hr h64 hdd
 generalize mn x.r y.r = p at *
 have h0 : ¬ (dir * (y.w - x.w) = 0 /\ dir * (x.u - y.u) = 0) := by
  rintro ⟨g1, g2⟩
  rw [g1, g2] at eC
  have e0 : crs x.u x.w 0 0 * dir = 0 := by unfold crs; simp
  rw [e0] at eC
  have : 0 < (p - 1) * (p - 1) := Int.mul_pos (by omega) (by omega)
  omega
 obtain ⟨S, r1, r2, r3⟩ := root_bd hu hw
 have hS : S <= 2 * (p + 65) := le_of_sq (by omega) (by omega)
 exact mid_core hd hx hy hu hw hR5 h0 ⟨r1, r2, r3⟩ eC eC2 (est_a hp hR ⟨r1, hS⟩ hcx (by omega)) (est_a hp hR ⟨r1, hS⟩ hcy (by omega))
theorem mid_along {x y : Spk} {dir : Int} (hd : dir = 1 \/ dir = -1) (hx : Sp x) (hy : Sp y) (h1 : 0 < dt2 x.u x.w y.u y.w) (h2 : 0 < crs x.u x.w y.u y.w * dir) (h3 : ((x.r - y.r).natAbs : Int) <= 33) (h4 : 32 * mn x.r y.r - 64 < sq2 (x.u - y.u) (x.w - y.w)) : midOK x y dir (midS x y dir false) := by
 have hr := radii hx hy h3
 have hdd := dir_sq hd
 have eM : midD x y dir false = (x.u + y.u, x.w + y.w) := by
  unfold midD
  rw [if_neg (by simp), if_pos ⟨h1, h2⟩]
 unfold midS
 rw [eM]
 simp only
 have eC : crs x.u x.w (x.u + y.u) (x.w + y.w) * dir = crs x.u x.w y.u y.w * dir := by unfold crs; grind
 have eC2 : crs y.u y.w (x.u + y.u) (x.w + y.w) * -dir = crs x.u x.w y.u y.w * dir := by unfold crs; grind
 obtain ⟨hu, hw⟩ := bd_b hx.ok hy.ok
 have nx := hx.norm
 have ny := hy.norm
 have hdl := hr.d
 have d1 := diff_le (p := mn x.r y.r) nx.2 ny.1 hdl.1 hdl.2.1 hdl.2.2.1
 have d2 := diff_le (p := mn x.r y.r) ny.2 nx.1 (by rw [Int.add_comm]; exact hdl.1) (by rw [Int.add_comm]; exact hdl.2.1) hdl.2.2.2
 have hsin := cut_sine (p := mn x.r y.r) (eq_D x y) (eq_L x y hdd) h1 hr.m.2 hr.A.1 hr.A.2 h4 ⟨by omega, d1⟩ h2
 have nD := sq2_ge0 (x.u - y.u) (x.w - y.w)
 have eS := eq_S x y
 rw [eq_D] at nD
 have hp := hr.m.2
 have hR := hr.R
 have hsum : 2 * (sq2 x.u x.w + sq2 y.u y.w) <= (2 * (mn x.r y.r + 34)) * (2 * (mn x.r y.r + 34)) := hr.S
 have hcx := hr.cx
 have hcy := hr.cy
 have hR5 := hr.R5
 clear hr h3 hdd d1 d2 nx ny hdl h4
 generalize mn x.r y.r = p at *
 have h0 : ¬ (x.u + y.u = 0 /\ x.w + y.w = 0) := by
  rintro ⟨g1, g2⟩
  rw [g1, g2] at eC
  have e0 : crs x.u x.w 0 0 * dir = 0 := by unfold crs; simp
  rw [e0] at eC
  omega
 obtain ⟨S, r1, r2, r3⟩ := root_bd hu hw
 have hS : S <= 2 * (p + 34) := le_of_sq (by omega) (by omega)
 exact mid_core hd hx hy hu hw hR5 h0 ⟨r1, r2, r3⟩ eC eC2 (est_b hp hR ⟨r1, hS⟩ hcx hsin) (est_b hp hR ⟨r1, hS⟩ hcy hsin)
end Go.Bm
/- what the maker makes can be drawn -/
set_option maxRecDepth 100000
namespace Go.Bm

theorem rot_cases (r k : Int) : (rotU r k = r /\ rotW r k = 0) \/ (rotU r k = 0 /\ rotW r k = r) \/ (rotU r k = -r /\ rotW r k = 0) \/ (rotU r k = 0 /\ rotW r k = -r) := by
 have hc : k % 4 = 0 \/ k % 4 = 1 \/ k % 4 = 2 \/ k % 4 = 3 := by omega
 unfold rotU rotW
 rcases hc with h | h | h | h <;> simp [h]
theorem rot_sq (r k : Int) : sq2 (rotU r k) (rotW r k) = r * r := by
 unfold sq2
 rcases rot_cases r k with ⟨h1, h2⟩ | ⟨h1, h2⟩ | ⟨h1, h2⟩ | ⟨h1, h2⟩ <;> rw [h1, h2] <;> grind
theorem rot_turn {p q k t : Int} (ht : t = 1 \/ t = 2 \/ t = 3) (hp : 0 < p) (hq : 0 < q) : crs (rotU p k) (rotW p k) (rotU q (k + t)) (rotW q (k + t)) ≠ 0 \/ dt2 (rotU p k) (rotW p k) (rotU q (k + t)) (rotW q (k + t)) < 0 := by
 have hc : k % 4 = 0 \/ k % 4 = 1 \/ k % 4 = 2 \/ k % 4 = 3 := by omega
 have hpq : 0 < p * q := Int.mul_pos hp hq
 have hm : -p * q = -(p * q) /\ p * -q = -(p * q) /\ -p * -q = p * q := ⟨Int.neg_mul .., Int.mul_neg .., Int.neg_mul_neg ..⟩
 have e : ∀ j : Int, (k + t) % 4 = j -> ∀ i : Int, k % 4 = i -> crs (rotU p k) (rotW p k) (rotU q (k + t)) (rotW q (k + t)) = (if i = 0 then p else if i = 2 then -p else 0) * (if j = 1 then q else if j = 3 then -q else 0) - (if i = 1 then p else if i = 3 then -p else 0) * (if j = 0 then q else if j = 2 then -q else 0) /\
   dt2 (rotU p k) (rotW p k) (rotU q (k + t)) (rotW q (k + t)) = (if i = 0 then p else if i = 2 then -p else 0) * (if j = 0 then q else if j = 2 then -q else 0) + (if i = 1 then p else if i = 3 then -p else 0) * (if j = 1 then q else if j = 3 then -q else 0) := by
  intro j hj i hi
  subst hj hi
  exact ⟨rfl, rfl⟩
 rcases ht with rfl | rfl | rfl <;> rcases hc with h1 | h1 | h1 | h1
 ·obtain ⟨e1, e2⟩ := e 1 (by omega) _ h1
  simp at e1 e2; omega
 ·obtain ⟨e1, e2⟩ := e 2 (by omega) _ h1
  simp at e1 e2; omega
 ·obtain ⟨e1, e2⟩ := e 3 (by omega) _ h1
  simp at e1 e2; omega
 ·obtain ⟨e1, e2⟩ := e 0 (by omega) _ h1
  simp at e1 e2; omega
 ·obtain ⟨e1, e2⟩ := e 2 (by omega) _ h1
  simp at e1 e2; omega
 ·obtain ⟨e1, e2⟩ := e 3 (by omega) _ h1
  simp at e1 e2; omega
 ·obtain ⟨e1, e2⟩ := e 0 (by omega) _ h1
  simp at e1 e2; omega
 ·obtain ⟨e1, e2⟩ := e 1 (by omega) _ h1
  simp at e1 e2; omega
 ·obtain ⟨e1, e2⟩ := e 3 (by omega) _ h1
  simp at e1 e2; omega
 ·obtain ⟨e1, e2⟩ := e 0 (by omega) _ h1
  simp at e1 e2; omega
 ·obtain ⟨e1, e2⟩ := e 1 (by omega) _ h1
  simp at e1 e2; omega
 ·obtain ⟨e1, e2⟩ := e 2 (by omega) _ h1
  simp at e1 e2; omega
theorem arc_turn {size : Int} {it : Itm} (h : ArcMade size it) : turnOK it := by
 obtain ⟨r, k, t, g, x, h1, h2, h3, h4, h5, h6, h7, h8, h9, h10, h11, h12, h13⟩ := h.ends
 have hp := h.plane
 have a1 : dU it it.fr = rotU r k := by unfold dU; rw [h12, (pl_sp hp).1]; omega
 have a2 : dW it it.fr = rotW r k := by unfold dW; rw [h12, (pl_sp hp).2.1]; omega
 have a3 : dU it it.to = rotU (r + g) (k + t) := by unfold dU; rw [h12, h13, (pl_sp hp).1, (pl_sp hp).1]; omega
 have a4 : dW it it.to = rotW (r + g) (k + t) := by unfold dW; rw [h12, h13, (pl_sp hp).2.1, (pl_sp hp).2.1]; omega
 have q1 : qA it = r * r := by unfold qA; rw [a1, a2, rot_sq]
 have q2 : qB it = (r + g) * (r + g) := by unfold qB; rw [a3, a4, rot_sq]
 have m1 : 64 <= r * r := by
  have := Int.mul_le_mul h1 h1 (by omega) (by omega)
  omega
 have m2 : 64 <= (r + g) * (r + g) := by
  have := Int.mul_le_mul (show (8 : Int) <= r + g by omega) (show (8 : Int) <= r + g by omega) (by omega) (by omega)
  omega
 unfold turnOK
 refine ⟨by omega, by omega, ?_, ?_, ?_⟩
 ·rw [q1, q2]
  unfold nearQ
  right
  have hg : g * g <= 16 := by
   have := Int.mul_le_mul h8 h8 h7 (by omega)
   omega
  have e1 : r * r + (r + g) * (r + g) - 16 = 2 * (r * (r + g)) + (g * g - 16) := by grind
  have hpos : 0 <= r * (r + g) := Int.mul_nonneg (by omega) (by omega)
  have hge : 64 <= r * (r + g) := by
   have := Int.mul_le_mul h1 (show (8 : Int) <= r + g by omega) (by omega) (by omega)
   omega
  have hgg : 0 <= g * g := Int.mul_nonneg h7 h7
  have e2 : 4 * (r * r) * ((r + g) * (r + g)) = (2 * (r * (r + g))) * (2 * (r * (r + g))) := by grind
  rw [e1, e2]
  generalize 2 * (r * (r + g)) = m at *
  exact Int.mul_self_le_mul_self (by omega) (by omega)
 ·intro hf
  rw [h11] at hf
  have ht := of_decide_eq_true hf
  rw [a1, a2, a3, a4, ht, h10 ht, Int.add_zero, Int.add_zero]
  exact ⟨rfl, rfl⟩
 ·intro hf
  rw [h11] at hf
  have ht := of_decide_eq_false hf
  unfold cAB dAB
  rw [a1, a2, a3, a4]
  exact rot_turn (by omega) (by omega) (by omega)
end Go.Bm
/- the programmed speed of a motion -/
set_option maxRecDepth 100000
namespace Go.Bm
end Go.Bm
/- the reference's points of a motion -/
set_option maxRecDepth 100000
namespace Go.Bm

def it0 : Itm := ⟨0, 0, ⟨0, 0, 0⟩, ⟨0, 0, 0⟩, 0, ⟨0, 0, 0⟩, 0, false, 0, false, 0, 0, 0, 0, 0, false⟩
def itA (items : List Itm) (i : Nat) : Itm := items.getD i it0
def motI (it : Itm) : Prop := 1 <= it.kind /\ it.kind <= 6
def smI (it : Itm) : Prop := it.kind = 2 /\ it.fr ≠ it.to
def syI (it : Itm) : Prop := it.kind = 5 \/ it.kind = 6
instance (it : Itm) : Decidable (motI it) := by unfold motI; infer_instance
instance (it : Itm) : Decidable (smI it) := by unfold smI; infer_instance
instance (it : Itm) : Decidable (syI it) := by unfold syI; infer_instance
def drawn (it : Itm) : Prop := validI it /\ 0 <= it.blend /\ it.blend <= 1000
def frmOK (items : List Itm) (i : Nat) (frm : Int) : Prop := frm = -1 \/ ∃ f : Nat, frm = f /\ f < items.length /\ drawn (itA items f)
end Go.Bm
/- the reference's path of a list of items -/
set_option maxRecDepth 100000
namespace Go.Bm
open Classical

structure BSt where
 segs : List Sgm
 marks : List Mrk
 (len speed frm : Int)
 begun : Bool
 (start at_ : Pt)
structure BOK (items : List Itm) (i : Nat) (s : BSt) : Prop where
 segs : s.segs.length <= i * 65537
 marks : s.marks.length = i
 len : 0 <= s.len /\ s.len <= i * 65537 * 268435456
 speed : 0 <= s.speed /\ s.speed <= 30000
 frm : frmOK items i s.frm
 at_ : s.begun = true -> bd 67108864 s.at_
end Go.Bm
/- the maker's lists of items of all kinds -/
set_option maxRecDepth 100000
namespace Go.Bm
open Classical

structure Oth (it : Itm) : Prop where
 kind : 7 <= it.kind /\ it.kind <= 14
 spin : it.kind = 8 -> 3 <= it.n /\ it.n <= 5 /\ 0 <= it.speed /\ it.speed <= 4000
 dwell : it.kind = 7 -> 0 <= it.n /\ it.n <= 4
 out : it.kind = 10 -> 0 <= it.n /\ it.n <= 15
def Link : Pt -> List Itm -> Prop
 | _, [] => True
 | p, it :: l => if motI it then it.fr = p /\ Link it.to l else Link p l
structure Items (A : Nat) (p : Pt) (l : List Itm) : Prop where
 link : Link p l
 made : ∀ it ∈ l, (motI it /\ Made it /\ blank it /\ bd A it.fr /\ bd A it.to) \/ Oth it
end Go.Bm
/- the vertices of an arc's chords lie on the arc -/
set_option maxRecDepth 100000
namespace Go.Bm
open Classical

theorem pluck (xu xw mu mw qu qw yu yw dir : Int) : (crs qu qw yu yw * dir) * (crs xu xw mu mw * dir) = (crs qu qw mu mw * dir) * (crs xu xw yu yw * dir) + (crs xu xw qu qw * dir) * (crs mu mw yu yw * dir) := by unfold crs; grind
theorem pluck2 (xu xw mu mw qu qw yu yw dir : Int) : (crs xu xw qu qw * dir) * (crs mu mw yu yw * dir) = (crs xu xw mu mw * dir) * (crs qu qw yu yw * dir) + (crs xu xw yu yw * dir) * (crs mu mw qu qw * dir) := by unfold crs; grind
theorem nn_of_mul {a b : Int} (hb : 0 < b) (h : 0 <= a * b) : 0 <= a := by
 by_cases c : 0 <= a
 ·exact c
 ·have := Int.mul_neg_of_neg_of_pos (show a < 0 by omega) hb
  omega
structure Btw (x y q : Spk) : Prop where
 sp : Sp q
 r : mn x.r y.r <= q.r /\ q.r <= mx x.r y.r
 h : mn x.h y.h <= q.h /\ q.h <= mx x.h y.h
theorem btw_right {x y : Spk} (hy : Sp y) : Btw x y y := ⟨hy, by unfold mn mx; split <;> split <;> omega, by unfold mn mx; split <;> split <;> omega⟩
theorem btw_left {x y : Spk} (hx : Sp x) : Btw x y x := ⟨hx, by unfold mn mx; split <;> split <;> omega, by unfold mn mx; split <;> split <;> omega⟩
theorem hf_btw (a b : Int) : mn a b <= hf a b /\ hf a b <= mx a b := by unfold hf mn mx; split <;> split <;> omega
theorem btw_l {x m y q : Spk} (hr : m.r = hf x.r y.r) (hh : m.h = hf x.h y.h) (h : Btw x m q) : Btw x y q := by
 have h1 := hf_btw x.r y.r
 have h2 := hf_btw x.h y.h
 rw [<- hr] at h1
 rw [<- hh] at h2
 obtain ⟨s, r, hq⟩ := h
 refine ⟨s, ?_, ?_⟩
 ·unfold mn mx at *; split at * <;> split at * <;> split at * <;> omega
 ·unfold mn mx at *; split at * <;> split at * <;> split at * <;> omega
theorem btw_r {x m y q : Spk} (hr : m.r = hf x.r y.r) (hh : m.h = hf x.h y.h) (h : Btw m y q) : Btw x y q := by
 have h1 := hf_btw x.r y.r
 have h2 := hf_btw x.h y.h
 rw [<- hr] at h1
 rw [<- hh] at h2
 obtain ⟨s, r, hq⟩ := h
 refine ⟨s, ?_, ?_⟩
 ·unfold mn mx at *; split at * <;> split at * <;> split at * <;> omega
 ·unfold mn mx at *; split at * <;> split at * <;> split at * <;> omega
theorem half_d {x m y : Spk} (hr : m.r = hf x.r y.r) (h : ((x.r - y.r).natAbs : Int) <= 64) : ((x.r - m.r).natAbs : Int) <= 33 /\ ((m.r - y.r).natAbs : Int) <= 33 := by
 rw [hr]; unfold hf; omega
theorem cone_in {dir : Int} (hd : dir = 1 \/ dir = -1) : ∀ (k : Nat) {x y : Spk}, Sp x -> Sp y -> 0 < crs x.u x.w y.u y.w * dir -> (((x.r - y.r).natAbs : Int) <= 33 \/ (((x.r - y.r).natAbs : Int) <= 64 /\ dt2 x.u x.w y.u y.w <= 0)) ->
  ∀ q ∈ pcsL dir k false x y, Btw x y q /\ 0 <= crs x.u x.w q.u q.w * dir /\ 0 <= crs q.u q.w y.u y.w * dir
 | 0, x, y, _, hy, hX, _, q, hq => by
  unfold pcsL at hq
  rw [List.mem_singleton] at hq
  subst hq
  exact ⟨btw_right hy, by omega, by unfold crs; grind⟩
 | k + 1, x, y, hx, hy, hX, hD, q, hq => by
  unfold pcsL at hq
  by_cases c : setS x y dir false
  ·rw [if_pos c, List.mem_singleton] at hq
   subst hq
   exact ⟨btw_right hy, by omega, by unfold crs; grind⟩
  ·rw [if_neg c] at hq
   have h64 : ((x.r - y.r).natAbs : Int) <= 64 := by rcases hD with h | h <;> omega
   have hm : midOK x y dir (midS x y dir false) := by
    by_cases hdt : dt2 x.u x.w y.u y.w <= 0
    ·exact mid_across hd hx hy h64 hdt
    ·have h33 := hD.resolve_right (fun h => hdt h.2)
     refine mid_along hd hx hy (by omega) hX h33 ?_
     have : ¬ sq2 (x.u - y.u) (x.w - y.w) <= 32 * mn x.r y.r - 64 := fun h => c ⟨rfl, hX, h⟩
     omega
   obtain ⟨m1, m2, m3, m4, m5⟩ := hm
   generalize midS x y dir false = m at *
   obtain ⟨d1, d2⟩ := half_d m2 h64
   rcases List.mem_append.1 hq with hq | hq
   ·obtain ⟨g1, g2, g3⟩ := cone_in hd k hx m1 m4 (.inl d1) q hq
    refine ⟨btw_l m2 m3 g1, g2, nn_of_mul m4 ?_⟩
    rw [pluck]
    have a1 := Int.mul_nonneg g3 (Int.le_of_lt hX)
    have a2 := Int.mul_nonneg g2 (Int.le_of_lt m5)
    omega
   ·obtain ⟨g1, g2, g3⟩ := cone_in hd k m1 hy m5 (.inl d2) q hq
    refine ⟨btw_r m2 m3 g1, nn_of_mul m5 ?_, g3⟩
    rw [pluck2]
    have a1 := Int.mul_nonneg (Int.le_of_lt m4) g3
    have a2 := Int.mul_nonneg (Int.le_of_lt hX) g2
    omega
theorem wide_in {dir : Int} (hd : dir = 1 \/ dir = -1) (k : Nat) {x y : Spk} (hx : Sp x) (hy : Sp y) (h64 : ((x.r - y.r).natAbs : Int) <= 64) (hdt : dt2 x.u x.w y.u y.w <= 0) :
  ∀ q ∈ pcsL dir (k + 1) false x y, Btw x y q /\ passedP x.u x.w y.u y.w q.u q.w dir := by
 intro q hq
 by_cases hX : 0 < crs x.u x.w y.u y.w * dir
 ·obtain ⟨g1, g2, g3⟩ := cone_in hd (k + 1) hx hy hX (.inr ⟨h64, hdt⟩) q hq
  refine ⟨g1, ?_⟩
  unfold passedP
  rw [if_pos hX]
  exact ⟨g2, g3⟩
 ·unfold pcsL at hq
  rw [if_neg (fun c : setS x y dir false => hX c.2.1)] at hq
  obtain ⟨m1, m2, m3, m4, m5⟩ := mid_across hd hx hy h64 hdt
  generalize midS x y dir false = m at *
  obtain ⟨d1, d2⟩ := half_d m2 h64
  have key : Btw x y q /\ (0 <= crs x.u x.w q.u q.w * dir \/ 0 <= crs q.u q.w y.u y.w * dir) := by
   rcases List.mem_append.1 hq with hq | hq
   ·obtain ⟨g1, g2, g3⟩ := cone_in hd k hx m1 m4 (.inl d1) q hq
    exact ⟨btw_l m2 m3 g1, .inl g2⟩
   ·obtain ⟨g1, g2, g3⟩ := cone_in hd k m1 hy m5 (.inl d2) q hq
    exact ⟨btw_r m2 m3 g1, .inr g3⟩
  refine ⟨key.1, ?_⟩
  have k2 := key.2
  have e1 : crs y.u y.w q.u q.w = -crs q.u q.w y.u y.w := crs_swap _ _ _ _
  have e2 : crs q.u q.w x.u x.w = -crs x.u x.w q.u q.w := crs_swap _ _ _ _
  unfold passedP
  rw [if_neg hX]
  by_cases c : crs x.u x.w y.u y.w * dir = 0 /\ dt2 x.u x.w y.u y.w < 0
  ·rw [if_pos c]
   rcases k2 with k2 | k2
   ·exact k2
   ·have c0 : crs x.u x.w y.u y.w = 0 := by have := c.1; rcases hd with rfl | rfl <;> omega
    have i2 := id_dot y.u y.w x.u x.w q.u q.w
    rw [crs_swap x.u x.w y.u y.w, c0, e1, e2] at i2
    have hq2 : 0 < sq2 y.u y.w := by
     have := hy.norm.1
     have := hy.r
     have : 0 < (y.r - 1) * (y.r - 1) := Int.mul_pos (by omega) (by omega)
     omega
    have e3 : dt2 y.u y.w x.u x.w = dt2 x.u x.w y.u y.w := by unfold dt2; grind
    rw [e3] at i2
    refine nn_of_mul hq2 ?_
    have e4 : crs x.u x.w q.u q.w * dir * sq2 y.u y.w = -((crs q.u q.w y.u y.w * dir) * dt2 x.u x.w y.u y.w) := by
     have : crs x.u x.w q.u q.w * dir * sq2 y.u y.w = -(sq2 y.u y.w * -crs x.u x.w q.u q.w * dir) := by grind
     rw [this, <- i2]; grind
    rw [e4]
    have := Int.mul_nonpos_of_nonneg_of_nonpos k2 hdt
    omega
  ·rw [if_neg c]
   rcases k2 with k2 | k2
   ·right; rw [e2]; rw [Int.neg_mul]; omega
   ·left; rw [e1]; rw [Int.neg_mul]; omega
theorem near_exact {u R : Int} (hu : u.natAbs <= 100000000) (hR : 1 <= R /\ R <= 50000000) (hq : u * u <= R * R) : nearR u R (R * R) = u := by
 have hn : 0 < R * R := Int.mul_pos (by omega) (by omega)
 have hn2 : R * R <= 50000000 * 50000000 := Int.mul_self_le_mul_self (by omega) hR.2
 obtain ⟨j, e, h1, h2, h3⟩ := near_facts hu ⟨by omega, hR.2⟩ ⟨hn, by omega⟩ hq
 have k1 : (j : Int) <= u.natAbs := by
  rcases h1 with h1 | h1
  ·omega
  ·have : (2 * (j : Int) - 1) * R <= 2 * (u.natAbs * R) := by
    refine le_of_sq (Int.mul_nonneg (by omega) (Int.mul_nonneg (by omega) (by omega))) (Int.le_trans (Int.le_of_eq ?_) h1)
    grind
   have e3 : 2 * ((u.natAbs : Int) * R) = 2 * (u.natAbs : Int) * R := by grind
   rw [e3] at this
   have := Int.le_of_mul_le_mul_right this (by omega)
   omega
 have k2 : (u.natAbs : Int) <= j := by
  have : 2 * ((u.natAbs : Int) * R) <= (2 * (j : Int) + 1) * R := by
   refine le_of_sq (Int.mul_nonneg (by omega) (by omega)) (Int.le_trans h2 (Int.le_of_eq ?_))
   grind
  have e3 : 2 * ((u.natAbs : Int) * R) = 2 * (u.natAbs : Int) * R := by grind
  rw [e3] at this
  have := Int.le_of_mul_le_mul_right this (by omega)
  omega
 rw [e]
 split <;> omega
theorem full_in {dir : Int} (hd : dir = 1 \/ dir = -1) (k : Nat) {x y : Spk} (hx : Sp x) (hy : Sp y) (hu : y.u = x.u /\ y.w = x.w) (hr : y.r = x.r) (he : sq2 x.u x.w = x.r * x.r) :
  ∀ q ∈ pcsL dir (k + 2) true x y, Btw x y q := by
 intro q hq
 rw [pcsL] at hq
 rw [if_neg (fun c : setS x y dir true => by cases c.1)] at hq
 have hrx := hx.r
 have hpos : 0 < x.r * x.r := Int.mul_pos (by omega) (by omega)
 have h0 : ¬ (-x.u = 0 /\ -x.w = 0) := by
  rintro ⟨g1, g2⟩
  have a1 : x.u = 0 := by omega
  have a2 : x.w = 0 := by omega
  rw [a1, a2] at he
  unfold sq2 at he
  omega
 have hb := hx.ok
 obtain ⟨s1, s2⟩ := sp_mid hx hy (u := -x.u) (w := -x.w) (by have := hb.1; omega) (by have := hb.2.1; omega) h0
 have eN : sq2 (-x.u) (-x.w) = x.r * x.r := by rw [<- he]; unfold sq2; grind
 obtain ⟨q1, q2⟩ := sq2_sq (-x.u) (-x.w)
 rw [eN] at q1 q2
 have hhf : hf x.r y.r = x.r := by rw [hr]; unfold hf; omega
 have n1 := near_exact (u := -x.u) (R := x.r) (by have := hb.1; omega) ⟨by omega, hb.2.2.1.2⟩ q1
 have n2 := near_exact (u := -x.w) (R := x.r) (by have := hb.2.1; omega) ⟨by omega, hb.2.2.1.2⟩ q2
 rw [hhf, eN, n1, n2] at s2
 have eM : midS x y dir true = midOf x y (-x.u) (-x.w) := by
  unfold midS midD
  rw [if_pos rfl]
 rw [eM] at hq
 generalize midOf x y (-x.u) (-x.w) = m at *
 have mr : m.r = hf x.r y.r := by rw [s2, hhf]
 have mh : m.h = hf x.h y.h := by rw [s2]
 have hdt : dt2 x.u x.w m.u m.w <= 0 := by
  have : dt2 x.u x.w m.u m.w = -(x.r * x.r) := by rw [s2, <- he]; unfold dt2 sq2; grind
  omega
 have hdt2 : dt2 m.u m.w y.u y.w <= 0 := by
  have : dt2 m.u m.w y.u y.w = -(x.r * x.r) := by rw [s2, <- he, hu.1, hu.2]; unfold dt2 sq2; grind
  omega
 rcases List.mem_append.1 hq with hq | hq
 ·exact btw_l mr mh (wide_in hd k hx s1 (by rw [mr, hhf]; omega) hdt q hq).1
 ·exact btw_r mr mh (wide_in hd k s1 hy (by rw [mr, hhf, hr]; omega) hdt2 q hq).1
end Go.Bm
/- every vertex of the chords of an arc that the laws make lies on the arc, but for 2 -/
set_option maxRecDepth 100000
namespace Go.Bm
open Classical

theorem midR_sq {R : Int} (h : 0 < R) : midR (R * R) = R := by
 refine midR_of ⟨by omega, ?_, .inr ?_⟩
 ·have : R * (R + 1) = R * R + R := by grind
  omega
 ·have : (R - 1) * R = R * R - R := by grind
  omega
theorem rot_dot {r s k t : Int} (hr : 0 <= r) (hs : 0 <= s) (hk : 0 <= k /\ k <= 3) (ht : 1 <= t /\ t <= 3) : dt2 (rotU r k) (rotW r k) (rotU s (k + t)) (rotW s (k + t)) <= 0 := by
 have hp := Int.mul_nonneg hr hs
 have hk' : k = 0 \/ k = 1 \/ k = 2 \/ k = 3 := by omega
 have ht' : t = 1 \/ t = 2 \/ t = 3 := by omega
 rcases hk' with rfl | rfl | rfl | rfl <;> rcases ht' with rfl | rfl | rfl <;> simp [dt2, rotU, rotW, Int.mul_neg, Int.neg_mul] <;> omega
structure ArcEnds (it : Itm) (R0 R1 : Int) : Prop where
 a : Sp (endS it it.fr)
 b : Sp (endS it it.to)
 ra : (endS it it.fr).r = R0 /\ sq2 (endS it it.fr).u (endS it it.fr).w = R0 * R0
 rb : (endS it it.to).r = R1 /\ sq2 (endS it it.to).u (endS it it.to).w = R1 * R1
 le : 128 <= R0 /\ R0 <= R1 /\ R1 <= R0 + 64
 full : it.full = true -> (endS it it.to).u = (endS it it.fr).u /\ (endS it it.to).w = (endS it it.fr).w /\ R1 = R0
 part : it.full = false -> dt2 (endS it it.fr).u (endS it it.fr).w (endS it it.to).u (endS it it.to).w <= 0
theorem arc_ends {size : Int} {it : Itm} (h : ArcMade size it) (hv : validI it) : ∃ R0 R1, ArcEnds it R0 R1 := by
 obtain ⟨r, k, t, g, x, h1, h2, h3, h4, h5, h6, h7, h8, h9, h10, h11, h12, h13⟩ := h.ends
 have hp := h.plane
 have a1 : dU it it.fr = rotU r k := by unfold dU; rw [h12, (pl_sp hp).1]; omega
 have a2 : dW it it.fr = rotW r k := by unfold dW; rw [h12, (pl_sp hp).2.1]; omega
 have a3 : dU it it.to = rotU (r + g) (k + t) := by unfold dU; rw [h12, h13, (pl_sp hp).1, (pl_sp hp).1]; omega
 have a4 : dW it it.to = rotW (r + g) (k + t) := by unfold dW; rw [h12, h13, (pl_sp hp).2.1, (pl_sp hp).2.1]; omega
 have e1 : sq2 (dU it it.fr * 16) (dW it it.fr * 16) = (16 * r) * (16 * r) := by
  have : sq2 (dU it it.fr * 16) (dW it it.fr * 16) = 256 * sq2 (dU it it.fr) (dW it it.fr) := by unfold sq2; grind
  rw [this, a1, a2, rot_sq]; grind
 have e2 : sq2 (dU it it.to * 16) (dW it it.to * 16) = (16 * (r + g)) * (16 * (r + g)) := by
  have : sq2 (dU it it.to * 16) (dW it it.to * 16) = 256 * sq2 (dU it it.to) (dW it it.to) := by unfold sq2; grind
  rw [this, a3, a4, rot_sq]; grind
 have m1 : (endS it it.fr).r = 16 * r := by unfold endS; simp only; rw [e1, midR_sq (by omega)]
 have m2 : (endS it it.to).r = 16 * (r + g) := by unfold endS; simp only; rw [e2, midR_sq (by omega)]
 obtain ⟨-, v1, v2, v3⟩ := hv
 obtain ⟨-, -, v6, -⟩ := v3 h.kind
 have o1 := endS_ok v6 v1
 have o2 := endS_ok v6 v2
 have nrm : ∀ R : Int, 128 <= R -> (R - 1) * (R - 1) <= R * R /\ R * R <= (R + 1) * (R + 1) := fun R hR => ⟨Int.mul_self_le_mul_self (by omega) (by omega), Int.mul_self_le_mul_self (by omega) (by omega)⟩
 refine ⟨16 * r, 16 * (r + g), ⟨o1, by omega, ?_⟩, ⟨o2, by omega, ?_⟩, ⟨m1, e1⟩, ⟨m2, e2⟩, by omega, ?_, ?_⟩
 ·rw [m1]; show _ <= sq2 (dU it it.fr * 16) (dW it it.fr * 16) /\ sq2 (dU it it.fr * 16) (dW it it.fr * 16) <= _
  rw [e1]; exact nrm _ (by omega)
 ·rw [m2]; show _ <= sq2 (dU it it.to * 16) (dW it it.to * 16) /\ sq2 (dU it it.to * 16) (dW it it.to * 16) <= _
  rw [e2]; exact nrm _ (by omega)
 ·intro hf
  rw [h11] at hf
  have ht := of_decide_eq_true hf
  have hg := h10 ht
  show dU it it.to * 16 = dU it it.fr * 16 /\ dW it it.to * 16 = dW it it.fr * 16 /\ _
  rw [a1, a2, a3, a4, ht, hg, Int.add_zero, Int.add_zero]
  exact ⟨rfl, rfl, rfl⟩
 ·intro hf
  rw [h11] at hf
  have ht := of_decide_eq_false hf
  show dt2 (dU it it.fr * 16) (dW it it.fr * 16) (dU it it.to * 16) (dW it it.to * 16) <= 0
  have e3 : dt2 (dU it it.fr * 16) (dW it it.fr * 16) (dU it it.to * 16) (dW it it.to * 16) = 256 * dt2 (dU it it.fr) (dW it it.fr) (dU it it.to) (dW it it.to) := by unfold dt2; grind
  have := rot_dot (r := r) (s := r + g) (k := k) (t := t) (by omega) (by omega) ⟨h3, h4⟩ (by omega)
  rw [e3, a1, a2, a3, a4]
  omega
theorem spokes_in {it : Itm} {R0 R1 : Int} (hd : it.dir = 1 \/ it.dir = -1) (h : ArcEnds it R0 R1) : ∀ q ∈ spokesP it, Btw (endS it it.fr) (endS it it.to) q /\ (it.full = true \/ passedP (endS it it.fr).u (endS it it.fr).w (endS it it.to).u (endS it it.to).w q.u q.w it.dir) := by
 intro q hq
 have hle := h.le
 unfold spokesP at hq
 have hra := h.ra
 have hrb := h.rb
 generalize ha : endS it it.fr = a at *
 generalize hb : endS it it.to = b at *
 rcases List.mem_cons.1 hq with hq | hq
 ·subst hq
  refine ⟨btw_left (ha ▸ h.a), ?_⟩
  by_cases hf : it.full = true
  ·exact .inl hf
  ·right
   have z : crs q.u q.w q.u q.w = 0 := by unfold crs; grind
   have hdt := h.part (by simpa using hf)
   rw [ha, hb] at hdt
   unfold passedP
   rw [z]
   by_cases c1 : crs q.u q.w b.u b.w * it.dir > 0
   ·rw [if_pos c1]; exact ⟨by simp, by omega⟩
   ·rw [if_neg c1]
    by_cases c2 : crs q.u q.w b.u b.w * it.dir = 0 /\ dt2 q.u q.w b.u b.w < 0
    ·rw [if_pos c2]; simp
    ·rw [if_neg c2]; right; simp
 ·by_cases hf : it.full = true
  ·rw [hf] at hq
   have g := h.full hf
   rw [ha, hb] at g
   exact ⟨full_in hd 14 (ha ▸ h.a) (hb ▸ h.b) ⟨g.1, g.2.1⟩ (by rw [hrb.1, hra.1, g.2.2]) (by rw [hra.2, hra.1]) q hq, .inl hf⟩
  ·have hf' : it.full = false := by simpa using hf
   rw [hf'] at hq
   have hdt := h.part hf'
   rw [ha, hb] at hdt
   obtain ⟨g1, g2⟩ := wide_in hd 15 (ha ▸ h.a) (hb ▸ h.b) (by rw [hra.1, hrb.1]; omega) hdt q hq
   exact ⟨g1, .inr g2⟩
theorem above_in {R0 R1 R Q : Int} (h0 : 128 <= R0 /\ R0 <= R1) (hR : R0 <= R /\ R <= R1) (h : (R - 1) * (R - 1) <= Q /\ Q <= (R + 1) * (R + 1)) : aboveP (R0 * R0) Q 2 /\ aboveP Q (R1 * R1) 2 := by
 have k1 : (R0 - 1) * (R0 - 1) <= Q := Int.le_trans (Int.mul_self_le_mul_self (by omega) (by omega)) h.1
 have k2 : Q <= (R1 + 1) * (R1 + 1) := Int.le_trans h.2 (Int.mul_self_le_mul_self (by omega) (by omega))
 have e1 : (R0 - 1) * (R0 - 1) = R0 * R0 - 2 * R0 + 1 := by grind
 have e2 : (R1 + 1) * (R1 + 1) = R1 * R1 + 2 * R1 + 1 := by grind
 unfold aboveP
 constructor
 ·by_cases c : R0 * R0 - Q - 2 * 2 <= 0
  ·exact .inl c
  ·right
   have := Int.mul_self_le_mul_self (show 0 <= R0 * R0 - Q - 2 * 2 by omega) (show R0 * R0 - Q - 2 * 2 <= 2 * (R0 - 1) by omega)
   have e3 : 2 * (R0 - 1) * (2 * (R0 - 1)) = 4 * ((R0 - 1) * (R0 - 1)) := by grind
   have n := sq_nn (R0 - 1)
   omega
 ·by_cases c : Q - R1 * R1 - 2 * 2 <= 0
  ·exact .inl c
  ·right
   have := Int.mul_self_le_mul_self (show 0 <= Q - R1 * R1 - 2 * 2 by omega) (show Q - R1 * R1 - 2 * 2 <= 2 * R1 by omega)
   have e3 : 2 * R1 * (2 * R1) = 4 * (R1 * R1) := by grind
   have n := sq_nn R1
   omega
theorem vertex_on {it : Itm} {R0 R1 : Int} (hp : isPl it.plane) (hd : it.dir = 1 \/ it.dir = -1) (h : ArcEnds it R0 R1) {s : Spk} (hs : s ∈ spokesP it) : onArcP it (chPt it s) 2 := by
 obtain ⟨hb, hps⟩ := spokes_in hd h s hs
 have hle := h.le
 have hra := h.ra
 have hrb := h.rb
 have pe1 : pU it (fine it.fr) = (endS it it.fr).u := by show _ = dU it it.fr * 16; unfold pU dU; rw [(pl_fine _ _).1, (pl_fine _ _).1]; omega
 have pe2 : pW it (fine it.fr) = (endS it it.fr).w := by show _ = dW it it.fr * 16; unfold pW dW; rw [(pl_fine _ _).2.1, (pl_fine _ _).2.1]; omega
 have pe3 : pU it (fine it.to) = (endS it it.to).u := by show _ = dU it it.to * 16; unfold pU dU; rw [(pl_fine _ _).1, (pl_fine _ _).1]; omega
 have pe4 : pW it (fine it.to) = (endS it it.to).w := by show _ = dW it it.to * 16; unfold pW dW; rw [(pl_fine _ _).2.1, (pl_fine _ _).2.1]; omega
 have pe5 : plH it.plane (fine it.fr) = (endS it it.fr).h := (pl_fine _ _).2.2
 have pe6 : plH it.plane (fine it.to) = (endS it it.to).h := (pl_fine _ _).2.2
 have c1 : pU it (chPt it s) = s.u := by unfold pU chPt; rw [(pl_sp hp).1]; omega
 have c2 : pW it (chPt it s) = s.w := by unfold pW chPt; rw [(pl_sp hp).2.1]; omega
 have c3 : plH it.plane (chPt it s) = s.h := by unfold chPt; rw [(pl_sp hp).2.2]
 have hR := hb.r
 have hH := hb.h
 have ab := above_in (R0 := R0) (R1 := R1) (R := s.r) ⟨hle.1, hle.2.1⟩ (by rw [hra.1, hrb.1] at hR; unfold mn mx at hR; split at hR <;> split at hR <;> omega) hb.sp.norm
 have hsq : R0 * R0 <= R1 * R1 := Int.mul_self_le_mul_self (by omega) hle.2.1
 unfold onArcP
 rw [pe1, pe2, pe3, pe4, pe5, pe6, c1, c2, c3, hra.2, hrb.2, Int.min_eq_left hsq, Int.max_eq_right hsq]
 rw [mn_min, mx_max] at hH
 refine ⟨ab.1, ab.2, by omega, by omega, ?_⟩
 rcases hps with g | g
 ·exact .inl g
 ·exact .inr (.inl g)
end Go.Bm
/- the points of a chord of an arc are near the arc -/
set_option maxRecDepth 100000
namespace Go.Bm
open Classical

theorem lagr (u w x y : Int) : dt2 u w x y * dt2 u w x y + crs u w x y * crs u w x y = sq2 u w * sq2 x y := by unfold dt2 crs sq2; grind
theorem tri {p q x y a b : Int} (ha : 0 <= a) (hb : 0 <= b) (h1 : sq2 p q <= a * a) (h2 : sq2 x y <= b * b) : sq2 (p + x) (q + y) <= (a + b) * (a + b) := by
 have hl := lagr p q x y
 have hc := sq_nn (crs p q x y)
 have n1 := sq2_ge0 p q
 have n2 := sq2_ge0 x y
 have h3 : dt2 p q x y <= a * b := by
  refine le_of_sq (Int.mul_nonneg ha hb) ?_
  have h4 : sq2 p q * sq2 x y <= (a * a) * (b * b) := Int.mul_le_mul h1 h2 n2 (Int.mul_nonneg ha ha)
  have e : a * b * (a * b) = (a * a) * (b * b) := by grind
  omega
 have e1 : sq2 (p + x) (q + y) = sq2 p q + sq2 x y + 2 * dt2 p q x y := by unfold sq2 dt2; grind
 have e2 : (a + b) * (a + b) = a * a + b * b + 2 * (a * b) := by grind
 omega
theorem sq2_scale (k u w : Int) : sq2 (k * u) (k * w) = k * k * sq2 u w := by unfold sq2; grind
theorem eps_bd {u w : Int} (hu : -63 <= u /\ u <= 63) (hw : -63 <= w /\ w <= 63) : sq2 u w <= 7938 := by
 have k : ∀ x : Int, -63 <= x /\ x <= 63 -> x * x <= 3969 := fun x h => by
  have : 0 <= (63 - x) * (63 + x) := Int.mul_nonneg (by omega) (by omega)
  have e : (63 - x) * (63 + x) = 3969 - x * x := by grind
  omega
 have := k u hu
 have := k w hw
 unfold sq2; omega
theorem chord_norm {A B d D p M s V : Int} (hD : D = A + B - 2 * d) (hs : 0 <= s /\ s <= 64) (hV : V = (64 - s) * (64 - s) * A + s * s * B + 2 * (s * (64 - s)) * d) (hA : (p - 1) * (p - 1) <= A /\ A <= M * M) (hB : (p - 1) * (p - 1) <= B /\ B <= M * M)
  (hp : 128 <= p) (h0 : 0 <= D) (h1 : D <= 32 * p - 64) : (64 * p - 323) * (64 * p - 323) <= V /\ V <= (64 * M) * (64 * M) := by
 have e1 : V = 64 * ((64 - s) * A) + 64 * (s * B) - s * (64 - s) * D := by rw [hV, hD]; grind
 have m0 : 0 <= s * (64 - s) := Int.mul_nonneg hs.1 (by omega)
 have m1 : s * (64 - s) <= 1024 := by
  have := sq_nn (s - 32)
  have e : (s - 32) * (s - 32) = 1024 - s * (64 - s) := by grind
  omega
 have q0 : 0 <= s * (64 - s) * D := Int.mul_nonneg m0 h0
 have q1 : s * (64 - s) * D <= 1024 * (32 * p - 64) := Int.mul_le_mul m1 h1 h0 (by omega)
 have a1 : (64 - s) * ((p - 1) * (p - 1)) <= (64 - s) * A := Int.mul_le_mul_of_nonneg_left hA.1 (by omega)
 have a2 : s * ((p - 1) * (p - 1)) <= s * B := Int.mul_le_mul_of_nonneg_left hB.1 hs.1
 have a3 : (64 - s) * A <= (64 - s) * (M * M) := Int.mul_le_mul_of_nonneg_left hA.2 (by omega)
 have a4 : s * B <= s * (M * M) := Int.mul_le_mul_of_nonneg_left hB.2 hs.1
 have e2 : (64 - s) * ((p - 1) * (p - 1)) + s * ((p - 1) * (p - 1)) = 64 * (p * p) - 128 * p + 64 := by grind
 have e3 : (64 - s) * (M * M) + s * (M * M) = 64 * (M * M) := by grind
 have e4 : (64 * M) * (64 * M) = 4096 * (M * M) := by grind
 have e5 : (64 * p - 323) * (64 * p - 323) = 4096 * (p * p) - 41344 * p + 104329 := by grind
 constructor
 ·omega
 ·omega
theorem chord_above {R0 R1 p M V Q vu vw qu qw : Int} (hV : V = sq2 vu vw) (hQ : Q = sq2 qu qw) (h0 : 128 <= R0 /\ R0 <= R1) (hp : R0 <= p) (hM : M = R1 + 1) (hv : (64 * p - 323) * (64 * p - 323) <= V /\ V <= (64 * M) * (64 * M))
  (hu : -63 <= 64 * qu - vu /\ 64 * qu - vu <= 63) (hw : -63 <= 64 * qw - vw /\ 64 * qw - vw <= 63) : (R0 - 7) * (R0 - 7) <= Q /\ aboveP (R0 * R0) Q 7 /\ aboveP Q (R1 * R1) 7 := by
 have he := eps_bd hu hw
 have he2 := eps_bd (u := vu - 64 * qu) (w := vw - 64 * qw) (by omega) (by omega)
 have hsc : sq2 (64 * qu) (64 * qw) = 4096 * Q := by rw [sq2_scale, hQ]; rfl
 have k1 : (R0 - 7) * (R0 - 7) <= Q := by
  by_cases c : (R0 - 7) * (R0 - 7) <= Q
  ·exact c
  ·exfalso
   have c2 : sq2 (64 * qu) (64 * qw) <= (64 * (p - 7)) * (64 * (p - 7)) := by
    have : (R0 - 7) * (R0 - 7) <= (p - 7) * (p - 7) := Int.mul_self_le_mul_self (by omega) (by omega)
    have e : (64 * (p - 7)) * (64 * (p - 7)) = 4096 * ((p - 7) * (p - 7)) := by grind
    omega
   have t := tri (x := vu - 64 * qu) (y := vw - 64 * qw) (b := 90) (by omega) (by omega) c2 (by omega)
   rw [show 64 * qu + (vu - 64 * qu) = vu by omega, show 64 * qw + (vw - 64 * qw) = vw by omega, <- hV] at t
   have t2 : (64 * (p - 7) + 90) * (64 * (p - 7) + 90) < (64 * p - 323) * (64 * p - 323) := Int.mul_self_lt_mul_self (by omega) (by omega)
   omega
 have k2 : Q <= (R1 + 3) * (R1 + 3) := by
  have t := tri (p := vu) (q := vw) (x := 64 * qu - vu) (y := 64 * qw - vw) (a := 64 * M) (b := 90) (by omega) (by omega) (by omega) (by omega)
  rw [show vu + (64 * qu - vu) = 64 * qu by omega, show vw + (64 * qw - vw) = 64 * qw by omega, hsc] at t
  have t2 : (64 * M + 90) * (64 * M + 90) <= (64 * (R1 + 3)) * (64 * (R1 + 3)) := Int.mul_self_le_mul_self (by omega) (by omega)
  have e : (64 * (R1 + 3)) * (64 * (R1 + 3)) = 4096 * ((R1 + 3) * (R1 + 3)) := by grind
  omega
 have e1 : (R0 - 7) * (R0 - 7) = R0 * R0 - 14 * R0 + 49 := by grind
 have e2 : (R1 + 3) * (R1 + 3) = R1 * R1 + 6 * R1 + 9 := by grind
 refine ⟨k1, ?_, ?_⟩
 ·unfold aboveP
  by_cases c : R0 * R0 - Q - 7 * 7 <= 0
  ·exact .inl c
  ·right
   have := Int.mul_self_le_mul_self (show 0 <= R0 * R0 - Q - 7 * 7 by omega) (show R0 * R0 - Q - 7 * 7 <= 14 * (R0 - 7) by omega)
   have e3 : 14 * (R0 - 7) * (14 * (R0 - 7)) = 196 * ((R0 - 7) * (R0 - 7)) := by grind
   have e4 : (4 : Int) * 7 * 7 * Q = 196 * Q := by omega
   omega
 ·unfold aboveP
  by_cases c : Q - R1 * R1 - 7 * 7 <= 0
  ·exact .inl c
  ·right
   have := Int.mul_self_le_mul_self (show 0 <= Q - R1 * R1 - 7 * 7 by omega) (show Q - R1 * R1 - 7 * 7 <= 14 * R1 by omega)
   have e3 : 14 * R1 * (14 * R1) = 196 * (R1 * R1) := by grind
   have e4 : (4 : Int) * 7 * 7 * (R1 * R1) = 196 * (R1 * R1) := by omega
   omega
theorem over_ray {au aw vu vw qu qw dir : Int} (hd : dir = 1 \/ dir = -1) (hu : -63 <= 64 * qu - vu /\ 64 * qu - vu <= 63) (hw : -63 <= 64 * qw - vw /\ 64 * qw - vw <= 63) (h1 : 0 <= crs au aw vu vw * dir) (h2 : crs au aw qu qw * dir < 0) :
  crs au aw qu qw * crs au aw qu qw <= 2 * sq2 au aw := by
 have he := eps_bd hu hw
 have hl := lagr au aw (64 * qu - vu) (64 * qw - vw)
 have hn := sq_nn (dt2 au aw (64 * qu - vu) (64 * qw - vw))
 have hA := sq2_ge0 au aw
 have e1 : crs au aw (64 * qu - vu) (64 * qw - vw) * dir = 64 * (crs au aw qu qw * dir) - crs au aw vu vw * dir := by unfold crs; grind
 have hle : sq2 au aw * sq2 (64 * qu - vu) (64 * qw - vw) <= sq2 au aw * 7938 := Int.mul_le_mul_of_nonneg_left he hA
 have hdd := dir_sq hd
 have e2 : ∀ c : Int, c * c = (c * dir) * (c * dir) := fun c => by
  have : (c * dir) * (c * dir) = c * c * (dir * dir) := by grind
  rw [this, hdd, Int.mul_one]
 have k := Int.mul_self_le_mul_self (show 0 <= -(64 * (crs au aw qu qw * dir)) by omega) (show -(64 * (crs au aw qu qw * dir)) <= -(crs au aw (64 * qu - vu) (64 * qw - vw) * dir) by omega)
 have e3 : -(64 * (crs au aw qu qw * dir)) * -(64 * (crs au aw qu qw * dir)) = 4096 * ((crs au aw qu qw * dir) * (crs au aw qu qw * dir)) := by grind
 have e4 : -(crs au aw (64 * qu - vu) (64 * qw - vw) * dir) * -(crs au aw (64 * qu - vu) (64 * qw - vw) * dir) = (crs au aw (64 * qu - vu) (64 * qw - vw) * dir) * (crs au aw (64 * qu - vu) (64 * qw - vw) * dir) := by grind
 rw [e3, e4, <- e2, <- e2] at k
 omega
end Go.Bm
/- the points of a chord of an arc lie in the arc's turn, or near its ends' rays -/
set_option maxRecDepth 100000
namespace Go.Bm
open Classical

theorem id_prod (au aw bu bw qu qw : Int) : sq2 au aw * dt2 bu bw qu qw = dt2 au aw bu bw * dt2 au aw qu qw + crs au aw bu bw * crs au aw qu qw := by unfold sq2 dt2 crs; grind
theorem id_crs (au aw bu bw qu qw : Int) : sq2 au aw * crs bu bw qu qw = dt2 au aw bu bw * crs au aw qu qw - crs au aw bu bw * dt2 au aw qu qw := by unfold sq2 dt2 crs; grind
def secP (au aw bu bw vu vw dir : Int) : Prop :=
 if 0 < crs au aw bu bw * dir then 0 <= crs au aw vu vw * dir /\ 0 <= crs vu vw bu bw * dir else 0 <= crs au aw vu vw * dir \/ 0 <= crs vu vw bu bw * dir
theorem pos_of_mul {a b : Int} (hb : 0 < b) (h : 0 < a * b) : 0 < a := by
 by_cases c : 0 < a
 ·exact c
 ·have := Int.mul_nonpos_of_nonpos_of_nonneg (show a <= 0 by omega) (Int.le_of_lt hb)
  omega
theorem nn_of_mul_neg {a b : Int} (hb : b < 0) (h : a * b <= 0) : 0 <= a := by
 by_cases c : 0 <= a
 ·exact c
 ·have := Int.mul_pos_of_neg_of_neg (show a < 0 by omega) hb
  omega
theorem over_ray2 {bu bw vu vw qu qw dir : Int} (hd : dir = 1 \/ dir = -1) (hu : -63 <= 64 * qu - vu /\ 64 * qu - vu <= 63) (hw : -63 <= 64 * qw - vw /\ 64 * qw - vw <= 63) (h1 : 0 <= crs vu vw bu bw * dir) (h2 : crs qu qw bu bw * dir < 0) :
  crs bu bw qu qw * crs bu bw qu qw <= 2 * sq2 bu bw := by
 refine over_ray (dir := -dir) (by omega) hu hw ?_ ?_
 ·rw [<- crs_dir]; exact h1
 ·rw [<- crs_dir]; exact h2
theorem chord_turn {au aw bu bw vu vw qu qw dir : Int} (hd : dir = 1 \/ dir = -1) (hA : 0 < sq2 au aw) (hB : 0 < sq2 bu bw) (hs : dt2 au aw bu bw = 0 \/ (crs au aw bu bw = 0 /\ dt2 au aw bu bw < 0))
  (hu : -63 <= 64 * qu - vu /\ 64 * qu - vu <= 63) (hw : -63 <= 64 * qw - vw /\ 64 * qw - vw <= 63) (hsec : secP au aw bu bw vu vw dir) (hQ : 4 < sq2 qu qw) :
  passedP au aw bu bw qu qw dir \/ rayP au aw qu qw 7 \/ rayP bu bw qu qw 7 := by
 have ray_a : 0 <= dt2 au aw qu qw -> crs au aw qu qw * crs au aw qu qw <= 2 * sq2 au aw -> rayP au aw qu qw 7 := fun h1 h2 => ⟨h1, by omega⟩
 have ray_b : 0 <= dt2 bu bw qu qw -> crs bu bw qu qw * crs bu bw qu qw <= 2 * sq2 bu bw -> rayP bu bw qu qw 7 := fun h1 h2 => ⟨h1, by omega⟩
 have e1 : crs bu bw qu qw = -crs qu qw bu bw := crs_swap _ _ _ _
 have e2 : crs qu qw au aw = -crs au aw qu qw := crs_swap _ _ _ _
 have lab := lagr au aw bu bw
 have hAB : 0 < sq2 au aw * sq2 bu bw := Int.mul_pos hA hB
 rcases hs with hs | ⟨hs, hs2⟩
 · -- a quarter turn, or three of them
  have i1 := id_dot au aw bu bw qu qw
  have i2 := id_crs au aw bu bw qu qw
  have i3 := id_prod au aw bu bw qu qw
  rw [hs, Int.mul_zero, Int.sub_zero] at i1
  rw [hs, Int.zero_mul, Int.zero_add] at i3
  have p1 : dt2 au aw qu qw * (crs au aw bu bw * dir) = sq2 au aw * (crs qu qw bu bw * dir) := by
   rw [<- Int.mul_assoc, i1, Int.mul_assoc]
  have p2 : sq2 au aw * (dt2 bu bw qu qw * (crs au aw bu bw * dir)) = sq2 au aw * (sq2 bu bw * (crs au aw qu qw * dir)) := by
   have hdd := dir_sq hd
   have e3 : sq2 au aw * (dt2 bu bw qu qw * (crs au aw bu bw * dir)) = (sq2 au aw * dt2 bu bw qu qw) * (crs au aw bu bw * dir) := by grind
   have e4 : crs au aw bu bw * crs au aw bu bw = sq2 au aw * sq2 bu bw := by rw [hs] at lab; omega
   rw [e3, i3]
   have e5 : crs au aw bu bw * crs au aw qu qw * (crs au aw bu bw * dir) = (crs au aw bu bw * crs au aw bu bw) * (crs au aw qu qw * dir) := by grind
   rw [e5, e4]; grind
  have p3 := Int.eq_of_mul_eq_mul_left (show sq2 au aw ≠ 0 by omega) p2
  have hc0 : crs au aw bu bw * dir ≠ 0 := by
   intro h
   have h0 : crs au aw bu bw = 0 := by rcases hd with rfl | rfl <;> omega
   rw [hs, h0] at lab
   omega
  by_cases hX : 0 < crs au aw bu bw * dir
  ·unfold secP at hsec
   rw [if_pos hX] at hsec
   by_cases ca : 0 <= crs au aw qu qw * dir
   ·by_cases cb : 0 <= crs qu qw bu bw * dir
    ·left; unfold passedP; rw [if_pos hX]; exact ⟨ca, cb⟩
    ·right; right
     refine ray_b (nn_of_mul hX ?_) (over_ray2 hd hu hw hsec.2 (by omega))
     rw [p3]; exact Int.mul_nonneg (Int.le_of_lt hB) ca
   ·have ra := over_ray hd hu hw hsec.1 (show crs au aw qu qw * dir < 0 by omega)
    by_cases cb : 0 <= crs qu qw bu bw * dir
    ·right; left
     refine ray_a (nn_of_mul hX ?_) ra
     rw [p1]; exact Int.mul_nonneg (Int.le_of_lt hA) cb
    · -- both are small: the point would be at the center
     exfalso
     have rb := over_ray2 hd hu hw hsec.2 (show crs qu qw bu bw * dir < 0 by omega)
     rw [e1] at rb
     have laq := lagr au aw qu qw
     have e4 : crs au aw bu bw * crs au aw bu bw = sq2 au aw * sq2 bu bw := by rw [hs] at lab; omega
     have k1 : dt2 au aw qu qw * dt2 au aw qu qw <= 2 * sq2 au aw := by
      have e6 : dt2 au aw qu qw * dt2 au aw qu qw * (sq2 au aw * sq2 bu bw) = sq2 au aw * sq2 au aw * (crs qu qw bu bw * crs qu qw bu bw) := by
       rw [<- e4]
       have : dt2 au aw qu qw * dt2 au aw qu qw * (crs au aw bu bw * crs au aw bu bw) = (dt2 au aw qu qw * crs au aw bu bw) * (dt2 au aw qu qw * crs au aw bu bw) := by grind
       rw [this, i1]; grind
      have e7 : crs qu qw bu bw * crs qu qw bu bw <= 2 * sq2 bu bw := by
       have : -crs qu qw bu bw * -crs qu qw bu bw = crs qu qw bu bw * crs qu qw bu bw := by grind
       omega
      have e8 : sq2 au aw * sq2 au aw * (crs qu qw bu bw * crs qu qw bu bw) <= sq2 au aw * sq2 au aw * (2 * sq2 bu bw) := Int.mul_le_mul_of_nonneg_left e7 (sq_nn _)
      have e9 : sq2 au aw * sq2 au aw * (2 * sq2 bu bw) = (2 * sq2 au aw) * (sq2 au aw * sq2 bu bw) := by grind
      exact Int.le_of_mul_le_mul_right (show dt2 au aw qu qw * dt2 au aw qu qw * (sq2 au aw * sq2 bu bw) <= (2 * sq2 au aw) * (sq2 au aw * sq2 bu bw) by omega) hAB
     have k2 : sq2 au aw * sq2 qu qw <= sq2 au aw * 4 := by omega
     have := Int.le_of_mul_le_mul_left k2 hA
     omega
  ·have hX2 : crs au aw bu bw * dir < 0 := by omega
   unfold secP at hsec
   rw [if_neg hX] at hsec
   by_cases ca : 0 <= crs au aw qu qw * dir
   ·left; unfold passedP; rw [if_neg hX, if_neg (fun h => hc0 h.1)]
    right; rw [e2, Int.neg_mul]; omega
   by_cases cb : 0 <= crs qu qw bu bw * dir
   ·left; unfold passedP; rw [if_neg hX, if_neg (fun h => hc0 h.1)]
    left; rw [e1, Int.neg_mul]; omega
   right
   rcases hsec with h | h
   ·left
    refine ray_a (nn_of_mul_neg hX2 ?_) (over_ray hd hu hw h (by omega))
    rw [p1]
    have := Int.mul_nonpos_of_nonneg_of_nonpos (Int.le_of_lt hA) (show crs qu qw bu bw * dir <= 0 by omega)
    exact this
   ·right
    refine ray_b (nn_of_mul_neg hX2 ?_) (over_ray2 hd hu hw h (by omega))
    rw [p3]
    exact Int.mul_nonpos_of_nonneg_of_nonpos (Int.le_of_lt hB) (show crs au aw qu qw * dir <= 0 by omega)
 · -- a half turn
  have hX : ¬ 0 < crs au aw bu bw * dir := by rw [hs]; simp
  unfold secP at hsec
  rw [if_neg hX] at hsec
  have hv : 0 <= crs au aw vu vw * dir := by
   rcases hsec with h | h
   ·exact h
   ·have i2 := id_dot bu bw au aw vu vw
    rw [crs_swap au aw bu bw, hs] at i2
    have e3 : dt2 bu bw au aw = dt2 au aw bu bw := by unfold dt2; grind
    have e5 : crs bu bw vu vw = -crs vu vw bu bw := crs_swap _ _ _ _
    have e6 : crs vu vw au aw = -crs au aw vu vw := crs_swap _ _ _ _
    rw [e3, e5, e6] at i2
    refine nn_of_mul hB ?_
    have e4 : crs au aw vu vw * dir * sq2 bu bw = -((crs vu vw bu bw * dir) * dt2 au aw bu bw) := by
     have : crs au aw vu vw * dir * sq2 bu bw = -(sq2 bu bw * -crs au aw vu vw * dir) := by grind
     rw [this, <- i2]; grind
    rw [e4]
    have := Int.mul_nonpos_of_nonneg_of_nonpos h (Int.le_of_lt hs2)
    omega
  by_cases ca : 0 <= crs au aw qu qw * dir
  ·left; unfold passedP; rw [if_neg hX, if_pos ⟨by rw [hs]; simp, hs2⟩]; exact ca
  ·right
   have ra := over_ray hd hu hw hv (show crs au aw qu qw * dir < 0 by omega)
   by_cases cd : 0 <= dt2 au aw qu qw
   ·exact .inl (ray_a cd ra)
   ·right
    have i3 := id_prod au aw bu bw qu qw
    have i4 := id_crs au aw bu bw qu qw
    rw [hs, Int.zero_mul, Int.add_zero] at i3
    rw [hs, Int.zero_mul, Int.sub_zero] at i4
    have eAB : dt2 au aw bu bw * dt2 au aw bu bw = sq2 au aw * sq2 bu bw := by rw [hs] at lab; omega
    refine ray_b ?_ ?_
    ·have : 0 < sq2 au aw * dt2 bu bw qu qw := by rw [i3]; exact Int.mul_pos_of_neg_of_neg hs2 (by omega)
     have : 0 < dt2 bu bw qu qw := pos_of_mul hA (by rw [Int.mul_comm]; exact this)
     omega
    ·have k1 : (crs bu bw qu qw * crs bu bw qu qw) * (sq2 au aw * sq2 au aw) = (sq2 au aw * sq2 bu bw) * (crs au aw qu qw * crs au aw qu qw) := by
      have : (crs bu bw qu qw * crs bu bw qu qw) * (sq2 au aw * sq2 au aw) = (sq2 au aw * crs bu bw qu qw) * (sq2 au aw * crs bu bw qu qw) := by grind
      rw [this, i4, <- eAB]; grind
     have k2 : (sq2 au aw * sq2 bu bw) * (crs au aw qu qw * crs au aw qu qw) <= (sq2 au aw * sq2 bu bw) * (2 * sq2 au aw) := Int.mul_le_mul_of_nonneg_left ra (Int.le_of_lt hAB)
     have k3 : (sq2 au aw * sq2 bu bw) * (2 * sq2 au aw) = (2 * sq2 bu bw) * (sq2 au aw * sq2 au aw) := by grind
     exact Int.le_of_mul_le_mul_right (show (crs bu bw qu qw * crs bu bw qu qw) * (sq2 au aw * sq2 au aw) <= (2 * sq2 bu bw) * (sq2 au aw * sq2 au aw) by omega) (Int.mul_pos hA hA)
end Go.Bm
/- a cut makes a piece of an arc shorter -/
set_option maxRecDepth 100000
namespace Go.Bm
open Classical

theorem half_T {z R D : Int} (hR : 128 <= R) (hz : -2 <= z) (h1 : 50 * z <= 31 * R) (h2 : 32 * R - 607 <= D) (h3 : (z - 4) * (4 * R - z - 2) <= D) : (2 * (z.natAbs : Int) + 11) * (2 * (z.natAbs : Int) + 11) <= D := by
 by_cases c : z <= 20
 ·have : (2 * (z.natAbs : Int) + 11) * (2 * (z.natAbs : Int) + 11) <= 51 * 51 := Int.mul_self_le_mul_self (by omega) (by omega)
  omega
 have e0 : (z.natAbs : Int) = z := by omega
 rw [e0]
 by_cases c2 : z <= 60
 ·have k1 : (z - 4) * (510 - z) <= (z - 4) * (4 * R - z - 2) := Int.mul_le_mul_of_nonneg_left (by omega) (by omega)
  have k2 : 0 <= (z - 21) * (60 - z) := Int.mul_nonneg (by omega) (by omega)
  have e1 : (z - 4) * (510 - z) - (2 * z + 11) * (2 * z + 11) = 5 * ((z - 21) * (60 - z)) + 65 * z + 4139 := by grind
  omega
 ·have k1 : (z - 4) * (169 * z - 62) <= (z - 4) * (31 * (4 * R - z - 2)) := Int.mul_le_mul_of_nonneg_left (by omega) (by omega)
  have e1 : (z - 4) * (31 * (4 * R - z - 2)) = 31 * ((z - 4) * (4 * R - z - 2)) := by grind
  have e2 : (z - 4) * (169 * z - 62) - 31 * ((2 * z + 11) * (2 * z + 11)) = 45 * (z * z) - 2102 * z - 3503 := by grind
  have k2 : 60 * z <= z * z := Int.mul_le_mul_of_nonneg_right (by omega) (by omega)
  omega
theorem z_le {R S : Int} (hR : 128 <= R) (hS : 0 <= S) (h : (2 * R - 3) * (2 * R - 3) <= 2 * ((S + 1) * (S + 1))) : 50 * (2 * R - S) <= 31 * R := by
 by_cases c : 50 * (2 * R - S) <= 31 * R
 ·exact c
 ·exfalso
  have k1 : (50 * (S + 1)) * (50 * (S + 1)) <= (69 * R + 50) * (69 * R + 50) := Int.mul_self_le_mul_self (by omega) (by omega)
  have e1 : (50 * (S + 1)) * (50 * (S + 1)) = 2500 * ((S + 1) * (S + 1)) := by grind
  have e2 : (69 * R + 50) * (69 * R + 50) = 4761 * (R * R) + 6900 * R + 2500 := by grind
  have e3 : (2 * R - 3) * (2 * R - 3) = 4 * (R * R) - 12 * R + 9 := by grind
  have k2 : 128 * R <= R * R := Int.mul_le_mul_of_nonneg_right hR (by omega)
  omega
theorem core_T {su sw mu mw R S D : Int} (hR : 128 <= R) (hS : 0 <= S /\ S * S <= sq2 su sw /\ sq2 su sw < (S + 1) * (S + 1)) (hz : S <= 2 * R + 2) (hz2 : 50 * (2 * R - S) <= 31 * R) (h2 : 32 * R - 607 <= D) (h3 : (2 * R - S - 4) * (4 * R - (2 * R - S) - 2) <= D)
  (e1 : -(S + 2 * R + 1) <= 2 * mu * S - 2 * (su * R) /\ 2 * mu * S - 2 * (su * R) <= S + 2 * R + 1) (e2 : -(S + 2 * R + 1) <= 2 * mw * S - 2 * (sw * R) /\ 2 * mw * S - 2 * (sw * R) <= S + 2 * R + 1) :
  4 * sq2 (su - 2 * mu) (sw - 2 * mw) <= D := by
 have hD := half_T hR (show -2 <= 2 * R - S by omega) hz2 h2 h3
 obtain ⟨z, hzz⟩ : ∃ z, z = 2 * R - S := ⟨_, rfl⟩
 rw [<- hzz] at hD hz2
 have hpos : 0 < S := by omega
 -- the two parts
 have k1 : sq2 (su * -z) (sw * -z) <= ((S + 1) * z.natAbs) * ((S + 1) * z.natAbs) := by
  have a1 : (z.natAbs : Int) * z.natAbs = z * z := Int.natAbs_mul_self
  have e3 : sq2 (su * -z) (sw * -z) = sq2 su sw * (z * z) := by unfold sq2; grind
  have e4 : ((S + 1) * (z.natAbs : Int)) * ((S + 1) * z.natAbs) = (S + 1) * (S + 1) * (z * z) := by rw [<- a1]; grind
  rw [e3, e4]
  exact Int.mul_le_mul_of_nonneg_right (by omega) (sq_nn z)
 have k2 : sq2 (-(2 * mu * S - 2 * (su * R))) (-(2 * mw * S - 2 * (sw * R))) <= (2 * (S + 2 * R + 1)) * (2 * (S + 2 * R + 1)) := by
  have kk : ∀ e : Int, -(S + 2 * R + 1) <= e /\ e <= S + 2 * R + 1 -> -e * -e <= (S + 2 * R + 1) * (S + 2 * R + 1) := fun e he => by
   have : 0 <= (S + 2 * R + 1 - e) * (S + 2 * R + 1 + e) := Int.mul_nonneg (by omega) (by omega)
   have e5 : (S + 2 * R + 1 - e) * (S + 2 * R + 1 + e) = (S + 2 * R + 1) * (S + 2 * R + 1) - -e * -e := by grind
   omega
  have a1 := kk _ e1
  have a2 := kk _ e2
  have n := sq_nn (S + 2 * R + 1)
  have e6 : (2 * (S + 2 * R + 1)) * (2 * (S + 2 * R + 1)) = 4 * ((S + 2 * R + 1) * (S + 2 * R + 1)) := by grind
  unfold sq2
  omega
 have t := tri (Int.mul_nonneg (by omega) (by omega)) (by omega) k1 k2
 have e7 : sq2 (su * -z + -(2 * mu * S - 2 * (su * R))) (sw * -z + -(2 * mw * S - 2 * (sw * R))) = S * S * sq2 (su - 2 * mu) (sw - 2 * mw) := by
  rw [hzz]; unfold sq2; grind
 rw [e7] at t
 have k3 : 2 * ((S + 1) * (z.natAbs : Int) + 2 * (S + 2 * R + 1)) <= S * (2 * z.natAbs + 11) := by
  have e8 : (S + 1) * (z.natAbs : Int) = S * z.natAbs + z.natAbs := by grind
  have e9 : S * (2 * (z.natAbs : Int) + 11) = 2 * (S * z.natAbs) + 11 * S := by grind
  omega
 have k0 : 0 <= (S + 1) * (z.natAbs : Int) := Int.mul_nonneg (by omega) (by omega)
 have k4 := Int.mul_self_le_mul_self (show 0 <= 2 * ((S + 1) * (z.natAbs : Int) + 2 * (S + 2 * R + 1)) by omega) k3
 have e10 : 2 * ((S + 1) * (z.natAbs : Int) + 2 * (S + 2 * R + 1)) * (2 * ((S + 1) * (z.natAbs : Int) + 2 * (S + 2 * R + 1))) = 4 * (((S + 1) * (z.natAbs : Int) + 2 * (S + 2 * R + 1)) * ((S + 1) * (z.natAbs : Int) + 2 * (S + 2 * R + 1))) := by grind
 have e11 : S * (2 * (z.natAbs : Int) + 11) * (S * (2 * (z.natAbs : Int) + 11)) = S * S * ((2 * (z.natAbs : Int) + 11) * (2 * (z.natAbs : Int) + 11)) := by grind
 rw [e10, e11] at k4
 have hSS : 0 < S * S := Int.mul_pos hpos hpos
 have k5 : S * S * (4 * sq2 (su - 2 * mu) (sw - 2 * mw)) <= S * S * ((2 * (z.natAbs : Int) + 11) * (2 * (z.natAbs : Int) + 11)) := by
  have e12 : S * S * (4 * sq2 (su - 2 * mu) (sw - 2 * mw)) = 4 * (S * S * sq2 (su - 2 * mu) (sw - 2 * mw)) := by grind
  omega
 have := Int.le_of_mul_le_mul_left k5 hSS
 omega
theorem cut_D (x y m : Spk) : 4 * sq2 (x.u - m.u) (x.w - m.w) = sq2 (x.u - y.u) (x.w - y.w) + sq2 (x.u + y.u - 2 * m.u) (x.w + y.w - 2 * m.w) + 2 * dt2 (x.u - y.u) (x.w - y.w) (x.u + y.u - 2 * m.u) (x.w + y.w - 2 * m.w) /\
  4 * sq2 (m.u - y.u) (m.w - y.w) = sq2 (x.u - y.u) (x.w - y.w) + sq2 (x.u + y.u - 2 * m.u) (x.w + y.w - 2 * m.w) - 2 * dt2 (x.u - y.u) (x.w - y.w) (x.u + y.u - 2 * m.u) (x.w + y.w - 2 * m.w) := by
 constructor <;> (unfold sq2 dt2; grind)
theorem am_gm (p q x y : Int) : 4 * dt2 p q x y <= sq2 p q + 4 * sq2 x y /\ -(4 * dt2 p q x y) <= sq2 p q + 4 * sq2 x y := by
 have h1 := sq2_ge0 (p - 2 * x) (q - 2 * y)
 have h2 := sq2_ge0 (p + 2 * x) (q + 2 * y)
 have e1 : sq2 (p - 2 * x) (q - 2 * y) = sq2 p q + 4 * sq2 x y - 4 * dt2 p q x y := by unfold sq2 dt2; grind
 have e2 : sq2 (p + 2 * x) (q + 2 * y) = sq2 p q + 4 * sq2 x y + 4 * dt2 p q x y := by unfold sq2 dt2; grind
 omega
theorem along_D {x y : Spk} {dir : Int} (hx : Sp x) (hy : Sp y) (h1 : 0 < dt2 x.u x.w y.u y.w) (h2 : 0 < crs x.u x.w y.u y.w * dir) (h3 : ((x.r - y.r).natAbs : Int) <= 33) (h4 : 32 * mn x.r y.r - 64 < sq2 (x.u - y.u) (x.w - y.w)) :
  16 * sq2 (x.u - (midS x y dir false).u) (x.w - (midS x y dir false).w) <= 9 * sq2 (x.u - y.u) (x.w - y.w) /\ 16 * sq2 ((midS x y dir false).u - y.u) ((midS x y dir false).w - y.w) <= 9 * sq2 (x.u - y.u) (x.w - y.w) := by
 have eM : midD x y dir false = (x.u + y.u, x.w + y.w) := by
  unfold midD
  rw [if_neg (by simp), if_pos ⟨h1, h2⟩]
 obtain ⟨hu, hw⟩ := bd_b hx.ok hy.ok
 have h0 : ¬ (x.u + y.u = 0 /\ x.w + y.w = 0) := by
  rintro ⟨g1, g2⟩
  have : dt2 x.u x.w y.u y.w = dt2 x.u x.w (x.u + y.u) (x.w + y.w) - sq2 x.u x.w := by unfold dt2 sq2; grind
  rw [g1, g2] at this
  have e0 : dt2 x.u x.w 0 0 = 0 := by unfold dt2; simp
  have := sq2_ge0 x.u x.w
  omega
 obtain ⟨-, s2⟩ := sp_mid hx hy hu hw h0
 have hr := radii hx hy h3
 obtain ⟨S, r1, r2, r3⟩ := root_bd hu hw
 have q1 := sq_bd hu
 have q2 := sq_bd hw
 have hpos := sq2_pos h0
 have hn : sq2 (x.u + y.u) (x.w + y.w) <= 20000000000000000 := by unfold sq2; omega
 obtain ⟨qq1, qq2⟩ := sq2_sq (x.u + y.u) (x.w + y.w)
 have hR5 := hr.R5
 have er1 := near_err hu (R := hf x.r y.r) ⟨by omega, hR5.2⟩ ⟨hpos, hn⟩ qq1 ⟨r1, r2, r3⟩
 have er2 := near_err hw (R := hf x.r y.r) ⟨by omega, hR5.2⟩ ⟨hpos, hn⟩ qq2 ⟨r1, r2, r3⟩
 have emid : midS x y dir false = ⟨nearR (x.u + y.u) (hf x.r y.r) (sq2 (x.u + y.u) (x.w + y.w)), nearR (x.w + y.w) (hf x.r y.r) (sq2 (x.u + y.u) (x.w + y.w)), hf x.r y.r, hf x.h y.h⟩ := by
  unfold midS; rw [eM]; exact s2
 have hT : 4 * sq2 (x.u + y.u - 2 * (midS x y dir false).u) (x.w + y.w - 2 * (midS x y dir false).w) <= sq2 (x.u - y.u) (x.w - y.w) := by
  rw [emid]
  simp only
  have nx := hx.norm
  have ny := hy.norm
  have rx := hx.r
  have ry := hy.r
  have eS := eq_S x y
  have eD := eq_D x y
  have hm := mn_cases x.r y.r
  have hR : 2 * hf x.r y.r = x.r + y.r \/ 2 * hf x.r y.r = x.r + y.r + 1 := by unfold hf; omega
  have t := tri (p := x.u) (q := x.w) (x := y.u) (y := y.w) (a := x.r + 1) (b := y.r + 1) (by omega) (by omega) nx.2 ny.2
  have hSle : S <= x.r + 1 + (y.r + 1) := le_of_sq (by omega) (by omega)
  have k2 : (2 * hf x.r y.r - 3) * (2 * hf x.r y.r - 3) <= 2 * (sq2 x.u x.w + sq2 y.u y.w) := by
   have a1 : (2 * hf x.r y.r - 3) * (2 * hf x.r y.r - 3) <= (x.r - 1 + (y.r - 1)) * (x.r - 1 + (y.r - 1)) := Int.mul_self_le_mul_self (by omega) (by omega)
   have a2 := sq_nn (x.r - 1 - (y.r - 1))
   have e1 : (x.r - 1 + (y.r - 1)) * (x.r - 1 + (y.r - 1)) = 2 * ((x.r - 1) * (x.r - 1)) + 2 * ((y.r - 1) * (y.r - 1)) - (x.r - 1 - (y.r - 1)) * (x.r - 1 - (y.r - 1)) := by grind
   omega
  refine core_T (R := hf x.r y.r) (by omega) ⟨r1, r2, r3⟩ (by omega) (z_le (by omega) r1 (by omega)) (by omega) ?_ er1 er2
  have e3 : (2 * hf x.r y.r - S - 4) * (4 * hf x.r y.r - (2 * hf x.r y.r - S) - 2) = (2 * hf x.r y.r - 3) * (2 * hf x.r y.r - 3) - (S + 1) * (S + 1) := by grind
  omega
 generalize midS x y dir false = m at *
 obtain ⟨c1, c2⟩ := cut_D x y m
 obtain ⟨g1, g2⟩ := am_gm (x.u - y.u) (x.w - y.w) (x.u + y.u - 2 * m.u) (x.w + y.w - 2 * m.w)
 omega
end Go.Bm
/- the pieces of an arc are settled before the depth of the cuts ends -/
set_option maxRecDepth 100000
namespace Go.Bm
open Classical

def pairsP (P : Spk -> Spk -> Prop) : Spk -> List Spk -> Prop
 | _, [] => True
 | x, y :: l => P x y /\ pairsP P y l
theorem pairs_app {P : Spk -> Spk -> Prop} {m : Spk} {l2 : List Spk} : ∀ {x : Spk} {l1 : List Spk}, pairsP P x (l1 ++ [m]) -> pairsP P m l2 -> pairsP P x (l1 ++ [m] ++ l2)
 | _, [], h1, h2 => ⟨h1.1, h2⟩
 | _, _ :: _, h1, h2 => ⟨h1.1, pairs_app h1.2 h2⟩
theorem pairs_mono {P Q : Spk -> Spk -> Prop} (h : ∀ a b, P a b -> Q a b) : ∀ {x : Spk} {l : List Spk}, pairsP P x l -> pairsP Q x l
 | _, [], _ => trivial
 | _, _ :: _, g => ⟨h _ _ g.1, pairs_mono h g.2⟩
theorem pcsL_end {dir : Int} : ∀ (k : Nat) (full : Bool) (a b : Spk), ∃ l, pcsL dir k full a b = l ++ [b]
 | 0, _, _, b => ⟨[], rfl⟩
 | k + 1, full, a, b => by
  unfold pcsL
  split
  ·exact ⟨[], rfl⟩
  ·obtain ⟨l, hl⟩ := pcsL_end (dir := dir) k false (midS a b dir full) b
   rw [hl]
   exact ⟨pcsL dir k false a (midS a b dir full) ++ l, by rw [List.append_assoc]⟩
theorem pairs_cut {P : Spk -> Spk -> Prop} {dir : Int} {k : Nat} {x m y : Spk} (h1 : pairsP P x (pcsL dir k false x m)) (h2 : pairsP P m (pcsL dir k false m y)) : pairsP P x (pcsL dir k false x m ++ pcsL dir k false m y) := by
 obtain ⟨l, hl⟩ := pcsL_end (dir := dir) k false x m
 rw [hl] at h1 ⊢
 exact pairs_app h1 h2
structure Leaf (dir : Int) (x y : Spk) : Prop where
 left : Sp x
 right : Sp y
 turn : 0 < crs x.u x.w y.u y.w * dir
 flat : sq2 (x.u - y.u) (x.w - y.w) <= 32 * mn x.r y.r - 64
theorem mn_hf (a b : Int) : mn a b <= mn a (hf a b) /\ mn a b <= mn (hf a b) b := by unfold hf mn; split <;> split <;> split <;> omega
theorem dot_poly {p A B M D d e : Int} (hp : 128 <= p) (hA : (p - 1) * (p - 1) <= A) (hM : (p - 1) * (p - 1) <= M) (hS : 2 * (A + B) <= (2 * (p + 34)) * (2 * (p + 34))) (hD : D < A + B) (h : 16 * d <= 9 * D) (he : d = A + M - 2 * e) : 0 < e := by
 have e1 : (2 * (p + 34)) * (2 * (p + 34)) = 4 * (p * p) + 272 * p + 4624 := by grind
 have e2 : (p - 1) * (p - 1) = p * p - 2 * p + 1 := by grind
 have k : 128 * p <= p * p := Int.mul_le_mul_of_nonneg_right hp (by omega)
 omega
theorem along_leaf {dir thr : Int} (hd : dir = 1 \/ dir = -1) : ∀ (k : Nat) {x y : Spk}, Sp x -> Sp y -> 0 < crs x.u x.w y.u y.w * dir -> 0 < dt2 x.u x.w y.u y.w -> ((x.r - y.r).natAbs : Int) <= 33 -> thr <= 32 * mn x.r y.r - 64 -> 9 ^ k * sq2 (x.u - y.u) (x.w - y.w) <= 16 ^ k * thr ->
  pairsP (Leaf dir) x (pcsL dir k false x y)
 | 0, x, y, hx, hy, hX, _, _, ht, hD => by
  unfold pcsL
  exact ⟨⟨hx, hy, hX, by simp at hD; omega⟩, trivial⟩
 | k + 1, x, y, hx, hy, hX, hdt, h33, ht, hD => by
  unfold pcsL
  by_cases c : setS x y dir false
  ·rw [if_pos c]
   exact ⟨⟨hx, hy, hX, c.2.2⟩, trivial⟩
  ·rw [if_neg c]
   have hcut : 32 * mn x.r y.r - 64 < sq2 (x.u - y.u) (x.w - y.w) := by
    have : ¬ sq2 (x.u - y.u) (x.w - y.w) <= 32 * mn x.r y.r - 64 := fun h => c ⟨rfl, hX, h⟩
    omega
   obtain ⟨m1, m2, m3, m4, m5⟩ := mid_along hd hx hy hdt hX h33 hcut
   obtain ⟨d1, d2⟩ := along_D hx hy hdt hX h33 hcut
   have hr := radii hx hy h33
   generalize midS x y dir false = m at *
   obtain ⟨f1, f2⟩ := half_d m2 (show ((x.r - y.r).natAbs : Int) <= 64 by omega)
   have hmn := mn_hf x.r y.r
   rw [<- m2] at hmn
   have hlt : sq2 (x.u - y.u) (x.w - y.w) < sq2 x.u x.w + sq2 y.u y.w := by rw [eq_D]; omega
   have hM : (mn x.r y.r - 1) * (mn x.r y.r - 1) <= sq2 m.u m.w := by
    refine Int.le_trans (Int.mul_self_le_mul_self (by have := hr.m.2; omega) ?_) m1.norm.1
    have := hr.R.1
    rw [m2]; omega
   have hS : 2 * (sq2 x.u x.w + sq2 y.u y.w) <= (2 * (mn x.r y.r + 34)) * (2 * (mn x.r y.r + 34)) := hr.S
   have g1 : 0 < dt2 x.u x.w m.u m.w := dot_poly hr.m.2 hr.A.1 hM hS hlt d1 (eq_D x m)
   have g2 : 0 < dt2 m.u m.w y.u y.w := dot_poly (A := sq2 y.u y.w) (B := sq2 x.u x.w) hr.m.2 hr.A.2 hM (by rw [Int.add_comm]; exact hS) (by rw [Int.add_comm]; exact hlt) d2 (by rw [eq_D m y]; omega)
   have key : ∀ D', 16 * D' <= 9 * sq2 (x.u - y.u) (x.w - y.w) -> 9 ^ k * D' <= 16 ^ k * thr := by
    intro D' h
    have p1 : (0 : Int) <= 9 ^ k := Int.pow_nonneg (by omega)
    have h2 : 9 ^ k * (16 * D') <= 9 ^ k * (9 * sq2 (x.u - y.u) (x.w - y.w)) := Int.mul_le_mul_of_nonneg_left h p1
    have e1 : (9 : Int) ^ k * (9 * sq2 (x.u - y.u) (x.w - y.w)) = 9 ^ (k + 1) * sq2 (x.u - y.u) (x.w - y.w) := by rw [Int.pow_succ]; grind
    have e2 : (16 : Int) ^ (k + 1) * thr = 16 * (16 ^ k * thr) := by rw [Int.pow_succ]; grind
    have e3 : (9 : Int) ^ k * (16 * D') = 16 * (9 ^ k * D') := by grind
    omega
   exact pairs_cut (along_leaf hd k hx m1 m4 g1 f1 (by omega) (key _ d1)) (along_leaf hd k m1 hy m5 g2 f2 (by omega) (key _ d2))
end Go.Bm
