/- laid together -/
import Derived.Test.YtdllaekpkcanbaaPrHg
import Derived.Test.YtdllaekpkcanbaaPrE
import Derived.Test.YtdllaekpkcanbaaPrPt
set_option linter.unusedVariables false
set_option linter.unusedSimpArgs false
/- all pieces of a full turn are settled; the turn of the pieces -/
set_option maxRecDepth 100000
namespace Go.Bm
open Classical

theorem near_two {u R : Int} (hu : (2 * u).natAbs <= 100000000) (hR : 1 <= R /\ R <= 50000000) (hq : u * u <= R * R) : Qc1 (2 * u) R (4 * (R * R)) = u := by
 have hn : 0 < R * R := Int.mul_pos (by omega) (by omega)
 have hn2 : R * R <= 50000000 * 50000000 := Int.mul_self_le_mul_self (by omega) hR.2
 have hq2 : (2 * u) * (2 * u) <= 4 * (R * R) := by
  have : (2 * u) * (2 * u) = 4 * (u * u) := by grind
  omega
 obtain ⟨j, e, h1, h2, h3⟩ := near_facts hu ⟨by omega, hR.2⟩ ⟨by omega, by omega⟩ hq2
 have ea : ((2 * u).natAbs : Int) = 2 * u.natAbs := by omega
 rw [ea] at h1 h2
 have k1 : (j : Int) <= u.natAbs := by
  rcases h1 with h1 | h1
  ·omega
  ·have : (2 * (j : Int) - 1) * (2 * R) <= 2 * (2 * u.natAbs * R) := by
    refine Qgp (Int.mul_nonneg (by omega) (Int.mul_nonneg (by omega) (by omega))) (Int.le_trans (Int.le_of_eq ?_) h1)
    grind
   have e3 : 2 * (2 * (u.natAbs : Int) * R) = 2 * (u.natAbs : Int) * (2 * R) := by grind
   rw [e3] at this
   have := Int.le_of_mul_le_mul_right this (by omega)
   omega
 have k2 : (u.natAbs : Int) <= j := by
  have : 2 * (2 * (u.natAbs : Int) * R) <= (2 * (j : Int) + 1) * (2 * R) := by
   refine Qgp (Int.mul_nonneg (by omega) (by omega)) (Int.le_trans h2 (Int.le_of_eq ?_))
   grind
  have e3 : 2 * (2 * (u.natAbs : Int) * R) = 2 * (u.natAbs : Int) * (2 * R) := by grind
  rw [e3] at this
  have := Int.le_of_mul_le_mul_right this (by omega)
  omega
 rw [e]
 split <;> omega
theorem quarter_est {R S t : Int} (hR : 128 <= R) (hS : 0 <= S) (h1 : S * S <= 2 * (R * R)) (h : 2 * R * (R * R) - 2 * (R + 1) * (S + 2 * R + 1) <= 2 * S * t) (ht : 0 < t) : R * R <= 2 * t := by
 by_cases c : R * R <= 2 * t
 ·exact c
 ·exfalso
  have s2 : 2 * S <= 3 * R := by
   refine Qgp (by omega) ?_
   have e1 : 2 * S * (2 * S) = 4 * (S * S) := by grind
   have e2 : 3 * R * (3 * R) = 9 * (R * R) := by grind
   have := Qe3 R
   omega
  have k1 : 2 * S * t <= S * (R * R) := by
   have : S * (2 * t) <= S * (R * R) := Int.mul_le_mul_of_nonneg_left (by omega) hS
   have e : 2 * S * t = S * (2 * t) := by grind
   omega
  have k2 : S * (R * R) * 2 <= 3 * R * (R * R) := by
   have : 2 * S * (R * R) <= 3 * R * (R * R) := Int.mul_le_mul_of_nonneg_right s2 (Qe3 R)
   have e : S * (R * R) * 2 = 2 * S * (R * R) := by grind
   omega
  have k3 : 2 * (2 * (R + 1) * (S + 2 * R + 1)) <= 2 * (R + 1) * (7 * R + 2) := by
   have : 2 * (R + 1) * (2 * (S + 2 * R + 1)) <= 2 * (R + 1) * (7 * R + 2) := Int.mul_le_mul_of_nonneg_left (by omega) (by omega)
   have e : 2 * (2 * (R + 1) * (S + 2 * R + 1)) = 2 * (R + 1) * (2 * (S + 2 * R + 1)) := by grind
   omega
  have e1 : 2 * R * (R * R) * 2 = 4 * (R * R * R) := by grind
  have e2 : 3 * R * (R * R) = 3 * (R * R * R) := by grind
  have e3 : 2 * (R + 1) * (7 * R + 2) = 14 * (R * R) + 18 * R + 4 := by grind
  have k4 : 128 * (R * R) <= R * R * R := by
   have := Int.mul_le_mul_of_nonneg_right hR (Qe3 R)
   have e : R * (R * R) = R * R * R := by grind
   omega
  have k5 : 128 * R <= R * R := Int.mul_le_mul_of_nonneg_right hR (by omega)
  omega
theorem quarter_leaf {dir R : Int} (hd : dir = 1 \/ dir = -1) {x y : Spk} (hx : Sp x) (hy : Sp y) (hxr : x.r = R) (hyr : y.r = R) (sx : sq2 x.u x.w = R * R) (sy : sq2 y.u y.w = R * R) (hdt : dt2 x.u x.w y.u y.w = 0) (hX : crs x.u x.w y.u y.w * dir = R * R)
  (h13 : 9 ^ 13 * ((R + 1) * (R + 1)) <= 16 ^ 13 * (32 * R - 64)) : Qjd (Leaf dir) x (pcsL dir 14 false x y) := by
 have hR := hx.r
 rw [hxr] at hR
 have h64 : ((x.r - y.r).natAbs : Int) <= 64 := by rw [hxr, hyr]; omega
 have hmn : mn x.r y.r = R := by rw [hxr, hyr]; unfold mn; split <;> rfl
 have hhf : hf x.r y.r = R := by rw [hxr, hyr]; unfold hf; omega
 have hRR : 128 * R <= R * R := Int.mul_le_mul_of_nonneg_right hR (by omega)
 obtain ⟨m1, m2, m3, m4, m5⟩ := mid_across hd hx hy h64 (by omega)
 obtain ⟨-, -, a3⟩ := across_more hd hx hy h64 (by omega)
 obtain ⟨g1, g2⟩ := a3 (by rw [hmn, hX]; omega)
 rw [pcsL]
 by_cases c : setS x y dir false
 ·rw [if_pos c]; exact ⟨⟨hx, hy, c.2.1, c.2.2⟩, trivial⟩
 rw [if_neg c]
 -- how near the middle is
 have hdd := dir_sq hd
 have eM : midD x y dir false = (dir * (y.w - x.w), dir * (x.u - y.u)) := by
  unfold midD
  rw [if_neg (by simp), if_neg (fun g => by omega), if_neg (fun g => by omega)]
 have eN : sq2 (dir * (y.w - x.w)) (dir * (x.u - y.u)) = 2 * (R * R) := by
  have : sq2 (dir * (y.w - x.w)) (dir * (x.u - y.u)) = dir * dir * sq2 (x.u - y.u) (x.w - y.w) := by unfold sq2; grind
  rw [this, hdd, Int.one_mul, eq_D, sx, sy, hdt]; omega
 have eE : crs x.w (-x.u) (dir * (y.w - x.w)) (dir * (x.u - y.u)) * 1 = R * R := by
  rw [<- hX]; unfold crs; grind
 have eE2 : crs y.w (-y.u) (dir * (y.w - x.w)) (dir * (x.u - y.u)) * 1 = R * R := by
  rw [<- hX]; unfold crs; grind
 obtain ⟨hu, hw⟩ := bd_a hx.ok hy.ok hd
 have h0 : ¬ (dir * (y.w - x.w) = 0 /\ dir * (x.u - y.u) = 0) := by
  rintro ⟨q1, q2⟩
  rw [q1, q2] at eN
  have : sq2 0 0 = 0 := rfl
  omega
 obtain ⟨-, s2⟩ := sp_mid hx hy hu hw h0
 have emid : midS x y dir false = ⟨Qc1 (dir * (y.w - x.w)) R (sq2 (dir * (y.w - x.w)) (dir * (x.u - y.u))), Qc1 (dir * (x.u - y.u)) R (sq2 (dir * (y.w - x.w)) (dir * (x.u - y.u))), R, hf x.h y.h⟩ := by
  unfold midS; rw [eM]; rw [hhf] at s2; exact s2
 obtain ⟨S, r1, r2, r3⟩ := root_bd hu hw
 have hR5 : 1 <= R /\ R <= 50000000 := ⟨by omega, by have := hx.ok.2.2.1.2; omega⟩
 have cx := comp_sum (M := R) (by omega) (show sq2 x.u x.w <= R * R by omega)
 have cy := comp_sum (M := R) (by omega) (show sq2 y.u y.w <= R * R by omega)
 have q1 := side_q (p := x.w) (q := -x.u) (dir := 1) (.inl rfl) hu hw hR5 h0 ⟨r1, r2, r3⟩
 have q2 := side_q (p := y.w) (q := -y.u) (dir := 1) (.inl rfl) hu hw hR5 h0 ⟨r1, r2, r3⟩
 rw [eE, <- dt_crs] at q1
 rw [eE2, <- dt_crs] at q2
 have em1 : (midS x y dir false).u = Qc1 (dir * (y.w - x.w)) R (sq2 (dir * (y.w - x.w)) (dir * (x.u - y.u))) := by rw [emid]
 have em2 : (midS x y dir false).w = Qc1 (dir * (x.u - y.u)) R (sq2 (dir * (y.w - x.w)) (dir * (x.u - y.u))) := by rw [emid]
 rw [<- em1, <- em2] at q1 q2
 rw [eN] at r2
 have hM := m1.norm.2
 rw [m2, hhf] at hM
 have n1 : ((-x.u).natAbs : Int) = x.u.natAbs := by omega
 have n2 : ((-y.u).natAbs : Int) = y.u.natAbs := by omega
 rw [n1] at q1
 rw [n2] at q2
 have b1 : ((x.w.natAbs : Int) + x.u.natAbs) * (S + 2 * R + 1) <= 2 * (R + 1) * (S + 2 * R + 1) := Int.mul_le_mul_of_nonneg_right (by omega) (by omega)
 have b2 : ((y.w.natAbs : Int) + y.u.natAbs) * (S + 2 * R + 1) <= 2 * (R + 1) * (S + 2 * R + 1) := Int.mul_le_mul_of_nonneg_right (by omega) (by omega)
 have eswap : dt2 y.u y.w (midS x y dir false).u (midS x y dir false).w = dt2 (midS x y dir false).u (midS x y dir false).w y.u y.w := by unfold dt2; grind
 rw [eswap] at q2
 have t1 := quarter_est hR r1 r2 (by omega) g1
 have t2 := quarter_est hR r1 r2 (by omega) g2
 generalize midS x y dir false = m at *
 obtain ⟨f1, f2⟩ := half_d m2 h64
 have hmr : m.r = R := by rw [m2, hhf]
 have p9 : (0 : Int) <= 9 ^ 13 := by decide
 have key : ∀ D : Int, D <= (R + 1) * (R + 1) -> 9 ^ 13 * D <= 16 ^ 13 * (32 * R - 64) := fun D hD => Int.le_trans (Int.mul_le_mul_of_nonneg_left hD p9) h13
 refine pairs_cut (along_leaf (thr := 32 * R - 64) hd 13 hx m1 m4 g1 f1 (by rw [hxr, hmr]; unfold mn; split <;> omega) (key _ (by rw [eq_D]; omega))) (along_leaf (thr := 32 * R - 64) hd 13 m1 hy m5 g2 f2 (by rw [hyr, hmr]; unfold mn; split <;> omega) (key _ (by rw [eq_D]; omega)))
theorem half_leaf {dir R : Int} (hd : dir = 1 \/ dir = -1) {x y : Spk} (hx : Sp x) (hy : Sp y) (hxr : x.r = R) (hyr : y.r = R) (sx : sq2 x.u x.w = R * R) (hyx : y.u = -x.u /\ y.w = -x.w)
  (h13 : 9 ^ 13 * ((R + 1) * (R + 1)) <= 16 ^ 13 * (32 * R - 64)) : Qjd (Leaf dir) x (pcsL dir 15 false x y) := by
 have hR := hx.r
 rw [hxr] at hR
 have hRR : 0 < R * R := Int.mul_pos (by omega) (by omega)
 have hdt : dt2 x.u x.w y.u y.w = -(R * R) := by rw [hyx.1, hyx.2, <- sx]; unfold dt2 sq2; grind
 have hcr : crs x.u x.w y.u y.w = 0 := by rw [hyx.1, hyx.2]; unfold crs; grind
 have hhf : hf x.r y.r = R := by rw [hxr, hyr]; unfold hf; omega
 rw [pcsL, if_neg (fun c : setS x y dir false => by have := c.2.1; rw [hcr] at this; simp at this)]
 have hb := hx.ok
 have eM : midD x y dir false = (2 * (-(dir * x.w)), 2 * (dir * x.u)) := by
  unfold midD
  rw [if_neg (by simp), if_neg (fun g => by omega), if_neg (fun g => by omega), hyx.1, hyx.2]
  congr 1 <;> grind
 have hdd := dir_sq hd
 have eN : sq2 (2 * (-(dir * x.w))) (2 * (dir * x.u)) = 4 * (R * R) := by
  have : sq2 (2 * (-(dir * x.w))) (2 * (dir * x.u)) = 4 * (dir * dir * sq2 x.u x.w) := by unfold sq2; grind
  rw [this, hdd, Int.one_mul, sx]
 have h0 : ¬ (2 * (-(dir * x.w)) = 0 /\ 2 * (dir * x.u) = 0) := by
  rintro ⟨q1, q2⟩
  rw [q1, q2] at eN
  have : sq2 0 0 = 0 := rfl
  omega
 have bu : (2 * (-(dir * x.w))).natAbs <= 100000000 := by have := hb.2.1; rcases hd with rfl | rfl <;> omega
 have bw : (2 * (dir * x.u)).natAbs <= 100000000 := by have := hb.1; rcases hd with rfl | rfl <;> omega
 obtain ⟨s1, s2⟩ := sp_mid hx hy bu bw h0
 obtain ⟨c1, c2⟩ := sq2_sq x.u x.w
 have hR5 : 1 <= R /\ R <= 50000000 := ⟨by omega, by have := hb.2.2.1.2; omega⟩
 have sqd : ∀ z : Int, (dir * z) * (dir * z) = z * z := fun z => by
  have : (dir * z) * (dir * z) = dir * dir * (z * z) := by grind
  rw [this, hdd, Int.one_mul]
 have sqw : -(dir * x.w) * -(dir * x.w) <= R * R := by
  have h1 := sqd x.w
  have e : -(dir * x.w) * -(dir * x.w) = (dir * x.w) * (dir * x.w) := by grind
  omega
 have n1 := near_two (u := -(dir * x.w)) (R := R) bu hR5 sqw
 have n2 := near_two (u := dir * x.u) (R := R) bw hR5 (by have := sqd x.u; omega)
 rw [hhf, eN, n1, n2] at s2
 have emid : midS x y dir false = midOf x y (2 * (-(dir * x.w))) (2 * (dir * x.u)) := by unfold midS; rw [eM]
 rw [emid]
 generalize midOf x y (2 * (-(dir * x.w))) (2 * (dir * x.u)) = m at *
 have mu : m.u = -(dir * x.w) := by rw [s2]
 have mw : m.w = dir * x.u := by rw [s2]
 have mr : m.r = R := by rw [s2]
 have sm : sq2 m.u m.w = R * R := by
  rw [mu, mw, <- sx]
  unfold sq2
  have a := sqd x.u
  have b := sqd x.w
  have e : -(dir * x.w) * -(dir * x.w) = (dir * x.w) * (dir * x.w) := by grind
  omega
 have sy : sq2 y.u y.w = R * R := by rw [hyx.1, hyx.2, <- sx]; unfold sq2; grind
 refine pairs_cut (quarter_leaf hd hx s1 hxr mr sx sm ?_ ?_ h13) (quarter_leaf hd s1 hy mr hyr sm sy ?_ ?_ h13)
 ·rw [mu, mw]; unfold dt2; grind
 ·rw [mu, mw, <- sx]
  have : crs x.u x.w (-(dir * x.w)) (dir * x.u) * dir = dir * dir * sq2 x.u x.w := by unfold crs sq2; grind
  rw [this, hdd, Int.one_mul]
 ·rw [mu, mw, hyx.1, hyx.2]; unfold dt2; grind
 ·rw [mu, mw, hyx.1, hyx.2, <- sx]
  have : crs (-(dir * x.w)) (dir * x.u) (-x.u) (-x.w) * dir = dir * dir * sq2 x.u x.w := by unfold crs sq2; grind
  rw [this, hdd, Int.one_mul]
theorem full_leaf {dir R : Int} (hd : dir = 1 \/ dir = -1) {x y : Spk} (hx : Sp x) (hy : Sp y) (hxr : x.r = R) (hyr : y.r = R) (sx : sq2 x.u x.w = R * R) (hyx : y.u = x.u /\ y.w = x.w)
  (h13 : 9 ^ 13 * ((R + 1) * (R + 1)) <= 16 ^ 13 * (32 * R - 64)) : Qjd (Leaf dir) x (pcsL dir 16 true x y) := by
 have hR := hx.r
 rw [hxr] at hR
 have hRR : 0 < R * R := Int.mul_pos (by omega) (by omega)
 rw [pcsL, if_neg (fun c : setS x y dir true => by cases c.1)]
 have hb := hx.ok
 have eN : sq2 (-x.u) (-x.w) = R * R := by rw [<- sx]; unfold sq2; grind
 have h0 : ¬ (-x.u = 0 /\ -x.w = 0) := by
  rintro ⟨q1, q2⟩
  rw [q1, q2] at eN
  have : sq2 0 0 = 0 := rfl
  omega
 obtain ⟨s1, s2⟩ := sp_mid hx hy (u := -x.u) (w := -x.w) (by have := hb.1; omega) (by have := hb.2.1; omega) h0
 obtain ⟨q1, q2⟩ := sq2_sq (-x.u) (-x.w)
 rw [eN] at q1 q2
 have hhf : hf x.r y.r = R := by rw [hxr, hyr]; unfold hf; omega
 have hR5 : 1 <= R /\ R <= 50000000 := ⟨by omega, by have := hb.2.2.1.2; omega⟩
 have n1 := near_exact (u := -x.u) (R := R) (by have := hb.1; omega) hR5 q1
 have n2 := near_exact (u := -x.w) (R := R) (by have := hb.2.1; omega) hR5 q2
 rw [hhf, eN, n1, n2] at s2
 have eM : midS x y dir true = midOf x y (-x.u) (-x.w) := by
  unfold midS midD
  rw [if_pos rfl]
 rw [eM]
 generalize midOf x y (-x.u) (-x.w) = m at *
 have mu : m.u = -x.u := by rw [s2]
 have mw : m.w = -x.w := by rw [s2]
 have mr : m.r = R := by rw [s2]
 have sm : sq2 m.u m.w = R * R := by rw [mu, mw]; exact eN
 exact pairs_cut (half_leaf hd hx s1 hxr mr sx ⟨mu, mw⟩ h13) (half_leaf hd s1 hy mr hyr sm ⟨by rw [hyx.1, mu]; omega, by rw [hyx.2, mw]; omega⟩ h13)
end Go.Bm
/- a point of a chord of a made arc is on the arc, but for 7 -/
set_option maxRecDepth 100000
namespace Go.Bm
open Classical

def SecPair (a b : Spk) (dir : Int) (x y : Spk) : Prop :=
 if 0 < crs a.u a.w b.u b.w * dir then (0 <= crs a.u a.w x.u x.w * dir /\ 0 <= crs x.u x.w b.u b.w * dir) /\ (0 <= crs a.u a.w y.u y.w * dir /\ 0 <= crs y.u y.w b.u b.w * dir)
 else (0 <= crs a.u a.w x.u x.w * dir /\ 0 <= crs a.u a.w y.u y.w * dir) \/ (0 <= crs x.u x.w b.u b.w * dir /\ 0 <= crs y.u y.w b.u b.w * dir)
theorem pairs_mem {Q : Spk -> Prop} : ∀ {x : Spk} {l : List Spk}, Q x -> (∀ q ∈ l, Q q) -> Qjd (fun a b => Q a /\ Q b) x l
 | _, [], _, _ => trivial
 | _, y :: _, hx, hq => ⟨⟨hx, hq y (by simp)⟩, pairs_mem (hq y (by simp)) fun q hm => hq q (by simp [hm])⟩
theorem pairs_both {P Q : Spk -> Spk -> Prop} : ∀ {x : Spk} {l : List Spk}, Qjd P x l -> Qjd Q x l -> Qjd (fun a b => P a b /\ Q a b) x l
 | _, [], _, _ => trivial
 | _, _ :: _, h, g => ⟨⟨h.1, g.1⟩, pairs_both h.2 g.2⟩
theorem crs_self (a b : Int) : crs a b a b = 0 := by unfold crs; grind
theorem sec_pairs {dir : Int} (hd : dir = 1 \/ dir = -1) (k : Nat) {a b : Spk} (ha : Sp a) (hb : Sp b) (h64 : ((a.r - b.r).natAbs : Int) <= 64) (hdt : dt2 a.u a.w b.u b.w <= 0) : Qjd (SecPair a b dir) a (pcsL dir (k + 1) false a b) := by
 by_cases hX : 0 < crs a.u a.w b.u b.w * dir
 ·have h := pairs_mem (Q := fun q => 0 <= crs a.u a.w q.u q.w * dir /\ 0 <= crs q.u q.w b.u b.w * dir) (x := a) (l := pcsL dir (k + 1) false a b) ⟨by rw [crs_self]; simp, by omega⟩ fun q hq => (cone_in hd (k + 1) ha hb hX (.inr ⟨h64, hdt⟩) q hq).2
  refine pairs_mono (fun x y g => ?_) h
  unfold SecPair
  rw [if_pos hX]
  exact g
 ·rw [pcsL, if_neg (fun c : setS a b dir false => hX c.2.1)]
  obtain ⟨m1, m2, m3, m4, m5⟩ := mid_across hd ha hb h64 hdt
  generalize midS a b dir false = m at *
  obtain ⟨d1, d2⟩ := half_d m2 h64
  have e1 := pairs_mem (Q := fun q => 0 <= crs a.u a.w q.u q.w * dir) (x := a) (l := pcsL dir k false a m) (show 0 <= crs a.u a.w a.u a.w * dir by rw [crs_self]; simp) fun q hq => (cone_in hd k ha m1 m4 (.inl d1) q hq).2.1
  have e2 := pairs_mem (Q := fun q => 0 <= crs q.u q.w b.u b.w * dir) (x := m) (l := pcsL dir k false m b) (show 0 <= crs m.u m.w b.u b.w * dir by omega) fun q hq => (cone_in hd k m1 hb m5 (.inl d2) q hq).2.2
  refine pairs_cut (pairs_mono (fun x y g => ?_) e1) (pairs_mono (fun x y g => ?_) e2)
  ·unfold SecPair; rw [if_neg hX]; exact .inl g
  ·unfold SecPair; rw [if_neg hX]; exact .inr g
structure ArcMore (it : Itm) (R0 : Int) : Prop where
 le : R0 <= 48112
 shape : it.full = false -> dt2 (endS it it.fr).u (endS it it.fr).w (endS it it.to).u (endS it it.to).w = 0 \/ (crs (endS it it.fr).u (endS it it.fr).w (endS it it.to).u (endS it it.to).w = 0 /\ dt2 (endS it it.fr).u (endS it it.fr).w (endS it it.to).u (endS it it.to).w < 0)
theorem rot_shape {r s k t : Int} (hr : 0 < r) (hs : 0 < s) (hk : 0 <= k /\ k <= 3) (ht : 1 <= t /\ t <= 3) : dt2 (rotU r k) (rotW r k) (rotU s (k + t)) (rotW s (k + t)) = 0 \/ (crs (rotU r k) (rotW r k) (rotU s (k + t)) (rotW s (k + t)) = 0 /\ dt2 (rotU r k) (rotW r k) (rotU s (k + t)) (rotW s (k + t)) < 0) := by
 have hp := Int.mul_pos hr hs
 have hk' : k = 0 \/ k = 1 \/ k = 2 \/ k = 3 := by omega
 have ht' : t = 1 \/ t = 2 \/ t = 3 := by omega
 rcases hk' with rfl | rfl | rfl | rfl <;> rcases ht' with rfl | rfl | rfl <;> simp [dt2, crs, rotU, rotW, Int.mul_neg, Int.neg_mul] <;> omega
theorem arc_more {size : Int} {it : Itm} (h : ArcMade size it) (hs : size <= 3000) {R0 R1 : Int} (he : ArcEnds it R0 R1) : ArcMore it R0 := by
 obtain ⟨r, k, t, g, x, h1, h2, h3, h4, h5, h6, h7, h8, h9, h10, h11, h12, h13⟩ := h.ends
 have hp := h.plane
 have a1 : dU it it.fr = rotU r k := by unfold dU; rw [h12, (pl_sp hp).1]; omega
 have a2 : dW it it.fr = rotW r k := by unfold dW; rw [h12, (pl_sp hp).2.1]; omega
 have a3 : dU it it.to = rotU (r + g) (k + t) := by unfold dU; rw [h12, h13, (pl_sp hp).1, (pl_sp hp).1]; omega
 have a4 : dW it it.to = rotW (r + g) (k + t) := by unfold dW; rw [h12, h13, (pl_sp hp).2.1, (pl_sp hp).2.1]; omega
 have e1 : sq2 (dU it it.fr * 16) (dW it it.fr * 16) = (16 * r) * (16 * r) := by
  have : sq2 (dU it it.fr * 16) (dW it it.fr * 16) = 256 * sq2 (dU it it.fr) (dW it it.fr) := by unfold sq2; grind
  rw [this, a1, a2, rot_sq]; grind
 refine ⟨?_, fun hf => ?_⟩
 ·have : (endS it it.fr).r = 16 * r := by unfold endS; simp only; rw [e1, midR_sq (by omega)]
  have := he.ra.1
  omega
 ·rw [h11] at hf
  have ht := of_decide_eq_false hf
  show dt2 (dU it it.fr * 16) (dW it it.fr * 16) (dU it it.to * 16) (dW it it.to * 16) = 0 \/ (crs (dU it it.fr * 16) (dW it it.fr * 16) (dU it it.to * 16) (dW it it.to * 16) = 0 /\ dt2 (dU it it.fr * 16) (dW it it.fr * 16) (dU it it.to * 16) (dW it it.to * 16) < 0)
  have e3 : dt2 (dU it it.fr * 16) (dW it it.fr * 16) (dU it it.to * 16) (dW it it.to * 16) = 256 * dt2 (dU it it.fr) (dW it it.fr) (dU it it.to) (dW it it.to) := by unfold dt2; grind
  have e4 : crs (dU it it.fr * 16) (dW it it.fr * 16) (dU it it.to * 16) (dW it it.to * 16) = 256 * crs (dU it it.fr) (dW it it.fr) (dU it it.to) (dW it it.to) := by unfold crs; grind
  have := rot_shape (r := r) (s := r + g) (k := k) (t := t) (by omega) (by omega) ⟨h3, h4⟩ (by omega)
  rw [e3, e4, a1, a2, a3, a4]
  omega
theorem depth_num {R0 R1 : Int} (h : 128 <= R0 /\ R0 <= R1 /\ R1 <= R0 + 64) (hl : R0 <= 48112) : (9 : Int) ^ 14 * (2 * ((R1 + 1) * (R1 + 1))) <= 16 ^ 14 * (32 * R0 - 64) /\ (9 : Int) ^ 15 * (2 * ((R1 + 1) * (R1 + 1))) <= 16 ^ 15 * (32 * R0 - 64) /\ (9 : Int) ^ 13 * ((R0 + 1) * (R0 + 1)) <= 16 ^ 13 * (32 * R0 - 64) := by
 have k1 : (R1 + 1) * (R1 + 1) <= (R0 + 65) * (R0 + 65) := Int.mul_self_le_mul_self (by omega) (by omega)
 have e1 : (R0 + 65) * (R0 + 65) = R0 * R0 + 130 * R0 + 4225 := by grind
 have e2 : (R0 + 1) * (R0 + 1) = R0 * R0 + 2 * R0 + 1 := by grind
 have k2 : R0 * R0 <= 48112 * R0 := Int.mul_le_mul_of_nonneg_right hl (by omega)
 have p1 : (9 : Int) ^ 14 = 22876792454961 := by decide
 have p2 : (16 : Int) ^ 14 = 72057594037927936 := by decide
 have p3 : (9 : Int) ^ 15 = 205891132094649 := by decide
 have p4 : (16 : Int) ^ 15 = 1152921504606846976 := by decide
 have p5 : (9 : Int) ^ 13 = 2541865828329 := by decide
 have p6 : (16 : Int) ^ 13 = 4503599627370496 := by decide
 rw [p1, p2, p3, p4, p5, p6]
 omega
abbrev PairOK (it : Itm) (x y : Spk) : Prop := Leaf it.dir x y /\ (Btw (endS it it.fr) (endS it it.to) x /\ Btw (endS it it.fr) (endS it it.to) y) /\ (it.full = true \/ SecPair (endS it it.fr) (endS it it.to) it.dir x y)
theorem arc_pairs {it : Itm} {R0 R1 : Int} (hd : it.dir = 1 \/ it.dir = -1) (h : ArcEnds it R0 R1) (hm : ArcMore it R0) : Qjd (PairOK it) (endS it it.fr) (pcsL it.dir 16 it.full (endS it it.fr) (endS it it.to)) := by
 have hle := h.le
 have hra := h.ra
 have hrb := h.rb
 obtain ⟨n1, n2, n3⟩ := depth_num hle hm.le
 have hB := pairs_mem (Q := fun q => Btw (endS it it.fr) (endS it it.to) q) (x := endS it it.fr) (l := pcsL it.dir 16 it.full (endS it it.fr) (endS it it.to)) (btw_left h.a) fun q hq => (spokes_in hd h q (List.mem_cons_of_mem _ hq)).1
 by_cases hf : it.full = true
 ·have g := h.full hf
  have hL : Qjd (Leaf it.dir) (endS it it.fr) (pcsL it.dir 16 it.full (endS it it.fr) (endS it it.to)) := by
   rw [hf]
   exact full_leaf hd h.a h.b hra.1 (by rw [hrb.1, g.2.2]) hra.2 ⟨g.1, g.2.1⟩ n3
  exact pairs_mono (fun x y k => ⟨k.1, k.2, .inl hf⟩) (pairs_both hL hB)
 ·have hf' : it.full = false := by simpa using hf
  have hdt := h.part hf'
  have h64 : (((endS it it.fr).r - (endS it it.to).r).natAbs : Int) <= 64 := by rw [hra.1, hrb.1]; omega
  rw [hf'] at hB ⊢
  have hsq : (R0 + 1) * (R0 + 1) <= (R1 + 1) * (R1 + 1) := Int.mul_self_le_mul_self (by omega) (by omega)
  have hL := part_leaf (thr := 32 * R0 - 64) (N := (R1 + 1) * (R1 + 1)) hd h.a h.b h64 hdt (by rw [hra.1, hrb.1]; unfold mn; split <;> omega) ⟨by rw [hra.1]; exact hsq, by rw [hrb.1]; exact Int.le_refl _⟩ n1 n2
  have hS := sec_pairs hd 15 h.a h.b h64 hdt
  exact pairs_mono (fun x y k => ⟨k.1.1, k.1.2, .inr k.2⟩) (pairs_both (pairs_both hL hB) hS)
end Go.Bm
/- points of chords of any length: near the arc -/
set_option maxRecDepth 100000
namespace Go.Bm
open Classical

theorem eps_L {L u w : Int} (hL : 0 < L) (hu : -L <= 2 * u /\ 2 * u <= L) (hw : -L <= 2 * w /\ 2 * w <= L) : 2 * sq2 u w <= L * L := by
 have k : ∀ x : Int, -L <= 2 * x /\ 2 * x <= L -> 4 * (x * x) <= L * L := fun x h => by
  have : 0 <= (L - 2 * x) * (L + 2 * x) := Int.mul_nonneg (by omega) (by omega)
  have e : (L - 2 * x) * (L + 2 * x) = L * L - 4 * (x * x) := by grind
  omega
 have := k u hu
 have := k w hw
 unfold sq2; omega
theorem normL {A B d D p M s V L : Int} (hD : D = A + B - 2 * d) (hL : 0 < L) (hs : 0 <= s /\ s <= L) (hV : V = (L - s) * (L - s) * A + s * s * B + 2 * (s * (L - s)) * d) (hA : (p - 1) * (p - 1) <= A /\ A <= M * M) (hB : (p - 1) * (p - 1) <= B /\ B <= M * M)
  (hp : 128 <= p) (h0 : 0 <= D) (h1 : D <= 32 * p - 64) : (L * (p - 6)) * (L * (p - 6)) <= V /\ V <= (L * M) * (L * M) := by
 have e1 : V = L * ((L - s) * A) + L * (s * B) - s * (L - s) * D := by rw [hV, hD]; grind
 have m0 : 0 <= s * (L - s) := Int.mul_nonneg hs.1 (by omega)
 have m1 : 4 * (s * (L - s)) <= L * L := by
  have := Qe3 (2 * s - L)
  have e : (2 * s - L) * (2 * s - L) = L * L - 4 * (s * (L - s)) := by grind
  omega
 have q0 : 0 <= s * (L - s) * D := Int.mul_nonneg m0 h0
 have q1 : 4 * (s * (L - s)) * D <= L * L * (32 * p - 64) := Int.mul_le_mul m1 h1 h0 (Qe3 L)
 have q2 : 4 * (s * (L - s)) * D = 4 * (s * (L - s) * D) := by grind
 have q3 : L * L * (32 * p - 64) = 4 * (L * L * (8 * p - 16)) := by grind
 have a1 : L * ((L - s) * ((p - 1) * (p - 1))) <= L * ((L - s) * A) := Int.mul_le_mul_of_nonneg_left (Int.mul_le_mul_of_nonneg_left hA.1 (by omega)) (by omega)
 have a2 : L * (s * ((p - 1) * (p - 1))) <= L * (s * B) := Int.mul_le_mul_of_nonneg_left (Int.mul_le_mul_of_nonneg_left hB.1 hs.1) (by omega)
 have a3 : L * ((L - s) * A) <= L * ((L - s) * (M * M)) := Int.mul_le_mul_of_nonneg_left (Int.mul_le_mul_of_nonneg_left hA.2 (by omega)) (by omega)
 have a4 : L * (s * B) <= L * (s * (M * M)) := Int.mul_le_mul_of_nonneg_left (Int.mul_le_mul_of_nonneg_left hB.2 hs.1) (by omega)
 have e2 : L * ((L - s) * ((p - 1) * (p - 1))) + L * (s * ((p - 1) * (p - 1))) = L * L * ((p - 1) * (p - 1)) := by grind
 have e3 : L * ((L - s) * (M * M)) + L * (s * (M * M)) = (L * M) * (L * M) := by grind
 constructor
 ·have e4 : L * L * ((p - 1) * (p - 1)) - L * L * (8 * p - 16) - (L * (p - 6)) * (L * (p - 6)) = L * L * (2 * p - 19) := by grind
  have e5 : 0 <= L * L * (2 * p - 19) := Int.mul_nonneg (Qe3 L) (by omega)
  omega
 ·omega
theorem aboveL {R0 R1 p M V Q vu vw qu qw L : Int} (hL : 0 < L) (hV : V = sq2 vu vw) (hQ : Q = sq2 qu qw) (h0 : 128 <= R0 /\ R0 <= R1) (hp : R0 <= p) (hM : M = R1 + 1) (hv : (L * (p - 6)) * (L * (p - 6)) <= V /\ V <= (L * M) * (L * M))
  (hu : -L <= 2 * (L * qu - vu) /\ 2 * (L * qu - vu) <= L) (hw : -L <= 2 * (L * qw - vw) /\ 2 * (L * qw - vw) <= L) : (R0 - 7) * (R0 - 7) <= Q /\ aboveP (R0 * R0) Q 7 /\ aboveP Q (R1 * R1) 7 := by
 have he := eps_L hL hu hw
 have he2 := eps_L (u := vu - L * qu) (w := vw - L * qw) hL (by omega) (by omega)
 have hLL : 0 < L * L := Int.mul_pos hL hL
 have b3 : ∀ u w : Int, 2 * sq2 u w <= L * L -> sq2 (4 * u) (4 * w) <= (3 * L) * (3 * L) := fun u w h => by
  rw [sq2_scale]
  have e : (3 * L) * (3 * L) = 9 * (L * L) := by grind
  omega
 have k1 : (R0 - 7) * (R0 - 7) <= Q := by
  by_cases c : (R0 - 7) * (R0 - 7) <= Q
  ·exact c
  ·exfalso
   have c2 : sq2 (4 * (L * qu)) (4 * (L * qw)) <= (4 * L * (p - 7)) * (4 * L * (p - 7)) := by
    have h3 : (R0 - 7) * (R0 - 7) <= (p - 7) * (p - 7) := Int.mul_self_le_mul_self (by omega) (by omega)
    have e : (4 * L * (p - 7)) * (4 * L * (p - 7)) = 16 * (L * L) * ((p - 7) * (p - 7)) := by grind
    have e2 : sq2 (4 * (L * qu)) (4 * (L * qw)) = 16 * (L * L) * Q := by rw [hQ]; unfold sq2; grind
    rw [e, e2]
    exact Int.mul_le_mul_of_nonneg_left (by omega) (by omega)
   have t := tri (x := 4 * (vu - L * qu)) (y := 4 * (vw - L * qw)) (b := 3 * L) (Int.mul_nonneg (by omega) (by omega)) (by omega) c2 (b3 _ _ he2)
   rw [show 4 * (L * qu) + 4 * (vu - L * qu) = 4 * vu by omega, show 4 * (L * qw) + 4 * (vw - L * qw) = 4 * vw by omega, sq2_scale, <- hV] at t
   have e3 : 4 * L * (p - 7) + 3 * L = L * (4 * p - 25) := by grind
   rw [e3] at t
   have k2 : L * (4 * p - 25) < L * (4 * p - 24) := Int.mul_lt_mul_of_pos_left (by omega) hL
   have t2 : (L * (4 * p - 25)) * (L * (4 * p - 25)) < (L * (4 * p - 24)) * (L * (4 * p - 24)) := Int.mul_self_lt_mul_self (Int.mul_nonneg (by omega) (by omega)) k2
   have e4 : (L * (4 * p - 24)) * (L * (4 * p - 24)) = 4 * 4 * ((L * (p - 6)) * (L * (p - 6))) := by grind
   omega
 have k2 : Q <= (R1 + 3) * (R1 + 3) := by
  have c2 : sq2 (4 * vu) (4 * vw) <= (4 * L * M) * (4 * L * M) := by
   rw [sq2_scale, <- hV]
   have e : (4 * L * M) * (4 * L * M) = 4 * 4 * ((L * M) * (L * M)) := by grind
   omega
  have t := tri (x := 4 * (L * qu - vu)) (y := 4 * (L * qw - vw)) (b := 3 * L) (Int.mul_nonneg (by omega) (by omega)) (by omega) c2 (b3 _ _ he)
  have e2 : sq2 (4 * vu + 4 * (L * qu - vu)) (4 * vw + 4 * (L * qw - vw)) = L * L * (16 * Q) := by rw [hQ]; unfold sq2; grind
  have e3 : (4 * L * M + 3 * L) * (4 * L * M + 3 * L) = L * L * ((4 * M + 3) * (4 * M + 3)) := by grind
  rw [e2, e3] at t
  have t3 := Int.le_of_mul_le_mul_left t hLL
  have t4 : (4 * M + 3) * (4 * M + 3) <= (4 * (R1 + 3)) * (4 * (R1 + 3)) := Int.mul_self_le_mul_self (by omega) (by omega)
  have e5 : (4 * (R1 + 3)) * (4 * (R1 + 3)) = 16 * ((R1 + 3) * (R1 + 3)) := by grind
  omega
 have e1 : (R0 - 7) * (R0 - 7) = R0 * R0 - 14 * R0 + 49 := by grind
 have e2 : (R1 + 3) * (R1 + 3) = R1 * R1 + 6 * R1 + 9 := by grind
 refine ⟨k1, ?_, ?_⟩
 ·unfold aboveP
  by_cases c : R0 * R0 - Q - 7 * 7 <= 0
  ·exact .inl c
  ·right
   have := Int.mul_self_le_mul_self (show 0 <= R0 * R0 - Q - 7 * 7 by omega) (show R0 * R0 - Q - 7 * 7 <= 14 * (R0 - 7) by omega)
   have e3 : 14 * (R0 - 7) * (14 * (R0 - 7)) = 196 * ((R0 - 7) * (R0 - 7)) := by grind
   have e4 : (4 : Int) * 7 * 7 * Q = 196 * Q := by omega
   omega
 ·unfold aboveP
  by_cases c : Q - R1 * R1 - 7 * 7 <= 0
  ·exact .inl c
  ·right
   have := Int.mul_self_le_mul_self (show 0 <= Q - R1 * R1 - 7 * 7 by omega) (show Q - R1 * R1 - 7 * 7 <= 14 * R1 by omega)
   have e3 : 14 * R1 * (14 * R1) = 196 * (R1 * R1) := by grind
   have e4 : (4 : Int) * 7 * 7 * (R1 * R1) = 196 * (R1 * R1) := by omega
   omega
theorem overL {au aw vu vw qu qw dir L : Int} (hL : 0 < L) (hd : dir = 1 \/ dir = -1) (hu : -L <= 2 * (L * qu - vu) /\ 2 * (L * qu - vu) <= L) (hw : -L <= 2 * (L * qw - vw) /\ 2 * (L * qw - vw) <= L) (h1 : 0 <= crs au aw vu vw * dir) (h2 : crs au aw qu qw * dir < 0) :
  crs au aw qu qw * crs au aw qu qw <= 2 * sq2 au aw := by
 have he := eps_L hL hu hw
 have hl := lagr au aw (L * qu - vu) (L * qw - vw)
 have hn := Qe3 (dt2 au aw (L * qu - vu) (L * qw - vw))
 have hA := sq2_ge0 au aw
 have e1 : crs au aw (L * qu - vu) (L * qw - vw) * dir = L * (crs au aw qu qw * dir) - crs au aw vu vw * dir := by unfold crs; grind
 have hle : sq2 au aw * (2 * sq2 (L * qu - vu) (L * qw - vw)) <= sq2 au aw * (L * L) := Int.mul_le_mul_of_nonneg_left he hA
 have hdd := dir_sq hd
 have e2 : ∀ c : Int, c * c = (c * dir) * (c * dir) := fun c => by
  have : (c * dir) * (c * dir) = c * c * (dir * dir) := by grind
  rw [this, hdd, Int.mul_one]
 have hneg : L * (crs au aw qu qw * dir) < 0 := Int.mul_neg_of_pos_of_neg hL h2
 have k := Int.mul_self_le_mul_self (show 0 <= -(L * (crs au aw qu qw * dir)) by omega) (show -(L * (crs au aw qu qw * dir)) <= -(crs au aw (L * qu - vu) (L * qw - vw) * dir) by omega)
 have e3 : -(L * (crs au aw qu qw * dir)) * -(L * (crs au aw qu qw * dir)) = L * L * ((crs au aw qu qw * dir) * (crs au aw qu qw * dir)) := by grind
 have e4 : -(crs au aw (L * qu - vu) (L * qw - vw) * dir) * -(crs au aw (L * qu - vu) (L * qw - vw) * dir) = (crs au aw (L * qu - vu) (L * qw - vw) * dir) * (crs au aw (L * qu - vu) (L * qw - vw) * dir) := by grind
 rw [e3, e4, <- e2, <- e2] at k
 have hLL : 0 < L * L := Int.mul_pos hL hL
 have e5 : sq2 au aw * (2 * sq2 (L * qu - vu) (L * qw - vw)) = 2 * (sq2 au aw * sq2 (L * qu - vu) (L * qw - vw)) := by grind
 have e6 : L * L * (2 * sq2 au aw) = 2 * (sq2 au aw * (L * L)) := by grind
 have hnn : 0 <= sq2 au aw * (L * L) := Int.mul_nonneg hA (Qe3 L)
 exact Int.le_of_mul_le_mul_left (show L * L * (crs au aw qu qw * crs au aw qu qw) <= L * L * (2 * sq2 au aw) by omega) hLL
theorem turnL {au aw bu bw vu vw qu qw dir : Int} (hd : dir = 1 \/ dir = -1) (hA : 0 < sq2 au aw) (hB : 0 < sq2 bu bw) (hs : dt2 au aw bu bw = 0 \/ (crs au aw bu bw = 0 /\ dt2 au aw bu bw < 0))
  (oa : 0 <= crs au aw vu vw * dir -> crs au aw qu qw * dir < 0 -> crs au aw qu qw * crs au aw qu qw <= 2 * sq2 au aw) (ob : 0 <= crs vu vw bu bw * dir -> crs qu qw bu bw * dir < 0 -> crs bu bw qu qw * crs bu bw qu qw <= 2 * sq2 bu bw) (hsec : secP au aw bu bw vu vw dir) (hQ : 4 < sq2 qu qw) :
  Ql2 au aw bu bw qu qw dir \/ rayP au aw qu qw 7 \/ rayP bu bw qu qw 7 := by
 have ray_a : 0 <= dt2 au aw qu qw -> crs au aw qu qw * crs au aw qu qw <= 2 * sq2 au aw -> rayP au aw qu qw 7 := fun h1 h2 => ⟨h1, by omega⟩
 have ray_b : 0 <= dt2 bu bw qu qw -> crs bu bw qu qw * crs bu bw qu qw <= 2 * sq2 bu bw -> rayP bu bw qu qw 7 := fun h1 h2 => ⟨h1, by omega⟩
 have e1 : crs bu bw qu qw = -crs qu qw bu bw := crs_swap _ _ _ _
 have e2 : crs qu qw au aw = -crs au aw qu qw := crs_swap _ _ _ _
 have lab := lagr au aw bu bw
 have hAB : 0 < sq2 au aw * sq2 bu bw := Int.mul_pos hA hB
 rcases hs with hs | ⟨hs, hs2⟩
 · -- a quarter turn, or three of them
  have i1 := id_dot au aw bu bw qu qw
  have i2 := id_crs au aw bu bw qu qw
  have i3 := id_prod au aw bu bw qu qw
  rw [hs, Int.mul_zero, Int.sub_zero] at i1
  rw [hs, Int.zero_mul, Int.zero_add] at i3
  have p1 : dt2 au aw qu qw * (crs au aw bu bw * dir) = sq2 au aw * (crs qu qw bu bw * dir) := by
   rw [<- Int.mul_assoc, i1, Int.mul_assoc]
  have p2 : sq2 au aw * (dt2 bu bw qu qw * (crs au aw bu bw * dir)) = sq2 au aw * (sq2 bu bw * (crs au aw qu qw * dir)) := by
   have hdd := dir_sq hd
   have e3 : sq2 au aw * (dt2 bu bw qu qw * (crs au aw bu bw * dir)) = (sq2 au aw * dt2 bu bw qu qw) * (crs au aw bu bw * dir) := by grind
   have e4 : crs au aw bu bw * crs au aw bu bw = sq2 au aw * sq2 bu bw := by rw [hs] at lab; omega
   rw [e3, i3]
   have e5 : crs au aw bu bw * crs au aw qu qw * (crs au aw bu bw * dir) = (crs au aw bu bw * crs au aw bu bw) * (crs au aw qu qw * dir) := by grind
   rw [e5, e4]; grind
  have p3 := Int.eq_of_mul_eq_mul_left (show sq2 au aw ≠ 0 by omega) p2
  have hc0 : crs au aw bu bw * dir ≠ 0 := by
   intro h
   have h0 : crs au aw bu bw = 0 := by rcases hd with rfl | rfl <;> omega
   rw [hs, h0] at lab
   omega
  by_cases hX : 0 < crs au aw bu bw * dir
  ·unfold secP at hsec
   rw [if_pos hX] at hsec
   by_cases ca : 0 <= crs au aw qu qw * dir
   ·by_cases cb : 0 <= crs qu qw bu bw * dir
    ·left; unfold Ql2; rw [if_pos hX]; exact ⟨ca, cb⟩
    ·right; right
     refine ray_b (nn_of_mul hX ?_) (ob hsec.2 (by omega))
     rw [p3]; exact Int.mul_nonneg (Int.le_of_lt hB) ca
   ·have ra := oa hsec.1 (show crs au aw qu qw * dir < 0 by omega)
    by_cases cb : 0 <= crs qu qw bu bw * dir
    ·right; left
     refine ray_a (nn_of_mul hX ?_) ra
     rw [p1]; exact Int.mul_nonneg (Int.le_of_lt hA) cb
    · -- both are small: the point would be at the center
     exfalso
     have rb := ob hsec.2 (show crs qu qw bu bw * dir < 0 by omega)
     rw [e1] at rb
     have laq := lagr au aw qu qw
     have e4 : crs au aw bu bw * crs au aw bu bw = sq2 au aw * sq2 bu bw := by rw [hs] at lab; omega
     have k1 : dt2 au aw qu qw * dt2 au aw qu qw <= 2 * sq2 au aw := by
      have e6 : dt2 au aw qu qw * dt2 au aw qu qw * (sq2 au aw * sq2 bu bw) = sq2 au aw * sq2 au aw * (crs qu qw bu bw * crs qu qw bu bw) := by
       rw [<- e4]
       have : dt2 au aw qu qw * dt2 au aw qu qw * (crs au aw bu bw * crs au aw bu bw) = (dt2 au aw qu qw * crs au aw bu bw) * (dt2 au aw qu qw * crs au aw bu bw) := by grind
       rw [this, i1]; grind
      have e7 : crs qu qw bu bw * crs qu qw bu bw <= 2 * sq2 bu bw := by
       have : -crs qu qw bu bw * -crs qu qw bu bw = crs qu qw bu bw * crs qu qw bu bw := by grind
       omega
      have e8 : sq2 au aw * sq2 au aw * (crs qu qw bu bw * crs qu qw bu bw) <= sq2 au aw * sq2 au aw * (2 * sq2 bu bw) := Int.mul_le_mul_of_nonneg_left e7 (Qe3 _)
      have e9 : sq2 au aw * sq2 au aw * (2 * sq2 bu bw) = (2 * sq2 au aw) * (sq2 au aw * sq2 bu bw) := by grind
      exact Int.le_of_mul_le_mul_right (show dt2 au aw qu qw * dt2 au aw qu qw * (sq2 au aw * sq2 bu bw) <= (2 * sq2 au aw) * (sq2 au aw * sq2 bu bw) by omega) hAB
     have k2 : sq2 au aw * sq2 qu qw <= sq2 au aw * 4 := by omega
     have := Int.le_of_mul_le_mul_left k2 hA
     omega
  ·have hX2 : crs au aw bu bw * dir < 0 := by omega
   unfold secP at hsec
   rw [if_neg hX] at hsec
   by_cases ca : 0 <= crs au aw qu qw * dir
   ·left; unfold Ql2; rw [if_neg hX, if_neg (fun h => hc0 h.1)]
    right; rw [e2, Int.neg_mul]; omega
   by_cases cb : 0 <= crs qu qw bu bw * dir
   ·left; unfold Ql2; rw [if_neg hX, if_neg (fun h => hc0 h.1)]
    left; rw [e1, Int.neg_mul]; omega
   right
   rcases hsec with h | h
   ·left
    refine ray_a (nn_of_mul_neg hX2 ?_) (oa h (by omega))
    rw [p1]
    have := Int.mul_nonpos_of_nonneg_of_nonpos (Int.le_of_lt hA) (show crs qu qw bu bw * dir <= 0 by omega)
    exact this
   ·right
    refine ray_b (nn_of_mul_neg hX2 ?_) (ob h (by omega))
    rw [p3]
    exact Int.mul_nonpos_of_nonneg_of_nonpos (Int.le_of_lt hB) (show crs au aw qu qw * dir <= 0 by omega)
 · -- a half turn
  have hX : ¬ 0 < crs au aw bu bw * dir := by rw [hs]; simp
  unfold secP at hsec
  rw [if_neg hX] at hsec
  have hv : 0 <= crs au aw vu vw * dir := by
   rcases hsec with h | h
   ·exact h
   ·have i2 := id_dot bu bw au aw vu vw
    rw [crs_swap au aw bu bw, hs] at i2
    have e3 : dt2 bu bw au aw = dt2 au aw bu bw := by unfold dt2; grind
    have e5 : crs bu bw vu vw = -crs vu vw bu bw := crs_swap _ _ _ _
    have e6 : crs vu vw au aw = -crs au aw vu vw := crs_swap _ _ _ _
    rw [e3, e5, e6] at i2
    refine nn_of_mul hB ?_
    have e4 : crs au aw vu vw * dir * sq2 bu bw = -((crs vu vw bu bw * dir) * dt2 au aw bu bw) := by
     have : crs au aw vu vw * dir * sq2 bu bw = -(sq2 bu bw * -crs au aw vu vw * dir) := by grind
     rw [this, <- i2]; grind
    rw [e4]
    have := Int.mul_nonpos_of_nonneg_of_nonpos h (Int.le_of_lt hs2)
    omega
  by_cases ca : 0 <= crs au aw qu qw * dir
  ·left; unfold Ql2; rw [if_neg hX, if_pos ⟨by rw [hs]; simp, hs2⟩]; exact ca
  ·right
   have ra := oa hv (show crs au aw qu qw * dir < 0 by omega)
   by_cases cd : 0 <= dt2 au aw qu qw
   ·exact .inl (ray_a cd ra)
   ·right
    have i3 := id_prod au aw bu bw qu qw
    have i4 := id_crs au aw bu bw qu qw
    rw [hs, Int.zero_mul, Int.add_zero] at i3
    rw [hs, Int.zero_mul, Int.sub_zero] at i4
    have eAB : dt2 au aw bu bw * dt2 au aw bu bw = sq2 au aw * sq2 bu bw := by rw [hs] at lab; omega
    refine ray_b ?_ ?_
    ·have : 0 < sq2 au aw * dt2 bu bw qu qw := by rw [i3]; exact Int.mul_pos_of_neg_of_neg hs2 (by omega)
     have : 0 < dt2 bu bw qu qw := pos_of_mul hA (by rw [Int.mul_comm]; exact this)
     omega
    ·have k1 : (crs bu bw qu qw * crs bu bw qu qw) * (sq2 au aw * sq2 au aw) = (sq2 au aw * sq2 bu bw) * (crs au aw qu qw * crs au aw qu qw) := by
      have : (crs bu bw qu qw * crs bu bw qu qw) * (sq2 au aw * sq2 au aw) = (sq2 au aw * crs bu bw qu qw) * (sq2 au aw * crs bu bw qu qw) := by grind
      rw [this, i4, <- eAB]; grind
     have k2 : (sq2 au aw * sq2 bu bw) * (crs au aw qu qw * crs au aw qu qw) <= (sq2 au aw * sq2 bu bw) * (2 * sq2 au aw) := Int.mul_le_mul_of_nonneg_left ra (Int.le_of_lt hAB)
     have k3 : (sq2 au aw * sq2 bu bw) * (2 * sq2 au aw) = (2 * sq2 bu bw) * (sq2 au aw * sq2 au aw) := by grind
     exact Int.le_of_mul_le_mul_right (show (crs bu bw qu qw * crs bu bw qu qw) * (sq2 au aw * sq2 au aw) <= (2 * sq2 bu bw) * (sq2 au aw * sq2 au aw) by omega) (Int.mul_pos hA hA)
theorem chord_onL {it : Itm} {R0 R1 : Int} (hp : isPl it.plane) (hd : it.dir = 1 \/ it.dir = -1) (h : ArcEnds it R0 R1) (hm : ArcMore it R0) {x y : Spk} (hxy : PairOK it x y) {s L : Int} (hL : 0 < L) (hs : 0 <= s /\ s <= L) {q : Pt}
  (hu : -L <= 2 * (L * (pU it q - x.u) - (y.u - x.u) * s) /\ 2 * (L * (pU it q - x.u) - (y.u - x.u) * s) <= L) (hw : -L <= 2 * (L * (pW it q - x.w) - (y.w - x.w) * s) /\ 2 * (L * (pW it q - x.w) - (y.w - x.w) * s) <= L)
  (hh : -L <= 2 * (L * (plH it.plane q - x.h) - (y.h - x.h) * s) /\ 2 * (L * (plH it.plane q - x.h) - (y.h - x.h) * s) <= L) : onArcP it q 7 := by
 obtain ⟨⟨sx, sy, hX, hfl⟩, ⟨bx, by_⟩, hsec⟩ := hxy
 have hle := h.le
 have hra := h.ra
 have hrb := h.rb
 obtain ⟨vu, hvu⟩ : ∃ v, v = (L - s) * x.u + s * y.u := ⟨_, rfl⟩
 obtain ⟨vw, hvw⟩ : ∃ v, v = (L - s) * x.w + s * y.w := ⟨_, rfl⟩
 have eu : L * pU it q - vu = L * (pU it q - x.u) - (y.u - x.u) * s := by rw [hvu]; grind
 have ew : L * pW it q - vw = L * (pW it q - x.w) - (y.w - x.w) * s := by rw [hvw]; grind
 have eh : L * plH it.plane q = (L - s) * x.h + s * y.h + (L * (plH it.plane q - x.h) - (y.h - x.h) * s) := by grind
 rw [<- eu] at hu
 rw [<- ew] at hw
 have rx := bx.r
 have ry := by_.r
 have hx1 := bx.h
 have hy1 := by_.h
 rw [hra.1, hrb.1] at rx ry
 have hmnr : mn R0 R1 = R0 := by unfold mn; split <;> omega
 have hmxr : mx R0 R1 = R1 := by unfold mx; split <;> omega
 rw [hmnr, hmxr] at rx ry
 have hmc := mn_cases x.r y.r
 have hrx := sx.r
 have hry := sy.r
 have q1 : (mn x.r y.r - 1) * (mn x.r y.r - 1) <= sq2 x.u x.w := Int.le_trans (Int.mul_self_le_mul_self (by omega) (by omega)) sx.norm.1
 have q2 : (mn x.r y.r - 1) * (mn x.r y.r - 1) <= sq2 y.u y.w := Int.le_trans (Int.mul_self_le_mul_self (by omega) (by omega)) sy.norm.1
 have q3 : sq2 x.u x.w <= (R1 + 1) * (R1 + 1) := Int.le_trans sx.norm.2 (Int.mul_self_le_mul_self (by omega) (by omega))
 have q4 : sq2 y.u y.w <= (R1 + 1) * (R1 + 1) := Int.le_trans sy.norm.2 (Int.mul_self_le_mul_self (by omega) (by omega))
 have hV : sq2 vu vw = (L - s) * (L - s) * sq2 x.u x.w + s * s * sq2 y.u y.w + 2 * (s * (L - s)) * dt2 x.u x.w y.u y.w := by rw [hvu, hvw]; unfold sq2 dt2; grind
 have hn := normL (eq_D x y) hL hs hV ⟨q1, q3⟩ ⟨q2, q4⟩ (by omega) (sq2_ge0 _ _) hfl
 obtain ⟨b1, b2, b3⟩ := aboveL hL rfl rfl ⟨hle.1, hle.2.1⟩ (show R0 <= mn x.r y.r by omega) rfl hn hu hw
 have pe1 : pU it (fine it.fr) = (endS it it.fr).u := by show _ = dU it it.fr * 16; unfold pU dU; rw [(Ql7 _ _).1, (Ql7 _ _).1]; omega
 have pe2 : pW it (fine it.fr) = (endS it it.fr).w := by show _ = dW it it.fr * 16; unfold pW dW; rw [(Ql7 _ _).2.1, (Ql7 _ _).2.1]; omega
 have pe3 : pU it (fine it.to) = (endS it it.to).u := by show _ = dU it it.to * 16; unfold pU dU; rw [(Ql7 _ _).1, (Ql7 _ _).1]; omega
 have pe4 : pW it (fine it.to) = (endS it it.to).w := by show _ = dW it it.to * 16; unfold pW dW; rw [(Ql7 _ _).2.1, (Ql7 _ _).2.1]; omega
 have pe5 : plH it.plane (fine it.fr) = (endS it it.fr).h := (Ql7 _ _).2.2
 have pe6 : plH it.plane (fine it.to) = (endS it it.to).h := (Ql7 _ _).2.2
 have hsq : R0 * R0 <= R1 * R1 := Int.mul_self_le_mul_self (by omega) hle.2.1
 unfold onArcP
 rw [pe1, pe2, pe3, pe4, pe5, pe6, hra.2, hrb.2, Int.min_eq_left hsq, Int.max_eq_right hsq]
 rw [mn_min, mx_max] at hx1 hy1
 generalize min (endS it it.fr).h (endS it it.to).h = lo at *
 generalize max (endS it it.fr).h (endS it it.to).h = hi at *
 have k1 : (L - s) * lo <= (L - s) * x.h := Int.mul_le_mul_of_nonneg_left hx1.1 (by omega)
 have k2 : s * lo <= s * y.h := Int.mul_le_mul_of_nonneg_left hy1.1 hs.1
 have k3 : (L - s) * x.h <= (L - s) * hi := Int.mul_le_mul_of_nonneg_left hx1.2 (by omega)
 have k4 : s * y.h <= s * hi := Int.mul_le_mul_of_nonneg_left hy1.2 hs.1
 have k5 : (L - s) * lo + s * lo = L * lo := by grind
 have k6 : (L - s) * hi + s * hi = L * hi := by grind
 have k7 : L * (lo - 1) <= L * plH it.plane q := by
  have e : L * (lo - 1) = L * lo - L := by grind
  omega
 have k8 : L * plH it.plane q <= L * (hi + 1) := by
  have e : L * (hi + 1) = L * hi + L := by grind
  omega
 have k9 := Int.le_of_mul_le_mul_left k7 hL
 have k10 := Int.le_of_mul_le_mul_left k8 hL
 refine ⟨b2, b3, by omega, by omega, ?_⟩
 rcases hsec with g | g
 ·exact .inl g
 by_cases hf : it.full = true
 ·exact .inl hf
 right
 have hA : 0 < sq2 (endS it it.fr).u (endS it it.fr).w := by rw [hra.2]; exact Int.mul_pos (by omega) (by omega)
 have hB : 0 < sq2 (endS it it.to).u (endS it it.to).w := by rw [hrb.2]; exact Int.mul_pos (by omega) (by omega)
 have hQ : 4 < sq2 (pU it q) (pW it q) := by
  have : 121 * 121 <= (R0 - 7) * (R0 - 7) := Int.mul_self_le_mul_self (by omega) (by omega)
  omega
 refine turnL hd hA hB (hm.shape (by simpa using hf)) (overL hL hd hu hw) (fun g1 g2 => overL (dir := -it.dir) hL (by omega) hu hw (by rw [<- crs_dir]; exact g1) (by rw [<- crs_dir]; exact g2)) ?_ hQ
 have l1 : ∀ a b : Int, crs a b vu vw * it.dir = (L - s) * (crs a b x.u x.w * it.dir) + s * (crs a b y.u y.w * it.dir) := fun a b => by rw [hvu, hvw]; unfold crs; grind
 have l2 : ∀ a b : Int, crs vu vw a b * it.dir = (L - s) * (crs x.u x.w a b * it.dir) + s * (crs y.u y.w a b * it.dir) := fun a b => by rw [hvu, hvw]; unfold crs; grind
 have comb : ∀ p r : Int, 0 <= p -> 0 <= r -> 0 <= (L - s) * p + s * r := fun p r h1 h2 => by
  have := Int.mul_nonneg (show 0 <= L - s by omega) h1
  have := Int.mul_nonneg hs.1 h2
  omega
 unfold SecPair at g
 unfold secP
 rw [l1, l2]
 by_cases c : 0 < crs (endS it it.fr).u (endS it it.fr).w (endS it it.to).u (endS it it.to).w * it.dir
 ·rw [if_pos c] at g ⊢
  exact ⟨comb _ _ g.1.1 g.2.1, comb _ _ g.1.2 g.2.2⟩
 ·rw [if_neg c] at g ⊢
  exact g.imp (fun g => comb _ _ g.1 g.2) (fun g => comb _ _ g.1 g.2)
end Go.Bm
/- points near a line: by a rational point of it; points between such points -/
set_option maxRecDepth 100000
namespace Go.Bm
open Classical

abbrev nn3 (x y z : Int) : Int := x * x + y * y + z * z
theorem nn3_ge (x y z : Int) : 0 <= nn3 x y z := by have := Qe3 x; have := Qe3 y; have := Qe3 z; unfold nn3; omega
theorem tri3 {p q r x y z a b : Int} (ha : 0 <= a) (hb : 0 <= b) (h1 : nn3 p q r <= a * a) (h2 : nn3 x y z <= b * b) : nn3 (p + x) (q + y) (r + z) <= (a + b) * (a + b) := by
 have hl : (p * x + q * y + r * z) * (p * x + q * y + r * z) + nn3 (q * z - r * y) (r * x - p * z) (p * y - q * x) = nn3 p q r * nn3 x y z := by unfold nn3; grind
 have hc := nn3_ge (q * z - r * y) (r * x - p * z) (p * y - q * x)
 have n1 := nn3_ge p q r
 have n2 := nn3_ge x y z
 have h3 : p * x + q * y + r * z <= a * b := by
  refine Qgp (Int.mul_nonneg ha hb) ?_
  have h4 : nn3 p q r * nn3 x y z <= (a * a) * (b * b) := Int.mul_le_mul h1 h2 n2 (Int.mul_nonneg ha ha)
  have e : a * b * (a * b) = (a * a) * (b * b) := by grind
  omega
 have e1 : nn3 (p + x) (q + y) (r + z) = nn3 p q r + nn3 x y z + 2 * (p * x + q * y + r * z) := by unfold nn3; grind
 have e2 : (a + b) * (a + b) = a * a + b * b + 2 * (a * b) := by grind
 omega
theorem scale3 (k x y z : Int) : nn3 (k * x) (k * y) (k * z) = k * k * nn3 x y z := by unfold nn3; grind
theorem scale3_le {k x y z a : Int} (h : nn3 x y z <= a * a) : nn3 (k * x) (k * y) (k * z) <= (k * a) * (k * a) := by
 rw [scale3]
 have e : (k * a) * (k * a) = k * k * (a * a) := by grind
 rw [e]
 exact Int.mul_le_mul_of_nonneg_left h (Qe3 k)
structure NearL (a b q : Pt) (m k E : Int) : Prop where
 pos : 0 < m
 rng : 0 <= k /\ k <= m
 d : nn3 (m * (q.x - a.x) - k * (b.x - a.x)) (m * (q.y - a.y) - k * (b.y - a.y)) (m * (q.z - a.z) - k * (b.z - a.z)) <= (m * E) * (m * E)
theorem near_onLine {a b q : Pt} {m k E : Int} (h : NearL a b q m k E) : onLine a b q E := by
 obtain ⟨hm, ⟨k0, k1⟩, hd⟩ := h
 have eN : nn3 (m * (q.x - a.x) - k * (b.x - a.x)) (m * (q.y - a.y) - k * (b.y - a.y)) (m * (q.z - a.z) - k * (b.z - a.z)) =
   m * m * dotP (subP q a) (subP q a) - 2 * (m * k) * dotP (subP b a) (subP q a) + k * k * dotP (subP b a) (subP b a) := by unfold nn3 dotP subP; grind
 have eV : dotP (subP q b) (subP q b) = dotP (subP q a) (subP q a) - 2 * dotP (subP b a) (subP q a) + dotP (subP b a) (subP b a) := by unfold dotP subP; grind
 have hsq : 0 <= dotP (subP b a) (subP b a) := nn3_ge _ _ _
 have eE : (m * E) * (m * E) = m * m * (E * E) := by grind
 rw [eN, eE] at hd
 have hmm : 0 < m * m := Int.mul_pos hm hm
 unfold onLine
 rw [eV]
 generalize dotP (subP q a) (subP q a) = W at *
 generalize dotP (subP b a) (subP q a) = A at *
 generalize dotP (subP b a) (subP b a) = D at *
 clear eN eV
 by_cases c1 : A <= 0
 ·rw [if_pos c1]
  have t1 : 2 * (m * k) * A <= 0 := Int.mul_nonpos_of_nonneg_of_nonpos (by have := Int.mul_nonneg (Int.le_of_lt hm) k0; omega) c1
  have t2 : 0 <= k * k * D := Int.mul_nonneg (Qe3 k) hsq
  exact Int.le_of_mul_le_mul_left (show m * m * W <= m * m * (E * E) by omega) hmm
 rw [if_neg c1]
 by_cases c2 : A >= D
 ·rw [if_pos c2]
  have t1 : 0 <= 2 * (m * (m - k)) * (A - D) := Int.mul_nonneg (by have := Int.mul_nonneg (Int.le_of_lt hm) (show 0 <= m - k by omega); omega) (by omega)
  have t2 : 0 <= (m - k) * (m - k) * D := Int.mul_nonneg (Qe3 _) hsq
  have e1 : m * m * W - 2 * (m * k) * A + k * k * D - m * m * (W - 2 * A + D) = 2 * (m * (m - k)) * (A - D) + (m - k) * (m - k) * D := by grind
  exact Int.le_of_mul_le_mul_left (show m * m * (W - 2 * A + D) <= m * m * (E * E) by omega) hmm
 ·rw [if_neg c2]
  have hD : 0 < D := by omega
  have t1 : D * (m * m * W - 2 * (m * k) * A + k * k * D) <= D * (m * m * (E * E)) := Int.mul_le_mul_of_nonneg_left hd hsq
  have e1 : D * (m * m * W - 2 * (m * k) * A + k * k * D) = m * m * (W * D - A * A) + (k * D - m * A) * (k * D - m * A) := by grind
  have t2 := Qe3 (k * D - m * A)
  have e2 : D * (m * m * (E * E)) = m * m * (E * E * D) := by grind
  have t3 : W * D - A * A <= E * E * D := Int.le_of_mul_le_mul_left (show m * m * (W * D - A * A) <= m * m * (E * E * D) by omega) hmm
  have e3 : (W - E * E) * D = W * D - E * E * D := by grind
  omega
theorem near_mix {a b p p' q : Pt} {m k k' E L s : Int} (hE : 0 <= E) (h : NearL a b p m k E) (h' : NearL a b p' m k' E) (hL : 0 < L) (hs : 0 <= s /\ s <= L)
  (hx : -L <= 2 * (L * (q.x - p.x) - (p'.x - p.x) * s) /\ 2 * (L * (q.x - p.x) - (p'.x - p.x) * s) <= L)
  (hy : -L <= 2 * (L * (q.y - p.y) - (p'.y - p.y) * s) /\ 2 * (L * (q.y - p.y) - (p'.y - p.y) * s) <= L)
  (hz : -L <= 2 * (L * (q.z - p.z) - (p'.z - p.z) * s) /\ 2 * (L * (q.z - p.z) - (p'.z - p.z) * s) <= L) : NearL a b q (L * m) ((L - s) * k + s * k') (E + 1) := by
 obtain ⟨hm, ⟨k0, k1⟩, hd⟩ := h
 obtain ⟨-, ⟨k2, k3⟩, hd'⟩ := h'
 have hLm : 0 < L * m := Int.mul_pos hL hm
 have hk : 0 <= (L - s) * k + s * k' /\ (L - s) * k + s * k' <= L * m := by
  have a1 := Int.mul_nonneg (show 0 <= L - s by omega) k0
  have a2 := Int.mul_nonneg hs.1 k2
  have a3 : (L - s) * k <= (L - s) * m := Int.mul_le_mul_of_nonneg_left k1 (by omega)
  have a4 : s * k' <= s * m := Int.mul_le_mul_of_nonneg_left k3 hs.1
  have e : (L - s) * m + s * m = L * m := by grind
  omega
 have hmE : 0 <= m * E := Int.mul_nonneg (Int.le_of_lt hm) hE
 have t1 := tri3 (Int.mul_nonneg (show 0 <= L - s by omega) hmE) (Int.mul_nonneg hs.1 hmE) (scale3_le (k := L - s) hd) (scale3_le (k := s) hd')
 have e1 : (L - s) * (m * E) + s * (m * E) = L * m * E := by grind
 rw [e1] at t1
 have hε : nn3 (m * (L * (q.x - p.x) - (p'.x - p.x) * s)) (m * (L * (q.y - p.y) - (p'.y - p.y) * s)) (m * (L * (q.z - p.z) - (p'.z - p.z) * s)) <= (L * m) * (L * m) := by
  rw [scale3]
  have kk : ∀ x : Int, -L <= 2 * x /\ 2 * x <= L -> 4 * (x * x) <= L * L := fun x h => by
   have : 0 <= (L - 2 * x) * (L + 2 * x) := Int.mul_nonneg (by omega) (by omega)
   have e : (L - 2 * x) * (L + 2 * x) = L * L - 4 * (x * x) := by grind
   omega
  have b1 := kk _ hx
  have b2 := kk _ hy
  have b3 := kk _ hz
  have hLL := Qe3 L
  have b4 : nn3 (L * (q.x - p.x) - (p'.x - p.x) * s) (L * (q.y - p.y) - (p'.y - p.y) * s) (L * (q.z - p.z) - (p'.z - p.z) * s) <= L * L := by unfold nn3; omega
  have e : (L * m) * (L * m) = m * m * (L * L) := by grind
  rw [e]
  exact Int.mul_le_mul_of_nonneg_left b4 (Qe3 m)
 have t2 := tri3 (Int.mul_nonneg (Int.le_of_lt hLm) hE) (Int.le_of_lt hLm) t1 hε
 refine ⟨hLm, hk, ?_⟩
 have e2 : L * m * E + L * m = L * m * (E + 1) := by grind
 rw [e2] at t2
 have key : ∀ qx px p'x ax bx : Int, (L - s) * (m * (px - ax) - k * (bx - ax)) + s * (m * (p'x - ax) - k' * (bx - ax)) + m * (L * (qx - px) - (p'x - px) * s) = L * m * (qx - ax) - ((L - s) * k + s * k') * (bx - ax) := by
  intro qx px p'x ax bx; grind
 rw [key, key, key] at t2
 exact t2
theorem near_self (a b : Pt) {m : Int} (hm : 0 < m) : NearL a b a m 0 0 /\ NearL a b b m m 0 := by
 refine ⟨⟨hm, by omega, ?_⟩, ⟨hm, by omega, ?_⟩⟩
 ·simp [nn3]
 ·simp [nn3]
theorem Qku {a b q : Pt} {m k E F : Int} (hE : 0 <= E) (h : NearL a b q m k E) (hF : E <= F) : NearL a b q m k F := by
 refine ⟨h.pos, h.rng, Int.le_trans h.d ?_⟩
 have := h.pos
 exact Int.mul_self_le_mul_self (Int.mul_nonneg (by omega) hE) (Int.mul_le_mul_of_nonneg_left hF (by omega))
end Go.Bm
/- the points of a blend are near the lines of its corner -/
set_option maxRecDepth 100000
namespace Go.Bm
open Classical

theorem near_rho {s n : Int} (hn : 0 < n) : -n <= 2 * (n * near s n - s) /\ 2 * (n * near s n - s) <= n := by
 obtain ⟨h1, h2⟩ := near_spec (a := s) hn
 have e1 : near s n * (2 * n) = 2 * (n * near s n) := by grind
 have e2 : (near s n + 1) * (2 * n) = 2 * (n * near s n) + 2 * n := by grind
 omega
theorem comp3 {x y z E : Int} (hx : -E <= x /\ x <= E) (hy : -E <= y /\ y <= E) (hz : -E <= z /\ z <= E) : nn3 x y z <= 3 * (E * E) := by
 have k : ∀ v : Int, -E <= v /\ v <= E -> v * v <= E * E := fun v h => by
  have : 0 <= (E - v) * (E + v) := Int.mul_nonneg (by omega) (by omega)
  have e : (E - v) * (E + v) = E * E - v * v := by grind
  omega
 have := k x hx
 have := k y hy
 have := k z hz
 unfold nn3; omega
theorem blend_core {n i S d tol ux uy uz px py pz qx qy qz : Int} (hn : 2 <= n) (hi : 0 <= i /\ 2 * i <= n) (hS : d + 1 <= S) (hd : 0 <= d) (ht : 0 <= tol)
  (ex : -(S + 2 * d + 1) <= 2 * px * S - 2 * (ux * d) /\ 2 * px * S - 2 * (ux * d) <= S + 2 * d + 1) (ey : -(S + 2 * d + 1) <= 2 * py * S - 2 * (uy * d) /\ 2 * py * S - 2 * (uy * d) <= S + 2 * d + 1) (ez : -(S + 2 * d + 1) <= 2 * pz * S - 2 * (uz * d) /\ 2 * pz * S - 2 * (uz * d) <= S + 2 * d + 1)
  (hb : nn3 (px + qx) (py + qy) (pz + qz) <= (4 * tol) * (4 * tol)) :
  nn3 (2 * S * (n * n) * near ((n - i) * (n - i) * px + i * i * qx) (n * n) - n * (n - 2 * i) * d * (2 * ux)) (2 * S * (n * n) * near ((n - i) * (n - i) * py + i * i * qy) (n * n) - n * (n - 2 * i) * d * (2 * uy)) (2 * S * (n * n) * near ((n - i) * (n - i) * pz + i * i * qz) (n * n) - n * (n - 2 * i) * d * (2 * uz)) <=
   (2 * S * (n * n) * (tol + 4)) * (2 * S * (n * n) * (tol + 4)) := by
 have hnn : 0 < n * n := Int.mul_pos (by omega) (by omega)
 have rx := near_rho (s := (n - i) * (n - i) * px + i * i * qx) hnn
 have ry := near_rho (s := (n - i) * (n - i) * py + i * i * qy) hnn
 have rz := near_rho (s := (n - i) * (n - i) * pz + i * i * qz) hnn
 generalize near ((n - i) * (n - i) * px + i * i * qx) (n * n) = ax at *
 generalize near ((n - i) * (n - i) * py + i * i * qy) (n * n) = ay at *
 generalize near ((n - i) * (n - i) * pz + i * i * qz) (n * n) = az at *
 have p0 : nn3 (2 * px * S - 2 * (ux * d)) (2 * py * S - 2 * (uy * d)) (2 * pz * S - 2 * (uz * d)) <= (6 * S) * (6 * S) := by
  have h := comp3 (E := 3 * S) (x := 2 * px * S - 2 * (ux * d)) (y := 2 * py * S - 2 * (uy * d)) (z := 2 * pz * S - 2 * (uz * d)) (by omega) (by omega) (by omega)
  have e1 : 3 * S * (3 * S) = 9 * (S * S) := by grind
  have e2 : (6 * S) * (6 * S) = 36 * (S * S) := by grind
  have := Qe3 S
  omega
 have p1 := scale3_le (k := n * (n - 2 * i)) p0
 have p2 := scale3_le (k := 2 * S * (i * i)) hb
 have p3 : nn3 (2 * (n * n * ax - ((n - i) * (n - i) * px + i * i * qx))) (2 * (n * n * ay - ((n - i) * (n - i) * py + i * i * qy))) (2 * (n * n * az - ((n - i) * (n - i) * pz + i * i * qz))) <= (2 * (n * n)) * (2 * (n * n)) := by
  have h := comp3 rx ry rz
  have e : (2 * (n * n)) * (2 * (n * n)) = 4 * ((n * n) * (n * n)) := by grind
  have := Qe3 (n * n)
  omega
 have p4 := scale3_le (k := S) p3
 have n1 : 0 <= n * (n - 2 * i) := Int.mul_nonneg (by omega) (by omega)
 have n2 : 0 <= n * (n - 2 * i) * (6 * S) := Int.mul_nonneg n1 (by omega)
 have n3 : 0 <= i * i := Qe3 i
 have n4 : 0 <= 2 * S * (i * i) * (4 * tol) := Int.mul_nonneg (Int.mul_nonneg (by omega) n3) (by omega)
 have n5 : 0 <= S * (2 * (n * n)) := Int.mul_nonneg (by omega) (by omega)
 have t1 := tri3 n2 n4 p1 p2
 have t2 := tri3 (by omega) n5 t1 p4
 have key : ∀ p q u a : Int, n * (n - 2 * i) * (2 * p * S - 2 * (u * d)) + 2 * S * (i * i) * (p + q) + S * (2 * (n * n * a - ((n - i) * (n - i) * p + i * i * q))) = 2 * S * (n * n) * a - n * (n - 2 * i) * d * (2 * u) := by
  intro p q u a; grind
 rw [key, key, key] at t2
 refine Int.le_trans t2 (Int.mul_self_le_mul_self (by omega) ?_)
 have b1 : n * (n - 2 * i) <= n * n := Int.mul_le_mul_of_nonneg_left (by omega) (by omega)
 have b2 : n * (n - 2 * i) * (6 * S) <= n * n * (6 * S) := Int.mul_le_mul_of_nonneg_right b1 (by omega)
 have b3 : 4 * (i * i) <= n * n := by
  have := Int.mul_self_le_mul_self (show 0 <= 2 * i by omega) hi.2
  have e : 2 * i * (2 * i) = 4 * (i * i) := by grind
  omega
 have b4 : 4 * (i * i) * (2 * S * tol) <= n * n * (2 * S * tol) := Int.mul_le_mul_of_nonneg_right b3 (Int.mul_nonneg (by omega) ht)
 have e1 : 2 * S * (i * i) * (4 * tol) = 4 * (i * i) * (2 * S * tol) := by grind
 have e2 : 2 * S * (n * n) * (tol + 4) = n * n * (6 * S) + n * n * (2 * S * tol) + S * (2 * (n * n)) := by grind
 omega
end Go.Bm
/- the points of a blend are near the lines of its corner: both halves -/
set_option maxRecDepth 100000
namespace Go.Bm
open Classical

theorem sqD_up {a c : Pt} (ha : bd 4000000 a) (hc : bd 4000000 c) : sqD a c <= 20000000000000000 := by
 have h := comp3 (E := 8000000) (x := a.x - c.x) (y := a.y - c.y) (z := a.z - c.z) (by unfold bd at *; omega) (by unfold bd at *; omega) (by unfold bd at *; omega)
 have e : sqD a c = nn3 (a.x - c.x) (a.y - c.y) (a.z - c.z) := rfl
 rw [e]; omega
theorem tow_err {a c : Pt} {d S : Int} (ha : bd 4000000 a) (hc : bd 4000000 c) (hne : a ≠ c) (hd : 0 <= d /\ d <= 50000000) (hS : 0 <= S /\ S * S <= sqD a c /\ sqD a c < (S + 1) * (S + 1)) :
  (-(S + 2 * d + 1) <= 2 * ((towP c a d).x - c.x) * S - 2 * ((a.x - c.x) * d) /\ 2 * ((towP c a d).x - c.x) * S - 2 * ((a.x - c.x) * d) <= S + 2 * d + 1) /\
  (-(S + 2 * d + 1) <= 2 * ((towP c a d).y - c.y) * S - 2 * ((a.y - c.y) * d) /\ 2 * ((towP c a d).y - c.y) * S - 2 * ((a.y - c.y) * d) <= S + 2 * d + 1) /\
  (-(S + 2 * d + 1) <= 2 * ((towP c a d).z - c.z) * S - 2 * ((a.z - c.z) * d) /\ 2 * ((towP c a d).z - c.z) * S - 2 * ((a.z - c.z) * d) <= S + 2 * d + 1) := by
 obtain ⟨q1, q2, q3⟩ := sqD_comp a c
 have h0 : sqD a c ≠ 0 := fun e => hne (sqD_zero.1 e)
 have hp := sqD_nn a c
 have hu := sqD_up ha hc
 have hn : 0 < sqD a c /\ sqD a c <= 20000000000000000 := by omega
 have e1 : (towP c a d).x - c.x = Qc1 (a.x - c.x) d (sqD a c) := by unfold towP; simp only; omega
 have e2 : (towP c a d).y - c.y = Qc1 (a.y - c.y) d (sqD a c) := by unfold towP; simp only; omega
 have e3 : (towP c a d).z - c.z = Qc1 (a.z - c.z) d (sqD a c) := by unfold towP; simp only; omega
 rw [e1, e2, e3]
 obtain ⟨a1, a2, a3⟩ := ha
 obtain ⟨c1, c2, c3⟩ := hc
 exact ⟨near_err (by omega) hd hn q1 hS, near_err (by omega) hd hn q2 hS, near_err (by omega) hd hn q3 hS⟩
theorem len_root {a c : Pt} {S : Int} (ha : bd 4000000 a) (hc : bd 4000000 c) (hS : 0 <= S /\ S * S <= sqD a c /\ sqD a c < (S + 1) * (S + 1)) : lenP a c <= S + 1 := by
 obtain ⟨-, h0, -, h2⟩ := Qj8 (Qau ha (show 4000000 <= 67108864 by decide)) (Qau hc (show 4000000 <= 67108864 by decide))
 rcases h2 with h2 | h2
 ·omega
 ·have : lenP a c - 1 < S + 1 := lt_of_sq (by omega) (by omega)
  omega
structure Bl (a c b : Pt) (tol d n S T : Int) : Prop where
 hd : 0 <= d /\ d <= 50000000 /\ d + 1 <= S /\ d + 1 <= T
 hn : 2 <= n
 hS : 0 <= S /\ S * S <= sqD a c /\ sqD a c < (S + 1) * (S + 1)
 hT : 0 <= T /\ T * T <= sqD b c /\ sqD b c < (T + 1) * (T + 1)
 bend : bendP (towP c a d) c (towP c b d) <= 16 * tol * tol
theorem bl_of {a c b : Pt} {tol : Int} (ha : bd 4000000 a) (hc : bd 4000000 c) (hb : bd 4000000 b) (h : Qgd a c b tol ≠ 0) :
  a ≠ c /\ b ≠ c /\ ∃ S T, Bl a c b tol (Qgd a c b tol) (piecesP (towP c a (Qgd a c b tol)) c (towP c b (Qgd a c b tol))) S T := by
 obtain ⟨h1, h2, h3, h4, h5, h6⟩ := reach_spec h
 refine ⟨h1, h2, ?_⟩
 obtain ⟨m1, m2⟩ := mn_le (lenP a c) (lenP c b)
 have u1 := sqD_up ha hc
 have u2 := sqD_up hb hc
 obtain ⟨S, hS⟩ := root_ex (n := sqD a c) ⟨sqD_nn _ _, by omega⟩
 obtain ⟨T, hT⟩ := root_ex (n := sqD b c) ⟨sqD_nn _ _, by omega⟩
 have l1 := len_root ha hc hS
 have l2 := len_root hb hc hT
 rw [lenP_comm b c] at l2
 have A := Qau ha (show 4000000 <= B24 by decide)
 have C := Qau hc (show 4000000 <= B24 by decide)
 have D := Qau hb (show 4000000 <= B24 by decide)
 generalize Qgd a c b tol = d at *
 have k1 : bd B24 (towP c a d) := Qlc C A h1 (by omega)
 have k2 : bd B24 (towP c b d) := Qlc C D h2 (by rw [lenP_comm b c]; omega)
 have k3 := (Qg5 k1 C k2).2
 refine ⟨S, T, ⟨by omega, by omega, by omega, by omega⟩, ?_, hS, hT, h6⟩
 rcases k3 with h | h | h | h | h | h <;> omega
theorem tail_near {A a c b : Pt} {tol d n S T i : Int} (ha : bd 4000000 a) (hc : bd 4000000 c) (hne : a ≠ c) (ht : 0 <= tol) (h : Bl a c b tol d n S T) (hx : 2 * a.x = A.x + c.x) (hy : 2 * a.y = A.y + c.y) (hz : 2 * a.z = A.z + c.z) (hi : 0 <= i /\ 2 * i <= n) :
  NearL A c (mixP n i (towP c a d) c (towP c b d)) (2 * S * (n * n)) (2 * S * (n * n) - n * (n - 2 * i) * d) (tol + 4) := by
 obtain ⟨⟨d0, d1, d2, d3⟩, hn, hS, hT, hb⟩ := h
 obtain ⟨e1, e2, e3⟩ := tow_err ha hc hne ⟨d0, d1⟩ hS
 have hnn : 0 < n * n := Int.mul_pos (by omega) (by omega)
 have hb2 : nn3 ((towP c a d).x - c.x + ((towP c b d).x - c.x)) ((towP c a d).y - c.y + ((towP c b d).y - c.y)) ((towP c a d).z - c.z + ((towP c b d).z - c.z)) <= (4 * tol) * (4 * tol) := by
  have e : (4 * tol) * (4 * tol) = 16 * tol * tol := by grind
  rw [e]; exact hb
 have core := blend_core hn hi d2 d0 ht e1 e2 e3 hb2
 have hm : 0 < 2 * S * (n * n) := Int.mul_pos (by omega) hnn
 have n1 : 0 <= n * (n - 2 * i) := Int.mul_nonneg (by omega) (by omega)
 have n2 : n * (n - 2 * i) <= n * n := Int.mul_le_mul_of_nonneg_left (by omega) (by omega)
 have n3 : n * (n - 2 * i) * d <= n * n * (2 * S) := Int.mul_le_mul n2 (by omega) d0 (by omega)
 have n4 : 0 <= n * (n - 2 * i) * d := Int.mul_nonneg n1 d0
 have e5 : n * n * (2 * S) = 2 * S * (n * n) := by grind
 refine ⟨hm, by omega, ?_⟩
 have key : ∀ ax cx aa r : Int, 2 * ax = aa + cx -> 2 * S * (n * n) * (cx + r - aa) - (2 * S * (n * n) - n * (n - 2 * i) * d) * (cx - aa) = 2 * S * (n * n) * r - n * (n - 2 * i) * d * (2 * (ax - cx)) := by
  intro ax cx aa r h
  have e : 2 * (ax - cx) = aa - cx := by omega
  rw [e]; grind
 unfold mixP mixI
 simp only
 rw [key _ _ _ _ hx, key _ _ _ _ hy, key _ _ _ _ hz]
 exact core
theorem head_near {B a c b : Pt} {tol d n S T i : Int} (hb : bd 4000000 b) (hc : bd 4000000 c) (hne : b ≠ c) (ht : 0 <= tol) (h : Bl a c b tol d n S T) (hx : 2 * b.x = B.x + c.x) (hy : 2 * b.y = B.y + c.y) (hz : 2 * b.z = B.z + c.z) (hi : i <= n /\ n <= 2 * i) :
  NearL c B (mixP n i (towP c a d) c (towP c b d)) (2 * T * (n * n)) (n * (n - 2 * (n - i)) * d) (tol + 4) := by
 obtain ⟨⟨d0, d1, d2, d3⟩, hn, hS, hT, hbend⟩ := h
 obtain ⟨e1, e2, e3⟩ := tow_err hb hc hne ⟨d0, d1⟩ hT
 have hnn : 0 < n * n := Int.mul_pos (by omega) (by omega)
 have hb2 : nn3 ((towP c b d).x - c.x + ((towP c a d).x - c.x)) ((towP c b d).y - c.y + ((towP c a d).y - c.y)) ((towP c b d).z - c.z + ((towP c a d).z - c.z)) <= (4 * tol) * (4 * tol) := by
  have e : (4 * tol) * (4 * tol) = 16 * tol * tol := by grind
  rw [e, Int.add_comm ((towP c b d).x - c.x), Int.add_comm ((towP c b d).y - c.y), Int.add_comm ((towP c b d).z - c.z)]; exact hbend
 have core := blend_core (i := n - i) hn ⟨by omega, by omega⟩ d3 d0 ht e1 e2 e3 hb2
 have hm : 0 < 2 * T * (n * n) := Int.mul_pos (by omega) hnn
 have n1 : 0 <= n * (n - 2 * (n - i)) := Int.mul_nonneg (by omega) (by omega)
 have n2 : n * (n - 2 * (n - i)) <= n * n := Int.mul_le_mul_of_nonneg_left (by omega) (by omega)
 have n3 : n * (n - 2 * (n - i)) * d <= n * n * (2 * T) := Int.mul_le_mul n2 (by omega) d0 (by omega)
 have n4 : 0 <= n * (n - 2 * (n - i)) * d := Int.mul_nonneg n1 d0
 have e5 : n * n * (2 * T) = 2 * T * (n * n) := by grind
 refine ⟨hm, by omega, ?_⟩
 have key : ∀ bx cx bb r : Int, 2 * bx = bb + cx -> 2 * T * (n * n) * (cx + r - cx) - n * (n - 2 * (n - i)) * d * (bb - cx) = 2 * T * (n * n) * r - n * (n - 2 * (n - i)) * d * (2 * (bx - cx)) := by
  intro bx cx bb r h
  have e : 2 * (bx - cx) = bb - cx := by omega
  rw [e]; grind
 have comm : ∀ p q : Int, (n - i) * (n - i) * p + i * i * q = (n - (n - i)) * (n - (n - i)) * q + (n - i) * (n - i) * p := fun p q => by
  rw [show n - (n - i) = i by omega]; omega
 unfold mixP mixI
 simp only
 rw [key _ _ _ _ hx, key _ _ _ _ hy, key _ _ _ _ hz, comm, comm, comm]
 exact core
end Go.Bm
