/- laid together -/
import Derived.Test.YtdllaekpkcanbaaPrCw
import Derived.Test.YtdllaekpkcanbaaPrHg
import Derived.Test.YtdllaekpkcanbaaMx5
set_option linter.unusedVariables false
set_option linter.unusedSimpArgs false
/- the program's corners are the reference's -/
set_option maxRecDepth 100000
namespace Go.Bm

theorem a_blend_Toward {MO : List AC -> Option (List AC)} {c a : Pt} {d : Int} (hc : bd B24 c) (ha : bd B24 a) (hne : a ≠ c) (hd : 0 <= d /\ d <= 33554432)
  (hN : ∀ {x : Int}, x.natAbs <= 33554432 * 4 -> x * x <= sqD a c -> MO [I x, I d, I (sqD a c), I 2] = some [I (Qc1 x d (sqD a c)), B true] /\ (Qc1 x d (sqD a c)).natAbs <= 268435456) :
  mf_blend_Toward MO [I c.x, I c.y, I c.z, I a.x, I a.y, I a.z, I d] = some (ptR (towP c a d) ++ [B true]) := by
 obtain ⟨q1, q2, q3⟩ := sqD_comp a c
 have x1 := sub_nat ha.1 hc.1
 have x2 := sub_nat ha.2.1 hc.2.1
 have x3 := sub_nat ha.2.2 hc.2.2
 obtain ⟨n1, b1⟩ := hN (x := a.x - c.x) (Nat.le_trans x1 (by decide)) q1
 obtain ⟨n2, b2⟩ := hN (x := a.y - c.y) (Nat.le_trans x2 (by decide)) q2
 obtain ⟨n3, b3⟩ := hN (x := a.z - c.z) (Nat.le_trans x3 (by decide)) q3
 have h6 : ¬ d < 0 := Int.not_lt.2 hd.1
 have h7 : ¬ d > 33554432 := Int.not_lt.2 hd.2
 rw [mf_blend_Toward_eq, sq_wrap (Qau ha (by decide)) (Qau hc (by decide)), wrap_nat x1 (by decide), wrap_nat x2 (by decide), wrap_nat x3 (by decide)]
 simp only [go_sem, n1, n2, n3]
 rw [if_neg (fun h => hne (pt_ext.2 ⟨h.1, h.2.1, h.2.2.1⟩)), if_neg h6, if_neg h7]
 rw [wrap_nat (add_nat hc.1 b1) (by decide), wrap_nat (add_nat hc.2.1 b2) (by decide), wrap_nat (add_nat hc.2.2 b3) (by decide)]
 rfl
theorem s_blend_Toward {c a : Pt} {d : Int} (hc : bd B24 c) (ha : bd B24 a) (hne : a ≠ c) (hd : 0 <= d /\ d <= 33554432) :
  Qc9 [I c.x, I c.y, I c.z, I a.x, I a.y, I a.z, I d] = some (ptR (towP c a d) ++ [B true]) := by
 have h0 : sqD a c ≠ 0 := fun h => hne (sqD_zero.1 h)
 have h1 := sqD_nn a c
 have h2 := sqD_le (Qau ha (by decide)) (Qau hc (by decide)) (show 67108864 <= 67108864 by omega)
 refine a_blend_Toward hc ha hne hd fun {x} hx hq => ?_
 obtain ⟨-, g2, -⟩ := Qi6 hx (r := d) (by omega) (n := sqD a c) (by omega) hq
 exact ⟨s_wide_Over (Nat.le_trans hx (by decide)) (by omega) (by omega), g2⟩
theorem s_blend_bend {p c q : Pt} (hp : bd B24 p) (hc : bd B24 c) (hq : bd B24 q) : Qec [I p.x, I p.y, I p.z, I c.x, I c.y, I c.z, I q.x, I q.y, I q.z] = some [I (bendP p c q)] := by
 have hb := bend_bd hp hc hq
 have g1 := Qlo hb.1
 have g2 := Qlo hb.2.1
 have g3 := Qlo hb.2.2
 unfold Qec
 unfold bd B24 at hp hc hq
 have w : ∀ u v c : Int, u.natAbs <= 16777216 -> v.natAbs <= 16777216 -> c.natAbs <= 16777216 -> IntKind.i64.wrap (IntKind.i64.wrap (u + v) - IntKind.i64.wrap (2 * c)) = u - c + (v - c) := by
  intro u v c h1 h2 h3
  rw [Qab (x := u + v) (by omega), Qab (x := 2 * c) (by omega), Qab (by omega)]
  omega
 rw [mf_blend_bend_eq, w _ _ _ hp.1 hq.1 hc.1, w _ _ _ hp.2.1 hq.2.1 hc.2.1, w _ _ _ hp.2.2 hq.2.2 hc.2.2]
 have e1 : p.x - c.x + (q.x - c.x) = (bendV p c q).x := rfl
 have e2 : p.y - c.y + (q.y - c.y) = (bendV p c q).y := rfl
 have e3 : p.z - c.z + (q.z - c.z) = (bendV p c q).z := rfl
 rw [e1, e2, e3]
 unfold bendP dotP
 generalize (bendV p c q).x * (bendV p c q).x = u at *
 generalize (bendV p c q).y * (bendV p c q).y = v at *
 generalize (bendV p c q).z * (bendV p c q).z = w at *
 rw [Qab (x := u) (by omega), Qab (x := 0 + u) (by omega), Qab (x := v) (by omega), Qab (x := 0 + u + v) (by omega), Qab (x := w) (by omega), Qab (by omega), Int.zero_add]

open Classical in
theorem st_Reach {MB MT ML : List AC -> Option (List AC)} {a c b : Pt} {tol d e bit : Int} (ha : bd B24 a) (hc : bd B24 c) (hb : bd B24 b) (hac : a ≠ c) (hbc : b ≠ c) (ht : 0 <= tol /\ tol <= 16000) (hd : 0 <= d /\ d + e <= 33554432) (he : 0 < e) (hbit : e.fdiv (2 ^ min (Int.toNat 1) IntKind.i64.bits) = bit)
  (l3 : 0 <= lenP a c /\ lenP a c <= 268435456) (l4 : 0 <= lenP c b /\ lenP c b <= 268435456)
  (hT : ∀ {a : Pt} {d : Int}, bd B24 a -> a ≠ c -> 0 <= d /\ d <= 33554432 -> MT [I c.x, I c.y, I c.z, I a.x, I a.y, I a.z, I d] = some (ptR (towP c a d) ++ [B true]))
  (hB : ∀ {p q : Pt}, bd B24 p -> bd B24 q -> MB [I p.x, I p.y, I p.z, I c.x, I c.y, I c.z, I q.x, I q.y, I q.z] = some [I (bendP p c q)]) :
  Qf5 MB MT ML [I tol, I (mn (lenP a c) (lenP c b) - 2), I d, I e, I a.x, I a.y, I a.z, I c.x, I c.y, I c.z, I b.x, I b.y, I b.z] =
   some (0, [I tol, I (mn (lenP a c) (lenP c b) - 2), I (if permP a c b tol (d + e) then d + e else d), I bit, I a.x, I a.y, I a.z, I c.x, I c.y, I c.z, I b.x, I b.y, I b.z]) := by
 obtain ⟨m1, m2⟩ := mn_le (lenP a c) (lenP c b)
 have ht2 : 0 <= 16 * tol * tol /\ 16 * tol * tol <= 4096000000 := by
  have := Int.mul_le_mul (show 16 * tol <= 256000 by omega) ht.2 ht.1 (by omega)
  exact ⟨Int.mul_nonneg (by omega) ht.1, by omega⟩
 rw [st_blend_Reach_6_eq, hbit, Qab (x := d + e) (by omega), Qhd he, Qab (x := 16 * tol) (by omega), Qab (x := 16 * tol * tol) (by omega)]
 by_cases h : d + e > mn (lenP a c) (lenP c b) - 2
 ·rw [Qhd h, if_neg (fun h3 : permP a c b tol (d + e) => by have := h3.1; omega)]
 ·rw [Qcl h]
  have k1 : bd B24 (towP c a (d + e)) := Qlc hc ha hac (by omega)
  have k2 : bd B24 (towP c b (d + e)) := Qlc hc hb hbc (by rw [lenP_comm b c]; omega)
  have t1 := hT (d := d + e) ha hac (by omega)
  have t2 := hT (d := d + e) hb hbc (by omega)
  simp only [List.cons_append, List.nil_append, ptR] at t1 t2
  simp only [t1, t2, go_sem, hB k1 k2]
  by_cases h2 : bendP (towP c a (d + e)) c (towP c b (d + e)) <= 16 * tol * tol
  ·rw [if_pos h2, if_pos (show permP a c b tol (d + e) from ⟨by omega, h2⟩)]
  ·rw [if_neg h2, if_neg (fun h3 : permP a c b tol (d + e) => h2 h3.2)]
open Classical in
theorem l_ReachC {MB MT ML : List AC -> Option (List AC)} {a c b : Pt} {tol m : Int}
  (hst : ∀ {d e bit : Int}, 0 <= d /\ d + e <= 33554432 -> 0 < e -> e.fdiv (2 ^ min (Int.toNat 1) IntKind.i64.bits) = bit -> Qf5 MB MT ML [I tol, I m, I d, I e, I a.x, I a.y, I a.z, I c.x, I c.y, I c.z, I b.x, I b.y, I b.z] =
   some (0, [I tol, I m, I (if permP a c b tol (d + e) then d + e else d), I bit, I a.x, I a.y, I a.z, I c.x, I c.y, I c.z, I b.x, I b.y, I b.z])) :
  ∀ (k : Nat) (d : Int), 0 <= d /\ d + ((2 ^ (k + 1) : Nat) : Int) <= 33554432 ->
  Qb1 (Qf5 MB MT ML) [I tol, I m, I d, I ((2 ^ k : Nat) : Int), I a.x, I a.y, I a.z, I c.x, I c.y, I c.z, I b.x, I b.y, I b.z] = some (1, [I (reachL (permP a c b tol) k d)])
 | 0, d, hd => by
  simp only [Nat.zero_add, Nat.pow_one] at hd
  have hend : ∀ d : Int, Qb1 (Qf5 MB MT ML) [I tol, I m, I d, I 0, I a.x, I a.y, I a.z, I c.x, I c.y, I c.z, I b.x, I b.y, I b.z] = some (1, [I d]) := by
   intro d
   refine Qcj ?_ (by simp)
   rw [st_blend_Reach_6_eq]
   rw [Qcl (by omega)]
  have hs := hst (d := d) (e := 1) (by omega) (by omega) halfI0
  have e : ((2 ^ 0 : Nat) : Int) = 1 := rfl
  rw [e, Qb8 hs, hend]
  rfl
 | k + 1, d, hd => by
  have hp : 0 < 2 ^ (k + 1) := Nat.two_pow_pos _
  have e3 : 2 ^ (k + 1 + 1) = 2 ^ (k + 1) + 2 ^ (k + 1) := by rw [Nat.pow_succ 2 (k + 1)]; omega
  rw [e3] at hd
  have hs := hst (d := d) (e := ((2 ^ (k + 1) : Nat) : Int)) (by omega) (by omega) (halfI k)
  rw [Qb8 hs]
  unfold reachL
  refine l_ReachC hst k _ ?_
  split <;> omega
theorem a_blend_Reach {ML : List AC -> Option (List AC)} {N : List AC -> Option (Nat × List AC)} {MB MT : List AC -> Option (List AC)} {a c b : Pt} {tol : Int}
  (l1 : ML [I a.x, I a.y, I a.z, I c.x, I c.y, I c.z] = some [I (lenP a c)]) (l2 : ML [I c.x, I c.y, I c.z, I b.x, I b.y, I b.z] = some [I (lenP c b)])
  (l3 : 0 <= lenP a c /\ lenP a c <= 268435456) (l4 : 0 <= lenP c b /\ lenP c b <= 268435456)
  (hN : a ≠ c -> b ≠ c -> N [I tol, I (mn (lenP a c) (lenP c b) - 2), I 0, I 16777216, I a.x, I a.y, I a.z, I c.x, I c.y, I c.z, I b.x, I b.y, I b.z] = some (1, [I (reachL (permP a c b tol) 24 0)])) :
  mf_blend_Reach MB MT ML N [I a.x, I a.y, I a.z, I c.x, I c.y, I c.z, I b.x, I b.y, I b.z, I tol] = some [I (Qgd a c b tol)] := by
 rw [mf_blend_Reach_eq]
 have m3 : 0 <= mn (lenP a c) (lenP c b) /\ mn (lenP a c) (lenP c b) <= 268435456 := by unfold mn; split <;> omega
 unfold Qgd
 by_cases h1 : a = c
 ·rw [if_pos (.inl h1)]
  have h2 := pt_ext.1 h1
  simp only [go_sem]
  rw [if_pos ⟨h2.1, h2.2.1, h2.2.2, trivial⟩]
 ·by_cases h2 : b = c
  ·rw [if_pos (.inr h2)]
   have h3 := pt_ext.1 h2
   simp only [go_sem]
   rw [if_neg (fun h => h1 (pt_ext.2 ⟨h.1, h.2.1, h.2.2.1⟩)), if_pos ⟨h3.1, h3.2.1, h3.2.2, trivial⟩]
  ·have hl' := hN h1 h2
   simp only [go_sem, l1, l2]
   rw [Qab (by omega)]
   simp only [hl', go_sem]
   rw [if_neg (fun h => h1 (pt_ext.2 ⟨h.1, h.2.1, h.2.2.1⟩)), if_neg (fun h => h2 (pt_ext.2 ⟨h.1, h.2.1, h.2.2.1⟩)), if_neg (show ¬ (a = c \/ b = c) from fun h => h.elim h1 h2)]
   by_cases h3 : reachL (permP a c b tol) 24 0 < 16
   ·rw [if_pos h3, if_pos h3]
   ·rw [if_neg h3, if_neg h3]
theorem s_blend_Reach {a c b : Pt} {tol : Int} (ha : bd B24 a) (hc : bd B24 c) (hb : bd B24 b) (ht : 0 <= tol /\ tol <= 16000) :
  Qhi [I a.x, I a.y, I a.z, I c.x, I c.y, I c.z, I b.x, I b.y, I b.z, I tol] = some [I (Qgd a c b tol)] := by
 have A := Qau ha (show B24 <= 67108864 by decide)
 have C := Qau hc (show B24 <= 67108864 by decide)
 have D := Qau hb (show B24 <= 67108864 by decide)
 exact a_blend_Reach (s_curve_Length A C) (s_curve_Length C D) (len_bd A C) (len_bd C D)
  fun h1 h2 => l_ReachC (fun hd he hbit => st_Reach ha hc hb h1 h2 ht hd he hbit (len_bd A C) (len_bd C D) (fun hb hn hd => s_blend_Toward hc hb hn hd) fun hp hq => s_blend_bend hp hc hq) 24 0 (by decide)

theorem l_PiecesC {M : List AC -> Option (List AC)} {p c q : Pt} (hM : M [I p.x, I p.y, I p.z, I c.x, I c.y, I c.z, I q.x, I q.y, I q.z] = some [I (bendP p c q)]) :
  ∀ (k : Nat) (n : Int), isPow n -> 64 <= n * 2 ^ k -> Qb1 (Qgy M) [I n, I p.x, I p.y, I p.z, I c.x, I c.y, I c.z, I q.x, I q.y, I q.z] = some (1, [I (pcsN (bendP p c q) k n)]) := by
 have hst : ∀ n : Int, isPow n -> Qgy M [I n, I p.x, I p.y, I p.z, I c.x, I c.y, I c.z, I q.x, I q.y, I q.z] = if n < 64 /\ bendP p c q > 16 * n * n * n * n * 4 * 4 then some (0, [I (n * 2), I p.x, I p.y, I p.z, I c.x, I c.y, I c.z, I q.x, I q.y, I q.z]) else some (1, [I n]) := by
  intro n hn
  rw [st_blend_Pieces_2_eq]
  simp only [go_sem, hM]
  have hw : IntKind.i64.wrap (IntKind.i64.wrap (IntKind.i64.wrap (IntKind.i64.wrap (IntKind.i64.wrap (IntKind.i64.wrap (16 * n) * n) * n) * n) * 4) * 4) = 16 * n * n * n * n * 4 * 4 /\ IntKind.i64.wrap (n * 2) = n * 2 := by
   rcases hn with rfl | rfl | rfl | rfl | rfl | rfl <;> decide
  rw [hw.1, hw.2]
  by_cases h1 : n < 64
  ·rw [if_pos h1]
   by_cases h2 : bendP p c q > 16 * n * n * n * n * 4 * 4
   ·rw [if_pos h2, if_pos ⟨h1, h2⟩]
   ·rw [if_neg h2, if_neg (fun h => h2 h.2)]
  ·rw [if_neg h1, if_neg (fun h => h1 h.1)]
 intro k
 induction k with
 | zero =>
  intro n hn h64
  have : n = 64 := by rcases hn with rfl | rfl | rfl | rfl | rfl | rfl <;> simp at h64 ⊢
  subst this
  refine Qcj ?_ (by simp)
  rw [hst _ hn, if_neg (by omega)]; rfl
 | succ k ih =>
  intro n hn h64
  unfold pcsN
  by_cases h : n < 64 /\ bendP p c q > 16 * n * n * n * n * 4 * 4
  ·rw [if_pos h]
   have hs := hst n hn
   rw [if_pos h] at hs
   rw [Qb8 hs]
   refine ih (n * 2) ?_ ?_
   ·rcases hn with rfl | rfl | rfl | rfl | rfl | rfl <;> simp [isPow] at h ⊢
   ·rw [Int.pow_succ] at h64
    rw [Int.mul_assoc, Int.mul_comm 2]; exact h64
  ·rw [if_neg h]
   refine Qcj ?_ (by simp)
   rw [hst _ hn, if_neg h]
theorem s_blend_Pieces {p c q : Pt} (hp : bd B24 p) (hc : bd B24 c) (hq : bd B24 q) : Qe7 [I p.x, I p.y, I p.z, I c.x, I c.y, I c.z, I q.x, I q.y, I q.z] = some [I (piecesP p c q)] := by
 have h1 := l_PiecesC (s_blend_bend hp hc hq) 5 2 (.inl rfl) (by decide)
 show mf_blend_Pieces _ (Qb1 (Qgy _)) _ = _
 generalize Qec = M at *
 rw [mf_blend_Pieces_eq]
 simp only [go_sem, h1]
 rfl

theorem nth_set_self {α : Type} (d x : α) : ∀ (l : List α) (i : Nat), i < l.length -> nth d (l.set i x) i = x
 | a :: l, 0, _ => rfl
 | a :: l, i + 1, h => by simp only [List.set_cons_succ, nth]; exact nth_set_self d x l i (by simpa using h)
theorem s_MulDiv' {n i p c q : Int} (hn : 2 <= n /\ n <= 64) (hi : 0 <= i /\ i <= n) (hp : p.natAbs <= B24) (hc : c.natAbs <= B24) (hq : q.natAbs <= B24) :
  Qb6 [I (IntKind.i64.wrap (IntKind.i64.wrap (IntKind.i64.wrap (IntKind.i64.wrap (n - i) * IntKind.i64.wrap (n - i)) * IntKind.i64.wrap (p - c)) + IntKind.i64.wrap (IntKind.i64.wrap (i * i) * IntKind.i64.wrap (q - c)))), I 1, I (IntKind.i64.wrap (n * n)), I 2] = some [I (near ((n - i) * (n - i) * (p - c) + i * i * (q - c)) (n * n)), B true] := by
 have n1 : 0 < n * n /\ n * n <= 4096 := ⟨Int.mul_pos (by omega) (by omega), by have := Int.mul_le_mul hn.2 hn.2 (by omega) (by omega); omega⟩
 have n2 : 0 <= (n - i) * (n - i) /\ (n - i) * (n - i) <= 4096 := ⟨Qe3 _, by have := Int.mul_le_mul (show n - i <= 64 by omega) (show n - i <= 64 by omega) (by omega) (by omega); omega⟩
 have n3 : 0 <= i * i /\ i * i <= 4096 := ⟨Qe3 _, by have := Int.mul_le_mul (show i <= 64 by omega) (show i <= 64 by omega) (by omega) (by omega); omega⟩
 unfold B24 at *
 rw [Qab (x := n - i) (by omega), Qab (x := (n - i) * (n - i)) (by omega), Qab (x := p - c) (by omega), Qab (x := i * i) (by omega), Qab (x := q - c) (by omega), Qab (x := n * n) (by omega)]
 have m1 := Qom (x := (n - i) * (n - i)) (y := p - c) (A := 4096) (B := 33554432) (by omega) (by omega)
 have m2 := Qom (x := i * i) (y := q - c) (A := 4096) (B := 33554432) (by omega) (by omega)
 generalize (n - i) * (n - i) * (p - c) = u at *
 generalize i * i * (q - c) = v at *
 rw [Qab (x := u) (by omega), Qab (x := v) (by omega), Qab (by omega)]
 have h := s_wide_MulDiv (a := u + v) (b := 1) (c := n * n) (by unfold i64; omega) (by unfold i64; omega) (by omega) (by rw [show (1 : Int).natAbs = 1 from rfl, Nat.mul_one]; omega)
 rw [Int.mul_one] at h
 exact h
theorem l_CornerC {MR MP MT MC : List AC -> Option (List AC)} {p c q : Pt} {N : Nat} (hN : 2 <= N /\ N <= 64) (hp : bd B24 p) (hc : bd B24 c) (hq : bd B24 q)
  (hR : ∀ {i p c q : Int}, (0 <= i /\ i <= N) -> p.natAbs <= B24 -> c.natAbs <= B24 -> q.natAbs <= B24 -> MR [I (IntKind.i64.wrap (IntKind.i64.wrap (IntKind.i64.wrap (IntKind.i64.wrap ((N : Int) - i) * IntKind.i64.wrap ((N : Int) - i)) * IntKind.i64.wrap (p - c)) + IntKind.i64.wrap (IntKind.i64.wrap (i * i) * IntKind.i64.wrap (q - c)))), I 1, I (IntKind.i64.wrap ((N : Int) * (N : Int))), I 2] = some [I (near (((N : Int) - i) * ((N : Int) - i) * (p - c) + i * i * (q - c)) ((N : Int) * (N : Int))), B true])
  {f : Nat -> List AC} (hf : ∀ i : Nat, f i = ptR (mixP N i p c q)) :
  ∀ (k i : Nat), i + k = N + 1 -> Qb1 (Qfh MR MP MT MC) [.view kPt (fillL f [I 0, I 0, I 0] (N + 1) i), I N, I (N + 1 : Nat), I i, I c.x, I c.y, I c.z, I p.x, I p.y, I p.z, I q.x, I q.y, I q.z] =
   some (1, [.view kPt ((List.range (N + 1)).map f)])
 | 0, i, hi => by
  obtain rfl : i = N + 1 := by omega
  refine Qcj ?_ (by simp)
  rw [st_blend_Corner_9_eq, fillL_end, Qcl (by omega)]
 | k + 1, i, hi => by
  have b1 := mix_bd (n := N) (i := i) (A := B24) (by omega) (by omega) hp.1 hc.1 hq.1
  have b2 := mix_bd (n := N) (i := i) (A := B24) (by omega) (by omega) hp.2.1 hc.2.1 hq.2.1
  have b3 := mix_bd (n := N) (i := i) (A := B24) (by omega) (by omega) hp.2.2 hc.2.2 hq.2.2
  have r1 := hR (i := i) (by omega) hp.1 hc.1 hq.1
  have r2 := hR (i := i) (by omega) hp.2.1 hc.2.1 hq.2.1
  have r3 := hR (i := i) (by omega) hp.2.2 hc.2.2 hq.2.2
  have hs : Qfh MR MP MT MC [.view kPt (fillL f [I 0, I 0, I 0] (N + 1) i), I N, I (N + 1 : Nat), I i, I c.x, I c.y, I c.z, I p.x, I p.y, I p.z, I q.x, I q.y, I q.z] =
    some (0, [.view kPt (fillL f [I 0, I 0, I 0] (N + 1) (i + 1)), I N, I (N + 1 : Nat), I (i + 1 : Nat), I c.x, I c.y, I c.z, I p.x, I p.y, I p.z, I q.x, I q.y, I q.z]) := by
   have hlen := fillL_len f [I 0, I 0, I 0] (show i <= N + 1 by omega)
   have hset := fillL_set f [I 0, I 0, I 0] (show i < N + 1 by omega)
   rw [hf i] at hset
   generalize fillL f [I 0, I 0, I 0] (N + 1) i = l at *
   have hself : ∀ x : List AC, nth [] (l.set i x) i = x := fun x => nth_set_self _ _ _ _ (by omega)
   rw [st_blend_Corner_9_eq]
   have hin : (0 : Int) <= (i : Int) /\ (i : Int) < ((N + 1 : Nat) : Int) := by omega
   simp only [go_sem, r1, r2, r3, Int.toNat_natCast, hlen, if_pos hin, List.set_set, hself, List.length_set]
   rw [if_pos (by omega)]
   unfold mixI B24 at b1 b2 b3
   rw [Qab (x := c.x + _) (by omega), Qab (x := c.y + _) (by omega), Qab (x := c.z + _) (by omega), Qab (x := (i : Int) + 1) (by omega)]
   rw [<- hset]
   rfl
  rw [Qb8 hs]
  exact l_CornerC hN hp hc hq hR hf k (i + 1) (by omega)
theorem s_blend_Corner {a c b : Pt} {tol : Int} (ha : bd B24 a) (hc : bd B24 c) (hb : bd B24 b) (ht : 0 <= tol /\ tol <= 16000) :
  Qk9 [I a.x, I a.y, I a.z, I c.x, I c.y, I c.z, I b.x, I b.y, I b.z, I tol] = some [.view kPt ((Qg1 a c b tol).map ptR)] := by
 show mf_blend_Corner _ _ _ _ (Qb1 (Qfh _ _ _ _)) _ = _
 have e1 := s_blend_Reach ha hc hb ht
 have hR := @s_MulDiv'
 generalize Qhi = MC at *
 unfold Qg1
 by_cases h : Qgd a c b tol = 0
 ·rw [if_pos h]
  rw [mf_blend_Corner_eq]
  simp only [go_sem, e1]
  rw [if_pos h]
  rfl
 ·rw [if_neg h]
  obtain ⟨h1, h2, h3, h4, h5, -⟩ := reach_spec h
  obtain ⟨m1, m2⟩ := mn_le (lenP a c) (lenP c b)
  have h0 : ¬ Qgd a c b tol = 0 := h
  generalize Qgd a c b tol = d at *
  have k1 : bd B24 (towP c a d) := Qlc hc ha h1 (by omega)
  have k2 : bd B24 (towP c b d) := Qlc hc hb h2 (by rw [lenP_comm b c]; omega)
  have t1 := s_blend_Toward hc ha h1 (d := d) (by omega)
  have t2 := s_blend_Toward hc hb h2 (d := d) (by omega)
  have p1 := s_blend_Pieces k1 hc k2
  have p2 := (Qg5 k1 hc k2).2
  generalize piecesP (towP c a d) c (towP c b d) = n at *
  obtain ⟨N, rfl⟩ : ∃ N : Nat, n = N := ⟨n.toNat, by rcases p2 with rfl | rfl | rfl | rfl | rfl | rfl <;> rfl⟩
  have hN : 2 <= N /\ N <= 64 := by unfold isPow at p2; omega
  have hl := l_CornerC (MR := Qb6) (MP := Qe7) (MT := Qc9) (MC := MC) hN k1 hc k2 (fun hi hp hc hq => hR (by omega) hi hp hc hq) (f := fun i => ptR (mixP N i (towP c a d) c (towP c b d))) (fun _ => rfl) (N + 1) 0 (by omega)
  have hf0 : ∀ f : Nat -> List AC, fillL f [I 0, I 0, I 0] (N + 1) 0 = List.replicate (N + 1) [I 0, I 0, I 0] := fun f => by unfold fillL; rw [List.range_zero, List.map_nil, List.nil_append, Nat.sub_zero]
  rw [hf0] at hl
  generalize Qb6 = MR at *
  generalize Qe7 = MP at *
  generalize Qc9 = MT at *
  generalize towP c a d = p at *
  generalize towP c b d = q at *
  rw [mf_blend_Corner_eq]
  simp only [List.cons_append, List.nil_append, ptR] at t1 t2
  have hres : (List.range (N + 1)).map (fun (i : Nat) => ptR (mixP N i p c q)) = ((List.range ((N : Int).toNat + 1)).map fun (i : Nat) => mixP N i p c q).map ptR := by rw [List.map_map, Int.toNat_natCast]; rfl
  rw [hres] at hl
  generalize ((List.range ((N : Int).toNat + 1)).map fun (i : Nat) => mixP N i p c q).map ptR = C at *
  generalize Qb1 (Qfh MR MP MT MC) = L at *
  have hl' : L [.view kPt (List.replicate (N + 1) [I 0, I 0, I 0]), I N, I (N + 1 : Nat), I 0, I c.x, I c.y, I c.z, I p.x, I p.y, I p.z, I q.x, I q.y, I q.z] = some (1, [.view kPt C]) := hl
  have w1 : IntKind.i64.wrap ((N : Int) + 1) = ((N + 1 : Nat) : Int) := by rw [Qab (by omega)]; rfl
  simp only [e1, t1, t2, p1, w1, Option.bind_some, Qjm, nth_1, nth_2, Qiz, gA, jA, wA, bA, Int.toNat_natCast, List.length_replicate, rowsOf_view]
  rw [Qky (by simpa using h0), Qhd trivial, Qob (by simp; omega), hl']
  rfl
end Go.Bm
/- the program's points of a motion are the reference's; which items it refuses -/
set_option maxRecDepth 100000
namespace Go.Bm
open Classical

theorem Qns (k : Int) : Qbm [I k] = some [B (decide (1 <= k /\ k <= 6))] := by
 unfold Qbm
 rw [mf_path_motion_eq]
 by_cases h : 1 <= k
 ·rw [Qhd (show k >= 1 from h)]
  by_cases h2 : k <= 6
  ·rw [decide_eq_true h2, decide_eq_true ⟨h, h2⟩]
  ·rw [decide_eq_false h2, decide_eq_false fun h3 => h2 h3.2]
 ·rw [Qcl (show ¬ k >= 1 from h), decide_eq_false fun h3 => h h3.1]
theorem s_path_smooth (it : Itm) : Qdf (itmR it) = some [B (decide (smI it))] := by
 unfold Qdf
 rw [mf_path_smooth_eq]
 by_cases h : it.kind = 2
 ·rw [Qob (by simp [h])]
  congr 2
  by_cases h2 : it.fr = it.to
  ·have h3 := pt_ext.1 h2
   rw [decide_eq_false (fun hs : smI it => hs.2 h2)]
   simp [h3.1, h3.2.1, h3.2.2]
  ·rw [decide_eq_true (show smI it from ⟨h, h2⟩)]
   have h3 : ¬ (it.fr.x = it.to.x /\ it.fr.y = it.to.y /\ it.fr.z = it.to.z) := fun h3 => h2 (pt_ext.2 h3)
   simp only [B, AC.bool.injEq, Bool.not_eq_true', Bool.and_true]
   by_cases a : it.fr.x = it.to.x <;> by_cases b : it.fr.y = it.to.y <;> by_cases c : it.fr.z = it.to.z <;> simp [a, b, c] at h3 ⊢
 ·rw [Qky (by simp [h]), decide_eq_false (fun hs : smI it => h hs.1)]
theorem s_path_middle {it : Itm} (h1 : bd 1048576 it.fr) (h2 : bd 1048576 it.to) : Qde (itmR it) = some (ptR (Qba it)) := by
 obtain ⟨a1, a2, a3⟩ := h1
 obtain ⟨b1, b2, b3⟩ := h2
 unfold Qde
 rw [mf_path_middle_eq, Qab (x := it.fr.x + it.to.x) (by omega), Qab (x := (it.fr.x + it.to.x) * 8) (by omega), Qab (x := it.fr.y + it.to.y) (by omega), Qab (x := (it.fr.y + it.to.y) * 8) (by omega), Qab (x := it.fr.z + it.to.z) (by omega), Qab (x := (it.fr.z + it.to.z) * 8) (by omega)]
 rfl
theorem s_path_scaled {p : Pt} (h : bd 100000000 p) : Qj1 [I p.x, I p.y, I p.z] = some (ptR (fine p)) := by
 unfold Qj1
 rw [mf_path_scaled_eq]
 obtain ⟨h1, h2, h3⟩ := h
 rw [Qab (by omega), Qab (by omega), Qab (by omega)]
 rfl
theorem s_path_geared (it : Itm) : Qd4 (itmR it) = some [B (decide (syI it))] := by
 unfold Qd4
 rw [mf_path_geared_eq]
 by_cases h5 : it.kind = 5
 ·rw [Qob (by simp [h5]), decide_eq_true (show syI it from .inl h5)]
 ·rw [Qky (by simp [h5])]
  by_cases h6 : it.kind = 6
  ·rw [decide_eq_true (show syI it from .inr h6)]; simp [h6]
  ·rw [decide_eq_false (show ¬ syI it from fun h => h.elim h5 h6)]; simp [h6]

theorem a_path_check {MV MM : List AC -> Option (List AC)} {it : Itm} (hM : MM [I it.kind] = some [B (decide (1 <= it.kind /\ it.kind <= 6))]) (hV : ∃ v, MV (itmR it) = some [B v] /\ (v = true ↔ Qfa it)) :
  mf_path_check MV MM (itmR it) = some [I (if Qgo it then 1 else 0)] := by
 obtain ⟨v, hv, hvv⟩ := hV
 have hr : ∀ {x : Int}, (Qgo it -> x = 1) -> (¬ Qgo it -> x = 0) -> some [I x] = some [I (if Qgo it then 1 else 0)] := by
  intro x h1 h2
  by_cases c : Qgo it
  ·rw [if_pos c, h1 c]
  ·rw [if_neg c, h2 c]
 rw [mf_path_check_eq]
 simp only [go_sem, hM, hv]
 unfold Qgo motI at hr ⊢
 have one : ∀ {P : Prop}, P -> (P -> (1 : Int) = 1) /\ (¬ P -> (1 : Int) = 0) := fun h => ⟨fun _ => rfl, fun g => absurd h g⟩
 have zero : ∀ {P : Prop}, ¬ P -> (P -> (0 : Int) = 1) /\ (¬ P -> (0 : Int) = 0) := fun h => ⟨fun g => absurd g h, fun _ => rfl⟩
 by_cases c1 : it.kind < 1
 ·rw [if_pos c1]; exact hr (fun _ => rfl) fun g => absurd (.inl c1) g
 rw [if_neg c1]
 by_cases c2 : it.kind > 14
 ·rw [if_pos c2]; exact hr (fun _ => rfl) fun g => absurd (.inr (.inl c2)) g
 rw [if_neg c2]
 by_cases c3 : 1 <= it.kind /\ it.kind <= 6
 ·simp only [if_pos c3]
  have hk8 : it.kind ≠ 8 := by omega
  simp only [if_neg hk8]
  by_cases c4 : Qfa it
  ·rw [if_neg (by simp [hvv.2 c4])]
   by_cases c5 : it.blend < 0
   ·rw [if_pos c5]; exact hr (fun _ => rfl) fun g => absurd (.inr (.inr (.inl ⟨c3, .inr (.inr (.inl c5))⟩))) g
   rw [if_neg c5]
   by_cases c6 : it.blend > 1000
   ·rw [if_pos c6]; exact hr (fun _ => rfl) fun g => absurd (.inr (.inr (.inl ⟨c3, .inr (.inr (.inr c6))⟩))) g
   rw [if_neg c6]
   by_cases c7 : it.kind = 1
   ·rw [if_neg (show ¬ it.kind ≠ 1 by omega)]
    refine hr (fun g => ?_) fun _ => rfl
    rcases g with g | g | ⟨-, g | g | g | g⟩ | g
    ·omega
    ·omega
    ·exact absurd c4 g
    ·omega
    ·omega
    ·omega
    ·omega
   ·rw [if_pos c7]
    by_cases c8 : it.feed < 1
    ·rw [if_pos c8]; exact hr (fun _ => rfl) fun g => absurd (.inr (.inr (.inl ⟨c3, .inr (.inl ⟨c7, .inl c8⟩)⟩))) g
    rw [if_neg c8]
    by_cases c9 : it.feed > 60000000
    ·rw [if_pos c9]; exact hr (fun _ => rfl) fun g => absurd (.inr (.inr (.inl ⟨c3, .inr (.inl ⟨c7, .inr c9⟩)⟩))) g
    rw [if_neg c9]
    refine hr (fun g => ?_) fun _ => rfl
    rcases g with g | g | ⟨-, g | g | g | g⟩ | g
    ·omega
    ·omega
    ·exact absurd c4 g
    ·omega
    ·omega
    ·omega
    ·omega
  ·rw [if_pos (fun h => c4 (hvv.1 h))]
   exact hr (fun _ => rfl) fun g => absurd (.inr (.inr (.inl ⟨c3, .inl c4⟩))) g
 ·simp only [if_neg c3]
  by_cases c4 : it.kind = 8
  ·rw [if_pos c4]
   by_cases d1 : it.n < 3
   ·rw [if_pos d1]; exact hr (fun _ => rfl) fun g => absurd (.inr (.inr (.inr ⟨c3, c4, .inl d1⟩))) g
   rw [if_neg d1]
   by_cases d2 : it.n > 5
   ·rw [if_pos d2]; exact hr (fun _ => rfl) fun g => absurd (.inr (.inr (.inr ⟨c3, c4, .inr (.inl d2)⟩))) g
   rw [if_neg d2]
   by_cases d3 : it.speed < 0
   ·rw [if_pos d3]; exact hr (fun _ => rfl) fun g => absurd (.inr (.inr (.inr ⟨c3, c4, .inr (.inr (.inl d3))⟩))) g
   rw [if_neg d3]
   by_cases d4 : it.speed > 30000
   ·rw [if_pos d4]; exact hr (fun _ => rfl) fun g => absurd (.inr (.inr (.inr ⟨c3, c4, .inr (.inr (.inr d4))⟩))) g
   rw [if_neg d4]
   refine hr (fun g => ?_) fun _ => rfl
   rcases g with g | g | ⟨g, -⟩ | ⟨-, -, g⟩
   ·omega
   ·omega
   ·exact absurd g c3
   ·omega
  ·rw [if_neg c4]
   refine hr (fun g => ?_) fun _ => rfl
   rcases g with g | g | ⟨g, -⟩ | ⟨-, g, -⟩
   ·omega
   ·omega
   ·exact absurd g c3
   ·omega
theorem s_path_check (it : Itm) : Qga (itmR it) = some [I (if Qgo it then 1 else 0)] := a_path_check (Qns _) (Qn4 it)

def nextF : List Itm -> Nat -> Nat
 | [], k => k
 | it :: l, k => if it.kind = 10 then nextF l (k + 1) else k
def nextN (items : List Itm) (i : Nat) : Nat := nextF (items.drop (i + 1)) (i + 1)
theorem nextF_spec : ∀ (l : List Itm) (k : Nat), k <= nextF l k /\ nextF l k <= k + l.length
 | [], k => by simp [nextF]
 | it :: l, k => by
  unfold nextF
  split
  ·have := nextF_spec l (k + 1); simp; omega
  ·simp
theorem nextSm_F : ∀ (l : List Itm) (k : Nat), nextSm l k = if nextF l k - k < l.length /\ smI (l.getD (nextF l k - k) it0) then (nextF l k : Int) else -1
 | [], k => by simp [nextSm]
 | it :: l, k => by
  have hs := nextF_spec l (k + 1)
  by_cases h10 : it.kind = 10
  ·have e1 : nextSm (it :: l) k = nextSm l (k + 1) := by rw [nextSm, if_pos h10]
   have e2 : nextF (it :: l) k = nextF l (k + 1) := by rw [nextF, if_pos h10]
   rw [e1, e2, nextSm_F l (k + 1)]
   have e3 : nextF l (k + 1) - k = (nextF l (k + 1) - (k + 1)) + 1 := by omega
   rw [e3, List.getD_cons_succ]
   by_cases c : nextF l (k + 1) - (k + 1) < l.length
   ·have c2 : nextF l (k + 1) - (k + 1) + 1 < (it :: l).length := by simp; omega
    by_cases c3 : smI (l.getD (nextF l (k + 1) - (k + 1)) it0)
    ·rw [if_pos ⟨c, c3⟩, if_pos ⟨c2, c3⟩]
    ·rw [if_neg (fun g => c3 g.2), if_neg (fun g => c3 g.2)]
   ·rw [if_neg (fun g => c g.1), if_neg (fun g => c (by have := g.1; simp at this; omega))]
  ·have e1 : nextSm (it :: l) k = if smI it then (k : Int) else -1 := by rw [nextSm, if_neg h10]
   have e2 : nextF (it :: l) k = k := by rw [nextF, if_neg h10]
   rw [e1, e2, Nat.sub_self, List.getD_cons_zero]
   by_cases c : smI it
   ·rw [if_pos c, if_pos ⟨by simp, c⟩]
   ·rw [if_neg c, if_neg (fun g => c g.2)]
theorem l_next {items : List Itm} (hl : items.length <= 1000000) : ∀ (k i : Nat), i + k = items.length ->
  Qb1 Qk3 [.view kItm (items.map itmR), I i] = some (1, [I (nextF (items.drop i) i)])
 | 0, i, hi => by
  refine Qcj ?_ (by simp)
  rw [st_path_next_2_eq]
  simp only [go_sem, List.length_map]
  rw [if_neg (by omega), List.drop_of_length_le (by omega)]
  rfl
 | k + 1, i, hi => by
  have hlt : i < items.length := by omega
  have hr := Qlu hlt
  rw [drop_itA hlt]
  have hst : Qk3 [.view kItm (items.map itmR), I i] = if (itA items i).kind = 10 then some (0, [.view kItm (items.map itmR), I (i + 1 : Nat)]) else some (1, [I i]) := by
   rw [st_path_next_2_eq]
   have hin : (0 : Int) <= (i : Int) /\ (i : Int) < (items.length : Int) := by omega
   simp only [go_sem, List.length_map, Int.toNat_natCast, hr, if_pos hin]
   rw [if_pos (by omega), Qab (by omega)]
   rfl
  unfold nextF
  by_cases h10 : (itA items i).kind = 10
  ·rw [if_pos h10] at hst ⊢
   rw [Qb8 hst]
   exact l_next hl k (i + 1) (by omega)
  ·rw [if_neg h10] at hst ⊢
   exact Qcj hst (by simp)
theorem s_path_next {items : List Itm} (hl : items.length <= 1000000) {i : Nat} (hi : i < items.length) : Qdz [.view kItm (items.map itmR), I i] = some [I (nextN items i)] := by
 show mf_path_next (Qb1 Qk3) _ = _
 have h := l_next hl (items.length - (i + 1)) (i + 1) (by omega)
 rw [mf_path_next_eq, Qab (by omega), show (i : Int) + 1 = ((i + 1 : Nat) : Int) by omega, h]
 rfl
theorem softK_next {items : List Itm} {i : Nat} : Qiw items i = if smI (itA items i) /\ (itA items i).blend ≠ 0 /\ nextN items i < items.length /\ smI (itA items (nextN items i)) then (nextN items i : Int) else -1 := by
 unfold Qiw
 by_cases h : smI (itA items i) /\ (itA items i).blend ≠ 0
 ·rw [if_pos h, nextSm_F]
  have hs := nextF_spec (items.drop (i + 1)) (i + 1)
  rw [List.length_drop] at hs
  have e : (items.drop (i + 1)).getD (nextF (items.drop (i + 1)) (i + 1) - (i + 1)) it0 = itA items (nextN items i) := by
   unfold itA
   rw [List.getD_eq_getElem?_getD, List.getElem?_drop, List.getD_eq_getElem?_getD]
   have : i + 1 + (nextF (items.drop (i + 1)) (i + 1) - (i + 1)) = nextN items i := by unfold nextN; omega
   rw [this]
  rw [e, List.length_drop]
  have e2 : nextF (items.drop (i + 1)) (i + 1) = nextN items i := rfl
  rw [e2] at hs ⊢
  by_cases c : nextN items i < items.length /\ smI (itA items (nextN items i))
  ·rw [if_pos ⟨by omega, c.2⟩, if_pos ⟨h.1, h.2, c⟩]
  ·rw [if_neg (fun g => c ⟨by have := g.1; omega, g.2⟩), if_neg (fun g => c g.2.2)]
 ·rw [if_neg h, if_neg (fun g => h ⟨g.1, g.2.1⟩)]
theorem a_path_soft {MS MN : List AC -> Option (List AC)} {items : List Itm} (hS : ∀ it, MS (itmR it) = some [B (decide (smI it))]) {i : Nat} (hi : i < items.length) (hN : MN [.view kItm (items.map itmR), I i] = some [I (nextN items i)]) :
  mf_path_soft MS MN [.view kItm (items.map itmR), I i] = some [B (decide (0 <= Qiw items i))] := by
 have hr := Qlu hi
 have hs := hS (itA items i)
 rw [mf_path_soft_eq, softK_next]
 simp only [itmR] at hs
 have hin : (0 : Int) <= (i : Int) /\ (i : Int) < (items.length : Int) := by omega
 simp only [go_sem, List.length_map, Int.toNat_natCast, hr, hs, hN, if_pos hin]
 by_cases h1 : smI (itA items i)
 case neg => rw [if_neg h1, if_neg (fun g => h1 g.1)]; simp
 rw [if_pos h1]
 by_cases h2 : (itA items i).blend = 0
 ·rw [if_neg (by simp [h2]), if_neg (fun g => g.2.1 h2)]; simp
 rw [if_pos h2]
 by_cases h3 : nextN items i < items.length
 ·have hr2 := Qlu h3
  have hs2 := hS (itA items (nextN items i))
  simp only [itmR] at hs2
  have hin2 : (0 : Int) <= (nextN items i : Int) /\ (nextN items i : Int) < (items.length : Int) := by omega
  rw [if_pos (by omega), if_pos hin2]
  simp only [go_sem, hr2, hs2]
  by_cases h4 : smI (itA items (nextN items i))
  ·rw [decide_eq_true h4, if_pos ⟨h1, h2, h3, h4⟩, decide_eq_true (by omega)]
  ·rw [decide_eq_false h4, if_neg (fun g => h4 g.2.2.2)]; simp
 ·rw [if_neg (by omega), if_neg (fun g => h3 g.2.2.1)]; simp
theorem s_path_soft {items : List Itm} (hl : items.length <= 1000000) {i : Nat} (hi : i < items.length) : Qet [.view kItm (items.map itmR), I i] = some [B (decide (0 <= Qiw items i))] :=
 a_path_soft s_path_smooth hi (s_path_next hl hi)
theorem soft_next {items : List Itm} {i : Nat} (h : 0 <= Qiw items i) : Qiw items i = nextN items i := by
 rw [softK_next] at h ⊢
 split at h
 ·rename_i c; rw [if_pos c]
 ·omega

theorem corner_odd {a c b : Pt} {tol : Int} (ha : bd B24 a) (hc : bd B24 c) (hb : bd B24 b) : (Qg1 a c b tol).length % 2 = 1 := by
 unfold Qg1
 by_cases h : Qgd a c b tol = 0
 ·rw [if_pos h]; rfl
 ·rw [if_neg h]
  obtain ⟨h1, h2, h3, h4, h5, -⟩ := reach_spec h
  obtain ⟨m1, m2⟩ := mn_le (lenP a c) (lenP c b)
  generalize Qgd a c b tol = d at *
  have k1 : bd B24 (towP c a d) := Qlc hc ha h1 (by omega)
  have k2 : bd B24 (towP c b d) := Qlc hc hb h2 (by rw [lenP_comm b c]; omega)
  have k3 := (Qg5 k1 hc k2).2
  generalize piecesP (towP c a d) c (towP c b d) = n at *
  rw [List.length_map, List.length_range]
  rcases k3 with rfl | rfl | rfl | rfl | rfl | rfl <;> rfl
theorem a_path_corner {MC MF MM : List AC -> Option (List AC)} {a b : Itm} {l : List Pt} (hbl : 0 <= a.blend /\ a.blend <= 1000) (hl : 1 <= l.length /\ l.length <= 65) (hodd : l.length % 2 = 1)
  (c1 : MM (itmR a) = some (ptR (Qba a))) (c2 : MM (itmR b) = some (ptR (Qba b))) (f1 : MF [I a.to.x, I a.to.y, I a.to.z] = some (ptR (fine a.to)))
  (hC : MC (ptR (Qba a) ++ ptR (fine a.to) ++ ptR (Qba b) ++ [I (a.blend * 16)]) = some [.view kPt (l.map ptR)]) :
  mf_path_corner MC MF MM (itmR a ++ itmR b) = some [.view kPt ((l.take (l.length / 2 + 1)).map ptR), .view kPt ((l.drop (l.length / 2)).map ptR)] := by
 simp only [itmR, List.cons_append, List.nil_append] at c1 c2 ⊢
 rw [mf_path_corner_eq]
 simp only [ptR, List.cons_append, List.nil_append] at hC
 simp only [go_sem, c1, c2, f1]
 rw [Qab (by omega)]
 simp only [hC, go_sem, List.length_map]
 have e : IntKind.i64.wrap ((IntKind.i64.wrap ((l.length : Int) - 1)).tdiv 2) = ((l.length / 2 : Nat) : Int) := by
  rw [Qab (x := (l.length : Int) - 1) (by omega), Int.tdiv_eq_ediv_of_nonneg (by omega), Qab (by omega)]
  omega
 have e2 : IntKind.i64.wrap (((l.length / 2 : Nat) : Int) + 1) = ((l.length / 2 + 1 : Nat) : Int) := by rw [Qab (by omega)]; omega
 simp only [e, e2, Int.toNat_natCast]
 rw [if_pos (by omega), if_pos (by omega), List.map_take, List.map_drop]
theorem s_path_corner {a b : Itm} (h1 : drawn a) (h2 : drawn b) :
  m_path_corner (itmR a ++ itmR b) = some [.view kPt (((Qg1 (Qba a) (fine a.to) (Qba b) (a.blend * 16)).take ((Qg1 (Qba a) (fine a.to) (Qba b) (a.blend * 16)).length / 2 + 1)).map ptR), .view kPt (((Qg1 (Qba a) (fine a.to) (Qba b) (a.blend * 16)).drop ((Qg1 (Qba a) (fine a.to) (Qba b) (a.blend * 16)).length / 2)).map ptR)] :=
 have k1 := center_bd h1.1.2.1 h1.1.2.2.1
 have k2 := Qg6 h1.1.2.2.1
 have k3 := center_bd h2.1.2.1 h2.1.2.2.1
 a_path_corner h1.2 (corner_bd k1 k2 k3).2 (corner_odd k1 k2 k3) (s_path_middle h1.1.2.1 h1.1.2.2.1) (s_path_middle h2.1.2.1 h2.1.2.2.1) (s_path_scaled (Qau h1.1.2.2.1 (by decide))) (s_blend_Corner k1 k2 k3 (by have := h1.2; omega))
end Go.Bm
/- the reference's path of a list of items: the model gives it -/
set_option maxRecDepth 100000
namespace Go.Bm
open Classical

end Go.Bm
/- the reference's path of a list of items, for up to 15 items -/
set_option maxRecDepth 100000
namespace Go.Bm
open Classical

noncomputable def Qjq (items : List Itm) : Pth := ⟨(Qbi items items.length).start, (Qbi items items.length).segs, (Qbi items items.length).marks⟩
end Go.Bm
/- what is known of every path that the reference builds -/
set_option maxRecDepth 100000
namespace Go.Bm
open Classical

def endOf : Pt -> List Sgm -> Pt
 | a, [] => a
 | _, g :: l => endOf g.to l
abbrev B26 : Nat := 67108864
def goodSegs : Pt -> List Sgm -> Prop
 | _, [] => True
 | a, g :: l => g.len = lenP a g.to /\ g.to ≠ a /\ bd B26 g.to /\ goodSegs g.to l
def Qfo : List Sgm -> Int
 | [] => 0
 | g :: l => g.len + Qfo l
theorem endOf_snoc (g : Sgm) : ∀ (a : Pt) (l : List Sgm), endOf a (l ++ [g]) = g.to
 | _, [] => rfl
 | _, h :: l => by simp only [List.cons_append, endOf]; exact endOf_snoc g h.to l
theorem goodSegs_snoc {g : Sgm} : ∀ {a : Pt} {l : List Sgm}, goodSegs a l -> g.len = lenP (endOf a l) g.to -> g.to ≠ endOf a l -> bd B26 g.to -> goodSegs a (l ++ [g])
 | a, [], _, h1, h2, h3 => ⟨h1, h2, h3, trivial⟩
 | a, k :: l, h, h1, h2, h3 => ⟨h.1, h.2.1, h.2.2.1, goodSegs_snoc h.2.2.2 h1 h2 h3⟩
theorem sumLen_snoc (g : Sgm) : ∀ (l : List Sgm), Qfo (l ++ [g]) = Qfo l + g.len
 | [] => by simp [Qfo]
 | k :: l => by simp only [List.cons_append, Qfo]; rw [sumLen_snoc g l]; omega
def segInv (start : Pt) (s : List Sgm × Int × Pt) : Prop := goodSegs start s.1 /\ endOf start s.1 = s.2.2 /\ Qfo s.1 = s.2.1
theorem fold_inv {start : Pt} {item feed lead : Int} : ∀ (pts : List Pt) (s : List Sgm × Int × Pt), (∀ p ∈ pts, bd B26 p) -> segInv start s -> segInv start (pts.foldl (Qfv item feed lead) s)
 | [], s, _, h => h
 | q :: pts, s, hp, h => by
  rw [List.foldl_cons]
  refine fold_inv pts _ (fun p hp' => hp p (by simp [hp'])) ?_
  unfold Qfv
  by_cases c : q = s.2.2
  ·rw [if_pos c]; exact h
  ·rw [if_neg c]
   obtain ⟨h1, h2, h3⟩ := h
   refine ⟨goodSegs_snoc h1 (by rw [h2]) (by rw [h2]; exact c) (hp q (by simp)), endOf_snoc _ _ _, ?_⟩
   simp only [sumLen_snoc, h3]
structure BInv (s : BSt) : Prop where
 begun : s.begun = true -> bd B26 s.start /\ segInv s.start (s.segs, s.len, s.at_)
 empty : s.begun = false -> s.segs = [] /\ s.len = 0 /\ s.start = ⟨0, 0, 0⟩
theorem bStep_inv {items : List Itm} {i : Nat} {s : BSt} (hi : i < items.length) (hright : ∀ j < items.length, ¬ Qgo (itA items j)) (hok : BOK items i s) (h : BInv s) : BInv (bStep items i s) := by
 have hall : ∀ k < items.length, motI (itA items k) -> drawn (itA items k) := fun k hk hm => (right_mot (hright k hk) hm).1
 unfold bStep
 by_cases hm : motI (itA items i)
 ·rw [if_pos hm]
  have hd := hall i hi hm
  obtain ⟨p1, -⟩ := points_bd hd hok.frm hall
  refine ⟨fun _ => ?_, fun hb => (by cases hb)⟩
  unfold motS
  by_cases hb : s.begun = true
  ·rw [if_pos hb, if_pos hb]
   obtain ⟨g1, g2⟩ := h.begun hb
   exact ⟨g1, fold_inv _ _ p1 g2⟩
  ·rw [if_neg hb, if_neg hb]
   obtain ⟨g1, g2, g3⟩ := h.empty (by simpa using hb)
   refine ⟨Qau (Qg6 hd.1.2.1) (by decide), fold_inv _ _ p1 ?_⟩
   rw [g1, g2]
   exact ⟨trivial, rfl, rfl⟩
 ·rw [if_neg hm]
  exact ⟨h.begun, h.empty⟩
theorem buildN_inv {items : List Itm} (hright : ∀ j < items.length, ¬ Qgo (itA items j)) : ∀ i, i <= items.length -> BInv (Qbi items i)
 | 0, _ => by rw [Qbi]; exact ⟨fun h => (by cases h), fun _ => ⟨rfl, rfl, rfl⟩⟩
 | i + 1, hi => by rw [Qbi]; exact bStep_inv (by omega) hright (buildN_ok hright i (by omega)) (buildN_inv hright i (by omega))
structure GoodPath (p : Pth) : Prop where
 start : bd B26 p.start
 segs : goodSegs p.start p.segs
 count : p.segs.length <= 983055
theorem goodP_of {items : List Itm} (hlen : items.length <= 15) (hc : checkP items = 0) : GoodPath (Qjq items) := by
 have hright := (check_right hc).2
 have h1 := buildN_ok hright items.length (Nat.le_refl _)
 have h2 := buildN_inv hright items.length (Nat.le_refl _)
 have hs := h1.segs
 unfold Qjq
 by_cases hb : (Qbi items items.length).begun = true
 ·obtain ⟨g1, g2, -⟩ := h2.begun hb
  exact ⟨g1, g2, by simp only; omega⟩
 ·obtain ⟨g1, -, g3⟩ := h2.empty (by simpa using hb)
  refine ⟨?_, ?_, ?_⟩
  ·simp only [g3]; unfold bd; simp
  ·simp only [g1]; trivial
  ·simp only [g1]; simp
theorem len_pos {a b : Pt} (ha : bd B26 a) (hb : bd B26 b) (h : b ≠ a) : 1 <= lenP a b /\ lenP a b <= 268435456 := by
 obtain ⟨-, h1, h2, -⟩ := Qj8 ha hb
 have h3 : sqD a b ≠ 0 := fun e => h (sqD_zero.1 e).symm
 have h4 := sqD_nn a b
 have h5 := len_bd ha hb
 refine ⟨?_, h5.2⟩
 by_cases c : lenP a b = 0
 ·rw [c] at h2; omega
 ·omega
theorem good_len {a : Pt} {l : List Sgm} (ha : bd B26 a) (h : goodSegs a l) : ∀ g ∈ l, 1 <= g.len /\ g.len <= 268435456 /\ bd B26 g.to := by
 induction l generalizing a with
 | nil => simp
 | cons k l ih =>
  obtain ⟨h1, h2, h3, h4⟩ := h
  intro g hg
  rcases List.mem_cons.1 hg with rfl | hg
  ·rw [h1]; exact ⟨(len_pos ha h3 h2).1, (len_pos ha h3 h2).2, h3⟩
  ·exact ih h3 h4 g hg
theorem sum_bd {l : List Sgm} (h : ∀ g ∈ l, 1 <= g.len /\ g.len <= 268435456 /\ bd B26 g.to) : (l.length : Int) <= Qfo l /\ Qfo l <= l.length * 268435456 := by
 induction l with
 | nil => simp [Qfo]
 | cons k l ih =>
  have := ih fun g hg => h g (by simp [hg])
  have := h k (by simp)
  simp only [Qfo, List.length_cons]
  omega
end Go.Bm
/- the program's path of a list of items: its points, its marks, what it adds -/
set_option maxRecDepth 100000
namespace Go.Bm
open Classical

theorem a_path_points {MM MN MS MC MSm MK : List AC -> Option (List AC)} {items : List Itm} {i : Nat} {frm : Int} (hi : i < items.length) (hd : drawn (itA items i)) (hf : frmOK items i frm) (hall : ∀ k < items.length, motI (itA items k) -> drawn (itA items k))
  (hK : MK (itmR (itA items i)) = some [.view kPt ((Qdy (itA items i)).map ptR), B true]) (hM : MSm (itmR (itA items i)) = some [B (decide (smI (itA items i)))])
  (hJ : ∀ {i k : Nat}, i < items.length -> k < items.length -> drawn (itA items i) -> drawn (itA items k) -> MC (itmR (itA items i) ++ itmR (itA items k)) = some [.view kPt (((Qko items i k).take ((Qko items i k).length / 2 + 1)).map ptR), .view kPt (((Qko items i k).drop ((Qko items i k).length / 2)).map ptR)])
  (hS : MS [.view kItm (items.map itmR), I i] = some [B (decide (0 <= Qiw items i))]) (hN : MN [.view kItm (items.map itmR), I i] = some [I (nextN items i)]) (hC : MM (itmR (itA items i)) = some (ptR (Qba (itA items i)))) :
  mf_path_points MM MN MS MC MSm MK [.view kItm (items.map itmR), I i, I frm] = some [.view kPt ((Qdg items i frm).map ptR)] := by
 have r1 := Qlu hi
 obtain ⟨hcl1, hcl2⟩ := chordsP_len (itA items i)
 rw [mf_path_points_eq]
 simp only [itmR, List.cons_append, List.nil_append] at hK hM hC hJ
 have hin : (0 : Int) <= (i : Int) /\ (i : Int) < (items.length : Int) := by omega
 simp only [go_sem, List.length_map, Int.toNat_natCast, r1, hK, hM, hC, hS, hN, List.nil_append, if_pos hin]
 unfold Qdg
 by_cases hs : smI (itA items i)
 case neg => rw [if_pos (by simp [hs]), if_neg hs]
 rw [if_neg (by simp [hs]), if_pos hs]
 have hk3 : (itA items i).kind ≠ 3 := by have := hs.1; omega
 have hcl3 : (Qdy (itA items i)).length = 2 := by unfold Qdy; rw [if_neg hk3]; rfl
 have w1 : IntKind.i64.wrap (((Qdy (itA items i)).length : Int) - 1) = 1 := by rw [hcl3]; rfl
 rw [w1, hcl3, if_pos (by omega), if_pos (by omega)]
 unfold tailP
 rcases hf with rfl | ⟨f, rfl, hf1, hf2⟩
 ·rw [if_neg (show ¬ (-1 : Int) >= 0 by omega)]
  unfold headP
  rw [if_neg (show ¬ (0 : Int) <= -1 by omega)]
  by_cases hpos : 0 <= Qiw items i
  ·obtain ⟨k, hk, hk1, hk2⟩ := soft_get hall hpos
   have hnx := soft_next hpos
   rw [hk] at hnx
   have hnk : nextN items i = k := by omega
   obtain ⟨j1, j2, j3⟩ := joined_bd (items := items) (i := i) (k := k) hd hk2
   have hj := hJ hi hk1 hd hk2
   have r2 := Qlu hk1
   have hin2 : (0 : Int) <= (k : Int) /\ (k : Int) < (items.length : Int) := by omega
   rw [if_pos hpos, if_pos hpos, hk, hnk, Int.toNat_natCast, if_pos hin2]
   simp only [go_sem, Int.toNat_natCast, r2, hj]
   rw [if_pos (by simp [map_take1]; omega), if_pos (by simp; omega), if_pos (by simp; omega)]
   simp only [map_take1, List.map_append, List.map_cons, List.map_nil]
  ·rw [if_neg hpos, if_neg hpos, if_pos (by simp [map_take1]; omega), if_pos (by simp; omega), if_pos (by simp; omega)]
   simp only [map_take1, map_drop1, List.map_append, List.map_cons, List.map_nil]
 ·have hjf := hJ hf1 hi hf2 hd
  obtain ⟨f1, f2, f3⟩ := joined_bd (items := items) (i := f) (k := i) hf2 hd
  have rf := Qlu hf1
  have hinf : (0 : Int) <= (f : Int) /\ (f : Int) < (items.length : Int) := by omega
  rw [if_pos (show (f : Int) >= 0 by omega), if_pos hinf]
  unfold headP
  rw [if_pos (show (0 : Int) <= (f : Int) by omega), Int.toNat_natCast]
  simp only [rf, go_sem, hjf, Int.toNat_natCast]
  by_cases hpos : 0 <= Qiw items i
  ·obtain ⟨k, hk, hk1, hk2⟩ := soft_get hall hpos
   have hnx := soft_next hpos
   rw [hk] at hnx
   have hnk : nextN items i = k := by omega
   obtain ⟨j1, j2, j3⟩ := joined_bd (items := items) (i := i) (k := k) hd hk2
   have hj := hJ hi hk1 hd hk2
   have r2 := Qlu hk1
   have hin2 : (0 : Int) <= (k : Int) /\ (k : Int) < (items.length : Int) := by omega
   rw [if_pos hpos, if_pos hpos, hk, hnk, Int.toNat_natCast, if_pos hin2]
   simp only [go_sem, Int.toNat_natCast, r2, hj]
   rw [if_pos (by simp; omega), if_pos (by simp; omega), if_pos (by simp; omega)]
   simp only [List.map_append, List.map_cons, List.map_nil]
  ·rw [if_neg hpos, if_neg hpos, if_pos (by simp; omega), if_pos (by simp; omega), if_pos (by simp; omega)]
   simp only [map_drop1, List.map_append, List.map_cons, List.map_nil]
theorem s_path_points {items : List Itm} (hl : items.length <= 1000000) {i : Nat} {frm : Int} (hi : i < items.length) (hd : drawn (itA items i)) (hf : frmOK items i frm) (hall : ∀ k < items.length, motI (itA items k) -> drawn (itA items k)) :
  Qj6 [.view kItm (items.map itmR), I i, I frm] = some [.view kPt ((Qdg items i frm).map ptR)] :=
 a_path_points hi hd hf hall (s_curve_Chords hd.1) (s_path_smooth _) (fun h1 h2 h3 h4 => s_path_corner h3 h4) (s_path_soft hl hi) (s_path_next hl hi) (s_path_middle hd.1.2.1 hd.1.2.2.1)

theorem l_exact {MM MS : List AC -> Option (List AC)} {l : List Itm} (hM : ∀ k : Int, MM [I k] = some [B (decide (1 <= k /\ k <= 6))]) (hS : ∀ it, MS (itmR it) = some [B (decide (syI it))]) (hl : l.length <= 1000000) : ∀ (k i : Nat), i + k = l.length ->
  (Qb1 (Qfs MM MS) [.view kItm (l.map itmR), I l.length, I i] = some (1, [B (decide (nextSy (l.drop i) = 1))])) \/ (Qb1 (Qfs MM MS) [.view kItm (l.map itmR), I l.length, I i] = some (2, []) /\ nextSy (l.drop i) = 2)
 | 0, i, hi => by
  right
  refine ⟨Qcj ?_ (by simp), by rw [List.drop_of_length_le (by omega)]; rfl⟩
  rw [st_path_exact_4_eq]
  simp only [go_sem]
  rw [if_neg (by omega)]
 | k + 1, i, hi => by
  have hlt : i < l.length := by omega
  have hr := Qlu hlt
  rw [drop_itA hlt]
  have hs := hS (itA l i)
  have hm := hM (itA l i).kind
  have hst : Qfs MM MS [.view kItm (l.map itmR), I l.length, I i] = if motI (itA l i) then some (1, [B (decide (syI (itA l i)))]) else some (0, [.view kItm (l.map itmR), I l.length, I (i + 1 : Nat)]) := by
   rw [st_path_exact_4_eq]
   simp only [itmR] at hs
   have hin : (0 : Int) <= (i : Int) /\ (i : Int) < (l.length : Int) := by omega
   simp only [go_sem, List.length_map, Int.toNat_natCast, hr, hs, hm, if_pos hin]
   rw [if_pos (by omega), Qab (by omega)]
   by_cases h1 : motI (itA l i)
   ·rw [if_pos (show 1 <= (itA l i).kind /\ (itA l i).kind <= 6 from h1), if_pos h1]
   ·rw [if_neg (show ¬ (1 <= (itA l i).kind /\ (itA l i).kind <= 6) from h1), if_neg h1]; rfl
  unfold nextSy
  by_cases h10 : motI (itA l i)
  ·rw [if_pos h10] at hst ⊢
   left
   rw [Qcj hst (by simp)]
   by_cases hsm : syI (itA l i)
   ·rw [if_pos hsm, decide_eq_true hsm]; rfl
   ·rw [if_neg hsm, decide_eq_false hsm]; rfl
  ·rw [if_neg h10] at hst ⊢
   rw [Qb8 hst]
   exact l_exact hM hS hl k (i + 1) (by omega)
def exactI (items : List Itm) (i : Nat) : Prop := (itA items i).blend = 0 \/ syI (itA items i) \/ nextSy (items.drop (i + 1)) = 1
theorem a_path_exact {MM MS : List AC -> Option (List AC)} {items : List Itm} (hM : ∀ k : Int, MM [I k] = some [B (decide (1 <= k /\ k <= 6))]) (hS : ∀ it, MS (itmR it) = some [B (decide (syI it))]) (hl : items.length <= 1000000) {i : Nat} (hi : i < items.length) :
  mf_path_exact MM MS (Qb1 (Qfs MM MS)) [.view kItm (items.map itmR), I i] = some [B (decide (exactI items i))] := by
 have hr := Qlu hi
 have hs := hS (itA items i)
 have hL := l_exact hM hS (l := items.drop (i + 1)) (by rw [List.length_drop]; omega) (items.drop (i + 1)).length 0 (by omega)
 rw [List.drop_zero] at hL
 rw [mf_path_exact_eq]
 simp only [itmR] at hs
 have hw : IntKind.i64.wrap ((i : Int) + 1) = ((i + 1 : Nat) : Int) := by rw [Qab (by omega)]; omega
 have hin : (0 : Int) <= (i : Int) /\ (i : Int) < (items.length : Int) := by omega
 have hin3 : (0 : Int) <= ((i + 1 : Nat) : Int) /\ ((i + 1 : Nat) : Int) <= (items.length : Int) := by omega
 have hdl : (List.drop (i + 1) (items.map itmR)).length = (items.drop (i + 1)).length := by rw [List.length_drop, List.length_drop, List.length_map]
 generalize Qb1 (Qfs MM MS) = N at *
 simp only [go_sem, List.length_map, Int.toNat_natCast, hr, hs, hw, if_pos hin, if_pos hin3, hdl]
 rw [<- List.map_drop]
 by_cases h2 : (itA items i).blend = 0
 ·rw [if_pos h2, decide_eq_true (show exactI items i from .inl h2)]
 ·rw [if_neg h2]
  by_cases h3 : syI (itA items i)
  ·rw [if_pos h3, decide_eq_true (show exactI items i from .inr (.inl h3))]
  ·rw [if_neg h3]
   rcases hL with hL | ⟨hL, hn⟩
   ·have hL' : N [.view kItm ((items.drop (i + 1)).map itmR), I (items.drop (i + 1)).length, I 0] = some (1, [B (decide (nextSy (items.drop (i + 1)) = 1))]) := hL
    simp only [hL', go_sem]
    by_cases h4 : nextSy (items.drop (i + 1)) = 1
    ·rw [decide_eq_true h4, decide_eq_true (show exactI items i from .inr (.inr h4))]
    ·rw [decide_eq_false h4, decide_eq_false (show ¬ exactI items i from fun h => h.elim h2 fun h => h.elim h3 h4)]
   ·have hL' : N [.view kItm ((items.drop (i + 1)).map itmR), I (items.drop (i + 1)).length, I 0] = some (2, []) := hL
    simp only [hL', go_sem]
    rw [decide_eq_false (show ¬ exactI items i from fun h => h.elim h2 fun h => h.elim h3 fun h => by rw [hn] at h; cases h)]
    simp
theorem s_path_exact {items : List Itm} (hl : items.length <= 1000000) {i : Nat} (hi : i < items.length) : m_path_exact [.view kItm (items.map itmR), I i] = some [B (decide (exactI items i))] := a_path_exact Qns s_path_geared hl hi
def markK (items : List Itm) (i : Nat) : Int := if motI (itA items i) then kindK items i else otherK (itA items i)
theorem a_path_mark {ME MM : List AC -> Option (List AC)} {items : List Itm} {i : Nat} {segs : List (List AC)} {marks : List Mrk} {st : Pt} {b : Bool} {len sp mid : Int} (hi : i < items.length) (hml : marks.length <= 1000000)
  (hM : MM [I (itA items i).kind] = some [B (decide (motI (itA items i)))]) (hE : ME [.view kItm (items.map itmR), I i] = some [B (decide (exactI items i))]) :
  Qkj ME MM [.view kSgm segs, .view kMrk (marks.map mrkR), .view kItm (items.map itmR), I i, I st.x, I st.y, I st.z, B b, I len, I sp, I mid] =
   some [.view kSgm segs, .view kMrk ((marks ++ [(⟨len, markK items i, i⟩ : Mrk)]).map mrkR), I st.x, I st.y, I st.z, B b, I len, I sp, I mid] := by
 have hr := Qlu hi
 have hin : (0 : Int) <= (i : Int) /\ (i : Int) < (items.length : Int) := by omega
 have hb : (marks.length + 1) * 24 <= 140737488355328 := by omega
 have e : ∀ k : Int, marks.map mrkR ++ [[I len, I k, I i]] = (marks ++ [(⟨len, k, i⟩ : Mrk)]).map mrkR := fun k => by rw [List.map_append]; rfl
 rw [mf_path_builder_mark_eq]
 simp only [go_sem, List.length_map, Int.toNat_natCast, hr, if_pos hin, hM, hE, List.length_append, List.length_cons, List.length_nil, if_pos hb]
 have fin : ∀ {k : Int}, k = markK items i -> some [AC.view kSgm segs, .view kMrk (marks.map mrkR ++ [[I len, I k, I i]]), I st.x, I st.y, I st.z, B b, I len, I sp, I mid] = some [.view kSgm segs, .view kMrk ((marks ++ [(⟨len, markK items i, i⟩ : Mrk)]).map mrkR), I st.x, I st.y, I st.z, B b, I len, I sp, I mid] := by
  intro k hk; rw [e, hk]
 unfold markK kindK otherK at fin ⊢
 by_cases c4 : (itA items i).kind = 4
 ·rw [if_pos c4]
  have hm : motI (itA items i) := ⟨by omega, by omega⟩
  exact fin (by rw [if_pos hm, if_pos c4])
 ·rw [if_neg c4]
  by_cases hm : motI (itA items i)
  ·rw [if_pos hm]
   by_cases hx : exactI items i
   ·rw [if_pos hx]
    refine fin ?_
    rw [if_pos hm, if_neg c4]
    rcases hx with h | h | h
    ·rw [if_pos h]
    ·by_cases h2 : (itA items i).blend = 0
     ·rw [if_pos h2]
     ·rw [if_neg h2, if_pos h]
    ·by_cases h2 : (itA items i).blend = 0
     ·rw [if_pos h2]
     ·rw [if_neg h2]
      by_cases h3 : syI (itA items i)
      ·rw [if_pos h3]
      ·rw [if_neg h3, h]
   ·rw [if_neg hx, if_pos hm]
    refine fin ?_
    rw [if_pos hm, if_neg c4, if_neg (fun h => hx (.inl h)), if_neg (fun h => hx (.inr (.inl h)))]
    have hns : ∀ l : List Itm, nextSy l = 1 \/ nextSy l = 2 := by
     intro l
     induction l with
     | nil => right; rfl
     | cons it l ih =>
      unfold nextSy
      split
      ·split <;> simp
      ·exact ih
    rcases hns (items.drop (i + 1)) with h | h
    ·exact absurd (.inr (.inr h)) hx
    ·rw [h]
  ·rw [if_neg hm, if_neg hm]
   by_cases c10 : (itA items i).kind = 10
   ·rw [if_pos c10]; exact fin (by rw [if_neg hm, if_pos c10])
   ·rw [if_neg c10]
    by_cases c13 : (itA items i).kind = 13
    ·rw [if_pos c13]; exact fin (by rw [if_neg hm, if_neg c10, if_pos c13])
    ·rw [if_neg c13]; exact fin (by rw [if_neg hm, if_neg c10, if_neg c13])
theorem s_path_mark {items : List Itm} (hl : items.length <= 1000000) {i : Nat} {segs : List (List AC)} {marks : List Mrk} {st : Pt} {b : Bool} {len sp mid : Int} (hi : i < items.length) (hml : marks.length <= 1000000) :
  Qcr [.view kSgm segs, .view kMrk (marks.map mrkR), .view kItm (items.map itmR), I i, I st.x, I st.y, I st.z, B b, I len, I sp, I mid] =
   some [.view kSgm segs, .view kMrk ((marks ++ [(⟨len, markK items i, i⟩ : Mrk)]).map mrkR), I st.x, I st.y, I st.z, B b, I len, I sp, I mid] :=
 a_path_mark hi hml (Qns _) (s_path_exact hl hi)
end Go.Bm
