/- laid together -/
import Derived.Test.YtdllaekpkcanbaaPrCw
import Derived.Test.YtdllaekpkcanbaaPrBd3
import Derived.Test.YtdllaekpkcanbaaMx5
import Derived.Test.YtdllaekpkcanbaaPrTf
set_option linter.unusedVariables false
set_option linter.unusedSimpArgs false
/- the program's corners are the reference's -/
set_option maxRecDepth 100000
namespace Go.Bm

theorem a_blend_Toward {MO : List AC -> Option (List AC)} {c a : Pt} {d : Int} (hc : bd B24 c) (ha : bd B24 a) (hne : a ≠ c) (hd : 0 <= d /\ d <= 33554432)
  (hN : ∀ {x : Int}, x.natAbs <= 33554432 * 4 -> x * x <= sqD a c -> MO [I x, I d, I (sqD a c), I 2] = some [I (Qil x d (sqD a c)), B true] /\ (Qil x d (sqD a c)).natAbs <= 268435456) :
  mf_blend_Toward MO [I c.x, I c.y, I c.z, I a.x, I a.y, I a.z, I d] = some (ptR (towP c a d) ++ [B true]) := by
 obtain ⟨q1, q2, q3⟩ := sqD_comp a c
 have x1 := sub_nat ha.1 hc.1
 have x2 := sub_nat ha.2.1 hc.2.1
 have x3 := sub_nat ha.2.2 hc.2.2
 obtain ⟨n1, b1⟩ := hN (x := a.x - c.x) (Nat.le_trans x1 (by decide)) q1
 obtain ⟨n2, b2⟩ := hN (x := a.y - c.y) (Nat.le_trans x2 (by decide)) q2
 obtain ⟨n3, b3⟩ := hN (x := a.z - c.z) (Nat.le_trans x3 (by decide)) q3
 have h6 : ¬ d < 0 := Int.not_lt.2 hd.1
 have h7 : ¬ d > 33554432 := Int.not_lt.2 hd.2
 rw [mf_blend_Toward_eq, sq_wrap (Qbv ha (by decide)) (Qbv hc (by decide)), wrap_nat x1 (by decide), wrap_nat x2 (by decide), wrap_nat x3 (by decide)]
 simp only [go_sem, n1, n2, n3]
 rw [if_neg (fun h => hne (Qi5.2 ⟨h.1, h.2.1, h.2.2.1⟩)), if_neg h6, if_neg h7]
 rw [wrap_nat (add_nat hc.1 b1) (by decide), wrap_nat (add_nat hc.2.1 b2) (by decide), wrap_nat (add_nat hc.2.2 b3) (by decide)]
 rfl
theorem s_blend_Toward {c a : Pt} {d : Int} (hc : bd B24 c) (ha : bd B24 a) (hne : a ≠ c) (hd : 0 <= d /\ d <= 33554432) :
  Qdb [I c.x, I c.y, I c.z, I a.x, I a.y, I a.z, I d] = some (ptR (towP c a d) ++ [B true]) := by
 have h0 : sqD a c ≠ 0 := fun h => hne (sqD_zero.1 h)
 have h1 := sqD_nn a c
 have h2 := sqD_le (Qbv ha (by decide)) (Qbv hc (by decide)) (show 67108864 <= 67108864 by omega)
 refine a_blend_Toward hc ha hne hd fun {x} hx hq => ?_
 obtain ⟨-, g2, -⟩ := s_cncref23_Near hx (r := d) (by omega) (n := sqD a c) (by omega) hq
 exact ⟨s_wide_Over (Nat.le_trans hx (by decide)) (by omega) (by omega), g2⟩
theorem s_blend_bend {p c q : Pt} (hp : bd B24 p) (hc : bd B24 c) (hq : bd B24 q) : Qee [I p.x, I p.y, I p.z, I c.x, I c.y, I c.z, I q.x, I q.y, I q.z] = some [I (bendP p c q)] := by
 have hb := bend_bd hp hc hq
 have g1 := sq_bd hb.1
 have g2 := sq_bd hb.2.1
 have g3 := sq_bd hb.2.2
 unfold Qee
 unfold bd B24 at hp hc hq
 have w : ∀ u v c : Int, u.natAbs <= 16777216 -> v.natAbs <= 16777216 -> c.natAbs <= 16777216 -> IntKind.i64.wrap (IntKind.i64.wrap (u + v) - IntKind.i64.wrap (2 * c)) = u - c + (v - c) := by
  intro u v c h1 h2 h3
  rw [Qab (x := u + v) (by omega), Qab (x := 2 * c) (by omega), Qab (by omega)]
  omega
 rw [mf_blend_bend_eq, w _ _ _ hp.1 hq.1 hc.1, w _ _ _ hp.2.1 hq.2.1 hc.2.1, w _ _ _ hp.2.2 hq.2.2 hc.2.2]
 have e1 : p.x - c.x + (q.x - c.x) = (bendV p c q).x := rfl
 have e2 : p.y - c.y + (q.y - c.y) = (bendV p c q).y := rfl
 have e3 : p.z - c.z + (q.z - c.z) = (bendV p c q).z := rfl
 rw [e1, e2, e3]
 unfold bendP dotP
 generalize (bendV p c q).x * (bendV p c q).x = u at *
 generalize (bendV p c q).y * (bendV p c q).y = v at *
 generalize (bendV p c q).z * (bendV p c q).z = w at *
 rw [Qab (x := u) (by omega), Qab (x := 0 + u) (by omega), Qab (x := v) (by omega), Qab (x := 0 + u + v) (by omega), Qab (x := w) (by omega), Qab (by omega), Int.zero_add]

open Classical in
theorem st_Reach {MB MT ML : List AC -> Option (List AC)} {a c b : Pt} {tol d e bit : Int} (ha : bd B24 a) (hc : bd B24 c) (hb : bd B24 b) (hac : a ≠ c) (hbc : b ≠ c) (ht : 0 <= tol /\ tol <= 16000) (hd : 0 <= d /\ d + e <= 33554432) (he : 0 < e) (hbit : e.fdiv (2 ^ min (Int.toNat 1) IntKind.i64.bits) = bit)
  (l3 : 0 <= lenP a c /\ lenP a c <= 268435456) (l4 : 0 <= lenP c b /\ lenP c b <= 268435456)
  (hT : ∀ {a : Pt} {d : Int}, bd B24 a -> a ≠ c -> 0 <= d /\ d <= 33554432 -> MT [I c.x, I c.y, I c.z, I a.x, I a.y, I a.z, I d] = some (ptR (towP c a d) ++ [B true]))
  (hB : ∀ {p q : Pt}, bd B24 p -> bd B24 q -> MB [I p.x, I p.y, I p.z, I c.x, I c.y, I c.z, I q.x, I q.y, I q.z] = some [I (bendP p c q)]) :
  Qfv MB MT ML [I tol, I (mn (lenP a c) (lenP c b) - 2), I d, I e, I a.x, I a.y, I a.z, I c.x, I c.y, I c.z, I b.x, I b.y, I b.z] =
   some (0, [I tol, I (mn (lenP a c) (lenP c b) - 2), I (if permP a c b tol (d + e) then d + e else d), I bit, I a.x, I a.y, I a.z, I c.x, I c.y, I c.z, I b.x, I b.y, I b.z]) := by
 obtain ⟨m1, m2⟩ := mn_le (lenP a c) (lenP c b)
 have ht2 : 0 <= 16 * tol * tol /\ 16 * tol * tol <= 4096000000 := by
  have := Int.mul_le_mul (show 16 * tol <= 256000 by omega) ht.2 ht.1 (by omega)
  exact ⟨Int.mul_nonneg (by omega) ht.1, by omega⟩
 rw [st_blend_Reach_6_eq, hbit, Qab (x := d + e) (by omega), Qgw he, Qab (x := 16 * tol) (by omega), Qab (x := 16 * tol * tol) (by omega)]
 by_cases h : d + e > mn (lenP a c) (lenP c b) - 2
 ·rw [Qgw h, if_neg (fun h3 : permP a c b tol (d + e) => by have := h3.1; omega)]
 ·rw [Qbs h]
  have k1 : bd B24 (towP c a (d + e)) := tow_betw hc ha hac (by omega)
  have k2 : bd B24 (towP c b (d + e)) := tow_betw hc hb hbc (by rw [lenP_comm b c]; omega)
  have t1 := hT (d := d + e) ha hac (by omega)
  have t2 := hT (d := d + e) hb hbc (by omega)
  simp only [List.cons_append, List.nil_append, ptR] at t1 t2
  simp only [t1, t2, go_sem, hB k1 k2]
  by_cases h2 : bendP (towP c a (d + e)) c (towP c b (d + e)) <= 16 * tol * tol
  ·rw [if_pos h2, if_pos (show permP a c b tol (d + e) from ⟨by omega, h2⟩)]
  ·rw [if_neg h2, if_neg (fun h3 : permP a c b tol (d + e) => h2 h3.2)]
open Classical in
theorem l_ReachC {MB MT ML : List AC -> Option (List AC)} {a c b : Pt} {tol m : Int}
  (hst : ∀ {d e bit : Int}, 0 <= d /\ d + e <= 33554432 -> 0 < e -> e.fdiv (2 ^ min (Int.toNat 1) IntKind.i64.bits) = bit -> Qfv MB MT ML [I tol, I m, I d, I e, I a.x, I a.y, I a.z, I c.x, I c.y, I c.z, I b.x, I b.y, I b.z] =
   some (0, [I tol, I m, I (if permP a c b tol (d + e) then d + e else d), I bit, I a.x, I a.y, I a.z, I c.x, I c.y, I c.z, I b.x, I b.y, I b.z])) :
  ∀ (k : Nat) (d : Int), 0 <= d /\ d + ((2 ^ (k + 1) : Nat) : Int) <= 33554432 ->
  Qby (Qfv MB MT ML) [I tol, I m, I d, I ((2 ^ k : Nat) : Int), I a.x, I a.y, I a.z, I c.x, I c.y, I c.z, I b.x, I b.y, I b.z] = some (1, [I (reachL (permP a c b tol) k d)])
 | 0, d, hd => by
  simp only [Nat.zero_add, Nat.pow_one] at hd
  have hend : ∀ d : Int, Qby (Qfv MB MT ML) [I tol, I m, I d, I 0, I a.x, I a.y, I a.z, I c.x, I c.y, I c.z, I b.x, I b.y, I b.z] = some (1, [I d]) := by
   intro d
   refine Qb1 ?_ (by simp)
   rw [st_blend_Reach_6_eq]
   rw [Qbs (by omega)]
  have hs := hst (d := d) (e := 1) (by omega) (by omega) halfI0
  have e : ((2 ^ 0 : Nat) : Int) = 1 := rfl
  rw [e, Qbr hs, hend]
  rfl
 | k + 1, d, hd => by
  have hp : 0 < 2 ^ (k + 1) := Nat.two_pow_pos _
  have e3 : 2 ^ (k + 1 + 1) = 2 ^ (k + 1) + 2 ^ (k + 1) := by rw [Nat.pow_succ 2 (k + 1)]; omega
  rw [e3] at hd
  have hs := hst (d := d) (e := ((2 ^ (k + 1) : Nat) : Int)) (by omega) (by omega) (halfI k)
  rw [Qbr hs]
  unfold reachL
  refine l_ReachC hst k _ ?_
  split <;> omega
theorem a_blend_Reach {ML : List AC -> Option (List AC)} {N : List AC -> Option (Nat × List AC)} {MB MT : List AC -> Option (List AC)} {a c b : Pt} {tol : Int}
  (l1 : ML [I a.x, I a.y, I a.z, I c.x, I c.y, I c.z] = some [I (lenP a c)]) (l2 : ML [I c.x, I c.y, I c.z, I b.x, I b.y, I b.z] = some [I (lenP c b)])
  (l3 : 0 <= lenP a c /\ lenP a c <= 268435456) (l4 : 0 <= lenP c b /\ lenP c b <= 268435456)
  (hN : a ≠ c -> b ≠ c -> N [I tol, I (mn (lenP a c) (lenP c b) - 2), I 0, I 16777216, I a.x, I a.y, I a.z, I c.x, I c.y, I c.z, I b.x, I b.y, I b.z] = some (1, [I (reachL (permP a c b tol) 24 0)])) :
  mf_blend_Reach MB MT ML N [I a.x, I a.y, I a.z, I c.x, I c.y, I c.z, I b.x, I b.y, I b.z, I tol] = some [I (Qj9 a c b tol)] := by
 rw [mf_blend_Reach_eq]
 have m3 : 0 <= mn (lenP a c) (lenP c b) /\ mn (lenP a c) (lenP c b) <= 268435456 := by unfold mn; split <;> omega
 unfold Qj9
 by_cases h1 : a = c
 ·rw [if_pos (.inl h1)]
  have h2 := Qi5.1 h1
  simp only [go_sem]
  rw [if_pos ⟨h2.1, h2.2.1, h2.2.2, trivial⟩]
 ·by_cases h2 : b = c
  ·rw [if_pos (.inr h2)]
   have h3 := Qi5.1 h2
   simp only [go_sem]
   rw [if_neg (fun h => h1 (Qi5.2 ⟨h.1, h.2.1, h.2.2.1⟩)), if_pos ⟨h3.1, h3.2.1, h3.2.2, trivial⟩]
  ·have hl' := hN h1 h2
   simp only [go_sem, l1, l2]
   rw [Qab (by omega)]
   simp only [hl', go_sem]
   rw [if_neg (fun h => h1 (Qi5.2 ⟨h.1, h.2.1, h.2.2.1⟩)), if_neg (fun h => h2 (Qi5.2 ⟨h.1, h.2.1, h.2.2.1⟩)), if_neg (show ¬ (a = c \/ b = c) from fun h => h.elim h1 h2)]
   by_cases h3 : reachL (permP a c b tol) 24 0 < 16
   ·rw [if_pos h3, if_pos h3]
   ·rw [if_neg h3, if_neg h3]
theorem s_blend_Reach {a c b : Pt} {tol : Int} (ha : bd B24 a) (hc : bd B24 c) (hb : bd B24 b) (ht : 0 <= tol /\ tol <= 16000) :
  Qhd [I a.x, I a.y, I a.z, I c.x, I c.y, I c.z, I b.x, I b.y, I b.z, I tol] = some [I (Qj9 a c b tol)] := by
 have A := Qbv ha (show B24 <= 67108864 by decide)
 have C := Qbv hc (show B24 <= 67108864 by decide)
 have D := Qbv hb (show B24 <= 67108864 by decide)
 exact a_blend_Reach (s_curve_Length A C) (s_curve_Length C D) (len_bd A C) (len_bd C D)
  fun h1 h2 => l_ReachC (fun hd he hbit => st_Reach ha hc hb h1 h2 ht hd he hbit (len_bd A C) (len_bd C D) (fun hb hn hd => s_blend_Toward hc hb hn hd) fun hp hq => s_blend_bend hp hc hq) 24 0 (by decide)

theorem l_PiecesC {M : List AC -> Option (List AC)} {p c q : Pt} (hM : M [I p.x, I p.y, I p.z, I c.x, I c.y, I c.z, I q.x, I q.y, I q.z] = some [I (bendP p c q)]) :
  ∀ (k : Nat) (n : Int), isPow n -> 64 <= n * 2 ^ k -> Qby (Qgr M) [I n, I p.x, I p.y, I p.z, I c.x, I c.y, I c.z, I q.x, I q.y, I q.z] = some (1, [I (pcsN (bendP p c q) k n)]) := by
 have hst : ∀ n : Int, isPow n -> Qgr M [I n, I p.x, I p.y, I p.z, I c.x, I c.y, I c.z, I q.x, I q.y, I q.z] = if n < 64 /\ bendP p c q > 16 * n * n * n * n * 4 * 4 then some (0, [I (n * 2), I p.x, I p.y, I p.z, I c.x, I c.y, I c.z, I q.x, I q.y, I q.z]) else some (1, [I n]) := by
  intro n hn
  rw [st_blend_Pieces_2_eq]
  simp only [go_sem, hM]
  have hw : IntKind.i64.wrap (IntKind.i64.wrap (IntKind.i64.wrap (IntKind.i64.wrap (IntKind.i64.wrap (IntKind.i64.wrap (16 * n) * n) * n) * n) * 4) * 4) = 16 * n * n * n * n * 4 * 4 /\ IntKind.i64.wrap (n * 2) = n * 2 := by
   rcases hn with rfl | rfl | rfl | rfl | rfl | rfl <;> decide
  rw [hw.1, hw.2]
  by_cases h1 : n < 64
  ·rw [if_pos h1]
   by_cases h2 : bendP p c q > 16 * n * n * n * n * 4 * 4
   ·rw [if_pos h2, if_pos ⟨h1, h2⟩]
   ·rw [if_neg h2, if_neg (fun h => h2 h.2)]
  ·rw [if_neg h1, if_neg (fun h => h1 h.1)]
 intro k
 induction k with
 | zero =>
  intro n hn h64
  have : n = 64 := by rcases hn with rfl | rfl | rfl | rfl | rfl | rfl <;> simp at h64 ⊢
  subst this
  refine Qb1 ?_ (by simp)
  rw [hst _ hn, if_neg (by omega)]; rfl
 | succ k ih =>
  intro n hn h64
  unfold pcsN
  by_cases h : n < 64 /\ bendP p c q > 16 * n * n * n * n * 4 * 4
  ·rw [if_pos h]
   have hs := hst n hn
   rw [if_pos h] at hs
   rw [Qbr hs]
   refine ih (n * 2) ?_ ?_
   ·rcases hn with rfl | rfl | rfl | rfl | rfl | rfl <;> simp [isPow] at h ⊢
   ·rw [Int.pow_succ] at h64
    rw [Int.mul_assoc, Int.mul_comm 2]; exact h64
  ·rw [if_neg h]
   refine Qb1 ?_ (by simp)
   rw [hst _ hn, if_neg h]
theorem s_blend_Pieces {p c q : Pt} (hp : bd B24 p) (hc : bd B24 c) (hq : bd B24 q) : Qfb [I p.x, I p.y, I p.z, I c.x, I c.y, I c.z, I q.x, I q.y, I q.z] = some [I (piecesP p c q)] := by
 have h1 := l_PiecesC (s_blend_bend hp hc hq) 5 2 (.inl rfl) (by decide)
 show mf_blend_Pieces _ (Qby (Qgr _)) _ = _
 generalize Qee = M at *
 rw [mf_blend_Pieces_eq]
 simp only [go_sem, h1]
 rfl

theorem nth_set_self {α : Type} (d x : α) : ∀ (l : List α) (i : Nat), i < l.length -> nth d (l.set i x) i = x
 | a :: l, 0, _ => rfl
 | a :: l, i + 1, h => by simp only [List.set_cons_succ, nth]; exact nth_set_self d x l i (by simpa using h)
theorem s_MulDiv' {n i p c q : Int} (hn : 2 <= n /\ n <= 64) (hi : 0 <= i /\ i <= n) (hp : p.natAbs <= B24) (hc : c.natAbs <= B24) (hq : q.natAbs <= B24) :
  Qbh [I (IntKind.i64.wrap (IntKind.i64.wrap (IntKind.i64.wrap (IntKind.i64.wrap (n - i) * IntKind.i64.wrap (n - i)) * IntKind.i64.wrap (p - c)) + IntKind.i64.wrap (IntKind.i64.wrap (i * i) * IntKind.i64.wrap (q - c)))), I 1, I (IntKind.i64.wrap (n * n)), I 2] = some [I (near ((n - i) * (n - i) * (p - c) + i * i * (q - c)) (n * n)), B true] := by
 have n1 : 0 < n * n /\ n * n <= 4096 := ⟨Int.mul_pos (by omega) (by omega), by have := Int.mul_le_mul hn.2 hn.2 (by omega) (by omega); omega⟩
 have n2 : 0 <= (n - i) * (n - i) /\ (n - i) * (n - i) <= 4096 := ⟨sq_nn _, by have := Int.mul_le_mul (show n - i <= 64 by omega) (show n - i <= 64 by omega) (by omega) (by omega); omega⟩
 have n3 : 0 <= i * i /\ i * i <= 4096 := ⟨sq_nn _, by have := Int.mul_le_mul (show i <= 64 by omega) (show i <= 64 by omega) (by omega) (by omega); omega⟩
 unfold B24 at *
 rw [Qab (x := n - i) (by omega), Qab (x := (n - i) * (n - i)) (by omega), Qab (x := p - c) (by omega), Qab (x := i * i) (by omega), Qab (x := q - c) (by omega), Qab (x := n * n) (by omega)]
 have m1 := mul_bd (x := (n - i) * (n - i)) (y := p - c) (A := 4096) (B := 33554432) (by omega) (by omega)
 have m2 := mul_bd (x := i * i) (y := q - c) (A := 4096) (B := 33554432) (by omega) (by omega)
 generalize (n - i) * (n - i) * (p - c) = u at *
 generalize i * i * (q - c) = v at *
 rw [Qab (x := u) (by omega), Qab (x := v) (by omega), Qab (by omega)]
 have h := s_wide_MulDiv (a := u + v) (b := 1) (c := n * n) (by unfold i64; omega) (by unfold i64; omega) (by omega) (by rw [show (1 : Int).natAbs = 1 from rfl, Nat.mul_one]; omega)
 rw [Int.mul_one] at h
 exact h
theorem l_CornerC {MR MP MT MC : List AC -> Option (List AC)} {p c q : Pt} {N : Nat} (hN : 2 <= N /\ N <= 64) (hp : bd B24 p) (hc : bd B24 c) (hq : bd B24 q)
  (hR : ∀ {i p c q : Int}, (0 <= i /\ i <= N) -> p.natAbs <= B24 -> c.natAbs <= B24 -> q.natAbs <= B24 -> MR [I (IntKind.i64.wrap (IntKind.i64.wrap (IntKind.i64.wrap (IntKind.i64.wrap ((N : Int) - i) * IntKind.i64.wrap ((N : Int) - i)) * IntKind.i64.wrap (p - c)) + IntKind.i64.wrap (IntKind.i64.wrap (i * i) * IntKind.i64.wrap (q - c)))), I 1, I (IntKind.i64.wrap ((N : Int) * (N : Int))), I 2] = some [I (near (((N : Int) - i) * ((N : Int) - i) * (p - c) + i * i * (q - c)) ((N : Int) * (N : Int))), B true])
  {f : Nat -> List AC} (hf : ∀ i : Nat, f i = ptR (mixP N i p c q)) :
  ∀ (k i : Nat), i + k = N + 1 -> Qby (Qfg MR MP MT MC) [.view kPt (fillL f [I 0, I 0, I 0] (N + 1) i), I N, I (N + 1 : Nat), I i, I c.x, I c.y, I c.z, I p.x, I p.y, I p.z, I q.x, I q.y, I q.z] =
   some (1, [.view kPt ((List.range (N + 1)).map f)])
 | 0, i, hi => by
  obtain rfl : i = N + 1 := by omega
  refine Qb1 ?_ (by simp)
  rw [st_blend_Corner_9_eq, fillL_end, Qbs (by omega)]
 | k + 1, i, hi => by
  have b1 := mix_bd (n := N) (i := i) (A := B24) (by omega) (by omega) hp.1 hc.1 hq.1
  have b2 := mix_bd (n := N) (i := i) (A := B24) (by omega) (by omega) hp.2.1 hc.2.1 hq.2.1
  have b3 := mix_bd (n := N) (i := i) (A := B24) (by omega) (by omega) hp.2.2 hc.2.2 hq.2.2
  have r1 := hR (i := i) (by omega) hp.1 hc.1 hq.1
  have r2 := hR (i := i) (by omega) hp.2.1 hc.2.1 hq.2.1
  have r3 := hR (i := i) (by omega) hp.2.2 hc.2.2 hq.2.2
  have hs : Qfg MR MP MT MC [.view kPt (fillL f [I 0, I 0, I 0] (N + 1) i), I N, I (N + 1 : Nat), I i, I c.x, I c.y, I c.z, I p.x, I p.y, I p.z, I q.x, I q.y, I q.z] =
    some (0, [.view kPt (fillL f [I 0, I 0, I 0] (N + 1) (i + 1)), I N, I (N + 1 : Nat), I (i + 1 : Nat), I c.x, I c.y, I c.z, I p.x, I p.y, I p.z, I q.x, I q.y, I q.z]) := by
   have hlen := fillL_len f [I 0, I 0, I 0] (show i <= N + 1 by omega)
   have hset := fillL_set f [I 0, I 0, I 0] (show i < N + 1 by omega)
   rw [hf i] at hset
   generalize fillL f [I 0, I 0, I 0] (N + 1) i = l at *
   have hself : ∀ x : List AC, nth [] (l.set i x) i = x := fun x => nth_set_self _ _ _ _ (by omega)
   rw [st_blend_Corner_9_eq]
   have hin : (0 : Int) <= (i : Int) /\ (i : Int) < ((N + 1 : Nat) : Int) := by omega
   simp only [go_sem, r1, r2, r3, Int.toNat_natCast, hlen, if_pos hin, List.set_set, hself, List.length_set]
   rw [if_pos (by omega)]
   unfold mixI B24 at b1 b2 b3
   rw [Qab (x := c.x + _) (by omega), Qab (x := c.y + _) (by omega), Qab (x := c.z + _) (by omega), Qab (x := (i : Int) + 1) (by omega)]
   rw [<- hset]
   rfl
  rw [Qbr hs]
  exact l_CornerC hN hp hc hq hR hf k (i + 1) (by omega)
theorem s_blend_Corner {a c b : Pt} {tol : Int} (ha : bd B24 a) (hc : bd B24 c) (hb : bd B24 b) (ht : 0 <= tol /\ tol <= 16000) :
  Qku [I a.x, I a.y, I a.z, I c.x, I c.y, I c.z, I b.x, I b.y, I b.z, I tol] = some [.view kPt ((cornerP a c b tol).map ptR)] := by
 show mf_blend_Corner _ _ _ _ (Qby (Qfg _ _ _ _)) _ = _
 have e1 := s_blend_Reach ha hc hb ht
 have hR := @s_MulDiv'
 generalize Qhd = MC at *
 unfold cornerP
 by_cases h : Qj9 a c b tol = 0
 ·rw [if_pos h]
  rw [mf_blend_Corner_eq]
  simp only [go_sem, e1]
  rw [if_pos h]
  rfl
 ·rw [if_neg h]
  obtain ⟨h1, h2, h3, h4, h5, -⟩ := reach_spec h
  obtain ⟨m1, m2⟩ := mn_le (lenP a c) (lenP c b)
  have h0 : ¬ Qj9 a c b tol = 0 := h
  generalize Qj9 a c b tol = d at *
  have k1 : bd B24 (towP c a d) := tow_betw hc ha h1 (by omega)
  have k2 : bd B24 (towP c b d) := tow_betw hc hb h2 (by rw [lenP_comm b c]; omega)
  have t1 := s_blend_Toward hc ha h1 (d := d) (by omega)
  have t2 := s_blend_Toward hc hb h2 (d := d) (by omega)
  have p1 := s_blend_Pieces k1 hc k2
  have p2 := (s_cncref24_Pieces k1 hc k2).2
  generalize piecesP (towP c a d) c (towP c b d) = n at *
  obtain ⟨N, rfl⟩ : ∃ N : Nat, n = N := ⟨n.toNat, by rcases p2 with rfl | rfl | rfl | rfl | rfl | rfl <;> rfl⟩
  have hN : 2 <= N /\ N <= 64 := by unfold isPow at p2; omega
  have hl := l_CornerC (MR := Qbh) (MP := Qfb) (MT := Qdb) (MC := MC) hN k1 hc k2 (fun hi hp hc hq => hR (by omega) hi hp hc hq) (f := fun i => ptR (mixP N i (towP c a d) c (towP c b d))) (fun _ => rfl) (N + 1) 0 (by omega)
  have hf0 : ∀ f : Nat -> List AC, fillL f [I 0, I 0, I 0] (N + 1) 0 = List.replicate (N + 1) [I 0, I 0, I 0] := fun f => by unfold fillL; rw [List.range_zero, List.map_nil, List.nil_append, Nat.sub_zero]
  rw [hf0] at hl
  generalize Qbh = MR at *
  generalize Qfb = MP at *
  generalize Qdb = MT at *
  generalize towP c a d = p at *
  generalize towP c b d = q at *
  rw [mf_blend_Corner_eq]
  simp only [List.cons_append, List.nil_append, ptR] at t1 t2
  have hres : (List.range (N + 1)).map (fun (i : Nat) => ptR (mixP N i p c q)) = ((List.range ((N : Int).toNat + 1)).map fun (i : Nat) => mixP N i p c q).map ptR := by rw [List.map_map, Int.toNat_natCast]; rfl
  rw [hres] at hl
  generalize ((List.range ((N : Int).toNat + 1)).map fun (i : Nat) => mixP N i p c q).map ptR = C at *
  generalize Qby (Qfg MR MP MT MC) = L at *
  have hl' : L [.view kPt (List.replicate (N + 1) [I 0, I 0, I 0]), I N, I (N + 1 : Nat), I 0, I c.x, I c.y, I c.z, I p.x, I p.y, I p.z, I q.x, I q.y, I q.z] = some (1, [.view kPt C]) := hl
  have w1 : IntKind.i64.wrap ((N : Int) + 1) = ((N + 1 : Nat) : Int) := by rw [Qab (by omega)]; rfl
  simp only [e1, t1, t2, p1, w1, Option.bind_some, Qi1, nth_1, nth_2, Qjd, gA, jA, wA, bA, Int.toNat_natCast, List.length_replicate, rowsOf_view]
  rw [Qjp (by simpa using h0), Qgw trivial, Qj4 (by simp; omega), hl']
  rfl
end Go.Bm
/- the program's points of a motion are the reference's; which items it refuses -/
set_option maxRecDepth 100000
namespace Go.Bm
open Classical

theorem Qmk (k : Int) : Qbo [I k] = some [B (decide (1 <= k /\ k <= 6))] := by
 unfold Qbo
 rw [mf_path_motion_eq]
 by_cases h : 1 <= k
 ·rw [Qgw (show k >= 1 from h)]
  by_cases h2 : k <= 6
  ·rw [decide_eq_true h2, decide_eq_true ⟨h, h2⟩]
  ·rw [decide_eq_false h2, decide_eq_false fun h3 => h2 h3.2]
 ·rw [Qbs (show ¬ k >= 1 from h), decide_eq_false fun h3 => h h3.1]
theorem s_path_smooth (it : Itm) : Qb6 (itmR it) = some [B (decide (smI it))] := by
 unfold Qb6
 rw [mf_path_smooth_eq]
 by_cases h : it.kind = 2
 ·rw [Qj4 (by simp [h])]
  congr 2
  by_cases h2 : it.fr = it.to
  ·have h3 := Qi5.1 h2
   rw [decide_eq_false (fun hs : smI it => hs.2 h2)]
   simp [h3.1, h3.2.1, h3.2.2]
  ·rw [decide_eq_true (show smI it from ⟨h, h2⟩)]
   have h3 : ¬ (it.fr.x = it.to.x /\ it.fr.y = it.to.y /\ it.fr.z = it.to.z) := fun h3 => h2 (Qi5.2 h3)
   simp only [B, AC.bool.injEq, Bool.not_eq_true', Bool.and_true]
   by_cases a : it.fr.x = it.to.x <;> by_cases b : it.fr.y = it.to.y <;> by_cases c : it.fr.z = it.to.z <;> simp [a, b, c] at h3 ⊢
 ·rw [Qjp (by simp [h]), decide_eq_false (fun hs : smI it => h hs.1)]
theorem s_path_middle {it : Itm} (h1 : bd 1048576 it.fr) (h2 : bd 1048576 it.to) : Qdd (itmR it) = some (ptR (Qbz it)) := by
 obtain ⟨a1, a2, a3⟩ := h1
 obtain ⟨b1, b2, b3⟩ := h2
 unfold Qdd
 rw [mf_path_middle_eq, Qab (x := it.fr.x + it.to.x) (by omega), Qab (x := (it.fr.x + it.to.x) * 8) (by omega), Qab (x := it.fr.y + it.to.y) (by omega), Qab (x := (it.fr.y + it.to.y) * 8) (by omega), Qab (x := it.fr.z + it.to.z) (by omega), Qab (x := (it.fr.z + it.to.z) * 8) (by omega)]
 rfl
theorem s_path_scaled {p : Pt} (h : bd 100000000 p) : Qj7 [I p.x, I p.y, I p.z] = some (ptR (fine p)) := by
 unfold Qj7
 rw [mf_path_scaled_eq]
 obtain ⟨h1, h2, h3⟩ := h
 rw [Qab (by omega), Qab (by omega), Qab (by omega)]
 rfl
theorem s_path_geared (it : Itm) : Qd6 (itmR it) = some [B (decide (syI it))] := by
 unfold Qd6
 rw [mf_path_geared_eq]
 by_cases h5 : it.kind = 5
 ·rw [Qj4 (by simp [h5]), decide_eq_true (show syI it from .inl h5)]
 ·rw [Qjp (by simp [h5])]
  by_cases h6 : it.kind = 6
  ·rw [decide_eq_true (show syI it from .inr h6)]; simp [h6]
  ·rw [decide_eq_false (show ¬ syI it from fun h => h.elim h5 h6)]; simp [h6]

theorem a_path_check {MV MM : List AC -> Option (List AC)} {it : Itm} (hM : MM [I it.kind] = some [B (decide (1 <= it.kind /\ it.kind <= 6))]) (hV : ∃ v, MV (itmR it) = some [B v] /\ (v = true ↔ Qkp it)) :
  mf_path_check MV MM (itmR it) = some [I (if Qel it then 1 else 0)] := by
 obtain ⟨v, hv, hvv⟩ := hV
 have hr : ∀ {x : Int}, (Qel it -> x = 1) -> (¬ Qel it -> x = 0) -> some [I x] = some [I (if Qel it then 1 else 0)] := by
  intro x h1 h2
  by_cases c : Qel it
  ·rw [if_pos c, h1 c]
  ·rw [if_neg c, h2 c]
 rw [mf_path_check_eq]
 simp only [go_sem, hM, hv]
 unfold Qel motI at hr ⊢
 have one : ∀ {P : Prop}, P -> (P -> (1 : Int) = 1) /\ (¬ P -> (1 : Int) = 0) := fun h => ⟨fun _ => rfl, fun g => absurd h g⟩
 have zero : ∀ {P : Prop}, ¬ P -> (P -> (0 : Int) = 1) /\ (¬ P -> (0 : Int) = 0) := fun h => ⟨fun g => absurd g h, fun _ => rfl⟩
 by_cases c1 : it.kind < 1
 ·rw [if_pos c1]; exact hr (fun _ => rfl) fun g => absurd (.inl c1) g
 rw [if_neg c1]
 by_cases c2 : it.kind > 14
 ·rw [if_pos c2]; exact hr (fun _ => rfl) fun g => absurd (.inr (.inl c2)) g
 rw [if_neg c2]
 by_cases c3 : 1 <= it.kind /\ it.kind <= 6
 ·simp only [if_pos c3]
  have hk8 : it.kind ≠ 8 := by omega
  simp only [if_neg hk8]
  by_cases c4 : Qkp it
  ·rw [if_neg (by simp [hvv.2 c4])]
   by_cases c5 : it.blend < 0
   ·rw [if_pos c5]; exact hr (fun _ => rfl) fun g => absurd (.inr (.inr (.inl ⟨c3, .inr (.inr (.inl c5))⟩))) g
   rw [if_neg c5]
   by_cases c6 : it.blend > 1000
   ·rw [if_pos c6]; exact hr (fun _ => rfl) fun g => absurd (.inr (.inr (.inl ⟨c3, .inr (.inr (.inr c6))⟩))) g
   rw [if_neg c6]
   by_cases c7 : it.kind = 1
   ·rw [if_neg (show ¬ it.kind ≠ 1 by omega)]
    refine hr (fun g => ?_) fun _ => rfl
    rcases g with g | g | ⟨-, g | g | g | g⟩ | g
    ·omega
    ·omega
    ·exact absurd c4 g
    ·omega
    ·omega
    ·omega
    ·omega
   ·rw [if_pos c7]
    by_cases c8 : it.feed < 1
    ·rw [if_pos c8]; exact hr (fun _ => rfl) fun g => absurd (.inr (.inr (.inl ⟨c3, .inr (.inl ⟨c7, .inl c8⟩)⟩))) g
    rw [if_neg c8]
    by_cases c9 : it.feed > 60000000
    ·rw [if_pos c9]; exact hr (fun _ => rfl) fun g => absurd (.inr (.inr (.inl ⟨c3, .inr (.inl ⟨c7, .inr c9⟩)⟩))) g
    rw [if_neg c9]
    refine hr (fun g => ?_) fun _ => rfl
    rcases g with g | g | ⟨-, g | g | g | g⟩ | g
    ·omega
    ·omega
    ·exact absurd c4 g
    ·omega
    ·omega
    ·omega
    ·omega
  ·rw [if_pos (fun h => c4 (hvv.1 h))]
   exact hr (fun _ => rfl) fun g => absurd (.inr (.inr (.inl ⟨c3, .inl c4⟩))) g
 ·simp only [if_neg c3]
  by_cases c4 : it.kind = 8
  ·rw [if_pos c4]
   by_cases d1 : it.n < 3
   ·rw [if_pos d1]; exact hr (fun _ => rfl) fun g => absurd (.inr (.inr (.inr ⟨c3, c4, .inl d1⟩))) g
   rw [if_neg d1]
   by_cases d2 : it.n > 5
   ·rw [if_pos d2]; exact hr (fun _ => rfl) fun g => absurd (.inr (.inr (.inr ⟨c3, c4, .inr (.inl d2)⟩))) g
   rw [if_neg d2]
   by_cases d3 : it.speed < 0
   ·rw [if_pos d3]; exact hr (fun _ => rfl) fun g => absurd (.inr (.inr (.inr ⟨c3, c4, .inr (.inr (.inl d3))⟩))) g
   rw [if_neg d3]
   by_cases d4 : it.speed > 30000
   ·rw [if_pos d4]; exact hr (fun _ => rfl) fun g => absurd (.inr (.inr (.inr ⟨c3, c4, .inr (.inr (.inr d4))⟩))) g
   rw [if_neg d4]
   refine hr (fun g => ?_) fun _ => rfl
   rcases g with g | g | ⟨g, -⟩ | ⟨-, -, g⟩
   ·omega
   ·omega
   ·exact absurd g c3
   ·omega
  ·rw [if_neg c4]
   refine hr (fun g => ?_) fun _ => rfl
   rcases g with g | g | ⟨g, -⟩ | ⟨-, g, -⟩
   ·omega
   ·omega
   ·exact absurd g c3
   ·omega
theorem s_path_check (it : Itm) : Qga (itmR it) = some [I (if Qel it then 1 else 0)] := a_path_check (Qmk _) (s_curve_Valid it)

def nextF : List Itm -> Nat -> Nat
 | [], k => k
 | it :: l, k => if it.kind = 10 then nextF l (k + 1) else k
def nextN (items : List Itm) (i : Nat) : Nat := nextF (items.drop (i + 1)) (i + 1)
theorem nextF_spec : ∀ (l : List Itm) (k : Nat), k <= nextF l k /\ nextF l k <= k + l.length
 | [], k => by simp [nextF]
 | it :: l, k => by
  unfold nextF
  split
  ·have := nextF_spec l (k + 1); simp; omega
  ·simp
theorem nextSm_F : ∀ (l : List Itm) (k : Nat), nextSm l k = if nextF l k - k < l.length /\ smI (l.getD (nextF l k - k) it0) then (nextF l k : Int) else -1
 | [], k => by simp [nextSm]
 | it :: l, k => by
  have hs := nextF_spec l (k + 1)
  by_cases h10 : it.kind = 10
  ·have e1 : nextSm (it :: l) k = nextSm l (k + 1) := by rw [nextSm, if_pos h10]
   have e2 : nextF (it :: l) k = nextF l (k + 1) := by rw [nextF, if_pos h10]
   rw [e1, e2, nextSm_F l (k + 1)]
   have e3 : nextF l (k + 1) - k = (nextF l (k + 1) - (k + 1)) + 1 := by omega
   rw [e3, List.getD_cons_succ]
   by_cases c : nextF l (k + 1) - (k + 1) < l.length
   ·have c2 : nextF l (k + 1) - (k + 1) + 1 < (it :: l).length := by simp; omega
    by_cases c3 : smI (l.getD (nextF l (k + 1) - (k + 1)) it0)
    ·rw [if_pos ⟨c, c3⟩, if_pos ⟨c2, c3⟩]
    ·rw [if_neg (fun g => c3 g.2), if_neg (fun g => c3 g.2)]
   ·rw [if_neg (fun g => c g.1), if_neg (fun g => c (by have := g.1; simp at this; omega))]
  ·have e1 : nextSm (it :: l) k = if smI it then (k : Int) else -1 := by rw [nextSm, if_neg h10]
   have e2 : nextF (it :: l) k = k := by rw [nextF, if_neg h10]
   rw [e1, e2, Nat.sub_self, List.getD_cons_zero]
   by_cases c : smI it
   ·rw [if_pos c, if_pos ⟨by simp, c⟩]
   ·rw [if_neg c, if_neg (fun g => c g.2)]
theorem l_next {items : List Itm} (hl : items.length <= 1000000) : ∀ (k i : Nat), i + k = items.length ->
  Qby Qkk [.view kItm (items.map itmR), I i] = some (1, [I (nextF (items.drop i) i)])
 | 0, i, hi => by
  refine Qb1 ?_ (by simp)
  rw [st_path_next_2_eq]
  simp only [go_sem, List.length_map]
  rw [if_neg (by omega), List.drop_of_length_le (by omega)]
  rfl
 | k + 1, i, hi => by
  have hlt : i < items.length := by omega
  have hr := Qlw hlt
  rw [drop_itA hlt]
  have hst : Qkk [.view kItm (items.map itmR), I i] = if (itA items i).kind = 10 then some (0, [.view kItm (items.map itmR), I (i + 1 : Nat)]) else some (1, [I i]) := by
   rw [st_path_next_2_eq]
   have hin : (0 : Int) <= (i : Int) /\ (i : Int) < (items.length : Int) := by omega
   simp only [go_sem, List.length_map, Int.toNat_natCast, hr, if_pos hin]
   rw [if_pos (by omega), Qab (by omega)]
   rfl
  unfold nextF
  by_cases h10 : (itA items i).kind = 10
  ·rw [if_pos h10] at hst ⊢
   rw [Qbr hst]
   exact l_next hl k (i + 1) (by omega)
  ·rw [if_neg h10] at hst ⊢
   exact Qb1 hst (by simp)
theorem s_path_next {items : List Itm} (hl : items.length <= 1000000) {i : Nat} (hi : i < items.length) : Qdw [.view kItm (items.map itmR), I i] = some [I (nextN items i)] := by
 show mf_path_next (Qby Qkk) _ = _
 have h := l_next hl (items.length - (i + 1)) (i + 1) (by omega)
 rw [mf_path_next_eq, Qab (by omega), show (i : Int) + 1 = ((i + 1 : Nat) : Int) by omega, h]
 rfl
theorem softK_next {items : List Itm} {i : Nat} : Qfs items i = if smI (itA items i) /\ (itA items i).blend ≠ 0 /\ nextN items i < items.length /\ smI (itA items (nextN items i)) then (nextN items i : Int) else -1 := by
 unfold Qfs
 by_cases h : smI (itA items i) /\ (itA items i).blend ≠ 0
 ·rw [if_pos h, nextSm_F]
  have hs := nextF_spec (items.drop (i + 1)) (i + 1)
  rw [List.length_drop] at hs
  have e : (items.drop (i + 1)).getD (nextF (items.drop (i + 1)) (i + 1) - (i + 1)) it0 = itA items (nextN items i) := by
   unfold itA
   rw [List.getD_eq_getElem?_getD, List.getElem?_drop, List.getD_eq_getElem?_getD]
   have : i + 1 + (nextF (items.drop (i + 1)) (i + 1) - (i + 1)) = nextN items i := by unfold nextN; omega
   rw [this]
  rw [e, List.length_drop]
  have e2 : nextF (items.drop (i + 1)) (i + 1) = nextN items i := rfl
  rw [e2] at hs ⊢
  by_cases c : nextN items i < items.length /\ smI (itA items (nextN items i))
  ·rw [if_pos ⟨by omega, c.2⟩, if_pos ⟨h.1, h.2, c⟩]
  ·rw [if_neg (fun g => c ⟨by have := g.1; omega, g.2⟩), if_neg (fun g => c g.2.2)]
 ·rw [if_neg h, if_neg (fun g => h ⟨g.1, g.2.1⟩)]
theorem a_path_soft {MS MN : List AC -> Option (List AC)} {items : List Itm} (hS : ∀ it, MS (itmR it) = some [B (decide (smI it))]) {i : Nat} (hi : i < items.length) (hN : MN [.view kItm (items.map itmR), I i] = some [I (nextN items i)]) :
  mf_path_soft MS MN [.view kItm (items.map itmR), I i] = some [B (decide (0 <= Qfs items i))] := by
 have hr := Qlw hi
 have hs := hS (itA items i)
 rw [mf_path_soft_eq, softK_next]
 simp only [itmR] at hs
 have hin : (0 : Int) <= (i : Int) /\ (i : Int) < (items.length : Int) := by omega
 simp only [go_sem, List.length_map, Int.toNat_natCast, hr, hs, hN, if_pos hin]
 by_cases h1 : smI (itA items i)
 case neg => rw [if_neg h1, if_neg (fun g => h1 g.1)]; simp
 rw [if_pos h1]
 by_cases h2 : (itA items i).blend = 0
 ·rw [if_neg (by simp [h2]), if_neg (fun g => g.2.1 h2)]; simp
 rw [if_pos h2]
 by_cases h3 : nextN items i < items.length
 ·have hr2 := Qlw h3
  have hs2 := hS (itA items (nextN items i))
  simp only [itmR] at hs2
  have hin2 : (0 : Int) <= (nextN items i : Int) /\ (nextN items i : Int) < (items.length : Int) := by omega
  rw [if_pos (by omega), if_pos hin2]
  simp only [go_sem, hr2, hs2]
  by_cases h4 : smI (itA items (nextN items i))
  ·rw [decide_eq_true h4, if_pos ⟨h1, h2, h3, h4⟩, decide_eq_true (by omega)]
  ·rw [decide_eq_false h4, if_neg (fun g => h4 g.2.2.2)]; simp
 ·rw [if_neg (by omega), if_neg (fun g => h3 g.2.2.1)]; simp
theorem s_path_soft {items : List Itm} (hl : items.length <= 1000000) {i : Nat} (hi : i < items.length) : Qex [.view kItm (items.map itmR), I i] = some [B (decide (0 <= Qfs items i))] :=
 a_path_soft s_path_smooth hi (s_path_next hl hi)
theorem soft_next {items : List Itm} {i : Nat} (h : 0 <= Qfs items i) : Qfs items i = nextN items i := by
 rw [softK_next] at h ⊢
 split at h
 ·rename_i c; rw [if_pos c]
 ·omega

theorem corner_odd {a c b : Pt} {tol : Int} (ha : bd B24 a) (hc : bd B24 c) (hb : bd B24 b) : (cornerP a c b tol).length % 2 = 1 := by
 unfold cornerP
 by_cases h : Qj9 a c b tol = 0
 ·rw [if_pos h]; rfl
 ·rw [if_neg h]
  obtain ⟨h1, h2, h3, h4, h5, -⟩ := reach_spec h
  obtain ⟨m1, m2⟩ := mn_le (lenP a c) (lenP c b)
  generalize Qj9 a c b tol = d at *
  have k1 : bd B24 (towP c a d) := tow_betw hc ha h1 (by omega)
  have k2 : bd B24 (towP c b d) := tow_betw hc hb h2 (by rw [lenP_comm b c]; omega)
  have k3 := (s_cncref24_Pieces k1 hc k2).2
  generalize piecesP (towP c a d) c (towP c b d) = n at *
  rw [List.length_map, List.length_range]
  rcases k3 with rfl | rfl | rfl | rfl | rfl | rfl <;> rfl
theorem a_path_corner {MC MF MM : List AC -> Option (List AC)} {a b : Itm} {l : List Pt} (hbl : 0 <= a.blend /\ a.blend <= 1000) (hl : 1 <= l.length /\ l.length <= 65) (hodd : l.length % 2 = 1)
  (c1 : MM (itmR a) = some (ptR (Qbz a))) (c2 : MM (itmR b) = some (ptR (Qbz b))) (f1 : MF [I a.to.x, I a.to.y, I a.to.z] = some (ptR (fine a.to)))
  (hC : MC (ptR (Qbz a) ++ ptR (fine a.to) ++ ptR (Qbz b) ++ [I (a.blend * 16)]) = some [.view kPt (l.map ptR)]) :
  mf_path_corner MC MF MM (itmR a ++ itmR b) = some [.view kPt ((l.take (l.length / 2 + 1)).map ptR), .view kPt ((l.drop (l.length / 2)).map ptR)] := by
 simp only [itmR, List.cons_append, List.nil_append] at c1 c2 ⊢
 rw [mf_path_corner_eq]
 simp only [ptR, List.cons_append, List.nil_append] at hC
 simp only [go_sem, c1, c2, f1]
 rw [Qab (by omega)]
 simp only [hC, go_sem, List.length_map]
 have e : IntKind.i64.wrap ((IntKind.i64.wrap ((l.length : Int) - 1)).tdiv 2) = ((l.length / 2 : Nat) : Int) := by
  rw [Qab (x := (l.length : Int) - 1) (by omega), Int.tdiv_eq_ediv_of_nonneg (by omega), Qab (by omega)]
  omega
 have e2 : IntKind.i64.wrap (((l.length / 2 : Nat) : Int) + 1) = ((l.length / 2 + 1 : Nat) : Int) := by rw [Qab (by omega)]; omega
 simp only [e, e2, Int.toNat_natCast]
 rw [if_pos (by omega), if_pos (by omega), List.map_take, List.map_drop]
theorem s_path_corner {a b : Itm} (h1 : drawn a) (h2 : drawn b) :
  Qnj (itmR a ++ itmR b) = some [.view kPt (((cornerP (Qbz a) (fine a.to) (Qbz b) (a.blend * 16)).take ((cornerP (Qbz a) (fine a.to) (Qbz b) (a.blend * 16)).length / 2 + 1)).map ptR), .view kPt (((cornerP (Qbz a) (fine a.to) (Qbz b) (a.blend * 16)).drop ((cornerP (Qbz a) (fine a.to) (Qbz b) (a.blend * 16)).length / 2)).map ptR)] :=
 have k1 := center_bd h1.1.2.1 h1.1.2.2.1
 have k2 := fine_bd h1.1.2.2.1
 have k3 := center_bd h2.1.2.1 h2.1.2.2.1
 a_path_corner h1.2 (corner_bd k1 k2 k3).2 (corner_odd k1 k2 k3) (s_path_middle h1.1.2.1 h1.1.2.2.1) (s_path_middle h2.1.2.1 h2.1.2.2.1) (s_path_scaled (Qbv h1.1.2.2.1 (by decide))) (s_blend_Corner k1 k2 k3 (by have := h1.2; omega))
end Go.Bm
/- the program's path of a list of items: its points, its marks, what it adds -/
set_option maxRecDepth 100000
namespace Go.Bm
open Classical

theorem a_path_points {MM MN MS MC MSm MK : List AC -> Option (List AC)} {items : List Itm} {i : Nat} {frm : Int} (hi : i < items.length) (hd : drawn (itA items i)) (hf : frmOK items i frm) (hall : ∀ k < items.length, motI (itA items k) -> drawn (itA items k))
  (hK : MK (itmR (itA items i)) = some [.view kPt ((Qgo (itA items i)).map ptR), B true]) (hM : MSm (itmR (itA items i)) = some [B (decide (smI (itA items i)))])
  (hJ : ∀ {i k : Nat}, i < items.length -> k < items.length -> drawn (itA items i) -> drawn (itA items k) -> MC (itmR (itA items i) ++ itmR (itA items k)) = some [.view kPt (((Qnx items i k).take ((Qnx items i k).length / 2 + 1)).map ptR), .view kPt (((Qnx items i k).drop ((Qnx items i k).length / 2)).map ptR)])
  (hS : MS [.view kItm (items.map itmR), I i] = some [B (decide (0 <= Qfs items i))]) (hN : MN [.view kItm (items.map itmR), I i] = some [I (nextN items i)]) (hC : MM (itmR (itA items i)) = some (ptR (Qbz (itA items i)))) :
  mf_path_points MM MN MS MC MSm MK [.view kItm (items.map itmR), I i, I frm] = some [.view kPt ((Qei items i frm).map ptR)] := by
 have r1 := Qlw hi
 obtain ⟨hcl1, hcl2⟩ := chordsP_len (itA items i)
 rw [mf_path_points_eq]
 simp only [itmR, List.cons_append, List.nil_append] at hK hM hC hJ
 have hin : (0 : Int) <= (i : Int) /\ (i : Int) < (items.length : Int) := by omega
 simp only [go_sem, List.length_map, Int.toNat_natCast, r1, hK, hM, hC, hS, hN, List.nil_append, if_pos hin]
 unfold Qei
 by_cases hs : smI (itA items i)
 case neg => rw [if_pos (by simp [hs]), if_neg hs]
 rw [if_neg (by simp [hs]), if_pos hs]
 have hk3 : (itA items i).kind ≠ 3 := by have := hs.1; omega
 have hcl3 : (Qgo (itA items i)).length = 2 := by unfold Qgo; rw [if_neg hk3]; rfl
 have w1 : IntKind.i64.wrap (((Qgo (itA items i)).length : Int) - 1) = 1 := by rw [hcl3]; rfl
 rw [w1, hcl3, if_pos (by omega), if_pos (by omega)]
 unfold tailP
 rcases hf with rfl | ⟨f, rfl, hf1, hf2⟩
 ·rw [if_neg (show ¬ (-1 : Int) >= 0 by omega)]
  unfold headP
  rw [if_neg (show ¬ (0 : Int) <= -1 by omega)]
  by_cases hpos : 0 <= Qfs items i
  ·obtain ⟨k, hk, hk1, hk2⟩ := soft_get hall hpos
   have hnx := soft_next hpos
   rw [hk] at hnx
   have hnk : nextN items i = k := by omega
   obtain ⟨j1, j2, j3⟩ := joined_bd (items := items) (i := i) (k := k) hd hk2
   have hj := hJ hi hk1 hd hk2
   have r2 := Qlw hk1
   have hin2 : (0 : Int) <= (k : Int) /\ (k : Int) < (items.length : Int) := by omega
   rw [if_pos hpos, if_pos hpos, hk, hnk, Int.toNat_natCast, if_pos hin2]
   simp only [go_sem, Int.toNat_natCast, r2, hj]
   rw [if_pos (by simp [map_take1]; omega), if_pos (by simp; omega), if_pos (by simp; omega)]
   simp only [map_take1, List.map_append, List.map_cons, List.map_nil]
  ·rw [if_neg hpos, if_neg hpos, if_pos (by simp [map_take1]; omega), if_pos (by simp; omega), if_pos (by simp; omega)]
   simp only [map_take1, map_drop1, List.map_append, List.map_cons, List.map_nil]
 ·have hjf := hJ hf1 hi hf2 hd
  obtain ⟨f1, f2, f3⟩ := joined_bd (items := items) (i := f) (k := i) hf2 hd
  have rf := Qlw hf1
  have hinf : (0 : Int) <= (f : Int) /\ (f : Int) < (items.length : Int) := by omega
  rw [if_pos (show (f : Int) >= 0 by omega), if_pos hinf]
  unfold headP
  rw [if_pos (show (0 : Int) <= (f : Int) by omega), Int.toNat_natCast]
  simp only [rf, go_sem, hjf, Int.toNat_natCast]
  by_cases hpos : 0 <= Qfs items i
  ·obtain ⟨k, hk, hk1, hk2⟩ := soft_get hall hpos
   have hnx := soft_next hpos
   rw [hk] at hnx
   have hnk : nextN items i = k := by omega
   obtain ⟨j1, j2, j3⟩ := joined_bd (items := items) (i := i) (k := k) hd hk2
   have hj := hJ hi hk1 hd hk2
   have r2 := Qlw hk1
   have hin2 : (0 : Int) <= (k : Int) /\ (k : Int) < (items.length : Int) := by omega
   rw [if_pos hpos, if_pos hpos, hk, hnk, Int.toNat_natCast, if_pos hin2]
   simp only [go_sem, Int.toNat_natCast, r2, hj]
   rw [if_pos (by simp; omega), if_pos (by simp; omega), if_pos (by simp; omega)]
   simp only [List.map_append, List.map_cons, List.map_nil]
  ·rw [if_neg hpos, if_neg hpos, if_pos (by simp; omega), if_pos (by simp; omega), if_pos (by simp; omega)]
   simp only [map_drop1, List.map_append, List.map_cons, List.map_nil]
theorem s_path_points {items : List Itm} (hl : items.length <= 1000000) {i : Nat} {frm : Int} (hi : i < items.length) (hd : drawn (itA items i)) (hf : frmOK items i frm) (hall : ∀ k < items.length, motI (itA items k) -> drawn (itA items k)) :
  Qjy [.view kItm (items.map itmR), I i, I frm] = some [.view kPt ((Qei items i frm).map ptR)] :=
 a_path_points hi hd hf hall (s_curve_Chords hd.1) (s_path_smooth _) (fun h1 h2 h3 h4 => s_path_corner h3 h4) (s_path_soft hl hi) (s_path_next hl hi) (s_path_middle hd.1.2.1 hd.1.2.2.1)

theorem l_exact {MM MS : List AC -> Option (List AC)} {l : List Itm} (hM : ∀ k : Int, MM [I k] = some [B (decide (1 <= k /\ k <= 6))]) (hS : ∀ it, MS (itmR it) = some [B (decide (syI it))]) (hl : l.length <= 1000000) : ∀ (k i : Nat), i + k = l.length ->
  (Qby (Qfo MM MS) [.view kItm (l.map itmR), I l.length, I i] = some (1, [B (decide (nextSy (l.drop i) = 1))])) \/ (Qby (Qfo MM MS) [.view kItm (l.map itmR), I l.length, I i] = some (2, []) /\ nextSy (l.drop i) = 2)
 | 0, i, hi => by
  right
  refine ⟨Qb1 ?_ (by simp), by rw [List.drop_of_length_le (by omega)]; rfl⟩
  rw [st_path_exact_4_eq]
  simp only [go_sem]
  rw [if_neg (by omega)]
 | k + 1, i, hi => by
  have hlt : i < l.length := by omega
  have hr := Qlw hlt
  rw [drop_itA hlt]
  have hs := hS (itA l i)
  have hm := hM (itA l i).kind
  have hst : Qfo MM MS [.view kItm (l.map itmR), I l.length, I i] = if motI (itA l i) then some (1, [B (decide (syI (itA l i)))]) else some (0, [.view kItm (l.map itmR), I l.length, I (i + 1 : Nat)]) := by
   rw [st_path_exact_4_eq]
   simp only [itmR] at hs
   have hin : (0 : Int) <= (i : Int) /\ (i : Int) < (l.length : Int) := by omega
   simp only [go_sem, List.length_map, Int.toNat_natCast, hr, hs, hm, if_pos hin]
   rw [if_pos (by omega), Qab (by omega)]
   by_cases h1 : motI (itA l i)
   ·rw [if_pos (show 1 <= (itA l i).kind /\ (itA l i).kind <= 6 from h1), if_pos h1]
   ·rw [if_neg (show ¬ (1 <= (itA l i).kind /\ (itA l i).kind <= 6) from h1), if_neg h1]; rfl
  unfold nextSy
  by_cases h10 : motI (itA l i)
  ·rw [if_pos h10] at hst ⊢
   left
   rw [Qb1 hst (by simp)]
   by_cases hsm : syI (itA l i)
   ·rw [if_pos hsm, decide_eq_true hsm]; rfl
   ·rw [if_neg hsm, decide_eq_false hsm]; rfl
  ·rw [if_neg h10] at hst ⊢
   rw [Qbr hst]
   exact l_exact hM hS hl k (i + 1) (by omega)
def exactI (items : List Itm) (i : Nat) : Prop := (itA items i).blend = 0 \/ syI (itA items i) \/ nextSy (items.drop (i + 1)) = 1
theorem a_path_exact {MM MS : List AC -> Option (List AC)} {items : List Itm} (hM : ∀ k : Int, MM [I k] = some [B (decide (1 <= k /\ k <= 6))]) (hS : ∀ it, MS (itmR it) = some [B (decide (syI it))]) (hl : items.length <= 1000000) {i : Nat} (hi : i < items.length) :
  mf_path_exact MM MS (Qby (Qfo MM MS)) [.view kItm (items.map itmR), I i] = some [B (decide (exactI items i))] := by
 have hr := Qlw hi
 have hs := hS (itA items i)
 have hL := l_exact hM hS (l := items.drop (i + 1)) (by rw [List.length_drop]; omega) (items.drop (i + 1)).length 0 (by omega)
 rw [List.drop_zero] at hL
 rw [mf_path_exact_eq]
 simp only [itmR] at hs
 have hw : IntKind.i64.wrap ((i : Int) + 1) = ((i + 1 : Nat) : Int) := by rw [Qab (by omega)]; omega
 have hin : (0 : Int) <= (i : Int) /\ (i : Int) < (items.length : Int) := by omega
 have hin3 : (0 : Int) <= ((i + 1 : Nat) : Int) /\ ((i + 1 : Nat) : Int) <= (items.length : Int) := by omega
 have hdl : (List.drop (i + 1) (items.map itmR)).length = (items.drop (i + 1)).length := by rw [List.length_drop, List.length_drop, List.length_map]
 generalize Qby (Qfo MM MS) = N at *
 simp only [go_sem, List.length_map, Int.toNat_natCast, hr, hs, hw, if_pos hin, if_pos hin3, hdl]
 rw [<- List.map_drop]
 by_cases h2 : (itA items i).blend = 0
 ·rw [if_pos h2, decide_eq_true (show exactI items i from .inl h2)]
 ·rw [if_neg h2]
  by_cases h3 : syI (itA items i)
  ·rw [if_pos h3, decide_eq_true (show exactI items i from .inr (.inl h3))]
  ·rw [if_neg h3]
   rcases hL with hL | ⟨hL, hn⟩
   ·have hL' : N [.view kItm ((items.drop (i + 1)).map itmR), I (items.drop (i + 1)).length, I 0] = some (1, [B (decide (nextSy (items.drop (i + 1)) = 1))]) := hL
    simp only [hL', go_sem]
    by_cases h4 : nextSy (items.drop (i + 1)) = 1
    ·rw [decide_eq_true h4, decide_eq_true (show exactI items i from .inr (.inr h4))]
    ·rw [decide_eq_false h4, decide_eq_false (show ¬ exactI items i from fun h => h.elim h2 fun h => h.elim h3 h4)]
   ·have hL' : N [.view kItm ((items.drop (i + 1)).map itmR), I (items.drop (i + 1)).length, I 0] = some (2, []) := hL
    simp only [hL', go_sem]
    rw [decide_eq_false (show ¬ exactI items i from fun h => h.elim h2 fun h => h.elim h3 fun h => by rw [hn] at h; cases h)]
    simp
theorem s_path_exact {items : List Itm} (hl : items.length <= 1000000) {i : Nat} (hi : i < items.length) : m_path_exact [.view kItm (items.map itmR), I i] = some [B (decide (exactI items i))] := a_path_exact Qmk s_path_geared hl hi
def markK (items : List Itm) (i : Nat) : Int := if motI (itA items i) then kindK items i else otherK (itA items i)
theorem a_path_mark {ME MM : List AC -> Option (List AC)} {items : List Itm} {i : Nat} {segs : List (List AC)} {marks : List Mrk} {st : Pt} {b : Bool} {len sp mid : Int} (hi : i < items.length) (hml : marks.length <= 1000000)
  (hM : MM [I (itA items i).kind] = some [B (decide (motI (itA items i)))]) (hE : ME [.view kItm (items.map itmR), I i] = some [B (decide (exactI items i))]) :
  Qkg ME MM [.view kSgm segs, .view kMrk (marks.map mrkR), .view kItm (items.map itmR), I i, I st.x, I st.y, I st.z, B b, I len, I sp, I mid] =
   some [.view kSgm segs, .view kMrk ((marks ++ [(⟨len, markK items i, i⟩ : Mrk)]).map mrkR), I st.x, I st.y, I st.z, B b, I len, I sp, I mid] := by
 have hr := Qlw hi
 have hin : (0 : Int) <= (i : Int) /\ (i : Int) < (items.length : Int) := by omega
 have hb : (marks.length + 1) * 24 <= 140737488355328 := by omega
 have e : ∀ k : Int, marks.map mrkR ++ [[I len, I k, I i]] = (marks ++ [(⟨len, k, i⟩ : Mrk)]).map mrkR := fun k => by rw [List.map_append]; rfl
 rw [mf_path_builder_mark_eq]
 simp only [go_sem, List.length_map, Int.toNat_natCast, hr, if_pos hin, hM, hE, List.length_append, List.length_cons, List.length_nil, if_pos hb]
 have fin : ∀ {k : Int}, k = markK items i -> some [AC.view kSgm segs, .view kMrk (marks.map mrkR ++ [[I len, I k, I i]]), I st.x, I st.y, I st.z, B b, I len, I sp, I mid] = some [.view kSgm segs, .view kMrk ((marks ++ [(⟨len, markK items i, i⟩ : Mrk)]).map mrkR), I st.x, I st.y, I st.z, B b, I len, I sp, I mid] := by
  intro k hk; rw [e, hk]
 unfold markK kindK otherK at fin ⊢
 by_cases c4 : (itA items i).kind = 4
 ·rw [if_pos c4]
  have hm : motI (itA items i) := ⟨by omega, by omega⟩
  exact fin (by rw [if_pos hm, if_pos c4])
 ·rw [if_neg c4]
  by_cases hm : motI (itA items i)
  ·rw [if_pos hm]
   by_cases hx : exactI items i
   ·rw [if_pos hx]
    refine fin ?_
    rw [if_pos hm, if_neg c4]
    rcases hx with h | h | h
    ·rw [if_pos h]
    ·by_cases h2 : (itA items i).blend = 0
     ·rw [if_pos h2]
     ·rw [if_neg h2, if_pos h]
    ·by_cases h2 : (itA items i).blend = 0
     ·rw [if_pos h2]
     ·rw [if_neg h2]
      by_cases h3 : syI (itA items i)
      ·rw [if_pos h3]
      ·rw [if_neg h3, h]
   ·rw [if_neg hx, if_pos hm]
    refine fin ?_
    rw [if_pos hm, if_neg c4, if_neg (fun h => hx (.inl h)), if_neg (fun h => hx (.inr (.inl h)))]
    have hns : ∀ l : List Itm, nextSy l = 1 \/ nextSy l = 2 := by
     intro l
     induction l with
     | nil => right; rfl
     | cons it l ih =>
      unfold nextSy
      split
      ·split <;> simp
      ·exact ih
    rcases hns (items.drop (i + 1)) with h | h
    ·exact absurd (.inr (.inr h)) hx
    ·rw [h]
  ·rw [if_neg hm, if_neg hm]
   by_cases c10 : (itA items i).kind = 10
   ·rw [if_pos c10]; exact fin (by rw [if_neg hm, if_pos c10])
   ·rw [if_neg c10]
    by_cases c13 : (itA items i).kind = 13
    ·rw [if_pos c13]; exact fin (by rw [if_neg hm, if_neg c10, if_pos c13])
    ·rw [if_neg c13]; exact fin (by rw [if_neg hm, if_neg c10, if_neg c13])
theorem s_path_mark {items : List Itm} (hl : items.length <= 1000000) {i : Nat} {segs : List (List AC)} {marks : List Mrk} {st : Pt} {b : Bool} {len sp mid : Int} (hi : i < items.length) (hml : marks.length <= 1000000) :
  Qcq [.view kSgm segs, .view kMrk (marks.map mrkR), .view kItm (items.map itmR), I i, I st.x, I st.y, I st.z, B b, I len, I sp, I mid] =
   some [.view kSgm segs, .view kMrk ((marks ++ [(⟨len, markK items i, i⟩ : Mrk)]).map mrkR), I st.x, I st.y, I st.z, B b, I len, I sp, I mid] :=
 a_path_mark hi hml (Qmk _) (s_path_exact hl hi)
end Go.Bm
/- the program's path of a list of items is the reference's -/
set_option maxRecDepth 100000
namespace Go.Bm
open Classical

theorem segs_last (a : Pt) (segs : List Sgm) : segs = [] \/ ∃ l g, segs = l ++ [g] /\ endOf a segs = g.to /\ ((segs.length : Int) > 0) /\ nth [] (segs.map sgmR) (segs.length - 1) = sgmR g := by
 rcases List.eq_nil_or_concat segs with h | ⟨l, g, h⟩
 ·exact .inl h
 ·right
  rw [List.concat_eq_append] at h
  refine ⟨l, g, h, ?_, ?_, ?_⟩
  ·rw [h]; exact endOf_snoc g a l
  ·rw [h]; simp
  ·have hl : segs.length - 1 < segs.length := by rw [h]; simp
   rw [nth_map _ _ _ _ hl]
   congr 1
   subst h
   simp
theorem a_path_add0 {ML : List AC -> Option (List AC)} {marks : List (List AC)} {q g st : Pt} {gl item feed lead len sp mid : Int} :
  Qhk ML [.view kSgm [], .view kMrk marks, I q.x, I q.y, I q.z, I g.x, I g.y, I g.z, I gl, I item, I feed, I lead, I st.x, I st.y, I st.z, B false, I len, I sp, I mid] =
   some [.view kSgm [], .view kMrk marks, I q.x, I q.y, I q.z, B true, I len, I sp, I mid] := by
 rw [mf_path_builder_add_eq]
 simp
theorem a_path_add {ML : List AC -> Option (List AC)} {segs : List Sgm} {marks : List (List AC)} {q g st at_ : Pt} {gl item feed lead len sp mid : Int} (hat : endOf st segs = at_)
  (hL : ML [I at_.x, I at_.y, I at_.z, I q.x, I q.y, I q.z] = some [I (lenP at_ q)]) (hl : 0 <= lenP at_ q /\ lenP at_ q <= 268435456) (hs : segs.length + 1 <= 1048577) (hlen : 0 <= len /\ len <= 4000000000000000000) :
  Qhk ML [.view kSgm (segs.map sgmR), .view kMrk marks, I q.x, I q.y, I q.z, I g.x, I g.y, I g.z, I gl, I item, I feed, I lead, I st.x, I st.y, I st.z, B true, I len, I sp, I mid] =
   some [.view kSgm ((Qeu item feed lead (segs, len, at_) q).1.map sgmR), .view kMrk marks, I st.x, I st.y, I st.z, B true, I (Qeu item feed lead (segs, len, at_) q).2.1, I sp, I mid] := by
 have hap : (segs.map sgmR ++ [[I q.x, I q.y, I q.z, I (lenP at_ q), I item, I feed, I lead]]) = (segs ++ [(⟨q, lenP at_ q, item, feed, lead⟩ : Sgm)]).map sgmR := by rw [List.map_append]; rfl
 rw [mf_path_builder_add_eq]
 try dsimp only [go_sem]
 rcases segs_last st segs with h | ⟨l, s, h1, h2, h3, h4⟩
 ·subst h
  have hat' : st = at_ := hat
  subst hat'
  simp only [List.map_nil, List.length_nil]
  rw [Qbs (by decide), Bool.not_true, cond_false]
  by_cases c : q = st
  ·have c4 := Qi5.1 c
   rw [Qj4 (by simp [c4.1, c4.2.1, c4.2.2]), show Qeu item feed lead ([], len, st) q = ([], len, st) from if_pos c]
   rfl
  ·rw [Qjp, hL]
   ·simp only [Option.bind_some, Qi1, Qjd, gA, jA, wA, bA, List.nil_append, List.length_cons, List.length_nil]
    rw [Qj4 (by decide), show Qeu item feed lead ([], len, st) q = ([⟨q, lenP st q, item, feed, lead⟩], len + lenP st q, q) from if_neg c, Qab (by omega)]
    rfl
   ·have c2 : ¬ (q.x = st.x /\ q.y = st.y /\ q.z = st.z) := fun g => c (Qi5.2 g)
    simp only [Bool.and_true, Bool.and_eq_false_iff, beq_eq_false_iff_ne]
    omega
 ·rw [hat] at h2
  have w1 : IntKind.i64.wrap ((segs.length : Int) - 1) = ((segs.length - 1 : Nat) : Int) := by rw [Qab (by omega)]; omega
  have hin : (0 : Int) <= ((segs.length - 1 : Nat) : Int) /\ ((segs.length - 1 : Nat) : Int) < (segs.length : Int) := by omega
  rw [h2] at hL hap ⊢
  clear h1
  simp only [go_sem, List.length_map, w1, Int.toNat_natCast, h4, if_pos h3, if_pos hin, hL, List.length_append, List.length_cons, List.length_nil]
  rw [if_neg (by simp)]
  by_cases c : q = s.to
  ·have c4 := Qi5.1 c
   rw [if_pos ⟨c4.1, c4.2.1, c4.2.2, trivial⟩, show Qeu item feed lead (segs, len, s.to) q = (segs, len, s.to) from if_pos c]
  ·rw [if_neg (fun g => c (Qi5.2 ⟨g.1, g.2.1, g.2.2.1⟩)), if_pos (by omega), show Qeu item feed lead (segs, len, s.to) q = (segs ++ [⟨q, lenP s.to q, item, feed, lead⟩], len + lenP s.to q, q) from if_neg c, Qab (by rw [<- h2] at *; omega), hap]
noncomputable def stepM (it : Itm) (item feed lead : Int) (s : (List Sgm × Int × Pt) × Int) (q : Pt) : (List Sgm × Int × Pt) × Int :=
 (Qeu item feed lead s.1 q, if smI it /\ q = Qbz it then (Qeu item feed lead s.1 q).2.1 else s.2)
theorem stepM_fst {it : Itm} {item feed lead : Int} : ∀ (pts : List Pt) (s : (List Sgm × Int × Pt) × Int), (pts.foldl (stepM it item feed lead) s).1 = pts.foldl (Qeu item feed lead) s.1
 | [], _ => rfl
 | q :: pts, s => by rw [List.foldl_cons, List.foldl_cons, stepM_fst pts]; rfl
theorem st_move {MM MSm MA MP MG MR : List AC -> Option (List AC)} {it : Itm} {pts : List Pt} {j : Nat} (hj : j < pts.length) (hpl : pts.length <= 1000000) {segs segs' : List (List AC)} {marks : List (List AC)} {g st st' : Pt} {b b' : Bool} {gl item feed lead len len' sp mid : Int}
  (hM : MSm (itmR it) = some [B (decide (smI it))]) (hC : MM (itmR it) = some (ptR (Qbz it)))
  (hA : MA [.view kSgm segs, .view kMrk marks, I pts[j].x, I pts[j].y, I pts[j].z, I g.x, I g.y, I g.z, I gl, I item, I feed, I lead, I st.x, I st.y, I st.z, B b, I len, I sp, I mid] = some [.view kSgm segs', .view kMrk marks, I st'.x, I st'.y, I st'.z, B b', I len', I sp, I mid]) :
  Qc0 MM MSm MA MP MG MR (.view kSgm segs :: .view kMrk marks :: .view kPt (pts.map ptR) :: I pts.length :: I j :: (itmR it ++ [I g.x, I g.y, I g.z, I gl, I item, I feed, I lead, I st.x, I st.y, I st.z, B b, I len, I sp, I mid])) =
   some (0, .view kSgm segs' :: .view kMrk marks :: .view kPt (pts.map ptR) :: I pts.length :: I (j + 1 : Nat) :: (itmR it ++ [I g.x, I g.y, I g.z, I gl, I item, I feed, I lead, I st'.x, I st'.y, I st'.z, B b', I len', I sp, I (if smI it /\ pts[j] = Qbz it then len' else mid)])) := by
 have hr : nth [] (pts.map ptR) j = ptR pts[j] := nth_map _ _ _ _ hj
 have hin : (0 : Int) <= (j : Int) /\ (j : Int) < (pts.length : Int) := by omega
 have hw : IntKind.i64.wrap ((j : Int) + 1) = ((j + 1 : Nat) : Int) := by rw [Qab (by omega)]; omega
 generalize pts[j] = q at *
 simp only [itmR] at hM hC
 simp only [itmR, List.cons_append, List.nil_append]
 rw [Qks]
 simp only [go_sem, List.length_map, Int.toNat_natCast, hr, if_pos hin, hA, hM, hC, hw]
 rw [if_pos (by omega)]
 by_cases c : smI it
 ·rw [if_pos c]
  by_cases c2 : q = Qbz it
  ·have c3 := Qi5.1 c2
   rw [if_pos ⟨c3.1, c3.2.1, c3.2.2, trivial⟩, if_pos ⟨c, c2⟩]
  ·rw [if_neg (fun h => c2 (Qi5.2 ⟨h.1, h.2.1, h.2.2.1⟩)), if_neg (fun h => c2 h.2)]
 ·rw [if_neg c, if_neg (fun h => c h.1)]
theorem l_move {MM MSm MA MP MG MR : List AC -> Option (List AC)} {it : Itm} {pts : List Pt} (hpl : pts.length <= 1000000) {marks : List (List AC)} {g st : Pt} {gl item feed lead sp : Int} (hst : bd 67108864 st) (hpts : ∀ p ∈ pts, bd 67108864 p)
  (hM : MSm (itmR it) = some [B (decide (smI it))]) (hC : MM (itmR it) = some (ptR (Qbz it)))
  (hA : ∀ {segs : List Sgm} {q at_ : Pt} {len mid : Int}, endOf st segs = at_ -> bd 67108864 at_ -> bd 67108864 q -> segs.length + 1 <= 1048577 -> (0 <= len /\ len <= 4000000000000000000) ->
   MA [.view kSgm (segs.map sgmR), .view kMrk marks, I q.x, I q.y, I q.z, I g.x, I g.y, I g.z, I gl, I item, I feed, I lead, I st.x, I st.y, I st.z, B true, I len, I sp, I mid] =
   some [.view kSgm ((Qeu item feed lead (segs, len, at_) q).1.map sgmR), .view kMrk marks, I st.x, I st.y, I st.z, B true, I (Qeu item feed lead (segs, len, at_) q).2.1, I sp, I mid]) :
  ∀ (k j : Nat) (s : List Sgm × Int × Pt) (mid : Int), j + k = pts.length -> s.1.length + k <= 1048576 -> 0 <= s.2.1 -> s.2.1 + k * 268435456 <= 4000000000000000000 -> bd 67108864 s.2.2 -> endOf st s.1 = s.2.2 ->
  Qby (Qc0 MM MSm MA MP MG MR) (.view kSgm (s.1.map sgmR) :: .view kMrk marks :: .view kPt (pts.map ptR) :: I pts.length :: I j :: (itmR it ++ [I g.x, I g.y, I g.z, I gl, I item, I feed, I lead, I st.x, I st.y, I st.z, B true, I s.2.1, I sp, I mid])) =
   some (1, [.view kSgm (((pts.drop j).foldl (stepM it item feed lead) (s, mid)).1.1.map sgmR), .view kMrk marks, I st.x, I st.y, I st.z, B true, I ((pts.drop j).foldl (stepM it item feed lead) (s, mid)).1.2.1, I sp, I ((pts.drop j).foldl (stepM it item feed lead) (s, mid)).2])
 | 0, j, s, mid, hj, _, _, _, _, _ => by
  refine Qb1 ?_ (by simp)
  simp only [itmR, List.cons_append, List.nil_append]
  rw [Qks, Qbs (by omega), List.drop_of_length_le (by omega)]
  rfl
 | k + 1, j, s, mid, hj, hs, hl0, hl1, hat, he => by
  have hlt : j < pts.length := by omega
  have hq := hpts _ (List.getElem_mem hlt)
  obtain ⟨segs, len, at_⟩ := s
  simp only at hs hl0 hl1 hat he
  have ha := hA (q := pts[j]) (mid := mid) he hat hq (by omega) (by constructor <;> omega)
  have hstep := st_move (MP := MP) (MG := MG) (MR := MR) hlt hpl hM hC ha
  have hinv : endOf st (Qeu item feed lead (segs, len, at_) pts[j]).1 = (Qeu item feed lead (segs, len, at_) pts[j]).2.2 /\ bd 67108864 (Qeu item feed lead (segs, len, at_) pts[j]).2.2 /\
    (Qeu item feed lead (segs, len, at_) pts[j]).1.length <= segs.length + 1 /\ 0 <= (Qeu item feed lead (segs, len, at_) pts[j]).2.1 /\ (Qeu item feed lead (segs, len, at_) pts[j]).2.1 <= len + 268435456 := by
   have hl := len_bd hat hq
   unfold Qeu
   split
   ·exact ⟨he, hat, by simp, hl0, by simp only; omega⟩
   ·refine ⟨endOf_snoc _ _ _, hq, by simp, ?_, ?_⟩ <;> simp only <;> omega
  rw [Qbr hstep]
  obtain ⟨i1, i2, i3, i4, i5⟩ := hinv
  have := l_move (MP := MP) (MG := MG) (MR := MR) hpl hst hpts hM hC hA k (j + 1) (Qeu item feed lead (segs, len, at_) pts[j]) (if smI it /\ pts[j] = Qbz it then (Qeu item feed lead (segs, len, at_) pts[j]).2.1 else mid) (by omega) (by omega) i4 (by omega) i2 i1
  rw [this, Qg1 pts j hlt, List.foldl_cons]
  rfl
theorem chords_head {it : Itm} (h : Qkp it) : ∃ l, Qgo it = fine it.fr :: l := by
 unfold Qgo
 by_cases h3 : it.kind = 3
 ·rw [if_pos h3]
  unfold Qgz
  rw [List.map_cons]
  refine ⟨(pcsL it.dir 16 it.full (endS it it.fr) (endS it it.to)).map (chPt it), ?_⟩
  congr 1
  obtain ⟨hp, -, hc, -⟩ := h.2.2.2 h3
  obtain ⟨f1, f2, f3⟩ := pl_fine it.plane it.ce
  unfold chPt endS
  simp only [f1, f2]
  unfold dU dW
  have e1 : plU it.plane it.ce * 16 + (plU it.plane it.fr - plU it.plane it.ce) * 16 = plU it.plane it.fr * 16 := by omega
  have e2 : plW it.plane it.ce * 16 + (plW it.plane it.fr - plW it.plane it.ce) * 16 = plW it.plane it.fr * 16 := by omega
  rw [e1, e2]
  unfold spP plU plW plH fine
  rcases hp with hp | hp | hp <;> rw [hp] <;> rfl
 ·rw [if_neg h3]; exact ⟨_, rfl⟩
theorem points_head {items : List Itm} {i : Nat} (h : Qkp (itA items i)) : ∃ l, Qei items i (-1) = fine (itA items i).fr :: l := by
 obtain ⟨l, hl⟩ := chords_head h
 unfold Qei
 split
 ·unfold headP
  rw [if_neg (by omega), hl]
  exact ⟨_, rfl⟩
 ·exact ⟨l, hl⟩
noncomputable def motM (items : List Itm) (i : Nat) (s : BSt) (mid : Int) : (List Sgm × Int × Pt) × Int :=
 (Qei items i s.frm).foldl (stepM (itA items i) i (rate (itA items i) s.speed) (leadI (itA items i))) ((s.segs, s.len, if s.begun = true then s.at_ else fine (itA items i).fr), mid)
theorem motM_fst (items : List Itm) (i : Nat) (s : BSt) (mid : Int) : (motM items i s mid).1 = motS items i s := by
 unfold motM motS
 rw [stepM_fst]
theorem a_path_move {MM MSm MA MP MG MR : List AC -> Option (List AC)} {items : List Itm} {i : Nat} {s : BSt} {marks : List (List AC)} {mid : Int} (hi : i < items.length) (hlen : items.length <= 15) (hv : Qkp (itA items i)) (hok : BOK items i s) (hinv : BInv s)
  (hpts : (∀ p ∈ Qei items i s.frm, bd 67108864 p) /\ (Qei items i s.frm).length <= 65537)
  (hfeed : syI (itA items i) -> 0 <= (itA items i).feed /\ (itA items i).feed <= 60000000) (hfrm : s.begun = false -> s.frm = -1)
  (hM : MSm (itmR (itA items i)) = some [B (decide (smI (itA items i)))]) (hC : MM (itmR (itA items i)) = some (ptR (Qbz (itA items i))))
  (hG : MG (itmR (itA items i)) = some [B (decide (syI (itA items i)))]) (hR : MR (itmR (itA items i) ++ [I s.speed]) = some [I (rate (itA items i) s.speed)])
  (hP : MP [.view kItm (items.map itmR), I i, I s.frm] = some [.view kPt ((Qei items i s.frm).map ptR)])
  (hA : ∀ {segs : List Sgm} {q g st at_ : Pt} {gl item feed lead len mid : Int}, endOf st segs = at_ -> bd 67108864 at_ -> bd 67108864 q -> segs.length + 1 <= 1048577 -> (0 <= len /\ len <= 4000000000000000000) ->
   MA [.view kSgm (segs.map sgmR), .view kMrk marks, I q.x, I q.y, I q.z, I g.x, I g.y, I g.z, I gl, I item, I feed, I lead, I st.x, I st.y, I st.z, B true, I len, I s.speed, I mid] =
   some [.view kSgm ((Qeu item feed lead (segs, len, at_) q).1.map sgmR), .view kMrk marks, I st.x, I st.y, I st.z, B true, I (Qeu item feed lead (segs, len, at_) q).2.1, I s.speed, I mid])
  (hA0 : ∀ {q g st : Pt} {gl item feed lead len mid : Int}, MA [.view kSgm [], .view kMrk marks, I q.x, I q.y, I q.z, I g.x, I g.y, I g.z, I gl, I item, I feed, I lead, I st.x, I st.y, I st.z, B false, I len, I s.speed, I mid] =
   some [.view kSgm [], .view kMrk marks, I q.x, I q.y, I q.z, B true, I len, I s.speed, I mid]) :
  Qkj MM MSm MA MP MG MR (Qby (Qc0 MM MSm MA MP MG MR)) [.view kSgm (s.segs.map sgmR), .view kMrk marks, .view kItm (items.map itmR), I i, I s.frm, I s.start.x, I s.start.y, I s.start.z, B s.begun, I s.len, I s.speed, I mid] =
   some [.view kSgm ((motM items i s mid).1.1.map sgmR), .view kMrk marks, B true, I (if s.begun = true then s.start else fine (itA items i).fr).x, I (if s.begun = true then s.start else fine (itA items i).fr).y, I (if s.begun = true then s.start else fine (itA items i).fr).z, B true, I (motM items i s mid).1.2.1, I s.speed, I (motM items i s mid).2] := by
 have hr := Qlw hi
 have hin : (0 : Int) <= (i : Int) /\ (i : Int) < (items.length : Int) := by omega
 have hsg := hok.segs
 have hln := hok.len
 -- the loop's answer, whatever the lead
 have hloop : ∀ lead feed : Int, Qby (Qc0 MM MSm MA MP MG MR) (.view kSgm (s.segs.map sgmR) :: .view kMrk marks :: .view kPt ((Qei items i s.frm).map ptR) :: I (Qei items i s.frm).length :: I (0 : Nat) :: (itmR (itA items i) ++ [I (⟨0, 0, 0⟩ : Pt).x, I (⟨0, 0, 0⟩ : Pt).y, I (⟨0, 0, 0⟩ : Pt).z, I 0, I i, I feed, I lead, I s.start.x, I s.start.y, I s.start.z, B s.begun, I s.len, I s.speed, I mid])) =
   some (1, [.view kSgm (((Qei items i s.frm).foldl (stepM (itA items i) i feed lead) ((s.segs, s.len, if s.begun = true then s.at_ else fine (itA items i).fr), mid)).1.1.map sgmR), .view kMrk marks, I (if s.begun = true then s.start else fine (itA items i).fr).x, I (if s.begun = true then s.start else fine (itA items i).fr).y, I (if s.begun = true then s.start else fine (itA items i).fr).z, B true,
    I ((Qei items i s.frm).foldl (stepM (itA items i) i feed lead) ((s.segs, s.len, if s.begun = true then s.at_ else fine (itA items i).fr), mid)).1.2.1, I s.speed, I ((Qei items i s.frm).foldl (stepM (itA items i) i feed lead) ((s.segs, s.len, if s.begun = true then s.at_ else fine (itA items i).fr), mid)).2]) := by
  intro lead feed
  by_cases hb : s.begun = true
  ·obtain ⟨g1, g2⟩ := hinv.begun hb
   obtain ⟨g3, g4, g5⟩ := g2
   rw [if_pos hb, if_pos hb, hb]
   have := l_move (MP := MP) (MG := MG) (MR := MR) (g := ⟨0, 0, 0⟩) (gl := 0) (item := i) (feed := feed) (lead := lead) (by omega) g1 hpts.1 hM hC (fun h1 h2 h3 h4 h5 => hA h1 h2 h3 h4 h5) (Qei items i s.frm).length 0 (s.segs, s.len, s.at_) mid (by omega) (by simp only; omega) hln.1 (by simp only; omega) (hok.at_ hb) g4
   rw [List.drop_zero] at this
   exact this
  ·have hb2 : s.begun = false := by simpa using hb
   obtain ⟨e1, e2, e3⟩ := hinv.empty hb2
   obtain ⟨l, hl⟩ := points_head hv
   have hfr : bd 67108864 (fine (itA items i).fr) := Qbv (fine_bd hv.2.1) (by decide)
   rw [if_neg hb, if_neg hb, hb2, e1]
   rw [hfrm hb2, hl] at hpts ⊢
   have h0 : 0 < (fine (itA items i).fr :: l).length := by simp
   have hstep := st_move (MP := MP) (MG := MG) (MR := MR) h0 (by omega) hM hC (hA0 (q := fine (itA items i).fr) (g := ⟨0, 0, 0⟩) (st := s.start) (gl := 0) (item := i) (feed := feed) (lead := lead) (len := s.len) (mid := mid))
   rw [List.map_nil, Qbr hstep]
   have := l_move (MP := MP) (MG := MG) (MR := MR) (g := ⟨0, 0, 0⟩) (gl := 0) (item := i) (feed := feed) (lead := lead) (by omega) hfr hpts.1 hM hC (fun h1 h2 h3 h4 h5 => hA h1 h2 h3 h4 h5) l.length 1 ([], s.len, fine (itA items i).fr) (if smI (itA items i) /\ fine (itA items i).fr = Qbz (itA items i) then s.len else mid) (by simp; omega) (by simp only [List.length_nil]; simp at hpts; omega) hln.1 (by simp only; simp at hpts; omega) hfr rfl
   rw [List.drop_succ_cons, List.drop_zero] at this
   rw [List.foldl_cons]
   have e4 : stepM (itA items i) i feed lead (([], s.len, fine (itA items i).fr), mid) (fine (itA items i).fr) = (([], s.len, fine (itA items i).fr), if smI (itA items i) /\ fine (itA items i).fr = Qbz (itA items i) then s.len else mid) := by
    unfold stepM
    rw [show Qeu i feed lead ([], s.len, fine (itA items i).fr) (fine (itA items i).fr) = ([], s.len, fine (itA items i).fr) from if_pos rfl]
   rw [e4]
   exact this
 have hcount : ∀ lead feed : Int, ((Qei items i s.frm).foldl (stepM (itA items i) i feed lead) ((s.segs, s.len, if s.begun = true then s.at_ else fine (itA items i).fr), mid)).1.1.length <= 1048576 := by
  intro lead feed
  rw [stepM_fst]
  have hat : bd 67108864 (if s.begun = true then s.at_ else fine (itA items i).fr) := by
   split
   ·rename_i hb; exact hok.at_ hb
   ·exact Qbv (fine_bd hv.2.1) (by decide)
  have := (fold_bd (item := i) (feed := feed) (lead := lead) (Qei items i s.frm) (s.segs, s.len, if s.begun = true then s.at_ else fine (itA items i).fr) hpts.1 hat hln.1).1
  simp only at this ⊢
  omega
 generalize Qby (Qc0 MM MSm MA MP MG MR) = N at *
 have hlp := fun lead feed => hloop lead feed
 simp only [itmR, List.cons_append, List.nil_append] at hG hR hlp
 rw [mf_path_builder_move_eq]
 simp only [go_sem, List.length_map, Int.toNat_natCast, hr, if_pos hin, hG, hR, hP]
 have h00 : ((0 : Nat) : Int) = 0 := rfl
 simp only [h00] at hlp
 unfold motM leadI
 by_cases hs : syI (itA items i)
 ·have hf := hfeed hs
  rw [if_pos hs]
  simp only [if_pos hs]
  rw [Qab (by omega)]
  simp only [hlp, go_sem, List.length_map]
  rw [decide_eq_true (show ((_ : Nat) : Int) <= 1048576 from by have := hcount (mn ((itA items i).feed * 16) 16777216) (rate (itA items i) s.speed); omega)]
 ·rw [if_neg hs]
  simp only [if_neg hs]
  simp only [hlp, go_sem, List.length_map]
  rw [decide_eq_true (show ((_ : Nat) : Int) <= 1048576 from by have := hcount 0 (rate (itA items i) s.speed); omega)]
end Go.Bm
