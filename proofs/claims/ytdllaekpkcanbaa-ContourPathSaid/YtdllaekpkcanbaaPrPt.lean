/- laid together -/
import Derived.Test.YtdllaekpkcanbaaPrRt
import Derived.Test.YtdllaekpkcanbaaPrE
import Derived.Test.YtdllaekpkcanbaaMx5
set_option linter.unusedVariables false
set_option linter.unusedSimpArgs false
/- the reference's corners -/
set_option maxRecDepth 100000
namespace Go.Bm

theorem wrap_nat {x : Int} {A : Nat} (h : x.natAbs <= A) (hA : A <= 9223372036854775807) : IntKind.i64.wrap x = x := Qab (by omega)
theorem sub_nat {x y : Int} {A B : Nat} (hx : x.natAbs <= A) (hy : y.natAbs <= B) : (x - y).natAbs <= A + B := by omega
theorem add_nat {x y : Int} {A B : Nat} (hx : x.natAbs <= A) (hy : y.natAbs <= B) : (x + y).natAbs <= A + B := by omega
theorem betw_bd {c u x : Int} {A : Nat} (hc : c.natAbs <= A) (ha : (c + x).natAbs <= A) (h : (0 <= x -> 0 <= u /\ u <= x) /\ (x <= 0 -> x <= u /\ u <= 0)) : (c + u).natAbs <= A := by
 rcases Int.le_total 0 x with g | g
 ·have := h.1 g; omega
 ·have := h.2 g; omega
theorem sqD_eq (a b : Pt) : sqD a b = (a.x - b.x) * (a.x - b.x) + (a.y - b.y) * (a.y - b.y) + (a.z - b.z) * (a.z - b.z) := rfl
theorem Qe3 (u : Int) : 0 <= u * u := by rw [<- Int.natAbs_mul_self]; omega
theorem sqD_zero {a b : Pt} : sqD a b = 0 ↔ a = b := by
 rw [sqD_eq]
 obtain ⟨a1, a2, a3⟩ := a
 obtain ⟨b1, b2, b3⟩ := b
 have h1 := Qe3 (a1 - b1)
 have h2 := Qe3 (a2 - b2)
 have h3 := Qe3 (a3 - b3)
 constructor
 ·intro h
  simp only at h
  have e1 : (a1 - b1) * (a1 - b1) = 0 := by omega
  have e2 : (a2 - b2) * (a2 - b2) = 0 := by omega
  have e3 : (a3 - b3) * (a3 - b3) = 0 := by omega
  have z : ∀ u : Int, u * u = 0 -> u = 0 := fun u hu => by
   rcases Int.mul_eq_zero.1 hu with h | h <;> exact h
  have := z _ e1
  have := z _ e2
  have := z _ e3
  rw [Pt.mk.injEq]; omega
 ·intro h
  injection h with h4 h5 h6
  subst h4 h5 h6
  simp
theorem sqD_comp (a b : Pt) : (a.x - b.x) * (a.x - b.x) <= sqD a b /\ (a.y - b.y) * (a.y - b.y) <= sqD a b /\ (a.z - b.z) * (a.z - b.z) <= sqD a b := by
 rw [sqD_eq]
 have h1 := Qe3 (a.x - b.x)
 have h2 := Qe3 (a.y - b.y)
 have h3 := Qe3 (a.z - b.z)
 omega

noncomputable def towP (c a : Pt) (d : Int) : Pt := ⟨c.x + Qc1 (a.x - c.x) d (sqD a c), c.y + Qc1 (a.y - c.y) d (sqD a c), c.z + Qc1 (a.z - c.z) d (sqD a c)⟩
abbrev B24 : Nat := 16777216
theorem near_betw {x r n : Int} (hx : x.natAbs <= 33554432 * 4) (hr : 0 <= r /\ r <= 33554432 * 4) (hn : 0 < n /\ n <= 4611686018427387904) (hxn : x * x <= n) (hrn : r * r <= n) :
  (0 <= x -> 0 <= Qc1 x r n /\ Qc1 x r n <= x) /\ (x <= 0 -> x <= Qc1 x r n /\ Qc1 x r n <= 0) := by
 obtain ⟨-, h2, h3⟩ := Qi6 hx hr hn hxn
 have h4 := isRnd_le' (by omega) (by
  have : ((r.natAbs * r.natAbs : Nat) : Int) = r * r := Int.natAbs_mul_self
  omega) h3
 unfold Qc1 at *
 constructor
 ·intro h
  rw [if_neg (by omega)] at h4 ⊢
  omega
 ·intro h
  by_cases c : x < 0
  ·rw [if_pos c] at h4 ⊢
   omega
  ·rw [if_neg c] at h4 ⊢
   omega
theorem sqD_le24 {a b : Pt} (ha : bd B24 a) (hb : bd B24 b) : sqD a b <= 3377699720527872 := by
 have h : ∀ x y : Int, x.natAbs <= B24 -> y.natAbs <= B24 -> (x - y) * (x - y) <= 1125899906842624 := by
  intro x y hx hy
  unfold B24 at *
  exact (Qlo (x := x - y) (A := 33554432) (by omega)).2
 have h1 := h _ _ ha.1 hb.1
 have h2 := h _ _ ha.2.1 hb.2.1
 have h3 := h _ _ ha.2.2 hb.2.2
 rw [sqD_eq]
 omega
theorem Qlc {c a : Pt} {d : Int} (hc : bd B24 c) (ha : bd B24 a) (hne : a ≠ c) (hd : 0 <= d /\ d < lenP a c) : bd B24 (towP c a d) := by
 have h0 : sqD a c ≠ 0 := fun h => hne (sqD_zero.1 h)
 have h1 := sqD_nn a c
 have h2 := sqD_le (Qau ha (by decide)) (Qau hc (by decide)) (show 67108864 <= 67108864 by omega)
 obtain ⟨-, g1, g2, g3⟩ := Qj8 (Qau ha (show B24 <= 67108864 by decide)) (Qau hc (show B24 <= 67108864 by decide))
 have hl := len_bd (Qau ha (show B24 <= 67108864 by decide)) (Qau hc (show B24 <= 67108864 by decide))
 have hdd : d * d <= sqD a c := by
  have := Int.mul_self_le_mul_self hd.1 (show d <= lenP a c - 1 by omega)
  omega
 have hd2 : d <= 33554432 * 4 := by
  by_cases c2 : d <= 33554432 * 4
  ·exact c2
  ·exfalso
   have h3 := Int.mul_self_le_mul_self (a := 33554432 * 4 + 1) (b := d) (by omega) (by omega)
   have h4 := sqD_le24 ha hc
   omega
 obtain ⟨q1, q2, q3⟩ := sqD_comp a c
 have hn : 0 < sqD a c /\ sqD a c <= 4611686018427387904 := ⟨Int.lt_iff_le_and_ne.2 ⟨h1, fun h => h0 h.symm⟩, Int.le_trans h2 (by decide)⟩
 have hd3 : 0 <= d /\ d <= 33554432 * 4 := ⟨hd.1, hd2⟩
 have k1 := near_betw (x := a.x - c.x) (r := d) (n := sqD a c) (Nat.le_trans (sub_nat ha.1 hc.1) (by decide)) hd3 hn q1 hdd
 have k2 := near_betw (x := a.y - c.y) (r := d) (n := sqD a c) (Nat.le_trans (sub_nat ha.2.1 hc.2.1) (by decide)) hd3 hn q2 hdd
 have k3 := near_betw (x := a.z - c.z) (r := d) (n := sqD a c) (Nat.le_trans (sub_nat ha.2.2 hc.2.2) (by decide)) hd3 hn q3 hdd
 have e : ∀ x y : Int, x + (y - x) = y := fun x y => by omega
 exact ⟨betw_bd hc.1 (by rw [e]; exact ha.1) k1, betw_bd hc.2.1 (by rw [e]; exact ha.2.1) k2, betw_bd hc.2.2 (by rw [e]; exact ha.2.2) k3⟩
def bendV (p c q : Pt) : Pt := ⟨p.x - c.x + (q.x - c.x), p.y - c.y + (q.y - c.y), p.z - c.z + (q.z - c.z)⟩
def bendP (p c q : Pt) : Int := dotP (bendV p c q) (bendV p c q)
theorem bend_bd {p c q : Pt} (hp : bd B24 p) (hc : bd B24 c) (hq : bd B24 q) : bd 67108864 (bendV p c q) := by
 unfold bd B24 bendV at *
 simp only
 omega
theorem s_Minus24 {a b : Pt} (ha : bd B24 a) (hb : bd B24 b) : Qli [I a.x, I a.y, I a.z, I b.x, I b.y, I b.z] = some (ptR (subP a b)) := s_cncref24_Minus (Qau ha (by decide)) (Qau hb (by decide))
theorem s_cncref24_Add {a b : Pt} (ha : bd 67108864 a) (hb : bd 67108864 b) : m_cncref24_Add [I a.x, I a.y, I a.z, I b.x, I b.y, I b.z] = some (ptR ⟨a.x + b.x, a.y + b.y, a.z + b.z⟩) := by
 unfold m_cncref24_Add
 unfold bd at *
 rw [mf_cncref24_Add_eq, Qab (x := a.x + b.x) (by omega), Qab (x := a.y + b.y) (by omega), Qab (x := a.z + b.z) (by omega)]
theorem a_cncref24_Bend {MS MA MM : List AC -> Option (List AC)} {p c q : Pt} (h1 : MM [I p.x, I p.y, I p.z, I c.x, I c.y, I c.z] = some (ptR (subP p c))) (h2 : MM [I q.x, I q.y, I q.z, I c.x, I c.y, I c.z] = some (ptR (subP q c)))
  (h3 : MA [I (subP p c).x, I (subP p c).y, I (subP p c).z, I (subP q c).x, I (subP q c).y, I (subP q c).z] = some (ptR (bendV p c q))) (h4 : MS [I (bendV p c q).x, I (bendV p c q).y, I (bendV p c q).z, I 0, I 0, I 0] = some [I (bendP p c q)]) :
  mf_cncref24_Bend MS MA MM [I p.x, I p.y, I p.z, I c.x, I c.y, I c.z, I q.x, I q.y, I q.z] = some [I (bendP p c q)] := by
 rw [mf_cncref24_Bend_eq]
 simp only [go_sem, h1, h2, h3, h4]
theorem s_cncref24_Bend {p c q : Pt} (hp : bd B24 p) (hc : bd B24 c) (hq : bd B24 q) : Qnr [I p.x, I p.y, I p.z, I c.x, I c.y, I c.z, I q.x, I q.y, I q.z] = some [I (bendP p c q)] := by
 refine a_cncref24_Bend (s_Minus24 hp hc) (s_Minus24 hq hc) (s_cncref24_Add (Qau (sub_bd hp hc) (by decide)) (Qau (sub_bd hq hc) (by decide))) ?_
 have h := s_SquareB (a := bendV p c q) (b := ⟨0, 0, 0⟩) (bend_bd hp hc hq) (by unfold bd; simp)
 have e : sqD (bendV p c q) ⟨0, 0, 0⟩ = bendP p c q := by unfold sqD subP bendP; simp
 rw [e] at h
 exact h

def permP (a c b : Pt) (tol d : Int) : Prop := d <= mn (lenP a c) (lenP c b) - 2 /\ bendP (towP c a d) c (towP c b d) <= 16 * tol * tol
theorem mn_le (x y : Int) : mn x y <= x /\ mn x y <= y := by unfold mn; split <;> omega
theorem sqD_comm (a b : Pt) : sqD a b = sqD b a := by
 unfold sqD; exact dot_neg a b
theorem lenP_comm (a b : Pt) : lenP a b = lenP b a := by unfold lenP; rw [sqD_comm]
open Classical in
noncomputable def reachL (P : Int -> Prop) : Nat -> Int -> Int
 | 0, d => if P (d + 1) then d + 1 else d
 | k + 1, d => reachL P k (if P (d + ((2 ^ (k + 1) : Nat) : Int)) then d + ((2 ^ (k + 1) : Nat) : Int) else d)
open Classical in
theorem reachL_bd {P : Int -> Prop} : ∀ (k : Nat) (d : Int), d <= reachL P k d /\ reachL P k d < d + ((2 ^ (k + 1) : Nat) : Int) /\ (reachL P k d = d \/ P (reachL P k d))
 | 0, d => by
  have e : ((2 ^ (0 + 1) : Nat) : Int) = 2 := rfl
  rw [e]
  unfold reachL
  split
  ·rename_i h; exact ⟨by omega, by omega, .inr h⟩
  ·exact ⟨by omega, by omega, .inl rfl⟩
 | k + 1, d => by
  unfold reachL
  have hp : 0 < 2 ^ (k + 1) := Nat.two_pow_pos _
  have e3 : 2 ^ (k + 1 + 1) = 2 ^ (k + 1) + 2 ^ (k + 1) := by rw [Nat.pow_succ 2 (k + 1)]; omega
  rw [e3]
  have hif : (if P (d + ((2 ^ (k + 1) : Nat) : Int)) then d + ((2 ^ (k + 1) : Nat) : Int) else d) = d \/ ((if P (d + ((2 ^ (k + 1) : Nat) : Int)) then d + ((2 ^ (k + 1) : Nat) : Int) else d) = d + ((2 ^ (k + 1) : Nat) : Int) /\ P (if P (d + ((2 ^ (k + 1) : Nat) : Int)) then d + ((2 ^ (k + 1) : Nat) : Int) else d)) := by
   split
   ·rename_i h; exact .inr ⟨rfl, h⟩
   ·exact .inl rfl
  generalize (if P (d + ((2 ^ (k + 1) : Nat) : Int)) then d + ((2 ^ (k + 1) : Nat) : Int) else d) = d' at *
  obtain ⟨h1, h2, h3⟩ := reachL_bd (P := P) k d'
  generalize reachL P k d' = x at *
  generalize 2 ^ (k + 1) = m at *
  rcases hif with hif | ⟨hif, hP⟩
  ·subst hif
   exact ⟨by omega, by omega, h3⟩
  ·refine ⟨by omega, by omega, .inr ?_⟩
   rcases h3 with h3 | h3
   ·rw [h3]; exact hP
   ·exact h3
open Classical in
noncomputable def Qgd (a c b : Pt) (tol : Int) : Int := if a = c \/ b = c then 0 else if reachL (permP a c b tol) 24 0 < 16 then 0 else reachL (permP a c b tol) 24 0
theorem reach_spec {a c b : Pt} {tol : Int} (h : Qgd a c b tol ≠ 0) : a ≠ c /\ b ≠ c /\ 16 <= Qgd a c b tol /\ Qgd a c b tol < 33554432 /\ permP a c b tol (Qgd a c b tol) := by
 unfold Qgd at *
 split at h
 ·exact absurd rfl h
 ·rename_i h1
  rw [if_neg h1]
  split at h
  ·exact absurd rfl h
  ·rename_i h2
   rw [if_neg h2]
   obtain ⟨h3, h4, h5⟩ := reachL_bd (P := permP a c b tol) 24 0
   have e : ((2 ^ (24 + 1) : Nat) : Int) = 33554432 := rfl
   rw [e] at h4
   refine ⟨fun h => h1 (.inl h), fun h => h1 (.inr h), by omega, by omega, ?_⟩
   rcases h5 with h5 | h5
   ·omega
   ·exact h5
theorem pt_ext {a b : Pt} : a = b ↔ a.x = b.x /\ a.y = b.y /\ a.z = b.z := by
 obtain ⟨a1, a2, a3⟩ := a
 obtain ⟨b1, b2, b3⟩ := b
 simp
def pcsN (bend : Int) : Nat -> Int -> Int
 | 0, n => n
 | k + 1, n => if n < 64 /\ bend > 16 * n * n * n * n * 4 * 4 then pcsN bend k (n * 2) else n
def isPow (n : Int) : Prop := n = 2 \/ n = 4 \/ n = 8 \/ n = 16 \/ n = 32 \/ n = 64
theorem l_Pieces {M : List AC -> Option (List AC)} {p c q : Pt} (hM : M [I p.x, I p.y, I p.z, I c.x, I c.y, I c.z, I q.x, I q.y, I q.z] = some [I (bendP p c q)]) :
  ∀ (k : Nat) (n : Int), isPow n -> 64 <= n * 2 ^ k -> Qb1 (Qe2 M) [I n, I p.x, I p.y, I p.z, I c.x, I c.y, I c.z, I q.x, I q.y, I q.z] = some (1, [I (pcsN (bendP p c q) k n)]) /\ isPow (pcsN (bendP p c q) k n) := by
 have hst : ∀ n : Int, isPow n -> Qe2 M [I n, I p.x, I p.y, I p.z, I c.x, I c.y, I c.z, I q.x, I q.y, I q.z] = if n < 64 /\ bendP p c q > 16 * n * n * n * n * 4 * 4 then some (0, [I (n * 2), I p.x, I p.y, I p.z, I c.x, I c.y, I c.z, I q.x, I q.y, I q.z]) else some (1, [I n]) := by
  intro n hn
  rw [st_cncref24_Pieces_2_eq]
  simp only [go_sem, hM]
  have hw : IntKind.i64.wrap (IntKind.i64.wrap (IntKind.i64.wrap (IntKind.i64.wrap (IntKind.i64.wrap (IntKind.i64.wrap (16 * n) * n) * n) * n) * 4) * 4) = 16 * n * n * n * n * 4 * 4 /\ IntKind.i64.wrap (n * 2) = n * 2 := by
   rcases hn with rfl | rfl | rfl | rfl | rfl | rfl <;> decide
  rw [hw.1, hw.2]
  by_cases h1 : n < 64
  ·rw [if_pos h1]
   by_cases h2 : bendP p c q > 16 * n * n * n * n * 4 * 4
   ·rw [if_pos h2, if_pos ⟨h1, h2⟩]
   ·rw [if_neg h2, if_neg (fun h => h2 h.2)]
  ·rw [if_neg h1, if_neg (fun h => h1 h.1)]
 intro k
 induction k with
 | zero =>
  intro n hn h64
  have : n = 64 := by rcases hn with rfl | rfl | rfl | rfl | rfl | rfl <;> simp at h64 ⊢
  subst this
  refine ⟨Qcj ?_ (by simp), hn⟩
  rw [hst _ hn, if_neg (by omega)]; rfl
 | succ k ih =>
  intro n hn h64
  unfold pcsN
  by_cases h : n < 64 /\ bendP p c q > 16 * n * n * n * n * 4 * 4
  ·rw [if_pos h]
   have hs := hst n hn
   rw [if_pos h] at hs
   rw [Qb8 hs]
   refine ih (n * 2) ?_ ?_
   ·rcases hn with rfl | rfl | rfl | rfl | rfl | rfl <;> simp [isPow] at h ⊢
   ·rw [Int.pow_succ] at h64
    rw [Int.mul_assoc, Int.mul_comm 2]; exact h64
  ·rw [if_neg h]
   refine ⟨Qcj ?_ (by simp), hn⟩
   rw [hst _ hn, if_neg h]
def piecesP (p c q : Pt) : Int := pcsN (bendP p c q) 5 2
theorem Qg5 {p c q : Pt} (hp : bd B24 p) (hc : bd B24 c) (hq : bd B24 q) : m_cncref24_Pieces [I p.x, I p.y, I p.z, I c.x, I c.y, I c.z, I q.x, I q.y, I q.z] = some [I (piecesP p c q)] /\ isPow (piecesP p c q) := by
 obtain ⟨h1, h2⟩ := l_Pieces (s_cncref24_Bend hp hc hq) 5 2 (.inl rfl) (by decide)
 refine ⟨?_, h2⟩
 show Qnv _ (Qb1 (Qe2 _)) _ = _
 generalize Qnr = M at *
 rw [mf_cncref24_Pieces_eq]
 simp only [go_sem, h1]
 rfl

def mixI (n i p c q : Int) : Int := c + near ((n - i) * (n - i) * (p - c) + i * i * (q - c)) (n * n)
def mixP (n i : Int) (p c q : Pt) : Pt := ⟨mixI n i p.x c.x q.x, mixI n i p.y c.y q.y, mixI n i p.z c.z q.z⟩
theorem near_mono {a b n : Int} (hn : 0 < n) (h : a <= b) : near a n <= near b n := by
 unfold near
 exact Int.ediv_le_ediv (by omega) (by omega)
theorem near_mul {k n : Int} (hn : 0 < n) : near (k * n) n = k := near_of hn (by rw [show k * (2 * n) = 2 * (k * n) by grind]; omega) (by rw [show (k + 1) * (2 * n) = 2 * (k * n) + 2 * n by grind]; omega)
theorem mix_bd {n i p c q : Int} {A : Nat} (hn : 0 < n) (hi : 0 <= i /\ i <= n) (hp : p.natAbs <= A) (hc : c.natAbs <= A) (hq : q.natAbs <= A) : (mixI n i p c q).natAbs <= A := by
 have hnn : 0 < n * n := Int.mul_pos hn hn
 have h1 : 0 <= (n - i) * (n - i) := Qe3 _
 have h2 : 0 <= i * i := Qe3 _
 have h3 : (n - i) * (n - i) + i * i <= n * n := by
  have : n * n - ((n - i) * (n - i) + i * i) = 2 * (i * (n - i)) := by grind
  have : 0 <= i * (n - i) := Int.mul_nonneg hi.1 (by omega)
  omega
 have key : ∀ s : Int, (s = 1 \/ s = -1) -> s * ((n - i) * (n - i) * (p - c) + i * i * (q - c)) <= (A - s * c) * (n * n) := by
  intro s hs
  have hp' : s * p <= A := by rcases hs with rfl | rfl <;> omega
  have hc' : s * c <= A := by rcases hs with rfl | rfl <;> omega
  have hq' : s * q <= A := by rcases hs with rfl | rfl <;> omega
  have g1 : (n - i) * (n - i) * (s * p - s * c) <= (n - i) * (n - i) * (A - s * c) := Int.mul_le_mul_of_nonneg_left (by omega) h1
  have g2 : i * i * (s * q - s * c) <= i * i * (A - s * c) := Int.mul_le_mul_of_nonneg_left (by omega) h2
  have g3 : ((n - i) * (n - i) + i * i) * (A - s * c) <= n * n * (A - s * c) := Int.mul_le_mul_of_nonneg_right h3 (by omega)
  have e1 : s * ((n - i) * (n - i) * (p - c) + i * i * (q - c)) = (n - i) * (n - i) * (s * p - s * c) + i * i * (s * q - s * c) := by grind
  have e2 : ((n - i) * (n - i) + i * i) * (A - s * c) = (n - i) * (n - i) * (A - s * c) + i * i * (A - s * c) := Int.add_mul ..
  have e3 : (A - s * c) * (n * n) = n * n * (A - s * c) := Int.mul_comm ..
  omega
 unfold mixI
 have k1 := near_mono hnn (key 1 (.inl rfl) |> fun h => (by rw [Int.one_mul, Int.one_mul] at h; exact h))
 rw [near_mul hnn] at k1
 have k2 := key (-1) (.inr rfl)
 have k3 : (-(A : Int) - c) * (n * n) <= (n - i) * (n - i) * (p - c) + i * i * (q - c) := by
  have e : (-(A : Int) - c) * (n * n) = -((A - -1 * c) * (n * n)) := by grind
  omega
 have k4 := near_mono hnn k3
 rw [near_mul hnn] at k4
 omega
noncomputable def Qg1 (a c b : Pt) (tol : Int) : List Pt :=
 if Qgd a c b tol = 0 then [c]
 else (List.range ((piecesP (towP c a (Qgd a c b tol)) c (towP c b (Qgd a c b tol))).toNat + 1)).map fun (i : Nat) => mixP (piecesP (towP c a (Qgd a c b tol)) c (towP c b (Qgd a c b tol))) i (towP c a (Qgd a c b tol)) c (towP c b (Qgd a c b tol))
theorem corner_bd {a c b : Pt} {tol : Int} (ha : bd B24 a) (hc : bd B24 c) (hb : bd B24 b) : (∀ p ∈ Qg1 a c b tol, bd B24 p) /\ 1 <= (Qg1 a c b tol).length /\ (Qg1 a c b tol).length <= 65 := by
 unfold Qg1
 by_cases h : Qgd a c b tol = 0
 ·rw [if_pos h]
  simp; exact hc
 ·rw [if_neg h]
  obtain ⟨h1, h2, h3, h4, h5, -⟩ := reach_spec h
  obtain ⟨m1, m2⟩ := mn_le (lenP a c) (lenP c b)
  generalize Qgd a c b tol = d at *
  have k1 : bd B24 (towP c a d) := Qlc hc ha h1 (by omega)
  have k2 : bd B24 (towP c b d) := Qlc hc hb h2 (by rw [lenP_comm b c]; omega)
  have k3 := (Qg5 k1 hc k2).2
  generalize piecesP (towP c a d) c (towP c b d) = n at *
  have hn : 2 <= n /\ n <= 64 := by rcases k3 with rfl | rfl | rfl | rfl | rfl | rfl <;> omega
  refine ⟨?_, by simp, by simp; omega⟩
  intro p hp
  simp only [List.mem_map, List.mem_range] at hp
  obtain ⟨i, hi, rfl⟩ := hp
  exact ⟨mix_bd (by omega) (by omega) k1.1 hc.1 k2.1, mix_bd (by omega) (by omega) k1.2.1 hc.2.1 k2.2.1, mix_bd (by omega) (by omega) k1.2.2 hc.2.2 k2.2.2⟩
end Go.Bm
/- the reference's spokes: the middle of a piece, the pieces of an arc, its chords -/
set_option maxRecDepth 100000
namespace Go.Bm

def okS (s : Spk) : Prop := s.u.natAbs <= 50000000 /\ s.w.natAbs <= 50000000 /\ (0 <= s.r /\ s.r <= 50000000) /\ s.h.natAbs <= 16777216
def hf (a b : Int) : Int := (a + b + 1) / 2
def midD (a b : Spk) (dir : Int) (full : Bool) : Int × Int :=
 if full = true then (-a.u, -a.w)
 else if 0 < dt2 a.u a.w b.u b.w /\ 0 < crs a.u a.w b.u b.w * dir then (a.u + b.u, a.w + b.w)
 else if 0 < dt2 a.u a.w b.u b.w then (-(a.u + b.u), -(a.w + b.w))
 else (dir * (b.w - a.w), dir * (a.u - b.u))
noncomputable def midOf (a b : Spk) (u w : Int) : Spk := if u = 0 /\ w = 0 then ⟨0, 0, 0, 0⟩ else ⟨Qc1 u (hf a.r b.r) (sq2 u w), Qc1 w (hf a.r b.r) (sq2 u w), hf a.r b.r, hf a.h b.h⟩
noncomputable def midS (a b : Spk) (dir : Int) (full : Bool) : Spk := midOf a b (midD a b dir full).1 (midD a b dir full).2
theorem midD_bd {a b : Spk} (ha : okS a) (hb : okS b) {dir : Int} (hd : dir = 1 \/ dir = -1) (full : Bool) : (midD a b dir full).1.natAbs <= 100000000 /\ (midD a b dir full).2.natAbs <= 100000000 := by
 obtain ⟨a1, a2, -⟩ := ha
 obtain ⟨b1, b2, -⟩ := hb
 unfold midD
 split
 ·exact ⟨by simp only; omega, by simp only; omega⟩
 ·split
  ·exact ⟨by simp only; omega, by simp only; omega⟩
  ·split
   ·exact ⟨by simp only; omega, by simp only; omega⟩
   ·rcases hd with rfl | rfl
    ·exact ⟨by simp only; omega, by simp only; omega⟩
    ·exact ⟨by simp only; omega, by simp only; omega⟩
theorem sq2_sq (u w : Int) : u * u <= sq2 u w /\ w * w <= sq2 u w := by
 have h1 := Qe3 u
 have h2 := Qe3 w
 unfold sq2
 omega
theorem sq2_pos {u w : Int} (h : ¬ (u = 0 /\ w = 0)) : 0 < sq2 u w := by
 have h1 := Qe3 u
 have h2 := Qe3 w
 have z : ∀ u : Int, u * u = 0 -> u = 0 := fun u hu => by
  rcases Int.mul_eq_zero.1 hu with h | h <;> exact h
 have h3 : ¬ (u * u = 0 /\ w * w = 0) := fun h4 => h ⟨z _ h4.1, z _ h4.2⟩
 unfold sq2
 omega
theorem hf_bd {a b : Int} (ha : 0 <= a /\ a <= 50000000) (hb : 0 <= b /\ b <= 50000000) : 0 <= hf a b /\ hf a b <= 50000000 := by unfold hf; omega
theorem hf_bd2 {a b : Int} (ha : a.natAbs <= 16777216) (hb : b.natAbs <= 16777216) : (hf a b).natAbs <= 16777216 := by unfold hf; omega
theorem near_S {u w r : Int} (hu : u.natAbs <= 100000000) (hw : w.natAbs <= 100000000) (hr : 0 <= r /\ r <= 50000000) (h : ¬ (u = 0 /\ w = 0)) :
  (Qnt [I u, I r, I (sq2 u w)] = some [I (Qc1 u r (sq2 u w))] /\ (Qc1 u r (sq2 u w)).natAbs <= r.natAbs) /\ (Qnt [I w, I r, I (sq2 u w)] = some [I (Qc1 w r (sq2 u w))] /\ (Qc1 w r (sq2 u w)).natAbs <= r.natAbs) := by
 have hp := sq2_pos h
 have h1 := Qlo hu
 have h2 := Qlo hw
 have h3 : sq2 u w <= 20000000000000000 := by unfold sq2; omega
 obtain ⟨q1, q2⟩ := sq2_sq u w
 have key : ∀ x : Int, x.natAbs <= 100000000 -> x * x <= sq2 u w -> Qnt [I x, I r, I (sq2 u w)] = some [I (Qc1 x r (sq2 u w))] /\ (Qc1 x r (sq2 u w)).natAbs <= r.natAbs := by
  intro x hx hq
  obtain ⟨g1, -, g3⟩ := Qi6 (x := x) (r := r) (n := sq2 u w) (Nat.le_trans hx (by decide)) (by omega) (by omega) hq
  refine ⟨g1, isRnd_le (by omega) ?_ g3⟩
  have : ((x.natAbs * x.natAbs : Nat) : Int) = x * x := Int.natAbs_mul_self
  omega
 exact ⟨key u hu q1, key w hw q2⟩
theorem midOf_ok {a b : Spk} (ha : okS a) (hb : okS b) {u w : Int} (hu : u.natAbs <= 100000000) (hw : w.natAbs <= 100000000) : okS (midOf a b u w) := by
 unfold midOf
 split
 ·exact ⟨by simp, by simp, by simp, by simp⟩
 ·rename_i h
  have hr := hf_bd ha.2.2.1 hb.2.2.1
  obtain ⟨⟨-, n1⟩, -, n2⟩ := near_S hu hw hr h
  exact ⟨by simp only; omega, by simp only; omega, hr, hf_bd2 ha.2.2.2 hb.2.2.2⟩
theorem midS_ok {a b : Spk} (ha : okS a) (hb : okS b) {dir : Int} (hd : dir = 1 \/ dir = -1) (full : Bool) : okS (midS a b dir full) :=
 midOf_ok ha hb (midD_bd ha hb hd full).1 (midD_bd ha hb hd full).2
theorem dir_nat {x : Int} (h : x.natAbs <= 50000000) : x.natAbs <= 1000000000 := Nat.le_trans h (by decide)
def setS (a b : Spk) (dir : Int) (full : Bool) : Prop := full = false /\ 0 < crs a.u a.w b.u b.w * dir /\ sq2 (a.u - b.u) (a.w - b.w) <= 32 * mn a.r b.r - 64
instance {a b : Spk} {dir : Int} {full : Bool} : Decidable (setS a b dir full) := by unfold setS; infer_instance
noncomputable def pcsL (dir : Int) : Nat -> Bool -> Spk -> Spk -> List Spk
 | 0, _, _, b => [b]
 | k + 1, full, a, b => if setS a b dir full then [b] else pcsL dir k false a (midS a b dir full) ++ pcsL dir k false (midS a b dir full) b
theorem pcsL_len {dir : Int} : ∀ (k : Nat) (full : Bool) (a b : Spk), 1 <= (pcsL dir k full a b).length /\ (pcsL dir k full a b).length <= 2 ^ k
 | 0, _, _, b => by simp [pcsL]
 | k + 1, full, a, b => by
  have hp : 0 < 2 ^ k := Nat.two_pow_pos _
  have e3 : 2 ^ (k + 1) = 2 ^ k + 2 ^ k := by rw [Nat.pow_succ]; omega
  unfold pcsL
  split
  ·simp; omega
  ·have h1 := pcsL_len k false a (midS a b dir full) (dir := dir)
   have h2 := pcsL_len k false (midS a b dir full) b (dir := dir)
   rw [List.length_append]
   omega
theorem pcsL_ok {dir : Int} (hd : dir = 1 \/ dir = -1) : ∀ (k : Nat) (full : Bool) {a b : Spk}, okS a -> okS b -> ∀ s ∈ pcsL dir k full a b, okS s
 | 0, _, a, b, _, hb, s, hs => by simp [pcsL] at hs; subst hs; exact hb
 | k + 1, full, a, b, ha, hb, s, hs => by
  unfold pcsL at hs
  have hm := midS_ok ha hb hd full
  split at hs
  ·simp at hs; subst hs; exact hb
  ·rcases List.mem_append.1 hs with hs | hs
   ·exact pcsL_ok hd k false ha hm s hs
   ·exact pcsL_ok hd k false hm hb s hs
end Go.Bm
/- the reference's chords -/
set_option maxRecDepth 100000
namespace Go.Bm

theorem isMid_unique {n i j : Int} (hi : IsMid n i) (hj : IsMid n j) : i = j := by
 have key : ∀ {i j : Int}, IsMid n i -> IsMid n j -> ¬ i < j := by
  rintro i j ⟨h1, h2, -⟩ ⟨h4, h5, h6⟩ hlt
  rcases h6 with h6 | h6
  ·omega
  ·have h7 := Int.mul_le_mul (show i <= j - 1 by omega) (show i + 1 <= j by omega) (by omega) (by omega)
   omega
 have h1 := key hi hj
 have h2 := key hj hi
 omega
open Classical in
noncomputable def midR (n : Int) : Int := if h : ∃ j, IsMid n j then Classical.choose h else 0
theorem midR_of {n k : Int} (h : IsMid n k) : midR n = k := by
 have hx : ∃ j, IsMid n j := ⟨k, h⟩
 unfold midR
 rw [dif_pos hx]
 exact isMid_unique (Classical.choose_spec hx) h
theorem isMid_nat {n r : Nat} (h1 : r * r <= n) (h2 : n < (r + 1) * (r + 1)) : IsMid n (if r * r + r < n then r + 1 else r : Nat) := by
 have e0 : (r + 1) * (r + 1) = r * r + r + r + 1 := by grind
 unfold IsMid
 by_cases c : r * r + r < n
 ·rw [if_pos c]
  have e1 : ((r + 1 : Nat) : Int) * (((r + 1 : Nat) : Int) + 1) = ((r * r + r + r + r + 2 : Nat) : Int) := by
   have : ((r + 1 : Nat) : Int) + 1 = ((r + 2 : Nat) : Int) := by omega
   rw [this, <- Int.natCast_mul]
   congr 1
   grind
  have e2 : (((r + 1 : Nat) : Int) - 1) * ((r + 1 : Nat) : Int) = ((r * r + r : Nat) : Int) := by
   rw [show ((r + 1 : Nat) : Int) - 1 = (r : Int) by omega, <- Int.natCast_mul]
   congr 1
  rw [e1, e2]
  generalize r * r = A at *
  exact ⟨by omega, by omega, .inr (by omega)⟩
 ·rw [if_neg c]
  have e1 : (r : Int) * ((r : Int) + 1) = ((r * r + r : Nat) : Int) := by
   rw [show (r : Int) + 1 = ((r + 1 : Nat) : Int) by omega, <- Int.natCast_mul]
   congr 1
  rw [e1]
  refine ⟨by omega, by omega, ?_⟩
  rcases Nat.eq_zero_or_pos r with h | h
  ·left; omega
  ·right
   have e2 : ((r : Int) - 1) * (r : Int) = (((r - 1) * r : Nat) : Int) := by
    rw [show (r : Int) - 1 = ((r - 1 : Nat) : Int) by omega]; exact (Int.natCast_mul _ _).symm
   have := Nat.mul_lt_mul_of_pos_right (show r - 1 < r by omega) h
   rw [e2]; omega
noncomputable def endS (it : Itm) (p : Pt) : Spk := ⟨dU it p * 16, dW it p * 16, midR (sq2 (dU it p * 16) (dW it p * 16)), plH it.plane p * 16⟩
theorem mid_bd {n : Nat} (hn : n <= 2251799813685248) : 0 <= midR n /\ midR n <= 50000000 := by
 obtain ⟨r, -, h2, h3, -⟩ := Qjo (n := n) (by omega)
 have hm := isMid_nat h2 h3
 rw [midR_of hm]
 have : r < 50000000 := by
  by_cases c : r < 50000000
  ·exact c
  ·have := Nat.mul_le_mul (show 50000000 <= r by omega) (show 50000000 <= r by omega)
   omega
 split <;> omega
theorem endS_sq {it : Itm} {p : Pt} (hc : bd 1048576 it.ce) (hp : bd 1048576 p) : (dU it p * 16).natAbs <= 33554432 /\ (dW it p * 16).natAbs <= 33554432 /\ 0 <= sq2 (dU it p * 16) (dW it p * 16) /\ sq2 (dU it p * 16) (dW it p * 16) <= 2251799813685248 := by
 obtain ⟨h1, h2⟩ := dU_bd hc hp
 have h3 : (dU it p * 16).natAbs <= 33554432 := by omega
 have h4 : (dW it p * 16).natAbs <= 33554432 := by omega
 have q1 := Qlo h3
 have q2 := Qlo h4
 refine ⟨h3, h4, ?_⟩
 unfold sq2
 omega
theorem endS_ok {it : Itm} {p : Pt} (hc : bd 1048576 it.ce) (hp : bd 1048576 p) : okS (endS it p) := by
 obtain ⟨h1, h2, h3, h4⟩ := endS_sq hc hp
 have h5 := (pl_bd (pl := it.plane) hp).2.2
 obtain ⟨n, hn⟩ := Int.eq_ofNat_of_zero_le h3
 refine ⟨Nat.le_trans h1 (by decide), Nat.le_trans h2 (by decide), ?_, ?_⟩
 ·show 0 <= midR _ /\ midR _ <= _
  rw [hn] at h4 ⊢
  exact mid_bd (by omega)
 ·show (plH it.plane p * 16).natAbs <= _
  omega
noncomputable def Qez (it : Itm) : List Spk := endS it it.fr :: pcsL it.dir 16 it.full (endS it it.fr) (endS it it.to)
theorem spokesP_ok {it : Itm} (h : Qfa it) (h3 : it.kind = 3) : ∀ s ∈ Qez it, okS s := by
 obtain ⟨-, h1, h2, ha⟩ := h
 obtain ⟨hp, hd, hc, -⟩ := ha h3
 intro s hs
 rcases List.mem_cons.1 hs with rfl | hs
 ·exact endS_ok hc h1
 ·exact pcsL_ok hd 16 _ (endS_ok hc h1) (endS_ok hc h2) s hs
theorem spokesP_len (it : Itm) : 2 <= (Qez it).length /\ (Qez it).length <= 65537 := by
 have := pcsL_len (dir := it.dir) 16 it.full (endS it it.fr) (endS it it.to)
 have e : (2 : Nat) ^ 16 = 65536 := rfl
 rw [e] at this
 unfold Qez
 rw [List.length_cons]
 omega
noncomputable def chPt (it : Itm) (s : Spk) : Pt := spP it.plane (plU it.plane (fine it.ce) + s.u) (plW it.plane (fine it.ce) + s.w) s.h
noncomputable def Qdy (it : Itm) : List Pt := if it.kind = 3 then (Qez it).map (chPt it) else [fine it.fr, fine it.to]
theorem sp_bd {pl u w h : Int} {b : Nat} (hu : u.natAbs <= b) (hw : w.natAbs <= b) (hh : h.natAbs <= b) : bd b (spP pl u w h) := by
 unfold spP bd
 split
 ·exact ⟨hu, hw, hh⟩
 ·split
  ·exact ⟨hw, hh, hu⟩
  ·exact ⟨hh, hu, hw⟩
theorem chPt_bd {it : Itm} {s : Spk} (hc : bd 1048576 it.ce) (hs : okS s) : bd 67108864 (chPt it s) := by
 obtain ⟨h1, h2, -⟩ := pl_bd (pl := it.plane) (Qg6 hc)
 obtain ⟨s1, s2, -, s4⟩ := hs
 exact sp_bd (by omega) (by omega) (by omega)
theorem chordsP_bd {it : Itm} (h : Qfa it) : ∀ p ∈ Qdy it, bd 67108864 p := by
 intro p hp
 unfold Qdy at hp
 split at hp
 ·rename_i h3
  simp only [List.mem_map] at hp
  obtain ⟨s, hs, rfl⟩ := hp
  exact chPt_bd (h.2.2.2 h3).2.2.1 (spokesP_ok h h3 s hs)
 ·simp at hp
  rcases hp with rfl | rfl
  ·exact Qau (Qg6 h.2.1) (by decide)
  ·exact Qau (Qg6 h.2.2.1) (by decide)
theorem chordsP_len (it : Itm) : 2 <= (Qdy it).length /\ (Qdy it).length <= 65537 := by
 have := spokesP_len it
 unfold Qdy
 split <;> simp <;> omega
end Go.Bm
/- which points are near an arc: the reference's answer -/
set_option maxRecDepth 100000
namespace Go.Bm
open Classical

theorem crs_swap (u w x y : Int) : crs x y u w = -crs u w x y := by unfold crs; grind
theorem id_dot (u w x y s t : Int) : dt2 u w s t * crs u w x y - crs u w s t * dt2 u w x y = sq2 u w * crs s t x y := by unfold dt2 crs sq2; grind
end Go.Bm
/- the middle of a piece of an arc: how far rounding moves it, and that it lies between the ends -/
set_option maxRecDepth 100000
namespace Go.Bm
open Classical

theorem Qgp {a b : Int} (hb : 0 <= b) (h : a * a <= b * b) : a <= b := by
 by_cases c : a <= b
 ·exact c
 ·have := Int.mul_self_lt_mul_self hb (show b < a by omega)
  omega
theorem lt_of_sq {a b : Int} (hb : 0 <= b) (h : a * a < b * b) : a < b := by
 by_cases c : a < b
 ·exact c
 ·have := Int.mul_self_le_mul_self hb (show b <= a by omega)
  omega
theorem near_facts {u R n : Int} (hu : u.natAbs <= 100000000) (hR : 0 <= R /\ R <= 50000000) (hn : 0 < n /\ n <= 20000000000000000) (hq : u * u <= n) :
  ∃ j : Nat, Qc1 u R n = (if u < 0 then -(j : Int) else (j : Int)) /\ (j = 0 \/ (2 * (j : Int) - 1) * (2 * (j : Int) - 1) * n <= (2 * (u.natAbs * R)) * (2 * (u.natAbs * R))) /\ (2 * (u.natAbs * R)) * (2 * (u.natAbs * R)) <= (2 * (j : Int) + 1) * (2 * (j : Int) + 1) * n /\ (j : Int) <= R := by
 obtain ⟨-, -, g3⟩ := Qi6 (x := u) (r := R) (n := n) (Nat.le_trans hu (by decide)) (by omega) (by omega) hq
 have hl : (Qc1 u R n).natAbs <= R.natAbs := by
  refine isRnd_le (by omega) ?_ g3
  have : ((u.natAbs * u.natAbs : Nat) : Int) = u * u := Int.natAbs_mul_self
  omega
 obtain ⟨r, rfl⟩ := Int.eq_ofNat_of_zero_le hR.1
 obtain ⟨m, rfl⟩ := Int.eq_ofNat_of_zero_le (show 0 <= n by omega)
 refine ⟨(Qc1 u r m).natAbs, ?_, ?_, ?_, by omega⟩
 ·unfold Qc1
  by_cases c : u < 0
  ·rw [if_pos c, if_pos c]; omega
  ·rw [if_neg c, if_neg c]; omega
 all_goals
  generalize (Qc1 u r m).natAbs = j at *
  simp only [Int.natAbs_natCast] at g3
  generalize u.natAbs = x at *
  obtain ⟨p1, p2⟩ := g3
 ·rcases p1 with p1 | p1
  ·exact .inl p1
  ·by_cases c0 : j = 0
   ·exact .inl c0
   right
   have p3 : (2 * j - 1) * (2 * j - 1) * m <= 4 * (x * r * (x * r)) := by
    split at p1 <;> omega
   have e1 : ((2 * j - 1 : Nat) : Int) = 2 * (j : Int) - 1 := by omega
   have p4 : (((2 * j - 1) * (2 * j - 1) * m : Nat) : Int) <= ((4 * (x * r * (x * r)) : Nat) : Int) := by omega
   rw [Int.natCast_mul, Int.natCast_mul, e1] at p4
   refine Int.le_trans p4 (Int.le_of_eq ?_)
   simp only [Int.natCast_mul]
   grind
 ·have p3 : 4 * (x * r * (x * r)) <= (2 * j + 1) * (2 * j + 1) * m := by
   split at p2 <;> omega
  have p4 : ((4 * (x * r * (x * r)) : Nat) : Int) <= (((2 * j + 1) * (2 * j + 1) * m : Nat) : Int) := by omega
  refine Int.le_trans (Int.le_of_eq ?_) (Int.le_trans p4 (Int.le_of_eq ?_))
  ·simp only [Int.natCast_mul]; grind
  ·simp only [Int.natCast_mul, Int.natCast_add]; rfl
theorem near_err {u R n S : Int} (hu : u.natAbs <= 100000000) (hR : 0 <= R /\ R <= 50000000) (hn : 0 < n /\ n <= 20000000000000000) (hq : u * u <= n) (hS : 0 <= S /\ S * S <= n /\ n < (S + 1) * (S + 1)) :
  -(S + 2 * R + 1) <= 2 * Qc1 u R n * S - 2 * (u * R) /\ 2 * Qc1 u R n * S - 2 * (u * R) <= S + 2 * R + 1 := by
 obtain ⟨j, e, h1, h2, h3⟩ := near_facts hu hR hn hq
 have hx : 0 <= (u.natAbs : Int) * R := Int.mul_nonneg (by omega) hR.1
 have k1 : 2 * (j : Int) * S - 2 * (u.natAbs * R) <= S := by
  rcases h1 with h1 | h1
  ·rw [h1]; simp; omega
  ·by_cases c0 : j = 0
   ·rw [c0]; simp; omega
   ·have : (2 * (j : Int) - 1) * S <= 2 * (u.natAbs * R) := by
     refine Qgp (by omega) (Int.le_trans ?_ h1)
     have e2 : (2 * (j : Int) - 1) * S * ((2 * (j : Int) - 1) * S) = (2 * (j : Int) - 1) * (2 * (j : Int) - 1) * (S * S) := by grind
     rw [e2]
     exact Int.mul_le_mul_of_nonneg_left hS.2.1 (Qe3 _)
    have e3 : (2 * (j : Int) - 1) * S = 2 * (j : Int) * S - S := by grind
    omega
 have k2 : 2 * (u.natAbs * R) <= 2 * (j : Int) * S + S + 2 * j + 1 := by
  have : 2 * (u.natAbs * R) <= (2 * (j : Int) + 1) * (S + 1) := by
   refine Qgp (Int.mul_nonneg (by omega) (by omega)) (Int.le_trans h2 ?_)
   have e2 : (2 * (j : Int) + 1) * (S + 1) * ((2 * (j : Int) + 1) * (S + 1)) = (2 * (j : Int) + 1) * (2 * (j : Int) + 1) * ((S + 1) * (S + 1)) := by grind
   rw [e2]
   exact Int.mul_le_mul_of_nonneg_left (by omega) (Qe3 _)
  have e3 : (2 * (j : Int) + 1) * (S + 1) = 2 * (j : Int) * S + S + 2 * j + 1 := by grind
  omega
 rw [e]
 by_cases c : u < 0
 ·rw [if_pos c]
  have e1 : (u.natAbs : Int) = -u := by omega
  rw [e1] at k1 k2
  have e2 : -u * R = -(u * R) := by grind
  rw [e2] at k1 k2
  have e3 : 2 * -(j : Int) * S = -(2 * (j : Int) * S) := by grind
  rw [e3]
  omega
 ·rw [if_neg c]
  have e1 : (u.natAbs : Int) = u := by omega
  rw [e1] at k1 k2
  omega
theorem near_norm {u w R : Int} (hu : u.natAbs <= 100000000) (hw : w.natAbs <= 100000000) (hR : 1 <= R /\ R <= 50000000) (h0 : ¬ (u = 0 /\ w = 0)) :
  (R - 1) * (R - 1) <= sq2 (Qc1 u R (sq2 u w)) (Qc1 w R (sq2 u w)) /\ sq2 (Qc1 u R (sq2 u w)) (Qc1 w R (sq2 u w)) <= (R + 1) * (R + 1) := by
 have hp := sq2_pos h0
 have b1 := Qlo hu
 have b2 := Qlo hw
 have hn : sq2 u w <= 20000000000000000 := by unfold sq2; omega
 obtain ⟨q1, q2⟩ := sq2_sq u w
 obtain ⟨j, e1, h1, h2, h3⟩ := near_facts hu ⟨by omega, hR.2⟩ ⟨hp, hn⟩ q1
 obtain ⟨i, e2, g1, g2, g3⟩ := near_facts hw ⟨by omega, hR.2⟩ ⟨hp, hn⟩ q2
 have hs : ∀ (c : Prop) [Decidable c] (j : Nat), (if c then -(j : Int) else (j : Int)) * (if c then -(j : Int) else (j : Int)) = (j : Int) * j := by
  intro c _ j
  by_cases h : c
  ·rw [if_pos h]; grind
  ·rw [if_neg h]
 have esq : sq2 (Qc1 u R (sq2 u w)) (Qc1 w R (sq2 u w)) = (j : Int) * j + (i : Int) * i := by
  rw [e1, e2]
  unfold sq2
  rw [hs, hs]
 rw [esq]
 have eU : (2 * ((u.natAbs : Int) * R)) * (2 * (u.natAbs * R)) + (2 * ((w.natAbs : Int) * R)) * (2 * (w.natAbs * R)) = (2 * R) * (2 * R) * sq2 u w := by
  have a1 : (u.natAbs : Int) * u.natAbs = u * u := Int.natAbs_mul_self
  have a2 : (w.natAbs : Int) * w.natAbs = w * w := Int.natAbs_mul_self
  unfold sq2
  rw [<- a1, <- a2]
  grind
 generalize (2 * ((u.natAbs : Int) * R)) * (2 * (u.natAbs * R)) = U at *
 generalize (2 * ((w.natAbs : Int) * R)) * (2 * (w.natAbs * R)) = W at *
 generalize sq2 u w = n at *
 clear e1 e2 esq hs b1 b2 q1 q2 hu hw h0
 have hU : 0 <= U \/ True := .inr trivial
 constructor
 · -- from below
  have k1 : (2 * R) * (2 * R) * n <= ((2 * (j : Int) + 1) * (2 * (j : Int) + 1) + (2 * (i : Int) + 1) * (2 * (i : Int) + 1)) * n := by
   rw [Int.add_mul]; omega
  have k2 := Int.le_of_mul_le_mul_right k1 hp
  have k3 : (2 * (j : Int) + 1) * (2 * (j : Int) + 1) + (2 * (i : Int) + 1) * (2 * (i : Int) + 1) = 4 * ((j : Int) * j + (i : Int) * i) + 4 * ((j : Int) + i) + 2 := by grind
  have k4 : (2 * R) * (2 * R) = 4 * (R * R) := by grind
  have k5 : (R - 1) * (R - 1) = R * R - 2 * R + 1 := by grind
  by_cases c : 2 * ((j : Int) + i) <= 3 * (R - 1)
  ·omega
  ·have k6 : (3 * (R - 1)) * (3 * (R - 1)) <= (2 * ((j : Int) + i)) * (2 * ((j : Int) + i)) := Int.mul_self_le_mul_self (by omega) (by omega)
   have k7 : (2 * ((j : Int) + i)) * (2 * ((j : Int) + i)) = 8 * ((j : Int) * j + (i : Int) * i) - 4 * (((j : Int) - i) * ((j : Int) - i)) := by grind
   have k8 := Qe3 ((j : Int) - i)
   have k9 : (3 * (R - 1)) * (3 * (R - 1)) = 9 * ((R - 1) * (R - 1)) := by grind
   have k10 := Qe3 (R - 1)
   omega
 ·have k5 : (R + 1) * (R + 1) = R * R + 2 * R + 1 := by grind
  have jj : (j : Int) * j <= R * R := Int.mul_self_le_mul_self (by omega) h3
  have ii : (i : Int) * i <= R * R := Int.mul_self_le_mul_self (by omega) g3
  rcases h1 with h1 | h1
  ·rw [h1]; simp; omega
  rcases g1 with g1 | g1
  ·rw [g1]; simp; omega
  by_cases cj : j = 0
  ·rw [cj]; simp; omega
  by_cases ci : i = 0
  ·rw [ci]; simp; omega
  have k1 : ((2 * (j : Int) - 1) * (2 * (j : Int) - 1) + (2 * (i : Int) - 1) * (2 * (i : Int) - 1)) * n <= (2 * R) * (2 * R) * n := by
   rw [Int.add_mul]; omega
  have k2 := Int.le_of_mul_le_mul_right k1 hp
  have k3 : (2 * (j : Int) - 1) * (2 * (j : Int) - 1) + (2 * (i : Int) - 1) * (2 * (i : Int) - 1) = 4 * ((j : Int) * j + (i : Int) * i) - 4 * ((j : Int) + i) + 2 := by grind
  have k4 : (2 * R) * (2 * R) = 4 * (R * R) := by grind
  -- p + q is at most 3 R
  have k6 : (2 * (j : Int) - 1) + (2 * (i : Int) - 1) <= 3 * R := by
   refine Qgp (by omega) ?_
   have e4 : ((2 * (j : Int) - 1) + (2 * (i : Int) - 1)) * ((2 * (j : Int) - 1) + (2 * (i : Int) - 1)) = 2 * ((2 * (j : Int) - 1) * (2 * (j : Int) - 1) + (2 * (i : Int) - 1) * (2 * (i : Int) - 1)) - ((2 * (j : Int) - 1) - (2 * (i : Int) - 1)) * ((2 * (j : Int) - 1) - (2 * (i : Int) - 1)) := by grind
   have e5 := Qe3 ((2 * (j : Int) - 1) - (2 * (i : Int) - 1))
   have e6 : 3 * R * (3 * R) = 9 * (R * R) := by grind
   have e7 := Qe3 R
   rw [e4, e6]
   omega
  omega
end Go.Bm
/- the middle of a piece of an arc lies between its ends -/
set_option maxRecDepth 100000
namespace Go.Bm
open Classical

structure Sp (s : Spk) : Prop where
 ok : okS s
 r : 128 <= s.r
 norm : (s.r - 1) * (s.r - 1) <= sq2 s.u s.w /\ sq2 s.u s.w <= (s.r + 1) * (s.r + 1)
theorem comp_le {u w M : Int} (hM : 0 <= M) (h : sq2 u w <= M * M) : (u.natAbs : Int) <= M /\ (w.natAbs : Int) <= M := by
 obtain ⟨h1, h2⟩ := sq2_sq u w
 have a1 : (u.natAbs : Int) * u.natAbs = u * u := Int.natAbs_mul_self
 have a2 : (w.natAbs : Int) * w.natAbs = w * w := Int.natAbs_mul_self
 exact ⟨Qgp hM (by omega), Qgp hM (by omega)⟩
theorem mul_ge {x y E : Int} (hy : -E <= y /\ y <= E) : -(x.natAbs * E) <= x * y := by
 have h : (x * y).natAbs = x.natAbs * y.natAbs := Int.natAbs_mul x y
 have h2 : x.natAbs * y.natAbs <= x.natAbs * E.natAbs := Nat.mul_le_mul_left _ (by omega)
 have h3 : ((x.natAbs * E.natAbs : Nat) : Int) = x.natAbs * E := by rw [Int.natCast_mul]; congr 1; omega
 omega
theorem side {p q u w R S dir : Int} (hd : dir = 1 \/ dir = -1) (hu : u.natAbs <= 100000000) (hw : w.natAbs <= 100000000) (hR : 1 <= R /\ R <= 50000000) (h0 : ¬ (u = 0 /\ w = 0)) (hS : 0 <= S /\ S * S <= sq2 u w /\ sq2 u w < (S + 1) * (S + 1))
  (h : (p.natAbs + q.natAbs) * (S + 2 * R + 1) < 2 * R * (crs p q u w * dir)) : 0 < crs p q (Qc1 u R (sq2 u w)) (Qc1 w R (sq2 u w)) * dir := by
 have hp := sq2_pos h0
 have b1 := Qlo hu
 have b2 := Qlo hw
 have hn : sq2 u w <= 20000000000000000 := by unfold sq2; omega
 obtain ⟨q1, q2⟩ := sq2_sq u w
 have e1 := near_err hu ⟨by omega, hR.2⟩ ⟨hp, hn⟩ q1 hS
 have e2 := near_err hw ⟨by omega, hR.2⟩ ⟨hp, hn⟩ q2 hS
 generalize Qc1 u R (sq2 u w) = a at *
 generalize Qc1 w R (sq2 u w) = b at *
 have hE : 0 <= S + 2 * R + 1 := by omega
 generalize S + 2 * R + 1 = E at *
 have m1 := mul_ge (x := p) (y := (2 * b * S - 2 * (w * R)) * dir) (E := E) (by rcases hd with rfl | rfl <;> omega)
 have m2 := mul_ge (x := -q) (y := (2 * a * S - 2 * (u * R)) * dir) (E := E) (by rcases hd with rfl | rfl <;> omega)
 have e3 : ((-q).natAbs : Int) = q.natAbs := by omega
 rw [e3] at m2
 have key : 2 * S * (crs p q a b * dir) = 2 * R * (crs p q u w * dir) + p * ((2 * b * S - 2 * (w * R)) * dir) + -q * ((2 * a * S - 2 * (u * R)) * dir) := by unfold crs; grind
 have hpos : 0 < 2 * S * (crs p q a b * dir) := by
  rw [Int.add_mul] at h
  omega
 by_cases c : 0 < crs p q a b * dir
 ·exact c
 ·have : 2 * S * (crs p q a b * dir) <= 0 := Int.mul_nonpos_of_nonneg_of_nonpos (by omega) (by omega)
  omega
theorem root_ex {n : Int} (h : 0 <= n /\ n <= 4000000000000000000) : ∃ S : Int, 0 <= S /\ S * S <= n /\ n < (S + 1) * (S + 1) := by
 obtain ⟨m, rfl⟩ := Int.eq_ofNat_of_zero_le h.1
 obtain ⟨r, -, h2, h3, -⟩ := Qjo (n := m) (by omega)
 refine ⟨r, by omega, ?_, ?_⟩
 ·rw [<- Int.natCast_mul]; omega
 ·have : ((r : Int) + 1) * ((r : Int) + 1) = (((r + 1) * (r + 1) : Nat) : Int) := by simp
  rw [this]; omega
theorem pos_poly (t : Int) (ht : 0 <= t) : ((2 * (t + 128) + 33) * 35) * ((2 * (t + 128) + 33) * 35) + 324 * ((t + 128) * (t + 128)) < (32 * (t + 128) - 63) * (2 * ((t + 127) * (t + 127))) := by
 have h2 : 0 <= t * t := Int.mul_nonneg ht ht
 have h3 : 0 <= t * t * t := Int.mul_nonneg h2 ht
 have e1 : ((2 * (t + 128) + 33) * 35) * ((2 * (t + 128) + 33) * 35) = 4900 * (t * t) + 1416100 * t + 102313225 := by grind
 have e2 : 324 * ((t + 128) * (t + 128)) = 324 * (t * t) + 82944 * t + 5308416 := by grind
 have e3 : (32 * (t + 128) - 63) * (2 * ((t + 127) * (t + 127))) = 64 * (t * t * t) + 24322 * (t * t) + 3081020 * t + 130096514 := by grind
 omega
theorem cut_sine {A B D d X p : Int} (h1 : D = A + B - 2 * d) (h2 : X * X + d * d = A * B) (hd : 0 < d) (hp : 128 <= p) (hA : (p - 1) * (p - 1) <= A) (hB : (p - 1) * (p - 1) <= B) (hD : 32 * p - 64 < D)
  (hAB : -((2 * p + 33) * 35) <= A - B /\ A - B <= (2 * p + 33) * 35) (hX : 0 < X) : 9 * p < X := by
 have e1 : 4 * (X * X) = 2 * (D * (A + B)) - D * D - (A - B) * (A - B) := by
  have : X * X = A * B - d * d := by omega
  rw [this, h1]; grind
 have k1 : D * D <= D * (A + B) := Int.mul_le_mul_of_nonneg_left (by omega) (by omega)
 have k2 : (A - B) * (A - B) <= ((2 * p + 33) * 35) * ((2 * p + 33) * 35) := by
  have : (A - B).natAbs <= ((2 * p + 33) * 35).natAbs := by omega
  have h := Nat.mul_le_mul this this
  have a1 : ((A - B).natAbs : Int) * (A - B).natAbs = (A - B) * (A - B) := Int.natAbs_mul_self
  have a2 : (((2 * p + 33) * 35).natAbs : Int) * ((2 * p + 33) * 35).natAbs = ((2 * p + 33) * 35) * ((2 * p + 33) * 35) := Int.natAbs_mul_self
  rw [<- a1, <- a2, <- Int.natCast_mul, <- Int.natCast_mul]
  omega
 have n0 := Qe3 (p - 1)
 have k3 : (32 * p - 63) * (2 * ((p - 1) * (p - 1))) <= D * (A + B) := Int.mul_le_mul (by omega) (by omega) (by omega) (by omega)
 have k4 := pos_poly (p - 128) (by omega)
 rw [show p - 128 + 128 = p by omega, show p - 128 + 127 = p - 1 by omega] at k4
 refine lt_of_sq (by omega) ?_
 have e2 : 9 * p * (9 * p) = 81 * (p * p) := by grind
 rw [e2]
 omega
end Go.Bm
/- the middle of a piece of an arc lies between its ends: spokes -/
set_option maxRecDepth 100000
namespace Go.Bm
open Classical

theorem sp_mid {x y : Spk} (hx : Sp x) (hy : Sp y) {u w : Int} (hu : u.natAbs <= 100000000) (hw : w.natAbs <= 100000000) (h0 : ¬ (u = 0 /\ w = 0)) : Sp (midOf x y u w) /\ midOf x y u w = ⟨Qc1 u (hf x.r y.r) (sq2 u w), Qc1 w (hf x.r y.r) (sq2 u w), hf x.r y.r, hf x.h y.h⟩ := by
 have hok := midOf_ok hx.ok hy.ok hu hw
 have e : midOf x y u w = ⟨Qc1 u (hf x.r y.r) (sq2 u w), Qc1 w (hf x.r y.r) (sq2 u w), hf x.r y.r, hf x.h y.h⟩ := if_neg h0
 have hr : 128 <= hf x.r y.r /\ hf x.r y.r <= 50000000 := by
  have := hx.r; have := hy.r; have := hx.ok.2.2.1; have := hy.ok.2.2.1
  unfold hf; omega
 rw [e] at hok ⊢
 exact ⟨⟨hok, hr.1, near_norm hu hw (R := hf x.r y.r) ⟨by omega, hr.2⟩ h0⟩, rfl⟩
theorem poly_a {p : Int} (hp : 128 <= p) : (4 * p) * (7 * p) < 2 * p * ((p - 1) * (p - 1)) := by
 have h1 : 0 < p * (p * p - 16 * p + 1) := by
  refine Int.mul_pos (by omega) ?_
  have : 128 * p <= p * p := Int.mul_le_mul_of_nonneg_right hp (by omega)
  omega
 have e1 : 2 * p * ((p - 1) * (p - 1)) - (4 * p) * (7 * p) = 2 * (p * (p * p - 16 * p + 1)) := by grind
 omega
theorem sq_add_le {x y p c A B : Int} (hA : A <= (x + 1) * (x + 1)) (hB : B <= (y + 1) * (y + 1)) (hx : 0 <= x /\ x + 1 <= p + c) (hy : 0 <= y /\ y + 1 <= p + c) : 2 * (A + B) <= (2 * (p + c)) * (2 * (p + c)) := by
 have h1 : (x + 1) * (x + 1) <= (p + c) * (p + c) := Int.mul_self_le_mul_self (by omega) hx.2
 have h2 : (y + 1) * (y + 1) <= (p + c) * (p + c) := Int.mul_self_le_mul_self (by omega) hy.2
 have e : (2 * (p + c)) * (2 * (p + c)) = 4 * ((p + c) * (p + c)) := by grind
 omega
theorem diff_le {x y p A B : Int} (hA : A <= (x + 1) * (x + 1)) (hB : (y - 1) * (y - 1) <= B) (h1 : x + y <= 2 * p + 33) (h0 : 0 <= x + y) (h2 : x - y <= 33) : A - B <= (2 * p + 33) * 35 := by
 have e : (x + 1) * (x + 1) - (y - 1) * (y - 1) = (x + y) * (x - y + 2) := by grind
 have k1 : (x + y) * (x - y + 2) <= (x + y) * 35 := Int.mul_le_mul_of_nonneg_left (by omega) h0
 omega
theorem mn_cases (a b : Int) : (mn a b = a /\ a <= b) \/ (mn a b = b /\ b <= a) := by unfold mn; split <;> omega
theorem est_a {p R S n C : Int} (hp : 128 <= p) (hR : p <= R /\ R <= p + 64) (hS : 0 <= S /\ S <= 2 * (p + 65)) (hn : 0 <= n /\ n <= 2 * (p + 65)) (hC : (p - 1) * (p - 1) <= C) : n * (S + 2 * R + 1) < 2 * R * C := by
 have k : n * (S + 2 * R + 1) <= (4 * p) * (7 * p) := Int.mul_le_mul (by omega) (by omega) (by omega) (by omega)
 have k2 : 2 * p * ((p - 1) * (p - 1)) <= 2 * R * C := Int.mul_le_mul (by omega) hC (Qe3 _) (by omega)
 have := poly_a hp
 omega
theorem est_b {p R S n C : Int} (hp : 128 <= p) (hR : p <= R /\ R <= p + 33) (hS : 0 <= S /\ S <= 2 * (p + 34)) (hn : 0 <= n /\ n <= 2 * (p + 34)) (hC : 9 * p < C) : n * (S + 2 * R + 1) < 2 * R * C := by
 have k : n * (S + 2 * R + 1) <= (3 * p) * (6 * p) := Int.mul_le_mul (by omega) (by omega) (by omega) (by omega)
 have k2 : 2 * p * (9 * p + 1) <= 2 * R * C := Int.mul_le_mul (by omega) (by omega) (by omega) (by omega)
 have e1 : 2 * p * (9 * p + 1) = (3 * p) * (6 * p) + 2 * p := by grind
 omega
theorem comp_sum {u w M : Int} (hM : 0 <= M) (h : sq2 u w <= M * M) : 0 <= (u.natAbs : Int) + w.natAbs /\ (u.natAbs : Int) + w.natAbs <= 2 * M := by
 have := comp_le hM h
 omega
structure Rad (x y : Spk) (c p : Int) : Prop where
 m : mn x.r y.r = p /\ 128 <= p
 R : p <= hf x.r y.r /\ hf x.r y.r <= p + c
 R5 : 1 <= hf x.r y.r /\ hf x.r y.r <= 50000000
 A : (p - 1) * (p - 1) <= sq2 x.u x.w /\ (p - 1) * (p - 1) <= sq2 y.u y.w
 S : 2 * (sq2 x.u x.w + sq2 y.u y.w) <= (2 * (p + (c + 1))) * (2 * (p + (c + 1)))
 cx : 0 <= (x.u.natAbs : Int) + x.w.natAbs /\ (x.u.natAbs : Int) + x.w.natAbs <= 2 * (p + (c + 1))
 cy : 0 <= (y.u.natAbs : Int) + y.w.natAbs /\ (y.u.natAbs : Int) + y.w.natAbs <= 2 * (p + (c + 1))
 d : x.r + y.r <= 2 * p + c /\ 0 <= x.r + y.r /\ x.r - y.r <= c /\ y.r - x.r <= c
theorem radii {x y : Spk} (hx : Sp x) (hy : Sp y) {c : Int} (h : ((x.r - y.r).natAbs : Int) <= c) : Rad x y c (mn x.r y.r) := by
 obtain ⟨nx1, nx2⟩ := hx.norm
 obtain ⟨ny1, ny2⟩ := hy.norm
 have hrx := hx.r
 have hry := hy.r
 have ux := hx.ok.2.2.1
 have uy := hy.ok.2.2.1
 have hpm := mn_cases x.r y.r
 generalize hp : mn x.r y.r = p at *
 have k1 := comp_sum (M := x.r + 1) (by omega) nx2
 have k2 := comp_sum (M := y.r + 1) (by omega) ny2
 have k3 := sq_add_le (p := p) (c := c + 1) nx2 ny2 (by omega) (by omega)
 have k4 : (p - 1) * (p - 1) <= sq2 x.u x.w := Int.le_trans (Int.mul_self_le_mul_self (by omega) (by omega)) nx1
 have k5 : (p - 1) * (p - 1) <= sq2 y.u y.w := Int.le_trans (Int.mul_self_le_mul_self (by omega) (by omega)) ny1
 refine ⟨⟨hp, by omega⟩, ?_, ?_, ⟨k4, k5⟩, k3, ⟨k1.1, by omega⟩, ⟨k2.1, by omega⟩, by omega⟩
 ·unfold hf; omega
 ·unfold hf; omega
theorem eq_D (x y : Spk) : sq2 (x.u - y.u) (x.w - y.w) = sq2 x.u x.w + sq2 y.u y.w - 2 * dt2 x.u x.w y.u y.w := by unfold sq2 dt2; grind
theorem eq_S (x y : Spk) : sq2 (x.u + y.u) (x.w + y.w) = sq2 x.u x.w + sq2 y.u y.w + 2 * dt2 x.u x.w y.u y.w := by unfold sq2 dt2; grind
theorem eq_L (x y : Spk) {dir : Int} (hd : dir * dir = 1) : (crs x.u x.w y.u y.w * dir) * (crs x.u x.w y.u y.w * dir) + dt2 x.u x.w y.u y.w * dt2 x.u x.w y.u y.w = sq2 x.u x.w * sq2 y.u y.w := by
 have : (crs x.u x.w y.u y.w * dir) * (crs x.u x.w y.u y.w * dir) = crs x.u x.w y.u y.w * crs x.u x.w y.u y.w * (dir * dir) := by grind
 rw [this, hd]; unfold sq2 dt2 crs; grind
theorem sq2_ge0 (u w : Int) : 0 <= sq2 u w := by have := Qe3 u; have := Qe3 w; unfold sq2; omega
theorem dir_sq {dir : Int} (hd : dir = 1 \/ dir = -1) : dir * dir = 1 := by rcases hd with rfl | rfl <;> rfl
theorem root_bd {u w : Int} (hu : u.natAbs <= 100000000) (hw : w.natAbs <= 100000000) : ∃ S : Int, 0 <= S /\ S * S <= sq2 u w /\ sq2 u w < (S + 1) * (S + 1) := by
 have q1 := Qlo hu
 have q2 := Qlo hw
 exact root_ex ⟨sq2_ge0 _ _, by unfold sq2; omega⟩
theorem crs_dir (a b c d dir : Int) : crs a b c d * dir = crs c d a b * -dir := by unfold crs; grind
theorem bd_a {x y : Spk} (hx : okS x) (hy : okS y) {dir : Int} (hd : dir = 1 \/ dir = -1) : (dir * (y.w - x.w)).natAbs <= 100000000 /\ (dir * (x.u - y.u)).natAbs <= 100000000 := by
 have := hx.1; have := hx.2.1; have := hy.1; have := hy.2.1
 rcases hd with rfl | rfl <;> omega
theorem bd_b {x y : Spk} (hx : okS x) (hy : okS y) : (x.u + y.u).natAbs <= 100000000 /\ (x.w + y.w).natAbs <= 100000000 := by
 have := hx.1; have := hx.2.1; have := hy.1; have := hy.2.1
 omega
abbrev midOK (x y : Spk) (dir : Int) (m : Spk) : Prop := Sp m /\ m.r = hf x.r y.r /\ m.h = hf x.h y.h /\ 0 < crs x.u x.w m.u m.w * dir /\ 0 < crs m.u m.w y.u y.w * dir
theorem mid_core {x y : Spk} {dir u w S C C2 : Int} (hd : dir = 1 \/ dir = -1) (hx : Sp x) (hy : Sp y) (hu : u.natAbs <= 100000000) (hw : w.natAbs <= 100000000) (hR5 : 1 <= hf x.r y.r /\ hf x.r y.r <= 50000000) (h0 : ¬ (u = 0 /\ w = 0)) (hS : 0 <= S /\ S * S <= sq2 u w /\ sq2 u w < (S + 1) * (S + 1))
  (eC : crs x.u x.w u w * dir = C) (eC2 : crs y.u y.w u w * -dir = C2) (h1 : ((x.u.natAbs : Int) + x.w.natAbs) * (S + 2 * hf x.r y.r + 1) < 2 * hf x.r y.r * C) (h2 : ((y.u.natAbs : Int) + y.w.natAbs) * (S + 2 * hf x.r y.r + 1) < 2 * hf x.r y.r * C2) : midOK x y dir (midOf x y u w) := by
 obtain ⟨s1, s2⟩ := sp_mid hx hy hu hw h0
 have t1 := side (p := x.u) (q := x.w) hd hu hw hR5 h0 hS (by rw [eC]; exact h1)
 have t2 := side (p := y.u) (q := y.w) (dir := -dir) (by omega) hu hw hR5 h0 hS (by rw [eC2]; exact h2)
 refine ⟨s1, by rw [s2], by rw [s2], by rw [s2]; exact t1, ?_⟩
 rw [s2, crs_dir]
 exact t2
theorem mid_across {x y : Spk} {dir : Int} (hd : dir = 1 \/ dir = -1) (hx : Sp x) (hy : Sp y) (h64 : ((x.r - y.r).natAbs : Int) <= 64) (h : dt2 x.u x.w y.u y.w <= 0) : midOK x y dir (midS x y dir false) := by
 have hr := radii hx hy h64
 have hdd := dir_sq hd
 have eM : midD x y dir false = (dir * (y.w - x.w), dir * (x.u - y.u)) := by
  unfold midD
  rw [if_neg (by simp), if_neg (fun g => absurd h (Int.not_le.2 g.1)), if_neg (fun g => absurd h (Int.not_le.2 g))]
 unfold midS
 rw [eM]
 simp only
 have eN : sq2 (dir * (y.w - x.w)) (dir * (x.u - y.u)) = sq2 (x.u - y.u) (x.w - y.w) := by
  have : sq2 (dir * (y.w - x.w)) (dir * (x.u - y.u)) = dir * dir * sq2 (x.u - y.u) (x.w - y.w) := by unfold sq2; grind
  rw [this, hdd, Int.one_mul]
 have eC : crs x.u x.w (dir * (y.w - x.w)) (dir * (x.u - y.u)) * dir = sq2 x.u x.w - dt2 x.u x.w y.u y.w := by
  have : crs x.u x.w (dir * (y.w - x.w)) (dir * (x.u - y.u)) * dir = dir * dir * (sq2 x.u x.w - dt2 x.u x.w y.u y.w) := by unfold crs sq2 dt2; grind
  rw [this, hdd, Int.one_mul]
 have eC2 : crs y.u y.w (dir * (y.w - x.w)) (dir * (x.u - y.u)) * -dir = sq2 y.u y.w - dt2 x.u x.w y.u y.w := by
  have : crs y.u y.w (dir * (y.w - x.w)) (dir * (x.u - y.u)) * -dir = dir * dir * (sq2 y.u y.w - dt2 x.u x.w y.u y.w) := by unfold crs sq2 dt2; grind
  rw [this, hdd, Int.one_mul]
 obtain ⟨hu, hw⟩ := bd_a hx.ok hy.ok hd
 have nS := sq2_ge0 (x.u + y.u) (x.w + y.w)
 rw [eq_S] at nS
 rw [eq_D] at eN
 have hA := hr.A
 have hp := hr.m.2
 have hR := hr.R
 have hsum : 2 * (sq2 x.u x.w + sq2 y.u y.w) <= (2 * (mn x.r y.r + 65)) * (2 * (mn x.r y.r + 65)) := hr.S
 have hcx := hr.cx
 have hcy := hr.cy
 have hR5 := hr.R5
 clear hr h64 hdd
 generalize mn x.r y.r = p at *
 have h0 : ¬ (dir * (y.w - x.w) = 0 /\ dir * (x.u - y.u) = 0) := by
  rintro ⟨g1, g2⟩
  rw [g1, g2] at eC
  have e0 : crs x.u x.w 0 0 * dir = 0 := by unfold crs; simp
  rw [e0] at eC
  have : 0 < (p - 1) * (p - 1) := Int.mul_pos (by omega) (by omega)
  omega
 obtain ⟨S, r1, r2, r3⟩ := root_bd hu hw
 have hS : S <= 2 * (p + 65) := Qgp (by omega) (by omega)
 exact mid_core hd hx hy hu hw hR5 h0 ⟨r1, r2, r3⟩ eC eC2 (est_a hp hR ⟨r1, hS⟩ hcx (by omega)) (est_a hp hR ⟨r1, hS⟩ hcy (by omega))
theorem mid_along {x y : Spk} {dir : Int} (hd : dir = 1 \/ dir = -1) (hx : Sp x) (hy : Sp y) (h1 : 0 < dt2 x.u x.w y.u y.w) (h2 : 0 < crs x.u x.w y.u y.w * dir) (h3 : ((x.r - y.r).natAbs : Int) <= 33) (h4 : 32 * mn x.r y.r - 64 < sq2 (x.u - y.u) (x.w - y.w)) : midOK x y dir (midS x y dir false) := by
 have hr := radii hx hy h3
 have hdd := dir_sq hd
 have eM : midD x y dir false = (x.u + y.u, x.w + y.w) := by
  unfold midD
  rw [if_neg (by simp), if_pos ⟨h1, h2⟩]
 unfold midS
 rw [eM]
 simp only
 have eC : crs x.u x.w (x.u + y.u) (x.w + y.w) * dir = crs x.u x.w y.u y.w * dir := by unfold crs; grind
 have eC2 : crs y.u y.w (x.u + y.u) (x.w + y.w) * -dir = crs x.u x.w y.u y.w * dir := by unfold crs; grind
 obtain ⟨hu, hw⟩ := bd_b hx.ok hy.ok
 have nx := hx.norm
 have ny := hy.norm
 have hdl := hr.d
 have d1 := diff_le (p := mn x.r y.r) nx.2 ny.1 hdl.1 hdl.2.1 hdl.2.2.1
 have d2 := diff_le (p := mn x.r y.r) ny.2 nx.1 (by rw [Int.add_comm]; exact hdl.1) (by rw [Int.add_comm]; exact hdl.2.1) hdl.2.2.2
 have hsin := cut_sine (p := mn x.r y.r) (eq_D x y) (eq_L x y hdd) h1 hr.m.2 hr.A.1 hr.A.2 h4 ⟨by omega, d1⟩ h2
 have nD := sq2_ge0 (x.u - y.u) (x.w - y.w)
 have eS := eq_S x y
 rw [eq_D] at nD
 have hp := hr.m.2
 have hR := hr.R
 have hsum : 2 * (sq2 x.u x.w + sq2 y.u y.w) <= (2 * (mn x.r y.r + 34)) * (2 * (mn x.r y.r + 34)) := hr.S
 have hcx := hr.cx
 have hcy := hr.cy
 have hR5 := hr.R5
 clear hr h3 hdd d1 d2 nx ny hdl h4
 generalize mn x.r y.r = p at *
 have h0 : ¬ (x.u + y.u = 0 /\ x.w + y.w = 0) := by
  rintro ⟨g1, g2⟩
  rw [g1, g2] at eC
  have e0 : crs x.u x.w 0 0 * dir = 0 := by unfold crs; simp
  rw [e0] at eC
  omega
 obtain ⟨S, r1, r2, r3⟩ := root_bd hu hw
 have hS : S <= 2 * (p + 34) := Qgp (by omega) (by omega)
 exact mid_core hd hx hy hu hw hR5 h0 ⟨r1, r2, r3⟩ eC eC2 (est_b hp hR ⟨r1, hS⟩ hcx hsin) (est_b hp hR ⟨r1, hS⟩ hcy hsin)
end Go.Bm
/- what the maker makes can be drawn -/
set_option maxRecDepth 100000
namespace Go.Bm

theorem rot_cases (r k : Int) : (rotU r k = r /\ rotW r k = 0) \/ (rotU r k = 0 /\ rotW r k = r) \/ (rotU r k = -r /\ rotW r k = 0) \/ (rotU r k = 0 /\ rotW r k = -r) := by
 have hc : k % 4 = 0 \/ k % 4 = 1 \/ k % 4 = 2 \/ k % 4 = 3 := by omega
 unfold rotU rotW
 rcases hc with h | h | h | h <;> simp [h]
theorem rot_sq (r k : Int) : sq2 (rotU r k) (rotW r k) = r * r := by
 unfold sq2
 rcases rot_cases r k with ⟨h1, h2⟩ | ⟨h1, h2⟩ | ⟨h1, h2⟩ | ⟨h1, h2⟩ <;> rw [h1, h2] <;> grind
theorem rot_turn {p q k t : Int} (ht : t = 1 \/ t = 2 \/ t = 3) (hp : 0 < p) (hq : 0 < q) : crs (rotU p k) (rotW p k) (rotU q (k + t)) (rotW q (k + t)) ≠ 0 \/ dt2 (rotU p k) (rotW p k) (rotU q (k + t)) (rotW q (k + t)) < 0 := by
 have hc : k % 4 = 0 \/ k % 4 = 1 \/ k % 4 = 2 \/ k % 4 = 3 := by omega
 have hpq : 0 < p * q := Int.mul_pos hp hq
 have hm : -p * q = -(p * q) /\ p * -q = -(p * q) /\ -p * -q = p * q := ⟨Int.neg_mul .., Int.mul_neg .., Int.neg_mul_neg ..⟩
 have e : ∀ j : Int, (k + t) % 4 = j -> ∀ i : Int, k % 4 = i -> crs (rotU p k) (rotW p k) (rotU q (k + t)) (rotW q (k + t)) = (if i = 0 then p else if i = 2 then -p else 0) * (if j = 1 then q else if j = 3 then -q else 0) - (if i = 1 then p else if i = 3 then -p else 0) * (if j = 0 then q else if j = 2 then -q else 0) /\
   dt2 (rotU p k) (rotW p k) (rotU q (k + t)) (rotW q (k + t)) = (if i = 0 then p else if i = 2 then -p else 0) * (if j = 0 then q else if j = 2 then -q else 0) + (if i = 1 then p else if i = 3 then -p else 0) * (if j = 1 then q else if j = 3 then -q else 0) := by
  intro j hj i hi
  subst hj hi
  exact ⟨rfl, rfl⟩
 rcases ht with rfl | rfl | rfl <;> rcases hc with h1 | h1 | h1 | h1
 ·obtain ⟨e1, e2⟩ := e 1 (by omega) _ h1
  simp at e1 e2; omega
 ·obtain ⟨e1, e2⟩ := e 2 (by omega) _ h1
  simp at e1 e2; omega
 ·obtain ⟨e1, e2⟩ := e 3 (by omega) _ h1
  simp at e1 e2; omega
 ·obtain ⟨e1, e2⟩ := e 0 (by omega) _ h1
  simp at e1 e2; omega
 ·obtain ⟨e1, e2⟩ := e 2 (by omega) _ h1
  simp at e1 e2; omega
 ·obtain ⟨e1, e2⟩ := e 3 (by omega) _ h1
  simp at e1 e2; omega
 ·obtain ⟨e1, e2⟩ := e 0 (by omega) _ h1
  simp at e1 e2; omega
 ·obtain ⟨e1, e2⟩ := e 1 (by omega) _ h1
  simp at e1 e2; omega
 ·obtain ⟨e1, e2⟩ := e 3 (by omega) _ h1
  simp at e1 e2; omega
 ·obtain ⟨e1, e2⟩ := e 0 (by omega) _ h1
  simp at e1 e2; omega
 ·obtain ⟨e1, e2⟩ := e 1 (by omega) _ h1
  simp at e1 e2; omega
 ·obtain ⟨e1, e2⟩ := e 2 (by omega) _ h1
  simp at e1 e2; omega
theorem arc_turn {size : Int} {it : Itm} (h : ArcMade size it) : turnOK it := by
 obtain ⟨r, k, t, g, x, h1, h2, h3, h4, h5, h6, h7, h8, h9, h10, h11, h12, h13⟩ := h.ends
 have hp := h.plane
 have a1 : dU it it.fr = rotU r k := by unfold dU; rw [h12, (pl_sp hp).1]; omega
 have a2 : dW it it.fr = rotW r k := by unfold dW; rw [h12, (pl_sp hp).2.1]; omega
 have a3 : dU it it.to = rotU (r + g) (k + t) := by unfold dU; rw [h12, h13, (pl_sp hp).1, (pl_sp hp).1]; omega
 have a4 : dW it it.to = rotW (r + g) (k + t) := by unfold dW; rw [h12, h13, (pl_sp hp).2.1, (pl_sp hp).2.1]; omega
 have q1 : qA it = r * r := by unfold qA; rw [a1, a2, rot_sq]
 have q2 : qB it = (r + g) * (r + g) := by unfold qB; rw [a3, a4, rot_sq]
 have m1 : 64 <= r * r := by
  have := Int.mul_le_mul h1 h1 (by omega) (by omega)
  omega
 have m2 : 64 <= (r + g) * (r + g) := by
  have := Int.mul_le_mul (show (8 : Int) <= r + g by omega) (show (8 : Int) <= r + g by omega) (by omega) (by omega)
  omega
 unfold turnOK
 refine ⟨by omega, by omega, ?_, ?_, ?_⟩
 ·rw [q1, q2]
  unfold nearQ
  right
  have hg : g * g <= 16 := by
   have := Int.mul_le_mul h8 h8 h7 (by omega)
   omega
  have e1 : r * r + (r + g) * (r + g) - 16 = 2 * (r * (r + g)) + (g * g - 16) := by grind
  have hpos : 0 <= r * (r + g) := Int.mul_nonneg (by omega) (by omega)
  have hge : 64 <= r * (r + g) := by
   have := Int.mul_le_mul h1 (show (8 : Int) <= r + g by omega) (by omega) (by omega)
   omega
  have hgg : 0 <= g * g := Int.mul_nonneg h7 h7
  have e2 : 4 * (r * r) * ((r + g) * (r + g)) = (2 * (r * (r + g))) * (2 * (r * (r + g))) := by grind
  rw [e1, e2]
  generalize 2 * (r * (r + g)) = m at *
  exact Int.mul_self_le_mul_self (by omega) (by omega)
 ·intro hf
  rw [h11] at hf
  have ht := of_decide_eq_true hf
  rw [a1, a2, a3, a4, ht, h10 ht, Int.add_zero, Int.add_zero]
  exact ⟨rfl, rfl⟩
 ·intro hf
  rw [h11] at hf
  have ht := of_decide_eq_false hf
  unfold cAB dAB
  rw [a1, a2, a3, a4]
  exact rot_turn (by omega) (by omega) (by omega)
theorem made_valid {it : Itm} (h : Made it) (h1 : bd 1000000 it.fr) (h2 : bd 1000000 it.to) : Qfa it := by
 refine ⟨h.kind, Qau h1 (by omega), Qau h2 (by omega), fun h3 => ?_⟩
 have ha := h.arc h3
 exact ⟨ha.plane, ha.dir, Qau (arc_bd ha (by omega) h1).2 (by omega), arc_turn ha⟩

end Go.Bm
/- the programmed speed of a motion -/
set_option maxRecDepth 100000
namespace Go.Bm
def rate (t : Itm) (speed : Int) : Int := if t.kind = 1 then 0 else mx (near (mn (if t.perRev = true then t.feed * mx speed 1 else t.feed) 60000000 * 4096) 60000) 1
theorem feed_bd {f s : Int} (hf : 0 <= f /\ f <= 60000000) (hs : 0 <= s /\ s <= 30000) : 0 <= f * mx s 1 /\ f * mx s 1 <= 1800000000000 := by
 have h1 : 1 <= mx s 1 /\ mx s 1 <= 30000 := by unfold mx; split <;> omega
 generalize mx s 1 = m at *
 have h2 := Int.mul_le_mul hf.2 h1.2 (by omega) (by omega)
 have h3 := Int.mul_nonneg hf.1 (show 0 <= m by omega)
 omega
theorem mn_bd {x : Int} (h : 0 <= x) : 0 <= mn x 60000000 /\ mn x 60000000 <= 60000000 := by unfold mn; split <;> omega
theorem a_path_Rate {M : List AC -> Option (List AC)} {t : Itm} {speed : Int} (hf : 0 <= t.feed /\ t.feed <= 60000000) (hs : 0 <= speed /\ speed <= 30000)
  (hM : ∀ a : Int, 0 <= a /\ a <= 60000000 -> M [I a, I 4096, I 60000, I 2] = some [I (near (a * 4096) 60000), B true]) : mf_path_Rate M (itmR t ++ [I speed]) = some [I (rate t speed)] := by
 have h1 := feed_bd hf hs
 have h2 := hM _ (mn_bd h1.1)
 have h3 := hM _ (mn_bd hf.1)
 have h4 : IntKind.i64.wrap (t.feed * mx speed 1) = t.feed * mx speed 1 := Qab (by omega)
 simp only [itmR, List.cons_append, List.nil_append]
 rw [mf_path_Rate_eq, h4]
 simp only [go_sem, h2, h3]
 unfold rate
 by_cases g1 : t.kind = 1
 ·rw [if_pos g1, if_pos g1]
 ·rw [if_neg g1, if_neg g1]
  by_cases g2 : t.perRev = true
  ·rw [if_pos g2, if_pos g2]
  ·rw [if_neg g2, if_neg g2]
theorem s_path_Rate {t : Itm} {speed : Int} (hf : 0 <= t.feed /\ t.feed <= 60000000) (hs : 0 <= speed /\ speed <= 30000) : Qjs (itmR t ++ [I speed]) = some [I (rate t speed)] :=
 a_path_Rate hf hs fun a ha => s_wide_MulDiv (by unfold i64; omega) (by unfold i64; omega) (by omega) (by have : a.natAbs * (4096 : Int).natAbs <= 60000000 * 4096 := Nat.mul_le_mul (by omega) (by omega); omega)
end Go.Bm
/- the reference's points of a motion -/
set_option maxRecDepth 100000
namespace Go.Bm

def it0 : Itm := ⟨0, 0, ⟨0, 0, 0⟩, ⟨0, 0, 0⟩, 0, ⟨0, 0, 0⟩, 0, false, 0, false, 0, 0, 0, 0, 0, false⟩
def itA (items : List Itm) (i : Nat) : Itm := items.getD i it0
theorem itA_get {items : List Itm} {i : Nat} (h : i < items.length) : itA items i = items[i] := by unfold itA; simp [h]
theorem itA_mem {items : List Itm} {i : Nat} (h : i < items.length) : itA items i ∈ items := by rw [itA_get h]; exact List.getElem_mem h
theorem Qlu {items : List Itm} {i : Nat} (h : i < items.length) : nth [] (items.map itmR) i = itmR (itA items i) := by rw [itA_get h]; exact nth_map _ _ _ _ h
theorem drop_itA {items : List Itm} {i : Nat} (h : i < items.length) : items.drop i = itA items i :: items.drop (i + 1) := by rw [itA_get h]; exact Qfd _ _ h
def motI (it : Itm) : Prop := 1 <= it.kind /\ it.kind <= 6
def smI (it : Itm) : Prop := it.kind = 2 /\ it.fr ≠ it.to
def syI (it : Itm) : Prop := it.kind = 5 \/ it.kind = 6
instance (it : Itm) : Decidable (motI it) := by unfold motI; infer_instance
instance (it : Itm) : Decidable (smI it) := by unfold smI; infer_instance
instance (it : Itm) : Decidable (syI it) := by unfold syI; infer_instance
def Qba (it : Itm) : Pt := ⟨(it.fr.x + it.to.x) * 8, (it.fr.y + it.to.y) * 8, (it.fr.z + it.to.z) * 8⟩
theorem center_bd {it : Itm} (h1 : bd 1048576 it.fr) (h2 : bd 1048576 it.to) : bd B24 (Qba it) := by
 unfold bd B24 Qba at *
 simp only
 omega
def nextSm : List Itm -> Nat -> Int
 | [], _ => -1
 | it :: l, k => if it.kind = 10 then nextSm l (k + 1) else if smI it then k else -1
def Qiw (items : List Itm) (i : Nat) : Int := if smI (itA items i) /\ (itA items i).blend ≠ 0 then nextSm (items.drop (i + 1)) (i + 1) else -1
theorem nextSm_spec : ∀ (l : List Itm) (k : Nat), nextSm l k = -1 \/ ∃ j : Nat, nextSm l k = ((k + j : Nat) : Int) /\ ∃ h : j < l.length, smI l[j] /\ ∀ i (hi : i < l.length), i < j -> l[i].kind = 10
 | [], _ => .inl rfl
 | it :: l, k => by
  unfold nextSm
  split
  ·rename_i h10
   rcases nextSm_spec l (k + 1) with h | ⟨j, h1, h2, h3, h4⟩
   ·exact .inl h
   ·refine .inr ⟨j + 1, by rw [h1]; omega, by simp; omega, by simpa using h3, ?_⟩
    intro i hi hij
    cases i with
    | zero => simpa using h10
    | succ i => simpa using h4 i (by simpa using hi) (by omega)
  ·split
   ·rename_i hs
    exact .inr ⟨0, by simp, by simp, by simpa using hs, fun i _ hi => by omega⟩
   ·exact .inl rfl
theorem softK_spec (items : List Itm) (i : Nat) : Qiw items i = -1 \/ (smI (itA items i) /\ (itA items i).blend ≠ 0 /\ ∃ k : Nat, Qiw items i = k /\ i < k /\ k < items.length /\ smI (itA items k) /\ ∀ j, i < j -> j < k -> (itA items j).kind = 10) := by
 unfold Qiw
 split
 ·rename_i h
  rcases nextSm_spec (items.drop (i + 1)) (i + 1) with h1 | ⟨j, h1, h2, h3, h4⟩
  ·exact .inl h1
  ·have h5 : i + 1 + j < items.length := by rw [List.length_drop] at h2; omega
   refine .inr ⟨h.1, h.2, i + 1 + j, h1, by omega, h5, ?_, ?_⟩
   ·rw [itA_get h5]
    rw [List.getElem_drop] at h3
    exact h3
   ·intro m hm1 hm2
    have := h4 (m - (i + 1)) (by omega) (by omega)
    rw [List.getElem_drop] at this
    rw [itA_get (by omega)]
    have e : i + 1 + (m - (i + 1)) = m := by omega
    simp only [e] at this
    exact this
 ·exact .inl rfl
def otherK (it : Itm) : Int := if it.kind = 10 then 5 else if it.kind = 13 then 4 else 3
def nextSy : List Itm -> Int
 | [] => 2
 | it :: l => if motI it then (if syI it then 1 else 2) else nextSy l
def kindK (items : List Itm) (i : Nat) : Int := if (itA items i).kind = 4 then 6 else if (itA items i).blend = 0 then 1 else if syI (itA items i) then 1 else nextSy (items.drop (i + 1))
noncomputable def Qko (items : List Itm) (i k : Nat) : List Pt := Qg1 (Qba (itA items i)) (fine (itA items i).to) (Qba (itA items k)) ((itA items i).blend * 16)
def drawn (it : Itm) : Prop := Qfa it /\ 0 <= it.blend /\ it.blend <= 1000
theorem joined_bd {items : List Itm} {i k : Nat} (h1 : drawn (itA items i)) (h2 : drawn (itA items k)) : (∀ p ∈ Qko items i k, bd B24 p) /\ 1 <= (Qko items i k).length /\ (Qko items i k).length <= 65 :=
 corner_bd (center_bd h1.1.2.1 h1.1.2.2.1) (Qg6 h1.1.2.2.1) (center_bd h2.1.2.1 h2.1.2.2.1)
noncomputable def headP (items : List Itm) (i : Nat) (frm : Int) : List Pt := if 0 <= frm then (Qko items frm.toNat i).drop ((Qko items frm.toNat i).length / 2) else (Qdy (itA items i)).take 1
noncomputable def tailP (items : List Itm) (i : Nat) : List Pt := if 0 <= Qiw items i then (Qko items i (Qiw items i).toNat).take ((Qko items i (Qiw items i).toNat).length / 2 + 1) else (Qdy (itA items i)).drop 1
noncomputable def Qdg (items : List Itm) (i : Nat) (frm : Int) : List Pt := if smI (itA items i) then headP items i frm ++ [Qba (itA items i)] ++ tailP items i else Qdy (itA items i)
def frmOK (items : List Itm) (i : Nat) (frm : Int) : Prop := frm = -1 \/ ∃ f : Nat, frm = f /\ f < items.length /\ drawn (itA items f)
theorem head_bd {items : List Itm} {i : Nat} {frm : Int} (hd : drawn (itA items i)) (hf : frmOK items i frm) : (∀ p ∈ headP items i frm, bd 67108864 p) /\ (headP items i frm).length <= 65 := by
 unfold headP
 rcases hf with rfl | ⟨f, rfl, hf1, hf2⟩
 ·rw [if_neg (by omega)]
  exact ⟨fun p hp => chordsP_bd hd.1 p (List.mem_of_mem_take hp), by rw [List.length_take]; omega⟩
 ·rw [if_pos (by omega)]
  obtain ⟨h1, h2, h3⟩ := joined_bd (items := items) (i := (f : Int).toNat) (k := i) (by simpa using hf2) hd
  exact ⟨fun p hp => Qau (h1 p (List.mem_of_mem_drop hp)) (by decide), by rw [List.length_drop]; omega⟩
theorem soft_get {items : List Itm} {i : Nat} (hall : ∀ k < items.length, motI (itA items k) -> drawn (itA items k)) (hs : 0 <= Qiw items i) : ∃ k : Nat, Qiw items i = k /\ k < items.length /\ drawn (itA items k) := by
 rcases softK_spec items i with h | ⟨-, -, k, h1, -, h2, h3, -⟩
 ·omega
 ·exact ⟨k, h1, h2, hall k h2 ⟨by have := h3.1; omega, by have := h3.1; omega⟩⟩
theorem tail_bd {items : List Itm} {i : Nat} (hd : drawn (itA items i)) (h2 : (itA items i).kind ≠ 3) (hall : ∀ k < items.length, motI (itA items k) -> drawn (itA items k)) : (∀ p ∈ tailP items i, bd 67108864 p) /\ (tailP items i).length <= 66 := by
 unfold tailP
 by_cases h : 0 <= Qiw items i
 ·rw [if_pos h]
  obtain ⟨k, hk, hk1, hk2⟩ := soft_get hall h
  obtain ⟨h1, h2, h3⟩ := joined_bd (items := items) (i := i) (k := (Qiw items i).toNat) hd (by rw [hk]; simpa using hk2)
  exact ⟨fun p hp => Qau (h1 p (List.mem_of_mem_take hp)) (by decide), by rw [List.length_take]; omega⟩
 ·rw [if_neg h]
  refine ⟨fun p hp => chordsP_bd hd.1 p (List.mem_of_mem_drop hp), ?_⟩
  unfold Qdy
  rw [if_neg h2]
  simp
theorem points_bd {items : List Itm} {i : Nat} {frm : Int} (hd : drawn (itA items i)) (hf : frmOK items i frm) (hall : ∀ k < items.length, motI (itA items k) -> drawn (itA items k)) :
  (∀ p ∈ Qdg items i frm, bd 67108864 p) /\ (Qdg items i frm).length <= 65537 := by
 unfold Qdg
 by_cases hs : smI (itA items i)
 ·rw [if_pos hs]
  obtain ⟨h1, h2⟩ := head_bd hd hf
  obtain ⟨h3, h4⟩ := tail_bd hd (by have := hs.1; omega) hall
  refine ⟨fun p hp => ?_, by rw [List.length_append, List.length_append]; simp; omega⟩
  rcases List.mem_append.1 hp with hp | hp
  ·rcases List.mem_append.1 hp with hp | hp
   ·exact h1 p hp
   ·simp at hp; subst hp; exact Qau (center_bd hd.1.2.1 hd.1.2.2.1) (by decide)
  ·exact h3 p hp
 ·rw [if_neg hs]
  exact ⟨chordsP_bd hd.1, (chordsP_len _).2⟩
theorem map_drop1 (l : List Pt) : List.drop (Int.toNat 1) (l.map ptR) = (l.drop 1).map ptR := by rw [show Int.toNat 1 = 1 from rfl, List.map_drop]
theorem map_take1 (l : List Pt) : List.take (Int.toNat 1) (l.map ptR) = (l.take 1).map ptR := by rw [show Int.toNat 1 = 1 from rfl, List.map_take]
end Go.Bm
