/- laid together -/
import Derived.Test.YtdllaekpkcanbaaGreatPrD
import Derived.Test.YtdllaekpkcanbaaGreatMx5
import Derived.Test.YtdllaekpkcanbaaGreatPrA
set_option linter.unusedVariables false
set_option linter.unusedSimpArgs false
/- products divided and rounded: wide.MulDiv and the reference's Rounded -/
set_option maxRecDepth 100000
namespace Go.Bm

def near (a b : Int) : Int := (2 * a + b) / (2 * b)
theorem near_of {a b k : Int} (hb : 0 < b) (h1 : k * (2 * b) <= 2 * a + b) (h2 : 2 * a + b < (k + 1) * (2 * b)) : near a b = k := by
 unfold near
 have g1 : k <= (2 * a + b) / (2 * b) := (Int.le_ediv_iff_mul_le (by omega)).2 h1
 have g2 : (2 * a + b) / (2 * b) < k + 1 := (Int.ediv_lt_iff_lt_mul (by omega)).2 h2
 omega
theorem s_cncref24_Rounded {a b : Int} (hb : 0 < b /\ b <= 1152921504606846976) (ha : a.natAbs <= 2305843009213693952) : Qcg [I a, I b] = some [I (near a b)] := by
 unfold Qcg
 rw [mf_cncref24_Rounded_eq, Qab (x := 2 * a) (by omega), Qab (x := 2 * a + b) (by omega), Qab (x := 2 * b) (by omega)]
 have hm := Int.tmod_add_mul_tdiv (2 * a + b) (2 * b)
 have h1 := Int.tmod_lt_of_pos (2 * a + b) (show 0 < 2 * b by omega)
 have h2 := Int.lt_tmod_of_pos (2 * a + b) (show 0 < 2 * b by omega)
 have hq : ((2 * a + b).tdiv (2 * b)).natAbs <= (2 * a + b).natAbs := by rw [Int.natAbs_tdiv]; exact Nat.div_le_self _ _
 generalize hx : (2 * a + b).tdiv (2 * b) = q at *
 generalize (2 * a + b).tmod (2 * b) = r at *
 have e1 : 2 * b * q = q * (2 * b) := Int.mul_comm _ _
 rw [Qcs (by omega), Qcs (by omega), Qab (x := q) (by omega)]
 by_cases h : r < 0
 ·rw [Qgh h, Qab (by omega), near_of (k := q - 1) hb.1]
  ·rw [Int.sub_mul]; omega
  ·rw [Int.sub_add_cancel]; omega
 ·rw [Qcs h, near_of (k := q) hb.1]
  ·omega
  ·rw [Int.add_mul]; omega

theorem s_bits_Div64_0 {p c : Nat} (hp : p < w64) (hc : 0 < c) : Qf2 [U 0, U p, U c] = some [U ((p / c : Nat) : Int), U ((p % c : Nat) : Int)] := by
 rw [Qen] at hp
 have h1 : (p : Int).tdiv (c : Int) = ((p / c : Nat) : Int) := by rw [Int.tdiv_eq_ediv_of_nonneg (by omega)]; simp
 have h2 : (p : Int).tmod (c : Int) = ((p % c : Nat) : Int) := by rw [Int.tmod_eq_emod_of_nonneg (by omega)]; simp
 have h3 : p / c <= p := Nat.div_le_self _ _
 unfold Qf2
 generalize Qce = M
 generalize l_bits_Div64_17 = N1
 generalize l_bits_Div64_24 = N2
 rw [mf_bits_Div64_eq]
 rw [Qhy (by simp; omega), Qcs (by omega), Qiv (by simp), Qcs (by omega), Qcs (by omega), h1, h2]
 generalize p / c = q at *
 rw [Qd2 (by omega)]
theorem s_wide_grows2 (more : Int) (some_ neg : Bool) : Qhj [I 2, I more, B some_, B neg] = some [B (if more > 0 then true else if more = 0 then !neg else false)] := by
 unfold Qhj
 rw [mf_wide_grows_eq]
 simp only [go_sem]
 rw [if_neg (by omega), if_neg (by omega)]
 repeat' split
 all_goals rfl
theorem s_wide_signed_neg {n : Nat} (h : n <= 9223372036854775808) : Qdu [U n, B true] = some [I (-(n : Int)), B true] := by
 unfold Qdu
 rw [mf_wide_signed_eq]
 simp only [go_sem]
 rw [if_pos (by omega), uwrap_mod, wrap_def]
 have : ((0 - (n : Int)) % 18446744073709551616 + 9223372036854775808) % 18446744073709551616 - 9223372036854775808 = -(n : Int) := by omega
 rw [this]

def rndN (q r c : Nat) (neg : Bool) : Nat := if r > c - r then q + 1 else if r < c - r then q else if neg then q else q + 1
theorem a_wide_MulDiv {M1 M2 M3 M4 M5 M6 M7 : List AC -> Option (List AC)} {a b s : Int} {A C p q r c : Nat} (hc0 : 0 < c) (hc1 : c < 9223372036854775808) (hr : r < c) (hq : q < 9223372036854775807)
  (k1 : M7 [I 2] = some [B true]) (k2 : M6 [I a] = some [U A]) (k3 : M6 [I b] = some [U C]) (k4 : M6 [I c] = some [U c]) (k5 : M5 [U A, U C] = some [U 0, U p]) (k6 : M4 [U 0, U p, U c] = some [U q, U r]) (k7 : M3 [I a, I b] = some [I s])
  (k8 : ∀ (more : Int) (some_ neg : Bool), M2 [I 2, I more, B some_, B neg] = some [B (if more > 0 then true else if more = 0 then !neg else false)])
  (k9 : ∀ k : Nat, k < 9223372036854775808 -> M1 [U k, B false] = some [I k, B true]) (k10 : ∀ k : Nat, k < 9223372036854775808 -> M1 [U k, B true] = some [I (-(k : Int)), B true]) :
  mf_wide_MulDiv M1 M2 M3 M4 M5 M6 M7 [I a, I b, I c, I 2] = some [I (if s < 0 then -(rndN q r c true : Int) else (rndN q r c false : Int)), B true] := by
 have w1 : IntKind.u64.wrap ((c : Int) - (r : Int)) = ((c - r : Nat) : Int) := by rw [Qd2 (by omega)]; omega
 have w2 : IntKind.u64.wrap ((q : Int) + 1) = ((q + 1 : Nat) : Int) := by rw [Qd2 (by omega)]; omega
 have n1 := k9 q (by omega)
 have n2 := k9 (q + 1) (by omega)
 rw [mf_wide_MulDiv_eq]
 simp only [go_sem, k1, k2, k3, k4, k5, k6, k7, k8, w1, w2, n1, n2]
 rw [if_neg (by omega), if_neg (by simp), if_neg (by omega)]
 by_cases hs : s < 0
 ·rw [if_pos hs]
  rw [if_pos (show ¬(s < 0 ↔ (c : Int) < 0) by omega)]
  have hne : (s != 0) = true := by simp; omega
  rw [hne]
  unfold rndN
  by_cases g1 : r > c - r
  ·rw [if_pos g1]
   rw [if_pos (show (r : Int) > ((c - r : Nat) : Int) by omega), if_pos (by decide), if_neg (show ¬ ((q + 1 : Nat) : Int) = 0 by omega), k10 (q + 1) (by omega)]
   simp only [go_sem]
  ·rw [if_neg g1]
   rw [if_neg (show ¬ (r : Int) > ((c - r : Nat) : Int) by omega)]
   by_cases g2 : r < c - r
   ·rw [if_pos g2]
    rw [if_pos (show (r : Int) < ((c - r : Nat) : Int) by omega), if_neg (by decide), k10 q (by omega)]
    simp only [go_sem]
   ·rw [if_neg g2, if_pos rfl]
    rw [if_neg (show ¬ (r : Int) < ((c - r : Nat) : Int) by omega), if_neg (by decide), k10 q (by omega)]
    simp only [go_sem]
 ·rw [if_neg hs]
  rw [if_neg (show ¬¬(s < 0 ↔ (c : Int) < 0) by omega)]
  unfold rndN
  by_cases g1 : r > c - r
  ·rw [if_pos g1, if_pos (show (r : Int) > ((c - r : Nat) : Int) by omega), if_pos (by decide), if_neg (show ¬ ((q + 1 : Nat) : Int) = 0 by omega)]
  ·rw [if_neg g1, if_neg (show ¬ (r : Int) > ((c - r : Nat) : Int) by omega)]
   by_cases g2 : r < c - r
   ·rw [if_pos g2, if_pos (show (r : Int) < ((c - r : Nat) : Int) by omega), if_neg (by decide)]
   ·rw [if_neg g2, if_neg (show ¬ (r : Int) < ((c - r : Nat) : Int) by omega), if_pos (by decide), if_neg (show ¬ ((q + 1 : Nat) : Int) = 0 by omega), if_neg (by decide)]

theorem rndN_false (q r c : Nat) : rndN q r c false = if r < c - r then q else q + 1 := by
 unfold rndN
 by_cases h1 : r > c - r
 ·rw [if_pos h1, if_neg (by omega)]
 ·rw [if_neg h1]
  by_cases h2 : r < c - r
  ·rw [if_pos h2, if_pos h2]
  ·rw [if_neg h2, if_neg h2, if_neg (by simp)]
theorem rndN_true (q r c : Nat) : rndN q r c true = if r > c - r then q + 1 else q := by
 unfold rndN
 by_cases h1 : r > c - r
 ·rw [if_pos h1, if_pos h1]
 ·rw [if_neg h1, if_neg h1]
  by_cases h2 : r < c - r
  ·rw [if_pos h2]
  ·rw [if_neg h2, if_pos rfl]
theorem near_pos {p q r c : Nat} (hc : 0 < c) (h : p = c * q + r) (hr : r < c) : near p c = rndN q r c false := by
 have e : (p : Int) = (c : Int) * q + r := by rw [h]; simp
 have e3 : (q : Int) * (2 * c) = 2 * ((c : Int) * q) := by grind
 have e4 : ((q + 1 : Nat) : Int) * (2 * c) = 2 * ((c : Int) * q) + 2 * c := by grind
 have e5 : ((q : Int) + 1) * (2 * c) = 2 * ((c : Int) * q) + 2 * c := by grind
 have e6 : (((q + 1 : Nat) : Int) + 1) * (2 * c) = 2 * ((c : Int) * q) + 4 * c := by grind
 rw [rndN_false]
 by_cases g : r < c - r
 ·rw [if_pos g]
  exact near_of (by omega) (by rw [e3]; omega) (by rw [e5]; omega)
 ·rw [if_neg g]
  exact near_of (by omega) (by rw [e4]; omega) (by rw [e6]; omega)
theorem near_neg {p q r c : Nat} (hc : 0 < c) (h : p = c * q + r) (hr : r < c) : near (-(p : Int)) c = -(rndN q r c true : Int) := by
 have e : (p : Int) = (c : Int) * q + r := by rw [h]; simp
 have e3 : -(q : Int) * (2 * c) = -(2 * ((c : Int) * q)) := by grind
 have e4 : -((q + 1 : Nat) : Int) * (2 * c) = -(2 * ((c : Int) * q)) - 2 * c := by grind
 have e5 : (-(q : Int) + 1) * (2 * c) = -(2 * ((c : Int) * q)) + 2 * c := by grind
 have e6 : (-((q + 1 : Nat) : Int) + 1) * (2 * c) = -(2 * ((c : Int) * q)) := by grind
 rw [rndN_true]
 by_cases g : r > c - r
 ·rw [if_pos g]
  exact near_of (by omega) (by rw [e4]; omega) (by rw [e6]; omega)
 ·rw [if_neg g]
  exact near_of (by omega) (by rw [e3]; omega) (by rw [e5]; omega)
theorem s_wide_MulDiv {a b c : Int} (ha : i64 a) (hb : i64 b) (hc : 0 < c /\ c < 9223372036854775808) (hp : a.natAbs * b.natAbs < 9223372036854775807) : Qeq [I a, I b, I c, I 2] = some [I (near (a * b) c), B true] := by
 obtain ⟨hi, lo, e1, e2, e3⟩ := s_wide_product' (i64_abs ha) (i64_abs hb)
 have hm := sgn_mul a b
 have hs := sgn_cases a b
 have hz : a * b = 0 -> a.natAbs * b.natAbs = 0 := fun h => by rw [<- Int.natAbs_mul, h]; rfl
 generalize a.natAbs * b.natAbs = p at *
 have hhi : hi = 0 := by
  rcases Nat.eq_zero_or_pos hi with h | h
  ·exact h
  ·have := Nat.mul_le_mul_right w64 h
   have := Qen
   omega
 subst hhi
 have hlo : lo = p := by omega
 subst hlo
 obtain ⟨n, rfl⟩ := Int.eq_ofNat_of_zero_le (show 0 <= c by omega)
 have hn : 0 < n := by omega
 have h1 := Nat.div_add_mod lo n
 have h2 := Nat.mod_lt lo hn
 have h3 : lo / n <= lo := Nat.div_le_self _ _
 have hd := s_bits_Div64_0 e3 hn
 have hcs := s_wide_size (x := (n : Int)) (by unfold i64; omega)
 rw [Int.natAbs_natCast] at hcs
 generalize lo / n = q at *
 generalize lo % n = r at *
 have hmain := a_wide_MulDiv (M1 := Qdu) (M2 := Qhj) (M3 := Qf8) (M4 := Qf2) (M5 := Qcq) (M6 := Qga) (M7 := Qfe) hn (by omega) h2 (by omega)
  (s_wide_known (.inr (.inr rfl))) (s_wide_size ha) (s_wide_size hb) hcs e1 hd (s_wide_sign a b) s_wide_grows2 (fun k hk => s_wide_signed hk) (fun k hk => s_wide_signed_neg (by omega))
 have hv : (if sgn a b < 0 then -(rndN q r n true : Int) else (rndN q r n false : Int)) = near (a * b) n := by
  rcases hs with ⟨g1, g2⟩ | ⟨g1, g2⟩ | ⟨g1, g2⟩
  ·rw [if_neg (by omega), g2]
   rw [g1] at hm
   have : lo = 0 := hz g2
   rw [<- near_pos hn h1.symm h2, this]; rfl
  ·rw [if_neg (by omega), <- near_pos hn h1.symm h2, <- hm, g1, Int.one_mul]
  ·rw [if_pos (by omega), <- near_neg hn h1.symm h2, <- hm, g1, Int.neg_mul, Int.one_mul]
 rw [hv] at hmain
 exact hmain
end Go.Bm
/- layer 1's reference: numbers as lists of digits to the base 65536 -/
set_option maxRecDepth 100000
namespace Go.Bm

abbrev uR (n : Nat) : List AC := [U n]
abbrev kUs : List Kd := [kU]
def val : List Nat -> Nat
 | [] => 0
 | d :: l => d + 65536 * val l
def Dig (l : List Nat) : Prop := ∀ d ∈ l, d < 65536
def Cut (l : List Nat) : Prop := ∀ h : l ≠ [], l.getLast h ≠ 0

theorem and_low (v : Nat) (h : v < w64) : IntKind.u64.wrap (((BitVec.ofInt IntKind.u64.bits (v : Int) &&& BitVec.ofInt IntKind.u64.bits 65535).toNat : Nat) : Int) = ((v % 65536 : Nat) : Int) := by
 rw [Qen] at h
 have e : (BitVec.ofInt IntKind.u64.bits (v : Int) &&& BitVec.ofInt IntKind.u64.bits 65535).toNat = v % 65536 := by
  rw [BitVec.toNat_and]
  have e1 : (BitVec.ofInt IntKind.u64.bits (v : Int)).toNat = v := by
   simp only [IntKind.bits, BitVec.toNat_ofInt]
   omega
  have e2 : (BitVec.ofInt IntKind.u64.bits 65535).toNat = 2 ^ 16 - 1 := by
   simp only [IntKind.bits, BitVec.toNat_ofInt]
   rfl
  rw [e1, e2, Nat.and_two_pow_sub_one_eq_mod]
 rw [e, Qd2 (by omega)]
theorem shr16 (v : Nat) : (v : Int).fdiv (2 ^ min (Int.toNat 16) IntKind.u64.bits) = ((v / 65536 : Nat) : Int) := by
 have e : (2 ^ min (Int.toNat 16) IntKind.u64.bits : Int) = 65536 := rfl
 rw [e, Int.fdiv_eq_ediv_of_nonneg _ (by omega)]
 omega

def digs (n : Nat) : List Nat := if h : n = 0 then [] else n % 65536 :: digs (n / 65536)
termination_by n
decreasing_by omega
theorem digs_zero : digs 0 = [] := by unfold digs; simp
theorem digs_pos {n : Nat} (h : n ≠ 0) : digs n = n % 65536 :: digs (n / 65536) := by rw [digs, dif_neg h]
theorem digs_val (n : Nat) : val (digs n) = n := by
 induction n using Nat.strongRecOn with
 | _ n ih =>
  by_cases h : n = 0
  ·subst h; rw [digs_zero]; rfl
  ·rw [digs_pos h, val, ih _ (by omega)]; omega
theorem digs_dig (n : Nat) : Dig (digs n) := by
 induction n using Nat.strongRecOn with
 | _ n ih =>
  by_cases h : n = 0
  ·subst h; rw [digs_zero]; intro d hd; simp at hd
  ·rw [digs_pos h]
   intro d hd
   simp only [List.mem_cons] at hd
   rcases hd with rfl | hd
   ·omega
   ·exact ih _ (by omega) d hd
theorem digs_len (k : Nat) : ∀ n, n < 65536 ^ k -> (digs n).length <= k := by
 induction k with
 | zero => intro n h; simp at h; subst h; rw [digs_zero]; simp
 | succ k ih =>
  intro n h
  by_cases h0 : n = 0
  ·subst h0; rw [digs_zero]; simp
  ·rw [digs_pos h0]
   have := ih (n / 65536) (by rw [Nat.pow_succ] at h; exact Nat.div_lt_of_lt_mul (by rw [Nat.mul_comm]; exact h))
   simp; omega

theorem map_uR_append (l : List Nat) (d : Nat) : l.map uR ++ [[AC.int IntKind.u64 (d : Int)]] = (l ++ [d]).map uR := by simp

theorem l_limbs (n : Nat) : ∀ (acc : List Nat), n < w64 -> acc.length + (digs n).length <= 1000 -> Qiw [.view kUs (acc.map uR), U n] = some (1, [.view kUs ((acc ++ digs n).map uR)]) := by
 induction n using Nat.strongRecOn with
 | _ n ih =>
  intro acc hn hl
  unfold Qiw
  by_cases h : n = 0
  ·subst h
   rw [digs_zero, List.append_nil]
   refine Qbn ?_ (by simp)
   rw [st_cncref01_limbs_2_eq]
   simp
  ·rw [digs_pos h] at hl ⊢
   have hstep : st_cncref01_limbs_2 [.view kUs (acc.map uR), U n] = some (0, [.view kUs ((acc ++ [n % 65536]).map uR), U ((n / 65536 : Nat) : Int)]) := by
    rw [st_cncref01_limbs_2_eq, and_low n hn, shr16]
    simp only [go_sem]
    rw [if_pos (by omega), map_uR_append, if_pos (by simp at hl ⊢; omega)]
   rw [Qbk hstep]
   have := ih (n / 65536) (by omega) (acc ++ [n % 65536]) (by omega) (by simp at hl ⊢; omega)
   unfold Qiw at this
   rw [this, List.append_assoc]
   rfl
theorem w64_pow : w64 = 65536 ^ 4 := by rw [Qen]
theorem s_cncref01_limbs {n : Nat} (h : n < w64) : Qim [U n] = some [.view kUs ((digs n).map uR)] := by
 have hl := digs_len 4 n (by rw [<- w64_pow]; exact h)
 have := l_limbs n [] h (by simp; omega)
 unfold Qim
 rw [mf_cncref01_limbs_eq]
 simp only [List.map_nil, List.nil_append] at this
 rw [this]
 rfl

theorem val_append : ∀ (a b : List Nat), val (a ++ b) = val a + 65536 ^ a.length * val b
 | [], b => by simp [val]
 | d :: a, b => by
  simp only [List.cons_append, val, List.length_cons, Nat.pow_succ, val_append a b]
  rw [Nat.mul_add, Nat.mul_comm (65536 ^ a.length) 65536, Nat.mul_assoc]
  omega
theorem val_lt : ∀ {l : List Nat}, Dig l -> val l < 65536 ^ l.length
 | [], _ => by simp [val]
 | d :: l, h => by
  have h1 := h d (by simp)
  have h2 := val_lt (l := l) fun x hx => h x (by simp [hx])
  simp only [val, List.length_cons, Nat.pow_succ]
  omega
theorem val_ge : ∀ {l : List Nat}, Cut l -> (h : l ≠ []) -> 65536 ^ (l.length - 1) <= val l
 | [], _, h => absurd rfl h
 | [d], hc, _ => by have := hc (by simp); simp [val] at this ⊢; omega
 | d :: e :: l, hc, _ => by
  have := val_ge (l := e :: l) (fun h => by have := hc (by simp); rw [List.getLast_cons h] at this; exact this) (by simp)
  simp only [val, List.length_cons] at this ⊢
  simp only [Nat.add_sub_cancel] at this ⊢
  rw [Nat.pow_succ]
  omega
theorem Dig.sub {l m : List Nat} (h : Dig l) (hs : ∀ d ∈ m, d ∈ l) : Dig m := fun d hd => h d (hs d hd)

theorem l_cut : ∀ (n : Nat) (l : List Nat), l.length = n -> n <= 1000 -> Dig l -> ∃ c : List Nat, Qij [.view kUs (l.map uR)] = some (1, [.view kUs (c.map uR)]) /\ val c = val l /\ Dig c /\ Cut c /\ c.length <= l.length
 | 0, l, hl, _, hd => by
  have : l = [] := List.eq_nil_of_length_eq_zero hl
  subst this
  refine ⟨[], ?_, rfl, hd, fun h => absurd rfl h, Nat.le_refl _⟩
  unfold Qij
  refine Qbn ?_ (by simp)
  rw [st_cncref01_cut_1_eq]
  simp
 | n + 1, l, hl, hn, hd => by
  have hw : IntKind.i64.wrap ((l.map uR).length - 1 : Int) = (n : Int) := by rw [Qab (by simp; omega)]; simp; omega
  have hlast : nth [] (l.map uR) n = uR (l[n]'(by omega)) := nth_map uR [] l n (by omega)
  have hsplit : l = l.take n ++ [l[n]'(by omega)] := by
   have := List.take_append_drop n l
   rw [getElem_take_drop l n (by omega), List.drop_of_length_le (by omega)] at this
   exact this.symm
  have hstep : st_cncref01_cut_1 [.view kUs (l.map uR)] = if l[n]'(by omega) = 0 then some (0, [.view kUs ((l.take n).map uR)]) else some (1, [.view kUs (l.map uR)]) := by
   rw [st_cncref01_cut_1_eq, hw]
   simp only [Int.toNat_natCast, hlast]
   simp only [go_sem, List.map_take]
   rw [if_pos (by simp; omega), if_pos (by simp; omega)]
   by_cases h0 : l[n]'(by omega) = 0
   ·rw [if_pos (by omega), if_pos (by simp; omega), if_pos h0]
   ·rw [if_neg (by omega), if_neg h0]
  by_cases h0 : l[n]'(by omega) = 0
  ·rw [if_pos h0] at hstep
   obtain ⟨c, h1, h2, h3, h4, h5⟩ := l_cut n (l.take n) (by simp; omega) (by omega) (hd.sub fun d h => List.mem_of_mem_take h)
   refine ⟨c, ?_, ?_, h3, h4, by simp at h5; omega⟩
   ·unfold Qij at h1 ⊢
    rw [Qbk hstep]; exact h1
   ·rw [h2]
    conv => rhs; rw [hsplit, val_append, h0]
    simp [val]
  ·rw [if_neg h0] at hstep
   refine ⟨l, ?_, rfl, hd, fun hne => ?_, Nat.le_refl _⟩
   ·unfold Qij
    exact Qbn hstep (by simp)
   ·have : l.getLast hne = l[n]'(by omega) := by rw [List.getLast_eq_getElem]; congr 1; omega
    rw [this]; exact h0
theorem s_cncref01_cut {l : List Nat} (hl : l.length <= 1000) (hd : Dig l) : ∃ c : List Nat, Qhg [.view kUs (l.map uR)] = some [.view kUs (c.map uR)] /\ val c = val l /\ Dig c /\ Cut c /\ c.length <= l.length := by
 obtain ⟨c, h1, h2⟩ := l_cut _ l rfl hl hd
 refine ⟨c, ?_, h2⟩
 unfold Qhg
 rw [mf_cncref01_cut_eq, h1]
 rfl

theorem val_take_succ (l : List Nat) (k : Nat) (h : k < l.length) : val (l.take (k + 1)) = val (l.take k) + 65536 ^ k * l[k] := by
 rw [List.take_succ_eq_append_getElem h, val_append]
 simp [val, Nat.min_eq_left (Nat.le_of_lt h)]
theorem val_take_lt {l : List Nat} (hd : Dig l) (k : Nat) (h : k <= l.length) : val (l.take k) < 65536 ^ k := by
 have := val_lt (hd.sub (m := l.take k) fun d h => List.mem_of_mem_take h)
 simpa [Nat.min_eq_left h] using this
theorem lead_lt {p q a b P : Nat} (hp : p < P) (hab : a < b) : p + P * a < q + P * b := by
 have h1 : P * (a + 1) <= P * b := Nat.mul_le_mul_left P hab
 rw [Nat.mul_add] at h1
 omega
theorem l_cmp {a b : List Nat} (hab : a.length = b.length) (ha : Dig a) (hb : Dig b) (hl : a.length <= 1000) : ∀ k, k <= a.length ->
  l_cncref01_cmp_6 [.view kUs (a.map uR), .view kUs (b.map uR), I ((k : Int) - 1)] = if val (a.take k) = val (b.take k) then some (2, []) else some (1, [I (cmpN (val (a.take k)) (val (b.take k)))])
 | 0, _ => by
  unfold l_cncref01_cmp_6
  rw [if_pos (by simp)]
  refine Qbn ?_ (by simp)
  rw [st_cncref01_cmp_6_eq]
  simp only [go_sem]
  rw [if_neg (by omega)]
 | k + 1, hk => by
  have e1 : nth [] (a.map uR) k = uR (a[k]'(by omega)) := nth_map uR [] a k (by omega)
  have e2 : nth [] (b.map uR) k = uR (b[k]'(by omega)) := nth_map uR [] b k (by omega)
  have hstep : st_cncref01_cmp_6 [.view kUs (a.map uR), .view kUs (b.map uR), I (((k + 1 : Nat) : Int) - 1)] =
    if a[k]'(by omega) < b[k]'(by omega) then some (1, [I (-1)]) else if a[k]'(by omega) > b[k]'(by omega) then some (1, [I 1]) else some (0, [.view kUs (a.map uR), .view kUs (b.map uR), I ((k : Int) - 1)]) := by
   rw [show (((k + 1 : Nat) : Int) - 1) = (k : Int) by omega, st_cncref01_cmp_6_eq]
   simp only [Int.toNat_natCast, e1, e2]
   simp only [go_sem]
   rw [if_pos (by omega), if_pos (by simp; omega), if_pos (by simp; omega), Qab (by omega)]
   by_cases h1 : a[k]'(by omega) < b[k]'(by omega)
   ·rw [if_pos (by omega), if_pos h1]
   ·rw [if_neg (by omega), if_neg h1, if_pos (by simp; omega), if_pos (by simp; omega)]
    by_cases h2 : a[k]'(by omega) > b[k]'(by omega)
    ·rw [if_pos (by omega), if_pos h2]
    ·rw [if_neg (by omega), if_neg h2]
  have ih := l_cmp hab ha hb hl k (by omega)
  unfold l_cncref01_cmp_6 at ih ⊢
  rw [val_take_succ a k (by omega), val_take_succ b k (by omega)]
  have p1 := val_take_lt ha k (by omega)
  have p2 := val_take_lt hb k (by omega)
  by_cases h1 : a[k]'(by omega) < b[k]'(by omega)
  ·rw [if_pos h1] at hstep
   have := lead_lt (q := val (b.take k)) p1 h1
   rw [Qbn hstep (by simp), if_neg (by omega)]
   unfold cmpN
   rw [if_pos this]
  ·rw [if_neg h1] at hstep
   by_cases h2 : a[k]'(by omega) > b[k]'(by omega)
   ·rw [if_pos h2] at hstep
    have := lead_lt (q := val (a.take k)) p2 h2
    rw [Qbn hstep (by simp), if_neg (by omega)]
    unfold cmpN
    rw [if_neg (by omega), if_neg (by omega)]
   ·rw [if_neg h2] at hstep
    have h3 : a[k]'(by omega) = b[k]'(by omega) := by omega
    rw [Qbk hstep, ih, h3]
    by_cases h4 : val (a.take k) = val (b.take k)
    ·rw [if_pos h4, if_pos (by omega)]
    ·rw [if_neg h4, if_neg (by omega)]
     unfold cmpN
     by_cases h5 : val (a.take k) < val (b.take k)
     ·rw [if_pos h5, if_pos (by omega)]
     ·rw [if_neg h5, if_neg h4, if_neg (by omega), if_neg (by omega)]
theorem s_cncref01_cmp {a b : List Nat} (ha : Dig a) (hb : Dig b) (ca : Cut a) (cb : Cut b) (la : a.length <= 1000) :
  m_cncref01_cmp [.view kUs (a.map uR), .view kUs (b.map uR)] = some [I (cmpN (val a) (val b))] := by
 unfold m_cncref01_cmp
 rw [mf_cncref01_cmp_eq]
 by_cases hab : a.length = b.length
 ·have := l_cmp hab ha hb la a.length (Nat.le_refl _)
  rw [List.take_length, hab, List.take_length] at this
  have hw : IntKind.i64.wrap (((a.map uR).length : Int) - 1) = (b.length : Int) - 1 := by rw [Qab (by simp; omega)]; simp; omega
  rw [hw, this]
  simp only [go_sem]
  rw [if_neg (by simp; omega)]
  by_cases h : val a = val b
  ·rw [if_pos h]
   simp [cmpN, h]
  ·rw [if_neg h]
   simp only [go_sem, if_true]
 ·simp only [go_sem]
  rw [if_pos (by simp; omega)]
  have key : ∀ {a b : List Nat}, Dig a -> Cut b -> a.length < b.length -> val a < val b := by
   intro a b ha cb h
   have h1 := val_lt ha
   have h2 := val_ge cb (by intro e; subst e; simp at h)
   have h3 : 65536 ^ a.length <= 65536 ^ (b.length - 1) := Nat.pow_le_pow_right (by omega) (by omega)
   omega
  unfold cmpN
  by_cases h : a.length < b.length
  ·have := key ha cb h
   rw [if_pos (by simp; omega), if_pos this]
  ·have := key hb ca (by omega)
   rw [if_neg (by simp; omega), if_neg (by omega), if_neg (by omega)]
end Go.Bm
/- layer 1's reference: the product of numbers as lists of digits, and the comparison of products -/
set_option maxRecDepth 100000
namespace Go.Bm

theorem val_set : ∀ (l : List Nat) (j : Nat) (h : j < l.length) (d : Nat), val (l.set j d) + 65536 ^ j * l[j] = val l + 65536 ^ j * d
 | [], j, h, d => by simp at h
 | x :: l, 0, h, d => by simp [val]; omega
 | x :: l, j + 1, h, d => by
  have := val_set l j (by simpa using h) d
  simp only [List.set_cons_succ, val, List.getElem_cons_succ, Nat.pow_succ]
  have e : ∀ z, 65536 ^ j * 65536 * z = 65536 * (65536 ^ j * z) := fun z => by rw [Nat.mul_comm (65536 ^ j) 65536, Nat.mul_assoc]
  rw [e, e]
  omega
theorem Dig.set {l : List Nat} (h : Dig l) (j d : Nat) (hd : d < 65536) : Dig (l.set j d) := by
 intro x hx
 rcases List.mem_or_eq_of_mem_set hx with h' | rfl
 ·exact h x h'
 ·exact hd
theorem map_uR_set (l : List Nat) (j d : Nat) : (l.map uR).set j [AC.int IntKind.u64 (d : Int)] = (l.set j d).map uR := by rw [List.map_set]

theorem st_mul_in {M : List AC -> Option (List AC)} {out a b : List Nat} {i k c : Nat} (ho : Dig out) (ha : Dig a) (hb : Dig b) (hc : c < 65536) (hi : i < a.length) (hk : k < b.length) (hl : out.length = a.length + b.length) (hn : a.length + b.length <= 1000) :
  Qdl M [.view kUs (out.map uR), .view kUs (a.map uR), .view kUs (b.map uR), I i, U c, I k] =
   some (0, [.view kUs ((out.set (i + k) ((out[i + k]'(by omega) + a[i] * b[k] + c) % 65536)).map uR), .view kUs (a.map uR), .view kUs (b.map uR), I i, U (((out[i + k]'(by omega) + a[i] * b[k] + c) / 65536 : Nat) : Int), I ((k + 1 : Nat) : Int)]) := by
 have h1 := ho (out[i + k]'(by omega)) (List.getElem_mem _)
 have h2 := ha a[i] (List.getElem_mem _)
 have h3 := hb b[k] (List.getElem_mem _)
 have e1 : nth [] (out.map uR) (i + k) = uR (out[i + k]'(by omega)) := nth_map uR [] out _ (by omega)
 have e2 : nth [] (a.map uR) i = uR a[i] := nth_map uR [] a _ hi
 have e3 : nth [] (b.map uR) k = uR b[k] := nth_map uR [] b _ hk
 have h4 : a[i] * b[k] <= 65535 * 65535 := Nat.mul_le_mul (by omega) (by omega)
 have hw : IntKind.i64.wrap ((i : Int) + (k : Int)) = ((i + k : Nat) : Int) := by rw [Qab (by omega)]; omega
 have hv : IntKind.u64.wrap (IntKind.u64.wrap ((out[i + k]'(by omega) : Int) + IntKind.u64.wrap ((a[i] : Int) * (b[k] : Int))) + (c : Int)) = ((out[i + k]'(by omega) + a[i] * b[k] + c : Nat) : Int) := by
  have e : ((a[i] : Int) * (b[k] : Int)) = ((a[i] * b[k] : Nat) : Int) := by simp
  rw [e]
  generalize a[i] * b[k] = p at *
  rw [Qd2 (x := (p : Int)) (by omega), Qd2 (x := (out[i + k]'(by omega) : Int) + (p : Int)) (by omega), Qd2 (by omega)]
  omega
 rw [st_cncref01_mul_7_eq, hw]
 simp only [Int.toNat_natCast, e1, e2, e3]
 have ee : ∀ n : Nat, Qas (nth AC.dead (uR n) 0) = (n : Int) := fun n => rfl
 rw [ee, ee, ee, hv, and_low _ (by rw [Qen]; omega), shr16]
 simp only [go_sem]
 rw [if_pos (by simp; omega), if_pos (by simp; omega), if_pos (by simp; omega), if_pos (by simp; omega), if_pos (by simp; omega), Qab (by omega), map_uR_set]
 rfl

theorem l_mul_in {M : List AC -> Option (List AC)} {a b : List Nat} {i : Nat} (ha : Dig a) (hb : Dig b) (hi : i < a.length) (hn : a.length + b.length <= 1000) (P : Nat) : ∀ (m k : Nat) (out : List Nat) (c : Nat), m = b.length - k -> k <= b.length -> Dig out -> c < 65536 -> out.length = a.length + b.length ->
  (∀ j (h : j < out.length), i + b.length <= j -> out[j] = 0) -> val out + c * 65536 ^ (i + k) = P + a[i] * 65536 ^ i * val (b.take k) ->
  ∃ (out' : List Nat) (c' : Nat), Qbl (Qdl M) [.view kUs (out.map uR), .view kUs (a.map uR), .view kUs (b.map uR), I i, U c, I k] = some (1, [.view kUs (out'.map uR), .view kUs (a.map uR), .view kUs (b.map uR), I i, U c']) /\
   Dig out' /\ c' < 65536 /\ out'.length = a.length + b.length /\ (∀ j (h : j < out'.length), i + b.length <= j -> out'[j] = 0) /\ val out' + c' * 65536 ^ (i + b.length) = P + a[i] * 65536 ^ i * val b
 | 0, k, out, c, hm, hk, ho, hc, hl, hz, hv => by
  have hkb : k = b.length := by omega
  subst hkb
  rw [List.take_length] at hv
  refine ⟨out, c, ?_, ho, hc, hl, hz, hv⟩
  refine Qbn ?_ (by simp)
  rw [st_cncref01_mul_7_eq]
  simp only [go_sem]
  rw [if_neg (by simp)]
 | m + 1, k, out, c, hm, hk, ho, hc, hl, hz, hv => by
  have hkb : k < b.length := by omega
  rw [Qbk (st_mul_in ho ha hb hc hi hkb hl hn)]
  have h1 := ho (out[i + k]'(by omega)) (List.getElem_mem _)
  have h2 := ha a[i] (List.getElem_mem _)
  have h3 := hb b[k] (List.getElem_mem _)
  have h4 : a[i] * b[k] <= 65535 * 65535 := Nat.mul_le_mul (by omega) (by omega)
  refine l_mul_in ha hb hi hn P m (k + 1) _ _ (by omega) (by omega) (ho.set _ _ (Nat.mod_lt _ (by omega))) (by generalize a[i] * b[k] = p at *; omega) (by simpa using hl) ?_ ?_
  ·intro j hj hij
   rw [List.getElem_set_ne (by omega)]
   exact hz j (by simpa using hj) hij
  ·have hs := val_set out (i + k) (by omega) ((out[i + k]'(by omega) + a[i] * b[k] + c) % 65536)
   rw [val_take_succ b k hkb]
   have hdm := Nat.div_add_mod (out[i + k]'(by omega) + a[i] * b[k] + c) 65536
   generalize (out[i + k]'(by omega) + a[i] * b[k] + c) % 65536 = r at *
   generalize (out[i + k]'(by omega) + a[i] * b[k] + c) / 65536 = q at *
   generalize val (out.set (i + k) r) = V at *
   generalize out[i + k]'(by omega) = x at *
   have e1 : 65536 ^ (i + (k + 1)) = 65536 ^ (i + k) * 65536 := by rw [<- Nat.add_assoc, Nat.pow_succ]
   have e2 : a[i] * 65536 ^ i * (val (b.take k) + 65536 ^ k * b[k]) = a[i] * 65536 ^ i * val (b.take k) + 65536 ^ (i + k) * (a[i] * b[k]) := by
    rw [Nat.mul_add, Nat.pow_add]
    congr 1
    rw [Nat.mul_comm a[i], Nat.mul_assoc, Nat.mul_assoc]
    congr 1
    rw [<- Nat.mul_assoc, Nat.mul_comm a[i], Nat.mul_assoc]
   rw [e1, e2]
   generalize a[i] * 65536 ^ i * val (b.take k) = A at *
   generalize a[i] * b[k] = p at *
   generalize 65536 ^ (i + k) = B at *
   have h5 : B * (x + p + c) = B * (65536 * q + r) := by rw [hdm]
   simp only [Nat.mul_add] at h5
   have h6 : q * (B * 65536) = B * (65536 * q) := by rw [Nat.mul_comm q, Nat.mul_assoc]
   have h7 : c * B = B * c := Nat.mul_comm _ _
   omega

theorem l_mul {M : List AC -> Option (List AC)} {a b : List Nat} (ha : Dig a) (hb : Dig b) (hn : a.length + b.length <= 1000) : ∀ (m i : Nat) (out : List Nat), m = a.length - i -> i <= a.length -> Dig out -> out.length = a.length + b.length ->
  (∀ j (h : j < out.length), i + b.length <= j -> out[j] = 0) -> val out = val (a.take i) * val b ->
  ∃ out' : List Nat, Qbl (Qhr M (Qbl (Qdl M))) [.view kUs (out.map uR), .view kUs (a.map uR), .view kUs (b.map uR), I i] = some (1, [.view kUs (out'.map uR)]) /\
   Dig out' /\ out'.length = a.length + b.length /\ val out' = val a * val b
 | 0, i, out, hm, hi, ho, hl, hz, hv => by
  have hia : i = a.length := by omega
  subst hia
  rw [List.take_length] at hv
  refine ⟨out, ?_, ho, hl, hv⟩
  refine Qbn ?_ (by simp)
  rw [st_cncref01_mul_3_eq]
  simp only [go_sem]
  rw [if_neg (by simp)]
 | m + 1, i, out, hm, hi, ho, hl, hz, hv => by
  have hia : i < a.length := by omega
  obtain ⟨out1, c1, h1, h2, h3, h4, h5, h6⟩ := l_mul_in (M := M) ha hb hia hn (val out) b.length 0 out 0 (by omega) (by omega) ho (by omega) hl hz (by simp [val])
  have hz1 := h5 (i + b.length) (by omega) (Nat.le_refl _)
  have e1 : nth [] (out1.map uR) (i + b.length) = uR (out1[i + b.length]'(by omega)) := nth_map uR [] out1 _ (by omega)
  have hstep : Qhr M (Qbl (Qdl M)) [.view kUs (out.map uR), .view kUs (a.map uR), .view kUs (b.map uR), I i] =
    some (0, [.view kUs ((out1.set (i + b.length) c1).map uR), .view kUs (a.map uR), .view kUs (b.map uR), I ((i + 1 : Nat) : Int)]) := by
   generalize Qbl (Qdl M) = N at *
   rw [st_cncref01_mul_3_eq]
   rw [show (N [AC.view [Kd.int IntKind.u64] (out.map uR), AC.view [Kd.int IntKind.u64] (a.map uR), AC.view [Kd.int IntKind.u64] (b.map uR), AC.int IntKind.i64 (i : Int), AC.int IntKind.u64 0, AC.int IntKind.i64 0]) = _ from h1]
   have hw : IntKind.i64.wrap ((i : Int) + ((b.map uR).length : Int)) = ((i + b.length : Nat) : Int) := by rw [Qab (by simp; omega)]; simp
   simp only [go_sem, hw, Int.toNat_natCast, e1, hz1]
   rw [if_pos (by simp; omega), if_pos (by simp; omega), if_pos (by simp; omega), Qab (by omega)]
   have : IntKind.u64.wrap (((0 : Nat) : Int) + (c1 : Int)) = (c1 : Int) := by rw [Qd2 (by omega)]; simp
   rw [this, map_uR_set]
   rfl
  rw [Qbk hstep]
  refine l_mul ha hb hn m (i + 1) _ (by omega) (by omega) (h2.set _ _ h3) (by simpa using h4) ?_ ?_
  ·intro j hj hij
   rw [List.getElem_set_ne (by omega)]
   exact h5 j (by simpa using hj) (by omega)
  ·have hs := val_set out1 (i + b.length) (by omega) c1
   rw [hz1] at hs
   rw [val_take_succ a i hia, Nat.add_mul, <- hv]
   have e2 : a[i] * 65536 ^ i * val b = 65536 ^ i * a[i] * val b := by rw [Nat.mul_comm a[i]]
   have e3 : c1 * 65536 ^ (i + b.length) = 65536 ^ (i + b.length) * c1 := Nat.mul_comm _ _
   omega
theorem a_cncref01_mul {M : List AC -> Option (List AC)} (hM : ∀ l : List Nat, l.length <= 1000 -> Dig l -> ∃ c : List Nat, M [.view kUs (l.map uR)] = some [.view kUs (c.map uR)] /\ val c = val l /\ Dig c /\ Cut c /\ c.length <= l.length)
  {a b : List Nat} (ha : Dig a) (hb : Dig b) (hn : a.length + b.length <= 1000) :
  ∃ c : List Nat, mf_cncref01_mul M (Qbl (Qdl M)) (Qbl (Qhr M (Qbl (Qdl M)))) [.view kUs (a.map uR), .view kUs (b.map uR)] = some [.view kUs (c.map uR)] /\ val c = val a * val b /\ Dig c /\ Cut c /\ c.length <= a.length + b.length := by
 have hrep : ∀ n, val (List.replicate n 0) = 0 := by
  intro n
  induction n with
  | zero => rfl
  | succ n ih => simp [List.replicate_succ, val, ih]
 obtain ⟨out, h1, h2, h3, h4⟩ := l_mul (M := M) ha hb hn a.length 0 (List.replicate (a.length + b.length) 0) (by omega) (by omega) (fun d hd => by simp at hd; omega) (by simp) (fun j h _ => by simp) (by rw [hrep]; simp [val])
 obtain ⟨c, g1, g2, g3, g4, g5⟩ := hM out (by omega) h2
 refine ⟨c, ?_, by rw [g2, h4], g3, g4, by omega⟩
 generalize Qbl (Qhr M (Qbl (Qdl M))) = N3 at *
 generalize Qbl (Qdl M) = N7 at *
 rw [mf_cncref01_mul_eq]
 have hw : IntKind.i64.wrap (((a.map uR).length : Int) + ((b.map uR).length : Int)) = ((a.length + b.length : Nat) : Int) := by rw [Qab (by simp; omega)]; simp
 have hrm : List.replicate (a.length + b.length) [AC.int IntKind.u64 0] = (List.replicate (a.length + b.length) 0).map uR := by simp
 simp only [hw, Int.toNat_natCast, hrm]
 rw [show (N3 [AC.view [Kd.int IntKind.u64] ((List.replicate (a.length + b.length) 0).map uR), AC.view [Kd.int IntKind.u64] (a.map uR), AC.view [Kd.int IntKind.u64] (b.map uR), AC.int IntKind.i64 0]) = _ from h1]
 simp only [go_sem]
 rw [if_pos (by omega), show M [AC.view [Kd.int IntKind.u64] (out.map uR)] = _ from g1]
 simp only [go_sem]
theorem s_cncref01_mul {a b : List Nat} (ha : Dig a) (hb : Dig b) (hn : a.length + b.length <= 1000) :
  ∃ c : List Nat, m_cncref01_mul [.view kUs (a.map uR), .view kUs (b.map uR)] = some [.view kUs (c.map uR)] /\ val c = val a * val b /\ Dig c /\ Cut c /\ c.length <= a.length + b.length :=
 a_cncref01_mul (fun _ hl hd => s_cncref01_cut hl hd) ha hb hn
theorem a_cncref01_product {M1 M2 M3 : List AC -> Option (List AC)} {x y : Int} {a b c : List Nat} (h1 : M3 [I x] = some [U x.natAbs]) (h2 : M3 [I y] = some [U y.natAbs]) (h3 : M2 [U x.natAbs] = some [.view kUs (a.map uR)]) (h4 : M2 [U y.natAbs] = some [.view kUs (b.map uR)])
  (h5 : M1 [.view kUs (a.map uR), .view kUs (b.map uR)] = some [.view kUs (c.map uR)]) : mf_cncref01_product M1 M2 M3 [I x, I y] = some [.view kUs (c.map uR)] := by
 rw [mf_cncref01_product_eq]
 simp only [go_sem, h1, h2, h3, h4, h5]
theorem s_cncref01_product {x y : Int} (hx : i64 x) (hy : i64 y) : ∃ c : List Nat, Qis [I x, I y] = some [.view kUs (c.map uR)] /\ val c = x.natAbs * y.natAbs /\ Dig c /\ Cut c /\ c.length <= 8 := by
 have l1 := digs_len 4 x.natAbs (by rw [<- w64_pow]; exact i64_abs hx)
 have l2 := digs_len 4 y.natAbs (by rw [<- w64_pow]; exact i64_abs hy)
 obtain ⟨c, h1, h2, h3, h4, h5⟩ := s_cncref01_mul (digs_dig x.natAbs) (digs_dig y.natAbs) (by omega)
 rw [digs_val, digs_val] at h2
 exact ⟨c, a_cncref01_product (s_cncref01_mag hx) (s_cncref01_mag hy) (s_cncref01_limbs (i64_abs hx)) (s_cncref01_limbs (i64_abs hy)) h1, h2, h3, h4, by omega⟩
theorem a_cncref01_Cmp {M1 M2 M3 : List AC -> Option (List AC)} {a b c d : Int} {p q : List Nat} (ks : ∀ a b, M3 [I a, I b] = some [I (sgn a b)]) (h1 : M2 [I a, I b] = some [.view kUs (p.map uR)]) (h2 : M2 [I c, I d] = some [.view kUs (q.map uR)])
  (h3 : M1 [.view kUs (p.map uR), .view kUs (q.map uR)] = some [I (cmpN (a.natAbs * b.natAbs) (c.natAbs * d.natAbs))]) : mf_cncref01_Cmp M1 M2 M3 [I a, I b, I c, I d] = some [I (cmpI (a * b) (c * d))] := by
 have hm := unit_mul (sgn_bound a b) (cmpN_bound (a.natAbs * b.natAbs) (c.natAbs * d.natAbs))
 rw [mf_cncref01_Cmp_eq]
 simp only [go_sem, ks, h1, h2, h3]
 rw [<- cmp_sign, Qab (by omega)]
 by_cases g1 : sgn a b < sgn c d
 ·rw [if_pos g1, if_pos (by omega), if_pos g1]
 ·rw [if_neg g1]
  by_cases g2 : sgn a b > sgn c d
  ·rw [if_pos g2, if_pos (by omega), if_neg g1]
  ·rw [if_neg g2, if_neg (by omega)]
theorem s_cncref01_Cmp {a b c d : Int} (ha : i64 a) (hb : i64 b) (hc : i64 c) (hd : i64 d) : m_cncref01_Cmp [I a, I b, I c, I d] = some [I (cmpI (a * b) (c * d))] := by
 obtain ⟨p, p1, p2, p3, p4, p5⟩ := s_cncref01_product ha hb
 obtain ⟨q, q1, q2, q3, q4, q5⟩ := s_cncref01_product hc hd
 refine a_cncref01_Cmp s_cncref01_sign p1 q1 ?_
 rw [<- p2, <- q2]
 exact s_cncref01_cmp p3 q3 p4 q4 (by omega)
end Go.Bm
/- points as vectors: bounds, inner products, differences; when a point is near a straight line -/
set_option maxRecDepth 100000
namespace Go.Bm
def bd (A : Nat) (p : Pt) : Prop := p.x.natAbs <= A /\ p.y.natAbs <= A /\ p.z.natAbs <= A
def dotP (a b : Pt) : Int := a.x * b.x + a.y * b.y + a.z * b.z
def subP (a b : Pt) : Pt := ⟨a.x - b.x, a.y - b.y, a.z - b.z⟩
theorem mul_bd {x y : Int} {A B : Nat} (hx : x.natAbs <= A) (hy : y.natAbs <= B) : (x * y).natAbs <= A * B := by rw [Int.natAbs_mul]; exact Nat.mul_le_mul hx hy
theorem sub_bd {A B : Nat} {a b : Pt} (ha : bd A a) (hb : bd B b) : bd (A + B) (subP a b) := by
 obtain ⟨h1, h2, h3⟩ := ha
 obtain ⟨g1, g2, g3⟩ := hb
 refine ⟨?_, ?_, ?_⟩ <;> simp only [subP] <;> omega
theorem Qcb {A B : Nat} {a : Pt} (h : bd A a) (hab : A <= B) : bd B a := ⟨Nat.le_trans h.1 hab, Nat.le_trans h.2.1 hab, Nat.le_trans h.2.2 hab⟩

theorem sub_wrap {a b : Pt} (ha : bd 33554432 a) (hb : bd 33554432 b) : IntKind.i64.wrap (a.x - b.x) = (subP a b).x /\ IntKind.i64.wrap (a.y - b.y) = (subP a b).y /\ IntKind.i64.wrap (a.z - b.z) = (subP a b).z := by
 obtain ⟨h1, h2, h3⟩ := ha
 obtain ⟨g1, g2, g3⟩ := hb
 refine ⟨?_, ?_, ?_⟩ <;> rw [Qab (by omega)] <;> rfl
theorem s_cncref24_Minus {a b : Pt} (ha : bd 33554432 a) (hb : bd 33554432 b) : Qg0 [I a.x, I a.y, I a.z, I b.x, I b.y, I b.z] = some (ptR (subP a b)) := by
 unfold Qg0
 obtain ⟨h1, h2, h3⟩ := sub_wrap ha hb
 rw [mf_cncref24_Minus_eq, h1, h2, h3]
theorem dot_neg (a b : Pt) : dotP (subP a b) (subP a b) = dotP (subP b a) (subP b a) := by
 simp only [dotP, subP]
 have h : ∀ x y : Int, (x - y) * (x - y) = (y - x) * (y - x) := by intro x y; rw [<- Int.neg_mul_neg, Int.neg_sub]
 rw [h a.x, h a.y, h a.z]
theorem cmpI_le {x y : Int} : cmpI x y <= 0 ↔ x <= y := by
 unfold cmpI
 by_cases h : x < y
 ·rw [if_pos h]; omega
 ·rw [if_neg h]
  by_cases h' : x = y
  ·rw [if_pos h']; omega
  ·rw [if_neg h']; omega

end Go.Bm
/- the reference's products of two words, roots, lengths, and x r / sqrt n, rounded -/
set_option maxRecDepth 100000
namespace Go.Bm

theorem and32 (v : Nat) (h : v < w64) : IntKind.u64.wrap (((BitVec.ofInt IntKind.u64.bits (v : Int) &&& BitVec.ofInt IntKind.u64.bits 4294967295).toNat : Nat) : Int) = ((v % 4294967296 : Nat) : Int) := by
 rw [Qen] at h
 have e : (BitVec.ofInt IntKind.u64.bits (v : Int) &&& BitVec.ofInt IntKind.u64.bits 4294967295).toNat = v % 4294967296 := by
  rw [BitVec.toNat_and]
  have e1 : (BitVec.ofInt IntKind.u64.bits (v : Int)).toNat = v := by
   simp only [IntKind.bits, BitVec.toNat_ofInt]
   omega
  have e2 : (BitVec.ofInt IntKind.u64.bits 4294967295).toNat = 2 ^ 32 - 1 := by
   simp only [IntKind.bits, BitVec.toNat_ofInt]
   rfl
  rw [e1, e2, Nat.and_two_pow_sub_one_eq_mod]
 rw [e, Qd2 (by omega)]
theorem shr32 (v : Nat) : (v : Int).fdiv (2 ^ min (Int.toNat 32) IntKind.u64.bits) = ((v / 4294967296 : Nat) : Int) := by
 have e : (2 ^ min (Int.toNat 32) IntKind.u64.bits : Int) = 4294967296 := rfl
 rw [e, Int.fdiv_eq_ediv_of_nonneg _ (by omega)]
 omega
theorem or32 (u v : Nat) (hu : u < 4294967296) (hv : v < 4294967296) : IntKind.u64.wrap (((BitVec.ofInt IntKind.u64.bits ((u * 4294967296 : Nat) : Int) ||| BitVec.ofInt IntKind.u64.bits (v : Int)).toNat : Nat) : Int) = ((u * 4294967296 + v : Nat) : Int) := by
 have e : (BitVec.ofInt IntKind.u64.bits ((u * 4294967296 : Nat) : Int) ||| BitVec.ofInt IntKind.u64.bits (v : Int)).toNat = u * 4294967296 + v := by
  rw [BitVec.toNat_or]
  have e1 : ∀ v : Nat, v < 18446744073709551616 -> (BitVec.ofInt IntKind.u64.bits (v : Int)).toNat = v := by
   intro v hv
   simp only [IntKind.bits, BitVec.toNat_ofInt]
   omega
  rw [e1 _ (by omega), e1 _ (by omega)]
  have := Nat.two_pow_add_eq_or_of_lt (i := 32) (b := v) (by omega) u
  rw [show (2 : Nat) ^ 32 = 4294967296 from rfl, Nat.mul_comm] at this
  exact this.symm
 rw [e, Qd2 (by omega)]
theorem shl32 (v : Nat) (h : v < w64) : IntKind.u64.wrap ((v : Int) * 2 ^ min (Int.toNat 32) IntKind.u64.bits) = ((v % 4294967296 * 4294967296 : Nat) : Int) := by
 have e : (2 ^ min (Int.toNat 32) IntKind.u64.bits : Int) = 4294967296 := rfl
 rw [Qen] at h
 rw [e, uwrap_mod]
 omega
theorem mul32 {a b : Nat} (ha : a < 4294967296) (hb : b < 4294967296) : a * b <= 18446744065119617025 := by
 have := Nat.mul_le_mul (show a <= 4294967295 by omega) (show b <= 4294967295 by omega)
 omega
theorem s_cncref23_product {x y : Nat} (hx : x < w64) (hy : y < w64) : ∃ hi lo : Nat, Qgm [U x, U y] = some [U hi, U lo] /\ hi * w64 + lo = x * y /\ lo < w64 := by
 unfold Qgm
 rw [mf_cncref23_product_eq, and32 x hx, and32 y hy, shr32 x, shr32 y]
 rw [Qen] at hx hy
 have ex : x = x / 4294967296 * 4294967296 + x % 4294967296 := by omega
 have ey : y = y / 4294967296 * 4294967296 + y % 4294967296 := by omega
 have hx1 : x / 4294967296 < 4294967296 := by omega
 have hx0 : x % 4294967296 < 4294967296 := by omega
 have hy1 : y / 4294967296 < 4294967296 := by omega
 have hy0 : y % 4294967296 < 4294967296 := by omega
 generalize x / 4294967296 = a at *
 generalize x % 4294967296 = b at *
 generalize y / 4294967296 = c at *
 generalize y % 4294967296 = d at *
 have exy : x * y = (a * c) * 18446744073709551616 + (a * d) * 4294967296 + (b * c) * 4294967296 + b * d := by
  rw [ex, ey]
  have : (18446744073709551616 : Nat) = 4294967296 * 4294967296 := rfl
  rw [this]
  generalize (4294967296 : Nat) = H
  grind
 rw [exy]
 have h1 := mul32 hx1 hy1
 have h2 := mul32 hx1 hy0
 have h3 := mul32 hx0 hy1
 have h4 := mul32 hx0 hy0
 have m1 : ∀ p q : Nat, (p : Int) * (q : Int) = ((p * q : Nat) : Int) := fun p q => by simp
 have u1 : ∀ v : Nat, v <= 18446744073709551615 -> IntKind.u64.wrap (v : Int) = (v : Int) := fun v hv => Qd2 (by omega)
 simp only [m1]
 generalize a * c = P at *
 generalize a * d = Q at *
 generalize b * c = S at *
 generalize b * d = T at *
 have hw64 : ∀ v : Nat, v <= 18446744073709551615 -> v < w64 := fun v hv => by rw [Qen]; omega
 have a1 : ∀ p q : Nat, (p : Int) + (q : Int) = ((p + q : Nat) : Int) := fun p q => by simp
 rw [u1 T (by omega), u1 Q (by omega), u1 S (by omega), u1 P (by omega), shr32 T, a1, u1 (Q + T / 4294967296) (by omega)]
 rw [and32 _ (hw64 (Q + T / 4294967296) (by omega)), shr32 (Q + T / 4294967296), and32 _ (hw64 T (by omega)), a1 S, u1 (S + _) (by omega), shr32 (S + _), a1 P, u1 (P + _) (by omega), a1 _ ((S + _) / _), u1 (P + _ + _) (by omega),
  shl32 _ (hw64 (S + (Q + T / 4294967296) % 4294967296) (by omega)), or32 _ _ (by omega) (by omega)]
 refine ⟨_, _, rfl, ?_, ?_⟩
 ·rw [Qen]; omega
 ·rw [Qen]; omega

theorem a_cncref23_most {M : List AC -> Option (List AC)} (hM : ∀ {x y : Nat}, x < w64 -> y < w64 -> ∃ hi lo : Nat, M [U x, U y] = some [U hi, U lo] /\ hi * w64 + lo = x * y /\ lo < w64) {a b c d : Nat} (ha : a < w64) (hb : b < w64) (hc : c < w64) (hd : d < w64) (s : Bool) :
  mf_cncref23_most M [U a, U b, U c, U d, B s] = some [B (if s = true then decide (a * b < c * d) else decide (a * b <= c * d))] := by
 obtain ⟨h1, l1, e1, f1, g1⟩ := hM ha hb
 obtain ⟨h2, l2, e2, f2, g2⟩ := hM hc hd
 rw [mf_cncref23_most_eq]
 simp only [go_sem, e1, e2]
 rw [<- f1, <- f2]
 have key : ∀ p q : Nat, p < q -> p * w64 + w64 <= q * w64 := fun p q h => by rw [<- Nat.succ_mul]; exact Nat.mul_le_mul_right _ h
 by_cases c1 : h1 < h2
 ·rw [if_pos (by omega)]
  have := key _ _ c1
  by_cases hs : s = true
  ·rw [if_pos hs, decide_eq_true (by omega)]
  ·rw [if_neg hs, decide_eq_true (by omega)]
 ·rw [if_neg (by omega)]
  by_cases c2 : h1 = h2
  ·subst c2
   rw [if_pos rfl]
   by_cases c3 : l1 < l2
   ·rw [if_pos (by omega)]
    by_cases hs : s = true
    ·rw [if_pos hs, decide_eq_true (by omega)]
    ·rw [if_neg hs, decide_eq_true (by omega)]
   ·rw [if_neg (by omega)]
    by_cases c4 : l1 = l2
    ·subst c4
     rw [if_pos rfl]
     by_cases hs : s = true
     ·rw [if_pos hs, decide_eq_false (by omega), hs]; rfl
     ·rw [if_neg hs, decide_eq_true (by omega)]; simp at hs; rw [hs]; rfl
    ·rw [if_neg (by omega)]
     by_cases hs : s = true
     ·rw [if_pos hs, decide_eq_false (by omega)]
     ·rw [if_neg hs, decide_eq_false (by omega)]
  ·rw [if_neg (by omega)]
   have := key h2 h1 (by omega)
   by_cases hs : s = true
   ·rw [if_pos hs, decide_eq_false (by omega)]
   ·rw [if_neg hs, decide_eq_false (by omega)]
theorem s_cncref23_most {a b c d : Nat} (ha : a < w64) (hb : b < w64) (hc : c < w64) (hd : d < w64) (s : Bool) :
  m_cncref23_most [U a, U b, U c, U d, B s] = some [B (if s = true then decide (a * b < c * d) else decide (a * b <= c * d))] :=
 a_cncref23_most s_cncref23_product ha hb hc hd s

def IsRnd (a n : Nat) (down : Bool) (j : Nat) : Prop :=
 (j = 0 \/ if down = true then (2 * j - 1) * (2 * j - 1) * n < 4 * (a * a) else (2 * j - 1) * (2 * j - 1) * n <= 4 * (a * a)) /\
 (if down = true then 4 * (a * a) <= (2 * j + 1) * (2 * j + 1) * n else 4 * (a * a) < (2 * j + 1) * (2 * j + 1) * n)
theorem sqn_le {p q n : Nat} (h : p <= q) : p * p * n <= q * q * n := Nat.mul_le_mul_right _ (Nat.mul_le_mul h h)
theorem isRnd_unique {a n : Nat} {down : Bool} {i j : Nat} (hi : IsRnd a n down i) (hj : IsRnd a n down j) : i = j := by
 have key : ∀ {i j : Nat}, IsRnd a n down i -> IsRnd a n down j -> ¬ i < j := by
  rintro i j ⟨-, h2⟩ ⟨h3, -⟩ hlt
  have h4 := sqn_le (n := n) (show 2 * i + 1 <= 2 * j - 1 by omega)
  rcases h3 with h3 | h3
  ·omega
  ·by_cases hd : down = true
   ·rw [if_pos hd] at h2 h3; omega
   ·rw [if_neg hd] at h2 h3; omega
 have h1 := key hi hj
 have h2 := key hj hi
 omega
open Classical in
noncomputable def rnd (a n : Nat) (down : Bool) : Nat := if h : ∃ j, IsRnd a n down j then Classical.choose h else 0
theorem rnd_of {a n : Nat} {down : Bool} {j : Nat} (h : IsRnd a n down j) : rnd a n down = j := by
 have hx : ∃ j, IsRnd a n down j := ⟨j, h⟩
 unfold rnd
 rw [dif_pos hx]
 exact isRnd_unique (Classical.choose_spec hx) h
noncomputable def nearR (x r n : Int) : Int := if x < 0 then -(rnd (x.natAbs * r.natAbs) n.natAbs true : Int) else (rnd (x.natAbs * r.natAbs) n.natAbs false : Int)

theorem isRnd_le {X R n j : Nat} {down : Bool} (hn : 0 < n) (hx : X * X <= n) (h : IsRnd (X * R) n down j) : j <= R := by
 by_cases c : j <= R
 ·exact c
 exfalso
 have e : 4 * (X * R * (X * R)) = (2 * R) * (2 * R) * (X * X) := by grind
 have h2 : (2 * R) * (2 * R) * (X * X) <= (2 * R) * (2 * R) * n := Nat.mul_le_mul_left _ hx
 have h3 : (2 * R) * (2 * R) * n < (2 * R + 1) * (2 * R + 1) * n := Nat.mul_lt_mul_of_pos_right (Nat.mul_self_lt_mul_self (by omega)) hn
 have h4 : (2 * R + 1) * (2 * R + 1) * n <= (2 * j - 1) * (2 * j - 1) * n := sqn_le (by omega)
 obtain ⟨h5, -⟩ := h
 rcases h5 with h5 | h5
 ·omega
 ·split at h5 <;> omega
theorem isRnd_le' {X R n j : Nat} {down : Bool} (hn : 0 < n) (hx : R * R <= n) (h : IsRnd (X * R) n down j) : j <= X := by
 rw [Nat.mul_comm] at h
 exact isRnd_le hn hx h
theorem st_Near {M : List AC -> Option (List AC)} (hM : ∀ {a b c d : Nat}, a < w64 -> b < w64 -> c < w64 -> d < w64 -> ∀ s : Bool, M [U a, U b, U c, U d, B s] = some [B (if s = true then decide (a * b < c * d) else decide (a * b <= c * d))])
  {x : Int} {a d q b : Nat} {bit : Int} (ha : a < 36028797018963968) (hd : d < w64) (hq : q + b < 268435456 + 1) (hb0 : 0 < b) (hb : ((b : Nat) : Int).fdiv (2 ^ min (Int.toNat 1) IntKind.u64.bits) = bit) :
  Qfl M [I x, U a, U d, U q, U b] = some (0, [I x, U a, U d, U (((if (q + b) * (q + b) * d <= a * a then q + b else q) : Nat) : Int), U bit]) := by
 have hs : (q + b) * (q + b) <= 268435456 * 268435456 := Nat.mul_le_mul (by omega) (by omega)
 have w1 : IntKind.u64.wrap ((q : Int) + (b : Int)) = ((q + b : Nat) : Int) := by rw [Qd2 (by omega)]; omega
 have w2 : IntKind.u64.wrap (((q + b : Nat) : Int) * ((q + b : Nat) : Int)) = (((q + b) * (q + b) : Nat) : Int) := by
  rw [show ((q + b : Nat) : Int) * ((q + b : Nat) : Int) = (((q + b) * (q + b) : Nat) : Int) by simp, Qd2 (by omega)]
 rw [st_cncref23_Near_3_eq, w1, w2, hb]
 generalize (q + b) * (q + b) = s at *
 have h := hM (a := s) (b := d) (c := a) (d := a) (by rw [Qen]; omega) hd (by rw [Qen]; omega) (by rw [Qen]; omega) false
 rw [if_neg (by simp)] at h
 simp only [go_sem, h]
 rw [if_pos (by omega)]
 by_cases c : s * d <= a * a
 ·rw [if_pos c, if_pos c]
 ·rw [if_neg c, if_neg c]
theorem l_Near {M : List AC -> Option (List AC)} (hM : ∀ {a b c d : Nat}, a < w64 -> b < w64 -> c < w64 -> d < w64 -> ∀ s : Bool, M [U a, U b, U c, U d, B s] = some [B (if s = true then decide (a * b < c * d) else decide (a * b <= c * d))])
  {x : Int} {a d : Nat} (ha : a < 36028797018963968) (hd : d < w64) : ∀ (k q : Nat), q + 2 ^ (k + 1) <= 268435456 -> q * q * d <= a * a -> a * a < (q + 2 ^ (k + 1)) * (q + 2 ^ (k + 1)) * d ->
  ∃ r : Nat, Qbl (Qfl M) [I x, U a, U d, U q, U ((2 ^ k : Nat) : Int)] = some (1, [I x, U a, U d, U r]) /\ r * r * d <= a * a /\ a * a < (r + 1) * (r + 1) * d /\ r < 268435456
 | 0, q, hq, h1, h2 => by
  have hs := st_Near hM (x := x) (q := q) (b := 2 ^ 0) (bit := 0) ha hd (by simp at hq ⊢; omega) (by simp) half0
  rw [Qbk hs]
  have hend : ∀ r : Nat, Qbl (Qfl M) [I x, U a, U d, U r, U 0] = some (1, [I x, U a, U d, U r]) := by
   intro r
   refine Qbn ?_ (by simp)
   rw [st_cncref23_Near_3_eq]
   simp only [go_sem]
   rw [if_neg (by omega)]
  simp only [Nat.zero_add, Nat.pow_one, Nat.pow_zero] at *
  by_cases h : (q + 1) * (q + 1) * d <= a * a
  ·rw [if_pos h, hend]
   exact ⟨_, rfl, h, h2, by omega⟩
  ·rw [if_neg h, hend]
   exact ⟨_, rfl, h1, by omega, by omega⟩
 | k + 1, q, hq, h1, h2 => by
  have e3 : 2 ^ (k + 1 + 1) = 2 ^ (k + 1) + 2 ^ (k + 1) := by rw [Nat.pow_succ 2 (k + 1)]; omega
  have hpos : 0 < 2 ^ (k + 1) := Nat.two_pow_pos _
  have hs := st_Near hM (x := x) (q := q) (b := 2 ^ (k + 1)) (bit := ((2 ^ k : Nat) : Int)) ha hd (by omega) hpos (half k)
  rw [Qbk hs]
  by_cases h : (q + 2 ^ (k + 1)) * (q + 2 ^ (k + 1)) * d <= a * a
  ·rw [if_pos h]
   refine l_Near hM ha hd k _ (by omega) h ?_
   rw [show q + 2 ^ (k + 1) + 2 ^ (k + 1) = q + 2 ^ (k + 1 + 1) by omega]
   exact h2
  ·rw [if_neg h]
   exact l_Near hM ha hd k q (by omega) h1 (by omega)
theorem isRnd_near {a n q : Nat} (down : Bool) (h1 : q * q * n <= a * a) (h2 : a * a < (q + 1) * (q + 1) * n) :
  IsRnd a n down (if (if down = true then (2 * q + 1) * (2 * q + 1) * n < 2 * a * (2 * a) else (2 * q + 1) * (2 * q + 1) * n <= 2 * a * (2 * a)) then q + 1 else q) := by
 have e4 : 2 * a * (2 * a) = 4 * (a * a) := by grind
 rw [e4]
 have e1 : 4 * (q * q * n) <= 4 * (a * a) := Nat.mul_le_mul_left _ h1
 have e2 : 4 * (a * a) < 4 * ((q + 1) * (q + 1) * n) := by omega
 have e5 : (2 * q - 1) * (2 * q - 1) * n <= (2 * q) * (2 * q) * n := sqn_le (by omega)
 have e6 : (2 * q) * (2 * q) * n = 4 * (q * q * n) := by grind
 have e7 : (2 * (q + 1)) * (2 * (q + 1)) * n = 4 * ((q + 1) * (q + 1) * n) := by grind
 have e8 : (2 * (q + 1)) * (2 * (q + 1)) * n <= (2 * (q + 1) + 1) * (2 * (q + 1) + 1) * n := sqn_le (by omega)
 have e9 : n = 0 \/ q = 0 \/ (2 * q - 1) * (2 * q - 1) * n < (2 * q) * (2 * q) * n := by
  by_cases hn : n = 0
  ·exact .inl hn
  ·by_cases hq : q = 0
   ·exact .inr (.inl hq)
   ·right; right
    refine Nat.mul_lt_mul_of_pos_right ?_ (by omega)
    exact Nat.mul_self_lt_mul_self (by omega)
 have hn : n ≠ 0 := by rintro rfl; simp at h2
 unfold IsRnd
 cases down
 ·simp only [Bool.false_eq_true, if_false]
  by_cases c : (2 * q + 1) * (2 * q + 1) * n <= 4 * (a * a)
  ·rw [if_pos c]
   refine ⟨.inr ?_, by omega⟩
   rw [show 2 * (q + 1) - 1 = 2 * q + 1 by omega]; exact c
  ·rw [if_neg c]
   exact ⟨by omega, by omega⟩
 ·simp only [if_true]
  by_cases c : (2 * q + 1) * (2 * q + 1) * n < 4 * (a * a)
  ·rw [if_pos c]
   refine ⟨.inr ?_, by omega⟩
   rw [show 2 * (q + 1) - 1 = 2 * q + 1 by omega]; exact c
  ·rw [if_neg c]
   exact ⟨by omega, by omega⟩
theorem a_cncref23_Near {M : List AC -> Option (List AC)} (hM : ∀ {a b c d : Nat}, a < w64 -> b < w64 -> c < w64 -> d < w64 -> ∀ s : Bool, M [U a, U b, U c, U d, B s] = some [B (if s = true then decide (a * b < c * d) else decide (a * b <= c * d))])
  {x r n : Int} (hx : x.natAbs <= 33554432 * 4) (hr : 0 <= r /\ r <= 33554432 * 4) (hn : 0 < n /\ n <= 4611686018427387904) (hxn : x * x <= n) :
  mf_cncref23_Near M (Qbl (Qfl M)) [I x, I r, I n] = some [I (nearR x r n)] /\ (nearR x r n).natAbs <= 268435456 /\ IsRnd (x.natAbs * r.natAbs) n.natAbs (decide (x < 0)) (nearR x r n).natAbs := by
 obtain ⟨R, rfl⟩ := Int.eq_ofNat_of_zero_le hr.1
 obtain ⟨N, rfl⟩ := Int.eq_ofNat_of_zero_le (show 0 <= n by omega)
 have hmx : mx x (IntKind.i64.wrap (0 - x)) = (x.natAbs : Int) := by
  rw [Qab (by omega)]; unfold mx; split <;> omega
 have hA : x.natAbs * R <= (33554432 * 4) * (33554432 * 4) := Nat.mul_le_mul hx (by omega)
 have e1 : (x.natAbs : Int) * (R : Int) = ((x.natAbs * R : Nat) : Int) := by simp
 have hxx : x.natAbs * x.natAbs <= N := by
  have : ((x.natAbs * x.natAbs : Nat) : Int) = x * x := by rw [Int.natAbs_mul_self]
  omega
 have hAA : (x.natAbs * R) * (x.natAbs * R) < 268435456 * 268435456 * N := by
  have e : (x.natAbs * R) * (x.natAbs * R) = (R * R) * (x.natAbs * x.natAbs) := by grind
  rw [e]
  have h1 : R * R <= (33554432 * 4) * (33554432 * 4) := Nat.mul_le_mul (by omega) (by omega)
  have h2 : (R * R) * (x.natAbs * x.natAbs) <= ((33554432 * 4) * (33554432 * 4)) * N := Nat.mul_le_mul h1 hxx
  omega
 simp only [nearR, Int.natAbs_natCast]
 generalize hAd : x.natAbs * R = A at *
 have hAw : A < 36028797018963968 := by omega
 have hN : N < w64 := by rw [Qen]; omega
 rw [mf_cncref23_Near_eq, hmx, e1, Qab (x := (A : Int)) (by omega), Qd2 (x := (A : Int)) (by omega), Qd2 (x := (N : Int)) (by omega)]
 obtain ⟨q, l1, l2, l3, l4⟩ := l_Near hM (x := x) (a := A) (d := N) hAw hN 27 0 (by decide) (by simp) (by rw [Nat.zero_add]; exact hAA)
 have l1' : Qbl (Qfl M) [I x, U A, U N, AC.int IntKind.u64 0, AC.int IntKind.u64 134217728] = some (1, [I x, U A, U N, U q]) := l1
 rw [l1']
 have hq2 : (2 * q + 1) * (2 * q + 1) <= 536870911 * 536870911 := Nat.mul_le_mul (by omega) (by omega)
 have w1 : IntKind.u64.wrap (IntKind.u64.wrap (2 * (q : Int)) + 1) = ((2 * q + 1 : Nat) : Int) := by rw [Qd2 (x := 2 * (q : Int)) (by omega), Qd2 (by omega)]; omega
 have w2 : IntKind.u64.wrap (((2 * q + 1 : Nat) : Int) * ((2 * q + 1 : Nat) : Int)) = (((2 * q + 1) * (2 * q + 1) : Nat) : Int) := by
  rw [show ((2 * q + 1 : Nat) : Int) * ((2 * q + 1 : Nat) : Int) = (((2 * q + 1) * (2 * q + 1) : Nat) : Int) from (Int.natCast_mul _ _).symm, Qd2 (by omega)]
 have w3 : IntKind.u64.wrap (2 * (A : Int)) = ((2 * A : Nat) : Int) := by rw [Qd2 (by omega)]; omega
 have w4 : IntKind.i64.wrap (IntKind.u64.wrap ((q : Int) + 1)) = ((q + 1 : Nat) : Int) := by rw [Qd2 (by omega), Qab (by omega)]; omega
 have w5 : IntKind.i64.wrap (q : Int) = (q : Int) := Qab (by omega)
 have h := hM (a := (2 * q + 1) * (2 * q + 1)) (b := N) (c := 2 * A) (d := 2 * A) (by rw [Qen]; omega) hN (by rw [Qen]; omega) (by rw [Qen]; omega) (decide (x < 0))
 have hi := isRnd_near (decide (x < 0)) l2 l3
 simp only [go_sem, w1, w2, w3, h, w4, w5]
 generalize (2 * q + 1) * (2 * q + 1) = s at *
 by_cases hx0 : x < 0
 ·rw [show (if x < 0 then -(rnd A N true : Int) else (rnd A N false : Int)) = -(rnd A N true : Int) from if_pos hx0]
  rw [decide_eq_true hx0] at hi ⊢
  simp only [if_true] at hi ⊢
  have hr := rnd_of hi
  by_cases c : s * N < 2 * A * (2 * A)
  ·rw [if_pos c] at hi hr
   rw [if_pos hx0, if_pos (decide_eq_true c), if_pos hx0, hr, Qab (by omega)]
   refine ⟨?_, by omega, ?_⟩
   ·rw [Int.zero_sub]
   ·rw [Int.natAbs_neg, Int.natAbs_natCast]; exact hi
  ·rw [if_neg c] at hi hr
   rw [if_pos hx0, if_neg (by simpa using c), if_pos hx0, hr, Qab (by omega)]
   refine ⟨?_, by omega, ?_⟩
   ·rw [Int.zero_sub]
   ·rw [Int.natAbs_neg, Int.natAbs_natCast]; exact hi
 ·rw [show (if x < 0 then -(rnd A N true : Int) else (rnd A N false : Int)) = (rnd A N false : Int) from if_neg hx0]
  rw [decide_eq_false hx0] at hi ⊢
  simp only [Bool.false_eq_true, if_false] at hi ⊢
  have hr := rnd_of hi
  by_cases c : s * N <= 2 * A * (2 * A)
  ·rw [if_pos c] at hi hr
   rw [if_neg hx0, if_pos (decide_eq_true c), if_neg hx0, hr]
   exact ⟨rfl, by omega, hi⟩
  ·rw [if_neg c] at hi hr
   rw [if_neg hx0, if_neg (by simpa using c), if_neg hx0, hr]
   exact ⟨rfl, by omega, hi⟩
theorem s_cncref23_Near {x r n : Int} (hx : x.natAbs <= 33554432 * 4) (hr : 0 <= r /\ r <= 33554432 * 4) (hn : 0 < n /\ n <= 4611686018427387904) (hxn : x * x <= n) :
  Qeg [I x, I r, I n] = some [I (nearR x r n)] /\ (nearR x r n).natAbs <= 268435456 /\ IsRnd (x.natAbs * r.natAbs) n.natAbs (decide (x < 0)) (nearR x r n).natAbs :=
 a_cncref23_Near s_cncref23_most hx hr hn hxn

def IsUp (n k : Int) : Prop := 0 <= k /\ n <= k * k /\ (k = 0 \/ (k - 1) * (k - 1) < n)
theorem isUp_unique {n i j : Int} (hi : IsUp n i) (hj : IsUp n j) : i = j := by
 have key : ∀ {i j : Int}, IsUp n i -> IsUp n j -> ¬ i < j := by
  rintro i j ⟨h1, h2, -⟩ ⟨h4, h5, h6⟩ hlt
  rcases h6 with h6 | h6
  ·omega
  ·have := Int.mul_self_le_mul_self h1 (show i <= j - 1 by omega)
   omega
 have h1 := key hi hj
 have h2 := key hj hi
 omega
open Classical in
noncomputable def upR (n : Int) : Int := if h : ∃ j, IsUp n j then Classical.choose h else 0
theorem upR_of {n k : Int} (h : IsUp n k) : upR n = k := by
 have hx : ∃ j, IsUp n j := ⟨k, h⟩
 unfold upR
 rw [dif_pos hx]
 exact isUp_unique (Classical.choose_spec hx) h
theorem isUp_nat {n r : Nat} (h1 : r * r <= n) (h2 : n < (r + 1) * (r + 1)) : IsUp n (if r * r < n then r + 1 else r : Nat) := by
 unfold IsUp
 by_cases c : r * r < n
 ·rw [if_pos c]
  have e1 : ((r + 1 : Nat) : Int) * ((r + 1 : Nat) : Int) = (((r + 1) * (r + 1) : Nat) : Int) := (Int.natCast_mul _ _).symm
  have e2 : (((r + 1 : Nat) : Int) - 1) * (((r + 1 : Nat) : Int) - 1) = ((r * r : Nat) : Int) := by
   rw [show ((r + 1 : Nat) : Int) - 1 = (r : Int) by omega]; exact (Int.natCast_mul _ _).symm
  rw [e1, e2]
  generalize (r + 1) * (r + 1) = A at *
  generalize r * r = B at *
  exact ⟨by omega, by omega, .inr (by omega)⟩
 ·rw [if_neg c]
  have e1 : (r : Int) * (r : Int) = ((r * r : Nat) : Int) := (Int.natCast_mul _ _).symm
  rw [e1]
  refine ⟨by omega, by omega, ?_⟩
  rcases Nat.eq_zero_or_pos r with h | h
  ·left; omega
  ·right
   have e2 : ((r : Int) - 1) * ((r : Int) - 1) = (((r - 1) * (r - 1) : Nat) : Int) := by
    rw [show (r : Int) - 1 = ((r - 1 : Nat) : Int) by omega]; exact (Int.natCast_mul _ _).symm
   have := Nat.mul_self_lt_mul_self (show r - 1 < r by omega)
   rw [e2]; omega

theorem halfI (k : Nat) : ((2 ^ (k + 1) : Nat) : Int).fdiv (2 ^ min (Int.toNat 1) IntKind.i64.bits) = ((2 ^ k : Nat) : Int) := by
 have e : (2 ^ min (Int.toNat 1) IntKind.i64.bits : Int) = 2 := rfl
 rw [e, Int.fdiv_eq_ediv_of_nonneg _ (by omega), Nat.pow_succ]
 omega
theorem halfI0 : (1 : Int).fdiv (2 ^ min (Int.toNat 1) IntKind.i64.bits) = 0 := rfl
theorem st_root {n q b : Nat} {bit : Int} (hq : q + b <= 2147483648) (hb0 : 0 < b) (hb : ((b : Nat) : Int).fdiv (2 ^ min (Int.toNat 1) IntKind.i64.bits) = bit) :
  Qfp [I n, I q, I b] = some (0, [I n, I (((if (q + b) * (q + b) <= n then q + b else q) : Nat) : Int), I bit]) := by
 have hs : (q + b) * (q + b) <= 2147483648 * 2147483648 := Nat.mul_le_mul hq hq
 have w1 : IntKind.i64.wrap ((q : Int) + (b : Int)) = ((q + b : Nat) : Int) := by rw [Qab (by omega)]; omega
 have w2 : IntKind.i64.wrap (((q + b : Nat) : Int) * ((q + b : Nat) : Int)) = (((q + b) * (q + b) : Nat) : Int) := by
  rw [show ((q + b : Nat) : Int) * ((q + b : Nat) : Int) = (((q + b) * (q + b) : Nat) : Int) from (Int.natCast_mul _ _).symm, Qab (by omega)]
 rw [st_cncref23_root_3_eq, w1, w2, hb]
 generalize (q + b) * (q + b) = s at *
 simp only [go_sem]
 rw [if_pos (by omega)]
 by_cases c : s <= n
 ·rw [if_pos (by omega), if_pos c]
 ·rw [if_neg (by omega), if_neg c]
theorem l_root {n : Nat} : ∀ (k q : Nat), q + 2 ^ (k + 1) <= 2147483648 -> q * q <= n -> n < (q + 2 ^ (k + 1)) * (q + 2 ^ (k + 1)) ->
  ∃ r : Nat, Qbl Qfp [I n, I q, I ((2 ^ k : Nat) : Int)] = some (1, [I r]) /\ r * r <= n /\ n < (r + 1) * (r + 1) /\ r < 2147483648
 | 0, q, hq, h1, h2 => by
  have hs := st_root (n := n) (q := q) (b := 2 ^ 0) (bit := 0) (by simp at hq ⊢; omega) (by simp) halfI0
  rw [Qbk hs]
  have hend : ∀ r : Nat, Qbl Qfp [I n, I r, I 0] = some (1, [I r]) := by
   intro r
   refine Qbn ?_ (by simp)
   rw [st_cncref23_root_3_eq]
   simp only [go_sem]
   rw [if_neg (by omega)]
  simp only [Nat.zero_add, Nat.pow_one, Nat.pow_zero] at *
  by_cases h : (q + 1) * (q + 1) <= n
  ·rw [if_pos h, hend]
   exact ⟨_, rfl, h, h2, by omega⟩
  ·rw [if_neg h, hend]
   exact ⟨_, rfl, h1, by omega, by omega⟩
 | k + 1, q, hq, h1, h2 => by
  have e3 : 2 ^ (k + 1 + 1) = 2 ^ (k + 1) + 2 ^ (k + 1) := by rw [Nat.pow_succ 2 (k + 1)]; omega
  have hpos : 0 < 2 ^ (k + 1) := Nat.two_pow_pos _
  have hs := st_root (n := n) (q := q) (b := 2 ^ (k + 1)) (bit := ((2 ^ k : Nat) : Int)) (by omega) hpos (halfI k)
  rw [Qbk hs]
  by_cases h : (q + 2 ^ (k + 1)) * (q + 2 ^ (k + 1)) <= n
  ·rw [if_pos h]
   refine l_root k _ (by omega) h ?_
   rw [show q + 2 ^ (k + 1) + 2 ^ (k + 1) = q + 2 ^ (k + 1 + 1) by omega]
   exact h2
  ·rw [if_neg h]
   exact l_root k q (by omega) h1 (by omega)
theorem s_cncref23_root {n : Nat} (hn : n < 4611686018427387904) : ∃ r : Nat, Qfn [I n] = some [I r] /\ r * r <= n /\ n < (r + 1) * (r + 1) /\ r < 2147483648 := by
 obtain ⟨r, l1, l2, l3, l4⟩ := l_root (n := n) 30 0 (by decide) (by simp) (by rw [Nat.zero_add]; exact hn)
 refine ⟨r, ?_, l2, l3, l4⟩
 have l1' : Qbl Qfp [I n, AC.int IntKind.i64 0, AC.int IntKind.i64 1073741824] = some (1, [I r]) := l1
 show mf_cncref23_root (Qbl Qfp) [I n] = _
 rw [mf_cncref23_root_eq, l1']
 simp only [go_sem]
def sqD (a b : Pt) : Int := dotP (subP a b) (subP a b)
theorem sqD_nn (a b : Pt) : 0 <= sqD a b := by
 unfold sqD dotP
 have h : ∀ u : Int, 0 <= u * u := fun u => by rw [<- Int.natAbs_mul_self]; omega
 have := h (subP a b).x
 have := h (subP a b).y
 have := h (subP a b).z
 omega
theorem sq_bd {x : Int} {A : Nat} (h : x.natAbs <= A) : 0 <= x * x /\ x * x <= ((A * A : Nat) : Int) := by
 have := Nat.mul_le_mul h h
 rw [<- Int.natAbs_mul_self]
 omega
theorem sqD_le {A : Nat} {a b : Pt} (ha : bd A a) (hb : bd A b) (hA : A <= 67108864) : sqD a b <= 54043195528445952 := by
 have h : ∀ x y : Int, x.natAbs <= A -> y.natAbs <= A -> (x - y) * (x - y) <= 18014398509481984 := by
  intro x y hx hy
  exact (sq_bd (x := x - y) (A := 134217728) (by omega)).2
 have h1 := h _ _ ha.1 hb.1
 have h2 := h _ _ ha.2.1 hb.2.1
 have h3 := h _ _ ha.2.2 hb.2.2
 unfold sqD dotP subP
 simp only
 omega
theorem s_SquareB {a b : Pt} (ha : bd 67108864 a) (hb : bd 67108864 b) : Qc1 [I a.x, I a.y, I a.z, I b.x, I b.y, I b.z] = some [I (sqD a b)] := by
 have h : ∀ x y : Int, x.natAbs <= 67108864 -> y.natAbs <= 67108864 -> 0 <= (x - y) * (x - y) /\ (x - y) * (x - y) <= 18014398509481984 := by
  intro x y hx hy
  exact sq_bd (x := x - y) (A := 134217728) (by omega)
 have h1 := h _ _ ha.1 hb.1
 have h2 := h _ _ ha.2.1 hb.2.1
 have h3 := h _ _ ha.2.2 hb.2.2
 obtain ⟨a1, a2, a3⟩ := ha
 obtain ⟨b1, b2, b3⟩ := hb
 unfold Qc1
 rw [mf_cncref23_Square_eq, Qab (x := a.x - b.x) (by omega), Qab (x := a.y - b.y) (by omega), Qab (x := a.z - b.z) (by omega)]
 unfold sqD dotP subP
 simp only
 generalize (a.x - b.x) * (a.x - b.x) = u at *
 generalize (a.y - b.y) * (a.y - b.y) = v at *
 generalize (a.z - b.z) * (a.z - b.z) = w at *
 rw [Qab (x := u) (by omega), Qab (x := 0 + u) (by omega), Qab (x := v) (by omega), Qab (x := 0 + u + v) (by omega), Qab (x := w) (by omega), Qab (by omega), Int.zero_add]
noncomputable def lenP (a b : Pt) : Int := upR (sqD a b)
theorem a_cncref23_Length {MR MS : List AC -> Option (List AC)} {a b : Pt} {d : Nat} (hS : MS [I a.x, I a.y, I a.z, I b.x, I b.y, I b.z] = some [I d]) (hd : d < 4611686018427387904)
  (hR : ∃ r : Nat, MR [I d] = some [I r] /\ r * r <= d /\ d < (r + 1) * (r + 1) /\ r < 2147483648) : mf_cncref23_Length MR MS [I a.x, I a.y, I a.z, I b.x, I b.y, I b.z] = some [I (upR d)] /\ IsUp d (upR d) := by
 obtain ⟨r, h1, h2, h3, h4⟩ := hR
 have hu := isUp_nat h2 h3
 rw [upR_of hu]
 refine ⟨?_, hu⟩
 rw [mf_cncref23_Length_eq]
 have hrr : r * r <= 2147483648 * 2147483648 := Nat.mul_le_mul (by omega) (by omega)
 have e1 : (r : Int) * (r : Int) = ((r * r : Nat) : Int) := (Int.natCast_mul _ _).symm
 simp only [go_sem, hS, h1, e1]
 rw [Qab (x := ((r * r : Nat) : Int)) (by omega), Qab (by omega)]
 by_cases c : r * r < d
 ·rw [if_pos (by omega), if_pos c]; rfl
 ·rw [if_neg (by omega), if_neg c]
theorem Qf9 {a b : Pt} (ha : bd 67108864 a) (hb : bd 67108864 b) : Qbt [I a.x, I a.y, I a.z, I b.x, I b.y, I b.z] = some [I (lenP a b)] /\ IsUp (sqD a b) (lenP a b) := by
 have h0 := sqD_nn a b
 have h1 := sqD_le ha hb (Nat.le_refl _)
 obtain ⟨d, hd⟩ := Int.eq_ofNat_of_zero_le h0
 have hs := s_SquareB ha hb
 unfold lenP
 rw [hd] at hs
 rw [hd]
 exact a_cncref23_Length hs (by omega) (s_cncref23_root (by omega))
theorem len_bd {a b : Pt} (ha : bd 67108864 a) (hb : bd 67108864 b) : 0 <= lenP a b /\ lenP a b <= 268435456 := by
 obtain ⟨-, h1, h2, h3⟩ := Qf9 ha hb
 have h4 := sqD_le ha hb (Nat.le_refl _)
 refine ⟨h1, ?_⟩
 rcases h3 with h3 | h3
 ·omega
 ·by_cases c : lenP a b <= 268435456
  ·exact c
  ·have := Int.mul_self_le_mul_self (a := 268435456) (b := lenP a b - 1) (by omega) (by omega)
   omega
def IsMid (n k : Int) : Prop := 0 <= k /\ n <= k * (k + 1) /\ (k = 0 \/ (k - 1) * k < n)
end Go.Bm
