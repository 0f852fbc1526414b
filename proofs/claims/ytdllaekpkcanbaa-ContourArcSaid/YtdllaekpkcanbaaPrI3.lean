/- laid together -/
import Derived.Test.YtdllaekpkcanbaaMx3
import Derived.Test.YtdllaekpkcanbaaBmTy
set_option linter.unusedVariables false
set_option linter.unusedSimpArgs false
/- what the functions of package wide and of layer 1's reference give -/
set_option maxRecDepth 100000
namespace Go.Bm

theorem s_wide_size {x : Int} (h : i64 x) : m_wide_size [I x] = some [U (x.natAbs : Int)] := by
  unfold i64 at h
  unfold m_wide_size
  rw [mf_wide_size_eq]
  by_cases hx : x < 0
  · rw [bif_pos hx, wrap_id (x := x + 1) (by omega), wrap_id (x := 0 - (x + 1)) (by omega), uwrap_id (x := 0 - (x + 1)) (by omega), uwrap_id (x := 0 - (x + 1) + 1) (by omega)]
    rw [show 0 - (x + 1) + 1 = (x.natAbs : Int) by omega]
  · rw [bif_neg hx, uwrap_id (x := x) (by omega)]
    rw [show x = (x.natAbs : Int) by omega]
    simp
theorem s_cncref01_mag {x : Int} (h : i64 x) : m_cncref01_mag [I x] = some [U (x.natAbs : Int)] := by
  unfold i64 at h
  unfold m_cncref01_mag
  rw [mf_cncref01_mag_eq]
  by_cases hx : x < 0
  · rw [bif_pos hx, wrap_id (x := x + 1) (by omega), wrap_id (x := 0 - (x + 1)) (by omega), uwrap_id (x := 0 - (x + 1)) (by omega), uwrap_id (x := 0 - (x + 1) + 1) (by omega)]
    rw [show 0 - (x + 1) + 1 = (x.natAbs : Int) by omega]
  · rw [bif_neg hx, uwrap_id (x := x) (by omega)]
    rw [show x = (x.natAbs : Int) by omega]
    simp

def sgn (a b : Int) : Int := if a = 0 then 0 else if b = 0 then 0 else if (a < 0 ↔ b < 0) then 1 else -1
theorem s_wide_sign (a b : Int) : m_wide_sign [I a, I b] = some [I (sgn a b)] := by
  unfold m_wide_sign
  rw [mf_wide_sign_eq]
  simp only [go_sem]
  unfold sgn
  repeat' split
  all_goals rfl
theorem s_cncref01_sign (a b : Int) : m_cncref01_sign [I a, I b] = some [I (sgn a b)] := by
  unfold m_cncref01_sign
  rw [mf_cncref01_sign_eq]
  simp only [go_sem]
  unfold sgn
  repeat' split
  all_goals rfl

def cmpN (a b : Nat) : Int := if a < b then -1 else if a = b then 0 else 1
def cmpI (a b : Int) : Int := if a < b then -1 else if a = b then 0 else 1
noncomputable def w64 : Nat := Classical.choose (⟨18446744073709551616, rfl⟩ : ∃ n : Nat, n = 18446744073709551616)
theorem w64_eq : w64 = 18446744073709551616 := Classical.choose_spec (⟨18446744073709551616, rfl⟩ : ∃ n : Nat, n = 18446744073709551616)
theorem i64_abs {x : Int} (h : i64 x) : x.natAbs < w64 := by unfold i64 at h; have := w64_eq; omega

theorem s_bits_Mul64 {x y : Nat} (hx : x < w64) (hy : y < w64) : m_bits_Mul64 [U x, U y] = some [U ((x * y / w64 : Nat) : Int), U ((x * y % w64 : Nat) : Int)] := by
  rw [w64_eq] at hx hy
  have hu : ∀ z : Nat, z < 18446744073709551616 -> inU (z : Int) = true := by
    intro z hz
    have e64 : two64 = 18446744073709551616 := rfl
    simp only [inU, e64, Bool.and_eq_true, decide_eq_true_eq]
    omega
  show mul64 (x : Int) (y : Int) = _
  unfold mul64
  rw [hu x hx, hu y hy, w64_eq]
  rfl
theorem s_wide_product {x y : Nat} (hx : x < w64) (hy : y < w64) : m_wide_product [U x, U y] = some [U ((x * y / w64 : Nat) : Int), U ((x * y % w64 : Nat) : Int)] := by
  unfold m_wide_product
  rw [mf_wide_product_eq, s_bits_Mul64 hx hy]
  simp only [go_sem]

theorem s_wide_compare (a b c d : Nat) (hb : b < w64) (hd : d < w64) : m_wide_compare [U a, U b, U c, U d] = some [I (cmpN (a * w64 + b) (c * w64 + d))] := by
  unfold m_wide_compare
  rw [mf_wide_compare_eq]
  simp only [go_sem, and_true]
  unfold cmpN
  simp only [w64_eq] at *
  by_cases h1 : a < c
  · rw [if_pos (by omega), if_pos (by omega)]
  · rw [if_neg (by omega)]
    by_cases h2 : a = c
    · rw [if_pos (by omega)]
      by_cases h3 : b < d
      · rw [if_pos (by omega), if_pos (by omega)]
      · rw [if_neg (by omega)]
        by_cases h4 : b = d
        · rw [if_pos (by omega), if_neg (by omega), if_pos (by omega)]
        · rw [if_neg (by omega), if_neg (by omega), if_neg (by omega)]
    · rw [if_neg (by omega), if_neg (by omega), if_neg (by omega), if_neg (by omega)]

theorem sgn_mul (a b : Int) : sgn a b * ((a.natAbs * b.natAbs : Nat) : Int) = a * b := by
  unfold sgn
  by_cases h1 : a = 0
  · subst h1; simp
  · by_cases h2 : b = 0
    · subst h2; simp
    · rw [if_neg h1, if_neg h2]
      have e : ((a.natAbs * b.natAbs : Nat) : Int) = (a.natAbs : Int) * (b.natAbs : Int) := by simp
      rw [e]
      by_cases h3 : a < 0 <;> by_cases h4 : b < 0
      · rw [if_pos (by simp [h3, h4]), show (a.natAbs : Int) = -a by omega, show (b.natAbs : Int) = -b by omega, Int.neg_mul_neg, Int.one_mul]
      · rw [if_neg (by simp [h3, h4]), show (a.natAbs : Int) = -a by omega, show (b.natAbs : Int) = b by omega, Int.neg_mul, Int.one_mul, Int.neg_mul, Int.neg_neg]
      · rw [if_neg (by simp [h3, h4]), show (a.natAbs : Int) = a by omega, show (b.natAbs : Int) = -b by omega, Int.mul_neg, Int.neg_mul_neg, Int.one_mul]
      · rw [if_pos (by simp [h3, h4]), show (a.natAbs : Int) = a by omega, show (b.natAbs : Int) = b by omega, Int.one_mul]
theorem sgn_cases (a b : Int) : (sgn a b = 0 /\ a * b = 0) \/ (sgn a b = 1 /\ 0 < a * b) \/ (sgn a b = -1 /\ a * b < 0) := by
  have h := sgn_mul a b
  by_cases h1 : a = 0
  · subst h1; left; simp [sgn]
  · by_cases h2 : b = 0
    · subst h2; left; simp [sgn]
    · have hp : 0 < a.natAbs * b.natAbs := Nat.mul_pos (by omega) (by omega)
      generalize a.natAbs * b.natAbs = p at *
      generalize a * b = x at *
      unfold sgn at h ⊢
      rw [if_neg h1, if_neg h2] at h ⊢
      by_cases h3 : (a < 0 ↔ b < 0)
      · rw [if_pos h3] at h ⊢; right; left; exact ⟨rfl, by omega⟩
      · rw [if_neg h3] at h ⊢; right; right; exact ⟨rfl, by omega⟩

theorem cmp_sign {a b c d : Int} : (if sgn a b ≠ sgn c d then (if sgn a b < sgn c d then -1 else 1) else sgn a b * cmpN (a.natAbs * b.natAbs) (c.natAbs * d.natAbs)) = cmpI (a * b) (c * d) := by
  have h1 := sgn_mul a b
  have h2 := sgn_mul c d
  have k1 := sgn_cases a b
  have k2 := sgn_cases c d
  unfold cmpI cmpN
  generalize a.natAbs * b.natAbs = p at *
  generalize c.natAbs * d.natAbs = q at *
  generalize a * b = x at *
  generalize c * d = y at *
  generalize sgn a b = u at *
  generalize sgn c d = v at *
  rcases k1 with ⟨rfl, g1⟩ | ⟨rfl, g1⟩ | ⟨rfl, g1⟩ <;> rcases k2 with ⟨rfl, g2⟩ | ⟨rfl, g2⟩ | ⟨rfl, g2⟩
  · rw [if_neg (by simp), if_neg (show ¬ x < y by omega), if_pos (show x = y by omega)]; exact Int.zero_mul _
  · rw [if_pos (by simp), if_pos (by omega), if_pos (by omega)]
  · rw [if_pos (by simp), if_neg (by omega), if_neg (by omega), if_neg (by omega)]
  · rw [if_pos (by simp), if_neg (by omega), if_neg (by omega), if_neg (by omega)]
  · rw [if_neg (by simp)]
    have e1 : (p : Int) = x := by omega
    have e2 : (q : Int) = y := by omega
    by_cases h : x < y
    · rw [if_pos (by omega), if_pos h]; rfl
    · rw [if_neg (by omega), if_neg h]
      by_cases h' : x = y
      · rw [if_pos (by omega), if_pos h']; rfl
      · rw [if_neg (by omega), if_neg h']; rfl
  · rw [if_pos (by simp), if_neg (by omega), if_neg (by omega), if_neg (by omega)]
  · rw [if_pos (by simp), if_pos (by omega), if_pos (by omega)]
  · rw [if_pos (by simp), if_pos (by omega), if_pos (by omega)]
  · rw [if_neg (by simp)]
    have e1 : (p : Int) = -x := by omega
    have e2 : (q : Int) = -y := by omega
    by_cases h : x < y
    · rw [if_neg (by omega), if_neg (by omega), if_pos h]; rfl
    · rw [if_neg h]
      by_cases h' : x = y
      · rw [if_neg (by omega), if_pos (by omega), if_pos h']; rfl
      · rw [if_pos (by omega), if_neg h']; rfl

theorem divmod (p : Nat) : p / w64 * w64 + p % w64 = p := by have := Nat.div_add_mod p w64; rw [Nat.mul_comm] at this; exact this
theorem w64_pos : 0 < w64 := by rw [w64_eq]; omega
theorem cmpN_bound (p q : Nat) : -1 <= cmpN p q /\ cmpN p q <= 1 := by unfold cmpN; (repeat' split) <;> omega
theorem sgn_bound (a b : Int) : -1 <= sgn a b /\ sgn a b <= 1 := by unfold sgn; (repeat' split) <;> omega
theorem unit_mul {u v : Int} (hu : -1 <= u /\ u <= 1) (hv : -1 <= v /\ v <= 1) : -1 <= u * v /\ u * v <= 1 := by
  have : u = -1 \/ u = 0 \/ u = 1 := by omega
  rcases this with rfl | rfl | rfl <;> omega
theorem s_wide_product' {x y : Nat} (hx : x < w64) (hy : y < w64) : ∃ hi lo : Nat, m_wide_product [U x, U y] = some [U hi, U lo] /\ hi * w64 + lo = x * y /\ lo < w64 :=
  ⟨_, _, s_wide_product hx hy, divmod _, Nat.mod_lt _ w64_pos⟩
theorem a_wide_Cmp {a b c d : Int} (M1 M2 M3 M4 : List AC -> Option (List AC)) (h1 l1 h2 l2 : Nat)
   (ka : M3 [I a] = some [U a.natAbs]) (kb : M3 [I b] = some [U b.natAbs]) (kc : M3 [I c] = some [U c.natAbs]) (kd : M3 [I d] = some [U d.natAbs])
   (ks : ∀ a b, M4 [I a, I b] = some [I (sgn a b)])
   (e1 : M2 [U a.natAbs, U b.natAbs] = some [U h1, U l1]) (f1 : M2 [U c.natAbs, U d.natAbs] = some [U h2, U l2])
   (hcmp : M1 [U h1, U l1, U h2, U l2] = some [I (cmpN (a.natAbs * b.natAbs) (c.natAbs * d.natAbs))]) : mf_wide_Cmp M1 M2 M3 M4 [I a, I b, I c, I d] = some [I (cmpI (a * b) (c * d))] := by
  have hm := unit_mul (sgn_bound a b) (cmpN_bound (a.natAbs * b.natAbs) (c.natAbs * d.natAbs))
  rw [mf_wide_Cmp_eq]
  simp only [go_sem, ks, ka, kb, kc, kd, e1, f1, hcmp]
  rw [<- cmp_sign]
  rw [wrap_id (by omega)]
  by_cases h1 : sgn a b ≠ sgn c d
  · rw [if_pos h1, if_pos h1]
    by_cases h2 : sgn a b < sgn c d
    · rw [if_pos h2, if_pos h2]
    · rw [if_neg h2, if_neg h2]
  · rw [if_neg h1, if_neg h1]
theorem s_wide_Cmp {a b c d : Int} (ha : i64 a) (hb : i64 b) (hc : i64 c) (hd : i64 d) : m_wide_Cmp [I a, I b, I c, I d] = some [I (cmpI (a * b) (c * d))] := by
  obtain ⟨h1, l1, e1, e2, e3⟩ := s_wide_product' (i64_abs ha) (i64_abs hb)
  obtain ⟨h2, l2, f1, f2, f3⟩ := s_wide_product' (i64_abs hc) (i64_abs hd)
  have hcmp := s_wide_compare h1 l1 h2 l2 e3 f3
  rw [e2, f2] at hcmp
  unfold m_wide_Cmp
  exact a_wide_Cmp _ _ _ _ _ _ _ _ (s_wide_size ha) (s_wide_size hb) (s_wide_size hc) (s_wide_size hd) s_wide_sign e1 f1 hcmp
end Go.Bm
/- layer 1's reference: numbers as lists of digits to the base 65536 -/
set_option maxRecDepth 100000
namespace Go.Bm

abbrev uR (n : Nat) : List AC := [U n]
abbrev kUs : List Kd := [kU]
def val : List Nat -> Nat
 | [] => 0
 | d :: l => d + 65536 * val l
def Dig (l : List Nat) : Prop := ∀ d ∈ l, d < 65536
def Cut (l : List Nat) : Prop := ∀ h : l ≠ [], l.getLast h ≠ 0

theorem and_low (v : Nat) (h : v < w64) : IntKind.u64.wrap (((BitVec.ofInt IntKind.u64.bits (v : Int) &&& BitVec.ofInt IntKind.u64.bits 65535).toNat : Nat) : Int) = ((v % 65536 : Nat) : Int) := by
 rw [w64_eq] at h
 have e : (BitVec.ofInt IntKind.u64.bits (v : Int) &&& BitVec.ofInt IntKind.u64.bits 65535).toNat = v % 65536 := by
  rw [BitVec.toNat_and]
  have e1 : (BitVec.ofInt IntKind.u64.bits (v : Int)).toNat = v := by
   simp only [IntKind.bits, BitVec.toNat_ofInt]
   omega
  have e2 : (BitVec.ofInt IntKind.u64.bits 65535).toNat = 2 ^ 16 - 1 := by
   simp only [IntKind.bits, BitVec.toNat_ofInt]
   rfl
  rw [e1, e2, Nat.and_two_pow_sub_one_eq_mod]
 rw [e, uwrap_id (by omega)]
theorem shr16 (v : Nat) : (v : Int).fdiv (2 ^ min (Int.toNat 16) IntKind.u64.bits) = ((v / 65536 : Nat) : Int) := by
 have e : (2 ^ min (Int.toNat 16) IntKind.u64.bits : Int) = 65536 := rfl
 rw [e, Int.fdiv_eq_ediv_of_nonneg _ (by omega)]
 omega

def digs (n : Nat) : List Nat := if h : n = 0 then [] else n % 65536 :: digs (n / 65536)
termination_by n
decreasing_by omega
theorem digs_zero : digs 0 = [] := by unfold digs; simp
theorem digs_pos {n : Nat} (h : n ≠ 0) : digs n = n % 65536 :: digs (n / 65536) := by rw [digs, dif_neg h]
theorem digs_val (n : Nat) : val (digs n) = n := by
 induction n using Nat.strongRecOn with
 | _ n ih =>
  by_cases h : n = 0
  ·subst h; rw [digs_zero]; rfl
  ·rw [digs_pos h, val, ih _ (by omega)]; omega
theorem digs_dig (n : Nat) : Dig (digs n) := by
 induction n using Nat.strongRecOn with
 | _ n ih =>
  by_cases h : n = 0
  ·subst h; rw [digs_zero]; intro d hd; simp at hd
  ·rw [digs_pos h]
   intro d hd
   simp only [List.mem_cons] at hd
   rcases hd with rfl | hd
   ·omega
   ·exact ih _ (by omega) d hd
theorem digs_len (k : Nat) : ∀ n, n < 65536 ^ k -> (digs n).length <= k := by
 induction k with
 | zero => intro n h; simp at h; subst h; rw [digs_zero]; simp
 | succ k ih =>
  intro n h
  by_cases h0 : n = 0
  ·subst h0; rw [digs_zero]; simp
  ·rw [digs_pos h0]
   have := ih (n / 65536) (by rw [Nat.pow_succ] at h; exact Nat.div_lt_of_lt_mul (by rw [Nat.mul_comm]; exact h))
   simp; omega

theorem map_uR_append (l : List Nat) (d : Nat) : l.map uR ++ [[AC.int IntKind.u64 (d : Int)]] = (l ++ [d]).map uR := by simp

theorem l_limbs (n : Nat) : ∀ (acc : List Nat), n < w64 -> acc.length + (digs n).length <= 1000 -> l_cncref01_limbs_2 [.view kUs (acc.map uR), U n] = some (1, [.view kUs ((acc ++ digs n).map uR)]) := by
 induction n using Nat.strongRecOn with
 | _ n ih =>
  intro acc hn hl
  unfold l_cncref01_limbs_2
  by_cases h : n = 0
  ·subst h
   rw [digs_zero, List.append_nil]
   refine loop_end ?_ (by simp)
   rw [st_cncref01_limbs_2_eq]
   simp
  ·rw [digs_pos h] at hl ⊢
   have hstep : st_cncref01_limbs_2 [.view kUs (acc.map uR), U n] = some (0, [.view kUs ((acc ++ [n % 65536]).map uR), U ((n / 65536 : Nat) : Int)]) := by
    rw [st_cncref01_limbs_2_eq, and_low n hn, shr16]
    simp only [go_sem]
    rw [if_pos (by omega), map_uR_append, if_pos (by simp at hl ⊢; omega)]
   rw [loop_more hstep]
   have := ih (n / 65536) (by omega) (acc ++ [n % 65536]) (by omega) (by simp at hl ⊢; omega)
   unfold l_cncref01_limbs_2 at this
   rw [this, List.append_assoc]
   rfl
theorem w64_pow : w64 = 65536 ^ 4 := by rw [w64_eq]
theorem s_cncref01_limbs {n : Nat} (h : n < w64) : m_cncref01_limbs [U n] = some [.view kUs ((digs n).map uR)] := by
 have hl := digs_len 4 n (by rw [<- w64_pow]; exact h)
 have := l_limbs n [] h (by simp; omega)
 unfold m_cncref01_limbs
 rw [mf_cncref01_limbs_eq]
 simp only [List.map_nil, List.nil_append] at this
 rw [this]
 rfl

theorem val_append : ∀ (a b : List Nat), val (a ++ b) = val a + 65536 ^ a.length * val b
 | [], b => by simp [val]
 | d :: a, b => by
  simp only [List.cons_append, val, List.length_cons, Nat.pow_succ, val_append a b]
  rw [Nat.mul_add, Nat.mul_comm (65536 ^ a.length) 65536, Nat.mul_assoc]
  omega
theorem val_lt : ∀ {l : List Nat}, Dig l -> val l < 65536 ^ l.length
 | [], _ => by simp [val]
 | d :: l, h => by
  have h1 := h d (by simp)
  have h2 := val_lt (l := l) fun x hx => h x (by simp [hx])
  simp only [val, List.length_cons, Nat.pow_succ]
  omega
theorem val_ge : ∀ {l : List Nat}, Cut l -> (h : l ≠ []) -> 65536 ^ (l.length - 1) <= val l
 | [], _, h => absurd rfl h
 | [d], hc, _ => by have := hc (by simp); simp [val] at this ⊢; omega
 | d :: e :: l, hc, _ => by
  have := val_ge (l := e :: l) (fun h => by have := hc (by simp); rw [List.getLast_cons h] at this; exact this) (by simp)
  simp only [val, List.length_cons] at this ⊢
  simp only [Nat.add_sub_cancel] at this ⊢
  rw [Nat.pow_succ]
  omega
theorem Dig.sub {l m : List Nat} (h : Dig l) (hs : ∀ d ∈ m, d ∈ l) : Dig m := fun d hd => h d (hs d hd)

theorem l_cut : ∀ (n : Nat) (l : List Nat), l.length = n -> n <= 1000 -> Dig l -> ∃ c : List Nat, l_cncref01_cut_1 [.view kUs (l.map uR)] = some (1, [.view kUs (c.map uR)]) /\ val c = val l /\ Dig c /\ Cut c /\ c.length <= l.length
 | 0, l, hl, _, hd => by
  have : l = [] := List.eq_nil_of_length_eq_zero hl
  subst this
  refine ⟨[], ?_, rfl, hd, fun h => absurd rfl h, Nat.le_refl _⟩
  unfold l_cncref01_cut_1
  refine loop_end ?_ (by simp)
  rw [st_cncref01_cut_1_eq]
  simp
 | n + 1, l, hl, hn, hd => by
  have hw : IntKind.i64.wrap ((l.map uR).length - 1 : Int) = (n : Int) := by rw [wrap_id (by simp; omega)]; simp; omega
  have hlast : nth [] (l.map uR) n = uR (l[n]'(by omega)) := nth_map uR [] l n (by omega)
  have hsplit : l = l.take n ++ [l[n]'(by omega)] := by
   have := List.take_append_drop n l
   rw [getElem_take_drop l n (by omega), List.drop_of_length_le (by omega)] at this
   exact this.symm
  have hstep : st_cncref01_cut_1 [.view kUs (l.map uR)] = if l[n]'(by omega) = 0 then some (0, [.view kUs ((l.take n).map uR)]) else some (1, [.view kUs (l.map uR)]) := by
   rw [st_cncref01_cut_1_eq, hw]
   simp only [Int.toNat_natCast, hlast]
   simp only [go_sem, List.map_take]
   rw [if_pos (by simp; omega), if_pos (by simp; omega)]
   by_cases h0 : l[n]'(by omega) = 0
   ·rw [if_pos (by omega), if_pos (by simp; omega), if_pos h0]
   ·rw [if_neg (by omega), if_neg h0]
  by_cases h0 : l[n]'(by omega) = 0
  ·rw [if_pos h0] at hstep
   obtain ⟨c, h1, h2, h3, h4, h5⟩ := l_cut n (l.take n) (by simp; omega) (by omega) (hd.sub fun d h => List.mem_of_mem_take h)
   refine ⟨c, ?_, ?_, h3, h4, by simp at h5; omega⟩
   ·unfold l_cncref01_cut_1 at h1 ⊢
    rw [loop_more hstep]; exact h1
   ·rw [h2]
    conv => rhs; rw [hsplit, val_append, h0]
    simp [val]
  ·rw [if_neg h0] at hstep
   refine ⟨l, ?_, rfl, hd, fun hne => ?_, Nat.le_refl _⟩
   ·unfold l_cncref01_cut_1
    exact loop_end hstep (by simp)
   ·have : l.getLast hne = l[n]'(by omega) := by rw [List.getLast_eq_getElem]; congr 1; omega
    rw [this]; exact h0
theorem s_cncref01_cut {l : List Nat} (hl : l.length <= 1000) (hd : Dig l) : ∃ c : List Nat, m_cncref01_cut [.view kUs (l.map uR)] = some [.view kUs (c.map uR)] /\ val c = val l /\ Dig c /\ Cut c /\ c.length <= l.length := by
 obtain ⟨c, h1, h2⟩ := l_cut _ l rfl hl hd
 refine ⟨c, ?_, h2⟩
 unfold m_cncref01_cut
 rw [mf_cncref01_cut_eq, h1]
 rfl

theorem val_take_succ (l : List Nat) (k : Nat) (h : k < l.length) : val (l.take (k + 1)) = val (l.take k) + 65536 ^ k * l[k] := by
 rw [List.take_succ_eq_append_getElem h, val_append]
 simp [val, Nat.min_eq_left (Nat.le_of_lt h)]
theorem val_take_lt {l : List Nat} (hd : Dig l) (k : Nat) (h : k <= l.length) : val (l.take k) < 65536 ^ k := by
 have := val_lt (hd.sub (m := l.take k) fun d h => List.mem_of_mem_take h)
 simpa [Nat.min_eq_left h] using this
theorem lead_lt {p q a b P : Nat} (hp : p < P) (hab : a < b) : p + P * a < q + P * b := by
 have h1 : P * (a + 1) <= P * b := Nat.mul_le_mul_left P hab
 rw [Nat.mul_add] at h1
 omega
theorem l_cmp {a b : List Nat} (hab : a.length = b.length) (ha : Dig a) (hb : Dig b) (hl : a.length <= 1000) : ∀ k, k <= a.length ->
  l_cncref01_cmp_6 [.view kUs (a.map uR), .view kUs (b.map uR), I ((k : Int) - 1)] = if val (a.take k) = val (b.take k) then some (2, []) else some (1, [I (cmpN (val (a.take k)) (val (b.take k)))])
 | 0, _ => by
  unfold l_cncref01_cmp_6
  rw [if_pos (by simp)]
  refine loop_end ?_ (by simp)
  rw [st_cncref01_cmp_6_eq]
  simp only [go_sem]
  rw [if_neg (by omega)]
 | k + 1, hk => by
  have e1 : nth [] (a.map uR) k = uR (a[k]'(by omega)) := nth_map uR [] a k (by omega)
  have e2 : nth [] (b.map uR) k = uR (b[k]'(by omega)) := nth_map uR [] b k (by omega)
  have hstep : st_cncref01_cmp_6 [.view kUs (a.map uR), .view kUs (b.map uR), I (((k + 1 : Nat) : Int) - 1)] =
    if a[k]'(by omega) < b[k]'(by omega) then some (1, [I (-1)]) else if a[k]'(by omega) > b[k]'(by omega) then some (1, [I 1]) else some (0, [.view kUs (a.map uR), .view kUs (b.map uR), I ((k : Int) - 1)]) := by
   rw [show (((k + 1 : Nat) : Int) - 1) = (k : Int) by omega, st_cncref01_cmp_6_eq]
   simp only [Int.toNat_natCast, e1, e2]
   simp only [go_sem]
   rw [if_pos (by omega), if_pos (by simp; omega), if_pos (by simp; omega), wrap_id (by omega)]
   by_cases h1 : a[k]'(by omega) < b[k]'(by omega)
   ·rw [if_pos (by omega), if_pos h1]
   ·rw [if_neg (by omega), if_neg h1, if_pos (by simp; omega), if_pos (by simp; omega)]
    by_cases h2 : a[k]'(by omega) > b[k]'(by omega)
    ·rw [if_pos (by omega), if_pos h2]
    ·rw [if_neg (by omega), if_neg h2]
  have ih := l_cmp hab ha hb hl k (by omega)
  unfold l_cncref01_cmp_6 at ih ⊢
  rw [val_take_succ a k (by omega), val_take_succ b k (by omega)]
  have p1 := val_take_lt ha k (by omega)
  have p2 := val_take_lt hb k (by omega)
  by_cases h1 : a[k]'(by omega) < b[k]'(by omega)
  ·rw [if_pos h1] at hstep
   have := lead_lt (q := val (b.take k)) p1 h1
   rw [loop_end hstep (by simp), if_neg (by omega)]
   unfold cmpN
   rw [if_pos this]
  ·rw [if_neg h1] at hstep
   by_cases h2 : a[k]'(by omega) > b[k]'(by omega)
   ·rw [if_pos h2] at hstep
    have := lead_lt (q := val (a.take k)) p2 h2
    rw [loop_end hstep (by simp), if_neg (by omega)]
    unfold cmpN
    rw [if_neg (by omega), if_neg (by omega)]
   ·rw [if_neg h2] at hstep
    have h3 : a[k]'(by omega) = b[k]'(by omega) := by omega
    rw [loop_more hstep, ih, h3]
    by_cases h4 : val (a.take k) = val (b.take k)
    ·rw [if_pos h4, if_pos (by omega)]
    ·rw [if_neg h4, if_neg (by omega)]
     unfold cmpN
     by_cases h5 : val (a.take k) < val (b.take k)
     ·rw [if_pos h5, if_pos (by omega)]
     ·rw [if_neg h5, if_neg h4, if_neg (by omega), if_neg (by omega)]
theorem s_cncref01_cmp {a b : List Nat} (ha : Dig a) (hb : Dig b) (ca : Cut a) (cb : Cut b) (la : a.length <= 1000) :
  m_cncref01_cmp [.view kUs (a.map uR), .view kUs (b.map uR)] = some [I (cmpN (val a) (val b))] := by
 unfold m_cncref01_cmp
 rw [mf_cncref01_cmp_eq]
 by_cases hab : a.length = b.length
 ·have := l_cmp hab ha hb la a.length (Nat.le_refl _)
  rw [List.take_length, hab, List.take_length] at this
  have hw : IntKind.i64.wrap (((a.map uR).length : Int) - 1) = (b.length : Int) - 1 := by rw [wrap_id (by simp; omega)]; simp; omega
  rw [hw, this]
  simp only [go_sem]
  rw [if_neg (by simp; omega)]
  by_cases h : val a = val b
  ·rw [if_pos h]
   simp [cmpN, h]
  ·rw [if_neg h]
   simp only [go_sem, if_true]
 ·simp only [go_sem]
  rw [if_pos (by simp; omega)]
  have key : ∀ {a b : List Nat}, Dig a -> Cut b -> a.length < b.length -> val a < val b := by
   intro a b ha cb h
   have h1 := val_lt ha
   have h2 := val_ge cb (by intro e; subst e; simp at h)
   have h3 : 65536 ^ a.length <= 65536 ^ (b.length - 1) := Nat.pow_le_pow_right (by omega) (by omega)
   omega
  unfold cmpN
  by_cases h : a.length < b.length
  ·have := key ha cb h
   rw [if_pos (by simp; omega), if_pos this]
  ·have := key hb ca (by omega)
   rw [if_neg (by simp; omega), if_neg (by omega), if_neg (by omega)]
end Go.Bm
/- layer 1's reference: the product of numbers as lists of digits, and the comparison of products -/
set_option maxRecDepth 100000
namespace Go.Bm

theorem val_set : ∀ (l : List Nat) (j : Nat) (h : j < l.length) (d : Nat), val (l.set j d) + 65536 ^ j * l[j] = val l + 65536 ^ j * d
 | [], j, h, d => by simp at h
 | x :: l, 0, h, d => by simp [val]; omega
 | x :: l, j + 1, h, d => by
  have := val_set l j (by simpa using h) d
  simp only [List.set_cons_succ, val, List.getElem_cons_succ, Nat.pow_succ]
  have e : ∀ z, 65536 ^ j * 65536 * z = 65536 * (65536 ^ j * z) := fun z => by rw [Nat.mul_comm (65536 ^ j) 65536, Nat.mul_assoc]
  rw [e, e]
  omega
theorem Dig.set {l : List Nat} (h : Dig l) (j d : Nat) (hd : d < 65536) : Dig (l.set j d) := by
 intro x hx
 rcases List.mem_or_eq_of_mem_set hx with h' | rfl
 ·exact h x h'
 ·exact hd
theorem map_uR_set (l : List Nat) (j d : Nat) : (l.map uR).set j [AC.int IntKind.u64 (d : Int)] = (l.set j d).map uR := by rw [List.map_set]

theorem st_mul_in {M : List AC -> Option (List AC)} {out a b : List Nat} {i k c : Nat} (ho : Dig out) (ha : Dig a) (hb : Dig b) (hc : c < 65536) (hi : i < a.length) (hk : k < b.length) (hl : out.length = a.length + b.length) (hn : a.length + b.length <= 1000) :
  st_cncref01_mul_7 M [.view kUs (out.map uR), .view kUs (a.map uR), .view kUs (b.map uR), I i, U c, I k] =
   some (0, [.view kUs ((out.set (i + k) ((out[i + k]'(by omega) + a[i] * b[k] + c) % 65536)).map uR), .view kUs (a.map uR), .view kUs (b.map uR), I i, U (((out[i + k]'(by omega) + a[i] * b[k] + c) / 65536 : Nat) : Int), I ((k + 1 : Nat) : Int)]) := by
 have h1 := ho (out[i + k]'(by omega)) (List.getElem_mem _)
 have h2 := ha a[i] (List.getElem_mem _)
 have h3 := hb b[k] (List.getElem_mem _)
 have e1 : nth [] (out.map uR) (i + k) = uR (out[i + k]'(by omega)) := nth_map uR [] out _ (by omega)
 have e2 : nth [] (a.map uR) i = uR a[i] := nth_map uR [] a _ hi
 have e3 : nth [] (b.map uR) k = uR b[k] := nth_map uR [] b _ hk
 have h4 : a[i] * b[k] <= 65535 * 65535 := Nat.mul_le_mul (by omega) (by omega)
 have hw : IntKind.i64.wrap ((i : Int) + (k : Int)) = ((i + k : Nat) : Int) := by rw [wrap_id (by omega)]; omega
 have hv : IntKind.u64.wrap (IntKind.u64.wrap ((out[i + k]'(by omega) : Int) + IntKind.u64.wrap ((a[i] : Int) * (b[k] : Int))) + (c : Int)) = ((out[i + k]'(by omega) + a[i] * b[k] + c : Nat) : Int) := by
  have e : ((a[i] : Int) * (b[k] : Int)) = ((a[i] * b[k] : Nat) : Int) := by simp
  rw [e]
  generalize a[i] * b[k] = p at *
  rw [uwrap_id (x := (p : Int)) (by omega), uwrap_id (x := (out[i + k]'(by omega) : Int) + (p : Int)) (by omega), uwrap_id (by omega)]
  omega
 rw [st_cncref01_mul_7_eq, hw]
 simp only [Int.toNat_natCast, e1, e2, e3]
 have ee : ∀ n : Nat, intOf (nth AC.dead (uR n) 0) = (n : Int) := fun n => rfl
 rw [ee, ee, ee, hv, and_low _ (by rw [w64_eq]; omega), shr16]
 simp only [go_sem]
 rw [if_pos (by simp; omega), if_pos (by simp; omega), if_pos (by simp; omega), if_pos (by simp; omega), if_pos (by simp; omega), wrap_id (by omega), map_uR_set]
 rfl

theorem l_mul_in {M : List AC -> Option (List AC)} {a b : List Nat} {i : Nat} (ha : Dig a) (hb : Dig b) (hi : i < a.length) (hn : a.length + b.length <= 1000) (P : Nat) : ∀ (m k : Nat) (out : List Nat) (c : Nat), m = b.length - k -> k <= b.length -> Dig out -> c < 65536 -> out.length = a.length + b.length ->
  (∀ j (h : j < out.length), i + b.length <= j -> out[j] = 0) -> val out + c * 65536 ^ (i + k) = P + a[i] * 65536 ^ i * val (b.take k) ->
  ∃ (out' : List Nat) (c' : Nat), loopC (st_cncref01_mul_7 M) [.view kUs (out.map uR), .view kUs (a.map uR), .view kUs (b.map uR), I i, U c, I k] = some (1, [.view kUs (out'.map uR), .view kUs (a.map uR), .view kUs (b.map uR), I i, U c']) /\
   Dig out' /\ c' < 65536 /\ out'.length = a.length + b.length /\ (∀ j (h : j < out'.length), i + b.length <= j -> out'[j] = 0) /\ val out' + c' * 65536 ^ (i + b.length) = P + a[i] * 65536 ^ i * val b
 | 0, k, out, c, hm, hk, ho, hc, hl, hz, hv => by
  have hkb : k = b.length := by omega
  subst hkb
  rw [List.take_length] at hv
  refine ⟨out, c, ?_, ho, hc, hl, hz, hv⟩
  refine loop_end ?_ (by simp)
  rw [st_cncref01_mul_7_eq]
  simp only [go_sem]
  rw [if_neg (by simp)]
 | m + 1, k, out, c, hm, hk, ho, hc, hl, hz, hv => by
  have hkb : k < b.length := by omega
  rw [loop_more (st_mul_in ho ha hb hc hi hkb hl hn)]
  have h1 := ho (out[i + k]'(by omega)) (List.getElem_mem _)
  have h2 := ha a[i] (List.getElem_mem _)
  have h3 := hb b[k] (List.getElem_mem _)
  have h4 : a[i] * b[k] <= 65535 * 65535 := Nat.mul_le_mul (by omega) (by omega)
  refine l_mul_in ha hb hi hn P m (k + 1) _ _ (by omega) (by omega) (ho.set _ _ (Nat.mod_lt _ (by omega))) (by generalize a[i] * b[k] = p at *; omega) (by simpa using hl) ?_ ?_
  ·intro j hj hij
   rw [List.getElem_set_ne (by omega)]
   exact hz j (by simpa using hj) hij
  ·have hs := val_set out (i + k) (by omega) ((out[i + k]'(by omega) + a[i] * b[k] + c) % 65536)
   rw [val_take_succ b k hkb]
   have hdm := Nat.div_add_mod (out[i + k]'(by omega) + a[i] * b[k] + c) 65536
   generalize (out[i + k]'(by omega) + a[i] * b[k] + c) % 65536 = r at *
   generalize (out[i + k]'(by omega) + a[i] * b[k] + c) / 65536 = q at *
   generalize val (out.set (i + k) r) = V at *
   generalize out[i + k]'(by omega) = x at *
   have e1 : 65536 ^ (i + (k + 1)) = 65536 ^ (i + k) * 65536 := by rw [<- Nat.add_assoc, Nat.pow_succ]
   have e2 : a[i] * 65536 ^ i * (val (b.take k) + 65536 ^ k * b[k]) = a[i] * 65536 ^ i * val (b.take k) + 65536 ^ (i + k) * (a[i] * b[k]) := by
    rw [Nat.mul_add, Nat.pow_add]
    congr 1
    rw [Nat.mul_comm a[i], Nat.mul_assoc, Nat.mul_assoc]
    congr 1
    rw [<- Nat.mul_assoc, Nat.mul_comm a[i], Nat.mul_assoc]
   rw [e1, e2]
   generalize a[i] * 65536 ^ i * val (b.take k) = A at *
   generalize a[i] * b[k] = p at *
   generalize 65536 ^ (i + k) = B at *
   have h5 : B * (x + p + c) = B * (65536 * q + r) := by rw [hdm]
   simp only [Nat.mul_add] at h5
   have h6 : q * (B * 65536) = B * (65536 * q) := by rw [Nat.mul_comm q, Nat.mul_assoc]
   have h7 : c * B = B * c := Nat.mul_comm _ _
   omega

theorem l_mul {M : List AC -> Option (List AC)} {a b : List Nat} (ha : Dig a) (hb : Dig b) (hn : a.length + b.length <= 1000) : ∀ (m i : Nat) (out : List Nat), m = a.length - i -> i <= a.length -> Dig out -> out.length = a.length + b.length ->
  (∀ j (h : j < out.length), i + b.length <= j -> out[j] = 0) -> val out = val (a.take i) * val b ->
  ∃ out' : List Nat, loopC (st_cncref01_mul_3 M (loopC (st_cncref01_mul_7 M))) [.view kUs (out.map uR), .view kUs (a.map uR), .view kUs (b.map uR), I i] = some (1, [.view kUs (out'.map uR)]) /\
   Dig out' /\ out'.length = a.length + b.length /\ val out' = val a * val b
 | 0, i, out, hm, hi, ho, hl, hz, hv => by
  have hia : i = a.length := by omega
  subst hia
  rw [List.take_length] at hv
  refine ⟨out, ?_, ho, hl, hv⟩
  refine loop_end ?_ (by simp)
  rw [st_cncref01_mul_3_eq]
  simp only [go_sem]
  rw [if_neg (by simp)]
 | m + 1, i, out, hm, hi, ho, hl, hz, hv => by
  have hia : i < a.length := by omega
  obtain ⟨out1, c1, h1, h2, h3, h4, h5, h6⟩ := l_mul_in (M := M) ha hb hia hn (val out) b.length 0 out 0 (by omega) (by omega) ho (by omega) hl hz (by simp [val])
  have hz1 := h5 (i + b.length) (by omega) (Nat.le_refl _)
  have e1 : nth [] (out1.map uR) (i + b.length) = uR (out1[i + b.length]'(by omega)) := nth_map uR [] out1 _ (by omega)
  have hstep : st_cncref01_mul_3 M (loopC (st_cncref01_mul_7 M)) [.view kUs (out.map uR), .view kUs (a.map uR), .view kUs (b.map uR), I i] =
    some (0, [.view kUs ((out1.set (i + b.length) c1).map uR), .view kUs (a.map uR), .view kUs (b.map uR), I ((i + 1 : Nat) : Int)]) := by
   generalize loopC (st_cncref01_mul_7 M) = N at *
   rw [st_cncref01_mul_3_eq]
   rw [show (N [AC.view [Kd.int IntKind.u64] (out.map uR), AC.view [Kd.int IntKind.u64] (a.map uR), AC.view [Kd.int IntKind.u64] (b.map uR), AC.int IntKind.i64 (i : Int), AC.int IntKind.u64 0, AC.int IntKind.i64 0]) = _ from h1]
   have hw : IntKind.i64.wrap ((i : Int) + ((b.map uR).length : Int)) = ((i + b.length : Nat) : Int) := by rw [wrap_id (by simp; omega)]; simp
   simp only [go_sem, hw, Int.toNat_natCast, e1, hz1]
   rw [if_pos (by simp; omega), if_pos (by simp; omega), if_pos (by simp; omega), wrap_id (by omega)]
   have : IntKind.u64.wrap (((0 : Nat) : Int) + (c1 : Int)) = (c1 : Int) := by rw [uwrap_id (by omega)]; simp
   rw [this, map_uR_set]
   rfl
  rw [loop_more hstep]
  refine l_mul ha hb hn m (i + 1) _ (by omega) (by omega) (h2.set _ _ h3) (by simpa using h4) ?_ ?_
  ·intro j hj hij
   rw [List.getElem_set_ne (by omega)]
   exact h5 j (by simpa using hj) (by omega)
  ·have hs := val_set out1 (i + b.length) (by omega) c1
   rw [hz1] at hs
   rw [val_take_succ a i hia, Nat.add_mul, <- hv]
   have e2 : a[i] * 65536 ^ i * val b = 65536 ^ i * a[i] * val b := by rw [Nat.mul_comm a[i]]
   have e3 : c1 * 65536 ^ (i + b.length) = 65536 ^ (i + b.length) * c1 := Nat.mul_comm _ _
   omega
theorem a_cncref01_mul {M : List AC -> Option (List AC)} (hM : ∀ l : List Nat, l.length <= 1000 -> Dig l -> ∃ c : List Nat, M [.view kUs (l.map uR)] = some [.view kUs (c.map uR)] /\ val c = val l /\ Dig c /\ Cut c /\ c.length <= l.length)
  {a b : List Nat} (ha : Dig a) (hb : Dig b) (hn : a.length + b.length <= 1000) :
  ∃ c : List Nat, mf_cncref01_mul M (loopC (st_cncref01_mul_7 M)) (loopC (st_cncref01_mul_3 M (loopC (st_cncref01_mul_7 M)))) [.view kUs (a.map uR), .view kUs (b.map uR)] = some [.view kUs (c.map uR)] /\ val c = val a * val b /\ Dig c /\ Cut c /\ c.length <= a.length + b.length := by
 have hrep : ∀ n, val (List.replicate n 0) = 0 := by
  intro n
  induction n with
  | zero => rfl
  | succ n ih => simp [List.replicate_succ, val, ih]
 obtain ⟨out, h1, h2, h3, h4⟩ := l_mul (M := M) ha hb hn a.length 0 (List.replicate (a.length + b.length) 0) (by omega) (by omega) (fun d hd => by simp at hd; omega) (by simp) (fun j h _ => by simp) (by rw [hrep]; simp [val])
 obtain ⟨c, g1, g2, g3, g4, g5⟩ := hM out (by omega) h2
 refine ⟨c, ?_, by rw [g2, h4], g3, g4, by omega⟩
 generalize loopC (st_cncref01_mul_3 M (loopC (st_cncref01_mul_7 M))) = N3 at *
 generalize loopC (st_cncref01_mul_7 M) = N7 at *
 rw [mf_cncref01_mul_eq]
 have hw : IntKind.i64.wrap (((a.map uR).length : Int) + ((b.map uR).length : Int)) = ((a.length + b.length : Nat) : Int) := by rw [wrap_id (by simp; omega)]; simp
 have hrm : List.replicate (a.length + b.length) [AC.int IntKind.u64 0] = (List.replicate (a.length + b.length) 0).map uR := by simp
 simp only [hw, Int.toNat_natCast, hrm]
 rw [show (N3 [AC.view [Kd.int IntKind.u64] ((List.replicate (a.length + b.length) 0).map uR), AC.view [Kd.int IntKind.u64] (a.map uR), AC.view [Kd.int IntKind.u64] (b.map uR), AC.int IntKind.i64 0]) = _ from h1]
 simp only [go_sem]
 rw [if_pos (by omega), show M [AC.view [Kd.int IntKind.u64] (out.map uR)] = _ from g1]
 simp only [go_sem]
theorem s_cncref01_mul {a b : List Nat} (ha : Dig a) (hb : Dig b) (hn : a.length + b.length <= 1000) :
  ∃ c : List Nat, m_cncref01_mul [.view kUs (a.map uR), .view kUs (b.map uR)] = some [.view kUs (c.map uR)] /\ val c = val a * val b /\ Dig c /\ Cut c /\ c.length <= a.length + b.length :=
 a_cncref01_mul (fun _ hl hd => s_cncref01_cut hl hd) ha hb hn
theorem a_cncref01_product {M1 M2 M3 : List AC -> Option (List AC)} {x y : Int} {a b c : List Nat} (h1 : M3 [I x] = some [U x.natAbs]) (h2 : M3 [I y] = some [U y.natAbs]) (h3 : M2 [U x.natAbs] = some [.view kUs (a.map uR)]) (h4 : M2 [U y.natAbs] = some [.view kUs (b.map uR)])
  (h5 : M1 [.view kUs (a.map uR), .view kUs (b.map uR)] = some [.view kUs (c.map uR)]) : mf_cncref01_product M1 M2 M3 [I x, I y] = some [.view kUs (c.map uR)] := by
 rw [mf_cncref01_product_eq]
 simp only [go_sem, h1, h2, h3, h4, h5]
theorem s_cncref01_product {x y : Int} (hx : i64 x) (hy : i64 y) : ∃ c : List Nat, m_cncref01_product [I x, I y] = some [.view kUs (c.map uR)] /\ val c = x.natAbs * y.natAbs /\ Dig c /\ Cut c /\ c.length <= 8 := by
 have l1 := digs_len 4 x.natAbs (by rw [<- w64_pow]; exact i64_abs hx)
 have l2 := digs_len 4 y.natAbs (by rw [<- w64_pow]; exact i64_abs hy)
 obtain ⟨c, h1, h2, h3, h4, h5⟩ := s_cncref01_mul (digs_dig x.natAbs) (digs_dig y.natAbs) (by omega)
 rw [digs_val, digs_val] at h2
 exact ⟨c, a_cncref01_product (s_cncref01_mag hx) (s_cncref01_mag hy) (s_cncref01_limbs (i64_abs hx)) (s_cncref01_limbs (i64_abs hy)) h1, h2, h3, h4, by omega⟩
theorem a_cncref01_Cmp {M1 M2 M3 : List AC -> Option (List AC)} {a b c d : Int} {p q : List Nat} (ks : ∀ a b, M3 [I a, I b] = some [I (sgn a b)]) (h1 : M2 [I a, I b] = some [.view kUs (p.map uR)]) (h2 : M2 [I c, I d] = some [.view kUs (q.map uR)])
  (h3 : M1 [.view kUs (p.map uR), .view kUs (q.map uR)] = some [I (cmpN (a.natAbs * b.natAbs) (c.natAbs * d.natAbs))]) : mf_cncref01_Cmp M1 M2 M3 [I a, I b, I c, I d] = some [I (cmpI (a * b) (c * d))] := by
 have hm := unit_mul (sgn_bound a b) (cmpN_bound (a.natAbs * b.natAbs) (c.natAbs * d.natAbs))
 rw [mf_cncref01_Cmp_eq]
 simp only [go_sem, ks, h1, h2, h3]
 rw [<- cmp_sign, wrap_id (by omega)]
 by_cases g1 : sgn a b < sgn c d
 ·rw [if_pos g1, if_pos (by omega), if_pos g1]
 ·rw [if_neg g1]
  by_cases g2 : sgn a b > sgn c d
  ·rw [if_pos g2, if_pos (by omega), if_neg g1]
  ·rw [if_neg g2, if_neg (by omega)]
theorem s_cncref01_Cmp {a b c d : Int} (ha : i64 a) (hb : i64 b) (hc : i64 c) (hd : i64 d) : m_cncref01_Cmp [I a, I b, I c, I d] = some [I (cmpI (a * b) (c * d))] := by
 obtain ⟨p, p1, p2, p3, p4, p5⟩ := s_cncref01_product ha hb
 obtain ⟨q, q1, q2, q3, q4, q5⟩ := s_cncref01_product hc hd
 refine a_cncref01_Cmp s_cncref01_sign p1 q1 ?_
 rw [<- p2, <- q2]
 exact s_cncref01_cmp p3 q3 p4 q4 (by omega)
end Go.Bm
/- points as vectors: bounds, inner products, differences; when a point is near a straight line -/
set_option maxRecDepth 100000
namespace Go.Bm
def bd (A : Nat) (p : Pt) : Prop := p.x.natAbs <= A /\ p.y.natAbs <= A /\ p.z.natAbs <= A
theorem mul_bd {x y : Int} {A B : Nat} (hx : x.natAbs <= A) (hy : y.natAbs <= B) : (x * y).natAbs <= A * B := by rw [Int.natAbs_mul]; exact Nat.mul_le_mul hx hy
theorem bd_mono {A B : Nat} {a : Pt} (h : bd A a) (hab : A <= B) : bd B a := ⟨Nat.le_trans h.1 hab, Nat.le_trans h.2.1 hab, Nat.le_trans h.2.2 hab⟩

theorem cmpI_le {x y : Int} : cmpI x y <= 0 ↔ x <= y := by
 unfold cmpI
 by_cases h : x < y
 ·rw [if_pos h]; omega
 ·rw [if_neg h]
  by_cases h' : x = y
  ·rw [if_pos h']; omega
  ·rw [if_neg h']; omega

end Go.Bm
/- small points; numbers modulo n -/
set_option maxRecDepth 100000
namespace Go.Bm
theorem s_cncref23_small (p : Pt) (l : Int) (hl : 0 <= l /\ l <= 1000000000) : ∃ r, m_cncref23_small [I p.x, I p.y, I p.z, I l] = some [B r] /\ (r = true ↔ bd l.toNat p) := by
 unfold m_cncref23_small
 rw [mf_cncref23_small_eq]
 simp only [go_sem]
 rw [wrap_id (by omega)]
 unfold bd
 by_cases h1 : p.x < 0 - l
 ·rw [if_pos h1]; exact ⟨_, rfl, by simp; omega⟩
 rw [if_neg h1]
 by_cases h2 : p.x > l
 ·rw [if_pos h2]; exact ⟨_, rfl, by simp; omega⟩
 rw [if_neg h2]
 by_cases h3 : p.y < 0 - l
 ·rw [if_pos h3]; exact ⟨_, rfl, by simp; omega⟩
 rw [if_neg h3]
 by_cases h4 : p.y > l
 ·rw [if_pos h4]; exact ⟨_, rfl, by simp; omega⟩
 rw [if_neg h4]
 by_cases h5 : p.z < 0 - l
 ·rw [if_pos h5]; exact ⟨_, rfl, by simp; omega⟩
 rw [if_neg h5]
 by_cases h6 : p.z > l
 ·rw [if_pos h6]; exact ⟨_, rfl, by simp; omega⟩
 rw [if_neg h6]
 exact ⟨_, rfl, by simp; omega⟩
theorem s_cncmill_Mod {v n : Int} (_ : i64 v) (hn : 0 < n /\ n <= 4611686018427387904) : m_cncmill_Mod [I v, I n] = some [I (v % n)] := by
 unfold m_cncmill_Mod
 rw [mf_cncmill_Mod_eq, bif_neg (by omega), bif_neg (by omega)]
 have h1 : -n < v.tmod n /\ v.tmod n < n := by
  have a1 := Int.tmod_lt_of_pos v hn.1
  have a2 := Int.lt_tmod_of_pos v hn.1
  omega
 rw [wrap_id (by omega)]
 have h2 : (v.tmod n + n).tmod n = v % n := by
  rw [Int.tmod_eq_emod_of_nonneg (by omega), Int.add_emod_right]
  have h3 := Int.tmod_add_mul_tdiv v n
  have h4 : v % n = (v.tmod n + n * v.tdiv n) % n := by rw [h3]
  rw [h4, Int.add_mul_emod_self_left]
 rw [h2]
end Go.Bm
/- what the makers of items give: numbers of a source, turned vectors -/
set_option maxRecDepth 100000
namespace Go.Bm

def Src (l : List (List AC)) : Prop := l.length <= 9223372036854775807 /\ ∀ c ∈ l, i64 (intOf (nth .dead c 0))
theorem nth_mem' {l : List (List AC)} {i : Nat} (h : i < l.length) : nth [] l i ∈ l := by rw [nth_get [] l i h]; exact List.getElem_mem h
theorem a_Next {M : List AC -> Option (List AC)} (hM : ∀ v n : Int, i64 v -> 0 < n /\ n <= 4611686018427387904 -> M [I v, I n] = some [I (v % n)]) {l : List (List AC)} (hl : Src l) {k : Nat} {n : Int} (hn : 0 < n /\ n <= 4611686018427387904) :
  ∃ (v : Int) (k' : Nat), mf_cncmill_Source_Next M [I n, .view kInts l, I k] = some [I v, .view kInts l, I k'] /\ 0 <= v /\ v < n /\ k <= k' /\ (k < l.length -> k' = k + 1) /\ (l.length <= k -> k' = k) := by
 have hl1 := hl.1
 rw [mf_cncmill_Source_Next_eq]
 by_cases h : k < l.length
 ·have h1 := hM _ n (hl.2 _ (nth_mem' h)) hn
  simp only [go_sem, Int.toNat_natCast, h1]
  rw [if_neg (by omega), if_pos (by omega), wrap_id (by omega)]
  exact ⟨_, k + 1, rfl, Int.emod_nonneg _ (by omega), Int.emod_lt_of_pos _ hn.1, by omega, fun _ => rfl, by omega⟩
 ·simp only [go_sem]
  rw [if_pos (by omega)]
  exact ⟨0, k, rfl, by omega, hn.1, by omega, by omega, fun _ => rfl⟩
theorem s_Next {l : List (List AC)} (hl : Src l) (k : Nat) {n : Int} (hn : 0 < n /\ n <= 4611686018427387904) :
  ∃ (v : Int) (k' : Nat), m_cncmill_Source_Next [I n, .view kInts l, I k] = some [I v, .view kInts l, I k'] /\ 0 <= v /\ v < n /\ k <= k' /\ (k < l.length -> k' = k + 1) /\ (l.length <= k -> k' = k) :=
 a_Next (fun _ _ hv hn => s_cncmill_Mod hv hn) hl hn
theorem s_From (l : List (List AC)) : m_cncmill_From [.view kInts l] = some [.view kInts l, I 0] := by
 unfold m_cncmill_From
 rw [mf_cncmill_From_eq]

def rotU (r : Int) (k : Int) : Int := if k % 4 = 0 then r else if k % 4 = 2 then -r else 0
def rotW (r : Int) (k : Int) : Int := if k % 4 = 1 then r else if k % 4 = 3 then -r else 0
theorem s_turned {r k : Int} (hr : 0 <= r /\ r <= 1000000) (hk : 0 <= k /\ k <= 1000) : m_cncmill_turned [I r, I k] = some [I (rotU r k), I (rotW r k)] := by
 unfold m_cncmill_turned
 rw [mf_cncmill_turned_eq, wrap_id (by omega), Int.tmod_eq_emod_of_nonneg hk.1]
 have hc : k % 4 = 0 \/ k % 4 = 1 \/ k % 4 = 2 \/ k % 4 = 3 := by omega
 unfold rotU rotW
 rcases hc with h | h | h | h <;> rw [h] <;> simp [nth, intOf]
end Go.Bm
/- the items that the laws' maker of items gives: arcs, motions, lists of motions -/
set_option maxRecDepth 100000
namespace Go.Bm

def plU (pl : Int) (p : Pt) : Int := if pl = 17 then p.x else if pl = 18 then p.z else p.y
def plW (pl : Int) (p : Pt) : Int := if pl = 17 then p.y else if pl = 18 then p.x else p.z
def plH (pl : Int) (p : Pt) : Int := if pl = 17 then p.z else if pl = 18 then p.y else p.x
def spP (pl u w h : Int) : Pt := if pl = 17 then ⟨u, w, h⟩ else if pl = 18 then ⟨w, h, u⟩ else ⟨h, u, w⟩
def isPl (pl : Int) : Prop := pl = 17 \/ pl = 18 \/ pl = 19
theorem s_Plane {p : Pt} {pl : Int} (h : isPl pl) : m_cncref23_Plane [I p.x, I p.y, I p.z, I pl] = some [I (plU pl p), I (plW pl p), I (plH pl p)] := by
 unfold m_cncref23_Plane
 rw [mf_cncref23_Plane_eq]
 rcases h with rfl | rfl | rfl <;> rfl
theorem s_Space {u w h pl : Int} (hp : isPl pl) : m_cncref23_Space [I u, I w, I h, I pl] = some (ptR (spP pl u w h)) := by
 unfold m_cncref23_Space
 rw [mf_cncref23_Space_eq]
 rcases hp with rfl | rfl | rfl <;> rfl
theorem pl_sp {pl u w h : Int} (hp : isPl pl) : plU pl (spP pl u w h) = u /\ plW pl (spP pl u w h) = w /\ plH pl (spP pl u w h) = h := by
 rcases hp with rfl | rfl | rfl <;> exact ⟨rfl, rfl, rfl⟩
structure ArcMade (size : Int) (it : Itm) : Prop where
 kind : it.kind = 3
 plane : isPl it.plane
 dir : it.dir = 1 \/ it.dir = -1
 ends : ∃ r k t g h : Int, 8 <= r /\ r < 8 + size /\ 0 <= k /\ k <= 3 /\ 0 <= t /\ t <= 3 /\ 0 <= g /\ g <= 4 /\ (h = 0 \/ h = 7 \/ h = -12) /\ (t = 0 -> g = 0) /\ it.full = decide (t = 0) /\
  it.ce = spP it.plane (plU it.plane it.fr - rotU r k) (plW it.plane it.fr - rotW r k) (plH it.plane it.fr) /\
  it.to = spP it.plane (plU it.plane it.fr - rotU r k + rotU (r + g) (k + t)) (plW it.plane it.fr - rotW r k + rotW (r + g) (k + t)) (plH it.plane it.fr + h)

theorem rot_bd {r k : Int} (hr : 0 <= r) : (-r <= rotU r k /\ rotU r k <= r) /\ (-r <= rotW r k /\ rotW r k <= r) := by
 unfold rotU rotW
 constructor <;> constructor <;> split <;> (try split) <;> omega
theorem rot_div {r : Int} (hr : 1 <= r) (k : Int) : ((rotU r k).tdiv r = rotU 1 k) /\ ((rotW r k).tdiv r = rotW 1 k) := by
 have h1 : r.tdiv r = 1 := Int.tdiv_self (by omega)
 have h2 : (-r).tdiv r = -1 := by rw [Int.neg_tdiv, h1]
 unfold rotU rotW
 constructor <;> split <;> (try split) <;> simp [h1, h2]
theorem rot_far (r k e f : Int) : ∃ g, (g = e \/ g = f) /\ rotU r k + rotU 1 k * e = rotU (r + g) k /\ rotW r k + rotW 1 k * f = rotW (r + g) k := by
 unfold rotU rotW
 by_cases h : k % 4 = 0 \/ k % 4 = 2
 ·refine ⟨e, .inl rfl, ?_, ?_⟩
  ·rcases h with h | h <;> simp [h] <;> omega
  ·rcases h with h | h <;> simp [h]
 ·have hc : k % 4 = 1 \/ k % 4 = 3 := by omega
  refine ⟨f, .inr rfl, ?_, ?_⟩
  ·rcases hc with h | h <;> simp [h]
  ·rcases hc with h | h <;> simp [h] <;> omega
theorem pl_bd {pl : Int} {p : Pt} {b : Nat} (h : bd b p) : (plU pl p).natAbs <= b /\ (plW pl p).natAbs <= b /\ (plH pl p).natAbs <= b := by
 obtain ⟨h1, h2, h3⟩ := h
 unfold plU plW plH
 refine ⟨?_, ?_, ?_⟩ <;> split <;> (try split) <;> assumption

def NextOK (l : List (List AC)) (M : List AC -> Option (List AC)) : Prop := ∀ (k : Nat) {n : Int}, 0 < n /\ n <= 4611686018427387904 ->
  ∃ (v : Int) (k' : Nat), M [I n, .view kInts l, I k] = some [I v, .view kInts l, I k'] /\ 0 <= v /\ v < n /\ k <= k' /\ (k < l.length -> k' = k + 1) /\ (l.length <= k -> k' = k)
abbrev blank (it : Itm) : Prop := it.block = 0 /\ it.side = 0 /\ it.radius = 0 /\ it.speed = 0 /\ it.on = false
theorem plane_at {v : Int} (h : 0 <= v /\ v < 3) : intOf (nth .dead (nth [] [[I 17], [I 18], [I 19]] v.toNat) 0) = 17 + v := by
 have hc : v = 0 \/ v = 1 \/ v = 2 := by omega
 rcases hc with rfl | rfl | rfl <;> rfl
theorem height_at {v : Int} (h : 0 <= v /\ v < 4) : ∃ x, intOf (nth .dead (nth [] [[I 0], [I 0], [I 7], [I (-12)]] v.toNat) 0) = x /\ (x = 0 \/ x = 7 \/ x = -12) := by
 have hc : v = 0 \/ v = 1 \/ v = 2 \/ v = 3 := by omega
 rcases hc with rfl | rfl | rfl | rfl <;> exact ⟨_, rfl, by decide⟩

theorem a_arc {MS MT MP MN : List AC -> Option (List AC)} {l : List (List AC)} (hN : NextOK l MN)
  (hP : ∀ {p : Pt} {pl : Int}, isPl pl -> MP [I p.x, I p.y, I p.z, I pl] = some [I (plU pl p), I (plW pl p), I (plH pl p)])
  (hS : ∀ {u w h pl : Int}, isPl pl -> MS [I u, I w, I h, I pl] = some (ptR (spP pl u w h)))
  (hT : ∀ {r k : Int}, (0 <= r /\ r <= 1000000) -> (0 <= k /\ k <= 1000) -> MT [I r, I k] = some [I (rotU r k), I (rotW r k)])
  {p : Pt} (hp : bd 100000000 p) {size : Int} (hs : 0 < size /\ size <= 100000) (k : Nat) :
  ∃ (it : Itm) (k' : Nat), mf_cncmill_arc MS MT MP MN [I p.x, I p.y, I p.z, I size, .view kInts l, I k] = some (itmR it ++ [.view kInts l, I k']) /\ k <= k' /\ it.fr = p /\ ArcMade size it /\
   it.feed = 0 /\ it.perRev = false /\ it.blend = 0 /\ it.n = 0 /\ blank it := by
 obtain ⟨v1, k1, e1, a1, b1, c1, -, -⟩ := hN k (n := 3) (by omega)
 obtain ⟨v2, k2, e2, a2, b2, c2, -, -⟩ := hN k1 (n := 2) (by omega)
 obtain ⟨v3, k3, e3, a3, b3, c3, -, -⟩ := hN k2 (n := size) (by omega)
 obtain ⟨v4, k4, e4, a4, b4, c4, -, -⟩ := hN k3 (n := 4) (by omega)
 obtain ⟨v5, k5, e5, a5, b5, c5, -, -⟩ := hN k4 (n := 4) (by omega)
 rw [mf_cncmill_arc_eq]
 simp only [go_sem, e1, e2, e3, e4, e5]
 rw [if_pos (by simp; omega)]
 have hpl : isPl (17 + v1) := by unfold isPl; omega
 have w1 : IntKind.i64.wrap (8 + v3) = 8 + v3 := wrap_id (by omega)
 have w2 : IntKind.i64.wrap (v4 + v5) = v4 + v5 := wrap_id (by omega)
 simp only [plane_at ⟨a1, b1⟩, hP hpl, go_sem, w1, w2, hT (r := 8 + v3) (k := v4) (by omega) (by omega), hT (r := 8 + v3) (k := v4 + v5) (by omega) (by omega), hS hpl]
 obtain ⟨q1, q2, q3⟩ := pl_bd (pl := 17 + v1) hp
 obtain ⟨⟨r1, r2⟩, r3, r4⟩ := rot_bd (r := 8 + v3) (k := v4) (by omega)
 obtain ⟨⟨r5, r6⟩, r7, r8⟩ := rot_bd (r := 8 + v3) (k := v4 + v5) (by omega)
 obtain ⟨d1, d2⟩ := rot_div (r := 8 + v3) (by omega) (v4 + v5)
 obtain ⟨⟨r9, r10⟩, r11, r12⟩ := rot_bd (r := 1) (k := v4 + v5) (by omega)
 have w3 : IntKind.i64.wrap (plU (17 + v1) p - rotU (8 + v3) v4) = plU (17 + v1) p - rotU (8 + v3) v4 := wrap_id (by omega)
 have w4 : IntKind.i64.wrap (plW (17 + v1) p - rotW (8 + v3) v4) = plW (17 + v1) p - rotW (8 + v3) v4 := wrap_id (by omega)
 have w5 : IntKind.i64.wrap (1 - IntKind.i64.wrap (v2 * 2)) = 1 - v2 * 2 := by rw [wrap_id (x := v2 * 2) (by omega), wrap_id (by omega)]
 have w6 : IntKind.i64.wrap (plU (17 + v1) p - rotU (8 + v3) v4 + rotU (8 + v3) (v4 + v5)) = plU (17 + v1) p - rotU (8 + v3) v4 + rotU (8 + v3) (v4 + v5) := wrap_id (by omega)
 have w7 : IntKind.i64.wrap (plW (17 + v1) p - rotW (8 + v3) v4 + rotW (8 + v3) (v4 + v5)) = plW (17 + v1) p - rotW (8 + v3) v4 + rotW (8 + v3) (v4 + v5) := wrap_id (by omega)
 rw [w3, w4, w5, w6, w7]
 have hdir : 1 - v2 * 2 = 1 \/ 1 - v2 * 2 = -1 := by omega
 -- the last steps of all three ways
 have fin : ∀ (g : Int) (u w : Int) (k8 : Nat), k5 <= k8 -> 0 <= g -> g <= 4 -> (v5 = 0 -> g = 0) -> u = rotU (8 + v3 + g) (v4 + v5) -> w = rotW (8 + v3 + g) (v4 + v5) -> ∀ v9 : Int, 0 <= v9 /\ v9 < 4 ->
   ∃ it : Itm, [I 3, I 0, I p.x, I p.y, I p.z, I (spP (17 + v1) (plU (17 + v1) p - rotU (8 + v3) v4 + u) (plW (17 + v1) p - rotW (8 + v3) v4 + w) (plH (17 + v1) p + intOf (nth .dead (nth [] [[I 0], [I 0], [I 7], [I (-12)]] v9.toNat) 0))).x,
    I (spP (17 + v1) (plU (17 + v1) p - rotU (8 + v3) v4 + u) (plW (17 + v1) p - rotW (8 + v3) v4 + w) (plH (17 + v1) p + intOf (nth .dead (nth [] [[I 0], [I 0], [I 7], [I (-12)]] v9.toNat) 0))).y,
    I (spP (17 + v1) (plU (17 + v1) p - rotU (8 + v3) v4 + u) (plW (17 + v1) p - rotW (8 + v3) v4 + w) (plH (17 + v1) p + intOf (nth .dead (nth [] [[I 0], [I 0], [I 7], [I (-12)]] v9.toNat) 0))).z,
    I (17 + v1), I (spP (17 + v1) (plU (17 + v1) p - rotU (8 + v3) v4) (plW (17 + v1) p - rotW (8 + v3) v4) (plH (17 + v1) p)).x, I (spP (17 + v1) (plU (17 + v1) p - rotU (8 + v3) v4) (plW (17 + v1) p - rotW (8 + v3) v4) (plH (17 + v1) p)).y, I (spP (17 + v1) (plU (17 + v1) p - rotU (8 + v3) v4) (plW (17 + v1) p - rotW (8 + v3) v4) (plH (17 + v1) p)).z,
    I (1 - v2 * 2), B (decide (v5 = 0)), I 0, B false, I 0, I 0, I 0, I 0, I 0, B false, .view kInts l, I k8] = itmR it ++ [.view kInts l, I k8] /\ it.fr = p /\ ArcMade size it /\ it.feed = 0 /\ it.perRev = false /\ it.blend = 0 /\ it.n = 0 /\ blank it := by
  intro g u w k8 hk8 hg0 hg4 hg5 hu hw v9 hv9
  obtain ⟨x, hx, hx3⟩ := height_at hv9
  rw [hx]
  refine ⟨⟨3, 0, p, _, 17 + v1, _, 1 - v2 * 2, decide (v5 = 0), 0, false, 0, 0, 0, 0, 0, false⟩, rfl, rfl, ⟨rfl, hpl, hdir, 8 + v3, v4, v5, g, x, ?_⟩, rfl, rfl, rfl, rfl, rfl, rfl, rfl, rfl, rfl⟩
  subst hu hw
  exact ⟨by omega, by omega, by omega, by omega, by omega, by omega, hg0, hg4, hx3, hg5, rfl, rfl, rfl⟩
 have hgh : ∀ v9 : Int, 0 <= v9 /\ v9 < 4 -> IntKind.i64.wrap (plH (17 + v1) p + intOf (nth .dead (nth [] [[I 0], [I 0], [I 7], [I (-12)]] v9.toNat) 0)) = plH (17 + v1) p + intOf (nth .dead (nth [] [[I 0], [I 0], [I 7], [I (-12)]] v9.toNat) 0) := by
  intro v9 hv9
  obtain ⟨x, hx, hx3⟩ := height_at hv9
  rw [hx]
  exact wrap_id (by omega)
 have hfull : (v5 == 0) = decide (v5 = 0) := rfl
 by_cases hv5 : v5 > 0
 ·rw [if_pos hv5]
  obtain ⟨v6, k6, e6, a6, b6, c6, -, -⟩ := hN k5 (n := 3) (by omega)
  simp only [go_sem, e6]
  by_cases hv6 : v6 = 0
  ·rw [if_pos hv6, if_neg (by omega)]
   obtain ⟨v7, k7, e7, a7, b7, c7, -, -⟩ := hN k6 (n := 5) (by omega)
   obtain ⟨v8, k8, e8, a8, b8, c8, -, -⟩ := hN k7 (n := 5) (by omega)
   obtain ⟨v9, k9, e9, a9, b9, c9, -, -⟩ := hN k8 (n := 4) (by omega)
   simp only [go_sem, e7, e8, e9]
   rw [if_neg (by omega), if_pos (by simp; omega), hgh v9 ⟨a9, b9⟩, d1, d2]
   obtain ⟨g, hg, hu, hw⟩ := rot_far (8 + v3) (v4 + v5) v7 v8
   have mu : -4 <= rotU 1 (v4 + v5) * v7 /\ rotU 1 (v4 + v5) * v7 <= 4 := by
    have hc : rotU 1 (v4 + v5) = -1 \/ rotU 1 (v4 + v5) = 0 \/ rotU 1 (v4 + v5) = 1 := by omega
    rcases hc with h | h | h <;> rw [h] <;> omega
   have mw : -4 <= rotW 1 (v4 + v5) * v8 /\ rotW 1 (v4 + v5) * v8 <= 4 := by
    have hc : rotW 1 (v4 + v5) = -1 \/ rotW 1 (v4 + v5) = 0 \/ rotW 1 (v4 + v5) = 1 := by omega
    rcases hc with h | h | h <;> rw [h] <;> omega
   rw [wrap_id (x := rotU 1 (v4 + v5)) (by omega), wrap_id (x := rotW 1 (v4 + v5)) (by omega), wrap_id (x := rotU 1 (v4 + v5) * v7) (by omega), wrap_id (x := rotW 1 (v4 + v5) * v8) (by omega),
    wrap_id (x := rotU (8 + v3) (v4 + v5) + _) (by omega), wrap_id (x := rotW (8 + v3) (v4 + v5) + _) (by omega), hu, hw]
   obtain ⟨⟨s1, s2⟩, s3, s4⟩ := rot_bd (r := 8 + v3 + g) (k := v4 + v5) (by omega)
   rw [wrap_id (x := _ + rotU (8 + v3 + g) (v4 + v5)) (by omega), wrap_id (x := _ + rotW (8 + v3 + g) (v4 + v5)) (by omega)]
   obtain ⟨it, h1, h2⟩ := fin g _ _ k9 (by omega) (by omega) (by omega) (by omega) rfl rfl v9 ⟨a9, b9⟩
   refine ⟨it, k9, ?_, by omega, h2⟩
   exact congrArg some h1
  ·rw [if_neg hv6]
   obtain ⟨v9, k9, e9, a9, b9, c9, -, -⟩ := hN k6 (n := 4) (by omega)
   simp only [go_sem, e9]
   rw [if_pos (by simp; omega), hgh v9 ⟨a9, b9⟩]
   obtain ⟨it, h1, h2⟩ := fin 0 _ _ k9 (by omega) (by omega) (by omega) (by omega) (by rw [Int.add_zero]) (by rw [Int.add_zero]) v9 ⟨a9, b9⟩
   refine ⟨it, k9, ?_, by omega, h2⟩
   exact congrArg some h1
 ·rw [if_neg hv5]
  obtain ⟨v9, k9, e9, a9, b9, c9, -, -⟩ := hN k5 (n := 4) (by omega)
  simp only [go_sem, e9]
  rw [if_pos (by simp; omega), hgh v9 ⟨a9, b9⟩]
  obtain ⟨it, h1, h2⟩ := fin 0 _ _ k9 (by omega) (by omega) (by omega) (by omega) (by rw [Int.add_zero]) (by rw [Int.add_zero]) v9 ⟨a9, b9⟩
  refine ⟨it, k9, ?_, by omega, h2⟩
  exact congrArg some h1
theorem nextOK {l : List (List AC)} (hl : Src l) : NextOK l m_cncmill_Source_Next := fun k _ hn => s_Next hl k hn
theorem s_arc {l : List (List AC)} (hl : Src l) {p : Pt} (hp : bd 100000000 p) {size : Int} (hs : 0 < size /\ size <= 100000) (k : Nat) :
  ∃ (it : Itm) (k' : Nat), m_cncmill_arc [I p.x, I p.y, I p.z, I size, .view kInts l, I k] = some (itmR it ++ [.view kInts l, I k']) /\ k <= k' /\ it.fr = p /\ ArcMade size it /\
   it.feed = 0 /\ it.perRev = false /\ it.blend = 0 /\ it.n = 0 /\ blank it :=
 a_arc (nextOK hl) s_Plane s_Space s_turned hp hs k
end Go.Bm
/- motions and lists of motions, as the maker makes them -/
set_option maxRecDepth 100000
namespace Go.Bm

structure Made (it : Itm) : Prop where
 kind : 1 <= it.kind /\ it.kind <= 6
 line : it.kind ≠ 3 -> (it.to.x - it.fr.x).natAbs <= 16 /\ (it.to.y - it.fr.y).natAbs <= 16 /\ (it.to.z - it.fr.z).natAbs <= 16
 arc : it.kind = 3 -> ArcMade 8 it
 feed : it.kind ≠ 1 -> 1 <= it.feed /\ it.feed <= 60000000
 blend : 0 <= it.blend /\ it.blend <= 9
 sync : it.kind = 5 \/ it.kind = 6 -> it.blend = 0 /\ it.feed <= 60
 free : it.kind <= 4 -> it.perRev = false
 full : it.kind ≠ 3 -> it.full = false
end Go.Bm
/- the maker's list of motions -/
set_option maxRecDepth 100000
namespace Go.Bm

def Chained : Pt -> List Itm -> Prop
 | _, [] => True
 | p, it :: l => it.fr = p /\ Chained it.to l
structure Motions (B : Nat) (p : Pt) (l : List Itm) : Prop where
 chain : Chained p l
 made : ∀ it ∈ l, Made it /\ blank it /\ it.kind <= 3 /\ bd B it.fr /\ bd B it.to
theorem arc_bd {size : Int} {b : Nat} {it : Itm} (h : ArcMade size it) (hs : size <= 1000) (hf : bd b it.fr) : bd (b + 2 * (12 + size.toNat)) it.to /\ bd (b + 8 + size.toNat) it.ce := by
 obtain ⟨r, k, t, g, x, h1, h2, h3, h4, h5, h6, h7, h8, h9, h10, h11, h12, h13⟩ := h.ends
 obtain ⟨q1, q2, q3⟩ := pl_bd (pl := it.plane) hf
 obtain ⟨⟨r1, r2⟩, r3, r4⟩ := rot_bd (r := r) (k := k) (by omega)
 obtain ⟨⟨r5, r6⟩, r7, r8⟩ := rot_bd (r := r + g) (k := k + t) (by omega)
 rw [h12, h13]
 unfold bd spP
 constructor <;> split <;> (try split) <;> refine ⟨?_, ?_, ?_⟩ <;> simp only <;> omega
end Go.Bm
