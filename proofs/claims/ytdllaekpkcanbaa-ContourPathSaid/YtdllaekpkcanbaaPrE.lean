/- laid together -/
import Derived.Test.YtdllaekpkcanbaaMx5
import Derived.Test.YtdllaekpkcanbaaBmTy
set_option linter.unusedVariables false
set_option linter.unusedSimpArgs false
/- what the functions of package wide and of layer 1's reference give -/
set_option maxRecDepth 100000
namespace Go.Bm

theorem Qhh {x : Int} (h : i64 x) : Qem [I x] = some [U (x.natAbs : Int)] := by
  unfold i64 at h
  unfold Qem
  rw [mf_wide_size_eq]
  by_cases hx : x < 0
  · rw [Qhd hx, Qab (x := x + 1) (by omega), Qab (x := 0 - (x + 1)) (by omega), Qeh (x := 0 - (x + 1)) (by omega), Qeh (x := 0 - (x + 1) + 1) (by omega)]
    rw [show 0 - (x + 1) + 1 = (x.natAbs : Int) by omega]
  · rw [Qcl hx, Qeh (x := x) (by omega)]
    rw [show x = (x.natAbs : Int) by omega]
    simp
def sgn (a b : Int) : Int := if a = 0 then 0 else if b = 0 then 0 else if (a < 0 ↔ b < 0) then 1 else -1
theorem s_wide_sign (a b : Int) : Qel [I a, I b] = some [I (sgn a b)] := by
  unfold Qel
  rw [mf_wide_sign_eq]
  simp only [go_sem]
  unfold sgn
  repeat' split
  all_goals rfl
def cmpN (a b : Nat) : Int := if a < b then -1 else if a = b then 0 else 1
def cmpI (a b : Int) : Int := if a < b then -1 else if a = b then 0 else 1
noncomputable def w64 : Nat := Classical.choose (⟨18446744073709551616, rfl⟩ : ∃ n : Nat, n = 18446744073709551616)
theorem Qdr : w64 = 18446744073709551616 := Classical.choose_spec (⟨18446744073709551616, rfl⟩ : ∃ n : Nat, n = 18446744073709551616)
theorem i64_abs {x : Int} (h : i64 x) : x.natAbs < w64 := by unfold i64 at h; have := Qdr; omega

theorem s_bits_Mul64 {x y : Nat} (hx : x < w64) (hy : y < w64) : Qed [U x, U y] = some [U ((x * y / w64 : Nat) : Int), U ((x * y % w64 : Nat) : Int)] := by
  rw [Qdr] at hx hy
  have hu : ∀ z : Nat, z < 18446744073709551616 -> inU (z : Int) = true := by
    intro z hz
    have e64 : two64 = 18446744073709551616 := rfl
    simp only [inU, e64, Bool.and_eq_true, decide_eq_true_eq]
    omega
  show mul64 (x : Int) (y : Int) = _
  unfold mul64
  rw [hu x hx, hu y hy, Qdr]
  rfl
theorem s_wide_product {x y : Nat} (hx : x < w64) (hy : y < w64) : Qbp [U x, U y] = some [U ((x * y / w64 : Nat) : Int), U ((x * y % w64 : Nat) : Int)] := by
  unfold Qbp
  rw [mf_wide_product_eq, s_bits_Mul64 hx hy]
  simp only [go_sem]

theorem s_wide_compare (a b c d : Nat) (hb : b < w64) (hd : d < w64) : Qd3 [U a, U b, U c, U d] = some [I (cmpN (a * w64 + b) (c * w64 + d))] := by
  unfold Qd3
  rw [mf_wide_compare_eq]
  simp only [go_sem, and_true]
  unfold cmpN
  simp only [Qdr] at *
  by_cases h1 : a < c
  · rw [if_pos (by omega), if_pos (by omega)]
  · rw [if_neg (by omega)]
    by_cases h2 : a = c
    · rw [if_pos (by omega)]
      by_cases h3 : b < d
      · rw [if_pos (by omega), if_pos (by omega)]
      · rw [if_neg (by omega)]
        by_cases h4 : b = d
        · rw [if_pos (by omega), if_neg (by omega), if_pos (by omega)]
        · rw [if_neg (by omega), if_neg (by omega), if_neg (by omega)]
    · rw [if_neg (by omega), if_neg (by omega), if_neg (by omega), if_neg (by omega)]

theorem sgn_mul (a b : Int) : sgn a b * ((a.natAbs * b.natAbs : Nat) : Int) = a * b := by
  unfold sgn
  by_cases h1 : a = 0
  · subst h1; simp
  · by_cases h2 : b = 0
    · subst h2; simp
    · rw [if_neg h1, if_neg h2]
      have e : ((a.natAbs * b.natAbs : Nat) : Int) = (a.natAbs : Int) * (b.natAbs : Int) := by simp
      rw [e]
      by_cases h3 : a < 0 <;> by_cases h4 : b < 0
      · rw [if_pos (by simp [h3, h4]), show (a.natAbs : Int) = -a by omega, show (b.natAbs : Int) = -b by omega, Int.neg_mul_neg, Int.one_mul]
      · rw [if_neg (by simp [h3, h4]), show (a.natAbs : Int) = -a by omega, show (b.natAbs : Int) = b by omega, Int.neg_mul, Int.one_mul, Int.neg_mul, Int.neg_neg]
      · rw [if_neg (by simp [h3, h4]), show (a.natAbs : Int) = a by omega, show (b.natAbs : Int) = -b by omega, Int.mul_neg, Int.neg_mul_neg, Int.one_mul]
      · rw [if_pos (by simp [h3, h4]), show (a.natAbs : Int) = a by omega, show (b.natAbs : Int) = b by omega, Int.one_mul]
theorem sgn_cases (a b : Int) : (sgn a b = 0 /\ a * b = 0) \/ (sgn a b = 1 /\ 0 < a * b) \/ (sgn a b = -1 /\ a * b < 0) := by
  have h := sgn_mul a b
  by_cases h1 : a = 0
  · subst h1; left; simp [sgn]
  · by_cases h2 : b = 0
    · subst h2; left; simp [sgn]
    · have hp : 0 < a.natAbs * b.natAbs := Nat.mul_pos (by omega) (by omega)
      generalize a.natAbs * b.natAbs = p at *
      generalize a * b = x at *
      unfold sgn at h ⊢
      rw [if_neg h1, if_neg h2] at h ⊢
      by_cases h3 : (a < 0 ↔ b < 0)
      · rw [if_pos h3] at h ⊢; right; left; exact ⟨rfl, by omega⟩
      · rw [if_neg h3] at h ⊢; right; right; exact ⟨rfl, by omega⟩

theorem cmp_sign {a b c d : Int} : (if sgn a b ≠ sgn c d then (if sgn a b < sgn c d then -1 else 1) else sgn a b * cmpN (a.natAbs * b.natAbs) (c.natAbs * d.natAbs)) = cmpI (a * b) (c * d) := by
  have h1 := sgn_mul a b
  have h2 := sgn_mul c d
  have k1 := sgn_cases a b
  have k2 := sgn_cases c d
  unfold cmpI cmpN
  generalize a.natAbs * b.natAbs = p at *
  generalize c.natAbs * d.natAbs = q at *
  generalize a * b = x at *
  generalize c * d = y at *
  generalize sgn a b = u at *
  generalize sgn c d = v at *
  rcases k1 with ⟨rfl, g1⟩ | ⟨rfl, g1⟩ | ⟨rfl, g1⟩ <;> rcases k2 with ⟨rfl, g2⟩ | ⟨rfl, g2⟩ | ⟨rfl, g2⟩
  · rw [if_neg (by simp), if_neg (show ¬ x < y by omega), if_pos (show x = y by omega)]; exact Int.zero_mul _
  · rw [if_pos (by simp), if_pos (by omega), if_pos (by omega)]
  · rw [if_pos (by simp), if_neg (by omega), if_neg (by omega), if_neg (by omega)]
  · rw [if_pos (by simp), if_neg (by omega), if_neg (by omega), if_neg (by omega)]
  · rw [if_neg (by simp)]
    have e1 : (p : Int) = x := by omega
    have e2 : (q : Int) = y := by omega
    by_cases h : x < y
    · rw [if_pos (by omega), if_pos h]; rfl
    · rw [if_neg (by omega), if_neg h]
      by_cases h' : x = y
      · rw [if_pos (by omega), if_pos h']; rfl
      · rw [if_neg (by omega), if_neg h']; rfl
  · rw [if_pos (by simp), if_neg (by omega), if_neg (by omega), if_neg (by omega)]
  · rw [if_pos (by simp), if_pos (by omega), if_pos (by omega)]
  · rw [if_pos (by simp), if_pos (by omega), if_pos (by omega)]
  · rw [if_neg (by simp)]
    have e1 : (p : Int) = -x := by omega
    have e2 : (q : Int) = -y := by omega
    by_cases h : x < y
    · rw [if_neg (by omega), if_neg (by omega), if_pos h]; rfl
    · rw [if_neg h]
      by_cases h' : x = y
      · rw [if_neg (by omega), if_pos (by omega), if_pos h']; rfl
      · rw [if_pos (by omega), if_neg h']; rfl

theorem divmod (p : Nat) : p / w64 * w64 + p % w64 = p := by have := Nat.div_add_mod p w64; rw [Nat.mul_comm] at this; exact this
theorem w64_pos : 0 < w64 := by rw [Qdr]; omega
theorem cmpN_bound (p q : Nat) : -1 <= cmpN p q /\ cmpN p q <= 1 := by unfold cmpN; (repeat' split) <;> omega
theorem sgn_bound (a b : Int) : -1 <= sgn a b /\ sgn a b <= 1 := by unfold sgn; (repeat' split) <;> omega
theorem unit_mul {u v : Int} (hu : -1 <= u /\ u <= 1) (hv : -1 <= v /\ v <= 1) : -1 <= u * v /\ u * v <= 1 := by
  have : u = -1 \/ u = 0 \/ u = 1 := by omega
  rcases this with rfl | rfl | rfl <;> omega
theorem Qg8 {x y : Nat} (hx : x < w64) (hy : y < w64) : ∃ hi lo : Nat, Qbp [U x, U y] = some [U hi, U lo] /\ hi * w64 + lo = x * y /\ lo < w64 :=
  ⟨_, _, s_wide_product hx hy, divmod _, Nat.mod_lt _ w64_pos⟩
theorem a_wide_Cmp {a b c d : Int} (M1 M2 M3 M4 : List AC -> Option (List AC)) (h1 l1 h2 l2 : Nat)
   (ka : M3 [I a] = some [U a.natAbs]) (kb : M3 [I b] = some [U b.natAbs]) (kc : M3 [I c] = some [U c.natAbs]) (kd : M3 [I d] = some [U d.natAbs])
   (ks : ∀ a b, M4 [I a, I b] = some [I (sgn a b)])
   (e1 : M2 [U a.natAbs, U b.natAbs] = some [U h1, U l1]) (f1 : M2 [U c.natAbs, U d.natAbs] = some [U h2, U l2])
   (hcmp : M1 [U h1, U l1, U h2, U l2] = some [I (cmpN (a.natAbs * b.natAbs) (c.natAbs * d.natAbs))]) : mf_wide_Cmp M1 M2 M3 M4 [I a, I b, I c, I d] = some [I (cmpI (a * b) (c * d))] := by
  have hm := unit_mul (sgn_bound a b) (cmpN_bound (a.natAbs * b.natAbs) (c.natAbs * d.natAbs))
  rw [mf_wide_Cmp_eq]
  simp only [go_sem, ks, ka, kb, kc, kd, e1, f1, hcmp]
  rw [<- cmp_sign]
  rw [Qab (by omega)]
  by_cases h1 : sgn a b ≠ sgn c d
  · rw [if_pos h1, if_pos h1]
    by_cases h2 : sgn a b < sgn c d
    · rw [if_pos h2, if_pos h2]
    · rw [if_neg h2, if_neg h2]
  · rw [if_neg h1, if_neg h1]
theorem s_wide_Cmp {a b c d : Int} (ha : i64 a) (hb : i64 b) (hc : i64 c) (hd : i64 d) : Qen [I a, I b, I c, I d] = some [I (cmpI (a * b) (c * d))] := by
  obtain ⟨h1, l1, e1, e2, e3⟩ := Qg8 (i64_abs ha) (i64_abs hb)
  obtain ⟨h2, l2, f1, f2, f3⟩ := Qg8 (i64_abs hc) (i64_abs hd)
  have hcmp := s_wide_compare h1 l1 h2 l2 e3 f3
  rw [e2, f2] at hcmp
  unfold Qen
  exact a_wide_Cmp _ _ _ _ _ _ _ _ (Qhh ha) (Qhh hb) (Qhh hc) (Qhh hd) s_wide_sign e1 f1 hcmp
end Go.Bm
/- layer 1's reference: numbers as lists of digits to the base 65536 -/
set_option maxRecDepth 100000
namespace Go.Bm

def val : List Nat -> Nat
 | [] => 0
 | d :: l => d + 65536 * val l
def Dig (l : List Nat) : Prop := ∀ d ∈ l, d < 65536
theorem Dig.sub {l m : List Nat} (h : Dig l) (hs : ∀ d ∈ m, d ∈ l) : Dig m := fun d hd => h d (hs d hd)

end Go.Bm
/- layer 1's reference: the product of numbers as lists of digits, and the comparison of products -/
set_option maxRecDepth 100000
namespace Go.Bm

theorem Dig.set {l : List Nat} (h : Dig l) (j d : Nat) (hd : d < 65536) : Dig (l.set j d) := by
 intro x hx
 rcases List.mem_or_eq_of_mem_set hx with h' | rfl
 ·exact h x h'
 ·exact hd
end Go.Bm
/- points as vectors: bounds, inner products, differences; when a point is near a straight line -/
set_option maxRecDepth 100000
namespace Go.Bm
def bd (A : Nat) (p : Pt) : Prop := p.x.natAbs <= A /\ p.y.natAbs <= A /\ p.z.natAbs <= A
def dotP (a b : Pt) : Int := a.x * b.x + a.y * b.y + a.z * b.z
def subP (a b : Pt) : Pt := ⟨a.x - b.x, a.y - b.y, a.z - b.z⟩
theorem Qom {x y : Int} {A B : Nat} (hx : x.natAbs <= A) (hy : y.natAbs <= B) : (x * y).natAbs <= A * B := by rw [Int.natAbs_mul]; exact Nat.mul_le_mul hx hy
theorem dot_bd {A B : Nat} {a b : Pt} (ha : bd A a) (hb : bd B b) : (a.x * b.x).natAbs <= A * B /\ (a.y * b.y).natAbs <= A * B /\ (a.z * b.z).natAbs <= A * B :=
 ⟨Qom ha.1 hb.1, Qom ha.2.1 hb.2.1, Qom ha.2.2 hb.2.2⟩
theorem sub_bd {A B : Nat} {a b : Pt} (ha : bd A a) (hb : bd B b) : bd (A + B) (subP a b) := by
 obtain ⟨h1, h2, h3⟩ := ha
 obtain ⟨g1, g2, g3⟩ := hb
 refine ⟨?_, ?_, ?_⟩ <;> simp only [subP] <;> omega
theorem Qau {A B : Nat} {a : Pt} (h : bd A a) (hab : A <= B) : bd B a := ⟨Nat.le_trans h.1 hab, Nat.le_trans h.2.1 hab, Nat.le_trans h.2.2 hab⟩

theorem dot_wrap {a b : Pt} (ha : bd 67108864 a) (hb : bd 67108864 b) : IntKind.i64.wrap (IntKind.i64.wrap (IntKind.i64.wrap (a.x * b.x) + IntKind.i64.wrap (a.y * b.y)) + IntKind.i64.wrap (a.z * b.z)) = dotP a b := by
 obtain ⟨h1, h2, h3⟩ := dot_bd ha hb
 unfold dotP
 generalize a.x * b.x = p at *
 generalize a.y * b.y = q at *
 generalize a.z * b.z = r at *
 rw [Qab (x := p) (by omega), Qab (x := q) (by omega), Qab (x := r) (by omega), Qab (x := p + q) (by omega), Qab (by omega)]
theorem sub_wrap {a b : Pt} (ha : bd 33554432 a) (hb : bd 33554432 b) : IntKind.i64.wrap (a.x - b.x) = (subP a b).x /\ IntKind.i64.wrap (a.y - b.y) = (subP a b).y /\ IntKind.i64.wrap (a.z - b.z) = (subP a b).z := by
 obtain ⟨h1, h2, h3⟩ := ha
 obtain ⟨g1, g2, g3⟩ := hb
 refine ⟨?_, ?_, ?_⟩ <;> rw [Qab (by omega)] <;> rfl
theorem s_cncref24_Minus {a b : Pt} (ha : bd 33554432 a) (hb : bd 33554432 b) : Qli [I a.x, I a.y, I a.z, I b.x, I b.y, I b.z] = some (ptR (subP a b)) := by
 unfold Qli
 obtain ⟨h1, h2, h3⟩ := sub_wrap ha hb
 rw [mf_cncref24_Minus_eq, h1, h2, h3]
theorem dot_neg (a b : Pt) : dotP (subP a b) (subP a b) = dotP (subP b a) (subP b a) := by
 simp only [dotP, subP]
 have h : ∀ x y : Int, (x - y) * (x - y) = (y - x) * (y - x) := by intro x y; rw [<- Int.neg_mul_neg, Int.neg_sub]
 rw [h a.x, h a.y, h a.z]
def onLine (a b p : Pt) (e : Int) : Prop :=
 if dotP (subP b a) (subP p a) <= 0 then dotP (subP p a) (subP p a) <= e * e
 else if dotP (subP b a) (subP p a) >= dotP (subP b a) (subP b a) then dotP (subP p b) (subP p b) <= e * e
 else (dotP (subP p a) (subP p a) - e * e) * dotP (subP b a) (subP b a) <= dotP (subP b a) (subP p a) * dotP (subP b a) (subP p a)

theorem cmpI_le {x y : Int} : cmpI x y <= 0 ↔ x <= y := by
 unfold cmpI
 by_cases h : x < y
 ·rw [if_pos h]; omega
 ·rw [if_neg h]
  by_cases h' : x = y
  ·rw [if_pos h']; omega
  ·rw [if_neg h']; omega

theorem dot_le {a b : Pt} (ha : bd 67108864 a) (hb : bd 67108864 b) : (dotP a b).natAbs <= 13510798882111488 := by
 obtain ⟨h1, h2, h3⟩ := dot_bd ha hb
 unfold dotP
 omega
theorem sq_le {e : Int} (he : e.natAbs <= 32000) : (e * e).natAbs <= 1024000000 := Qom he he
end Go.Bm
/- small points; numbers modulo n -/
set_option maxRecDepth 100000
namespace Go.Bm
theorem s_cncmill_Mod {v n : Int} (_ : i64 v) (hn : 0 < n /\ n <= 4611686018427387904) : Qep [I v, I n] = some [I (v % n)] := by
 unfold Qep
 rw [mf_cncmill_Mod_eq, Qcl (by omega), Qcl (by omega)]
 have h1 : -n < v.tmod n /\ v.tmod n < n := by
  have a1 := Int.tmod_lt_of_pos v hn.1
  have a2 := Int.lt_tmod_of_pos v hn.1
  omega
 rw [Qab (by omega)]
 have h2 : (v.tmod n + n).tmod n = v % n := by
  rw [Int.tmod_eq_emod_of_nonneg (by omega), Int.add_emod_right]
  have h3 := Int.tmod_add_mul_tdiv v n
  have h4 : v % n = (v.tmod n + n * v.tdiv n) % n := by rw [h3]
  rw [h4, Int.add_mul_emod_self_left]
 rw [h2]
end Go.Bm
/- what the makers of items give: numbers of a source, turned vectors -/
set_option maxRecDepth 100000
namespace Go.Bm

def Src (l : List (List AC)) : Prop := l.length <= 9223372036854775807 /\ ∀ c ∈ l, i64 (Qav (nth .dead c 0))
theorem nth_mem' {l : List (List AC)} {i : Nat} (h : i < l.length) : nth [] l i ∈ l := by rw [nth_get [] l i h]; exact List.getElem_mem h
theorem a_Next {M : List AC -> Option (List AC)} (hM : ∀ v n : Int, i64 v -> 0 < n /\ n <= 4611686018427387904 -> M [I v, I n] = some [I (v % n)]) {l : List (List AC)} (hl : Src l) {k : Nat} {n : Int} (hn : 0 < n /\ n <= 4611686018427387904) :
  ∃ (v : Int) (k' : Nat), Qil M [I n, .view Qax l, I k] = some [I v, .view Qax l, I k'] /\ 0 <= v /\ v < n /\ k <= k' /\ (k < l.length -> k' = k + 1) /\ (l.length <= k -> k' = k) := by
 have hl1 := hl.1
 rw [mf_cncmill_Source_Next_eq]
 by_cases h : k < l.length
 ·have h1 := hM _ n (hl.2 _ (nth_mem' h)) hn
  simp only [go_sem, Int.toNat_natCast, h1]
  rw [if_neg (by omega), if_pos (by omega), Qab (by omega)]
  exact ⟨_, k + 1, rfl, Int.emod_nonneg _ (by omega), Int.emod_lt_of_pos _ hn.1, by omega, fun _ => rfl, by omega⟩
 ·simp only [go_sem]
  rw [if_pos (by omega)]
  exact ⟨0, k, rfl, by omega, hn.1, by omega, by omega, fun _ => rfl⟩
theorem s_Next {l : List (List AC)} (hl : Src l) (k : Nat) {n : Int} (hn : 0 < n /\ n <= 4611686018427387904) :
  ∃ (v : Int) (k' : Nat), Qas [I n, .view Qax l, I k] = some [I v, .view Qax l, I k'] /\ 0 <= v /\ v < n /\ k <= k' /\ (k < l.length -> k' = k + 1) /\ (l.length <= k -> k' = k) :=
 a_Next (fun _ _ hv hn => s_cncmill_Mod hv hn) hl hn
theorem s_Left (l : List (List AC)) (k : Nat) : Qcn [.view Qax l, I k] = some [B (decide (k < l.length)), .view Qax l, I k] := by
 unfold Qcn
 rw [mf_cncmill_Source_Left_eq]
 congr 3
 simp
theorem s_From (l : List (List AC)) : Qe9 [.view Qax l] = some [.view Qax l, I 0] := by
 unfold Qe9
 rw [mf_cncmill_From_eq]

def rotU (r : Int) (k : Int) : Int := if k % 4 = 0 then r else if k % 4 = 2 then -r else 0
def rotW (r : Int) (k : Int) : Int := if k % 4 = 1 then r else if k % 4 = 3 then -r else 0
theorem s_turned {r k : Int} (hr : 0 <= r /\ r <= 1000000) (hk : 0 <= k /\ k <= 1000) : Qf0 [I r, I k] = some [I (rotU r k), I (rotW r k)] := by
 unfold Qf0
 rw [mf_cncmill_turned_eq, Qab (by omega), Int.tmod_eq_emod_of_nonneg hk.1]
 have hc : k % 4 = 0 \/ k % 4 = 1 \/ k % 4 = 2 \/ k % 4 = 3 := by omega
 unfold rotU rotW
 rcases hc with h | h | h | h <;> rw [h] <;> simp [nth, Qav]
end Go.Bm
/- the items that the laws' maker of items gives: arcs, motions, lists of motions -/
set_option maxRecDepth 100000
namespace Go.Bm

def plU (pl : Int) (p : Pt) : Int := if pl = 17 then p.x else if pl = 18 then p.z else p.y
def plW (pl : Int) (p : Pt) : Int := if pl = 17 then p.y else if pl = 18 then p.x else p.z
def plH (pl : Int) (p : Pt) : Int := if pl = 17 then p.z else if pl = 18 then p.y else p.x
def spP (pl u w h : Int) : Pt := if pl = 17 then ⟨u, w, h⟩ else if pl = 18 then ⟨w, h, u⟩ else ⟨h, u, w⟩
def isPl (pl : Int) : Prop := pl = 17 \/ pl = 18 \/ pl = 19
theorem s_Plane {p : Pt} {pl : Int} (h : isPl pl) : Qfz [I p.x, I p.y, I p.z, I pl] = some [I (plU pl p), I (plW pl p), I (plH pl p)] := by
 unfold Qfz
 rw [mf_cncref23_Plane_eq]
 rcases h with rfl | rfl | rfl <;> rfl
theorem s_Space {u w h pl : Int} (hp : isPl pl) : Qf7 [I u, I w, I h, I pl] = some (ptR (spP pl u w h)) := by
 unfold Qf7
 rw [mf_cncref23_Space_eq]
 rcases hp with rfl | rfl | rfl <;> rfl
theorem pl_sp {pl u w h : Int} (hp : isPl pl) : plU pl (spP pl u w h) = u /\ plW pl (spP pl u w h) = w /\ plH pl (spP pl u w h) = h := by
 rcases hp with rfl | rfl | rfl <;> exact ⟨rfl, rfl, rfl⟩
structure ArcMade (size : Int) (it : Itm) : Prop where
 kind : it.kind = 3
 plane : isPl it.plane
 dir : it.dir = 1 \/ it.dir = -1
 ends : ∃ r k t g h : Int, 8 <= r /\ r < 8 + size /\ 0 <= k /\ k <= 3 /\ 0 <= t /\ t <= 3 /\ 0 <= g /\ g <= 4 /\ (h = 0 \/ h = 7 \/ h = -12) /\ (t = 0 -> g = 0) /\ it.full = decide (t = 0) /\
  it.ce = spP it.plane (plU it.plane it.fr - rotU r k) (plW it.plane it.fr - rotW r k) (plH it.plane it.fr) /\
  it.to = spP it.plane (plU it.plane it.fr - rotU r k + rotU (r + g) (k + t)) (plW it.plane it.fr - rotW r k + rotW (r + g) (k + t)) (plH it.plane it.fr + h)

theorem rot_bd {r k : Int} (hr : 0 <= r) : (-r <= rotU r k /\ rotU r k <= r) /\ (-r <= rotW r k /\ rotW r k <= r) := by
 unfold rotU rotW
 constructor <;> constructor <;> split <;> (try split) <;> omega
theorem rot_div {r : Int} (hr : 1 <= r) (k : Int) : ((rotU r k).tdiv r = rotU 1 k) /\ ((rotW r k).tdiv r = rotW 1 k) := by
 have h1 : r.tdiv r = 1 := Int.tdiv_self (by omega)
 have h2 : (-r).tdiv r = -1 := by rw [Int.neg_tdiv, h1]
 unfold rotU rotW
 constructor <;> split <;> (try split) <;> simp [h1, h2]
theorem rot_far (r k e f : Int) : ∃ g, (g = e \/ g = f) /\ rotU r k + rotU 1 k * e = rotU (r + g) k /\ rotW r k + rotW 1 k * f = rotW (r + g) k := by
 unfold rotU rotW
 by_cases h : k % 4 = 0 \/ k % 4 = 2
 ·refine ⟨e, .inl rfl, ?_, ?_⟩
  ·rcases h with h | h <;> simp [h] <;> omega
  ·rcases h with h | h <;> simp [h]
 ·have hc : k % 4 = 1 \/ k % 4 = 3 := by omega
  refine ⟨f, .inr rfl, ?_, ?_⟩
  ·rcases hc with h | h <;> simp [h]
  ·rcases hc with h | h <;> simp [h] <;> omega
theorem pl_bd {pl : Int} {p : Pt} {b : Nat} (h : bd b p) : (plU pl p).natAbs <= b /\ (plW pl p).natAbs <= b /\ (plH pl p).natAbs <= b := by
 obtain ⟨h1, h2, h3⟩ := h
 unfold plU plW plH
 refine ⟨?_, ?_, ?_⟩ <;> split <;> (try split) <;> assumption

def NextOK (l : List (List AC)) (M : List AC -> Option (List AC)) : Prop := ∀ (k : Nat) {n : Int}, 0 < n /\ n <= 4611686018427387904 ->
  ∃ (v : Int) (k' : Nat), M [I n, .view Qax l, I k] = some [I v, .view Qax l, I k'] /\ 0 <= v /\ v < n /\ k <= k' /\ (k < l.length -> k' = k + 1) /\ (l.length <= k -> k' = k)
abbrev blank (it : Itm) : Prop := it.block = 0 /\ it.side = 0 /\ it.radius = 0 /\ it.speed = 0 /\ it.on = false
theorem plane_at {v : Int} (h : 0 <= v /\ v < 3) : Qav (nth .dead (nth [] [[I 17], [I 18], [I 19]] v.toNat) 0) = 17 + v := by
 have hc : v = 0 \/ v = 1 \/ v = 2 := by omega
 rcases hc with rfl | rfl | rfl <;> rfl
theorem height_at {v : Int} (h : 0 <= v /\ v < 4) : ∃ x, Qav (nth .dead (nth [] [[I 0], [I 0], [I 7], [I (-12)]] v.toNat) 0) = x /\ (x = 0 \/ x = 7 \/ x = -12) := by
 have hc : v = 0 \/ v = 1 \/ v = 2 \/ v = 3 := by omega
 rcases hc with rfl | rfl | rfl | rfl <;> exact ⟨_, rfl, by decide⟩

theorem a_arc {MS MT MP MN : List AC -> Option (List AC)} {l : List (List AC)} (hN : NextOK l MN)
  (hP : ∀ {p : Pt} {pl : Int}, isPl pl -> MP [I p.x, I p.y, I p.z, I pl] = some [I (plU pl p), I (plW pl p), I (plH pl p)])
  (hS : ∀ {u w h pl : Int}, isPl pl -> MS [I u, I w, I h, I pl] = some (ptR (spP pl u w h)))
  (hT : ∀ {r k : Int}, (0 <= r /\ r <= 1000000) -> (0 <= k /\ k <= 1000) -> MT [I r, I k] = some [I (rotU r k), I (rotW r k)])
  {p : Pt} (hp : bd 100000000 p) {size : Int} (hs : 0 < size /\ size <= 100000) (k : Nat) :
  ∃ (it : Itm) (k' : Nat), mf_cncmill_arc MS MT MP MN [I p.x, I p.y, I p.z, I size, .view Qax l, I k] = some (itmR it ++ [.view Qax l, I k']) /\ k <= k' /\ it.fr = p /\ ArcMade size it /\
   it.feed = 0 /\ it.perRev = false /\ it.blend = 0 /\ it.n = 0 /\ blank it := by
 obtain ⟨v1, k1, e1, a1, b1, c1, -, -⟩ := hN k (n := 3) (by omega)
 obtain ⟨v2, k2, e2, a2, b2, c2, -, -⟩ := hN k1 (n := 2) (by omega)
 obtain ⟨v3, k3, e3, a3, b3, c3, -, -⟩ := hN k2 (n := size) (by omega)
 obtain ⟨v4, k4, e4, a4, b4, c4, -, -⟩ := hN k3 (n := 4) (by omega)
 obtain ⟨v5, k5, e5, a5, b5, c5, -, -⟩ := hN k4 (n := 4) (by omega)
 rw [mf_cncmill_arc_eq]
 simp only [go_sem, e1, e2, e3, e4, e5]
 rw [if_pos (by simp; omega)]
 have hpl : isPl (17 + v1) := by unfold isPl; omega
 have w1 : IntKind.i64.wrap (8 + v3) = 8 + v3 := Qab (by omega)
 have w2 : IntKind.i64.wrap (v4 + v5) = v4 + v5 := Qab (by omega)
 simp only [plane_at ⟨a1, b1⟩, hP hpl, go_sem, w1, w2, hT (r := 8 + v3) (k := v4) (by omega) (by omega), hT (r := 8 + v3) (k := v4 + v5) (by omega) (by omega), hS hpl]
 obtain ⟨q1, q2, q3⟩ := pl_bd (pl := 17 + v1) hp
 obtain ⟨⟨r1, r2⟩, r3, r4⟩ := rot_bd (r := 8 + v3) (k := v4) (by omega)
 obtain ⟨⟨r5, r6⟩, r7, r8⟩ := rot_bd (r := 8 + v3) (k := v4 + v5) (by omega)
 obtain ⟨d1, d2⟩ := rot_div (r := 8 + v3) (by omega) (v4 + v5)
 obtain ⟨⟨r9, r10⟩, r11, r12⟩ := rot_bd (r := 1) (k := v4 + v5) (by omega)
 have w3 : IntKind.i64.wrap (plU (17 + v1) p - rotU (8 + v3) v4) = plU (17 + v1) p - rotU (8 + v3) v4 := Qab (by omega)
 have w4 : IntKind.i64.wrap (plW (17 + v1) p - rotW (8 + v3) v4) = plW (17 + v1) p - rotW (8 + v3) v4 := Qab (by omega)
 have w5 : IntKind.i64.wrap (1 - IntKind.i64.wrap (v2 * 2)) = 1 - v2 * 2 := by rw [Qab (x := v2 * 2) (by omega), Qab (by omega)]
 have w6 : IntKind.i64.wrap (plU (17 + v1) p - rotU (8 + v3) v4 + rotU (8 + v3) (v4 + v5)) = plU (17 + v1) p - rotU (8 + v3) v4 + rotU (8 + v3) (v4 + v5) := Qab (by omega)
 have w7 : IntKind.i64.wrap (plW (17 + v1) p - rotW (8 + v3) v4 + rotW (8 + v3) (v4 + v5)) = plW (17 + v1) p - rotW (8 + v3) v4 + rotW (8 + v3) (v4 + v5) := Qab (by omega)
 rw [w3, w4, w5, w6, w7]
 have hdir : 1 - v2 * 2 = 1 \/ 1 - v2 * 2 = -1 := by omega
 -- the last steps of all three ways
 have fin : ∀ (g : Int) (u w : Int) (k8 : Nat), k5 <= k8 -> 0 <= g -> g <= 4 -> (v5 = 0 -> g = 0) -> u = rotU (8 + v3 + g) (v4 + v5) -> w = rotW (8 + v3 + g) (v4 + v5) -> ∀ v9 : Int, 0 <= v9 /\ v9 < 4 ->
   ∃ it : Itm, [I 3, I 0, I p.x, I p.y, I p.z, I (spP (17 + v1) (plU (17 + v1) p - rotU (8 + v3) v4 + u) (plW (17 + v1) p - rotW (8 + v3) v4 + w) (plH (17 + v1) p + Qav (nth .dead (nth [] [[I 0], [I 0], [I 7], [I (-12)]] v9.toNat) 0))).x,
    I (spP (17 + v1) (plU (17 + v1) p - rotU (8 + v3) v4 + u) (plW (17 + v1) p - rotW (8 + v3) v4 + w) (plH (17 + v1) p + Qav (nth .dead (nth [] [[I 0], [I 0], [I 7], [I (-12)]] v9.toNat) 0))).y,
    I (spP (17 + v1) (plU (17 + v1) p - rotU (8 + v3) v4 + u) (plW (17 + v1) p - rotW (8 + v3) v4 + w) (plH (17 + v1) p + Qav (nth .dead (nth [] [[I 0], [I 0], [I 7], [I (-12)]] v9.toNat) 0))).z,
    I (17 + v1), I (spP (17 + v1) (plU (17 + v1) p - rotU (8 + v3) v4) (plW (17 + v1) p - rotW (8 + v3) v4) (plH (17 + v1) p)).x, I (spP (17 + v1) (plU (17 + v1) p - rotU (8 + v3) v4) (plW (17 + v1) p - rotW (8 + v3) v4) (plH (17 + v1) p)).y, I (spP (17 + v1) (plU (17 + v1) p - rotU (8 + v3) v4) (plW (17 + v1) p - rotW (8 + v3) v4) (plH (17 + v1) p)).z,
    I (1 - v2 * 2), B (decide (v5 = 0)), I 0, B false, I 0, I 0, I 0, I 0, I 0, B false, .view Qax l, I k8] = itmR it ++ [.view Qax l, I k8] /\ it.fr = p /\ ArcMade size it /\ it.feed = 0 /\ it.perRev = false /\ it.blend = 0 /\ it.n = 0 /\ blank it := by
  intro g u w k8 hk8 hg0 hg4 hg5 hu hw v9 hv9
  obtain ⟨x, hx, hx3⟩ := height_at hv9
  rw [hx]
  refine ⟨⟨3, 0, p, _, 17 + v1, _, 1 - v2 * 2, decide (v5 = 0), 0, false, 0, 0, 0, 0, 0, false⟩, rfl, rfl, ⟨rfl, hpl, hdir, 8 + v3, v4, v5, g, x, ?_⟩, rfl, rfl, rfl, rfl, rfl, rfl, rfl, rfl, rfl⟩
  subst hu hw
  exact ⟨by omega, by omega, by omega, by omega, by omega, by omega, hg0, hg4, hx3, hg5, rfl, rfl, rfl⟩
 have hgh : ∀ v9 : Int, 0 <= v9 /\ v9 < 4 -> IntKind.i64.wrap (plH (17 + v1) p + Qav (nth .dead (nth [] [[I 0], [I 0], [I 7], [I (-12)]] v9.toNat) 0)) = plH (17 + v1) p + Qav (nth .dead (nth [] [[I 0], [I 0], [I 7], [I (-12)]] v9.toNat) 0) := by
  intro v9 hv9
  obtain ⟨x, hx, hx3⟩ := height_at hv9
  rw [hx]
  exact Qab (by omega)
 have hfull : (v5 == 0) = decide (v5 = 0) := rfl
 by_cases hv5 : v5 > 0
 ·rw [if_pos hv5]
  obtain ⟨v6, k6, e6, a6, b6, c6, -, -⟩ := hN k5 (n := 3) (by omega)
  simp only [go_sem, e6]
  by_cases hv6 : v6 = 0
  ·rw [if_pos hv6, if_neg (by omega)]
   obtain ⟨v7, k7, e7, a7, b7, c7, -, -⟩ := hN k6 (n := 5) (by omega)
   obtain ⟨v8, k8, e8, a8, b8, c8, -, -⟩ := hN k7 (n := 5) (by omega)
   obtain ⟨v9, k9, e9, a9, b9, c9, -, -⟩ := hN k8 (n := 4) (by omega)
   simp only [go_sem, e7, e8, e9]
   rw [if_neg (by omega), if_pos (by simp; omega), hgh v9 ⟨a9, b9⟩, d1, d2]
   obtain ⟨g, hg, hu, hw⟩ := rot_far (8 + v3) (v4 + v5) v7 v8
   have mu : -4 <= rotU 1 (v4 + v5) * v7 /\ rotU 1 (v4 + v5) * v7 <= 4 := by
    have hc : rotU 1 (v4 + v5) = -1 \/ rotU 1 (v4 + v5) = 0 \/ rotU 1 (v4 + v5) = 1 := by omega
    rcases hc with h | h | h <;> rw [h] <;> omega
   have mw : -4 <= rotW 1 (v4 + v5) * v8 /\ rotW 1 (v4 + v5) * v8 <= 4 := by
    have hc : rotW 1 (v4 + v5) = -1 \/ rotW 1 (v4 + v5) = 0 \/ rotW 1 (v4 + v5) = 1 := by omega
    rcases hc with h | h | h <;> rw [h] <;> omega
   rw [Qab (x := rotU 1 (v4 + v5)) (by omega), Qab (x := rotW 1 (v4 + v5)) (by omega), Qab (x := rotU 1 (v4 + v5) * v7) (by omega), Qab (x := rotW 1 (v4 + v5) * v8) (by omega),
    Qab (x := rotU (8 + v3) (v4 + v5) + _) (by omega), Qab (x := rotW (8 + v3) (v4 + v5) + _) (by omega), hu, hw]
   obtain ⟨⟨s1, s2⟩, s3, s4⟩ := rot_bd (r := 8 + v3 + g) (k := v4 + v5) (by omega)
   rw [Qab (x := _ + rotU (8 + v3 + g) (v4 + v5)) (by omega), Qab (x := _ + rotW (8 + v3 + g) (v4 + v5)) (by omega)]
   obtain ⟨it, h1, h2⟩ := fin g _ _ k9 (by omega) (by omega) (by omega) (by omega) rfl rfl v9 ⟨a9, b9⟩
   refine ⟨it, k9, ?_, by omega, h2⟩
   exact congrArg some h1
  ·rw [if_neg hv6]
   obtain ⟨v9, k9, e9, a9, b9, c9, -, -⟩ := hN k6 (n := 4) (by omega)
   simp only [go_sem, e9]
   rw [if_pos (by simp; omega), hgh v9 ⟨a9, b9⟩]
   obtain ⟨it, h1, h2⟩ := fin 0 _ _ k9 (by omega) (by omega) (by omega) (by omega) (by rw [Int.add_zero]) (by rw [Int.add_zero]) v9 ⟨a9, b9⟩
   refine ⟨it, k9, ?_, by omega, h2⟩
   exact congrArg some h1
 ·rw [if_neg hv5]
  obtain ⟨v9, k9, e9, a9, b9, c9, -, -⟩ := hN k5 (n := 4) (by omega)
  simp only [go_sem, e9]
  rw [if_pos (by simp; omega), hgh v9 ⟨a9, b9⟩]
  obtain ⟨it, h1, h2⟩ := fin 0 _ _ k9 (by omega) (by omega) (by omega) (by omega) (by rw [Int.add_zero]) (by rw [Int.add_zero]) v9 ⟨a9, b9⟩
  refine ⟨it, k9, ?_, by omega, h2⟩
  exact congrArg some h1
theorem nextOK {l : List (List AC)} (hl : Src l) : NextOK l Qas := fun k _ hn => s_Next hl k hn
theorem s_arc {l : List (List AC)} (hl : Src l) {p : Pt} (hp : bd 100000000 p) {size : Int} (hs : 0 < size /\ size <= 100000) (k : Nat) :
  ∃ (it : Itm) (k' : Nat), Qnc [I p.x, I p.y, I p.z, I size, .view Qax l, I k] = some (itmR it ++ [.view Qax l, I k']) /\ k <= k' /\ it.fr = p /\ ArcMade size it /\
   it.feed = 0 /\ it.perRev = false /\ it.blend = 0 /\ it.n = 0 /\ blank it :=
 a_arc (nextOK hl) s_Plane s_Space s_turned hp hs k
end Go.Bm
/- motions and lists of motions, as the maker makes them -/
set_option maxRecDepth 100000
namespace Go.Bm

structure Made (it : Itm) : Prop where
 kind : 1 <= it.kind /\ it.kind <= 6
 line : it.kind ≠ 3 -> (it.to.x - it.fr.x).natAbs <= 16 /\ (it.to.y - it.fr.y).natAbs <= 16 /\ (it.to.z - it.fr.z).natAbs <= 16
 arc : it.kind = 3 -> ArcMade 8 it
 feed : it.kind ≠ 1 -> 1 <= it.feed /\ it.feed <= 60000000
 blend : 0 <= it.blend /\ it.blend <= 9
 sync : it.kind = 5 \/ it.kind = 6 -> it.blend = 0 /\ it.feed <= 60
 free : it.kind <= 4 -> it.perRev = false
 full : it.kind ≠ 3 -> it.full = false
theorem feed_at {v : Int} (h : 0 <= v /\ v < 5) : ∃ x, Qav (nth .dead (nth [] [[I 300000], [I 1], [I 60000], [I 2000000], [I 60000000]] v.toNat) 0) = x /\ 1 <= x /\ x <= 60000000 := by
 have hc : v = 0 \/ v = 1 \/ v = 2 \/ v = 3 \/ v = 4 := by omega
 rcases hc with rfl | rfl | rfl | rfl | rfl <;> exact ⟨_, rfl, by decide⟩
theorem blend_at {v : Int} (h : 0 <= v /\ v < 5) : ∃ x, Qav (nth .dead (nth [] [[I 0], [I 1], [I 2], [I 4], [I 9]] v.toNat) 0) = x /\ 0 <= x /\ x <= 9 := by
 have hc : v = 0 \/ v = 1 \/ v = 2 \/ v = 3 \/ v = 4 := by omega
 rcases hc with rfl | rfl | rfl | rfl | rfl <;> exact ⟨_, rfl, by decide⟩
theorem arc_upd {size : Int} {it : Itm} (h : ArcMade size it) (f b : Int) (pr : Bool) (n : Int) : ArcMade size { it with feed := f, blend := b, perRev := pr, n := n } := ⟨h.kind, h.plane, h.dir, h.ends⟩

theorem a_motion {MA MN : List AC -> Option (List AC)} {l : List (List AC)} (hN : NextOK l MN)
  (hA : ∀ {p : Pt}, bd 100000000 p -> ∀ k : Nat, ∃ (it : Itm) (k' : Nat), MA [I p.x, I p.y, I p.z, I 8, .view Qax l, I k] = some (itmR it ++ [.view Qax l, I k']) /\ k <= k' /\ it.fr = p /\ ArcMade 8 it /\ it.feed = 0 /\ it.perRev = false /\ it.blend = 0 /\ it.n = 0 /\ blank it)
  {p : Pt} (hp : bd 100000000 p) {kind : Int} (hk : 1 <= kind /\ kind <= 6) (k : Nat) :
  ∃ (it : Itm) (k' : Nat), mf_cncmill_motion MN MA [I p.x, I p.y, I p.z, I kind, .view Qax l, I k] = some (itmR it ++ [.view Qax l, I k']) /\ k <= k' /\ it.fr = p /\ it.kind = kind /\ Made it /\ blank it := by
 rw [mf_cncmill_motion_eq]
 obtain ⟨hp1, hp2, hp3⟩ := hp
 by_cases h3 : kind = 3
 ·subst h3
  obtain ⟨it, k1, e1, c1, g1, g2, g3, g4, g5, g6, g7, g8, g9, g10, g11⟩ := hA ⟨hp1, hp2, hp3⟩ k
  obtain ⟨v2, k2, e2, a2, b2, c2, -, -⟩ := hN k1 (n := 5) (by omega)
  obtain ⟨v3, k3, e3, a3, b3, c3, -, -⟩ := hN k2 (n := 5) (by omega)
  simp only [go_sem, e1, itmR, List.cons_append, List.nil_append, e2, e3]
  rw [if_neg (by omega), if_pos (by simp; omega), if_pos (by simp; omega), if_neg (by omega), if_neg (by omega), if_neg (by omega)]
  obtain ⟨f, hf, hf1, hf2⟩ := feed_at ⟨a2, b2⟩
  obtain ⟨b, hb, hb1, hb2⟩ := blend_at ⟨a3, b3⟩
  rw [hf, hb]
  have hka := g2.kind
  refine ⟨{ it with feed := f, blend := b, perRev := it.perRev, n := it.n }, k3, rfl, by omega, g1, hka, ⟨?_, ?_, ?_, ?_, ?_, ?_, ?_, ?_⟩, g7, g8, g9, g10, g11⟩
  ·show 1 <= it.kind /\ it.kind <= 6; omega
  ·exact fun h => absurd hka h
  ·exact fun _ => arc_upd g2 f b _ _
  ·exact fun _ => ⟨hf1, hf2⟩
  ·exact ⟨hb1, hb2⟩
  ·intro h; change it.kind = 5 \/ it.kind = 6 at h; omega
  ·exact fun _ => g4
  ·exact fun h => absurd hka h
 ·simp only [go_sem]
  rw [if_neg h3]
  obtain ⟨v1, k1, e1, a1, b1, c1, -, -⟩ := hN k (n := 25) (by omega)
  obtain ⟨v2, k2, e2, a2, b2, c2, -, -⟩ := hN k1 (n := 25) (by omega)
  obtain ⟨v3, k3, e3, a3, b3, c3, -, -⟩ := hN k2 (n := 3) (by omega)
  obtain ⟨v4, k4, e4, a4, b4, c4, -, -⟩ := hN k3 (n := 9) (by omega)
  obtain ⟨v5, k5, e5, a5, b5, c5, -, -⟩ := hN k4 (n := 2) (by omega)
  simp only [go_sem, e1, e2, e3, e4, e5]
  have hm : 0 <= v3 * v4 /\ v3 * v4 <= 16 := by
   have hc : v3 = 0 \/ v3 = 1 \/ v3 = 2 := by omega
   rcases hc with rfl | rfl | rfl <;> omega
  generalize v3 * v4 = m at hm
  have w1 : IntKind.i64.wrap (IntKind.i64.wrap (p.x + v1) - 12) = p.x + v1 - 12 := by rw [Qab (x := p.x + v1) (by omega), Qab (by omega)]
  have w2 : IntKind.i64.wrap (IntKind.i64.wrap (p.y + v2) - 12) = p.y + v2 - 12 := by rw [Qab (x := p.y + v2) (by omega), Qab (by omega)]
  have w3 : IntKind.i64.wrap (IntKind.i64.wrap (p.z + IntKind.i64.wrap m) - IntKind.i64.wrap (8 * v5)) = p.z + m - 8 * v5 := by
   rw [Qab (x := m) (by omega), Qab (x := p.z + m) (by omega), Qab (x := 8 * v5) (by omega), Qab (by omega)]
  rw [w1, w2, w3]
  -- the item, whatever its kind
  have mk : ∀ (f b n : Int) (pr : Bool), (kind ≠ 1 -> 1 <= f /\ f <= 60000000) -> (0 <= b /\ b <= 9) -> (kind = 5 \/ kind = 6 -> b = 0 /\ f <= 60) -> (kind <= 4 -> pr = false) ->
    ∃ it : Itm, itmR it = [I kind, I 0, I p.x, I p.y, I p.z, I (p.x + v1 - 12), I (p.y + v2 - 12), I (p.z + m - 8 * v5), I 0, I 0, I 0, I 0, I 0, B false, I f, B pr, I 0, I 0, I b, I n, I 0, B false] /\ it.fr = p /\ it.kind = kind /\ Made it /\ blank it := by
   intro f b n pr h1 h2 h4 h5
   refine ⟨⟨kind, 0, p, ⟨p.x + v1 - 12, p.y + v2 - 12, p.z + m - 8 * v5⟩, 0, ⟨0, 0, 0⟩, 0, false, f, pr, 0, 0, b, n, 0, false⟩, rfl, rfl, rfl, ⟨hk, fun _ => ?_, fun h => absurd h h3, h1, h2, h4, h5, fun _ => rfl⟩, rfl, rfl, rfl, rfl, rfl⟩
   show (p.x + v1 - 12 - p.x).natAbs <= 16 /\ (p.y + v2 - 12 - p.y).natAbs <= 16 /\ (p.z + m - 8 * v5 - p.z).natAbs <= 16
   omega
  have en : ∀ (f b n : Int) (pr : Bool) (k' : Nat), k <= k' -> (kind ≠ 1 -> 1 <= f /\ f <= 60000000) -> (0 <= b /\ b <= 9) -> (kind = 5 \/ kind = 6 -> b = 0 /\ f <= 60) -> (kind <= 4 -> pr = false) ->
    ∃ (it : Itm) (k'' : Nat), some [I kind, I 0, I p.x, I p.y, I p.z, I (p.x + v1 - 12), I (p.y + v2 - 12), I (p.z + m - 8 * v5), I 0, I 0, I 0, I 0, I 0, B false, I f, B pr, I 0, I 0, I b, I n, I 0, B false, .view Qax l, I k'] = some (itmR it ++ [.view Qax l, I k'']) /\ k <= k'' /\ it.fr = p /\ it.kind = kind /\ Made it /\ blank it := by
   intro f b n pr k' h0 h1 h2 h4 h5
   obtain ⟨it, i1, i2⟩ := mk f b n pr h1 h2 h4 h5
   refine ⟨it, k', ?_, h0, i2⟩
   rw [i1]
   rfl
  by_cases h1 : kind = 1
  ·rw [if_pos h1]
   exact en _ _ _ _ _ (by omega) (fun h => absurd h1 h) (by omega) (by omega) (fun _ => rfl)
  ·rw [if_neg h1]
   obtain ⟨v6, k6, e6, a6, b6, c6, -, -⟩ := hN k5 (n := 5) (by omega)
   obtain ⟨v7, k7, e7, a7, b7, c7, -, -⟩ := hN k6 (n := 5) (by omega)
   obtain ⟨v8, k8, e8, a8, b8, c8, -, -⟩ := hN k7 (n := 60) (by omega)
   obtain ⟨v9, k9, e9, a9, b9, c9, -, -⟩ := hN k8 (n := 2) (by omega)
   simp only [go_sem, e6, e7, e8, e9]
   rw [if_pos (by simp; omega), if_pos (by simp; omega)]
   obtain ⟨f, hf, hf1, hf2⟩ := feed_at ⟨a6, b6⟩
   obtain ⟨b, hb, hb1, hb2⟩ := blend_at ⟨a7, b7⟩
   rw [hf, hb, Qab (x := 1 + v8) (by omega), Qab (x := 3 + v9) (by omega)]
   by_cases h5 : kind = 5
   ·rw [if_pos h5, if_neg (by omega)]
    exact en _ _ _ _ _ (by omega) (by omega) (by omega) (by omega) (by omega)
   ·rw [if_neg h5]
    by_cases h6 : kind = 6
    ·rw [if_pos h6, if_pos h6]
     exact en _ _ _ _ _ (by omega) (by omega) (by omega) (by omega) (by omega)
    ·rw [if_neg h6]
     by_cases h4 : kind = 4
     ·rw [if_pos h4]
      exact en _ _ _ _ _ (by omega) (by omega) (by omega) (by omega) (fun _ => rfl)
     ·rw [if_neg h4]
      exact en _ _ _ _ _ (by omega) (by omega) (by omega) (by omega) (fun _ => rfl)
theorem s_motion {l : List (List AC)} (hl : Src l) {p : Pt} (hp : bd 100000000 p) {kind : Int} (hk : 1 <= kind /\ kind <= 6) (k : Nat) :
  ∃ (it : Itm) (k' : Nat), Qex [I p.x, I p.y, I p.z, I kind, .view Qax l, I k] = some (itmR it ++ [.view Qax l, I k']) /\ k <= k' /\ it.fr = p /\ it.kind = kind /\ Made it /\ blank it :=
 a_motion (nextOK hl) (fun hp k => s_arc hl hp (by omega) k) hp hk k
end Go.Bm
/- the maker's list of motions -/
set_option maxRecDepth 100000
namespace Go.Bm

def Chained : Pt -> List Itm -> Prop
 | _, [] => True
 | p, it :: l => it.fr = p /\ Chained it.to l
structure Motions (B : Nat) (p : Pt) (l : List Itm) : Prop where
 chain : Chained p l
 made : ∀ it ∈ l, Made it /\ blank it /\ it.kind <= 3 /\ bd B it.fr /\ bd B it.to
theorem arc_bd {size : Int} {b : Nat} {it : Itm} (h : ArcMade size it) (hs : size <= 1000) (hf : bd b it.fr) : bd (b + 2 * (12 + size.toNat)) it.to /\ bd (b + 8 + size.toNat) it.ce := by
 obtain ⟨r, k, t, g, x, h1, h2, h3, h4, h5, h6, h7, h8, h9, h10, h11, h12, h13⟩ := h.ends
 obtain ⟨q1, q2, q3⟩ := pl_bd (pl := it.plane) hf
 obtain ⟨⟨r1, r2⟩, r3, r4⟩ := rot_bd (r := r) (k := k) (by omega)
 obtain ⟨⟨r5, r6⟩, r7, r8⟩ := rot_bd (r := r + g) (k := k + t) (by omega)
 rw [h12, h13]
 unfold bd spP
 constructor <;> split <;> (try split) <;> refine ⟨?_, ?_, ?_⟩ <;> simp only <;> omega
theorem made_bd {b : Nat} {it : Itm} (h : Made it) (hf : bd b it.fr) : bd (b + 40) it.to := by
 by_cases h3 : it.kind = 3
 ·exact Qau (arc_bd (h.arc h3) (by omega) hf).1 (by omega)
 ·obtain ⟨h1, h2, h4⟩ := h.line h3
  obtain ⟨g1, g2, g3⟩ := hf
  exact ⟨by omega, by omega, by omega⟩
end Go.Bm
/- which motions can be drawn: the program's answer and the reference's -/
set_option maxRecDepth 100000
namespace Go.Bm

instance (pl : Int) : Decidable (isPl pl) := by unfold isPl; infer_instance
instance (A : Nat) (p : Pt) : Decidable (bd A p) := by unfold bd; infer_instance
def dU (it : Itm) (p : Pt) : Int := plU it.plane p - plU it.plane it.ce
def dW (it : Itm) (p : Pt) : Int := plW it.plane p - plW it.plane it.ce
def sq2 (u w : Int) : Int := u * u + w * w
def crs (u w x y : Int) : Int := u * y - w * x
def dt2 (u w x y : Int) : Int := u * x + w * y
def qA (it : Itm) : Int := sq2 (dU it it.fr) (dW it it.fr)
def qB (it : Itm) : Int := sq2 (dU it it.to) (dW it it.to)
def cAB (it : Itm) : Int := crs (dU it it.fr) (dW it it.fr) (dU it it.to) (dW it it.to)
def dAB (it : Itm) : Int := dt2 (dU it it.fr) (dW it it.fr) (dU it it.to) (dW it it.to)
def nearQ (X Y : Int) : Prop := X + Y - 16 <= 0 \/ (X + Y - 16) * (X + Y - 16) <= 4 * X * Y
def turnOK (it : Itm) : Prop := 64 <= qA it /\ 64 <= qB it /\ nearQ (qA it) (qB it) /\ (it.full = true -> dU it it.fr = dU it it.to /\ dW it it.fr = dW it it.to) /\ (it.full = false -> cAB it ≠ 0 \/ dAB it < 0)
def arcOK (it : Itm) : Prop := isPl it.plane /\ (it.dir = 1 \/ it.dir = -1) /\ bd 1048576 it.ce /\ turnOK it
def Qfa (it : Itm) : Prop := (1 <= it.kind /\ it.kind <= 6) /\ bd 1048576 it.fr /\ bd 1048576 it.to /\ (it.kind = 3 -> arcOK it)

theorem dU_bd {it : Itm} {p : Pt} {b c : Nat} (hc : bd c it.ce) (h : bd b p) : (dU it p).natAbs <= b + c /\ (dW it p).natAbs <= b + c := by
 obtain ⟨h1, h2, h3⟩ := pl_bd (pl := it.plane) h
 obtain ⟨g1, g2, g3⟩ := pl_bd (pl := it.plane) hc
 unfold dU dW
 omega
theorem sq_nat (x : Int) {b : Nat} (h : x.natAbs <= b) : 0 <= x * x /\ x * x <= ((b * b : Nat) : Int) := by
 have h1 := Qom h h
 have h2 : 0 <= x * x := by rw [<- Int.natAbs_mul_self]; omega
 omega
theorem sq2_bd {u w : Int} {b : Nat} (hu : u.natAbs <= b) (hw : w.natAbs <= b) : 0 <= sq2 u w /\ sq2 u w <= ((2 * (b * b) : Nat) : Int) := by
 have h1 := sq_nat u hu
 have h2 := sq_nat w hw
 unfold sq2
 omega
theorem dt2_bd {u w x y : Int} {b c : Nat} (hu : u.natAbs <= b) (hw : w.natAbs <= b) (hx : x.natAbs <= c) (hy : y.natAbs <= c) : (dt2 u w x y).natAbs <= 2 * (b * c) /\ (crs u w x y).natAbs <= 2 * (b * c) := by
 have h1 := Qom hu hx
 have h2 := Qom hw hy
 have h3 := Qom hu hy
 have h4 := Qom hw hx
 unfold dt2 crs
 omega
theorem near_core {X Y : Int} (hX : 64 <= X) (hY : 64 <= Y) : nearQ X Y ↔ (max X Y - min X Y - 16 <= 0 \/ (max X Y - min X Y - 16) * (max X Y - min X Y - 16) <= 64 * min X Y) := by
 unfold nearQ
 have key : ∀ M m : Int, 64 <= M -> 64 <= m -> m <= M -> ((M + m - 16 <= 0 \/ (M + m - 16) * (M + m - 16) <= 4 * M * m) ↔ (M - m - 16 <= 0 \/ (M - m - 16) * (M - m - 16) <= 64 * m)) := by
  intro M m h1 h2 h3
  have e : (M - m - 16) * (M - m - 16) - 64 * m = (M + m - 16) * (M + m - 16) - 4 * M * m := by grind
  by_cases hk : M - m - 16 <= 0
  ·refine iff_of_true (.inr ?_) (.inl hk)
   have h5 : (16 - (M - m)) * (M - m + 16) >= 0 := Int.mul_nonneg (by omega) (by omega)
   have h6 : (M + m - 16) * (M + m - 16) - 4 * M * m = 512 - (16 - (M - m)) * (M - m + 16) - 32 * (M + m) := by grind
   omega
  ·constructor
   ·rintro (h | h)
    ·omega
    ·exact .inr (by omega)
   ·rintro (h | h)
    ·omega
    ·exact .inr (by omega)
 by_cases h : X <= Y
 ·rw [Int.max_eq_right h, Int.min_eq_left h, <- key Y X hY hX h]
  have e1 : X + Y - 16 = Y + X - 16 := by omega
  have e2 : 4 * X * Y = 4 * Y * X := by grind
  rw [e1, e2]
 ·rw [Int.max_eq_left (by omega), Int.min_eq_right (by omega), <- key X Y hX hY (by omega)]

end Go.Bm
/- which motions can be drawn: the program's answer -/
set_option maxRecDepth 100000
namespace Go.Bm

theorem s_curve_within (p : Pt) : Qic [I p.x, I p.y, I p.z] = some [B (decide (bd 1048576 p))] := by
 unfold Qic
 rw [mf_curve_within_eq]
 simp only [go_sem]
 by_cases h : bd 1048576 p
 ·obtain ⟨h1, h2, h3⟩ := h
  rw [if_neg (by omega), if_neg (by omega), if_neg (by omega), if_neg (by omega), if_neg (by omega), if_neg (by omega)]
  congr 3
  symm
  exact decide_eq_true ⟨h1, h2, h3⟩
 ·have e : decide (bd 1048576 p) = false := decide_eq_false h
  rw [e]
  unfold bd at h
  by_cases c1 : p.x < -1048576
  ·rw [if_pos c1]
  rw [if_neg c1]
  by_cases c2 : p.x > 1048576
  ·rw [if_pos c2]
  rw [if_neg c2]
  by_cases c3 : p.y < -1048576
  ·rw [if_pos c3]
  rw [if_neg c3]
  by_cases c4 : p.y > 1048576
  ·rw [if_pos c4]
  rw [if_neg c4]
  by_cases c5 : p.z < -1048576
  ·rw [if_pos c5]
  rw [if_neg c5, if_pos (by omega)]
def axI (pl : Int) : Int × Int × Int := if pl = 17 then (0, 1, 2) else if pl = 18 then (2, 0, 1) else if pl = 19 then (1, 2, 0) else (0, 0, 0)
theorem s_curve_axes (pl : Int) : Qdl [I pl] = some [I (axI pl).1, I (axI pl).2.1, I (axI pl).2.2, B (decide (isPl pl))] := by
 unfold Qdl
 rw [mf_curve_axes_eq]
 simp only [go_sem]
 unfold axI isPl
 by_cases h1 : pl = 17
 ·rw [if_pos h1, if_pos h1]; simp [h1]
 rw [if_neg h1, if_neg h1]
 by_cases h2 : pl = 18
 ·rw [if_pos h2, if_pos h2]; simp [h2]
 rw [if_neg h2, if_neg h2]
 by_cases h3 : pl = 19
 ·rw [if_pos h3, if_pos h3]; simp [h3]
 rw [if_neg h3, if_neg h3]; simp [h1, h2, h3]
theorem a_curve_Plane {M : List AC -> Option (List AC)} (hM : ∀ pl : Int, M [I pl] = some [I (axI pl).1, I (axI pl).2.1, I (axI pl).2.2, B (decide (isPl pl))]) {p : Pt} {pl : Int} (hp : isPl pl) :
  mf_curve_Plane M [I p.x, I p.y, I p.z, I pl] = some [I (plU pl p), I (plW pl p), I (plH pl p)] := by
 rw [mf_curve_Plane_eq]
 simp only [go_sem, hM]
 rw [if_neg (by simpa using hp)]
 rcases hp with rfl | rfl | rfl <;> rfl
theorem s_curve_Plane {p : Pt} {pl : Int} (hp : isPl pl) : Qdj [I p.x, I p.y, I p.z, I pl] = some [I (plU pl p), I (plW pl p), I (plH pl p)] := a_curve_Plane s_curve_axes hp
def fine (p : Pt) : Pt := ⟨p.x * 16, p.y * 16, p.z * 16⟩
theorem Qg6 {b : Nat} {p : Pt} (h : bd b p) : bd (b * 16) (fine p) := by
 obtain ⟨h1, h2, h3⟩ := h
 unfold fine
 exact ⟨by simp only; omega, by simp only; omega, by simp only; omega⟩
theorem Ql7 (pl : Int) (p : Pt) : plU pl (fine p) = plU pl p * 16 /\ plW pl (fine p) = plW pl p * 16 /\ plH pl (fine p) = plH pl p * 16 := by
 unfold plU plW plH fine
 refine ⟨?_, ?_, ?_⟩ <;> split <;> (try split) <;> rfl
theorem s_curve_scaled {p : Pt} (h : bd 100000000 p) : Qdp [I p.x, I p.y, I p.z] = some (ptR (fine p)) := by
 unfold Qdp
 rw [mf_curve_scaled_eq]
 obtain ⟨h1, h2, h3⟩ := h
 rw [Qab (by omega), Qab (by omega), Qab (by omega)]
 rfl
theorem s_curve_dot {u w r h x y s g : Int} (hu : u.natAbs <= 1000000000) (hw : w.natAbs <= 1000000000) (hx : x.natAbs <= 1000000000) (hy : y.natAbs <= 1000000000) : Qeu [I u, I w, I r, I h, I x, I y, I s, I g] = some [I (dt2 u w x y)] := by
 unfold Qeu
 rw [mf_curve_dot_eq]
 have h1 := Qom hu hx
 have h2 := Qom hw hy
 unfold dt2
 rw [Qab (x := u * x) (by omega), Qab (x := w * y) (by omega), Qab (by omega)]
theorem s_curve_cross {u w r h x y s g : Int} (hu : u.natAbs <= 1000000000) (hw : w.natAbs <= 1000000000) (hx : x.natAbs <= 1000000000) (hy : y.natAbs <= 1000000000) : Qdu [I u, I w, I r, I h, I x, I y, I s, I g] = some [I (crs u w x y)] := by
 unfold Qdu
 rw [mf_curve_cross_eq]
 have h1 := Qom hu hy
 have h2 := Qom hw hx
 unfold crs
 rw [Qab (x := u * y) (by omega), Qab (x := w * x) (by omega), Qab (by omega)]
theorem a_curve_near {M : List AC -> Option (List AC)} (hM : ∀ {a b c d : Int}, i64 a -> i64 b -> i64 c -> i64 d -> M [I a, I b, I c, I d] = some [I (cmpI (a * b) (c * d))]) {X Y : Int} (hX : 64 <= X /\ X <= 1000000000000000) (hY : 64 <= Y /\ Y <= 1000000000000000) :
  ∃ v, mf_curve_near M [I X, I Y] = some [B v] /\ (v = true ↔ nearQ X Y) := by
 rw [mf_curve_near_eq, near_core hX.1 hY.1]
 have hmx : mx X Y = max X Y := by unfold mx; rw [Int.max_def]; split <;> split <;> omega
 have hmn : mn X Y = min X Y := by unfold mn; rw [Int.min_def]; split <;> split <;> omega
 have hx1 : max X Y <= 1000000000000000 /\ 64 <= max X Y := by omega
 have hx2 : min X Y <= 1000000000000000 /\ 64 <= min X Y := by omega
 rw [hmx, hmn]
 generalize max X Y = a at *
 generalize min X Y = b at *
 simp only [go_sem]
 rw [Qab (x := a - b) (by omega), Qab (x := a - b - 16) (by omega)]
 by_cases c1 : a - b - 16 <= 0
 ·rw [if_pos c1]; exact ⟨_, rfl, iff_of_true rfl (.inl c1)⟩
 ·rw [if_neg c1, hM (by unfold i64; omega) (by unfold i64; omega) (by unfold i64; omega) (by unfold i64; omega)]
  refine ⟨_, rfl, ?_⟩
  simp only [go_sem, decide_eq_true_eq, cmpI_le]
  exact ⟨fun h => .inr h, fun h => h.resolve_left c1⟩
theorem s_curve_near {X Y : Int} (hX : 64 <= X /\ X <= 1000000000000000) (hY : 64 <= Y /\ Y <= 1000000000000000) : ∃ v, m_curve_near [I X, I Y] = some [B v] /\ (v = true ↔ nearQ X Y) := a_curve_near s_wide_Cmp hX hY

theorem a_curve_ends {MP MS : List AC -> Option (List AC)} {it : Itm} (hP : ∀ p : Pt, MP [I p.x, I p.y, I p.z, I it.plane] = some [I (plU it.plane p), I (plW it.plane p), I (plH it.plane p)]) (hS : ∀ {p : Pt}, bd 100000000 p -> MS [I p.x, I p.y, I p.z] = some (ptR (fine p)))
  (h1 : bd 1048576 it.fr) (h2 : bd 1048576 it.to) (h3 : bd 1048576 it.ce) :
  mf_curve_ends MP MS (Qb1 (st_curve_ends_4 MP MS)) (itmR it) = some [I (dU it it.fr * 16), I (dW it it.fr * 16), I 0, I (plH it.plane it.fr * 16), I (dU it it.to * 16), I (dW it it.to * 16), I 0, I (plH it.plane it.to * 16)] := by
 rw [mf_curve_ends_eq]
 obtain ⟨q1, q2, q3⟩ := pl_bd (pl := it.plane) h1
 obtain ⟨q4, q5, q6⟩ := pl_bd (pl := it.plane) h2
 obtain ⟨q7, q8, q9⟩ := pl_bd (pl := it.plane) h3
 simp only [hS (Qau h3 (by omega)), hP, go_sem]
 have w0 : IntKind.i64.wrap (0 + 1) = 1 := Qab (by omega)
 have w1 : IntKind.i64.wrap (1 + 1) = 2 := Qab (by omega)
 have f1 := Ql7 it.plane it.fr
 have f2 := Ql7 it.plane it.to
 have f3 := Ql7 it.plane it.ce
 have u1 : IntKind.i64.wrap (plU it.plane (fine it.fr) - plU it.plane (fine it.ce)) = dU it it.fr * 16 := by rw [f1.1, f3.1]; unfold dU; rw [Qab (by omega)]; omega
 have u2 : IntKind.i64.wrap (plW it.plane (fine it.fr) - plW it.plane (fine it.ce)) = dW it it.fr * 16 := by rw [f1.2.1, f3.2.1]; unfold dW; rw [Qab (by omega)]; omega
 have u3 : IntKind.i64.wrap (plU it.plane (fine it.to) - plU it.plane (fine it.ce)) = dU it it.to * 16 := by rw [f2.1, f3.1]; unfold dU; rw [Qab (by omega)]; omega
 have u4 : IntKind.i64.wrap (plW it.plane (fine it.to) - plW it.plane (fine it.ce)) = dW it it.to * 16 := by rw [f2.2.1, f3.2.1]; unfold dW; rw [Qab (by omega)]; omega
 have b1 : bd 100000000 it.fr := Qau h1 (by omega)
 have b2 : bd 100000000 it.to := Qau h2 (by omega)
 have e1 := hS b1
 have e2 := hS b2
 rw [Qb8 (by rw [Qn6]; simp only [go_sem, e1, e2, hP, u1, u2, w0]; rfl), Qb8 (by rw [Qn6]; simp only [go_sem, e1, e2, hP, u3, u4, w1]; rfl),
  Qcj (o := (1, _)) (by rw [Qn6]; simp only [go_sem]; rfl) (by simp)]
 simp only [go_sem, f1.2.2, f2.2.2]
theorem s_curve_ends {it : Itm} (hp : isPl it.plane) (h1 : bd 1048576 it.fr) (h2 : bd 1048576 it.to) (h3 : bd 1048576 it.ce) :
  Qg9 (itmR it) = some [I (dU it it.fr * 16), I (dW it it.fr * 16), I 0, I (plH it.plane it.fr * 16), I (dU it it.to * 16), I (dW it it.to * 16), I 0, I (plH it.plane it.to * 16)] :=
 a_curve_ends (fun _ => s_curve_Plane hp) s_curve_scaled h1 h2 h3

theorem cur_tail {MN : List AC -> Option (List AC)} {X Y C D au aw bu bw : Int} {full : Bool} (hX : 0 <= X /\ X <= 1000000000000000) (hY : 0 <= Y /\ Y <= 1000000000000000)
  (hN : ∀ {X Y : Int}, (64 <= X /\ X <= 1000000000000000) -> (64 <= Y /\ Y <= 1000000000000000) -> ∃ v, MN [I X, I Y] = some [B v] /\ (v = true ↔ nearQ X Y)) :
  ∃ v, (if X * 256 < IntKind.i64.wrap (128 * 128) then some [B false] else if Y * 256 < IntKind.i64.wrap (128 * 128) then some [B false] else
   (MN [I (IntKind.i64.wrap ((X * 256).tdiv 256)), I (IntKind.i64.wrap ((Y * 256).tdiv 256))]).bind fun o =>
   if ¬ boolOf (nth .dead o 0) = true then some [B false] else if full = true then if au * 16 = bu * 16 then some [B (aw * 16 == bw * 16)] else some [B false] else if C * 256 ≠ 0 then some [B true] else some [B (decide (D * 256 < 0))]) = some [B v] /\
   (v = true ↔ 64 <= X /\ 64 <= Y /\ nearQ X Y /\ (full = true -> au = bu /\ aw = bw) /\ (full = false -> C ≠ 0 \/ D < 0)) := by
 rw [Qab (x := 128 * 128) (by omega), Int.mul_tdiv_cancel _ (by omega), Int.mul_tdiv_cancel _ (by omega), Qab (x := X) (by omega), Qab (x := Y) (by omega)]
 by_cases c1 : X * 256 < 128 * 128
 ·rw [if_pos c1]; exact ⟨_, rfl, iff_of_false (by simp) fun h => by omega⟩
 rw [if_neg c1]
 by_cases c2 : Y * 256 < 128 * 128
 ·rw [if_pos c2]; exact ⟨_, rfl, iff_of_false (by simp) fun h => by omega⟩
 rw [if_neg c2]
 obtain ⟨v, h1, h2⟩ := hN (X := X) (Y := Y) (by omega) (by omega)
 simp only [h1, go_sem]
 by_cases c3 : v = true
 case neg => rw [if_pos c3]; exact ⟨_, rfl, iff_of_false (by simp) fun h => c3 (h2.2 h.2.2.1)⟩
 rw [if_neg (by simpa using c3)]
 have hn' := h2.1 c3
 cases full with
 | true =>
  rw [if_pos rfl]
  by_cases c4 : au * 16 = bu * 16
  ·rw [if_pos c4]; refine ⟨_, rfl, ?_⟩
   simp only [beq_iff_eq]
   exact ⟨fun h => ⟨by omega, by omega, hn', fun _ => ⟨by omega, by omega⟩, fun h => by simp at h⟩, fun h => by have := (h.2.2.2.1 trivial).2; omega⟩
  ·rw [if_neg c4]; exact ⟨_, rfl, iff_of_false (by simp) fun h => c4 (by have := (h.2.2.2.1 rfl).1; omega)⟩
 | false =>
  rw [if_neg (by simp)]
  by_cases c4 : C * 256 ≠ 0
  ·rw [if_pos c4]; exact ⟨_, rfl, iff_of_true rfl ⟨by omega, by omega, hn', fun h => by simp at h, fun _ => .inl (by omega)⟩⟩
  ·rw [if_neg c4]; refine ⟨_, rfl, ?_⟩
   simp only [decide_eq_true_eq]
   exact ⟨fun h => ⟨by omega, by omega, hn', fun h => by simp at h, fun _ => .inr (by omega)⟩, fun h => by have := (h.2.2.2.2 trivial); omega⟩
theorem dt2_16 (a b c d : Int) : dt2 (a * 16) (b * 16) (c * 16) (d * 16) = dt2 a b c d * 256 /\ crs (a * 16) (b * 16) (c * 16) (d * 16) = crs a b c d * 256 := by
 unfold dt2 crs
 constructor <;> grind
theorem a_curve_Valid {MC MN MD ME MA MW : List AC -> Option (List AC)} (hA : ∀ pl : Int, MA [I pl] = some [I (axI pl).1, I (axI pl).2.1, I (axI pl).2.2, B (decide (isPl pl))]) (hW : ∀ p : Pt, MW [I p.x, I p.y, I p.z] = some [B (decide (bd 1048576 p))])
  {it : Itm} (hE : isPl it.plane -> bd 1048576 it.fr -> bd 1048576 it.to -> bd 1048576 it.ce -> ME (itmR it) = some [I (dU it it.fr * 16), I (dW it it.fr * 16), I 0, I (plH it.plane it.fr * 16), I (dU it it.to * 16), I (dW it it.to * 16), I 0, I (plH it.plane it.to * 16)])
  (hD : ∀ {u w r h x y s g : Int}, u.natAbs <= 1000000000 -> w.natAbs <= 1000000000 -> x.natAbs <= 1000000000 -> y.natAbs <= 1000000000 -> MD [I u, I w, I r, I h, I x, I y, I s, I g] = some [I (dt2 u w x y)])
  (hX : ∀ {u w r h x y s g : Int}, u.natAbs <= 1000000000 -> w.natAbs <= 1000000000 -> x.natAbs <= 1000000000 -> y.natAbs <= 1000000000 -> MC [I u, I w, I r, I h, I x, I y, I s, I g] = some [I (crs u w x y)])
  (hN : ∀ {X Y : Int}, (64 <= X /\ X <= 1000000000000000) -> (64 <= Y /\ Y <= 1000000000000000) -> ∃ v, MN [I X, I Y] = some [B v] /\ (v = true ↔ nearQ X Y)) :
  ∃ v, mf_curve_Valid MC MN MD ME MA MW (itmR it) = some [B v] /\ (v = true ↔ Qfa it) := by
 rw [mf_curve_Valid_eq]
 simp only [go_sem, hW, hA]
 by_cases c1 : it.kind < 1
 ·rw [if_pos c1]; exact ⟨_, rfl, iff_of_false (by simp) fun h => by have := h.1; omega⟩
 rw [if_neg c1]
 by_cases c1' : it.kind > 6
 ·rw [if_pos c1']; exact ⟨_, rfl, iff_of_false (by simp) fun h => by have := h.1; omega⟩
 rw [if_neg c1']
 by_cases c2 : bd 1048576 it.fr
 case neg => rw [if_pos (by simpa using c2)]; exact ⟨_, rfl, iff_of_false (by simp) fun h => c2 h.2.1⟩
 rw [if_neg (by simpa using c2)]
 by_cases c3 : bd 1048576 it.to
 case neg => rw [if_pos (by simpa using c3)]; exact ⟨_, rfl, iff_of_false (by simp) fun h => c3 h.2.2.1⟩
 rw [if_neg (by simpa using c3)]
 by_cases c4 : it.kind = 3
 case neg => rw [if_pos c4]; exact ⟨_, rfl, iff_of_true rfl ⟨by omega, c2, c3, fun h => absurd h c4⟩⟩
 rw [if_neg (by simpa using c4)]
 by_cases c5 : isPl it.plane
 case neg => rw [if_pos (by simpa using c5)]; exact ⟨_, rfl, iff_of_false (by simp) fun h => c5 (h.2.2.2 c4).1⟩
 rw [if_neg (by simpa using c5)]
 by_cases c7 : bd 1048576 it.ce
 case neg =>
  refine ⟨false, ?_, iff_of_false (by simp) fun h => c7 (h.2.2.2 c4).2.2.1⟩
  split
  ·split
   ·rfl
   ·first | rfl | (rw [if_pos c7])
  ·first | rfl | (rw [if_pos c7])
 by_cases c6 : it.dir = 1 \/ it.dir = -1
 case neg =>
  rw [if_pos (c := it.dir ≠ 1) (by omega), if_pos (c := it.dir ≠ -1) (by omega)]
  exact ⟨false, rfl, iff_of_false (by simp) fun h => c6 (h.2.2.2 c4).2.1⟩
 have hE' := hE c5 c2 c3 c7
 obtain ⟨b1, b2⟩ := dU_bd (it := it) c7 c2
 obtain ⟨b3, b4⟩ := dU_bd (it := it) c7 c3
 simp only [itmR] at hE'
 have x1 := sq2_bd b1 b2
 have x2 := sq2_bd b3 b4
 have core : Qfa it ↔ 64 <= qA it /\ 64 <= qB it /\ nearQ (qA it) (qB it) /\ (it.full = true -> dU it it.fr = dU it it.to /\ dW it it.fr = dW it it.to) /\ (it.full = false -> cAB it ≠ 0 \/ dAB it < 0) :=
  ⟨fun h => (h.2.2.2 c4).2.2.2, fun h => ⟨by omega, c2, c3, fun _ => ⟨c5, c6, c7, h⟩⟩⟩
 rw [core]
 have x1' : 0 <= qA it /\ qA it <= 1000000000000000 := ⟨x1.1, by unfold qA; omega⟩
 have x2' : 0 <= qB it /\ qB it <= 1000000000000000 := ⟨x2.1, by unfold qB; omega⟩
 have D1 := @hD (dU it it.fr * 16) (dW it it.fr * 16) 0 (plH it.plane it.fr * 16) (dU it it.fr * 16) (dW it it.fr * 16) 0 (plH it.plane it.fr * 16) (by omega) (by omega) (by omega) (by omega)
 have D2 := @hD (dU it it.to * 16) (dW it it.to * 16) 0 (plH it.plane it.to * 16) (dU it it.to * 16) (dW it it.to * 16) 0 (plH it.plane it.to * 16) (by omega) (by omega) (by omega) (by omega)
 have D3 := @hD (dU it it.fr * 16) (dW it it.fr * 16) 0 (plH it.plane it.fr * 16) (dU it it.to * 16) (dW it it.to * 16) 0 (plH it.plane it.to * 16) (by omega) (by omega) (by omega) (by omega)
 have D4 := @hX (dU it it.fr * 16) (dW it it.fr * 16) 0 (plH it.plane it.fr * 16) (dU it it.to * 16) (dW it it.to * 16) 0 (plH it.plane it.to * 16) (by omega) (by omega) (by omega) (by omega)
 rw [(dt2_16 _ _ _ _).1] at D1 D2 D3
 rw [(dt2_16 _ _ _ _).2] at D4
 have e1 : dt2 (dU it it.fr) (dW it it.fr) (dU it it.fr) (dW it it.fr) = qA it := rfl
 have e2 : dt2 (dU it it.to) (dW it it.to) (dU it it.to) (dW it it.to) = qB it := rfl
 have e3 : dt2 (dU it it.fr) (dW it it.fr) (dU it it.to) (dW it it.to) = dAB it := rfl
 have e4 : crs (dU it it.fr) (dW it it.fr) (dU it it.to) (dW it it.to) = cAB it := rfl
 rw [e1] at D1
 rw [e2] at D2
 rw [e3] at D3
 rw [e4] at D4
 have T := @cur_tail MN (qA it) (qB it) (cAB it) (dAB it) (dU it it.fr) (dW it it.fr) (dU it it.to) (dW it it.to) it.full x1' x2' hN
 have n7 : ¬ ¬ bd 1048576 it.ce := fun h => h c7
 by_cases d1 : it.dir = 1
 ·rw [if_neg (c := it.dir ≠ 1) (fun h => h d1), if_neg n7]
  simp only [hE', go_sem, D1, D2, D3, D4]
  exact T
 ·rw [if_pos (c := it.dir ≠ 1) d1, if_neg (c := it.dir ≠ -1) (by omega), if_neg n7]
  simp only [hE', go_sem, D1, D2, D3, D4]
  exact T
theorem Qn4 (it : Itm) : ∃ v, Qbx (itmR it) = some [B v] /\ (v = true ↔ Qfa it) :=
 a_curve_Valid s_curve_axes s_curve_within (fun h1 h2 h3 h4 => s_curve_ends h1 h2 h3 h4) s_curve_dot s_curve_cross s_curve_near

end Go.Bm
/- points near a straight line: the program's answer and the reference's are the same, from either end -/
set_option maxRecDepth 100000
namespace Go.Bm

theorem s_contour_product {a b : Pt} (ha : bd 67108864 a) (hb : bd 67108864 b) : Qfi [I a.x, I a.y, I a.z, I b.x, I b.y, I b.z] = some [I (dotP a b)] := by
 unfold Qfi
 rw [mf_contour_product_eq, dot_wrap ha hb]
theorem Qkg {a b : Pt} (ha : bd 33554432 a) (hb : bd 33554432 b) : Qeb [I a.x, I a.y, I a.z, I b.x, I b.y, I b.z] = some (ptR (subP a b)) := by
 unfold Qeb
 obtain ⟨h1, h2, h3⟩ := sub_wrap ha hb
 rw [mf_contour_difference_eq, h1, h2, h3]
theorem a_contour_OnLine {M1 M2 M3 : List AC -> Option (List AC)} {a b p : Pt} {e : Int} (he : IntKind.i64.wrap (e * e) = e * e)
  (d1 : M3 [I b.x, I b.y, I b.z, I a.x, I a.y, I a.z] = some (ptR (subP b a))) (d2 : M3 [I p.x, I p.y, I p.z, I a.x, I a.y, I a.z] = some (ptR (subP p a))) (d3 : M3 [I p.x, I p.y, I p.z, I b.x, I b.y, I b.z] = some (ptR (subP p b)))
  (p1 : ∀ u v : Pt, bd 67108864 u -> bd 67108864 v -> M2 [I u.x, I u.y, I u.z, I v.x, I v.y, I v.z] = some [I (dotP u v)]) (b1 : bd 67108864 (subP b a)) (b2 : bd 67108864 (subP p a)) (b3 : bd 67108864 (subP p b))
  (hw : IntKind.i64.wrap (dotP (subP p a) (subP p a) - e * e) = dotP (subP p a) (subP p a) - e * e)
  (hc : M1 [I (dotP (subP p a) (subP p a) - e * e), I (dotP (subP b a) (subP b a)), I (dotP (subP b a) (subP p a)), I (dotP (subP b a) (subP p a))] = some [I (cmpI ((dotP (subP p a) (subP p a) - e * e) * dotP (subP b a) (subP b a)) (dotP (subP b a) (subP p a) * dotP (subP b a) (subP p a)))]) :
  ∃ r, mf_contour_OnLine M1 M2 M3 [I a.x, I a.y, I a.z, I b.x, I b.y, I b.z, I p.x, I p.y, I p.z, I e] = some [B r] /\ (r = true ↔ onLine a b p e) := by
 rw [mf_contour_OnLine_eq]
 simp only [go_sem, d1, d2, d3, p1 _ _ b1 b2, p1 _ _ b1 b1, p1 _ _ b2 b2, p1 _ _ b3 b3, hw, he, hc]
 unfold onLine
 by_cases h1 : dotP (subP b a) (subP p a) <= 0
 ·rw [if_pos h1, if_pos h1]; exact ⟨_, rfl, by simp⟩
 ·rw [if_neg h1, if_neg h1]
  by_cases h2 : dotP (subP b a) (subP p a) >= dotP (subP b a) (subP b a)
  ·rw [if_pos h2, if_pos h2]; exact ⟨_, rfl, by simp⟩
  ·rw [if_neg h2, if_neg h2]; exact ⟨_, rfl, by simp only [decide_eq_true_eq]; exact cmpI_le⟩
theorem s_contour_OnLine {a b p : Pt} {e : Int} (ha : bd 33554432 a) (hb : bd 33554432 b) (hp : bd 33554432 p) (he : e.natAbs <= 32000) :
  ∃ r, Qhx [I a.x, I a.y, I a.z, I b.x, I b.y, I b.z, I p.x, I p.y, I p.z, I e] = some [B r] /\ (r = true ↔ onLine a b p e) := by
 have h1 := sub_bd hb ha
 have h2 := sub_bd hp ha
 have h3 := sub_bd hp hb
 have g1 := dot_le h2 h2
 have g2 := dot_le h1 h1
 have g3 := dot_le h1 h2
 have g4 := sq_le he
 refine a_contour_OnLine (Qab (by omega)) (Qkg hb ha) (Qkg hp ha) (Qkg hp hb) (fun u v hu hv => s_contour_product hu hv) h1 h2 h3 (Qab (by omega)) (s_wide_Cmp ?_ ?_ ?_ ?_) <;> (unfold i64; omega)
end Go.Bm
