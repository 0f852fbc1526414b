/- layer 1's reference: the product of numbers as lists of digits, and the comparison of products -/
import Derived.Test.YtdllaekpkcanbaaPrB
set_option linter.unusedVariables false
set_option linter.unusedSimpArgs false
set_option maxRecDepth 100000
namespace Go.Bm

theorem val_set : ∀ (l : List Nat) (j : Nat) (h : j < l.length) (d : Nat), val (l.set j d) + 65536 ^ j * l[j] = val l + 65536 ^ j * d
  | [], j, h, d => by simp at h
  | x :: l, 0, h, d => by simp [val]; omega
  | x :: l, j + 1, h, d => by
    have := val_set l j (by simpa using h) d
    simp only [List.set_cons_succ, val, List.getElem_cons_succ, Nat.pow_succ]
    have e : ∀ z, 65536 ^ j * 65536 * z = 65536 * (65536 ^ j * z) := fun z => by rw [Nat.mul_comm (65536 ^ j) 65536, Nat.mul_assoc]
    rw [e, e]
    omega
theorem Dig.set {l : List Nat} (h : Dig l) (j d : Nat) (hd : d < 65536) : Dig (l.set j d) := by
  intro x hx
  rcases List.mem_or_eq_of_mem_set hx with h' | rfl
  · exact h x h'
  · exact hd
theorem map_uR_set (l : List Nat) (j d : Nat) : (l.map uR).set j [AC.int IntKind.u64 (d : Int)] = (l.set j d).map uR := by rw [List.map_set]

/-- one digit more of a row of the product -/
theorem st_mul_in {M : List AC → Option (List AC)} {out a b : List Nat} {i k c : Nat} (ho : Dig out) (ha : Dig a) (hb : Dig b) (hc : c < 65536) (hi : i < a.length) (hk : k < b.length) (hl : out.length = a.length + b.length) (hn : a.length + b.length ≤ 1000) :
    st_cncref01_mul_7 M [.view kUs (out.map uR), .view kUs (a.map uR), .view kUs (b.map uR), I i, U c, I k] =
      some (0, [.view kUs ((out.set (i + k) ((out[i + k]'(by omega) + a[i] * b[k] + c) % 65536)).map uR), .view kUs (a.map uR), .view kUs (b.map uR), I i, U (((out[i + k]'(by omega) + a[i] * b[k] + c) / 65536 : Nat) : Int), I ((k + 1 : Nat) : Int)]) := by
  have h1 := ho (out[i + k]'(by omega)) (List.getElem_mem _)
  have h2 := ha a[i] (List.getElem_mem _)
  have h3 := hb b[k] (List.getElem_mem _)
  have e1 : nth [] (out.map uR) (i + k) = uR (out[i + k]'(by omega)) := nth_map uR [] out _ (by omega)
  have e2 : nth [] (a.map uR) i = uR a[i] := nth_map uR [] a _ hi
  have e3 : nth [] (b.map uR) k = uR b[k] := nth_map uR [] b _ hk
  have h4 : a[i] * b[k] ≤ 65535 * 65535 := Nat.mul_le_mul (by omega) (by omega)
  have hw : IntKind.i64.wrap ((i : Int) + (k : Int)) = ((i + k : Nat) : Int) := by rw [wrap_id (by omega)]; omega
  have hv : IntKind.u64.wrap (IntKind.u64.wrap ((out[i + k]'(by omega) : Int) + IntKind.u64.wrap ((a[i] : Int) * (b[k] : Int))) + (c : Int)) = ((out[i + k]'(by omega) + a[i] * b[k] + c : Nat) : Int) := by
    have e : ((a[i] : Int) * (b[k] : Int)) = ((a[i] * b[k] : Nat) : Int) := by simp
    rw [e]
    generalize a[i] * b[k] = p at *
    rw [uwrap_id (x := (p : Int)) (by omega), uwrap_id (x := (out[i + k]'(by omega) : Int) + (p : Int)) (by omega), uwrap_id (by omega)]
    omega
  rw [st_cncref01_mul_7_eq, hw]
  simp only [Int.toNat_natCast, e1, e2, e3]
  have ee : ∀ n : Nat, intOf (nth AC.dead (uR n) 0) = (n : Int) := fun n => rfl
  rw [ee, ee, ee, hv, and_low _ (by rw [w64_eq]; omega), shr16]
  simp only [go_sem]
  rw [if_pos (by simp; omega), if_pos (by simp; omega), if_pos (by simp; omega), if_pos (by simp; omega), if_pos (by simp; omega), wrap_id (by omega), map_uR_set]
  rfl

/-- a row of the product -/
theorem l_mul_in {M : List AC → Option (List AC)} {a b : List Nat} {i : Nat} (ha : Dig a) (hb : Dig b) (hi : i < a.length) (hn : a.length + b.length ≤ 1000) (P : Nat) : ∀ (m k : Nat) (out : List Nat) (c : Nat), m = b.length - k → k ≤ b.length → Dig out → c < 65536 → out.length = a.length + b.length →
    (∀ j (h : j < out.length), i + b.length ≤ j → out[j] = 0) → val out + c * 65536 ^ (i + k) = P + a[i] * 65536 ^ i * val (b.take k) →
    ∃ (out' : List Nat) (c' : Nat), loopC (st_cncref01_mul_7 M) [.view kUs (out.map uR), .view kUs (a.map uR), .view kUs (b.map uR), I i, U c, I k] = some (1, [.view kUs (out'.map uR), .view kUs (a.map uR), .view kUs (b.map uR), I i, U c']) ∧
      Dig out' ∧ c' < 65536 ∧ out'.length = a.length + b.length ∧ (∀ j (h : j < out'.length), i + b.length ≤ j → out'[j] = 0) ∧ val out' + c' * 65536 ^ (i + b.length) = P + a[i] * 65536 ^ i * val b
  | 0, k, out, c, hm, hk, ho, hc, hl, hz, hv => by
    have hkb : k = b.length := by omega
    subst hkb
    rw [List.take_length] at hv
    refine ⟨out, c, ?_, ho, hc, hl, hz, hv⟩
    refine loop_end ?_ (by simp)
    rw [st_cncref01_mul_7_eq]
    simp only [go_sem]
    rw [if_neg (by simp)]
  | m + 1, k, out, c, hm, hk, ho, hc, hl, hz, hv => by
    have hkb : k < b.length := by omega
    rw [loop_more (st_mul_in ho ha hb hc hi hkb hl hn)]
    have h1 := ho (out[i + k]'(by omega)) (List.getElem_mem _)
    have h2 := ha a[i] (List.getElem_mem _)
    have h3 := hb b[k] (List.getElem_mem _)
    have h4 : a[i] * b[k] ≤ 65535 * 65535 := Nat.mul_le_mul (by omega) (by omega)
    refine l_mul_in ha hb hi hn P m (k + 1) _ _ (by omega) (by omega) (ho.set _ _ (Nat.mod_lt _ (by omega))) (by generalize a[i] * b[k] = p at *; omega) (by simpa using hl) ?_ ?_
    · intro j hj hij
      rw [List.getElem_set_ne (by omega)]
      exact hz j (by simpa using hj) hij
    · have hs := val_set out (i + k) (by omega) ((out[i + k]'(by omega) + a[i] * b[k] + c) % 65536)
      rw [val_take_succ b k hkb]
      have hdm := Nat.div_add_mod (out[i + k]'(by omega) + a[i] * b[k] + c) 65536
      generalize (out[i + k]'(by omega) + a[i] * b[k] + c) % 65536 = r at *
      generalize (out[i + k]'(by omega) + a[i] * b[k] + c) / 65536 = q at *
      generalize val (out.set (i + k) r) = V at *
      generalize out[i + k]'(by omega) = x at *
      have e1 : 65536 ^ (i + (k + 1)) = 65536 ^ (i + k) * 65536 := by rw [← Nat.add_assoc, Nat.pow_succ]
      have e2 : a[i] * 65536 ^ i * (val (b.take k) + 65536 ^ k * b[k]) = a[i] * 65536 ^ i * val (b.take k) + 65536 ^ (i + k) * (a[i] * b[k]) := by
        rw [Nat.mul_add, Nat.pow_add]
        congr 1
        rw [Nat.mul_comm a[i], Nat.mul_assoc, Nat.mul_assoc]
        congr 1
        rw [← Nat.mul_assoc, Nat.mul_comm a[i], Nat.mul_assoc]
      rw [e1, e2]
      generalize a[i] * 65536 ^ i * val (b.take k) = A at *
      generalize a[i] * b[k] = p at *
      generalize 65536 ^ (i + k) = B at *
      have h5 : B * (x + p + c) = B * (65536 * q + r) := by rw [hdm]
      simp only [Nat.mul_add] at h5
      have h6 : q * (B * 65536) = B * (65536 * q) := by rw [Nat.mul_comm q, Nat.mul_assoc]
      have h7 : c * B = B * c := Nat.mul_comm _ _
      omega

/-- the rows of the product, one after the other -/
theorem l_mul {M : List AC → Option (List AC)} {a b : List Nat} (ha : Dig a) (hb : Dig b) (hn : a.length + b.length ≤ 1000) : ∀ (m i : Nat) (out : List Nat), m = a.length - i → i ≤ a.length → Dig out → out.length = a.length + b.length →
    (∀ j (h : j < out.length), i + b.length ≤ j → out[j] = 0) → val out = val (a.take i) * val b →
    ∃ out' : List Nat, loopC (st_cncref01_mul_3 M (loopC (st_cncref01_mul_7 M))) [.view kUs (out.map uR), .view kUs (a.map uR), .view kUs (b.map uR), I i] = some (1, [.view kUs (out'.map uR)]) ∧
      Dig out' ∧ out'.length = a.length + b.length ∧ val out' = val a * val b
  | 0, i, out, hm, hi, ho, hl, hz, hv => by
    have hia : i = a.length := by omega
    subst hia
    rw [List.take_length] at hv
    refine ⟨out, ?_, ho, hl, hv⟩
    refine loop_end ?_ (by simp)
    rw [st_cncref01_mul_3_eq]
    simp only [go_sem]
    rw [if_neg (by simp)]
  | m + 1, i, out, hm, hi, ho, hl, hz, hv => by
    have hia : i < a.length := by omega
    obtain ⟨out1, c1, h1, h2, h3, h4, h5, h6⟩ := l_mul_in (M := M) ha hb hia hn (val out) b.length 0 out 0 (by omega) (by omega) ho (by omega) hl hz (by simp [val])
    have hz1 := h5 (i + b.length) (by omega) (Nat.le_refl _)
    have e1 : nth [] (out1.map uR) (i + b.length) = uR (out1[i + b.length]'(by omega)) := nth_map uR [] out1 _ (by omega)
    have hstep : st_cncref01_mul_3 M (loopC (st_cncref01_mul_7 M)) [.view kUs (out.map uR), .view kUs (a.map uR), .view kUs (b.map uR), I i] =
        some (0, [.view kUs ((out1.set (i + b.length) c1).map uR), .view kUs (a.map uR), .view kUs (b.map uR), I ((i + 1 : Nat) : Int)]) := by
      generalize loopC (st_cncref01_mul_7 M) = N at *
      rw [st_cncref01_mul_3_eq]
      rw [show (N [AC.view [Kd.int IntKind.u64] (out.map uR), AC.view [Kd.int IntKind.u64] (a.map uR), AC.view [Kd.int IntKind.u64] (b.map uR), AC.int IntKind.i64 (i : Int), AC.int IntKind.u64 0, AC.int IntKind.i64 0]) = _ from h1]
      have hw : IntKind.i64.wrap ((i : Int) + ((b.map uR).length : Int)) = ((i + b.length : Nat) : Int) := by rw [wrap_id (by simp; omega)]; simp
      simp only [go_sem, hw, Int.toNat_natCast, e1, hz1]
      rw [if_pos (by simp; omega), if_pos (by simp; omega), if_pos (by simp; omega), wrap_id (by omega)]
      have : IntKind.u64.wrap (((0 : Nat) : Int) + (c1 : Int)) = (c1 : Int) := by rw [uwrap_id (by omega)]; simp
      rw [this, map_uR_set]
      rfl
    rw [loop_more hstep]
    refine l_mul ha hb hn m (i + 1) _ (by omega) (by omega) (h2.set _ _ h3) (by simpa using h4) ?_ ?_
    · intro j hj hij
      rw [List.getElem_set_ne (by omega)]
      exact h5 j (by simpa using hj) (by omega)
    · have hs := val_set out1 (i + b.length) (by omega) c1
      rw [hz1] at hs
      rw [val_take_succ a i hia, Nat.add_mul, ← hv]
      have e2 : a[i] * 65536 ^ i * val b = 65536 ^ i * a[i] * val b := by rw [Nat.mul_comm a[i]]
      have e3 : c1 * 65536 ^ (i + b.length) = 65536 ^ (i + b.length) * c1 := Nat.mul_comm _ _
      omega
theorem a_cncref01_mul {M : List AC → Option (List AC)} (hM : ∀ l : List Nat, l.length ≤ 1000 → Dig l → ∃ c : List Nat, M [.view kUs (l.map uR)] = some [.view kUs (c.map uR)] ∧ val c = val l ∧ Dig c ∧ Cut c ∧ c.length ≤ l.length)
    {a b : List Nat} (ha : Dig a) (hb : Dig b) (hn : a.length + b.length ≤ 1000) :
    ∃ c : List Nat, mf_cncref01_mul M (loopC (st_cncref01_mul_7 M)) (loopC (st_cncref01_mul_3 M (loopC (st_cncref01_mul_7 M)))) [.view kUs (a.map uR), .view kUs (b.map uR)] = some [.view kUs (c.map uR)] ∧ val c = val a * val b ∧ Dig c ∧ Cut c ∧ c.length ≤ a.length + b.length := by
  have hrep : ∀ n, val (List.replicate n 0) = 0 := by
    intro n
    induction n with
    | zero => rfl
    | succ n ih => simp [List.replicate_succ, val, ih]
  obtain ⟨out, h1, h2, h3, h4⟩ := l_mul (M := M) ha hb hn a.length 0 (List.replicate (a.length + b.length) 0) (by omega) (by omega) (fun d hd => by simp at hd; omega) (by simp) (fun j h _ => by simp) (by rw [hrep]; simp [val])
  obtain ⟨c, g1, g2, g3, g4, g5⟩ := hM out (by omega) h2
  refine ⟨c, ?_, by rw [g2, h4], g3, g4, by omega⟩
  generalize loopC (st_cncref01_mul_3 M (loopC (st_cncref01_mul_7 M))) = N3 at *
  generalize loopC (st_cncref01_mul_7 M) = N7 at *
  rw [mf_cncref01_mul_eq]
  have hw : IntKind.i64.wrap (((a.map uR).length : Int) + ((b.map uR).length : Int)) = ((a.length + b.length : Nat) : Int) := by rw [wrap_id (by simp; omega)]; simp
  have hrm : List.replicate (a.length + b.length) [AC.int IntKind.u64 0] = (List.replicate (a.length + b.length) 0).map uR := by simp
  simp only [hw, Int.toNat_natCast, hrm]
  rw [show (N3 [AC.view [Kd.int IntKind.u64] ((List.replicate (a.length + b.length) 0).map uR), AC.view [Kd.int IntKind.u64] (a.map uR), AC.view [Kd.int IntKind.u64] (b.map uR), AC.int IntKind.i64 0]) = _ from h1]
  simp only [go_sem]
  rw [if_pos (by omega), show M [AC.view [Kd.int IntKind.u64] (out.map uR)] = _ from g1]
  simp only [go_sem]
theorem s_cncref01_mul {a b : List Nat} (ha : Dig a) (hb : Dig b) (hn : a.length + b.length ≤ 1000) :
    ∃ c : List Nat, m_cncref01_mul [.view kUs (a.map uR), .view kUs (b.map uR)] = some [.view kUs (c.map uR)] ∧ val c = val a * val b ∧ Dig c ∧ Cut c ∧ c.length ≤ a.length + b.length :=
  a_cncref01_mul (fun _ hl hd => s_cncref01_cut hl hd) ha hb hn
theorem a_cncref01_product {M1 M2 M3 : List AC → Option (List AC)} {x y : Int} {a b c : List Nat} (h1 : M3 [I x] = some [U x.natAbs]) (h2 : M3 [I y] = some [U y.natAbs]) (h3 : M2 [U x.natAbs] = some [.view kUs (a.map uR)]) (h4 : M2 [U y.natAbs] = some [.view kUs (b.map uR)])
    (h5 : M1 [.view kUs (a.map uR), .view kUs (b.map uR)] = some [.view kUs (c.map uR)]) : mf_cncref01_product M1 M2 M3 [I x, I y] = some [.view kUs (c.map uR)] := by
  rw [mf_cncref01_product_eq]
  simp only [go_sem, h1, h2, h3, h4, h5]
theorem s_cncref01_product {x y : Int} (hx : i64 x) (hy : i64 y) : ∃ c : List Nat, m_cncref01_product [I x, I y] = some [.view kUs (c.map uR)] ∧ val c = x.natAbs * y.natAbs ∧ Dig c ∧ Cut c ∧ c.length ≤ 8 := by
  have l1 := digs_len 4 x.natAbs (by rw [← w64_pow]; exact i64_abs hx)
  have l2 := digs_len 4 y.natAbs (by rw [← w64_pow]; exact i64_abs hy)
  obtain ⟨c, h1, h2, h3, h4, h5⟩ := s_cncref01_mul (digs_dig x.natAbs) (digs_dig y.natAbs) (by omega)
  rw [digs_val, digs_val] at h2
  exact ⟨c, a_cncref01_product (s_cncref01_mag hx) (s_cncref01_mag hy) (s_cncref01_limbs (i64_abs hx)) (s_cncref01_limbs (i64_abs hy)) h1, h2, h3, h4, by omega⟩
theorem a_cncref01_Cmp {M1 M2 M3 : List AC → Option (List AC)} {a b c d : Int} {p q : List Nat} (ks : ∀ a b, M3 [I a, I b] = some [I (sgn a b)]) (h1 : M2 [I a, I b] = some [.view kUs (p.map uR)]) (h2 : M2 [I c, I d] = some [.view kUs (q.map uR)])
    (h3 : M1 [.view kUs (p.map uR), .view kUs (q.map uR)] = some [I (cmpN (a.natAbs * b.natAbs) (c.natAbs * d.natAbs))]) : mf_cncref01_Cmp M1 M2 M3 [I a, I b, I c, I d] = some [I (cmpI (a * b) (c * d))] := by
  have hm := unit_mul (sgn_bound a b) (cmpN_bound (a.natAbs * b.natAbs) (c.natAbs * d.natAbs))
  rw [mf_cncref01_Cmp_eq]
  simp only [go_sem, ks, h1, h2, h3]
  rw [← cmp_sign, wrap_id (by omega)]
  by_cases g1 : sgn a b < sgn c d
  · rw [if_pos g1, if_pos (by omega), if_pos g1]
  · rw [if_neg g1]
    by_cases g2 : sgn a b > sgn c d
    · rw [if_pos g2, if_pos (by omega), if_neg g1]
    · rw [if_neg g2, if_neg (by omega)]
theorem s_cncref01_Cmp {a b c d : Int} (ha : i64 a) (hb : i64 b) (hc : i64 c) (hd : i64 d) : m_cncref01_Cmp [I a, I b, I c, I d] = some [I (cmpI (a * b) (c * d))] := by
  obtain ⟨p, p1, p2, p3, p4, p5⟩ := s_cncref01_product ha hb
  obtain ⟨q, q1, q2, q3, q4, q5⟩ := s_cncref01_product hc hd
  refine a_cncref01_Cmp s_cncref01_sign p1 q1 ?_
  rw [← p2, ← q2]
  exact s_cncref01_cmp p3 q3 p4 q4 (by omega)
end Go.Bm
