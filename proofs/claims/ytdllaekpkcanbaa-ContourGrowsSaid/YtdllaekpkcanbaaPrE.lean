/- points near a straight line: the program's answer and the reference's are the same, from either end -/
import Derived.Test.YtdllaekpkcanbaaPrC
import Derived.Test.YtdllaekpkcanbaaMx1
set_option linter.unusedVariables false
set_option linter.unusedSimpArgs false
set_option maxRecDepth 100000
namespace Go.Bm

/-- every component is at most A -/
def bd (A : Nat) (p : Pt) : Prop := p.x.natAbs ≤ A ∧ p.y.natAbs ≤ A ∧ p.z.natAbs ≤ A
def dotP (a b : Pt) : Int := a.x * b.x + a.y * b.y + a.z * b.z
def subP (a b : Pt) : Pt := ⟨a.x - b.x, a.y - b.y, a.z - b.z⟩
theorem mul_bd {x y : Int} {A B : Nat} (hx : x.natAbs ≤ A) (hy : y.natAbs ≤ B) : (x * y).natAbs ≤ A * B := by rw [Int.natAbs_mul]; exact Nat.mul_le_mul hx hy
theorem dot_bd {A B : Nat} {a b : Pt} (ha : bd A a) (hb : bd B b) : (a.x * b.x).natAbs ≤ A * B ∧ (a.y * b.y).natAbs ≤ A * B ∧ (a.z * b.z).natAbs ≤ A * B :=
  ⟨mul_bd ha.1 hb.1, mul_bd ha.2.1 hb.2.1, mul_bd ha.2.2 hb.2.2⟩
theorem sub_bd {A B : Nat} {a b : Pt} (ha : bd A a) (hb : bd B b) : bd (A + B) (subP a b) := by
  obtain ⟨h1, h2, h3⟩ := ha
  obtain ⟨g1, g2, g3⟩ := hb
  refine ⟨?_, ?_, ?_⟩ <;> simp only [subP] <;> omega
theorem bd_mono {A B : Nat} {a : Pt} (h : bd A a) (hab : A ≤ B) : bd B a := ⟨Nat.le_trans h.1 hab, Nat.le_trans h.2.1 hab, Nat.le_trans h.2.2 hab⟩

theorem dot_wrap {a b : Pt} (ha : bd 67108864 a) (hb : bd 67108864 b) : IntKind.i64.wrap (IntKind.i64.wrap (IntKind.i64.wrap (a.x * b.x) + IntKind.i64.wrap (a.y * b.y)) + IntKind.i64.wrap (a.z * b.z)) = dotP a b := by
  obtain ⟨h1, h2, h3⟩ := dot_bd ha hb
  unfold dotP
  generalize a.x * b.x = p at *
  generalize a.y * b.y = q at *
  generalize a.z * b.z = r at *
  rw [wrap_id (x := p) (by omega), wrap_id (x := q) (by omega), wrap_id (x := r) (by omega), wrap_id (x := p + q) (by omega), wrap_id (by omega)]
theorem s_contour_product {a b : Pt} (ha : bd 67108864 a) (hb : bd 67108864 b) : m_contour_product [I a.x, I a.y, I a.z, I b.x, I b.y, I b.z] = some [I (dotP a b)] := by
  unfold m_contour_product
  rw [mf_contour_product_eq, dot_wrap ha hb]
theorem s_cncref24_Dot {a b : Pt} (ha : bd 67108864 a) (hb : bd 67108864 b) : m_cncref24_Dot [I a.x, I a.y, I a.z, I b.x, I b.y, I b.z] = some [I (dotP a b)] := by
  unfold m_cncref24_Dot
  rw [mf_cncref24_Dot_eq, dot_wrap ha hb]
theorem sub_wrap {a b : Pt} (ha : bd 33554432 a) (hb : bd 33554432 b) : IntKind.i64.wrap (a.x - b.x) = (subP a b).x ∧ IntKind.i64.wrap (a.y - b.y) = (subP a b).y ∧ IntKind.i64.wrap (a.z - b.z) = (subP a b).z := by
  obtain ⟨h1, h2, h3⟩ := ha
  obtain ⟨g1, g2, g3⟩ := hb
  refine ⟨?_, ?_, ?_⟩ <;> rw [wrap_id (by omega)] <;> rfl
theorem s_contour_difference {a b : Pt} (ha : bd 33554432 a) (hb : bd 33554432 b) : m_contour_difference [I a.x, I a.y, I a.z, I b.x, I b.y, I b.z] = some (ptR (subP a b)) := by
  unfold m_contour_difference
  obtain ⟨h1, h2, h3⟩ := sub_wrap ha hb
  rw [mf_contour_difference_eq, h1, h2, h3]
theorem s_cncref24_Minus {a b : Pt} (ha : bd 33554432 a) (hb : bd 33554432 b) : m_cncref24_Minus [I a.x, I a.y, I a.z, I b.x, I b.y, I b.z] = some (ptR (subP a b)) := by
  unfold m_cncref24_Minus
  obtain ⟨h1, h2, h3⟩ := sub_wrap ha hb
  rw [mf_cncref24_Minus_eq, h1, h2, h3]
theorem dot_neg (a b : Pt) : dotP (subP a b) (subP a b) = dotP (subP b a) (subP b a) := by
  simp only [dotP, subP]
  have h : ∀ x y : Int, (x - y) * (x - y) = (y - x) * (y - x) := by intro x y; rw [← Int.neg_mul_neg, Int.neg_sub]
  rw [h a.x, h a.y, h a.z]
theorem s_cncref23_Square {a b : Pt} (ha : bd 33554432 a) (hb : bd 33554432 b) : m_cncref23_Square [I a.x, I a.y, I a.z, I b.x, I b.y, I b.z] = some [I (dotP (subP a b) (subP a b))] := by
  unfold m_cncref23_Square
  obtain ⟨h1, h2, h3⟩ := sub_wrap ha hb
  have hd := dot_wrap (sub_bd ha hb) (sub_bd ha hb)
  have hi := i64_wrap ((subP a b).x * (subP a b).x)
  unfold i64 at hi
  rw [mf_cncref23_Square_eq, h1, h2, h3]
  rw [wrap_id (x := 0 + _) (by omega), Int.zero_add, hd]

/-- the distance of p from the line from a to b is at most e -/
def onLine (a b p : Pt) (e : Int) : Prop :=
  if dotP (subP b a) (subP p a) ≤ 0 then dotP (subP p a) (subP p a) ≤ e * e
  else if dotP (subP b a) (subP p a) ≥ dotP (subP b a) (subP b a) then dotP (subP p b) (subP p b) ≤ e * e
  else (dotP (subP p a) (subP p a) - e * e) * dotP (subP b a) (subP b a) ≤ dotP (subP b a) (subP p a) * dotP (subP b a) (subP p a)

theorem cmpI_le {x y : Int} : cmpI x y ≤ 0 ↔ x ≤ y := by
  unfold cmpI
  by_cases h : x < y
  · rw [if_pos h]; omega
  · rw [if_neg h]
    by_cases h' : x = y
    · rw [if_pos h']; omega
    · rw [if_neg h']; omega

theorem a_contour_OnLine {M1 M2 M3 : List AC → Option (List AC)} {a b p : Pt} {e : Int} (he : IntKind.i64.wrap (e * e) = e * e)
    (d1 : M3 [I b.x, I b.y, I b.z, I a.x, I a.y, I a.z] = some (ptR (subP b a))) (d2 : M3 [I p.x, I p.y, I p.z, I a.x, I a.y, I a.z] = some (ptR (subP p a))) (d3 : M3 [I p.x, I p.y, I p.z, I b.x, I b.y, I b.z] = some (ptR (subP p b)))
    (p1 : ∀ u v : Pt, bd 67108864 u → bd 67108864 v → M2 [I u.x, I u.y, I u.z, I v.x, I v.y, I v.z] = some [I (dotP u v)]) (b1 : bd 67108864 (subP b a)) (b2 : bd 67108864 (subP p a)) (b3 : bd 67108864 (subP p b))
    (hw : IntKind.i64.wrap (dotP (subP p a) (subP p a) - e * e) = dotP (subP p a) (subP p a) - e * e)
    (hc : M1 [I (dotP (subP p a) (subP p a) - e * e), I (dotP (subP b a) (subP b a)), I (dotP (subP b a) (subP p a)), I (dotP (subP b a) (subP p a))] = some [I (cmpI ((dotP (subP p a) (subP p a) - e * e) * dotP (subP b a) (subP b a)) (dotP (subP b a) (subP p a) * dotP (subP b a) (subP p a)))]) :
    ∃ r, mf_contour_OnLine M1 M2 M3 [I a.x, I a.y, I a.z, I b.x, I b.y, I b.z, I p.x, I p.y, I p.z, I e] = some [B r] ∧ (r = true ↔ onLine a b p e) := by
  rw [mf_contour_OnLine_eq]
  simp only [go_sem, d1, d2, d3, p1 _ _ b1 b2, p1 _ _ b1 b1, p1 _ _ b2 b2, p1 _ _ b3 b3, hw, he, hc]
  unfold onLine
  by_cases h1 : dotP (subP b a) (subP p a) ≤ 0
  · rw [if_pos h1, if_pos h1]; exact ⟨_, rfl, by simp⟩
  · rw [if_neg h1, if_neg h1]
    by_cases h2 : dotP (subP b a) (subP p a) ≥ dotP (subP b a) (subP b a)
    · rw [if_pos h2, if_pos h2]; exact ⟨_, rfl, by simp⟩
    · rw [if_neg h2, if_neg h2]; exact ⟨_, rfl, by simp only [decide_eq_true_eq]; exact cmpI_le⟩
theorem a_cncref24_OnSegment {M1 M2 M3 M4 : List AC → Option (List AC)} {a b p : Pt} {e : Int} (he : IntKind.i64.wrap (e * e) = e * e)
    (d1 : M4 [I b.x, I b.y, I b.z, I a.x, I a.y, I a.z] = some (ptR (subP b a))) (d2 : M4 [I p.x, I p.y, I p.z, I a.x, I a.y, I a.z] = some (ptR (subP p a))) (d3 : M2 [I b.x, I b.y, I b.z, I p.x, I p.y, I p.z] = some [I (dotP (subP b p) (subP b p))])
    (p1 : ∀ u v : Pt, bd 67108864 u → bd 67108864 v → M3 [I u.x, I u.y, I u.z, I v.x, I v.y, I v.z] = some [I (dotP u v)]) (b1 : bd 67108864 (subP b a)) (b2 : bd 67108864 (subP p a))
    (hw : IntKind.i64.wrap (dotP (subP p a) (subP p a) - e * e) = dotP (subP p a) (subP p a) - e * e)
    (hc : M1 [I (dotP (subP p a) (subP p a) - e * e), I (dotP (subP b a) (subP b a)), I (dotP (subP b a) (subP p a)), I (dotP (subP b a) (subP p a))] = some [I (cmpI ((dotP (subP p a) (subP p a) - e * e) * dotP (subP b a) (subP b a)) (dotP (subP b a) (subP p a) * dotP (subP b a) (subP p a)))]) :
    ∃ r, mf_cncref24_OnSegment M1 M2 M3 M4 [I a.x, I a.y, I a.z, I b.x, I b.y, I b.z, I p.x, I p.y, I p.z, I e] = some [B r] ∧ (r = true ↔ onLine a b p e) := by
  rw [mf_cncref24_OnSegment_eq]
  simp only [go_sem, d1, d2, d3, p1 _ _ b1 b2, p1 _ _ b1 b1, p1 _ _ b2 b2, hw, he, hc]
  unfold onLine
  by_cases h1 : dotP (subP b a) (subP p a) ≤ 0
  · rw [if_pos h1, if_pos h1]; exact ⟨_, rfl, by simp⟩
  · rw [if_neg h1, if_neg h1]
    by_cases h2 : dotP (subP b a) (subP p a) ≥ dotP (subP b a) (subP b a)
    · rw [if_pos h2, if_pos h2]; exact ⟨_, rfl, by rw [dot_neg p b]; simp⟩
    · rw [if_neg h2, if_neg h2]; exact ⟨_, rfl, by simp only [decide_eq_true_eq]; exact cmpI_le⟩

theorem dot_le {a b : Pt} (ha : bd 67108864 a) (hb : bd 67108864 b) : (dotP a b).natAbs ≤ 13510798882111488 := by
  obtain ⟨h1, h2, h3⟩ := dot_bd ha hb
  unfold dotP
  omega
theorem sq_le {e : Int} (he : e.natAbs ≤ 32000) : (e * e).natAbs ≤ 1024000000 := mul_bd he he
theorem s_contour_OnLine {a b p : Pt} {e : Int} (ha : bd 33554432 a) (hb : bd 33554432 b) (hp : bd 33554432 p) (he : e.natAbs ≤ 32000) :
    ∃ r, m_contour_OnLine [I a.x, I a.y, I a.z, I b.x, I b.y, I b.z, I p.x, I p.y, I p.z, I e] = some [B r] ∧ (r = true ↔ onLine a b p e) := by
  have h1 := sub_bd hb ha
  have h2 := sub_bd hp ha
  have h3 := sub_bd hp hb
  have g1 := dot_le h2 h2
  have g2 := dot_le h1 h1
  have g3 := dot_le h1 h2
  have g4 := sq_le he
  refine a_contour_OnLine (wrap_id (by omega)) (s_contour_difference hb ha) (s_contour_difference hp ha) (s_contour_difference hp hb) (fun u v hu hv => s_contour_product hu hv) h1 h2 h3 (wrap_id (by omega)) (s_wide_Cmp ?_ ?_ ?_ ?_) <;> (unfold i64; omega)
theorem s_cncref41_OnLine {a b p : Pt} {e : Int} (ha : bd 33554432 a) (hb : bd 33554432 b) (hp : bd 33554432 p) (he : e.natAbs ≤ 32000) :
    ∃ r, m_cncref41_OnLine [I a.x, I a.y, I a.z, I b.x, I b.y, I b.z, I p.x, I p.y, I p.z, I e] = some [B r] ∧ (r = true ↔ onLine a b p e) := by
  have h1 := sub_bd hb ha
  have h2 := sub_bd hp ha
  have g1 := dot_le h2 h2
  have g2 := dot_le h1 h1
  have g3 := dot_le h1 h2
  have g4 := sq_le he
  obtain ⟨r, k1, k2⟩ := a_cncref24_OnSegment (M1 := m_cncref01_Cmp) (M2 := m_cncref23_Square) (M3 := m_cncref24_Dot) (M4 := m_cncref24_Minus) (wrap_id (x := e * e) (by omega)) (s_cncref24_Minus hb ha) (s_cncref24_Minus hp ha) (s_cncref23_Square hb hp) (fun u v hu hv => s_cncref24_Dot hu hv) h1 h2 (wrap_id (by omega)) (s_cncref01_Cmp (by unfold i64; omega) (by unfold i64; omega) (by unfold i64; omega) (by unfold i64; omega))
  refine ⟨r, ?_, k2⟩
  unfold m_cncref41_OnLine
  generalize hM : m_cncref24_OnSegment = M
  have k3 : M [I a.x, I a.y, I a.z, I b.x, I b.y, I b.z, I p.x, I p.y, I p.z, I e] = some [B r] := by rw [← hM]; exact k1
  rw [mf_cncref41_OnLine_eq, k3]
  simp only [go_sem]

theorem onLine_rev (a b p : Pt) (e : Int) : onLine a b p e ↔ onLine b a p e := by
  have k1 : dotP (subP a b) (subP p b) = dotP (subP b a) (subP b a) - dotP (subP b a) (subP p a) := by simp only [dotP, subP]; grind
  have k2 : dotP (subP p b) (subP p b) = dotP (subP p a) (subP p a) - 2 * dotP (subP b a) (subP p a) + dotP (subP b a) (subP b a) := by simp only [dotP, subP]; grind
  have k3 : 0 ≤ dotP (subP b a) (subP b a) := by
    have h : ∀ x : Int, 0 ≤ x * x := fun x => by
      rcases Int.le_total 0 x with h | h
      · exact Int.mul_nonneg h h
      · have := Int.mul_nonneg (a := -x) (b := -x) (by omega) (by omega)
        rw [Int.neg_mul_neg] at this; exact this
    have h1 := h (subP b a).x
    have h2 := h (subP b a).y
    have h3 := h (subP b a).z
    unfold dotP
    omega
  unfold onLine
  rw [k1, k2, dot_neg a b]
  generalize dotP (subP p a) (subP p a) = W at *
  generalize dotP (subP b a) (subP b a) = N at *
  generalize dotP (subP b a) (subP p a) = X at *
  generalize e * e = E
  have q1 : (W - 2 * X + N - E) * N = (W - E) * N - 2 * (X * N) + N * N := by grind
  have q2 : (N - X) * (N - X) = N * N - 2 * (X * N) + X * X := by grind
  rw [q1, q2]
  generalize (W - E) * N = A
  generalize X * N = C
  generalize N * N = D
  generalize X * X = F
  by_cases h1 : X ≤ 0
  · rw [if_pos h1]
    by_cases h2 : N - X ≤ 0
    · rw [if_pos h2]; constructor <;> intro h <;> omega
    · rw [if_neg h2, if_pos (by omega)]
  · rw [if_neg h1]
    by_cases h2 : X ≥ N
    · rw [if_pos h2, if_pos (by omega)]
    · rw [if_neg h2, if_neg (by omega), if_neg (by omega)]; constructor <;> intro h <;> omega
end Go.Bm
