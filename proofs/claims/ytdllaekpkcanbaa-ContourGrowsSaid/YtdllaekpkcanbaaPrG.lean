/- points near a motion: what the program answers, that it grows with the distance, and that the ends are on it -/
import Derived.Test.YtdllaekpkcanbaaPrV2
set_option linter.unusedVariables false
set_option linter.unusedSimpArgs false
set_option maxRecDepth 100000
namespace Go.Bm

def aboveP (p q e : Int) : Prop := p - q - e * e ≤ 0 ∨ (p - q - e * e) * (p - q - e * e) ≤ 4 * e * e * q
def rayP (u w x y e : Int) : Prop := 0 ≤ dt2 u w x y ∧ crs u w x y * crs u w x y ≤ e * e * sq2 u w
def passedP (u w x y s t dir : Int) : Prop :=
  if crs u w x y * dir > 0 then crs u w s t * dir ≥ 0 ∧ crs s t x y * dir ≥ 0
  else if crs u w x y * dir = 0 ∧ dt2 u w x y < 0 then crs u w s t * dir ≥ 0
  else crs x y s t * dir ≤ 0 ∨ crs s t u w * dir ≤ 0
theorem s_contour_dot {u w x y : Int} (hu : u.natAbs ≤ 1000000000) (hw : w.natAbs ≤ 1000000000) (hx : x.natAbs ≤ 1000000000) (hy : y.natAbs ≤ 1000000000) : m_contour_dot [I u, I w, I x, I y] = some [I (dt2 u w x y)] := by
  unfold m_contour_dot
  rw [mf_contour_dot_eq]
  have h1 := mul_bd hu hx
  have h2 := mul_bd hw hy
  unfold dt2
  rw [wrap_id (x := u * x) (by omega), wrap_id (x := w * y) (by omega), wrap_id (by omega)]
theorem s_contour_cross {u w x y : Int} (hu : u.natAbs ≤ 1000000000) (hw : w.natAbs ≤ 1000000000) (hx : x.natAbs ≤ 1000000000) (hy : y.natAbs ≤ 1000000000) : m_contour_cross [I u, I w, I x, I y] = some [I (crs u w x y)] := by
  unfold m_contour_cross
  rw [mf_contour_cross_eq]
  have h1 := mul_bd hu hy
  have h2 := mul_bd hw hx
  unfold crs
  rw [wrap_id (x := u * y) (by omega), wrap_id (x := w * x) (by omega), wrap_id (by omega)]
abbrev small9 (x : Int) : Prop := x.natAbs ≤ 1000000000
theorem a_contour_above {M : List AC → Option (List AC)} (hM : ∀ {a b c d : Int}, i64 a → i64 b → i64 c → i64 d → M [I a, I b, I c, I d] = some [I (cmpI (a * b) (c * d))])
    {p q e : Int} (hp : 0 ≤ p ∧ p ≤ 4000000000000000000) (hq : 0 ≤ q ∧ q ≤ 4000000000000000000) (he : 0 ≤ e ∧ e ≤ 32000) :
    ∃ v, mf_contour_above M [I p, I q, I e] = some [B v] ∧ (v = true ↔ aboveP p q e) := by
  rw [mf_contour_above_eq]
  have h1 := sq_nat e (b := 32000) (by omega)
  have e3 : 4 * e * e = 4 * (e * e) := by rw [Int.mul_assoc]
  simp only [go_sem]
  unfold aboveP
  rw [wrap_id (x := 4 * e) (by omega), e3]
  generalize e * e = s at *
  rw [wrap_id (x := p - q) (by omega), wrap_id (x := s) (by omega), wrap_id (x := p - q - s) (by omega), wrap_id (x := 4 * s) (by omega)]
  by_cases c1 : p - q - s ≤ 0
  · rw [if_pos c1]; exact ⟨_, rfl, iff_of_true rfl (.inl c1)⟩
  · rw [if_neg c1, hM (by unfold i64; omega) (by unfold i64; omega) (by unfold i64; omega) (by unfold i64; omega)]
    refine ⟨_, rfl, ?_⟩
    simp only [go_sem, decide_eq_true_eq, cmpI_le]
    exact ⟨fun h => .inr h, fun h => h.resolve_left c1⟩
theorem s_contour_above {p q e : Int} (hp : 0 ≤ p ∧ p ≤ 4000000000000000000) (hq : 0 ≤ q ∧ q ≤ 4000000000000000000) (he : 0 ≤ e ∧ e ≤ 32000) :
    ∃ v, m_contour_above [I p, I q, I e] = some [B v] ∧ (v = true ↔ aboveP p q e) := a_contour_above s_wide_Cmp hp hq he
theorem crs_i64 {u w x y : Int} (hu : small9 u) (hw : small9 w) (hx : small9 x) (hy : small9 y) : (crs u w x y).natAbs ≤ 2000000000000000000 ∧ (dt2 u w x y).natAbs ≤ 2000000000000000000 := by
  have := dt2_bd hu hw hx hy
  omega
theorem a_contour_near {MC MD MX : List AC → Option (List AC)} (hM : ∀ {a b c d : Int}, i64 a → i64 b → i64 c → i64 d → MC [I a, I b, I c, I d] = some [I (cmpI (a * b) (c * d))])
    (hD : ∀ {u w x y : Int}, small9 u → small9 w → small9 x → small9 y → MD [I u, I w, I x, I y] = some [I (dt2 u w x y)]) (hX : ∀ {u w x y : Int}, small9 u → small9 w → small9 x → small9 y → MX [I u, I w, I x, I y] = some [I (crs u w x y)])
    {u w x y e : Int} (hu : small9 u) (hw : small9 w) (hx : small9 x) (hy : small9 y) (he : 0 ≤ e ∧ e ≤ 32000) :
    ∃ v, mf_contour_near MC MD MX [I u, I w, I x, I y, I e] = some [B v] ∧ (v = true ↔ rayP u w x y e) := by
  rw [mf_contour_near_eq]
  simp only [go_sem, hD hu hw hx hy, hX hu hw hx hy, hD hu hw hu hw]
  have h1 := sq_nat e (b := 32000) (by omega)
  have h2 := crs_i64 hu hw hx hy
  have h3 := crs_i64 hu hw hu hw
  have e1 : sq2 u w = dt2 u w u w := rfl
  unfold rayP
  rw [e1]
  generalize e * e = s at *
  rw [wrap_id (x := s) (by omega)]
  by_cases c1 : dt2 u w x y ≥ 0
  · rw [if_pos c1, hM (by unfold i64; omega) (by unfold i64; omega) (by unfold i64; omega) (by unfold i64; omega)]
    refine ⟨_, rfl, ?_⟩
    simp only [go_sem, decide_eq_true_eq, cmpI_le]
    exact ⟨fun h => ⟨c1, h⟩, fun h => h.2⟩
  · rw [if_neg c1]; exact ⟨_, rfl, iff_of_false (by simp) fun h => c1 h.1⟩
theorem s_contour_near {u w x y e : Int} (hu : small9 u) (hw : small9 w) (hx : small9 x) (hy : small9 y) (he : 0 ≤ e ∧ e ≤ 32000) :
    ∃ v, m_contour_near [I u, I w, I x, I y, I e] = some [B v] ∧ (v = true ↔ rayP u w x y e) := a_contour_near s_wide_Cmp s_contour_dot s_contour_cross hu hw hx hy he
theorem a_contour_passed {MD MX : List AC → Option (List AC)}
    (hD : ∀ {u w x y : Int}, small9 u → small9 w → small9 x → small9 y → MD [I u, I w, I x, I y] = some [I (dt2 u w x y)]) (hX : ∀ {u w x y : Int}, small9 u → small9 w → small9 x → small9 y → MX [I u, I w, I x, I y] = some [I (crs u w x y)])
    {u w x y s t dir : Int} (hu : small9 u) (hw : small9 w) (hx : small9 x) (hy : small9 y) (hs : small9 s) (ht : small9 t) (hd : dir = 1 ∨ dir = -1) :
    ∃ v, mf_contour_passed MD MX [I u, I w, I x, I y, I s, I t, I dir] = some [B v] ∧ (v = true ↔ passedP u w x y s t dir) := by
  rw [mf_contour_passed_eq]
  have h1 := crs_i64 hu hw hx hy
  have h2 := crs_i64 hu hw hs ht
  have h3 := crs_i64 hs ht hx hy
  have h4 := crs_i64 hx hy hs ht
  have h5 := crs_i64 hs ht hu hw
  simp only [go_sem, hX hu hw hx hy, hX hu hw hs ht, hX hs ht hx hy, hX hx hy hs ht, hX hs ht hu hw, hD hu hw hx hy]
  have w1 : ∀ c : Int, c.natAbs ≤ 2000000000000000000 → IntKind.i64.wrap (c * dir) = c * dir := fun c hc => by
    rcases hd with rfl | rfl <;> exact wrap_id (by omega)
  rw [w1 _ h1.1, w1 _ h2.1, w1 _ h3.1, w1 _ h4.1, w1 _ h5.1]
  unfold passedP
  generalize crs u w x y * dir = c1
  generalize crs u w s t * dir = c2
  generalize crs s t x y * dir = c3
  generalize crs x y s t * dir = c4
  generalize crs s t u w * dir = c5
  by_cases d1 : c1 > 0
  · rw [if_pos d1, if_pos d1]
    by_cases d2 : c2 ≥ 0
    · rw [if_pos d2]; exact ⟨_, rfl, by simp [d2]⟩
    · rw [if_neg d2]; exact ⟨_, rfl, by simp; omega⟩
  · rw [if_neg d1, if_neg d1]
    by_cases d2 : c1 = 0
    · rw [if_pos d2]
      by_cases d3 : dt2 u w x y < 0
      · rw [if_pos d3, if_pos ⟨d2, d3⟩]; exact ⟨_, rfl, by simp⟩
      · rw [if_neg d3, if_neg (c := c1 = 0 ∧ dt2 u w x y < 0) (fun h => d3 h.2)]
        by_cases d4 : c4 ≤ 0
        · rw [if_pos d4]; exact ⟨_, rfl, by simp [d4]⟩
        · rw [if_neg d4]; exact ⟨_, rfl, by simp; omega⟩
    · rw [if_neg d2, if_neg (c := c1 = 0 ∧ dt2 u w x y < 0) (fun h => d2 h.1)]
      by_cases d4 : c4 ≤ 0
      · rw [if_pos d4]; exact ⟨_, rfl, by simp [d4]⟩
      · rw [if_neg d4]; exact ⟨_, rfl, by simp; omega⟩
theorem s_contour_passed {u w x y s t dir : Int} (hu : small9 u) (hw : small9 w) (hx : small9 x) (hy : small9 y) (hs : small9 s) (ht : small9 t) (hd : dir = 1 ∨ dir = -1) :
    ∃ v, m_contour_passed [I u, I w, I x, I y, I s, I t, I dir] = some [B v] ∧ (v = true ↔ passedP u w x y s t dir) := a_contour_passed s_contour_dot s_contour_cross hu hw hx hy hs ht hd

/-- a point in subunits, seen from the center of an arc -/
def pU (it : Itm) (q : Pt) : Int := plU it.plane q - plU it.plane (fine it.ce)
def pW (it : Itm) (q : Pt) : Int := plW it.plane q - plW it.plane (fine it.ce)
def onArcP (it : Itm) (q : Pt) (e : Int) : Prop :=
  aboveP (min (sq2 (pU it (fine it.fr)) (pW it (fine it.fr))) (sq2 (pU it (fine it.to)) (pW it (fine it.to)))) (sq2 (pU it q) (pW it q)) e ∧
  aboveP (sq2 (pU it q) (pW it q)) (max (sq2 (pU it (fine it.fr)) (pW it (fine it.fr))) (sq2 (pU it (fine it.to)) (pW it (fine it.to)))) e ∧
  min (plH it.plane (fine it.fr)) (plH it.plane (fine it.to)) - e ≤ plH it.plane q ∧ plH it.plane q ≤ max (plH it.plane (fine it.fr)) (plH it.plane (fine it.to)) + e ∧
  (it.full = true ∨ passedP (pU it (fine it.fr)) (pW it (fine it.fr)) (pU it (fine it.to)) (pW it (fine it.to)) (pU it q) (pW it q) it.dir ∨
    rayP (pU it (fine it.fr)) (pW it (fine it.fr)) (pU it q) (pW it q) e ∨ rayP (pU it (fine it.to)) (pW it (fine it.to)) (pU it q) (pW it q) e)
theorem pU_bd {it : Itm} {q : Pt} {b : Nat} (hc : bd 1048576 it.ce) (h : bd b q) : (pU it q).natAbs ≤ b + 16777216 ∧ (pW it q).natAbs ≤ b + 16777216 := by
  obtain ⟨h1, h2, h3⟩ := pl_bd (pl := it.plane) h
  obtain ⟨g1, g2, g3⟩ := pl_bd (pl := it.plane) (fine_bd hc)
  unfold pU pW
  omega
theorem mn_min (a b : Int) : mn a b = min a b := by unfold mn; rw [Int.min_def]; split <;> split <;> omega
theorem mx_max (a b : Int) : mx a b = max a b := by unfold mx; rw [Int.max_def]; split <;> split <;> omega
theorem two_sided {x : Int} {b : Nat} (h : x.natAbs ≤ b) : -(b : Int) ≤ x ∧ x ≤ b := by omega
theorem nat_sided {x : Int} {b : Nat} (h : -(b : Int) ≤ x ∧ x ≤ b) : x.natAbs ≤ b := by omega
theorem pl_two {pl : Int} {p : Pt} {b : Nat} (h : bd b p) : (-(b : Int) ≤ plU pl p ∧ plU pl p ≤ b) ∧ (-(b : Int) ≤ plW pl p ∧ plW pl p ≤ b) ∧ (-(b : Int) ≤ plH pl p ∧ plH pl p ≤ b) := by
  obtain ⟨h1, h2, h3⟩ := pl_bd (pl := pl) h
  exact ⟨two_sided h1, two_sided h2, two_sided h3⟩
theorem a_contour_OnArc {MN MP MB MD ML MS MV : List AC → Option (List AC)} {it : Itm} (hV : ∃ v, MV (itmR it) = some [B v] ∧ (v = true ↔ validI it)) (hS : ∀ {p : Pt}, bd 100000000 p → MS [I p.x, I p.y, I p.z] = some (ptR (fine p)))
    (hL : ∀ {p : Pt} {pl : Int}, isPl pl → ML [I p.x, I p.y, I p.z, I pl] = some [I (plU pl p), I (plW pl p), I (plH pl p)])
    (hD : ∀ {u w x y : Int}, small9 u → small9 w → small9 x → small9 y → MD [I u, I w, I x, I y] = some [I (dt2 u w x y)])
    (hB : ∀ {p q e : Int}, (0 ≤ p ∧ p ≤ 4000000000000000000) → (0 ≤ q ∧ q ≤ 4000000000000000000) → (0 ≤ e ∧ e ≤ 32000) → ∃ v, MB [I p, I q, I e] = some [B v] ∧ (v = true ↔ aboveP p q e))
    (hP : ∀ {u w x y s t dir : Int}, small9 u → small9 w → small9 x → small9 y → small9 s → small9 t → (dir = 1 ∨ dir = -1) → ∃ v, MP [I u, I w, I x, I y, I s, I t, I dir] = some [B v] ∧ (v = true ↔ passedP u w x y s t dir))
    (hN : ∀ {u w x y e : Int}, small9 u → small9 w → small9 x → small9 y → (0 ≤ e ∧ e ≤ 32000) → ∃ v, MN [I u, I w, I x, I y, I e] = some [B v] ∧ (v = true ↔ rayP u w x y e))
    (h3 : it.kind = 3) {q : Pt} (hq : bd 100000000 q) {e : Int} (he : 0 ≤ e ∧ e ≤ 32000) :
    ∃ v, mf_contour_OnArc MN MP MB MD ML MS MV (itmR it ++ [I q.x, I q.y, I q.z, I e]) = some [B v] ∧ (v = true ↔ validI it ∧ onArcP it q e) := by
  obtain ⟨v0, e0, h0⟩ := hV
  simp only [List.cons_append, List.nil_append]
  rw [mf_contour_OnArc_eq]
  simp only [itmR] at e0
  simp only [go_sem, e0]
  rw [if_neg (by simpa using h3)]
  by_cases c0 : v0 = true
  case neg => rw [if_pos c0]; exact ⟨_, rfl, iff_of_false (by simp) fun h => c0 (h0.2 h.1)⟩
  rw [if_neg (by simpa using c0)]
  have hv := h0.1 c0
  obtain ⟨-, v1, v2, v3⟩ := hv
  obtain ⟨v4, v5, v6, -⟩ := v3 h3
  have f1 := fine_bd v1
  have f2 := fine_bd v2
  have f3 := fine_bd v6
  obtain ⟨g1, g2, g3⟩ := pl_two (pl := it.plane) f1
  obtain ⟨g4, g5, g6⟩ := pl_two (pl := it.plane) f2
  obtain ⟨g7, g8, g9⟩ := pl_two (pl := it.plane) f3
  obtain ⟨g10, g11, g12⟩ := pl_two (pl := it.plane) hq
  have S1 : MS [I it.fr.x, I it.fr.y, I it.fr.z] = some (ptR (fine it.fr)) := hS (bd_mono v1 (by omega))
  have S2 : MS [I it.to.x, I it.to.y, I it.to.z] = some (ptR (fine it.to)) := hS (bd_mono v2 (by omega))
  have S3 : MS [I it.ce.x, I it.ce.y, I it.ce.z] = some (ptR (fine it.ce)) := hS (bd_mono v6 (by omega))
  have L1 := @hL (fine it.fr) _ v4
  have L2 := @hL (fine it.to) _ v4
  have L3 := @hL (fine it.ce) _ v4
  have L4 := @hL q _ v4
  simp only [S1, S2, S3, go_sem, L1, L2, L3, L4]
  have hv' := h0.1 c0
  unfold onArcP pU pW
  clear S1 S2 S3 L1 L2 L3 L4 f1 f2 f3 v1 v2 v3 v6 e0 h0
  generalize plU it.plane (fine it.fr) = a1 at *
  generalize plW it.plane (fine it.fr) = a2 at *
  generalize plH it.plane (fine it.fr) = a3 at *
  generalize plU it.plane (fine it.to) = b1 at *
  generalize plW it.plane (fine it.to) = b2 at *
  generalize plH it.plane (fine it.to) = b3 at *
  generalize plU it.plane (fine it.ce) = m1 at *
  generalize plW it.plane (fine it.ce) = m2 at *
  generalize plU it.plane q = q1 at *
  generalize plW it.plane q = q2 at *
  generalize plH it.plane q = q3 at *
  rw [wrap_id (x := a1 - m1) (by omega), wrap_id (x := a2 - m2) (by omega), wrap_id (x := b1 - m1) (by omega), wrap_id (x := b2 - m2) (by omega), wrap_id (x := q1 - m1) (by omega), wrap_id (x := q2 - m2) (by omega)]
  have hw1 : IntKind.i64.wrap (min a3 b3 - e) = min a3 b3 - e := wrap_id (by omega)
  have hw2 : IntKind.i64.wrap (max a3 b3 + e) = max a3 b3 + e := wrap_id (by omega)
  have k1 : small9 (a1 - m1) ∧ (a1 - m1).natAbs ≤ 200000000 := ⟨nat_sided (by omega), nat_sided (by omega)⟩
  have k2 : small9 (a2 - m2) ∧ (a2 - m2).natAbs ≤ 200000000 := ⟨nat_sided (by omega), nat_sided (by omega)⟩
  have k3 : small9 (b1 - m1) ∧ (b1 - m1).natAbs ≤ 200000000 := ⟨nat_sided (by omega), nat_sided (by omega)⟩
  have k4 : small9 (b2 - m2) ∧ (b2 - m2).natAbs ≤ 200000000 := ⟨nat_sided (by omega), nat_sided (by omega)⟩
  have k5 : small9 (q1 - m1) ∧ (q1 - m1).natAbs ≤ 200000000 := ⟨nat_sided (by omega), nat_sided (by omega)⟩
  have k6 : small9 (q2 - m2) ∧ (q2 - m2).natAbs ≤ 200000000 := ⟨nat_sided (by omega), nat_sided (by omega)⟩
  generalize a1 - m1 = au at *
  generalize a2 - m2 = aw at *
  generalize b1 - m1 = bu at *
  generalize b2 - m2 = bw at *
  generalize q1 - m1 = qu at *
  generalize q2 - m2 = qw at *
  have s1 := sq2_bd k1.2 k2.2
  have s2 := sq2_bd k3.2 k4.2
  have s3 := sq2_bd k5.2 k6.2
  have D1 : MD [I au, I aw, I au, I aw] = some [I (sq2 au aw)] := hD k1.1 k2.1 k1.1 k2.1
  have D2 : MD [I bu, I bw, I bu, I bw] = some [I (sq2 bu bw)] := hD k3.1 k4.1 k3.1 k4.1
  have D3 : MD [I qu, I qw, I qu, I qw] = some [I (sq2 qu qw)] := hD k5.1 k6.1 k5.1 k6.1
  simp only [D1, D2, D3, go_sem, mn_min, mx_max, hw1, hw2]
  clear hw1 hw2 D1 D2 D3 hD
  obtain ⟨p1, i1, j1⟩ := @hP au aw bu bw qu qw it.dir k1.1 k2.1 k3.1 k4.1 k5.1 k6.1 v5
  obtain ⟨p2, i2, j2⟩ := @hN au aw qu qw e k1.1 k2.1 k5.1 k6.1 he
  obtain ⟨p3, i3, j3⟩ := @hN bu bw qu qw e k3.1 k4.1 k5.1 k6.1 he
  rw [← j1, ← j2, ← j3]
  generalize sq2 au aw = A at *
  generalize sq2 bu bw = C at *
  generalize sq2 qu qw = Q at *
  clear k1 k2 k3 k4 k5 k6 j1 j2 j3
  obtain ⟨p4, i4, j4⟩ := @hB (min A C) Q e (by omega) (by omega) he
  obtain ⟨p5, i5, j5⟩ := @hB Q (max A C) e (by omega) (by omega) he
  rw [← j4, ← j5]
  simp only [i1, i2, i3, i4, i5, go_sem]
  generalize min a3 b3 - e = lo
  generalize max a3 b3 + e = hi
  generalize q3 = h
  by_cases c4 : p4 = true
  case neg => rw [if_pos c4]; exact ⟨_, rfl, iff_of_false (by simp) fun h => c4 h.2.1⟩
  rw [if_neg (by simpa using c4)]
  by_cases c5 : p5 = true
  case neg => rw [if_pos c5]; exact ⟨_, rfl, iff_of_false (by simp) fun h => c5 h.2.2.1⟩
  rw [if_neg (by simpa using c5)]
  by_cases c6 : h < lo
  · rw [if_pos c6]; exact ⟨_, rfl, iff_of_false (by simp) fun h => by have := h.2.2.2.1; omega⟩
  rw [if_neg c6]
  by_cases c7 : h > hi
  · rw [if_pos c7]; exact ⟨_, rfl, iff_of_false (by simp) fun h => by have := h.2.2.2.2.1; omega⟩
  rw [if_neg c7]
  have hb : lo ≤ h ∧ h ≤ hi := by omega
  by_cases c8 : it.full = true
  · rw [if_pos c8]; exact ⟨_, rfl, iff_of_true rfl ⟨hv', c4, c5, hb.1, hb.2, .inl c8⟩⟩
  rw [if_neg c8]
  by_cases c9 : p1 = true
  · rw [if_pos c9]; exact ⟨_, rfl, iff_of_true rfl ⟨hv', c4, c5, hb.1, hb.2, .inr (.inl c9)⟩⟩
  rw [if_neg c9]
  by_cases c10 : p2 = true
  · rw [if_pos c10]; exact ⟨_, rfl, iff_of_true rfl ⟨hv', c4, c5, hb.1, hb.2, .inr (.inr (.inl c10))⟩⟩
  rw [if_neg c10]
  refine ⟨p3, rfl, fun h => ⟨hv', c4, c5, hb.1, hb.2, .inr (.inr (.inr h))⟩, fun h => ?_⟩
  rcases h.2.2.2.2.2 with h | h | h | h
  · exact absurd h c8
  · exact absurd h c9
  · exact absurd h c10
  · exact h
theorem s_contour_OnArc {it : Itm} (h3 : it.kind = 3) {q : Pt} (hq : bd 100000000 q) {e : Int} (he : 0 ≤ e ∧ e ≤ 32000) :
    ∃ v, m_contour_OnArc (itmR it ++ [I q.x, I q.y, I q.z, I e]) = some [B v] ∧ (v = true ↔ validI it ∧ onArcP it q e) :=
  a_contour_OnArc (s_curve_Valid it) s_contour_scaled s_curve_Plane s_contour_dot s_contour_above s_contour_passed s_contour_near h3 hq he
def onItemP (it : Itm) (q : Pt) (e : Int) : Prop := validI it ∧ if it.kind = 3 then onArcP it q e else onLine (fine it.fr) (fine it.to) q e
theorem a_contour_OnItem {ML MS MV MA : List AC → Option (List AC)} {it : Itm} (hV : ∃ v, MV (itmR it) = some [B v] ∧ (v = true ↔ validI it)) (hS : ∀ {p : Pt}, bd 100000000 p → MS [I p.x, I p.y, I p.z] = some (ptR (fine p)))
    {q : Pt} {e : Int} (hA : it.kind = 3 → ∃ v, MA (itmR it ++ [I q.x, I q.y, I q.z, I e]) = some [B v] ∧ (v = true ↔ validI it ∧ onArcP it q e))
    (hL : ∀ {a b : Pt}, bd 33554432 a → bd 33554432 b → ∃ r, ML [I a.x, I a.y, I a.z, I b.x, I b.y, I b.z, I q.x, I q.y, I q.z, I e] = some [B r] ∧ (r = true ↔ onLine a b q e)) :
    ∃ v, mf_contour_OnItem ML MS MV MA (itmR it ++ [I q.x, I q.y, I q.z, I e]) = some [B v] ∧ (v = true ↔ onItemP it q e) := by
  obtain ⟨v0, e0, h0⟩ := hV
  simp only [List.cons_append, List.nil_append] at hA ⊢
  rw [mf_contour_OnItem_eq]
  simp only [itmR] at e0
  unfold onItemP
  by_cases h3 : it.kind = 3
  · obtain ⟨v, e1, h1⟩ := hA h3
    simp only [go_sem, e1]
    rw [if_pos h3]
    exact ⟨v, rfl, by rw [h1, if_pos h3]⟩
  · simp only [go_sem, e0]
    rw [if_neg h3]
    by_cases c0 : v0 = true
    · have hv := h0.1 c0
      have f1 := bd_mono (fine_bd hv.2.1) (B := 33554432) (by omega)
      have f2 := bd_mono (fine_bd hv.2.2.1) (B := 33554432) (by omega)
      obtain ⟨r, e2, h2⟩ := hL f1 f2
      simp only [hS (bd_mono hv.2.1 (by omega)), hS (bd_mono hv.2.2.1 (by omega)), go_sem, e2]
      rw [if_pos c0]
      exact ⟨r, rfl, by rw [h2, if_neg h3]; exact ⟨fun h => ⟨hv, h⟩, fun h => h.2⟩⟩
    · rw [if_neg c0]; exact ⟨_, rfl, iff_of_false (by simp) fun h => c0 (h0.2 h.1)⟩
theorem s_contour_OnItem (it : Itm) {q : Pt} (hq : bd 33554432 q) {e : Int} (he : 0 ≤ e ∧ e ≤ 32000) :
    ∃ v, m_contour_OnItem (itmR it ++ [I q.x, I q.y, I q.z, I e]) = some [B v] ∧ (v = true ↔ onItemP it q e) :=
  a_contour_OnItem (s_curve_Valid it) s_contour_scaled (fun h => s_contour_OnArc h (bd_mono hq (by omega)) he) (fun ha hb => s_contour_OnLine ha hb hq (by omega))
end Go.Bm
