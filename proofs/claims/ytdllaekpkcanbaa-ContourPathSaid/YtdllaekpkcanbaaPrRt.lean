/- laid together -/
import Derived.Test.YtdllaekpkcanbaaPrE
import Derived.Test.YtdllaekpkcanbaaMx5
set_option linter.unusedVariables false
set_option linter.unusedSimpArgs false
/- points near a motion: what the program answers, that it grows with the distance, and that the ends are on it -/
set_option maxRecDepth 100000
namespace Go.Bm
theorem s_contour_scaled {p : Pt} (h : bd 100000000 p) : Qdv [I p.x, I p.y, I p.z] = some (ptR (fine p)) := by
 unfold Qdv
 rw [mf_contour_scaled_eq]
 obtain ⟨h1, h2, h3⟩ := h
 rw [Qab (by omega), Qab (by omega), Qab (by omega)]
 rfl

def aboveP (p q e : Int) : Prop := p - q - e * e <= 0 \/ (p - q - e * e) * (p - q - e * e) <= 4 * e * e * q
def rayP (u w x y e : Int) : Prop := 0 <= dt2 u w x y /\ crs u w x y * crs u w x y <= e * e * sq2 u w
def Ql2 (u w x y s t dir : Int) : Prop :=
 if crs u w x y * dir > 0 then crs u w s t * dir >= 0 /\ crs s t x y * dir >= 0
 else if crs u w x y * dir = 0 /\ dt2 u w x y < 0 then crs u w s t * dir >= 0
 else crs x y s t * dir <= 0 \/ crs s t u w * dir <= 0
theorem s_contour_dot {u w x y : Int} (hu : u.natAbs <= 1000000000) (hw : w.natAbs <= 1000000000) (hx : x.natAbs <= 1000000000) (hy : y.natAbs <= 1000000000) : Qds [I u, I w, I x, I y] = some [I (dt2 u w x y)] := by
 unfold Qds
 rw [mf_contour_dot_eq]
 have h1 := Qom hu hx
 have h2 := Qom hw hy
 unfold dt2
 rw [Qab (x := u * x) (by omega), Qab (x := w * y) (by omega), Qab (by omega)]
theorem s_contour_cross {u w x y : Int} (hu : u.natAbs <= 1000000000) (hw : w.natAbs <= 1000000000) (hx : x.natAbs <= 1000000000) (hy : y.natAbs <= 1000000000) : Qd9 [I u, I w, I x, I y] = some [I (crs u w x y)] := by
 unfold Qd9
 rw [mf_contour_cross_eq]
 have h1 := Qom hu hy
 have h2 := Qom hw hx
 unfold crs
 rw [Qab (x := u * y) (by omega), Qab (x := w * x) (by omega), Qab (by omega)]
abbrev Qb2 (x : Int) : Prop := x.natAbs <= 1000000000
theorem a_contour_above {M : List AC -> Option (List AC)} (hM : ∀ {a b c d : Int}, i64 a -> i64 b -> i64 c -> i64 d -> M [I a, I b, I c, I d] = some [I (cmpI (a * b) (c * d))])
  {p q e : Int} (hp : 0 <= p /\ p <= 4000000000000000000) (hq : 0 <= q /\ q <= 4000000000000000000) (he : 0 <= e /\ e <= 32000) :
  ∃ v, mf_contour_above M [I p, I q, I e] = some [B v] /\ (v = true ↔ aboveP p q e) := by
 rw [mf_contour_above_eq]
 have h1 := sq_nat e (b := 32000) (by omega)
 have e3 : 4 * e * e = 4 * (e * e) := by rw [Int.mul_assoc]
 simp only [go_sem]
 unfold aboveP
 rw [Qab (x := 4 * e) (by omega), e3]
 generalize e * e = s at *
 rw [Qab (x := p - q) (by omega), Qab (x := s) (by omega), Qab (x := p - q - s) (by omega), Qab (x := 4 * s) (by omega)]
 by_cases c1 : p - q - s <= 0
 ·rw [if_pos c1]; exact ⟨_, rfl, iff_of_true rfl (.inl c1)⟩
 ·rw [if_neg c1, hM (by unfold i64; omega) (by unfold i64; omega) (by unfold i64; omega) (by unfold i64; omega)]
  refine ⟨_, rfl, ?_⟩
  simp only [go_sem, decide_eq_true_eq, cmpI_le]
  exact ⟨fun h => .inr h, fun h => h.resolve_left c1⟩
theorem s_contour_above {p q e : Int} (hp : 0 <= p /\ p <= 4000000000000000000) (hq : 0 <= q /\ q <= 4000000000000000000) (he : 0 <= e /\ e <= 32000) :
  ∃ v, Qjt [I p, I q, I e] = some [B v] /\ (v = true ↔ aboveP p q e) := a_contour_above s_wide_Cmp hp hq he
theorem crs_i64 {u w x y : Int} (hu : Qb2 u) (hw : Qb2 w) (hx : Qb2 x) (hy : Qb2 y) : (crs u w x y).natAbs <= 2000000000000000000 /\ (dt2 u w x y).natAbs <= 2000000000000000000 := by
 have := dt2_bd hu hw hx hy
 omega
theorem a_contour_near {MC MD MX : List AC -> Option (List AC)} (hM : ∀ {a b c d : Int}, i64 a -> i64 b -> i64 c -> i64 d -> MC [I a, I b, I c, I d] = some [I (cmpI (a * b) (c * d))])
  (hD : ∀ {u w x y : Int}, Qb2 u -> Qb2 w -> Qb2 x -> Qb2 y -> MD [I u, I w, I x, I y] = some [I (dt2 u w x y)]) (hX : ∀ {u w x y : Int}, Qb2 u -> Qb2 w -> Qb2 x -> Qb2 y -> MX [I u, I w, I x, I y] = some [I (crs u w x y)])
  {u w x y e : Int} (hu : Qb2 u) (hw : Qb2 w) (hx : Qb2 x) (hy : Qb2 y) (he : 0 <= e /\ e <= 32000) :
  ∃ v, mf_contour_near MC MD MX [I u, I w, I x, I y, I e] = some [B v] /\ (v = true ↔ rayP u w x y e) := by
 rw [mf_contour_near_eq]
 simp only [go_sem, hD hu hw hx hy, hX hu hw hx hy, hD hu hw hu hw]
 have h1 := sq_nat e (b := 32000) (by omega)
 have h2 := crs_i64 hu hw hx hy
 have h3 := crs_i64 hu hw hu hw
 have e1 : sq2 u w = dt2 u w u w := rfl
 unfold rayP
 rw [e1]
 generalize e * e = s at *
 rw [Qab (x := s) (by omega)]
 by_cases c1 : dt2 u w x y >= 0
 ·rw [if_pos c1, hM (by unfold i64; omega) (by unfold i64; omega) (by unfold i64; omega) (by unfold i64; omega)]
  refine ⟨_, rfl, ?_⟩
  simp only [go_sem, decide_eq_true_eq, cmpI_le]
  exact ⟨fun h => ⟨c1, h⟩, fun h => h.2⟩
 ·rw [if_neg c1]; exact ⟨_, rfl, iff_of_false (by simp) fun h => c1 h.1⟩
theorem s_contour_near {u w x y e : Int} (hu : Qb2 u) (hw : Qb2 w) (hx : Qb2 x) (hy : Qb2 y) (he : 0 <= e /\ e <= 32000) :
  ∃ v, Qk5 [I u, I w, I x, I y, I e] = some [B v] /\ (v = true ↔ rayP u w x y e) := a_contour_near s_wide_Cmp s_contour_dot s_contour_cross hu hw hx hy he
theorem a_contour_passed {MD MX : List AC -> Option (List AC)}
  (hD : ∀ {u w x y : Int}, Qb2 u -> Qb2 w -> Qb2 x -> Qb2 y -> MD [I u, I w, I x, I y] = some [I (dt2 u w x y)]) (hX : ∀ {u w x y : Int}, Qb2 u -> Qb2 w -> Qb2 x -> Qb2 y -> MX [I u, I w, I x, I y] = some [I (crs u w x y)])
  {u w x y s t dir : Int} (hu : Qb2 u) (hw : Qb2 w) (hx : Qb2 x) (hy : Qb2 y) (hs : Qb2 s) (ht : Qb2 t) (hd : dir = 1 \/ dir = -1) :
  ∃ v, mf_contour_passed MD MX [I u, I w, I x, I y, I s, I t, I dir] = some [B v] /\ (v = true ↔ Ql2 u w x y s t dir) := by
 rw [mf_contour_passed_eq]
 have h1 := crs_i64 hu hw hx hy
 have h2 := crs_i64 hu hw hs ht
 have h3 := crs_i64 hs ht hx hy
 have h4 := crs_i64 hx hy hs ht
 have h5 := crs_i64 hs ht hu hw
 simp only [go_sem, hX hu hw hx hy, hX hu hw hs ht, hX hs ht hx hy, hX hx hy hs ht, hX hs ht hu hw, hD hu hw hx hy]
 have w1 : ∀ c : Int, c.natAbs <= 2000000000000000000 -> IntKind.i64.wrap (c * dir) = c * dir := fun c hc => by
  rcases hd with rfl | rfl <;> exact Qab (by omega)
 rw [w1 _ h1.1, w1 _ h2.1, w1 _ h3.1, w1 _ h4.1, w1 _ h5.1]
 unfold Ql2
 generalize crs u w x y * dir = c1
 generalize crs u w s t * dir = c2
 generalize crs s t x y * dir = c3
 generalize crs x y s t * dir = c4
 generalize crs s t u w * dir = c5
 by_cases d1 : c1 > 0
 ·rw [if_pos d1, if_pos d1]
  by_cases d2 : c2 >= 0
  ·rw [if_pos d2]; exact ⟨_, rfl, by simp [d2]⟩
  ·rw [if_neg d2]; exact ⟨_, rfl, by simp; omega⟩
 ·rw [if_neg d1, if_neg d1]
  by_cases d2 : c1 = 0
  ·rw [if_pos d2]
   by_cases d3 : dt2 u w x y < 0
   ·rw [if_pos d3, if_pos ⟨d2, d3⟩]; exact ⟨_, rfl, by simp⟩
   ·rw [if_neg d3, if_neg (c := c1 = 0 /\ dt2 u w x y < 0) (fun h => d3 h.2)]
    by_cases d4 : c4 <= 0
    ·rw [if_pos d4]; exact ⟨_, rfl, by simp [d4]⟩
    ·rw [if_neg d4]; exact ⟨_, rfl, by simp; omega⟩
  ·rw [if_neg d2, if_neg (c := c1 = 0 /\ dt2 u w x y < 0) (fun h => d2 h.1)]
   by_cases d4 : c4 <= 0
   ·rw [if_pos d4]; exact ⟨_, rfl, by simp [d4]⟩
   ·rw [if_neg d4]; exact ⟨_, rfl, by simp; omega⟩
theorem s_contour_passed {u w x y s t dir : Int} (hu : Qb2 u) (hw : Qb2 w) (hx : Qb2 x) (hy : Qb2 y) (hs : Qb2 s) (ht : Qb2 t) (hd : dir = 1 \/ dir = -1) :
  ∃ v, Qh1 [I u, I w, I x, I y, I s, I t, I dir] = some [B v] /\ (v = true ↔ Ql2 u w x y s t dir) := a_contour_passed s_contour_dot s_contour_cross hu hw hx hy hs ht hd

def pU (it : Itm) (q : Pt) : Int := plU it.plane q - plU it.plane (fine it.ce)
def pW (it : Itm) (q : Pt) : Int := plW it.plane q - plW it.plane (fine it.ce)
def onArcP (it : Itm) (q : Pt) (e : Int) : Prop :=
 aboveP (min (sq2 (pU it (fine it.fr)) (pW it (fine it.fr))) (sq2 (pU it (fine it.to)) (pW it (fine it.to)))) (sq2 (pU it q) (pW it q)) e /\
 aboveP (sq2 (pU it q) (pW it q)) (max (sq2 (pU it (fine it.fr)) (pW it (fine it.fr))) (sq2 (pU it (fine it.to)) (pW it (fine it.to)))) e /\
 min (plH it.plane (fine it.fr)) (plH it.plane (fine it.to)) - e <= plH it.plane q /\ plH it.plane q <= max (plH it.plane (fine it.fr)) (plH it.plane (fine it.to)) + e /\
 (it.full = true \/ Ql2 (pU it (fine it.fr)) (pW it (fine it.fr)) (pU it (fine it.to)) (pW it (fine it.to)) (pU it q) (pW it q) it.dir \/
  rayP (pU it (fine it.fr)) (pW it (fine it.fr)) (pU it q) (pW it q) e \/ rayP (pU it (fine it.to)) (pW it (fine it.to)) (pU it q) (pW it q) e)
theorem mn_min (a b : Int) : mn a b = min a b := by unfold mn; rw [Int.min_def]; split <;> split <;> omega
theorem mx_max (a b : Int) : mx a b = max a b := by unfold mx; rw [Int.max_def]; split <;> split <;> omega
theorem two_sided {x : Int} {b : Nat} (h : x.natAbs <= b) : -(b : Int) <= x /\ x <= b := by omega
theorem Qht {x : Int} {b : Nat} (h : -(b : Int) <= x /\ x <= b) : x.natAbs <= b := by omega
theorem pl_two {pl : Int} {p : Pt} {b : Nat} (h : bd b p) : (-(b : Int) <= plU pl p /\ plU pl p <= b) /\ (-(b : Int) <= plW pl p /\ plW pl p <= b) /\ (-(b : Int) <= plH pl p /\ plH pl p <= b) := by
 obtain ⟨h1, h2, h3⟩ := pl_bd (pl := pl) h
 exact ⟨two_sided h1, two_sided h2, two_sided h3⟩
theorem a_contour_OnArc {MN MP MB MD ML MS MV : List AC -> Option (List AC)} {it : Itm} (hV : ∃ v, MV (itmR it) = some [B v] /\ (v = true ↔ Qfa it)) (hS : ∀ {p : Pt}, bd 100000000 p -> MS [I p.x, I p.y, I p.z] = some (ptR (fine p)))
  (hL : ∀ {p : Pt} {pl : Int}, isPl pl -> ML [I p.x, I p.y, I p.z, I pl] = some [I (plU pl p), I (plW pl p), I (plH pl p)])
  (hD : ∀ {u w x y : Int}, Qb2 u -> Qb2 w -> Qb2 x -> Qb2 y -> MD [I u, I w, I x, I y] = some [I (dt2 u w x y)])
  (hB : ∀ {p q e : Int}, (0 <= p /\ p <= 4000000000000000000) -> (0 <= q /\ q <= 4000000000000000000) -> (0 <= e /\ e <= 32000) -> ∃ v, MB [I p, I q, I e] = some [B v] /\ (v = true ↔ aboveP p q e))
  (hP : ∀ {u w x y s t dir : Int}, Qb2 u -> Qb2 w -> Qb2 x -> Qb2 y -> Qb2 s -> Qb2 t -> (dir = 1 \/ dir = -1) -> ∃ v, MP [I u, I w, I x, I y, I s, I t, I dir] = some [B v] /\ (v = true ↔ Ql2 u w x y s t dir))
  (hN : ∀ {u w x y e : Int}, Qb2 u -> Qb2 w -> Qb2 x -> Qb2 y -> (0 <= e /\ e <= 32000) -> ∃ v, MN [I u, I w, I x, I y, I e] = some [B v] /\ (v = true ↔ rayP u w x y e))
  (h3 : it.kind = 3) {q : Pt} (hq : bd 100000000 q) {e : Int} (he : 0 <= e /\ e <= 32000) :
  ∃ v, mf_contour_OnArc MN MP MB MD ML MS MV (itmR it ++ [I q.x, I q.y, I q.z, I e]) = some [B v] /\ (v = true ↔ Qfa it /\ onArcP it q e) := by
 obtain ⟨v0, e0, h0⟩ := hV
 simp only [List.cons_append, List.nil_append]
 rw [mf_contour_OnArc_eq]
 simp only [itmR] at e0
 simp only [go_sem, e0]
 rw [if_neg (by simpa using h3)]
 by_cases c0 : v0 = true
 case neg => rw [if_pos c0]; exact ⟨_, rfl, iff_of_false (by simp) fun h => c0 (h0.2 h.1)⟩
 rw [if_neg (by simpa using c0)]
 have hv := h0.1 c0
 obtain ⟨-, v1, v2, v3⟩ := hv
 obtain ⟨v4, v5, v6, -⟩ := v3 h3
 have f1 := Qg6 v1
 have f2 := Qg6 v2
 have f3 := Qg6 v6
 obtain ⟨g1, g2, g3⟩ := pl_two (pl := it.plane) f1
 obtain ⟨g4, g5, g6⟩ := pl_two (pl := it.plane) f2
 obtain ⟨g7, g8, g9⟩ := pl_two (pl := it.plane) f3
 obtain ⟨g10, g11, g12⟩ := pl_two (pl := it.plane) hq
 have S1 : MS [I it.fr.x, I it.fr.y, I it.fr.z] = some (ptR (fine it.fr)) := hS (Qau v1 (by omega))
 have S2 : MS [I it.to.x, I it.to.y, I it.to.z] = some (ptR (fine it.to)) := hS (Qau v2 (by omega))
 have S3 : MS [I it.ce.x, I it.ce.y, I it.ce.z] = some (ptR (fine it.ce)) := hS (Qau v6 (by omega))
 have L1 := @hL (fine it.fr) _ v4
 have L2 := @hL (fine it.to) _ v4
 have L3 := @hL (fine it.ce) _ v4
 have L4 := @hL q _ v4
 simp only [S1, S2, S3, go_sem, L1, L2, L3, L4]
 have hv' := h0.1 c0
 unfold onArcP pU pW
 clear S1 S2 S3 L1 L2 L3 L4 f1 f2 f3 v1 v2 v3 v6 e0 h0
 generalize plU it.plane (fine it.fr) = a1 at *
 generalize plW it.plane (fine it.fr) = a2 at *
 generalize plH it.plane (fine it.fr) = a3 at *
 generalize plU it.plane (fine it.to) = b1 at *
 generalize plW it.plane (fine it.to) = b2 at *
 generalize plH it.plane (fine it.to) = b3 at *
 generalize plU it.plane (fine it.ce) = m1 at *
 generalize plW it.plane (fine it.ce) = m2 at *
 generalize plU it.plane q = q1 at *
 generalize plW it.plane q = q2 at *
 generalize plH it.plane q = q3 at *
 rw [Qab (x := a1 - m1) (by omega), Qab (x := a2 - m2) (by omega), Qab (x := b1 - m1) (by omega), Qab (x := b2 - m2) (by omega), Qab (x := q1 - m1) (by omega), Qab (x := q2 - m2) (by omega)]
 have hw1 : IntKind.i64.wrap (min a3 b3 - e) = min a3 b3 - e := Qab (by omega)
 have hw2 : IntKind.i64.wrap (max a3 b3 + e) = max a3 b3 + e := Qab (by omega)
 have k1 : Qb2 (a1 - m1) /\ (a1 - m1).natAbs <= 200000000 := ⟨Qht (by omega), Qht (by omega)⟩
 have k2 : Qb2 (a2 - m2) /\ (a2 - m2).natAbs <= 200000000 := ⟨Qht (by omega), Qht (by omega)⟩
 have k3 : Qb2 (b1 - m1) /\ (b1 - m1).natAbs <= 200000000 := ⟨Qht (by omega), Qht (by omega)⟩
 have k4 : Qb2 (b2 - m2) /\ (b2 - m2).natAbs <= 200000000 := ⟨Qht (by omega), Qht (by omega)⟩
 have k5 : Qb2 (q1 - m1) /\ (q1 - m1).natAbs <= 200000000 := ⟨Qht (by omega), Qht (by omega)⟩
 have k6 : Qb2 (q2 - m2) /\ (q2 - m2).natAbs <= 200000000 := ⟨Qht (by omega), Qht (by omega)⟩
 generalize a1 - m1 = au at *
 generalize a2 - m2 = aw at *
 generalize b1 - m1 = bu at *
 generalize b2 - m2 = bw at *
 generalize q1 - m1 = qu at *
 generalize q2 - m2 = qw at *
 have s1 := sq2_bd k1.2 k2.2
 have s2 := sq2_bd k3.2 k4.2
 have s3 := sq2_bd k5.2 k6.2
 have D1 : MD [I au, I aw, I au, I aw] = some [I (sq2 au aw)] := hD k1.1 k2.1 k1.1 k2.1
 have D2 : MD [I bu, I bw, I bu, I bw] = some [I (sq2 bu bw)] := hD k3.1 k4.1 k3.1 k4.1
 have D3 : MD [I qu, I qw, I qu, I qw] = some [I (sq2 qu qw)] := hD k5.1 k6.1 k5.1 k6.1
 simp only [D1, D2, D3, go_sem, mn_min, mx_max, hw1, hw2]
 clear hw1 hw2 D1 D2 D3 hD
 obtain ⟨p1, i1, j1⟩ := @hP au aw bu bw qu qw it.dir k1.1 k2.1 k3.1 k4.1 k5.1 k6.1 v5
 obtain ⟨p2, i2, j2⟩ := @hN au aw qu qw e k1.1 k2.1 k5.1 k6.1 he
 obtain ⟨p3, i3, j3⟩ := @hN bu bw qu qw e k3.1 k4.1 k5.1 k6.1 he
 rw [<- j1, <- j2, <- j3]
 generalize sq2 au aw = A at *
 generalize sq2 bu bw = C at *
 generalize sq2 qu qw = Q at *
 clear k1 k2 k3 k4 k5 k6 j1 j2 j3
 obtain ⟨p4, i4, j4⟩ := @hB (min A C) Q e (by omega) (by omega) he
 obtain ⟨p5, i5, j5⟩ := @hB Q (max A C) e (by omega) (by omega) he
 rw [<- j4, <- j5]
 simp only [i1, i2, i3, i4, i5, go_sem]
 generalize min a3 b3 - e = lo
 generalize max a3 b3 + e = hi
 generalize q3 = h
 by_cases c4 : p4 = true
 case neg => rw [if_pos c4]; exact ⟨_, rfl, iff_of_false (by simp) fun h => c4 h.2.1⟩
 rw [if_neg (by simpa using c4)]
 by_cases c5 : p5 = true
 case neg => rw [if_pos c5]; exact ⟨_, rfl, iff_of_false (by simp) fun h => c5 h.2.2.1⟩
 rw [if_neg (by simpa using c5)]
 by_cases c6 : h < lo
 ·rw [if_pos c6]; exact ⟨_, rfl, iff_of_false (by simp) fun h => by have := h.2.2.2.1; omega⟩
 rw [if_neg c6]
 by_cases c7 : h > hi
 ·rw [if_pos c7]; exact ⟨_, rfl, iff_of_false (by simp) fun h => by have := h.2.2.2.2.1; omega⟩
 rw [if_neg c7]
 have hb : lo <= h /\ h <= hi := by omega
 by_cases c8 : it.full = true
 ·rw [if_pos c8]; exact ⟨_, rfl, iff_of_true rfl ⟨hv', c4, c5, hb.1, hb.2, .inl c8⟩⟩
 rw [if_neg c8]
 by_cases c9 : p1 = true
 ·rw [if_pos c9]; exact ⟨_, rfl, iff_of_true rfl ⟨hv', c4, c5, hb.1, hb.2, .inr (.inl c9)⟩⟩
 rw [if_neg c9]
 by_cases c10 : p2 = true
 ·rw [if_pos c10]; exact ⟨_, rfl, iff_of_true rfl ⟨hv', c4, c5, hb.1, hb.2, .inr (.inr (.inl c10))⟩⟩
 rw [if_neg c10]
 refine ⟨p3, rfl, fun h => ⟨hv', c4, c5, hb.1, hb.2, .inr (.inr (.inr h))⟩, fun h => ?_⟩
 rcases h.2.2.2.2.2 with h | h | h | h
 ·exact absurd h c8
 ·exact absurd h c9
 ·exact absurd h c10
 ·exact h
theorem s_contour_OnArc {it : Itm} (h3 : it.kind = 3) {q : Pt} (hq : bd 100000000 q) {e : Int} (he : 0 <= e /\ e <= 32000) :
  ∃ v, Qjn (itmR it ++ [I q.x, I q.y, I q.z, I e]) = some [B v] /\ (v = true ↔ Qfa it /\ onArcP it q e) :=
 a_contour_OnArc (Qn4 it) s_contour_scaled s_curve_Plane s_contour_dot s_contour_above s_contour_passed s_contour_near h3 hq he
def Qks (it : Itm) (q : Pt) (e : Int) : Prop := Qfa it /\ if it.kind = 3 then onArcP it q e else onLine (fine it.fr) (fine it.to) q e
theorem a_contour_OnItem {ML MS MV MA : List AC -> Option (List AC)} {it : Itm} (hV : ∃ v, MV (itmR it) = some [B v] /\ (v = true ↔ Qfa it)) (hS : ∀ {p : Pt}, bd 100000000 p -> MS [I p.x, I p.y, I p.z] = some (ptR (fine p)))
  {q : Pt} {e : Int} (hA : it.kind = 3 -> ∃ v, MA (itmR it ++ [I q.x, I q.y, I q.z, I e]) = some [B v] /\ (v = true ↔ Qfa it /\ onArcP it q e))
  (hL : ∀ {a b : Pt}, bd 33554432 a -> bd 33554432 b -> ∃ r, ML [I a.x, I a.y, I a.z, I b.x, I b.y, I b.z, I q.x, I q.y, I q.z, I e] = some [B r] /\ (r = true ↔ onLine a b q e)) :
  ∃ v, mf_contour_OnItem ML MS MV MA (itmR it ++ [I q.x, I q.y, I q.z, I e]) = some [B v] /\ (v = true ↔ Qks it q e) := by
 obtain ⟨v0, e0, h0⟩ := hV
 simp only [List.cons_append, List.nil_append] at hA ⊢
 rw [mf_contour_OnItem_eq]
 simp only [itmR] at e0
 unfold Qks
 by_cases h3 : it.kind = 3
 ·obtain ⟨v, e1, h1⟩ := hA h3
  simp only [go_sem, e1]
  rw [if_pos h3]
  exact ⟨v, rfl, by rw [h1, if_pos h3]⟩
 ·simp only [go_sem, e0]
  rw [if_neg h3]
  by_cases c0 : v0 = true
  ·have hv := h0.1 c0
   have f1 := Qau (Qg6 hv.2.1) (B := 33554432) (by omega)
   have f2 := Qau (Qg6 hv.2.2.1) (B := 33554432) (by omega)
   obtain ⟨r, e2, h2⟩ := hL f1 f2
   simp only [hS (Qau hv.2.1 (by omega)), hS (Qau hv.2.2.1 (by omega)), go_sem, e2]
   rw [if_pos c0]
   exact ⟨r, rfl, by rw [h2, if_neg h3]; exact ⟨fun h => ⟨hv, h⟩, fun h => h.2⟩⟩
  ·rw [if_neg c0]; exact ⟨_, rfl, iff_of_false (by simp) fun h => c0 (h0.2 h.1)⟩
theorem s_contour_OnItem (it : Itm) {q : Pt} (hq : bd 33554432 q) {e : Int} (he : 0 <= e /\ e <= 32000) :
  ∃ v, Qfw (itmR it ++ [I q.x, I q.y, I q.z, I e]) = some [B v] /\ (v = true ↔ Qks it q e) :=
 a_contour_OnItem (Qn4 it) s_contour_scaled (fun h => s_contour_OnArc h (Qau hq (by omega)) he) (fun ha hb => s_contour_OnLine ha hb hq (by omega))
end Go.Bm
/- what the square roots of package wide give -/
set_option maxRecDepth 100000
namespace Go.Bm

theorem or_bit {m k : Nat} (h : 2 ^ (k + 1) * m + 2 ^ k < w64) : IntKind.u64.wrap (((BitVec.ofInt IntKind.u64.bits ((2 ^ (k + 1) * m : Nat) : Int) ||| BitVec.ofInt IntKind.u64.bits ((2 ^ k : Nat) : Int)).toNat : Nat) : Int) = ((2 ^ (k + 1) * m + 2 ^ k : Nat) : Int) := by
 rw [Qdr] at h
 have e : (BitVec.ofInt IntKind.u64.bits ((2 ^ (k + 1) * m : Nat) : Int) ||| BitVec.ofInt IntKind.u64.bits ((2 ^ k : Nat) : Int)).toNat = 2 ^ (k + 1) * m + 2 ^ k := by
  rw [BitVec.toNat_or]
  have e1 : ∀ v : Nat, v < 18446744073709551616 -> (BitVec.ofInt IntKind.u64.bits (v : Int)).toNat = v := by
   intro v hv
   simp only [IntKind.bits, BitVec.toNat_ofInt]
   omega
  have hpos : 0 < 2 ^ k := Nat.two_pow_pos _
  generalize hA : 2 ^ (k + 1) * m = A at *
  rw [e1 _ (by omega), e1 _ (by omega), <- hA]
  exact (Nat.two_pow_add_eq_or_of_lt (Nat.pow_lt_pow_right (by omega) (by omega)) m).symm
 rw [e, Qeh (by omega)]
theorem half (k : Nat) : ((2 ^ (k + 1) : Nat) : Int).fdiv (2 ^ min (Int.toNat 1) IntKind.u64.bits) = ((2 ^ k : Nat) : Int) := by
 have e : (2 ^ min (Int.toNat 1) IntKind.u64.bits : Int) = 2 := rfl
 rw [e, Int.fdiv_eq_ediv_of_nonneg _ (by omega), Nat.pow_succ]
 omega
theorem half0 : (1 : Int).fdiv (2 ^ min (Int.toNat 1) IntKind.u64.bits) = 0 := rfl

theorem st_floorRoot {M1 M2 : List AC -> Option (List AC)} (hp : ∀ x y : Nat, x < w64 -> y < w64 -> ∃ hi lo : Nat, M2 [U x, U y] = some [U hi, U lo] /\ hi * w64 + lo = x * y /\ lo < w64)
  (hc : ∀ a b c d : Nat, b < w64 -> d < w64 -> M1 [U a, U b, U c, U d] = some [I (cmpN (a * w64 + b) (c * w64 + d))]) {k m hi lo : Nat} {bit : Int} (hlo : lo < w64) (hb : ((2 ^ k : Nat) : Int).fdiv (2 ^ min (Int.toNat 1) IntKind.u64.bits) = bit) (h : 2 ^ (k + 1) * m + 2 ^ k < w64) :
  Qdx M1 M2 [U ((2 ^ (k + 1) * m : Nat) : Int), U ((2 ^ k : Nat) : Int), U hi, U lo] =
   some (0, [U (((if (2 ^ (k + 1) * m + 2 ^ k) * (2 ^ (k + 1) * m + 2 ^ k) <= hi * w64 + lo then 2 ^ (k + 1) * m + 2 ^ k else 2 ^ (k + 1) * m) : Nat) : Int), U bit, U hi, U lo]) := by
 obtain ⟨h1, l1, e1, e2, e3⟩ := hp _ _ h h
 have hcmp := hc h1 l1 hi lo e3 hlo
 rw [e2] at hcmp
 have hpos : 0 < 2 ^ k := Nat.two_pow_pos _
 rw [st_wide_floorRoot_3_eq, or_bit h, hb]
 simp only [go_sem, e1, hcmp]
 rw [if_pos (by omega)]
 generalize (2 ^ (k + 1) * m + 2 ^ k) * (2 ^ (k + 1) * m + 2 ^ k) = q at *
 unfold cmpN
 by_cases h1 : q < hi * w64 + lo
 ·rw [if_pos h1, if_pos (by omega), if_pos (by omega)]
 ·rw [if_neg h1]
  by_cases h2 : q = hi * w64 + lo
  ·rw [if_pos h2, if_pos (by omega), if_pos (by omega)]
  ·rw [if_neg h2, if_neg (by omega), if_neg (by omega)]
theorem l_floorRoot {M1 M2 : List AC -> Option (List AC)} (hp : ∀ x y : Nat, x < w64 -> y < w64 -> ∃ hi lo : Nat, M2 [U x, U y] = some [U hi, U lo] /\ hi * w64 + lo = x * y /\ lo < w64)
  (hc : ∀ a b c d : Nat, b < w64 -> d < w64 -> M1 [U a, U b, U c, U d] = some [I (cmpN (a * w64 + b) (c * w64 + d))]) {hi lo : Nat} (hlo : lo < w64) : ∀ (k m : Nat), 2 ^ (k + 1) * m + 2 ^ (k + 1) <= w64 ->
  (2 ^ (k + 1) * m) * (2 ^ (k + 1) * m) <= hi * w64 + lo -> hi * w64 + lo < (2 ^ (k + 1) * m + 2 ^ (k + 1)) * (2 ^ (k + 1) * m + 2 ^ (k + 1)) ->
  ∃ r : Nat, Qb1 (Qdx M1 M2) [U ((2 ^ (k + 1) * m : Nat) : Int), U ((2 ^ k : Nat) : Int), U hi, U lo] = some (1, [U r]) /\ r * r <= hi * w64 + lo /\ hi * w64 + lo < (r + 1) * (r + 1) /\ r < w64
 | 0, m, hw, h1, h2 => by
  have hs := st_floorRoot hp hc (k := 0) (m := m) (hi := hi) (bit := 0) hlo half0 (by simp at hw ⊢; omega)
  rw [Qb8 hs]
  have hend : ∀ r : Nat, Qb1 (Qdx M1 M2) [U (r : Int), U 0, U hi, U lo] = some (1, [U r]) := by
   intro r
   refine Qcj ?_ (by simp)
   rw [st_wide_floorRoot_3_eq]
   simp only [go_sem]
   rw [if_neg (by omega)]
  simp only [Nat.zero_add, Nat.pow_one, Nat.pow_zero] at *
  by_cases h : (2 * m + 1) * (2 * m + 1) <= hi * w64 + lo
  ·rw [if_pos h, hend]
   exact ⟨_, rfl, h, h2, by omega⟩
  ·rw [if_neg h, hend]
   exact ⟨_, rfl, h1, by omega, by omega⟩
 | k + 1, m, hw, h1, h2 => by
  have e1 : 2 ^ (k + 1 + 1) * m = 2 ^ (k + 1) * (2 * m) := by rw [Nat.pow_succ 2 (k + 1), Nat.mul_assoc]
  have e2 : 2 ^ (k + 1 + 1) * m + 2 ^ (k + 1) = 2 ^ (k + 1) * (2 * m + 1) := by rw [e1, Nat.mul_add, Nat.mul_one]
  have e3 : 2 ^ (k + 1 + 1) = 2 ^ (k + 1) + 2 ^ (k + 1) := by rw [Nat.pow_succ 2 (k + 1)]; omega
  have hpos : 0 < 2 ^ (k + 1) := Nat.two_pow_pos _
  have hs := st_floorRoot hp hc (k := k + 1) (m := m) (hi := hi) (bit := ((2 ^ k : Nat) : Int)) hlo (half k) (by omega)
  rw [Qb8 hs]
  by_cases h : (2 ^ (k + 1 + 1) * m + 2 ^ (k + 1)) * (2 ^ (k + 1 + 1) * m + 2 ^ (k + 1)) <= hi * w64 + lo
  ·rw [if_pos h, e2]
   rw [e2] at h
   refine l_floorRoot hp hc hlo k (2 * m + 1) ?_ h ?_
   ·rw [<- e2]; omega
   ·rw [<- e2]
    rw [show 2 ^ (k + 1 + 1) * m + 2 ^ (k + 1) + 2 ^ (k + 1) = 2 ^ (k + 1 + 1) * m + 2 ^ (k + 1 + 1) by omega]
    exact h2
  ·rw [if_neg h]
   have h3 : hi * w64 + lo < (2 ^ (k + 1 + 1) * m + 2 ^ (k + 1)) * (2 ^ (k + 1 + 1) * m + 2 ^ (k + 1)) := by omega
   have hw' : 2 ^ (k + 1 + 1) * m + 2 ^ (k + 1) <= w64 := by omega
   rw [e1] at h1 h3 hw' ⊢
   exact l_floorRoot hp hc hlo k (2 * m) hw' h1 h3
theorem a_wide_floorRoot {M1 M2 : List AC -> Option (List AC)} (hp : ∀ x y : Nat, x < w64 -> y < w64 -> ∃ hi lo : Nat, M2 [U x, U y] = some [U hi, U lo] /\ hi * w64 + lo = x * y /\ lo < w64)
  (hc : ∀ a b c d : Nat, b < w64 -> d < w64 -> M1 [U a, U b, U c, U d] = some [I (cmpN (a * w64 + b) (c * w64 + d))]) {hi lo : Nat} (hhi : hi < w64) (hlo : lo < w64) :
  ∃ r : Nat, mf_wide_floorRoot M1 M2 (Qb1 (Qdx M1 M2)) [U hi, U lo] = some [U r] /\ r * r <= hi * w64 + lo /\ hi * w64 + lo < (r + 1) * (r + 1) /\ r < w64 := by
 have hb : hi * w64 + lo < w64 * w64 := by
  have : hi * w64 + w64 <= w64 * w64 := by rw [<- Nat.succ_mul]; exact Nat.mul_le_mul_right _ hhi
  omega
 obtain ⟨r, h1, h2, h3, h4⟩ := l_floorRoot hp hc (hi := hi) (lo := lo) hlo 63 0 (by rw [Qdr]; omega) (by simp) (by rw [Nat.mul_zero, Nat.zero_add, show 2 ^ (63 + 1) = w64 by rw [Qdr]]; exact hb)
 refine ⟨r, ?_, h2, h3, h4⟩
 rw [Nat.mul_zero] at h1
 generalize Qb1 (Qdx M1 M2) = N at *
 have h1' : N [AC.int IntKind.u64 0, AC.int IntKind.u64 9223372036854775808, AC.int IntKind.u64 hi, AC.int IntKind.u64 lo] = some (1, [U r]) := h1
 rw [mf_wide_floorRoot_eq, h1']
 simp only [go_sem]
theorem s_wide_floorRoot {hi lo : Nat} (hhi : hi < w64) (hlo : lo < w64) : ∃ r : Nat, Qef [U hi, U lo] = some [U r] /\ r * r <= hi * w64 + lo /\ hi * w64 + lo < (r + 1) * (r + 1) /\ r < w64 :=
 a_wide_floorRoot (fun _ _ hx hy => Qg8 hx hy) s_wide_compare hhi hlo

theorem s_wide_signed {n : Nat} (h : n < 9223372036854775808) : Qcq [U n, B false] = some [I n, B true] := by
 unfold Qcq
 rw [mf_wide_signed_eq]
 simp only [go_sem]
 rw [if_neg (by simp), if_pos (by simp), if_pos (by omega), Qab (by omega)]
theorem s_bits_Sub64 {x y b : Nat} (hx : x < w64) (hy : y < w64) (hb : b = 0 \/ b = 1) : Qe8 [U x, U y, U b] = some [U (((x : Int) - y - b) % two64), U (if x < y + b then 1 else 0)] := by
 rw [Qdr] at hx hy
 have e64 : two64 = 18446744073709551616 := rfl
 have hu : ∀ z : Nat, z < 18446744073709551616 -> inU (z : Int) = true := by
  intro z hz
  simp only [inU, e64, Bool.and_eq_true, decide_eq_true_eq]
  omega
 have hb' : (decide ((b : Int) = 0) || decide ((b : Int) = 1)) = true := by
  rcases hb with rfl | rfl <;> simp
 unfold Qe8
 simp only [Qjm, nth_1, nth_2, Qiz, gA, jA, wA, bA]
 rw [hu x hx, hu y hy, hb']
 by_cases h : x < y + b
 ·rw [if_pos h, Qhd (p := (x : Int) < y + b) (by omega)]; simp
 ·rw [if_neg h, Qcl (p := (x : Int) < y + b) (by omega)]; simp
theorem s_bits_Sub64' {x y : Nat} (hx : x < w64) (hyx : y <= x) : Qe8 [U x, U y, U 0] = some [U ((x - y : Nat) : Int), U 0] := by
 have := s_bits_Sub64 (x := x) (y := y) (b := 0) hx (by omega) (.inl rfl)
 have e64 : two64 = 18446744073709551616 := rfl
 rw [Qdr] at hx
 rw [if_neg (by omega), e64, show ((x : Int) - y - ((0 : Nat) : Int)) % 18446744073709551616 = ((x - y : Nat) : Int) by omega] at this
 exact this
theorem a_wide_root {M1 M2 M3 M4 : List AC -> Option (List AC)} {n r : Nat} {mode : Int} (hn : n < 9223372036854775807) (hrn : r * r <= n) (hr : M4 [U 0, U n] = some [U r]) (hm : M3 [U r, U r] = some [U 0, U ((r * r : Nat) : Int)]) (hs1 : M2 [U n, U ((r * r : Nat) : Int), U 0] = some [U ((n - r * r : Nat) : Int), U 0])
  (hs2 : M2 [U 0, U 0, U 0] = some [U 0, U 0]) (sg : ∀ k : Nat, k < 9223372036854775808 -> M1 [U k, B false] = some [I k, B true]) (hmode : mode = 1 \/ mode = 2) :
  mf_wide_root M1 M2 M3 M4 [U 0, U n, I mode] = some [I ((if (mode = 1 /\ r * r < n) \/ (mode = 2 /\ r * r + r < n) then r + 1 else r : Nat) : Int), B true] := by
 have hrr : r <= r * r := by
  rcases Nat.eq_zero_or_pos r with h | h
  ·subst h; simp
  ·exact Nat.le_mul_of_pos_left r h
 have hw : IntKind.u64.wrap ((r : Int) + 1) = ((r + 1 : Nat) : Int) := by rw [Qeh (by omega)]; omega
 have s1 := sg r (by omega)
 have s2 := sg (r + 1) (by omega)
 rw [mf_wide_root_eq]
 simp only [go_sem, hr, hm, hs1, hs2, hw, s1, s2]
 rcases hmode with rfl | rfl
 ·rw [if_pos rfl, if_neg (by omega)]
  by_cases h : r * r < n
  ·rw [if_pos (by omega), if_pos (by omega)]
  ·rw [if_neg (by omega), if_neg (by omega), if_neg (by omega)]
 ·rw [if_neg (by omega), if_pos rfl, if_neg (by omega)]
  by_cases h : r * r + r < n
  ·rw [if_pos (by omega), if_pos (by omega)]
  ·rw [if_neg (by omega), if_neg (by omega)]
theorem a_wide_Sqrt {M1 M2 : List AC -> Option (List AC)} {n : Nat} {mode : Int} {k : Int} (hn : n < 9223372036854775807) (hk : M2 [I mode] = some [B true]) (hr : M1 [U 0, U n, I mode] = some [I k, B true]) : mf_wide_Sqrt M1 M2 [I n, I mode] = some [I k, B true] := by
 have hw : IntKind.u64.wrap (n : Int) = (n : Int) := Qeh (by omega)
 rw [mf_wide_Sqrt_eq]
 simp only [go_sem, hk, hw, hr]
 rw [if_neg (by omega), if_neg (by simp)]
theorem s_wide_known {mode : Int} (h : mode = 0 \/ mode = 1 \/ mode = 2) : Qd0 [I mode] = some [B true] := by
 unfold Qd0
 rw [mf_wide_known_eq]
 rcases h with rfl | rfl | rfl <;> rfl
theorem s_wide_Sqrt {n : Nat} {mode : Int} (hn : n < 9223372036854775807) (hmode : mode = 1 \/ mode = 2) :
  ∃ r : Nat, Qhb [I n, I mode] = some [I ((if (mode = 1 /\ r * r < n) \/ (mode = 2 /\ r * r + r < n) then r + 1 else r : Nat) : Int), B true] /\ r * r <= n /\ n < (r + 1) * (r + 1) := by
 have hnw : n < w64 := by rw [Qdr]; omega
 obtain ⟨r, h1, h2, h3, h4⟩ := s_wide_floorRoot (hi := 0) (lo := n) w64_pos hnw
 rw [Nat.zero_mul, Nat.zero_add] at h2 h3
 obtain ⟨hi, lo, e1, e2, e3⟩ : ∃ hi lo : Nat, Qed [U r, U r] = some [U hi, U lo] /\ hi * w64 + lo = r * r /\ lo < w64 := ⟨_, _, s_bits_Mul64 h4 h4, divmod _, Nat.mod_lt _ w64_pos⟩
 have hhi : hi = 0 := by
  rcases Nat.eq_zero_or_pos hi with h | h
  ·exact h
  ·have := Nat.mul_le_mul_right w64 h
   omega
 subst hhi
 have hlo : lo = r * r := by omega
 subst hlo
 have z := s_bits_Sub64' (x := 0) (y := 0) w64_pos (Nat.le_refl _)
 refine ⟨r, ?_, h2, h3⟩
 exact a_wide_Sqrt hn (s_wide_known (.inr hmode)) (a_wide_root hn h2 h1 e1 (s_bits_Sub64' hnw h2) z (fun k hk => s_wide_signed hk) hmode)
end Go.Bm
/- products divided and rounded: wide.MulDiv and the reference's Rounded -/
set_option maxRecDepth 100000
namespace Go.Bm

def near (a b : Int) : Int := (2 * a + b) / (2 * b)
theorem near_of {a b k : Int} (hb : 0 < b) (h1 : k * (2 * b) <= 2 * a + b) (h2 : 2 * a + b < (k + 1) * (2 * b)) : near a b = k := by
 unfold near
 have g1 : k <= (2 * a + b) / (2 * b) := (Int.le_ediv_iff_mul_le (by omega)).2 h1
 have g2 : (2 * a + b) / (2 * b) < k + 1 := (Int.ediv_lt_iff_lt_mul (by omega)).2 h2
 omega
theorem near_spec {a b : Int} (hb : 0 < b) : near a b * (2 * b) <= 2 * a + b /\ 2 * a + b < (near a b + 1) * (2 * b) := by
 unfold near
 exact ⟨(Int.le_ediv_iff_mul_le (by omega)).1 (Int.le_refl _), (Int.ediv_lt_iff_lt_mul (by omega)).1 (Int.lt_add_one_of_le (Int.le_refl _))⟩
theorem s_bits_Div64_0 {p c : Nat} (hp : p < w64) (hc : 0 < c) : Qeg [U 0, U p, U c] = some [U ((p / c : Nat) : Int), U ((p % c : Nat) : Int)] := by
 rw [Qdr] at hp
 have h1 : (p : Int).tdiv (c : Int) = ((p / c : Nat) : Int) := by rw [Int.tdiv_eq_ediv_of_nonneg (by omega)]; simp
 have h2 : (p : Int).tmod (c : Int) = ((p % c : Nat) : Int) := by rw [Int.tmod_eq_emod_of_nonneg (by omega)]; simp
 have h3 : p / c <= p := Nat.div_le_self _ _
 unfold Qeg
 generalize Qbd = M
 generalize Qmz = N1
 generalize l_bits_Div64_24 = N2
 rw [mf_bits_Div64_eq]
 rw [Qky (by simp; omega), Qcl (by omega), Qob (by simp), Qcl (by omega), Qcl (by omega), h1, h2]
 generalize p / c = q at *
 rw [Qeh (by omega)]
theorem s_wide_grows2 (more : Int) (some_ neg : Bool) : Qfc [I 2, I more, B some_, B neg] = some [B (if more > 0 then true else if more = 0 then !neg else false)] := by
 unfold Qfc
 rw [mf_wide_grows_eq]
 simp only [go_sem]
 rw [if_neg (by omega), if_neg (by omega)]
 repeat' split
 all_goals rfl
theorem s_wide_signed_neg {n : Nat} (h : n <= 9223372036854775808) : Qcq [U n, B true] = some [I (-(n : Int)), B true] := by
 unfold Qcq
 rw [mf_wide_signed_eq]
 simp only [go_sem]
 rw [if_pos (by omega), uwrap_mod, wrap_def]
 have : ((0 - (n : Int)) % 18446744073709551616 + 9223372036854775808) % 18446744073709551616 - 9223372036854775808 = -(n : Int) := by omega
 rw [this]

def rndN (q r c : Nat) (neg : Bool) : Nat := if r > c - r then q + 1 else if r < c - r then q else if neg then q else q + 1
theorem a_wide_MulDiv {M1 M2 M3 M4 M5 M6 M7 : List AC -> Option (List AC)} {a b s : Int} {A C p q r c : Nat} (hc0 : 0 < c) (hc1 : c < 9223372036854775808) (hr : r < c) (hq : q < 9223372036854775807)
  (k1 : M7 [I 2] = some [B true]) (k2 : M6 [I a] = some [U A]) (k3 : M6 [I b] = some [U C]) (k4 : M6 [I c] = some [U c]) (k5 : M5 [U A, U C] = some [U 0, U p]) (k6 : M4 [U 0, U p, U c] = some [U q, U r]) (k7 : M3 [I a, I b] = some [I s])
  (k8 : ∀ (more : Int) (some_ neg : Bool), M2 [I 2, I more, B some_, B neg] = some [B (if more > 0 then true else if more = 0 then !neg else false)])
  (k9 : ∀ k : Nat, k < 9223372036854775808 -> M1 [U k, B false] = some [I k, B true]) (k10 : ∀ k : Nat, k < 9223372036854775808 -> M1 [U k, B true] = some [I (-(k : Int)), B true]) :
  mf_wide_MulDiv M1 M2 M3 M4 M5 M6 M7 [I a, I b, I c, I 2] = some [I (if s < 0 then -(rndN q r c true : Int) else (rndN q r c false : Int)), B true] := by
 have w1 : IntKind.u64.wrap ((c : Int) - (r : Int)) = ((c - r : Nat) : Int) := by rw [Qeh (by omega)]; omega
 have w2 : IntKind.u64.wrap ((q : Int) + 1) = ((q + 1 : Nat) : Int) := by rw [Qeh (by omega)]; omega
 have n1 := k9 q (by omega)
 have n2 := k9 (q + 1) (by omega)
 rw [mf_wide_MulDiv_eq]
 simp only [go_sem, k1, k2, k3, k4, k5, k6, k7, k8, w1, w2, n1, n2]
 rw [if_neg (by omega), if_neg (by simp), if_neg (by omega)]
 by_cases hs : s < 0
 ·rw [if_pos hs]
  rw [if_pos (show ¬(s < 0 ↔ (c : Int) < 0) by omega)]
  have hne : (s != 0) = true := by simp; omega
  rw [hne]
  unfold rndN
  by_cases g1 : r > c - r
  ·rw [if_pos g1]
   rw [if_pos (show (r : Int) > ((c - r : Nat) : Int) by omega), if_pos (by decide), if_neg (show ¬ ((q + 1 : Nat) : Int) = 0 by omega), k10 (q + 1) (by omega)]
   simp only [go_sem]
  ·rw [if_neg g1]
   rw [if_neg (show ¬ (r : Int) > ((c - r : Nat) : Int) by omega)]
   by_cases g2 : r < c - r
   ·rw [if_pos g2]
    rw [if_pos (show (r : Int) < ((c - r : Nat) : Int) by omega), if_neg (by decide), k10 q (by omega)]
    simp only [go_sem]
   ·rw [if_neg g2, if_pos rfl]
    rw [if_neg (show ¬ (r : Int) < ((c - r : Nat) : Int) by omega), if_neg (by decide), k10 q (by omega)]
    simp only [go_sem]
 ·rw [if_neg hs]
  rw [if_neg (show ¬¬(s < 0 ↔ (c : Int) < 0) by omega)]
  unfold rndN
  by_cases g1 : r > c - r
  ·rw [if_pos g1, if_pos (show (r : Int) > ((c - r : Nat) : Int) by omega), if_pos (by decide), if_neg (show ¬ ((q + 1 : Nat) : Int) = 0 by omega)]
  ·rw [if_neg g1, if_neg (show ¬ (r : Int) > ((c - r : Nat) : Int) by omega)]
   by_cases g2 : r < c - r
   ·rw [if_pos g2, if_pos (show (r : Int) < ((c - r : Nat) : Int) by omega), if_neg (by decide)]
   ·rw [if_neg g2, if_neg (show ¬ (r : Int) < ((c - r : Nat) : Int) by omega), if_pos (by decide), if_neg (show ¬ ((q + 1 : Nat) : Int) = 0 by omega), if_neg (by decide)]

theorem rndN_false (q r c : Nat) : rndN q r c false = if r < c - r then q else q + 1 := by
 unfold rndN
 by_cases h1 : r > c - r
 ·rw [if_pos h1, if_neg (by omega)]
 ·rw [if_neg h1]
  by_cases h2 : r < c - r
  ·rw [if_pos h2, if_pos h2]
  ·rw [if_neg h2, if_neg h2, if_neg (by simp)]
theorem rndN_true (q r c : Nat) : rndN q r c true = if r > c - r then q + 1 else q := by
 unfold rndN
 by_cases h1 : r > c - r
 ·rw [if_pos h1, if_pos h1]
 ·rw [if_neg h1, if_neg h1]
  by_cases h2 : r < c - r
  ·rw [if_pos h2]
  ·rw [if_neg h2, if_pos rfl]
theorem near_pos {p q r c : Nat} (hc : 0 < c) (h : p = c * q + r) (hr : r < c) : near p c = rndN q r c false := by
 have e : (p : Int) = (c : Int) * q + r := by rw [h]; simp
 have e3 : (q : Int) * (2 * c) = 2 * ((c : Int) * q) := by grind
 have e4 : ((q + 1 : Nat) : Int) * (2 * c) = 2 * ((c : Int) * q) + 2 * c := by grind
 have e5 : ((q : Int) + 1) * (2 * c) = 2 * ((c : Int) * q) + 2 * c := by grind
 have e6 : (((q + 1 : Nat) : Int) + 1) * (2 * c) = 2 * ((c : Int) * q) + 4 * c := by grind
 rw [rndN_false]
 by_cases g : r < c - r
 ·rw [if_pos g]
  exact near_of (by omega) (by rw [e3]; omega) (by rw [e5]; omega)
 ·rw [if_neg g]
  exact near_of (by omega) (by rw [e4]; omega) (by rw [e6]; omega)
theorem near_neg {p q r c : Nat} (hc : 0 < c) (h : p = c * q + r) (hr : r < c) : near (-(p : Int)) c = -(rndN q r c true : Int) := by
 have e : (p : Int) = (c : Int) * q + r := by rw [h]; simp
 have e3 : -(q : Int) * (2 * c) = -(2 * ((c : Int) * q)) := by grind
 have e4 : -((q + 1 : Nat) : Int) * (2 * c) = -(2 * ((c : Int) * q)) - 2 * c := by grind
 have e5 : (-(q : Int) + 1) * (2 * c) = -(2 * ((c : Int) * q)) + 2 * c := by grind
 have e6 : (-((q + 1 : Nat) : Int) + 1) * (2 * c) = -(2 * ((c : Int) * q)) := by grind
 rw [rndN_true]
 by_cases g : r > c - r
 ·rw [if_pos g]
  exact near_of (by omega) (by rw [e4]; omega) (by rw [e6]; omega)
 ·rw [if_neg g]
  exact near_of (by omega) (by rw [e3]; omega) (by rw [e5]; omega)
theorem s_wide_MulDiv {a b c : Int} (ha : i64 a) (hb : i64 b) (hc : 0 < c /\ c < 9223372036854775808) (hp : a.natAbs * b.natAbs < 9223372036854775807) : Qb6 [I a, I b, I c, I 2] = some [I (near (a * b) c), B true] := by
 obtain ⟨hi, lo, e1, e2, e3⟩ := Qg8 (i64_abs ha) (i64_abs hb)
 have hm := sgn_mul a b
 have hs := sgn_cases a b
 have hz : a * b = 0 -> a.natAbs * b.natAbs = 0 := fun h => by rw [<- Int.natAbs_mul, h]; rfl
 generalize a.natAbs * b.natAbs = p at *
 have hhi : hi = 0 := by
  rcases Nat.eq_zero_or_pos hi with h | h
  ·exact h
  ·have := Nat.mul_le_mul_right w64 h
   have := Qdr
   omega
 subst hhi
 have hlo : lo = p := by omega
 subst hlo
 obtain ⟨n, rfl⟩ := Int.eq_ofNat_of_zero_le (show 0 <= c by omega)
 have hn : 0 < n := by omega
 have h1 := Nat.div_add_mod lo n
 have h2 := Nat.mod_lt lo hn
 have h3 : lo / n <= lo := Nat.div_le_self _ _
 have hd := s_bits_Div64_0 e3 hn
 have hcs := Qhh (x := (n : Int)) (by unfold i64; omega)
 rw [Int.natAbs_natCast] at hcs
 generalize lo / n = q at *
 generalize lo % n = r at *
 have hmain := a_wide_MulDiv (M1 := Qcq) (M2 := Qfc) (M3 := Qel) (M4 := Qeg) (M5 := Qbp) (M6 := Qem) (M7 := Qd0) hn (by omega) h2 (by omega)
  (s_wide_known (.inr (.inr rfl))) (Qhh ha) (Qhh hb) hcs e1 hd (s_wide_sign a b) s_wide_grows2 (fun k hk => s_wide_signed hk) (fun k hk => s_wide_signed_neg (by omega))
 have hv : (if sgn a b < 0 then -(rndN q r n true : Int) else (rndN q r n false : Int)) = near (a * b) n := by
  rcases hs with ⟨g1, g2⟩ | ⟨g1, g2⟩ | ⟨g1, g2⟩
  ·rw [if_neg (by omega), g2]
   rw [g1] at hm
   have : lo = 0 := hz g2
   rw [<- near_pos hn h1.symm h2, this]; rfl
  ·rw [if_neg (by omega), <- near_pos hn h1.symm h2, <- hm, g1, Int.one_mul]
  ·rw [if_pos (by omega), <- near_neg hn h1.symm h2, <- hm, g1, Int.neg_mul, Int.one_mul]
 rw [hv] at hmain
 exact hmain
end Go.Bm
/- the reference's products of two words, roots, lengths, and x r / sqrt n, rounded -/
set_option maxRecDepth 100000
namespace Go.Bm

theorem and32 (v : Nat) (h : v < w64) : IntKind.u64.wrap (((BitVec.ofInt IntKind.u64.bits (v : Int) &&& BitVec.ofInt IntKind.u64.bits 4294967295).toNat : Nat) : Int) = ((v % 4294967296 : Nat) : Int) := by
 rw [Qdr] at h
 have e : (BitVec.ofInt IntKind.u64.bits (v : Int) &&& BitVec.ofInt IntKind.u64.bits 4294967295).toNat = v % 4294967296 := by
  rw [BitVec.toNat_and]
  have e1 : (BitVec.ofInt IntKind.u64.bits (v : Int)).toNat = v := by
   simp only [IntKind.bits, BitVec.toNat_ofInt]
   omega
  have e2 : (BitVec.ofInt IntKind.u64.bits 4294967295).toNat = 2 ^ 32 - 1 := by
   simp only [IntKind.bits, BitVec.toNat_ofInt]
   rfl
  rw [e1, e2, Nat.and_two_pow_sub_one_eq_mod]
 rw [e, Qeh (by omega)]
theorem shr32 (v : Nat) : (v : Int).fdiv (2 ^ min (Int.toNat 32) IntKind.u64.bits) = ((v / 4294967296 : Nat) : Int) := by
 have e : (2 ^ min (Int.toNat 32) IntKind.u64.bits : Int) = 4294967296 := rfl
 rw [e, Int.fdiv_eq_ediv_of_nonneg _ (by omega)]
 omega
theorem or32 (u v : Nat) (hu : u < 4294967296) (hv : v < 4294967296) : IntKind.u64.wrap (((BitVec.ofInt IntKind.u64.bits ((u * 4294967296 : Nat) : Int) ||| BitVec.ofInt IntKind.u64.bits (v : Int)).toNat : Nat) : Int) = ((u * 4294967296 + v : Nat) : Int) := by
 have e : (BitVec.ofInt IntKind.u64.bits ((u * 4294967296 : Nat) : Int) ||| BitVec.ofInt IntKind.u64.bits (v : Int)).toNat = u * 4294967296 + v := by
  rw [BitVec.toNat_or]
  have e1 : ∀ v : Nat, v < 18446744073709551616 -> (BitVec.ofInt IntKind.u64.bits (v : Int)).toNat = v := by
   intro v hv
   simp only [IntKind.bits, BitVec.toNat_ofInt]
   omega
  rw [e1 _ (by omega), e1 _ (by omega)]
  have := Nat.two_pow_add_eq_or_of_lt (i := 32) (b := v) (by omega) u
  rw [show (2 : Nat) ^ 32 = 4294967296 from rfl, Nat.mul_comm] at this
  exact this.symm
 rw [e, Qeh (by omega)]
theorem shl32 (v : Nat) (h : v < w64) : IntKind.u64.wrap ((v : Int) * 2 ^ min (Int.toNat 32) IntKind.u64.bits) = ((v % 4294967296 * 4294967296 : Nat) : Int) := by
 have e : (2 ^ min (Int.toNat 32) IntKind.u64.bits : Int) = 4294967296 := rfl
 rw [Qdr] at h
 rw [e, uwrap_mod]
 omega
theorem mul32 {a b : Nat} (ha : a < 4294967296) (hb : b < 4294967296) : a * b <= 18446744065119617025 := by
 have := Nat.mul_le_mul (show a <= 4294967295 by omega) (show b <= 4294967295 by omega)
 omega
theorem s_cncref23_product {x y : Nat} (hx : x < w64) (hy : y < w64) : ∃ hi lo : Nat, Qnd [U x, U y] = some [U hi, U lo] /\ hi * w64 + lo = x * y /\ lo < w64 := by
 unfold Qnd
 rw [mf_cncref23_product_eq, and32 x hx, and32 y hy, shr32 x, shr32 y]
 rw [Qdr] at hx hy
 have ex : x = x / 4294967296 * 4294967296 + x % 4294967296 := by omega
 have ey : y = y / 4294967296 * 4294967296 + y % 4294967296 := by omega
 have hx1 : x / 4294967296 < 4294967296 := by omega
 have hx0 : x % 4294967296 < 4294967296 := by omega
 have hy1 : y / 4294967296 < 4294967296 := by omega
 have hy0 : y % 4294967296 < 4294967296 := by omega
 generalize x / 4294967296 = a at *
 generalize x % 4294967296 = b at *
 generalize y / 4294967296 = c at *
 generalize y % 4294967296 = d at *
 have exy : x * y = (a * c) * 18446744073709551616 + (a * d) * 4294967296 + (b * c) * 4294967296 + b * d := by
  rw [ex, ey]
  have : (18446744073709551616 : Nat) = 4294967296 * 4294967296 := rfl
  rw [this]
  generalize (4294967296 : Nat) = H
  grind
 rw [exy]
 have h1 := mul32 hx1 hy1
 have h2 := mul32 hx1 hy0
 have h3 := mul32 hx0 hy1
 have h4 := mul32 hx0 hy0
 have m1 : ∀ p q : Nat, (p : Int) * (q : Int) = ((p * q : Nat) : Int) := fun p q => by simp
 have u1 : ∀ v : Nat, v <= 18446744073709551615 -> IntKind.u64.wrap (v : Int) = (v : Int) := fun v hv => Qeh (by omega)
 simp only [m1]
 generalize a * c = P at *
 generalize a * d = Q at *
 generalize b * c = S at *
 generalize b * d = T at *
 have hw64 : ∀ v : Nat, v <= 18446744073709551615 -> v < w64 := fun v hv => by rw [Qdr]; omega
 have a1 : ∀ p q : Nat, (p : Int) + (q : Int) = ((p + q : Nat) : Int) := fun p q => by simp
 rw [u1 T (by omega), u1 Q (by omega), u1 S (by omega), u1 P (by omega), shr32 T, a1, u1 (Q + T / 4294967296) (by omega)]
 rw [and32 _ (hw64 (Q + T / 4294967296) (by omega)), shr32 (Q + T / 4294967296), and32 _ (hw64 T (by omega)), a1 S, u1 (S + _) (by omega), shr32 (S + _), a1 P, u1 (P + _) (by omega), a1 _ ((S + _) / _), u1 (P + _ + _) (by omega),
  shl32 _ (hw64 (S + (Q + T / 4294967296) % 4294967296) (by omega)), or32 _ _ (by omega) (by omega)]
 refine ⟨_, _, rfl, ?_, ?_⟩
 ·rw [Qdr]; omega
 ·rw [Qdr]; omega

theorem a_cncref23_most {M : List AC -> Option (List AC)} (hM : ∀ {x y : Nat}, x < w64 -> y < w64 -> ∃ hi lo : Nat, M [U x, U y] = some [U hi, U lo] /\ hi * w64 + lo = x * y /\ lo < w64) {a b c d : Nat} (ha : a < w64) (hb : b < w64) (hc : c < w64) (hd : d < w64) (s : Bool) :
  mf_cncref23_most M [U a, U b, U c, U d, B s] = some [B (if s = true then decide (a * b < c * d) else decide (a * b <= c * d))] := by
 obtain ⟨h1, l1, e1, f1, g1⟩ := hM ha hb
 obtain ⟨h2, l2, e2, f2, g2⟩ := hM hc hd
 rw [mf_cncref23_most_eq]
 simp only [go_sem, e1, e2]
 rw [<- f1, <- f2]
 have key : ∀ p q : Nat, p < q -> p * w64 + w64 <= q * w64 := fun p q h => by rw [<- Nat.succ_mul]; exact Nat.mul_le_mul_right _ h
 by_cases c1 : h1 < h2
 ·rw [if_pos (by omega)]
  have := key _ _ c1
  by_cases hs : s = true
  ·rw [if_pos hs, decide_eq_true (by omega)]
  ·rw [if_neg hs, decide_eq_true (by omega)]
 ·rw [if_neg (by omega)]
  by_cases c2 : h1 = h2
  ·subst c2
   rw [if_pos rfl]
   by_cases c3 : l1 < l2
   ·rw [if_pos (by omega)]
    by_cases hs : s = true
    ·rw [if_pos hs, decide_eq_true (by omega)]
    ·rw [if_neg hs, decide_eq_true (by omega)]
   ·rw [if_neg (by omega)]
    by_cases c4 : l1 = l2
    ·subst c4
     rw [if_pos rfl]
     by_cases hs : s = true
     ·rw [if_pos hs, decide_eq_false (by omega), hs]; rfl
     ·rw [if_neg hs, decide_eq_true (by omega)]; simp at hs; rw [hs]; rfl
    ·rw [if_neg (by omega)]
     by_cases hs : s = true
     ·rw [if_pos hs, decide_eq_false (by omega)]
     ·rw [if_neg hs, decide_eq_false (by omega)]
  ·rw [if_neg (by omega)]
   have := key h2 h1 (by omega)
   by_cases hs : s = true
   ·rw [if_pos hs, decide_eq_false (by omega)]
   ·rw [if_neg hs, decide_eq_false (by omega)]
theorem s_cncref23_most {a b c d : Nat} (ha : a < w64) (hb : b < w64) (hc : c < w64) (hd : d < w64) (s : Bool) :
  m_cncref23_most [U a, U b, U c, U d, B s] = some [B (if s = true then decide (a * b < c * d) else decide (a * b <= c * d))] :=
 a_cncref23_most s_cncref23_product ha hb hc hd s

def IsRnd (a n : Nat) (down : Bool) (j : Nat) : Prop :=
 (j = 0 \/ if down = true then (2 * j - 1) * (2 * j - 1) * n < 4 * (a * a) else (2 * j - 1) * (2 * j - 1) * n <= 4 * (a * a)) /\
 (if down = true then 4 * (a * a) <= (2 * j + 1) * (2 * j + 1) * n else 4 * (a * a) < (2 * j + 1) * (2 * j + 1) * n)
theorem sqn_le {p q n : Nat} (h : p <= q) : p * p * n <= q * q * n := Nat.mul_le_mul_right _ (Nat.mul_le_mul h h)
theorem isRnd_unique {a n : Nat} {down : Bool} {i j : Nat} (hi : IsRnd a n down i) (hj : IsRnd a n down j) : i = j := by
 have key : ∀ {i j : Nat}, IsRnd a n down i -> IsRnd a n down j -> ¬ i < j := by
  rintro i j ⟨-, h2⟩ ⟨h3, -⟩ hlt
  have h4 := sqn_le (n := n) (show 2 * i + 1 <= 2 * j - 1 by omega)
  rcases h3 with h3 | h3
  ·omega
  ·by_cases hd : down = true
   ·rw [if_pos hd] at h2 h3; omega
   ·rw [if_neg hd] at h2 h3; omega
 have h1 := key hi hj
 have h2 := key hj hi
 omega
open Classical in
noncomputable def rnd (a n : Nat) (down : Bool) : Nat := if h : ∃ j, IsRnd a n down j then Classical.choose h else 0
theorem rnd_of {a n : Nat} {down : Bool} {j : Nat} (h : IsRnd a n down j) : rnd a n down = j := by
 have hx : ∃ j, IsRnd a n down j := ⟨j, h⟩
 unfold rnd
 rw [dif_pos hx]
 exact isRnd_unique (Classical.choose_spec hx) h
noncomputable def Qc1 (x r n : Int) : Int := if x < 0 then -(rnd (x.natAbs * r.natAbs) n.natAbs true : Int) else (rnd (x.natAbs * r.natAbs) n.natAbs false : Int)

theorem isRnd_le {X R n j : Nat} {down : Bool} (hn : 0 < n) (hx : X * X <= n) (h : IsRnd (X * R) n down j) : j <= R := by
 by_cases c : j <= R
 ·exact c
 exfalso
 have e : 4 * (X * R * (X * R)) = (2 * R) * (2 * R) * (X * X) := by grind
 have h2 : (2 * R) * (2 * R) * (X * X) <= (2 * R) * (2 * R) * n := Nat.mul_le_mul_left _ hx
 have h3 : (2 * R) * (2 * R) * n < (2 * R + 1) * (2 * R + 1) * n := Nat.mul_lt_mul_of_pos_right (Nat.mul_self_lt_mul_self (by omega)) hn
 have h4 : (2 * R + 1) * (2 * R + 1) * n <= (2 * j - 1) * (2 * j - 1) * n := sqn_le (by omega)
 obtain ⟨h5, -⟩ := h
 rcases h5 with h5 | h5
 ·omega
 ·split at h5 <;> omega
theorem isRnd_le' {X R n j : Nat} {down : Bool} (hn : 0 < n) (hx : R * R <= n) (h : IsRnd (X * R) n down j) : j <= X := by
 rw [Nat.mul_comm] at h
 exact isRnd_le hn hx h
theorem st_Near {M : List AC -> Option (List AC)} (hM : ∀ {a b c d : Nat}, a < w64 -> b < w64 -> c < w64 -> d < w64 -> ∀ s : Bool, M [U a, U b, U c, U d, B s] = some [B (if s = true then decide (a * b < c * d) else decide (a * b <= c * d))])
  {x : Int} {a d q b : Nat} {bit : Int} (ha : a < 36028797018963968) (hd : d < w64) (hq : q + b < 268435456 + 1) (hb0 : 0 < b) (hb : ((b : Nat) : Int).fdiv (2 ^ min (Int.toNat 1) IntKind.u64.bits) = bit) :
  Qd7 M [I x, U a, U d, U q, U b] = some (0, [I x, U a, U d, U (((if (q + b) * (q + b) * d <= a * a then q + b else q) : Nat) : Int), U bit]) := by
 have hs : (q + b) * (q + b) <= 268435456 * 268435456 := Nat.mul_le_mul (by omega) (by omega)
 have w1 : IntKind.u64.wrap ((q : Int) + (b : Int)) = ((q + b : Nat) : Int) := by rw [Qeh (by omega)]; omega
 have w2 : IntKind.u64.wrap (((q + b : Nat) : Int) * ((q + b : Nat) : Int)) = (((q + b) * (q + b) : Nat) : Int) := by
  rw [show ((q + b : Nat) : Int) * ((q + b : Nat) : Int) = (((q + b) * (q + b) : Nat) : Int) by simp, Qeh (by omega)]
 rw [st_cncref23_Near_3_eq, w1, w2, hb]
 generalize (q + b) * (q + b) = s at *
 have h := hM (a := s) (b := d) (c := a) (d := a) (by rw [Qdr]; omega) hd (by rw [Qdr]; omega) (by rw [Qdr]; omega) false
 rw [if_neg (by simp)] at h
 simp only [go_sem, h]
 rw [if_pos (by omega)]
 by_cases c : s * d <= a * a
 ·rw [if_pos c, if_pos c]
 ·rw [if_neg c, if_neg c]
theorem l_Near {M : List AC -> Option (List AC)} (hM : ∀ {a b c d : Nat}, a < w64 -> b < w64 -> c < w64 -> d < w64 -> ∀ s : Bool, M [U a, U b, U c, U d, B s] = some [B (if s = true then decide (a * b < c * d) else decide (a * b <= c * d))])
  {x : Int} {a d : Nat} (ha : a < 36028797018963968) (hd : d < w64) : ∀ (k q : Nat), q + 2 ^ (k + 1) <= 268435456 -> q * q * d <= a * a -> a * a < (q + 2 ^ (k + 1)) * (q + 2 ^ (k + 1)) * d ->
  ∃ r : Nat, Qb1 (Qd7 M) [I x, U a, U d, U q, U ((2 ^ k : Nat) : Int)] = some (1, [I x, U a, U d, U r]) /\ r * r * d <= a * a /\ a * a < (r + 1) * (r + 1) * d /\ r < 268435456
 | 0, q, hq, h1, h2 => by
  have hs := st_Near hM (x := x) (q := q) (b := 2 ^ 0) (bit := 0) ha hd (by simp at hq ⊢; omega) (by simp) half0
  rw [Qb8 hs]
  have hend : ∀ r : Nat, Qb1 (Qd7 M) [I x, U a, U d, U r, U 0] = some (1, [I x, U a, U d, U r]) := by
   intro r
   refine Qcj ?_ (by simp)
   rw [st_cncref23_Near_3_eq]
   simp only [go_sem]
   rw [if_neg (by omega)]
  simp only [Nat.zero_add, Nat.pow_one, Nat.pow_zero] at *
  by_cases h : (q + 1) * (q + 1) * d <= a * a
  ·rw [if_pos h, hend]
   exact ⟨_, rfl, h, h2, by omega⟩
  ·rw [if_neg h, hend]
   exact ⟨_, rfl, h1, by omega, by omega⟩
 | k + 1, q, hq, h1, h2 => by
  have e3 : 2 ^ (k + 1 + 1) = 2 ^ (k + 1) + 2 ^ (k + 1) := by rw [Nat.pow_succ 2 (k + 1)]; omega
  have hpos : 0 < 2 ^ (k + 1) := Nat.two_pow_pos _
  have hs := st_Near hM (x := x) (q := q) (b := 2 ^ (k + 1)) (bit := ((2 ^ k : Nat) : Int)) ha hd (by omega) hpos (half k)
  rw [Qb8 hs]
  by_cases h : (q + 2 ^ (k + 1)) * (q + 2 ^ (k + 1)) * d <= a * a
  ·rw [if_pos h]
   refine l_Near hM ha hd k _ (by omega) h ?_
   rw [show q + 2 ^ (k + 1) + 2 ^ (k + 1) = q + 2 ^ (k + 1 + 1) by omega]
   exact h2
  ·rw [if_neg h]
   exact l_Near hM ha hd k q (by omega) h1 (by omega)
theorem isRnd_near {a n q : Nat} (down : Bool) (h1 : q * q * n <= a * a) (h2 : a * a < (q + 1) * (q + 1) * n) :
  IsRnd a n down (if (if down = true then (2 * q + 1) * (2 * q + 1) * n < 2 * a * (2 * a) else (2 * q + 1) * (2 * q + 1) * n <= 2 * a * (2 * a)) then q + 1 else q) := by
 have e4 : 2 * a * (2 * a) = 4 * (a * a) := by grind
 rw [e4]
 have e1 : 4 * (q * q * n) <= 4 * (a * a) := Nat.mul_le_mul_left _ h1
 have e2 : 4 * (a * a) < 4 * ((q + 1) * (q + 1) * n) := by omega
 have e5 : (2 * q - 1) * (2 * q - 1) * n <= (2 * q) * (2 * q) * n := sqn_le (by omega)
 have e6 : (2 * q) * (2 * q) * n = 4 * (q * q * n) := by grind
 have e7 : (2 * (q + 1)) * (2 * (q + 1)) * n = 4 * ((q + 1) * (q + 1) * n) := by grind
 have e8 : (2 * (q + 1)) * (2 * (q + 1)) * n <= (2 * (q + 1) + 1) * (2 * (q + 1) + 1) * n := sqn_le (by omega)
 have e9 : n = 0 \/ q = 0 \/ (2 * q - 1) * (2 * q - 1) * n < (2 * q) * (2 * q) * n := by
  by_cases hn : n = 0
  ·exact .inl hn
  ·by_cases hq : q = 0
   ·exact .inr (.inl hq)
   ·right; right
    refine Nat.mul_lt_mul_of_pos_right ?_ (by omega)
    exact Nat.mul_self_lt_mul_self (by omega)
 have hn : n ≠ 0 := by rintro rfl; simp at h2
 unfold IsRnd
 cases down
 ·simp only [Bool.false_eq_true, if_false]
  by_cases c : (2 * q + 1) * (2 * q + 1) * n <= 4 * (a * a)
  ·rw [if_pos c]
   refine ⟨.inr ?_, by omega⟩
   rw [show 2 * (q + 1) - 1 = 2 * q + 1 by omega]; exact c
  ·rw [if_neg c]
   exact ⟨by omega, by omega⟩
 ·simp only [if_true]
  by_cases c : (2 * q + 1) * (2 * q + 1) * n < 4 * (a * a)
  ·rw [if_pos c]
   refine ⟨.inr ?_, by omega⟩
   rw [show 2 * (q + 1) - 1 = 2 * q + 1 by omega]; exact c
  ·rw [if_neg c]
   exact ⟨by omega, by omega⟩
theorem a_cncref23_Near {M : List AC -> Option (List AC)} (hM : ∀ {a b c d : Nat}, a < w64 -> b < w64 -> c < w64 -> d < w64 -> ∀ s : Bool, M [U a, U b, U c, U d, B s] = some [B (if s = true then decide (a * b < c * d) else decide (a * b <= c * d))])
  {x r n : Int} (hx : x.natAbs <= 33554432 * 4) (hr : 0 <= r /\ r <= 33554432 * 4) (hn : 0 < n /\ n <= 4611686018427387904) (hxn : x * x <= n) :
  mf_cncref23_Near M (Qb1 (Qd7 M)) [I x, I r, I n] = some [I (Qc1 x r n)] /\ (Qc1 x r n).natAbs <= 268435456 /\ IsRnd (x.natAbs * r.natAbs) n.natAbs (decide (x < 0)) (Qc1 x r n).natAbs := by
 obtain ⟨R, rfl⟩ := Int.eq_ofNat_of_zero_le hr.1
 obtain ⟨N, rfl⟩ := Int.eq_ofNat_of_zero_le (show 0 <= n by omega)
 have hmx : mx x (IntKind.i64.wrap (0 - x)) = (x.natAbs : Int) := by
  rw [Qab (by omega)]; unfold mx; split <;> omega
 have hA : x.natAbs * R <= (33554432 * 4) * (33554432 * 4) := Nat.mul_le_mul hx (by omega)
 have e1 : (x.natAbs : Int) * (R : Int) = ((x.natAbs * R : Nat) : Int) := by simp
 have hxx : x.natAbs * x.natAbs <= N := by
  have : ((x.natAbs * x.natAbs : Nat) : Int) = x * x := by rw [Int.natAbs_mul_self]
  omega
 have hAA : (x.natAbs * R) * (x.natAbs * R) < 268435456 * 268435456 * N := by
  have e : (x.natAbs * R) * (x.natAbs * R) = (R * R) * (x.natAbs * x.natAbs) := by grind
  rw [e]
  have h1 : R * R <= (33554432 * 4) * (33554432 * 4) := Nat.mul_le_mul (by omega) (by omega)
  have h2 : (R * R) * (x.natAbs * x.natAbs) <= ((33554432 * 4) * (33554432 * 4)) * N := Nat.mul_le_mul h1 hxx
  omega
 simp only [Qc1, Int.natAbs_natCast]
 generalize hAd : x.natAbs * R = A at *
 have hAw : A < 36028797018963968 := by omega
 have hN : N < w64 := by rw [Qdr]; omega
 rw [mf_cncref23_Near_eq, hmx, e1, Qab (x := (A : Int)) (by omega), Qeh (x := (A : Int)) (by omega), Qeh (x := (N : Int)) (by omega)]
 obtain ⟨q, l1, l2, l3, l4⟩ := l_Near hM (x := x) (a := A) (d := N) hAw hN 27 0 (by decide) (by simp) (by rw [Nat.zero_add]; exact hAA)
 have l1' : Qb1 (Qd7 M) [I x, U A, U N, AC.int IntKind.u64 0, AC.int IntKind.u64 134217728] = some (1, [I x, U A, U N, U q]) := l1
 rw [l1']
 have hq2 : (2 * q + 1) * (2 * q + 1) <= 536870911 * 536870911 := Nat.mul_le_mul (by omega) (by omega)
 have w1 : IntKind.u64.wrap (IntKind.u64.wrap (2 * (q : Int)) + 1) = ((2 * q + 1 : Nat) : Int) := by rw [Qeh (x := 2 * (q : Int)) (by omega), Qeh (by omega)]; omega
 have w2 : IntKind.u64.wrap (((2 * q + 1 : Nat) : Int) * ((2 * q + 1 : Nat) : Int)) = (((2 * q + 1) * (2 * q + 1) : Nat) : Int) := by
  rw [show ((2 * q + 1 : Nat) : Int) * ((2 * q + 1 : Nat) : Int) = (((2 * q + 1) * (2 * q + 1) : Nat) : Int) from (Int.natCast_mul _ _).symm, Qeh (by omega)]
 have w3 : IntKind.u64.wrap (2 * (A : Int)) = ((2 * A : Nat) : Int) := by rw [Qeh (by omega)]; omega
 have w4 : IntKind.i64.wrap (IntKind.u64.wrap ((q : Int) + 1)) = ((q + 1 : Nat) : Int) := by rw [Qeh (by omega), Qab (by omega)]; omega
 have w5 : IntKind.i64.wrap (q : Int) = (q : Int) := Qab (by omega)
 have h := hM (a := (2 * q + 1) * (2 * q + 1)) (b := N) (c := 2 * A) (d := 2 * A) (by rw [Qdr]; omega) hN (by rw [Qdr]; omega) (by rw [Qdr]; omega) (decide (x < 0))
 have hi := isRnd_near (decide (x < 0)) l2 l3
 simp only [go_sem, w1, w2, w3, h, w4, w5]
 generalize (2 * q + 1) * (2 * q + 1) = s at *
 by_cases hx0 : x < 0
 ·rw [show (if x < 0 then -(rnd A N true : Int) else (rnd A N false : Int)) = -(rnd A N true : Int) from if_pos hx0]
  rw [decide_eq_true hx0] at hi ⊢
  simp only [if_true] at hi ⊢
  have hr := rnd_of hi
  by_cases c : s * N < 2 * A * (2 * A)
  ·rw [if_pos c] at hi hr
   rw [if_pos hx0, if_pos (decide_eq_true c), if_pos hx0, hr, Qab (by omega)]
   refine ⟨?_, by omega, ?_⟩
   ·rw [Int.zero_sub]
   ·rw [Int.natAbs_neg, Int.natAbs_natCast]; exact hi
  ·rw [if_neg c] at hi hr
   rw [if_pos hx0, if_neg (by simpa using c), if_pos hx0, hr, Qab (by omega)]
   refine ⟨?_, by omega, ?_⟩
   ·rw [Int.zero_sub]
   ·rw [Int.natAbs_neg, Int.natAbs_natCast]; exact hi
 ·rw [show (if x < 0 then -(rnd A N true : Int) else (rnd A N false : Int)) = (rnd A N false : Int) from if_neg hx0]
  rw [decide_eq_false hx0] at hi ⊢
  simp only [Bool.false_eq_true, if_false] at hi ⊢
  have hr := rnd_of hi
  by_cases c : s * N <= 2 * A * (2 * A)
  ·rw [if_pos c] at hi hr
   rw [if_neg hx0, if_pos (decide_eq_true c), if_neg hx0, hr]
   exact ⟨rfl, by omega, hi⟩
  ·rw [if_neg c] at hi hr
   rw [if_neg hx0, if_neg (by simpa using c), if_neg hx0, hr]
   exact ⟨rfl, by omega, hi⟩
theorem Qi6 {x r n : Int} (hx : x.natAbs <= 33554432 * 4) (hr : 0 <= r /\ r <= 33554432 * 4) (hn : 0 < n /\ n <= 4611686018427387904) (hxn : x * x <= n) :
  Qnt [I x, I r, I n] = some [I (Qc1 x r n)] /\ (Qc1 x r n).natAbs <= 268435456 /\ IsRnd (x.natAbs * r.natAbs) n.natAbs (decide (x < 0)) (Qc1 x r n).natAbs :=
 a_cncref23_Near s_cncref23_most hx hr hn hxn

def IsUp (n k : Int) : Prop := 0 <= k /\ n <= k * k /\ (k = 0 \/ (k - 1) * (k - 1) < n)
theorem isUp_unique {n i j : Int} (hi : IsUp n i) (hj : IsUp n j) : i = j := by
 have key : ∀ {i j : Int}, IsUp n i -> IsUp n j -> ¬ i < j := by
  rintro i j ⟨h1, h2, -⟩ ⟨h4, h5, h6⟩ hlt
  rcases h6 with h6 | h6
  ·omega
  ·have := Int.mul_self_le_mul_self h1 (show i <= j - 1 by omega)
   omega
 have h1 := key hi hj
 have h2 := key hj hi
 omega
open Classical in
noncomputable def upR (n : Int) : Int := if h : ∃ j, IsUp n j then Classical.choose h else 0
theorem upR_of {n k : Int} (h : IsUp n k) : upR n = k := by
 have hx : ∃ j, IsUp n j := ⟨k, h⟩
 unfold upR
 rw [dif_pos hx]
 exact isUp_unique (Classical.choose_spec hx) h
theorem isUp_nat {n r : Nat} (h1 : r * r <= n) (h2 : n < (r + 1) * (r + 1)) : IsUp n (if r * r < n then r + 1 else r : Nat) := by
 unfold IsUp
 by_cases c : r * r < n
 ·rw [if_pos c]
  have e1 : ((r + 1 : Nat) : Int) * ((r + 1 : Nat) : Int) = (((r + 1) * (r + 1) : Nat) : Int) := (Int.natCast_mul _ _).symm
  have e2 : (((r + 1 : Nat) : Int) - 1) * (((r + 1 : Nat) : Int) - 1) = ((r * r : Nat) : Int) := by
   rw [show ((r + 1 : Nat) : Int) - 1 = (r : Int) by omega]; exact (Int.natCast_mul _ _).symm
  rw [e1, e2]
  generalize (r + 1) * (r + 1) = A at *
  generalize r * r = B at *
  exact ⟨by omega, by omega, .inr (by omega)⟩
 ·rw [if_neg c]
  have e1 : (r : Int) * (r : Int) = ((r * r : Nat) : Int) := (Int.natCast_mul _ _).symm
  rw [e1]
  refine ⟨by omega, by omega, ?_⟩
  rcases Nat.eq_zero_or_pos r with h | h
  ·left; omega
  ·right
   have e2 : ((r : Int) - 1) * ((r : Int) - 1) = (((r - 1) * (r - 1) : Nat) : Int) := by
    rw [show (r : Int) - 1 = ((r - 1 : Nat) : Int) by omega]; exact (Int.natCast_mul _ _).symm
   have := Nat.mul_self_lt_mul_self (show r - 1 < r by omega)
   rw [e2]; omega

theorem halfI (k : Nat) : ((2 ^ (k + 1) : Nat) : Int).fdiv (2 ^ min (Int.toNat 1) IntKind.i64.bits) = ((2 ^ k : Nat) : Int) := by
 have e : (2 ^ min (Int.toNat 1) IntKind.i64.bits : Int) = 2 := rfl
 rw [e, Int.fdiv_eq_ediv_of_nonneg _ (by omega), Nat.pow_succ]
 omega
theorem halfI0 : (1 : Int).fdiv (2 ^ min (Int.toNat 1) IntKind.i64.bits) = 0 := rfl
theorem st_root {n q b : Nat} {bit : Int} (hq : q + b <= 2147483648) (hb0 : 0 < b) (hb : ((b : Nat) : Int).fdiv (2 ^ min (Int.toNat 1) IntKind.i64.bits) = bit) :
  Qd8 [I n, I q, I b] = some (0, [I n, I (((if (q + b) * (q + b) <= n then q + b else q) : Nat) : Int), I bit]) := by
 have hs : (q + b) * (q + b) <= 2147483648 * 2147483648 := Nat.mul_le_mul hq hq
 have w1 : IntKind.i64.wrap ((q : Int) + (b : Int)) = ((q + b : Nat) : Int) := by rw [Qab (by omega)]; omega
 have w2 : IntKind.i64.wrap (((q + b : Nat) : Int) * ((q + b : Nat) : Int)) = (((q + b) * (q + b) : Nat) : Int) := by
  rw [show ((q + b : Nat) : Int) * ((q + b : Nat) : Int) = (((q + b) * (q + b) : Nat) : Int) from (Int.natCast_mul _ _).symm, Qab (by omega)]
 rw [st_cncref23_root_3_eq, w1, w2, hb]
 generalize (q + b) * (q + b) = s at *
 simp only [go_sem]
 rw [if_pos (by omega)]
 by_cases c : s <= n
 ·rw [if_pos (by omega), if_pos c]
 ·rw [if_neg (by omega), if_neg c]
theorem l_root {n : Nat} : ∀ (k q : Nat), q + 2 ^ (k + 1) <= 2147483648 -> q * q <= n -> n < (q + 2 ^ (k + 1)) * (q + 2 ^ (k + 1)) ->
  ∃ r : Nat, Qb1 Qd8 [I n, I q, I ((2 ^ k : Nat) : Int)] = some (1, [I r]) /\ r * r <= n /\ n < (r + 1) * (r + 1) /\ r < 2147483648
 | 0, q, hq, h1, h2 => by
  have hs := st_root (n := n) (q := q) (b := 2 ^ 0) (bit := 0) (by simp at hq ⊢; omega) (by simp) halfI0
  rw [Qb8 hs]
  have hend : ∀ r : Nat, Qb1 Qd8 [I n, I r, I 0] = some (1, [I r]) := by
   intro r
   refine Qcj ?_ (by simp)
   rw [st_cncref23_root_3_eq]
   simp only [go_sem]
   rw [if_neg (by omega)]
  simp only [Nat.zero_add, Nat.pow_one, Nat.pow_zero] at *
  by_cases h : (q + 1) * (q + 1) <= n
  ·rw [if_pos h, hend]
   exact ⟨_, rfl, h, h2, by omega⟩
  ·rw [if_neg h, hend]
   exact ⟨_, rfl, h1, by omega, by omega⟩
 | k + 1, q, hq, h1, h2 => by
  have e3 : 2 ^ (k + 1 + 1) = 2 ^ (k + 1) + 2 ^ (k + 1) := by rw [Nat.pow_succ 2 (k + 1)]; omega
  have hpos : 0 < 2 ^ (k + 1) := Nat.two_pow_pos _
  have hs := st_root (n := n) (q := q) (b := 2 ^ (k + 1)) (bit := ((2 ^ k : Nat) : Int)) (by omega) hpos (halfI k)
  rw [Qb8 hs]
  by_cases h : (q + 2 ^ (k + 1)) * (q + 2 ^ (k + 1)) <= n
  ·rw [if_pos h]
   refine l_root k _ (by omega) h ?_
   rw [show q + 2 ^ (k + 1) + 2 ^ (k + 1) = q + 2 ^ (k + 1 + 1) by omega]
   exact h2
  ·rw [if_neg h]
   exact l_root k q (by omega) h1 (by omega)
theorem Qjo {n : Nat} (hn : n < 4611686018427387904) : ∃ r : Nat, m_cncref23_root [I n] = some [I r] /\ r * r <= n /\ n < (r + 1) * (r + 1) /\ r < 2147483648 := by
 obtain ⟨r, l1, l2, l3, l4⟩ := l_root (n := n) 30 0 (by decide) (by simp) (by rw [Nat.zero_add]; exact hn)
 refine ⟨r, ?_, l2, l3, l4⟩
 have l1' : Qb1 Qd8 [I n, AC.int IntKind.i64 0, AC.int IntKind.i64 1073741824] = some (1, [I r]) := l1
 show mf_cncref23_root (Qb1 Qd8) [I n] = _
 rw [mf_cncref23_root_eq, l1']
 simp only [go_sem]
def sqD (a b : Pt) : Int := dotP (subP a b) (subP a b)
theorem sqD_nn (a b : Pt) : 0 <= sqD a b := by
 unfold sqD dotP
 have h : ∀ u : Int, 0 <= u * u := fun u => by rw [<- Int.natAbs_mul_self]; omega
 have := h (subP a b).x
 have := h (subP a b).y
 have := h (subP a b).z
 omega
theorem Qlo {x : Int} {A : Nat} (h : x.natAbs <= A) : 0 <= x * x /\ x * x <= ((A * A : Nat) : Int) := by
 have := Nat.mul_le_mul h h
 rw [<- Int.natAbs_mul_self]
 omega
theorem sqD_le {A : Nat} {a b : Pt} (ha : bd A a) (hb : bd A b) (hA : A <= 67108864) : sqD a b <= 54043195528445952 := by
 have h : ∀ x y : Int, x.natAbs <= A -> y.natAbs <= A -> (x - y) * (x - y) <= 18014398509481984 := by
  intro x y hx hy
  exact (Qlo (x := x - y) (A := 134217728) (by omega)).2
 have h1 := h _ _ ha.1 hb.1
 have h2 := h _ _ ha.2.1 hb.2.1
 have h3 := h _ _ ha.2.2 hb.2.2
 unfold sqD dotP subP
 simp only
 omega
theorem s_SquareB {a b : Pt} (ha : bd 67108864 a) (hb : bd 67108864 b) : Qj0 [I a.x, I a.y, I a.z, I b.x, I b.y, I b.z] = some [I (sqD a b)] := by
 have h : ∀ x y : Int, x.natAbs <= 67108864 -> y.natAbs <= 67108864 -> 0 <= (x - y) * (x - y) /\ (x - y) * (x - y) <= 18014398509481984 := by
  intro x y hx hy
  exact Qlo (x := x - y) (A := 134217728) (by omega)
 have h1 := h _ _ ha.1 hb.1
 have h2 := h _ _ ha.2.1 hb.2.1
 have h3 := h _ _ ha.2.2 hb.2.2
 obtain ⟨a1, a2, a3⟩ := ha
 obtain ⟨b1, b2, b3⟩ := hb
 unfold Qj0
 rw [mf_cncref23_Square_eq, Qab (x := a.x - b.x) (by omega), Qab (x := a.y - b.y) (by omega), Qab (x := a.z - b.z) (by omega)]
 unfold sqD dotP subP
 simp only
 generalize (a.x - b.x) * (a.x - b.x) = u at *
 generalize (a.y - b.y) * (a.y - b.y) = v at *
 generalize (a.z - b.z) * (a.z - b.z) = w at *
 rw [Qab (x := u) (by omega), Qab (x := 0 + u) (by omega), Qab (x := v) (by omega), Qab (x := 0 + u + v) (by omega), Qab (x := w) (by omega), Qab (by omega), Int.zero_add]
noncomputable def lenP (a b : Pt) : Int := upR (sqD a b)
theorem a_cncref23_Length {MR MS : List AC -> Option (List AC)} {a b : Pt} {d : Nat} (hS : MS [I a.x, I a.y, I a.z, I b.x, I b.y, I b.z] = some [I d]) (hd : d < 4611686018427387904)
  (hR : ∃ r : Nat, MR [I d] = some [I r] /\ r * r <= d /\ d < (r + 1) * (r + 1) /\ r < 2147483648) : Qmr MR MS [I a.x, I a.y, I a.z, I b.x, I b.y, I b.z] = some [I (upR d)] /\ IsUp d (upR d) := by
 obtain ⟨r, h1, h2, h3, h4⟩ := hR
 have hu := isUp_nat h2 h3
 rw [upR_of hu]
 refine ⟨?_, hu⟩
 rw [mf_cncref23_Length_eq]
 have hrr : r * r <= 2147483648 * 2147483648 := Nat.mul_le_mul (by omega) (by omega)
 have e1 : (r : Int) * (r : Int) = ((r * r : Nat) : Int) := (Int.natCast_mul _ _).symm
 simp only [go_sem, hS, h1, e1]
 rw [Qab (x := ((r * r : Nat) : Int)) (by omega), Qab (by omega)]
 by_cases c : r * r < d
 ·rw [if_pos (by omega), if_pos c]; rfl
 ·rw [if_neg (by omega), if_neg c]
theorem Qj8 {a b : Pt} (ha : bd 67108864 a) (hb : bd 67108864 b) : m_cncref23_Length [I a.x, I a.y, I a.z, I b.x, I b.y, I b.z] = some [I (lenP a b)] /\ IsUp (sqD a b) (lenP a b) := by
 have h0 := sqD_nn a b
 have h1 := sqD_le ha hb (Nat.le_refl _)
 obtain ⟨d, hd⟩ := Int.eq_ofNat_of_zero_le h0
 have hs := s_SquareB ha hb
 unfold lenP
 rw [hd] at hs
 rw [hd]
 exact a_cncref23_Length hs (by omega) (Qjo (by omega))
theorem len_bd {a b : Pt} (ha : bd 67108864 a) (hb : bd 67108864 b) : 0 <= lenP a b /\ lenP a b <= 268435456 := by
 obtain ⟨-, h1, h2, h3⟩ := Qj8 ha hb
 have h4 := sqD_le ha hb (Nat.le_refl _)
 refine ⟨h1, ?_⟩
 rcases h3 with h3 | h3
 ·omega
 ·by_cases c : lenP a b <= 268435456
  ·exact c
  ·have := Int.mul_self_le_mul_self (a := 268435456) (b := lenP a b - 1) (by omega) (by omega)
   omega
def IsMid (n k : Int) : Prop := 0 <= k /\ n <= k * (k + 1) /\ (k = 0 \/ (k - 1) * k < n)
end Go.Bm
