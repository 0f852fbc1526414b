/- laid together -/
import Derived.Test.YtdllaekpkcanbaaPrM
import Derived.Test.YtdllaekpkcanbaaPrCh
import Derived.Test.YtdllaekpkcanbaaPrI3
import Derived.Test.YtdllaekpkcanbaaMx3
set_option linter.unusedVariables false
set_option linter.unusedSimpArgs false
/- which points are near an arc: the reference's answer -/
set_option maxRecDepth 100000
namespace Go.Bm
open Classical

theorem a_ref_near {M : List AC -> Option (List AC)} (hM : ∀ {a b c d : Int}, i64 a -> i64 b -> i64 c -> i64 d -> M [I a, I b, I c, I d] = some [I (cmpI (a * b) (c * d))])
  {p q e : Int} (hp : 0 <= p /\ p <= 4000000000000000000) (hq : 0 <= q /\ q <= 4000000000000000000) (he : 0 <= e /\ e <= 32000) :
  ∃ v, mf_cncref41_near M [I p, I q, I e] = some [B v] /\ (v = true ↔ aboveP p q e) := by
 rw [mf_cncref41_near_eq]
 have h1 := sq_nat e (b := 32000) (by omega)
 have e3 : 4 * e * e = 4 * (e * e) := by rw [Int.mul_assoc]
 simp only [go_sem]
 unfold aboveP
 rw [wrap_id (x := 4 * e) (by omega), e3]
 generalize e * e = s at *
 rw [wrap_id (x := p - q) (by omega), wrap_id (x := s) (by omega), wrap_id (x := p - q - s) (by omega), wrap_id (x := 4 * s) (by omega)]
 by_cases c1 : p - q - s <= 0
 ·rw [if_pos c1]; exact ⟨_, rfl, iff_of_true rfl (.inl c1)⟩
 ·rw [if_neg c1, hM (by unfold i64; omega) (by unfold i64; omega) (by unfold i64; omega) (by unfold i64; omega)]
  refine ⟨_, rfl, ?_⟩
  simp only [go_sem, decide_eq_true_eq, cmpI_le]
  exact ⟨fun h => .inr h, fun h => h.resolve_left c1⟩
theorem s_ref_near {p q e : Int} (hp : 0 <= p /\ p <= 4000000000000000000) (hq : 0 <= q /\ q <= 4000000000000000000) (he : 0 <= e /\ e <= 32000) :
  ∃ v, m_cncref41_near [I p, I q, I e] = some [B v] /\ (v = true ↔ aboveP p q e) := a_ref_near s_cncref01_Cmp hp hq he
def DotM (M : List AC -> Option (List AC)) : Prop := ∀ u w r h x y s g : Int, small9 u -> small9 w -> small9 x -> small9 y -> M [I u, I w, I r, I h, I x, I y, I s, I g] = some [I (dt2 u w x y)]
def CrsM (M : List AC -> Option (List AC)) : Prop := ∀ u w r h x y s g : Int, small9 u -> small9 w -> small9 x -> small9 y -> M [I u, I w, I r, I h, I x, I y, I s, I g] = some [I (crs u w x y)]
theorem a_ref_ray {MC MD MX : List AC -> Option (List AC)} (hM : ∀ {a b c d : Int}, i64 a -> i64 b -> i64 c -> i64 d -> MC [I a, I b, I c, I d] = some [I (cmpI (a * b) (c * d))])
  (hD : DotM MD) (hX : CrsM MX)
  {u w r h x y s g e : Int} (hu : small9 u) (hw : small9 w) (hx : small9 x) (hy : small9 y) (he : 0 <= e /\ e <= 32000) :
  ∃ v, mf_cncref41_ray MC MD MX [I u, I w, I r, I h, I x, I y, I s, I g, I e] = some [B v] /\ (v = true ↔ rayP u w x y e) := by
 rw [mf_cncref41_ray_eq]
 simp only [go_sem, hD u w r h x y s g hu hw hx hy, hX u w r h x y s g hu hw hx hy, hD u w r h u w r h hu hw hu hw]
 have h1 := sq_nat e (b := 32000) (by omega)
 have h2 := crs_i64 hu hw hx hy
 have h3 := crs_i64 hu hw hu hw
 have e1 : sq2 u w = dt2 u w u w := rfl
 unfold rayP
 rw [e1]
 generalize e * e = s at *
 rw [wrap_id (x := s) (by omega)]
 by_cases c1 : dt2 u w x y >= 0
 ·rw [if_pos c1, hM (by unfold i64; omega) (by unfold i64; omega) (by unfold i64; omega) (by unfold i64; omega)]
  refine ⟨_, rfl, ?_⟩
  simp only [go_sem, decide_eq_true_eq, cmpI_le]
  exact ⟨fun h => ⟨c1, h⟩, fun h => h.2⟩
 ·rw [if_neg c1]; exact ⟨_, rfl, iff_of_false (by simp) fun h => c1 h.1⟩
theorem s_ref_ray {u w r h x y s g e : Int} (hu : small9 u) (hw : small9 w) (hx : small9 x) (hy : small9 y) (he : 0 <= e /\ e <= 32000) :
  ∃ v, m_cncref41_ray [I u, I w, I r, I h, I x, I y, I s, I g, I e] = some [B v] /\ (v = true ↔ rayP u w x y e) :=
 a_ref_ray s_cncref01_Cmp (fun _ _ _ _ _ _ _ _ h1 h2 h3 h4 => s_cncref23_Dot h1 h2 h3 h4) (fun _ _ _ _ _ _ _ _ h1 h2 h3 h4 => s_cncref23_Cross h1 h2 h3 h4) hu hw hx hy he
def backP (u w x y s t : Int) : Prop := (crs u w s t = 0 /\ dt2 u w s t < 0) \/ (crs x y s t = 0 /\ dt2 x y s t < 0)
theorem a_ref_back {MD MX : List AC -> Option (List AC)} (hD : DotM MD) (hX : CrsM MX) {u w r h x y r2 h2 s t r3 h3 : Int} (hu : small9 u) (hw : small9 w) (hx : small9 x) (hy : small9 y) (hs : small9 s) (ht : small9 t) :
  ∃ v, mf_cncref41_back MD MX [I u, I w, I r, I h, I x, I y, I r2, I h2, I s, I t, I r3, I h3] = some [B v] /\ (v = true ↔ backP u w x y s t) := by
 rw [mf_cncref41_back_eq]
 simp only [go_sem, hX u w r h s t r3 h3 hu hw hs ht, hX x y r2 h2 s t r3 h3 hx hy hs ht, hD u w r h s t r3 h3 hu hw hs ht, hD x y r2 h2 s t r3 h3 hx hy hs ht]
 unfold backP
 by_cases c1 : crs u w s t = 0
 ·rw [if_pos c1]
  by_cases c2 : dt2 u w s t < 0
  ·rw [if_pos c2]; exact ⟨_, rfl, iff_of_true rfl (.inl ⟨c1, c2⟩)⟩
  ·rw [if_neg c2]
   by_cases c3 : crs x y s t = 0
   ·rw [if_pos c3]; exact ⟨_, rfl, by simp [c2, c3]⟩
   ·rw [if_neg c3]; exact ⟨_, rfl, by simp [c2, c3]⟩
 ·rw [if_neg c1]
  by_cases c3 : crs x y s t = 0
  ·rw [if_pos c3]; exact ⟨_, rfl, by simp [c1, c3]⟩
  ·rw [if_neg c3]; exact ⟨_, rfl, by simp [c1, c3]⟩
def oppP (u w x y s t dir : Int) : Prop := crs u w x y = 0 /\ crs u w s t * dir < 0
theorem a_ref_opp {MX : List AC -> Option (List AC)} (hX : CrsM MX) {u w r h x y r2 h2 s t r3 h3 dir : Int} (hu : small9 u) (hw : small9 w) (hx : small9 x) (hy : small9 y) (hs : small9 s) (ht : small9 t) (hd : dir = 1 \/ dir = -1) :
  ∃ v, mf_cncref41_opposite MX [I u, I w, I r, I h, I x, I y, I r2, I h2, I s, I t, I r3, I h3, I dir] = some [B v] /\ (v = true ↔ oppP u w x y s t dir) := by
 rw [mf_cncref41_opposite_eq]
 have h2' := crs_i64 hu hw hs ht
 simp only [go_sem, hX u w r h x y r2 h2 hu hw hx hy, hX u w r h s t r3 h3 hu hw hs ht]
 have w1 : IntKind.i64.wrap (crs u w s t * dir) = crs u w s t * dir := by rcases hd with rfl | rfl <;> exact wrap_id (by omega)
 rw [w1]
 unfold oppP
 by_cases c1 : crs u w x y = 0
 ·rw [if_pos c1]; exact ⟨_, rfl, by simp [c1]⟩
 ·rw [if_neg c1]; exact ⟨_, rfl, by simp [c1]⟩
theorem crs_swap (u w x y : Int) : crs x y u w = -crs u w x y := by unfold crs; grind
theorem id_dot (u w x y s t : Int) : dt2 u w s t * crs u w x y - crs u w s t * dt2 u w x y = sq2 u w * crs s t x y := by unfold dt2 crs sq2; grind
theorem swept_passed {u w x y s t dir : Int} (hd : dir = 1 \/ dir = -1) (hv : crs u w x y ≠ 0 \/ dt2 u w x y < 0) :
  (if crs u w x y * dir > 0 then crs u w s t * dir >= 0 /\ crs s t x y * dir >= 0 /\ ¬ backP u w x y s t else ¬ (crs x y s t * dir > 0 /\ crs s t u w * dir > 0) /\ ¬ oppP u w x y s t dir) ↔ passedP u w x y s t dir := by
 unfold passedP backP oppP
 by_cases c1 : crs u w x y * dir > 0
 ·rw [if_pos c1, if_pos c1]
  refine ⟨fun h => ⟨h.1, h.2.1⟩, fun h => ⟨h.1, h.2, ?_⟩⟩
  have i1 := id_dot u w x y s t
  have i2 := id_dot x y u w s t
  have n1 : 0 <= sq2 u w := by have := sq_nn u; have := sq_nn w; unfold sq2; omega
  have n2 : 0 <= sq2 x y := by have := sq_nn x; have := sq_nn y; unfold sq2; omega
  rw [crs_swap u w x y, crs_swap u w s t] at i2
  have e0 : crs s t x y = -crs x y s t := crs_swap x y s t
  generalize crs u w x y = A at *
  generalize crs u w s t = C at *
  generalize crs s t x y = D at *
  generalize crs x y s t = E at *
  generalize sq2 u w = P at *
  generalize sq2 x y = Q at *
  generalize dt2 u w s t = F at *
  generalize dt2 x y s t = G at *
  obtain ⟨h1, h2⟩ := h
  rintro (⟨k1, k2⟩ | ⟨k1, k2⟩)
  ·rw [k1, Int.zero_mul, Int.sub_zero] at i1
   have p1 : 0 <= P * (D * dir) := Int.mul_nonneg n1 h2
   have p2 : F * (A * dir) < 0 := Int.mul_neg_of_neg_of_pos k2 c1
   rw [<- Int.mul_assoc, i1, Int.mul_assoc] at p2
   omega
  ·rw [k1, Int.zero_mul, Int.sub_zero] at i2
   have p1 : 0 <= Q * (C * dir) := Int.mul_nonneg n2 h1
   have p2 : G * (A * dir) < 0 := Int.mul_neg_of_neg_of_pos k2 c1
   have e2 : G * (A * dir) = -(G * -A * dir) := by grind
   rw [e2, i2] at p2
   have e3 : Q * -C * dir = -(Q * (C * dir)) := by grind
   rw [e3] at p2
   omega
 ·rw [if_neg c1, if_neg c1]
  have e1 : crs s t u w = -crs u w s t := crs_swap u w s t
  by_cases c2 : crs u w x y = 0
  ·have hdt := hv.resolve_left (fun h => h c2)
   rw [if_pos ⟨by rw [c2]; simp, hdt⟩, e1]
   rcases hd with rfl | rfl <;> constructor <;> intro h <;> omega
  ·have c3 : crs u w x y * dir ≠ 0 := by rcases hd with rfl | rfl <;> omega
   rw [if_neg (fun h => c3 h.1)]
   constructor
   ·intro h
    by_cases c4 : crs x y s t * dir <= 0
    ·exact .inl c4
    ·right
     by_cases c5 : crs s t u w * dir <= 0
     ·exact c5
     ·exact absurd ⟨by omega, by omega⟩ h.1
   ·intro h
    exact ⟨fun k => by omega, fun k => c2 k.1⟩
theorem a_ref_swept {MO MB MX : List AC -> Option (List AC)} (hX : CrsM MX) {u w r h x y r2 h2 s t r3 h3 dir : Int} (hu : small9 u) (hw : small9 w) (hx : small9 x) (hy : small9 y) (hs : small9 s) (ht : small9 t) (hd : dir = 1 \/ dir = -1) (hv : crs u w x y ≠ 0 \/ dt2 u w x y < 0)
  (hB : ∃ v, MB [I u, I w, I r, I h, I x, I y, I r2, I h2, I s, I t, I r3, I h3] = some [B v] /\ (v = true ↔ backP u w x y s t)) (hO : ∃ v, MO [I u, I w, I r, I h, I x, I y, I r2, I h2, I s, I t, I r3, I h3, I dir] = some [B v] /\ (v = true ↔ oppP u w x y s t dir)) :
  ∃ v, mf_cncref41_swept MO MB MX [I u, I w, I r, I h, I x, I y, I r2, I h2, I s, I t, I r3, I h3, I dir] = some [B v] /\ (v = true ↔ passedP u w x y s t dir) := by
 obtain ⟨vb, b1, b2⟩ := hB
 obtain ⟨vo, o1, o2⟩ := hO
 rw [<- swept_passed hd hv, <- b2, <- o2, mf_cncref41_swept_eq]
 clear b2 o2
 have k1 := crs_i64 hu hw hx hy
 have k2 := crs_i64 hu hw hs ht
 have k3 := crs_i64 hs ht hx hy
 have k4 := crs_i64 hx hy hs ht
 have k5 := crs_i64 hs ht hu hw
 simp only [go_sem, hX u w r h x y r2 h2 hu hw hx hy, hX u w r h s t r3 h3 hu hw hs ht, hX s t r3 h3 x y r2 h2 hs ht hx hy, hX x y r2 h2 s t r3 h3 hx hy hs ht, hX s t r3 h3 u w r h hs ht hu hw, b1, o1]
 have w1 : ∀ c : Int, c.natAbs <= 2000000000000000000 -> IntKind.i64.wrap (c * dir) = c * dir := fun c hc => by
  rcases hd with rfl | rfl <;> exact wrap_id (by omega)
 rw [w1 _ k1.1, w1 _ k2.1, w1 _ k3.1, w1 _ k4.1, w1 _ k5.1]
 generalize crs u w x y * dir = c1
 generalize crs u w s t * dir = c2
 generalize crs s t x y * dir = c3
 generalize crs x y s t * dir = c4
 generalize crs s t u w * dir = c5
 by_cases d1 : c1 > 0
 ·rw [if_pos d1, if_pos d1]
  by_cases d2 : c2 >= 0
  ·rw [if_pos d2]
   by_cases d3 : c3 >= 0
   ·rw [if_pos d3]; exact ⟨_, rfl, by cases vb <;> simp [d2, d3]⟩
   ·rw [if_neg d3]; exact ⟨_, rfl, by simp [d3]⟩
  ·rw [if_neg d2]; exact ⟨_, rfl, by simp [d2]⟩
 ·rw [if_neg d1, if_neg d1]
  by_cases d2 : c4 > 0
  ·rw [if_pos d2]
   by_cases d3 : c5 > 0
   ·rw [if_neg (by simpa using d3)]; exact ⟨_, rfl, by simp [d2, d3]⟩
   ·rw [if_pos (by simpa using d3)]; exact ⟨_, rfl, by cases vo <;> simp [d3]⟩
  ·rw [if_neg d2]; exact ⟨_, rfl, by cases vo <;> simp [d2]⟩
theorem s_ref_swept {u w r h x y r2 h2 s t r3 h3 dir : Int} (hu : small9 u) (hw : small9 w) (hx : small9 x) (hy : small9 y) (hs : small9 s) (ht : small9 t) (hd : dir = 1 \/ dir = -1) (hv : crs u w x y ≠ 0 \/ dt2 u w x y < 0) :
  ∃ v, m_cncref41_swept [I u, I w, I r, I h, I x, I y, I r2, I h2, I s, I t, I r3, I h3, I dir] = some [B v] /\ (v = true ↔ passedP u w x y s t dir) := by
 have hD : DotM m_cncref23_Dot := fun _ _ _ _ _ _ _ _ h1 h2 h3 h4 => s_cncref23_Dot h1 h2 h3 h4
 have hX : CrsM m_cncref23_Cross := fun _ _ _ _ _ _ _ _ h1 h2 h3 h4 => s_cncref23_Cross h1 h2 h3 h4
 exact a_ref_swept hX hu hw hx hy hs ht hd hv (a_ref_back hD hX hu hw hx hy hs ht) (a_ref_opp hX hu hw hx hy hs ht hd)
theorem a_ref_OnArc {MSw MR MN MD MPl MF ME MV : List AC -> Option (List AC)} {it : Itm} (hV : ∃ v, MV (itmR it) = some [B v] /\ (v = true ↔ validI it)) (hE : validI it -> it.kind = 3 -> ME (itmR it) = some (spkR (endS it it.fr) ++ spkR (endS it it.to)))
  (hF : ∀ {p : Pt}, bd 100000000 p -> MF [I p.x, I p.y, I p.z] = some (ptR (fine p))) (hL : ∀ {p : Pt} {pl : Int}, isPl pl -> MPl [I p.x, I p.y, I p.z, I pl] = some [I (plU pl p), I (plW pl p), I (plH pl p)]) (hD : DotM MD)
  (hN : ∀ {p q e : Int}, (0 <= p /\ p <= 4000000000000000000) -> (0 <= q /\ q <= 4000000000000000000) -> (0 <= e /\ e <= 32000) -> ∃ v, MN [I p, I q, I e] = some [B v] /\ (v = true ↔ aboveP p q e))
  (hR : ∀ {u w r h x y s g e : Int}, small9 u -> small9 w -> small9 x -> small9 y -> (0 <= e /\ e <= 32000) -> ∃ v, MR [I u, I w, I r, I h, I x, I y, I s, I g, I e] = some [B v] /\ (v = true ↔ rayP u w x y e))
  (hS : ∀ {u w r h x y r2 h2 s t r3 h3 dir : Int}, small9 u -> small9 w -> small9 x -> small9 y -> small9 s -> small9 t -> (dir = 1 \/ dir = -1) -> (crs u w x y ≠ 0 \/ dt2 u w x y < 0) -> ∃ v, MSw [I u, I w, I r, I h, I x, I y, I r2, I h2, I s, I t, I r3, I h3, I dir] = some [B v] /\ (v = true ↔ passedP u w x y s t dir))
  (h3 : it.kind = 3) {q : Pt} (hq : bd 100000000 q) {e : Int} (he : 0 <= e /\ e <= 32000) :
  ∃ v, mf_cncref41_OnArc MSw MR MN MD MPl MF ME MV (itmR it ++ [I q.x, I q.y, I q.z, I e]) = some [B v] /\ (v = true ↔ validI it /\ onArcP it q e) := by
 obtain ⟨v0, e0, h0⟩ := hV
 simp only [List.cons_append, List.nil_append]
 rw [mf_cncref41_OnArc_eq]
 by_cases c0 : v0 = true
 case neg =>
  simp only [itmR] at e0
  simp only [go_sem, e0]
  rw [if_neg (by simpa using h3), if_pos c0]; exact ⟨_, rfl, iff_of_false (by simp) fun h => c0 (h0.2 h.1)⟩
 have hv := h0.1 c0
 have hE := hE hv h3
 simp only [itmR, spkR, endS, List.cons_append, List.nil_append] at e0 hE
 obtain ⟨-, v1, v2, v3⟩ := id hv
 obtain ⟨v4, v5, v6, -, -, -, -, v7⟩ := v3 h3
 have f3 := fine_bd v6
 obtain ⟨g1, g2⟩ := dU_bd v6 v1
 obtain ⟨g4, g5⟩ := dU_bd v6 v2
 obtain ⟨-, -, g3⟩ := pl_bd (pl := it.plane) v1
 obtain ⟨-, -, g6⟩ := pl_bd (pl := it.plane) v2
 obtain ⟨g7, g8, -⟩ := pl_two (pl := it.plane) f3
 obtain ⟨g10, g11, g12⟩ := pl_two (pl := it.plane) hq
 have L1 := @hL (fine it.ce) _ v4
 have L2 := @hL q _ v4
 simp only [go_sem, e0, hE, hF (bd_mono v6 (show 1048576 <= 100000000 by decide)), L1, L2]
 rw [if_neg (by simpa using h3), if_neg (by simpa using c0)]
 have hcr : it.full = false -> crs (dU it it.fr * 16) (dW it it.fr * 16) (dU it it.to * 16) (dW it it.to * 16) ≠ 0 \/ dt2 (dU it it.fr * 16) (dW it it.fr * 16) (dU it it.to * 16) (dW it it.to * 16) < 0 := by
  intro hf
  have e1 : crs (dU it it.fr * 16) (dW it it.fr * 16) (dU it it.to * 16) (dW it it.to * 16) = 256 * cAB it := by unfold cAB crs; grind
  have e2 : dt2 (dU it it.fr * 16) (dW it it.fr * 16) (dU it it.to * 16) (dW it it.to * 16) = 256 * dAB it := by unfold dAB dt2; grind
  rw [e1, e2]
  rcases v7 hf with h | h
  ·exact .inl (by omega)
  ·exact .inr (by omega)
 have pe1 : pU it (fine it.fr) = dU it it.fr * 16 := by unfold pU dU; rw [(pl_fine _ _).1, (pl_fine _ _).1]; omega
 have pe2 : pW it (fine it.fr) = dW it it.fr * 16 := by unfold pW dW; rw [(pl_fine _ _).2.1, (pl_fine _ _).2.1]; omega
 have pe3 : pU it (fine it.to) = dU it it.to * 16 := by unfold pU dU; rw [(pl_fine _ _).1, (pl_fine _ _).1]; omega
 have pe4 : pW it (fine it.to) = dW it it.to * 16 := by unfold pW dW; rw [(pl_fine _ _).2.1, (pl_fine _ _).2.1]; omega
 have pe5 : plH it.plane (fine it.fr) = plH it.plane it.fr * 16 := (pl_fine _ _).2.2
 have pe6 : plH it.plane (fine it.to) = plH it.plane it.to * 16 := (pl_fine _ _).2.2
 unfold onArcP
 rw [pe1, pe2, pe3, pe4, pe5, pe6]
 unfold pU pW
 clear L1 L2 pe1 pe2 pe3 pe4 pe5 pe6 e0 hE v1 v2 v3 v6 v7 f3
 generalize midR (sq2 (dU it it.fr * 16) (dW it it.fr * 16)) = ra at *
 generalize midR (sq2 (dU it it.to * 16) (dW it it.to * 16)) = rb at *
 generalize hau : dU it it.fr * 16 = au at *
 generalize haw : dW it it.fr * 16 = aw at *
 generalize hbu : dU it it.to * 16 = bu at *
 generalize hbw : dW it it.to * 16 = bw at *
 generalize haa : plH it.plane it.fr * 16 = a3 at *
 generalize hbb : plH it.plane it.to * 16 = b3 at *
 have k1 : small9 au /\ au.natAbs <= 200000000 := by unfold small9; omega
 have k2 : small9 aw /\ aw.natAbs <= 200000000 := by unfold small9; omega
 have k3 : small9 bu /\ bu.natAbs <= 200000000 := by unfold small9; omega
 have k4 : small9 bw /\ bw.natAbs <= 200000000 := by unfold small9; omega
 have k7 : a3.natAbs <= 100000000 := by omega
 have k8 : b3.natAbs <= 100000000 := by omega
 clear hau haw hbu hbw haa hbb
 generalize plU it.plane (fine it.ce) = m1 at *
 generalize plW it.plane (fine it.ce) = m2 at *
 generalize plU it.plane q = q1 at *
 generalize plW it.plane q = q2 at *
 generalize plH it.plane q = q3 at *
 rw [wrap_id (x := q1 - m1) (by omega), wrap_id (x := q2 - m2) (by omega)]
 have hw1 : IntKind.i64.wrap (min a3 b3 - e) = min a3 b3 - e := wrap_id (by omega)
 have hw2 : IntKind.i64.wrap (max a3 b3 + e) = max a3 b3 + e := wrap_id (by omega)
 have k5 : small9 (q1 - m1) /\ (q1 - m1).natAbs <= 200000000 := ⟨nat_sided (by omega), nat_sided (by omega)⟩
 have k6 : small9 (q2 - m2) /\ (q2 - m2).natAbs <= 200000000 := ⟨nat_sided (by omega), nat_sided (by omega)⟩
 generalize q1 - m1 = qu at *
 generalize q2 - m2 = qw at *
 have s1 := sq2_bd k1.2 k2.2
 have s2 := sq2_bd k3.2 k4.2
 have s3 := sq2_bd k5.2 k6.2
 have D1 : MD [I au, I aw, I ra, I a3, I au, I aw, I ra, I a3] = some [I (sq2 au aw)] := hD _ _ _ _ _ _ _ _ k1.1 k2.1 k1.1 k2.1
 have D2 : MD [I bu, I bw, I rb, I b3, I bu, I bw, I rb, I b3] = some [I (sq2 bu bw)] := hD _ _ _ _ _ _ _ _ k3.1 k4.1 k3.1 k4.1
 have D3 : MD [I qu, I qw, I 0, I 0, I qu, I qw, I 0, I 0] = some [I (sq2 qu qw)] := hD _ _ _ _ _ _ _ _ k5.1 k6.1 k5.1 k6.1
 simp only [D1, D2, D3, go_sem, mn_min, mx_max, hw1, hw2]
 clear hw1 hw2 D1 D2 D3 hD
 obtain ⟨p2, i2, j2⟩ := @hR au aw ra a3 qu qw 0 0 e k1.1 k2.1 k5.1 k6.1 he
 obtain ⟨p3, i3, j3⟩ := @hR bu bw rb b3 qu qw 0 0 e k3.1 k4.1 k5.1 k6.1 he
 have hsw : it.full = false -> ∃ v, MSw [I au, I aw, I ra, I a3, I bu, I bw, I rb, I b3, I qu, I qw, I 0, I 0, I it.dir] = some [B v] /\ (v = true ↔ passedP au aw bu bw qu qw it.dir) := fun hf => hS k1.1 k2.1 k3.1 k4.1 k5.1 k6.1 v5 (hcr hf)
 rw [<- j2, <- j3]
 generalize sq2 au aw = A at *
 generalize sq2 bu bw = C at *
 generalize sq2 qu qw = Q at *
 clear k1 k2 k3 k4 k5 k6 j2 j3 hcr
 obtain ⟨p4, i4, j4⟩ := @hN (min A C) Q e (by omega) (by omega) he
 obtain ⟨p5, i5, j5⟩ := @hN Q (max A C) e (by omega) (by omega) he
 rw [<- j4, <- j5]
 simp only [i2, i3, i4, i5, go_sem]
 generalize min a3 b3 - e = lo
 generalize max a3 b3 + e = hi
 generalize q3 = h
 by_cases c5 : p5 = true
 case neg => rw [if_pos c5]; exact ⟨_, rfl, iff_of_false (by simp) fun h => c5 h.2.2.1⟩
 rw [if_neg (by simpa using c5)]
 by_cases c4 : p4 = true
 case neg => rw [if_pos c4]; exact ⟨_, rfl, iff_of_false (by simp) fun h => c4 h.2.1⟩
 rw [if_neg (by simpa using c4)]
 by_cases c6 : h < lo
 ·rw [if_pos c6]; exact ⟨_, rfl, iff_of_false (by simp) fun h => by have := h.2.2.2.1; omega⟩
 rw [if_neg c6]
 by_cases c7 : h > hi
 ·rw [if_pos c7]; exact ⟨_, rfl, iff_of_false (by simp) fun h => by have := h.2.2.2.2.1; omega⟩
 rw [if_neg c7]
 have hb : lo <= h /\ h <= hi := by omega
 by_cases c8 : it.full = true
 ·rw [if_pos c8]; exact ⟨_, rfl, iff_of_true rfl ⟨hv, c4, c5, hb.1, hb.2, .inl c8⟩⟩
 rw [if_neg c8]
 by_cases c10 : p2 = true
 ·rw [if_pos c10]; exact ⟨_, rfl, iff_of_true rfl ⟨hv, c4, c5, hb.1, hb.2, .inr (.inr (.inl c10))⟩⟩
 rw [if_neg c10]
 by_cases c11 : p3 = true
 ·rw [if_pos c11]; exact ⟨_, rfl, iff_of_true rfl ⟨hv, c4, c5, hb.1, hb.2, .inr (.inr (.inr c11))⟩⟩
 rw [if_neg c11]
 obtain ⟨p1, i1, j1⟩ := hsw (by simpa using c8)
 simp only [i1, go_sem]
 refine ⟨p1, rfl, fun h => ⟨hv, c4, c5, hb.1, hb.2, .inr (.inl (j1.1 h))⟩, fun h => ?_⟩
 rcases h.2.2.2.2.2 with h | h | h | h
 ·exact absurd h c8
 ·exact j1.2 h
 ·exact absurd h c10
 ·exact absurd h c11
theorem s_ref_OnArc {it : Itm} (h3 : it.kind = 3) {q : Pt} (hq : bd 100000000 q) {e : Int} (he : 0 <= e /\ e <= 32000) :
  ∃ v, m_cncref41_OnArc (itmR it ++ [I q.x, I q.y, I q.z, I e]) = some [B v] /\ (v = true ↔ validI it /\ onArcP it q e) :=
 a_ref_OnArc (s_cncref23_Valid it) s_cncref23_Ends s_Fine s_Plane (fun _ _ _ _ _ _ _ _ h1 h2 h3 h4 => s_cncref23_Dot h1 h2 h3 h4) s_ref_near s_ref_ray s_ref_swept h3 hq he
theorem OnArc_same {it : Itm} (h3 : it.kind = 3) {q : Pt} (hq : bd 100000000 q) {e : Int} (he : 0 <= e /\ e <= 32000) :
  m_contour_OnArc (itmR it ++ [I q.x, I q.y, I q.z, I e]) = some [B (decide (validI it /\ onArcP it q e))] /\ m_cncref41_OnArc (itmR it ++ [I q.x, I q.y, I q.z, I e]) = some [B (decide (validI it /\ onArcP it q e))] := by
 obtain ⟨v, a1, a2⟩ := s_contour_OnArc h3 hq he
 obtain ⟨w, b1, b2⟩ := s_ref_OnArc h3 hq he
 have e1 : v = decide (validI it /\ onArcP it q e) := by rw [Bool.eq_iff_iff, a2, decide_eq_true_iff]
 have e2 : w = decide (validI it /\ onArcP it q e) := by rw [Bool.eq_iff_iff, b2, decide_eq_true_iff]
 rw [a1, b1, e1, e2]
 exact ⟨rfl, rfl⟩
end Go.Bm
/- the middle of a piece of an arc: how far rounding moves it, and that it lies between the ends -/
set_option maxRecDepth 100000
namespace Go.Bm
open Classical

theorem le_of_sq {a b : Int} (hb : 0 <= b) (h : a * a <= b * b) : a <= b := by
 by_cases c : a <= b
 ·exact c
 ·have := Int.mul_self_lt_mul_self hb (show b < a by omega)
  omega
theorem lt_of_sq {a b : Int} (hb : 0 <= b) (h : a * a < b * b) : a < b := by
 by_cases c : a < b
 ·exact c
 ·have := Int.mul_self_le_mul_self hb (show b <= a by omega)
  omega
theorem near_facts {u R n : Int} (hu : u.natAbs <= 100000000) (hR : 0 <= R /\ R <= 50000000) (hn : 0 < n /\ n <= 20000000000000000) (hq : u * u <= n) :
  ∃ j : Nat, nearR u R n = (if u < 0 then -(j : Int) else (j : Int)) /\ (j = 0 \/ (2 * (j : Int) - 1) * (2 * (j : Int) - 1) * n <= (2 * (u.natAbs * R)) * (2 * (u.natAbs * R))) /\ (2 * (u.natAbs * R)) * (2 * (u.natAbs * R)) <= (2 * (j : Int) + 1) * (2 * (j : Int) + 1) * n /\ (j : Int) <= R := by
 obtain ⟨-, -, g3⟩ := s_cncref23_Near (x := u) (r := R) (n := n) (Nat.le_trans hu (by decide)) (by omega) (by omega) hq
 have hl : (nearR u R n).natAbs <= R.natAbs := by
  refine isRnd_le (by omega) ?_ g3
  have : ((u.natAbs * u.natAbs : Nat) : Int) = u * u := Int.natAbs_mul_self
  omega
 obtain ⟨r, rfl⟩ := Int.eq_ofNat_of_zero_le hR.1
 obtain ⟨m, rfl⟩ := Int.eq_ofNat_of_zero_le (show 0 <= n by omega)
 refine ⟨(nearR u r m).natAbs, ?_, ?_, ?_, by omega⟩
 ·unfold nearR
  by_cases c : u < 0
  ·rw [if_pos c, if_pos c]; omega
  ·rw [if_neg c, if_neg c]; omega
 all_goals
  generalize (nearR u r m).natAbs = j at *
  simp only [Int.natAbs_natCast] at g3
  generalize u.natAbs = x at *
  obtain ⟨p1, p2⟩ := g3
 ·rcases p1 with p1 | p1
  ·exact .inl p1
  ·by_cases c0 : j = 0
   ·exact .inl c0
   right
   have p3 : (2 * j - 1) * (2 * j - 1) * m <= 4 * (x * r * (x * r)) := by
    split at p1 <;> omega
   have e1 : ((2 * j - 1 : Nat) : Int) = 2 * (j : Int) - 1 := by omega
   have p4 : (((2 * j - 1) * (2 * j - 1) * m : Nat) : Int) <= ((4 * (x * r * (x * r)) : Nat) : Int) := by omega
   rw [Int.natCast_mul, Int.natCast_mul, e1] at p4
   refine Int.le_trans p4 (Int.le_of_eq ?_)
   simp only [Int.natCast_mul]
   grind
 ·have p3 : 4 * (x * r * (x * r)) <= (2 * j + 1) * (2 * j + 1) * m := by
   split at p2 <;> omega
  have p4 : ((4 * (x * r * (x * r)) : Nat) : Int) <= (((2 * j + 1) * (2 * j + 1) * m : Nat) : Int) := by omega
  refine Int.le_trans (Int.le_of_eq ?_) (Int.le_trans p4 (Int.le_of_eq ?_))
  ·simp only [Int.natCast_mul]; grind
  ·simp only [Int.natCast_mul, Int.natCast_add]; rfl
theorem near_err {u R n S : Int} (hu : u.natAbs <= 100000000) (hR : 0 <= R /\ R <= 50000000) (hn : 0 < n /\ n <= 20000000000000000) (hq : u * u <= n) (hS : 0 <= S /\ S * S <= n /\ n < (S + 1) * (S + 1)) :
  -(S + 2 * R + 1) <= 2 * nearR u R n * S - 2 * (u * R) /\ 2 * nearR u R n * S - 2 * (u * R) <= S + 2 * R + 1 := by
 obtain ⟨j, e, h1, h2, h3⟩ := near_facts hu hR hn hq
 have hx : 0 <= (u.natAbs : Int) * R := Int.mul_nonneg (by omega) hR.1
 have k1 : 2 * (j : Int) * S - 2 * (u.natAbs * R) <= S := by
  rcases h1 with h1 | h1
  ·rw [h1]; simp; omega
  ·by_cases c0 : j = 0
   ·rw [c0]; simp; omega
   ·have : (2 * (j : Int) - 1) * S <= 2 * (u.natAbs * R) := by
     refine le_of_sq (by omega) (Int.le_trans ?_ h1)
     have e2 : (2 * (j : Int) - 1) * S * ((2 * (j : Int) - 1) * S) = (2 * (j : Int) - 1) * (2 * (j : Int) - 1) * (S * S) := by grind
     rw [e2]
     exact Int.mul_le_mul_of_nonneg_left hS.2.1 (sq_nn _)
    have e3 : (2 * (j : Int) - 1) * S = 2 * (j : Int) * S - S := by grind
    omega
 have k2 : 2 * (u.natAbs * R) <= 2 * (j : Int) * S + S + 2 * j + 1 := by
  have : 2 * (u.natAbs * R) <= (2 * (j : Int) + 1) * (S + 1) := by
   refine le_of_sq (Int.mul_nonneg (by omega) (by omega)) (Int.le_trans h2 ?_)
   have e2 : (2 * (j : Int) + 1) * (S + 1) * ((2 * (j : Int) + 1) * (S + 1)) = (2 * (j : Int) + 1) * (2 * (j : Int) + 1) * ((S + 1) * (S + 1)) := by grind
   rw [e2]
   exact Int.mul_le_mul_of_nonneg_left (by omega) (sq_nn _)
  have e3 : (2 * (j : Int) + 1) * (S + 1) = 2 * (j : Int) * S + S + 2 * j + 1 := by grind
  omega
 rw [e]
 by_cases c : u < 0
 ·rw [if_pos c]
  have e1 : (u.natAbs : Int) = -u := by omega
  rw [e1] at k1 k2
  have e2 : -u * R = -(u * R) := by grind
  rw [e2] at k1 k2
  have e3 : 2 * -(j : Int) * S = -(2 * (j : Int) * S) := by grind
  rw [e3]
  omega
 ·rw [if_neg c]
  have e1 : (u.natAbs : Int) = u := by omega
  rw [e1] at k1 k2
  omega
theorem near_norm {u w R : Int} (hu : u.natAbs <= 100000000) (hw : w.natAbs <= 100000000) (hR : 1 <= R /\ R <= 50000000) (h0 : ¬ (u = 0 /\ w = 0)) :
  (R - 1) * (R - 1) <= sq2 (nearR u R (sq2 u w)) (nearR w R (sq2 u w)) /\ sq2 (nearR u R (sq2 u w)) (nearR w R (sq2 u w)) <= (R + 1) * (R + 1) := by
 have hp := sq2_pos h0
 have b1 := sq_bd hu
 have b2 := sq_bd hw
 have hn : sq2 u w <= 20000000000000000 := by unfold sq2; omega
 obtain ⟨q1, q2⟩ := sq2_sq u w
 obtain ⟨j, e1, h1, h2, h3⟩ := near_facts hu ⟨by omega, hR.2⟩ ⟨hp, hn⟩ q1
 obtain ⟨i, e2, g1, g2, g3⟩ := near_facts hw ⟨by omega, hR.2⟩ ⟨hp, hn⟩ q2
 have hs : ∀ (c : Prop) [Decidable c] (j : Nat), (if c then -(j : Int) else (j : Int)) * (if c then -(j : Int) else (j : Int)) = (j : Int) * j := by
  intro c _ j
  by_cases h : c
  ·rw [if_pos h]; grind
  ·rw [if_neg h]
 have esq : sq2 (nearR u R (sq2 u w)) (nearR w R (sq2 u w)) = (j : Int) * j + (i : Int) * i := by
  rw [e1, e2]
  unfold sq2
  rw [hs, hs]
 rw [esq]
 have eU : (2 * ((u.natAbs : Int) * R)) * (2 * (u.natAbs * R)) + (2 * ((w.natAbs : Int) * R)) * (2 * (w.natAbs * R)) = (2 * R) * (2 * R) * sq2 u w := by
  have a1 : (u.natAbs : Int) * u.natAbs = u * u := Int.natAbs_mul_self
  have a2 : (w.natAbs : Int) * w.natAbs = w * w := Int.natAbs_mul_self
  unfold sq2
  rw [<- a1, <- a2]
  grind
 generalize (2 * ((u.natAbs : Int) * R)) * (2 * (u.natAbs * R)) = U at *
 generalize (2 * ((w.natAbs : Int) * R)) * (2 * (w.natAbs * R)) = W at *
 generalize sq2 u w = n at *
 clear e1 e2 esq hs b1 b2 q1 q2 hu hw h0
 have hU : 0 <= U \/ True := .inr trivial
 constructor
 · -- from below
  have k1 : (2 * R) * (2 * R) * n <= ((2 * (j : Int) + 1) * (2 * (j : Int) + 1) + (2 * (i : Int) + 1) * (2 * (i : Int) + 1)) * n := by
   rw [Int.add_mul]; omega
  have k2 := Int.le_of_mul_le_mul_right k1 hp
  have k3 : (2 * (j : Int) + 1) * (2 * (j : Int) + 1) + (2 * (i : Int) + 1) * (2 * (i : Int) + 1) = 4 * ((j : Int) * j + (i : Int) * i) + 4 * ((j : Int) + i) + 2 := by grind
  have k4 : (2 * R) * (2 * R) = 4 * (R * R) := by grind
  have k5 : (R - 1) * (R - 1) = R * R - 2 * R + 1 := by grind
  by_cases c : 2 * ((j : Int) + i) <= 3 * (R - 1)
  ·omega
  ·have k6 : (3 * (R - 1)) * (3 * (R - 1)) <= (2 * ((j : Int) + i)) * (2 * ((j : Int) + i)) := Int.mul_self_le_mul_self (by omega) (by omega)
   have k7 : (2 * ((j : Int) + i)) * (2 * ((j : Int) + i)) = 8 * ((j : Int) * j + (i : Int) * i) - 4 * (((j : Int) - i) * ((j : Int) - i)) := by grind
   have k8 := sq_nn ((j : Int) - i)
   have k9 : (3 * (R - 1)) * (3 * (R - 1)) = 9 * ((R - 1) * (R - 1)) := by grind
   have k10 := sq_nn (R - 1)
   omega
 ·have k5 : (R + 1) * (R + 1) = R * R + 2 * R + 1 := by grind
  have jj : (j : Int) * j <= R * R := Int.mul_self_le_mul_self (by omega) h3
  have ii : (i : Int) * i <= R * R := Int.mul_self_le_mul_self (by omega) g3
  rcases h1 with h1 | h1
  ·rw [h1]; simp; omega
  rcases g1 with g1 | g1
  ·rw [g1]; simp; omega
  by_cases cj : j = 0
  ·rw [cj]; simp; omega
  by_cases ci : i = 0
  ·rw [ci]; simp; omega
  have k1 : ((2 * (j : Int) - 1) * (2 * (j : Int) - 1) + (2 * (i : Int) - 1) * (2 * (i : Int) - 1)) * n <= (2 * R) * (2 * R) * n := by
   rw [Int.add_mul]; omega
  have k2 := Int.le_of_mul_le_mul_right k1 hp
  have k3 : (2 * (j : Int) - 1) * (2 * (j : Int) - 1) + (2 * (i : Int) - 1) * (2 * (i : Int) - 1) = 4 * ((j : Int) * j + (i : Int) * i) - 4 * ((j : Int) + i) + 2 := by grind
  have k4 : (2 * R) * (2 * R) = 4 * (R * R) := by grind
  -- p + q is at most 3 R
  have k6 : (2 * (j : Int) - 1) + (2 * (i : Int) - 1) <= 3 * R := by
   refine le_of_sq (by omega) ?_
   have e4 : ((2 * (j : Int) - 1) + (2 * (i : Int) - 1)) * ((2 * (j : Int) - 1) + (2 * (i : Int) - 1)) = 2 * ((2 * (j : Int) - 1) * (2 * (j : Int) - 1) + (2 * (i : Int) - 1) * (2 * (i : Int) - 1)) - ((2 * (j : Int) - 1) - (2 * (i : Int) - 1)) * ((2 * (j : Int) - 1) - (2 * (i : Int) - 1)) := by grind
   have e5 := sq_nn ((2 * (j : Int) - 1) - (2 * (i : Int) - 1))
   have e6 : 3 * R * (3 * R) = 9 * (R * R) := by grind
   have e7 := sq_nn R
   rw [e4, e6]
   omega
  omega
end Go.Bm
/- the middle of a piece of an arc lies between its ends -/
set_option maxRecDepth 100000
namespace Go.Bm
open Classical

structure Sp (s : Spk) : Prop where
 ok : okS s
 r : 128 <= s.r
 norm : (s.r - 1) * (s.r - 1) <= sq2 s.u s.w /\ sq2 s.u s.w <= (s.r + 1) * (s.r + 1)
theorem comp_le {u w M : Int} (hM : 0 <= M) (h : sq2 u w <= M * M) : (u.natAbs : Int) <= M /\ (w.natAbs : Int) <= M := by
 obtain ⟨h1, h2⟩ := sq2_sq u w
 have a1 : (u.natAbs : Int) * u.natAbs = u * u := Int.natAbs_mul_self
 have a2 : (w.natAbs : Int) * w.natAbs = w * w := Int.natAbs_mul_self
 exact ⟨le_of_sq hM (by omega), le_of_sq hM (by omega)⟩
theorem mul_ge {x y E : Int} (hy : -E <= y /\ y <= E) : -(x.natAbs * E) <= x * y := by
 have h : (x * y).natAbs = x.natAbs * y.natAbs := Int.natAbs_mul x y
 have h2 : x.natAbs * y.natAbs <= x.natAbs * E.natAbs := Nat.mul_le_mul_left _ (by omega)
 have h3 : ((x.natAbs * E.natAbs : Nat) : Int) = x.natAbs * E := by rw [Int.natCast_mul]; congr 1; omega
 omega
theorem side {p q u w R S dir : Int} (hd : dir = 1 \/ dir = -1) (hu : u.natAbs <= 100000000) (hw : w.natAbs <= 100000000) (hR : 1 <= R /\ R <= 50000000) (h0 : ¬ (u = 0 /\ w = 0)) (hS : 0 <= S /\ S * S <= sq2 u w /\ sq2 u w < (S + 1) * (S + 1))
  (h : (p.natAbs + q.natAbs) * (S + 2 * R + 1) < 2 * R * (crs p q u w * dir)) : 0 < crs p q (nearR u R (sq2 u w)) (nearR w R (sq2 u w)) * dir := by
 have hp := sq2_pos h0
 have b1 := sq_bd hu
 have b2 := sq_bd hw
 have hn : sq2 u w <= 20000000000000000 := by unfold sq2; omega
 obtain ⟨q1, q2⟩ := sq2_sq u w
 have e1 := near_err hu ⟨by omega, hR.2⟩ ⟨hp, hn⟩ q1 hS
 have e2 := near_err hw ⟨by omega, hR.2⟩ ⟨hp, hn⟩ q2 hS
 generalize nearR u R (sq2 u w) = a at *
 generalize nearR w R (sq2 u w) = b at *
 have hE : 0 <= S + 2 * R + 1 := by omega
 generalize S + 2 * R + 1 = E at *
 have m1 := mul_ge (x := p) (y := (2 * b * S - 2 * (w * R)) * dir) (E := E) (by rcases hd with rfl | rfl <;> omega)
 have m2 := mul_ge (x := -q) (y := (2 * a * S - 2 * (u * R)) * dir) (E := E) (by rcases hd with rfl | rfl <;> omega)
 have e3 : ((-q).natAbs : Int) = q.natAbs := by omega
 rw [e3] at m2
 have key : 2 * S * (crs p q a b * dir) = 2 * R * (crs p q u w * dir) + p * ((2 * b * S - 2 * (w * R)) * dir) + -q * ((2 * a * S - 2 * (u * R)) * dir) := by unfold crs; grind
 have hpos : 0 < 2 * S * (crs p q a b * dir) := by
  rw [Int.add_mul] at h
  omega
 by_cases c : 0 < crs p q a b * dir
 ·exact c
 ·have : 2 * S * (crs p q a b * dir) <= 0 := Int.mul_nonpos_of_nonneg_of_nonpos (by omega) (by omega)
  omega
theorem root_ex {n : Int} (h : 0 <= n /\ n <= 4000000000000000000) : ∃ S : Int, 0 <= S /\ S * S <= n /\ n < (S + 1) * (S + 1) := by
 obtain ⟨m, rfl⟩ := Int.eq_ofNat_of_zero_le h.1
 obtain ⟨r, -, h2, h3, -⟩ := s_cncref23_root (n := m) (by omega)
 refine ⟨r, by omega, ?_, ?_⟩
 ·rw [<- Int.natCast_mul]; omega
 ·have : ((r : Int) + 1) * ((r : Int) + 1) = (((r + 1) * (r + 1) : Nat) : Int) := by simp
  rw [this]; omega
theorem pos_poly (t : Int) (ht : 0 <= t) : ((2 * (t + 128) + 33) * 35) * ((2 * (t + 128) + 33) * 35) + 324 * ((t + 128) * (t + 128)) < (32 * (t + 128) - 63) * (2 * ((t + 127) * (t + 127))) := by
 have h2 : 0 <= t * t := Int.mul_nonneg ht ht
 have h3 : 0 <= t * t * t := Int.mul_nonneg h2 ht
 have e1 : ((2 * (t + 128) + 33) * 35) * ((2 * (t + 128) + 33) * 35) = 4900 * (t * t) + 1416100 * t + 102313225 := by grind
 have e2 : 324 * ((t + 128) * (t + 128)) = 324 * (t * t) + 82944 * t + 5308416 := by grind
 have e3 : (32 * (t + 128) - 63) * (2 * ((t + 127) * (t + 127))) = 64 * (t * t * t) + 24322 * (t * t) + 3081020 * t + 130096514 := by grind
 omega
theorem cut_sine {A B D d X p : Int} (h1 : D = A + B - 2 * d) (h2 : X * X + d * d = A * B) (hd : 0 < d) (hp : 128 <= p) (hA : (p - 1) * (p - 1) <= A) (hB : (p - 1) * (p - 1) <= B) (hD : 32 * p - 64 < D)
  (hAB : -((2 * p + 33) * 35) <= A - B /\ A - B <= (2 * p + 33) * 35) (hX : 0 < X) : 9 * p < X := by
 have e1 : 4 * (X * X) = 2 * (D * (A + B)) - D * D - (A - B) * (A - B) := by
  have : X * X = A * B - d * d := by omega
  rw [this, h1]; grind
 have k1 : D * D <= D * (A + B) := Int.mul_le_mul_of_nonneg_left (by omega) (by omega)
 have k2 : (A - B) * (A - B) <= ((2 * p + 33) * 35) * ((2 * p + 33) * 35) := by
  have : (A - B).natAbs <= ((2 * p + 33) * 35).natAbs := by omega
  have h := Nat.mul_le_mul this this
  have a1 : ((A - B).natAbs : Int) * (A - B).natAbs = (A - B) * (A - B) := Int.natAbs_mul_self
  have a2 : (((2 * p + 33) * 35).natAbs : Int) * ((2 * p + 33) * 35).natAbs = ((2 * p + 33) * 35) * ((2 * p + 33) * 35) := Int.natAbs_mul_self
  rw [<- a1, <- a2, <- Int.natCast_mul, <- Int.natCast_mul]
  omega
 have n0 := sq_nn (p - 1)
 have k3 : (32 * p - 63) * (2 * ((p - 1) * (p - 1))) <= D * (A + B) := Int.mul_le_mul (by omega) (by omega) (by omega) (by omega)
 have k4 := pos_poly (p - 128) (by omega)
 rw [show p - 128 + 128 = p by omega, show p - 128 + 127 = p - 1 by omega] at k4
 refine lt_of_sq (by omega) ?_
 have e2 : 9 * p * (9 * p) = 81 * (p * p) := by grind
 rw [e2]
 omega
end Go.Bm
/- the middle of a piece of an arc lies between its ends: spokes -/
set_option maxRecDepth 100000
namespace Go.Bm
open Classical

theorem sp_mid {x y : Spk} (hx : Sp x) (hy : Sp y) {u w : Int} (hu : u.natAbs <= 100000000) (hw : w.natAbs <= 100000000) (h0 : ¬ (u = 0 /\ w = 0)) : Sp (midOf x y u w) /\ midOf x y u w = ⟨nearR u (hf x.r y.r) (sq2 u w), nearR w (hf x.r y.r) (sq2 u w), hf x.r y.r, hf x.h y.h⟩ := by
 have hok := midOf_ok hx.ok hy.ok hu hw
 have e : midOf x y u w = ⟨nearR u (hf x.r y.r) (sq2 u w), nearR w (hf x.r y.r) (sq2 u w), hf x.r y.r, hf x.h y.h⟩ := if_neg h0
 have hr : 128 <= hf x.r y.r /\ hf x.r y.r <= 50000000 := by
  have := hx.r; have := hy.r; have := hx.ok.2.2.1; have := hy.ok.2.2.1
  unfold hf; omega
 rw [e] at hok ⊢
 exact ⟨⟨hok, hr.1, near_norm hu hw (R := hf x.r y.r) ⟨by omega, hr.2⟩ h0⟩, rfl⟩
theorem poly_a {p : Int} (hp : 128 <= p) : (4 * p) * (7 * p) < 2 * p * ((p - 1) * (p - 1)) := by
 have h1 : 0 < p * (p * p - 16 * p + 1) := by
  refine Int.mul_pos (by omega) ?_
  have : 128 * p <= p * p := Int.mul_le_mul_of_nonneg_right hp (by omega)
  omega
 have e1 : 2 * p * ((p - 1) * (p - 1)) - (4 * p) * (7 * p) = 2 * (p * (p * p - 16 * p + 1)) := by grind
 omega
theorem sq_add_le {x y p c A B : Int} (hA : A <= (x + 1) * (x + 1)) (hB : B <= (y + 1) * (y + 1)) (hx : 0 <= x /\ x + 1 <= p + c) (hy : 0 <= y /\ y + 1 <= p + c) : 2 * (A + B) <= (2 * (p + c)) * (2 * (p + c)) := by
 have h1 : (x + 1) * (x + 1) <= (p + c) * (p + c) := Int.mul_self_le_mul_self (by omega) hx.2
 have h2 : (y + 1) * (y + 1) <= (p + c) * (p + c) := Int.mul_self_le_mul_self (by omega) hy.2
 have e : (2 * (p + c)) * (2 * (p + c)) = 4 * ((p + c) * (p + c)) := by grind
 omega
theorem diff_le {x y p A B : Int} (hA : A <= (x + 1) * (x + 1)) (hB : (y - 1) * (y - 1) <= B) (h1 : x + y <= 2 * p + 33) (h0 : 0 <= x + y) (h2 : x - y <= 33) : A - B <= (2 * p + 33) * 35 := by
 have e : (x + 1) * (x + 1) - (y - 1) * (y - 1) = (x + y) * (x - y + 2) := by grind
 have k1 : (x + y) * (x - y + 2) <= (x + y) * 35 := Int.mul_le_mul_of_nonneg_left (by omega) h0
 omega
theorem mn_cases (a b : Int) : (mn a b = a /\ a <= b) \/ (mn a b = b /\ b <= a) := by unfold mn; split <;> omega
theorem est_a {p R S n C : Int} (hp : 128 <= p) (hR : p <= R /\ R <= p + 64) (hS : 0 <= S /\ S <= 2 * (p + 65)) (hn : 0 <= n /\ n <= 2 * (p + 65)) (hC : (p - 1) * (p - 1) <= C) : n * (S + 2 * R + 1) < 2 * R * C := by
 have k : n * (S + 2 * R + 1) <= (4 * p) * (7 * p) := Int.mul_le_mul (by omega) (by omega) (by omega) (by omega)
 have k2 : 2 * p * ((p - 1) * (p - 1)) <= 2 * R * C := Int.mul_le_mul (by omega) hC (sq_nn _) (by omega)
 have := poly_a hp
 omega
theorem est_b {p R S n C : Int} (hp : 128 <= p) (hR : p <= R /\ R <= p + 33) (hS : 0 <= S /\ S <= 2 * (p + 34)) (hn : 0 <= n /\ n <= 2 * (p + 34)) (hC : 9 * p < C) : n * (S + 2 * R + 1) < 2 * R * C := by
 have k : n * (S + 2 * R + 1) <= (3 * p) * (6 * p) := Int.mul_le_mul (by omega) (by omega) (by omega) (by omega)
 have k2 : 2 * p * (9 * p + 1) <= 2 * R * C := Int.mul_le_mul (by omega) (by omega) (by omega) (by omega)
 have e1 : 2 * p * (9 * p + 1) = (3 * p) * (6 * p) + 2 * p := by grind
 omega
theorem comp_sum {u w M : Int} (hM : 0 <= M) (h : sq2 u w <= M * M) : 0 <= (u.natAbs : Int) + w.natAbs /\ (u.natAbs : Int) + w.natAbs <= 2 * M := by
 have := comp_le hM h
 omega
structure Rad (x y : Spk) (c p : Int) : Prop where
 m : mn x.r y.r = p /\ 128 <= p
 R : p <= hf x.r y.r /\ hf x.r y.r <= p + c
 R5 : 1 <= hf x.r y.r /\ hf x.r y.r <= 50000000
 A : (p - 1) * (p - 1) <= sq2 x.u x.w /\ (p - 1) * (p - 1) <= sq2 y.u y.w
 S : 2 * (sq2 x.u x.w + sq2 y.u y.w) <= (2 * (p + (c + 1))) * (2 * (p + (c + 1)))
 cx : 0 <= (x.u.natAbs : Int) + x.w.natAbs /\ (x.u.natAbs : Int) + x.w.natAbs <= 2 * (p + (c + 1))
 cy : 0 <= (y.u.natAbs : Int) + y.w.natAbs /\ (y.u.natAbs : Int) + y.w.natAbs <= 2 * (p + (c + 1))
 d : x.r + y.r <= 2 * p + c /\ 0 <= x.r + y.r /\ x.r - y.r <= c /\ y.r - x.r <= c
theorem radii {x y : Spk} (hx : Sp x) (hy : Sp y) {c : Int} (h : ((x.r - y.r).natAbs : Int) <= c) : Rad x y c (mn x.r y.r) := by
 obtain ⟨nx1, nx2⟩ := hx.norm
 obtain ⟨ny1, ny2⟩ := hy.norm
 have hrx := hx.r
 have hry := hy.r
 have ux := hx.ok.2.2.1
 have uy := hy.ok.2.2.1
 have hpm := mn_cases x.r y.r
 generalize hp : mn x.r y.r = p at *
 have k1 := comp_sum (M := x.r + 1) (by omega) nx2
 have k2 := comp_sum (M := y.r + 1) (by omega) ny2
 have k3 := sq_add_le (p := p) (c := c + 1) nx2 ny2 (by omega) (by omega)
 have k4 : (p - 1) * (p - 1) <= sq2 x.u x.w := Int.le_trans (Int.mul_self_le_mul_self (by omega) (by omega)) nx1
 have k5 : (p - 1) * (p - 1) <= sq2 y.u y.w := Int.le_trans (Int.mul_self_le_mul_self (by omega) (by omega)) ny1
 refine ⟨⟨hp, by omega⟩, ?_, ?_, ⟨k4, k5⟩, k3, ⟨k1.1, by omega⟩, ⟨k2.1, by omega⟩, by omega⟩
 ·unfold hf; omega
 ·unfold hf; omega
theorem eq_D (x y : Spk) : sq2 (x.u - y.u) (x.w - y.w) = sq2 x.u x.w + sq2 y.u y.w - 2 * dt2 x.u x.w y.u y.w := by unfold sq2 dt2; grind
theorem eq_S (x y : Spk) : sq2 (x.u + y.u) (x.w + y.w) = sq2 x.u x.w + sq2 y.u y.w + 2 * dt2 x.u x.w y.u y.w := by unfold sq2 dt2; grind
theorem eq_L (x y : Spk) {dir : Int} (hd : dir * dir = 1) : (crs x.u x.w y.u y.w * dir) * (crs x.u x.w y.u y.w * dir) + dt2 x.u x.w y.u y.w * dt2 x.u x.w y.u y.w = sq2 x.u x.w * sq2 y.u y.w := by
 have : (crs x.u x.w y.u y.w * dir) * (crs x.u x.w y.u y.w * dir) = crs x.u x.w y.u y.w * crs x.u x.w y.u y.w * (dir * dir) := by grind
 rw [this, hd]; unfold sq2 dt2 crs; grind
theorem sq2_ge0 (u w : Int) : 0 <= sq2 u w := by have := sq_nn u; have := sq_nn w; unfold sq2; omega
theorem dir_sq {dir : Int} (hd : dir = 1 \/ dir = -1) : dir * dir = 1 := by rcases hd with rfl | rfl <;> rfl
theorem root_bd {u w : Int} (hu : u.natAbs <= 100000000) (hw : w.natAbs <= 100000000) : ∃ S : Int, 0 <= S /\ S * S <= sq2 u w /\ sq2 u w < (S + 1) * (S + 1) := by
 have q1 := sq_bd hu
 have q2 := sq_bd hw
 exact root_ex ⟨sq2_ge0 _ _, by unfold sq2; omega⟩
theorem crs_dir (a b c d dir : Int) : crs a b c d * dir = crs c d a b * -dir := by unfold crs; grind
theorem bd_a {x y : Spk} (hx : okS x) (hy : okS y) {dir : Int} (hd : dir = 1 \/ dir = -1) : (dir * (y.w - x.w)).natAbs <= 100000000 /\ (dir * (x.u - y.u)).natAbs <= 100000000 := by
 have := hx.1; have := hx.2.1; have := hy.1; have := hy.2.1
 rcases hd with rfl | rfl <;> omega
theorem bd_b {x y : Spk} (hx : okS x) (hy : okS y) : (x.u + y.u).natAbs <= 100000000 /\ (x.w + y.w).natAbs <= 100000000 := by
 have := hx.1; have := hx.2.1; have := hy.1; have := hy.2.1
 omega
abbrev midOK (x y : Spk) (dir : Int) (m : Spk) : Prop := Sp m /\ m.r = hf x.r y.r /\ m.h = hf x.h y.h /\ 0 < crs x.u x.w m.u m.w * dir /\ 0 < crs m.u m.w y.u y.w * dir
theorem mid_core {x y : Spk} {dir u w S C C2 : Int} (hd : dir = 1 \/ dir = -1) (hx : Sp x) (hy : Sp y) (hu : u.natAbs <= 100000000) (hw : w.natAbs <= 100000000) (hR5 : 1 <= hf x.r y.r /\ hf x.r y.r <= 50000000) (h0 : ¬ (u = 0 /\ w = 0)) (hS : 0 <= S /\ S * S <= sq2 u w /\ sq2 u w < (S + 1) * (S + 1))
  (eC : crs x.u x.w u w * dir = C) (eC2 : crs y.u y.w u w * -dir = C2) (h1 : ((x.u.natAbs : Int) + x.w.natAbs) * (S + 2 * hf x.r y.r + 1) < 2 * hf x.r y.r * C) (h2 : ((y.u.natAbs : Int) + y.w.natAbs) * (S + 2 * hf x.r y.r + 1) < 2 * hf x.r y.r * C2) : midOK x y dir (midOf x y u w) := by
 obtain ⟨s1, s2⟩ := sp_mid hx hy hu hw h0
 have t1 := side (p := x.u) (q := x.w) hd hu hw hR5 h0 hS (by rw [eC]; exact h1)
 have t2 := side (p := y.u) (q := y.w) (dir := -dir) (by omega) hu hw hR5 h0 hS (by rw [eC2]; exact h2)
 refine ⟨s1, by rw [s2], by rw [s2], by rw [s2]; exact t1, ?_⟩
 rw [s2, crs_dir]
 exact t2
theorem mid_across {x y : Spk} {dir : Int} (hd : dir = 1 \/ dir = -1) (hx : Sp x) (hy : Sp y) (h64 : ((x.r - y.r).natAbs : Int) <= 64) (h : dt2 x.u x.w y.u y.w <= 0) : midOK x y dir (midS x y dir false) := by
 have hr := radii hx hy h64
 have hdd := dir_sq hd
 have eM : midD x y dir false = (dir * (y.w - x.w), dir * (x.u - y.u)) := by
  unfold midD
  rw [if_neg (by simp), if_neg (fun g => absurd h (Int.not_le.2 g.1)), if_neg (fun g => absurd h (Int.not_le.2 g))]
 unfold midS
 rw [eM]
 simp only
 have eN : sq2 (dir * (y.w - x.w)) (dir * (x.u - y.u)) = sq2 (x.u - y.u) (x.w - y.w) := by
  have : sq2 (dir * (y.w - x.w)) (dir * (x.u - y.u)) = dir * dir * sq2 (x.u - y.u) (x.w - y.w) := by unfold sq2; grind
  rw [this, hdd, Int.one_mul]
 have eC : crs x.u x.w (dir * (y.w - x.w)) (dir * (x.u - y.u)) * dir = sq2 x.u x.w - dt2 x.u x.w y.u y.w := by
  have : crs x.u x.w (dir * (y.w - x.w)) (dir * (x.u - y.u)) * dir = dir * dir * (sq2 x.u x.w - dt2 x.u x.w y.u y.w) := by unfold crs sq2 dt2; grind
  rw [this, hdd, Int.one_mul]
 have eC2 : crs y.u y.w (dir * (y.w - x.w)) (dir * (x.u - y.u)) * -dir = sq2 y.u y.w - dt2 x.u x.w y.u y.w := by
  have : crs y.u y.w (dir * (y.w - x.w)) (dir * (x.u - y.u)) * -dir = dir * dir * (sq2 y.u y.w - dt2 x.u x.w y.u y.w) := by unfold crs sq2 dt2; grind
  rw [this, hdd, Int.one_mul]
 obtain ⟨hu, hw⟩ := bd_a hx.ok hy.ok hd
 have nS := sq2_ge0 (x.u + y.u) (x.w + y.w)
 rw [eq_S] at nS
 rw [eq_D] at eN
 have hA := hr.A
 have hp := hr.m.2
 have hR := hr.R
 have hsum : 2 * (sq2 x.u x.w + sq2 y.u y.w) <= (2 * (mn x.r y.r + 65)) * (2 * (mn x.r y.r + 65)) := hr.S
 have hcx := hr.cx
 have hcy := hr.cy
 have hR5 := hr.R5
 clear hr h64 hdd
 generalize mn x.r y.r = p at *
 have h0 : ¬ (dir * (y.w - x.w) = 0 /\ dir * (x.u - y.u) = 0) := by
  rintro ⟨g1, g2⟩
  rw [g1, g2] at eC
  have e0 : crs x.u x.w 0 0 * dir = 0 := by unfold crs; simp
  rw [e0] at eC
  have : 0 < (p - 1) * (p - 1) := Int.mul_pos (by omega) (by omega)
  omega
 obtain ⟨S, r1, r2, r3⟩ := root_bd hu hw
 have hS : S <= 2 * (p + 65) := le_of_sq (by omega) (by omega)
 exact mid_core hd hx hy hu hw hR5 h0 ⟨r1, r2, r3⟩ eC eC2 (est_a hp hR ⟨r1, hS⟩ hcx (by omega)) (est_a hp hR ⟨r1, hS⟩ hcy (by omega))
theorem mid_along {x y : Spk} {dir : Int} (hd : dir = 1 \/ dir = -1) (hx : Sp x) (hy : Sp y) (h1 : 0 < dt2 x.u x.w y.u y.w) (h2 : 0 < crs x.u x.w y.u y.w * dir) (h3 : ((x.r - y.r).natAbs : Int) <= 33) (h4 : 32 * mn x.r y.r - 64 < sq2 (x.u - y.u) (x.w - y.w)) : midOK x y dir (midS x y dir false) := by
 have hr := radii hx hy h3
 have hdd := dir_sq hd
 have eM : midD x y dir false = (x.u + y.u, x.w + y.w) := by
  unfold midD
  rw [if_neg (by simp), if_pos ⟨h1, h2⟩]
 unfold midS
 rw [eM]
 simp only
 have eC : crs x.u x.w (x.u + y.u) (x.w + y.w) * dir = crs x.u x.w y.u y.w * dir := by unfold crs; grind
 have eC2 : crs y.u y.w (x.u + y.u) (x.w + y.w) * -dir = crs x.u x.w y.u y.w * dir := by unfold crs; grind
 obtain ⟨hu, hw⟩ := bd_b hx.ok hy.ok
 have nx := hx.norm
 have ny := hy.norm
 have hdl := hr.d
 have d1 := diff_le (p := mn x.r y.r) nx.2 ny.1 hdl.1 hdl.2.1 hdl.2.2.1
 have d2 := diff_le (p := mn x.r y.r) ny.2 nx.1 (by rw [Int.add_comm]; exact hdl.1) (by rw [Int.add_comm]; exact hdl.2.1) hdl.2.2.2
 have hsin := cut_sine (p := mn x.r y.r) (eq_D x y) (eq_L x y hdd) h1 hr.m.2 hr.A.1 hr.A.2 h4 ⟨by omega, d1⟩ h2
 have nD := sq2_ge0 (x.u - y.u) (x.w - y.w)
 have eS := eq_S x y
 rw [eq_D] at nD
 have hp := hr.m.2
 have hR := hr.R
 have hsum : 2 * (sq2 x.u x.w + sq2 y.u y.w) <= (2 * (mn x.r y.r + 34)) * (2 * (mn x.r y.r + 34)) := hr.S
 have hcx := hr.cx
 have hcy := hr.cy
 have hR5 := hr.R5
 clear hr h3 hdd d1 d2 nx ny hdl h4
 generalize mn x.r y.r = p at *
 have h0 : ¬ (x.u + y.u = 0 /\ x.w + y.w = 0) := by
  rintro ⟨g1, g2⟩
  rw [g1, g2] at eC
  have e0 : crs x.u x.w 0 0 * dir = 0 := by unfold crs; simp
  rw [e0] at eC
  omega
 obtain ⟨S, r1, r2, r3⟩ := root_bd hu hw
 have hS : S <= 2 * (p + 34) := le_of_sq (by omega) (by omega)
 exact mid_core hd hx hy hu hw hR5 h0 ⟨r1, r2, r3⟩ eC eC2 (est_b hp hR ⟨r1, hS⟩ hcx hsin) (est_b hp hR ⟨r1, hS⟩ hcy hsin)
end Go.Bm
/- what the maker makes can be drawn -/
set_option maxRecDepth 100000
namespace Go.Bm

theorem rot_cases (r k : Int) : (rotU r k = r /\ rotW r k = 0) \/ (rotU r k = 0 /\ rotW r k = r) \/ (rotU r k = -r /\ rotW r k = 0) \/ (rotU r k = 0 /\ rotW r k = -r) := by
 have hc : k % 4 = 0 \/ k % 4 = 1 \/ k % 4 = 2 \/ k % 4 = 3 := by omega
 unfold rotU rotW
 rcases hc with h | h | h | h <;> simp [h]
theorem rot_sq (r k : Int) : sq2 (rotU r k) (rotW r k) = r * r := by
 unfold sq2
 rcases rot_cases r k with ⟨h1, h2⟩ | ⟨h1, h2⟩ | ⟨h1, h2⟩ | ⟨h1, h2⟩ <;> rw [h1, h2] <;> grind
theorem rot_turn {p q k t : Int} (ht : t = 1 \/ t = 2 \/ t = 3) (hp : 0 < p) (hq : 0 < q) : crs (rotU p k) (rotW p k) (rotU q (k + t)) (rotW q (k + t)) ≠ 0 \/ dt2 (rotU p k) (rotW p k) (rotU q (k + t)) (rotW q (k + t)) < 0 := by
 have hc : k % 4 = 0 \/ k % 4 = 1 \/ k % 4 = 2 \/ k % 4 = 3 := by omega
 have hpq : 0 < p * q := Int.mul_pos hp hq
 have hm : -p * q = -(p * q) /\ p * -q = -(p * q) /\ -p * -q = p * q := ⟨Int.neg_mul .., Int.mul_neg .., Int.neg_mul_neg ..⟩
 have e : ∀ j : Int, (k + t) % 4 = j -> ∀ i : Int, k % 4 = i -> crs (rotU p k) (rotW p k) (rotU q (k + t)) (rotW q (k + t)) = (if i = 0 then p else if i = 2 then -p else 0) * (if j = 1 then q else if j = 3 then -q else 0) - (if i = 1 then p else if i = 3 then -p else 0) * (if j = 0 then q else if j = 2 then -q else 0) /\
   dt2 (rotU p k) (rotW p k) (rotU q (k + t)) (rotW q (k + t)) = (if i = 0 then p else if i = 2 then -p else 0) * (if j = 0 then q else if j = 2 then -q else 0) + (if i = 1 then p else if i = 3 then -p else 0) * (if j = 1 then q else if j = 3 then -q else 0) := by
  intro j hj i hi
  subst hj hi
  exact ⟨rfl, rfl⟩
 rcases ht with rfl | rfl | rfl <;> rcases hc with h1 | h1 | h1 | h1
 ·obtain ⟨e1, e2⟩ := e 1 (by omega) _ h1
  simp at e1 e2; omega
 ·obtain ⟨e1, e2⟩ := e 2 (by omega) _ h1
  simp at e1 e2; omega
 ·obtain ⟨e1, e2⟩ := e 3 (by omega) _ h1
  simp at e1 e2; omega
 ·obtain ⟨e1, e2⟩ := e 0 (by omega) _ h1
  simp at e1 e2; omega
 ·obtain ⟨e1, e2⟩ := e 2 (by omega) _ h1
  simp at e1 e2; omega
 ·obtain ⟨e1, e2⟩ := e 3 (by omega) _ h1
  simp at e1 e2; omega
 ·obtain ⟨e1, e2⟩ := e 0 (by omega) _ h1
  simp at e1 e2; omega
 ·obtain ⟨e1, e2⟩ := e 1 (by omega) _ h1
  simp at e1 e2; omega
 ·obtain ⟨e1, e2⟩ := e 3 (by omega) _ h1
  simp at e1 e2; omega
 ·obtain ⟨e1, e2⟩ := e 0 (by omega) _ h1
  simp at e1 e2; omega
 ·obtain ⟨e1, e2⟩ := e 1 (by omega) _ h1
  simp at e1 e2; omega
 ·obtain ⟨e1, e2⟩ := e 2 (by omega) _ h1
  simp at e1 e2; omega
theorem arc_turn {size : Int} {it : Itm} (h : ArcMade size it) : turnOK it := by
 obtain ⟨r, k, t, g, x, h1, h2, h3, h4, h5, h6, h7, h8, h9, h10, h11, h12, h13⟩ := h.ends
 have hp := h.plane
 have a1 : dU it it.fr = rotU r k := by unfold dU; rw [h12, (pl_sp hp).1]; omega
 have a2 : dW it it.fr = rotW r k := by unfold dW; rw [h12, (pl_sp hp).2.1]; omega
 have a3 : dU it it.to = rotU (r + g) (k + t) := by unfold dU; rw [h12, h13, (pl_sp hp).1, (pl_sp hp).1]; omega
 have a4 : dW it it.to = rotW (r + g) (k + t) := by unfold dW; rw [h12, h13, (pl_sp hp).2.1, (pl_sp hp).2.1]; omega
 have q1 : qA it = r * r := by unfold qA; rw [a1, a2, rot_sq]
 have q2 : qB it = (r + g) * (r + g) := by unfold qB; rw [a3, a4, rot_sq]
 have m1 : 64 <= r * r := by
  have := Int.mul_le_mul h1 h1 (by omega) (by omega)
  omega
 have m2 : 64 <= (r + g) * (r + g) := by
  have := Int.mul_le_mul (show (8 : Int) <= r + g by omega) (show (8 : Int) <= r + g by omega) (by omega) (by omega)
  omega
 unfold turnOK
 refine ⟨by omega, by omega, ?_, ?_, ?_⟩
 ·rw [q1, q2]
  unfold nearQ
  right
  have hg : g * g <= 16 := by
   have := Int.mul_le_mul h8 h8 h7 (by omega)
   omega
  have e1 : r * r + (r + g) * (r + g) - 16 = 2 * (r * (r + g)) + (g * g - 16) := by grind
  have hpos : 0 <= r * (r + g) := Int.mul_nonneg (by omega) (by omega)
  have hge : 64 <= r * (r + g) := by
   have := Int.mul_le_mul h1 (show (8 : Int) <= r + g by omega) (by omega) (by omega)
   omega
  have hgg : 0 <= g * g := Int.mul_nonneg h7 h7
  have e2 : 4 * (r * r) * ((r + g) * (r + g)) = (2 * (r * (r + g))) * (2 * (r * (r + g))) := by grind
  rw [e1, e2]
  generalize 2 * (r * (r + g)) = m at *
  exact Int.mul_self_le_mul_self (by omega) (by omega)
 ·intro hf
  rw [h11] at hf
  have ht := of_decide_eq_true hf
  rw [a1, a2, a3, a4, ht, h10 ht, Int.add_zero, Int.add_zero]
  exact ⟨rfl, rfl⟩
 ·intro hf
  rw [h11] at hf
  have ht := of_decide_eq_false hf
  unfold cAB dAB
  rw [a1, a2, a3, a4]
  exact rot_turn (by omega) (by omega) (by omega)
end Go.Bm
/- the programmed speed of a motion -/
set_option maxRecDepth 100000
namespace Go.Bm
end Go.Bm
/- the reference's points of a motion -/
set_option maxRecDepth 100000
namespace Go.Bm

def it0 : Itm := ⟨0, 0, ⟨0, 0, 0⟩, ⟨0, 0, 0⟩, 0, ⟨0, 0, 0⟩, 0, false, 0, false, 0, 0, 0, 0, 0, false⟩
def itA (items : List Itm) (i : Nat) : Itm := items.getD i it0
def motI (it : Itm) : Prop := 1 <= it.kind /\ it.kind <= 6
def smI (it : Itm) : Prop := it.kind = 2 /\ it.fr ≠ it.to
def syI (it : Itm) : Prop := it.kind = 5 \/ it.kind = 6
instance (it : Itm) : Decidable (motI it) := by unfold motI; infer_instance
instance (it : Itm) : Decidable (smI it) := by unfold smI; infer_instance
instance (it : Itm) : Decidable (syI it) := by unfold syI; infer_instance
def drawn (it : Itm) : Prop := validI it /\ 0 <= it.blend /\ it.blend <= 1000
def frmOK (items : List Itm) (i : Nat) (frm : Int) : Prop := frm = -1 \/ ∃ f : Nat, frm = f /\ f < items.length /\ drawn (itA items f)
end Go.Bm
/- the reference's path of a list of items -/
set_option maxRecDepth 100000
namespace Go.Bm
open Classical

structure BSt where
 segs : List Sgm
 marks : List Mrk
 (len speed frm : Int)
 begun : Bool
 (start at_ : Pt)
structure BOK (items : List Itm) (i : Nat) (s : BSt) : Prop where
 segs : s.segs.length <= i * 65537
 marks : s.marks.length = i
 len : 0 <= s.len /\ s.len <= i * 65537 * 268435456
 speed : 0 <= s.speed /\ s.speed <= 30000
 frm : frmOK items i s.frm
 at_ : s.begun = true -> bd 67108864 s.at_
end Go.Bm
/- the maker's lists of items of all kinds -/
set_option maxRecDepth 100000
namespace Go.Bm
open Classical

structure Oth (it : Itm) : Prop where
 kind : 7 <= it.kind /\ it.kind <= 14
 spin : it.kind = 8 -> 3 <= it.n /\ it.n <= 5 /\ 0 <= it.speed /\ it.speed <= 4000
 dwell : it.kind = 7 -> 0 <= it.n /\ it.n <= 4
 out : it.kind = 10 -> 0 <= it.n /\ it.n <= 15
def Link : Pt -> List Itm -> Prop
 | _, [] => True
 | p, it :: l => if motI it then it.fr = p /\ Link it.to l else Link p l
structure Items (A : Nat) (p : Pt) (l : List Itm) : Prop where
 link : Link p l
 made : ∀ it ∈ l, (motI it /\ Made it /\ blank it /\ bd A it.fr /\ bd A it.to) \/ Oth it
end Go.Bm
/- the vertices of an arc's chords lie on the arc -/
set_option maxRecDepth 100000
namespace Go.Bm
open Classical

theorem pluck (xu xw mu mw qu qw yu yw dir : Int) : (crs qu qw yu yw * dir) * (crs xu xw mu mw * dir) = (crs qu qw mu mw * dir) * (crs xu xw yu yw * dir) + (crs xu xw qu qw * dir) * (crs mu mw yu yw * dir) := by unfold crs; grind
theorem pluck2 (xu xw mu mw qu qw yu yw dir : Int) : (crs xu xw qu qw * dir) * (crs mu mw yu yw * dir) = (crs xu xw mu mw * dir) * (crs qu qw yu yw * dir) + (crs xu xw yu yw * dir) * (crs mu mw qu qw * dir) := by unfold crs; grind
theorem nn_of_mul {a b : Int} (hb : 0 < b) (h : 0 <= a * b) : 0 <= a := by
 by_cases c : 0 <= a
 ·exact c
 ·have := Int.mul_neg_of_neg_of_pos (show a < 0 by omega) hb
  omega
structure Btw (x y q : Spk) : Prop where
 sp : Sp q
 r : mn x.r y.r <= q.r /\ q.r <= mx x.r y.r
 h : mn x.h y.h <= q.h /\ q.h <= mx x.h y.h
theorem btw_right {x y : Spk} (hy : Sp y) : Btw x y y := ⟨hy, by unfold mn mx; split <;> split <;> omega, by unfold mn mx; split <;> split <;> omega⟩
theorem btw_left {x y : Spk} (hx : Sp x) : Btw x y x := ⟨hx, by unfold mn mx; split <;> split <;> omega, by unfold mn mx; split <;> split <;> omega⟩
theorem hf_btw (a b : Int) : mn a b <= hf a b /\ hf a b <= mx a b := by unfold hf mn mx; split <;> split <;> omega
theorem btw_l {x m y q : Spk} (hr : m.r = hf x.r y.r) (hh : m.h = hf x.h y.h) (h : Btw x m q) : Btw x y q := by
 have h1 := hf_btw x.r y.r
 have h2 := hf_btw x.h y.h
 rw [<- hr] at h1
 rw [<- hh] at h2
 obtain ⟨s, r, hq⟩ := h
 refine ⟨s, ?_, ?_⟩
 ·unfold mn mx at *; split at * <;> split at * <;> split at * <;> omega
 ·unfold mn mx at *; split at * <;> split at * <;> split at * <;> omega
theorem btw_r {x m y q : Spk} (hr : m.r = hf x.r y.r) (hh : m.h = hf x.h y.h) (h : Btw m y q) : Btw x y q := by
 have h1 := hf_btw x.r y.r
 have h2 := hf_btw x.h y.h
 rw [<- hr] at h1
 rw [<- hh] at h2
 obtain ⟨s, r, hq⟩ := h
 refine ⟨s, ?_, ?_⟩
 ·unfold mn mx at *; split at * <;> split at * <;> split at * <;> omega
 ·unfold mn mx at *; split at * <;> split at * <;> split at * <;> omega
theorem half_d {x m y : Spk} (hr : m.r = hf x.r y.r) (h : ((x.r - y.r).natAbs : Int) <= 64) : ((x.r - m.r).natAbs : Int) <= 33 /\ ((m.r - y.r).natAbs : Int) <= 33 := by
 rw [hr]; unfold hf; omega
theorem cone_in {dir : Int} (hd : dir = 1 \/ dir = -1) : ∀ (k : Nat) {x y : Spk}, Sp x -> Sp y -> 0 < crs x.u x.w y.u y.w * dir -> (((x.r - y.r).natAbs : Int) <= 33 \/ (((x.r - y.r).natAbs : Int) <= 64 /\ dt2 x.u x.w y.u y.w <= 0)) ->
  ∀ q ∈ pcsL dir k false x y, Btw x y q /\ 0 <= crs x.u x.w q.u q.w * dir /\ 0 <= crs q.u q.w y.u y.w * dir
 | 0, x, y, _, hy, hX, _, q, hq => by
  unfold pcsL at hq
  rw [List.mem_singleton] at hq
  subst hq
  exact ⟨btw_right hy, by omega, by unfold crs; grind⟩
 | k + 1, x, y, hx, hy, hX, hD, q, hq => by
  unfold pcsL at hq
  by_cases c : setS x y dir false
  ·rw [if_pos c, List.mem_singleton] at hq
   subst hq
   exact ⟨btw_right hy, by omega, by unfold crs; grind⟩
  ·rw [if_neg c] at hq
   have h64 : ((x.r - y.r).natAbs : Int) <= 64 := by rcases hD with h | h <;> omega
   have hm : midOK x y dir (midS x y dir false) := by
    by_cases hdt : dt2 x.u x.w y.u y.w <= 0
    ·exact mid_across hd hx hy h64 hdt
    ·have h33 := hD.resolve_right (fun h => hdt h.2)
     refine mid_along hd hx hy (by omega) hX h33 ?_
     have : ¬ sq2 (x.u - y.u) (x.w - y.w) <= 32 * mn x.r y.r - 64 := fun h => c ⟨rfl, hX, h⟩
     omega
   obtain ⟨m1, m2, m3, m4, m5⟩ := hm
   generalize midS x y dir false = m at *
   obtain ⟨d1, d2⟩ := half_d m2 h64
   rcases List.mem_append.1 hq with hq | hq
   ·obtain ⟨g1, g2, g3⟩ := cone_in hd k hx m1 m4 (.inl d1) q hq
    refine ⟨btw_l m2 m3 g1, g2, nn_of_mul m4 ?_⟩
    rw [pluck]
    have a1 := Int.mul_nonneg g3 (Int.le_of_lt hX)
    have a2 := Int.mul_nonneg g2 (Int.le_of_lt m5)
    omega
   ·obtain ⟨g1, g2, g3⟩ := cone_in hd k m1 hy m5 (.inl d2) q hq
    refine ⟨btw_r m2 m3 g1, nn_of_mul m5 ?_, g3⟩
    rw [pluck2]
    have a1 := Int.mul_nonneg (Int.le_of_lt m4) g3
    have a2 := Int.mul_nonneg (Int.le_of_lt hX) g2
    omega
theorem wide_in {dir : Int} (hd : dir = 1 \/ dir = -1) (k : Nat) {x y : Spk} (hx : Sp x) (hy : Sp y) (h64 : ((x.r - y.r).natAbs : Int) <= 64) (hdt : dt2 x.u x.w y.u y.w <= 0) :
  ∀ q ∈ pcsL dir (k + 1) false x y, Btw x y q /\ passedP x.u x.w y.u y.w q.u q.w dir := by
 intro q hq
 by_cases hX : 0 < crs x.u x.w y.u y.w * dir
 ·obtain ⟨g1, g2, g3⟩ := cone_in hd (k + 1) hx hy hX (.inr ⟨h64, hdt⟩) q hq
  refine ⟨g1, ?_⟩
  unfold passedP
  rw [if_pos hX]
  exact ⟨g2, g3⟩
 ·unfold pcsL at hq
  rw [if_neg (fun c : setS x y dir false => hX c.2.1)] at hq
  obtain ⟨m1, m2, m3, m4, m5⟩ := mid_across hd hx hy h64 hdt
  generalize midS x y dir false = m at *
  obtain ⟨d1, d2⟩ := half_d m2 h64
  have key : Btw x y q /\ (0 <= crs x.u x.w q.u q.w * dir \/ 0 <= crs q.u q.w y.u y.w * dir) := by
   rcases List.mem_append.1 hq with hq | hq
   ·obtain ⟨g1, g2, g3⟩ := cone_in hd k hx m1 m4 (.inl d1) q hq
    exact ⟨btw_l m2 m3 g1, .inl g2⟩
   ·obtain ⟨g1, g2, g3⟩ := cone_in hd k m1 hy m5 (.inl d2) q hq
    exact ⟨btw_r m2 m3 g1, .inr g3⟩
  refine ⟨key.1, ?_⟩
  have k2 := key.2
  have e1 : crs y.u y.w q.u q.w = -crs q.u q.w y.u y.w := crs_swap _ _ _ _
  have e2 : crs q.u q.w x.u x.w = -crs x.u x.w q.u q.w := crs_swap _ _ _ _
  unfold passedP
  rw [if_neg hX]
  by_cases c : crs x.u x.w y.u y.w * dir = 0 /\ dt2 x.u x.w y.u y.w < 0
  ·rw [if_pos c]
   rcases k2 with k2 | k2
   ·exact k2
   ·have c0 : crs x.u x.w y.u y.w = 0 := by have := c.1; rcases hd with rfl | rfl <;> omega
    have i2 := id_dot y.u y.w x.u x.w q.u q.w
    rw [crs_swap x.u x.w y.u y.w, c0, e1, e2] at i2
    have hq2 : 0 < sq2 y.u y.w := by
     have := hy.norm.1
     have := hy.r
     have : 0 < (y.r - 1) * (y.r - 1) := Int.mul_pos (by omega) (by omega)
     omega
    have e3 : dt2 y.u y.w x.u x.w = dt2 x.u x.w y.u y.w := by unfold dt2; grind
    rw [e3] at i2
    refine nn_of_mul hq2 ?_
    have e4 : crs x.u x.w q.u q.w * dir * sq2 y.u y.w = -((crs q.u q.w y.u y.w * dir) * dt2 x.u x.w y.u y.w) := by
     have : crs x.u x.w q.u q.w * dir * sq2 y.u y.w = -(sq2 y.u y.w * -crs x.u x.w q.u q.w * dir) := by grind
     rw [this, <- i2]; grind
    rw [e4]
    have := Int.mul_nonpos_of_nonneg_of_nonpos k2 hdt
    omega
  ·rw [if_neg c]
   rcases k2 with k2 | k2
   ·right; rw [e2]; rw [Int.neg_mul]; omega
   ·left; rw [e1]; rw [Int.neg_mul]; omega
theorem near_exact {u R : Int} (hu : u.natAbs <= 100000000) (hR : 1 <= R /\ R <= 50000000) (hq : u * u <= R * R) : nearR u R (R * R) = u := by
 have hn : 0 < R * R := Int.mul_pos (by omega) (by omega)
 have hn2 : R * R <= 50000000 * 50000000 := Int.mul_self_le_mul_self (by omega) hR.2
 obtain ⟨j, e, h1, h2, h3⟩ := near_facts hu ⟨by omega, hR.2⟩ ⟨hn, by omega⟩ hq
 have k1 : (j : Int) <= u.natAbs := by
  rcases h1 with h1 | h1
  ·omega
  ·have : (2 * (j : Int) - 1) * R <= 2 * (u.natAbs * R) := by
    refine le_of_sq (Int.mul_nonneg (by omega) (Int.mul_nonneg (by omega) (by omega))) (Int.le_trans (Int.le_of_eq ?_) h1)
    grind
   have e3 : 2 * ((u.natAbs : Int) * R) = 2 * (u.natAbs : Int) * R := by grind
   rw [e3] at this
   have := Int.le_of_mul_le_mul_right this (by omega)
   omega
 have k2 : (u.natAbs : Int) <= j := by
  have : 2 * ((u.natAbs : Int) * R) <= (2 * (j : Int) + 1) * R := by
   refine le_of_sq (Int.mul_nonneg (by omega) (by omega)) (Int.le_trans h2 (Int.le_of_eq ?_))
   grind
  have e3 : 2 * ((u.natAbs : Int) * R) = 2 * (u.natAbs : Int) * R := by grind
  rw [e3] at this
  have := Int.le_of_mul_le_mul_right this (by omega)
  omega
 rw [e]
 split <;> omega
theorem full_in {dir : Int} (hd : dir = 1 \/ dir = -1) (k : Nat) {x y : Spk} (hx : Sp x) (hy : Sp y) (hu : y.u = x.u /\ y.w = x.w) (hr : y.r = x.r) (he : sq2 x.u x.w = x.r * x.r) :
  ∀ q ∈ pcsL dir (k + 2) true x y, Btw x y q := by
 intro q hq
 rw [pcsL] at hq
 rw [if_neg (fun c : setS x y dir true => by cases c.1)] at hq
 have hrx := hx.r
 have hpos : 0 < x.r * x.r := Int.mul_pos (by omega) (by omega)
 have h0 : ¬ (-x.u = 0 /\ -x.w = 0) := by
  rintro ⟨g1, g2⟩
  have a1 : x.u = 0 := by omega
  have a2 : x.w = 0 := by omega
  rw [a1, a2] at he
  unfold sq2 at he
  omega
 have hb := hx.ok
 obtain ⟨s1, s2⟩ := sp_mid hx hy (u := -x.u) (w := -x.w) (by have := hb.1; omega) (by have := hb.2.1; omega) h0
 have eN : sq2 (-x.u) (-x.w) = x.r * x.r := by rw [<- he]; unfold sq2; grind
 obtain ⟨q1, q2⟩ := sq2_sq (-x.u) (-x.w)
 rw [eN] at q1 q2
 have hhf : hf x.r y.r = x.r := by rw [hr]; unfold hf; omega
 have n1 := near_exact (u := -x.u) (R := x.r) (by have := hb.1; omega) ⟨by omega, hb.2.2.1.2⟩ q1
 have n2 := near_exact (u := -x.w) (R := x.r) (by have := hb.2.1; omega) ⟨by omega, hb.2.2.1.2⟩ q2
 rw [hhf, eN, n1, n2] at s2
 have eM : midS x y dir true = midOf x y (-x.u) (-x.w) := by
  unfold midS midD
  rw [if_pos rfl]
 rw [eM] at hq
 generalize midOf x y (-x.u) (-x.w) = m at *
 have mr : m.r = hf x.r y.r := by rw [s2, hhf]
 have mh : m.h = hf x.h y.h := by rw [s2]
 have hdt : dt2 x.u x.w m.u m.w <= 0 := by
  have : dt2 x.u x.w m.u m.w = -(x.r * x.r) := by rw [s2, <- he]; unfold dt2 sq2; grind
  omega
 have hdt2 : dt2 m.u m.w y.u y.w <= 0 := by
  have : dt2 m.u m.w y.u y.w = -(x.r * x.r) := by rw [s2, <- he, hu.1, hu.2]; unfold dt2 sq2; grind
  omega
 rcases List.mem_append.1 hq with hq | hq
 ·exact btw_l mr mh (wide_in hd k hx s1 (by rw [mr, hhf]; omega) hdt q hq).1
 ·exact btw_r mr mh (wide_in hd k s1 hy (by rw [mr, hhf, hr]; omega) hdt2 q hq).1
end Go.Bm
