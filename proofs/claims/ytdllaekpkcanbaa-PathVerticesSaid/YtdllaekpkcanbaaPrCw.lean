/- laid together -/
import Derived.Test.YtdllaekpkcanbaaPrV
import Derived.Test.YtdllaekpkcanbaaMx5
set_option linter.unusedVariables false
set_option linter.unusedSimpArgs false
/- which motions can be drawn: the program's answer -/
set_option maxRecDepth 100000
namespace Go.Bm

theorem s_curve_within (p : Pt) : m_curve_within [I p.x, I p.y, I p.z] = some [B (decide (bd 1048576 p))] := by
 unfold m_curve_within
 rw [mf_curve_within_eq]
 simp only [go_sem]
 by_cases h : bd 1048576 p
 ·obtain ⟨h1, h2, h3⟩ := h
  rw [if_neg (by omega), if_neg (by omega), if_neg (by omega), if_neg (by omega), if_neg (by omega), if_neg (by omega)]
  congr 3
  symm
  exact decide_eq_true ⟨h1, h2, h3⟩
 ·have e : decide (bd 1048576 p) = false := decide_eq_false h
  rw [e]
  unfold bd at h
  by_cases c1 : p.x < -1048576
  ·rw [if_pos c1]
  rw [if_neg c1]
  by_cases c2 : p.x > 1048576
  ·rw [if_pos c2]
  rw [if_neg c2]
  by_cases c3 : p.y < -1048576
  ·rw [if_pos c3]
  rw [if_neg c3]
  by_cases c4 : p.y > 1048576
  ·rw [if_pos c4]
  rw [if_neg c4]
  by_cases c5 : p.z < -1048576
  ·rw [if_pos c5]
  rw [if_neg c5, if_pos (by omega)]
def axI (pl : Int) : Int × Int × Int := if pl = 17 then (0, 1, 2) else if pl = 18 then (2, 0, 1) else if pl = 19 then (1, 2, 0) else (0, 0, 0)
theorem s_curve_axes (pl : Int) : m_curve_axes [I pl] = some [I (axI pl).1, I (axI pl).2.1, I (axI pl).2.2, B (decide (isPl pl))] := by
 unfold m_curve_axes
 rw [mf_curve_axes_eq]
 simp only [go_sem]
 unfold axI isPl
 by_cases h1 : pl = 17
 ·rw [if_pos h1, if_pos h1]; simp [h1]
 rw [if_neg h1, if_neg h1]
 by_cases h2 : pl = 18
 ·rw [if_pos h2, if_pos h2]; simp [h2]
 rw [if_neg h2, if_neg h2]
 by_cases h3 : pl = 19
 ·rw [if_pos h3, if_pos h3]; simp [h3]
 rw [if_neg h3, if_neg h3]; simp [h1, h2, h3]
theorem a_curve_Plane {M : List AC -> Option (List AC)} (hM : ∀ pl : Int, M [I pl] = some [I (axI pl).1, I (axI pl).2.1, I (axI pl).2.2, B (decide (isPl pl))]) {p : Pt} {pl : Int} (hp : isPl pl) :
  mf_curve_Plane M [I p.x, I p.y, I p.z, I pl] = some [I (plU pl p), I (plW pl p), I (plH pl p)] := by
 rw [mf_curve_Plane_eq]
 simp only [go_sem, hM]
 rw [if_neg (by simpa using hp)]
 rcases hp with rfl | rfl | rfl <;> rfl
theorem s_curve_Plane {p : Pt} {pl : Int} (hp : isPl pl) : m_curve_Plane [I p.x, I p.y, I p.z, I pl] = some [I (plU pl p), I (plW pl p), I (plH pl p)] := a_curve_Plane s_curve_axes hp
def fine (p : Pt) : Pt := ⟨p.x * 16, p.y * 16, p.z * 16⟩
theorem fine_bd {b : Nat} {p : Pt} (h : bd b p) : bd (b * 16) (fine p) := by
 obtain ⟨h1, h2, h3⟩ := h
 unfold fine
 exact ⟨by simp only; omega, by simp only; omega, by simp only; omega⟩
theorem pl_fine (pl : Int) (p : Pt) : plU pl (fine p) = plU pl p * 16 /\ plW pl (fine p) = plW pl p * 16 /\ plH pl (fine p) = plH pl p * 16 := by
 unfold plU plW plH fine
 refine ⟨?_, ?_, ?_⟩ <;> split <;> (try split) <;> rfl
theorem s_curve_scaled {p : Pt} (h : bd 100000000 p) : m_curve_scaled [I p.x, I p.y, I p.z] = some (ptR (fine p)) := by
 unfold m_curve_scaled
 rw [mf_curve_scaled_eq]
 obtain ⟨h1, h2, h3⟩ := h
 rw [wrap_id (by omega), wrap_id (by omega), wrap_id (by omega)]
 rfl
theorem s_Fine {p : Pt} (h : bd 100000000 p) : m_cncref23_Fine [I p.x, I p.y, I p.z] = some (ptR (fine p)) := by
 unfold m_cncref23_Fine
 rw [mf_cncref23_Fine_eq]
 obtain ⟨h1, h2, h3⟩ := h
 rw [wrap_id (by omega), wrap_id (by omega), wrap_id (by omega)]
 rfl
theorem s_curve_dot {u w r h x y s g : Int} (hu : u.natAbs <= 1000000000) (hw : w.natAbs <= 1000000000) (hx : x.natAbs <= 1000000000) (hy : y.natAbs <= 1000000000) : m_curve_dot [I u, I w, I r, I h, I x, I y, I s, I g] = some [I (dt2 u w x y)] := by
 unfold m_curve_dot
 rw [mf_curve_dot_eq]
 have h1 := mul_bd hu hx
 have h2 := mul_bd hw hy
 unfold dt2
 rw [wrap_id (x := u * x) (by omega), wrap_id (x := w * y) (by omega), wrap_id (by omega)]
theorem s_curve_cross {u w r h x y s g : Int} (hu : u.natAbs <= 1000000000) (hw : w.natAbs <= 1000000000) (hx : x.natAbs <= 1000000000) (hy : y.natAbs <= 1000000000) : m_curve_cross [I u, I w, I r, I h, I x, I y, I s, I g] = some [I (crs u w x y)] := by
 unfold m_curve_cross
 rw [mf_curve_cross_eq]
 have h1 := mul_bd hu hy
 have h2 := mul_bd hw hx
 unfold crs
 rw [wrap_id (x := u * y) (by omega), wrap_id (x := w * x) (by omega), wrap_id (by omega)]
theorem a_curve_near {M : List AC -> Option (List AC)} (hM : ∀ {a b c d : Int}, i64 a -> i64 b -> i64 c -> i64 d -> M [I a, I b, I c, I d] = some [I (cmpI (a * b) (c * d))]) {X Y : Int} (hX : 64 <= X /\ X <= 1000000000000000) (hY : 64 <= Y /\ Y <= 1000000000000000) :
  ∃ v, mf_curve_near M [I X, I Y] = some [B v] /\ (v = true ↔ nearQ X Y) := by
 rw [mf_curve_near_eq, near_core hX.1 hY.1]
 have hmx : mx X Y = max X Y := by unfold mx; rw [Int.max_def]; split <;> split <;> omega
 have hmn : mn X Y = min X Y := by unfold mn; rw [Int.min_def]; split <;> split <;> omega
 have hx1 : max X Y <= 1000000000000000 /\ 64 <= max X Y := by omega
 have hx2 : min X Y <= 1000000000000000 /\ 64 <= min X Y := by omega
 rw [hmx, hmn]
 generalize max X Y = a at *
 generalize min X Y = b at *
 simp only [go_sem]
 rw [wrap_id (x := a - b) (by omega), wrap_id (x := a - b - 16) (by omega)]
 by_cases c1 : a - b - 16 <= 0
 ·rw [if_pos c1]; exact ⟨_, rfl, iff_of_true rfl (.inl c1)⟩
 ·rw [if_neg c1, hM (by unfold i64; omega) (by unfold i64; omega) (by unfold i64; omega) (by unfold i64; omega)]
  refine ⟨_, rfl, ?_⟩
  simp only [go_sem, decide_eq_true_eq, cmpI_le]
  exact ⟨fun h => .inr h, fun h => h.resolve_left c1⟩
theorem s_curve_near {X Y : Int} (hX : 64 <= X /\ X <= 1000000000000000) (hY : 64 <= Y /\ Y <= 1000000000000000) : ∃ v, m_curve_near [I X, I Y] = some [B v] /\ (v = true ↔ nearQ X Y) := a_curve_near s_wide_Cmp hX hY

theorem a_curve_ends {MP MS : List AC -> Option (List AC)} {it : Itm} (hP : ∀ p : Pt, MP [I p.x, I p.y, I p.z, I it.plane] = some [I (plU it.plane p), I (plW it.plane p), I (plH it.plane p)]) (hS : ∀ {p : Pt}, bd 100000000 p -> MS [I p.x, I p.y, I p.z] = some (ptR (fine p)))
  (h1 : bd 1048576 it.fr) (h2 : bd 1048576 it.to) (h3 : bd 1048576 it.ce) :
  mf_curve_ends MP MS (loopC (st_curve_ends_4 MP MS)) (itmR it) = some [I (dU it it.fr * 16), I (dW it it.fr * 16), I 0, I (plH it.plane it.fr * 16), I (dU it it.to * 16), I (dW it it.to * 16), I 0, I (plH it.plane it.to * 16)] := by
 rw [mf_curve_ends_eq]
 obtain ⟨q1, q2, q3⟩ := pl_bd (pl := it.plane) h1
 obtain ⟨q4, q5, q6⟩ := pl_bd (pl := it.plane) h2
 obtain ⟨q7, q8, q9⟩ := pl_bd (pl := it.plane) h3
 simp only [hS (bd_mono h3 (by omega)), hP, go_sem]
 have w0 : IntKind.i64.wrap (0 + 1) = 1 := wrap_id (by omega)
 have w1 : IntKind.i64.wrap (1 + 1) = 2 := wrap_id (by omega)
 have f1 := pl_fine it.plane it.fr
 have f2 := pl_fine it.plane it.to
 have f3 := pl_fine it.plane it.ce
 have u1 : IntKind.i64.wrap (plU it.plane (fine it.fr) - plU it.plane (fine it.ce)) = dU it it.fr * 16 := by rw [f1.1, f3.1]; unfold dU; rw [wrap_id (by omega)]; omega
 have u2 : IntKind.i64.wrap (plW it.plane (fine it.fr) - plW it.plane (fine it.ce)) = dW it it.fr * 16 := by rw [f1.2.1, f3.2.1]; unfold dW; rw [wrap_id (by omega)]; omega
 have u3 : IntKind.i64.wrap (plU it.plane (fine it.to) - plU it.plane (fine it.ce)) = dU it it.to * 16 := by rw [f2.1, f3.1]; unfold dU; rw [wrap_id (by omega)]; omega
 have u4 : IntKind.i64.wrap (plW it.plane (fine it.to) - plW it.plane (fine it.ce)) = dW it it.to * 16 := by rw [f2.2.1, f3.2.1]; unfold dW; rw [wrap_id (by omega)]; omega
 have b1 : bd 100000000 it.fr := bd_mono h1 (by omega)
 have b2 : bd 100000000 it.to := bd_mono h2 (by omega)
 have e1 := hS b1
 have e2 := hS b2
 rw [loop_more (by rw [st_curve_ends_4_eq]; simp only [go_sem, e1, e2, hP, u1, u2, w0]; rfl), loop_more (by rw [st_curve_ends_4_eq]; simp only [go_sem, e1, e2, hP, u3, u4, w1]; rfl),
  loop_end (o := (1, _)) (by rw [st_curve_ends_4_eq]; simp only [go_sem]; rfl) (by simp)]
 simp only [go_sem, f1.2.2, f2.2.2]
theorem s_curve_ends {it : Itm} (hp : isPl it.plane) (h1 : bd 1048576 it.fr) (h2 : bd 1048576 it.to) (h3 : bd 1048576 it.ce) :
  m_curve_ends (itmR it) = some [I (dU it it.fr * 16), I (dW it it.fr * 16), I 0, I (plH it.plane it.fr * 16), I (dU it it.to * 16), I (dW it it.to * 16), I 0, I (plH it.plane it.to * 16)] :=
 a_curve_ends (fun _ => s_curve_Plane hp) s_curve_scaled h1 h2 h3

theorem cur_tail {MN : List AC -> Option (List AC)} {X Y C D au aw bu bw : Int} {full : Bool} (hX : 0 <= X /\ X <= 1000000000000000) (hY : 0 <= Y /\ Y <= 1000000000000000)
  (hN : ∀ {X Y : Int}, (64 <= X /\ X <= 1000000000000000) -> (64 <= Y /\ Y <= 1000000000000000) -> ∃ v, MN [I X, I Y] = some [B v] /\ (v = true ↔ nearQ X Y)) :
  ∃ v, (if X * 256 < IntKind.i64.wrap (128 * 128) then some [B false] else if Y * 256 < IntKind.i64.wrap (128 * 128) then some [B false] else
   (MN [I (IntKind.i64.wrap ((X * 256).tdiv 256)), I (IntKind.i64.wrap ((Y * 256).tdiv 256))]).bind fun o =>
   if ¬ boolOf (nth .dead o 0) = true then some [B false] else if full = true then if au * 16 = bu * 16 then some [B (aw * 16 == bw * 16)] else some [B false] else if C * 256 ≠ 0 then some [B true] else some [B (decide (D * 256 < 0))]) = some [B v] /\
   (v = true ↔ 64 <= X /\ 64 <= Y /\ nearQ X Y /\ (full = true -> au = bu /\ aw = bw) /\ (full = false -> C ≠ 0 \/ D < 0)) := by
 rw [wrap_id (x := 128 * 128) (by omega), Int.mul_tdiv_cancel _ (by omega), Int.mul_tdiv_cancel _ (by omega), wrap_id (x := X) (by omega), wrap_id (x := Y) (by omega)]
 by_cases c1 : X * 256 < 128 * 128
 ·rw [if_pos c1]; exact ⟨_, rfl, iff_of_false (by simp) fun h => by omega⟩
 rw [if_neg c1]
 by_cases c2 : Y * 256 < 128 * 128
 ·rw [if_pos c2]; exact ⟨_, rfl, iff_of_false (by simp) fun h => by omega⟩
 rw [if_neg c2]
 obtain ⟨v, h1, h2⟩ := hN (X := X) (Y := Y) (by omega) (by omega)
 simp only [h1, go_sem]
 by_cases c3 : v = true
 case neg => rw [if_pos c3]; exact ⟨_, rfl, iff_of_false (by simp) fun h => c3 (h2.2 h.2.2.1)⟩
 rw [if_neg (by simpa using c3)]
 have hn' := h2.1 c3
 cases full with
 | true =>
  rw [if_pos rfl]
  by_cases c4 : au * 16 = bu * 16
  ·rw [if_pos c4]; refine ⟨_, rfl, ?_⟩
   simp only [beq_iff_eq]
   exact ⟨fun h => ⟨by omega, by omega, hn', fun _ => ⟨by omega, by omega⟩, fun h => by simp at h⟩, fun h => by have := (h.2.2.2.1 trivial).2; omega⟩
  ·rw [if_neg c4]; exact ⟨_, rfl, iff_of_false (by simp) fun h => c4 (by have := (h.2.2.2.1 rfl).1; omega)⟩
 | false =>
  rw [if_neg (by simp)]
  by_cases c4 : C * 256 ≠ 0
  ·rw [if_pos c4]; exact ⟨_, rfl, iff_of_true rfl ⟨by omega, by omega, hn', fun h => by simp at h, fun _ => .inl (by omega)⟩⟩
  ·rw [if_neg c4]; refine ⟨_, rfl, ?_⟩
   simp only [decide_eq_true_eq]
   exact ⟨fun h => ⟨by omega, by omega, hn', fun h => by simp at h, fun _ => .inr (by omega)⟩, fun h => by have := (h.2.2.2.2 trivial); omega⟩
theorem dt2_16 (a b c d : Int) : dt2 (a * 16) (b * 16) (c * 16) (d * 16) = dt2 a b c d * 256 /\ crs (a * 16) (b * 16) (c * 16) (d * 16) = crs a b c d * 256 := by
 unfold dt2 crs
 constructor <;> grind
theorem a_curve_Valid {MC MN MD ME MA MW : List AC -> Option (List AC)} (hA : ∀ pl : Int, MA [I pl] = some [I (axI pl).1, I (axI pl).2.1, I (axI pl).2.2, B (decide (isPl pl))]) (hW : ∀ p : Pt, MW [I p.x, I p.y, I p.z] = some [B (decide (bd 1048576 p))])
  {it : Itm} (hE : isPl it.plane -> bd 1048576 it.fr -> bd 1048576 it.to -> bd 1048576 it.ce -> ME (itmR it) = some [I (dU it it.fr * 16), I (dW it it.fr * 16), I 0, I (plH it.plane it.fr * 16), I (dU it it.to * 16), I (dW it it.to * 16), I 0, I (plH it.plane it.to * 16)])
  (hD : ∀ {u w r h x y s g : Int}, u.natAbs <= 1000000000 -> w.natAbs <= 1000000000 -> x.natAbs <= 1000000000 -> y.natAbs <= 1000000000 -> MD [I u, I w, I r, I h, I x, I y, I s, I g] = some [I (dt2 u w x y)])
  (hX : ∀ {u w r h x y s g : Int}, u.natAbs <= 1000000000 -> w.natAbs <= 1000000000 -> x.natAbs <= 1000000000 -> y.natAbs <= 1000000000 -> MC [I u, I w, I r, I h, I x, I y, I s, I g] = some [I (crs u w x y)])
  (hN : ∀ {X Y : Int}, (64 <= X /\ X <= 1000000000000000) -> (64 <= Y /\ Y <= 1000000000000000) -> ∃ v, MN [I X, I Y] = some [B v] /\ (v = true ↔ nearQ X Y)) :
  ∃ v, mf_curve_Valid MC MN MD ME MA MW (itmR it) = some [B v] /\ (v = true ↔ validI it) := by
 rw [mf_curve_Valid_eq]
 simp only [go_sem, hW, hA]
 by_cases c1 : it.kind < 1
 ·rw [if_pos c1]; exact ⟨_, rfl, iff_of_false (by simp) fun h => by have := h.1; omega⟩
 rw [if_neg c1]
 by_cases c1' : it.kind > 6
 ·rw [if_pos c1']; exact ⟨_, rfl, iff_of_false (by simp) fun h => by have := h.1; omega⟩
 rw [if_neg c1']
 by_cases c2 : bd 1048576 it.fr
 case neg => rw [if_pos (by simpa using c2)]; exact ⟨_, rfl, iff_of_false (by simp) fun h => c2 h.2.1⟩
 rw [if_neg (by simpa using c2)]
 by_cases c3 : bd 1048576 it.to
 case neg => rw [if_pos (by simpa using c3)]; exact ⟨_, rfl, iff_of_false (by simp) fun h => c3 h.2.2.1⟩
 rw [if_neg (by simpa using c3)]
 by_cases c4 : it.kind = 3
 case neg => rw [if_pos c4]; exact ⟨_, rfl, iff_of_true rfl ⟨by omega, c2, c3, fun h => absurd h c4⟩⟩
 rw [if_neg (by simpa using c4)]
 by_cases c5 : isPl it.plane
 case neg => rw [if_pos (by simpa using c5)]; exact ⟨_, rfl, iff_of_false (by simp) fun h => c5 (h.2.2.2 c4).1⟩
 rw [if_neg (by simpa using c5)]
 by_cases c7 : bd 1048576 it.ce
 case neg =>
  refine ⟨false, ?_, iff_of_false (by simp) fun h => c7 (h.2.2.2 c4).2.2.1⟩
  split
  ·split
   ·rfl
   ·first | rfl | (rw [if_pos c7])
  ·first | rfl | (rw [if_pos c7])
 by_cases c6 : it.dir = 1 \/ it.dir = -1
 case neg =>
  rw [if_pos (c := it.dir ≠ 1) (by omega), if_pos (c := it.dir ≠ -1) (by omega)]
  exact ⟨false, rfl, iff_of_false (by simp) fun h => c6 (h.2.2.2 c4).2.1⟩
 have hE' := hE c5 c2 c3 c7
 obtain ⟨b1, b2⟩ := dU_bd (it := it) c7 c2
 obtain ⟨b3, b4⟩ := dU_bd (it := it) c7 c3
 simp only [itmR] at hE'
 have x1 := sq2_bd b1 b2
 have x2 := sq2_bd b3 b4
 have core : validI it ↔ 64 <= qA it /\ 64 <= qB it /\ nearQ (qA it) (qB it) /\ (it.full = true -> dU it it.fr = dU it it.to /\ dW it it.fr = dW it it.to) /\ (it.full = false -> cAB it ≠ 0 \/ dAB it < 0) :=
  ⟨fun h => (h.2.2.2 c4).2.2.2, fun h => ⟨by omega, c2, c3, fun _ => ⟨c5, c6, c7, h⟩⟩⟩
 rw [core]
 have x1' : 0 <= qA it /\ qA it <= 1000000000000000 := ⟨x1.1, by unfold qA; omega⟩
 have x2' : 0 <= qB it /\ qB it <= 1000000000000000 := ⟨x2.1, by unfold qB; omega⟩
 have D1 := @hD (dU it it.fr * 16) (dW it it.fr * 16) 0 (plH it.plane it.fr * 16) (dU it it.fr * 16) (dW it it.fr * 16) 0 (plH it.plane it.fr * 16) (by omega) (by omega) (by omega) (by omega)
 have D2 := @hD (dU it it.to * 16) (dW it it.to * 16) 0 (plH it.plane it.to * 16) (dU it it.to * 16) (dW it it.to * 16) 0 (plH it.plane it.to * 16) (by omega) (by omega) (by omega) (by omega)
 have D3 := @hD (dU it it.fr * 16) (dW it it.fr * 16) 0 (plH it.plane it.fr * 16) (dU it it.to * 16) (dW it it.to * 16) 0 (plH it.plane it.to * 16) (by omega) (by omega) (by omega) (by omega)
 have D4 := @hX (dU it it.fr * 16) (dW it it.fr * 16) 0 (plH it.plane it.fr * 16) (dU it it.to * 16) (dW it it.to * 16) 0 (plH it.plane it.to * 16) (by omega) (by omega) (by omega) (by omega)
 rw [(dt2_16 _ _ _ _).1] at D1 D2 D3
 rw [(dt2_16 _ _ _ _).2] at D4
 have e1 : dt2 (dU it it.fr) (dW it it.fr) (dU it it.fr) (dW it it.fr) = qA it := rfl
 have e2 : dt2 (dU it it.to) (dW it it.to) (dU it it.to) (dW it it.to) = qB it := rfl
 have e3 : dt2 (dU it it.fr) (dW it it.fr) (dU it it.to) (dW it it.to) = dAB it := rfl
 have e4 : crs (dU it it.fr) (dW it it.fr) (dU it it.to) (dW it it.to) = cAB it := rfl
 rw [e1] at D1
 rw [e2] at D2
 rw [e3] at D3
 rw [e4] at D4
 have T := @cur_tail MN (qA it) (qB it) (cAB it) (dAB it) (dU it it.fr) (dW it it.fr) (dU it it.to) (dW it it.to) it.full x1' x2' hN
 have n7 : ¬ ¬ bd 1048576 it.ce := fun h => h c7
 by_cases d1 : it.dir = 1
 ·rw [if_neg (c := it.dir ≠ 1) (fun h => h d1), if_neg n7]
  simp only [hE', go_sem, D1, D2, D3, D4]
  exact T
 ·rw [if_pos (c := it.dir ≠ 1) d1, if_neg (c := it.dir ≠ -1) (by omega), if_neg n7]
  simp only [hE', go_sem, D1, D2, D3, D4]
  exact T
theorem s_curve_Valid (it : Itm) : ∃ v, m_curve_Valid (itmR it) = some [B v] /\ (v = true ↔ validI it) :=
 a_curve_Valid s_curve_axes s_curve_within (fun h1 h2 h3 h4 => s_curve_ends h1 h2 h3 h4) s_curve_dot s_curve_cross s_curve_near

end Go.Bm
/- the reference's spokes: the middle of a piece, the pieces of an arc, its chords -/
set_option maxRecDepth 100000
namespace Go.Bm

def okS (s : Spk) : Prop := s.u.natAbs <= 50000000 /\ s.w.natAbs <= 50000000 /\ (0 <= s.r /\ s.r <= 50000000) /\ s.h.natAbs <= 16777216
def hf (a b : Int) : Int := (a + b + 1) / 2
def midD (a b : Spk) (dir : Int) (full : Bool) : Int × Int :=
 if full = true then (-a.u, -a.w)
 else if 0 < dt2 a.u a.w b.u b.w /\ 0 < crs a.u a.w b.u b.w * dir then (a.u + b.u, a.w + b.w)
 else if 0 < dt2 a.u a.w b.u b.w then (-(a.u + b.u), -(a.w + b.w))
 else (dir * (b.w - a.w), dir * (a.u - b.u))
noncomputable def midOf (a b : Spk) (u w : Int) : Spk := if u = 0 /\ w = 0 then ⟨0, 0, 0, 0⟩ else ⟨nearR u (hf a.r b.r) (sq2 u w), nearR w (hf a.r b.r) (sq2 u w), hf a.r b.r, hf a.h b.h⟩
noncomputable def midS (a b : Spk) (dir : Int) (full : Bool) : Spk := midOf a b (midD a b dir full).1 (midD a b dir full).2
theorem midD_bd {a b : Spk} (ha : okS a) (hb : okS b) {dir : Int} (hd : dir = 1 \/ dir = -1) (full : Bool) : (midD a b dir full).1.natAbs <= 100000000 /\ (midD a b dir full).2.natAbs <= 100000000 := by
 obtain ⟨a1, a2, -⟩ := ha
 obtain ⟨b1, b2, -⟩ := hb
 unfold midD
 split
 ·exact ⟨by simp only; omega, by simp only; omega⟩
 ·split
  ·exact ⟨by simp only; omega, by simp only; omega⟩
  ·split
   ·exact ⟨by simp only; omega, by simp only; omega⟩
   ·rcases hd with rfl | rfl
    ·exact ⟨by simp only; omega, by simp only; omega⟩
    ·exact ⟨by simp only; omega, by simp only; omega⟩
theorem sq2_sq (u w : Int) : u * u <= sq2 u w /\ w * w <= sq2 u w := by
 have h1 := sq_nn u
 have h2 := sq_nn w
 unfold sq2
 omega
theorem sq2_pos {u w : Int} (h : ¬ (u = 0 /\ w = 0)) : 0 < sq2 u w := by
 have h1 := sq_nn u
 have h2 := sq_nn w
 have z : ∀ u : Int, u * u = 0 -> u = 0 := fun u hu => by
  rcases Int.mul_eq_zero.1 hu with h | h <;> exact h
 have h3 : ¬ (u * u = 0 /\ w * w = 0) := fun h4 => h ⟨z _ h4.1, z _ h4.2⟩
 unfold sq2
 omega
theorem hf_bd {a b : Int} (ha : 0 <= a /\ a <= 50000000) (hb : 0 <= b /\ b <= 50000000) : 0 <= hf a b /\ hf a b <= 50000000 := by unfold hf; omega
theorem hf_bd2 {a b : Int} (ha : a.natAbs <= 16777216) (hb : b.natAbs <= 16777216) : (hf a b).natAbs <= 16777216 := by unfold hf; omega
theorem near_S {u w r : Int} (hu : u.natAbs <= 100000000) (hw : w.natAbs <= 100000000) (hr : 0 <= r /\ r <= 50000000) (h : ¬ (u = 0 /\ w = 0)) :
  (m_cncref23_Near [I u, I r, I (sq2 u w)] = some [I (nearR u r (sq2 u w))] /\ (nearR u r (sq2 u w)).natAbs <= r.natAbs) /\ (m_cncref23_Near [I w, I r, I (sq2 u w)] = some [I (nearR w r (sq2 u w))] /\ (nearR w r (sq2 u w)).natAbs <= r.natAbs) := by
 have hp := sq2_pos h
 have h1 := sq_bd hu
 have h2 := sq_bd hw
 have h3 : sq2 u w <= 20000000000000000 := by unfold sq2; omega
 obtain ⟨q1, q2⟩ := sq2_sq u w
 have key : ∀ x : Int, x.natAbs <= 100000000 -> x * x <= sq2 u w -> m_cncref23_Near [I x, I r, I (sq2 u w)] = some [I (nearR x r (sq2 u w))] /\ (nearR x r (sq2 u w)).natAbs <= r.natAbs := by
  intro x hx hq
  obtain ⟨g1, -, g3⟩ := s_cncref23_Near (x := x) (r := r) (n := sq2 u w) (Nat.le_trans hx (by decide)) (by omega) (by omega) hq
  refine ⟨g1, isRnd_le (by omega) ?_ g3⟩
  have : ((x.natAbs * x.natAbs : Nat) : Int) = x * x := Int.natAbs_mul_self
  omega
 exact ⟨key u hu q1, key w hw q2⟩
theorem midOf_ok {a b : Spk} (ha : okS a) (hb : okS b) {u w : Int} (hu : u.natAbs <= 100000000) (hw : w.natAbs <= 100000000) : okS (midOf a b u w) := by
 unfold midOf
 split
 ·exact ⟨by simp, by simp, by simp, by simp⟩
 ·rename_i h
  have hr := hf_bd ha.2.2.1 hb.2.2.1
  obtain ⟨⟨-, n1⟩, -, n2⟩ := near_S hu hw hr h
  exact ⟨by simp only; omega, by simp only; omega, hr, hf_bd2 ha.2.2.2 hb.2.2.2⟩
theorem midS_ok {a b : Spk} (ha : okS a) (hb : okS b) {dir : Int} (hd : dir = 1 \/ dir = -1) (full : Bool) : okS (midS a b dir full) :=
 midOf_ok ha hb (midD_bd ha hb hd full).1 (midD_bd ha hb hd full).2
theorem dir_nat {x : Int} (h : x.natAbs <= 50000000) : x.natAbs <= 1000000000 := Nat.le_trans h (by decide)
def setS (a b : Spk) (dir : Int) (full : Bool) : Prop := full = false /\ 0 < crs a.u a.w b.u b.w * dir /\ sq2 (a.u - b.u) (a.w - b.w) <= 32 * mn a.r b.r - 64
instance {a b : Spk} {dir : Int} {full : Bool} : Decidable (setS a b dir full) := by unfold setS; infer_instance
noncomputable def pcsL (dir : Int) : Nat -> Bool -> Spk -> Spk -> List Spk
 | 0, _, _, b => [b]
 | k + 1, full, a, b => if setS a b dir full then [b] else pcsL dir k false a (midS a b dir full) ++ pcsL dir k false (midS a b dir full) b
theorem pcsL_len {dir : Int} : ∀ (k : Nat) (full : Bool) (a b : Spk), 1 <= (pcsL dir k full a b).length /\ (pcsL dir k full a b).length <= 2 ^ k
 | 0, _, _, b => by simp [pcsL]
 | k + 1, full, a, b => by
  have hp : 0 < 2 ^ k := Nat.two_pow_pos _
  have e3 : 2 ^ (k + 1) = 2 ^ k + 2 ^ k := by rw [Nat.pow_succ]; omega
  unfold pcsL
  split
  ·simp; omega
  ·have h1 := pcsL_len k false a (midS a b dir full) (dir := dir)
   have h2 := pcsL_len k false (midS a b dir full) b (dir := dir)
   rw [List.length_append]
   omega
theorem pcsL_ok {dir : Int} (hd : dir = 1 \/ dir = -1) : ∀ (k : Nat) (full : Bool) {a b : Spk}, okS a -> okS b -> ∀ s ∈ pcsL dir k full a b, okS s
 | 0, _, a, b, _, hb, s, hs => by simp [pcsL] at hs; subst hs; exact hb
 | k + 1, full, a, b, ha, hb, s, hs => by
  unfold pcsL at hs
  have hm := midS_ok ha hb hd full
  split at hs
  ·simp at hs; subst hs; exact hb
  ·rcases List.mem_append.1 hs with hs | hs
   ·exact pcsL_ok hd k false ha hm s hs
   ·exact pcsL_ok hd k false hm hb s hs
end Go.Bm
/- the reference's chords -/
set_option maxRecDepth 100000
namespace Go.Bm

theorem isMid_unique {n i j : Int} (hi : IsMid n i) (hj : IsMid n j) : i = j := by
 have key : ∀ {i j : Int}, IsMid n i -> IsMid n j -> ¬ i < j := by
  rintro i j ⟨h1, h2, -⟩ ⟨h4, h5, h6⟩ hlt
  rcases h6 with h6 | h6
  ·omega
  ·have h7 := Int.mul_le_mul (show i <= j - 1 by omega) (show i + 1 <= j by omega) (by omega) (by omega)
   omega
 have h1 := key hi hj
 have h2 := key hj hi
 omega
open Classical in
noncomputable def midR (n : Int) : Int := if h : ∃ j, IsMid n j then Classical.choose h else 0
theorem midR_of {n k : Int} (h : IsMid n k) : midR n = k := by
 have hx : ∃ j, IsMid n j := ⟨k, h⟩
 unfold midR
 rw [dif_pos hx]
 exact isMid_unique (Classical.choose_spec hx) h
theorem isMid_nat {n r : Nat} (h1 : r * r <= n) (h2 : n < (r + 1) * (r + 1)) : IsMid n (if r * r + r < n then r + 1 else r : Nat) := by
 have e0 : (r + 1) * (r + 1) = r * r + r + r + 1 := by grind
 unfold IsMid
 by_cases c : r * r + r < n
 ·rw [if_pos c]
  have e1 : ((r + 1 : Nat) : Int) * (((r + 1 : Nat) : Int) + 1) = ((r * r + r + r + r + 2 : Nat) : Int) := by
   have : ((r + 1 : Nat) : Int) + 1 = ((r + 2 : Nat) : Int) := by omega
   rw [this, <- Int.natCast_mul]
   congr 1
   grind
  have e2 : (((r + 1 : Nat) : Int) - 1) * ((r + 1 : Nat) : Int) = ((r * r + r : Nat) : Int) := by
   rw [show ((r + 1 : Nat) : Int) - 1 = (r : Int) by omega, <- Int.natCast_mul]
   congr 1
  rw [e1, e2]
  generalize r * r = A at *
  exact ⟨by omega, by omega, .inr (by omega)⟩
 ·rw [if_neg c]
  have e1 : (r : Int) * ((r : Int) + 1) = ((r * r + r : Nat) : Int) := by
   rw [show (r : Int) + 1 = ((r + 1 : Nat) : Int) by omega, <- Int.natCast_mul]
   congr 1
  rw [e1]
  refine ⟨by omega, by omega, ?_⟩
  rcases Nat.eq_zero_or_pos r with h | h
  ·left; omega
  ·right
   have e2 : ((r : Int) - 1) * (r : Int) = (((r - 1) * r : Nat) : Int) := by
    rw [show (r : Int) - 1 = ((r - 1 : Nat) : Int) by omega]; exact (Int.natCast_mul _ _).symm
   have := Nat.mul_lt_mul_of_pos_right (show r - 1 < r by omega) h
   rw [e2]; omega
noncomputable def endS (it : Itm) (p : Pt) : Spk := ⟨dU it p * 16, dW it p * 16, midR (sq2 (dU it p * 16) (dW it p * 16)), plH it.plane p * 16⟩
theorem mid_bd {n : Nat} (hn : n <= 2251799813685248) : 0 <= midR n /\ midR n <= 50000000 := by
 obtain ⟨r, -, h2, h3, -⟩ := s_cncref23_root (n := n) (by omega)
 have hm := isMid_nat h2 h3
 rw [midR_of hm]
 have : r < 50000000 := by
  by_cases c : r < 50000000
  ·exact c
  ·have := Nat.mul_le_mul (show 50000000 <= r by omega) (show 50000000 <= r by omega)
   omega
 split <;> omega
theorem endS_sq {it : Itm} {p : Pt} (hc : bd 1048576 it.ce) (hp : bd 1048576 p) : (dU it p * 16).natAbs <= 33554432 /\ (dW it p * 16).natAbs <= 33554432 /\ 0 <= sq2 (dU it p * 16) (dW it p * 16) /\ sq2 (dU it p * 16) (dW it p * 16) <= 2251799813685248 := by
 obtain ⟨h1, h2⟩ := dU_bd hc hp
 have h3 : (dU it p * 16).natAbs <= 33554432 := by omega
 have h4 : (dW it p * 16).natAbs <= 33554432 := by omega
 have q1 := sq_bd h3
 have q2 := sq_bd h4
 refine ⟨h3, h4, ?_⟩
 unfold sq2
 omega
theorem endS_ok {it : Itm} {p : Pt} (hc : bd 1048576 it.ce) (hp : bd 1048576 p) : okS (endS it p) := by
 obtain ⟨h1, h2, h3, h4⟩ := endS_sq hc hp
 have h5 := (pl_bd (pl := it.plane) hp).2.2
 obtain ⟨n, hn⟩ := Int.eq_ofNat_of_zero_le h3
 refine ⟨Nat.le_trans h1 (by decide), Nat.le_trans h2 (by decide), ?_, ?_⟩
 ·show 0 <= midR _ /\ midR _ <= _
  rw [hn] at h4 ⊢
  exact mid_bd (by omega)
 ·show (plH it.plane p * 16).natAbs <= _
  omega
noncomputable def spokesP (it : Itm) : List Spk := endS it it.fr :: pcsL it.dir 16 it.full (endS it it.fr) (endS it it.to)
theorem spokesP_ok {it : Itm} (h : validI it) (h3 : it.kind = 3) : ∀ s ∈ spokesP it, okS s := by
 obtain ⟨-, h1, h2, ha⟩ := h
 obtain ⟨hp, hd, hc, -⟩ := ha h3
 intro s hs
 rcases List.mem_cons.1 hs with rfl | hs
 ·exact endS_ok hc h1
 ·exact pcsL_ok hd 16 _ (endS_ok hc h1) (endS_ok hc h2) s hs
theorem spokesP_len (it : Itm) : 2 <= (spokesP it).length /\ (spokesP it).length <= 65537 := by
 have := pcsL_len (dir := it.dir) 16 it.full (endS it it.fr) (endS it it.to)
 have e : (2 : Nat) ^ 16 = 65536 := rfl
 rw [e] at this
 unfold spokesP
 rw [List.length_cons]
 omega
noncomputable def chPt (it : Itm) (s : Spk) : Pt := spP it.plane (plU it.plane (fine it.ce) + s.u) (plW it.plane (fine it.ce) + s.w) s.h
noncomputable def chordsP (it : Itm) : List Pt := if it.kind = 3 then (spokesP it).map (chPt it) else [fine it.fr, fine it.to]
theorem sp_bd {pl u w h : Int} {b : Nat} (hu : u.natAbs <= b) (hw : w.natAbs <= b) (hh : h.natAbs <= b) : bd b (spP pl u w h) := by
 unfold spP bd
 split
 ·exact ⟨hu, hw, hh⟩
 ·split
  ·exact ⟨hw, hh, hu⟩
  ·exact ⟨hh, hu, hw⟩
theorem chPt_bd {it : Itm} {s : Spk} (hc : bd 1048576 it.ce) (hs : okS s) : bd 67108864 (chPt it s) := by
 obtain ⟨h1, h2, -⟩ := pl_bd (pl := it.plane) (fine_bd hc)
 obtain ⟨s1, s2, -, s4⟩ := hs
 exact sp_bd (by omega) (by omega) (by omega)
theorem chordsP_bd {it : Itm} (h : validI it) : ∀ p ∈ chordsP it, bd 67108864 p := by
 intro p hp
 unfold chordsP at hp
 split at hp
 ·rename_i h3
  simp only [List.mem_map] at hp
  obtain ⟨s, hs, rfl⟩ := hp
  exact chPt_bd (h.2.2.2 h3).2.2.1 (spokesP_ok h h3 s hs)
 ·simp at hp
  rcases hp with rfl | rfl
  ·exact bd_mono (fine_bd h.2.1) (by decide)
  ·exact bd_mono (fine_bd h.2.2.1) (by decide)
theorem chordsP_len (it : Itm) : 2 <= (chordsP it).length /\ (chordsP it).length <= 65537 := by
 have := spokesP_len it
 unfold chordsP
 split <;> simp <;> omega
end Go.Bm
/- the program's lengths, spokes and chords: they are the reference's -/
set_option maxRecDepth 100000
namespace Go.Bm

theorem sq_wrap {a b : Pt} (ha : bd 67108864 a) (hb : bd 67108864 b) :
    IntKind.i64.wrap (IntKind.i64.wrap (IntKind.i64.wrap (0 + IntKind.i64.wrap (IntKind.i64.wrap (a.x - b.x) * IntKind.i64.wrap (a.x - b.x))) + IntKind.i64.wrap (IntKind.i64.wrap (a.y - b.y) * IntKind.i64.wrap (a.y - b.y))) + IntKind.i64.wrap (IntKind.i64.wrap (a.z - b.z) * IntKind.i64.wrap (a.z - b.z))) = sqD a b := by
  have h : ∀ x y : Int, x.natAbs <= 67108864 -> y.natAbs <= 67108864 -> 0 <= (x - y) * (x - y) /\ (x - y) * (x - y) <= 18014398509481984 := by
    intro x y hx hy
    exact sq_bd (x := x - y) (A := 134217728) (by omega)
  have h1 := h _ _ ha.1 hb.1
  have h2 := h _ _ ha.2.1 hb.2.1
  have h3 := h _ _ ha.2.2 hb.2.2
  obtain ⟨a1, a2, a3⟩ := ha
  obtain ⟨b1, b2, b3⟩ := hb
  rw [wrap_id (x := a.x - b.x) (by omega), wrap_id (x := a.y - b.y) (by omega), wrap_id (x := a.z - b.z) (by omega)]
  unfold sqD dotP subP
  simp only
  generalize (a.x - b.x) * (a.x - b.x) = u at *
  generalize (a.y - b.y) * (a.y - b.y) = v at *
  generalize (a.z - b.z) * (a.z - b.z) = w at *
  rw [wrap_id (x := u) (by omega), wrap_id (x := 0 + u) (by omega), wrap_id (x := v) (by omega), wrap_id (x := 0 + u + v) (by omega), wrap_id (x := w) (by omega), wrap_id (by omega), Int.zero_add]
theorem a_curve_Length {M : List AC -> Option (List AC)} {a b : Pt} {n : Nat} (ha : bd 67108864 a) (hb : bd 67108864 b) (hn : sqD a b = n)
    (hM : ∃ r : Nat, M [I n, I 1] = some [I ((if ((1 : Int) = 1 /\ r * r < n) \/ ((1 : Int) = 2 /\ r * r + r < n) then r + 1 else r : Nat) : Int), B true] /\ r * r <= n /\ n < (r + 1) * (r + 1)) :
    mf_curve_Length M [I a.x, I a.y, I a.z, I b.x, I b.y, I b.z] = some [I (lenP a b)] := by
  obtain ⟨r, h1, h2, h3⟩ := hM
  have hu := isUp_nat h2 h3
  rw [mf_curve_Length_eq, sq_wrap ha hb, hn]
  simp only [go_sem, h1]
  unfold lenP
  rw [hn, upR_of hu]
  congr 3
  by_cases c : r * r < n
  · rw [if_pos (.inl ⟨trivial, c⟩), if_pos c]
  · rw [if_neg (by simp [c]), if_neg c]
theorem s_curve_Length {a b : Pt} (ha : bd 67108864 a) (hb : bd 67108864 b) : m_curve_Length [I a.x, I a.y, I a.z, I b.x, I b.y, I b.z] = some [I (lenP a b)] := by
  have h0 := sqD_nn a b
  have h1 := sqD_le ha hb (Nat.le_refl _)
  obtain ⟨n, hn⟩ := Int.eq_ofNat_of_zero_le h0
  exact a_curve_Length ha hb hn (s_wide_Sqrt (by omega) (.inl rfl))

theorem mid_tailC {MO : List AC -> Option (List AC)} {a b : Spk} {u w : Int} (ha : okS a) (hb : okS b) (hu : u.natAbs <= 100000000) (hw : w.natAbs <= 100000000)
    (hO : ¬ (u = 0 /\ w = 0) -> MO [I u, I (hf a.r b.r), I (sq2 u w), I 2] = some [I (nearR u (hf a.r b.r) (sq2 u w)), B true] /\ MO [I w, I (hf a.r b.r), I (sq2 u w), I 2] = some [I (nearR w (hf a.r b.r) (sq2 u w)), B true]) :
    (bif u == 0 then
      bif w == 0 then some [AC.int IntKind.i64 0, AC.int IntKind.i64 0, AC.int IntKind.i64 0, AC.int IntKind.i64 0, AC.bool false]
      else (MO [AC.int IntKind.i64 u, AC.int IntKind.i64 ((IntKind.i64.wrap (IntKind.i64.wrap (a.r + b.r) + 1)).fdiv (2 ^ min (Int.toNat 1) IntKind.i64.bits)), AC.int IntKind.i64 (IntKind.i64.wrap (IntKind.i64.wrap (u * u) + IntKind.i64.wrap (w * w))), AC.int IntKind.i64 2]).bind fun o36 =>
       (MO [AC.int IntKind.i64 w, AC.int IntKind.i64 ((IntKind.i64.wrap (IntKind.i64.wrap (a.r + b.r) + 1)).fdiv (2 ^ min (Int.toNat 1) IntKind.i64.bits)), AC.int IntKind.i64 (IntKind.i64.wrap (IntKind.i64.wrap (u * u) + IntKind.i64.wrap (w * w))), AC.int IntKind.i64 2]).bind fun o37 =>
       some [AC.int IntKind.i64 (intOf (nth AC.dead o36 0)), AC.int IntKind.i64 (intOf (nth AC.dead o37 0)), AC.int IntKind.i64 ((IntKind.i64.wrap (IntKind.i64.wrap (a.r + b.r) + 1)).fdiv (2 ^ min (Int.toNat 1) IntKind.i64.bits)), AC.int IntKind.i64 ((IntKind.i64.wrap (IntKind.i64.wrap (a.h + b.h) + 1)).fdiv (2 ^ min (Int.toNat 1) IntKind.i64.bits)), AC.bool true]
     else (MO [AC.int IntKind.i64 u, AC.int IntKind.i64 ((IntKind.i64.wrap (IntKind.i64.wrap (a.r + b.r) + 1)).fdiv (2 ^ min (Int.toNat 1) IntKind.i64.bits)), AC.int IntKind.i64 (IntKind.i64.wrap (IntKind.i64.wrap (u * u) + IntKind.i64.wrap (w * w))), AC.int IntKind.i64 2]).bind fun o36 =>
       (MO [AC.int IntKind.i64 w, AC.int IntKind.i64 ((IntKind.i64.wrap (IntKind.i64.wrap (a.r + b.r) + 1)).fdiv (2 ^ min (Int.toNat 1) IntKind.i64.bits)), AC.int IntKind.i64 (IntKind.i64.wrap (IntKind.i64.wrap (u * u) + IntKind.i64.wrap (w * w))), AC.int IntKind.i64 2]).bind fun o37 =>
       some [AC.int IntKind.i64 (intOf (nth AC.dead o36 0)), AC.int IntKind.i64 (intOf (nth AC.dead o37 0)), AC.int IntKind.i64 ((IntKind.i64.wrap (IntKind.i64.wrap (a.r + b.r) + 1)).fdiv (2 ^ min (Int.toNat 1) IntKind.i64.bits)), AC.int IntKind.i64 ((IntKind.i64.wrap (IntKind.i64.wrap (a.h + b.h) + 1)).fdiv (2 ^ min (Int.toNat 1) IntKind.i64.bits)), AC.bool true]) =
    some (spkR (midOf a b u w) ++ [B (decide (¬ (u = 0 /\ w = 0)))]) := by
  have q1 := sq_bd hu
  have q2 := sq_bd hw
  have e : IntKind.i64.wrap (IntKind.i64.wrap (u * u) + IntKind.i64.wrap (w * w)) = sq2 u w := by
    unfold sq2
    generalize u * u = x at *
    generalize w * w = y at *
    rw [wrap_id (x := x) (by omega), wrap_id (x := y) (by omega), wrap_id (by omega)]
  have er : (IntKind.i64.wrap (IntKind.i64.wrap (a.r + b.r) + 1)).fdiv (2 ^ min (Int.toNat 1) IntKind.i64.bits) = hf a.r b.r := by
    have h1 := ha.2.2.1
    have h2 := hb.2.2.1
    rw [wrap_id (x := a.r + b.r) (by omega), wrap_id (x := a.r + b.r + 1) (by omega), show (2 ^ min (Int.toNat 1) IntKind.i64.bits : Int) = 2 from rfl, Int.fdiv_eq_ediv_of_nonneg _ (by omega)]
    rfl
  have eh : (IntKind.i64.wrap (IntKind.i64.wrap (a.h + b.h) + 1)).fdiv (2 ^ min (Int.toNat 1) IntKind.i64.bits) = hf a.h b.h := by
    have h1 := ha.2.2.2
    have h2 := hb.2.2.2
    rw [wrap_id (x := a.h + b.h) (by omega), wrap_id (x := a.h + b.h + 1) (by omega), show (2 ^ min (Int.toNat 1) IntKind.i64.bits : Int) = 2 from rfl, Int.fdiv_eq_ediv_of_nonneg _ (by omega)]
    rfl
  simp only [er, eh, e]
  simp only [go_sem]
  unfold midOf
  by_cases h : u = 0 /\ w = 0
  · rw [if_pos h.1, if_pos h.2, if_pos h]
    simp [h]
  · obtain ⟨n1, n2⟩ := hO h
    rw [if_neg h]
    simp only [n1, n2, go_sem]
    have hd : decide (¬ (u = 0 /\ w = 0)) = true := decide_eq_true h
    rw [hd]
    by_cases hu0 : u = 0
    · rw [if_pos hu0, if_neg (fun hw0 => h ⟨hu0, hw0⟩)]; rfl
    · rw [if_neg hu0]; rfl
theorem a_curve_Middle {MO MC MD : List AC -> Option (List AC)} {a b : Spk} (ha : okS a) (hb : okS b) {dir : Int} (hd : dir = 1 \/ dir = -1) (full : Bool)
    (hO : ∀ {u w : Int}, u.natAbs <= 100000000 -> w.natAbs <= 100000000 -> ¬ (u = 0 /\ w = 0) -> MO [I u, I (hf a.r b.r), I (sq2 u w), I 2] = some [I (nearR u (hf a.r b.r) (sq2 u w)), B true] /\ MO [I w, I (hf a.r b.r), I (sq2 u w), I 2] = some [I (nearR w (hf a.r b.r) (sq2 u w)), B true])
    (hC : MC [I a.u, I a.w, I a.r, I a.h, I b.u, I b.w, I b.r, I b.h] = some [I (crs a.u a.w b.u b.w)]) (hD : MD [I a.u, I a.w, I a.r, I a.h, I b.u, I b.w, I b.r, I b.h] = some [I (dt2 a.u a.w b.u b.w)])
    (hcb : (crs a.u a.w b.u b.w).natAbs <= 5000000000000000) :
    mf_curve_Middle MO MC MD [I a.u, I a.w, I a.r, I a.h, I b.u, I b.w, I b.r, I b.h, I dir, B full] = some (spkR (midS a b dir full) ++ [B (decide (¬ ((midD a b dir full).1 = 0 /\ (midD a b dir full).2 = 0)))]) := by
  have key := fun {u w : Int} (hu : u.natAbs <= 100000000) (hw : w.natAbs <= 100000000) => mid_tailC (MO := MO) (a := a) (b := b) ha hb hu hw (hO hu hw)
  have hbd := midD_bd ha hb hd full
  obtain ⟨a1, a2, -⟩ := ha
  obtain ⟨b1, b2, -⟩ := hb
  have w1 : IntKind.i64.wrap (0 - a.u) = -a.u := by rw [wrap_id (by omega)]; omega
  have w2 : IntKind.i64.wrap (0 - a.w) = -a.w := by rw [wrap_id (by omega)]; omega
  have w3 : IntKind.i64.wrap (a.u + b.u) = a.u + b.u := wrap_id (by omega)
  have w4 : IntKind.i64.wrap (a.w + b.w) = a.w + b.w := wrap_id (by omega)
  have w5 : IntKind.i64.wrap (0 - (a.u + b.u)) = -(a.u + b.u) := by rw [wrap_id (by omega)]; omega
  have w6 : IntKind.i64.wrap (0 - (a.w + b.w)) = -(a.w + b.w) := by rw [wrap_id (by omega)]; omega
  have w7 : IntKind.i64.wrap (b.w - a.w) = b.w - a.w := wrap_id (by omega)
  have w8 : IntKind.i64.wrap (a.u - b.u) = a.u - b.u := wrap_id (by omega)
  have w9 : IntKind.i64.wrap (dir * (b.w - a.w)) = dir * (b.w - a.w) := by rcases hd with rfl | rfl <;> exact wrap_id (by omega)
  have w10 : IntKind.i64.wrap (dir * (a.u - b.u)) = dir * (a.u - b.u) := by rcases hd with rfl | rfl <;> exact wrap_id (by omega)
  have w11 : IntKind.i64.wrap (crs a.u a.w b.u b.w * dir) = crs a.u a.w b.u b.w * dir := by rcases hd with rfl | rfl <;> exact wrap_id (by omega)
  rw [mf_curve_Middle_eq]
  try dsimp only [go_sem]
  unfold midS
  simp only [w1, w2, w3, w4, w5, w6, w7, w8, w9, w10, hC, hD, Option.bind_some, nth_zero', intOf_int, gA, jA, wA, bA, w11]
  have fin : ∀ {x : Option (List AC)}, x = some (spkR (midOf a b (midD a b dir full).1 (midD a b dir full).2) ++ [B (decide (¬ ((midD a b dir full).1 = 0 /\ (midD a b dir full).2 = 0)))]) ->
      (bif dir != 1 then bif dir != -1 then some [AC.int IntKind.i64 0, AC.int IntKind.i64 0, AC.int IntKind.i64 0, AC.int IntKind.i64 0, AC.bool false] else x else x) = some (spkR (midOf a b (midD a b dir full).1 (midD a b dir full).2) ++ [B (decide (¬ ((midD a b dir full).1 = 0 /\ (midD a b dir full).2 = 0)))]) := by
    intro x hx
    rcases hd with rfl | rfl
    · rw [bif_false (by decide)]; exact hx
    · rw [bif_true (by decide), bif_false (by decide)]; exact hx
  refine fin ?_
  have hk := key hbd.1 hbd.2
  unfold midD at *
  cases full
  · simp only [cond_false, Bool.false_eq_true, if_false] at hk ⊢
    by_cases c1 : 0 < dt2 a.u a.w b.u b.w
    · rw [bif_neg (show ¬ dt2 a.u a.w b.u b.w <= 0 by omega)]
      by_cases c2 : 0 < crs a.u a.w b.u b.w * dir
      · rw [bif_neg (show ¬ crs a.u a.w b.u b.w * dir <= 0 by omega)]
        rw [if_pos ⟨c1, c2⟩] at hk ⊢
        exact hk
      · rw [bif_pos (show crs a.u a.w b.u b.w * dir <= 0 by omega)]
        rw [if_neg (fun h => c2 h.2), if_pos c1] at hk ⊢
        exact hk
    · rw [bif_pos (show dt2 a.u a.w b.u b.w <= 0 by omega)]
      rw [if_neg (fun h => c1 h.1), if_neg c1] at hk ⊢
      exact hk
  · simp only [cond_true, if_true] at hk ⊢
    exact hk
theorem over_S {u w r : Int} (hu : u.natAbs <= 100000000) (hw : w.natAbs <= 100000000) (hr : 0 <= r /\ r <= 50000000) (h : ¬ (u = 0 /\ w = 0)) :
    m_wide_Over [I u, I r, I (sq2 u w), I 2] = some [I (nearR u r (sq2 u w)), B true] /\ m_wide_Over [I w, I r, I (sq2 u w), I 2] = some [I (nearR w r (sq2 u w)), B true] := by
  have hp := sq2_pos h
  have h1 := sq_bd hu
  have h2 := sq_bd hw
  have h3 : sq2 u w <= 20000000000000000 := by unfold sq2; omega
  exact ⟨s_wide_Over (by omega) (by omega) (by omega), s_wide_Over (by omega) (by omega) (by omega)⟩
theorem s_curve_Middle {a b : Spk} (ha : okS a) (hb : okS b) {dir : Int} (hd : dir = 1 \/ dir = -1) (full : Bool) :
    m_curve_Middle [I a.u, I a.w, I a.r, I a.h, I b.u, I b.w, I b.r, I b.h, I dir, B full] = some (spkR (midS a b dir full) ++ [B (decide (¬ ((midD a b dir full).1 = 0 /\ (midD a b dir full).2 = 0)))]) := by
  have hc := (dt2_bd ha.1 ha.2.1 hb.1 hb.2.1).2
  exact a_curve_Middle ha hb hd full (fun hu hw h => over_S hu hw (hf_bd ha.2.2.1 hb.2.2.1) h)
    (s_curve_cross (dir_nat ha.1) (dir_nat ha.2.1) (dir_nat hb.1) (dir_nat hb.2.1)) (s_curve_dot (dir_nat ha.1) (dir_nat ha.2.1) (dir_nat hb.1) (dir_nat hb.2.1)) hc

def okT (s : Spk) : Prop := okS s /\ ¬ (s.u = 0 /\ s.w = 0) /\ 1 <= s.r
theorem midD_nz {a b : Spk} (ha : ¬ (a.u = 0 /\ a.w = 0)) (hb : ¬ (b.u = 0 /\ b.w = 0)) {dir : Int} (hd : dir = 1 \/ dir = -1) (full : Bool) : ¬ ((midD a b dir full).1 = 0 /\ (midD a b dir full).2 = 0) := by
  have hp := sq2_pos ha
  unfold sq2 at hp
  unfold midD
  split
  · simp only; omega
  · rename_i hf
    have key : 0 < dt2 a.u a.w b.u b.w -> ¬ (a.u + b.u = 0 /\ a.w + b.w = 0) := by
      intro h1 ⟨h2, h3⟩
      have e1 : b.u = -a.u := by omega
      have e2 : b.w = -a.w := by omega
      unfold dt2 at h1
      rw [e1, e2, Int.mul_neg, Int.mul_neg] at h1
      omega
    split
    · rename_i c; exact key c.1
    · split
      · rename_i c1 c2
        have := key c2
        simp only; omega
      · rename_i c1 c2
        simp only
        rintro ⟨h2, h3⟩
        have e1 : b.w = a.w /\ a.u = b.u := by rcases hd with rfl | rfl <;> omega
        unfold dt2 at c2
        rw [e1.1, <- e1.2] at c2
        omega
theorem near_nz {u w r : Int} (hu : u.natAbs <= 100000000) (hw : w.natAbs <= 100000000) (hr : 1 <= r /\ r <= 50000000) (h : ¬ (u = 0 /\ w = 0)) : ¬ (nearR u r (sq2 u w) = 0 /\ nearR w r (sq2 u w) = 0) := by
  have hp := sq2_pos h
  have h1 := sq_bd hu
  have h2 := sq_bd hw
  have h3 : sq2 u w <= 20000000000000000 := by unfold sq2; omega
  obtain ⟨q1, q2⟩ := sq2_sq u w
  have key : ∀ x : Int, x.natAbs <= 100000000 -> x * x <= sq2 u w -> nearR x r (sq2 u w) = 0 -> 4 * (x * x) <= sq2 u w := by
    intro x hx hq h0
    obtain ⟨-, -, g3⟩ := s_cncref23_Near (x := x) (r := r) (n := sq2 u w) (Nat.le_trans hx (by decide)) (by omega) (by omega) hq
    rw [h0] at g3
    obtain ⟨-, g3⟩ := g3
    have g4 : 4 * (x.natAbs * r.natAbs * (x.natAbs * r.natAbs)) <= (sq2 u w).natAbs := by
      rw [show (0 : Int).natAbs = 0 from rfl] at g3
      split at g3 <;> omega
    have e1 : x.natAbs * r.natAbs * (x.natAbs * r.natAbs) = x.natAbs * x.natAbs * (r.natAbs * r.natAbs) := by grind
    have g5 : x.natAbs * x.natAbs * 1 <= x.natAbs * x.natAbs * (r.natAbs * r.natAbs) := Nat.mul_le_mul_left _ (Nat.mul_le_mul (show 1 <= r.natAbs by omega) (show 1 <= r.natAbs by omega))
    have e2 : ((x.natAbs * x.natAbs : Nat) : Int) = x * x := Int.natAbs_mul_self
    omega
  rintro ⟨g1, g2⟩
  have k1 := key u hu q1 g1
  have k2 := key w hw q2 g2
  unfold sq2 at *
  omega
theorem midS_okT {a b : Spk} (ha : okT a) (hb : okT b) {dir : Int} (hd : dir = 1 \/ dir = -1) (full : Bool) : okT (midS a b dir full) := by
  have hn := midD_nz ha.2.1 hb.2.1 hd full
  have hbd := midD_bd ha.1 hb.1 hd full
  have h1 := ha.1.2.2.1
  have h2 := hb.1.2.2.1
  have h3 := ha.2.2
  have h4 := hb.2.2
  have hh : 1 <= hf a.r b.r /\ hf a.r b.r <= 50000000 := by unfold hf; omega
  refine ⟨midS_ok ha.1 hb.1 hd full, ?_, ?_⟩
  · unfold midS midOf
    rw [if_neg hn]
    exact near_nz hbd.1 hbd.2 hh hn
  · unfold midS midOf
    rw [if_neg hn]
    exact hh.1
theorem s_curve_Flat {r n : Int} (hr : 0 <= r /\ r <= 50000000) : m_curve_Flat [I r, I n] = some [B (decide (n <= 32 * r - 64))] := by
  unfold m_curve_Flat
  rw [mf_curve_Flat_eq, wrap_id (x := 8 * r) (by omega), wrap_id (x := 8 * r * 4) (by omega), wrap_id (x := 8 * r * 4 - 64) (by omega), show 8 * r * 4 - 64 = 32 * r - 64 by omega]
theorem a_curve_settled {MF MC : List AC -> Option (List AC)} {out : List (List AC)} {a b : Spk} (ha : okS a) (hb : okS b) {dir : Int} (hd : dir = 1 \/ dir = -1) (full : Bool)
    (hF : ∀ {r n : Int}, (0 <= r /\ r <= 50000000) -> MF [I r, I n] = some [B (decide (n <= 32 * r - 64))])
    (hC : MC [I a.u, I a.w, I a.r, I a.h, I b.u, I b.w, I b.r, I b.h] = some [I (crs a.u a.w b.u b.w)]) (hcb : (crs a.u a.w b.u b.w).natAbs <= 5000000000000000) :
    mf_curve_cutter_settled MF MC [.view kSpk out, I a.u, I a.w, I a.r, I a.h, I b.u, I b.w, I b.r, I b.h, B full, I dir] = some [.view kSpk out, B (decide (setS a b dir full)), I dir] := by
  have hr : 0 <= mn a.r b.r /\ mn a.r b.r <= 50000000 := by
    have h1 := ha.2.2.1
    have h2 := hb.2.2.1
    unfold mn; split <;> omega
  obtain ⟨a1, a2, -⟩ := ha
  obtain ⟨b1, b2, -⟩ := hb
  have x1 := sub_nat a1 b1
  have x2 := sub_nat a2 b2
  have q1 := sq_bd x1
  have q2 := sq_bd x2
  have e : IntKind.i64.wrap (IntKind.i64.wrap ((a.u - b.u) * (a.u - b.u)) + IntKind.i64.wrap ((a.w - b.w) * (a.w - b.w))) = sq2 (a.u - b.u) (a.w - b.w) := by
    unfold sq2
    generalize (a.u - b.u) * (a.u - b.u) = x at *
    generalize (a.w - b.w) * (a.w - b.w) = y at *
    rw [wrap_id (x := x) (by omega), wrap_id (x := y) (by omega), wrap_id (by omega)]
  have w11 : IntKind.i64.wrap (crs a.u a.w b.u b.w * dir) = crs a.u a.w b.u b.w * dir := by rcases hd with rfl | rfl <;> exact wrap_id (by omega)
  rw [mf_curve_cutter_settled_eq, wrap_nat x1 (by decide), wrap_nat x2 (by decide), e]
  cases full
  · simp only [Bool.not_false, cond_true, hC, Option.bind_some, nth_zero', intOf_int, gA, jA, wA, bA, w11, hF hr, boolOf_bool]
    by_cases c : 0 < crs a.u a.w b.u b.w * dir
    · rw [bif_pos (show crs a.u a.w b.u b.w * dir > 0 from c)]
      by_cases c2 : sq2 (a.u - b.u) (a.w - b.w) <= 32 * mn a.r b.r - 64
      · rw [decide_eq_true c2, decide_eq_true (show setS a b dir false from ⟨rfl, c, c2⟩)]
      · rw [decide_eq_false c2, decide_eq_false (fun h : setS a b dir false => c2 h.2.2)]
    · rw [bif_neg (show ¬ crs a.u a.w b.u b.w * dir > 0 from c), decide_eq_false (fun h : setS a b dir false => c h.2.1)]
  · simp only [Bool.not_true, cond_false]
    rw [decide_eq_false (fun h : setS a b dir true => by cases h.1)]
theorem s_curve_settled {out : List (List AC)} {a b : Spk} (ha : okS a) (hb : okS b) {dir : Int} (hd : dir = 1 \/ dir = -1) (full : Bool) :
    m_curve_cutter_settled [.view kSpk out, I a.u, I a.w, I a.r, I a.h, I b.u, I b.w, I b.r, I b.h, B full, I dir] = some [.view kSpk out, B (decide (setS a b dir full)), I dir] :=
  a_curve_settled ha hb hd full s_curve_Flat (s_curve_cross (dir_nat ha.1) (dir_nat ha.2.1) (dir_nat hb.1) (dir_nat hb.2.1)) (dt2_bd ha.1 ha.2.1 hb.1 hb.2.1).2
theorem s_piece {dir : Int} (hd : dir = 1 \/ dir = -1) : ∀ (n k : Nat) (full : Bool) (a b : Spk) (out : List Spk), k <= 16 -> k < n -> okT a -> okT b -> out.length + 2 ^ k <= 1000000 ->
    mR_curve_cutter_piece n [.view kSpk (out.map spkR), I a.u, I a.w, I a.r, I a.h, I b.u, I b.w, I b.r, I b.h, B full, I (16 - k : Int), I dir] = some [.view kSpk ((out ++ pcsL dir k full a b).map spkR), I dir]
  | 0, k, _, _, _, _, _, hk, _, _, _ => by omega
  | n + 1, 0, full, a, b, out, _, _, ha, hb, ho => by
    show mf_curve_cutter_piece _ _ _ _ = _
    rw [mf_curve_cutter_piece_eq, bif_neg (by omega), bif_true]
    · unfold pcsL
      rw [List.map_append]; rfl
    · exact Nat.ble_eq_true_of_le (by simp only [List.length_append, List.length_map, List.length_cons, List.length_nil]; omega)
  | n + 1, k + 1, full, a, b, out, hk, hn, ha, hb, ho => by
    have hm := midS_okT ha hb hd full
    have hz := midD_nz ha.2.1 hb.2.1 hd full
    have e3 : 2 ^ (k + 1) = 2 ^ k + 2 ^ k := by rw [Nat.pow_succ]; omega
    have hp : 0 < 2 ^ k := Nat.two_pow_pos _
    have l1 := (pcsL_len k false a (midS a b dir full) (dir := dir)).2
    have i1 := s_piece hd n k false a (midS a b dir full) out (by omega) (by omega) ha hm (by omega)
    have i2 := s_piece hd n k false (midS a b dir full) b (out ++ pcsL dir k false a (midS a b dir full)) (by omega) (by omega) hm hb (by rw [List.length_append]; omega)
    have e1 := s_curve_settled (out := out.map spkR) ha.1 hb.1 hd full
    have e2 := s_curve_Middle ha.1 hb.1 hd full
    rw [decide_eq_true hz] at e2
    show mf_curve_cutter_piece (mR_curve_cutter_piece n) m_curve_Middle m_curve_cutter_settled _ = _
    generalize mR_curve_cutter_piece n = MP at *
    generalize m_curve_Middle = MM at *
    generalize m_curve_cutter_settled = MS at *
    rw [mf_curve_cutter_piece_eq, bif_pos (by omega), wrap_id (by omega), show (16 - ((k + 1 : Nat) : Int) + 1) = 16 - (k : Int) by omega]
    unfold pcsL
    generalize midS a b dir full = m at *
    generalize pcsL dir k false a m = p1 at *
    generalize pcsL dir k false m b = p2 at *
    simp only [List.cons_append, List.nil_append, spkR] at e2
    simp only [e1, e2, Option.bind_some, nth_zero', nth_1, nth_2, nth_3, nth_4, intOf_int, gA, jA, wA, bA, boolOf_bool, i1, i2, rowsOf_view]
    by_cases c : setS a b dir full
    · rw [if_pos c, bif_false (by simp [c]), bif_true]
      · rw [List.map_append]; rfl
      · exact Nat.ble_eq_true_of_le (by simp only [List.length_append, List.length_map, List.length_cons, List.length_nil]; omega)
    · rw [if_neg c, bif_true (by simp [c]), cond_true, List.append_assoc]
end Go.Bm
/- the program's chords are the reference's -/
set_option maxRecDepth 100000
namespace Go.Bm

theorem end_okT {it : Itm} {p : Pt} (hc : bd 1048576 it.ce) (hp : bd 1048576 p) (hq : 64 <= sq2 (dU it p) (dW it p)) : okT (endS it p) := by
 obtain ⟨h1, h2, h3, h4⟩ := endS_sq hc hp
 have e : sq2 (dU it p * 16) (dW it p * 16) = 256 * sq2 (dU it p) (dW it p) := by unfold sq2; grind
 refine ⟨endS_ok hc hp, ?_, ?_⟩
 ·show ¬ (dU it p * 16 = 0 /\ dW it p * 16 = 0)
  rintro ⟨g1, g2⟩
  rw [show dU it p = 0 by omega, show dW it p = 0 by omega] at hq
  simp [sq2] at hq
 ·show 1 <= midR _
  obtain ⟨n, hn⟩ := Int.eq_ofNat_of_zero_le h3
  rw [hn] at h4 ⊢
  obtain ⟨r, -, r2, r3, -⟩ := s_cncref23_root (n := n) (by omega)
  rw [midR_of (isMid_nat r2 r3)]
  have : 1 <= r := by
   rcases Nat.eq_zero_or_pos r with h | h
   ·subst h; omega
   ·exact h
  split <;> omega
theorem s_mid_sqrt {n : Nat} (hn : n <= 2251799813685248) : m_wide_Sqrt [I n, I 2] = some [I (midR n), B true] := by
 obtain ⟨r, h1, h2, h3⟩ := s_wide_Sqrt (n := n) (mode := 2) (by omega) (.inr rfl)
 rw [h1, midR_of (isMid_nat h2 h3)]
 congr 3
 by_cases c : r * r + r < n
 ·rw [if_pos (.inr ⟨rfl, c⟩), if_pos c]
 ·rw [if_neg (by simp; omega), if_neg c]
theorem a_curve_Spokes {MP MQ MD ME MV : List AC -> Option (List AC)} {it : Itm} (hV : ∃ v, MV (itmR it) = some [B v] /\ (v = true ↔ validI it)) (h : validI it)
  (hE : it.kind = 3 -> ME (itmR it) = some [I (dU it it.fr * 16), I (dW it it.fr * 16), I 0, I (plH it.plane it.fr * 16), I (dU it it.to * 16), I (dW it it.to * 16), I 0, I (plH it.plane it.to * 16)])
  (hD : ∀ p : Pt, it.kind = 3 -> (p = it.fr \/ p = it.to) -> MD [I (dU it p * 16), I (dW it p * 16), I 0, I (plH it.plane p * 16), I (dU it p * 16), I (dW it p * 16), I 0, I (plH it.plane p * 16)] = some [I (sq2 (dU it p * 16) (dW it p * 16))])
  (hQ : ∀ p : Pt, it.kind = 3 -> (p = it.fr \/ p = it.to) -> MQ [I (sq2 (dU it p * 16) (dW it p * 16)), I 2] = some [I (midR (sq2 (dU it p * 16) (dW it p * 16))), B true])
  (hP : it.kind = 3 -> MP (.view kSpk [spkR (endS it it.fr)] :: spkR (endS it it.fr) ++ spkR (endS it it.to) ++ [B it.full, I 0, I it.dir]) = some [.view kSpk ((spokesP it).map spkR), I it.dir]) :
  mf_curve_Spokes MP MQ MD ME MV (itmR it) = if it.kind = 3 then some [.view kSpk ((spokesP it).map spkR), B true] else some [.view kSpk [], B false] := by
 obtain ⟨v, hv, hvv⟩ := hV
 rw [mf_curve_Spokes_eq]
 by_cases h3 : it.kind = 3
 ·have e := hE h3
  have p := hP h3
  have d1 := hD it.fr h3 (.inl rfl)
  have d2 := hD it.to h3 (.inr rfl)
  have q1 := hQ it.fr h3 (.inl rfl)
  have q2 := hQ it.to h3 (.inr rfl)
  simp only [List.cons_append, List.nil_append, endS, spkR] at p
  simp only [go_sem, hv, e, d1, d2, q1, q2, p]
  rw [if_neg (by simp [h3]), if_neg (by simp [hvv.2 h]), if_pos h3]
 ·simp only [go_sem]
  rw [if_pos h3, if_neg h3]
theorem s_curve_Spokes {it : Itm} (h : validI it) : m_curve_Spokes (itmR it) = if it.kind = 3 then some [.view kSpk ((spokesP it).map spkR), B true] else some [.view kSpk [], B false] := by
 have hb : it.kind = 3 -> ∀ p : Pt, (p = it.fr \/ p = it.to) -> bd 1048576 it.ce /\ bd 1048576 p := by
  intro h3 p hp
  obtain ⟨-, h1, h2, ha⟩ := h
  obtain ⟨-, -, hc, -⟩ := ha h3
  rcases hp with rfl | rfl
  ·exact ⟨hc, h1⟩
  ·exact ⟨hc, h2⟩
 refine a_curve_Spokes (s_curve_Valid it) h (fun h3 => ?_) (fun p h3 hp => ?_) (fun p h3 hp => ?_) fun h3 => ?_
 ·obtain ⟨-, h1, h2, ha⟩ := h
  obtain ⟨hp, -, hc, -⟩ := ha h3
  exact s_curve_ends hp h1 h2 hc
 ·obtain ⟨hc, hp2⟩ := hb h3 p hp
  obtain ⟨g1, g2, -⟩ := endS_sq hc hp2
  exact s_curve_dot (Nat.le_trans g1 (by decide)) (Nat.le_trans g2 (by decide)) (Nat.le_trans g1 (by decide)) (Nat.le_trans g2 (by decide))
 ·obtain ⟨hc, hp2⟩ := hb h3 p hp
  obtain ⟨-, -, g3, g4⟩ := endS_sq hc hp2
  obtain ⟨n, hn⟩ := Int.eq_ofNat_of_zero_le g3
  rw [hn] at g4 ⊢
  exact s_mid_sqrt (by omega)
 ·obtain ⟨-, h1, h2, ha⟩ := h
  obtain ⟨hp, hd, hc, t1, t2, -⟩ := ha h3
  have := s_piece hd 20 16 it.full (endS it it.fr) (endS it it.to) [endS it it.fr] (by omega) (by omega) (end_okT hc h1 t1) (end_okT hc h2 t2) (show 1 + 2 ^ 16 <= 1000000 by decide)
  exact this

theorem s_curve_Space {u w h pl : Int} (hp : isPl pl) : m_curve_Space [I u, I w, I h, I pl] = some (ptR (spP pl u w h)) := by
 show mf_curve_Space m_curve_axes _ = _
 have h1 := s_curve_axes pl
 generalize m_curve_axes = M at *
 rw [mf_curve_Space_eq]
 rcases hp with rfl | rfl | rfl
 ·have e : axI 17 = (0, 1, 2) := rfl
  rw [e] at h1
  rw [h1]; rfl
 ·have e : axI 18 = (2, 0, 1) := rfl
  rw [e] at h1
  rw [h1]; rfl
 ·have e : axI 19 = (1, 2, 0) := rfl
  rw [e] at h1
  rw [h1]; rfl
theorem set_app {α : Type} (pre rest : List α) (x z : α) : (pre ++ x :: rest).set pre.length z = (pre ++ [z]) ++ rest := by
 rw [List.set_append_right _ _ (Nat.le_refl _), Nat.sub_self]
 simp
def fillL {α : Type} (f : Nat -> α) (z : α) (n i : Nat) : List α := (List.range i).map f ++ List.replicate (n - i) z
theorem fillL_len {α : Type} (f : Nat -> α) (z : α) {n i : Nat} (h : i <= n) : (fillL f z n i).length = n := by unfold fillL; simp; omega
theorem fillL_set {α : Type} (f : Nat -> α) (z : α) {n i : Nat} (h : i < n) : (fillL f z n i).set i (f i) = fillL f z n (i + 1) := by
 unfold fillL
 have e : n - i = (n - (i + 1)) + 1 := by omega
 rw [e, List.replicate_succ]
 have := set_app ((List.range i).map f) (List.replicate (n - (i + 1)) z) z (f i)
 rw [List.length_map, List.length_range] at this
 rw [this, List.range_succ, List.map_append]
 rfl
theorem fillL_end {α : Type} (f : Nat -> α) (z : α) (n : Nat) : fillL f z n n = (List.range n).map f := by unfold fillL; simp
theorem range_get {α : Type} (l : List α) (d : α) : (List.range l.length).map (fun i => l.getD i d) = l := by
 apply List.ext_getElem
 ·simp
 ·intro i h1 h2
  simp [h2]
def spk0 : Spk := ⟨0, 0, 0, 0⟩
theorem l_ChordsC {MS MP MF MK MV : List AC -> Option (List AC)} {it : Itm} {l : List Spk} {cu cw : Int} (hl : l.length <= 65537) (hcu : cu.natAbs <= 16777216) (hcw : cw.natAbs <= 16777216) (hok : ∀ s ∈ l, okS s)
  (hS : ∀ {u w h : Int}, MS [I u, I w, I h, I it.plane] = some (ptR (spP it.plane u w h))) {f : Nat -> List AC} (hf : ∀ i, f i = ptR (spP it.plane (cu + (l.getD i spk0).u) (cw + (l.getD i spk0).w) (l.getD i spk0).h)) :
  ∀ (k i : Nat), i + k = l.length -> loopC (st_curve_Chords_9 MS MP MF MK MV) (.view kPt (fillL f [I 0, I 0, I 0] l.length i) :: I cu :: I cw :: .view kSpk (l.map spkR) :: I l.length :: I i :: itmR it) =
   some (1, [.view kPt ((List.range l.length).map f)])
 | 0, i, hi => by
  refine loop_end ?_ (by simp)
  rw [st_curve_Chords_9_eq]
  simp only [go_sem]
  rw [if_neg (by omega), show i = l.length by omega, fillL_end]
 | k + 1, i, hi => by
  have hlt : i < l.length := by omega
  have hs : st_curve_Chords_9 MS MP MF MK MV (.view kPt (fillL f [I 0, I 0, I 0] l.length i) :: I cu :: I cw :: .view kSpk (l.map spkR) :: I l.length :: I i :: itmR it) =
    some (0, .view kPt (fillL f [I 0, I 0, I 0] l.length (i + 1)) :: I cu :: I cw :: .view kSpk (l.map spkR) :: I l.length :: I (i + 1 : Nat) :: itmR it) := by
   rw [st_curve_Chords_9_eq]
   have hr : nth [] (l.map spkR) i = spkR l[i] := nth_map _ _ _ _ hlt
   have ho := hok _ (List.getElem_mem hlt)
   have hfl := fillL_len f [I 0, I 0, I 0] (show i <= l.length by omega)
   have hfi := hf i
   rw [show l.getD i spk0 = l[i] by simp [hlt]] at hfi
   have hset := fillL_set f [I 0, I 0, I 0] hlt
   rw [hfi] at hset
   generalize l[i] = s at *
   obtain ⟨s1, s2, -⟩ := ho
   simp only [go_sem, Int.toNat_natCast, List.length_map, hr]
   rw [if_pos (by omega), if_pos (by omega), wrap_id (x := cu + s.u) (by omega), wrap_id (x := cw + s.w) (by omega), wrap_id (x := (i : Int) + 1) (by omega)]
   simp only [hS, go_sem, hfl]
   rw [if_pos (by omega), hset]
   rfl
  rw [loop_more hs]
  exact l_ChordsC hl hcu hcw hok hS hf k (i + 1) (by omega)
theorem chords_arc {MS MP MF MK MV : List AC -> Option (List AC)} {N : List AC -> Option (Nat × List AC)} {it : Itm} {S : List Spk} {C : List (List AC)} {f : Pt} {u w h : Int} (hv : MV (itmR it) = some [B true])
  (hK : MK (itmR it) = some [.view kSpk (S.map spkR), B true]) (hf : MF [I it.ce.x, I it.ce.y, I it.ce.z] = some (ptR f)) (hpp : MP [I f.x, I f.y, I f.z, I it.plane] = some [I u, I w, I h]) (hS : S.length <= 65537)
  (hN : N [.view kPt (List.replicate S.length [I 0, I 0, I 0]), I u, I w, .view kSpk (S.map spkR), I S.length, I 0, I it.kind, I it.block, I it.fr.x, I it.fr.y, I it.fr.z, I it.to.x, I it.to.y, I it.to.z, I it.plane, I it.ce.x, I it.ce.y, I it.ce.z, I it.dir, B it.full, I it.feed, B it.perRev, I it.side, I it.radius, I it.blend, I it.n, I it.speed, B it.on] = some (1, [.view kPt C])) :
  mf_curve_Chords MS MP MF MK MV N (itmR it) = some [.view kPt C, B true] := by
 rw [mf_curve_Chords_eq]
 simp only [go_sem, hv, hK, hf, hpp, List.length_map, Int.toNat_natCast, hN]
 rw [if_neg (by simp), if_neg (by simp), if_pos (by omega)]
theorem a_curve_Chords {MS MP MF MK MV : List AC -> Option (List AC)} {it : Itm} (hV : ∃ v, MV (itmR it) = some [B v] /\ (v = true ↔ validI it)) (h : validI it)
  (hK : MK (itmR it) = if it.kind = 3 then some [.view kSpk ((spokesP it).map spkR), B true] else some [.view kSpk [], B false])
  (hF : ∀ {p : Pt}, bd 100000000 p -> MF [I p.x, I p.y, I p.z] = some (ptR (fine p))) (hP : isPl it.plane -> ∀ {p : Pt}, MP [I p.x, I p.y, I p.z, I it.plane] = some [I (plU it.plane p), I (plW it.plane p), I (plH it.plane p)])
  (hS : isPl it.plane -> ∀ {u w h : Int}, MS [I u, I w, I h, I it.plane] = some (ptR (spP it.plane u w h))) :
  mf_curve_Chords MS MP MF MK MV (loopC (st_curve_Chords_9 MS MP MF MK MV)) (itmR it) = some [.view kPt ((chordsP it).map ptR), B true] := by
 obtain ⟨v, hv, hvv⟩ := hV
 rw [mf_curve_Chords_eq]
 have hv1 := hvv.2 h
 subst hv1
 obtain ⟨-, h1, h2, ha⟩ := id h
 by_cases h3 : it.kind = 3
 ·obtain ⟨hp, hd, hc, -⟩ := ha h3
  rw [if_pos h3] at hK
  obtain ⟨c1, c2, c3⟩ := pl_bd (pl := it.plane) (fine_bd hc)
  have hsl := (spokesP_len it).2
  have hl := l_ChordsC (MS := MS) (MP := MP) (MF := MF) (MK := MK) (MV := MV) (it := it) (l := spokesP it) (cu := plU it.plane (fine it.ce)) (cw := plW it.plane (fine it.ce)) hsl c1 c2 (spokesP_ok h h3) (hS hp)
   (f := fun i => ptR (chPt it ((spokesP it).getD i spk0))) (fun _ => rfl) (spokesP it).length 0 (by omega)
  have hres : (List.range (spokesP it).length).map (fun i => ptR (chPt it ((spokesP it).getD i spk0))) = ((spokesP it).map (chPt it)).map ptR := by
   rw [List.map_map]
   conv => rhs; rw [<- range_get (spokesP it) spk0]
   rw [List.map_map]
   rfl
  rw [hres] at hl
  have hf0 : fillL (fun i => ptR (chPt it ((spokesP it).getD i spk0))) [I 0, I 0, I 0] (spokesP it).length 0 = List.replicate (spokesP it).length [I 0, I 0, I 0] := by unfold fillL; simp
  rw [hf0] at hl
  have hf := hF (bd_mono hc (by decide))
  have hpp := @hP hp (fine it.ce)
  have := chords_arc (MS := MS) (N := loopC (st_curve_Chords_9 MS MP MF MK MV)) hv hK hf hpp hsl hl
  rw [mf_curve_Chords_eq] at this
  unfold chordsP
  rw [if_pos h3]
  exact this
 ·rw [if_neg h3] at hK
  have f1 := hF (bd_mono h1 (by decide))
  have f2 := hF (bd_mono h2 (by decide))
  unfold chordsP
  rw [if_neg h3]
  simp only [go_sem, hv, hK, f1, f2]
  simp
theorem s_curve_Chords {it : Itm} (h : validI it) : m_curve_Chords (itmR it) = some [.view kPt ((chordsP it).map ptR), B true] :=
 a_curve_Chords (s_curve_Valid it) h (s_curve_Spokes h) s_curve_scaled (fun hp => s_curve_Plane hp) (fun hp => s_curve_Space hp)
end Go.Bm
