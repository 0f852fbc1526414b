/- which motions can be drawn: the program's answer -/
import Derived.Test.YtdllaekpkcanbaaPrV
set_option linter.unusedVariables false
set_option linter.unusedSimpArgs false
set_option maxRecDepth 100000
namespace Go.Bm

theorem s_curve_within (p : Pt) : m_curve_within [I p.x, I p.y, I p.z] = some [B (decide (bd 1048576 p))] := by
  unfold m_curve_within
  rw [mf_curve_within_eq]
  simp only [go_sem]
  by_cases h : bd 1048576 p
  · obtain ⟨h1, h2, h3⟩ := h
    rw [if_neg (by omega), if_neg (by omega), if_neg (by omega), if_neg (by omega), if_neg (by omega), if_neg (by omega)]
    congr 3
    symm
    exact decide_eq_true ⟨h1, h2, h3⟩
  · have e : decide (bd 1048576 p) = false := decide_eq_false h
    rw [e]
    unfold bd at h
    by_cases c1 : p.x < -1048576
    · rw [if_pos c1]
    rw [if_neg c1]
    by_cases c2 : p.x > 1048576
    · rw [if_pos c2]
    rw [if_neg c2]
    by_cases c3 : p.y < -1048576
    · rw [if_pos c3]
    rw [if_neg c3]
    by_cases c4 : p.y > 1048576
    · rw [if_pos c4]
    rw [if_neg c4]
    by_cases c5 : p.z < -1048576
    · rw [if_pos c5]
    rw [if_neg c5, if_pos (by omega)]
def axI (pl : Int) : Int × Int × Int := if pl = 17 then (0, 1, 2) else if pl = 18 then (2, 0, 1) else if pl = 19 then (1, 2, 0) else (0, 0, 0)
theorem s_curve_axes (pl : Int) : m_curve_axes [I pl] = some [I (axI pl).1, I (axI pl).2.1, I (axI pl).2.2, B (decide (isPl pl))] := by
  unfold m_curve_axes
  rw [mf_curve_axes_eq]
  simp only [go_sem]
  unfold axI isPl
  by_cases h1 : pl = 17
  · rw [if_pos h1, if_pos h1]; simp [h1]
  rw [if_neg h1, if_neg h1]
  by_cases h2 : pl = 18
  · rw [if_pos h2, if_pos h2]; simp [h2]
  rw [if_neg h2, if_neg h2]
  by_cases h3 : pl = 19
  · rw [if_pos h3, if_pos h3]; simp [h3]
  rw [if_neg h3, if_neg h3]; simp [h1, h2, h3]
theorem a_curve_Plane {M : List AC → Option (List AC)} (hM : ∀ pl : Int, M [I pl] = some [I (axI pl).1, I (axI pl).2.1, I (axI pl).2.2, B (decide (isPl pl))]) {p : Pt} {pl : Int} (hp : isPl pl) :
    mf_curve_Plane M [I p.x, I p.y, I p.z, I pl] = some [I (plU pl p), I (plW pl p), I (plH pl p)] := by
  rw [mf_curve_Plane_eq]
  simp only [go_sem, hM]
  rw [if_neg (by simpa using hp)]
  rcases hp with rfl | rfl | rfl <;> rfl
theorem s_curve_Plane {p : Pt} {pl : Int} (hp : isPl pl) : m_curve_Plane [I p.x, I p.y, I p.z, I pl] = some [I (plU pl p), I (plW pl p), I (plH pl p)] := a_curve_Plane s_curve_axes hp
/-- a position in subunits -/
def fine (p : Pt) : Pt := ⟨p.x * 16, p.y * 16, p.z * 16⟩
theorem fine_bd {b : Nat} {p : Pt} (h : bd b p) : bd (b * 16) (fine p) := by
  obtain ⟨h1, h2, h3⟩ := h
  unfold fine
  exact ⟨by simp only; omega, by simp only; omega, by simp only; omega⟩
theorem pl_fine (pl : Int) (p : Pt) : plU pl (fine p) = plU pl p * 16 ∧ plW pl (fine p) = plW pl p * 16 ∧ plH pl (fine p) = plH pl p * 16 := by
  unfold plU plW plH fine
  refine ⟨?_, ?_, ?_⟩ <;> split <;> (try split) <;> rfl
theorem s_curve_scaled {p : Pt} (h : bd 100000000 p) : m_curve_scaled [I p.x, I p.y, I p.z] = some (ptR (fine p)) := by
  unfold m_curve_scaled
  rw [mf_curve_scaled_eq]
  obtain ⟨h1, h2, h3⟩ := h
  rw [wrap_id (by omega), wrap_id (by omega), wrap_id (by omega)]
  rfl
theorem s_contour_scaled {p : Pt} (h : bd 100000000 p) : m_contour_scaled [I p.x, I p.y, I p.z] = some (ptR (fine p)) := by
  unfold m_contour_scaled
  rw [mf_contour_scaled_eq]
  obtain ⟨h1, h2, h3⟩ := h
  rw [wrap_id (by omega), wrap_id (by omega), wrap_id (by omega)]
  rfl
theorem s_Fine {p : Pt} (h : bd 100000000 p) : m_cncref23_Fine [I p.x, I p.y, I p.z] = some (ptR (fine p)) := by
  unfold m_cncref23_Fine
  rw [mf_cncref23_Fine_eq]
  obtain ⟨h1, h2, h3⟩ := h
  rw [wrap_id (by omega), wrap_id (by omega), wrap_id (by omega)]
  rfl
theorem s_curve_dot {u w r h x y s g : Int} (hu : u.natAbs ≤ 1000000000) (hw : w.natAbs ≤ 1000000000) (hx : x.natAbs ≤ 1000000000) (hy : y.natAbs ≤ 1000000000) : m_curve_dot [I u, I w, I r, I h, I x, I y, I s, I g] = some [I (dt2 u w x y)] := by
  unfold m_curve_dot
  rw [mf_curve_dot_eq]
  have h1 := mul_bd hu hx
  have h2 := mul_bd hw hy
  unfold dt2
  rw [wrap_id (x := u * x) (by omega), wrap_id (x := w * y) (by omega), wrap_id (by omega)]
theorem s_curve_cross {u w r h x y s g : Int} (hu : u.natAbs ≤ 1000000000) (hw : w.natAbs ≤ 1000000000) (hx : x.natAbs ≤ 1000000000) (hy : y.natAbs ≤ 1000000000) : m_curve_cross [I u, I w, I r, I h, I x, I y, I s, I g] = some [I (crs u w x y)] := by
  unfold m_curve_cross
  rw [mf_curve_cross_eq]
  have h1 := mul_bd hu hy
  have h2 := mul_bd hw hx
  unfold crs
  rw [wrap_id (x := u * y) (by omega), wrap_id (x := w * x) (by omega), wrap_id (by omega)]
theorem a_curve_near {M : List AC → Option (List AC)} (hM : ∀ {a b c d : Int}, i64 a → i64 b → i64 c → i64 d → M [I a, I b, I c, I d] = some [I (cmpI (a * b) (c * d))]) {X Y : Int} (hX : 64 ≤ X ∧ X ≤ 1000000000000000) (hY : 64 ≤ Y ∧ Y ≤ 1000000000000000) :
    ∃ v, mf_curve_near M [I X, I Y] = some [B v] ∧ (v = true ↔ nearQ X Y) := by
  rw [mf_curve_near_eq, near_core hX.1 hY.1]
  have hmx : mx X Y = max X Y := by unfold mx; rw [Int.max_def]; split <;> split <;> omega
  have hmn : mn X Y = min X Y := by unfold mn; rw [Int.min_def]; split <;> split <;> omega
  have hx1 : max X Y ≤ 1000000000000000 ∧ 64 ≤ max X Y := by omega
  have hx2 : min X Y ≤ 1000000000000000 ∧ 64 ≤ min X Y := by omega
  rw [hmx, hmn]
  generalize max X Y = a at *
  generalize min X Y = b at *
  simp only [go_sem]
  rw [wrap_id (x := a - b) (by omega), wrap_id (x := a - b - 16) (by omega)]
  by_cases c1 : a - b - 16 ≤ 0
  · rw [if_pos c1]; exact ⟨_, rfl, iff_of_true rfl (.inl c1)⟩
  · rw [if_neg c1, hM (by unfold i64; omega) (by unfold i64; omega) (by unfold i64; omega) (by unfold i64; omega)]
    refine ⟨_, rfl, ?_⟩
    simp only [go_sem, decide_eq_true_eq, cmpI_le]
    exact ⟨fun h => .inr h, fun h => h.resolve_left c1⟩
theorem s_curve_near {X Y : Int} (hX : 64 ≤ X ∧ X ≤ 1000000000000000) (hY : 64 ≤ Y ∧ Y ≤ 1000000000000000) : ∃ v, m_curve_near [I X, I Y] = some [B v] ∧ (v = true ↔ nearQ X Y) := a_curve_near s_wide_Cmp hX hY

theorem a_curve_ends {MP MS : List AC → Option (List AC)} {it : Itm} (hP : ∀ p : Pt, MP [I p.x, I p.y, I p.z, I it.plane] = some [I (plU it.plane p), I (plW it.plane p), I (plH it.plane p)]) (hS : ∀ {p : Pt}, bd 100000000 p → MS [I p.x, I p.y, I p.z] = some (ptR (fine p)))
    (h1 : bd 1048576 it.fr) (h2 : bd 1048576 it.to) (h3 : bd 1048576 it.ce) :
    mf_curve_ends MP MS (loopC (st_curve_ends_4 MP MS)) (itmR it) = some [I (dU it it.fr * 16), I (dW it it.fr * 16), I 0, I (plH it.plane it.fr * 16), I (dU it it.to * 16), I (dW it it.to * 16), I 0, I (plH it.plane it.to * 16)] := by
  rw [mf_curve_ends_eq]
  obtain ⟨q1, q2, q3⟩ := pl_bd (pl := it.plane) h1
  obtain ⟨q4, q5, q6⟩ := pl_bd (pl := it.plane) h2
  obtain ⟨q7, q8, q9⟩ := pl_bd (pl := it.plane) h3
  simp only [hS (bd_mono h3 (by omega)), hP, go_sem]
  have w0 : IntKind.i64.wrap (0 + 1) = 1 := wrap_id (by omega)
  have w1 : IntKind.i64.wrap (1 + 1) = 2 := wrap_id (by omega)
  have f1 := pl_fine it.plane it.fr
  have f2 := pl_fine it.plane it.to
  have f3 := pl_fine it.plane it.ce
  have u1 : IntKind.i64.wrap (plU it.plane (fine it.fr) - plU it.plane (fine it.ce)) = dU it it.fr * 16 := by rw [f1.1, f3.1]; unfold dU; rw [wrap_id (by omega)]; omega
  have u2 : IntKind.i64.wrap (plW it.plane (fine it.fr) - plW it.plane (fine it.ce)) = dW it it.fr * 16 := by rw [f1.2.1, f3.2.1]; unfold dW; rw [wrap_id (by omega)]; omega
  have u3 : IntKind.i64.wrap (plU it.plane (fine it.to) - plU it.plane (fine it.ce)) = dU it it.to * 16 := by rw [f2.1, f3.1]; unfold dU; rw [wrap_id (by omega)]; omega
  have u4 : IntKind.i64.wrap (plW it.plane (fine it.to) - plW it.plane (fine it.ce)) = dW it it.to * 16 := by rw [f2.2.1, f3.2.1]; unfold dW; rw [wrap_id (by omega)]; omega
  have b1 : bd 100000000 it.fr := bd_mono h1 (by omega)
  have b2 : bd 100000000 it.to := bd_mono h2 (by omega)
  have e1 := hS b1
  have e2 := hS b2
  rw [loop_more (by rw [st_curve_ends_4_eq]; simp only [go_sem, e1, e2, hP, u1, u2, w0]; rfl), loop_more (by rw [st_curve_ends_4_eq]; simp only [go_sem, e1, e2, hP, u3, u4, w1]; rfl),
    loop_end (o := (1, _)) (by rw [st_curve_ends_4_eq]; simp only [go_sem]; rfl) (by simp)]
  simp only [go_sem, f1.2.2, f2.2.2]
theorem s_curve_ends {it : Itm} (hp : isPl it.plane) (h1 : bd 1048576 it.fr) (h2 : bd 1048576 it.to) (h3 : bd 1048576 it.ce) :
    m_curve_ends (itmR it) = some [I (dU it it.fr * 16), I (dW it it.fr * 16), I 0, I (plH it.plane it.fr * 16), I (dU it it.to * 16), I (dW it it.to * 16), I 0, I (plH it.plane it.to * 16)] :=
  a_curve_ends (fun _ => s_curve_Plane hp) s_curve_scaled h1 h2 h3

theorem cur_tail {MN : List AC → Option (List AC)} {X Y C D au aw bu bw : Int} {full : Bool} (hX : 0 ≤ X ∧ X ≤ 1000000000000000) (hY : 0 ≤ Y ∧ Y ≤ 1000000000000000)
    (hN : ∀ {X Y : Int}, (64 ≤ X ∧ X ≤ 1000000000000000) → (64 ≤ Y ∧ Y ≤ 1000000000000000) → ∃ v, MN [I X, I Y] = some [B v] ∧ (v = true ↔ nearQ X Y)) :
    ∃ v, (if X * 256 < IntKind.i64.wrap (128 * 128) then some [B false] else if Y * 256 < IntKind.i64.wrap (128 * 128) then some [B false] else
      (MN [I (IntKind.i64.wrap ((X * 256).tdiv 256)), I (IntKind.i64.wrap ((Y * 256).tdiv 256))]).bind fun o =>
      if ¬ boolOf (nth .dead o 0) = true then some [B false] else if full = true then if au * 16 = bu * 16 then some [B (aw * 16 == bw * 16)] else some [B false] else if C * 256 ≠ 0 then some [B true] else some [B (decide (D * 256 < 0))]) = some [B v] ∧
      (v = true ↔ 64 ≤ X ∧ 64 ≤ Y ∧ nearQ X Y ∧ (full = true → au = bu ∧ aw = bw) ∧ (full = false → C ≠ 0 ∨ D < 0)) := by
  rw [wrap_id (x := 128 * 128) (by omega), Int.mul_tdiv_cancel _ (by omega), Int.mul_tdiv_cancel _ (by omega), wrap_id (x := X) (by omega), wrap_id (x := Y) (by omega)]
  by_cases c1 : X * 256 < 128 * 128
  · rw [if_pos c1]; exact ⟨_, rfl, iff_of_false (by simp) fun h => by omega⟩
  rw [if_neg c1]
  by_cases c2 : Y * 256 < 128 * 128
  · rw [if_pos c2]; exact ⟨_, rfl, iff_of_false (by simp) fun h => by omega⟩
  rw [if_neg c2]
  obtain ⟨v, h1, h2⟩ := hN (X := X) (Y := Y) (by omega) (by omega)
  simp only [h1, go_sem]
  by_cases c3 : v = true
  case neg => rw [if_pos c3]; exact ⟨_, rfl, iff_of_false (by simp) fun h => c3 (h2.2 h.2.2.1)⟩
  rw [if_neg (by simpa using c3)]
  have hn' := h2.1 c3
  cases full with
  | true =>
    rw [if_pos rfl]
    by_cases c4 : au * 16 = bu * 16
    · rw [if_pos c4]; refine ⟨_, rfl, ?_⟩
      simp only [beq_iff_eq]
      exact ⟨fun h => ⟨by omega, by omega, hn', fun _ => ⟨by omega, by omega⟩, fun h => by simp at h⟩, fun h => by have := (h.2.2.2.1 trivial).2; omega⟩
    · rw [if_neg c4]; exact ⟨_, rfl, iff_of_false (by simp) fun h => c4 (by have := (h.2.2.2.1 rfl).1; omega)⟩
  | false =>
    rw [if_neg (by simp)]
    by_cases c4 : C * 256 ≠ 0
    · rw [if_pos c4]; exact ⟨_, rfl, iff_of_true rfl ⟨by omega, by omega, hn', fun h => by simp at h, fun _ => .inl (by omega)⟩⟩
    · rw [if_neg c4]; refine ⟨_, rfl, ?_⟩
      simp only [decide_eq_true_eq]
      exact ⟨fun h => ⟨by omega, by omega, hn', fun h => by simp at h, fun _ => .inr (by omega)⟩, fun h => by have := (h.2.2.2.2 trivial); omega⟩
theorem dt2_16 (a b c d : Int) : dt2 (a * 16) (b * 16) (c * 16) (d * 16) = dt2 a b c d * 256 ∧ crs (a * 16) (b * 16) (c * 16) (d * 16) = crs a b c d * 256 := by
  unfold dt2 crs
  constructor <;> grind
theorem a_curve_Valid {MC MN MD ME MA MW : List AC → Option (List AC)} (hA : ∀ pl : Int, MA [I pl] = some [I (axI pl).1, I (axI pl).2.1, I (axI pl).2.2, B (decide (isPl pl))]) (hW : ∀ p : Pt, MW [I p.x, I p.y, I p.z] = some [B (decide (bd 1048576 p))])
    {it : Itm} (hE : isPl it.plane → bd 1048576 it.fr → bd 1048576 it.to → bd 1048576 it.ce → ME (itmR it) = some [I (dU it it.fr * 16), I (dW it it.fr * 16), I 0, I (plH it.plane it.fr * 16), I (dU it it.to * 16), I (dW it it.to * 16), I 0, I (plH it.plane it.to * 16)])
    (hD : ∀ {u w r h x y s g : Int}, u.natAbs ≤ 1000000000 → w.natAbs ≤ 1000000000 → x.natAbs ≤ 1000000000 → y.natAbs ≤ 1000000000 → MD [I u, I w, I r, I h, I x, I y, I s, I g] = some [I (dt2 u w x y)])
    (hX : ∀ {u w r h x y s g : Int}, u.natAbs ≤ 1000000000 → w.natAbs ≤ 1000000000 → x.natAbs ≤ 1000000000 → y.natAbs ≤ 1000000000 → MC [I u, I w, I r, I h, I x, I y, I s, I g] = some [I (crs u w x y)])
    (hN : ∀ {X Y : Int}, (64 ≤ X ∧ X ≤ 1000000000000000) → (64 ≤ Y ∧ Y ≤ 1000000000000000) → ∃ v, MN [I X, I Y] = some [B v] ∧ (v = true ↔ nearQ X Y)) :
    ∃ v, mf_curve_Valid MC MN MD ME MA MW (itmR it) = some [B v] ∧ (v = true ↔ validI it) := by
  rw [mf_curve_Valid_eq]
  simp only [go_sem, hW, hA]
  by_cases c1 : it.kind < 1
  · rw [if_pos c1]; exact ⟨_, rfl, iff_of_false (by simp) fun h => by have := h.1; omega⟩
  rw [if_neg c1]
  by_cases c1' : it.kind > 6
  · rw [if_pos c1']; exact ⟨_, rfl, iff_of_false (by simp) fun h => by have := h.1; omega⟩
  rw [if_neg c1']
  by_cases c2 : bd 1048576 it.fr
  case neg => rw [if_pos (by simpa using c2)]; exact ⟨_, rfl, iff_of_false (by simp) fun h => c2 h.2.1⟩
  rw [if_neg (by simpa using c2)]
  by_cases c3 : bd 1048576 it.to
  case neg => rw [if_pos (by simpa using c3)]; exact ⟨_, rfl, iff_of_false (by simp) fun h => c3 h.2.2.1⟩
  rw [if_neg (by simpa using c3)]
  by_cases c4 : it.kind = 3
  case neg => rw [if_pos c4]; exact ⟨_, rfl, iff_of_true rfl ⟨by omega, c2, c3, fun h => absurd h c4⟩⟩
  rw [if_neg (by simpa using c4)]
  by_cases c5 : isPl it.plane
  case neg => rw [if_pos (by simpa using c5)]; exact ⟨_, rfl, iff_of_false (by simp) fun h => c5 (h.2.2.2 c4).1⟩
  rw [if_neg (by simpa using c5)]
  by_cases c7 : bd 1048576 it.ce
  case neg =>
    refine ⟨false, ?_, iff_of_false (by simp) fun h => c7 (h.2.2.2 c4).2.2.1⟩
    split
    · split
      · rfl
      · first | rfl | (rw [if_pos c7])
    · first | rfl | (rw [if_pos c7])
  by_cases c6 : it.dir = 1 ∨ it.dir = -1
  case neg =>
    rw [if_pos (c := it.dir ≠ 1) (by omega), if_pos (c := it.dir ≠ -1) (by omega)]
    exact ⟨false, rfl, iff_of_false (by simp) fun h => c6 (h.2.2.2 c4).2.1⟩
  have hE' := hE c5 c2 c3 c7
  obtain ⟨b1, b2⟩ := dU_bd (it := it) c7 c2
  obtain ⟨b3, b4⟩ := dU_bd (it := it) c7 c3
  simp only [itmR] at hE'
  have x1 := sq2_bd b1 b2
  have x2 := sq2_bd b3 b4
  have core : validI it ↔ 64 ≤ qA it ∧ 64 ≤ qB it ∧ nearQ (qA it) (qB it) ∧ (it.full = true → dU it it.fr = dU it it.to ∧ dW it it.fr = dW it it.to) ∧ (it.full = false → cAB it ≠ 0 ∨ dAB it < 0) :=
    ⟨fun h => (h.2.2.2 c4).2.2.2, fun h => ⟨by omega, c2, c3, fun _ => ⟨c5, c6, c7, h⟩⟩⟩
  rw [core]
  have x1' : 0 ≤ qA it ∧ qA it ≤ 1000000000000000 := ⟨x1.1, by unfold qA; omega⟩
  have x2' : 0 ≤ qB it ∧ qB it ≤ 1000000000000000 := ⟨x2.1, by unfold qB; omega⟩
  have D1 := @hD (dU it it.fr * 16) (dW it it.fr * 16) 0 (plH it.plane it.fr * 16) (dU it it.fr * 16) (dW it it.fr * 16) 0 (plH it.plane it.fr * 16) (by omega) (by omega) (by omega) (by omega)
  have D2 := @hD (dU it it.to * 16) (dW it it.to * 16) 0 (plH it.plane it.to * 16) (dU it it.to * 16) (dW it it.to * 16) 0 (plH it.plane it.to * 16) (by omega) (by omega) (by omega) (by omega)
  have D3 := @hD (dU it it.fr * 16) (dW it it.fr * 16) 0 (plH it.plane it.fr * 16) (dU it it.to * 16) (dW it it.to * 16) 0 (plH it.plane it.to * 16) (by omega) (by omega) (by omega) (by omega)
  have D4 := @hX (dU it it.fr * 16) (dW it it.fr * 16) 0 (plH it.plane it.fr * 16) (dU it it.to * 16) (dW it it.to * 16) 0 (plH it.plane it.to * 16) (by omega) (by omega) (by omega) (by omega)
  rw [(dt2_16 _ _ _ _).1] at D1 D2 D3
  rw [(dt2_16 _ _ _ _).2] at D4
  have e1 : dt2 (dU it it.fr) (dW it it.fr) (dU it it.fr) (dW it it.fr) = qA it := rfl
  have e2 : dt2 (dU it it.to) (dW it it.to) (dU it it.to) (dW it it.to) = qB it := rfl
  have e3 : dt2 (dU it it.fr) (dW it it.fr) (dU it it.to) (dW it it.to) = dAB it := rfl
  have e4 : crs (dU it it.fr) (dW it it.fr) (dU it it.to) (dW it it.to) = cAB it := rfl
  rw [e1] at D1
  rw [e2] at D2
  rw [e3] at D3
  rw [e4] at D4
  have T := @cur_tail MN (qA it) (qB it) (cAB it) (dAB it) (dU it it.fr) (dW it it.fr) (dU it it.to) (dW it it.to) it.full x1' x2' hN
  have n7 : ¬ ¬ bd 1048576 it.ce := fun h => h c7
  by_cases d1 : it.dir = 1
  · rw [if_neg (c := it.dir ≠ 1) (fun h => h d1), if_neg n7]
    simp only [hE', go_sem, D1, D2, D3, D4]
    exact T
  · rw [if_pos (c := it.dir ≠ 1) d1, if_neg (c := it.dir ≠ -1) (by omega), if_neg n7]
    simp only [hE', go_sem, D1, D2, D3, D4]
    exact T
theorem s_curve_Valid (it : Itm) : ∃ v, m_curve_Valid (itmR it) = some [B v] ∧ (v = true ↔ validI it) :=
  a_curve_Valid s_curve_axes s_curve_within (fun h1 h2 h3 h4 => s_curve_ends h1 h2 h3 h4) s_curve_dot s_curve_cross s_curve_near
end Go.Bm
