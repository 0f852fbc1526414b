/- laid together -/
import Derived.Test.YtdllaekpkcanbaaPrTf
set_option linter.unusedVariables false
set_option linter.unusedSimpArgs false
/- the axes and directions that the laws' maker makes -/
set_option maxRecDepth 100000
namespace Go.Bm
open Classical

def slow (sp : Int) (l : List Int) : Prop := (∀ v ∈ l, -4096 <= v /\ v <= 4096) /\ ∀ i, i + 1 < l.length -> -sp <= 4 * (l.getD (i + 1) 0 - l.getD i 0) /\ 4 * (l.getD (i + 1) 0 - l.getD i 0) <= sp
structure AxOK (a : Axs) : Prop where
 step : 4 <= a.step /\ a.step <= 64
 back : 0 <= a.back /\ a.back <= 6
 origin : -200 <= a.origin /\ a.origin <= 200
 spacing : a.pitch ≠ [] -> 4 <= a.spacing /\ a.spacing <= 123
 pitch : slow a.spacing a.pitch
 count : a.pitch.length <= 4
theorem getD_app {l m : List Int} {i : Nat} (h : i < l.length) : (l ++ m).getD i 0 = l.getD i 0 := by simp [List.getD_eq_getElem?_getD, List.getElem?_append_left h]
theorem getD_appR (l m : List Int) (v : Int) : (l ++ v :: m).getD l.length 0 = v := by simp [List.getD_eq_getElem?_getD]
theorem slow_snoc {sp v w : Int} {l : List Int} (h : slow sp (l ++ [v])) (hw : -4096 <= w /\ w <= 4096) (hd : -sp <= 4 * (w - v) /\ 4 * (w - v) <= sp) : slow sp (l ++ [v] ++ [w]) := by
 refine ⟨?_, ?_⟩
 ·intro x hx
  rcases List.mem_append.1 hx with hx | hx
  ·exact h.1 x hx
  ·rw [List.mem_singleton] at hx; subst hx; exact hw
 ·intro i hi
  simp only [List.length_append, List.length_cons, List.length_nil] at hi
  by_cases c : i + 1 < (l ++ [v]).length
  ·have := h.2 i c
   have c' : i < (l ++ [v]).length := by omega
   rw [getD_app c, getD_app c']
   exact this
  ·simp only [List.length_append, List.length_cons, List.length_nil] at c
   have e : i = l.length := by omega
   subst e
   have g1 : (l ++ [v] ++ [w]).getD (l.length + 1) 0 = w := by
    simp
   have g2 : (l ++ [v] ++ [w]).getD l.length 0 = v := by
    rw [List.append_assoc]; exact getD_appR l ([] ++ [w]) v
   rw [g1, g2]; exact hd
theorem slow_init {sp v : Int} {l : List Int} (h : slow sp (l ++ [v])) : slow sp l := by
 refine ⟨fun x hx => h.1 x (by simp [hx]), fun i hi => ?_⟩
 have := h.2 i (by simp; omega)
 rw [getD_app hi, getD_app (by omega)] at this
 exact this
theorem slow_one {sp v : Int} (hv : -4096 <= v /\ v <= 4096) : slow sp ([] ++ [v]) := ⟨fun x hx => by simp at hx; subst hx; exact hv, fun i hi => by simp at hi⟩

theorem step_at {v : Int} (h : 0 <= v /\ v < 6) : ∃ x, Qaq (nth .dead (nth [] [[I 8], [I 4], [I 5], [I 16], [I 23], [I 64]] v.toNat) 0) = x /\ 4 <= x /\ x <= 64 := by
 have hc : v = 0 \/ v = 1 \/ v = 2 \/ v = 3 \/ v = 4 \/ v = 5 := by omega
 rcases hc with rfl | rfl | rfl | rfl | rfl | rfl <;> exact ⟨_, rfl, by decide⟩
theorem back_at {v : Int} (h : 0 <= v /\ v < 4) : ∃ x, Qaq (nth .dead (nth [] [[I 0], [I 1], [I 3], [I 6]] v.toNat) 0) = x /\ 0 <= x /\ x <= 6 := by
 have hc : v = 0 \/ v = 1 \/ v = 2 \/ v = 3 := by omega
 rcases hc with rfl | rfl | rfl | rfl <;> exact ⟨_, rfl, by decide⟩
abbrev axS (l : List (List AC)) (pit : List Int) (n v : Int) (j : Nat) (a : Axs) (k : Nat) : List AC :=
 [.view Qac [], .view Qac (pit.map intR), I n, I v, I j, I 0, I 0, I 0, I 0, I 0, I 0, I 0, I 0, I 0, I a.step, I a.speed, I a.accel, I a.jerk, I a.low, I a.high, I a.back, I a.origin, I a.spacing, .view Qac l, I k]
theorem l_Axis {MN : List AC -> Option (List AC)} {l : List (List AC)} (hN : NextOK l MN) {a : Axs} (hsp : 4 <= a.spacing /\ a.spacing <= 123) : ∀ (r j : Nat) (pit : List Int) (v : Int) (k : Nat), j + r <= 4 -> pit.length = j -> slow a.spacing (pit ++ [v]) ->
  ∃ (pit' : List Int) (k' : Nat), Qby (Qis MN) (axS l pit (j + r : Nat) v j a k) = some (1, [.view Qac [], .view Qac (pit'.map intR), I 0, I 0, I 0, I 0, I 0, I 0, I 0, I 0, I 0, I a.step, I a.speed, I a.accel, I a.jerk, I a.low, I a.high, I a.back, I a.origin, I a.spacing, .view Qac l, I k']) /\ pit'.length = j + r /\ slow a.spacing pit'
 | 0, j, pit, v, k, _, hl, h => by
  refine ⟨pit, k, Qb1 (o := (1, _)) ?_ (by simp), by omega, slow_init h⟩
  rw [st_cncmill_Axis_11_eq, Qbs (by omega)]
 | r + 1, j, pit, v, k, hj, hl, h => by
  have hv := h.1 v (by simp)
  have e4 : IntKind.i64.wrap (a.spacing.tdiv 4) = a.spacing / 4 := by rw [Int.tdiv_eq_ediv_of_nonneg (by omega), Qab (by omega)]
  have e5 : IntKind.i64.wrap (IntKind.i64.wrap (2 * (a.spacing / 4)) + 1) = 2 * (a.spacing / 4) + 1 := by rw [Qab (x := 2 * (a.spacing / 4)) (by omega), Qab (by omega)]
  obtain ⟨w, k1, hw, w0, w1, -⟩ := hN k (n := 2 * (a.spacing / 4) + 1) (by omega)
  have e6 : IntKind.i64.wrap (IntKind.i64.wrap (v + w) - a.spacing / 4) = v + w - a.spacing / 4 := by rw [Qab (x := v + w) (by omega), Qab (by omega)]
  have hle : (pit.map intR ++ [[I v]]).length * 8 <= 140737488355328 := by rw [List.length_append, List.length_map]; simp only [List.length_cons, List.length_nil]; omega
  have hst : Qis MN (axS l pit (j + (r + 1) : Nat) v j a k) = some (0, axS l (pit ++ [v]) (j + 1 + r : Nat) (min (max (v + w - a.spacing / 4) (-4096)) 4096) (j + 1) a k1) := by
   rw [st_cncmill_Axis_11_eq]
   simp only [go_sem, if_pos hle, e4, e5, hw, e6, mn_eq, mx_eq]
   rw [if_pos (by omega), Qab (x := (j : Int) + 1) (by omega), show j + (r + 1) = j + 1 + r by omega]
   simp only [axS, List.map_append, List.map_cons, List.map_nil, intR, Int.natCast_add, Int.cast_ofNat_Int]
  rw [Qbr hst]
  obtain ⟨p', k', h1, h2, h3⟩ := l_Axis hN hsp r (j + 1) (pit ++ [v]) (min (max (v + w - a.spacing / 4) (-4096)) 4096) k1 (by omega) (by simp [hl]) (slow_snoc h (by omega) (by omega))
  exact ⟨p', k', h1, by omega, h3⟩
theorem a_Axis {MN : List AC -> Option (List AC)} {N : List AC -> Option (Nat × List AC)} {l : List (List AC)} (hN : NextOK l MN)
  (hL : ∀ {a : Axs} {n : Nat} {v : Int} {k : Nat}, (4 <= a.spacing /\ a.spacing <= 123) -> n <= 4 -> slow a.spacing ([] ++ [v]) -> ∃ (pit' : List Int) (k' : Nat), N (axS l [] n v 0 a k) = some (1, [.view Qac [], .view Qac (pit'.map intR), I 0, I 0, I 0, I 0, I 0, I 0, I 0, I 0, I 0, I a.step, I a.speed, I a.accel, I a.jerk, I a.low, I a.high, I a.back, I a.origin, I a.spacing, .view Qac l, I k']) /\ pit'.length = n /\ slow a.spacing pit') (k : Nat) :
  ∃ (a : Axs) (k' : Nat), mf_cncmill_Axis MN N [.view Qac l, I k] = some (axsR a ++ [.view Qac l, I k']) /\ AxOK a := by
 obtain ⟨v1, k1, h1, a1, b1, -⟩ := hN k (n := 6) (by omega)
 obtain ⟨v2, k2, h2, a2, b2, -⟩ := hN k1 (n := 4) (by omega)
 obtain ⟨v3, k3, h3, a3, b3, -⟩ := hN k2 (n := 5) (by omega)
 obtain ⟨v4, k4, h4, a4, b4, -⟩ := hN k3 (n := 5) (by omega)
 obtain ⟨v5, k5, h5, a5, b5, -⟩ := hN k4 (n := 5) (by omega)
 obtain ⟨v6, k6, h6, a6, b6, -⟩ := hN k5 (n := 5) (by omega)
 obtain ⟨v7, k7, h7, a7, b7, -⟩ := hN k6 (n := 400) (by omega)
 obtain ⟨v8, k8, h8, a8, b8, -⟩ := hN k7 (n := 120) (by omega)
 obtain ⟨v9, k9, h9, a9, b9, -⟩ := hN k8 (n := 9) (by omega)
 obtain ⟨x1, e1, s1⟩ := step_at ⟨a1, b1⟩
 obtain ⟨x2, e2, s2⟩ := back_at ⟨a2, b2⟩
 have i1 : (0 : Int) <= v1 /\ v1 < (([[I 8], [I 4], [I 5], [I 16], [I 23], [I 64]] : List (List AC)).length : Int) := ⟨a1, by simp; omega⟩
 have i2 : (0 : Int) <= v2 /\ v2 < (([[I 0], [I 1], [I 3], [I 6]] : List (List AC)).length : Int) := ⟨a2, by simp; omega⟩
 have i3 : (0 : Int) <= v3 /\ v3 < (([[I 40], [I 1], [I 3], [I 9], [I 1000]] : List (List AC)).length : Int) := ⟨a3, by simp; omega⟩
 have i4 : (0 : Int) <= v4 /\ v4 < (([[I 20], [I 2], [I 3], [I 5], [I 1000]] : List (List AC)).length : Int) := ⟨a4, by simp; omega⟩
 have i5 : (0 : Int) <= v5 /\ v5 < (([[I 30], [I 4], [I 5], [I 8], [I 1000]] : List (List AC)).length : Int) := ⟨a5, by simp; omega⟩
 generalize hx3 : Qaq (nth .dead (nth [] [[I 40], [I 1], [I 3], [I 9], [I 1000]] v3.toNat) 0) = x3
 generalize hx4 : Qaq (nth .dead (nth [] [[I 20], [I 2], [I 3], [I 5], [I 1000]] v4.toNat) 0) = x4
 generalize hx5 : Qaq (nth .dead (nth [] [[I 30], [I 4], [I 5], [I 8], [I 1000]] v5.toNat) 0) = x5
 have main : ∀ R, R = (if v6 = 0 then some [I x1, I x3, I x4, I x5, I (-16777216), I 16777216, I x2, I 0, I 0, .view Qac [], .view Qac l, I k6] else
   (N (axS l [] v6.toNat (v9 - 4) 0 ⟨x1, x3, x4, x5, -16777216, 16777216, x2, v7 - 200, 4 + v8, []⟩ k9)).bind fun o => if o.1 = 1 then some [I (Qaq (nth .dead o.2 11)), I (Qaq (nth .dead o.2 12)), I (Qaq (nth .dead o.2 13)), I (Qaq (nth .dead o.2 14)), I (Qaq (nth .dead o.2 15)), I (Qaq (nth .dead o.2 16)), I (Qaq (nth .dead o.2 17)), I (Qaq (nth .dead o.2 18)), I (Qaq (nth .dead o.2 19)), .view Qac (rowsOf (nth .dead o.2 1)), .view Qac (rowsOf (nth .dead o.2 20)), I (Qaq (nth .dead o.2 21))] else none) ->
   ∃ (a : Axs) (k' : Nat), R = some (axsR a ++ [.view Qac l, I k']) /\ AxOK a := by
  intro R hR
  by_cases c : v6 = 0
  ·rw [if_pos c] at hR
   refine ⟨⟨x1, x3, x4, x5, -16777216, 16777216, x2, 0, 0, []⟩, k6, hR, ?_⟩
   exact ⟨s1, s2, by simp, fun h => absurd rfl h, ⟨by simp, by simp⟩, by simp⟩
  ·rw [if_neg c] at hR
   obtain ⟨pit, k', g1, g2, g3⟩ := hL (a := ⟨x1, x3, x4, x5, -16777216, 16777216, x2, v7 - 200, 4 + v8, []⟩) (n := v6.toNat) (v := v9 - 4) (k := k9) (by simp only; omega) (by omega) (slow_one (by omega))
   rw [g1] at hR
   refine ⟨⟨x1, x3, x4, x5, -16777216, 16777216, x2, v7 - 200, 4 + v8, pit⟩, k', ?_, ?_⟩
   ·rw [hR]; simp only [go_sem]; rfl
   ·exact ⟨s1, s2, by simp only; omega, fun _ => by simp only; omega, g3, by simp only; omega⟩
 refine main _ ?_
 rw [mf_cncmill_Axis_eq]
 simp only [go_sem, h1, h2, h3, h4, h5, h6, if_pos i1, if_pos i2, if_pos i3, if_pos i4, if_pos i5, e1, e2, hx3, hx4, hx5]
 by_cases c : v6 = 0
 ·rw [if_pos c, if_pos c]
 ·rw [if_neg c, if_neg c]
  simp only [h7, h8, h9, go_sem, Qab (x := v9 - 4) (by omega), Qab (x := v7 - 200) (by omega), Qab (x := 4 + v8) (by omega)]
  have e : ((v6.toNat : Nat) : Int) = v6 := by omega
  simp only [axS, e, List.map_nil]
  rfl
theorem s_Axis {l : List (List AC)} (hl : Src l) (k : Nat) : ∃ (a : Axs) (k' : Nat), Qh8 [.view Qac l, I k] = some (axsR a ++ [.view Qac l, I k']) /\ AxOK a := by
 refine a_Axis (N := l_cncmill_Axis_11) (nextOK hl) (fun {a n v k} hs hn hv => ?_) k
 obtain ⟨p, k', h1, h2, h3⟩ := l_Axis (MN := Qao) (nextOK hl) hs n 0 [] v k (by omega) rfl hv
 rw [Nat.zero_add] at h1 h2
 exact ⟨p, k', h1, h2, h3⟩
structure Ax3M (x : Ax3) : Prop where
 a : AxOK x.a
 b : AxOK x.b
 c : AxOK x.c
theorem Ax3M.ok {x : Ax3} (h : Ax3M x) : Ax3OK x := ⟨by have := h.a.back; omega, by have := h.b.back; omega, by have := h.c.back; omega⟩
theorem s_Axes {l : List (List AC)} (hl : Src l) : ∃ x : Ax3, Qic [.view Qac l] = some (ax3R x) /\ Ax3M x := by
 obtain ⟨a, k1, h1, g1⟩ := s_Axis hl 0
 obtain ⟨b, k2, h2, g2⟩ := s_Axis hl k1
 obtain ⟨c, k3, h3, g3⟩ := s_Axis hl k2
 refine ⟨⟨a, b, c⟩, ?_, g1, g2, g3⟩
 have hf := s_From l
 unfold Qic
 generalize Qh8 = MA at *
 generalize Qc8 = MF at *
 rw [mf_cncmill_Axes_eq]
 have h1' : MA [.view Qac l, I 0] = some (axsR a ++ [.view Qac l, I k1]) := h1
 simp only [axsR, List.cons_append, List.nil_append] at h1' h2 h3
 simp only [go_sem, hf, h1', h2, h3]
end Go.Bm
/- tracks: the way between two positions, by the program; the law TrackLeg -/
set_option maxRecDepth 100000
namespace Go.Bm
open Classical

theorem legN_keep {p : Pth} {x : Ax3} {mv lo hi f : Int} {d : Pt} (j : Nat) : (legN p x mv lo hi (⟨[], 0, f, d⟩, d) j).1.start = f /\ (legN p x mv lo hi (⟨[], 0, f, d⟩, d) j).1.dirs = d := by
 induction j with
 | zero => exact ⟨rfl, rfl⟩
 | succ j ih => rw [legN, (segT_keep _).1, (segT_keep _).2]; exact ih
theorem l_each10 {p : Pth} {x : Ax3} {lo hi mv f : Int} {d : Pt} (hv : mv = 1 \/ mv = -1) (hp : GoodPath p) (hx : Ax3OK x) : ∀ (k j : Nat), j + k = p.segs.length -> ∀ w, w = legN p x mv lo hi (⟨[], 0, f, d⟩, d) j ->
  Qby (Qk5 Qc3 Qh4) (visS p x lo hi mv w.1 w.2 j) = some (1, visR x mv (legN p x mv lo hi (⟨[], 0, f, d⟩, d) p.segs.length).1 (legN p x mv lo hi (⟨[], 0, f, d⟩, d) p.segs.length).2)
 | 0, j, hj, w, hw => by
  have hj' : j = p.segs.length := by omega
  refine Qb1 (o := (1, _)) ?_ (by simp)
  rw [st_track_each_10_eq, Qbs (by omega), hw, hj']
 | k + 1, j, hj, w, hw => by
  have hcnt := hp.count
  have hb := legN_bd (mv := mv) (lo := lo) (hi := hi) (f := f) (d := d) hx hp.ok j (by omega)
  rw [<- hw] at hb
  have hst := a_each10 (MV := Qc3) (N := Qh4) (lo := lo) (hi := hi) (now := w.2) (j := j) hv hp hx hb (by omega) (by omega) (by omega) (fun {a b s units} hu => s_visit hv hx hb (by omega) (by omega) (k := 268435456) (by omega) hu)
  rw [Qbr hst]
  exact l_each10 hv hp hx k (j + 1) (by omega) _ (by rw [legN, <- hw])
theorem a_each {MV : List AC -> Option (List AC)} {N4 N10 : List AC -> Option (Nat × List AC)} {p : Pth} {x : Ax3} {lo hi mv f : Int} {d : Pt}
  (h4 : N4 (ethS p x lo hi mv ⟨[], 0, f, d⟩ d 0 [] 0) = some (1, [.view Qac (begL p.segs p.segs.length), .view kPce [], I lo, I hi, I mv, I p.start.x, I p.start.y, I p.start.z, .view kSgm (p.segs.map sgmR), .view kMrk (p.marks.map mrkR), I d.x, I d.y, I d.z, I mv, I x.a.step, I x.a.speed, I x.a.accel, I x.a.jerk, I x.a.low, I x.a.high, I x.a.back, I x.a.origin, I x.a.spacing, .view Qac (x.a.pitch.map intR), I x.b.step, I x.b.speed, I x.b.accel, I x.b.jerk, I x.b.low, I x.b.high, I x.b.back, I x.b.origin, I x.b.spacing, .view Qac (x.b.pitch.map intR), I x.c.step, I x.c.speed, I x.c.accel, I x.c.jerk, I x.c.low, I x.c.high, I x.c.back, I x.c.origin, I x.c.spacing, .view Qac (x.c.pitch.map intR), I 0, I f, I d.x, I d.y, I d.z]))
  (h10 : N10 (visS p x lo hi mv ⟨[], 0, f, d⟩ d 0) = some (1, visR x mv (legN p x mv lo hi (⟨[], 0, f, d⟩, d) p.segs.length).1 (legN p x mv lo hi (⟨[], 0, f, d⟩, d) p.segs.length).2)) :
  mf_track_each MV N4 N10 [.view kPce [], I p.start.x, I p.start.y, I p.start.z, .view kSgm (p.segs.map sgmR), .view kMrk (p.marks.map mrkR), I lo, I hi, I mv, I d.x, I d.y, I d.z, I mv, I x.a.step, I x.a.speed, I x.a.accel, I x.a.jerk, I x.a.low, I x.a.high, I x.a.back, I x.a.origin, I x.a.spacing, .view Qac (x.a.pitch.map intR), I x.b.step, I x.b.speed, I x.b.accel, I x.b.jerk, I x.b.low, I x.b.high, I x.b.back, I x.b.origin, I x.b.spacing, .view Qac (x.b.pitch.map intR), I x.c.step, I x.c.speed, I x.c.accel, I x.c.jerk, I x.c.low, I x.c.high, I x.c.back, I x.c.origin, I x.c.spacing, .view Qac (x.c.pitch.map intR), I 0, I f, I d.x, I d.y, I d.z] = some (visR x mv (legN p x mv lo hi (⟨[], 0, f, d⟩, d) p.segs.length).1 (legN p x mv lo hi (⟨[], 0, f, d⟩, d) p.segs.length).2) := by
 rw [mf_track_each_eq]
 simp only [ethS, List.map_nil, Int.cast_ofNat_Int] at h4
 simp only [visS, visR, List.map_nil, Int.cast_ofNat_Int] at h10
 simp only [go_sem, List.length_map, h4, h10]
theorem s_each {p : Pth} {x : Ax3} {lo hi mv f : Int} {d : Pt} (hv : mv = 1 \/ mv = -1) (hp : GoodPath p) (hx : Ax3OK x) :
  m_track_each [.view kPce [], I p.start.x, I p.start.y, I p.start.z, .view kSgm (p.segs.map sgmR), .view kMrk (p.marks.map mrkR), I lo, I hi, I mv, I d.x, I d.y, I d.z, I mv, I x.a.step, I x.a.speed, I x.a.accel, I x.a.jerk, I x.a.low, I x.a.high, I x.a.back, I x.a.origin, I x.a.spacing, .view Qac (x.a.pitch.map intR), I x.b.step, I x.b.speed, I x.b.accel, I x.b.jerk, I x.b.low, I x.b.high, I x.b.back, I x.b.origin, I x.b.spacing, .view Qac (x.b.pitch.map intR), I x.c.step, I x.c.speed, I x.c.accel, I x.c.jerk, I x.c.low, I x.c.high, I x.c.back, I x.c.origin, I x.c.spacing, .view Qac (x.c.pitch.map intR), I 0, I f, I d.x, I d.y, I d.z] = some (visR x mv (legN p x mv lo hi (⟨[], 0, f, d⟩, d) p.segs.length).1 (legN p x mv lo hi (⟨[], 0, f, d⟩, d) p.segs.length).2) := by
 refine a_each (MV := Qc3) (N4 := Qh4) (N10 := l_track_each_10) ?_ (l_each10 hv hp hx p.segs.length 0 (by omega) _ rfl)
 have h := l_each4 (M := Qc3) (x := x) (lo := lo) (hi := hi) (mv := mv) (t := ⟨[], 0, f, d⟩) (now := d) hp.ok p.segs.length 0 (by omega)
 rw [posL_zero] at h
 exact h
theorem a_trackLeg {ME M2 M1 MC ML : List AC -> Option (List AC)} {p : Pth} {x : Ax3} {d : Pt} {from_ to : Int} (hL : ML (pthR p) = some [I (Qay p.segs)]) (hC : ∀ n h : Int, MC [I n, I h] = some [I (Qct n h)])
  (hE : ∀ {lo hi mv f : Int}, (mv = 1 \/ mv = -1) -> ME [.view kPce [], I p.start.x, I p.start.y, I p.start.z, .view kSgm (p.segs.map sgmR), .view kMrk (p.marks.map mrkR), I lo, I hi, I mv, I d.x, I d.y, I d.z, I mv, I x.a.step, I x.a.speed, I x.a.accel, I x.a.jerk, I x.a.low, I x.a.high, I x.a.back, I x.a.origin, I x.a.spacing, .view Qac (x.a.pitch.map intR), I x.b.step, I x.b.speed, I x.b.accel, I x.b.jerk, I x.b.low, I x.b.high, I x.b.back, I x.b.origin, I x.b.spacing, .view Qac (x.b.pitch.map intR), I x.c.step, I x.c.speed, I x.c.accel, I x.c.jerk, I x.c.low, I x.c.high, I x.c.back, I x.c.origin, I x.c.spacing, .view Qac (x.c.pitch.map intR), I 0, I f, I d.x, I d.y, I d.z] = some (visR x mv (legN p x mv lo hi (⟨[], 0, f, d⟩, d) p.segs.length).1 (legN p x mv lo hi (⟨[], 0, f, d⟩, d) p.segs.length).2)) :
  mf_track_Leg ME M2 M1 MC ML (pthR p ++ ax3R x ++ [I d.x, I d.y, I d.z, I from_, I to]) = some (trkR (legP p x d from_ to)) := by
 have he := mf_track_Leg_eq ME M2 M1 MC ML p.start.x p.start.y p.start.z (p.segs.map sgmR) (p.marks.map mrkR) x.a.step x.a.speed x.a.accel x.a.jerk x.a.low x.a.high x.a.back x.a.origin x.a.spacing (x.a.pitch.map intR) x.b.step x.b.speed x.b.accel x.b.jerk x.b.low x.b.high x.b.back x.b.origin x.b.spacing (x.b.pitch.map intR) x.c.step x.c.speed x.c.accel x.c.jerk x.c.low x.c.high x.c.back x.c.origin x.c.spacing (x.c.pitch.map intR) d.x d.y d.z from_ to
 refine Eq.trans he ?_
 unfold legP
 simp only [pthR] at hL
 simp only [hL, hC, go_sem, mn_eq, mx_eq]
 generalize Qct from_ (Qay p.segs) = f at *
 generalize Qct to (Qay p.segs) = t at *
 by_cases c : t < f
 ·have h := hE (lo := min f t) (hi := max f t) (mv := -1) (f := f) (.inr rfl)
  simp only [visR] at h
  simp only [h, go_sem, c, if_true]
 ·have h := hE (lo := min f t) (hi := max f t) (mv := 1) (f := f) (.inl rfl)
  simp only [visR] at h
  simp only [h, go_sem, c, if_false]
theorem s_track_Leg {p : Pth} {x : Ax3} {d : Pt} {from_ to : Int} (hp : GoodPath p) (hx : Ax3OK x) : m_track_Leg (pthR p ++ ax3R x ++ [I d.x, I d.y, I d.z, I from_, I to]) = some (trkR (legP p x d from_ to)) :=
 a_trackLeg (s_path_Length hp.ok) (fun _ _ => s_clamp) fun hv => s_each hv hp hx
def finalP (t : Trk) : Pt := if t.pieces = [] then t.dirs else (Qec t.pieces).dirs
theorem legP_bd {p : Pth} {x : Ax3} (d : Pt) (a b : Int) (hp : GoodPath p) (hx : Ax3OK x) : (legP p x d a b).pieces.length <= 10000000 /\ 0 <= (legP p x d a b).length /\ (legP p x d a b).length <= 900000000000000 := by
 have hc := hp.count
 have h := legN_bd (mv := if Qct a (Qay p.segs) > Qct b (Qay p.segs) then -1 else 1) (lo := min (Qct a (Qay p.segs)) (Qct b (Qay p.segs))) (hi := max (Qct a (Qay p.segs)) (Qct b (Qay p.segs))) (f := Qct a (Qay p.segs)) (d := d) hx hp.ok p.segs.length (Nat.le_refl _)
 obtain ⟨h1, h2, -⟩ := h
 unfold legP
 simp only
 refine ⟨by omega, by omega, by omega⟩
end Go.Bm
/- tracks: what is known of every way over a path -/
set_option maxRecDepth 100000
namespace Go.Bm
open Classical

theorem endAt_ge {x : Ax3} {mv : Int} {Q : Int -> Pt -> Prop} : ∀ {a s : Int} {d : Pt} {l : List Pce}, chain x mv Q a s d l -> a <= Qkf a l
 | a, _, _, [], _ => Int.le_refl _
 | a, s, d, c :: l, h => by
  obtain ⟨-, -, h3, -, h5⟩ := h
  have := endAt_ge h5
  unfold Qkf; omega
theorem chain_pos {x : Ax3} {mv : Int} {Q : Int -> Pt -> Prop} (hv : mv = 1 \/ mv = -1) : ∀ {a s : Int} {d : Pt} {l : List Pce}, chain x mv Q a s d l -> ∀ i, i < l.length ->
  a <= (pcA l i).at_ /\ 1 <= (pcA l i).units /\ eI l i <= Qkf a l /\ (s - ((pcA l i).at_ - a) <= (pcA l i).s /\ (pcA l i).s <= s + ((pcA l i).at_ - a)) /\ ((pcA l i).move = 0 \/ (pcA l i).move = mv)
 | a, s, d, c :: l, h, 0, _ => by
  obtain ⟨h1, h2, h3, h4, h5⟩ := h
  have := endAt_ge h5
  unfold eI
  rw [pcA_zero]
  refine ⟨by omega, h3, by unfold Qkf; omega, by omega, ?_⟩
  rcases h4 with h4 | h4
  ·exact .inr h4.1
  ·exact .inl h4.1
 | a, s, d, c :: l, h, i + 1, hi => by
  obtain ⟨h1, h2, h3, h4, h5⟩ := h
  have ih := chain_pos hv h5 i (by simpa using hi)
  unfold eI at ih ⊢
  rw [Qla]
  obtain ⟨g1, g2, g3, g4, g5⟩ := ih
  have hm : c.move * c.units = 0 \/ c.move * c.units = c.units \/ c.move * c.units = -c.units := by
   rcases h4 with h4 | h4
   ·rw [h4.1]; rcases hv with rfl | rfl <;> omega
   ·rw [h4.1]; omega
  refine ⟨by omega, g2, by unfold Qkf; exact g3, by omega, g5⟩
theorem chain_mono {x : Ax3} {mv : Int} {Q : Int -> Pt -> Prop} (hv : mv = 1 \/ mv = -1) : ∀ {a s : Int} {d : Pt} {l : List Pce}, chain x mv Q a s d l -> ∀ i j, i <= j -> j < l.length -> eI l i <= eI l j
 | a, s, d, c :: l, h, 0, 0, _, _ => Int.le_refl _
 | a, s, d, c :: l, h, 0, j + 1, _, hj => by
  obtain ⟨h1, h2, h3, h4, h5⟩ := h
  have := chain_pos hv h5 j (by simpa using hj)
  unfold eI at *
  rw [pcA_zero, Qla]; omega
 | a, s, d, c :: l, h, i + 1, 0, hij, _ => by omega
 | a, s, d, c :: l, h, i + 1, j + 1, hij, hj => by
  obtain ⟨h1, h2, h3, h4, h5⟩ := h
  have := chain_mono hv h5 i j (by omega) (by simpa using hj)
  unfold eI at *
  rw [Qla, Qla]; exact this
theorem chain_last {x : Ax3} {mv : Int} {Q : Int -> Pt -> Prop} : ∀ {a s : Int} {d : Pt} {l : List Pce}, chain x mv Q a s d l -> l ≠ [] -> eI l (l.length - 1) = Qkf a l
 | a, s, d, [c], h, _ => by
  obtain ⟨h1, -⟩ := h
  show eI [c] 0 = Qkf a [c]
  unfold eI
  rw [pcA_zero]; simp only [Qkf]; omega
 | a, s, d, c :: e :: l, h, _ => by
  obtain ⟨-, -, -, -, h5⟩ := h
  have := chain_last h5 (by simp)
  have e1 : (c :: e :: l).length - 1 = ((e :: l).length - 1) + 1 := by simp
  rw [e1]
  unfold eI at *
  rw [Qla, this]; rfl
def mvP (p : Pth) (a b : Int) : Int := if Qct a (Qay p.segs) > Qct b (Qay p.segs) then -1 else 1
theorem mvP_or (p : Pth) (a b : Int) : mvP p a b = 1 \/ mvP p a b = -1 := by unfold mvP; split <;> simp
theorem legP_chain {p : Pth} {x : Ax3} {d : Pt} {a b : Int} {Q : Int -> Pt -> Prop} (hx : Ax3OK x) (hp : GoodPath p) (hQ : SegQ p (mvP p a b) Q) :
  ∃ d', TC x (mvP p a b) Q (legP p x d a b) (Qct b (Qay p.segs)) d' /\ (legP p x d a b).start = Qct a (Qay p.segs) /\ (legP p x d a b).dirs = d := by
 have hn := sum_path hp
 have ha : 0 <= Qct a (Qay p.segs) /\ Qct a (Qay p.segs) <= Qay p.segs := by unfold Qct; omega
 have hb : 0 <= Qct b (Qay p.segs) /\ Qct b (Qay p.segs) <= Qay p.segs := by unfold Qct; omega
 have hk := fun mv lo hi f => legN_keep (p := p) (x := x) (mv := mv) (lo := lo) (hi := hi) (f := f) (d := d) p.segs.length
 unfold legP mvP at *
 simp only
 generalize Qct a (Qay p.segs) = f at *
 generalize Qct b (Qay p.segs) = t at *
 have h := legN_chain (p := p) (x := x) (mv := if f > t then -1 else 1) (lo := min f t) (hi := max f t) (f := f) (d := d) (Q := Q) (by split <;> simp) hx hp.ok (by omega) (by split <;> omega) hQ p.segs.length (Nat.le_refl _)
 have hs : wayS p.segs (if f > t then -1 else 1) (min f t) (max f t) p.segs.length = t := by
  unfold wayS
  rw [Nat.sub_self, posL_zero, posL_len]
  by_cases c : f > t
  ·rw [if_pos c, if_pos (by omega)]; omega
  ·rw [if_neg c, if_neg (by omega)]; omega
 rw [hs] at h
 exact ⟨_, h, (hk _ _ _ _).1, (hk _ _ _ _).2⟩
theorem TQ_of {x : Ax3} {mv : Int} {Q : Int -> Pt -> Prop} {t : Trk} {s : Int} {d : Pt} (hv : mv = 1 \/ mv = -1) (h : TC x mv Q t s d) (hb : t.pieces.length <= 10000000 /\ 0 <= t.length /\ t.length <= 900000000000000) (hs : 0 <= t.start /\ t.start <= 263886834032640) : TQ t := by
 obtain ⟨h1, h2, -, -⟩ := h
 refine ⟨hb.1, hb.2, fun i hi => ?_, chain_mono hv h1, fun hne => by rw [chain_last h1 hne, h2], hs, fun i hi => ?_, fun i hi => ?_⟩
 ·have := chain_pos hv h1 i hi
  rw [h2] at this; exact ⟨this.1, this.2.1, this.2.2.1⟩
 ·have := chain_pos hv h1 i hi
  rw [h2] at this; unfold eI at this; omega
 ·have := (chain_pos hv h1 i hi).2.2.2.2
  rcases hv with rfl | rfl
  ·rcases this with h | h
   ·exact .inl h
   ·exact .inr (.inl h)
  ·rcases this with h | h
   ·exact .inl h
   ·exact .inr (.inr h)
theorem legP_TQ {p : Pth} {x : Ax3} (d : Pt) (a b : Int) (hx : Ax3OK x) (hp : GoodPath p) : TQ (legP p x d a b) := by
 have hn := sum_path hp
 obtain ⟨d', h1, h2, -⟩ := legP_chain (d := d) (a := a) (b := b) (Q := fun _ _ => True) hx hp (fun _ _ _ _ _ _ _ _ => trivial)
 exact TQ_of (mvP_or p a b) h1 (legP_bd d a b hp hx) (by rw [h2]; unfold Qct; omega)
end Go.Bm
/- motors: corrected positions, steps, the difference of a motor and its table -/
set_option maxRecDepth 100000
namespace Go.Bm
open Classical

def pitA (a : Axs) (i : Nat) : Int := a.pitch.getD i 0
def corP (a : Axs) (p : Int) : Int :=
 if a.pitch = [] then 0
 else if p <= a.origin then pitA a 0
 else if (p - a.origin) / a.spacing >= a.pitch.length - 1 then pitA a (a.pitch.length - 1)
 else pitA a ((p - a.origin) / a.spacing).toNat + near ((pitA a (((p - a.origin) / a.spacing).toNat + 1) - pitA a ((p - a.origin) / a.spacing).toNat) * (p - a.origin - (p - a.origin) / a.spacing * a.spacing)) a.spacing
def motP (a : Axs) (p : Int) : Int := near (p + corP a p) a.step
def okB (p : Int) : Prop := -1000000000 <= p /\ p <= 1000000000
theorem ne_len {l : List Int} (h : l ≠ []) : 0 < l.length := by
 cases l with
 | nil => exact absurd rfl h
 | cons _ _ => simp
theorem pitA_bd {a : Axs} (h : AxOK a) {i : Nat} (hi : i < a.pitch.length) : -4096 <= pitA a i /\ pitA a i <= 4096 := by
 have e : pitA a i = a.pitch[i] := by unfold pitA; simp [hi]
 rw [e]; exact h.pitch.1 _ (List.getElem_mem _)
theorem row_pit {a : Axs} {i : Nat} (hi : i < a.pitch.length) : nth [] (a.pitch.map intR) i = [I (pitA a i)] := by
 have e : pitA a i = a.pitch[i] := by unfold pitA; simp [hi]
 rw [e]; exact nth_map _ _ _ _ hi
theorem mid_knots {a : Axs} (h : AxOK a) (hne : a.pitch ≠ []) {p : Int} (h1 : ¬ p <= a.origin) (h2 : ¬ (p - a.origin) / a.spacing >= a.pitch.length - 1) :
  ∃ (i : Nat) (r : Int), ((p - a.origin) / a.spacing = i) /\ i + 1 < a.pitch.length /\ 0 <= r /\ r < a.spacing /\ p - a.origin = i * a.spacing + r /\ p - a.origin - (p - a.origin) / a.spacing * a.spacing = r := by
 have hs := h.spacing hne
 have e0 := Int.mul_ediv_add_emod (p - a.origin) a.spacing
 have e1 := Int.emod_nonneg (p - a.origin) (show a.spacing ≠ 0 by omega)
 have e2 := Int.emod_lt_of_pos (p - a.origin) (show 0 < a.spacing by omega)
 have e3 : 0 <= (p - a.origin) / a.spacing := Int.ediv_nonneg (by omega) (by omega)
 refine ⟨((p - a.origin) / a.spacing).toNat, (p - a.origin) % a.spacing, by omega, by omega, e1, e2, ?_, ?_⟩
 ·rw [Int.toNat_of_nonneg e3, Int.mul_comm]; omega
 ·rw [Int.mul_comm ((p - a.origin) / a.spacing)]; omega
theorem near_diff {a : Axs} (h : AxOK a) (hne : a.pitch ≠ []) {i : Nat} (hi : i + 1 < a.pitch.length) {r : Int} (hr : 0 <= r /\ r <= a.spacing) :
  (-30 <= pitA a (i + 1) - pitA a i /\ pitA a (i + 1) - pitA a i <= 30) /\ (near ((pitA a (i + 1) - pitA a i) * r) a.spacing).natAbs <= 31 := by
 have hs := h.spacing hne
 have hp := h.pitch.2 i hi
 have hd : -30 <= pitA a (i + 1) - pitA a i /\ pitA a (i + 1) - pitA a i <= 30 := by unfold pitA; omega
 refine ⟨hd, near_bd (by omega) ?_⟩
 have m1 : (pitA a (i + 1) - pitA a i) * r <= 31 * r := Int.mul_le_mul_of_nonneg_right (by omega) hr.1
 have m2 : -31 * r <= (pitA a (i + 1) - pitA a i) * r := Int.mul_le_mul_of_nonneg_right (by omega) hr.1
 have e : ((31 : Nat) : Int) = 31 := rfl
 rw [e]; omega
theorem corP_bd {a : Axs} (h : AxOK a) (p : Int) : -5000 <= corP a p /\ corP a p <= 5000 := by
 unfold corP
 by_cases c : a.pitch = []
 ·rw [if_pos c]; omega
 ·have hl := ne_len c
  rw [if_neg c]
  by_cases c1 : p <= a.origin
  ·rw [if_pos c1]; have := pitA_bd h (show 0 < a.pitch.length from hl); omega
  ·rw [if_neg c1]
   by_cases c2 : (p - a.origin) / a.spacing >= a.pitch.length - 1
   ·rw [if_pos c2]; have := pitA_bd h (show a.pitch.length - 1 < a.pitch.length by omega); omega
   ·rw [if_neg c2]
    obtain ⟨i, r, e1, e2, e3, e4, e5, e6⟩ := mid_knots h c c1 c2
    rw [e6, e1, Int.toNat_natCast]
    have b1 := pitA_bd h (show i < a.pitch.length by omega)
    have b2 := (near_diff h c e2 (r := r) (by omega)).2
    omega

theorem s_axSteps {a : Axs} (h : AxOK a) {v : Int} (hv : v.natAbs <= 1000010000) : Qg9 (axsR a ++ [I v]) = some [I (near v a.step)] := by
 have hs := h.step
 have he := mf_axis_Steps_eq a.step a.speed a.accel a.jerk a.low a.high a.back a.origin a.spacing (a.pitch.map intR) v
 unfold Qg9
 refine Eq.trans he ?_
 rw [Qab (x := 2 * v) (by omega), Qab (x := 2 * v + a.step) (by omega), Qab (x := 2 * a.step) (by omega)]
 have hm := Int.tmod_add_mul_tdiv (2 * v + a.step) (2 * a.step)
 have h1 := Int.tmod_lt_of_pos (2 * v + a.step) (show 0 < 2 * a.step by omega)
 have h2 := Int.lt_tmod_of_pos (2 * v + a.step) (show 0 < 2 * a.step by omega)
 have hq : ((2 * v + a.step).tdiv (2 * a.step)).natAbs <= (2 * v + a.step).natAbs := by rw [Int.natAbs_tdiv]; exact Nat.div_le_self _ _
 generalize (2 * v + a.step).tdiv (2 * a.step) = q at *
 generalize (2 * v + a.step).tmod (2 * a.step) = r at *
 have e1 : 2 * a.step * q = q * (2 * a.step) := Int.mul_comm _ _
 rw [Qbs (by omega), Qbs (by omega), Qbs (by omega), Qbs (by omega), Qab (x := q) (by omega)]
 by_cases h : r < 0
 ·rw [Qgw h, Qab (by omega), near_of (k := q - 1) (by omega)]
  ·rw [Int.sub_mul]; omega
  ·rw [Int.sub_add_cancel]; omega
 ·rw [Qbs h, near_of (k := q) (by omega)]
  ·omega
  ·rw [Int.add_mul]; omega
theorem s_pCorrect {a : Axs} (h : AxOK a) {p : Int} (hp : okB p) : Qer (axsR a ++ [I p]) = some [I (corP a p)] := by
 unfold okB at hp
 have ho := h.origin
 have hc := h.count
 have he := mf_pitch_Correct_eq Qbh a.step a.speed a.accel a.jerk a.low a.high a.back a.origin a.spacing (a.pitch.map intR) p
 unfold Qer
 have hF := fun {x y : Int} (hx : x.natAbs <= 30) (hy : y.natAbs <= 123) (hs : 4 <= a.spacing /\ a.spacing <= 123) => s_MulDivA (a := x) (b := y) (c := a.spacing) (by omega) (by omega) (by omega)
 generalize Qbh = M at *
 refine Eq.trans he ?_
 unfold corP
 rw [List.length_map]
 by_cases c : a.pitch = []
 ·rw [if_pos c, c]; rfl
 ·have hl := ne_len c
  have hs := h.spacing c
  have e1 : IntKind.i64.wrap ((a.pitch.length : Int) - 1) = ((a.pitch.length - 1 : Nat) : Int) := by rw [Qab (by omega)]; omega
  have e2 : IntKind.i64.wrap (p - a.origin) = p - a.origin := Qab (by omega)
  rw [if_neg c, e2, e1]
  by_cases c1 : p <= a.origin
  ·rw [if_pos c1]
   simp only [go_sem, row_pit hl]
   rw [if_neg (by omega), if_pos (by omega), if_pos (by omega)]
  ·have e3 : IntKind.i64.wrap ((p - a.origin).tdiv a.spacing) = (p - a.origin) / a.spacing := by
    rw [Int.tdiv_eq_ediv_of_nonneg (by omega)]
    have := Int.ediv_nonneg (show 0 <= p - a.origin by omega) (show 0 <= a.spacing by omega)
    have := Int.ediv_le_self a.spacing (show 0 <= p - a.origin by omega)
    exact Qab (by omega)
   rw [if_neg c1, e3]
   by_cases c2 : (p - a.origin) / a.spacing >= (a.pitch.length : Int) - 1
   ·rw [if_pos c2]
    simp only [go_sem, Int.toNat_natCast, row_pit (show a.pitch.length - 1 < a.pitch.length by omega)]
    rw [if_neg (by omega), if_neg (by omega), if_neg (by omega), if_neg (by omega), if_pos (by omega), if_pos (by omega)]
   ·rw [if_neg c2]
    obtain ⟨i, r, g1, g2, g3, g4, g5, g6⟩ := mid_knots h c c1 c2
    obtain ⟨n1, n2⟩ := near_diff h c g2 (r := r) (by omega)
    have b1 := pitA_bd h (show i < a.pitch.length by omega)
    rw [g6, g1] at *
    rw [Int.toNat_natCast]
    have w1 : IntKind.i64.wrap ((i : Int) + 1) = ((i + 1 : Nat) : Int) := by rw [Qab (by omega)]; omega
    have hmul : (i : Int) * a.spacing = p - a.origin - r := by omega
    have w2 : IntKind.i64.wrap (p - a.origin - IntKind.i64.wrap ((i : Int) * a.spacing)) = r := by rw [hmul, Qab (x := p - a.origin - r) (by omega), Qab (by omega)]; omega
    have hin1 : (0 : Int) <= (i : Int) /\ (i : Int) < (a.pitch.length : Int) := by omega
    have hin2 : (0 : Int) <= ((i + 1 : Nat) : Int) /\ ((i + 1 : Nat) : Int) < (a.pitch.length : Int) := by omega
    simp only [go_sem, w1, w2, Int.toNat_natCast, row_pit (show i < a.pitch.length by omega), row_pit g2, if_pos hin1, if_pos hin2]
    have b2 := pitA_bd h g2
    generalize pitA a (i + 1) = y at *
    generalize pitA a i = z at *
    rw [if_neg (by omega), if_neg (by omega), if_neg (by omega), if_neg (by omega), if_neg (by omega), Qab (x := y - z) (by omega), hF (by omega) (by omega) hs]
    simp only [go_sem]
    rw [Qab (by omega)]
theorem s_pMotor {a : Axs} (h : AxOK a) {p : Int} (hp : okB p) : Qjw (axsR a ++ [I p]) = some [I (motP a p)] := by
 have hb := corP_bd h p
 have h1 := s_pCorrect h hp
 unfold okB at hp
 have h2 := s_axSteps h (v := p + corP a p) (by omega)
 have he := mf_pitch_Motor_eq Qg9 Qer a.step a.speed a.accel a.jerk a.low a.high a.back a.origin a.spacing (a.pitch.map intR) p
 unfold Qjw
 generalize Qg9 = M1 at *
 generalize Qer = M2 at *
 refine Eq.trans he ?_
 simp only [axsR, List.cons_append, List.nil_append] at h1 h2
 simp only [h1, go_sem, Qab (x := p + corP a p) (by omega), h2]
 rfl
end Go.Bm
/- the motors of a track: by the reference and by the program; the law TrackMotors -/
set_option maxRecDepth 100000
namespace Go.Bm
open Classical

def dirP (a : Axs) (d : Int) : Int := if d = -1 then -a.back else 0
def shiftP (a : Axs) (move at_ was dirs u : Int) : Int := if move ≠ 0 \/ was = dirs then dirP a dirs else if dirs = -1 then -min (u - at_) a.back else min (u - at_) a.back - a.back
theorem s_bShift {a : Axs} (hb : 0 <= a.back /\ a.back <= 1000) (v : Int) : Qdu (axsR a ++ [I v]) = some [I (dirP a v)] := by
 have he := mf_backlash_Shift_eq a.step a.speed a.accel a.jerk a.low a.high a.back a.origin a.spacing (a.pitch.map intR) v
 unfold Qdu
 refine Eq.trans he ?_
 unfold dirP
 by_cases c : v = -1
 ·rw [Qj4 (by simp [c]), if_pos c, Qab (by omega)]
  congr 3; omega
 ·rw [Qjp (by simp [c]), if_neg c]
theorem a_sh0 {M : List AC -> Option (List AC)} {a : Axs} {c : Pce} {u : Int} (hM : ∀ v : Int, M (axsR a ++ [I v]) = some [I (dirP a v)]) (hb : 0 <= a.back /\ a.back <= 1000) (hu : 0 <= u - c.at_ /\ u - c.at_ <= 2000000000000000) :
  Qkx M (axsR a ++ pceR c ++ [I 0, I u]) = some [I (shiftP a c.move c.at_ c.was.x c.dirs.x u)] := by
 have he := mf_track_shift_eq M a.step a.speed a.accel a.jerk a.low a.high a.back a.origin a.spacing (a.pitch.map intR) c.at_ c.units c.s c.move c.was.x c.was.y c.was.z c.dirs.x c.dirs.y c.dirs.z 0 u
 refine Eq.trans he ?_
 have hm0 := hM c.dirs.x
 simp only [axsR, List.cons_append, List.nil_append] at hm0
 have e1 : IntKind.i64.wrap (0 + 1) = 1 := rfl
 have e2 : IntKind.i64.wrap (1 + 1) = 2 := rfl
 have w1 : IntKind.i64.wrap (u - c.at_) = u - c.at_ := Qab (by omega)
 have w2 : IntKind.i64.wrap (0 - min (u - c.at_) a.back) = -min (u - c.at_) a.back := by rw [Qab (by omega)]; omega
 have w3 : IntKind.i64.wrap (min (u - c.at_) a.back - a.back) = min (u - c.at_) a.back - a.back := Qab (by omega)
 unfold shiftP
 simp only [go_sem, e1, e2, mn_eq, w1, w2, w3, Nat.reduceAdd, Int.cast_ofNat_Int, Int.natCast_zero, Int.natCast_one, Int.reduceEq, hm0]
 by_cases c1 : c.move = 0
 ·by_cases c2 : c.was.x = c.dirs.x
  ·simp [c1, c2]
  ·by_cases c3 : c.dirs.x = -1
   ·simp [c1, c3, show c.was.x ≠ -1 from fun e => c2 (by rw [e, c3])]
   ·simp [c1, c2, c3]
 ·simp [c1]
theorem a_sh1 {M : List AC -> Option (List AC)} {a : Axs} {c : Pce} {u : Int} (hM : ∀ v : Int, M (axsR a ++ [I v]) = some [I (dirP a v)]) (hb : 0 <= a.back /\ a.back <= 1000) (hu : 0 <= u - c.at_ /\ u - c.at_ <= 2000000000000000) :
  Qkx M (axsR a ++ pceR c ++ [I (IntKind.i64.wrap (0 + 1)), I u]) = some [I (shiftP a c.move c.at_ c.was.y c.dirs.y u)] := by
 have he := mf_track_shift_eq M a.step a.speed a.accel a.jerk a.low a.high a.back a.origin a.spacing (a.pitch.map intR) c.at_ c.units c.s c.move c.was.x c.was.y c.was.z c.dirs.x c.dirs.y c.dirs.z (IntKind.i64.wrap (0 + 1)) u
 refine Eq.trans he ?_
 have hm0 := hM c.dirs.y
 simp only [axsR, List.cons_append, List.nil_append] at hm0
 have e1 : IntKind.i64.wrap (0 + 1) = 1 := rfl
 have e2 : IntKind.i64.wrap (1 + 1) = 2 := rfl
 have w1 : IntKind.i64.wrap (u - c.at_) = u - c.at_ := Qab (by omega)
 have w2 : IntKind.i64.wrap (0 - min (u - c.at_) a.back) = -min (u - c.at_) a.back := by rw [Qab (by omega)]; omega
 have w3 : IntKind.i64.wrap (min (u - c.at_) a.back - a.back) = min (u - c.at_) a.back - a.back := Qab (by omega)
 unfold shiftP
 simp only [go_sem, e1, e2, mn_eq, w1, w2, w3, Nat.reduceAdd, Int.cast_ofNat_Int, Int.natCast_zero, Int.natCast_one, Int.reduceEq, hm0]
 by_cases c1 : c.move = 0
 ·by_cases c2 : c.was.y = c.dirs.y
  ·simp [c1, c2]
  ·by_cases c3 : c.dirs.y = -1
   ·simp [c1, c3, show c.was.y ≠ -1 from fun e => c2 (by rw [e, c3])]
   ·simp [c1, c2, c3]
 ·simp [c1]
theorem a_sh2 {M : List AC -> Option (List AC)} {a : Axs} {c : Pce} {u : Int} (hM : ∀ v : Int, M (axsR a ++ [I v]) = some [I (dirP a v)]) (hb : 0 <= a.back /\ a.back <= 1000) (hu : 0 <= u - c.at_ /\ u - c.at_ <= 2000000000000000) :
  Qkx M (axsR a ++ pceR c ++ [I (IntKind.i64.wrap (IntKind.i64.wrap (0 + 1) + 1)), I u]) = some [I (shiftP a c.move c.at_ c.was.z c.dirs.z u)] := by
 have he := mf_track_shift_eq M a.step a.speed a.accel a.jerk a.low a.high a.back a.origin a.spacing (a.pitch.map intR) c.at_ c.units c.s c.move c.was.x c.was.y c.was.z c.dirs.x c.dirs.y c.dirs.z (IntKind.i64.wrap (IntKind.i64.wrap (0 + 1) + 1)) u
 refine Eq.trans he ?_
 have hm0 := hM c.dirs.z
 simp only [axsR, List.cons_append, List.nil_append] at hm0
 have e1 : IntKind.i64.wrap (0 + 1) = 1 := rfl
 have e2 : IntKind.i64.wrap (1 + 1) = 2 := rfl
 have w1 : IntKind.i64.wrap (u - c.at_) = u - c.at_ := Qab (by omega)
 have w2 : IntKind.i64.wrap (0 - min (u - c.at_) a.back) = -min (u - c.at_) a.back := by rw [Qab (by omega)]; omega
 have w3 : IntKind.i64.wrap (min (u - c.at_) a.back - a.back) = min (u - c.at_) a.back - a.back := Qab (by omega)
 unfold shiftP
 simp only [go_sem, e1, e2, mn_eq, w1, w2, w3, Nat.reduceAdd, Int.cast_ofNat_Int, Int.natCast_zero, Int.natCast_one, Int.reduceEq, hm0]
 by_cases c1 : c.move = 0
 ·by_cases c2 : c.was.z = c.dirs.z
  ·simp [c1, c2]
  ·by_cases c3 : c.dirs.z = -1
   ·simp [c1, c3, show c.was.z ≠ -1 from fun e => c2 (by rw [e, c3])]
   ·simp [c1, c2, c3]
 ·simp [c1]

theorem shiftP_bd {a : Axs} (hb : 0 <= a.back /\ a.back <= 1000) {move at_ was dirs u : Int} (hu : 0 <= u - at_) : -1000 <= shiftP a move at_ was dirs u /\ shiftP a move at_ was dirs u <= 1000 := by
 unfold shiftP dirP
 (repeat' split) <;> omega
theorem midP_bd {a : Pt} {g : Sgm} {d : Int} (ha : bd B26 a) (hg : 1 <= g.len /\ g.len <= 268435456 /\ bd B26 g.to) (hd : 0 <= d /\ d <= g.len) : bd 201326592 (midP a g d) := by
 have key : ∀ u v : Int, u.natAbs <= B26 -> v.natAbs <= B26 -> (v + near ((u - v) * d) g.len).natAbs <= 201326592 := by
  intro u v hu hv
  have h1 := sub_nat hu hv
  have h2 := mid_bd2 (D := u - v) (L := g.len) (d := d) (by omega) (Nat.le_trans h1 (by decide)) hd
  have h3 : v.natAbs <= 67108864 := hv
  omega
 exact ⟨key _ _ hg.2.2.1 ha.1, key _ _ hg.2.2.2.1 ha.2.1, key _ _ hg.2.2.2.2 ha.2.2⟩
theorem atP_bd {p : Pth} (h : GoodPath p) (s : Int) : bd 201326592 (atP p s) := by
 unfold atP
 by_cases c : p.segs = []
 ·rw [c]; exact Qbv h.start (by decide)
 ·have hok := h.ok
  obtain ⟨f1, f2, f3, f4⟩ := find_at (l := p.segs) (a := p.start) (s := max s 0) c (fun g hg => (hok.seg g hg).1) (by omega)
  rw [f4]
  exact midP_bd (vert_bd h.start hok f1) (hok.seg _ (sgA_mem f1)) ⟨f2, f3⟩
theorem motP_bd {a : Axs} (h : AxOK a) {p : Int} (hp : okB p) : (motP a p).natAbs <= 2000000000 := by
 have hb := corP_bd h p
 have hs := h.step
 unfold okB at hp
 unfold motP
 refine near_bd (by omega) ?_
 have e : ((2000000000 : Nat) : Int) = 2000000000 := rfl
 rw [e]; omega
def shT (a : Axs) (t : Trk) (u : Int) (f : Pt -> Int) : Int := if t.pieces = [] then dirP a (f t.dirs) else shiftP a (pcA t.pieces (iT t u)).move (pcA t.pieces (iT t u)).at_ (f (pcA t.pieces (iT t u)).was) (f (pcA t.pieces (iT t u)).dirs) (clT t u)
def nomP (p : Pth) (x : Ax3) (s : Int) : Pt := ⟨motP x.a (atP p s).x, motP x.b (atP p s).y, motP x.c (atP p s).z⟩
def Qki (p : Pth) (x : Ax3) (t : Trk) (u : Int) : Pt :=
 ⟨(nomP p x (Qdg t u)).x + shT x.a t u Pt.x, (nomP p x (Qdg t u)).y + shT x.b t u Pt.y, (nomP p x (Qdg t u)).z + shT x.c t u Pt.z⟩
theorem iT_at {t : Trk} (h : TQ t) (hch : ∀ i, i + 1 < t.pieces.length -> (pcA t.pieces (i + 1)).at_ = eI t.pieces i) (h0 : t.pieces ≠ [] -> (pcA t.pieces 0).at_ = 0) (u : Int) (hne : t.pieces ≠ []) : (pcA t.pieces (iT t u)).at_ <= clT t u /\ (0 < iT t u -> (pcA t.pieces (iT t u)).at_ < clT t u) := by
 have hi := iT_lt h u hne
 have hc := clT_bd h u
 by_cases c : iT t u = 0
 ·rw [c, h0 hne]; exact ⟨hc.1, fun g => absurd g (by omega)⟩
 ·obtain ⟨j, hj⟩ : ∃ j, iT t u = j + 1 := ⟨iT t u - 1, by omega⟩
  rw [hj] at hi ⊢
  rw [hch j hi]
  have : ¬ clT t u <= eI t.pieces j := by
   intro g
   have := fI_lt (show j < t.pieces.length by omega) g
   unfold iT at hj; omega
  exact ⟨by omega, fun _ => by omega⟩
theorem clT_idem {t : Trk} (h : TQ t) (u : Int) : clT t (clT t u) = clT t u := by have := h.len; unfold clT Qct; omega
theorem place_clT {t : Trk} (h : TQ t) (u : Int) : Qdg t (clT t u) = Qdg t u := by unfold Qdg iT; rw [clT_idem h]
theorem place_i64 {t : Trk} (h : TQ t) (u : Int) : -3000000000000000 <= Qdg t u /\ Qdg t u <= 3000000000000000 := by
 unfold Qdg
 by_cases c : t.pieces = []
 ·rw [if_pos c]; have := h.start; omega
 ·have hi := iT_lt h u c
  have h1 := h.pos _ hi
  have h2 := h.s _ hi
  have h3 := h.move _ hi
  have h4 := clT_bd h u
  have h5 := h.len
  rw [if_neg c]
  unfold eI at h1
  rcases h3 with h3 | h3 | h3 <;> rw [h3] <;> omega
theorem okB_at {p : Pth} (h : GoodPath p) (s : Int) : okB (atP p s).x /\ okB (atP p s).y /\ okB (atP p s).z := by
 obtain ⟨h1, h2, h3⟩ := atP_bd h s
 unfold okB; omega
structure TH (t : Trk) : Prop where
 q : TQ t
 at0 : t.pieces ≠ [] -> (pcA t.pieces 0).at_ = 0
 at1 : ∀ i, i + 1 < t.pieces.length -> (pcA t.pieces (i + 1)).at_ = eI t.pieces i
theorem shT_bd {a : Axs} (hb : 0 <= a.back /\ a.back <= 1000) {t : Trk} (h : TH t) (u : Int) (f : Pt -> Int) : -1000 <= shT a t u f /\ shT a t u f <= 1000 := by
 unfold shT
 by_cases c : t.pieces = []
 ·rw [if_pos c]; unfold dirP; split <;> omega
 ·rw [if_neg c]
  exact shiftP_bd hb (by have := (iT_at h.q h.at1 h.at0 u c).1; omega)
theorem a_Motors {MS MD MM MF MA ML MC : List AC -> Option (List AC)} {p : Pth} {x : Ax3} {t : Trk} {u : Int} (hp : GoodPath p) (hx : Ax3M x) (ht : TH t) (hC : MC [I u, I t.length] = some [I (clT t u)]) (hL : ML (trkR t ++ [I (clT t u)]) = some [I (Qdg t u)]) (hA : MA (pthR p ++ [I (Qdg t u)]) = some (ptR (atP p (Qdg t u))))
  (hF : MF (trkR t ++ [I (clT t u)]) = some [I (if t.pieces = [] then -1 else (iT t u : Int))]) (hM : ∀ {a : Axs} {q : Int}, AxOK a -> okB q -> MM (axsR a ++ [I q]) = some [I (motP a q)]) (hD : ∀ {a : Axs} (v : Int), (0 <= a.back /\ a.back <= 1000) -> MD (axsR a ++ [I v]) = some [I (dirP a v)])
  (h0 : ∀ {a : Axs} {c : Pce} {u : Int}, (0 <= a.back /\ a.back <= 1000) -> (0 <= u - c.at_ /\ u - c.at_ <= 2000000000000000) -> MS (axsR a ++ pceR c ++ [I 0, I u]) = some [I (shiftP a c.move c.at_ c.was.x c.dirs.x u)])
  (h1 : ∀ {a : Axs} {c : Pce} {u : Int}, (0 <= a.back /\ a.back <= 1000) -> (0 <= u - c.at_ /\ u - c.at_ <= 2000000000000000) -> MS (axsR a ++ pceR c ++ [I (IntKind.i64.wrap (0 + 1)), I u]) = some [I (shiftP a c.move c.at_ c.was.y c.dirs.y u)])
  (h2 : ∀ {a : Axs} {c : Pce} {u : Int}, (0 <= a.back /\ a.back <= 1000) -> (0 <= u - c.at_ /\ u - c.at_ <= 2000000000000000) -> MS (axsR a ++ pceR c ++ [I (IntKind.i64.wrap (IntKind.i64.wrap (0 + 1) + 1)), I u]) = some [I (shiftP a c.move c.at_ c.was.z c.dirs.z u)]) :
  mf_track_Motors MS MD MM MF MA ML MC (pthR p ++ ax3R x ++ trkR t ++ [I u]) = some (ptR (Qki p x t u)) := by
 have he := mf_track_Motors_eq MS MD MM MF MA ML MC p.start.x p.start.y p.start.z (p.segs.map sgmR) (p.marks.map mrkR) x.a.step x.a.speed x.a.accel x.a.jerk x.a.low x.a.high x.a.back x.a.origin x.a.spacing (x.a.pitch.map intR) x.b.step x.b.speed x.b.accel x.b.jerk x.b.low x.b.high x.b.back x.b.origin x.b.spacing (x.b.pitch.map intR) x.c.step x.c.speed x.c.accel x.c.jerk x.c.low x.c.high x.c.back x.c.origin x.c.spacing (x.c.pitch.map intR) (t.pieces.map pceR) t.length t.start t.dirs.x t.dirs.y t.dirs.z u
 refine Eq.trans he ?_
 obtain ⟨o1, o2, o3⟩ := okB_at hp (Qdg t u)
 have m1 := hM hx.a o1
 have m2 := hM hx.b o2
 have m3 := hM hx.c o3
 have b1 := motP_bd hx.a o1
 have b2 := motP_bd hx.b o2
 have b3 := motP_bd hx.c o3
 have s1 := shT_bd hx.ok.a ht u Pt.x
 have s2 := shT_bd hx.ok.b ht u Pt.y
 have s3 := shT_bd hx.ok.c ht u Pt.z
 unfold Qki nomP
 generalize motP x.a (atP p (Qdg t u)).x = q1 at *
 generalize motP x.b (atP p (Qdg t u)).y = q2 at *
 generalize motP x.c (atP p (Qdg t u)).z = q3 at *
 have w1 : IntKind.i64.wrap (q1 + shT x.a t u Pt.x) = q1 + shT x.a t u Pt.x := Qab (by omega)
 have w2 : IntKind.i64.wrap (q2 + shT x.b t u Pt.y) = q2 + shT x.b t u Pt.y := Qab (by omega)
 have w3 : IntKind.i64.wrap (q3 + shT x.c t u Pt.z) = q3 + shT x.c t u Pt.z := Qab (by omega)
 by_cases c : t.pieces = []
 ·have d1 := hD t.dirs.x hx.ok.a
  have d2 := hD t.dirs.y hx.ok.b
  have d3 := hD t.dirs.z hx.ok.c
  unfold shT at *
  rw [if_pos c] at hF
  simp only [if_pos c] at w1 w2 w3 ⊢
  simp only [pthR, trkR, axsR, List.cons_append, List.nil_append] at hL hA hF d1 d2 d3 m1 m2 m3
  simp only [hC, hL, hA, hF, go_sem, m1, m2, m3, d1, d2, d3, w1, w2, w3]
  rw [if_pos (by omega), if_pos (by omega), if_pos (by omega)]
 ·have hi := iT_lt ht.q u c
  have hcnt := ht.q.count
  have hat := (iT_at ht.q ht.at1 ht.at0 u c).1
  have hcl := clT_bd ht.q u
  have hlen := ht.q.len
  have hpos := ht.q.pos _ hi
  have hin : (0 : Int) <= (iT t u : Int) /\ (iT t u : Int) < (t.pieces.length : Int) := by omega
  have hneg : ¬ ((iT t u : Int) < 0) := by omega
  have d1 := h0 (c := pcA t.pieces (iT t u)) (u := clT t u) hx.ok.a (by omega)
  have d2 := h1 (c := pcA t.pieces (iT t u)) (u := clT t u) hx.ok.b (by omega)
  have d3 := h2 (c := pcA t.pieces (iT t u)) (u := clT t u) hx.ok.c (by omega)
  unfold shT at *
  rw [if_neg c] at hF
  simp only [if_neg c] at w1 w2 w3 ⊢
  simp only [pthR, trkR, axsR, pceR, List.cons_append, List.nil_append] at hL hA hF d1 d2 d3 m1 m2 m3
  simp only [hC, hL, hA, hF, go_sem, m1, m2, m3, List.length_map, if_pos hin, Int.toNat_natCast, row_pcA hi, if_neg hneg, d1, d2, d3, w1, w2, w3]
theorem s_Motors {p : Pth} {x : Ax3} {t : Trk} (hp : GoodPath p) (hx : Ax3M x) (ht : TH t) (u : Int) : Qkm (pthR p ++ ax3R x ++ trkR t ++ [I u]) = some (ptR (Qki p x t u)) := by
 have hs := place_i64 ht.q u
 have hpl := s_Place ht.q (clT t u)
 rw [place_clT ht.q] at hpl
 exact a_Motors hp hx ht s_clamp hpl (s_path_At hp (by unfold i64; omega)) (s_find ht.q u) (fun h1 h2 => s_pMotor h1 h2) (fun v hb => s_bShift hb v) (fun hb hu => a_sh0 (s_bShift hb) hb hu) (fun hb hu => a_sh1 (s_bShift hb) hb hu) (fun hb hu => a_sh2 (s_bShift hb) hb hu)
end Go.Bm
/- the law TrackMotors, over the models -/
set_option maxRecDepth 100000
namespace Go.Bm
open Classical

theorem chain_at0 {x : Ax3} {mv : Int} {Q : Int -> Pt -> Prop} {a s : Int} {d : Pt} {l : List Pce} (h : chain x mv Q a s d l) (hne : l ≠ []) : (pcA l 0).at_ = a := by
 cases l with
 | nil => exact absurd rfl hne
 | cons c l => rw [pcA_zero]; exact h.1
theorem chain_at1 {x : Ax3} {mv : Int} {Q : Int -> Pt -> Prop} : ∀ {a s : Int} {d : Pt} {l : List Pce}, chain x mv Q a s d l -> ∀ i, i + 1 < l.length -> (pcA l (i + 1)).at_ = eI l i
 | a, s, d, [], h, i, hi => by simp at hi
 | a, s, d, c :: l, h, 0, hi => by
  obtain ⟨h1, h2, h3, h4, h5⟩ := h
  unfold eI
  rw [Qla, pcA_zero, chain_at0 h5 (fun e => by rw [e] at hi; simp at hi), h1]
 | a, s, d, c :: l, h, i + 1, hi => by
  obtain ⟨h1, h2, h3, h4, h5⟩ := h
  have := chain_at1 h5 i (by simpa using hi)
  unfold eI at *
  rw [Qla, Qla]; exact this
theorem legP_TH {p : Pth} {x : Ax3} (d : Pt) (a b : Int) (hx : Ax3OK x) (hp : GoodPath p) : TH (legP p x d a b) := by
 obtain ⟨d', h1, h2, -⟩ := legP_chain (d := d) (a := a) (b := b) (Q := fun _ _ => True) hx hp (fun _ _ _ _ _ _ _ _ => trivial)
 exact ⟨legP_TQ d a b hx hp, chain_at0 h1.ch, chain_at1 h1.ch⟩
end Go.Bm
/- motors: a unit of position moves a motor by at most a step; a track's motors move by at most a step a unit -/
set_option maxRecDepth 100000
namespace Go.Bm
open Classical

def okD (d : Pt) : Prop := (d.x = 1 \/ d.x = -1) /\ (d.y = 1 \/ d.y = -1) /\ (d.z = 1 \/ d.z = -1)
theorem turnD_ok {d a b : Pt} {mv : Int} (hv : mv = 1 \/ mv = -1) (h : okD d) : okD (turnD d a b mv) := by
 obtain ⟨h1, h2, h3⟩ := h
 unfold okD turnD turn1
 simp only
 refine ⟨?_, ?_, ?_⟩ <;> (repeat' split) <;> omega
theorem addT_dirs {t : Trk} {c : Pce} (h : ∀ k ∈ t.pieces, okD k.dirs) (hc : okD c.dirs) : ∀ k ∈ (addT t c).pieces, okD k.dirs := by
 unfold addT
 by_cases g : t.pieces ≠ [] /\ c.move ≠ 0 /\ (Qec t.pieces).move = c.move /\ (Qec t.pieces).dirs = c.dirs
 ·rw [if_pos g]
  intro k hk
  rcases List.mem_or_eq_of_mem_set hk with hk | rfl
  ·exact h k hk
  ·have := h (Qec t.pieces) (lastP_mem g.1); exact this
 ·rw [if_neg g]
  intro k hk
  rcases List.mem_append.1 hk with hk | hk
  ·exact h k hk
  ·rw [List.mem_singleton] at hk; subst hk; exact hc
theorem legN_dirs {p : Pth} {x : Ax3} {mv lo hi f : Int} {d : Pt} (hv : mv = 1 \/ mv = -1) (hd : okD d) : ∀ j, (∀ k ∈ (legN p x mv lo hi (⟨[], 0, f, d⟩, d) j).1.pieces, okD k.dirs) /\ okD (legN p x mv lo hi (⟨[], 0, f, d⟩, d) j).2
 | 0 => ⟨by simp [legN], hd⟩
 | j + 1 => by
  obtain ⟨h1, h2⟩ := legN_dirs (p := p) (x := x) (lo := lo) (hi := hi) (f := f) hv hd j
  rw [legN]
  unfold segT
  split
  ·unfold Qkt
   simp only
   have ht := turnD_ok (a := vertL p.start p.segs (idxT p.segs.length mv j)) (b := (sgA p.segs (idxT p.segs.length mv j)).to) hv h2
   refine ⟨addT_dirs ?_ ht, ht⟩
   split
   ·exact addT_dirs h1 ht
   ·exact h1
  ·exact ⟨h1, h2⟩
theorem legP_dirs {p : Pth} {x : Ax3} {d : Pt} {a b : Int} (hd : okD d) : ∀ k ∈ (legP p x d a b).pieces, okD k.dirs := by
 unfold legP
 exact (legN_dirs (by split <;> simp) hd _).1

def motC (a : Axs) (g : Int -> Int) (f : Pt -> Int) (c : Pce) (u : Int) : Int := motP a (g (c.s + c.move * (u - c.at_))) + shiftP a c.move c.at_ (f c.was) (f c.dirs) u
def motL (a : Axs) (g : Int -> Int) (f : Pt -> Int) : List Pce -> Int -> Int
 | [], _ => 0
 | c :: l, u => if u <= c.at_ + c.units then motC a g f c u else motL a g f l u
def AxisOf (x : Ax3) (a : Axs) (f : Pt -> Int) : Prop := (0 <= a.back /\ a.back <= 1000) /\ (∀ d, okD d -> f d = 1 \/ f d = -1) /\ (∀ w d, f w ≠ f d -> a.back <= Qf5 x w d)
theorem axis_x {x : Ax3} (h : Ax3OK x) : AxisOf x x.a Pt.x := ⟨h.a, fun d hd => hd.1, fun w d hn => by have h1 := h.a; unfold Qf5 slk; rw [if_neg hn]; (repeat' split) <;> omega⟩
theorem axis_y {x : Ax3} (h : Ax3OK x) : AxisOf x x.b Pt.y := ⟨h.b, fun d hd => hd.2.1, fun w d hn => by have h1 := h.a; have h2 := h.b; unfold Qf5 slk; rw [if_neg hn]; (repeat' split) <;> omega⟩
theorem axis_z {x : Ax3} (h : Ax3OK x) : AxisOf x x.c Pt.z := ⟨h.c, fun d hd => hd.2.2, fun w d hn => by have h1 := h.a; have h2 := h.b; unfold Qf5 slk; rw [if_neg hn]; omega⟩
theorem motC_join {x : Ax3} {a : Axs} {f : Pt -> Int} {g : Int -> Int} {mv : Int} {Q : Int -> Pt -> Prop} {at_ s : Int} {d : Pt} {c : Pce} {l : List Pce} (hA : AxisOf x a f) (h : chain x mv Q at_ s d (c :: l)) (hv : mv = 1 \/ mv = -1) (hd : okD d) (hc : okD c.dirs) :
  motC a g f c at_ = motP a (g s) + dirP a (f d) /\ motC a g f c (at_ + c.units) = motP a (g (s + c.move * c.units)) + dirP a (f c.dirs) := by
 obtain ⟨hb, hf, hs⟩ := hA
 obtain ⟨h1, h2, h3, h4, -⟩ := h
 have f1 := hf d hd
 have f2 := hf c.dirs hc
 unfold motC
 rw [h1, h2, show at_ - at_ = 0 by omega, show at_ + c.units - at_ = c.units by omega, Int.mul_zero, Int.add_zero]
 rcases h4 with ⟨k1, k2, k3, -⟩ | ⟨k1, k2, k3⟩
 ·have hm : c.move ≠ 0 := by rcases hv with rfl | rfl <;> omega
  unfold shiftP
  rw [if_pos (.inl hm), if_pos (.inl hm)]
  refine ⟨?_, rfl⟩
  by_cases e : f d = f c.dirs
  ·rw [e]
  ·have := hs d c.dirs e
   rw [k3] at this
   unfold dirP
   (repeat' split) <;> omega
 ·rw [k1, k2, Int.zero_mul, Int.add_zero]
  by_cases e : f d = f c.dirs
  ·unfold shiftP
   have hP : (0 : Int) ≠ 0 \/ f d = f c.dirs := .inr e
   rw [if_pos hP, if_pos hP, e]; exact ⟨rfl, rfl⟩
  ·have := hs d c.dirs e
   rw [<- k3] at this
   have hN : ¬ ((0 : Int) ≠ 0 \/ f d = f c.dirs) := fun g => g.elim (fun g => g rfl) e
   unfold shiftP dirP
   rw [if_neg hN, if_neg hN]
   generalize motP a (g s) = M
   constructor
   ·rcases f2 with f2 | f2 <;> rcases f1 with f1 | f1 <;> rw [f2, f1] <;> simp <;> omega
   ·rcases f2 with f2 | f2 <;> rw [f2] <;> simp <;> omega
theorem motL_eq {a : Axs} {g : Int -> Int} {f : Pt -> Int} : ∀ {l : List Pce} {u : Int}, fI l u < l.length -> motL a g f l u = motC a g f (pcA l (fI l u)) u
 | [], _, h => by simp at h
 | c :: l, u, h => by
  unfold fI at h ⊢
  unfold motL
  by_cases c0 : u <= c.at_ + c.units
  ·rw [if_pos c0, if_pos c0, pcA_zero]
  ·rw [if_neg c0] at h ⊢
   rw [if_neg c0, Qla]
   exact motL_eq (by simpa using h)
end Go.Bm
/- the law TrackUnit, over the models -/
set_option maxRecDepth 100000
namespace Go.Bm
open Classical

end Go.Bm
/- the motors at both ends of a track; the law TrackReturn -/
set_option maxRecDepth 100000
namespace Go.Bm
open Classical

theorem endD_last : ∀ {d : Pt} {l : List Pce}, l ≠ [] -> endD d l = (Qec l).dirs
 | _, [], h => absurd rfl h
 | d, [c], _ => rfl
 | d, c :: e :: l, _ => by
  have ih := endD_last (d := c.dirs) (l := e :: l) (by simp)
  show endD c.dirs (e :: l) = _
  rw [ih]
  unfold Qec
  simp
theorem final_endD (t : Trk) : finalP t = endD t.dirs t.pieces := by
 unfold finalP
 by_cases c : t.pieces = []
 ·rw [if_pos c, c]; rfl
 ·rw [if_neg c, endD_last c]
theorem motL_end {x : Ax3} {a : Axs} {f : Pt -> Int} {g : Int -> Int} {mv : Int} {Q : Int -> Pt -> Prop} (hA : AxisOf x a f) (hv : mv = 1 \/ mv = -1) : ∀ {at_ s : Int} {d : Pt} {l : List Pce}, chain x mv Q at_ s d l -> okD d -> (∀ k ∈ l, okD k.dirs) -> l ≠ [] -> motL a g f l (Qkf at_ l) = motP a (g (endQ s l)) + dirP a (f (endD d l))
 | at_, s, d, [c], h, hd, hk, _ => by
  have hj := (motC_join (g := g) hA h hv hd (hk c (by simp))).2
  have h1 := h.1
  show motL a g f [c] (at_ + c.units) = _
  unfold motL
  rw [if_pos (by omega), hj]; rfl
 | at_, s, d, c :: e :: l, h, hd, hk, _ => by
  have h5 := h.2.2.2.2
  have h1 := h.1
  have ih := motL_end (g := g) hA hv h5 (hk c (by simp)) (fun k hk' => hk k (by simp at hk' ⊢; exact .inr hk')) (by simp)
  have hp : at_ + c.units < Qkf (at_ + c.units) (e :: l) := by
   obtain ⟨-, -, g3, -, g5⟩ := h5
   have := endAt_ge g5
   simp only [Qkf]; omega
  show motL a g f (c :: e :: l) (Qkf (at_ + c.units) (e :: l)) = motP a (g (endQ (s + c.move * c.units) (e :: l))) + dirP a (f (endD c.dirs (e :: l)))
  rw [<- ih]
  generalize Qkf (at_ + c.units) (e :: l) = A at *
  show (if _ then _ else _) = _
  rw [if_neg (by omega)]
theorem ends_axis {x : Ax3} {a : Axs} {f : Pt -> Int} (g : Int -> Int) {mv e : Int} {Q : Int -> Pt -> Prop} {t : Trk} {d : Pt} (hA : AxisOf x a f) (hv : mv = 1 \/ mv = -1) (h : TC x mv Q t e d) (ht : TQ t) (hd : okD t.dirs) (hk : ∀ k ∈ t.pieces, okD k.dirs) :
  motP a (g (Qdg t 0)) + shT a t 0 f = motP a (g t.start) + dirP a (f t.dirs) /\ motP a (g (Qdg t t.length)) + shT a t t.length f = motP a (g e) + dirP a (f (finalP t)) := by
 obtain ⟨h1, h2, h3, -⟩ := h
 have hl := ht.len
 rw [final_endD]
 by_cases c : t.pieces = []
 ·unfold Qdg shT
  rw [if_pos c, if_pos c, if_pos c]
  rw [c] at h3 ⊢
  simp only [endQ] at h3
  simp only [endD]
  rw [h3]; simp
 ·have hcl : ∀ v, 0 <= v -> v <= t.length -> clT t v = v := by intro v g1 g2; unfold clT Qct; omega
  have hm : ∀ v : Int, 0 <= v -> v <= t.length -> motP a (g (Qdg t v)) + shT a t v f = motL a g f t.pieces v := by
   intro v g1 g2
   have hi := iT_lt ht v c
   have ei : iT t v = fI t.pieces v := by unfold iT; rw [hcl v g1 g2]
   unfold Qdg shT
   rw [if_neg c, if_neg c, ei, hcl v g1 g2]
   rw [ei] at hi
   exact (motL_eq hi).symm
  rw [hm 0 (by omega) (by omega), hm t.length (by omega) (by omega)]
  constructor
  ·cases hh : t.pieces with
   | nil => exact absurd hh c
   | cons k l =>
    rw [hh] at h1 hk
    have hj := (motC_join (g := g) hA h1 hv hd (hk k (by simp))).1
    have g1 := h1.1
    have g3 := h1.2.2.1
    unfold motL
    rw [if_pos (by omega), hj]
  ·have := motL_end (g := g) hA hv h1 hd hk c
   rw [h2, h3] at this; exact this
theorem ends_motors {p : Pth} {x : Ax3} {t : Trk} {mv e : Int} {Q : Int -> Pt -> Prop} {d : Pt} (hx : Ax3M x) (hv : mv = 1 \/ mv = -1) (h : TC x mv Q t e d) (ht : TQ t) (hd : okD t.dirs) (hk : ∀ k ∈ t.pieces, okD k.dirs) :
  Qki p x t 0 = ⟨(nomP p x t.start).x + dirP x.a t.dirs.x, (nomP p x t.start).y + dirP x.b t.dirs.y, (nomP p x t.start).z + dirP x.c t.dirs.z⟩ /\
  Qki p x t t.length = ⟨(nomP p x e).x + dirP x.a (finalP t).x, (nomP p x e).y + dirP x.b (finalP t).y, (nomP p x e).z + dirP x.c (finalP t).z⟩ := by
 have k1 := ends_axis (fun s => (atP p s).x) (axis_x hx.ok) hv h ht hd hk
 have k2 := ends_axis (fun s => (atP p s).y) (axis_y hx.ok) hv h ht hd hk
 have k3 := ends_axis (fun s => (atP p s).z) (axis_z hx.ok) hv h ht hd hk
 unfold Qki nomP
 rw [Qi5, Qi5]
 exact ⟨⟨k1.1, k2.1, k3.1⟩, ⟨k1.2, k2.2, k3.2⟩⟩
end Go.Bm
/- the law TrackWhere: the first track position at a path position -/
set_option maxRecDepth 100000
namespace Go.Bm
open Classical

def plL : List Pce -> Int -> Int
 | [], _ => 0
 | c :: l, u => if u <= c.at_ + c.units then c.s + c.move * (u - c.at_) else plL l u
theorem plL_eq : ∀ {l : List Pce} {u : Int}, fI l u < l.length -> plL l u = (pcA l (fI l u)).s + (pcA l (fI l u)).move * (u - (pcA l (fI l u)).at_)
 | [], _, h => by simp at h
 | c :: l, u, h => by
  unfold fI at h ⊢
  unfold plL
  by_cases c0 : u <= c.at_ + c.units
  ·rw [if_pos c0, if_pos c0, pcA_zero]
  ·rw [if_neg c0] at h ⊢
   rw [if_neg c0, Qla]
   exact plL_eq (by simpa using h)
theorem place_plL {t : Trk} (h : TQ t) (u : Int) (hne : t.pieces ≠ []) : Qdg t u = plL t.pieces (clT t u) := by
 have hi := iT_lt h u hne
 unfold Qdg
 rw [if_neg hne]
 exact (plL_eq hi).symm
theorem end_ahead {x : Ax3} {mv : Int} {Q : Int -> Pt -> Prop} (hv : mv = 1 \/ mv = -1) : ∀ {a s : Int} {d : Pt} {l : List Pce}, chain x mv Q a s d l -> 0 <= mv * (endQ s l - s)
 | a, s, d, [], _ => by simp [endQ]
 | a, s, d, c :: l, h => by
  obtain ⟨h1, h2, h3, h4, h5⟩ := h
  have ih := end_ahead hv h5
  unfold endQ
  generalize endQ (s + c.move * c.units) l = E at *
  have hm : c.move = mv \/ c.move = 0 := by rcases h4 with h4 | h4 <;> simp [h4.1]
  rcases hm with hm | hm <;> rw [hm] at ih <;> rcases hv with rfl | rfl <;> omega
end Go.Bm
/- tracks that begin alike -/
set_option maxRecDepth 100000
namespace Go.Bm
open Classical

def PF : List Pce -> List Pce -> Prop
 | [], _ => True
 | _ :: _, [] => False
 | [c], c' :: _ => c'.at_ = c.at_ /\ c'.s = c.s /\ c'.move = c.move /\ c'.was = c.was /\ c'.dirs = c.dirs /\ c.units <= c'.units
 | c :: d :: l, c' :: l' => c' = c /\ PF (d :: l) l'
def bump : List Pce -> Int -> List Pce
 | [], _ => []
 | [c], k => [{ c with units := c.units + k }]
 | c :: d :: l, k => c :: bump (d :: l) k
theorem PF_refl : ∀ l, PF l l
 | [] => trivial
 | [c] => ⟨rfl, rfl, rfl, rfl, rfl, Int.le_refl _⟩
 | c :: d :: l => ⟨rfl, PF_refl (d :: l)⟩
theorem PF_app {m : List Pce} : ∀ {s t : List Pce}, PF s t -> PF s (t ++ m)
 | [], _, _ => trivial
 | _ :: _, [], h => absurd h (by simp [PF])
 | [c], c' :: t, h => h
 | c :: d :: l, c' :: t, h => ⟨h.1, PF_app (m := m) h.2⟩
theorem PF_bump {k : Int} (hk : 0 <= k) : ∀ {s t : List Pce}, PF s t -> PF s (bump t k)
 | [], _, _ => trivial
 | _ :: _, [], h => absurd h (by simp [PF])
 | [c], [c'], h => ⟨h.1, h.2.1, h.2.2.1, h.2.2.2.1, h.2.2.2.2.1, by have := h.2.2.2.2.2; simp only; omega⟩
 | [c], c' :: d' :: t, h => h
 | c :: d :: l, [c'], h => absurd h.2 (by simp [PF])
 | c :: d :: l, c' :: d' :: t, h => ⟨h.1, PF_bump hk (s := d :: l) (t := d' :: t) h.2⟩
theorem PF_bump2 {k1 k2 : Int} (hk : k1 <= k2) : ∀ l, PF (bump l k1) (bump l k2)
 | [] => trivial
 | [c] => ⟨rfl, rfl, rfl, rfl, rfl, by simp only; omega⟩
 | c :: d :: l => by
  have ih := PF_bump2 hk (d :: l)
  cases l with
  | nil => exact ⟨rfl, ih⟩
  | cons e l => exact ⟨rfl, ih⟩
theorem PF_app2 {c1 c2 : Pce} (h : PF [c1] [c2]) : ∀ l, PF (l ++ [c1]) (l ++ [c2])
 | [] => h
 | [c] => ⟨rfl, h⟩
 | c :: d :: l => ⟨rfl, PF_app2 h (d :: l)⟩
theorem set_bump : ∀ {l : List Pce} (_ : l ≠ []) (k : Int), l.set (l.length - 1) { Qec l with units := (Qec l).units + k } = bump l k
 | [], h, _ => absurd rfl h
 | [c], _, k => rfl
 | c :: d :: l, _, k => by
  have ih := set_bump (l := d :: l) (by simp) k
  have e : Qec (c :: d :: l) = Qec (d :: l) := by unfold Qec; simp
  have e2 : (c :: d :: l).length - 1 = ((d :: l).length - 1) + 1 := by simp
  rw [e, e2, List.set_cons_succ, ih]
  rfl
theorem addT_pieces (t : Trk) (c : Pce) : (addT t c).pieces = if t.pieces ≠ [] /\ c.move ≠ 0 /\ (Qec t.pieces).move = c.move /\ (Qec t.pieces).dirs = c.dirs then bump t.pieces c.units else t.pieces ++ [{ c with at_ := t.length }] := by
 unfold addT
 by_cases g : t.pieces ≠ [] /\ c.move ≠ 0 /\ (Qec t.pieces).move = c.move /\ (Qec t.pieces).dirs = c.dirs
 ·rw [if_pos g, if_pos g]; exact set_bump g.1 _
 ·rw [if_neg g, if_neg g]
theorem addT_PF {s : List Pce} {t : Trk} {c : Pce} (h : PF s t.pieces) (hu : 0 <= c.units) : PF s (addT t c).pieces := by
 rw [addT_pieces]
 split
 ·exact PF_bump hu h
 ·exact PF_app h
theorem addT_PF2 {t : Trk} {c : Pce} {u1 u2 : Int} (hu : u1 <= u2) : PF (addT t { c with units := u1 }).pieces (addT t { c with units := u2 }).pieces := by
 rw [addT_pieces, addT_pieces]
 by_cases g : t.pieces ≠ [] /\ c.move ≠ 0 /\ (Qec t.pieces).move = c.move /\ (Qec t.pieces).dirs = c.dirs
 ·rw [if_pos g, if_pos g]; exact PF_bump2 hu _
 ·rw [if_neg g, if_neg g]; refine PF_app2 ?_ _; exact ⟨rfl, rfl, rfl, rfl, rfl, hu⟩
theorem visit_PF {x : Ax3} {mv : Int} {a b : Pt} {s u1 u2 : Int} {st : Trk × Pt} (hu : u1 <= u2) : PF (Qkt x mv a b s u1 st).1.pieces (Qkt x mv a b s u2 st).1.pieces := by
 unfold Qkt
 exact addT_PF2 (c := ⟨0, 0, s, mv, turnD st.2 a b mv, turnD st.2 a b mv⟩) hu
theorem visit_PF2 {x : Ax3} {mv : Int} {a b : Pt} {s u : Int} {st : Trk × Pt} {l : List Pce} (h : PF l st.1.pieces) (hu : 0 <= u) : PF l (Qkt x mv a b s u st).1.pieces := by
 unfold Qkt
 refine addT_PF ?_ hu
 by_cases c : Qf5 x st.2 (turnD st.2 a b mv) > 0
 ·rw [if_pos c]; exact addT_PF h (by simp only; omega)
 ·rw [if_neg c]; exact h
theorem segT_PF {p : Pth} {x : Ax3} {mv lo hi : Int} {i : Nat} {st : Trk × Pt} {l : List Pce} (h : PF l st.1.pieces) : PF l (segT p x mv lo hi i st).1.pieces := by
 unfold segT
 split
 ·exact visit_PF2 h (by omega)
 ·exact h
theorem PF_end {x : Ax3} {mv : Int} {Q : Int -> Pt -> Prop} {mv' : Int} {Q' : Int -> Pt -> Prop} : ∀ {a s : Int} {d : Pt} {l m : List Pce} {s' : Int} {d' : Pt}, chain x mv Q a s d l -> chain x mv' Q' a s' d' m -> PF l m -> Qkf a l <= Qkf a m
 | a, s, d, [], m, _, _, _, h2, _ => endAt_ge h2
 | a, s, d, _ :: _, [], _, _, _, _, h => absurd h (by simp [PF])
 | a, s, d, [c], c' :: m, _, _, h1, h2, h => by
  have := endAt_ge h2.2.2.2.2
  have := h.2.2.2.2.2
  simp only [Qkf] at *
  omega
 | a, s, d, c :: e :: l, c' :: m, _, _, h1, h2, h => by
  obtain ⟨rfl, h'⟩ := h
  show Qkf (a + c'.units) (e :: l) <= Qkf (a + c'.units) m
  exact PF_end h1.2.2.2.2 h2.2.2.2.2 h'
theorem PF_pl {x : Ax3} {mv : Int} {Q : Int -> Pt -> Prop} (A : Axs) (g : Int -> Int) (f : Pt -> Int) : ∀ {a s : Int} {d : Pt} {l m : List Pce} {u : Int}, chain x mv Q a s d l -> PF l m -> l ≠ [] -> u <= Qkf a l -> plL l u = plL m u /\ motL A g f l u = motL A g f m u
 | _, _, _, [], _, _, _, _, h, _ => absurd rfl h
 | _, _, _, _ :: _, [], _, _, h, _, _ => absurd h (by simp [PF])
 | a, s, d, [c], c' :: m, u, h1, h, _, hu => by
  obtain ⟨k1, k2, k3, k4, k5, k6⟩ := h
  have ha := h1.1
  simp only [Qkf] at hu
  unfold plL motL motC
  rw [if_pos (show u <= c.at_ + c.units by omega), if_pos (show u <= c.at_ + c.units by omega), if_pos (show u <= c'.at_ + c'.units by omega), if_pos (show u <= c'.at_ + c'.units by omega), k1, k2, k3, k4, k5]
  exact ⟨rfl, rfl⟩
 | a, s, d, c :: e :: l, c' :: m, u, h1, h, _, hu => by
  obtain ⟨rfl, h'⟩ := h
  unfold plL motL
  by_cases c0 : u <= c'.at_ + c'.units
  ·rw [if_pos c0, if_pos c0, if_pos c0, if_pos c0]; exact ⟨rfl, rfl⟩
  ·rw [if_neg c0, if_neg c0, if_neg c0, if_neg c0]
   exact PF_pl A g f h1.2.2.2.2 h' (by simp) hu
end Go.Bm
/- a shorter way begins the longer one -/
set_option maxRecDepth 100000
namespace Go.Bm
open Classical

theorem legN_PF {p : Pth} {x : Ax3} {mv lo hi c f : Int} {d : Pt} (hv : mv = 1 \/ mv = -1) (hp : SegOK p.segs) (hlo : 0 <= lo /\ lo <= c /\ c <= hi /\ hi <= Qay p.segs) : ∀ j, j <= p.segs.length ->
  (legN p x mv (if mv < 0 then c else lo) (if mv < 0 then hi else c) (⟨[], 0, f, d⟩, d) j = legN p x mv lo hi (⟨[], 0, f, d⟩, d) j) \/
  (PF (legN p x mv (if mv < 0 then c else lo) (if mv < 0 then hi else c) (⟨[], 0, f, d⟩, d) j).1.pieces (legN p x mv lo hi (⟨[], 0, f, d⟩, d) j).1.pieces /\ (if mv < 0 then posL p.segs (p.segs.length - j) <= c else c <= posL p.segs j))
 | 0, _ => .inl rfl
 | j + 1, hj => by
  have hil := idxT_lt mv (show j < p.segs.length by omega)
  have hg := hp.seg _ (sgA_mem hil)
  have hsucc := posL_succ hil
  have ih := legN_PF hv hp hlo (f := f) (d := d) (x := x) j (by omega)
  rw [legN, legN]
  have hcase : (mv = 1 /\ idxT p.segs.length mv j = j) \/ (mv = -1 /\ idxT p.segs.length mv j = p.segs.length - 1 - j) := by
   unfold idxT
   rcases hv with rfl | rfl
   ·exact .inl ⟨rfl, if_neg (by omega)⟩
   ·exact .inr ⟨rfl, if_pos (by omega)⟩
  rcases hcase with ⟨rfl, e⟩ | ⟨rfl, e⟩
  ·rw [e] at hil hg hsucc ⊢
   have n1 : ¬ (1 : Int) < 0 := by omega
   simp only [if_neg n1] at ih ⊢
   generalize legN p x 1 lo c (⟨[], 0, f, d⟩, d) j = S at *
   generalize legN p x 1 lo hi (⟨[], 0, f, d⟩, d) j = T at *
   rcases ih with rfl | ⟨ih, hdone⟩
   ·by_cases c1 : posL p.segs (j + 1) <= c
    ·left
     have e1 : min (posL p.segs (j + 1)) c = min (posL p.segs (j + 1)) hi := by omega
     unfold segT; rw [e1]
    ·right
     refine ⟨?_, by omega⟩
     have e1 : min (posL p.segs (j + 1)) c = c := by omega
     by_cases c2 : max (posL p.segs j) lo < c
     ·unfold segT
      have c3 : max (posL p.segs j) lo < min (posL p.segs (j + 1)) hi := by omega
      rw [e1, if_pos c2, if_pos c3, if_neg n1, if_neg n1]
      exact visit_PF (by omega)
     ·have hS : segT p x 1 lo c j S = S := by unfold segT; rw [e1, if_neg c2]
      rw [hS]; exact segT_PF (PF_refl _)
   ·right
    refine ⟨?_, by omega⟩
    have hS : segT p x 1 lo c j S = S := by unfold segT; rw [if_neg (by omega)]
    rw [hS]; exact segT_PF ih
  ·have e3 : p.segs.length - j = p.segs.length - 1 - j + 1 := by omega
   have e4 : p.segs.length - (j + 1) = p.segs.length - 1 - j := by omega
   rw [e] at hil hg hsucc ⊢
   have n1 : (-1 : Int) < 0 := by omega
   simp only [if_pos n1] at ih ⊢
   rw [e3] at ih
   rw [e4]
   generalize p.segs.length - 1 - j = i at *
   generalize legN p x (-1) c hi (⟨[], 0, f, d⟩, d) j = S at *
   generalize legN p x (-1) lo hi (⟨[], 0, f, d⟩, d) j = T at *
   rcases ih with rfl | ⟨ih, hdone⟩
   ·by_cases c1 : c <= posL p.segs i
    ·left
     have e1 : max (posL p.segs i) c = max (posL p.segs i) lo := by omega
     unfold segT; rw [e1]
    ·right
     refine ⟨?_, by omega⟩
     have e1 : max (posL p.segs i) c = c := by omega
     by_cases c2 : c < min (posL p.segs (i + 1)) hi
     ·unfold segT
      have c3 : max (posL p.segs i) lo < min (posL p.segs (i + 1)) hi := by omega
      rw [e1, if_pos c2, if_pos c3, if_pos n1, if_pos n1]
      exact visit_PF (by omega)
     ·have hS : segT p x (-1) c hi i S = S := by unfold segT; rw [e1, if_neg c2]
      rw [hS]; exact segT_PF (PF_refl _)
   ·right
    refine ⟨?_, by omega⟩
    have hS : segT p x (-1) c hi i S = S := by unfold segT; rw [if_neg (by omega)]
    rw [hS]; exact segT_PF ih
theorem legP_PF {p : Pth} {x : Ax3} {d : Pt} {a b c : Int} (hp : GoodPath p) (ha : 0 <= a /\ a <= Qay p.segs) (hb : 0 <= b /\ b <= Qay p.segs) (hc : (a <= c /\ c <= b) \/ (b <= c /\ c < a)) :
  PF (legP p x d a c).pieces (legP p x d a b).pieces := by
 have hn := sum_path hp
 have ca : Qct a (Qay p.segs) = a := by unfold Qct; omega
 have cb : Qct b (Qay p.segs) = b := by unfold Qct; omega
 have cc : Qct c (Qay p.segs) = c := by unfold Qct; omega
 unfold legP
 simp only [ca, cb, cc]
 rcases hc with hc | hc
 ·rw [if_neg (show ¬ a > c by omega), if_neg (show ¬ a > b by omega), show min a c = a by omega, show max a c = c by omega, show min a b = a by omega, show max a b = b by omega]
  have h := legN_PF (x := x) (mv := 1) (lo := a) (hi := b) (c := c) (f := a) (d := d) (.inl rfl) hp.ok (by omega) p.segs.length (Nat.le_refl _)
  have n1 : ¬ (1 : Int) < 0 := by omega
  simp only [if_neg n1] at h
  rcases h with h | h
  ·rw [h]; exact PF_refl _
  ·exact h.1
 ·rw [if_pos (show a > c by omega), if_pos (show a > b by omega), show min a c = c by omega, show max a c = a by omega, show min a b = b by omega, show max a b = a by omega]
  have h := legN_PF (x := x) (mv := -1) (lo := b) (hi := a) (c := c) (f := a) (d := d) (.inr rfl) hp.ok (by omega) p.segs.length (Nat.le_refl _)
  have n1 : (-1 : Int) < 0 := by omega
  simp only [if_pos n1] at h
  rcases h with h | h
  ·rw [h]; exact PF_refl _
  ·exact h.1
end Go.Bm
