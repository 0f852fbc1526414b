/- laid together -/
import Derived.Test.YtdllaekpkcanbaaGreatPrAx
import Derived.Test.YtdllaekpkcanbaaGreatMy1
import Derived.Test.YtdllaekpkcanbaaGreatPrI3
set_option linter.unusedVariables false
set_option linter.unusedSimpArgs false
/- tracks: the way between two positions, by the program; the law TrackLeg -/
set_option maxRecDepth 100000
namespace Go.Bm
open Classical

theorem l_each10 {p : Pth} {x : Ax3} {lo hi mv f : Int} {d : Pt} (hv : mv = 1 ∨ mv = -1) (hp : GoodPath p) (hx : Ax3OK x) : ∀ (k j : Nat), j + k = p.segs.length → ∀ w, w = legN p x mv lo hi (⟨[], 0, f, d⟩, d) j →
  loopC (st_track_each_10 m_track_Leg_2 l_track_each_4) (visS p x lo hi mv w.1 w.2 j) = some (1, visR x mv (legN p x mv lo hi (⟨[], 0, f, d⟩, d) p.segs.length).1 (legN p x mv lo hi (⟨[], 0, f, d⟩, d) p.segs.length).2)
 | 0, j, hj, w, hw => by
  have hj' : j = p.segs.length := by omega
  refine loop_end (o := (1, _)) ?_ (by simp)
  rw [st_track_each_10_eq, bif_neg (by omega), hw, hj']
 | k + 1, j, hj, w, hw => by
  have hcnt := hp.count
  have hb := legN_bd (mv := mv) (lo := lo) (hi := hi) (f := f) (d := d) hx hp.ok j (by omega)
  rw [← hw] at hb
  have hst := a_each10 (MV := m_track_Leg_2) (N := l_track_each_4) (lo := lo) (hi := hi) (now := w.2) (j := j) hv hp hx hb (by omega) (by omega) (by omega) (fun {a b s units} hu => s_visit hv hx hb (by omega) (by omega) (k := 268435456) (by omega) hu)
  rw [loop_more hst]
  exact l_each10 hv hp hx k (j + 1) (by omega) _ (by rw [legN, ← hw])
theorem a_each {MV : List AC → Option (List AC)} {N4 N10 : List AC → Option (Nat × List AC)} {p : Pth} {x : Ax3} {lo hi mv f : Int} {d : Pt}
  (h4 : N4 (ethS p x lo hi mv ⟨[], 0, f, d⟩ d 0 [] 0) = some (1, [.view kInts (begL p.segs p.segs.length), .view kPce [], I lo, I hi, I mv, I p.start.x, I p.start.y, I p.start.z, .view kSgm (p.segs.map sgmR), .view kMrk (p.marks.map mrkR), I d.x, I d.y, I d.z, I mv, I x.a.step, I x.a.speed, I x.a.accel, I x.a.jerk, I x.a.low, I x.a.high, I x.a.back, I x.a.origin, I x.a.spacing, .view kInts (x.a.pitch.map intR), I x.b.step, I x.b.speed, I x.b.accel, I x.b.jerk, I x.b.low, I x.b.high, I x.b.back, I x.b.origin, I x.b.spacing, .view kInts (x.b.pitch.map intR), I x.c.step, I x.c.speed, I x.c.accel, I x.c.jerk, I x.c.low, I x.c.high, I x.c.back, I x.c.origin, I x.c.spacing, .view kInts (x.c.pitch.map intR), I 0, I f, I d.x, I d.y, I d.z]))
  (h10 : N10 (visS p x lo hi mv ⟨[], 0, f, d⟩ d 0) = some (1, visR x mv (legN p x mv lo hi (⟨[], 0, f, d⟩, d) p.segs.length).1 (legN p x mv lo hi (⟨[], 0, f, d⟩, d) p.segs.length).2)) :
  mf_track_each MV N4 N10 [.view kPce [], I p.start.x, I p.start.y, I p.start.z, .view kSgm (p.segs.map sgmR), .view kMrk (p.marks.map mrkR), I lo, I hi, I mv, I d.x, I d.y, I d.z, I mv, I x.a.step, I x.a.speed, I x.a.accel, I x.a.jerk, I x.a.low, I x.a.high, I x.a.back, I x.a.origin, I x.a.spacing, .view kInts (x.a.pitch.map intR), I x.b.step, I x.b.speed, I x.b.accel, I x.b.jerk, I x.b.low, I x.b.high, I x.b.back, I x.b.origin, I x.b.spacing, .view kInts (x.b.pitch.map intR), I x.c.step, I x.c.speed, I x.c.accel, I x.c.jerk, I x.c.low, I x.c.high, I x.c.back, I x.c.origin, I x.c.spacing, .view kInts (x.c.pitch.map intR), I 0, I f, I d.x, I d.y, I d.z] = some (visR x mv (legN p x mv lo hi (⟨[], 0, f, d⟩, d) p.segs.length).1 (legN p x mv lo hi (⟨[], 0, f, d⟩, d) p.segs.length).2) := by
 rw [mf_track_each_eq]
 simp only [ethS, List.map_nil, Int.cast_ofNat_Int] at h4
 simp only [visS, visR, List.map_nil, Int.cast_ofNat_Int] at h10
 simp only [go_sem, List.length_map, h4, h10]
theorem s_each {p : Pth} {x : Ax3} {lo hi mv f : Int} {d : Pt} (hv : mv = 1 ∨ mv = -1) (hp : GoodPath p) (hx : Ax3OK x) :
  m_track_each [.view kPce [], I p.start.x, I p.start.y, I p.start.z, .view kSgm (p.segs.map sgmR), .view kMrk (p.marks.map mrkR), I lo, I hi, I mv, I d.x, I d.y, I d.z, I mv, I x.a.step, I x.a.speed, I x.a.accel, I x.a.jerk, I x.a.low, I x.a.high, I x.a.back, I x.a.origin, I x.a.spacing, .view kInts (x.a.pitch.map intR), I x.b.step, I x.b.speed, I x.b.accel, I x.b.jerk, I x.b.low, I x.b.high, I x.b.back, I x.b.origin, I x.b.spacing, .view kInts (x.b.pitch.map intR), I x.c.step, I x.c.speed, I x.c.accel, I x.c.jerk, I x.c.low, I x.c.high, I x.c.back, I x.c.origin, I x.c.spacing, .view kInts (x.c.pitch.map intR), I 0, I f, I d.x, I d.y, I d.z] = some (visR x mv (legN p x mv lo hi (⟨[], 0, f, d⟩, d) p.segs.length).1 (legN p x mv lo hi (⟨[], 0, f, d⟩, d) p.segs.length).2) := by
 refine a_each (MV := m_track_Leg_2) (N4 := l_track_each_4) (N10 := l_track_each_10) ?_ (l_each10 hv hp hx p.segs.length 0 (by omega) _ rfl)
 have h := l_each4 (M := m_track_Leg_2) (x := x) (lo := lo) (hi := hi) (mv := mv) (t := ⟨[], 0, f, d⟩) (now := d) hp.ok p.segs.length 0 (by omega)
 rw [posL_zero] at h
 exact h
theorem a_trackLeg {ME M2 M1 MC ML : List AC → Option (List AC)} {p : Pth} {x : Ax3} {d : Pt} {from_ to : Int} (hL : ML (pthR p) = some [I (sumLen p.segs)]) (hC : ∀ n h : Int, MC [I n, I h] = some [I (clampP n h)])
  (hE : ∀ {lo hi mv f : Int}, (mv = 1 ∨ mv = -1) → ME [.view kPce [], I p.start.x, I p.start.y, I p.start.z, .view kSgm (p.segs.map sgmR), .view kMrk (p.marks.map mrkR), I lo, I hi, I mv, I d.x, I d.y, I d.z, I mv, I x.a.step, I x.a.speed, I x.a.accel, I x.a.jerk, I x.a.low, I x.a.high, I x.a.back, I x.a.origin, I x.a.spacing, .view kInts (x.a.pitch.map intR), I x.b.step, I x.b.speed, I x.b.accel, I x.b.jerk, I x.b.low, I x.b.high, I x.b.back, I x.b.origin, I x.b.spacing, .view kInts (x.b.pitch.map intR), I x.c.step, I x.c.speed, I x.c.accel, I x.c.jerk, I x.c.low, I x.c.high, I x.c.back, I x.c.origin, I x.c.spacing, .view kInts (x.c.pitch.map intR), I 0, I f, I d.x, I d.y, I d.z] = some (visR x mv (legN p x mv lo hi (⟨[], 0, f, d⟩, d) p.segs.length).1 (legN p x mv lo hi (⟨[], 0, f, d⟩, d) p.segs.length).2)) :
  mf_track_Leg ME M2 M1 MC ML (pthR p ++ ax3R x ++ [I d.x, I d.y, I d.z, I from_, I to]) = some (trkR (legP p x d from_ to)) := by
 have he := mf_track_Leg_eq ME M2 M1 MC ML p.start.x p.start.y p.start.z (p.segs.map sgmR) (p.marks.map mrkR) x.a.step x.a.speed x.a.accel x.a.jerk x.a.low x.a.high x.a.back x.a.origin x.a.spacing (x.a.pitch.map intR) x.b.step x.b.speed x.b.accel x.b.jerk x.b.low x.b.high x.b.back x.b.origin x.b.spacing (x.b.pitch.map intR) x.c.step x.c.speed x.c.accel x.c.jerk x.c.low x.c.high x.c.back x.c.origin x.c.spacing (x.c.pitch.map intR) d.x d.y d.z from_ to
 refine Eq.trans he ?_
 unfold legP
 simp only [pthR] at hL
 simp only [hL, hC, go_sem, mn_eq, mx_eq]
 generalize clampP from_ (sumLen p.segs) = f at *
 generalize clampP to (sumLen p.segs) = t at *
 by_cases c : t < f
 ·have h := hE (lo := min f t) (hi := max f t) (mv := -1) (f := f) (.inr rfl)
  simp only [visR] at h
  simp only [h, go_sem, c, if_true]
 ·have h := hE (lo := min f t) (hi := max f t) (mv := 1) (f := f) (.inl rfl)
  simp only [visR] at h
  simp only [h, go_sem, c, if_false]
theorem s_track_Leg {p : Pth} {x : Ax3} {d : Pt} {from_ to : Int} (hp : GoodPath p) (hx : Ax3OK x) : m_track_Leg (pthR p ++ ax3R x ++ [I d.x, I d.y, I d.z, I from_, I to]) = some (trkR (legP p x d from_ to)) :=
 a_trackLeg (s_path_Length hp.ok) (fun _ _ => s_clamp) fun hv => s_each hv hp hx
def finalP (t : Trk) : Pt := if t.pieces = [] then t.dirs else (lastP t.pieces).dirs
theorem a_Final {F : List AC → Option (List AC)} {t : Trk} (hl : t.pieces.length ≤ 10000000) (hF : F = mf_cncref29_Final ∨ F = mf_track_Final) : F (trkR t) = some (ptR (finalP t)) := by
 unfold finalP
 by_cases c : t.pieces = []
 ·rw [if_pos c]
  rcases hF with rfl | rfl
  ·have he := mf_cncref29_Final_eq (t.pieces.map pceR) t.length t.start t.dirs.x t.dirs.y t.dirs.z
   refine Eq.trans he ?_
   rw [c]; rfl
  ·have he := mf_track_Final_eq (t.pieces.map pceR) t.length t.start t.dirs.x t.dirs.y t.dirs.z
   refine Eq.trans he ?_
   rw [c]; rfl
 ·have hp : 0 < t.pieces.length := by
   cases hh : t.pieces with
   | nil => exact absurd hh c
   | cons _ _ => simp
  have e1 : IntKind.i64.wrap ((t.pieces.length : Int) - 1) = ((t.pieces.length - 1 : Nat) : Int) := by rw [wrap_id (by omega)]; omega
  have hin : (0 : Int) ≤ ((t.pieces.length - 1 : Nat) : Int) ∧ ((t.pieces.length - 1 : Nat) : Int) < (t.pieces.length : Int) := by omega
  have hr := last_row c
  rw [if_neg c]
  rcases hF with rfl | rfl
  ·have he := mf_cncref29_Final_eq (t.pieces.map pceR) t.length t.start t.dirs.x t.dirs.y t.dirs.z
   refine Eq.trans he ?_
   rw [List.length_map, e1, Int.toNat_natCast, hr]
   simp only [go_sem, if_pos hin]
   rw [if_neg (by omega)]
  ·have he := mf_track_Final_eq (t.pieces.map pceR) t.length t.start t.dirs.x t.dirs.y t.dirs.z
   refine Eq.trans he ?_
   rw [List.length_map, e1, Int.toNat_natCast, hr]
   simp only [go_sem, if_pos hin]
   rw [if_pos (by omega)]
theorem l_Same {t : Trk} (hl : t.pieces.length ≤ 10000000) : ∀ (k j : Nat), j + k = t.pieces.length →
  loopC st_cncref29_SameTrack_4 (I t.pieces.length :: I j :: (trkR t ++ trkR t)) = some (2, [])
 | 0, j, hj => by
  refine loop_end (o := (2, _)) ?_ (by simp)
  have he := st_cncref29_SameTrack_4_eq t.pieces.length j (t.pieces.map pceR) t.length t.start t.dirs.x t.dirs.y t.dirs.z (t.pieces.map pceR) t.length t.start t.dirs.x t.dirs.y t.dirs.z
  refine Eq.trans he ?_
  rw [bif_neg (by omega)]
 | k + 1, j, hj => by
  have hst : st_cncref29_SameTrack_4 (I t.pieces.length :: I j :: (trkR t ++ trkR t)) = some (0, I t.pieces.length :: I (j + 1 : Nat) :: (trkR t ++ trkR t)) := by
   have he := st_cncref29_SameTrack_4_eq t.pieces.length j (t.pieces.map pceR) t.length t.start t.dirs.x t.dirs.y t.dirs.z (t.pieces.map pceR) t.length t.start t.dirs.x t.dirs.y t.dirs.z
   refine Eq.trans he ?_
   have hin : (0 : Int) ≤ (j : Int) ∧ (j : Int) < (t.pieces.length : Int) := by omega
   simp only [go_sem, List.length_map, Int.toNat_natCast, if_pos hin, wrap_id (x := (j : Int) + 1) (by omega)]
   rw [if_pos (by omega)]
   simp
  rw [loop_more hst]
  exact l_Same hl k (j + 1) (by omega)
theorem s_Same {t : Trk} (hl : t.pieces.length ≤ 10000000) : m_cncref29_SameTrack (trkR t ++ trkR t) = some [B true] := by
 have h := l_Same hl t.pieces.length 0 (by omega)
 have h' : l_cncref29_SameTrack_4 (I t.pieces.length :: I 0 :: (trkR t ++ trkR t)) = some (2, []) := h
 unfold m_cncref29_SameTrack
 generalize l_cncref29_SameTrack_4 = N at *
 have he := mf_cncref29_SameTrack_eq N (t.pieces.map pceR) t.length t.start t.dirs.x t.dirs.y t.dirs.z (t.pieces.map pceR) t.length t.start t.dirs.x t.dirs.y t.dirs.z
 refine Eq.trans he ?_
 simp only [trkR, List.cons_append, List.nil_append] at h'
 simp only [go_sem, List.length_map, h']
 simp
theorem legP_bd {p : Pth} {x : Ax3} (d : Pt) (a b : Int) (hp : GoodPath p) (hx : Ax3OK x) : (legP p x d a b).pieces.length ≤ 10000000 ∧ 0 ≤ (legP p x d a b).length ∧ (legP p x d a b).length ≤ 900000000000000 := by
 have hc := hp.count
 have h := legN_bd (mv := if clampP a (sumLen p.segs) > clampP b (sumLen p.segs) then -1 else 1) (lo := min (clampP a (sumLen p.segs)) (clampP b (sumLen p.segs))) (hi := max (clampP a (sumLen p.segs)) (clampP b (sumLen p.segs))) (f := clampP a (sumLen p.segs)) (d := d) hx hp.ok p.segs.length (Nat.le_refl _)
 obtain ⟨h1, h2, -⟩ := h
 unfold legP
 simp only
 refine ⟨by omega, by omega, by omega⟩
theorem a_TrackLeg {MRF MTF MS MRL MTL ML MD MA MP MM MW : List AC → Option (List AC)} {l ax : List (List AC)} {most dirs from_ to : Int} {p : Pth} {x : Ax3} {d : Pt} (hW : MW [] = some [B true])
  (hM1 : MM [I most, I 6] = some [I (most % 6)]) (hP : MP [.view kInts l, I (most % 6)] = some (pthR p)) (hA : MA [.view kInts ax] = some (ax3R x)) (hD : MD [I dirs] = some (ptR d)) (hL : ML (pthR p) = some [I (sumLen p.segs)])
  (hn : 0 ≤ sumLen p.segs ∧ sumLen p.segs ≤ 263886834032640) (hM : ∀ {v : Int}, (v = from_ ∨ v = to) → MM [I v, I (sumLen p.segs + 1)] = some [I (v % (sumLen p.segs + 1))])
  (hT : ∀ {a b : Int}, MTL (pthR p ++ ax3R x ++ [I d.x, I d.y, I d.z, I a, I b]) = some (trkR (legP p x d a b))) (hR : ∀ {a b : Int}, MRL (pthR p ++ ax3R x ++ [I d.x, I d.y, I d.z, I a, I b]) = some (trkR (legP p x d a b)))
  (hS : ∀ {a b : Int}, MS (trkR (legP p x d a b) ++ trkR (legP p x d a b)) = some [B true]) (hTF : ∀ {a b : Int}, MTF (trkR (legP p x d a b)) = some (ptR (finalP (legP p x d a b)))) (hRF : ∀ {a b : Int}, MRF (trkR (legP p x d a b)) = some (ptR (finalP (legP p x d a b)))) :
  mf_cnclaw29_TrackLeg MRF MTF MS MRL MTL ML MD MA MP MM MW [.view kInts l, .view kInts ax, I most, I dirs, I from_, I to] = some [B true] := by
 rw [mf_cnclaw29_TrackLeg_eq]
 simp only [trkR, ax3R, pthR, List.cons_append, List.nil_append] at *
 simp only [go_sem, hW, hM1, hP, hA, hD, hL, wrap_id (x := sumLen p.segs + 1) (by omega), hM (.inl rfl), hM (.inr rfl), hT, hR, hS, hTF, hRF]
 simp
theorem s_TrackLeg {l ax : List (List AC)} (hl : Src l) (ha : Src ax) {most dirs from_ to : Int} (h1 : i64 most) (h2 : i64 dirs) (h3 : i64 from_) (h4 : i64 to) :
  m_cnclaw29_TrackLeg [.view kInts l, .view kInts ax, I most, I dirs, I from_, I to] = some [B true] := by
 obtain ⟨p, hP, hp⟩ := s_MillPath hl (most := most % 6) (by omega)
 obtain ⟨x, hA, hx⟩ := s_Axes ha
 obtain ⟨d, hD, -⟩ := s_Dirs h2
 have hn := sum_path hp
 refine a_TrackLeg m_cnclaw29_awake_eq (s_cncmill_Mod h1 (by omega)) hP hA hD (s_ref_Length hp.ok) hn (fun {v} hv => s_cncmill_Mod (by rcases hv with rfl | rfl <;> assumption) (by omega)) (s_track_Leg hp hx.ok) (s_refLeg hp hx.ok) (fun {a b} => s_Same (legP_bd d a b hp hx.ok).1) (fun {a b} => a_Final (legP_bd d a b hp hx.ok).1 (.inr rfl)) (fun {a b} => a_Final (legP_bd d a b hp hx.ok).1 (.inl rfl))
end Go.Bm
/- what a law's arguments are known to be -/
set_option maxRecDepth 100000
namespace Go.Bm

theorem okR_int {r : List AC} (h : okR kInts r) : i64 (intOf (nth .dead r 0)) := by
 match r, h with
 | [], h => exact h.elim
 | a :: _, h => exact okC_int h.1
theorem okR_src {r : List AC} (h : okR [Kd.sl kInts] r) : Src (rowsOf (nth .dead r 0)) := by
 match r, h with
 | [], h => exact h.elim
 | a :: _, h =>
  have h1 := h.1
  unfold okC at h1
  refine ⟨?_, fun c hc => okR_int (h1.2 c hc).1⟩
  have h2 := h1.1
  simp only [maxLen] at h2
  show (rowsOf a).length ≤ _
  omega
end Go.Bm
