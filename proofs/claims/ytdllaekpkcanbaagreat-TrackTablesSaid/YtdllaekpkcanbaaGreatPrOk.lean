/- laid together -/
import Derived.Test.YtdllaekpkcanbaaGreatPrMo
import Derived.Test.YtdllaekpkcanbaaGreatMy1
import Derived.Test.YtdllaekpkcanbaaGreatPrH
set_option linter.unusedVariables false
set_option linter.unusedSimpArgs false
/- the motors of a track: by the reference and by the program; the law TrackMotors -/
set_option maxRecDepth 100000
namespace Go.Bm
open Classical

def dirP (a : Axs) (d : Int) : Int := if d = -1 then -a.back else 0
def shiftP (a : Axs) (move at_ was dirs u : Int) : Int := if move ≠ 0 \/ was = dirs then dirP a dirs else if dirs = -1 then -min (u - at_) a.back else min (u - at_) a.back - a.back
theorem s_bShift {a : Axs} (hb : 0 <= a.back /\ a.back <= 1000) (v : Int) : m_backlash_Shift (axsR a ++ [I v]) = some [I (dirP a v)] := by
 have he := mf_backlash_Shift_eq a.step a.speed a.accel a.jerk a.low a.high a.back a.origin a.spacing (a.pitch.map intR) v
 unfold m_backlash_Shift
 refine Eq.trans he ?_
 unfold dirP
 by_cases c : v = -1
 ·rw [bif_true (by simp [c]), if_pos c, wrap_id (by omega)]
  congr 3; omega
 ·rw [bif_false (by simp [c]), if_neg c]
theorem a_sh0 {M : List AC -> Option (List AC)} {a : Axs} {c : Pce} {u : Int} (hM : ∀ v : Int, M (axsR a ++ [I v]) = some [I (dirP a v)]) (hb : 0 <= a.back /\ a.back <= 1000) (hu : 0 <= u - c.at_ /\ u - c.at_ <= 2000000000000000) :
  mf_track_shift M (axsR a ++ pceR c ++ [I 0, I u]) = some [I (shiftP a c.move c.at_ c.was.x c.dirs.x u)] := by
 have he := mf_track_shift_eq M a.step a.speed a.accel a.jerk a.low a.high a.back a.origin a.spacing (a.pitch.map intR) c.at_ c.units c.s c.move c.was.x c.was.y c.was.z c.dirs.x c.dirs.y c.dirs.z 0 u
 refine Eq.trans he ?_
 have hm0 := hM c.dirs.x
 simp only [axsR, List.cons_append, List.nil_append] at hm0
 have e1 : IntKind.i64.wrap (0 + 1) = 1 := rfl
 have e2 : IntKind.i64.wrap (1 + 1) = 2 := rfl
 have w1 : IntKind.i64.wrap (u - c.at_) = u - c.at_ := wrap_id (by omega)
 have w2 : IntKind.i64.wrap (0 - min (u - c.at_) a.back) = -min (u - c.at_) a.back := by rw [wrap_id (by omega)]; omega
 have w3 : IntKind.i64.wrap (min (u - c.at_) a.back - a.back) = min (u - c.at_) a.back - a.back := wrap_id (by omega)
 unfold shiftP
 simp only [go_sem, e1, e2, mn_eq, w1, w2, w3, Nat.reduceAdd, Int.cast_ofNat_Int, Int.natCast_zero, Int.natCast_one, Int.reduceEq, hm0]
 by_cases c1 : c.move = 0
 ·by_cases c2 : c.was.x = c.dirs.x
  ·simp [c1, c2]
  ·by_cases c3 : c.dirs.x = -1
   ·simp [c1, c3, show c.was.x ≠ -1 from fun e => c2 (by rw [e, c3])]
   ·simp [c1, c2, c3]
 ·simp [c1]
theorem a_sh1 {M : List AC -> Option (List AC)} {a : Axs} {c : Pce} {u : Int} (hM : ∀ v : Int, M (axsR a ++ [I v]) = some [I (dirP a v)]) (hb : 0 <= a.back /\ a.back <= 1000) (hu : 0 <= u - c.at_ /\ u - c.at_ <= 2000000000000000) :
  mf_track_shift M (axsR a ++ pceR c ++ [I (IntKind.i64.wrap (0 + 1)), I u]) = some [I (shiftP a c.move c.at_ c.was.y c.dirs.y u)] := by
 have he := mf_track_shift_eq M a.step a.speed a.accel a.jerk a.low a.high a.back a.origin a.spacing (a.pitch.map intR) c.at_ c.units c.s c.move c.was.x c.was.y c.was.z c.dirs.x c.dirs.y c.dirs.z (IntKind.i64.wrap (0 + 1)) u
 refine Eq.trans he ?_
 have hm0 := hM c.dirs.y
 simp only [axsR, List.cons_append, List.nil_append] at hm0
 have e1 : IntKind.i64.wrap (0 + 1) = 1 := rfl
 have e2 : IntKind.i64.wrap (1 + 1) = 2 := rfl
 have w1 : IntKind.i64.wrap (u - c.at_) = u - c.at_ := wrap_id (by omega)
 have w2 : IntKind.i64.wrap (0 - min (u - c.at_) a.back) = -min (u - c.at_) a.back := by rw [wrap_id (by omega)]; omega
 have w3 : IntKind.i64.wrap (min (u - c.at_) a.back - a.back) = min (u - c.at_) a.back - a.back := wrap_id (by omega)
 unfold shiftP
 simp only [go_sem, e1, e2, mn_eq, w1, w2, w3, Nat.reduceAdd, Int.cast_ofNat_Int, Int.natCast_zero, Int.natCast_one, Int.reduceEq, hm0]
 by_cases c1 : c.move = 0
 ·by_cases c2 : c.was.y = c.dirs.y
  ·simp [c1, c2]
  ·by_cases c3 : c.dirs.y = -1
   ·simp [c1, c3, show c.was.y ≠ -1 from fun e => c2 (by rw [e, c3])]
   ·simp [c1, c2, c3]
 ·simp [c1]
theorem a_sh2 {M : List AC -> Option (List AC)} {a : Axs} {c : Pce} {u : Int} (hM : ∀ v : Int, M (axsR a ++ [I v]) = some [I (dirP a v)]) (hb : 0 <= a.back /\ a.back <= 1000) (hu : 0 <= u - c.at_ /\ u - c.at_ <= 2000000000000000) :
  mf_track_shift M (axsR a ++ pceR c ++ [I (IntKind.i64.wrap (IntKind.i64.wrap (0 + 1) + 1)), I u]) = some [I (shiftP a c.move c.at_ c.was.z c.dirs.z u)] := by
 have he := mf_track_shift_eq M a.step a.speed a.accel a.jerk a.low a.high a.back a.origin a.spacing (a.pitch.map intR) c.at_ c.units c.s c.move c.was.x c.was.y c.was.z c.dirs.x c.dirs.y c.dirs.z (IntKind.i64.wrap (IntKind.i64.wrap (0 + 1) + 1)) u
 refine Eq.trans he ?_
 have hm0 := hM c.dirs.z
 simp only [axsR, List.cons_append, List.nil_append] at hm0
 have e1 : IntKind.i64.wrap (0 + 1) = 1 := rfl
 have e2 : IntKind.i64.wrap (1 + 1) = 2 := rfl
 have w1 : IntKind.i64.wrap (u - c.at_) = u - c.at_ := wrap_id (by omega)
 have w2 : IntKind.i64.wrap (0 - min (u - c.at_) a.back) = -min (u - c.at_) a.back := by rw [wrap_id (by omega)]; omega
 have w3 : IntKind.i64.wrap (min (u - c.at_) a.back - a.back) = min (u - c.at_) a.back - a.back := wrap_id (by omega)
 unfold shiftP
 simp only [go_sem, e1, e2, mn_eq, w1, w2, w3, Nat.reduceAdd, Int.cast_ofNat_Int, Int.natCast_zero, Int.natCast_one, Int.reduceEq, hm0]
 by_cases c1 : c.move = 0
 ·by_cases c2 : c.was.z = c.dirs.z
  ·simp [c1, c2]
  ·by_cases c3 : c.dirs.z = -1
   ·simp [c1, c3, show c.was.z ≠ -1 from fun e => c2 (by rw [e, c3])]
   ·simp [c1, c2, c3]
 ·simp [c1]

theorem shiftP_bd {a : Axs} (hb : 0 <= a.back /\ a.back <= 1000) {move at_ was dirs u : Int} (hu : 0 <= u - at_) : -1000 <= shiftP a move at_ was dirs u /\ shiftP a move at_ was dirs u <= 1000 := by
 unfold shiftP dirP
 (repeat' split) <;> omega
theorem midP_bd {a : Pt} {g : Sgm} {d : Int} (ha : bd B26 a) (hg : 1 <= g.len /\ g.len <= 268435456 /\ bd B26 g.to) (hd : 0 <= d /\ d <= g.len) : bd 201326592 (midP a g d) := by
 have key : ∀ u v : Int, u.natAbs <= B26 -> v.natAbs <= B26 -> (v + near ((u - v) * d) g.len).natAbs <= 201326592 := by
  intro u v hu hv
  have h1 := sub_nat hu hv
  have h2 := mid_bd2 (D := u - v) (L := g.len) (d := d) (by omega) (Nat.le_trans h1 (by decide)) hd
  have h3 : v.natAbs <= 67108864 := hv
  omega
 exact ⟨key _ _ hg.2.2.1 ha.1, key _ _ hg.2.2.2.1 ha.2.1, key _ _ hg.2.2.2.2 ha.2.2⟩
theorem atP_bd {p : Pth} (h : GoodPath p) (s : Int) : bd 201326592 (atP p s) := by
 unfold atP
 by_cases c : p.segs = []
 ·rw [c]; exact bd_mono h.start (by decide)
 ·have hok := h.ok
  obtain ⟨f1, f2, f3, f4⟩ := find_at (l := p.segs) (a := p.start) (s := max s 0) c (fun g hg => (hok.seg g hg).1) (by omega)
  rw [f4]
  exact midP_bd (vert_bd h.start hok f1) (hok.seg _ (sgA_mem f1)) ⟨f2, f3⟩
theorem motP_bd {a : Axs} (h : AxOK a) {p : Int} (hp : okB p) : (motP a p).natAbs <= 2000000000 := by
 have hb := corP_bd h p
 have hs := h.step
 unfold okB at hp
 unfold motP
 refine near_bd (by omega) ?_
 have e : ((2000000000 : Nat) : Int) = 2000000000 := rfl
 rw [e]; omega
def shT (a : Axs) (t : Trk) (u : Int) (f : Pt -> Int) : Int := if t.pieces = [] then dirP a (f t.dirs) else shiftP a (pcA t.pieces (iT t u)).move (pcA t.pieces (iT t u)).at_ (f (pcA t.pieces (iT t u)).was) (f (pcA t.pieces (iT t u)).dirs) (clT t u)
def nomP (p : Pth) (x : Ax3) (s : Int) : Pt := ⟨motP x.a (atP p s).x, motP x.b (atP p s).y, motP x.c (atP p s).z⟩
def motorsP (p : Pth) (x : Ax3) (t : Trk) (u : Int) : Pt :=
 ⟨(nomP p x (placeP t u)).x + shT x.a t u Pt.x, (nomP p x (placeP t u)).y + shT x.b t u Pt.y, (nomP p x (placeP t u)).z + shT x.c t u Pt.z⟩
theorem iT_at {t : Trk} (h : TQ t) (hch : ∀ i, i + 1 < t.pieces.length -> (pcA t.pieces (i + 1)).at_ = eI t.pieces i) (h0 : t.pieces ≠ [] -> (pcA t.pieces 0).at_ = 0) (u : Int) (hne : t.pieces ≠ []) : (pcA t.pieces (iT t u)).at_ <= clT t u /\ (0 < iT t u -> (pcA t.pieces (iT t u)).at_ < clT t u) := by
 have hi := iT_lt h u hne
 have hc := clT_bd h u
 by_cases c : iT t u = 0
 ·rw [c, h0 hne]; exact ⟨hc.1, fun g => absurd g (by omega)⟩
 ·obtain ⟨j, hj⟩ : ∃ j, iT t u = j + 1 := ⟨iT t u - 1, by omega⟩
  rw [hj] at hi ⊢
  rw [hch j hi]
  have : ¬ clT t u <= eI t.pieces j := by
   intro g
   have := fI_lt (show j < t.pieces.length by omega) g
   unfold iT at hj; omega
  exact ⟨by omega, fun _ => by omega⟩
theorem clT_idem {t : Trk} (h : TQ t) (u : Int) : clT t (clT t u) = clT t u := by have := h.len; unfold clT clampP; omega
theorem place_clT {t : Trk} (h : TQ t) (u : Int) : placeP t (clT t u) = placeP t u := by unfold placeP iT; rw [clT_idem h]
theorem place_i64 {t : Trk} (h : TQ t) (u : Int) : -3000000000000000 <= placeP t u /\ placeP t u <= 3000000000000000 := by
 unfold placeP
 by_cases c : t.pieces = []
 ·rw [if_pos c]; have := h.start; omega
 ·have hi := iT_lt h u c
  have h1 := h.pos _ hi
  have h2 := h.s _ hi
  have h3 := h.move _ hi
  have h4 := clT_bd h u
  have h5 := h.len
  rw [if_neg c]
  unfold eI at h1
  rcases h3 with h3 | h3 | h3 <;> rw [h3] <;> omega
theorem okB_at {p : Pth} (h : GoodPath p) (s : Int) : okB (atP p s).x /\ okB (atP p s).y /\ okB (atP p s).z := by
 obtain ⟨h1, h2, h3⟩ := atP_bd h s
 unfold okB; omega
theorem a_Nominal {MM MA : List AC -> Option (List AC)} {p : Pth} {x : Ax3} (hp : GoodPath p) (hx : Ax3M x) {s : Int} (hA : MA (pthR p ++ [I s]) = some (ptR (atP p s))) (hM : ∀ {a : Axs} {q : Int}, AxOK a -> okB q -> MM (axsR a ++ [I q]) = some [I (motP a q)]) :
  mf_cncref29_Nominal MM MA (pthR p ++ ax3R x ++ [I s]) = some (ptR (nomP p x s)) := by
 have he := mf_cncref29_Nominal_eq MM MA p.start.x p.start.y p.start.z (p.segs.map sgmR) (p.marks.map mrkR) x.a.step x.a.speed x.a.accel x.a.jerk x.a.low x.a.high x.a.back x.a.origin x.a.spacing (x.a.pitch.map intR) x.b.step x.b.speed x.b.accel x.b.jerk x.b.low x.b.high x.b.back x.b.origin x.b.spacing (x.b.pitch.map intR) x.c.step x.c.speed x.c.accel x.c.jerk x.c.low x.c.high x.c.back x.c.origin x.c.spacing (x.c.pitch.map intR) s
 refine Eq.trans he ?_
 obtain ⟨o1, o2, o3⟩ := okB_at hp s
 have m1 := hM hx.a o1
 have m2 := hM hx.b o2
 have m3 := hM hx.c o3
 simp only [pthR, axsR, List.cons_append, List.nil_append] at hA m1 m2 m3
 simp only [hA, go_sem, m1, m2, m3]
 rfl
theorem s_Nominal {p : Pth} {x : Ax3} (hp : GoodPath p) (hx : Ax3M x) {s : Int} (hs : i64 s) : m_cncref29_Nominal (pthR p ++ ax3R x ++ [I s]) = some (ptR (nomP p x s)) := a_Nominal hp hx (s_ref_At hp hs) fun h1 h2 => s_refMotor h1 h2
structure TH (t : Trk) : Prop where
 q : TQ t
 at0 : t.pieces ≠ [] -> (pcA t.pieces 0).at_ = 0
 at1 : ∀ i, i + 1 < t.pieces.length -> (pcA t.pieces (i + 1)).at_ = eI t.pieces i
theorem shT_bd {a : Axs} (hb : 0 <= a.back /\ a.back <= 1000) {t : Trk} (h : TH t) (u : Int) (f : Pt -> Int) : -1000 <= shT a t u f /\ shT a t u f <= 1000 := by
 unfold shT
 by_cases c : t.pieces = []
 ·rw [if_pos c]; unfold dirP; split <;> omega
 ·rw [if_neg c]
  exact shiftP_bd hb (by have := (iT_at h.q h.at1 h.at0 u c).1; omega)
theorem a_Motors {MS MD MM MF MA ML MC : List AC -> Option (List AC)} {p : Pth} {x : Ax3} {t : Trk} {u : Int} (hp : GoodPath p) (hx : Ax3M x) (ht : TH t) (hC : MC [I u, I t.length] = some [I (clT t u)]) (hL : ML (trkR t ++ [I (clT t u)]) = some [I (placeP t u)]) (hA : MA (pthR p ++ [I (placeP t u)]) = some (ptR (atP p (placeP t u))))
  (hF : MF (trkR t ++ [I (clT t u)]) = some [I (if t.pieces = [] then -1 else (iT t u : Int))]) (hM : ∀ {a : Axs} {q : Int}, AxOK a -> okB q -> MM (axsR a ++ [I q]) = some [I (motP a q)]) (hD : ∀ {a : Axs} (v : Int), (0 <= a.back /\ a.back <= 1000) -> MD (axsR a ++ [I v]) = some [I (dirP a v)])
  (h0 : ∀ {a : Axs} {c : Pce} {u : Int}, (0 <= a.back /\ a.back <= 1000) -> (0 <= u - c.at_ /\ u - c.at_ <= 2000000000000000) -> MS (axsR a ++ pceR c ++ [I 0, I u]) = some [I (shiftP a c.move c.at_ c.was.x c.dirs.x u)])
  (h1 : ∀ {a : Axs} {c : Pce} {u : Int}, (0 <= a.back /\ a.back <= 1000) -> (0 <= u - c.at_ /\ u - c.at_ <= 2000000000000000) -> MS (axsR a ++ pceR c ++ [I (IntKind.i64.wrap (0 + 1)), I u]) = some [I (shiftP a c.move c.at_ c.was.y c.dirs.y u)])
  (h2 : ∀ {a : Axs} {c : Pce} {u : Int}, (0 <= a.back /\ a.back <= 1000) -> (0 <= u - c.at_ /\ u - c.at_ <= 2000000000000000) -> MS (axsR a ++ pceR c ++ [I (IntKind.i64.wrap (IntKind.i64.wrap (0 + 1) + 1)), I u]) = some [I (shiftP a c.move c.at_ c.was.z c.dirs.z u)]) :
  mf_track_Motors MS MD MM MF MA ML MC (pthR p ++ ax3R x ++ trkR t ++ [I u]) = some (ptR (motorsP p x t u)) := by
 have he := mf_track_Motors_eq MS MD MM MF MA ML MC p.start.x p.start.y p.start.z (p.segs.map sgmR) (p.marks.map mrkR) x.a.step x.a.speed x.a.accel x.a.jerk x.a.low x.a.high x.a.back x.a.origin x.a.spacing (x.a.pitch.map intR) x.b.step x.b.speed x.b.accel x.b.jerk x.b.low x.b.high x.b.back x.b.origin x.b.spacing (x.b.pitch.map intR) x.c.step x.c.speed x.c.accel x.c.jerk x.c.low x.c.high x.c.back x.c.origin x.c.spacing (x.c.pitch.map intR) (t.pieces.map pceR) t.length t.start t.dirs.x t.dirs.y t.dirs.z u
 refine Eq.trans he ?_
 obtain ⟨o1, o2, o3⟩ := okB_at hp (placeP t u)
 have m1 := hM hx.a o1
 have m2 := hM hx.b o2
 have m3 := hM hx.c o3
 have b1 := motP_bd hx.a o1
 have b2 := motP_bd hx.b o2
 have b3 := motP_bd hx.c o3
 have s1 := shT_bd hx.ok.a ht u Pt.x
 have s2 := shT_bd hx.ok.b ht u Pt.y
 have s3 := shT_bd hx.ok.c ht u Pt.z
 unfold motorsP nomP
 generalize motP x.a (atP p (placeP t u)).x = q1 at *
 generalize motP x.b (atP p (placeP t u)).y = q2 at *
 generalize motP x.c (atP p (placeP t u)).z = q3 at *
 have w1 : IntKind.i64.wrap (q1 + shT x.a t u Pt.x) = q1 + shT x.a t u Pt.x := wrap_id (by omega)
 have w2 : IntKind.i64.wrap (q2 + shT x.b t u Pt.y) = q2 + shT x.b t u Pt.y := wrap_id (by omega)
 have w3 : IntKind.i64.wrap (q3 + shT x.c t u Pt.z) = q3 + shT x.c t u Pt.z := wrap_id (by omega)
 by_cases c : t.pieces = []
 ·have d1 := hD t.dirs.x hx.ok.a
  have d2 := hD t.dirs.y hx.ok.b
  have d3 := hD t.dirs.z hx.ok.c
  unfold shT at *
  rw [if_pos c] at hF
  simp only [if_pos c] at w1 w2 w3 ⊢
  simp only [pthR, trkR, axsR, List.cons_append, List.nil_append] at hL hA hF d1 d2 d3 m1 m2 m3
  simp only [hC, hL, hA, hF, go_sem, m1, m2, m3, d1, d2, d3, w1, w2, w3]
  rw [if_pos (by omega), if_pos (by omega), if_pos (by omega)]
 ·have hi := iT_lt ht.q u c
  have hcnt := ht.q.count
  have hat := (iT_at ht.q ht.at1 ht.at0 u c).1
  have hcl := clT_bd ht.q u
  have hlen := ht.q.len
  have hpos := ht.q.pos _ hi
  have hin : (0 : Int) <= (iT t u : Int) /\ (iT t u : Int) < (t.pieces.length : Int) := by omega
  have hneg : ¬ ((iT t u : Int) < 0) := by omega
  have d1 := h0 (c := pcA t.pieces (iT t u)) (u := clT t u) hx.ok.a (by omega)
  have d2 := h1 (c := pcA t.pieces (iT t u)) (u := clT t u) hx.ok.b (by omega)
  have d3 := h2 (c := pcA t.pieces (iT t u)) (u := clT t u) hx.ok.c (by omega)
  unfold shT at *
  rw [if_neg c] at hF
  simp only [if_neg c] at w1 w2 w3 ⊢
  simp only [pthR, trkR, axsR, pceR, List.cons_append, List.nil_append] at hL hA hF d1 d2 d3 m1 m2 m3
  simp only [hC, hL, hA, hF, go_sem, m1, m2, m3, List.length_map, if_pos hin, Int.toNat_natCast, row_pcA hi, if_neg hneg, d1, d2, d3, w1, w2, w3]
theorem s_Motors {p : Pth} {x : Ax3} {t : Trk} (hp : GoodPath p) (hx : Ax3M x) (ht : TH t) (u : Int) : m_track_Motors (pthR p ++ ax3R x ++ trkR t ++ [I u]) = some (ptR (motorsP p x t u)) := by
 have hs := place_i64 ht.q u
 have hpl := s_Place ht.q (clT t u)
 rw [place_clT ht.q] at hpl
 exact a_Motors hp hx ht s_clamp hpl (s_path_At hp (by unfold i64; omega)) (s_find ht.q u) (fun h1 h2 => s_pMotor h1 h2) (fun v hb => s_bShift hb v) (fun hb hu => a_sh0 (s_bShift hb) hb hu) (fun hb hu => a_sh1 (s_bShift hb) hb hu) (fun hb hu => a_sh2 (s_bShift hb) hb hu)
end Go.Bm
/- the law TrackMotors, over the models -/
set_option maxRecDepth 100000
namespace Go.Bm
open Classical

theorem chain_at0 {x : Ax3} {mv : Int} {Q : Int -> Pt -> Prop} {a s : Int} {d : Pt} {l : List Pce} (h : chain x mv Q a s d l) (hne : l ≠ []) : (pcA l 0).at_ = a := by
 cases l with
 | nil => exact absurd rfl hne
 | cons c l => rw [pcA_zero]; exact h.1
theorem chain_at1 {x : Ax3} {mv : Int} {Q : Int -> Pt -> Prop} : ∀ {a s : Int} {d : Pt} {l : List Pce}, chain x mv Q a s d l -> ∀ i, i + 1 < l.length -> (pcA l (i + 1)).at_ = eI l i
 | a, s, d, [], h, i, hi => by simp at hi
 | a, s, d, c :: l, h, 0, hi => by
  obtain ⟨h1, h2, h3, h4, h5⟩ := h
  unfold eI
  rw [pcA_cons, pcA_zero, chain_at0 h5 (fun e => by rw [e] at hi; simp at hi), h1]
 | a, s, d, c :: l, h, i + 1, hi => by
  obtain ⟨h1, h2, h3, h4, h5⟩ := h
  have := chain_at1 h5 i (by simpa using hi)
  unfold eI at *
  rw [pcA_cons, pcA_cons]; exact this
theorem legP_TH {p : Pth} {x : Ax3} (d : Pt) (a b : Int) (hx : Ax3OK x) (hp : GoodPath p) : TH (legP p x d a b) := by
 obtain ⟨d', h1, h2, -⟩ := legP_chain (d := d) (a := a) (b := b) (Q := fun _ _ => True) hx hp (fun _ _ _ _ _ _ _ _ => trivial)
 exact ⟨legP_TQ d a b hx hp, chain_at0 h1.ch, chain_at1 h1.ch⟩
end Go.Bm
/- motors: a unit of position moves a motor by at most a step; a track's motors move by at most a step a unit -/
set_option maxRecDepth 100000
namespace Go.Bm
open Classical

theorem corP_step {a : Axs} (h : AxOK a) (p : Int) : -1 <= corP a (p + 1) - corP a p /\ corP a (p + 1) - corP a p <= 1 := by
 unfold corP
 by_cases c : a.pitch = []
 ·rw [if_pos c, if_pos c]; omega
 ·have hl := ne_len c
  have hs := h.spacing c
  rw [if_neg c, if_neg c]
  have hD : ∀ i, i + 1 < a.pitch.length -> -a.spacing <= pitA a (i + 1) - pitA a i /\ pitA a (i + 1) - pitA a i <= a.spacing := fun i hi => by
   have hp := h.pitch.2 i hi
   unfold pitA; omega
  by_cases c1 : p <= a.origin
  ·rw [if_pos c1]
   by_cases c2 : p + 1 <= a.origin
   ·rw [if_pos c2]; omega
   ·rw [if_neg c2]
    have e : p + 1 - a.origin = 1 := by omega
    have e2 : (1 : Int) / a.spacing = 0 := Int.ediv_eq_zero_of_lt (by omega) (by omega)
    rw [e, e2]
    by_cases c3 : (0 : Int) >= a.pitch.length - 1
    ·rw [if_pos c3, show a.pitch.length - 1 = 0 by omega]; omega
    ·rw [if_neg c3]
     have g := near_step (D := pitA a 1 - pitA a 0) (L := a.spacing) (d := 0) (by omega) (hD 0 (by omega))
     have g0 : near 0 a.spacing = 0 := near_of (by omega) (by omega) (by omega)
     rw [Int.mul_zero, g0] at g
     show -1 <= pitA a (Int.toNat 0) + near ((pitA a (Int.toNat 0 + 1) - pitA a (Int.toNat 0)) * (1 - 0 * a.spacing)) a.spacing - pitA a 0 /\ pitA a (Int.toNat 0) + near ((pitA a (Int.toNat 0 + 1) - pitA a (Int.toNat 0)) * (1 - 0 * a.spacing)) a.spacing - pitA a 0 <= 1
     rw [Int.zero_mul]
     show -1 <= pitA a 0 + near ((pitA a 1 - pitA a 0) * (0 + 1)) a.spacing - pitA a 0 /\ pitA a 0 + near ((pitA a 1 - pitA a 0) * (0 + 1)) a.spacing - pitA a 0 <= 1
     omega
  ·rw [if_neg c1, if_neg (show ¬ p + 1 <= a.origin by omega)]
   have e0 := Int.mul_ediv_add_emod (p - a.origin) a.spacing
   have e1 := Int.emod_nonneg (p - a.origin) (show a.spacing ≠ 0 by omega)
   have e2 := Int.emod_lt_of_pos (p - a.origin) (show 0 < a.spacing by omega)
   have e3 : 0 <= (p - a.origin) / a.spacing := Int.ediv_nonneg (by omega) (by omega)
   have key : ∀ (k r : Int), 0 <= r -> r < a.spacing -> p + 1 - a.origin = a.spacing * k + r -> (p + 1 - a.origin) / a.spacing = k := by
    intro k r r0 r1 hk
    rw [hk, Int.mul_add_ediv_left _ _ (by omega), Int.ediv_eq_zero_of_lt r0 r1, Int.add_zero]
   generalize (p - a.origin) / a.spacing = i at *
   generalize (p - a.origin) % a.spacing = r at *
   obtain ⟨n, rfl⟩ : ∃ n : Nat, i = n := ⟨i.toNat, by omega⟩
   have er : p - a.origin - (n : Int) * a.spacing = r := by rw [Int.mul_comm]; omega
   rw [er]
   by_cases c4 : r + 1 < a.spacing
   ·rw [key n (r + 1) (by omega) c4 (by omega)]
    have er2 : p + 1 - a.origin - (n : Int) * a.spacing = r + 1 := by rw [Int.mul_comm] at er ⊢; omega
    rw [er2]
    by_cases c3 : (n : Int) >= a.pitch.length - 1
    ·rw [if_pos c3, if_pos c3]; omega
    ·rw [if_neg c3, if_neg c3, Int.toNat_natCast]
     have g := near_step (D := pitA a (n + 1) - pitA a n) (L := a.spacing) (d := r) (by omega) (hD n (by omega))
     omega
   ·have hk : p + 1 - a.origin = a.spacing * ((n : Int) + 1) + 0 := by rw [Int.mul_add]; omega
    rw [key ((n : Int) + 1) 0 (by omega) (by omega) hk]
    have er2 : p + 1 - a.origin - ((n : Int) + 1) * a.spacing = 0 := by rw [Int.mul_comm]; omega
    rw [er2, Int.mul_zero]
    have g0 : near 0 a.spacing = 0 := near_of (by omega) (by omega) (by omega)
    rw [g0]
    have et : ((n : Int) + 1).toNat = n + 1 := by omega
    rw [et, Int.toNat_natCast]
    by_cases c3 : (n : Int) >= a.pitch.length - 1
    ·rw [if_pos c3, if_pos (by omega)]; omega
    ·rw [if_neg c3]
     have g := near_step (D := pitA a (n + 1) - pitA a n) (L := a.spacing) (d := r) (by omega) (hD n (by omega))
     rw [show r + 1 = a.spacing by omega, near_mul (by omega)] at g
     by_cases c5 : (n : Int) + 1 >= a.pitch.length - 1
     ·rw [if_pos c5, show a.pitch.length - 1 = n + 1 by omega]; omega
     ·rw [if_neg c5]; omega
def okD (d : Pt) : Prop := (d.x = 1 \/ d.x = -1) /\ (d.y = 1 \/ d.y = -1) /\ (d.z = 1 \/ d.z = -1)
theorem turnD_ok {d a b : Pt} {mv : Int} (hv : mv = 1 \/ mv = -1) (h : okD d) : okD (turnD d a b mv) := by
 obtain ⟨h1, h2, h3⟩ := h
 unfold okD turnD turn1
 simp only
 refine ⟨?_, ?_, ?_⟩ <;> (repeat' split) <;> omega
theorem addT_dirs {t : Trk} {c : Pce} (h : ∀ k ∈ t.pieces, okD k.dirs) (hc : okD c.dirs) : ∀ k ∈ (addT t c).pieces, okD k.dirs := by
 unfold addT
 by_cases g : t.pieces ≠ [] /\ c.move ≠ 0 /\ (lastP t.pieces).move = c.move /\ (lastP t.pieces).dirs = c.dirs
 ·rw [if_pos g]
  intro k hk
  rcases List.mem_or_eq_of_mem_set hk with hk | rfl
  ·exact h k hk
  ·have := h (lastP t.pieces) (lastP_mem g.1); exact this
 ·rw [if_neg g]
  intro k hk
  rcases List.mem_append.1 hk with hk | hk
  ·exact h k hk
  ·rw [List.mem_singleton] at hk; subst hk; exact hc
theorem legN_dirs {p : Pth} {x : Ax3} {mv lo hi f : Int} {d : Pt} (hv : mv = 1 \/ mv = -1) (hd : okD d) : ∀ j, (∀ k ∈ (legN p x mv lo hi (⟨[], 0, f, d⟩, d) j).1.pieces, okD k.dirs) /\ okD (legN p x mv lo hi (⟨[], 0, f, d⟩, d) j).2
 | 0 => ⟨by simp [legN], hd⟩
 | j + 1 => by
  obtain ⟨h1, h2⟩ := legN_dirs (p := p) (x := x) (lo := lo) (hi := hi) (f := f) hv hd j
  rw [legN]
  unfold segT
  split
  ·unfold visit
   simp only
   have ht := turnD_ok (a := vertL p.start p.segs (idxT p.segs.length mv j)) (b := (sgA p.segs (idxT p.segs.length mv j)).to) hv h2
   refine ⟨addT_dirs ?_ ht, ht⟩
   split
   ·exact addT_dirs h1 ht
   ·exact h1
  ·exact ⟨h1, h2⟩
theorem legP_dirs {p : Pth} {x : Ax3} {d : Pt} {a b : Int} (hd : okD d) : ∀ k ∈ (legP p x d a b).pieces, okD k.dirs := by
 unfold legP
 exact (legN_dirs (by split <;> simp) hd _).1

def motC (a : Axs) (g : Int -> Int) (f : Pt -> Int) (c : Pce) (u : Int) : Int := motP a (g (c.s + c.move * (u - c.at_))) + shiftP a c.move c.at_ (f c.was) (f c.dirs) u
def motL (a : Axs) (g : Int -> Int) (f : Pt -> Int) : List Pce -> Int -> Int
 | [], _ => 0
 | c :: l, u => if u <= c.at_ + c.units then motC a g f c u else motL a g f l u
def AxisOf (x : Ax3) (a : Axs) (f : Pt -> Int) : Prop := (0 <= a.back /\ a.back <= 1000) /\ (∀ d, okD d -> f d = 1 \/ f d = -1) /\ (∀ w d, f w ≠ f d -> a.back <= slackD x w d)
theorem axis_x {x : Ax3} (h : Ax3OK x) : AxisOf x x.a Pt.x := ⟨h.a, fun d hd => hd.1, fun w d hn => by have h1 := h.a; unfold slackD slk; rw [if_neg hn]; (repeat' split) <;> omega⟩
theorem axis_y {x : Ax3} (h : Ax3OK x) : AxisOf x x.b Pt.y := ⟨h.b, fun d hd => hd.2.1, fun w d hn => by have h1 := h.a; have h2 := h.b; unfold slackD slk; rw [if_neg hn]; (repeat' split) <;> omega⟩
theorem axis_z {x : Ax3} (h : Ax3OK x) : AxisOf x x.c Pt.z := ⟨h.c, fun d hd => hd.2.2, fun w d hn => by have h1 := h.a; have h2 := h.b; unfold slackD slk; rw [if_neg hn]; omega⟩
theorem motL_eq {a : Axs} {g : Int -> Int} {f : Pt -> Int} : ∀ {l : List Pce} {u : Int}, fI l u < l.length -> motL a g f l u = motC a g f (pcA l (fI l u)) u
 | [], _, h => by simp at h
 | c :: l, u, h => by
  unfold fI at h ⊢
  unfold motL
  by_cases c0 : u <= c.at_ + c.units
  ·rw [if_pos c0, if_pos c0, pcA_zero]
  ·rw [if_neg c0] at h ⊢
   rw [if_neg c0, pcA_cons]
   exact motL_eq (by simpa using h)
end Go.Bm
/- the law TrackUnit, over the models -/
set_option maxRecDepth 100000
namespace Go.Bm
open Classical

theorem motors_bd {p : Pth} {x : Ax3} {t : Trk} (hp : GoodPath p) (hx : Ax3M x) (ht : TH t) (u : Int) : (motorsP p x t u).x.natAbs <= 3000000000 /\ (motorsP p x t u).y.natAbs <= 3000000000 /\ (motorsP p x t u).z.natAbs <= 3000000000 := by
 obtain ⟨o1, o2, o3⟩ := okB_at hp (placeP t u)
 have b1 := motP_bd hx.a o1
 have b2 := motP_bd hx.b o2
 have b3 := motP_bd hx.c o3
 have s1 := shT_bd hx.ok.a ht u Pt.x
 have s2 := shT_bd hx.ok.b ht u Pt.y
 have s3 := shT_bd hx.ok.c ht u Pt.z
 unfold motorsP nomP
 simp only
 omega
end Go.Bm
/- the law TrackWhere: the first track position at a path position -/
set_option maxRecDepth 100000
namespace Go.Bm
open Classical

def plL : List Pce -> Int -> Int
 | [], _ => 0
 | c :: l, u => if u <= c.at_ + c.units then c.s + c.move * (u - c.at_) else plL l u
theorem plL_eq : ∀ {l : List Pce} {u : Int}, fI l u < l.length -> plL l u = (pcA l (fI l u)).s + (pcA l (fI l u)).move * (u - (pcA l (fI l u)).at_)
 | [], _, h => by simp at h
 | c :: l, u, h => by
  unfold fI at h ⊢
  unfold plL
  by_cases c0 : u <= c.at_ + c.units
  ·rw [if_pos c0, if_pos c0, pcA_zero]
  ·rw [if_neg c0] at h ⊢
   rw [if_neg c0, pcA_cons]
   exact plL_eq (by simpa using h)
theorem place_plL {t : Trk} (h : TQ t) (u : Int) (hne : t.pieces ≠ []) : placeP t u = plL t.pieces (clT t u) := by
 have hi := iT_lt h u hne
 unfold placeP
 rw [if_neg hne]
 exact (plL_eq hi).symm
end Go.Bm
/- the law TrackTables: the tables stand at the nominal positions -/
set_option maxRecDepth 100000
namespace Go.Bm
open Classical

theorem motP_mono1 {a : Axs} (h : AxOK a) (p : Int) : motP a p <= motP a (p + 1) := by
 have hc := corP_step h p
 have hs := h.step
 unfold motP
 exact near_mono (by omega) (by omega)
theorem motP_mono {a : Axs} (h : AxOK a) {p q : Int} (hq : p <= q) : motP a p <= motP a q := by
 have : ∀ (n : Nat) (p : Int), motP a p <= motP a (p + n) := by
  intro n
  induction n with
  | zero => intro p; rw [show p + ((0 : Nat) : Int) = p by omega]; exact Int.le_refl _
  | succ n ih => intro p; have h1 := ih p; have h2 := motP_mono1 h (p + n); rw [show p + ((n + 1 : Nat) : Int) = p + n + 1 by omega]; omega
 have h1 := this (q - p).toNat p
 rw [show p + ((q - p).toNat : Int) = q by omega] at h1
 exact h1
theorem atL_seg : ∀ {l : List Sgm} {a : Pt} {i : Nat} {r : Int}, (∀ g ∈ l, 1 <= g.len) -> i < l.length -> 0 <= r -> r <= (sgA l i).len -> atL a l (posL l i + r) = midP (vertL a l i) (sgA l i) r
 | g :: l, a, 0, r, hg, _, h0, h1 => by
  have hl := hg g (by simp)
  have e : sgA (g :: l) 0 = g := rfl
  rw [e] at h1 ⊢
  rw [posL_zero, Int.zero_add, vert_zero]
  unfold atL
  by_cases c : r < g.len
  ·rw [if_pos c]
  ·have er : r = g.len := by omega
   rw [if_neg c, er, mid_full (by omega), show g.len - g.len = 0 by omega]
   exact atL_zero fun k hk => hg k (by simp [hk])
 | g :: l, a, i + 1, r, hg, hi, h0, h1 => by
  have hl := hg g (by simp)
  have hi' : i < l.length := by simpa using hi
  rw [sgA_cons] at h1 ⊢
  rw [vert_cons]
  have e : posL (g :: l) (i + 1) = g.len + posL l i := by unfold posL; rw [List.take_succ_cons]; rfl
  have hp : 0 <= posL l i := by
   have : ∀ (m : List Sgm), (∀ k ∈ m, 1 <= k.len) -> 0 <= sumLen m := by
    intro m hm
    induction m with
    | nil => simp [sumLen]
    | cons k m ih =>
     have := hm k (by simp)
     have := ih fun q hq => hm q (by simp [hq])
     simp only [sumLen]; omega
   exact this _ fun k hk => hg k (by simp [List.mem_of_mem_take hk])
  have ih := atL_seg (a := g.to) (i := i) (r := r) (fun k hk => hg k (by simp [hk])) hi' h0 h1
  show (if _ then _ else _) = _
  rw [e, if_neg (by omega), show g.len + posL l i + r - g.len = posL l i + r by omega]
  exact ih
def monoQ (p : Pth) (mv : Int) (s : Int) (d : Pt) : Prop :=
 ((d.x = 1 -> (atP p s).x <= (atP p (s + mv)).x) /\ (d.x = -1 -> (atP p (s + mv)).x <= (atP p s).x)) /\ ((d.y = 1 -> (atP p s).y <= (atP p (s + mv)).y) /\ (d.y = -1 -> (atP p (s + mv)).y <= (atP p s).y)) /\ ((d.z = 1 -> (atP p s).z <= (atP p (s + mv)).z) /\ (d.z = -1 -> (atP p (s + mv)).z <= (atP p s).z))
theorem near_dir {a b L r k mv n : Int} (hL : 0 < L) (hv : mv = 1 \/ mv = -1) (hk : k = r + mv) : (turn1 n a b mv = 1 -> a + near ((b - a) * r) L <= a + near ((b - a) * k) L) /\ (turn1 n a b mv = -1 -> a + near ((b - a) * k) L <= a + near ((b - a) * r) L) := by
 have up : ∀ x y : Int, x <= y -> a <= b -> near ((b - a) * x) L <= near ((b - a) * y) L := fun x y h1 h2 => near_mono hL (Int.mul_le_mul_of_nonneg_left h1 (by omega))
 have dn : ∀ x y : Int, x <= y -> b <= a -> near ((b - a) * y) L <= near ((b - a) * x) L := fun x y h1 h2 => near_mono hL (Int.mul_le_mul_of_nonpos_left (by omega) h1)
 unfold turn1
 have u1 := up r k
 have u2 := up k r
 have d1 := dn r k
 have d2 := dn k r
 generalize near ((b - a) * r) L = R at *
 generalize near ((b - a) * k) L = K at *
 rcases hv with rfl | rfl
 ·by_cases c1 : b > a
  ·rw [if_pos c1]; exact ⟨fun _ => by have := u1 (by omega) (by omega); omega, fun h => by omega⟩
  ·rw [if_neg c1]
   by_cases c2 : b < a
   ·rw [if_pos c2]; exact ⟨fun h => by omega, fun _ => by have := d1 (by omega) (by omega); omega⟩
   ·rw [if_neg c2]
    have e1 := u1 (by omega) (by omega)
    have e2 := d1 (by omega) (by omega)
    exact ⟨fun _ => by omega, fun _ => by omega⟩
 ·by_cases c1 : b > a
  ·rw [if_pos c1]; exact ⟨fun h => by omega, fun _ => by have := u2 (by omega) (by omega); omega⟩
  ·rw [if_neg c1]
   by_cases c2 : b < a
   ·rw [if_pos c2]; exact ⟨fun _ => by have := d2 (by omega) (by omega); omega, fun h => by omega⟩
   ·rw [if_neg c2]
    have e1 := u2 (by omega) (by omega)
    have e2 := d2 (by omega) (by omega)
    exact ⟨fun _ => by omega, fun _ => by omega⟩
theorem seg_mono {p : Pth} {mv : Int} (hp : GoodPath p) (hv : mv = 1 \/ mv = -1) : SegQ p mv (monoQ p mv) := by
 intro i hi d s h1 h2 h3 h4
 have hok := hp.ok
 have hg := hok.seg _ (sgA_mem hi)
 have hpos := posL_bd hok i (by omega)
 have hsucc := posL_succ hi
 have key : ∀ z, posL p.segs i <= z -> z <= posL p.segs (i + 1) -> atP p z = midP (vertL p.start p.segs i) (sgA p.segs i) (z - posL p.segs i) := by
  intro z z1 z2
  unfold atP
  rw [Int.max_eq_left (by omega)]
  have := atL_seg (a := p.start) (i := i) (r := z - posL p.segs i) (fun g hg => (hok.seg g hg).1) hi (by omega) (by omega)
  rw [show posL p.segs i + (z - posL p.segs i) = z by omega] at this
  exact this
 unfold monoQ
 rw [key s h1 h2, key (s + mv) h3 h4]
 generalize vertL p.start p.segs i = a at *
 generalize sgA p.segs i = g at *
 have hk : s + mv - posL p.segs i = (s - posL p.segs i) + mv := by omega
 unfold midP turnD
 simp only
 exact ⟨near_dir (by omega) hv hk, near_dir (by omega) hv hk, near_dir (by omega) hv hk⟩

theorem table_step {x : Ax3} {a : Axs} {f : Pt -> Int} {g : Int -> Int} {mv : Int} {Q : Int -> Pt -> Prop} {at_ s : Int} {d : Pt} {c : Pce} {l : List Pce} (hA : AxisOf x a f) (ha : AxOK a)
  (hQ : ∀ s d, Q s d -> (f d = 1 -> g s <= g (s + mv)) /\ (f d = -1 -> g (s + mv) <= g s)) (h : chain x mv Q at_ s d (c :: l)) (hv : mv = 1 \/ mv = -1) (hc : okD c.dirs) {u : Int} (hu : at_ <= u) (hu2 : u < at_ + c.units) :
  min (max (motP a (g (c.s + c.move * (u - c.at_)))) (motC a g f c (u + 1))) (motC a g f c (u + 1) + a.back) = motP a (g (c.s + c.move * (u + 1 - c.at_))) := by
 obtain ⟨hb, hf, hs⟩ := hA
 obtain ⟨h1, h2, h3, h4, -⟩ := h
 have f2 := hf c.dirs hc
 unfold motC
 rw [h1, h2]
 rcases h4 with ⟨k1, k2, k3, k4⟩ | ⟨k1, k2, k3⟩
 ·have hm : c.move ≠ 0 := by rcases hv with rfl | rfl <;> omega
  have hq := hQ _ _ (k4 (u - at_) (by omega) (by omega))
  have e : s + mv * (u - at_) + mv = s + mv * (u + 1 - at_) := by rcases hv with rfl | rfl <;> omega
  rw [e] at hq
  have hP : c.move ≠ 0 \/ f c.was = f c.dirs := .inl hm
  unfold shiftP dirP
  rw [if_pos hP, k1]
  rcases f2 with f2 | f2
  ·have := motP_mono ha (hq.1 f2)
   rw [f2, if_neg (by omega)]; omega
  ·have := motP_mono ha (hq.2 f2)
   rw [f2, if_pos rfl]; omega
 ·unfold shiftP dirP
  rw [k1, Int.zero_mul, Int.zero_mul, Int.add_zero]
  generalize motP a (g s) = M
  rw [show u + 1 - at_ = (u - at_) + 1 by omega]
  have hv0 : 0 <= u - at_ := by omega
  generalize u - at_ = v at *
  (repeat' split) <;> omega
theorem table_same {a : Axs} (hb : 0 <= a.back /\ a.back <= 1000) {M sh : Int} (hs : -a.back <= sh /\ sh <= 0) : min (max M (M + sh)) (M + sh + a.back) = M := by omega
theorem shift_in {a : Axs} (hb : 0 <= a.back /\ a.back <= 1000) {move at_ was dirs u : Int} (hu : 0 <= u - at_) : -a.back <= shiftP a move at_ was dirs u /\ shiftP a move at_ was dirs u <= 0 := by
 unfold shiftP dirP
 (repeat' split) <;> omega
theorem table_L {x : Ax3} {a : Axs} {f : Pt -> Int} {g : Int -> Int} {mv : Int} {Q : Int -> Pt -> Prop} (hA : AxisOf x a f) (ha : AxOK a) (hQ : ∀ s d, Q s d -> (f d = 1 -> g s <= g (s + mv)) /\ (f d = -1 -> g (s + mv) <= g s)) (hv : mv = 1 \/ mv = -1) : ∀ {at_ s : Int} {d : Pt} {l : List Pce}, chain x mv Q at_ s d l -> (∀ k ∈ l, okD k.dirs) -> ∀ u, at_ <= u -> u < endAt at_ l ->
  min (max (motP a (g (plL l u))) (motL a g f l (u + 1))) (motL a g f l (u + 1) + a.back) = motP a (g (plL l (u + 1)))
 | at_, s, d, [], h, _, u, h1, h2 => by simp only [endAt] at h2; omega
 | at_, s, d, c :: l, h, hk, u, hu1, hu2 => by
  have hc := hk c (by simp)
  have hat := h.1
  have h5 := h.2.2.2.2
  unfold motL plL
  by_cases c1 : u + 1 <= c.at_ + c.units
  ·rw [if_pos c1, if_pos c1, if_pos (by omega)]
   exact table_step hA ha hQ h hv hc hu1 (by omega)
  ·rw [if_neg c1, if_neg c1]
   by_cases c2 : u <= c.at_ + c.units
   ·rw [if_pos c2]
    have e : u = at_ + c.units := by omega
    cases l with
    | nil => simp only [endAt] at hu2; omega
    | cons c' l' =>
     have hc' := hk c' (by simp)
     have hst := table_step (u := at_ + c.units) hA ha hQ h5 hv hc' (Int.le_refl _) (by have := h5.2.2.1; omega)
     have h51 := h5.1
     have h52 := h5.2.1
     have h53 := h5.2.2.1
     have es : c.s + c.move * (u - c.at_) = c'.s + c'.move * (at_ + c.units - c'.at_) := by
      rw [h51, h52, h.2.1, e, hat, show at_ + c.units - at_ = c.units by omega, show at_ + c.units - (at_ + c.units) = 0 by omega, Int.mul_zero, Int.add_zero]
     unfold motL plL
     rw [if_pos (by omega), if_pos (by omega), es, e]; exact hst
   ·rw [if_neg c2]
    exact table_L hA ha hQ hv h5 (fun k hk' => hk k (by simp [hk'])) u (by omega) hu2
end Go.Bm
/- the law TrackTables, over the models -/
set_option maxRecDepth 100000
namespace Go.Bm
open Classical

def tabP (a : Axs) (w m : Int) : Int := min (max w m) (m + a.back)
theorem s_Table {a : Axs} (hb : 0 <= a.back /\ a.back <= 1000) {w m : Int} (hm : m.natAbs <= 3000000000) : m_backlash_Table (axsR a ++ [I w, I m]) = some [I (tabP a w m)] := by
 have he := mf_backlash_Table_eq a.step a.speed a.accel a.jerk a.low a.high a.back a.origin a.spacing (a.pitch.map intR) w m
 unfold m_backlash_Table
 refine Eq.trans he ?_
 rw [wrap_id (by omega), mn_eq, mx_eq]
 rfl
theorem tables_step {p : Pth} {x : Ax3} {t : Trk} {mv e u : Int} {d : Pt} (hp : GoodPath p) (hx : Ax3M x) (hv : mv = 1 \/ mv = -1) (hc : TC x mv (monoQ p mv) t e d) (ht : TQ t) (hk : ∀ k ∈ t.pieces, okD k.dirs) (hu : 0 <= u /\ u < t.length) :
  tabP x.a (nomP p x (placeP t u)).x (motorsP p x t (u + 1)).x = (nomP p x (placeP t (u + 1))).x /\ tabP x.b (nomP p x (placeP t u)).y (motorsP p x t (u + 1)).y = (nomP p x (placeP t (u + 1))).y /\ tabP x.c (nomP p x (placeP t u)).z (motorsP p x t (u + 1)).z = (nomP p x (placeP t (u + 1))).z := by
 obtain ⟨h1, h2, -, -⟩ := hc
 have hne : t.pieces ≠ [] := by
  intro c
  rw [c] at h2; simp only [endAt] at h2; omega
 have hcl : ∀ v, 0 <= v -> v <= t.length -> clT t v = v := by intro v g1 g2; unfold clT clampP; omega
 have hpl : ∀ v, 0 <= v -> v <= t.length -> placeP t v = plL t.pieces v := fun v g1 g2 => by rw [place_plL ht v hne, hcl v g1 g2]
 have hm : ∀ (a : Axs) (f : Pt -> Int) (g : Int -> Int) (v : Int), 0 <= v -> v <= t.length -> motP a (g (placeP t v)) + shT a t v f = motL a g f t.pieces v := by
  intro a f g v g1 g2
  have hi := iT_lt ht v hne
  have ei : iT t v = fI t.pieces v := by unfold iT; rw [hcl v g1 g2]
  unfold placeP shT
  rw [if_neg hne, if_neg hne, ei, hcl v g1 g2]
  rw [ei] at hi
  exact (motL_eq hi).symm
 have key : ∀ (a : Axs) (f : Pt -> Int) (g : Int -> Int), AxisOf x a f -> AxOK a -> (∀ s d, monoQ p mv s d -> (f d = 1 -> g s <= g (s + mv)) /\ (f d = -1 -> g (s + mv) <= g s)) -> tabP a (motP a (g (placeP t u))) (motP a (g (placeP t (u + 1))) + shT a t (u + 1) f) = motP a (g (placeP t (u + 1))) := by
  intro a f g hA ha hg
  rw [hm a f g (u + 1) (by omega) (by omega), hpl u hu.1 (by omega), hpl (u + 1) (by omega) (by omega)]
  exact table_L hA ha hg hv h1 hk u hu.1 (by rw [h2]; exact hu.2)
 exact ⟨key x.a Pt.x (fun s => (atP p s).x) (axis_x hx.ok) hx.a fun s d h => h.1, key x.b Pt.y (fun s => (atP p s).y) (axis_y hx.ok) hx.b fun s d h => h.2.1, key x.c Pt.z (fun s => (atP p s).z) (axis_z hx.ok) hx.c fun s d h => h.2.2⟩
theorem shT_in {a : Axs} (hb : 0 <= a.back /\ a.back <= 1000) {t : Trk} (h : TH t) (u : Int) (f : Pt -> Int) : -a.back <= shT a t u f /\ shT a t u f <= 0 := by
 unfold shT
 by_cases c : t.pieces = []
 ·rw [if_pos c]; unfold dirP; split <;> omega
 ·rw [if_neg c]
  exact shift_in hb (by have := (iT_at h.q h.at1 h.at0 u c).1; omega)
theorem tables_same {p : Pth} {x : Ax3} {t : Trk} (hx : Ax3M x) (ht : TH t) (u : Int) :
  tabP x.a (nomP p x (placeP t u)).x (motorsP p x t u).x = (nomP p x (placeP t u)).x /\ tabP x.b (nomP p x (placeP t u)).y (motorsP p x t u).y = (nomP p x (placeP t u)).y /\ tabP x.c (nomP p x (placeP t u)).z (motorsP p x t u).z = (nomP p x (placeP t u)).z :=
 ⟨table_same hx.ok.a (shT_in hx.ok.a ht u Pt.x), table_same hx.ok.b (shT_in hx.ok.b ht u Pt.y), table_same hx.ok.c (shT_in hx.ok.c ht u Pt.z)⟩
theorem a_TablesStep {MP MB MT MN MR MW : List AC -> Option (List AC)} {p : Pth} {x : Ax3} {t : Trk} {u : Int} {w : Pt} (hl : 0 <= t.length /\ t.length <= 900000000000000) (hu : 0 <= u /\ u <= t.length) (hT : MT (pthR p ++ ax3R x ++ trkR t ++ [I u]) = some (ptR (motorsP p x t u))) (hP : MP (trkR t ++ [I u]) = some [I (placeP t u)])
  (hN : MN (pthR p ++ ax3R x ++ [I (placeP t u)]) = some (ptR (nomP p x (placeP t u)))) (hB1 : MB (axsR x.a ++ [I w.x, I (motorsP p x t u).x]) = some [I (nomP p x (placeP t u)).x]) (hB2 : MB (axsR x.b ++ [I w.y, I (motorsP p x t u).y]) = some [I (nomP p x (placeP t u)).y]) (hB3 : MB (axsR x.c ++ [I w.z, I (motorsP p x t u).z]) = some [I (nomP p x (placeP t u)).z]) :
  st_cnclaw29_TrackTables_6 MP MB MT MN MR MW [I u, I p.start.x, I p.start.y, I p.start.z, .view kSgm (p.segs.map sgmR), .view kMrk (p.marks.map mrkR), I x.a.step, I x.a.speed, I x.a.accel, I x.a.jerk, I x.a.low, I x.a.high, I x.a.back, I x.a.origin, I x.a.spacing, .view kInts (x.a.pitch.map intR), I x.b.step, I x.b.speed, I x.b.accel, I x.b.jerk, I x.b.low, I x.b.high, I x.b.back, I x.b.origin, I x.b.spacing, .view kInts (x.b.pitch.map intR), I x.c.step, I x.c.speed, I x.c.accel, I x.c.jerk, I x.c.low, I x.c.high, I x.c.back, I x.c.origin, I x.c.spacing, .view kInts (x.c.pitch.map intR), .view kPce (t.pieces.map pceR), I t.length, I t.start, I t.dirs.x, I t.dirs.y, I t.dirs.z, I w.x, I w.y, I w.z] = some (0, [I (u + 1), I p.start.x, I p.start.y, I p.start.z, .view kSgm (p.segs.map sgmR), .view kMrk (p.marks.map mrkR), I x.a.step, I x.a.speed, I x.a.accel, I x.a.jerk, I x.a.low, I x.a.high, I x.a.back, I x.a.origin, I x.a.spacing, .view kInts (x.a.pitch.map intR), I x.b.step, I x.b.speed, I x.b.accel, I x.b.jerk, I x.b.low, I x.b.high, I x.b.back, I x.b.origin, I x.b.spacing, .view kInts (x.b.pitch.map intR), I x.c.step, I x.c.speed, I x.c.accel, I x.c.jerk, I x.c.low, I x.c.high, I x.c.back, I x.c.origin, I x.c.spacing, .view kInts (x.c.pitch.map intR), .view kPce (t.pieces.map pceR), I t.length, I t.start, I t.dirs.x, I t.dirs.y, I t.dirs.z, I (nomP p x (placeP t u)).x, I (nomP p x (placeP t u)).y, I (nomP p x (placeP t u)).z]) := by
 rw [st_cnclaw29_TrackTables_6_eq]
 simp only [trkR, ax3R, pthR, axsR, List.cons_append, List.nil_append] at hT hP hN hB1 hB2 hB3
 generalize motorsP p x t u = m at *
 generalize nomP p x (placeP t u) = q at *
 simp only [hT, hP, hN, hB1, hB2, hB3, go_sem, wrap_id (x := u + 1) (by omega)]
 rw [if_pos hu.2]
 simp
theorem l_Tables {MR MW : List AC -> Option (List AC)} {p : Pth} {x : Ax3} {t : Trk} (hp : GoodPath p) (hx : Ax3M x) (ht : TH t) (hs : ∀ u, 0 <= u -> u < t.length -> tabP x.a (nomP p x (placeP t u)).x (motorsP p x t (u + 1)).x = (nomP p x (placeP t (u + 1))).x /\ tabP x.b (nomP p x (placeP t u)).y (motorsP p x t (u + 1)).y = (nomP p x (placeP t (u + 1))).y /\ tabP x.c (nomP p x (placeP t u)).z (motorsP p x t (u + 1)).z = (nomP p x (placeP t (u + 1))).z) :
  ∀ (k : Nat) (u : Int), u + k = t.length + 1 -> 0 <= u -> ∀ w : Pt, (tabP x.a w.x (motorsP p x t u).x = (nomP p x (placeP t u)).x /\ tabP x.b w.y (motorsP p x t u).y = (nomP p x (placeP t u)).y /\ tabP x.c w.z (motorsP p x t u).z = (nomP p x (placeP t u)).z) ->
  loopC (st_cnclaw29_TrackTables_6 m_track_Place m_backlash_Table m_track_Motors m_cncref29_Nominal MR MW) [I u, I p.start.x, I p.start.y, I p.start.z, .view kSgm (p.segs.map sgmR), .view kMrk (p.marks.map mrkR), I x.a.step, I x.a.speed, I x.a.accel, I x.a.jerk, I x.a.low, I x.a.high, I x.a.back, I x.a.origin, I x.a.spacing, .view kInts (x.a.pitch.map intR), I x.b.step, I x.b.speed, I x.b.accel, I x.b.jerk, I x.b.low, I x.b.high, I x.b.back, I x.b.origin, I x.b.spacing, .view kInts (x.b.pitch.map intR), I x.c.step, I x.c.speed, I x.c.accel, I x.c.jerk, I x.c.low, I x.c.high, I x.c.back, I x.c.origin, I x.c.spacing, .view kInts (x.c.pitch.map intR), .view kPce (t.pieces.map pceR), I t.length, I t.start, I t.dirs.x, I t.dirs.y, I t.dirs.z, I w.x, I w.y, I w.z] = some (2, [])
 | 0, u, hi, _, w, _ => by
  refine loop_end (o := (2, _)) ?_ (by simp)
  rw [st_cnclaw29_TrackTables_6_eq, bif_neg (by omega)]
 | k + 1, u, hi, hu, w, hw => by
  have hpl := place_i64 ht.q u
  have hb := motors_bd hp hx ht u
  have hB1 := s_Table hx.ok.a (w := w.x) hb.1
  have hB2 := s_Table hx.ok.b (w := w.y) hb.2.1
  have hB3 := s_Table hx.ok.c (w := w.z) hb.2.2
  rw [hw.1] at hB1
  rw [hw.2.1] at hB2
  rw [hw.2.2] at hB3
  have hst := a_TablesStep (MR := MR) (MW := MW) (w := w) ht.q.len ⟨hu, by omega⟩ (s_Motors hp hx ht u) (s_Place ht.q u) (s_Nominal hp hx (by unfold i64; omega)) hB1 hB2 hB3
  rw [loop_more hst]
  by_cases c : u < t.length
  ·exact l_Tables hp hx ht hs k (u + 1) (by omega) (by omega) _ (hs u hu c)
  ·refine loop_end (o := (2, _)) ?_ (by simp)
   rw [st_cnclaw29_TrackTables_6_eq, bif_neg (by omega)]
theorem a_TrackTables {MP MB MT MN MR MW : List AC -> Option (List AC)} {N : List AC -> Option (Nat × List AC)} {l ax : List (List AC)} {dirs from_ to n : Int} {p : Pth} {x : Ax3} {t : Trk} (hW : MW [] = some [B true])
  (hR : MR [.view kInts l, .view kInts ax, I dirs, I from_, I to] = some (pthR p ++ ax3R x ++ trkR t ++ [I n])) (hN : MN (pthR p ++ ax3R x ++ [I t.start]) = some (ptR (nomP p x t.start)))
  (hL : N [I 0, I p.start.x, I p.start.y, I p.start.z, .view kSgm (p.segs.map sgmR), .view kMrk (p.marks.map mrkR), I x.a.step, I x.a.speed, I x.a.accel, I x.a.jerk, I x.a.low, I x.a.high, I x.a.back, I x.a.origin, I x.a.spacing, .view kInts (x.a.pitch.map intR), I x.b.step, I x.b.speed, I x.b.accel, I x.b.jerk, I x.b.low, I x.b.high, I x.b.back, I x.b.origin, I x.b.spacing, .view kInts (x.b.pitch.map intR), I x.c.step, I x.c.speed, I x.c.accel, I x.c.jerk, I x.c.low, I x.c.high, I x.c.back, I x.c.origin, I x.c.spacing, .view kInts (x.c.pitch.map intR), .view kPce (t.pieces.map pceR), I t.length, I t.start, I t.dirs.x, I t.dirs.y, I t.dirs.z, I (nomP p x t.start).x, I (nomP p x t.start).y, I (nomP p x t.start).z] = some (2, [])) :
  mf_cnclaw29_TrackTables MP MB MT MN MR MW N [.view kInts l, .view kInts ax, I dirs, I from_, I to] = some [B true] := by
 rw [mf_cnclaw29_TrackTables_eq]
 simp only [trkR, ax3R, pthR, List.cons_append, List.nil_append] at *
 simp only [go_sem, hW, hR, hN, hL]
 simp
theorem s_TrackTables {l ax : List (List AC)} (hl : Src l) (ha : Src ax) {dirs from_ to : Int} (h2 : i64 dirs) (h3 : i64 from_) (h4 : i64 to) :
  m_cnclaw29_TrackTables [.view kInts l, .view kInts ax, I dirs, I from_, I to] = some [B true] := by
 obtain ⟨p, x, d, a, b, hr, hp, hx, hd⟩ := s_run hl ha h2 h3 h4
 have ht := legP_TH d a b hx.ok hp
 have hlen := ht.q.len
 have hst := ht.q.start
 have hv := mvP_or p a b
 obtain ⟨d', hc, -, hdd⟩ := legP_chain (d := d) (a := a) (b := b) hx.ok hp (seg_mono hp hv)
 have hk := legP_dirs (p := p) (x := x) (a := a) (b := b) (d := d) hd
 have hs : ∀ u, 0 <= u -> u < (legP p x d a b).length -> _ := fun u g1 g2 => tables_step hp hx hv hc ht.q hk ⟨g1, g2⟩
 have h0 : placeP (legP p x d a b) 0 = (legP p x d a b).start := by
  have hcl : clT (legP p x d a b) 0 = 0 := by unfold clT clampP; omega
  by_cases c : (legP p x d a b).pieces = []
  ·unfold placeP; rw [if_pos c]
  ·rw [place_plL ht.q _ c, hcl]
   have h1 := hc.ch
   cases hh : (legP p x d a b).pieces with
   | nil => exact absurd hh c
   | cons k l =>
    rw [hh] at h1
    obtain ⟨g1, g2, g3, -⟩ := h1
    unfold plL
    rw [if_pos (by omega), g1, g2]; simp
 have hw := tables_same (p := p) hx ht 0
 rw [h0] at hw
 refine a_TrackTables (MP := m_track_Place) (MB := m_backlash_Table) (MT := m_track_Motors) m_cnclaw29_awake_eq hr (s_Nominal hp hx (by unfold i64; omega)) ?_
 have := l_Tables (MR := m_cnclaw29_run) (MW := m_cnclaw29_awake) hp hx ht hs ((legP p x d a b).length.toNat + 1) 0 (by omega) (by omega) (nomP p x (legP p x d a b).start) (by rw [h0]; exact hw)
 exact this
end Go.Bm
/- what a law's arguments are known to be -/
set_option maxRecDepth 100000
namespace Go.Bm

theorem okR_int {r : List AC} (h : okR kInts r) : i64 (intOf (nth .dead r 0)) := by
 match r, h with
 | [], h => exact h.elim
 | a :: _, h => exact okC_int h.1
theorem okR_src {r : List AC} (h : okR [Kd.sl kInts] r) : Src (rowsOf (nth .dead r 0)) := by
 match r, h with
 | [], h => exact h.elim
 | a :: _, h =>
  have h1 := h.1
  unfold okC at h1
  refine ⟨?_, fun c hc => okR_int (h1.2 c hc).1⟩
  have h2 := h1.1
  simp only [maxLen] at h2
  show (rowsOf a).length <= _
  omega
end Go.Bm
