/- laid together -/
import Derived.Test.YtdllaekpkcanbaaGreatPrMo
import Derived.Test.YtdllaekpkcanbaaGreatMy1
import Derived.Test.YtdllaekpkcanbaaGreatPrH
set_option linter.unusedVariables false
set_option linter.unusedSimpArgs false
/- the motors of a track: by the reference and by the program; the law TrackMotors -/
set_option maxRecDepth 100000
namespace Go.Bm
open Classical

def dirP (a : Axs) (d : Int) : Int := if d = -1 then -a.back else 0
def shiftP (a : Axs) (move at_ was dirs u : Int) : Int := if move ≠ 0 \/ was = dirs then dirP a dirs else if dirs = -1 then -min (u - at_) a.back else min (u - at_) a.back - a.back
theorem s_refShift {a : Axs} (hb : 0 <= a.back /\ a.back <= 1000) (v : Int) : m_cncref28_Shift (axsR a ++ [I v]) = some [I (dirP a v)] := by
 have he := mf_cncref28_Shift_eq a.step a.speed a.accel a.jerk a.low a.high a.back a.origin a.spacing (a.pitch.map intR) v
 unfold m_cncref28_Shift
 refine Eq.trans he ?_
 unfold dirP
 by_cases c : v = -1
 ·rw [bif_true (by simp [c]), if_pos c, wrap_id (by omega)]
  congr 3; omega
 ·rw [bif_false (by simp [c]), if_neg c]
theorem s_bShift {a : Axs} (hb : 0 <= a.back /\ a.back <= 1000) (v : Int) : m_backlash_Shift (axsR a ++ [I v]) = some [I (dirP a v)] := by
 have he := mf_backlash_Shift_eq a.step a.speed a.accel a.jerk a.low a.high a.back a.origin a.spacing (a.pitch.map intR) v
 unfold m_backlash_Shift
 refine Eq.trans he ?_
 unfold dirP
 by_cases c : v = -1
 ·rw [bif_true (by simp [c]), if_pos c, wrap_id (by omega)]
  congr 3; omega
 ·rw [bif_false (by simp [c]), if_neg c]
theorem a_refsh0 {M : List AC -> Option (List AC)} {a : Axs} {c : Pce} {u : Int} (hM : ∀ v : Int, M (axsR a ++ [I v]) = some [I (dirP a v)]) (hb : 0 <= a.back /\ a.back <= 1000) (hu : 0 <= u - c.at_ /\ u - c.at_ <= 2000000000000000) :
  mf_cncref29_shift M (axsR a ++ pceR c ++ [I 0, I u]) = some [I (shiftP a c.move c.at_ c.was.x c.dirs.x u)] := by
 have he := mf_cncref29_shift_eq M a.step a.speed a.accel a.jerk a.low a.high a.back a.origin a.spacing (a.pitch.map intR) c.at_ c.units c.s c.move c.was.x c.was.y c.was.z c.dirs.x c.dirs.y c.dirs.z 0 u
 refine Eq.trans he ?_
 have hm0 := hM c.dirs.x
 simp only [axsR, List.cons_append, List.nil_append] at hm0
 have e1 : IntKind.i64.wrap (0 + 1) = 1 := rfl
 have e2 : IntKind.i64.wrap (1 + 1) = 2 := rfl
 have w1 : IntKind.i64.wrap (u - c.at_) = u - c.at_ := wrap_id (by omega)
 have w2 : IntKind.i64.wrap (0 - min (u - c.at_) a.back) = -min (u - c.at_) a.back := by rw [wrap_id (by omega)]; omega
 have w3 : IntKind.i64.wrap (min (u - c.at_) a.back - a.back) = min (u - c.at_) a.back - a.back := wrap_id (by omega)
 unfold shiftP
 simp only [go_sem, e1, e2, mn_eq, w1, w2, w3, Nat.reduceAdd, Int.cast_ofNat_Int, Int.natCast_zero, Int.natCast_one, Int.reduceEq, hm0]
 by_cases c1 : c.move = 0
 ·by_cases c2 : c.was.x = c.dirs.x
  ·simp [c1, c2]
  ·by_cases c3 : c.dirs.x = -1
   ·simp [c1, c3, show c.was.x ≠ -1 from fun e => c2 (by rw [e, c3])]
   ·simp [c1, c2, c3]
 ·simp [c1]
theorem a_refsh1 {M : List AC -> Option (List AC)} {a : Axs} {c : Pce} {u : Int} (hM : ∀ v : Int, M (axsR a ++ [I v]) = some [I (dirP a v)]) (hb : 0 <= a.back /\ a.back <= 1000) (hu : 0 <= u - c.at_ /\ u - c.at_ <= 2000000000000000) :
  mf_cncref29_shift M (axsR a ++ pceR c ++ [I (IntKind.i64.wrap (0 + 1)), I u]) = some [I (shiftP a c.move c.at_ c.was.y c.dirs.y u)] := by
 have he := mf_cncref29_shift_eq M a.step a.speed a.accel a.jerk a.low a.high a.back a.origin a.spacing (a.pitch.map intR) c.at_ c.units c.s c.move c.was.x c.was.y c.was.z c.dirs.x c.dirs.y c.dirs.z (IntKind.i64.wrap (0 + 1)) u
 refine Eq.trans he ?_
 have hm0 := hM c.dirs.y
 simp only [axsR, List.cons_append, List.nil_append] at hm0
 have e1 : IntKind.i64.wrap (0 + 1) = 1 := rfl
 have e2 : IntKind.i64.wrap (1 + 1) = 2 := rfl
 have w1 : IntKind.i64.wrap (u - c.at_) = u - c.at_ := wrap_id (by omega)
 have w2 : IntKind.i64.wrap (0 - min (u - c.at_) a.back) = -min (u - c.at_) a.back := by rw [wrap_id (by omega)]; omega
 have w3 : IntKind.i64.wrap (min (u - c.at_) a.back - a.back) = min (u - c.at_) a.back - a.back := wrap_id (by omega)
 unfold shiftP
 simp only [go_sem, e1, e2, mn_eq, w1, w2, w3, Nat.reduceAdd, Int.cast_ofNat_Int, Int.natCast_zero, Int.natCast_one, Int.reduceEq, hm0]
 by_cases c1 : c.move = 0
 ·by_cases c2 : c.was.y = c.dirs.y
  ·simp [c1, c2]
  ·by_cases c3 : c.dirs.y = -1
   ·simp [c1, c3, show c.was.y ≠ -1 from fun e => c2 (by rw [e, c3])]
   ·simp [c1, c2, c3]
 ·simp [c1]
theorem a_refsh2 {M : List AC -> Option (List AC)} {a : Axs} {c : Pce} {u : Int} (hM : ∀ v : Int, M (axsR a ++ [I v]) = some [I (dirP a v)]) (hb : 0 <= a.back /\ a.back <= 1000) (hu : 0 <= u - c.at_ /\ u - c.at_ <= 2000000000000000) :
  mf_cncref29_shift M (axsR a ++ pceR c ++ [I (IntKind.i64.wrap (IntKind.i64.wrap (0 + 1) + 1)), I u]) = some [I (shiftP a c.move c.at_ c.was.z c.dirs.z u)] := by
 have he := mf_cncref29_shift_eq M a.step a.speed a.accel a.jerk a.low a.high a.back a.origin a.spacing (a.pitch.map intR) c.at_ c.units c.s c.move c.was.x c.was.y c.was.z c.dirs.x c.dirs.y c.dirs.z (IntKind.i64.wrap (IntKind.i64.wrap (0 + 1) + 1)) u
 refine Eq.trans he ?_
 have hm0 := hM c.dirs.z
 simp only [axsR, List.cons_append, List.nil_append] at hm0
 have e1 : IntKind.i64.wrap (0 + 1) = 1 := rfl
 have e2 : IntKind.i64.wrap (1 + 1) = 2 := rfl
 have w1 : IntKind.i64.wrap (u - c.at_) = u - c.at_ := wrap_id (by omega)
 have w2 : IntKind.i64.wrap (0 - min (u - c.at_) a.back) = -min (u - c.at_) a.back := by rw [wrap_id (by omega)]; omega
 have w3 : IntKind.i64.wrap (min (u - c.at_) a.back - a.back) = min (u - c.at_) a.back - a.back := wrap_id (by omega)
 unfold shiftP
 simp only [go_sem, e1, e2, mn_eq, w1, w2, w3, Nat.reduceAdd, Int.cast_ofNat_Int, Int.natCast_zero, Int.natCast_one, Int.reduceEq, hm0]
 by_cases c1 : c.move = 0
 ·by_cases c2 : c.was.z = c.dirs.z
  ·simp [c1, c2]
  ·by_cases c3 : c.dirs.z = -1
   ·simp [c1, c3, show c.was.z ≠ -1 from fun e => c2 (by rw [e, c3])]
   ·simp [c1, c2, c3]
 ·simp [c1]
theorem a_sh0 {M : List AC -> Option (List AC)} {a : Axs} {c : Pce} {u : Int} (hM : ∀ v : Int, M (axsR a ++ [I v]) = some [I (dirP a v)]) (hb : 0 <= a.back /\ a.back <= 1000) (hu : 0 <= u - c.at_ /\ u - c.at_ <= 2000000000000000) :
  mf_track_shift M (axsR a ++ pceR c ++ [I 0, I u]) = some [I (shiftP a c.move c.at_ c.was.x c.dirs.x u)] := by
 have he := mf_track_shift_eq M a.step a.speed a.accel a.jerk a.low a.high a.back a.origin a.spacing (a.pitch.map intR) c.at_ c.units c.s c.move c.was.x c.was.y c.was.z c.dirs.x c.dirs.y c.dirs.z 0 u
 refine Eq.trans he ?_
 have hm0 := hM c.dirs.x
 simp only [axsR, List.cons_append, List.nil_append] at hm0
 have e1 : IntKind.i64.wrap (0 + 1) = 1 := rfl
 have e2 : IntKind.i64.wrap (1 + 1) = 2 := rfl
 have w1 : IntKind.i64.wrap (u - c.at_) = u - c.at_ := wrap_id (by omega)
 have w2 : IntKind.i64.wrap (0 - min (u - c.at_) a.back) = -min (u - c.at_) a.back := by rw [wrap_id (by omega)]; omega
 have w3 : IntKind.i64.wrap (min (u - c.at_) a.back - a.back) = min (u - c.at_) a.back - a.back := wrap_id (by omega)
 unfold shiftP
 simp only [go_sem, e1, e2, mn_eq, w1, w2, w3, Nat.reduceAdd, Int.cast_ofNat_Int, Int.natCast_zero, Int.natCast_one, Int.reduceEq, hm0]
 by_cases c1 : c.move = 0
 ·by_cases c2 : c.was.x = c.dirs.x
  ·simp [c1, c2]
  ·by_cases c3 : c.dirs.x = -1
   ·simp [c1, c3, show c.was.x ≠ -1 from fun e => c2 (by rw [e, c3])]
   ·simp [c1, c2, c3]
 ·simp [c1]
theorem a_sh1 {M : List AC -> Option (List AC)} {a : Axs} {c : Pce} {u : Int} (hM : ∀ v : Int, M (axsR a ++ [I v]) = some [I (dirP a v)]) (hb : 0 <= a.back /\ a.back <= 1000) (hu : 0 <= u - c.at_ /\ u - c.at_ <= 2000000000000000) :
  mf_track_shift M (axsR a ++ pceR c ++ [I (IntKind.i64.wrap (0 + 1)), I u]) = some [I (shiftP a c.move c.at_ c.was.y c.dirs.y u)] := by
 have he := mf_track_shift_eq M a.step a.speed a.accel a.jerk a.low a.high a.back a.origin a.spacing (a.pitch.map intR) c.at_ c.units c.s c.move c.was.x c.was.y c.was.z c.dirs.x c.dirs.y c.dirs.z (IntKind.i64.wrap (0 + 1)) u
 refine Eq.trans he ?_
 have hm0 := hM c.dirs.y
 simp only [axsR, List.cons_append, List.nil_append] at hm0
 have e1 : IntKind.i64.wrap (0 + 1) = 1 := rfl
 have e2 : IntKind.i64.wrap (1 + 1) = 2 := rfl
 have w1 : IntKind.i64.wrap (u - c.at_) = u - c.at_ := wrap_id (by omega)
 have w2 : IntKind.i64.wrap (0 - min (u - c.at_) a.back) = -min (u - c.at_) a.back := by rw [wrap_id (by omega)]; omega
 have w3 : IntKind.i64.wrap (min (u - c.at_) a.back - a.back) = min (u - c.at_) a.back - a.back := wrap_id (by omega)
 unfold shiftP
 simp only [go_sem, e1, e2, mn_eq, w1, w2, w3, Nat.reduceAdd, Int.cast_ofNat_Int, Int.natCast_zero, Int.natCast_one, Int.reduceEq, hm0]
 by_cases c1 : c.move = 0
 ·by_cases c2 : c.was.y = c.dirs.y
  ·simp [c1, c2]
  ·by_cases c3 : c.dirs.y = -1
   ·simp [c1, c3, show c.was.y ≠ -1 from fun e => c2 (by rw [e, c3])]
   ·simp [c1, c2, c3]
 ·simp [c1]
theorem a_sh2 {M : List AC -> Option (List AC)} {a : Axs} {c : Pce} {u : Int} (hM : ∀ v : Int, M (axsR a ++ [I v]) = some [I (dirP a v)]) (hb : 0 <= a.back /\ a.back <= 1000) (hu : 0 <= u - c.at_ /\ u - c.at_ <= 2000000000000000) :
  mf_track_shift M (axsR a ++ pceR c ++ [I (IntKind.i64.wrap (IntKind.i64.wrap (0 + 1) + 1)), I u]) = some [I (shiftP a c.move c.at_ c.was.z c.dirs.z u)] := by
 have he := mf_track_shift_eq M a.step a.speed a.accel a.jerk a.low a.high a.back a.origin a.spacing (a.pitch.map intR) c.at_ c.units c.s c.move c.was.x c.was.y c.was.z c.dirs.x c.dirs.y c.dirs.z (IntKind.i64.wrap (IntKind.i64.wrap (0 + 1) + 1)) u
 refine Eq.trans he ?_
 have hm0 := hM c.dirs.z
 simp only [axsR, List.cons_append, List.nil_append] at hm0
 have e1 : IntKind.i64.wrap (0 + 1) = 1 := rfl
 have e2 : IntKind.i64.wrap (1 + 1) = 2 := rfl
 have w1 : IntKind.i64.wrap (u - c.at_) = u - c.at_ := wrap_id (by omega)
 have w2 : IntKind.i64.wrap (0 - min (u - c.at_) a.back) = -min (u - c.at_) a.back := by rw [wrap_id (by omega)]; omega
 have w3 : IntKind.i64.wrap (min (u - c.at_) a.back - a.back) = min (u - c.at_) a.back - a.back := wrap_id (by omega)
 unfold shiftP
 simp only [go_sem, e1, e2, mn_eq, w1, w2, w3, Nat.reduceAdd, Int.cast_ofNat_Int, Int.natCast_zero, Int.natCast_one, Int.reduceEq, hm0]
 by_cases c1 : c.move = 0
 ·by_cases c2 : c.was.z = c.dirs.z
  ·simp [c1, c2]
  ·by_cases c3 : c.dirs.z = -1
   ·simp [c1, c3, show c.was.z ≠ -1 from fun e => c2 (by rw [e, c3])]
   ·simp [c1, c2, c3]
 ·simp [c1]

theorem shiftP_bd {a : Axs} (hb : 0 <= a.back /\ a.back <= 1000) {move at_ was dirs u : Int} (hu : 0 <= u - at_) : -1000 <= shiftP a move at_ was dirs u /\ shiftP a move at_ was dirs u <= 1000 := by
 unfold shiftP dirP
 (repeat' split) <;> omega
theorem midP_bd {a : Pt} {g : Sgm} {d : Int} (ha : bd B26 a) (hg : 1 <= g.len /\ g.len <= 268435456 /\ bd B26 g.to) (hd : 0 <= d /\ d <= g.len) : bd 201326592 (midP a g d) := by
 have key : ∀ u v : Int, u.natAbs <= B26 -> v.natAbs <= B26 -> (v + near ((u - v) * d) g.len).natAbs <= 201326592 := by
  intro u v hu hv
  have h1 := sub_nat hu hv
  have h2 := mid_bd2 (D := u - v) (L := g.len) (d := d) (by omega) (Nat.le_trans h1 (by decide)) hd
  have h3 : v.natAbs <= 67108864 := hv
  omega
 exact ⟨key _ _ hg.2.2.1 ha.1, key _ _ hg.2.2.2.1 ha.2.1, key _ _ hg.2.2.2.2 ha.2.2⟩
theorem atP_bd {p : Pth} (h : GoodPath p) (s : Int) : bd 201326592 (atP p s) := by
 unfold atP
 by_cases c : p.segs = []
 ·rw [c]; exact bd_mono h.start (by decide)
 ·have hok := h.ok
  obtain ⟨f1, f2, f3, f4⟩ := find_at (l := p.segs) (a := p.start) (s := max s 0) c (fun g hg => (hok.seg g hg).1) (by omega)
  rw [f4]
  exact midP_bd (vert_bd h.start hok f1) (hok.seg _ (sgA_mem f1)) ⟨f2, f3⟩
theorem motP_bd {a : Axs} (h : AxOK a) {p : Int} (hp : okB p) : (motP a p).natAbs <= 2000000000 := by
 have hb := corP_bd h p
 have hs := h.step
 unfold okB at hp
 unfold motP
 refine near_bd (by omega) ?_
 have e : ((2000000000 : Nat) : Int) = 2000000000 := rfl
 rw [e]; omega
def shT (a : Axs) (t : Trk) (u : Int) (f : Pt -> Int) : Int := if t.pieces = [] then dirP a (f t.dirs) else shiftP a (pcA t.pieces (iT t u)).move (pcA t.pieces (iT t u)).at_ (f (pcA t.pieces (iT t u)).was) (f (pcA t.pieces (iT t u)).dirs) (clT t u)
def nomP (p : Pth) (x : Ax3) (s : Int) : Pt := ⟨motP x.a (atP p s).x, motP x.b (atP p s).y, motP x.c (atP p s).z⟩
def motorsP (p : Pth) (x : Ax3) (t : Trk) (u : Int) : Pt :=
 ⟨(nomP p x (placeP t u)).x + shT x.a t u Pt.x, (nomP p x (placeP t u)).y + shT x.b t u Pt.y, (nomP p x (placeP t u)).z + shT x.c t u Pt.z⟩
theorem iT_at {t : Trk} (h : TQ t) (hch : ∀ i, i + 1 < t.pieces.length -> (pcA t.pieces (i + 1)).at_ = eI t.pieces i) (h0 : t.pieces ≠ [] -> (pcA t.pieces 0).at_ = 0) (u : Int) (hne : t.pieces ≠ []) : (pcA t.pieces (iT t u)).at_ <= clT t u /\ (0 < iT t u -> (pcA t.pieces (iT t u)).at_ < clT t u) := by
 have hi := iT_lt h u hne
 have hc := clT_bd h u
 by_cases c : iT t u = 0
 ·rw [c, h0 hne]; exact ⟨hc.1, fun g => absurd g (by omega)⟩
 ·obtain ⟨j, hj⟩ : ∃ j, iT t u = j + 1 := ⟨iT t u - 1, by omega⟩
  rw [hj] at hi ⊢
  rw [hch j hi]
  have : ¬ clT t u <= eI t.pieces j := by
   intro g
   have := fI_lt (show j < t.pieces.length by omega) g
   unfold iT at hj; omega
  exact ⟨by omega, fun _ => by omega⟩
theorem clT_idem {t : Trk} (h : TQ t) (u : Int) : clT t (clT t u) = clT t u := by have := h.len; unfold clT clampP; omega
theorem place_clT {t : Trk} (h : TQ t) (u : Int) : placeP t (clT t u) = placeP t u := by unfold placeP iT; rw [clT_idem h]
theorem place_i64 {t : Trk} (h : TQ t) (u : Int) : -3000000000000000 <= placeP t u /\ placeP t u <= 3000000000000000 := by
 unfold placeP
 by_cases c : t.pieces = []
 ·rw [if_pos c]; have := h.start; omega
 ·have hi := iT_lt h u c
  have h1 := h.pos _ hi
  have h2 := h.s _ hi
  have h3 := h.move _ hi
  have h4 := clT_bd h u
  have h5 := h.len
  rw [if_neg c]
  unfold eI at h1
  rcases h3 with h3 | h3 | h3 <;> rw [h3] <;> omega
theorem okB_at {p : Pth} (h : GoodPath p) (s : Int) : okB (atP p s).x /\ okB (atP p s).y /\ okB (atP p s).z := by
 obtain ⟨h1, h2, h3⟩ := atP_bd h s
 unfold okB; omega
theorem a_Nominal {MM MA : List AC -> Option (List AC)} {p : Pth} {x : Ax3} (hp : GoodPath p) (hx : Ax3M x) {s : Int} (hA : MA (pthR p ++ [I s]) = some (ptR (atP p s))) (hM : ∀ {a : Axs} {q : Int}, AxOK a -> okB q -> MM (axsR a ++ [I q]) = some [I (motP a q)]) :
  mf_cncref29_Nominal MM MA (pthR p ++ ax3R x ++ [I s]) = some (ptR (nomP p x s)) := by
 have he := mf_cncref29_Nominal_eq MM MA p.start.x p.start.y p.start.z (p.segs.map sgmR) (p.marks.map mrkR) x.a.step x.a.speed x.a.accel x.a.jerk x.a.low x.a.high x.a.back x.a.origin x.a.spacing (x.a.pitch.map intR) x.b.step x.b.speed x.b.accel x.b.jerk x.b.low x.b.high x.b.back x.b.origin x.b.spacing (x.b.pitch.map intR) x.c.step x.c.speed x.c.accel x.c.jerk x.c.low x.c.high x.c.back x.c.origin x.c.spacing (x.c.pitch.map intR) s
 refine Eq.trans he ?_
 obtain ⟨o1, o2, o3⟩ := okB_at hp s
 have m1 := hM hx.a o1
 have m2 := hM hx.b o2
 have m3 := hM hx.c o3
 simp only [pthR, axsR, List.cons_append, List.nil_append] at hA m1 m2 m3
 simp only [hA, go_sem, m1, m2, m3]
 rfl
theorem s_Nominal {p : Pth} {x : Ax3} (hp : GoodPath p) (hx : Ax3M x) {s : Int} (hs : i64 s) : m_cncref29_Nominal (pthR p ++ ax3R x ++ [I s]) = some (ptR (nomP p x s)) := a_Nominal hp hx (s_ref_At hp hs) fun h1 h2 => s_refMotor h1 h2
structure TH (t : Trk) : Prop where
 q : TQ t
 at0 : t.pieces ≠ [] -> (pcA t.pieces 0).at_ = 0
 at1 : ∀ i, i + 1 < t.pieces.length -> (pcA t.pieces (i + 1)).at_ = eI t.pieces i
theorem shT_bd {a : Axs} (hb : 0 <= a.back /\ a.back <= 1000) {t : Trk} (h : TH t) (u : Int) (f : Pt -> Int) : -1000 <= shT a t u f /\ shT a t u f <= 1000 := by
 unfold shT
 by_cases c : t.pieces = []
 ·rw [if_pos c]; unfold dirP; split <;> omega
 ·rw [if_neg c]
  exact shiftP_bd hb (by have := (iT_at h.q h.at1 h.at0 u c).1; omega)
theorem a_refMotors {MS MD MP MN ML : List AC -> Option (List AC)} {p : Pth} {x : Ax3} {t : Trk} {u : Int} (hp : GoodPath p) (hx : Ax3M x) (ht : TH t) (hL : ML (trkR t ++ [I u]) = some [I (placeP t u)]) (hN : MN (pthR p ++ ax3R x ++ [I (placeP t u)]) = some (ptR (nomP p x (placeP t u))))
  (hP : MP (trkR t ++ [I u]) = some [I (if t.pieces = [] then -1 else (iT t u : Int)), I (clT t u)]) (hD : ∀ {a : Axs} (v : Int), (0 <= a.back /\ a.back <= 1000) -> MD (axsR a ++ [I v]) = some [I (dirP a v)])
  (h0 : ∀ {a : Axs} {c : Pce} {u : Int}, (0 <= a.back /\ a.back <= 1000) -> (0 <= u - c.at_ /\ u - c.at_ <= 2000000000000000) -> MS (axsR a ++ pceR c ++ [I 0, I u]) = some [I (shiftP a c.move c.at_ c.was.x c.dirs.x u)])
  (h1 : ∀ {a : Axs} {c : Pce} {u : Int}, (0 <= a.back /\ a.back <= 1000) -> (0 <= u - c.at_ /\ u - c.at_ <= 2000000000000000) -> MS (axsR a ++ pceR c ++ [I (IntKind.i64.wrap (0 + 1)), I u]) = some [I (shiftP a c.move c.at_ c.was.y c.dirs.y u)])
  (h2 : ∀ {a : Axs} {c : Pce} {u : Int}, (0 <= a.back /\ a.back <= 1000) -> (0 <= u - c.at_ /\ u - c.at_ <= 2000000000000000) -> MS (axsR a ++ pceR c ++ [I (IntKind.i64.wrap (IntKind.i64.wrap (0 + 1) + 1)), I u]) = some [I (shiftP a c.move c.at_ c.was.z c.dirs.z u)]) :
  mf_cncref29_Motors MS MD MP MN ML (pthR p ++ ax3R x ++ trkR t ++ [I u]) = some (ptR (motorsP p x t u)) := by
 have he := mf_cncref29_Motors_eq MS MD MP MN ML p.start.x p.start.y p.start.z (p.segs.map sgmR) (p.marks.map mrkR) x.a.step x.a.speed x.a.accel x.a.jerk x.a.low x.a.high x.a.back x.a.origin x.a.spacing (x.a.pitch.map intR) x.b.step x.b.speed x.b.accel x.b.jerk x.b.low x.b.high x.b.back x.b.origin x.b.spacing (x.b.pitch.map intR) x.c.step x.c.speed x.c.accel x.c.jerk x.c.low x.c.high x.c.back x.c.origin x.c.spacing (x.c.pitch.map intR) (t.pieces.map pceR) t.length t.start t.dirs.x t.dirs.y t.dirs.z u
 refine Eq.trans he ?_
 obtain ⟨o1, o2, o3⟩ := okB_at hp (placeP t u)
 have b1 := motP_bd hx.a o1
 have b2 := motP_bd hx.b o2
 have b3 := motP_bd hx.c o3
 have s1 := shT_bd hx.ok.a ht u Pt.x
 have s2 := shT_bd hx.ok.b ht u Pt.y
 have s3 := shT_bd hx.ok.c ht u Pt.z
 unfold motorsP nomP
 unfold nomP at hN
 generalize motP x.a (atP p (placeP t u)).x = q1 at *
 generalize motP x.b (atP p (placeP t u)).y = q2 at *
 generalize motP x.c (atP p (placeP t u)).z = q3 at *
 have w1 : IntKind.i64.wrap (q1 + shT x.a t u Pt.x) = q1 + shT x.a t u Pt.x := wrap_id (by omega)
 have w2 : IntKind.i64.wrap (q2 + shT x.b t u Pt.y) = q2 + shT x.b t u Pt.y := wrap_id (by omega)
 have w3 : IntKind.i64.wrap (q3 + shT x.c t u Pt.z) = q3 + shT x.c t u Pt.z := wrap_id (by omega)
 by_cases c : t.pieces = []
 ·have d1 := hD t.dirs.x hx.ok.a
  have d2 := hD t.dirs.y hx.ok.b
  have d3 := hD t.dirs.z hx.ok.c
  unfold shT at *
  rw [if_pos c] at hP w1 w2 w3 ⊢
  simp only [if_pos c] at w1 w2 w3 ⊢
  simp only [pthR, trkR, ax3R, axsR, List.cons_append, List.nil_append] at hL hN hP d1 d2 d3
  simp only [hL, hN, hP, go_sem, d1, d2, d3, w1, w2, w3]
  rw [if_pos (by omega), if_pos (by omega), if_pos (by omega)]
 ·have hi := iT_lt ht.q u c
  have hcnt := ht.q.count
  have hat := (iT_at ht.q ht.at1 ht.at0 u c).1
  have hcl := clT_bd ht.q u
  have hlen := ht.q.len
  have hpos := ht.q.pos _ hi
  have hin : (0 : Int) <= (iT t u : Int) /\ (iT t u : Int) < (t.pieces.length : Int) := by omega
  have hneg : ¬ ((iT t u : Int) < 0) := by omega
  have d1 := h0 (c := pcA t.pieces (iT t u)) (u := clT t u) hx.ok.a (by omega)
  have d2 := h1 (c := pcA t.pieces (iT t u)) (u := clT t u) hx.ok.b (by omega)
  have d3 := h2 (c := pcA t.pieces (iT t u)) (u := clT t u) hx.ok.c (by omega)
  unfold shT at *
  rw [if_neg c] at hP
  simp only [if_neg c] at w1 w2 w3 ⊢
  simp only [pthR, trkR, ax3R, axsR, pceR, List.cons_append, List.nil_append] at hL hN hP d1 d2 d3
  simp only [hL, hN, hP, go_sem, List.length_map, if_pos hin, Int.toNat_natCast, row_pcA hi, if_neg hneg, d1, d2, d3, w1, w2, w3]
theorem s_refMotors {p : Pth} {x : Ax3} {t : Trk} (hp : GoodPath p) (hx : Ax3M x) (ht : TH t) (u : Int) : m_cncref29_Motors (pthR p ++ ax3R x ++ trkR t ++ [I u]) = some (ptR (motorsP p x t u)) := by
 have hs := place_i64 ht.q u
 exact a_refMotors hp hx ht (s_refPlace ht.q u) (s_Nominal hp hx (by unfold i64; omega)) (s_piece ht.q u) (fun v hb => s_refShift hb v) (fun hb hu => a_refsh0 (s_refShift hb) hb hu) (fun hb hu => a_refsh1 (s_refShift hb) hb hu) (fun hb hu => a_refsh2 (s_refShift hb) hb hu)
theorem a_Motors {MS MD MM MF MA ML MC : List AC -> Option (List AC)} {p : Pth} {x : Ax3} {t : Trk} {u : Int} (hp : GoodPath p) (hx : Ax3M x) (ht : TH t) (hC : MC [I u, I t.length] = some [I (clT t u)]) (hL : ML (trkR t ++ [I (clT t u)]) = some [I (placeP t u)]) (hA : MA (pthR p ++ [I (placeP t u)]) = some (ptR (atP p (placeP t u))))
  (hF : MF (trkR t ++ [I (clT t u)]) = some [I (if t.pieces = [] then -1 else (iT t u : Int))]) (hM : ∀ {a : Axs} {q : Int}, AxOK a -> okB q -> MM (axsR a ++ [I q]) = some [I (motP a q)]) (hD : ∀ {a : Axs} (v : Int), (0 <= a.back /\ a.back <= 1000) -> MD (axsR a ++ [I v]) = some [I (dirP a v)])
  (h0 : ∀ {a : Axs} {c : Pce} {u : Int}, (0 <= a.back /\ a.back <= 1000) -> (0 <= u - c.at_ /\ u - c.at_ <= 2000000000000000) -> MS (axsR a ++ pceR c ++ [I 0, I u]) = some [I (shiftP a c.move c.at_ c.was.x c.dirs.x u)])
  (h1 : ∀ {a : Axs} {c : Pce} {u : Int}, (0 <= a.back /\ a.back <= 1000) -> (0 <= u - c.at_ /\ u - c.at_ <= 2000000000000000) -> MS (axsR a ++ pceR c ++ [I (IntKind.i64.wrap (0 + 1)), I u]) = some [I (shiftP a c.move c.at_ c.was.y c.dirs.y u)])
  (h2 : ∀ {a : Axs} {c : Pce} {u : Int}, (0 <= a.back /\ a.back <= 1000) -> (0 <= u - c.at_ /\ u - c.at_ <= 2000000000000000) -> MS (axsR a ++ pceR c ++ [I (IntKind.i64.wrap (IntKind.i64.wrap (0 + 1) + 1)), I u]) = some [I (shiftP a c.move c.at_ c.was.z c.dirs.z u)]) :
  mf_track_Motors MS MD MM MF MA ML MC (pthR p ++ ax3R x ++ trkR t ++ [I u]) = some (ptR (motorsP p x t u)) := by
 have he := mf_track_Motors_eq MS MD MM MF MA ML MC p.start.x p.start.y p.start.z (p.segs.map sgmR) (p.marks.map mrkR) x.a.step x.a.speed x.a.accel x.a.jerk x.a.low x.a.high x.a.back x.a.origin x.a.spacing (x.a.pitch.map intR) x.b.step x.b.speed x.b.accel x.b.jerk x.b.low x.b.high x.b.back x.b.origin x.b.spacing (x.b.pitch.map intR) x.c.step x.c.speed x.c.accel x.c.jerk x.c.low x.c.high x.c.back x.c.origin x.c.spacing (x.c.pitch.map intR) (t.pieces.map pceR) t.length t.start t.dirs.x t.dirs.y t.dirs.z u
 refine Eq.trans he ?_
 obtain ⟨o1, o2, o3⟩ := okB_at hp (placeP t u)
 have m1 := hM hx.a o1
 have m2 := hM hx.b o2
 have m3 := hM hx.c o3
 have b1 := motP_bd hx.a o1
 have b2 := motP_bd hx.b o2
 have b3 := motP_bd hx.c o3
 have s1 := shT_bd hx.ok.a ht u Pt.x
 have s2 := shT_bd hx.ok.b ht u Pt.y
 have s3 := shT_bd hx.ok.c ht u Pt.z
 unfold motorsP nomP
 generalize motP x.a (atP p (placeP t u)).x = q1 at *
 generalize motP x.b (atP p (placeP t u)).y = q2 at *
 generalize motP x.c (atP p (placeP t u)).z = q3 at *
 have w1 : IntKind.i64.wrap (q1 + shT x.a t u Pt.x) = q1 + shT x.a t u Pt.x := wrap_id (by omega)
 have w2 : IntKind.i64.wrap (q2 + shT x.b t u Pt.y) = q2 + shT x.b t u Pt.y := wrap_id (by omega)
 have w3 : IntKind.i64.wrap (q3 + shT x.c t u Pt.z) = q3 + shT x.c t u Pt.z := wrap_id (by omega)
 by_cases c : t.pieces = []
 ·have d1 := hD t.dirs.x hx.ok.a
  have d2 := hD t.dirs.y hx.ok.b
  have d3 := hD t.dirs.z hx.ok.c
  unfold shT at *
  rw [if_pos c] at hF
  simp only [if_pos c] at w1 w2 w3 ⊢
  simp only [pthR, trkR, axsR, List.cons_append, List.nil_append] at hL hA hF d1 d2 d3 m1 m2 m3
  simp only [hC, hL, hA, hF, go_sem, m1, m2, m3, d1, d2, d3, w1, w2, w3]
  rw [if_pos (by omega), if_pos (by omega), if_pos (by omega)]
 ·have hi := iT_lt ht.q u c
  have hcnt := ht.q.count
  have hat := (iT_at ht.q ht.at1 ht.at0 u c).1
  have hcl := clT_bd ht.q u
  have hlen := ht.q.len
  have hpos := ht.q.pos _ hi
  have hin : (0 : Int) <= (iT t u : Int) /\ (iT t u : Int) < (t.pieces.length : Int) := by omega
  have hneg : ¬ ((iT t u : Int) < 0) := by omega
  have d1 := h0 (c := pcA t.pieces (iT t u)) (u := clT t u) hx.ok.a (by omega)
  have d2 := h1 (c := pcA t.pieces (iT t u)) (u := clT t u) hx.ok.b (by omega)
  have d3 := h2 (c := pcA t.pieces (iT t u)) (u := clT t u) hx.ok.c (by omega)
  unfold shT at *
  rw [if_neg c] at hF
  simp only [if_neg c] at w1 w2 w3 ⊢
  simp only [pthR, trkR, axsR, pceR, List.cons_append, List.nil_append] at hL hA hF d1 d2 d3 m1 m2 m3
  simp only [hC, hL, hA, hF, go_sem, m1, m2, m3, List.length_map, if_pos hin, Int.toNat_natCast, row_pcA hi, if_neg hneg, d1, d2, d3, w1, w2, w3]
theorem s_Motors {p : Pth} {x : Ax3} {t : Trk} (hp : GoodPath p) (hx : Ax3M x) (ht : TH t) (u : Int) : m_track_Motors (pthR p ++ ax3R x ++ trkR t ++ [I u]) = some (ptR (motorsP p x t u)) := by
 have hs := place_i64 ht.q u
 have hpl := s_Place ht.q (clT t u)
 rw [place_clT ht.q] at hpl
 exact a_Motors hp hx ht s_clamp hpl (s_path_At hp (by unfold i64; omega)) (s_find ht.q u) (fun h1 h2 => s_pMotor h1 h2) (fun v hb => s_bShift hb v) (fun hb hu => a_sh0 (s_bShift hb) hb hu) (fun hb hu => a_sh1 (s_bShift hb) hb hu) (fun hb hu => a_sh2 (s_bShift hb) hb hu)
end Go.Bm
/- the law TrackMotors, over the models -/
set_option maxRecDepth 100000
namespace Go.Bm
open Classical

theorem chain_at0 {x : Ax3} {mv : Int} {Q : Int -> Pt -> Prop} {a s : Int} {d : Pt} {l : List Pce} (h : chain x mv Q a s d l) (hne : l ≠ []) : (pcA l 0).at_ = a := by
 cases l with
 | nil => exact absurd rfl hne
 | cons c l => rw [pcA_zero]; exact h.1
theorem chain_at1 {x : Ax3} {mv : Int} {Q : Int -> Pt -> Prop} : ∀ {a s : Int} {d : Pt} {l : List Pce}, chain x mv Q a s d l -> ∀ i, i + 1 < l.length -> (pcA l (i + 1)).at_ = eI l i
 | a, s, d, [], h, i, hi => by simp at hi
 | a, s, d, c :: l, h, 0, hi => by
  obtain ⟨h1, h2, h3, h4, h5⟩ := h
  unfold eI
  rw [pcA_cons, pcA_zero, chain_at0 h5 (fun e => by rw [e] at hi; simp at hi), h1]
 | a, s, d, c :: l, h, i + 1, hi => by
  obtain ⟨h1, h2, h3, h4, h5⟩ := h
  have := chain_at1 h5 i (by simpa using hi)
  unfold eI at *
  rw [pcA_cons, pcA_cons]; exact this
theorem legP_TH {p : Pth} {x : Ax3} (d : Pt) (a b : Int) (hx : Ax3OK x) (hp : GoodPath p) : TH (legP p x d a b) := by
 obtain ⟨d', h1, h2, -⟩ := legP_chain (d := d) (a := a) (b := b) (Q := fun _ _ => True) hx hp (fun _ _ _ _ _ _ _ _ => trivial)
 exact ⟨legP_TQ d a b hx hp, chain_at0 h1.ch, chain_at1 h1.ch⟩
theorem l_TrackMotors {MR MT MM MN MW : List AC -> Option (List AC)} {p : Pth} {x : Ax3} {t : Trk} {u a : Int} (ha : 0 <= a /\ a <= 900000000000000) (hR : ∀ v, MR (pthR p ++ ax3R x ++ trkR t ++ [I v]) = some (ptR (motorsP p x t v))) (hT : ∀ v, MT (pthR p ++ ax3R x ++ trkR t ++ [I v]) = some (ptR (motorsP p x t v))) :
  ∀ (k : Nat) (i : Int), i + k = a + 40 -> a <= i -> loopC (st_cnclaw29_TrackMotors_6 MR MT MM MN MW) [I u, I a, I i, I p.start.x, I p.start.y, I p.start.z, .view kSgm (p.segs.map sgmR), .view kMrk (p.marks.map mrkR), I x.a.step, I x.a.speed, I x.a.accel, I x.a.jerk, I x.a.low, I x.a.high, I x.a.back, I x.a.origin, I x.a.spacing, .view kInts (x.a.pitch.map intR), I x.b.step, I x.b.speed, I x.b.accel, I x.b.jerk, I x.b.low, I x.b.high, I x.b.back, I x.b.origin, I x.b.spacing, .view kInts (x.b.pitch.map intR), I x.c.step, I x.c.speed, I x.c.accel, I x.c.jerk, I x.c.low, I x.c.high, I x.c.back, I x.c.origin, I x.c.spacing, .view kInts (x.c.pitch.map intR), .view kPce (t.pieces.map pceR), I t.length, I t.start, I t.dirs.x, I t.dirs.y, I t.dirs.z] = some (2, [I u, I p.start.x, I p.start.y, I p.start.z, .view kSgm (p.segs.map sgmR), .view kMrk (p.marks.map mrkR), I x.a.step, I x.a.speed, I x.a.accel, I x.a.jerk, I x.a.low, I x.a.high, I x.a.back, I x.a.origin, I x.a.spacing, .view kInts (x.a.pitch.map intR), I x.b.step, I x.b.speed, I x.b.accel, I x.b.jerk, I x.b.low, I x.b.high, I x.b.back, I x.b.origin, I x.b.spacing, .view kInts (x.b.pitch.map intR), I x.c.step, I x.c.speed, I x.c.accel, I x.c.jerk, I x.c.low, I x.c.high, I x.c.back, I x.c.origin, I x.c.spacing, .view kInts (x.c.pitch.map intR), .view kPce (t.pieces.map pceR), I t.length, I t.start, I t.dirs.x, I t.dirs.y, I t.dirs.z])
 | 0, i, hi, _ => by
  refine loop_end (o := (2, _)) ?_ (by simp)
  rw [st_cnclaw29_TrackMotors_6_eq, wrap_id (by omega), bif_neg (by omega)]
 | k + 1, i, hi, hai => by
  have h1 := hR i
  have h2 := hT i
  have hst : st_cnclaw29_TrackMotors_6 MR MT MM MN MW [I u, I a, I i, I p.start.x, I p.start.y, I p.start.z, .view kSgm (p.segs.map sgmR), .view kMrk (p.marks.map mrkR), I x.a.step, I x.a.speed, I x.a.accel, I x.a.jerk, I x.a.low, I x.a.high, I x.a.back, I x.a.origin, I x.a.spacing, .view kInts (x.a.pitch.map intR), I x.b.step, I x.b.speed, I x.b.accel, I x.b.jerk, I x.b.low, I x.b.high, I x.b.back, I x.b.origin, I x.b.spacing, .view kInts (x.b.pitch.map intR), I x.c.step, I x.c.speed, I x.c.accel, I x.c.jerk, I x.c.low, I x.c.high, I x.c.back, I x.c.origin, I x.c.spacing, .view kInts (x.c.pitch.map intR), .view kPce (t.pieces.map pceR), I t.length, I t.start, I t.dirs.x, I t.dirs.y, I t.dirs.z] = some (0, [I u, I a, I (i + 1), I p.start.x, I p.start.y, I p.start.z, .view kSgm (p.segs.map sgmR), .view kMrk (p.marks.map mrkR), I x.a.step, I x.a.speed, I x.a.accel, I x.a.jerk, I x.a.low, I x.a.high, I x.a.back, I x.a.origin, I x.a.spacing, .view kInts (x.a.pitch.map intR), I x.b.step, I x.b.speed, I x.b.accel, I x.b.jerk, I x.b.low, I x.b.high, I x.b.back, I x.b.origin, I x.b.spacing, .view kInts (x.b.pitch.map intR), I x.c.step, I x.c.speed, I x.c.accel, I x.c.jerk, I x.c.low, I x.c.high, I x.c.back, I x.c.origin, I x.c.spacing, .view kInts (x.c.pitch.map intR), .view kPce (t.pieces.map pceR), I t.length, I t.start, I t.dirs.x, I t.dirs.y, I t.dirs.z]) := by
   rw [st_cnclaw29_TrackMotors_6_eq]
   simp only [trkR, ax3R, pthR, List.cons_append, List.nil_append] at h1 h2
   simp only [h1, h2, go_sem, wrap_id (x := a + 40) (by omega), wrap_id (x := i + 1) (by omega)]
   rw [if_pos (by omega)]
   simp
  rw [loop_more hst]
  exact l_TrackMotors ha hR hT k (i + 1) (by omega) (by omega)
theorem a_TrackMotors {MR MT MM MN MW : List AC -> Option (List AC)} {N : List AC -> Option (Nat × List AC)} {l ax : List (List AC)} {dirs from_ to u n : Int} {p : Pth} {x : Ax3} {t : Trk} (hW : MW [] = some [B true])
  (hN : MN [.view kInts l, .view kInts ax, I dirs, I from_, I to] = some (pthR p ++ ax3R x ++ trkR t ++ [I n])) (hl : 0 <= t.length /\ t.length <= 900000000000000) (hM : MM [I u, I (t.length + 1)] = some [I (u % (t.length + 1))])
  (hR : ∀ v, MR (pthR p ++ ax3R x ++ trkR t ++ [I v]) = some (ptR (motorsP p x t v))) (hT : ∀ v, MT (pthR p ++ ax3R x ++ trkR t ++ [I v]) = some (ptR (motorsP p x t v)))
  (hL : N [I u, I (u % (t.length + 1)), I (u % (t.length + 1)), I p.start.x, I p.start.y, I p.start.z, .view kSgm (p.segs.map sgmR), .view kMrk (p.marks.map mrkR), I x.a.step, I x.a.speed, I x.a.accel, I x.a.jerk, I x.a.low, I x.a.high, I x.a.back, I x.a.origin, I x.a.spacing, .view kInts (x.a.pitch.map intR), I x.b.step, I x.b.speed, I x.b.accel, I x.b.jerk, I x.b.low, I x.b.high, I x.b.back, I x.b.origin, I x.b.spacing, .view kInts (x.b.pitch.map intR), I x.c.step, I x.c.speed, I x.c.accel, I x.c.jerk, I x.c.low, I x.c.high, I x.c.back, I x.c.origin, I x.c.spacing, .view kInts (x.c.pitch.map intR), .view kPce (t.pieces.map pceR), I t.length, I t.start, I t.dirs.x, I t.dirs.y, I t.dirs.z] = some (2, [I u, I p.start.x, I p.start.y, I p.start.z, .view kSgm (p.segs.map sgmR), .view kMrk (p.marks.map mrkR), I x.a.step, I x.a.speed, I x.a.accel, I x.a.jerk, I x.a.low, I x.a.high, I x.a.back, I x.a.origin, I x.a.spacing, .view kInts (x.a.pitch.map intR), I x.b.step, I x.b.speed, I x.b.accel, I x.b.jerk, I x.b.low, I x.b.high, I x.b.back, I x.b.origin, I x.b.spacing, .view kInts (x.b.pitch.map intR), I x.c.step, I x.c.speed, I x.c.accel, I x.c.jerk, I x.c.low, I x.c.high, I x.c.back, I x.c.origin, I x.c.spacing, .view kInts (x.c.pitch.map intR), .view kPce (t.pieces.map pceR), I t.length, I t.start, I t.dirs.x, I t.dirs.y, I t.dirs.z])) :
  mf_cnclaw29_TrackMotors MR MT MM MN MW N [.view kInts l, .view kInts ax, I dirs, I from_, I to, I u] = some [B true] := by
 rw [mf_cnclaw29_TrackMotors_eq]
 have h1 := hR u
 have h2 := hT u
 simp only [trkR, ax3R, pthR, List.cons_append, List.nil_append] at *
 simp only [go_sem, hW, hN, wrap_id (x := t.length + 1) (by omega), hM, hL, h1, h2]
 simp
theorem s_TrackMotors {l ax : List (List AC)} (hl : Src l) (ha : Src ax) {dirs from_ to u : Int} (h2 : i64 dirs) (h3 : i64 from_) (h4 : i64 to) (h5 : i64 u) :
  m_cnclaw29_TrackMotors [.view kInts l, .view kInts ax, I dirs, I from_, I to, I u] = some [B true] := by
 obtain ⟨p, x, d, a, b, hr, hp, hx, hd⟩ := s_run hl ha h2 h3 h4
 have ht := legP_TH d a b hx.ok hp
 have hlen := ht.q.len
 have := Int.emod_nonneg u (show (legP p x d a b).length + 1 ≠ 0 by omega)
 have := Int.emod_lt_of_pos u (show 0 < (legP p x d a b).length + 1 by omega)
 refine a_TrackMotors m_cnclaw29_awake_eq hr hlen (s_cncmill_Mod h5 (by omega)) (s_refMotors hp hx ht) (s_Motors hp hx ht) ?_
 exact l_TrackMotors (MM := m_cncmill_Mod) (MN := m_cnclaw29_run) (MW := m_cnclaw29_awake) (by omega) (s_refMotors hp hx ht) (s_Motors hp hx ht) 40 _ (by omega) (by omega)
end Go.Bm
/- what a law's arguments are known to be -/
set_option maxRecDepth 100000
namespace Go.Bm

theorem okR_int {r : List AC} (h : okR kInts r) : i64 (intOf (nth .dead r 0)) := by
 match r, h with
 | [], h => exact h.elim
 | a :: _, h => exact okC_int h.1
theorem okR_src {r : List AC} (h : okR [Kd.sl kInts] r) : Src (rowsOf (nth .dead r 0)) := by
 match r, h with
 | [], h => exact h.elim
 | a :: _, h =>
  have h1 := h.1
  unfold okC at h1
  refine ⟨?_, fun c hc => okR_int (h1.2 c hc).1⟩
  have h2 := h1.1
  simp only [maxLen] at h2
  show (rowsOf a).length <= _
  omega
end Go.Bm
