/- laid together -/
import Derived.Test.YtdllaekpkcanbaaGreatPrTk2
import Derived.Test.YtdllaekpkcanbaaGreatMy1
set_option linter.unusedVariables false
set_option linter.unusedSimpArgs false
/- tracks: the loops over the segments, by the reference and by the program -/
set_option maxRecDepth 100000
namespace Go.Bm
open Classical

def AddOK (MA : List AC -> Option (List AC)) : Prop := ∀ {t : Trk} {c : Pce} {n m k : Int}, TB t n m -> n <= 10000000 -> m <= 1000000000000000000 -> k <= 1000000000000000000 -> (0 <= c.units /\ c.units <= k) ->
 MA [.view kPce (t.pieces.map pceR), I c.at_, I c.units, I c.s, I c.move, I c.was.x, I c.was.y, I c.was.z, I c.dirs.x, I c.dirs.y, I c.dirs.z, I t.length, I t.start, I t.dirs.x, I t.dirs.y, I t.dirs.z] = some (trkR (addT t c))
abbrev refS (p : Pth) (x : Ax3) (f to mv : Int) (t : Trk) (now : Pt) (b : Int) (j : Nat) : List AC :=
 [.view kPce [], .view kPce (t.pieces.map pceR), I f, I to, I mv, I b, I p.segs.length, I j, I p.start.x, I p.start.y, I p.start.z, .view kSgm (p.segs.map sgmR), .view kMrk (p.marks.map mrkR), I x.a.step, I x.a.speed, I x.a.accel, I x.a.jerk, I x.a.low, I x.a.high, I x.a.back, I x.a.origin, I x.a.spacing, .view kInts (x.a.pitch.map intR), I x.b.step, I x.b.speed, I x.b.accel, I x.b.jerk, I x.b.low, I x.b.high, I x.b.back, I x.b.origin, I x.b.spacing, .view kInts (x.b.pitch.map intR), I x.c.step, I x.c.speed, I x.c.accel, I x.c.jerk, I x.c.low, I x.c.high, I x.c.back, I x.c.origin, I x.c.spacing, .view kInts (x.c.pitch.map intR), I 0, I 0, I 0, I 0, I 0, I t.length, I t.start, I t.dirs.x, I t.dirs.y, I t.dirs.z, I now.x, I now.y, I now.z]
def refB (l : List Sgm) (mv : Int) (j : Nat) : Int := if mv < 0 then posL l (l.length - j) else posL l j
theorem a_refstep {MA MS MF ML : List AC -> Option (List AC)} {p : Pth} {x : Ax3} {f to mv : Int} {t : Trk} {now : Pt} {n m : Int} {j : Nat} (hv : mv = 1 \/ mv = -1) (hp : GoodPath p) (hx : Ax3OK x) (h : TB t n m) (hn : n <= 9000000) (hm : m <= 900000000000000000)
  (hf : 0 <= f /\ f <= 263886834032640) (ht : 0 <= to /\ to <= 263886834032640) (hj : j < p.segs.length) (hA : AddOK MA) (hS : ∀ w d : Pt, MS (ax3R x ++ [I w.x, I w.y, I w.z, I d.x, I d.y, I d.z]) = some [I (slackD x w d)])
  (hF : ∀ {i : Nat} (d : Pt), i < p.segs.length -> MF (pthR p ++ [I d.x, I d.y, I d.z, I i, I mv]) = some (ptR (turnD d (vertL p.start p.segs i) (sgA p.segs i).to mv))) :
  st_cncref29_Leg_11 MA MS MF ML (refS p x f to mv t now (refB p.segs mv j) j) = some (0, refS p x f to mv (segT p x mv (min f to) (max f to) (idxT p.segs.length mv j) (t, now)).1 (segT p x mv (min f to) (max f to) (idxT p.segs.length mv j) (t, now)).2 (refB p.segs mv (j + 1)) (j + 1)) := by
 have hok := hp.ok
 have hcnt := hok.count
 have hil0 := idxT_lt mv hj
 have hcase : (mv = 1 /\ idxT p.segs.length mv j = j) \/ (mv = -1 /\ idxT p.segs.length mv j = p.segs.length - 1 - j) := by
  unfold idxT
  rcases hv with rfl | rfl
  ·exact .inl ⟨rfl, if_neg (by omega)⟩
  ·exact .inr ⟨rfl, if_pos (by omega)⟩
 obtain ⟨i, hi⟩ : ∃ i, idxT p.segs.length mv j = i := ⟨_, rfl⟩
 rw [hi] at hil0 hcase ⊢
 have hil : i < p.segs.length := hil0
 have hg := hok.seg _ (sgA_mem hil)
 have hr := row_sgA hil
 have hpos := posL_bd hok i (by omega)
 have hsucc := posL_succ hil
 have hF' := hF now hil
 have hin : (0 : Int) <= (i : Nat) /\ ((i : Nat) : Int) < (p.segs.length : Int) := by omega
 have hin0 : (j : Int) < (p.segs.length : Int) := by omega
 have e1 : IntKind.i64.wrap ((j : Int) + 1) = ((j + 1 : Nat) : Int) := by rw [wrap_id (by omega)]; omega
 have eB : IntKind.i64.wrap (refB p.segs mv j + IntKind.i64.wrap (mv * (sgA p.segs i).len)) = refB p.segs mv (j + 1) /\ max (min (refB p.segs mv j) (refB p.segs mv (j + 1))) (min f to) = max (posL p.segs i) (min f to) /\
   min (max (refB p.segs mv j) (refB p.segs mv (j + 1))) (max f to) = min (posL p.segs (i + 1)) (max f to) := by
  unfold refB
  rcases hcase with ⟨rfl, rfl⟩ | ⟨rfl, ei⟩
  ·rw [if_neg (by omega), if_neg (by omega), Int.one_mul, hsucc, wrap_id (x := (sgA p.segs i).len) (by omega), wrap_id (by omega)]
   refine ⟨rfl, ?_, ?_⟩ <;> omega
  ·rw [if_pos (by omega), if_pos (by omega), show p.segs.length - j = i + 1 by omega, show p.segs.length - (j + 1) = i by omega, hsucc, wrap_id (x := -1 * (sgA p.segs i).len) (by omega), wrap_id (by omega)]
   refine ⟨by omega, ?_, ?_⟩ <;> omega
 obtain ⟨eB, eL, eH⟩ := eB
 have hI : IntKind.i64.wrap (IntKind.i64.wrap ((p.segs.length : Int) - 1) - (j : Int)) = ((p.segs.length - 1 - j : Nat) : Int) := by rw [wrap_id (x := (p.segs.length : Int) - 1) (by omega), wrap_id (by omega)]; omega
 have hS' := hS now (turnD now (vertL p.start p.segs i) (sgA p.segs i).to mv)
 have hb := slack_bd hx now (turnD now (vertL p.start p.segs i) (sgA p.segs i).to mv)
 unfold segT visit
 simp only [ax3R, pthR, List.cons_append, List.nil_append] at hS' hF' ⊢
 rw [st_cncref29_Leg_11_eq]
 have fin : ∀ (sp : Int), sp = (if mv < 0 then min (posL p.segs (i + 1)) (max f to) else max (posL p.segs i) (min f to)) -> max (posL p.segs i) (min f to) < min (posL p.segs (i + 1)) (max f to) -> ∀ nx, nx = turnD now (vertL p.start p.segs i) (sgA p.segs i).to mv -> True := fun _ _ _ _ _ => trivial
 clear fin
 generalize turnD now (vertL p.start p.segs i) (sgA p.segs i).to mv = nx at *
 have hd : min (posL p.segs (i + 1)) (max f to) - max (posL p.segs i) (min f to) <= 268435456 := by omega
 have hwd : max (posL p.segs i) (min f to) < min (posL p.segs (i + 1)) (max f to) -> IntKind.i64.wrap (min (posL p.segs (i + 1)) (max f to) - max (posL p.segs i) (min f to)) = min (posL p.segs (i + 1)) (max f to) - max (posL p.segs i) (min f to) := fun _ => wrap_id (by omega)
 have add2 : ∀ sp : Int, max (posL p.segs i) (min f to) < min (posL p.segs (i + 1)) (max f to) -> slackD x now nx > 0 ->
   MA [.view kPce (t.pieces.map pceR), I 0, I (slackD x now nx), I sp, I 0, I now.x, I now.y, I now.z, I nx.x, I nx.y, I nx.z, I t.length, I t.start, I t.dirs.x, I t.dirs.y, I t.dirs.z] = some (trkR (addT t ⟨0, slackD x now nx, sp, 0, now, nx⟩)) /\
   MA [.view kPce ((addT t ⟨0, slackD x now nx, sp, 0, now, nx⟩).pieces.map pceR), I 0, I (min (posL p.segs (i + 1)) (max f to) - max (posL p.segs i) (min f to)), I sp, I mv, I nx.x, I nx.y, I nx.z, I nx.x, I nx.y, I nx.z, I (addT t ⟨0, slackD x now nx, sp, 0, now, nx⟩).length, I (addT t ⟨0, slackD x now nx, sp, 0, now, nx⟩).start, I (addT t ⟨0, slackD x now nx, sp, 0, now, nx⟩).dirs.x, I (addT t ⟨0, slackD x now nx, sp, 0, now, nx⟩).dirs.y, I (addT t ⟨0, slackD x now nx, sp, 0, now, nx⟩).dirs.z] =
    some (trkR (addT (addT t ⟨0, slackD x now nx, sp, 0, now, nx⟩) ⟨0, min (posL p.segs (i + 1)) (max f to) - max (posL p.segs i) (min f to), sp, mv, nx, nx⟩)) := by
  intro sp hlt hs
  have hb2 := addT_bd (k := 1000) h (c := ⟨0, slackD x now nx, sp, 0, now, nx⟩) (by simp only; omega)
  exact ⟨hA (c := ⟨0, slackD x now nx, sp, 0, now, nx⟩) h (by omega) (by omega) (k := 1000) (by omega) (by simp only; omega), hA (c := ⟨0, _, sp, mv, nx, nx⟩) hb2 (by omega) (by omega) (k := 268435456) (by omega) (by simp only; omega)⟩
 have add1 : ∀ sp : Int, max (posL p.segs i) (min f to) < min (posL p.segs (i + 1)) (max f to) ->
   MA [.view kPce (t.pieces.map pceR), I 0, I (min (posL p.segs (i + 1)) (max f to) - max (posL p.segs i) (min f to)), I sp, I mv, I nx.x, I nx.y, I nx.z, I nx.x, I nx.y, I nx.z, I t.length, I t.start, I t.dirs.x, I t.dirs.y, I t.dirs.z] =
    some (trkR (addT t ⟨0, min (posL p.segs (i + 1)) (max f to) - max (posL p.segs i) (min f to), sp, mv, nx, nx⟩)) := by
  intro sp hlt
  exact hA (c := ⟨0, _, sp, mv, nx, nx⟩) h (by omega) (by omega) (k := 268435456) (by omega) (by simp only; omega)
 rcases hcase with ⟨rfl, rfl⟩ | ⟨rfl, ei⟩
 ·generalize max (posL p.segs i) (min f to) = first at *
  generalize min (posL p.segs (i + 1)) (max f to) = last at *
  simp only [go_sem, List.length_map, Int.toNat_natCast, hr, if_pos hin, if_pos hin0, hF', hS', mx_eq, mn_eq, ↓eB, eL, eH, e1]
  rw [if_neg (by omega)]
  by_cases c : first < last
  ·rw [if_pos c, if_pos c, hwd c]
   by_cases c2 : slackD x now nx > 0
   ·obtain ⟨a1, a2⟩ := add2 first c c2
    simp only [if_pos c2, a1, trkR, go_sem, a2]
    rfl
   ·have a1 := add1 first c
    simp only [if_neg c2, a1, trkR, go_sem]
    rfl
  ·rw [if_neg c, if_neg c]
 ·rw [<- ei] at hI
  generalize max (posL p.segs i) (min f to) = first at *
  generalize min (posL p.segs (i + 1)) (max f to) = last at *
  simp only [go_sem, List.length_map, hI, Int.toNat_natCast, hr, if_pos hin, if_pos hin0, hF', hS', mx_eq, mn_eq, ↓eB, eL, eH, e1]
  rw [if_pos (by omega)]
  by_cases c : first < last
  ·rw [if_pos c, if_pos c, hwd c]
   by_cases c2 : slackD x now nx > 0
   ·obtain ⟨a1, a2⟩ := add2 last c c2
    simp only [if_pos c2, a1, trkR, go_sem, a2]
    rfl
   ·have a1 := add1 last c
    simp only [if_neg c2, a1, trkR, go_sem]
    rfl
  ·rw [if_neg c, if_neg c]
end Go.Bm
/- tracks: the way between two positions, by the reference and by the program -/
set_option maxRecDepth 100000
namespace Go.Bm
open Classical

theorem l_refLeg {p : Pth} {x : Ax3} {f to mv : Int} {d : Pt} (hv : mv = 1 \/ mv = -1) (hp : GoodPath p) (hx : Ax3OK x) (hf : 0 <= f /\ f <= 263886834032640) (ht : 0 <= to /\ to <= 263886834032640) : ∀ (k j : Nat), j + k = p.segs.length -> ∀ w, w = legN p x mv (min f to) (max f to) (⟨[], 0, f, d⟩, d) j ->
  loopC (st_cncref29_Leg_11 m_cncref29_add m_cncref29_slack m_cncref29_facing m_cncref25_Length) (refS p x f to mv w.1 w.2 (refB p.segs mv j) j) = some (1, .view kPce [] :: .view kPce ((legN p x mv (min f to) (max f to) (⟨[], 0, f, d⟩, d) p.segs.length).1.pieces.map pceR) :: I 0 :: I 0 :: I 0 :: I 0 :: I 0 :: [I (legN p x mv (min f to) (max f to) (⟨[], 0, f, d⟩, d) p.segs.length).1.length, I f, I d.x, I d.y, I d.z])
 | 0, j, hj, w, hw => by
  have hj' : j = p.segs.length := by omega
  refine loop_end (o := (1, _)) ?_ (by simp)
  rw [st_cncref29_Leg_11_eq, bif_neg (by omega)]
  have hk : ∀ j, (legN p x mv (min f to) (max f to) (⟨[], 0, f, d⟩, d) j).1.start = f /\ (legN p x mv (min f to) (max f to) (⟨[], 0, f, d⟩, d) j).1.dirs = d := by
   intro j
   induction j with
   | zero => exact ⟨rfl, rfl⟩
   | succ j ih => rw [legN, (segT_keep _).1, (segT_keep _).2]; exact ih
  obtain ⟨k1, k2⟩ := hk j
  rw [hw, k1, k2, hj']
 | k + 1, j, hj, w, hw => by
  have hcnt := hp.count
  have hb := legN_bd (mv := mv) (lo := min f to) (hi := max f to) (f := f) (d := d) hx hp.ok j (by omega)
  rw [<- hw] at hb
  have hst := a_refstep (MA := m_cncref29_add) (MS := m_cncref29_slack) (MF := m_cncref29_facing) (ML := m_cncref25_Length) (f := f) (to := to) (now := w.2) (j := j) hv hp hx hb (by omega) (by omega) hf ht (by omega) (fun h1 h2 h3 h4 h5 => a_addR h1 h2 h3 h4 h5) (s_slack x) (fun d hi => s_facing hp hi d hv)
  rw [loop_more hst]
  exact l_refLeg hv hp hx hf ht k (j + 1) (by omega) _ (by rw [legN, <- hw])
theorem a_refLeg {MA MS MF ML : List AC -> Option (List AC)} {N : List AC -> Option (Nat × List AC)} {p : Pth} {x : Ax3} {d : Pt} {from_ to : Int} (hn : 0 <= sumLen p.segs) (hL : ML (pthR p) = some [I (sumLen p.segs)])
  (hN : ∀ {f to mv : Int}, (mv = 1 \/ mv = -1) -> (0 <= f /\ f <= sumLen p.segs) -> (0 <= to /\ to <= sumLen p.segs) -> N (refS p x f to mv ⟨[], 0, f, d⟩ d (refB p.segs mv 0) 0) = some (1, .view kPce [] :: .view kPce ((legN p x mv (min f to) (max f to) (⟨[], 0, f, d⟩, d) p.segs.length).1.pieces.map pceR) :: I 0 :: I 0 :: I 0 :: I 0 :: I 0 :: [I (legN p x mv (min f to) (max f to) (⟨[], 0, f, d⟩, d) p.segs.length).1.length, I f, I d.x, I d.y, I d.z])) :
  mf_cncref29_Leg MA MS MF ML N (pthR p ++ ax3R x ++ [I d.x, I d.y, I d.z, I from_, I to]) = some (trkR (legP p x d from_ to)) := by
 have he := mf_cncref29_Leg_eq MA MS MF ML N p.start.x p.start.y p.start.z (p.segs.map sgmR) (p.marks.map mrkR) x.a.step x.a.speed x.a.accel x.a.jerk x.a.low x.a.high x.a.back x.a.origin x.a.spacing (x.a.pitch.map intR) x.b.step x.b.speed x.b.accel x.b.jerk x.b.low x.b.high x.b.back x.b.origin x.b.spacing (x.b.pitch.map intR) x.c.step x.c.speed x.c.accel x.c.jerk x.c.low x.c.high x.c.back x.c.origin x.c.spacing (x.c.pitch.map intR) d.x d.y d.z from_ to
 refine Eq.trans he ?_
 have ec : ∀ v : Int, mn (mx v 0) (sumLen p.segs) = clampP v (sumLen p.segs) := by intro v; rw [mn_eq, mx_eq]; unfold clampP; omega
 have hf : 0 <= clampP from_ (sumLen p.segs) /\ clampP from_ (sumLen p.segs) <= sumLen p.segs := by unfold clampP; omega
 have ht : 0 <= clampP to (sumLen p.segs) /\ clampP to (sumLen p.segs) <= sumLen p.segs := by unfold clampP; omega
 have hk : ∀ mv lo hi f j, (legN p x mv lo hi (⟨[], 0, f, d⟩, d) j).1.start = f /\ (legN p x mv lo hi (⟨[], 0, f, d⟩, d) j).1.dirs = d := by
  intro mv lo hi f j
  induction j with
  | zero => exact ⟨rfl, rfl⟩
  | succ j ih => rw [legN, (segT_keep _).1, (segT_keep _).2]; exact ih
 have h1 := hN (mv := 1) (.inl rfl) hf ht
 have h2 := hN (mv := -1) (.inr rfl) hf ht
 have e1 : refB p.segs 1 0 = 0 := by unfold refB; rw [if_neg (by omega), posL_zero]
 have e2 : refB p.segs (-1) 0 = sumLen p.segs := by unfold refB; rw [if_pos (by omega), Nat.sub_zero, posL_len]
 rw [e1] at h1
 rw [e2] at h2
 unfold legP
 simp only [pthR] at hL
 simp only [hL, go_sem, ec, List.length_map]
 generalize clampP from_ (sumLen p.segs) = f at *
 generalize clampP to (sumLen p.segs) = t at *
 by_cases c : t < f
 ·have k := hk (-1) (min f t) (max f t) f p.segs.length
  rw [if_pos c]
  simp only [trkR, k.1, k.2]
  simp only [refS, List.map_nil, Int.cast_ofNat_Int] at h2
  simp only [h2, go_sem, c, if_true, k.1, k.2]
 ·have k := hk 1 (min f t) (max f t) f p.segs.length
  rw [if_neg c]
  simp only [trkR, k.1, k.2]
  simp only [refS, List.map_nil, Int.cast_ofNat_Int] at h1
  simp only [h1, go_sem, c, if_false, k.1, k.2]
theorem s_refLeg {p : Pth} {x : Ax3} {d : Pt} {from_ to : Int} (hp : GoodPath p) (hx : Ax3OK x) : m_cncref29_Leg (pthR p ++ ax3R x ++ [I d.x, I d.y, I d.z, I from_, I to]) = some (trkR (legP p x d from_ to)) := by
 have hs := sum_path hp
 exact a_refLeg (N := l_cncref29_Leg_11) hs.1 (s_ref_Length hp.ok) fun {f to mv} hv hf ht => l_refLeg (d := d) hv hp hx (by omega) (by omega) p.segs.length 0 (by omega) _ rfl

end Go.Bm
/- tracks: the piece of a track position, the path position and the take-ups, by the reference and by the program -/
set_option maxRecDepth 100000
namespace Go.Bm
open Classical

def pcA (l : List Pce) (i : Nat) : Pce := l.getD i pc0
def eI (l : List Pce) (i : Nat) : Int := (pcA l i).at_ + (pcA l i).units
def fI : List Pce -> Int -> Nat
 | [], _ => 0
 | c :: l, u => if u <= c.at_ + c.units then 0 else fI l u + 1
theorem pcA_cons (c : Pce) (l : List Pce) (i : Nat) : pcA (c :: l) (i + 1) = pcA l i := by unfold pcA; simp
theorem pcA_zero (c : Pce) (l : List Pce) : pcA (c :: l) 0 = c := by unfold pcA; simp
theorem row_pcA {l : List Pce} {i : Nat} (h : i < l.length) : nth [] (l.map pceR) i = pceR (pcA l i) := by
 have e : pcA l i = l[i] := by unfold pcA; simp [h]
 rw [e]; exact nth_map _ _ _ _ h
theorem fI_lt : ∀ {l : List Pce} {u : Int} {j : Nat}, j < l.length -> u <= eI l j -> fI l u <= j
 | c :: l, u, 0, _, h => by
  unfold eI at h; rw [pcA_zero] at h
  unfold fI; rw [if_pos h]; exact Nat.le_refl _
 | c :: l, u, j + 1, hj, h => by
  unfold fI
  by_cases c0 : u <= c.at_ + c.units
  ·rw [if_pos c0]; omega
  ·rw [if_neg c0]
   have : fI l u <= j := fI_lt (by simpa using hj) (by unfold eI at h ⊢; rw [pcA_cons] at h; exact h)
   omega
theorem fI_spec : ∀ {l : List Pce} {u : Int}, fI l u < l.length -> u <= eI l (fI l u)
 | [], _, h => by simp at h
 | c :: l, u, h => by
  unfold fI at h ⊢
  by_cases c0 : u <= c.at_ + c.units
  ·rw [if_pos c0]; unfold eI; rw [pcA_zero]; exact c0
  ·rw [if_neg c0] at h ⊢
   have := fI_spec (l := l) (u := u) (by simpa using h)
   unfold eI at this ⊢; rw [pcA_cons]; exact this
structure TQ (t : Trk) : Prop where
 count : t.pieces.length <= 10000000
 len : 0 <= t.length /\ t.length <= 900000000000000
 pos : ∀ i, i < t.pieces.length -> 0 <= (pcA t.pieces i).at_ /\ 1 <= (pcA t.pieces i).units /\ eI t.pieces i <= t.length
 mono : ∀ i j, i <= j -> j < t.pieces.length -> eI t.pieces i <= eI t.pieces j
 last : t.pieces ≠ [] -> eI t.pieces (t.pieces.length - 1) = t.length
 start : 0 <= t.start /\ t.start <= 263886834032640
 s : ∀ i, i < t.pieces.length -> -900000000000000 <= (pcA t.pieces i).s /\ (pcA t.pieces i).s <= 2000000000000000
 move : ∀ i, i < t.pieces.length -> (pcA t.pieces i).move = 0 \/ (pcA t.pieces i).move = 1 \/ (pcA t.pieces i).move = -1
def clT (t : Trk) (u : Int) : Int := clampP u t.length
theorem clT_bd {t : Trk} (h : TQ t) (u : Int) : 0 <= clT t u /\ clT t u <= t.length := by have := h.len; unfold clT clampP; omega
def iT (t : Trk) (u : Int) : Nat := fI t.pieces (clT t u)
theorem iT_lt {t : Trk} (h : TQ t) (u : Int) (hne : t.pieces ≠ []) : iT t u < t.pieces.length := by
 have hp : 0 < t.pieces.length := by
  cases hh : t.pieces with
  | nil => exact absurd hh hne
  | cons _ _ => simp
 have := fI_lt (l := t.pieces) (u := clT t u) (j := t.pieces.length - 1) (by omega) (by rw [h.last hne]; exact (clT_bd h u).2)
 unfold iT; omega
def placeP (t : Trk) (u : Int) : Int := if t.pieces = [] then t.start else (pcA t.pieces (iT t u)).s + (pcA t.pieces (iT t u)).move * (clT t u - (pcA t.pieces (iT t u)).at_)
theorem l_find {t : Trk} (h : TQ t) {u : Int} (hi : fI t.pieces u < t.pieces.length) : ∀ (k lo hi : Nat), hi - lo <= k -> lo <= fI t.pieces u -> fI t.pieces u <= hi -> hi < t.pieces.length ->
  loopC st_track_find_2 [I u, I lo, I hi, .view kPce (t.pieces.map pceR), I t.length, I t.start, I t.dirs.x, I t.dirs.y, I t.dirs.z] = some (1, [I (fI t.pieces u)])
 | k, lo, hi, hk, h1, h2, h3 => by
  have hcnt := h.count
  have hl := h.len
  by_cases c : lo < hi
  ·have em : IntKind.i64.wrap ((IntKind.i64.wrap ((lo : Int) + hi)).tdiv 2) = (((lo + hi) / 2 : Nat) : Int) := by
    rw [wrap_id (x := (lo : Int) + hi) (by omega), Int.tdiv_eq_ediv_of_nonneg (by omega), wrap_id (by omega)]; omega
   have hm1 : lo <= (lo + hi) / 2 /\ (lo + hi) / 2 < hi := by omega
   generalize (lo + hi) / 2 = m at *
   have hlt : m < t.pieces.length := by omega
   have hpos := h.pos m hlt
   have hin : (0 : Int) <= (m : Int) /\ (m : Int) < (t.pieces.length : Int) := by omega
   have hw : IntKind.i64.wrap ((pcA t.pieces m).at_ + (pcA t.pieces m).units) = eI t.pieces m := by unfold eI at hpos ⊢; exact wrap_id (by omega)
   have hst : st_track_find_2 [I u, I lo, I hi, .view kPce (t.pieces.map pceR), I t.length, I t.start, I t.dirs.x, I t.dirs.y, I t.dirs.z] = if u <= eI t.pieces m then some (0, [I u, I lo, I m, .view kPce (t.pieces.map pceR), I t.length, I t.start, I t.dirs.x, I t.dirs.y, I t.dirs.z]) else some (0, [I u, I (m + 1 : Nat), I hi, .view kPce (t.pieces.map pceR), I t.length, I t.start, I t.dirs.x, I t.dirs.y, I t.dirs.z]) := by
    rw [st_track_find_2_eq, em]
    simp only [go_sem, List.length_map, Int.toNat_natCast, row_pcA hlt, if_pos hin, hw, wrap_id (x := (m : Int) + 1) (by omega)]
    rw [if_pos (by omega)]
    rfl
   by_cases c2 : u <= eI t.pieces m
   ·rw [if_pos c2] at hst
    rw [loop_more hst]
    cases k with
    | zero => omega
    | succ k => exact l_find h (by omega) k lo m (by omega) h1 (fI_lt hlt c2) hlt
   ·rw [if_neg c2] at hst
    rw [loop_more hst]
    have hgt : m < fI t.pieces u := by
     by_cases c3 : fI t.pieces u <= m
     ·exact absurd (Int.le_trans (fI_spec (by omega)) (h.mono _ _ c3 hlt)) c2
     ·omega
    cases k with
    | zero => omega
    | succ k => exact l_find h (by omega) k (m + 1) hi (by omega) (by omega) h2 h3
  ·refine loop_end (o := (1, _)) ?_ (by simp)
   rw [st_track_find_2_eq, bif_neg (by omega), show fI t.pieces u = hi by omega]
theorem s_find {t : Trk} (h : TQ t) (u : Int) : m_track_find (trkR t ++ [I (clT t u)]) = some [I (if t.pieces = [] then -1 else (iT t u : Int))] := by
 have he := mf_track_find_eq l_track_find_2 (t.pieces.map pceR) t.length t.start t.dirs.x t.dirs.y t.dirs.z (clT t u)
 unfold m_track_find
 refine Eq.trans he ?_
 rw [List.length_map]
 have hcnt := h.count
 by_cases c : t.pieces = []
 ·have hl : l_track_find_2 [I (clT t u), I 0, I (-1), .view kPce (t.pieces.map pceR), I t.length, I t.start, I t.dirs.x, I t.dirs.y, I t.dirs.z] = some (1, [I (-1)]) := by
   refine loop_end (o := (1, _)) ?_ (by simp)
   rw [st_track_find_2_eq, bif_neg (by omega)]
  have e1 : IntKind.i64.wrap ((t.pieces.length : Int) - 1) = -1 := by rw [c]; rfl
  rw [if_pos c, e1]
  generalize l_track_find_2 = N at *
  simp only [hl, go_sem]
 ·have hp : 0 < t.pieces.length := by
   cases hh : t.pieces with
   | nil => exact absurd hh c
   | cons _ _ => simp
  have hi := iT_lt h u c
  have hl := l_find h (u := clT t u) hi t.pieces.length 0 (t.pieces.length - 1) (by omega) (by omega) (by unfold iT at hi; omega) (by omega)
  have hl' : l_track_find_2 [I (clT t u), I 0, I (t.pieces.length - 1 : Nat), .view kPce (t.pieces.map pceR), I t.length, I t.start, I t.dirs.x, I t.dirs.y, I t.dirs.z] = some (1, [I (iT t u : Int)]) := hl
  have e1 : IntKind.i64.wrap ((t.pieces.length : Int) - 1) = ((t.pieces.length - 1 : Nat) : Int) := by rw [wrap_id (by omega)]; omega
  rw [if_neg c, e1]
  generalize l_track_find_2 = N at *
  simp only [hl', go_sem]
theorem place_wrap {t : Trk} (h : TQ t) (u : Int) (hne : t.pieces ≠ []) :
  IntKind.i64.wrap ((pcA t.pieces (iT t u)).s + IntKind.i64.wrap ((pcA t.pieces (iT t u)).move * IntKind.i64.wrap (clT t u - (pcA t.pieces (iT t u)).at_))) = placeP t u := by
 have hi := iT_lt h u hne
 have h1 := h.pos _ hi
 have h2 := h.s _ hi
 have h3 := h.move _ hi
 have h4 := clT_bd h u
 have h5 := h.len
 unfold placeP eI at *
 rw [if_neg hne, wrap_id (x := clT t u - _) (by omega)]
 generalize pcA t.pieces (iT t u) = c at *
 have hb : (-900000000000000 <= c.move * (clT t u - c.at_) /\ c.move * (clT t u - c.at_) <= 900000000000000) := by
  rcases h3 with h3 | h3 | h3 <;> rw [h3] <;> omega
 rw [wrap_id (x := c.move * _) (by omega), wrap_id (by omega)]
theorem a_Place {MF MC : List AC -> Option (List AC)} {t : Trk} (h : TQ t) {u : Int} (hC : MC [I u, I t.length] = some [I (clT t u)]) (hM : MF (trkR t ++ [I (clT t u)]) = some [I (if t.pieces = [] then -1 else (iT t u : Int))]) : mf_track_Place MF MC (trkR t ++ [I u]) = some [I (placeP t u)] := by
 have he := mf_track_Place_eq MF MC (t.pieces.map pceR) t.length t.start t.dirs.x t.dirs.y t.dirs.z u
 refine Eq.trans he ?_
 simp only [trkR, List.cons_append, List.nil_append] at hM
 by_cases c : t.pieces = []
 ·rw [if_pos c] at hM
  simp only [hC, hM, go_sem]
  rw [if_pos (by omega)]
  unfold placeP; rw [if_pos c]
 ·have hi := iT_lt h u c
  have hcnt := h.count
  have hin : (0 : Int) <= (iT t u : Int) /\ (iT t u : Int) < (t.pieces.length : Int) := by omega
  rw [if_neg c] at hM
  simp only [hC, hM, go_sem, List.length_map, if_pos hin, Int.toNat_natCast, row_pcA hi, place_wrap h u c]
  rw [if_neg (by omega)]
theorem s_Place {t : Trk} (h : TQ t) (u : Int) : m_track_Place (trkR t ++ [I u]) = some [I (placeP t u)] := a_Place h s_clamp (s_find h u)
end Go.Bm
/- the axes and directions that the laws' maker makes -/
set_option maxRecDepth 100000
namespace Go.Bm
open Classical

def slow (sp : Int) (l : List Int) : Prop := (∀ v ∈ l, -4096 <= v /\ v <= 4096) /\ ∀ i, i + 1 < l.length -> -sp <= 4 * (l.getD (i + 1) 0 - l.getD i 0) /\ 4 * (l.getD (i + 1) 0 - l.getD i 0) <= sp
structure AxOK (a : Axs) : Prop where
 step : 4 <= a.step /\ a.step <= 64
 back : 0 <= a.back /\ a.back <= 6
 origin : -200 <= a.origin /\ a.origin <= 200
 spacing : a.pitch ≠ [] -> 4 <= a.spacing /\ a.spacing <= 123
 pitch : slow a.spacing a.pitch
 count : a.pitch.length <= 4
theorem getD_app {l m : List Int} {i : Nat} (h : i < l.length) : (l ++ m).getD i 0 = l.getD i 0 := by simp [List.getD_eq_getElem?_getD, List.getElem?_append_left h]
theorem getD_appR (l m : List Int) (v : Int) : (l ++ v :: m).getD l.length 0 = v := by simp [List.getD_eq_getElem?_getD]
theorem slow_snoc {sp v w : Int} {l : List Int} (h : slow sp (l ++ [v])) (hw : -4096 <= w /\ w <= 4096) (hd : -sp <= 4 * (w - v) /\ 4 * (w - v) <= sp) : slow sp (l ++ [v] ++ [w]) := by
 refine ⟨?_, ?_⟩
 ·intro x hx
  rcases List.mem_append.1 hx with hx | hx
  ·exact h.1 x hx
  ·rw [List.mem_singleton] at hx; subst hx; exact hw
 ·intro i hi
  simp only [List.length_append, List.length_cons, List.length_nil] at hi
  by_cases c : i + 1 < (l ++ [v]).length
  ·have := h.2 i c
   have c' : i < (l ++ [v]).length := by omega
   rw [getD_app c, getD_app c']
   exact this
  ·simp only [List.length_append, List.length_cons, List.length_nil] at c
   have e : i = l.length := by omega
   subst e
   have g1 : (l ++ [v] ++ [w]).getD (l.length + 1) 0 = w := by
    simp
   have g2 : (l ++ [v] ++ [w]).getD l.length 0 = v := by
    rw [List.append_assoc]; exact getD_appR l ([] ++ [w]) v
   rw [g1, g2]; exact hd
theorem slow_init {sp v : Int} {l : List Int} (h : slow sp (l ++ [v])) : slow sp l := by
 refine ⟨fun x hx => h.1 x (by simp [hx]), fun i hi => ?_⟩
 have := h.2 i (by simp; omega)
 rw [getD_app hi, getD_app (by omega)] at this
 exact this
theorem slow_one {sp v : Int} (hv : -4096 <= v /\ v <= 4096) : slow sp ([] ++ [v]) := ⟨fun x hx => by simp at hx; subst hx; exact hv, fun i hi => by simp at hi⟩

theorem step_at {v : Int} (h : 0 <= v /\ v < 6) : ∃ x, intOf (nth .dead (nth [] [[I 8], [I 4], [I 5], [I 16], [I 23], [I 64]] v.toNat) 0) = x /\ 4 <= x /\ x <= 64 := by
 have hc : v = 0 \/ v = 1 \/ v = 2 \/ v = 3 \/ v = 4 \/ v = 5 := by omega
 rcases hc with rfl | rfl | rfl | rfl | rfl | rfl <;> exact ⟨_, rfl, by decide⟩
theorem back_at {v : Int} (h : 0 <= v /\ v < 4) : ∃ x, intOf (nth .dead (nth [] [[I 0], [I 1], [I 3], [I 6]] v.toNat) 0) = x /\ 0 <= x /\ x <= 6 := by
 have hc : v = 0 \/ v = 1 \/ v = 2 \/ v = 3 := by omega
 rcases hc with rfl | rfl | rfl | rfl <;> exact ⟨_, rfl, by decide⟩
abbrev axS (l : List (List AC)) (pit : List Int) (n v : Int) (j : Nat) (a : Axs) (k : Nat) : List AC :=
 [.view kInts [], .view kInts (pit.map intR), I n, I v, I j, I 0, I 0, I 0, I 0, I 0, I 0, I 0, I 0, I 0, I a.step, I a.speed, I a.accel, I a.jerk, I a.low, I a.high, I a.back, I a.origin, I a.spacing, .view kInts l, I k]
theorem l_Axis {MN : List AC -> Option (List AC)} {l : List (List AC)} (hN : NextOK l MN) {a : Axs} (hsp : 4 <= a.spacing /\ a.spacing <= 123) : ∀ (r j : Nat) (pit : List Int) (v : Int) (k : Nat), j + r <= 4 -> pit.length = j -> slow a.spacing (pit ++ [v]) ->
  ∃ (pit' : List Int) (k' : Nat), loopC (st_cncmill_Axis_11 MN) (axS l pit (j + r : Nat) v j a k) = some (1, [.view kInts [], .view kInts (pit'.map intR), I 0, I 0, I 0, I 0, I 0, I 0, I 0, I 0, I 0, I a.step, I a.speed, I a.accel, I a.jerk, I a.low, I a.high, I a.back, I a.origin, I a.spacing, .view kInts l, I k']) /\ pit'.length = j + r /\ slow a.spacing pit'
 | 0, j, pit, v, k, _, hl, h => by
  refine ⟨pit, k, loop_end (o := (1, _)) ?_ (by simp), by omega, slow_init h⟩
  rw [st_cncmill_Axis_11_eq, bif_neg (by omega)]
 | r + 1, j, pit, v, k, hj, hl, h => by
  have hv := h.1 v (by simp)
  have e4 : IntKind.i64.wrap (a.spacing.tdiv 4) = a.spacing / 4 := by rw [Int.tdiv_eq_ediv_of_nonneg (by omega), wrap_id (by omega)]
  have e5 : IntKind.i64.wrap (IntKind.i64.wrap (2 * (a.spacing / 4)) + 1) = 2 * (a.spacing / 4) + 1 := by rw [wrap_id (x := 2 * (a.spacing / 4)) (by omega), wrap_id (by omega)]
  obtain ⟨w, k1, hw, w0, w1, -⟩ := hN k (n := 2 * (a.spacing / 4) + 1) (by omega)
  have e6 : IntKind.i64.wrap (IntKind.i64.wrap (v + w) - a.spacing / 4) = v + w - a.spacing / 4 := by rw [wrap_id (x := v + w) (by omega), wrap_id (by omega)]
  have hle : (pit.map intR ++ [[I v]]).length * 8 <= 140737488355328 := by rw [List.length_append, List.length_map]; simp only [List.length_cons, List.length_nil]; omega
  have hst : st_cncmill_Axis_11 MN (axS l pit (j + (r + 1) : Nat) v j a k) = some (0, axS l (pit ++ [v]) (j + 1 + r : Nat) (min (max (v + w - a.spacing / 4) (-4096)) 4096) (j + 1) a k1) := by
   rw [st_cncmill_Axis_11_eq]
   simp only [go_sem, if_pos hle, e4, e5, hw, e6, mn_eq, mx_eq]
   rw [if_pos (by omega), wrap_id (x := (j : Int) + 1) (by omega), show j + (r + 1) = j + 1 + r by omega]
   simp only [axS, List.map_append, List.map_cons, List.map_nil, intR, Int.natCast_add, Int.cast_ofNat_Int]
  rw [loop_more hst]
  obtain ⟨p', k', h1, h2, h3⟩ := l_Axis hN hsp r (j + 1) (pit ++ [v]) (min (max (v + w - a.spacing / 4) (-4096)) 4096) k1 (by omega) (by simp [hl]) (slow_snoc h (by omega) (by omega))
  exact ⟨p', k', h1, by omega, h3⟩
theorem a_Axis {MN : List AC -> Option (List AC)} {N : List AC -> Option (Nat × List AC)} {l : List (List AC)} (hN : NextOK l MN)
  (hL : ∀ {a : Axs} {n : Nat} {v : Int} {k : Nat}, (4 <= a.spacing /\ a.spacing <= 123) -> n <= 4 -> slow a.spacing ([] ++ [v]) -> ∃ (pit' : List Int) (k' : Nat), N (axS l [] n v 0 a k) = some (1, [.view kInts [], .view kInts (pit'.map intR), I 0, I 0, I 0, I 0, I 0, I 0, I 0, I 0, I 0, I a.step, I a.speed, I a.accel, I a.jerk, I a.low, I a.high, I a.back, I a.origin, I a.spacing, .view kInts l, I k']) /\ pit'.length = n /\ slow a.spacing pit') (k : Nat) :
  ∃ (a : Axs) (k' : Nat), mf_cncmill_Axis MN N [.view kInts l, I k] = some (axsR a ++ [.view kInts l, I k']) /\ AxOK a := by
 obtain ⟨v1, k1, h1, a1, b1, -⟩ := hN k (n := 6) (by omega)
 obtain ⟨v2, k2, h2, a2, b2, -⟩ := hN k1 (n := 4) (by omega)
 obtain ⟨v3, k3, h3, a3, b3, -⟩ := hN k2 (n := 5) (by omega)
 obtain ⟨v4, k4, h4, a4, b4, -⟩ := hN k3 (n := 5) (by omega)
 obtain ⟨v5, k5, h5, a5, b5, -⟩ := hN k4 (n := 5) (by omega)
 obtain ⟨v6, k6, h6, a6, b6, -⟩ := hN k5 (n := 5) (by omega)
 obtain ⟨v7, k7, h7, a7, b7, -⟩ := hN k6 (n := 400) (by omega)
 obtain ⟨v8, k8, h8, a8, b8, -⟩ := hN k7 (n := 120) (by omega)
 obtain ⟨v9, k9, h9, a9, b9, -⟩ := hN k8 (n := 9) (by omega)
 obtain ⟨x1, e1, s1⟩ := step_at ⟨a1, b1⟩
 obtain ⟨x2, e2, s2⟩ := back_at ⟨a2, b2⟩
 have i1 : (0 : Int) <= v1 /\ v1 < (([[I 8], [I 4], [I 5], [I 16], [I 23], [I 64]] : List (List AC)).length : Int) := ⟨a1, by simp; omega⟩
 have i2 : (0 : Int) <= v2 /\ v2 < (([[I 0], [I 1], [I 3], [I 6]] : List (List AC)).length : Int) := ⟨a2, by simp; omega⟩
 have i3 : (0 : Int) <= v3 /\ v3 < (([[I 40], [I 1], [I 3], [I 9], [I 1000]] : List (List AC)).length : Int) := ⟨a3, by simp; omega⟩
 have i4 : (0 : Int) <= v4 /\ v4 < (([[I 20], [I 2], [I 3], [I 5], [I 1000]] : List (List AC)).length : Int) := ⟨a4, by simp; omega⟩
 have i5 : (0 : Int) <= v5 /\ v5 < (([[I 30], [I 4], [I 5], [I 8], [I 1000]] : List (List AC)).length : Int) := ⟨a5, by simp; omega⟩
 generalize hx3 : intOf (nth .dead (nth [] [[I 40], [I 1], [I 3], [I 9], [I 1000]] v3.toNat) 0) = x3
 generalize hx4 : intOf (nth .dead (nth [] [[I 20], [I 2], [I 3], [I 5], [I 1000]] v4.toNat) 0) = x4
 generalize hx5 : intOf (nth .dead (nth [] [[I 30], [I 4], [I 5], [I 8], [I 1000]] v5.toNat) 0) = x5
 have main : ∀ R, R = (if v6 = 0 then some [I x1, I x3, I x4, I x5, I (-16777216), I 16777216, I x2, I 0, I 0, .view kInts [], .view kInts l, I k6] else
   (N (axS l [] v6.toNat (v9 - 4) 0 ⟨x1, x3, x4, x5, -16777216, 16777216, x2, v7 - 200, 4 + v8, []⟩ k9)).bind fun o => if o.1 = 1 then some [I (intOf (nth .dead o.2 11)), I (intOf (nth .dead o.2 12)), I (intOf (nth .dead o.2 13)), I (intOf (nth .dead o.2 14)), I (intOf (nth .dead o.2 15)), I (intOf (nth .dead o.2 16)), I (intOf (nth .dead o.2 17)), I (intOf (nth .dead o.2 18)), I (intOf (nth .dead o.2 19)), .view kInts (rowsOf (nth .dead o.2 1)), .view kInts (rowsOf (nth .dead o.2 20)), I (intOf (nth .dead o.2 21))] else none) ->
   ∃ (a : Axs) (k' : Nat), R = some (axsR a ++ [.view kInts l, I k']) /\ AxOK a := by
  intro R hR
  by_cases c : v6 = 0
  ·rw [if_pos c] at hR
   refine ⟨⟨x1, x3, x4, x5, -16777216, 16777216, x2, 0, 0, []⟩, k6, hR, ?_⟩
   exact ⟨s1, s2, by simp, fun h => absurd rfl h, ⟨by simp, by simp⟩, by simp⟩
  ·rw [if_neg c] at hR
   obtain ⟨pit, k', g1, g2, g3⟩ := hL (a := ⟨x1, x3, x4, x5, -16777216, 16777216, x2, v7 - 200, 4 + v8, []⟩) (n := v6.toNat) (v := v9 - 4) (k := k9) (by simp only; omega) (by omega) (slow_one (by omega))
   rw [g1] at hR
   refine ⟨⟨x1, x3, x4, x5, -16777216, 16777216, x2, v7 - 200, 4 + v8, pit⟩, k', ?_, ?_⟩
   ·rw [hR]; simp only [go_sem]; rfl
   ·exact ⟨s1, s2, by simp only; omega, fun _ => by simp only; omega, g3, by simp only; omega⟩
 refine main _ ?_
 rw [mf_cncmill_Axis_eq]
 simp only [go_sem, h1, h2, h3, h4, h5, h6, if_pos i1, if_pos i2, if_pos i3, if_pos i4, if_pos i5, e1, e2, hx3, hx4, hx5]
 by_cases c : v6 = 0
 ·rw [if_pos c, if_pos c]
 ·rw [if_neg c, if_neg c]
  simp only [h7, h8, h9, go_sem, wrap_id (x := v9 - 4) (by omega), wrap_id (x := v7 - 200) (by omega), wrap_id (x := 4 + v8) (by omega)]
  have e : ((v6.toNat : Nat) : Int) = v6 := by omega
  simp only [axS, e, List.map_nil]
  rfl
theorem s_Axis {l : List (List AC)} (hl : Src l) (k : Nat) : ∃ (a : Axs) (k' : Nat), m_cncmill_Axis [.view kInts l, I k] = some (axsR a ++ [.view kInts l, I k']) /\ AxOK a := by
 refine a_Axis (N := l_cncmill_Axis_11) (nextOK hl) (fun {a n v k} hs hn hv => ?_) k
 obtain ⟨p, k', h1, h2, h3⟩ := l_Axis (MN := m_cncmill_Source_Next) (nextOK hl) hs n 0 [] v k (by omega) rfl hv
 rw [Nat.zero_add] at h1 h2
 exact ⟨p, k', h1, h2, h3⟩
structure Ax3M (x : Ax3) : Prop where
 a : AxOK x.a
 b : AxOK x.b
 c : AxOK x.c
theorem Ax3M.ok {x : Ax3} (h : Ax3M x) : Ax3OK x := ⟨by have := h.a.back; omega, by have := h.b.back; omega, by have := h.c.back; omega⟩
theorem s_Axes {l : List (List AC)} (hl : Src l) : ∃ x : Ax3, m_cncmill_Axes [.view kInts l] = some (ax3R x) /\ Ax3M x := by
 obtain ⟨a, k1, h1, g1⟩ := s_Axis hl 0
 obtain ⟨b, k2, h2, g2⟩ := s_Axis hl k1
 obtain ⟨c, k3, h3, g3⟩ := s_Axis hl k2
 refine ⟨⟨a, b, c⟩, ?_, g1, g2, g3⟩
 have hf := s_From l
 unfold m_cncmill_Axes
 generalize m_cncmill_Axis = MA at *
 generalize m_cncmill_From = MF at *
 rw [mf_cncmill_Axes_eq]
 have h1' : MA [.view kInts l, I 0] = some (axsR a ++ [.view kInts l, I k1]) := h1
 simp only [axsR, List.cons_append, List.nil_append] at h1' h2 h3
 simp only [go_sem, hf, h1', h2, h3]
theorem s_Dirs {n : Int} (hn : i64 n) : ∃ d : Pt, m_cncmill_Dirs [I n] = some (ptR d) /\ (d.x = 1 \/ d.x = -1) /\ (d.y = 1 \/ d.y = -1) /\ (d.z = 1 \/ d.z = -1) := by
 have hm := s_cncmill_Mod hn (n := 8) (by omega)
 unfold m_cncmill_Dirs
 generalize m_cncmill_Mod = M at *
 rw [mf_cncmill_Dirs_eq]
 simp only [hm, go_sem]
 have h : n % 8 = 0 \/ n % 8 = 1 \/ n % 8 = 2 \/ n % 8 = 3 \/ n % 8 = 4 \/ n % 8 = 5 \/ n % 8 = 6 \/ n % 8 = 7 := by omega
 rcases h with h | h | h | h | h | h | h | h <;> rw [h]
 ·exact ⟨⟨1, 1, 1⟩, rfl, by simp⟩
 ·exact ⟨⟨-1, 1, 1⟩, rfl, by simp⟩
 ·exact ⟨⟨1, -1, 1⟩, rfl, by simp⟩
 ·exact ⟨⟨-1, -1, 1⟩, rfl, by simp⟩
 ·exact ⟨⟨1, 1, -1⟩, rfl, by simp⟩
 ·exact ⟨⟨-1, 1, -1⟩, rfl, by simp⟩
 ·exact ⟨⟨1, -1, -1⟩, rfl, by simp⟩
 ·exact ⟨⟨-1, -1, -1⟩, rfl, by simp⟩
end Go.Bm
/- tracks: the way between two positions, by the program; the law TrackLeg -/
set_option maxRecDepth 100000
namespace Go.Bm
open Classical

theorem legN_keep {p : Pth} {x : Ax3} {mv lo hi f : Int} {d : Pt} (j : Nat) : (legN p x mv lo hi (⟨[], 0, f, d⟩, d) j).1.start = f /\ (legN p x mv lo hi (⟨[], 0, f, d⟩, d) j).1.dirs = d := by
 induction j with
 | zero => exact ⟨rfl, rfl⟩
 | succ j ih => rw [legN, (segT_keep _).1, (segT_keep _).2]; exact ih
theorem legP_bd {p : Pth} {x : Ax3} (d : Pt) (a b : Int) (hp : GoodPath p) (hx : Ax3OK x) : (legP p x d a b).pieces.length <= 10000000 /\ 0 <= (legP p x d a b).length /\ (legP p x d a b).length <= 900000000000000 := by
 have hc := hp.count
 have h := legN_bd (mv := if clampP a (sumLen p.segs) > clampP b (sumLen p.segs) then -1 else 1) (lo := min (clampP a (sumLen p.segs)) (clampP b (sumLen p.segs))) (hi := max (clampP a (sumLen p.segs)) (clampP b (sumLen p.segs))) (f := clampP a (sumLen p.segs)) (d := d) hx hp.ok p.segs.length (Nat.le_refl _)
 obtain ⟨h1, h2, -⟩ := h
 unfold legP
 simp only
 refine ⟨by omega, by omega, by omega⟩
end Go.Bm
/- tracks: what is known of every way over a path -/
set_option maxRecDepth 100000
namespace Go.Bm
open Classical

theorem endAt_ge {x : Ax3} {mv : Int} {Q : Int -> Pt -> Prop} : ∀ {a s : Int} {d : Pt} {l : List Pce}, chain x mv Q a s d l -> a <= endAt a l
 | a, _, _, [], _ => Int.le_refl _
 | a, s, d, c :: l, h => by
  obtain ⟨-, -, h3, -, h5⟩ := h
  have := endAt_ge h5
  unfold endAt; omega
theorem chain_pos {x : Ax3} {mv : Int} {Q : Int -> Pt -> Prop} (hv : mv = 1 \/ mv = -1) : ∀ {a s : Int} {d : Pt} {l : List Pce}, chain x mv Q a s d l -> ∀ i, i < l.length ->
  a <= (pcA l i).at_ /\ 1 <= (pcA l i).units /\ eI l i <= endAt a l /\ (s - ((pcA l i).at_ - a) <= (pcA l i).s /\ (pcA l i).s <= s + ((pcA l i).at_ - a)) /\ ((pcA l i).move = 0 \/ (pcA l i).move = mv)
 | a, s, d, c :: l, h, 0, _ => by
  obtain ⟨h1, h2, h3, h4, h5⟩ := h
  have := endAt_ge h5
  unfold eI
  rw [pcA_zero]
  refine ⟨by omega, h3, by unfold endAt; omega, by omega, ?_⟩
  rcases h4 with h4 | h4
  ·exact .inr h4.1
  ·exact .inl h4.1
 | a, s, d, c :: l, h, i + 1, hi => by
  obtain ⟨h1, h2, h3, h4, h5⟩ := h
  have ih := chain_pos hv h5 i (by simpa using hi)
  unfold eI at ih ⊢
  rw [pcA_cons]
  obtain ⟨g1, g2, g3, g4, g5⟩ := ih
  have hm : c.move * c.units = 0 \/ c.move * c.units = c.units \/ c.move * c.units = -c.units := by
   rcases h4 with h4 | h4
   ·rw [h4.1]; rcases hv with rfl | rfl <;> omega
   ·rw [h4.1]; omega
  refine ⟨by omega, g2, by unfold endAt; exact g3, by omega, g5⟩
theorem chain_mono {x : Ax3} {mv : Int} {Q : Int -> Pt -> Prop} (hv : mv = 1 \/ mv = -1) : ∀ {a s : Int} {d : Pt} {l : List Pce}, chain x mv Q a s d l -> ∀ i j, i <= j -> j < l.length -> eI l i <= eI l j
 | a, s, d, c :: l, h, 0, 0, _, _ => Int.le_refl _
 | a, s, d, c :: l, h, 0, j + 1, _, hj => by
  obtain ⟨h1, h2, h3, h4, h5⟩ := h
  have := chain_pos hv h5 j (by simpa using hj)
  unfold eI at *
  rw [pcA_zero, pcA_cons]; omega
 | a, s, d, c :: l, h, i + 1, 0, hij, _ => by omega
 | a, s, d, c :: l, h, i + 1, j + 1, hij, hj => by
  obtain ⟨h1, h2, h3, h4, h5⟩ := h
  have := chain_mono hv h5 i j (by omega) (by simpa using hj)
  unfold eI at *
  rw [pcA_cons, pcA_cons]; exact this
theorem chain_last {x : Ax3} {mv : Int} {Q : Int -> Pt -> Prop} : ∀ {a s : Int} {d : Pt} {l : List Pce}, chain x mv Q a s d l -> l ≠ [] -> eI l (l.length - 1) = endAt a l
 | a, s, d, [c], h, _ => by
  obtain ⟨h1, -⟩ := h
  show eI [c] 0 = endAt a [c]
  unfold eI
  rw [pcA_zero]; simp only [endAt]; omega
 | a, s, d, c :: e :: l, h, _ => by
  obtain ⟨-, -, -, -, h5⟩ := h
  have := chain_last h5 (by simp)
  have e1 : (c :: e :: l).length - 1 = ((e :: l).length - 1) + 1 := by simp
  rw [e1]
  unfold eI at *
  rw [pcA_cons, this]; rfl
def mvP (p : Pth) (a b : Int) : Int := if clampP a (sumLen p.segs) > clampP b (sumLen p.segs) then -1 else 1
theorem mvP_or (p : Pth) (a b : Int) : mvP p a b = 1 \/ mvP p a b = -1 := by unfold mvP; split <;> simp
theorem legP_chain {p : Pth} {x : Ax3} {d : Pt} {a b : Int} {Q : Int -> Pt -> Prop} (hx : Ax3OK x) (hp : GoodPath p) (hQ : SegQ p (mvP p a b) Q) :
  ∃ d', TC x (mvP p a b) Q (legP p x d a b) (clampP b (sumLen p.segs)) d' /\ (legP p x d a b).start = clampP a (sumLen p.segs) /\ (legP p x d a b).dirs = d := by
 have hn := sum_path hp
 have ha : 0 <= clampP a (sumLen p.segs) /\ clampP a (sumLen p.segs) <= sumLen p.segs := by unfold clampP; omega
 have hb : 0 <= clampP b (sumLen p.segs) /\ clampP b (sumLen p.segs) <= sumLen p.segs := by unfold clampP; omega
 have hk := fun mv lo hi f => legN_keep (p := p) (x := x) (mv := mv) (lo := lo) (hi := hi) (f := f) (d := d) p.segs.length
 unfold legP mvP at *
 simp only
 generalize clampP a (sumLen p.segs) = f at *
 generalize clampP b (sumLen p.segs) = t at *
 have h := legN_chain (p := p) (x := x) (mv := if f > t then -1 else 1) (lo := min f t) (hi := max f t) (f := f) (d := d) (Q := Q) (by split <;> simp) hx hp.ok (by omega) (by split <;> omega) hQ p.segs.length (Nat.le_refl _)
 have hs : wayS p.segs (if f > t then -1 else 1) (min f t) (max f t) p.segs.length = t := by
  unfold wayS
  rw [Nat.sub_self, posL_zero, posL_len]
  by_cases c : f > t
  ·rw [if_pos c, if_pos (by omega)]; omega
  ·rw [if_neg c, if_neg (by omega)]; omega
 rw [hs] at h
 exact ⟨_, h, (hk _ _ _ _).1, (hk _ _ _ _).2⟩
theorem TQ_of {x : Ax3} {mv : Int} {Q : Int -> Pt -> Prop} {t : Trk} {s : Int} {d : Pt} (hv : mv = 1 \/ mv = -1) (h : TC x mv Q t s d) (hb : t.pieces.length <= 10000000 /\ 0 <= t.length /\ t.length <= 900000000000000) (hs : 0 <= t.start /\ t.start <= 263886834032640) : TQ t := by
 obtain ⟨h1, h2, -, -⟩ := h
 refine ⟨hb.1, hb.2, fun i hi => ?_, chain_mono hv h1, fun hne => by rw [chain_last h1 hne, h2], hs, fun i hi => ?_, fun i hi => ?_⟩
 ·have := chain_pos hv h1 i hi
  rw [h2] at this; exact ⟨this.1, this.2.1, this.2.2.1⟩
 ·have := chain_pos hv h1 i hi
  rw [h2] at this; unfold eI at this; omega
 ·have := (chain_pos hv h1 i hi).2.2.2.2
  rcases hv with rfl | rfl
  ·rcases this with h | h
   ·exact .inl h
   ·exact .inr (.inl h)
  ·rcases this with h | h
   ·exact .inl h
   ·exact .inr (.inr h)
theorem legP_TQ {p : Pth} {x : Ax3} (d : Pt) (a b : Int) (hx : Ax3OK x) (hp : GoodPath p) : TQ (legP p x d a b) := by
 have hn := sum_path hp
 obtain ⟨d', h1, h2, -⟩ := legP_chain (d := d) (a := a) (b := b) (Q := fun _ _ => True) hx hp (fun _ _ _ _ _ _ _ _ => trivial)
 exact TQ_of (mvP_or p a b) h1 (legP_bd d a b hp hx) (by rw [h2]; unfold clampP; omega)
theorem a_run {ML MM MD MN MA MP : List AC -> Option (List AC)} {l ax : List (List AC)} {dirs from_ to : Int} {p : Pth} {x : Ax3} {d : Pt} (hP : MP [.view kInts l, I 5] = some (pthR p)) (hA : MA [.view kInts ax] = some (ax3R x)) (hD : MD [I dirs] = some (ptR d)) (hL : MN (pthR p) = some [I (sumLen p.segs)])
  (hn : 0 <= sumLen p.segs /\ sumLen p.segs <= 263886834032640) (hM : ∀ {v : Int}, (v = from_ \/ v = to) -> MM [I v, I (sumLen p.segs + 1)] = some [I (v % (sumLen p.segs + 1))]) {t : Trk} (hT : ML (pthR p ++ ax3R x ++ [I d.x, I d.y, I d.z, I (from_ % (sumLen p.segs + 1)), I (to % (sumLen p.segs + 1))]) = some (trkR t)) :
  mf_cnclaw29_run ML MM MD MN MA MP [.view kInts l, .view kInts ax, I dirs, I from_, I to] = some (pthR p ++ ax3R x ++ trkR t ++ [I (sumLen p.segs)]) := by
 rw [mf_cnclaw29_run_eq]
 simp only [trkR, ax3R, pthR, List.cons_append, List.nil_append] at *
 simp only [go_sem, hP, hA, hD, hL, wrap_id (x := sumLen p.segs + 1) (by omega), hM (.inl rfl), hM (.inr rfl), hT]
theorem s_run {l ax : List (List AC)} (hl : Src l) (ha : Src ax) {dirs from_ to : Int} (h2 : i64 dirs) (h3 : i64 from_) (h4 : i64 to) :
  ∃ (p : Pth) (x : Ax3) (d : Pt) (a b : Int), m_cnclaw29_run [.view kInts l, .view kInts ax, I dirs, I from_, I to] = some (pthR p ++ ax3R x ++ trkR (legP p x d a b) ++ [I (sumLen p.segs)]) /\ GoodPath p /\ Ax3M x /\ ((d.x = 1 \/ d.x = -1) /\ (d.y = 1 \/ d.y = -1) /\ (d.z = 1 \/ d.z = -1)) := by
 obtain ⟨p, hP, hp⟩ := s_MillPath hl (most := 5) (by omega)
 obtain ⟨x, hA, hx⟩ := s_Axes ha
 obtain ⟨d, hD, hd⟩ := s_Dirs h2
 have hn := sum_path hp
 refine ⟨p, x, d, from_ % (sumLen p.segs + 1), to % (sumLen p.segs + 1), ?_, hp, hx, hd⟩
 exact a_run hP hA hD (s_ref_Length hp.ok) hn (fun {v} hv => s_cncmill_Mod (by rcases hv with rfl | rfl <;> assumption) (by omega)) (s_refLeg hp hx.ok)
end Go.Bm
/- motors: corrected positions, steps, the difference of a motor and its table -/
set_option maxRecDepth 100000
namespace Go.Bm
open Classical

def pitA (a : Axs) (i : Nat) : Int := a.pitch.getD i 0
def corP (a : Axs) (p : Int) : Int :=
 if a.pitch = [] then 0
 else if p <= a.origin then pitA a 0
 else if (p - a.origin) / a.spacing >= a.pitch.length - 1 then pitA a (a.pitch.length - 1)
 else pitA a ((p - a.origin) / a.spacing).toNat + near ((pitA a (((p - a.origin) / a.spacing).toNat + 1) - pitA a ((p - a.origin) / a.spacing).toNat) * (p - a.origin - (p - a.origin) / a.spacing * a.spacing)) a.spacing
def motP (a : Axs) (p : Int) : Int := near (p + corP a p) a.step
def okB (p : Int) : Prop := -1000000000 <= p /\ p <= 1000000000
theorem ne_len {l : List Int} (h : l ≠ []) : 0 < l.length := by
 cases l with
 | nil => exact absurd rfl h
 | cons _ _ => simp
theorem pitA_bd {a : Axs} (h : AxOK a) {i : Nat} (hi : i < a.pitch.length) : -4096 <= pitA a i /\ pitA a i <= 4096 := by
 have e : pitA a i = a.pitch[i] := by unfold pitA; simp [hi]
 rw [e]; exact h.pitch.1 _ (List.getElem_mem _)
theorem row_pit {a : Axs} {i : Nat} (hi : i < a.pitch.length) : nth [] (a.pitch.map intR) i = [I (pitA a i)] := by
 have e : pitA a i = a.pitch[i] := by unfold pitA; simp [hi]
 rw [e]; exact nth_map _ _ _ _ hi
theorem mid_knots {a : Axs} (h : AxOK a) (hne : a.pitch ≠ []) {p : Int} (h1 : ¬ p <= a.origin) (h2 : ¬ (p - a.origin) / a.spacing >= a.pitch.length - 1) :
  ∃ (i : Nat) (r : Int), ((p - a.origin) / a.spacing = i) /\ i + 1 < a.pitch.length /\ 0 <= r /\ r < a.spacing /\ p - a.origin = i * a.spacing + r /\ p - a.origin - (p - a.origin) / a.spacing * a.spacing = r := by
 have hs := h.spacing hne
 have e0 := Int.mul_ediv_add_emod (p - a.origin) a.spacing
 have e1 := Int.emod_nonneg (p - a.origin) (show a.spacing ≠ 0 by omega)
 have e2 := Int.emod_lt_of_pos (p - a.origin) (show 0 < a.spacing by omega)
 have e3 : 0 <= (p - a.origin) / a.spacing := Int.ediv_nonneg (by omega) (by omega)
 refine ⟨((p - a.origin) / a.spacing).toNat, (p - a.origin) % a.spacing, by omega, by omega, e1, e2, ?_, ?_⟩
 ·rw [Int.toNat_of_nonneg e3, Int.mul_comm]; omega
 ·rw [Int.mul_comm ((p - a.origin) / a.spacing)]; omega
theorem near_diff {a : Axs} (h : AxOK a) (hne : a.pitch ≠ []) {i : Nat} (hi : i + 1 < a.pitch.length) {r : Int} (hr : 0 <= r /\ r <= a.spacing) :
  (-30 <= pitA a (i + 1) - pitA a i /\ pitA a (i + 1) - pitA a i <= 30) /\ (near ((pitA a (i + 1) - pitA a i) * r) a.spacing).natAbs <= 31 := by
 have hs := h.spacing hne
 have hp := h.pitch.2 i hi
 have hd : -30 <= pitA a (i + 1) - pitA a i /\ pitA a (i + 1) - pitA a i <= 30 := by unfold pitA; omega
 refine ⟨hd, near_bd (by omega) ?_⟩
 have m1 : (pitA a (i + 1) - pitA a i) * r <= 31 * r := Int.mul_le_mul_of_nonneg_right (by omega) hr.1
 have m2 : -31 * r <= (pitA a (i + 1) - pitA a i) * r := Int.mul_le_mul_of_nonneg_right (by omega) hr.1
 have e : ((31 : Nat) : Int) = 31 := rfl
 rw [e]; omega
theorem corP_bd {a : Axs} (h : AxOK a) (p : Int) : -5000 <= corP a p /\ corP a p <= 5000 := by
 unfold corP
 by_cases c : a.pitch = []
 ·rw [if_pos c]; omega
 ·have hl := ne_len c
  rw [if_neg c]
  by_cases c1 : p <= a.origin
  ·rw [if_pos c1]; have := pitA_bd h (show 0 < a.pitch.length from hl); omega
  ·rw [if_neg c1]
   by_cases c2 : (p - a.origin) / a.spacing >= a.pitch.length - 1
   ·rw [if_pos c2]; have := pitA_bd h (show a.pitch.length - 1 < a.pitch.length by omega); omega
   ·rw [if_neg c2]
    obtain ⟨i, r, e1, e2, e3, e4, e5, e6⟩ := mid_knots h c c1 c2
    rw [e6, e1, Int.toNat_natCast]
    have b1 := pitA_bd h (show i < a.pitch.length by omega)
    have b2 := (near_diff h c e2 (r := r) (by omega)).2
    omega

theorem s_Floor {x n : Int} (hn : 0 < n /\ n <= 1000000000) (hx : x.natAbs <= 1000000000000000) : m_cncref26_Floor [I x, I n] = some [I (x / n)] := by
 unfold m_cncref26_Floor
 rw [mf_cncref26_Floor_eq]
 have hm := Int.tmod_add_mul_tdiv x n
 have h1 := Int.tmod_lt_of_pos x (show 0 < n by omega)
 have h2 := Int.lt_tmod_of_pos x (show 0 < n by omega)
 have hq : (x.tdiv n).natAbs <= x.natAbs := by rw [Int.natAbs_tdiv]; exact Nat.div_le_self _ _
 have key : ∀ k : Int, k * n <= x -> x < (k + 1) * n -> x / n = k := by
  intro k g1 g2
  have a1 : k <= x / n := (Int.le_ediv_iff_mul_le (by omega)).2 g1
  have a2 : x / n < k + 1 := (Int.ediv_lt_iff_lt_mul (by omega)).2 g2
  omega
 generalize x.tdiv n = q at *
 generalize x.tmod n = r at *
 have e1 : n * q = q * n := Int.mul_comm _ _
 rw [bif_neg (by omega), bif_neg (by omega), wrap_id (x := q) (by omega)]
 by_cases h : r < 0
 ·rw [bif_pos h, wrap_id (by omega), key (q - 1)]
  ·rw [Int.sub_mul]; omega
  ·rw [Int.sub_add_cancel]; omega
 ·rw [bif_neg h, key q]
  ·omega
  ·rw [Int.add_mul]; omega
theorem s_refSteps {a : Axs} (h : AxOK a) {v : Int} (hv : v.natAbs <= 1000010000) : m_cncref26_Steps (axsR a ++ [I v]) = some [I (near v a.step)] := by
 have hs := h.step
 have hf := s_Floor (x := 2 * v + a.step) (n := 2 * a.step) (by omega) (by omega)
 have he := mf_cncref26_Steps_eq m_cncref26_Floor a.step a.speed a.accel a.jerk a.low a.high a.back a.origin a.spacing (a.pitch.map intR) v
 unfold m_cncref26_Steps
 generalize m_cncref26_Floor = M at *
 refine Eq.trans he ?_
 rw [wrap_id (x := 2 * v) (by omega), wrap_id (x := 2 * v + a.step) (by omega), wrap_id (x := 2 * a.step) (by omega), hf]
 rfl
theorem s_axSteps {a : Axs} (h : AxOK a) {v : Int} (hv : v.natAbs <= 1000010000) : m_axis_Steps (axsR a ++ [I v]) = some [I (near v a.step)] := by
 have hs := h.step
 have he := mf_axis_Steps_eq a.step a.speed a.accel a.jerk a.low a.high a.back a.origin a.spacing (a.pitch.map intR) v
 unfold m_axis_Steps
 refine Eq.trans he ?_
 rw [wrap_id (x := 2 * v) (by omega), wrap_id (x := 2 * v + a.step) (by omega), wrap_id (x := 2 * a.step) (by omega)]
 have hm := Int.tmod_add_mul_tdiv (2 * v + a.step) (2 * a.step)
 have h1 := Int.tmod_lt_of_pos (2 * v + a.step) (show 0 < 2 * a.step by omega)
 have h2 := Int.lt_tmod_of_pos (2 * v + a.step) (show 0 < 2 * a.step by omega)
 have hq : ((2 * v + a.step).tdiv (2 * a.step)).natAbs <= (2 * v + a.step).natAbs := by rw [Int.natAbs_tdiv]; exact Nat.div_le_self _ _
 generalize (2 * v + a.step).tdiv (2 * a.step) = q at *
 generalize (2 * v + a.step).tmod (2 * a.step) = r at *
 have e1 : 2 * a.step * q = q * (2 * a.step) := Int.mul_comm _ _
 rw [bif_neg (by omega), bif_neg (by omega), bif_neg (by omega), bif_neg (by omega), wrap_id (x := q) (by omega)]
 by_cases h : r < 0
 ·rw [bif_pos h, wrap_id (by omega), near_of (k := q - 1) (by omega)]
  ·rw [Int.sub_mul]; omega
  ·rw [Int.sub_add_cancel]; omega
 ·rw [bif_neg h, near_of (k := q) (by omega)]
  ·omega
  ·rw [Int.add_mul]; omega
theorem s_refCorrect {a : Axs} (h : AxOK a) {p : Int} (hp : okB p) : m_cncref27_Correct (axsR a ++ [I p]) = some [I (corP a p)] := by
 unfold okB at hp
 have ho := h.origin
 have hc := h.count
 have he := mf_cncref27_Correct_eq m_cncref26_Floor a.step a.speed a.accel a.jerk a.low a.high a.back a.origin a.spacing (a.pitch.map intR) p
 unfold m_cncref27_Correct
 have hF := fun {x : Int} (hx : x.natAbs <= 1000000000000000) (hs : 4 <= a.spacing /\ a.spacing <= 123) => s_Floor (x := x) (n := 2 * a.spacing) (by omega) hx
 generalize m_cncref26_Floor = M at *
 refine Eq.trans he ?_
 unfold corP
 rw [List.length_map]
 by_cases c : a.pitch = []
 ·rw [if_pos c, c]; rfl
 ·have hl := ne_len c
  have hs := h.spacing c
  have e1 : IntKind.i64.wrap ((a.pitch.length : Int) - 1) = ((a.pitch.length - 1 : Nat) : Int) := by rw [wrap_id (by omega)]; omega
  have e2 : IntKind.i64.wrap (p - a.origin) = p - a.origin := wrap_id (by omega)
  rw [if_neg c]
  by_cases c1 : p <= a.origin
  ·rw [if_pos c1]
   simp only [go_sem, row_pit hl]
   rw [if_neg (by omega), if_pos c1, if_pos (by omega)]
  ·have e3 : IntKind.i64.wrap ((p - a.origin).tdiv a.spacing) = (p - a.origin) / a.spacing := by
    rw [Int.tdiv_eq_ediv_of_nonneg (by omega)]
    have := Int.ediv_nonneg (show 0 <= p - a.origin by omega) (show 0 <= a.spacing by omega)
    have := Int.ediv_le_self a.spacing (show 0 <= p - a.origin by omega)
    exact wrap_id (by omega)
   have hcast : ((a.pitch.length : Int) - 1) = ((a.pitch.length - 1 : Nat) : Int) := by omega
   rw [if_neg c1, e2, e3, e1]
   by_cases c2 : (p - a.origin) / a.spacing >= (a.pitch.length : Int) - 1
   ·rw [if_pos c2]
    simp only [go_sem, Int.toNat_natCast, row_pit (show a.pitch.length - 1 < a.pitch.length by omega)]
    rw [if_neg (by omega), if_neg c1, if_neg (by omega), if_pos (by omega), if_pos (by omega)]
   ·rw [if_neg c2]
    obtain ⟨i, r, g1, g2, g3, g4, g5, g6⟩ := mid_knots h c c1 c2
    obtain ⟨n1, n2⟩ := near_diff h c g2 (r := r) (by omega)
    have b1 := pitA_bd h (show i < a.pitch.length by omega)
    rw [g6, g1] at *
    rw [Int.toNat_natCast]
    have w1 : IntKind.i64.wrap ((i : Int) + 1) = ((i + 1 : Nat) : Int) := by rw [wrap_id (by omega)]; omega
    have hmul : (i : Int) * a.spacing = p - a.origin - r := by omega
    have w2 : IntKind.i64.wrap (p - a.origin - IntKind.i64.wrap ((i : Int) * a.spacing)) = r := by rw [hmul, wrap_id (x := p - a.origin - r) (by omega), wrap_id (by omega)]; omega
    have hin1 : (0 : Int) <= (i : Int) /\ (i : Int) < (a.pitch.length : Int) := by omega
    have hin2 : (0 : Int) <= ((i + 1 : Nat) : Int) /\ ((i + 1 : Nat) : Int) < (a.pitch.length : Int) := by omega
    simp only [go_sem, w1, w2, Int.toNat_natCast, row_pit (show i < a.pitch.length by omega), row_pit g2, if_pos hin1, if_pos hin2]
    have b2 := pitA_bd h g2
    generalize pitA a (i + 1) = y at *
    generalize pitA a i = z at *
    have m1 : (y - z) * r <= 30 * r := Int.mul_le_mul_of_nonneg_right (by omega) g3
    have m2 : -30 * r <= (y - z) * r := Int.mul_le_mul_of_nonneg_right (by omega) g3
    have em : 2 * (y - z) * r = 2 * ((y - z) * r) := by rw [Int.mul_assoc]
    rw [if_neg (by omega), if_neg c1, if_neg (by omega), if_neg (by omega), wrap_id (x := y - z) (by omega), wrap_id (x := 2 * (y - z)) (by omega), em, wrap_id (x := 2 * ((y - z) * r)) (by omega), wrap_id (x := 2 * ((y - z) * r) + a.spacing) (by omega), wrap_id (x := 2 * a.spacing) (by omega), hF (by omega) hs]
    have en : (2 * ((y - z) * r) + a.spacing) / (2 * a.spacing) = near ((y - z) * r) a.spacing := rfl
    simp only [go_sem, en]
    rw [wrap_id (by omega)]
theorem s_pCorrect {a : Axs} (h : AxOK a) {p : Int} (hp : okB p) : m_pitch_Correct (axsR a ++ [I p]) = some [I (corP a p)] := by
 unfold okB at hp
 have ho := h.origin
 have hc := h.count
 have he := mf_pitch_Correct_eq m_wide_MulDiv a.step a.speed a.accel a.jerk a.low a.high a.back a.origin a.spacing (a.pitch.map intR) p
 unfold m_pitch_Correct
 have hF := fun {x y : Int} (hx : x.natAbs <= 30) (hy : y.natAbs <= 123) (hs : 4 <= a.spacing /\ a.spacing <= 123) => s_MulDivA (a := x) (b := y) (c := a.spacing) (by omega) (by omega) (by omega)
 generalize m_wide_MulDiv = M at *
 refine Eq.trans he ?_
 unfold corP
 rw [List.length_map]
 by_cases c : a.pitch = []
 ·rw [if_pos c, c]; rfl
 ·have hl := ne_len c
  have hs := h.spacing c
  have e1 : IntKind.i64.wrap ((a.pitch.length : Int) - 1) = ((a.pitch.length - 1 : Nat) : Int) := by rw [wrap_id (by omega)]; omega
  have e2 : IntKind.i64.wrap (p - a.origin) = p - a.origin := wrap_id (by omega)
  rw [if_neg c, e2, e1]
  by_cases c1 : p <= a.origin
  ·rw [if_pos c1]
   simp only [go_sem, row_pit hl]
   rw [if_neg (by omega), if_pos (by omega), if_pos (by omega)]
  ·have e3 : IntKind.i64.wrap ((p - a.origin).tdiv a.spacing) = (p - a.origin) / a.spacing := by
    rw [Int.tdiv_eq_ediv_of_nonneg (by omega)]
    have := Int.ediv_nonneg (show 0 <= p - a.origin by omega) (show 0 <= a.spacing by omega)
    have := Int.ediv_le_self a.spacing (show 0 <= p - a.origin by omega)
    exact wrap_id (by omega)
   rw [if_neg c1, e3]
   by_cases c2 : (p - a.origin) / a.spacing >= (a.pitch.length : Int) - 1
   ·rw [if_pos c2]
    simp only [go_sem, Int.toNat_natCast, row_pit (show a.pitch.length - 1 < a.pitch.length by omega)]
    rw [if_neg (by omega), if_neg (by omega), if_neg (by omega), if_neg (by omega), if_pos (by omega), if_pos (by omega)]
   ·rw [if_neg c2]
    obtain ⟨i, r, g1, g2, g3, g4, g5, g6⟩ := mid_knots h c c1 c2
    obtain ⟨n1, n2⟩ := near_diff h c g2 (r := r) (by omega)
    have b1 := pitA_bd h (show i < a.pitch.length by omega)
    rw [g6, g1] at *
    rw [Int.toNat_natCast]
    have w1 : IntKind.i64.wrap ((i : Int) + 1) = ((i + 1 : Nat) : Int) := by rw [wrap_id (by omega)]; omega
    have hmul : (i : Int) * a.spacing = p - a.origin - r := by omega
    have w2 : IntKind.i64.wrap (p - a.origin - IntKind.i64.wrap ((i : Int) * a.spacing)) = r := by rw [hmul, wrap_id (x := p - a.origin - r) (by omega), wrap_id (by omega)]; omega
    have hin1 : (0 : Int) <= (i : Int) /\ (i : Int) < (a.pitch.length : Int) := by omega
    have hin2 : (0 : Int) <= ((i + 1 : Nat) : Int) /\ ((i + 1 : Nat) : Int) < (a.pitch.length : Int) := by omega
    simp only [go_sem, w1, w2, Int.toNat_natCast, row_pit (show i < a.pitch.length by omega), row_pit g2, if_pos hin1, if_pos hin2]
    have b2 := pitA_bd h g2
    generalize pitA a (i + 1) = y at *
    generalize pitA a i = z at *
    rw [if_neg (by omega), if_neg (by omega), if_neg (by omega), if_neg (by omega), if_neg (by omega), wrap_id (x := y - z) (by omega), hF (by omega) (by omega) hs]
    simp only [go_sem]
    rw [wrap_id (by omega)]
theorem s_refMotor {a : Axs} (h : AxOK a) {p : Int} (hp : okB p) : m_cncref27_Motor (axsR a ++ [I p]) = some [I (motP a p)] := by
 have hb := corP_bd h p
 have h1 := s_refCorrect h hp
 unfold okB at hp
 have h2 := s_refSteps h (v := p + corP a p) (by omega)
 have he := mf_cncref27_Motor_eq m_cncref26_Steps m_cncref27_Correct a.step a.speed a.accel a.jerk a.low a.high a.back a.origin a.spacing (a.pitch.map intR) p
 unfold m_cncref27_Motor
 generalize m_cncref26_Steps = M1 at *
 generalize m_cncref27_Correct = M2 at *
 refine Eq.trans he ?_
 simp only [axsR, List.cons_append, List.nil_append] at h1 h2
 simp only [h1, go_sem, wrap_id (x := p + corP a p) (by omega), h2]
 rfl
theorem s_pMotor {a : Axs} (h : AxOK a) {p : Int} (hp : okB p) : m_pitch_Motor (axsR a ++ [I p]) = some [I (motP a p)] := by
 have hb := corP_bd h p
 have h1 := s_pCorrect h hp
 unfold okB at hp
 have h2 := s_axSteps h (v := p + corP a p) (by omega)
 have he := mf_pitch_Motor_eq m_axis_Steps m_pitch_Correct a.step a.speed a.accel a.jerk a.low a.high a.back a.origin a.spacing (a.pitch.map intR) p
 unfold m_pitch_Motor
 generalize m_axis_Steps = M1 at *
 generalize m_pitch_Correct = M2 at *
 refine Eq.trans he ?_
 simp only [axsR, List.cons_append, List.nil_append] at h1 h2
 simp only [h1, go_sem, wrap_id (x := p + corP a p) (by omega), h2]
 rfl
end Go.Bm
