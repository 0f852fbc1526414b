/- laid together -/
import Derived.Test.YtdllaekpkcanbaaGreatPrAx
import Derived.Test.YtdllaekpkcanbaaGreatMy1
import Derived.Test.YtdllaekpkcanbaaGreatPrI3
set_option linter.unusedVariables false
set_option linter.unusedSimpArgs false
/- tracks: the way between two positions, by the program; the law TrackLeg -/
set_option maxRecDepth 100000
namespace Go.Bm
open Classical

theorem legN_keep {p : Pth} {x : Ax3} {mv lo hi f : Int} {d : Pt} (j : Nat) : (legN p x mv lo hi (⟨[], 0, f, d⟩, d) j).1.start = f ∧ (legN p x mv lo hi (⟨[], 0, f, d⟩, d) j).1.dirs = d := by
 induction j with
 | zero => exact ⟨rfl, rfl⟩
 | succ j ih => rw [legN, (segT_keep _).1, (segT_keep _).2]; exact ih
theorem legP_bd {p : Pth} {x : Ax3} (d : Pt) (a b : Int) (hp : GoodPath p) (hx : Ax3OK x) : (legP p x d a b).pieces.length ≤ 10000000 ∧ 0 ≤ (legP p x d a b).length ∧ (legP p x d a b).length ≤ 900000000000000 := by
 have hc := hp.count
 have h := legN_bd (mv := if clampP a (sumLen p.segs) > clampP b (sumLen p.segs) then -1 else 1) (lo := min (clampP a (sumLen p.segs)) (clampP b (sumLen p.segs))) (hi := max (clampP a (sumLen p.segs)) (clampP b (sumLen p.segs))) (f := clampP a (sumLen p.segs)) (d := d) hx hp.ok p.segs.length (Nat.le_refl _)
 obtain ⟨h1, h2, -⟩ := h
 unfold legP
 simp only
 refine ⟨by omega, by omega, by omega⟩
end Go.Bm
/- tracks: what is known of every way over a path -/
set_option maxRecDepth 100000
namespace Go.Bm
open Classical

theorem endAt_ge {x : Ax3} {mv : Int} {Q : Int → Pt → Prop} : ∀ {a s : Int} {d : Pt} {l : List Pce}, chain x mv Q a s d l → a ≤ endAt a l
 | a, _, _, [], _ => Int.le_refl _
 | a, s, d, c :: l, h => by
  obtain ⟨-, -, h3, -, h5⟩ := h
  have := endAt_ge h5
  unfold endAt; omega
theorem chain_pos {x : Ax3} {mv : Int} {Q : Int → Pt → Prop} (hv : mv = 1 ∨ mv = -1) : ∀ {a s : Int} {d : Pt} {l : List Pce}, chain x mv Q a s d l → ∀ i, i < l.length →
  a ≤ (pcA l i).at_ ∧ 1 ≤ (pcA l i).units ∧ eI l i ≤ endAt a l ∧ (s - ((pcA l i).at_ - a) ≤ (pcA l i).s ∧ (pcA l i).s ≤ s + ((pcA l i).at_ - a)) ∧ ((pcA l i).move = 0 ∨ (pcA l i).move = mv)
 | a, s, d, c :: l, h, 0, _ => by
  obtain ⟨h1, h2, h3, h4, h5⟩ := h
  have := endAt_ge h5
  unfold eI
  rw [pcA_zero]
  refine ⟨by omega, h3, by unfold endAt; omega, by omega, ?_⟩
  rcases h4 with h4 | h4
  ·exact .inr h4.1
  ·exact .inl h4.1
 | a, s, d, c :: l, h, i + 1, hi => by
  obtain ⟨h1, h2, h3, h4, h5⟩ := h
  have ih := chain_pos hv h5 i (by simpa using hi)
  unfold eI at ih ⊢
  rw [pcA_cons]
  obtain ⟨g1, g2, g3, g4, g5⟩ := ih
  have hm : c.move * c.units = 0 ∨ c.move * c.units = c.units ∨ c.move * c.units = -c.units := by
   rcases h4 with h4 | h4
   ·rw [h4.1]; rcases hv with rfl | rfl <;> omega
   ·rw [h4.1]; omega
  refine ⟨by omega, g2, by unfold endAt; exact g3, by omega, g5⟩
theorem chain_mono {x : Ax3} {mv : Int} {Q : Int → Pt → Prop} (hv : mv = 1 ∨ mv = -1) : ∀ {a s : Int} {d : Pt} {l : List Pce}, chain x mv Q a s d l → ∀ i j, i ≤ j → j < l.length → eI l i ≤ eI l j
 | a, s, d, c :: l, h, 0, 0, _, _ => Int.le_refl _
 | a, s, d, c :: l, h, 0, j + 1, _, hj => by
  obtain ⟨h1, h2, h3, h4, h5⟩ := h
  have := chain_pos hv h5 j (by simpa using hj)
  unfold eI at *
  rw [pcA_zero, pcA_cons]; omega
 | a, s, d, c :: l, h, i + 1, 0, hij, _ => by omega
 | a, s, d, c :: l, h, i + 1, j + 1, hij, hj => by
  obtain ⟨h1, h2, h3, h4, h5⟩ := h
  have := chain_mono hv h5 i j (by omega) (by simpa using hj)
  unfold eI at *
  rw [pcA_cons, pcA_cons]; exact this
theorem chain_last {x : Ax3} {mv : Int} {Q : Int → Pt → Prop} : ∀ {a s : Int} {d : Pt} {l : List Pce}, chain x mv Q a s d l → l ≠ [] → eI l (l.length - 1) = endAt a l
 | a, s, d, [c], h, _ => by
  obtain ⟨h1, -⟩ := h
  show eI [c] 0 = endAt a [c]
  unfold eI
  rw [pcA_zero]; simp only [endAt]; omega
 | a, s, d, c :: e :: l, h, _ => by
  obtain ⟨-, -, -, -, h5⟩ := h
  have := chain_last h5 (by simp)
  have e1 : (c :: e :: l).length - 1 = ((e :: l).length - 1) + 1 := by simp
  rw [e1]
  unfold eI at *
  rw [pcA_cons, this]; rfl
def mvP (p : Pth) (a b : Int) : Int := if clampP a (sumLen p.segs) > clampP b (sumLen p.segs) then -1 else 1
theorem mvP_or (p : Pth) (a b : Int) : mvP p a b = 1 ∨ mvP p a b = -1 := by unfold mvP; split <;> simp
theorem legP_chain {p : Pth} {x : Ax3} {d : Pt} {a b : Int} {Q : Int → Pt → Prop} (hx : Ax3OK x) (hp : GoodPath p) (hQ : SegQ p (mvP p a b) Q) :
  ∃ d', TC x (mvP p a b) Q (legP p x d a b) (clampP b (sumLen p.segs)) d' ∧ (legP p x d a b).start = clampP a (sumLen p.segs) ∧ (legP p x d a b).dirs = d := by
 have hn := sum_path hp
 have ha : 0 ≤ clampP a (sumLen p.segs) ∧ clampP a (sumLen p.segs) ≤ sumLen p.segs := by unfold clampP; omega
 have hb : 0 ≤ clampP b (sumLen p.segs) ∧ clampP b (sumLen p.segs) ≤ sumLen p.segs := by unfold clampP; omega
 have hk := fun mv lo hi f => legN_keep (p := p) (x := x) (mv := mv) (lo := lo) (hi := hi) (f := f) (d := d) p.segs.length
 unfold legP mvP at *
 simp only
 generalize clampP a (sumLen p.segs) = f at *
 generalize clampP b (sumLen p.segs) = t at *
 have h := legN_chain (p := p) (x := x) (mv := if f > t then -1 else 1) (lo := min f t) (hi := max f t) (f := f) (d := d) (Q := Q) (by split <;> simp) hx hp.ok (by omega) (by split <;> omega) hQ p.segs.length (Nat.le_refl _)
 have hs : wayS p.segs (if f > t then -1 else 1) (min f t) (max f t) p.segs.length = t := by
  unfold wayS
  rw [Nat.sub_self, posL_zero, posL_len]
  by_cases c : f > t
  ·rw [if_pos c, if_pos (by omega)]; omega
  ·rw [if_neg c, if_neg (by omega)]; omega
 rw [hs] at h
 exact ⟨_, h, (hk _ _ _ _).1, (hk _ _ _ _).2⟩
theorem TQ_of {x : Ax3} {mv : Int} {Q : Int → Pt → Prop} {t : Trk} {s : Int} {d : Pt} (hv : mv = 1 ∨ mv = -1) (h : TC x mv Q t s d) (hb : t.pieces.length ≤ 10000000 ∧ 0 ≤ t.length ∧ t.length ≤ 900000000000000) (hs : 0 ≤ t.start ∧ t.start ≤ 263886834032640) : TQ t := by
 obtain ⟨h1, h2, -, -⟩ := h
 refine ⟨hb.1, hb.2, fun i hi => ?_, chain_mono hv h1, fun hne => by rw [chain_last h1 hne, h2], hs, fun i hi => ?_, fun i hi => ?_⟩
 ·have := chain_pos hv h1 i hi
  rw [h2] at this; exact ⟨this.1, this.2.1, this.2.2.1⟩
 ·have := chain_pos hv h1 i hi
  rw [h2] at this; unfold eI at this; omega
 ·have := (chain_pos hv h1 i hi).2.2.2.2
  rcases hv with rfl | rfl
  ·rcases this with h | h
   ·exact .inl h
   ·exact .inr (.inl h)
  ·rcases this with h | h
   ·exact .inl h
   ·exact .inr (.inr h)
theorem legP_TQ {p : Pth} {x : Ax3} (d : Pt) (a b : Int) (hx : Ax3OK x) (hp : GoodPath p) : TQ (legP p x d a b) := by
 have hn := sum_path hp
 obtain ⟨d', h1, h2, -⟩ := legP_chain (d := d) (a := a) (b := b) (Q := fun _ _ => True) hx hp (fun _ _ _ _ _ _ _ _ => trivial)
 exact TQ_of (mvP_or p a b) h1 (legP_bd d a b hp hx) (by rw [h2]; unfold clampP; omega)
theorem a_run {ML MM MD MN MA MP : List AC → Option (List AC)} {l ax : List (List AC)} {dirs from_ to : Int} {p : Pth} {x : Ax3} {d : Pt} (hP : MP [.view kInts l, I 5] = some (pthR p)) (hA : MA [.view kInts ax] = some (ax3R x)) (hD : MD [I dirs] = some (ptR d)) (hL : MN (pthR p) = some [I (sumLen p.segs)])
  (hn : 0 ≤ sumLen p.segs ∧ sumLen p.segs ≤ 263886834032640) (hM : ∀ {v : Int}, (v = from_ ∨ v = to) → MM [I v, I (sumLen p.segs + 1)] = some [I (v % (sumLen p.segs + 1))]) {t : Trk} (hT : ML (pthR p ++ ax3R x ++ [I d.x, I d.y, I d.z, I (from_ % (sumLen p.segs + 1)), I (to % (sumLen p.segs + 1))]) = some (trkR t)) :
  mf_cnclaw29_run ML MM MD MN MA MP [.view kInts l, .view kInts ax, I dirs, I from_, I to] = some (pthR p ++ ax3R x ++ trkR t ++ [I (sumLen p.segs)]) := by
 rw [mf_cnclaw29_run_eq]
 simp only [trkR, ax3R, pthR, List.cons_append, List.nil_append] at *
 simp only [go_sem, hP, hA, hD, hL, wrap_id (x := sumLen p.segs + 1) (by omega), hM (.inl rfl), hM (.inr rfl), hT]
theorem s_run {l ax : List (List AC)} (hl : Src l) (ha : Src ax) {dirs from_ to : Int} (h2 : i64 dirs) (h3 : i64 from_) (h4 : i64 to) :
  ∃ (p : Pth) (x : Ax3) (d : Pt) (a b : Int), m_cnclaw29_run [.view kInts l, .view kInts ax, I dirs, I from_, I to] = some (pthR p ++ ax3R x ++ trkR (legP p x d a b) ++ [I (sumLen p.segs)]) ∧ GoodPath p ∧ Ax3M x ∧ ((d.x = 1 ∨ d.x = -1) ∧ (d.y = 1 ∨ d.y = -1) ∧ (d.z = 1 ∨ d.z = -1)) := by
 obtain ⟨p, hP, hp⟩ := s_MillPath hl (most := 5) (by omega)
 obtain ⟨x, hA, hx⟩ := s_Axes ha
 obtain ⟨d, hD, hd⟩ := s_Dirs h2
 have hn := sum_path hp
 refine ⟨p, x, d, from_ % (sumLen p.segs + 1), to % (sumLen p.segs + 1), ?_, hp, hx, hd⟩
 exact a_run hP hA hD (s_ref_Length hp.ok) hn (fun {v} hv => s_cncmill_Mod (by rcases hv with rfl | rfl <;> assumption) (by omega)) (s_refLeg hp hx.ok)
end Go.Bm
/- the law TrackPlace, over the models -/
set_option maxRecDepth 100000
namespace Go.Bm
open Classical

theorem a_TrackPlace {MRL ML MRP MP MM MR MW : List AC → Option (List AC)} {l ax : List (List AC)} {dirs from_ to u : Int} {p : Pth} {x : Ax3} {t : Trk} {n : Int} (hW : MW [] = some [B true])
  (hR : MR [.view kInts l, .view kInts ax, I dirs, I from_, I to] = some (pthR p ++ ax3R x ++ trkR t ++ [I n])) (hl : 0 ≤ t.length ∧ t.length ≤ 900000000000000) (hM : MM [I u, I (t.length + 1)] = some [I (u % (t.length + 1))])
  (h1 : ∀ v, ML (trkR t ++ [I v]) = some [B (decide (looseP t v))]) (h2 : ∀ v, MRL (trkR t ++ [I v]) = some [B (decide (looseP t v))]) (h3 : ∀ v, MP (trkR t ++ [I v]) = some [I (placeP t v)]) (h4 : ∀ v, MRP (trkR t ++ [I v]) = some [I (placeP t v)]) :
  mf_cnclaw29_TrackPlace MRL ML MRP MP MM MR MW [.view kInts l, .view kInts ax, I dirs, I from_, I to, I u] = some [B true] := by
 rw [mf_cnclaw29_TrackPlace_eq]
 simp only [trkR, ax3R, pthR, List.cons_append, List.nil_append] at *
 simp only [go_sem, hW, hR, wrap_id (x := t.length + 1) (by omega), hM, h1, h2, h3, h4]
 simp
theorem s_TrackPlace {l ax : List (List AC)} (hl : Src l) (ha : Src ax) {dirs from_ to u : Int} (h2 : i64 dirs) (h3 : i64 from_) (h4 : i64 to) (h5 : i64 u) :
  m_cnclaw29_TrackPlace [.view kInts l, .view kInts ax, I dirs, I from_, I to, I u] = some [B true] := by
 obtain ⟨p, x, d, a, b, hr, hp, hx, hd⟩ := s_run hl ha h2 h3 h4
 have ht := legP_TQ d a b hx.ok hp
 have hlen := ht.len
 exact a_TrackPlace m_cnclaw29_awake_eq hr hlen (s_cncmill_Mod h5 (by omega)) (s_Loose ht) (s_refLoose ht) (s_Place ht) (s_refPlace ht)
end Go.Bm
/- what a law's arguments are known to be -/
set_option maxRecDepth 100000
namespace Go.Bm

theorem okR_int {r : List AC} (h : okR kInts r) : i64 (intOf (nth .dead r 0)) := by
 match r, h with
 | [], h => exact h.elim
 | a :: _, h => exact okC_int h.1
theorem okR_src {r : List AC} (h : okR [Kd.sl kInts] r) : Src (rowsOf (nth .dead r 0)) := by
 match r, h with
 | [], h => exact h.elim
 | a :: _, h =>
  have h1 := h.1
  unfold okC at h1
  refine ⟨?_, fun c hc => okR_int (h1.2 c hc).1⟩
  have h2 := h1.1
  simp only [maxLen] at h2
  show (rowsOf a).length ≤ _
  omega
end Go.Bm
