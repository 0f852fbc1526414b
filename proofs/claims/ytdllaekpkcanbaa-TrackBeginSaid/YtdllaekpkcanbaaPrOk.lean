/- laid together -/
import Derived.Test.YtdllaekpkcanbaaPrTw
import Derived.Test.YtdllaekpkcanbaaMy1
import Derived.Test.YtdllaekpkcanbaaPrH
set_option linter.unusedVariables false
set_option linter.unusedSimpArgs false
/- tracks that begin alike -/
set_option maxRecDepth 100000
namespace Go.Bm
open Classical

def PF : List Pce -> List Pce -> Prop
 | [], _ => True
 | _ :: _, [] => False
 | [c], c' :: _ => c'.at_ = c.at_ /\ c'.s = c.s /\ c'.move = c.move /\ c'.was = c.was /\ c'.dirs = c.dirs /\ c.units <= c'.units
 | c :: d :: l, c' :: l' => c' = c /\ PF (d :: l) l'
def bump : List Pce -> Int -> List Pce
 | [], _ => []
 | [c], k => [{ c with units := c.units + k }]
 | c :: d :: l, k => c :: bump (d :: l) k
theorem PF_refl : ∀ l, PF l l
 | [] => trivial
 | [c] => ⟨rfl, rfl, rfl, rfl, rfl, Int.le_refl _⟩
 | c :: d :: l => ⟨rfl, PF_refl (d :: l)⟩
theorem PF_app {m : List Pce} : ∀ {s t : List Pce}, PF s t -> PF s (t ++ m)
 | [], _, _ => trivial
 | _ :: _, [], h => absurd h (by simp [PF])
 | [c], c' :: t, h => h
 | c :: d :: l, c' :: t, h => ⟨h.1, PF_app (m := m) h.2⟩
theorem PF_bump {k : Int} (hk : 0 <= k) : ∀ {s t : List Pce}, PF s t -> PF s (bump t k)
 | [], _, _ => trivial
 | _ :: _, [], h => absurd h (by simp [PF])
 | [c], [c'], h => ⟨h.1, h.2.1, h.2.2.1, h.2.2.2.1, h.2.2.2.2.1, by have := h.2.2.2.2.2; simp only; omega⟩
 | [c], c' :: d' :: t, h => h
 | c :: d :: l, [c'], h => absurd h.2 (by simp [PF])
 | c :: d :: l, c' :: d' :: t, h => ⟨h.1, PF_bump hk (s := d :: l) (t := d' :: t) h.2⟩
theorem PF_bump2 {k1 k2 : Int} (hk : k1 <= k2) : ∀ l, PF (bump l k1) (bump l k2)
 | [] => trivial
 | [c] => ⟨rfl, rfl, rfl, rfl, rfl, by simp only; omega⟩
 | c :: d :: l => by
  have ih := PF_bump2 hk (d :: l)
  cases l with
  | nil => exact ⟨rfl, ih⟩
  | cons e l => exact ⟨rfl, ih⟩
theorem PF_app2 {c1 c2 : Pce} (h : PF [c1] [c2]) : ∀ l, PF (l ++ [c1]) (l ++ [c2])
 | [] => h
 | [c] => ⟨rfl, h⟩
 | c :: d :: l => ⟨rfl, PF_app2 h (d :: l)⟩
theorem set_bump : ∀ {l : List Pce} (_ : l ≠ []) (k : Int), l.set (l.length - 1) { lastP l with units := (lastP l).units + k } = bump l k
 | [], h, _ => absurd rfl h
 | [c], _, k => rfl
 | c :: d :: l, _, k => by
  have ih := set_bump (l := d :: l) (by simp) k
  have e : lastP (c :: d :: l) = lastP (d :: l) := by unfold lastP; simp
  have e2 : (c :: d :: l).length - 1 = ((d :: l).length - 1) + 1 := by simp
  rw [e, e2, List.set_cons_succ, ih]
  rfl
theorem addT_pieces (t : Trk) (c : Pce) : (addT t c).pieces = if t.pieces ≠ [] /\ c.move ≠ 0 /\ (lastP t.pieces).move = c.move /\ (lastP t.pieces).dirs = c.dirs then bump t.pieces c.units else t.pieces ++ [{ c with at_ := t.length }] := by
 unfold addT
 by_cases g : t.pieces ≠ [] /\ c.move ≠ 0 /\ (lastP t.pieces).move = c.move /\ (lastP t.pieces).dirs = c.dirs
 ·rw [if_pos g, if_pos g]; exact set_bump g.1 _
 ·rw [if_neg g, if_neg g]
theorem addT_PF {s : List Pce} {t : Trk} {c : Pce} (h : PF s t.pieces) (hu : 0 <= c.units) : PF s (addT t c).pieces := by
 rw [addT_pieces]
 split
 ·exact PF_bump hu h
 ·exact PF_app h
theorem addT_PF2 {t : Trk} {c : Pce} {u1 u2 : Int} (hu : u1 <= u2) : PF (addT t { c with units := u1 }).pieces (addT t { c with units := u2 }).pieces := by
 rw [addT_pieces, addT_pieces]
 by_cases g : t.pieces ≠ [] /\ c.move ≠ 0 /\ (lastP t.pieces).move = c.move /\ (lastP t.pieces).dirs = c.dirs
 ·rw [if_pos g, if_pos g]; exact PF_bump2 hu _
 ·rw [if_neg g, if_neg g]; refine PF_app2 ?_ _; exact ⟨rfl, rfl, rfl, rfl, rfl, hu⟩
theorem visit_PF {x : Ax3} {mv : Int} {a b : Pt} {s u1 u2 : Int} {st : Trk × Pt} (hu : u1 <= u2) : PF (visit x mv a b s u1 st).1.pieces (visit x mv a b s u2 st).1.pieces := by
 unfold visit
 exact addT_PF2 (c := ⟨0, 0, s, mv, turnD st.2 a b mv, turnD st.2 a b mv⟩) hu
theorem visit_PF2 {x : Ax3} {mv : Int} {a b : Pt} {s u : Int} {st : Trk × Pt} {l : List Pce} (h : PF l st.1.pieces) (hu : 0 <= u) : PF l (visit x mv a b s u st).1.pieces := by
 unfold visit
 refine addT_PF ?_ hu
 by_cases c : slackD x st.2 (turnD st.2 a b mv) > 0
 ·rw [if_pos c]; exact addT_PF h (by simp only; omega)
 ·rw [if_neg c]; exact h
theorem segT_PF {p : Pth} {x : Ax3} {mv lo hi : Int} {i : Nat} {st : Trk × Pt} {l : List Pce} (h : PF l st.1.pieces) : PF l (segT p x mv lo hi i st).1.pieces := by
 unfold segT
 split
 ·exact visit_PF2 h (by omega)
 ·exact h
theorem PF_end {x : Ax3} {mv : Int} {Q : Int -> Pt -> Prop} {mv' : Int} {Q' : Int -> Pt -> Prop} : ∀ {a s : Int} {d : Pt} {l m : List Pce} {s' : Int} {d' : Pt}, chain x mv Q a s d l -> chain x mv' Q' a s' d' m -> PF l m -> endAt a l <= endAt a m
 | a, s, d, [], m, _, _, _, h2, _ => endAt_ge h2
 | a, s, d, _ :: _, [], _, _, _, _, h => absurd h (by simp [PF])
 | a, s, d, [c], c' :: m, _, _, h1, h2, h => by
  have := endAt_ge h2.2.2.2.2
  have := h.2.2.2.2.2
  simp only [endAt] at *
  omega
 | a, s, d, c :: e :: l, c' :: m, _, _, h1, h2, h => by
  obtain ⟨rfl, h'⟩ := h
  show endAt (a + c'.units) (e :: l) <= endAt (a + c'.units) m
  exact PF_end h1.2.2.2.2 h2.2.2.2.2 h'
theorem PF_pl {x : Ax3} {mv : Int} {Q : Int -> Pt -> Prop} (A : Axs) (g : Int -> Int) (f : Pt -> Int) : ∀ {a s : Int} {d : Pt} {l m : List Pce} {u : Int}, chain x mv Q a s d l -> PF l m -> l ≠ [] -> u <= endAt a l -> plL l u = plL m u /\ motL A g f l u = motL A g f m u
 | _, _, _, [], _, _, _, _, h, _ => absurd rfl h
 | _, _, _, _ :: _, [], _, _, h, _, _ => absurd h (by simp [PF])
 | a, s, d, [c], c' :: m, u, h1, h, _, hu => by
  obtain ⟨k1, k2, k3, k4, k5, k6⟩ := h
  have ha := h1.1
  simp only [endAt] at hu
  unfold plL motL motC
  rw [if_pos (show u <= c.at_ + c.units by omega), if_pos (show u <= c.at_ + c.units by omega), if_pos (show u <= c'.at_ + c'.units by omega), if_pos (show u <= c'.at_ + c'.units by omega), k1, k2, k3, k4, k5]
  exact ⟨rfl, rfl⟩
 | a, s, d, c :: e :: l, c' :: m, u, h1, h, _, hu => by
  obtain ⟨rfl, h'⟩ := h
  unfold plL motL
  by_cases c0 : u <= c'.at_ + c'.units
  ·rw [if_pos c0, if_pos c0, if_pos c0, if_pos c0]; exact ⟨rfl, rfl⟩
  ·rw [if_neg c0, if_neg c0, if_neg c0, if_neg c0]
   exact PF_pl A g f h1.2.2.2.2 h' (by simp) hu
end Go.Bm
/- a shorter way begins the longer one -/
set_option maxRecDepth 100000
namespace Go.Bm
open Classical

theorem legN_PF {p : Pth} {x : Ax3} {mv lo hi c f : Int} {d : Pt} (hv : mv = 1 \/ mv = -1) (hp : SegOK p.segs) (hlo : 0 <= lo /\ lo <= c /\ c <= hi /\ hi <= sumLen p.segs) : ∀ j, j <= p.segs.length ->
  (legN p x mv (if mv < 0 then c else lo) (if mv < 0 then hi else c) (⟨[], 0, f, d⟩, d) j = legN p x mv lo hi (⟨[], 0, f, d⟩, d) j) \/
  (PF (legN p x mv (if mv < 0 then c else lo) (if mv < 0 then hi else c) (⟨[], 0, f, d⟩, d) j).1.pieces (legN p x mv lo hi (⟨[], 0, f, d⟩, d) j).1.pieces /\ (if mv < 0 then posL p.segs (p.segs.length - j) <= c else c <= posL p.segs j))
 | 0, _ => .inl rfl
 | j + 1, hj => by
  have hil := idxT_lt mv (show j < p.segs.length by omega)
  have hg := hp.seg _ (sgA_mem hil)
  have hsucc := posL_succ hil
  have ih := legN_PF hv hp hlo (f := f) (d := d) (x := x) j (by omega)
  rw [legN, legN]
  have hcase : (mv = 1 /\ idxT p.segs.length mv j = j) \/ (mv = -1 /\ idxT p.segs.length mv j = p.segs.length - 1 - j) := by
   unfold idxT
   rcases hv with rfl | rfl
   ·exact .inl ⟨rfl, if_neg (by omega)⟩
   ·exact .inr ⟨rfl, if_pos (by omega)⟩
  rcases hcase with ⟨rfl, e⟩ | ⟨rfl, e⟩
  ·rw [e] at hil hg hsucc ⊢
   have n1 : ¬ (1 : Int) < 0 := by omega
   simp only [if_neg n1] at ih ⊢
   generalize legN p x 1 lo c (⟨[], 0, f, d⟩, d) j = S at *
   generalize legN p x 1 lo hi (⟨[], 0, f, d⟩, d) j = T at *
   rcases ih with rfl | ⟨ih, hdone⟩
   ·by_cases c1 : posL p.segs (j + 1) <= c
    ·left
     have e1 : min (posL p.segs (j + 1)) c = min (posL p.segs (j + 1)) hi := by omega
     unfold segT; rw [e1]
    ·right
     refine ⟨?_, by omega⟩
     have e1 : min (posL p.segs (j + 1)) c = c := by omega
     by_cases c2 : max (posL p.segs j) lo < c
     ·unfold segT
      have c3 : max (posL p.segs j) lo < min (posL p.segs (j + 1)) hi := by omega
      rw [e1, if_pos c2, if_pos c3, if_neg n1, if_neg n1]
      exact visit_PF (by omega)
     ·have hS : segT p x 1 lo c j S = S := by unfold segT; rw [e1, if_neg c2]
      rw [hS]; exact segT_PF (PF_refl _)
   ·right
    refine ⟨?_, by omega⟩
    have hS : segT p x 1 lo c j S = S := by unfold segT; rw [if_neg (by omega)]
    rw [hS]; exact segT_PF ih
  ·have e3 : p.segs.length - j = p.segs.length - 1 - j + 1 := by omega
   have e4 : p.segs.length - (j + 1) = p.segs.length - 1 - j := by omega
   rw [e] at hil hg hsucc ⊢
   have n1 : (-1 : Int) < 0 := by omega
   simp only [if_pos n1] at ih ⊢
   rw [e3] at ih
   rw [e4]
   generalize p.segs.length - 1 - j = i at *
   generalize legN p x (-1) c hi (⟨[], 0, f, d⟩, d) j = S at *
   generalize legN p x (-1) lo hi (⟨[], 0, f, d⟩, d) j = T at *
   rcases ih with rfl | ⟨ih, hdone⟩
   ·by_cases c1 : c <= posL p.segs i
    ·left
     have e1 : max (posL p.segs i) c = max (posL p.segs i) lo := by omega
     unfold segT; rw [e1]
    ·right
     refine ⟨?_, by omega⟩
     have e1 : max (posL p.segs i) c = c := by omega
     by_cases c2 : c < min (posL p.segs (i + 1)) hi
     ·unfold segT
      have c3 : max (posL p.segs i) lo < min (posL p.segs (i + 1)) hi := by omega
      rw [e1, if_pos c2, if_pos c3, if_pos n1, if_pos n1]
      exact visit_PF (by omega)
     ·have hS : segT p x (-1) c hi i S = S := by unfold segT; rw [e1, if_neg c2]
      rw [hS]; exact segT_PF (PF_refl _)
   ·right
    refine ⟨?_, by omega⟩
    have hS : segT p x (-1) c hi i S = S := by unfold segT; rw [if_neg (by omega)]
    rw [hS]; exact segT_PF ih
theorem legP_PF {p : Pth} {x : Ax3} {d : Pt} {a b c : Int} (hp : GoodPath p) (ha : 0 <= a /\ a <= sumLen p.segs) (hb : 0 <= b /\ b <= sumLen p.segs) (hc : (a <= c /\ c <= b) \/ (b <= c /\ c < a)) :
  PF (legP p x d a c).pieces (legP p x d a b).pieces := by
 have hn := sum_path hp
 have ca : clampP a (sumLen p.segs) = a := by unfold clampP; omega
 have cb : clampP b (sumLen p.segs) = b := by unfold clampP; omega
 have cc : clampP c (sumLen p.segs) = c := by unfold clampP; omega
 unfold legP
 simp only [ca, cb, cc]
 rcases hc with hc | hc
 ·rw [if_neg (show ¬ a > c by omega), if_neg (show ¬ a > b by omega), show min a c = a by omega, show max a c = c by omega, show min a b = a by omega, show max a b = b by omega]
  have h := legN_PF (x := x) (mv := 1) (lo := a) (hi := b) (c := c) (f := a) (d := d) (.inl rfl) hp.ok (by omega) p.segs.length (Nat.le_refl _)
  have n1 : ¬ (1 : Int) < 0 := by omega
  simp only [if_neg n1] at h
  rcases h with h | h
  ·rw [h]; exact PF_refl _
  ·exact h.1
 ·rw [if_pos (show a > c by omega), if_pos (show a > b by omega), show min a c = c by omega, show max a c = a by omega, show min a b = b by omega, show max a b = a by omega]
  have h := legN_PF (x := x) (mv := -1) (lo := b) (hi := a) (c := c) (f := a) (d := d) (.inr rfl) hp.ok (by omega) p.segs.length (Nat.le_refl _)
  have n1 : (-1 : Int) < 0 := by omega
  simp only [if_pos n1] at h
  rcases h with h | h
  ·rw [h]; exact PF_refl _
  ·exact h.1
end Go.Bm
/- the law TrackBegin, over the models -/
set_option maxRecDepth 100000
namespace Go.Bm
open Classical

theorem legP_same (p : Pth) (x : Ax3) (d : Pt) (a : Int) : (legP p x d a a).pieces = [] := by
 have h : ∀ (mv f : Int) (j : Nat), legN p x mv f f (⟨[], 0, f, d⟩, d) j = (⟨[], 0, f, d⟩, d) := by
  intro mv f j
  induction j with
  | zero => rfl
  | succ j ih => rw [legN, ih]; unfold segT; rw [if_neg (by omega)]
 unfold legP
 simp only [Int.min_self, Int.max_self, h]
theorem begin_facts {p : Pth} {x : Ax3} {d : Pt} {a b c u : Int} (hp : GoodPath p) (hx : Ax3M x) (hd : okD d) (ha : 0 <= a /\ a <= sumLen p.segs) (hb : 0 <= b /\ b <= sumLen p.segs) (hc : (a <= c /\ c <= b) \/ (b <= c /\ c <= a)) :
  (legP p x d a c).length <= (legP p x d a b).length /\ ((0 <= u /\ u <= (legP p x d a c).length) -> placeP (legP p x d a c) u = placeP (legP p x d a b) u /\ motorsP p x (legP p x d a c) u = motorsP p x (legP p x d a b) u) := by
 have ca : clampP a (sumLen p.segs) = a := by unfold clampP; omega
 obtain ⟨d1, hc1, hs1, hdd1⟩ := legP_chain (d := d) (a := a) (b := c) (Q := fun _ _ => True) hx.ok hp (fun _ _ _ _ _ _ _ _ => trivial)
 obtain ⟨d2, hc2, hs2, hdd2⟩ := legP_chain (d := d) (a := a) (b := b) (Q := fun _ _ => True) hx.ok hp (fun _ _ _ _ _ _ _ _ => trivial)
 have ht1 := legP_TQ d a c hx.ok hp
 have ht2 := legP_TQ d a b hx.ok hp
 have ho1 : okD (legP p x d a c).dirs := by rw [hdd1]; exact hd
 have ho2 : okD (legP p x d a b).dirs := by rw [hdd2]; exact hd
 have hk1 := legP_dirs (p := p) (x := x) (a := a) (b := c) hd
 have hk2 := legP_dirs (p := p) (x := x) (a := a) (b := b) hd
 have hpf : PF (legP p x d a c).pieces (legP p x d a b).pieces := by
  by_cases g : c = a
  ·rw [g, legP_same]; trivial
  ·exact legP_PF hp ha hb (by omega)
 have e1 := (ends_motors (p := p) hx (mvP_or p a c) hc1 ht1 ho1 hk1).1
 have e2 := (ends_motors (p := p) hx (mvP_or p a b) hc2 ht2 ho2 hk2).1
 have k1 := hc1.ch
 have k2 := hc2.ch
 have l1 := hc1.len
 have l2 := hc2.len
 have p0 : ∀ (t : Trk) (Q : Int -> Pt -> Prop) (mv : Int), chain x mv Q 0 t.start t.dirs t.pieces -> TQ t -> placeP t 0 = t.start := by
  intro t Q mv h1 ht
  have hl := ht.len
  have hcl : clT t 0 = 0 := by unfold clT clampP; omega
  by_cases c : t.pieces = []
  ·unfold placeP; rw [if_pos c]
  ·rw [place_plL ht _ c, hcl]
   cases hh : t.pieces with
   | nil => exact absurd hh c
   | cons k l =>
    rw [hh] at h1
    obtain ⟨g1, g2, g3, -⟩ := h1
    unfold plL
    rw [if_pos (by omega), g1, g2]; simp
 have q1 := p0 _ _ _ k1 ht1
 have q2 := p0 _ _ _ k2 ht2
 have hlen : (legP p x d a c).length <= (legP p x d a b).length := by rw [<- l1, <- l2]; exact PF_end k1 k2 hpf
 refine ⟨hlen, fun hu => ?_⟩
 rw [hs1, hdd1] at e1
 rw [hs2, hdd2] at e2
 by_cases hne : (legP p x d a c).pieces = []
 ·have hz : u = 0 := by
   rw [hne] at l1; simp only [endAt] at l1; omega
  rw [hz, q1, q2, hs1, hs2, e1, e2]; exact ⟨rfl, rfl⟩
 ·have hne2 : (legP p x d a b).pieces ≠ [] := by
   intro e
   rw [e] at hpf
   cases hh : (legP p x d a c).pieces with
   | nil => exact hne hh
   | cons _ _ => rw [hh] at hpf; exact absurd hpf (by simp [PF])
  have hcl : ∀ (t : Trk) v, 0 <= v -> v <= t.length -> clT t v = v := by intro t v g1 g2; unfold clT clampP; omega
  have hm : ∀ (t : Trk), TQ t -> t.pieces ≠ [] -> u <= t.length -> ∀ (a : Axs) (f : Pt -> Int) (g : Int -> Int), motP a (g (placeP t u)) + shT a t u f = motL a g f t.pieces u := by
   intro t ht hne g2 a f g
   have hi := iT_lt ht u hne
   have ei : iT t u = fI t.pieces u := by unfold iT; rw [hcl t u hu.1 g2]
   unfold placeP shT
   rw [if_neg hne, if_neg hne, ei, hcl t u hu.1 g2]
   rw [ei] at hi
   exact (motL_eq hi).symm
  have hu' : u <= endAt 0 (legP p x d a c).pieces := by rw [l1]; exact hu.2
  have key : ∀ (A : Axs) (f : Pt -> Int) (g : Int -> Int), motP A (g (placeP (legP p x d a c) u)) + shT A (legP p x d a c) u f = motP A (g (placeP (legP p x d a b) u)) + shT A (legP p x d a b) u f := by
   intro A f g
   rw [hm _ ht1 hne hu.2, hm _ ht2 hne2 (by omega)]
   exact (PF_pl A g f k1 hpf hne hu').2
  constructor
  ·rw [place_plL ht1 _ hne, place_plL ht2 _ hne2, hcl _ u hu.1 hu.2, hcl _ u hu.1 (by omega)]
   exact (PF_pl x.a (fun s => s) Pt.x k1 hpf hne hu').1
  ·unfold motorsP nomP
   rw [pt_ext]
   exact ⟨key x.a Pt.x (fun s => (atP p s).x), key x.b Pt.y (fun s => (atP p s).y), key x.c Pt.z (fun s => (atP p s).z)⟩
theorem a_TrackBegin {MT MPl ML MM MN MD MA MP MW : List AC -> Option (List AC)} {l ax : List (List AC)} {dirs from_ to less u : Int} {p : Pth} {x : Ax3} {d : Pt} {a b k c v : Int} (hW : MW [] = some [B true])
  (hP : MP [.view kInts l, I 5] = some (pthR p)) (hA : MA [.view kInts ax] = some (ax3R x)) (hD : MD [I dirs] = some (ptR d)) (hL : MN (pthR p) = some [I (sumLen p.segs)])
  (hn : 0 <= sumLen p.segs /\ sumLen p.segs <= 263886834032640) (ha : 0 <= a /\ a <= sumLen p.segs) (hb : 0 <= b /\ b <= sumLen p.segs) (hM1 : MM [I from_, I (sumLen p.segs + 1)] = some [I a]) (hM2 : MM [I to, I (sumLen p.segs + 1)] = some [I b]) (hM3 : MM [I less, I (max (b - a) (a - b) + 1)] = some [I k]) (hk : 0 <= k /\ k <= max (b - a) (a - b))
  (hc : c = if b < a then 2 * a - (a + k) else a + k) (hlen : 0 <= (legP p x d a c).length /\ (legP p x d a c).length <= 900000000000000) (hM4 : MM [I u, I ((legP p x d a c).length + 1)] = some [I v])
  (hT : ∀ {d : Pt} {a b : Int}, ML (pthR p ++ ax3R x ++ [I d.x, I d.y, I d.z, I a, I b]) = some (trkR (legP p x d a b))) (hPl : ∀ {a b u : Int}, MPl (trkR (legP p x d a b) ++ [I u]) = some [I (placeP (legP p x d a b) u)])
  (hMo : ∀ {a b u : Int}, MT (pthR p ++ ax3R x ++ trkR (legP p x d a b) ++ [I u]) = some (ptR (motorsP p x (legP p x d a b) u)))
  (e1 : (legP p x d a c).length <= (legP p x d a b).length) (e2 : placeP (legP p x d a c) v = placeP (legP p x d a b) v) (e3 : motorsP p x (legP p x d a c) v = motorsP p x (legP p x d a b) v) :
  mf_cnclaw29_TrackBegin MT MPl ML MM MN MD MA MP MW [.view kInts l, .view kInts ax, I dirs, I from_, I to, I less, I u] = some [B true] := by
 have t1 := hT (d := d) (a := a) (b := c)
 have t2 := hT (d := d) (a := a) (b := b)
 have p1 := hPl (a := a) (b := c) (u := v)
 have p2 := hPl (a := a) (b := b) (u := v)
 have m1 := hMo (a := a) (b := c) (u := v)
 have m2 := hMo (a := a) (b := b) (u := v)
 clear hT hPl hMo
 generalize legP p x d a c = S at *
 generalize legP p x d a b = T at *
 rw [mf_cnclaw29_TrackBegin_eq]
 simp only [trkR, ax3R, pthR, List.cons_append, List.nil_append] at *
 simp only [go_sem, hW, hP, hA, hD, hL, mx_eq, wrap_id (x := sumLen p.segs + 1) (by omega), hM1, hM2, wrap_id (x := b - a) (by omega), wrap_id (x := a - b) (by omega), wrap_id (x := max (b - a) (a - b) + 1) (by omega), hM3, wrap_id (x := a + k) (by omega), wrap_id (x := 2 * a) (by omega), wrap_id (x := 2 * a - (a + k)) (by omega)]
 by_cases g : b < a
 ·rw [if_pos g] at hc
  rw [<- hc]
  simp only [if_pos g, t1, t2, go_sem, wrap_id (x := S.length + 1) (by omega), hM4, p1, p2, m1, m2, e2, e3]
  simp [e1]
 ·rw [if_neg g] at hc
  rw [<- hc]
  simp only [if_neg g, t1, t2, go_sem, wrap_id (x := S.length + 1) (by omega), hM4, p1, p2, m1, m2, e2, e3]
  simp [e1]
theorem s_TrackBegin {l ax : List (List AC)} (hl : Src l) (hax : Src ax) {dirs from_ to less u : Int} (h2 : i64 dirs) (h3 : i64 from_) (h4 : i64 to) (h5 : i64 less) (h6 : i64 u) :
  m_cnclaw29_TrackBegin [.view kInts l, .view kInts ax, I dirs, I from_, I to, I less, I u] = some [B true] := by
 obtain ⟨p, hP, hp⟩ := s_MillPath hl (most := 5) (by omega)
 obtain ⟨x, hA, hx⟩ := s_Axes hax
 obtain ⟨d, hD, hd⟩ := s_Dirs h2
 have hn := sum_path hp
 have a0 := Int.emod_nonneg from_ (show sumLen p.segs + 1 ≠ 0 by omega)
 have a1 := Int.emod_lt_of_pos from_ (show 0 < sumLen p.segs + 1 by omega)
 have b0 := Int.emod_nonneg to (show sumLen p.segs + 1 ≠ 0 by omega)
 have b1 := Int.emod_lt_of_pos to (show 0 < sumLen p.segs + 1 by omega)
 have m1 := s_cncmill_Mod h3 (n := sumLen p.segs + 1) (by omega)
 have m2 := s_cncmill_Mod h4 (n := sumLen p.segs + 1) (by omega)
 generalize from_ % (sumLen p.segs + 1) = a at *
 generalize to % (sumLen p.segs + 1) = b at *
 have k0 := Int.emod_nonneg less (show max (b - a) (a - b) + 1 ≠ 0 by omega)
 have k1 := Int.emod_lt_of_pos less (show 0 < max (b - a) (a - b) + 1 by omega)
 have m3 := s_cncmill_Mod h5 (n := max (b - a) (a - b) + 1) (by omega)
 generalize less % (max (b - a) (a - b) + 1) = k at *
 obtain ⟨c, hc⟩ : ∃ c, c = if b < a then 2 * a - (a + k) else a + k := ⟨_, rfl⟩
 have hcc : (a <= c /\ c <= b) \/ (b <= c /\ c <= a) := by rw [hc]; split <;> omega
 have hlen := (legP_TQ d a c hx.ok hp).len
 have v0 := Int.emod_nonneg u (show (legP p x d a c).length + 1 ≠ 0 by omega)
 have v1 := Int.emod_lt_of_pos u (show 0 < (legP p x d a c).length + 1 by omega)
 obtain ⟨f1, f2⟩ := begin_facts (u := u % ((legP p x d a c).length + 1)) hp hx hd (a := a) (b := b) (c := c) (by omega) (by omega) hcc
 obtain ⟨f3, f4⟩ := f2 ⟨v0, by omega⟩
 exact a_TrackBegin m_cnclaw29_awake_eq hP hA hD (s_ref_Length hp.ok) hn (by omega) (by omega) m1 m2 m3 (by omega) hc hlen (s_cncmill_Mod h6 (by omega)) (s_track_Leg hp hx.ok) (fun {a b u} => s_Place (legP_TQ d a b hx.ok hp) u) (fun {a b u} => s_Motors hp hx (legP_TH d a b hx.ok hp) u) f1 f3 f4
end Go.Bm
/- what a law's arguments are known to be -/
set_option maxRecDepth 100000
namespace Go.Bm

theorem okR_int {r : List AC} (h : okR kInts r) : i64 (intOf (nth .dead r 0)) := by
 match r, h with
 | [], h => exact h.elim
 | a :: _, h => exact okC_int h.1
theorem okR_src {r : List AC} (h : okR [Kd.sl kInts] r) : Src (rowsOf (nth .dead r 0)) := by
 match r, h with
 | [], h => exact h.elim
 | a :: _, h =>
  have h1 := h.1
  unfold okC at h1
  refine ⟨?_, fun c hc => okR_int (h1.2 c hc).1⟩
  have h2 := h1.1
  simp only [maxLen] at h2
  show (rowsOf a).length <= _
  omega
end Go.Bm
