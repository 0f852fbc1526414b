/- laid together -/
import Derived.Test.YtdllaekpkcanbaaGreatPrTm
import Derived.Test.YtdllaekpkcanbaaGreatMy1
set_option linter.unusedVariables false
set_option linter.unusedSimpArgs false
/- motors: a unit of position moves a motor by at most a step; a track's motors move by at most a step a unit -/
set_option maxRecDepth 100000
namespace Go.Bm
open Classical

theorem corP_step {a : Axs} (h : AxOK a) (p : Int) : -1 <= corP a (p + 1) - corP a p /\ corP a (p + 1) - corP a p <= 1 := by
 unfold corP
 by_cases c : a.pitch = []
 ·rw [if_pos c, if_pos c]; omega
 ·have hl := ne_len c
  have hs := h.spacing c
  rw [if_neg c, if_neg c]
  have hD : ∀ i, i + 1 < a.pitch.length -> -a.spacing <= pitA a (i + 1) - pitA a i /\ pitA a (i + 1) - pitA a i <= a.spacing := fun i hi => by
   have hp := h.pitch.2 i hi
   unfold pitA; omega
  by_cases c1 : p <= a.origin
  ·rw [if_pos c1]
   by_cases c2 : p + 1 <= a.origin
   ·rw [if_pos c2]; omega
   ·rw [if_neg c2]
    have e : p + 1 - a.origin = 1 := by omega
    have e2 : (1 : Int) / a.spacing = 0 := Int.ediv_eq_zero_of_lt (by omega) (by omega)
    rw [e, e2]
    by_cases c3 : (0 : Int) >= a.pitch.length - 1
    ·rw [if_pos c3, show a.pitch.length - 1 = 0 by omega]; omega
    ·rw [if_neg c3]
     have g := near_step (D := pitA a 1 - pitA a 0) (L := a.spacing) (d := 0) (by omega) (hD 0 (by omega))
     have g0 : near 0 a.spacing = 0 := near_of (by omega) (by omega) (by omega)
     rw [Int.mul_zero, g0] at g
     show -1 <= pitA a (Int.toNat 0) + near ((pitA a (Int.toNat 0 + 1) - pitA a (Int.toNat 0)) * (1 - 0 * a.spacing)) a.spacing - pitA a 0 /\ pitA a (Int.toNat 0) + near ((pitA a (Int.toNat 0 + 1) - pitA a (Int.toNat 0)) * (1 - 0 * a.spacing)) a.spacing - pitA a 0 <= 1
     rw [Int.zero_mul]
     show -1 <= pitA a 0 + near ((pitA a 1 - pitA a 0) * (0 + 1)) a.spacing - pitA a 0 /\ pitA a 0 + near ((pitA a 1 - pitA a 0) * (0 + 1)) a.spacing - pitA a 0 <= 1
     omega
  ·rw [if_neg c1, if_neg (show ¬ p + 1 <= a.origin by omega)]
   have e0 := Int.mul_ediv_add_emod (p - a.origin) a.spacing
   have e1 := Int.emod_nonneg (p - a.origin) (show a.spacing ≠ 0 by omega)
   have e2 := Int.emod_lt_of_pos (p - a.origin) (show 0 < a.spacing by omega)
   have e3 : 0 <= (p - a.origin) / a.spacing := Int.ediv_nonneg (by omega) (by omega)
   have key : ∀ (k r : Int), 0 <= r -> r < a.spacing -> p + 1 - a.origin = a.spacing * k + r -> (p + 1 - a.origin) / a.spacing = k := by
    intro k r r0 r1 hk
    rw [hk, Int.mul_add_ediv_left _ _ (by omega), Int.ediv_eq_zero_of_lt r0 r1, Int.add_zero]
   generalize (p - a.origin) / a.spacing = i at *
   generalize (p - a.origin) % a.spacing = r at *
   obtain ⟨n, rfl⟩ : ∃ n : Nat, i = n := ⟨i.toNat, by omega⟩
   have er : p - a.origin - (n : Int) * a.spacing = r := by rw [Int.mul_comm]; omega
   rw [er]
   by_cases c4 : r + 1 < a.spacing
   ·rw [key n (r + 1) (by omega) c4 (by omega)]
    have er2 : p + 1 - a.origin - (n : Int) * a.spacing = r + 1 := by rw [Int.mul_comm] at er ⊢; omega
    rw [er2]
    by_cases c3 : (n : Int) >= a.pitch.length - 1
    ·rw [if_pos c3, if_pos c3]; omega
    ·rw [if_neg c3, if_neg c3, Int.toNat_natCast]
     have g := near_step (D := pitA a (n + 1) - pitA a n) (L := a.spacing) (d := r) (by omega) (hD n (by omega))
     omega
   ·have hk : p + 1 - a.origin = a.spacing * ((n : Int) + 1) + 0 := by rw [Int.mul_add]; omega
    rw [key ((n : Int) + 1) 0 (by omega) (by omega) hk]
    have er2 : p + 1 - a.origin - ((n : Int) + 1) * a.spacing = 0 := by rw [Int.mul_comm]; omega
    rw [er2, Int.mul_zero]
    have g0 : near 0 a.spacing = 0 := near_of (by omega) (by omega) (by omega)
    rw [g0]
    have et : ((n : Int) + 1).toNat = n + 1 := by omega
    rw [et, Int.toNat_natCast]
    by_cases c3 : (n : Int) >= a.pitch.length - 1
    ·rw [if_pos c3, if_pos (by omega)]; omega
    ·rw [if_neg c3]
     have g := near_step (D := pitA a (n + 1) - pitA a n) (L := a.spacing) (d := r) (by omega) (hD n (by omega))
     rw [show r + 1 = a.spacing by omega, near_mul (by omega)] at g
     by_cases c5 : (n : Int) + 1 >= a.pitch.length - 1
     ·rw [if_pos c5, show a.pitch.length - 1 = n + 1 by omega]; omega
     ·rw [if_neg c5]; omega
theorem motP_step1 {a : Axs} (h : AxOK a) (p : Int) : -1 <= motP a (p + 1) - motP a p /\ motP a (p + 1) - motP a p <= 1 := by
 have hc := corP_step h p
 have hs := h.step
 have hp : 0 < a.step := by omega
 unfold motP
 have up : near (p + corP a p + a.step) a.step = near (p + corP a p) a.step + 1 := by
  obtain ⟨a1, b1⟩ := near_spec (a := p + corP a p) hp
  refine near_of hp ?_ ?_
  ·rw [Int.add_mul]; omega
  ·rw [Int.add_mul, Int.add_mul] at *; omega
 have dn : near (p + corP a p - a.step) a.step = near (p + corP a p) a.step - 1 := by
  obtain ⟨a1, b1⟩ := near_spec (a := p + corP a p) hp
  refine near_of hp ?_ ?_
  ·rw [Int.sub_mul]; omega
  ·rw [Int.add_mul] at b1; rw [Int.add_mul, Int.sub_mul]; omega
 have m1 := near_mono hp (show p + 1 + corP a (p + 1) <= p + corP a p + a.step by omega)
 have m2 := near_mono hp (show p + corP a p - a.step <= p + 1 + corP a (p + 1) by omega)
 omega
theorem motP_step {a : Axs} (h : AxOK a) {p q : Int} (hq : -1 <= q - p /\ q - p <= 1) : -1 <= motP a q - motP a p /\ motP a q - motP a p <= 1 := by
 have hc : q = p + 1 \/ q = p \/ p = q + 1 := by omega
 rcases hc with rfl | rfl | rfl
 ·exact motP_step1 h p
 ·omega
 ·have := motP_step1 h q; omega

def okD (d : Pt) : Prop := (d.x = 1 \/ d.x = -1) /\ (d.y = 1 \/ d.y = -1) /\ (d.z = 1 \/ d.z = -1)
theorem turnD_ok {d a b : Pt} {mv : Int} (hv : mv = 1 \/ mv = -1) (h : okD d) : okD (turnD d a b mv) := by
 obtain ⟨h1, h2, h3⟩ := h
 unfold okD turnD turn1
 simp only
 refine ⟨?_, ?_, ?_⟩ <;> (repeat' split) <;> omega
theorem addT_dirs {t : Trk} {c : Pce} (h : ∀ k ∈ t.pieces, okD k.dirs) (hc : okD c.dirs) : ∀ k ∈ (addT t c).pieces, okD k.dirs := by
 unfold addT
 by_cases g : t.pieces ≠ [] /\ c.move ≠ 0 /\ (lastP t.pieces).move = c.move /\ (lastP t.pieces).dirs = c.dirs
 ·rw [if_pos g]
  intro k hk
  rcases List.mem_or_eq_of_mem_set hk with hk | rfl
  ·exact h k hk
  ·have := h (lastP t.pieces) (lastP_mem g.1); exact this
 ·rw [if_neg g]
  intro k hk
  rcases List.mem_append.1 hk with hk | hk
  ·exact h k hk
  ·rw [List.mem_singleton] at hk; subst hk; exact hc
theorem legN_dirs {p : Pth} {x : Ax3} {mv lo hi f : Int} {d : Pt} (hv : mv = 1 \/ mv = -1) (hd : okD d) : ∀ j, (∀ k ∈ (legN p x mv lo hi (⟨[], 0, f, d⟩, d) j).1.pieces, okD k.dirs) /\ okD (legN p x mv lo hi (⟨[], 0, f, d⟩, d) j).2
 | 0 => ⟨by simp [legN], hd⟩
 | j + 1 => by
  obtain ⟨h1, h2⟩ := legN_dirs (p := p) (x := x) (lo := lo) (hi := hi) (f := f) hv hd j
  rw [legN]
  unfold segT
  split
  ·unfold visit
   simp only
   have ht := turnD_ok (a := vertL p.start p.segs (idxT p.segs.length mv j)) (b := (sgA p.segs (idxT p.segs.length mv j)).to) hv h2
   refine ⟨addT_dirs ?_ ht, ht⟩
   split
   ·exact addT_dirs h1 ht
   ·exact h1
  ·exact ⟨h1, h2⟩
theorem legP_dirs {p : Pth} {x : Ax3} {d : Pt} {a b : Int} (hd : okD d) : ∀ k ∈ (legP p x d a b).pieces, okD k.dirs := by
 unfold legP
 exact (legN_dirs (by split <;> simp) hd _).1

def motC (a : Axs) (g : Int -> Int) (f : Pt -> Int) (c : Pce) (u : Int) : Int := motP a (g (c.s + c.move * (u - c.at_))) + shiftP a c.move c.at_ (f c.was) (f c.dirs) u
def motL (a : Axs) (g : Int -> Int) (f : Pt -> Int) : List Pce -> Int -> Int
 | [], _ => 0
 | c :: l, u => if u <= c.at_ + c.units then motC a g f c u else motL a g f l u
def AxisOf (x : Ax3) (a : Axs) (f : Pt -> Int) : Prop := (0 <= a.back /\ a.back <= 1000) /\ (∀ d, okD d -> f d = 1 \/ f d = -1) /\ (∀ w d, f w ≠ f d -> a.back <= slackD x w d)
theorem axis_x {x : Ax3} (h : Ax3OK x) : AxisOf x x.a Pt.x := ⟨h.a, fun d hd => hd.1, fun w d hn => by have h1 := h.a; unfold slackD slk; rw [if_neg hn]; (repeat' split) <;> omega⟩
theorem axis_y {x : Ax3} (h : Ax3OK x) : AxisOf x x.b Pt.y := ⟨h.b, fun d hd => hd.2.1, fun w d hn => by have h1 := h.a; have h2 := h.b; unfold slackD slk; rw [if_neg hn]; (repeat' split) <;> omega⟩
theorem axis_z {x : Ax3} (h : Ax3OK x) : AxisOf x x.c Pt.z := ⟨h.c, fun d hd => hd.2.2, fun w d hn => by have h1 := h.a; have h2 := h.b; unfold slackD slk; rw [if_neg hn]; omega⟩
theorem motC_join {x : Ax3} {a : Axs} {f : Pt -> Int} {g : Int -> Int} {mv : Int} {Q : Int -> Pt -> Prop} {at_ s : Int} {d : Pt} {c : Pce} {l : List Pce} (hA : AxisOf x a f) (h : chain x mv Q at_ s d (c :: l)) (hv : mv = 1 \/ mv = -1) (hd : okD d) (hc : okD c.dirs) :
  motC a g f c at_ = motP a (g s) + dirP a (f d) /\ motC a g f c (at_ + c.units) = motP a (g (s + c.move * c.units)) + dirP a (f c.dirs) := by
 obtain ⟨hb, hf, hs⟩ := hA
 obtain ⟨h1, h2, h3, h4, -⟩ := h
 have f1 := hf d hd
 have f2 := hf c.dirs hc
 unfold motC
 rw [h1, h2, show at_ - at_ = 0 by omega, show at_ + c.units - at_ = c.units by omega, Int.mul_zero, Int.add_zero]
 rcases h4 with ⟨k1, k2, k3, -⟩ | ⟨k1, k2, k3⟩
 ·have hm : c.move ≠ 0 := by rcases hv with rfl | rfl <;> omega
  unfold shiftP
  rw [if_pos (.inl hm), if_pos (.inl hm)]
  refine ⟨?_, rfl⟩
  by_cases e : f d = f c.dirs
  ·rw [e]
  ·have := hs d c.dirs e
   rw [k3] at this
   unfold dirP
   (repeat' split) <;> omega
 ·rw [k1, k2, Int.zero_mul, Int.add_zero]
  by_cases e : f d = f c.dirs
  ·unfold shiftP
   have hP : (0 : Int) ≠ 0 \/ f d = f c.dirs := .inr e
   rw [if_pos hP, if_pos hP, e]; exact ⟨rfl, rfl⟩
  ·have := hs d c.dirs e
   rw [<- k3] at this
   have hN : ¬ ((0 : Int) ≠ 0 \/ f d = f c.dirs) := fun g => g.elim (fun g => g rfl) e
   unfold shiftP dirP
   rw [if_neg hN, if_neg hN]
   generalize motP a (g s) = M
   constructor
   ·rcases f2 with f2 | f2 <;> rcases f1 with f1 | f1 <;> rw [f2, f1] <;> simp <;> omega
   ·rcases f2 with f2 | f2 <;> rw [f2] <;> simp <;> omega
theorem motC_step {x : Ax3} {a : Axs} {f : Pt -> Int} {g : Int -> Int} {mv : Int} {Q : Int -> Pt -> Prop} {at_ s : Int} {d : Pt} {c : Pce} {l : List Pce} (hA : AxisOf x a f) (ha : AxOK a) (hg : ∀ s, -1 <= g (s + 1) - g s /\ g (s + 1) - g s <= 1) (h : chain x mv Q at_ s d (c :: l)) (hv : mv = 1 \/ mv = -1) {u : Int} (hu : at_ <= u) :
  -1 <= motC a g f c (u + 1) - motC a g f c u /\ motC a g f c (u + 1) - motC a g f c u <= 1 := by
 obtain ⟨hb, hf, hs⟩ := hA
 obtain ⟨h1, h2, h3, h4, -⟩ := h
 unfold motC
 rw [h1, h2]
 rcases h4 with ⟨k1, k2, k3, -⟩ | ⟨k1, k2, k3⟩
 ·have hm : c.move ≠ 0 := by rcases hv with rfl | rfl <;> omega
  unfold shiftP
  rw [if_pos (.inl hm), if_pos (.inl hm), k1]
  have := motP_step ha (p := g (s + mv * (u - at_))) (q := g (s + mv * (u + 1 - at_))) (by
   rcases hv with rfl | rfl
   ·have := hg (s + 1 * (u - at_)); rw [show s + 1 * (u + 1 - at_) = s + 1 * (u - at_) + 1 by omega]; exact this
   ·have := hg (s + -1 * (u + 1 - at_)); rw [show s + -1 * (u - at_) = s + -1 * (u + 1 - at_) + 1 by omega]; omega)
  omega
 ·unfold shiftP
  rw [k1, Int.zero_mul, Int.zero_mul]
  (repeat' split) <;> omega
theorem motL_step {x : Ax3} {a : Axs} {f : Pt -> Int} {g : Int -> Int} {mv : Int} {Q : Int -> Pt -> Prop} (hA : AxisOf x a f) (ha : AxOK a) (hg : ∀ s, -1 <= g (s + 1) - g s /\ g (s + 1) - g s <= 1) (hv : mv = 1 \/ mv = -1) : ∀ {at_ s : Int} {d : Pt} {l : List Pce}, chain x mv Q at_ s d l -> okD d -> (∀ k ∈ l, okD k.dirs) -> ∀ u, at_ <= u -> u < endAt at_ l ->
  -1 <= motL a g f l (u + 1) - motL a g f l u /\ motL a g f l (u + 1) - motL a g f l u <= 1
 | at_, s, d, [], h, _, _, u, h1, h2 => by simp only [endAt] at h2; omega
 | at_, s, d, c :: l, h, hd, hk, u, hu1, hu2 => by
  have hc := hk c (by simp)
  have hat := h.1
  unfold motL
  by_cases c1 : u + 1 <= c.at_ + c.units
  ·rw [if_pos c1, if_pos (by omega)]
   exact motC_step hA ha hg h hv hu1
  ·rw [if_neg c1]
   have h5 := h.2.2.2.2
   by_cases c2 : u <= c.at_ + c.units
   · -- the join
    rw [if_pos c2]
    have e : u = at_ + c.units := by omega
    have hj := (motC_join (g := g) hA h hv hd hc).2
    rw [e, hj]
    cases l with
    | nil => simp only [endAt] at hu2; omega
    | cons c' l' =>
     have hc' := hk c' (by simp)
     have hj' := (motC_join (g := g) hA h5 hv hc hc').1
     have hst := motC_step (u := at_ + c.units) hA ha hg h5 hv (Int.le_refl _)
     have h51 := h5.1
     have h53 := h5.2.2.1
     unfold motL
     rw [if_pos (by omega), <- hj']; exact hst
   ·rw [if_neg c2]
    exact motL_step hA ha hg hv h5 hc (fun k hk' => hk k (by simp [hk'])) u (by omega) hu2
theorem motL_eq {a : Axs} {g : Int -> Int} {f : Pt -> Int} : ∀ {l : List Pce} {u : Int}, fI l u < l.length -> motL a g f l u = motC a g f (pcA l (fI l u)) u
 | [], _, h => by simp at h
 | c :: l, u, h => by
  unfold fI at h ⊢
  unfold motL
  by_cases c0 : u <= c.at_ + c.units
  ·rw [if_pos c0, if_pos c0, pcA_zero]
  ·rw [if_neg c0] at h ⊢
   rw [if_neg c0, pcA_cons]
   exact motL_eq (by simpa using h)
end Go.Bm
/- the law TrackUnit, over the models -/
set_option maxRecDepth 100000
namespace Go.Bm
open Classical

theorem at_g {p : Pth} (hp : GoodPath p) (s : Int) : (-1 <= (atP p (s + 1)).x - (atP p s).x /\ (atP p (s + 1)).x - (atP p s).x <= 1) /\ (-1 <= (atP p (s + 1)).y - (atP p s).y /\ (atP p (s + 1)).y - (atP p s).y <= 1) /\ (-1 <= (atP p (s + 1)).z - (atP p s).z /\ (atP p (s + 1)).z - (atP p s).z <= 1) := atP_step hp s
theorem motors_step {p : Pth} {x : Ax3} {t : Trk} {mv e u : Int} {d : Pt} {Q : Int -> Pt -> Prop} (hp : GoodPath p) (hx : Ax3M x) (hv : mv = 1 \/ mv = -1) (hc : TC x mv Q t e d) (ht : TQ t) (hd : okD t.dirs) (hk : ∀ k ∈ t.pieces, okD k.dirs) (hu : 0 <= u /\ u < t.length) :
  close1 (motorsP p x t u) (motorsP p x t (u + 1)) := by
 obtain ⟨h1, h2, -, -⟩ := hc
 have hne : t.pieces ≠ [] := by
  intro c
  rw [c] at h2; simp only [endAt] at h2; omega
 have hcl : ∀ v, 0 <= v -> v <= t.length -> clT t v = v := by intro v g1 g2; unfold clT clampP; omega
 have hm : ∀ (a : Axs) (f : Pt -> Int) (g : Int -> Int) (v : Int), 0 <= v -> v <= t.length -> motP a (g (placeP t v)) + shT a t v f = motL a g f t.pieces v := by
  intro a f g v g1 g2
  have hi := iT_lt ht v hne
  have ei : iT t v = fI t.pieces v := by unfold iT; rw [hcl v g1 g2]
  unfold placeP shT
  rw [if_neg hne, if_neg hne, ei, hcl v g1 g2]
  rw [ei] at hi
  exact (motL_eq hi).symm
 have key : ∀ (a : Axs) (f : Pt -> Int) (g : Int -> Int), AxisOf x a f -> AxOK a -> (∀ s, -1 <= g (s + 1) - g s /\ g (s + 1) - g s <= 1) -> -1 <= (motP a (g (placeP t (u + 1))) + shT a t (u + 1) f) - (motP a (g (placeP t u)) + shT a t u f) /\ (motP a (g (placeP t (u + 1))) + shT a t (u + 1) f) - (motP a (g (placeP t u)) + shT a t u f) <= 1 := by
  intro a f g hA ha hg
  rw [hm a f g u hu.1 (by omega), hm a f g (u + 1) (by omega) (by omega)]
  exact motL_step hA ha hg hv h1 hd hk u hu.1 (by rw [h2]; exact hu.2)
 have hg := at_g hp
 exact ⟨key x.a Pt.x (fun s => (atP p s).x) (axis_x hx.ok) hx.a fun s => (hg s).1, key x.b Pt.y (fun s => (atP p s).y) (axis_y hx.ok) hx.b fun s => (hg s).2.1, key x.c Pt.z (fun s => (atP p s).z) (axis_z hx.ok) hx.c fun s => (hg s).2.2⟩
theorem motors_bd {p : Pth} {x : Ax3} {t : Trk} (hp : GoodPath p) (hx : Ax3M x) (ht : TH t) (u : Int) : (motorsP p x t u).x.natAbs <= 3000000000 /\ (motorsP p x t u).y.natAbs <= 3000000000 /\ (motorsP p x t u).z.natAbs <= 3000000000 := by
 obtain ⟨o1, o2, o3⟩ := okB_at hp (placeP t u)
 have b1 := motP_bd hx.a o1
 have b2 := motP_bd hx.b o2
 have b3 := motP_bd hx.c o3
 have s1 := shT_bd hx.ok.a ht u Pt.x
 have s2 := shT_bd hx.ok.b ht u Pt.y
 have s3 := shT_bd hx.ok.c ht u Pt.z
 unfold motorsP nomP
 simp only
 omega
theorem l_TrackUnit {MT MN MW : List AC -> Option (List AC)} {p : Pth} {x : Ax3} {t : Trk} (hl : 0 <= t.length /\ t.length <= 900000000000000) (hT : ∀ v, MT (pthR p ++ ax3R x ++ trkR t ++ [I v]) = some (ptR (motorsP p x t v)))
  (hb : ∀ u, (motorsP p x t u).x.natAbs <= 3000000000 /\ (motorsP p x t u).y.natAbs <= 3000000000 /\ (motorsP p x t u).z.natAbs <= 3000000000) (hs : ∀ u, 0 <= u -> u < t.length -> close1 (motorsP p x t u) (motorsP p x t (u + 1))) :
  ∀ (k : Nat) (u : Int), u + k = t.length -> 0 <= u -> ∀ w, w = motorsP p x t u -> loopC (st_cnclaw29_TrackUnit_6 MT MN MW) [I (u + 1), I p.start.x, I p.start.y, I p.start.z, .view kSgm (p.segs.map sgmR), .view kMrk (p.marks.map mrkR), I x.a.step, I x.a.speed, I x.a.accel, I x.a.jerk, I x.a.low, I x.a.high, I x.a.back, I x.a.origin, I x.a.spacing, .view kInts (x.a.pitch.map intR), I x.b.step, I x.b.speed, I x.b.accel, I x.b.jerk, I x.b.low, I x.b.high, I x.b.back, I x.b.origin, I x.b.spacing, .view kInts (x.b.pitch.map intR), I x.c.step, I x.c.speed, I x.c.accel, I x.c.jerk, I x.c.low, I x.c.high, I x.c.back, I x.c.origin, I x.c.spacing, .view kInts (x.c.pitch.map intR), .view kPce (t.pieces.map pceR), I t.length, I t.start, I t.dirs.x, I t.dirs.y, I t.dirs.z, I w.x, I w.y, I w.z] = some (2, [])
 | 0, u, hi, _, w, hw => by
  refine loop_end (o := (2, _)) ?_ (by simp)
  rw [st_cnclaw29_TrackUnit_6_eq, bif_neg (by omega)]
 | k + 1, u, hi, hu, w, hw => by
  have h2 := hT (u + 1)
  have hc := hs u hu (by omega)
  have b1 := hb u
  have b2 := hb (u + 1)
  rw [<- hw] at hc b1
  have hst : st_cnclaw29_TrackUnit_6 MT MN MW [I (u + 1), I p.start.x, I p.start.y, I p.start.z, .view kSgm (p.segs.map sgmR), .view kMrk (p.marks.map mrkR), I x.a.step, I x.a.speed, I x.a.accel, I x.a.jerk, I x.a.low, I x.a.high, I x.a.back, I x.a.origin, I x.a.spacing, .view kInts (x.a.pitch.map intR), I x.b.step, I x.b.speed, I x.b.accel, I x.b.jerk, I x.b.low, I x.b.high, I x.b.back, I x.b.origin, I x.b.spacing, .view kInts (x.b.pitch.map intR), I x.c.step, I x.c.speed, I x.c.accel, I x.c.jerk, I x.c.low, I x.c.high, I x.c.back, I x.c.origin, I x.c.spacing, .view kInts (x.c.pitch.map intR), .view kPce (t.pieces.map pceR), I t.length, I t.start, I t.dirs.x, I t.dirs.y, I t.dirs.z, I w.x, I w.y, I w.z] = some (0, [I (u + 1 + 1), I p.start.x, I p.start.y, I p.start.z, .view kSgm (p.segs.map sgmR), .view kMrk (p.marks.map mrkR), I x.a.step, I x.a.speed, I x.a.accel, I x.a.jerk, I x.a.low, I x.a.high, I x.a.back, I x.a.origin, I x.a.spacing, .view kInts (x.a.pitch.map intR), I x.b.step, I x.b.speed, I x.b.accel, I x.b.jerk, I x.b.low, I x.b.high, I x.b.back, I x.b.origin, I x.b.spacing, .view kInts (x.b.pitch.map intR), I x.c.step, I x.c.speed, I x.c.accel, I x.c.jerk, I x.c.low, I x.c.high, I x.c.back, I x.c.origin, I x.c.spacing, .view kInts (x.c.pitch.map intR), .view kPce (t.pieces.map pceR), I t.length, I t.start, I t.dirs.x, I t.dirs.y, I t.dirs.z, I (motorsP p x t (u + 1)).x, I (motorsP p x t (u + 1)).y, I (motorsP p x t (u + 1)).z]) := by
   rw [st_cnclaw29_TrackUnit_6_eq]
   simp only [trkR, ax3R, pthR, List.cons_append, List.nil_append] at h2
   unfold close1 at hc
   generalize motorsP p x t (u + 1) = m at *
   simp only [h2, go_sem, wrap_id (x := u + 1 + 1) (by omega), wrap_id (x := m.x - w.x) (by omega), wrap_id (x := m.y - w.y) (by omega), wrap_id (x := m.z - w.z) (by omega)]
   rw [if_pos (by omega), if_neg (by omega), if_neg (by omega), if_neg (by omega), if_neg (by omega), if_neg (by omega), if_neg (by omega)]
  rw [loop_more hst]
  exact l_TrackUnit hl hT hb hs k (u + 1) (by omega) (by omega) _ rfl
theorem a_TrackUnit {MT MN MW : List AC -> Option (List AC)} {N : List AC -> Option (Nat × List AC)} {l ax : List (List AC)} {dirs from_ to n : Int} {p : Pth} {x : Ax3} {t : Trk} (hW : MW [] = some [B true])
  (hN : MN [.view kInts l, .view kInts ax, I dirs, I from_, I to] = some (pthR p ++ ax3R x ++ trkR t ++ [I n])) (hT : ∀ v, MT (pthR p ++ ax3R x ++ trkR t ++ [I v]) = some (ptR (motorsP p x t v)))
  (hL : N [I 1, I p.start.x, I p.start.y, I p.start.z, .view kSgm (p.segs.map sgmR), .view kMrk (p.marks.map mrkR), I x.a.step, I x.a.speed, I x.a.accel, I x.a.jerk, I x.a.low, I x.a.high, I x.a.back, I x.a.origin, I x.a.spacing, .view kInts (x.a.pitch.map intR), I x.b.step, I x.b.speed, I x.b.accel, I x.b.jerk, I x.b.low, I x.b.high, I x.b.back, I x.b.origin, I x.b.spacing, .view kInts (x.b.pitch.map intR), I x.c.step, I x.c.speed, I x.c.accel, I x.c.jerk, I x.c.low, I x.c.high, I x.c.back, I x.c.origin, I x.c.spacing, .view kInts (x.c.pitch.map intR), .view kPce (t.pieces.map pceR), I t.length, I t.start, I t.dirs.x, I t.dirs.y, I t.dirs.z, I (motorsP p x t 0).x, I (motorsP p x t 0).y, I (motorsP p x t 0).z] = some (2, [])) :
  mf_cnclaw29_TrackUnit MT MN MW N [.view kInts l, .view kInts ax, I dirs, I from_, I to] = some [B true] := by
 rw [mf_cnclaw29_TrackUnit_eq]
 have h1 := hT 0
 simp only [trkR, ax3R, pthR, List.cons_append, List.nil_append] at *
 simp only [go_sem, hW, hN, h1, hL]
 simp
theorem s_TrackUnit {l ax : List (List AC)} (hl : Src l) (ha : Src ax) {dirs from_ to : Int} (h2 : i64 dirs) (h3 : i64 from_) (h4 : i64 to) :
  m_cnclaw29_TrackUnit [.view kInts l, .view kInts ax, I dirs, I from_, I to] = some [B true] := by
 obtain ⟨p, x, d, a, b, hr, hp, hx, hd⟩ := s_run hl ha h2 h3 h4
 have ht := legP_TH d a b hx.ok hp
 have hlen := ht.q.len
 obtain ⟨d', hc, -, hdd⟩ := legP_chain (d := d) (a := a) (b := b) (Q := fun _ _ => True) hx.ok hp (fun _ _ _ _ _ _ _ _ => trivial)
 have hk := legP_dirs (p := p) (x := x) (a := a) (b := b) (d := d) hd
 have hdo : okD (legP p x d a b).dirs := by rw [hdd]; exact hd
 refine a_TrackUnit m_cnclaw29_awake_eq hr (s_Motors hp hx ht) ?_
 have := l_TrackUnit (MN := m_cnclaw29_run) (MW := m_cnclaw29_awake) hlen (s_Motors hp hx ht) (motors_bd hp hx ht) (fun u g1 g2 => motors_step hp hx (mvP_or p a b) hc ht.q hdo hk ⟨g1, g2⟩) (legP p x d a b).length.toNat 0 (by omega) (by omega) _ rfl
 exact this
end Go.Bm
