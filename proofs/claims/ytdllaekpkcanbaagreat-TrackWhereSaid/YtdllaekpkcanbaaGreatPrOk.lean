/- laid together -/
import Derived.Test.YtdllaekpkcanbaaGreatPrTm
import Derived.Test.YtdllaekpkcanbaaGreatMy1
import Derived.Test.YtdllaekpkcanbaaGreatPrH
set_option linter.unusedVariables false
set_option linter.unusedSimpArgs false
/- the law TrackWhere: the first track position at a path position -/
set_option maxRecDepth 100000
namespace Go.Bm
open Classical

def wF (z : Int) : List Pce -> Int
 | [] => -1
 | c :: l => if c.move ≠ 0 /\ 0 <= (z - c.s) * c.move /\ (z - c.s) * c.move <= c.units then c.at_ + (z - c.s) * c.move else wF z l
def whereP (t : Trk) (z : Int) : Int := if z = t.start then 0 else wF z t.pieces
def plL : List Pce -> Int -> Int
 | [], _ => 0
 | c :: l, u => if u <= c.at_ + c.units then c.s + c.move * (u - c.at_) else plL l u
theorem plL_eq : ∀ {l : List Pce} {u : Int}, fI l u < l.length -> plL l u = (pcA l (fI l u)).s + (pcA l (fI l u)).move * (u - (pcA l (fI l u)).at_)
 | [], _, h => by simp at h
 | c :: l, u, h => by
  unfold fI at h ⊢
  unfold plL
  by_cases c0 : u <= c.at_ + c.units
  ·rw [if_pos c0, if_pos c0, pcA_zero]
  ·rw [if_neg c0] at h ⊢
   rw [if_neg c0, pcA_cons]
   exact plL_eq (by simpa using h)
theorem place_plL {t : Trk} (h : TQ t) (u : Int) (hne : t.pieces ≠ []) : placeP t u = plL t.pieces (clT t u) := by
 have hi := iT_lt h u hne
 unfold placeP
 rw [if_neg hne]
 exact (plL_eq hi).symm
theorem end_ahead {x : Ax3} {mv : Int} {Q : Int -> Pt -> Prop} (hv : mv = 1 \/ mv = -1) : ∀ {a s : Int} {d : Pt} {l : List Pce}, chain x mv Q a s d l -> 0 <= mv * (endQ s l - s)
 | a, s, d, [], _ => by simp [endQ]
 | a, s, d, c :: l, h => by
  obtain ⟨h1, h2, h3, h4, h5⟩ := h
  have ih := end_ahead hv h5
  unfold endQ
  generalize endQ (s + c.move * c.units) l = E at *
  have hm : c.move = mv \/ c.move = 0 := by rcases h4 with h4 | h4 <;> simp [h4.1]
  rcases hm with hm | hm <;> rw [hm] at ih <;> rcases hv with rfl | rfl <;> omega
theorem wF_spec {x : Ax3} {mv : Int} {Q : Int -> Pt -> Prop} (hv : mv = 1 \/ mv = -1) (z : Int) : ∀ {a s : Int} {d : Pt} {l : List Pce}, chain x mv Q a s d l ->
  (mv * (z - s) < 0 -> wF z l = -1) /\ (0 < mv * (z - endQ s l) -> wF z l = -1) /\
  (0 < mv * (z - s) -> mv * (z - endQ s l) <= 0 -> a < wF z l /\ wF z l <= endAt a l /\ plL l (wF z l) = z /\ ∀ v, a <= v -> v < wF z l -> mv * (plL l v - z) < 0)
 | a, s, d, [], _ => by
  simp only [endQ, wF]
  exact ⟨fun _ => trivial, fun _ => trivial, fun h1 h2 => absurd h1 (by omega)⟩
 | a, s, d, c :: l, h => by
  obtain ⟨h1, h2, h3, h4, h5⟩ := h
  obtain ⟨i1, i2, i3⟩ := wF_spec hv z h5
  have hend := end_ahead hv h5
  have hge := endAt_ge h5
  have hm : c.move = mv \/ c.move = 0 := by rcases h4 with h4 | h4 <;> simp [h4.1]
  simp only [endQ, endAt]
  generalize endQ (s + c.move * c.units) l = E at *
  generalize endAt (a + c.units) l = A at *
  have key : (0 < mv * (z - (s + c.move * c.units)) -> mv * (z - E) <= 0 -> wF z (c :: l) = wF z l -> (∀ v, a <= v -> v <= a + c.units -> mv * (s + c.move * (v - a) - z) < 0) ->
    a < wF z (c :: l) /\ wF z (c :: l) <= A /\ plL (c :: l) (wF z (c :: l)) = z /\ ∀ v, a <= v -> v < wF z (c :: l) -> mv * (plL (c :: l) v - z) < 0) := by
   intro g1 g2 g3 g4
   obtain ⟨k1, k2, k3, k4⟩ := i3 g1 g2
   rw [g3]
   refine ⟨by omega, k2, ?_, ?_⟩
   ·unfold plL; rw [if_neg (by omega)]; exact k3
   ·intro v w1 w2
    unfold plL
    by_cases w3 : v <= c.at_ + c.units
    ·rw [if_pos w3, h1, h2]; exact g4 v w1 (by omega)
    ·rw [if_neg w3]; exact k4 v (by omega) w2
  rcases hm with hm | hm
  · -- a piece that moves
   have hmne : c.move ≠ 0 := by rcases hv with rfl | rfl <;> omega
   rw [hm] at i1 i3 key
   by_cases c0 : 0 <= (z - s) * mv /\ (z - s) * mv <= c.units
   ·have hw : wF z (c :: l) = a + (z - s) * mv := by unfold wF; rw [h2, hm, h1, if_pos ⟨by omega, c0.1, c0.2⟩]
    rw [hw]
    refine ⟨fun g => ?_, fun g => ?_, fun g1 g2 => ⟨?_, ?_, ?_, ?_⟩⟩
    ·rcases hv with rfl | rfl <;> omega
    ·rw [hm] at hend; rcases hv with rfl | rfl <;> omega
    ·rcases hv with rfl | rfl <;> omega
    ·omega
    ·unfold plL; rw [if_pos (by omega), h1, h2, hm]; rcases hv with rfl | rfl <;> omega
    ·intro v w1 w2
     unfold plL; rw [if_pos (by omega), h1, h2, hm]; rcases hv with rfl | rfl <;> omega
   ·have hw : wF z (c :: l) = wF z l := by
     show (if _ then _ else _) = _
     rw [h2, hm, if_neg fun g => c0 g.2]
    refine ⟨fun g => ?_, fun g => ?_, fun g1 g2 => ?_⟩
    ·rw [hw]; exact i1 (by rcases hv with rfl | rfl <;> omega)
    ·rw [hw]; exact i2 g
    ·refine key (by rcases hv with rfl | rfl <;> omega) g2 hw ?_
     intro v w1 w2
     rcases hv with rfl | rfl <;> omega
  ·have hw : wF z (c :: l) = wF z l := by
    show (if _ then _ else _) = _
    rw [if_neg fun g => g.1 hm]
   rw [hm] at i1 i3 key
   simp only [Int.zero_mul, Int.add_zero] at i1 i3 key
   refine ⟨fun g => ?_, fun g => ?_, fun g1 g2 => ?_⟩
   ·rw [hw]; exact i1 g
   ·rw [hw]; exact i2 g
   ·refine key g1 g2 hw ?_
    intro v w1 w2
    rcases hv with rfl | rfl <;> omega
theorem plL_end {x : Ax3} {mv : Int} {Q : Int -> Pt -> Prop} : ∀ {a s : Int} {d : Pt} {l : List Pce}, chain x mv Q a s d l -> l ≠ [] -> plL l (endAt a l) = endQ s l
 | a, s, d, [c], h, _ => by
  obtain ⟨h1, h2, h3, -⟩ := h
  show plL [c] (a + c.units) = s + c.move * c.units
  unfold plL
  rw [if_pos (by omega), h1, h2, show a + c.units - a = c.units by omega]
 | a, s, d, c :: e :: l, h, _ => by
  obtain ⟨h1, h2, h3, -, h5⟩ := h
  have ih := plL_end h5 (by simp)
  have hp : a + c.units < endAt (a + c.units) (e :: l) := by
   obtain ⟨-, -, g3, -, g5⟩ := h5
   have := endAt_ge g5
   simp only [endAt]; omega
  show plL (c :: e :: l) (endAt (a + c.units) (e :: l)) = endQ (s + c.move * c.units) (e :: l)
  rw [<- ih]
  generalize endAt (a + c.units) (e :: l) = A at *
  show (if _ then _ else _) = _
  rw [if_neg (by omega)]
theorem l_Where {t : Trk} (h : TQ t) {z : Int} (hz : i64 z) : ∀ (k j : Nat), j + k = t.pieces.length -> wF z (t.pieces.drop j) = -1 /\ loopC st_track_Where_4 [I z, .view kPce (t.pieces.map pceR), I t.pieces.length, I j] = some (2, []) \/
  loopC st_track_Where_4 [I z, .view kPce (t.pieces.map pceR), I t.pieces.length, I j] = some (1, [I (wF z (t.pieces.drop j))])
 | 0, j, hj => by
  left
  rw [List.drop_of_length_le (by omega)]
  refine ⟨rfl, loop_end (o := (2, _)) ?_ (by simp)⟩
  rw [st_track_Where_4_eq, bif_neg (by omega)]
 | k + 1, j, hj => by
  have hlt : j < t.pieces.length := by omega
  have hcnt := h.count
  have hin : (0 : Int) <= (j : Int) /\ (j : Int) < (t.pieces.length : Int) := by omega
  have hpos := h.pos j hlt
  have hl := h.len
  have hs := h.s j hlt
  have hmv := h.move j hlt
  have e : t.pieces.drop j = pcA t.pieces j :: t.pieces.drop (j + 1) := by
   have e1 : pcA t.pieces j = t.pieces[j] := by unfold pcA; simp [hlt]
   rw [e1]; exact getElem_take_drop _ _ hlt
  have hst : st_track_Where_4 [I z, .view kPce (t.pieces.map pceR), I t.pieces.length, I j] = if (pcA t.pieces j).move ≠ 0 /\ 0 <= (z - (pcA t.pieces j).s) * (pcA t.pieces j).move /\ (z - (pcA t.pieces j).s) * (pcA t.pieces j).move <= (pcA t.pieces j).units then
    some (1, [I ((pcA t.pieces j).at_ + (z - (pcA t.pieces j).s) * (pcA t.pieces j).move)]) else some (0, [I z, .view kPce (t.pieces.map pceR), I t.pieces.length, I (j + 1 : Nat)]) := by
   rw [st_track_Where_4_eq]
   simp only [go_sem, List.length_map, Int.toNat_natCast, row_pcA hlt, if_pos hin, wrap_id (x := (j : Int) + 1) (by omega)]
   rw [if_pos (by omega)]
   unfold eI at hpos
   unfold i64 at hz
   generalize pcA t.pieces j = c at *
   have wrap2 : ∀ y : Int, -9223372036854775808 - 2000000000000000 <= y -> y <= 9223372036854775807 + 2000000000000000 -> (IntKind.i64.wrap y = y /\ -9223372036854775808 <= y /\ y <= 9223372036854775807) \/ (IntKind.i64.wrap y = y + 18446744073709551616 /\ y < -9223372036854775808) \/ (IntKind.i64.wrap y = y - 18446744073709551616 /\ y > 9223372036854775807) := by
    intro y y1 y2
    have hw := i64_wrap y
    unfold i64 at hw
    by_cases c1 : -9223372036854775808 <= y /\ y <= 9223372036854775807
    ·exact .inl ⟨wrap_id c1, c1⟩
    ·have := wrap_def y
     omega
   by_cases c0 : c.move = 0
   ·have hP : ¬ (c.move ≠ 0 /\ 0 <= (z - c.s) * c.move /\ (z - c.s) * c.move <= c.units) := fun g => g.1 c0
    rw [if_neg (by omega), if_neg hP]; rfl
   ·rw [if_pos c0]
    have hm : c.move = 1 \/ c.move = -1 := by omega
    have a1 := wrap2 (z - c.s) (by omega) (by omega)
    have hw2 : IntKind.i64.wrap (IntKind.i64.wrap (z - c.s) * c.move) = (z - c.s) * c.move \/ ((IntKind.i64.wrap (IntKind.i64.wrap (z - c.s) * c.move) < 0 \/ IntKind.i64.wrap (IntKind.i64.wrap (z - c.s) * c.move) > 1000000000000000) /\ ((z - c.s) * c.move < 0 \/ (z - c.s) * c.move > 1000000000000000)) := by
     generalize IntKind.i64.wrap (z - c.s) = y at *
     have a2 := wrap2 (y * c.move) (by rcases hm with hm | hm <;> rw [hm] <;> omega) (by rcases hm with hm | hm <;> rw [hm] <;> omega)
     rcases hm with hm | hm <;> rw [hm] at a2 ⊢ <;> omega
    generalize IntKind.i64.wrap (IntKind.i64.wrap (z - c.s) * c.move) = n at *
    by_cases c1 : 0 <= (z - c.s) * c.move /\ (z - c.s) * c.move <= c.units
    ·have en : n = (z - c.s) * c.move := by omega
     have hP : c.move ≠ 0 /\ 0 <= (z - c.s) * c.move /\ (z - c.s) * c.move <= c.units := ⟨c0, c1⟩
     rw [if_pos hP, en, if_pos c1.1, if_pos c1.2, wrap_id (by omega)]
    ·have hP : ¬ (c.move ≠ 0 /\ 0 <= (z - c.s) * c.move /\ (z - c.s) * c.move <= c.units) := fun g => c1 g.2
     rw [if_neg hP]
     by_cases c2 : 0 <= n
     ·rw [if_pos c2, if_neg (by omega)]; rfl
     ·rw [if_neg c2]; rfl
  rw [e]
  by_cases c : (pcA t.pieces j).move ≠ 0 /\ 0 <= (z - (pcA t.pieces j).s) * (pcA t.pieces j).move /\ (z - (pcA t.pieces j).s) * (pcA t.pieces j).move <= (pcA t.pieces j).units
  ·rw [if_pos c] at hst
   right
   rw [loop_end hst (by simp)]
   unfold wF; rw [if_pos c]
  ·rw [if_neg c] at hst
   rw [loop_more hst]
   unfold wF; rw [if_neg c]
   exact l_Where h hz k (j + 1) (by omega)
theorem s_Where {t : Trk} (h : TQ t) {z : Int} (hz : i64 z) : m_track_Where (trkR t ++ [I z]) = some [I (whereP t z)] := by
 have he := mf_track_Where_eq l_track_Where_4 (t.pieces.map pceR) t.length t.start t.dirs.x t.dirs.y t.dirs.z z
 unfold m_track_Where
 refine Eq.trans he ?_
 unfold whereP
 rw [List.length_map]
 by_cases c : z = t.start
 ·rw [if_pos c, bif_true (by simp [c])]
 ·rw [if_neg c, bif_false (by simp [c])]
  rcases l_Where h hz t.pieces.length 0 (by omega) with ⟨h1, h2⟩ | h2
  ·rw [List.drop_zero] at h1
   have h2' : l_track_Where_4 [I z, .view kPce (t.pieces.map pceR), I t.pieces.length, I 0] = some (2, []) := h2
   generalize l_track_Where_4 = N at *
   rw [h1]
   simp only [h2', go_sem]
   rfl
  ·rw [List.drop_zero] at h2
   have h2' : l_track_Where_4 [I z, .view kPce (t.pieces.map pceR), I t.pieces.length, I 0] = some (1, [I (wF z t.pieces)]) := h2
   generalize l_track_Where_4 = N at *
   simp only [h2', go_sem]
end Go.Bm
/- the law TrackWhere, over the models -/
set_option maxRecDepth 100000
namespace Go.Bm
open Classical

theorem ite_ok {α : Type} {c : Prop} {inst : Decidable c} {A B R : α} (h1 : c -> A = R) (h2 : ¬ c -> B = R) : (if c then A else B) = R := by
 by_cases h : c
 ·rw [if_pos h]; exact h1 h
 ·rw [if_neg h]; exact h2 h
theorem dec_beq_false {P : Prop} [inst : Decidable P] : ((decide P == false) = true) = ¬ P := by by_cases h : P <;> simp [h]
theorem where_facts {x : Ax3} {mv : Int} {Q : Int -> Pt -> Prop} {t : Trk} {e : Int} {d : Pt} (hv : mv = 1 \/ mv = -1) (h : TC x mv Q t e d) (ht : TQ t) (z : Int) :
  (whereP t z >= 0 ↔ (min t.start (placeP t t.length) <= z /\ z <= max t.start (placeP t t.length))) /\ -1 <= whereP t z /\ whereP t z <= t.length /\ (whereP t z >= 0 -> placeP t (whereP t z) = z) /\ (whereP t z > 0 -> placeP t (whereP t z - 1) ≠ z) := by
 obtain ⟨h1, h2, h3, -⟩ := h
 have hl := ht.len
 have hcl : ∀ u, 0 <= u -> u <= t.length -> clT t u = u := by intro u g1 g2; unfold clT clampP; omega
 have hE : placeP t t.length = endQ t.start t.pieces := by
  by_cases c : t.pieces = []
  ·unfold placeP; rw [if_pos c, c]; rfl
  ·rw [place_plL ht _ c, hcl _ (by omega) (by omega), <- h2, plL_end h1 c]
 have h0 : placeP t 0 = t.start := by
  by_cases c : t.pieces = []
  ·unfold placeP; rw [if_pos c]
  ·rw [place_plL ht _ c, hcl _ (by omega) (by omega)]
   cases hh : t.pieces with
   | nil => exact absurd hh c
   | cons k l =>
    rw [hh] at h1
    obtain ⟨g1, g2, g3, -⟩ := h1
    unfold plL
    rw [if_pos (by omega), g1, g2]; simp
 have hw := wF_spec hv z h1
 have hah := end_ahead hv h1
 rw [hE]
 unfold whereP
 by_cases c : z = t.start
 ·rw [if_pos c, h0]
  rw [h2] at *
  exact ⟨⟨fun _ => by omega, fun _ => by omega⟩, by omega, by omega, fun _ => c.symm, fun g => by omega⟩
 ·rw [if_neg c]
  obtain ⟨w1, w2, w3⟩ := hw
  rw [h2] at w3
  by_cases c1 : mv * (z - t.start) < 0
  ·rw [w1 c1]
   exact ⟨⟨fun g => by omega, fun g => by rcases hv with rfl | rfl <;> omega⟩, by omega, by omega, fun g => by omega, fun g => by omega⟩
  ·by_cases c2 : 0 < mv * (z - endQ t.start t.pieces)
   ·rw [w2 c2]
    exact ⟨⟨fun g => by omega, fun g => by rcases hv with rfl | rfl <;> omega⟩, by omega, by omega, fun g => by omega, fun g => by omega⟩
   ·obtain ⟨k1, k2, k3, k4⟩ := w3 (by rcases hv with rfl | rfl <;> omega) (by omega)
    have hne : t.pieces ≠ [] := by
     intro e
     rw [e] at k1; unfold wF at k1; omega
    refine ⟨⟨fun _ => by rcases hv with rfl | rfl <;> omega, fun _ => by omega⟩, by omega, k2, fun _ => ?_, fun _ => ?_⟩
    ·rw [place_plL ht _ hne, hcl _ (by omega) k2]; exact k3
    ·rw [place_plL ht _ hne, hcl _ (by omega) (by omega)]
     have := k4 (wF z t.pieces - 1) (by omega) (by omega)
     intro g
     rw [g] at this; rcases hv with rfl | rfl <;> omega
theorem a_TrackWhere {MP MRP MH MM MN MW : List AC -> Option (List AC)} {l ax : List (List AC)} {dirs from_ to s n : Int} {p : Pth} {x : Ax3} {t : Trk} (hW : MW [] = some [B true])
  (hN : MN [.view kInts l, .view kInts ax, I dirs, I from_, I to] = some (pthR p ++ ax3R x ++ trkR t ++ [I n])) (hn : 0 <= n /\ n <= 900000000000000) (hl : 0 <= t.length /\ t.length <= 900000000000000) (hM : MM [I s, I (n + 1)] = some [I (s % (n + 1))])
  (hP : ∀ v, MP (trkR t ++ [I v]) = some [I (placeP t v)]) (hRP : ∀ v, MRP (trkR t ++ [I v]) = some [I (placeP t v)]) (hH : ∀ {z : Int}, i64 z -> MH (trkR t ++ [I z]) = some [I (whereP t z)]) (hs : i64 s)
  (hF : ∀ z, (whereP t z >= 0 ↔ (min t.start (placeP t t.length) <= z /\ z <= max t.start (placeP t t.length))) /\ -1 <= whereP t z /\ whereP t z <= t.length /\ (whereP t z >= 0 -> placeP t (whereP t z) = z) /\ (whereP t z > 0 -> placeP t (whereP t z - 1) ≠ z)) :
  mf_cnclaw29_TrackWhere MP MRP MH MM MN MW [.view kInts l, .view kInts ax, I dirs, I from_, I to, I s] = some [B true] := by
 have hm : i64 (s % (n + 1)) := by
  have := Int.emod_nonneg s (show n + 1 ≠ 0 by omega)
  have := Int.emod_lt_of_pos s (show 0 < n + 1 by omega)
  unfold i64; omega
 have u1 := hH hs
 have u2 := hH hm
 have f1 := hF s
 have f2 := hF (s % (n + 1))
 rw [mf_cnclaw29_TrackWhere_eq]
 simp only [trkR, ax3R, pthR, List.cons_append, List.nil_append] at *
 simp only [go_sem, hW, hN, wrap_id (x := n + 1) (by omega), hM, hP, hRP, u1, u2, mn_eq, mx_eq, wrap_id (x := whereP t s - 1) (by omega), wrap_id (x := whereP t (s % (n + 1)) - 1) (by omega)]
 generalize s % (n + 1) = z at *
 generalize whereP t s = a at *
 generalize whereP t z = b at *
 generalize placeP t t.length = e at *
 generalize placeP t a = p1 at *
 generalize placeP t b = p2 at *
 generalize placeP t (a - 1) = p3 at *
 generalize placeP t (b - 1) = p4 at *
 clear u1 u2 hM hN hP hRP hH hF hW
 simp only [not_true, if_false, dec_beq_false]
 (repeat' (refine ite_ok ?_ ?_ <;> intro _)) <;> first | rfl | (exfalso; omega)
theorem s_TrackWhere {l ax : List (List AC)} (hl : Src l) (ha : Src ax) {dirs from_ to s : Int} (h2 : i64 dirs) (h3 : i64 from_) (h4 : i64 to) (h5 : i64 s) :
  m_cnclaw29_TrackWhere [.view kInts l, .view kInts ax, I dirs, I from_, I to, I s] = some [B true] := by
 obtain ⟨p, x, d, a, b, hr, hp, hx, hd⟩ := s_run hl ha h2 h3 h4
 have ht := legP_TQ d a b hx.ok hp
 have hn := sum_path hp
 obtain ⟨d', hc, -, -⟩ := legP_chain (d := d) (a := a) (b := b) (Q := fun _ _ => True) hx.ok hp (fun _ _ _ _ _ _ _ _ => trivial)
 exact a_TrackWhere m_cnclaw29_awake_eq hr (by omega) ht.len (s_cncmill_Mod h5 (by omega)) (s_Place ht) (s_refPlace ht) (fun hz => s_Where ht hz) h5 (where_facts (mvP_or p a b) hc ht)
end Go.Bm
/- what a law's arguments are known to be -/
set_option maxRecDepth 100000
namespace Go.Bm

theorem okR_int {r : List AC} (h : okR kInts r) : i64 (intOf (nth .dead r 0)) := by
 match r, h with
 | [], h => exact h.elim
 | a :: _, h => exact okC_int h.1
theorem okR_src {r : List AC} (h : okR [Kd.sl kInts] r) : Src (rowsOf (nth .dead r 0)) := by
 match r, h with
 | [], h => exact h.elim
 | a :: _, h =>
  have h1 := h.1
  unfold okC at h1
  refine ⟨?_, fun c hc => okR_int (h1.2 c hc).1⟩
  have h2 := h1.1
  simp only [maxLen] at h2
  show (rowsOf a).length <= _
  omega
end Go.Bm
