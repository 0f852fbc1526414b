/- laid together -/
import Derived.Test.YtdllaekpkcanbaaGreatPrAtR
import Derived.Test.YtdllaekpkcanbaaGreatPrI3
import Derived.Test.YtdllaekpkcanbaaGreatPrRate0
set_option linter.unusedVariables false
set_option linter.unusedSimpArgs false
/- which paths are valid: the program and the reference agree -/
set_option maxRecDepth 100000
namespace Go.Bm
open Classical

theorem box_shape (x y z : Int) : (bif decide (x < -16777216) then some [B false] else bif decide (x > 16777216) then some [B false] else bif decide (y < -16777216) then some [B false] else bif decide (y > 16777216) then some [B false] else bif decide (z < -16777216) then some [B false] else bif decide (z > 16777216) then some [B false] else some [B true]) = some [B (decide (bd B24 ⟨x, y, z⟩))] := by
 by_cases h : bd B24 ⟨x, y, z⟩
 ·obtain ⟨h1, h2, h3⟩ := id h
  unfold B24 at h1 h2 h3
  simp only at h1 h2 h3
  rw [bif_neg (by omega), bif_neg (by omega), bif_neg (by omega), bif_neg (by omega), bif_neg (by omega), bif_neg (by omega), decide_eq_true h]
 ·rw [decide_eq_false h]
  unfold bd B24 at h
  simp only at h
  by_cases c1 : x < -16777216
  ·rw [bif_pos c1]
  by_cases c2 : x > 16777216
  ·rw [bif_neg c1, bif_pos c2]
  by_cases c3 : y < -16777216
  ·rw [bif_neg c1, bif_neg c2, bif_pos c3]
  by_cases c4 : y > 16777216
  ·rw [bif_neg c1, bif_neg c2, bif_neg c3, bif_pos c4]
  by_cases c5 : z < -16777216
  ·rw [bif_neg c1, bif_neg c2, bif_neg c3, bif_neg c4, bif_pos c5]
  by_cases c6 : z > 16777216
  ·rw [bif_neg c1, bif_neg c2, bif_neg c3, bif_neg c4, bif_neg c5, bif_pos c6]
  omega
theorem s_path_inside (p : Pt) : m_path_inside [I p.x, I p.y, I p.z] = some [B (decide (bd B24 p))] := by
 unfold m_path_inside
 rw [mf_path_inside_eq]
 exact box_shape p.x p.y p.z
theorem s_ref_inside (p : Pt) : m_cncref25_inside [I p.x, I p.y, I p.z] = some [B (decide (bd B24 p))] := by
 unfold m_cncref25_inside
 rw [mf_cncref25_inside_eq]
 exact box_shape p.x p.y p.z
def segOne (item : Int) (a : Pt) (g : Sgm) : Prop := bd B24 g.to /\ g.to ≠ a /\ g.len = lenP a g.to /\ item <= g.item /\ (0 <= g.feed /\ g.feed <= 16777216) /\ (0 <= g.lead /\ g.lead <= 16777216)
def segsOK (item : Int) (a : Pt) : List Sgm -> Prop
 | [] => True
 | g :: l => segOne item a g /\ segsOK g.item g.to l
def markOne (last n : Int) (m : Mrk) : Prop := last <= m.at_ /\ m.at_ <= n /\ (1 <= m.kind /\ m.kind <= 6) /\ 0 <= m.item
def marksOK (last n : Int) : List Mrk -> Prop
 | [] => True
 | m :: l => markOne last n m /\ marksOK m.at_ n l
def validP (p : Pth) : Prop := bd B24 p.start /\ segsOK 0 p.start p.segs /\ marksOK 0 (sumLen p.segs) p.marks
theorem seg_shape {α : Type} {item : Int} {a : Pt} {g : Sgm} {F T : α} :
  (if ¬ bd B24 g.to then F else if g.to.x = a.x /\ g.to.y = a.y /\ g.to.z = a.z /\ True then F else if g.len ≠ lenP a g.to then F else if g.item < item then F else if g.feed < 0 then F else if g.feed > 16777216 then F else if g.lead < 0 then F else if g.lead > 16777216 then F else T) = if segOne item a g then T else F := by
 by_cases c : segOne item a g
 ·obtain ⟨h1, h2, h3, h4, h5, h6⟩ := id c
  rw [if_pos c, if_neg (fun h => h h1), if_neg (fun h => h2 (pt_ext.2 ⟨h.1, h.2.1, h.2.2.1⟩)), if_neg (fun h => h h3), if_neg (by omega), if_neg (by omega), if_neg (by omega), if_neg (by omega), if_neg (by omega)]
 ·rw [if_neg c]
  by_cases c1 : bd B24 g.to
  case neg => rw [if_pos c1]
  rw [if_neg (fun h => h c1)]
  by_cases c2 : g.to = a
  ·have := pt_ext.1 c2
   rw [if_pos ⟨this.1, this.2.1, this.2.2, trivial⟩]
  rw [if_neg (fun h => c2 (pt_ext.2 ⟨h.1, h.2.1, h.2.2.1⟩))]
  by_cases c3 : g.len = lenP a g.to
  case neg => rw [if_pos c3]
  rw [if_neg (fun h => h c3)]
  by_cases c4 : g.item < item
  ·rw [if_pos c4]
  rw [if_neg c4]
  by_cases c5 : g.feed < 0
  ·rw [if_pos c5]
  rw [if_neg c5]
  by_cases c6 : g.feed > 16777216
  ·rw [if_pos c6]
  rw [if_neg c6]
  by_cases c7 : g.lead < 0
  ·rw [if_pos c7]
  rw [if_neg c7]
  by_cases c8 : g.lead > 16777216
  ·rw [if_pos c8]
  exact absurd ⟨c1, c2, c3, by omega, by omega, by omega⟩ c
theorem mark_shape {α : Type} {last n : Int} {m : Mrk} {F T : α} :
  (if m.at_ < last then F else if m.at_ > n then F else if m.kind < 1 then F else if m.kind > 6 then F else if m.item < 0 then F else T) = if markOne last n m then T else F := by
 by_cases c : markOne last n m
 ·obtain ⟨h1, h2, h3, h4⟩ := id c
  rw [if_pos c, if_neg (by omega), if_neg (by omega), if_neg (by omega), if_neg (by omega), if_neg (by omega)]
 ·rw [if_neg c]
  by_cases c1 : m.at_ < last
  ·rw [if_pos c1]
  rw [if_neg c1]
  by_cases c2 : m.at_ > n
  ·rw [if_pos c2]
  rw [if_neg c2]
  by_cases c3 : m.kind < 1
  ·rw [if_pos c3]
  rw [if_neg c3]
  by_cases c4 : m.kind > 6
  ·rw [if_pos c4]
  rw [if_neg c4]
  by_cases c5 : m.item < 0
  ·rw [if_pos c5]
  exact absurd ⟨by omega, by omega, by omega, by omega⟩ c
theorem len24 {a b : Pt} (ha : bd B24 a) (hb : bd B24 b) : 0 <= lenP a b /\ lenP a b <= 268435456 := len_bd (bd_mono ha (by decide)) (bd_mono hb (by decide))
theorem segsOK_len {item : Int} {a : Pt} {l : List Sgm} (ha : bd B24 a) (h : segsOK item a l) : ∀ g ∈ l, 1 <= g.len /\ g.len <= 268435456 /\ bd B26 g.to := by
 induction l generalizing a item with
 | nil => simp
 | cons k l ih =>
  obtain ⟨⟨h1, h2, h3, -⟩, h4⟩ := h
  intro g hg
  rcases List.mem_cons.1 hg with rfl | hg
  ·have := len_pos (bd_mono ha (show B24 <= B26 by decide)) (bd_mono h1 (show B24 <= B26 by decide)) h2
   rw [h3]
   exact ⟨this.1, this.2, bd_mono h1 (by decide)⟩
  ·exact ih h1 h4 g hg
theorem row_sg {l : List Sgm} {i : Nat} (h : i < l.length) : nth [] (l.map sgmR) i = sgmR l[i] := nth_map _ _ _ _ h
theorem row_mk {l : List Mrk} {i : Nat} (h : i < l.length) : nth [] (l.map mrkR) i = mrkR l[i] := nth_map _ _ _ _ h

theorem l_pv5 {ML MI : List AC -> Option (List AC)} {p : Pth} (hI : ∀ q : Pt, MI [I q.x, I q.y, I q.z] = some [B (decide (bd B24 q))]) (hL : ∀ {a b : Pt}, bd B24 a -> bd B24 b -> ML [I a.x, I a.y, I a.z, I b.x, I b.y, I b.z] = some [I (lenP a b)]) (hc : p.segs.length <= 983055) :
  ∀ (k i : Nat) (item v : Int) (a : Pt), i + k = p.segs.length -> bd B24 a -> 0 <= v -> v + k * 268435456 <= 4000000000000000000 ->
  loopC (st_path_Valid_5 ML MI) [I item, I v, .view kSgm (p.segs.map sgmR), I p.segs.length, I i, I p.start.x, I p.start.y, I p.start.z, .view kSgm (p.segs.map sgmR), .view kMrk (p.marks.map mrkR), I a.x, I a.y, I a.z] =
   some (if segsOK item a (p.segs.drop i) then (2, [I (v + sumLen (p.segs.drop i)), I p.start.x, I p.start.y, I p.start.z, .view kSgm (p.segs.map sgmR), .view kMrk (p.marks.map mrkR)]) else (1, [B false]))
 | 0, i, item, v, a, hi, ha, _, _ => by
  rw [List.drop_of_length_le (by omega), if_pos (show segsOK item a [] from trivial)]
  refine loop_end ?_ (by simp)
  rw [st_path_Valid_5_eq, bif_neg (by omega)]
  simp [sumLen]
 | k + 1, i, item, v, a, hi, ha, hv0, hv1 => by
  have hlt : i < p.segs.length := by omega
  have hr := row_sg hlt
  rw [getElem_take_drop p.segs i hlt]
  have hin : (0 : Int) <= (i : Int) /\ (i : Int) < (p.segs.length : Int) := by omega
  generalize p.segs[i] = g at *
  have hst : bd B24 g.to -> st_path_Valid_5 ML MI [I item, I v, .view kSgm (p.segs.map sgmR), I p.segs.length, I i, I p.start.x, I p.start.y, I p.start.z, .view kSgm (p.segs.map sgmR), .view kMrk (p.marks.map mrkR), I a.x, I a.y, I a.z] =
    if segOne item a g then some (0, [I g.item, I (IntKind.i64.wrap (v + g.len)), .view kSgm (p.segs.map sgmR), I p.segs.length, I (i + 1 : Nat), I p.start.x, I p.start.y, I p.start.z, .view kSgm (p.segs.map sgmR), .view kMrk (p.marks.map mrkR), I g.to.x, I g.to.y, I g.to.z]) else some (1, [B false]) := by
   intro hg
   have hl := hL ha hg
   rw [st_path_Valid_5_eq]
   simp only [go_sem, List.length_map, Int.toNat_natCast, hr, if_pos hin, hI, hl]
   rw [if_pos (by omega), wrap_id (x := (i : Int) + 1) (by omega)]
   exact seg_shape
  by_cases hg : bd B24 g.to
  ·have hst := hst hg
   by_cases c : segOne item a g
   ·rw [if_pos c] at hst
    have hgl := len24 ha hg
    have hlen := c.2.2.1
    rw [loop_more hst, wrap_id (by omega)]
    have := l_pv5 hI hL hc k (i + 1) g.item (v + g.len) g.to (by omega) hg (by omega) (by omega)
    rw [this]
    by_cases c2 : segsOK g.item g.to (p.segs.drop (i + 1))
    ·rw [if_pos c2, if_pos (show segsOK item a (g :: _) from ⟨c, c2⟩)]
     simp only [sumLen, Int.add_assoc]
    ·rw [if_neg c2, if_neg (fun h : segsOK item a (g :: _) => c2 h.2)]
   ·rw [if_neg c] at hst
    rw [loop_end hst (by simp), if_neg (fun h : segsOK item a (g :: _) => c h.1)]
  ·rw [if_neg (fun h : segsOK item a (g :: _) => hg h.1.1)]
   refine loop_end ?_ (by simp)
   rw [st_path_Valid_5_eq]
   simp only [go_sem, List.length_map, Int.toNat_natCast, hr, if_pos hin, hI]
   rw [if_pos (by omega), if_pos hg]
theorem l_pv15 {ML MI : List AC -> Option (List AC)} {N : List AC -> Option (Nat × List AC)} {l : List Mrk} {n : Int} (hc : l.length <= 1000000) : ∀ (k i : Nat) (last : Int), i + k = l.length ->
  loopC (st_path_Valid_15 ML MI N) [I n, I last, .view kMrk (l.map mrkR), I l.length, I i] = some (if marksOK last n (l.drop i) then (2, []) else (1, [B false]))
 | 0, i, last, hi => by
  rw [List.drop_of_length_le (by omega), if_pos (show marksOK last n [] from trivial)]
  refine loop_end ?_ (by simp)
  rw [st_path_Valid_15_eq, bif_neg (by omega)]
 | k + 1, i, last, hi => by
  have hlt : i < l.length := by omega
  have hr := row_mk hlt
  rw [getElem_take_drop l i hlt]
  have hin : (0 : Int) <= (i : Int) /\ (i : Int) < (l.length : Int) := by omega
  generalize l[i] = m at *
  have hst : st_path_Valid_15 ML MI N [I n, I last, .view kMrk (l.map mrkR), I l.length, I i] = if markOne last n m then some (0, [I n, I m.at_, .view kMrk (l.map mrkR), I l.length, I (i + 1 : Nat)]) else some (1, [B false]) := by
   rw [st_path_Valid_15_eq]
   simp only [go_sem, List.length_map, Int.toNat_natCast, hr, if_pos hin]
   rw [if_pos (by omega), wrap_id (x := (i : Int) + 1) (by omega)]
   exact mark_shape
  by_cases c : markOne last n m
  ·rw [if_pos c] at hst
   rw [loop_more hst, l_pv15 hc k (i + 1) m.at_ (by omega)]
   by_cases c2 : marksOK m.at_ n (l.drop (i + 1))
   ·rw [if_pos c2, if_pos (show marksOK last n (m :: _) from ⟨c, c2⟩)]
   ·rw [if_neg c2, if_neg (fun h : marksOK last n (m :: _) => c2 h.2)]
  ·rw [if_neg c] at hst
   rw [loop_end hst (by simp), if_neg (fun h : marksOK last n (m :: _) => c h.1)]
theorem a_path_Valid {ML MI : List AC -> Option (List AC)} {N5 N15 : List AC -> Option (Nat × List AC)} {p : Pth} (hc : p.segs.length <= 983055) (hm : p.marks.length <= 80000) (hI : ∀ q : Pt, MI [I q.x, I q.y, I q.z] = some [B (decide (bd B24 q))])
  (h5 : bd B24 p.start -> N5 [I 0, I 0, .view kSgm (p.segs.map sgmR), I p.segs.length, I 0, I p.start.x, I p.start.y, I p.start.z, .view kSgm (p.segs.map sgmR), .view kMrk (p.marks.map mrkR), I p.start.x, I p.start.y, I p.start.z] =
   some (if segsOK 0 p.start p.segs then (2, [I (sumLen p.segs), I p.start.x, I p.start.y, I p.start.z, .view kSgm (p.segs.map sgmR), .view kMrk (p.marks.map mrkR)]) else (1, [B false])))
  (h15 : N15 [I (sumLen p.segs), I 0, .view kMrk (p.marks.map mrkR), I p.marks.length, I 0] = some (if marksOK 0 (sumLen p.segs) p.marks then (2, []) else (1, [B false]))) :
  mf_path_Valid ML MI N5 N15 (pthR p) = some [B (decide (validP p))] := by
 rw [mf_path_Valid_eq]
 simp only [go_sem, List.length_map, hI]
 rw [if_neg (by omega), if_neg (by omega)]
 by_cases c1 : bd B24 p.start
 case neg => rw [if_pos c1, decide_eq_false (fun h : validP p => c1 h.1)]
 rw [if_neg (fun h => h c1), h5 c1]
 by_cases c2 : segsOK 0 p.start p.segs
 case neg =>
  rw [if_neg c2, decide_eq_false (fun h : validP p => c2 h.2.1)]
  simp only [go_sem]
 rw [if_pos c2]
 simp only [go_sem, List.length_map, h15]
 rw [if_neg (by decide)]
 by_cases c3 : marksOK 0 (sumLen p.segs) p.marks
 ·rw [if_pos c3, decide_eq_true (show validP p from ⟨c1, c2, c3⟩)]
  simp
 ·rw [if_neg c3, decide_eq_false (fun h : validP p => c3 h.2.2)]
  simp only [go_sem]
theorem s_path_Valid {p : Pth} (hc : p.segs.length <= 983055) (hm : p.marks.length <= 80000) : m_path_Valid (pthR p) = some [B (decide (validP p))] := by
 refine a_path_Valid (ML := m_curve_Length) (MI := m_path_inside) (N5 := l_path_Valid_5) (N15 := l_path_Valid_15) hc hm s_path_inside (fun h => ?_) ?_
 ·have := l_pv5 (p := p) s_path_inside (fun ha hb => s_curve_Length (bd_mono ha (by decide)) (bd_mono hb (by decide))) hc p.segs.length 0 0 0 p.start (by omega) h (by omega) (by omega)
  rw [List.drop_zero, Int.zero_add] at this
  exact this
 ·have := l_pv15 (ML := m_curve_Length) (MI := m_path_inside) (N := l_path_Valid_5) (n := sumLen p.segs) (l := p.marks) (by omega) p.marks.length 0 0 (by omega)
  rw [List.drop_zero] at this
  exact this

theorem l_rv5 {MN ML MI : List AC -> Option (List AC)} {p : Pth} (hI : ∀ q : Pt, MI [I q.x, I q.y, I q.z] = some [B (decide (bd B24 q))]) (hL : ∀ {a b : Pt}, bd B24 a -> bd B24 b -> ML [I a.x, I a.y, I a.z, I b.x, I b.y, I b.z] = some [I (lenP a b)]) (hc : p.segs.length <= 983055) :
  ∀ (k i : Nat) (item : Int) (a : Pt), i + k = p.segs.length -> bd B24 a ->
  loopC (st_cncref25_Valid_5 MN ML MI) [I item, .view kSgm (p.segs.map sgmR), I p.segs.length, I i, I p.start.x, I p.start.y, I p.start.z, .view kSgm (p.segs.map sgmR), .view kMrk (p.marks.map mrkR), I a.x, I a.y, I a.z] =
   some (if segsOK item a (p.segs.drop i) then (2, [I p.start.x, I p.start.y, I p.start.z, .view kSgm (p.segs.map sgmR), .view kMrk (p.marks.map mrkR)]) else (1, [B false]))
 | 0, i, item, a, hi, ha => by
  rw [List.drop_of_length_le (by omega), if_pos (show segsOK item a [] from trivial)]
  refine loop_end ?_ (by simp)
  rw [st_cncref25_Valid_5_eq, bif_neg (by omega)]
 | k + 1, i, item, a, hi, ha => by
  have hlt : i < p.segs.length := by omega
  have hr := row_sg hlt
  rw [getElem_take_drop p.segs i hlt]
  have hin : (0 : Int) <= (i : Int) /\ (i : Int) < (p.segs.length : Int) := by omega
  generalize p.segs[i] = g at *
  by_cases hg : bd B24 g.to
  ·have hst : st_cncref25_Valid_5 MN ML MI [I item, .view kSgm (p.segs.map sgmR), I p.segs.length, I i, I p.start.x, I p.start.y, I p.start.z, .view kSgm (p.segs.map sgmR), .view kMrk (p.marks.map mrkR), I a.x, I a.y, I a.z] =
     if segOne item a g then some (0, [I g.item, .view kSgm (p.segs.map sgmR), I p.segs.length, I (i + 1 : Nat), I p.start.x, I p.start.y, I p.start.z, .view kSgm (p.segs.map sgmR), .view kMrk (p.marks.map mrkR), I g.to.x, I g.to.y, I g.to.z]) else some (1, [B false]) := by
    have hl := hL ha hg
    rw [st_cncref25_Valid_5_eq]
    simp only [go_sem, List.length_map, Int.toNat_natCast, hr, if_pos hin, hI, hl]
    rw [if_pos (by omega), wrap_id (x := (i : Int) + 1) (by omega)]
    exact seg_shape
   by_cases c : segOne item a g
   ·rw [if_pos c] at hst
    rw [loop_more hst, l_rv5 hI hL hc k (i + 1) g.item g.to (by omega) hg]
    by_cases c2 : segsOK g.item g.to (p.segs.drop (i + 1))
    ·rw [if_pos c2, if_pos (show segsOK item a (g :: _) from ⟨c, c2⟩)]
    ·rw [if_neg c2, if_neg (fun h : segsOK item a (g :: _) => c2 h.2)]
   ·rw [if_neg c] at hst
    rw [loop_end hst (by simp), if_neg (fun h : segsOK item a (g :: _) => c h.1)]
  ·rw [if_neg (fun h : segsOK item a (g :: _) => hg h.1.1)]
   refine loop_end ?_ (by simp)
   rw [st_cncref25_Valid_5_eq]
   simp only [go_sem, List.length_map, Int.toNat_natCast, hr, if_pos hin, hI]
   rw [if_pos (by omega), if_pos hg]
theorem l_rv13 {MN ML MI : List AC -> Option (List AC)} {N : List AC -> Option (Nat × List AC)} {l : List Mrk} {n : Int} (hc : l.length <= 1000000) : ∀ (k i : Nat) (last : Int), i + k = l.length ->
  loopC (st_cncref25_Valid_13 MN ML MI N) [I last, I n, .view kMrk (l.map mrkR), I l.length, I i] = some (if marksOK last n (l.drop i) then (2, []) else (1, [B false]))
 | 0, i, last, hi => by
  rw [List.drop_of_length_le (by omega), if_pos (show marksOK last n [] from trivial)]
  refine loop_end ?_ (by simp)
  rw [st_cncref25_Valid_13_eq, bif_neg (by omega)]
 | k + 1, i, last, hi => by
  have hlt : i < l.length := by omega
  have hr := row_mk hlt
  rw [getElem_take_drop l i hlt]
  have hin : (0 : Int) <= (i : Int) /\ (i : Int) < (l.length : Int) := by omega
  generalize l[i] = m at *
  have hst : st_cncref25_Valid_13 MN ML MI N [I last, I n, .view kMrk (l.map mrkR), I l.length, I i] = if markOne last n m then some (0, [I m.at_, I n, .view kMrk (l.map mrkR), I l.length, I (i + 1 : Nat)]) else some (1, [B false]) := by
   rw [st_cncref25_Valid_13_eq]
   simp only [go_sem, List.length_map, Int.toNat_natCast, hr, if_pos hin]
   rw [if_pos (by omega), wrap_id (x := (i : Int) + 1) (by omega)]
   exact mark_shape
  by_cases c : markOne last n m
  ·rw [if_pos c] at hst
   rw [loop_more hst, l_rv13 hc k (i + 1) m.at_ (by omega)]
   by_cases c2 : marksOK m.at_ n (l.drop (i + 1))
   ·rw [if_pos c2, if_pos (show marksOK last n (m :: _) from ⟨c, c2⟩)]
   ·rw [if_neg c2, if_neg (fun h : marksOK last n (m :: _) => c2 h.2)]
  ·rw [if_neg c] at hst
   rw [loop_end hst (by simp), if_neg (fun h : marksOK last n (m :: _) => c h.1)]
theorem a_ref_Valid {MN ML MI : List AC -> Option (List AC)} {N5 N13 : List AC -> Option (Nat × List AC)} {p : Pth} (hc : p.segs.length <= 983055) (hm : p.marks.length <= 80000) (hI : ∀ q : Pt, MI [I q.x, I q.y, I q.z] = some [B (decide (bd B24 q))])
  (h5 : bd B24 p.start -> N5 [I 0, .view kSgm (p.segs.map sgmR), I p.segs.length, I 0, I p.start.x, I p.start.y, I p.start.z, .view kSgm (p.segs.map sgmR), .view kMrk (p.marks.map mrkR), I p.start.x, I p.start.y, I p.start.z] =
   some (if segsOK 0 p.start p.segs then (2, [I p.start.x, I p.start.y, I p.start.z, .view kSgm (p.segs.map sgmR), .view kMrk (p.marks.map mrkR)]) else (1, [B false])))
  (hS : bd B24 p.start -> segsOK 0 p.start p.segs -> MN (pthR p) = some [I (sumLen p.segs)])
  (h13 : N13 [I 0, I (sumLen p.segs), .view kMrk (p.marks.map mrkR), I p.marks.length, I 0] = some (if marksOK 0 (sumLen p.segs) p.marks then (2, []) else (1, [B false]))) :
  mf_cncref25_Valid MN ML MI N5 N13 (pthR p) = some [B (decide (validP p))] := by
 rw [mf_cncref25_Valid_eq]
 simp only [go_sem, List.length_map, hI]
 rw [if_neg (by omega), if_neg (by omega)]
 by_cases c1 : bd B24 p.start
 case neg => rw [if_pos c1, decide_eq_false (fun h : validP p => c1 h.1)]
 rw [if_neg (fun h => h c1), h5 c1]
 by_cases c2 : segsOK 0 p.start p.segs
 case neg =>
  rw [if_neg c2, decide_eq_false (fun h : validP p => c2 h.2.1)]
  simp only [go_sem]
 have hs := hS c1 c2
 simp only [pthR] at hs
 rw [if_pos c2]
 simp only [go_sem, List.length_map, hs, h13]
 rw [if_neg (by decide)]
 by_cases c3 : marksOK 0 (sumLen p.segs) p.marks
 ·rw [if_pos c3, decide_eq_true (show validP p from ⟨c1, c2, c3⟩)]
  simp
 ·rw [if_neg c3, decide_eq_false (fun h : validP p => c3 h.2.2)]
  simp only [go_sem]
theorem s_ref_Valid {p : Pth} (hc : p.segs.length <= 983055) (hm : p.marks.length <= 80000) : m_cncref25_Valid (pthR p) = some [B (decide (validP p))] := by
 refine a_ref_Valid (MN := m_cncref25_Length) (ML := m_cncref23_Length) (MI := m_cncref25_inside) (N5 := l_cncref25_Valid_5) (N13 := l_cncref25_Valid_13) hc hm s_ref_inside (fun h => ?_) (fun h1 h2 => s_ref_Length ⟨segsOK_len h1 h2, hc⟩) ?_
 ·have := l_rv5 (MN := m_cncref25_Length) (p := p) s_ref_inside (fun ha hb => (s_cncref23_Length (bd_mono ha (by decide)) (bd_mono hb (by decide))).1) hc p.segs.length 0 0 p.start (by omega) h
  rw [List.drop_zero] at this
  exact this
 ·have := l_rv13 (MN := m_cncref25_Length) (ML := m_cncref23_Length) (MI := m_cncref25_inside) (N := l_cncref25_Valid_5) (n := sumLen p.segs) (l := p.marks) (by omega) p.marks.length 0 0 (by omega)
  rw [List.drop_zero] at this
  exact this
end Go.Bm
/- what the maker makes can be drawn -/
set_option maxRecDepth 100000
namespace Go.Bm

theorem rot_cases (r k : Int) : (rotU r k = r /\ rotW r k = 0) \/ (rotU r k = 0 /\ rotW r k = r) \/ (rotU r k = -r /\ rotW r k = 0) \/ (rotU r k = 0 /\ rotW r k = -r) := by
 have hc : k % 4 = 0 \/ k % 4 = 1 \/ k % 4 = 2 \/ k % 4 = 3 := by omega
 unfold rotU rotW
 rcases hc with h | h | h | h <;> simp [h]
theorem rot_sq (r k : Int) : sq2 (rotU r k) (rotW r k) = r * r := by
 unfold sq2
 rcases rot_cases r k with ⟨h1, h2⟩ | ⟨h1, h2⟩ | ⟨h1, h2⟩ | ⟨h1, h2⟩ <;> rw [h1, h2] <;> grind
theorem rot_turn {p q k t : Int} (ht : t = 1 \/ t = 2 \/ t = 3) (hp : 0 < p) (hq : 0 < q) : crs (rotU p k) (rotW p k) (rotU q (k + t)) (rotW q (k + t)) ≠ 0 \/ dt2 (rotU p k) (rotW p k) (rotU q (k + t)) (rotW q (k + t)) < 0 := by
 have hc : k % 4 = 0 \/ k % 4 = 1 \/ k % 4 = 2 \/ k % 4 = 3 := by omega
 have hpq : 0 < p * q := Int.mul_pos hp hq
 have hm : -p * q = -(p * q) /\ p * -q = -(p * q) /\ -p * -q = p * q := ⟨Int.neg_mul .., Int.mul_neg .., Int.neg_mul_neg ..⟩
 have e : ∀ j : Int, (k + t) % 4 = j -> ∀ i : Int, k % 4 = i -> crs (rotU p k) (rotW p k) (rotU q (k + t)) (rotW q (k + t)) = (if i = 0 then p else if i = 2 then -p else 0) * (if j = 1 then q else if j = 3 then -q else 0) - (if i = 1 then p else if i = 3 then -p else 0) * (if j = 0 then q else if j = 2 then -q else 0) /\
   dt2 (rotU p k) (rotW p k) (rotU q (k + t)) (rotW q (k + t)) = (if i = 0 then p else if i = 2 then -p else 0) * (if j = 0 then q else if j = 2 then -q else 0) + (if i = 1 then p else if i = 3 then -p else 0) * (if j = 1 then q else if j = 3 then -q else 0) := by
  intro j hj i hi
  subst hj hi
  exact ⟨rfl, rfl⟩
 rcases ht with rfl | rfl | rfl <;> rcases hc with h1 | h1 | h1 | h1
 ·obtain ⟨e1, e2⟩ := e 1 (by omega) _ h1
  simp at e1 e2; omega
 ·obtain ⟨e1, e2⟩ := e 2 (by omega) _ h1
  simp at e1 e2; omega
 ·obtain ⟨e1, e2⟩ := e 3 (by omega) _ h1
  simp at e1 e2; omega
 ·obtain ⟨e1, e2⟩ := e 0 (by omega) _ h1
  simp at e1 e2; omega
 ·obtain ⟨e1, e2⟩ := e 2 (by omega) _ h1
  simp at e1 e2; omega
 ·obtain ⟨e1, e2⟩ := e 3 (by omega) _ h1
  simp at e1 e2; omega
 ·obtain ⟨e1, e2⟩ := e 0 (by omega) _ h1
  simp at e1 e2; omega
 ·obtain ⟨e1, e2⟩ := e 1 (by omega) _ h1
  simp at e1 e2; omega
 ·obtain ⟨e1, e2⟩ := e 3 (by omega) _ h1
  simp at e1 e2; omega
 ·obtain ⟨e1, e2⟩ := e 0 (by omega) _ h1
  simp at e1 e2; omega
 ·obtain ⟨e1, e2⟩ := e 1 (by omega) _ h1
  simp at e1 e2; omega
 ·obtain ⟨e1, e2⟩ := e 2 (by omega) _ h1
  simp at e1 e2; omega
theorem arc_turn {size : Int} {it : Itm} (h : ArcMade size it) : turnOK it := by
 obtain ⟨r, k, t, g, x, h1, h2, h3, h4, h5, h6, h7, h8, h9, h10, h11, h12, h13⟩ := h.ends
 have hp := h.plane
 have a1 : dU it it.fr = rotU r k := by unfold dU; rw [h12, (pl_sp hp).1]; omega
 have a2 : dW it it.fr = rotW r k := by unfold dW; rw [h12, (pl_sp hp).2.1]; omega
 have a3 : dU it it.to = rotU (r + g) (k + t) := by unfold dU; rw [h12, h13, (pl_sp hp).1, (pl_sp hp).1]; omega
 have a4 : dW it it.to = rotW (r + g) (k + t) := by unfold dW; rw [h12, h13, (pl_sp hp).2.1, (pl_sp hp).2.1]; omega
 have q1 : qA it = r * r := by unfold qA; rw [a1, a2, rot_sq]
 have q2 : qB it = (r + g) * (r + g) := by unfold qB; rw [a3, a4, rot_sq]
 have m1 : 64 <= r * r := by
  have := Int.mul_le_mul h1 h1 (by omega) (by omega)
  omega
 have m2 : 64 <= (r + g) * (r + g) := by
  have := Int.mul_le_mul (show (8 : Int) <= r + g by omega) (show (8 : Int) <= r + g by omega) (by omega) (by omega)
  omega
 unfold turnOK
 refine ⟨by omega, by omega, ?_, ?_, ?_⟩
 ·rw [q1, q2]
  unfold nearQ
  right
  have hg : g * g <= 16 := by
   have := Int.mul_le_mul h8 h8 h7 (by omega)
   omega
  have e1 : r * r + (r + g) * (r + g) - 16 = 2 * (r * (r + g)) + (g * g - 16) := by grind
  have hpos : 0 <= r * (r + g) := Int.mul_nonneg (by omega) (by omega)
  have hge : 64 <= r * (r + g) := by
   have := Int.mul_le_mul h1 (show (8 : Int) <= r + g by omega) (by omega) (by omega)
   omega
  have hgg : 0 <= g * g := Int.mul_nonneg h7 h7
  have e2 : 4 * (r * r) * ((r + g) * (r + g)) = (2 * (r * (r + g))) * (2 * (r * (r + g))) := by grind
  rw [e1, e2]
  generalize 2 * (r * (r + g)) = m at *
  exact Int.mul_self_le_mul_self (by omega) (by omega)
 ·intro hf
  rw [h11] at hf
  have ht := of_decide_eq_true hf
  rw [a1, a2, a3, a4, ht, h10 ht, Int.add_zero, Int.add_zero]
  exact ⟨rfl, rfl⟩
 ·intro hf
  rw [h11] at hf
  have ht := of_decide_eq_false hf
  unfold cAB dAB
  rw [a1, a2, a3, a4]
  exact rot_turn (by omega) (by omega) (by omega)
theorem made_valid {it : Itm} (h : Made it) (h1 : bd 1000000 it.fr) (h2 : bd 1000000 it.to) : validI it := by
 refine ⟨h.kind, bd_mono h1 (by omega), bd_mono h2 (by omega), fun h3 => ?_⟩
 have ha := h.arc h3
 exact ⟨ha.plane, ha.dir, bd_mono (arc_bd ha (by omega) h1).2 (by omega), arc_turn ha⟩

end Go.Bm
/- the maker's lists of items of all kinds -/
set_option maxRecDepth 100000
namespace Go.Bm
open Classical

structure Oth (it : Itm) : Prop where
 kind : 7 <= it.kind /\ it.kind <= 14
 spin : it.kind = 8 -> 3 <= it.n /\ it.n <= 5 /\ 0 <= it.speed /\ it.speed <= 4000
 dwell : it.kind = 7 -> 0 <= it.n /\ it.n <= 4
 out : it.kind = 10 -> 0 <= it.n /\ it.n <= 15
def Link : Pt -> List Itm -> Prop
 | _, [] => True
 | p, it :: l => if motI it then it.fr = p /\ Link it.to l else Link p l
structure Items (A : Nat) (p : Pt) (l : List Itm) : Prop where
 link : Link p l
 made : ∀ it ∈ l, (motI it /\ Made it /\ blank it /\ bd A it.fr /\ bd A it.to) \/ Oth it
theorem oth_mot {it : Itm} (h : Oth it) : ¬ motI it := fun g => by have := h.kind; have := g.2; omega

theorem link_chk {A : Nat} {items : List Itm} (hA : A <= 1000000) (hm : ∀ it ∈ items, (motI it /\ Made it /\ blank it /\ bd A it.fr /\ bd A it.to) \/ Oth it) : ∀ (k i : Nat) (last : Int) (p : Pt), i + k = items.length -> Link p (items.drop i) -> (0 <= last -> (itA items last.toNat).to = p) -> chkF items k i last = 0
 | 0, _, _, _, _, _, _ => rfl
 | k + 1, i, last, p, hi, h, hp => by
  have hlt : i < items.length := by omega
  have hit := hm _ (itA_mem hlt)
  rw [drop_itA hlt] at h
  unfold Link at h
  unfold chkF
  have hw : ¬ wrongI (itA items i) := by
   rcases hit with ⟨h1, h2, h3, h4, h5⟩ | ho
   ·have hv := made_valid h2 (bd_mono h4 hA) (bd_mono h5 hA)
    have hf := h2.feed
    have hb := h2.blend
    have hk := h2.kind
    rintro (g | g | ⟨-, g | g | g | g⟩ | ⟨g, -⟩)
    ·omega
    ·omega
    ·exact g hv
    ·omega
    ·omega
    ·omega
    ·exact g h1
   ·have hk := ho.kind
    rintro (g | g | ⟨g, -⟩ | ⟨-, g1, g2⟩)
    ·omega
    ·omega
    ·exact oth_mot ho g
    ·have := ho.spin g1; omega
  rw [if_neg hw]
  by_cases c : motI (itA items i)
  ·rw [if_pos c] at h ⊢
   rw [if_neg (fun g => g.2 (by rw [hp g.1]; exact h.1.symm))]
   exact link_chk hA hm k (i + 1) i _ (by omega) h.2 (fun _ => by rw [Int.toNat_natCast])
  ·rw [if_neg c] at h ⊢
   exact link_chk hA hm k (i + 1) last p (by omega) h hp
theorem items_check {A : Nat} {p : Pt} {items : List Itm} (hA : A <= 1000000) (h : Items A p items) (hl : items.length <= 20000) : checkP items = 0 := by
 unfold checkP
 rw [if_neg (by omega)]
 exact link_chk hA h.made items.length 0 (-1) p (by omega) (by rw [List.drop_zero]; exact h.link) (fun h => by omega)
end Go.Bm
/- the path of items that the maker makes is valid -/
set_option maxRecDepth 100000
namespace Go.Bm
open Classical

structure okW (R : Nat) (s : Spk) : Prop where
 ok : okS s
 u : s.u.natAbs <= R
 w : s.w.natAbs <= R
 r : s.r <= R
theorem midS_okW {R : Nat} {a b : Spk} (ha : okW R a) (hb : okW R b) {dir : Int} (hd : dir = 1 \/ dir = -1) (full : Bool) : okW R (midS a b dir full) := by
 have hbd := midD_bd ha.ok hb.ok hd full
 have hr := hf_bd ha.ok.2.2.1 hb.ok.2.2.1
 have hrR : hf a.r b.r <= R := by have := ha.r; have := hb.r; unfold hf; omega
 refine ⟨midS_ok ha.ok hb.ok hd full, ?_, ?_, ?_⟩
 all_goals
  unfold midS midOf
  split
  ·simp
  ·rename_i h
   obtain ⟨⟨-, n1⟩, -, n2⟩ := near_S hbd.1 hbd.2 hr h
   simp only
   omega
theorem pcsL_okW {R : Nat} {dir : Int} (hd : dir = 1 \/ dir = -1) : ∀ (k : Nat) (full : Bool) {a b : Spk}, okW R a -> okW R b -> ∀ s ∈ pcsL dir k full a b, okW R s
 | 0, _, a, b, _, hb, s, hs => by simp [pcsL] at hs; subst hs; exact hb
 | k + 1, full, a, b, ha, hb, s, hs => by
  unfold pcsL at hs
  have hm := midS_okW ha hb hd full
  split at hs
  ·simp at hs; subst hs; exact hb
  ·rcases List.mem_append.1 hs with hs | hs
   ·exact pcsL_okW hd k false ha hm s hs
   ·exact pcsL_okW hd k false hm hb s hs
theorem endS_okW {it : Itm} {p : Pt} {c : Nat} (hce : bd 1048576 it.ce) (hp : bd 1048576 p) (h1 : (dU it p).natAbs <= c) (h2 : (dW it p).natAbs <= c) : okW (32 * c + 1) (endS it p) := by
 obtain ⟨g1, g2, g3, g4⟩ := endS_sq hce hp
 refine ⟨endS_ok hce hp, ?_, ?_, ?_⟩
 ·show (dU it p * 16).natAbs <= _; omega
 ·show (dW it p * 16).natAbs <= _; omega
 ·show midR _ <= _
  obtain ⟨n, hn⟩ := Int.eq_ofNat_of_zero_le g3
  have hle : n <= (32 * c) * (32 * c) := by
   have k1 := sq_bd (x := dU it p * 16) (A := 16 * c) (by omega)
   have k2 := sq_bd (x := dW it p * 16) (A := 16 * c) (by omega)
   have e : (32 * c) * (32 * c) = 4 * (16 * c * (16 * c)) := by grind
   unfold sq2 at hn
   generalize 16 * c * (16 * c) = m at *
   omega
  rw [hn] at g4 ⊢
  obtain ⟨r, -, r2, r3, -⟩ := s_cncref23_root (n := n) (by omega)
  rw [midR_of (isMid_nat r2 r3)]
  have : r <= 32 * c := Nat.mul_self_le_mul_self_iff.1 (Nat.le_trans r2 hle)
  split <;> omega
theorem chords_near {it : Itm} (h : Made it) (h1 : bd 40004 it.fr) (h2 : bd 40004 it.to) : ∀ p ∈ chordsP it, bd 1000000 p := by
 have hv := made_valid h (bd_mono h1 (by omega)) (bd_mono h2 (by omega))
 intro p hp
 unfold chordsP at hp
 by_cases h3 : it.kind = 3
 ·rw [if_pos h3] at hp
  obtain ⟨hpl, hd, hc, -⟩ := hv.2.2.2 h3
  have ha := h.arc h3
  obtain ⟨-, hce⟩ := arc_bd ha (by omega) h1
  obtain ⟨r, k, t, g, x, e1, e2, e3, e4, e5, e6, e7, e8, e9, e10, e11, e12, e13⟩ := ha.ends
  obtain ⟨⟨r1, r2⟩, r3, r4⟩ := rot_bd (r := r) (k := k) (by omega)
  obtain ⟨⟨r5, r6⟩, r7, r8⟩ := rot_bd (r := r + g) (k := k + t) (by omega)
  have a1 : (dU it it.fr).natAbs <= 20 /\ (dW it it.fr).natAbs <= 20 := by unfold dU dW; rw [e12, (pl_sp hpl).1, (pl_sp hpl).2.1]; omega
  have a2 : (dU it it.to).natAbs <= 20 /\ (dW it it.to).natAbs <= 20 := by unfold dU dW; rw [e12, e13, (pl_sp hpl).1, (pl_sp hpl).1, (pl_sp hpl).2.1, (pl_sp hpl).2.1]; omega
  have k1 := endS_okW hc hv.2.1 a1.1 a1.2
  have k2 := endS_okW hc hv.2.2.1 a2.1 a2.2
  simp only [List.mem_map] at hp
  obtain ⟨s, hs, rfl⟩ := hp
  -- the heights lie between those of the ends
  have hh : ∀ s ∈ spokesP it, s.h.natAbs <= 640064 := by
   have key : ∀ (k : Nat) (full : Bool) (a b : Spk), a.h.natAbs <= 640064 -> b.h.natAbs <= 640064 -> ∀ s ∈ pcsL it.dir k full a b, s.h.natAbs <= 640064 := by
    intro k
    induction k with
    | zero => intro full a b ha hb s hs; simp [pcsL] at hs; subst hs; exact hb
    | succ k ih =>
     intro full a b ha hb s hs
     have hm : (midS a b it.dir full).h.natAbs <= 640064 := by
      unfold midS midOf
      split
      ·simp
      ·show (hf a.h b.h).natAbs <= _
       unfold hf; omega
     unfold pcsL at hs
     split at hs
     ·simp at hs; subst hs; exact hb
     ·rcases List.mem_append.1 hs with hs | hs
      ·exact ih false _ _ ha hm s hs
      ·exact ih false _ _ hm hb s hs
   have f1 := (pl_bd (pl := it.plane) h1).2.2
   have f2 := (pl_bd (pl := it.plane) h2).2.2
   have b1 : (endS it it.fr).h.natAbs <= 640064 := by show (plH it.plane it.fr * 16).natAbs <= _; omega
   have b2 : (endS it it.to).h.natAbs <= 640064 := by show (plH it.plane it.to * 16).natAbs <= _; omega
   intro s hs
   rcases List.mem_cons.1 hs with rfl | hs
   ·exact b1
   ·exact key 16 _ _ _ b1 b2 s hs
  have hs1 : okW (32 * 20 + 1) s := by
   rcases List.mem_cons.1 hs with rfl | hs
   ·exact k1
   ·exact pcsL_okW hd 16 _ k1 k2 s hs
  have hs2 := hh s hs
  obtain ⟨c1, c2, -⟩ := pl_bd (pl := it.plane) (fine_bd hce)
  have u1 := hs1.u
  have u2 := hs1.w
  have : (8 : Int).toNat = 8 := rfl
  unfold chPt
  exact sp_bd (by omega) (by omega) (by omega)
 ·rw [if_neg h3] at hp
  simp at hp
  rcases hp with rfl | rfl
  ·exact bd_mono (fine_bd h1) (by decide)
  ·exact bd_mono (fine_bd h2) (by decide)
theorem points_24 {items : List Itm} {i : Nat} {frm : Int} (hi : i < items.length) (hm : motI (itA items i)) (hmade : ∀ it ∈ items, (motI it /\ Made it /\ blank it /\ bd 40004 it.fr /\ bd 40004 it.to) \/ Oth it) (hf : frmOK items i frm) (hall : ∀ k < items.length, motI (itA items k) -> drawn (itA items k)) :
  ∀ p ∈ pointsP items i frm, bd B24 p := by
 have hmk := hmade _ (itA_mem hi)
 have hd := hall i hi hm
 have hch : ∀ p ∈ chordsP (itA items i), bd B24 p := by
  rcases hmk with ⟨-, g1, -, g2, g3⟩ | g
  ·exact fun p hp => bd_mono (chords_near g1 g2 g3 p hp) (by decide)
  ·exact absurd hm (oth_mot g)
 intro p hp
 unfold pointsP at hp
 by_cases hs : smI (itA items i)
 ·rw [if_pos hs] at hp
  rcases List.mem_append.1 hp with hp | hp
  ·rcases List.mem_append.1 hp with hp | hp
   ·unfold headP at hp
    rcases hf with rfl | ⟨f, rfl, hf1, hf2⟩
    ·rw [if_neg (by omega)] at hp
     exact hch p (List.mem_of_mem_take hp)
    ·rw [if_pos (by omega)] at hp
     exact (joined_bd (by simpa using hf2) hd).1 p (List.mem_of_mem_drop hp)
   ·simp at hp; subst hp; exact center_bd hd.1.2.1 hd.1.2.2.1
  ·unfold tailP at hp
   by_cases h : 0 <= softK items i
   ·rw [if_pos h] at hp
    obtain ⟨k, hk, hk1, hk2⟩ := soft_get hall h
    rw [hk] at hp
    exact (joined_bd hd (by simpa using hk2)).1 p (List.mem_of_mem_take hp)
   ·rw [if_neg h] at hp
    exact hch p (List.mem_of_mem_drop hp)
 ·rw [if_neg hs] at hp
  exact hch p hp

def lastIt : Int -> List Sgm -> Int
 | k, [] => k
 | _, g :: l => lastIt g.item l
theorem segsOK_snoc {g : Sgm} : ∀ {l : List Sgm} {item : Int} {a : Pt}, segsOK item a l -> segOne (lastIt item l) (endOf a l) g -> segsOK item a (l ++ [g])
 | [], _, _, _, h => ⟨h, trivial⟩
 | _ :: _, _, _, h1, h => ⟨h1.1, segsOK_snoc h1.2 h⟩
theorem lastIt_snoc {g : Sgm} : ∀ {l : List Sgm} {item : Int}, lastIt item (l ++ [g]) = g.item
 | [], _ => rfl
 | _ :: l, _ => lastIt_snoc (l := l)
theorem fold_segs {start : Pt} {item feed lead : Int} (hf : 0 <= feed /\ feed <= 16777216) (hl : 0 <= lead /\ lead <= 16777216) : ∀ (pts : List Pt) (s : List Sgm × Int × Pt), (∀ p ∈ pts, bd B24 p) -> segsOK 0 start s.1 -> endOf start s.1 = s.2.2 -> lastIt 0 s.1 <= item ->
  segsOK 0 start (pts.foldl (addPt item feed lead) s).1 /\ lastIt 0 (pts.foldl (addPt item feed lead) s).1 <= item
 | [], s, _, h, _, h2 => ⟨h, h2⟩
 | q :: pts, s, hp, h, h1, h2 => by
  rw [List.foldl_cons]
  have hq := hp q (by simp)
  unfold addPt
  by_cases c : q = s.2.2
  ·rw [if_pos c]
   exact fold_segs hf hl pts s (fun p hp' => hp p (by simp [hp'])) h h1 h2
  ·rw [if_neg c]
   refine fold_segs hf hl pts _ (fun p hp' => hp p (by simp [hp'])) ?_ (endOf_snoc _ _ _) (by simp only [lastIt_snoc]; omega)
   exact segsOK_snoc h ⟨hq, by rw [h1]; exact c, by rw [h1], h2, hf, hl⟩
def lastAt : Int -> List Mrk -> Int
 | k, [] => k
 | _, m :: l => lastAt m.at_ l
theorem marksOK_snoc {m : Mrk} {n n' : Int} (hn : n <= n') : ∀ {l : List Mrk} {last : Int}, marksOK last n l -> markOne (lastAt last l) n' m -> marksOK last n' (l ++ [m])
 | [], _, _, h => ⟨h, trivial⟩
 | k :: l, _, ⟨⟨h1, h2, h3, h4⟩, h5⟩, h => ⟨⟨h1, by omega, h3, h4⟩, marksOK_snoc hn h5 h⟩
theorem lastAt_le {n : Int} : ∀ {l : List Mrk} {last : Int}, last <= n -> marksOK last n l -> lastAt last l <= n
 | [], _, h, _ => h
 | m :: l, _, _, ⟨h1, h2⟩ => lastAt_le (l := l) h1.2.1 h2
theorem near_pos_bd {a : Int} (h : 0 <= a /\ a <= 60000000) : 0 <= near (a * 4096) 60000 /\ near (a * 4096) 60000 <= 4096001 := by
 unfold near
 omega
theorem rate_ok {it : Itm} {speed : Int} (hf : it.kind = 1 \/ 1 <= it.feed /\ it.feed <= 60000000) (hs : 0 <= speed /\ speed <= 30000) : 0 <= rate it speed /\ rate it speed <= 16777216 := by
 unfold rate
 by_cases h1 : it.kind = 1
 ·rw [if_pos h1]; omega
 ·rw [if_neg h1]
  have hf2 : 0 <= it.feed /\ it.feed <= 60000000 := by omega
  have key : ∀ f : Int, 0 <= f -> 0 <= mx (near (mn f 60000000 * 4096) 60000) 1 /\ mx (near (mn f 60000000 * 4096) 60000) 1 <= 16777216 := by
   intro f hf
   have h := near_pos_bd (mn_bd hf)
   unfold mx
   split <;> omega
  split
  ·exact key _ (feed_bd hf2 hs).1
  ·exact key _ hf2.1
theorem lead_ok {it : Itm} (hf : syI it -> 0 <= it.feed /\ it.feed <= 60000000) : 0 <= leadI it /\ leadI it <= 16777216 := by
 unfold leadI
 split
 ·rename_i h
  have := hf h
  unfold mn; split <;> omega
 ·omega
structure VInv (i : Nat) (s : BSt) : Prop where
 begun : s.begun = true -> bd B24 s.start /\ segsOK 0 s.start s.segs /\ lastIt 0 s.segs <= i
 marks : marksOK 0 s.len s.marks
theorem kindK_ok (items : List Itm) (i : Nat) : 1 <= kindK items i /\ kindK items i <= 6 := by
 have hns : ∀ l : List Itm, nextSy l = 1 \/ nextSy l = 2 := by
  intro l
  induction l with
  | nil => right; rfl
  | cons it l ih =>
   unfold nextSy
   split
   ·split <;> simp
   ·exact ih
 unfold kindK
 rcases hns (items.drop (i + 1)) with h | h <;> rw [h] <;> split <;> (try split) <;> (try split) <;> omega
theorem otherK_ok (it : Itm) : 1 <= otherK it /\ otherK it <= 6 := by unfold otherK; split <;> (try split) <;> omega
theorem bStep_v {items : List Itm} {i : Nat} {s : BSt} (hi : i < items.length) (hright : ∀ j < items.length, ¬ wrongI (itA items j)) (hpts : motI (itA items i) -> ∀ p ∈ pointsP items i s.frm, bd B24 p) (hok : BOK items i s) (hin : BInv s) (h : VInv i s) : VInv (i + 1) (bStep items i s) := by
 have hall : ∀ k < items.length, motI (itA items k) -> drawn (itA items k) := fun k hk hm => (right_mot (hright k hk) hm).1
 unfold bStep
 by_cases hm : motI (itA items i)
 ·rw [if_pos hm]
  have hrm := right_mot (hright i hi) hm
  have hd := hrm.1
  have hr := rate_ok hrm.2 hok.speed
  have hl := lead_ok (it := itA items i) fun hs => by rcases hs with h | h <;> have := hrm.2 <;> omega
  have hpt := hpts hm
  obtain ⟨p1, p2⟩ := points_bd hd hok.frm hall
  have ha : bd 67108864 (if s.begun = true then s.at_ else fine (itA items i).fr) := by
   by_cases hb : s.begun = true
   ·rw [if_pos hb]; exact hok.at_ hb
   ·rw [if_neg hb]; exact bd_mono (fine_bd hd.1.2.1) (by decide)
  obtain ⟨-, a2, -, -⟩ := fold_bd (item := i) (feed := rate (itA items i) s.speed) (lead := leadI (itA items i)) (pointsP items i s.frm) (s.segs, s.len, if s.begun = true then s.at_ else fine (itA items i).fr) p1 ha hok.len.1
  refine ⟨fun _ => ?_, ?_⟩
  ·unfold motS
   by_cases hb : s.begun = true
   ·rw [if_pos hb, if_pos hb]
    obtain ⟨g1, g2, g3⟩ := h.begun hb
    obtain ⟨k1, k2⟩ := fold_segs (start := s.start) (item := i) hr hl (pointsP items i s.frm) (s.segs, s.len, s.at_) hpt g2 (hin.begun hb).2.2.1 g3
    exact ⟨g1, k1, by simp only; omega⟩
   ·rw [if_neg hb, if_neg hb]
    obtain ⟨g1, g2, g3⟩ := hin.empty (by simpa using hb)
    rw [g1]
    obtain ⟨k1, k2⟩ := fold_segs (start := fine (itA items i).fr) (item := i) hr hl (pointsP items i s.frm) ([], s.len, fine (itA items i).fr) hpt trivial rfl (by simp only [lastIt]; omega)
    exact ⟨bd_mono (fine_bd hd.1.2.1) (by decide), k1, by simp only; omega⟩
  ·have hla := lastAt_le hok.len.1 h.marks
   have hk := kindK_ok items i
   have : s.len <= (motS items i s).2.1 := a2
   exact marksOK_snoc this h.marks ⟨by simp only; omega, by simp only; omega, hk, by simp only; omega⟩
 ·rw [if_neg hm]
  refine ⟨fun hb => ?_, ?_⟩
  ·obtain ⟨g1, g2, g3⟩ := h.begun hb
   exact ⟨g1, g2, by simp only; omega⟩
  ·have hla := lastAt_le hok.len.1 h.marks
   have hk := otherK_ok (itA items i)
   exact marksOK_snoc (Int.le_refl _) h.marks ⟨by simp only; omega, by simp only; omega, hk, by simp only; omega⟩
theorem items_right {p : Pt} {items : List Itm} (h : Items 40004 p items) (hl : items.length <= 15) : ∀ j < items.length, ¬ wrongI (itA items j) := (check_right (items_check (by omega) h (by omega))).2
theorem buildN_v {p : Pt} {items : List Itm} (h : Items 40004 p items) (hl : items.length <= 15) : ∀ i, i <= items.length -> VInv i (buildN items i)
 | 0, _ => by rw [buildN]; exact ⟨fun h => (by cases h), trivial⟩
 | i + 1, hi => by
  have hright := items_right h hl
  have hok := buildN_ok hright i (by omega)
  rw [buildN]
  exact bStep_v (by omega) hright (fun hm => points_24 (by omega) hm h.made hok.frm fun k hk hm => (right_mot (hright k hk) hm).1) hok (buildN_inv hright i (by omega)) (buildN_v h hl i (by omega))
theorem path_valid {p : Pt} {items : List Itm} (h : Items 40004 p items) (hl : items.length <= 15) : validP (pathP items) := by
 have hright := items_right h hl
 have hv := buildN_v h hl items.length (Nat.le_refl _)
 have hin := buildN_inv hright items.length (Nat.le_refl _)
 have hs := sum_len hright
 unfold validP
 rw [hs]
 unfold pathP
 by_cases hb : (buildN items items.length).begun = true
 ·obtain ⟨g1, g2, -⟩ := hv.begun hb
  exact ⟨g1, g2, hv.marks⟩
 ·obtain ⟨g1, g2, g3⟩ := hin.empty (by simpa using hb)
  refine ⟨?_, ?_, hv.marks⟩
  ·simp only [g3]; unfold bd; simp
  ·simp only [g1]; trivial
theorem link_of_chain : ∀ {l : List Itm} {p : Pt}, (∀ it ∈ l, motI it) -> Chained p l -> Link p l
 | [], _, _, _ => trivial
 | it :: l, p, h, hc => by
  unfold Link
  rw [if_pos (h it (by simp))]
  exact ⟨hc.1, link_of_chain (fun i hi => h i (by simp [hi])) hc.2⟩
theorem motions_items {p : Pt} {l : List Itm} (h : Motions 40004 p l) : Items 40004 p l := by
 have hm : ∀ it ∈ l, motI it := fun it hi => by have := h.made it hi; exact ⟨by have := this.1.kind; omega, by have := this.2.2.1; omega⟩
 exact ⟨link_of_chain hm h.chain, fun it hi => .inl ⟨hm it hi, (h.made it hi).1, (h.made it hi).2.1, (h.made it hi).2.2.2⟩⟩
end Go.Bm
/- what is settled of a path, as the reference says; a path is the same as itself -/
set_option maxRecDepth 100000
namespace Go.Bm
open Classical

end Go.Bm
